/- Lemmas for the card. -/
import Derived.Test.YtnoegalemkbbbaaGreatDoorKs18
set_option linter.unusedVariables false
set_option linter.unusedSimpArgs false
set_option maxRecDepth 100000
set_option maxRecDepth 100000
namespace Go.Eng
open Go.RowKit
theorem u4: ∀ {ns:List A0} {ys:List Tf},ns.length=ys.length->Q7 ns ys=CN ns ys
 |[],[],_=>rfl
 |n::ns,y::ys,h=>by
  have:=u4 (ns:=ns) (ys:=ys) (by simpa using h)
  rw[CN,<-this];rfl
theorem Ar4{ns:List A0}{ys:List Tf}(h:ns.length=ys.length)(i:ns.Nodup):(CK (AV 2) (BQ ns) ((BQ ns).map λ n=>at' ys (BP ns n))).flat=(Tf.mk (AV 2) (LV (CN ns ys))).flat:=by
 unfold CK
 have h1:=Ab7 h i
 rw[u4 h]at h1
 have b:=gR (BQ ns) ((BQ ns).map λ n=>at' ys (BP ns n))
 rw[List.map_map]at b
 have e:(CN (BQ ns) ((BQ ns).map λ n=>at' ys (BP ns n))).map Tf.flat=(LV (CN ns ys)).map Tf.flat:=by rw[<-b,<-h1];rfl
 have j:len (CN (BQ ns) ((BQ ns).map λ n=>at' ys (BP ns n)))=len (LV (CN ns ys)):=by
  have:=congrArg List.length e
  rw[List.length_map,List.length_map]at this
  unfold len;omega
 rw[Tf.UR,Tf.UR,e,j]
theorem B5.pick {α β:Type}{M:Mem}{sz:Nat}{f:α->List Value}{hs:List AI}{xs:List (List α)}(h:B5 M sz f hs xs)(b:β->Int): ∀(l:List β),(∀n∈l,0<=b n/\b n<Eng.len hs)->B5 M sz f (l.map λ n=>at' hs (b n)) (l.map λ n=>at' xs (b n))
 |[],_=>trivial
 |n::l,hl=>⟨B5.at h (hl n (.head _)).1 (hl n (.head _)).2,B5.pick h b l λ m hm=>hl m (.tail _ hm)⟩
theorem u5{f:Tf}(h:f.B3)(ho:f.t.op=8):(f.ps.map λ x=>x.t.name).Nodup:=by
 unfold List.Nodup
 rw[List.pairwise_iff_getElem]
 intro i j hi b k
 rw[List.length_map]at hi b
 simp only[List.getElem_map]
 have l:=h.SF (f.ps.take j) f.ps[j] (f.ps.drop (j+1)) (by rw[<-List.drop_eq_getElem_cons b,List.take_append_drop])
 intro e
 refine l.d ho ?_
 rw[<-e]
 refine List.mem_map.2 ⟨f.ps[i],?_,rfl⟩
 rw[List.mem_take_iff_getElem]
 exact⟨i,Aa,rfl⟩
theorem gU{α β:Type}[Inhabited α](g:α->β){l:List α}{k:Nat}(h:k<l.length):(l.take (k+1)).map g=(l.take k).map g++[g (at' l (k:Int))]:=by
 rw[rW h,List.map_append];rfl
theorem Ar5{b:Tf->Int->Tf->PR Tf}{t x:Tf}{r:List Tf}{pl:Int}{seen:List (List Sp)}{ys:List Tf}(K:List Tf->PR Tf):
  ((M8 b t (x::r) pl seen).bind λ l _=>K (ys++l))=(b (x.named []) pl t).bind λ y _=>if seen.any (λ q=> !ID (D2 x.flat) q)=true then .er pl 3 else(M8 b t r (pl+x.size) (seen++[D2 x.flat])).bind λ l _=>K (ys++[y]++l):=by
 rw[M8,PR.assoc]
 refine PR.congr λ y i=>?_
 split
 ·rfl
 ·rw[PR.assoc]
  exact PR.congr λ l i=>by rw[PR.S8,List.append_assoc];rfl
theorem Ar6(t:Tf)(k:Nat):BU t k<=t.size:=by
 have:=(JM t k).2
 unfold len at this
 rw[Tf.D5]at this
 exact this
end Go.Eng
namespace Go.Proofs.YtnoegalemkbbbaaGreatDoor
open Go.Proofs.Tryz
open Go.Eng Go.RowKit
abbrev ZC(f:Tf)(l:List Tf):PR Tf:=.ok (if f.t.op=9 then .mk (AV 4) l else .mk (AV 2) (LV (CN (f.ps.map λ x=>x.t.name) l))) 0
set_option maxHeartbeats 1000000 in
theorem Ar7{n:Nat}(H:QO n)(f:Tf){w0 wv:World}{M0 M:Mem}{Rs:List HO}(i:Int)(v:Value)(u:AI)(t:Tf)(hfn:f.size<=n+1)(hg:f.B3)(hfs:AU f)(ho:f.t.op=8\/f.t.op=9)(hSt:St w0 M0 wv M Rs)(hgl:Gl w0)(hlf:(A6 v f.flat).ok M)(hlt:(A6 u.v t.flat).ok M)(ha:B8 t=true)(hs:AU t)(hsz:t.size*(1+hS f.ps)<=16777216)(hfb:f.size<=16777216)(hi0:0<=i)(hi1:i+2*f.size<=1099511627776):
    Calls prog 92 [v,i64 i,u.v].toArray wv (JS w0 M0 M Rs (QK (CO n) f i t)):=by
 have hfz:=DS f
 have hfe:=f.size_eq
 have hpn:((f.ps.length:Nat):Int)<=AB f.ps:=LZ f.ps
 have hfo:(at' f.flat 0).op=f.t.op:=by rw[f.CU];rfl
 have hImC: ∀x∈f.ps,OS (CO n) (x.named []):=λ x hx=>VP n _ (by rw[Tf.G2];have:=I8 hx;omega) ((hg.kids x hx).named []) ((hfs.kids x hx).named (by show len ([]:A0)<=_;decide))
 refine AH (Hr:=Rs) AF func92 U ntmps92 [(0,A6 v f.flat),(1,A6 u.v t.flat)] [] [.sl 0 v,I i,.sl 1 u.v] U hSt (AD hlf (AD hlt A3)) (λ B D=>Aa5 10 U λ mb=>AP [] (λ g:Value×List AI=>.sl 4 g.1) [4] (λ _=>[]) U U call77 U U (λ w M hS hF=>S1 hS (hF.get (k:=0) U) Aa) λ L hgg=>?_) U
 have hgl2:len L.2=(f.ps.length:Int):=hgg
 refine U6 7 7 61 1 BX E5 U <|bR 8 8 9 1 DV DO U <|bR 9 9 25 1 BX E5 U <|DW 20 (SY [] []) (λ w M s=>⟨Sl.nil M 1,DO,trivial⟩) <|DW 21 (FP [] (([]:List Tf).map Tf.flat)) (λ w M s=>⟨Sl.nil M 1,DO,trivial⟩) ?_
 refine B7 (σ:=Nat×Value×List AI×Value×Value×List AI×List Tf×List SV×Nat) (λ(k,sv,sh,F,N,gs,ys,T,V)=>⟨[(0,A6 v f.flat),(1,A6 u.v t.flat),(4,C9 L.1 L.2 (DL f)),(7,kn sv 1 sh BX),(20,SY sh ((f.ps.take k).map λ x=>D2 x.flat)),(21,FP gs (ys.map Tf.flat))],
   [(10,.ho (.raw mb (FB T V))),(7,.ho (.own 61 1 sv sh.length (sh.flatMap BX))),(8,QH F ((f.ps.take k).map λ x=>x.t.name)),(9,Go.Proofs.YtnoegalemkbbbaaGreatDoor.EA N gs)],
   [Z 0 (.sl 0 v),Z 1 (I i),Z 2 (.sl 1 u.v),Z 7 (.sl 7 sv),Z 8 (.sl 8 F),Z 9 (.sl 9 N),Z 10 (.v (.map (some mb))),Z 11 (I (BU f k)),Z 21 (.sl 4 L.1),Z 22 (I (len L.2)),Z 23 (I k)]⟩)
  (λ(k,sv,sh,F,N,gs,ys,T,V)=>k<=f.ps.length/\gs.length=k/\ys.length=k/\sh.length=k/\(QK (CO n) f i t=(M8 (CO n) t (f.ps.drop k) (i+BU f k) ((f.ps.take k).map λ x=>D2 x.flat)).bind λ r _=>ZC f (ys++r))/\(f.t.op=8->T=JB ((f.ps.take k).map λ x=>x.t.name) gs 0/\V=k))
  (λ(k,sv,sh,F,N,gs,ys,T,V)=>f.ps.length-k) (0,.slice none 0 0,[],.slice none 0 0,.slice none 0 0,[],[],[],0) U U ⟨Aa,rfl,rfl,rfl,rfl,λ _=>⟨rfl,rfl⟩⟩ ?_
 rintro⟨k,sv,sh,F,N,gs,ys,T,V⟩ ⟨hk,hgk,hyk,hsk,hq,hm8⟩
 refine A1 U (λ hb1=>?_) (λ hb1=>?_)<;>simp only[zb]at hb1
 ·have b:k<f.ps.length:=by omega
  obtain⟨x,hx⟩: ∃x,x=at' f.ps (k:Int):=⟨_,rfl⟩
  have O:x∈f.ps:=by rw[hx];exact NC b
  have hxz:=I8 O
  have hxg:=hg.kids x O
  have hxn:(x.named []).B3:=hxg.named []
  have hxs:AU (x.named []):=(hfs.kids x O).named (by show len ([]:A0)<=_;decide)
  have hxl:=DS (x.named [])
  rw[Tf.G2]at hxl
  have hpx:at' (DL f) (k:Int)=(x.named []).flat:=by
   rw[ND,MD (by rw[Z5];exact b),Am6 b,<-hx]
  have hst:=Q6 b
  rw[<-hx,DS x]at hst
  have hpk:=JM f k
  have hpk2:=Ar6 f (k+1)
  have hrt:=qE b
  have hnm:(at' f.flat (BU f k)).name=x.t.name:=by rw[hrt.1,hx]
  have hhx:hF (x.named [])<=hS f.ps:=by rw[IV];exact Z6 O
  have hsb:t.size*hF (x.named [])<=16777216:=Nat.le_trans (Nat.mul_le_mul_left _ Aa) hsz
  have hfk: ∀ {M:Mem},(C9 L.1 L.2 (DL f)).ok M->(A6 (at' L.2 (k:Int)).v (x.named []).flat).ok M:=λ h=>by
   have:=EN h (k:=(k:Int)) Aa Aa
   rw[hpx]at this;exact this
  have hqs:=gU (λ x:Tf=>D2 x.flat) b
  have A:=gU (λ x:Tf=>x.t.name) b
  rw[<-hx]at hqs A
  rw[ZA b,<-hx,Ar5 (ZC f),Int.add_assoc,<-hst]at hq
  rw[hq]at D
  refine EC [] [14] (λ _ (h:AI)=>.sl 14 h.v) (λ _ _ _=>[]) D U U call39 U U ((((List.Sublist.refl _).cons _).cons _).cons _|>.cons _) (λ w M hS hF=>H (x.named []) (i+BU f k) (at' L.2 (k:Int)).v u t (by rw[Tf.G2];omega) hxn hxs hS hgl (hfk (hF.get (k:=4) U)) (hF.get (k:=1) U) ha hs hsb Aa (by rw[Tf.G2];omega)) λ y j hy D C _=>?_
  refine AP [] (λ u:Value=>.sl 16 u) [16] (λ _=>[]) (Fg:=λ u=>[(0,kn u 3 (D2 x.flat) Sp.cells)]) (pu:=λ _=>True) U U call28 U U (hu:=λ _=>rfl) (hH:=λ _=>rfl) (λ w M hS hF=>by
   have:=rY (x.named []).flat.length (x.named []).flat (Nat.le_refl _) (Aq9 _ _ (Nat.le_refl _) hxn) hS (hfk (hF.get (k:=4) U)) Aa
   rw[Aq7]at this
   exact this) λ pv _=>?_
  have hsl:=gA x.flat
  refine RG 16 U λ a16 c16 e16=>?_
  obtain⟨ph,hph⟩: ∃ph:AI,pv=ph.v:=⟨⟨a16,_,c16⟩,e16⟩
  subst hph
  refine B9 15 U zeroValue61 U λ G=>AR (.v (T0 G)) U U (λ w M s=>PV.makeFunc (xs:=[]) (ys:=[.tmp 15]) (vs:=[]) (us:=[.pointer (some ⟨G,0,none⟩)]) trivial ⟨A7 (v:=.bx 15 G 0) (E:=[]) U,trivial⟩) <|AP [15] (λ _:Unit=>.v (.bool (((f.ps.take k).map λ x=>D2 x.flat).any λ q=> !ID (D2 x.flat) q))) [] (λ _=>[(15,.box G [.sl 16 ph.v] 61)]) (Fg:=λ _=>[]) (pu:=λ _=>True) U U call148 U U (λ w M hS hF=>Ar3 G ph.v sv (D2 x.flat) sh _ hS (hF.get (k:=16) U) (hF.get (k:=7) U) (hF.get (k:=20) U).more (by unfold len;omega)) λ _ _=>A1 U (λ l=>?_) (λ l=>?_)
  ·rw[if_pos l]at D
   exact EU [] U U call81 U U (λ w M hS hF=>FJ (i+BU f k) 3 hS) λ a w M hs hS hle=>DY _ (D.p ⟨M,rfl,hS.drop _ ((((List.Sublist.refl _).cons _).cons _).cons _|>.cons _|>.cons _),hle⟩ a hs)
  have hq2:QK (CO n) f i t=(M8 (CO n) t (f.ps.drop (k+1)) (i+BU f (k+1)) ((f.ps.take (k+1)).map λ x=>D2 x.flat)).bind λ r _=>ZC f (ys++[y]++r):=by
   rw[hq,hy,PR.S8,if_neg (by rw[l];decide),hqs]
  obtain⟨P,X⟩: ∃P,P=sset T V x.t.name C.v:=⟨_,rfl⟩
  obtain⟨Q,hmc2⟩: ∃Q,Q=OH T V x.t.name C.v:=⟨_,rfl⟩
  refine BH 17 [ph] BX 1 61 E5 U U Ah U λ v17=>F4 24 U U U underlying178 type61 U U O7 (by simp only[AL,len_nil];unfold len at*;omega) λ sv2=>BH 18 [(at' f.flat (BU f k)).name] DV 1 9 DO U U Ah U λ v18=>G9 16 U U U underlying103 type9 U U aA (by simp only[AL,len_nil];unfold len at*;rw[List.length_map,List.length_take];omega) λ nv2=>BH 19 [C] BX 1 25 E5 U U Ah U λ v19=>G9 24 U U U underlying53 type25 U U O7 (by simp only[AL,len_nil];unfold len at*;omega) λ lv2=>Aa6 false 10 P Q U U U U Ad U underlying179 underlying9 (by rw[X,hnm];rfl) (by rw[hmc2,hnm];rfl) <|DW 20 (SY (sh++[ph]) ((f.ps.take (k+1)).map λ x=>D2 x.flat)) (λ w M s=>⟨Sl.nil M 1,DO,by rw[hqs];exact B5.snoc (s.sl 16 U) (s.f.get (k:=20) U).more⟩) <|DW 21 (FP (gs++[C]) ((ys++[y]).map Tf.flat)) (λ w M s=>⟨Sl.nil M 1,DO,by rw[List.map_append];exact B5.snoc (s.sl 14 U) (s.f.get (k:=21) U).more⟩) <|AR (W:=.t) (I (len (x.named []).flat)) U U (λ w M s=>PV.MJ (hfk (s.f.get (k:=4) U)).sl (A7 (v:=.v (at' L.2 (k:Int)).v) (E:=[]) U) ⟨_,underlying23⟩) <|AX (k+1,sv2,sh++[ph],nv2,lv2,gs++[C],ys++[y],P,Q) U ?_ ⟨Aa,by simp[hgk],by simp[hyk],by simp[hsk],hq2,λ h8=>?_⟩ (by show f.ps.length-(k+1)<f.ps.length-k;omega)
  ·dsimp only
   rw[A,hst,<-hxl,<-hnm]
   rfl
  ·obtain⟨m1,m2⟩:=hm8 h8
   have R:((f.ps.take k).map λ x=>x.t.name).length=k:=by rw[List.length_map,List.length_take];omega
   have hni:x.t.name ∉ (f.ps.take k).map λ x=>x.t.name:=λ hm=>by
    have J:=u5 hg h8
    have e1:(f.ps.map λ x=>x.t.name)=((f.ps.take k).map λ x=>x.t.name)++(x.t.name::(f.ps.drop (k+1)).map λ x=>x.t.name):=by
     rw[hx,<-List.map_cons (f:=λ x:Tf=>x.t.name),<-List.map_append,<-ZA b,List.take_append_drop]
    rw[e1]at J
    exact(List.nodup_append.1 J).2.2 _ hm _ (.head _) U
   obtain⟨q1,q2⟩:=Ab5 (x:=C) (ns:=(f.ps.take k).map λ x=>x.t.name) (hs:=gs) (by rw[R,hgk]) hni
   rw[R]at q1 q2
   rw[X,hmc2,m1,m2,A]
   exact⟨q1,by rw[q2,List.length_append,R];rfl⟩
 have hke:k=f.ps.length:=by omega
 subst hke
 rw[List.drop_length,M8,PR.S8,List.append_nil]at hq
 have him:=tD hfs hImC hq ha hs
 have hys:AB ys<=16777216:=by
  have h1:=him.size
  split at h1
  ·rw[Tf.size]at h1;omega
  ·rw[Tf.size,VM (OI _),QM]at h1;omega
 rw[hq]at D
 unfold ZC at D
 rw[List.take_length]
 refine A1 U (λ l=>?_) (λ l=>?_)<;>simp only[zb]at l<;>rw[hfo]at l
 ·rw[if_pos l,show Tf.mk (AV 4) ys=CK (AV 4) [] ys by unfold CK;rw[VQ]]at D
  exact C6 9 U <|AP [] (λ h:AI=>.sl 30 h.v) [] (λ h=>[(30,ED h.v (CK (AV 4) [] ys).flat)]) U U call146 U U (λ w M hS hF=>L1 (AV 4) (.slice none 0 0) [] N gs ys hS (Sl.nil M 1) (hF.get (k:=9) U).sl (hF.get (k:=21) U).more hys) λ h10 _=>C6 30 U <|A2 D U U U λ w M' s=>⟨h10,M',rfl,trivial,s.le,s.B6 [] U,AD (s.f.get (k:=30) U) A3⟩
 have ho8:f.t.op=8:=by omega
 obtain⟨m1,m2⟩:=hm8 ho8
 rw[if_neg l]at D
 have J:=u5 hg ho8
 rw[List.take_length]at m1
 obtain⟨ns,A⟩: ∃ns,ns=f.ps.map λ x=>x.t.name:=⟨_,rfl⟩
 rw[<-A]at D J m1 ⊢
 have R:ns.length=f.ps.length:=by rw[A,List.length_map]
 have hsl:=Ab0 ns
 have hln:len ns=(f.ps.length:Int):=by unfold len;omega
 have hgl:ns.length=gs.length:=by omega
 refine AP [8] (λ _:Unit=>.tu []) [] (λ _=>[(8,QH F (BQ ns))]) (Fg:=λ _=>[]) (pu:=λ _=>True) (Hg:=λ _=>[SO F (BQ ns)]) U U call151 U U (λ w M hS hF=>Ac0 F ns hS Aa) λ _ _=>C6 8 U ?_
 refine B7 (σ:=Nat×List AI) (λ(j,z)=>⟨[(8,kn F 1 (BQ ns) DV),(21,FP gs (ys.map Tf.flat))],[(10,.ho (.raw mb (FB T V))),(9,Go.Proofs.YtnoegalemkbbbaaGreatDoor.EA N z)],[Z 8 (.sl 8 F),Z 9 (.sl 9 N),Z 10 (.v (.map (some mb))),Z 77 (.sl 8 F),Z 78 (I (len (BQ ns))),Z 79 (I j)]⟩)
  (λ(j,z)=>j<=(BQ ns).length/\z=((BQ ns).take j).map (λ n=>at' gs (BP ns n))++gs.drop j) (λ(j,z)=>(BQ ns).length-j) (0,gs) U U ⟨Aa,rfl⟩ ?_
 rintro⟨j,z⟩ ⟨hj,S⟩
 have hsl2:(BQ ns).length=f.ps.length:=by unfold len at hsl;omega
 have hh2l:z.length=gs.length:=by rw[S,List.length_append,List.length_map,List.length_take,List.length_drop];omega
 have hh2n:len z=(gs.length:Int):=by unfold len;omega
 refine A1 U (λ K=>?_) (λ K=>?_)<;>simp only[zb]at K
 ·have hj2:j<(BQ ns).length:=by unfold len at K;omega
  have hin:at' (BQ ns) (j:Int)∈ns:=fK.1 (by
   obtain⟨q1,q2⟩:=CE (BQ ns) (i:=(j:Int)) Aa (by unfold len;omega)
   rw[q2];exact List.getElem_mem _)
  refine Aa7 10 U U U U underlying179 underlying9 zeroValue25 (v:=(at' gs (BP ns (at' (BQ ns) (j:Int)))).v) (by rw[m1,qV ns gs 0 _ hgl,if_pos hin];rfl) <|I2 (at' gs (BP ns (at' (BQ ns) (j:Int)))) U U U sizeOf25 U U U Aa λ hs3 hhs3=>?_
  rw[Int.toNat_natCast]at hhs3
  exact AX (j+1,hs3) U U ⟨Aa,by
   have hjg:j<gs.length:=by omega
   rw[hhs3,S,gU (λ n=>at' gs (BP ns n)) hj2]
   have hl1:(((BQ ns).take j).map (λ n=>at' gs (BP ns n))).length=j:=by rw[List.length_map,List.length_take];omega
   rw[List.set_append_right _ _ Aa,hl1,Nat.sub_self,List.drop_eq_getElem_cons hjg,List.set_cons_zero,List.append_assoc];rfl⟩ (by show(BQ ns).length-(j+1)<(BQ ns).length-j;omega)
 rw[List.take_of_length_le (by unfold len at K;omega),List.drop_of_length_le (by unfold len at K;omega),List.append_nil]at S
 have hyl:ns.length=ys.length:=by omega
 have hpf:=Ar4 hyl J
 have hzs:AB ((BQ ns).map λ n=>at' ys (BP ns n))<=16777216:=by
  have h1:=congrArg List.length hpf
  unfold CK at h1
  rw[Tf.D5,Tf.D5,Tf.size,Tf.size,QM,VM (OI _),QM]at h1
  omega
 refine C6 9 U ?_
 refine AP [] (λ h:AI=>.sl 30 h.v) [] (λ h=>[(30,ED h.v (CK (AV 2) (BQ ns) ((BQ ns).map λ n=>at' ys (BP ns n))).flat)]) U U call146 U U (λ w M hS hF=>L1 (AV 2) F (BQ ns) N z _ hS (hF.get (k:=8) U).sl (hF.get (k:=9) U).sl (by
  have h2:B5 M 11 Tm.cells gs (ys.map Tf.flat):=(hF.get (k:=21) U).more
  have h3:=B5.pick h2 (BP ns) (BQ ns) (λ n hn=>by
   have:=qT (fK.1 hn)
   exact⟨this.1,by unfold len at*;omega⟩)
  rw[S,List.map_map]
  have e:((BQ ns).map λ n=>at' (ys.map Tf.flat) (BP ns n))=(BQ ns).map (Tf.flat ∘ λ n=>at' ys (BP ns n)):=List.map_congr_left λ n hn=>by
   obtain⟨a1,a2⟩:=OU (fK.1 hn)
   rw[a2]
   exact MD Aa
  rw[e]at h3
  exact h3) hzs) λ h10 _=>?_
 refine C6 30 U <|A2 D U U U λ w M' s=>⟨h10,M',rfl,trivial,s.le,s.B6 [] U,AD ?_ A3⟩
 rw[<-hpf]
 exact s.f.get (k:=30) U
theorem Ar8(x:Sp)(w:World):Calls prog 95 [.agg x.cells.toArray].toArray w λ e w'=>e= .returned (.bool x.part)/\Ext w w':=AH AF func95 U ntmps95 [] [] [.ag [.v (.bool x.part),.v (str x.name),I x.n]] U (BE w) A3 (λ B b=>BM 1 U U U λ i=>A2 b U U U λ w M h=>⟨rfl,h.st.low⟩) U
theorem Ar9(v:Value)(l:List Sp)(w:World)(M:Mem)(s:Sat w M)(hl:Sl M 3 l.length v (l.flatMap Sp.cells))(A:len l<=1099511627776):
    Calls prog 152 [v,.func (.func 95) #[] #[]].toArray w λ e w'=>(∃k:Int,e= .returned (i64 k)/\(0<=k↔l.any (λ x=>x.part)=true))/\Ext w w':=by
 have y:=A8 l
 refine AH (Hr:=[]) AF func152 U ntmps152 [(0,kn v 3 l Sp.cells)] [] [.sl 0 v,.v (.func (.func 95) #[] #[])] U (Aj s) (fc 0 hl Sp.AS A3) (λ B q=>B7 (σ:=Int) (λ k=>⟨[(0,kn v 3 l Sp.cells)],[],[Z 0 (.sl 0 v),Z 1 (.v (.func (.func 95) #[] #[])),Z 7 (I (len l)),Z 8 (I k)]⟩) (λ k=>0<=k/\k<=len l/\ ∀x∈Eng.sub l 0 k,x.part≠true) (λ k=>(len l-k).toNat) 0 rfl rfl ⟨Aa,Aa,λ x hx=>by cases hx⟩ ?_) U
 intro k ⟨h0,h1,i⟩
 refine A1 U (λ b=>?_) (λ b=>?_)<;>simp only[zb]at b
 ·refine AP [] (λ _:Unit=>.v (.bool (at' l k).part)) [] (λ _=>[]) (Fg:=λ _=>[]) (pu:=λ _=>True) U U call95 U U (λ w M hS hF=>(Ar8 (at' l k) w).mono λ e w' ⟨he,hx⟩=>⟨(),M,he,trivial,Mem.le.refl _,hS.ext hx,A3⟩) λ _ _=>A1 U (λ j=>?_) (λ j=>?_)
  ·exact A2 q U U U λ w M n=>⟨⟨k,rfl,λ _=>List.any_eq_true.2 ⟨at' l k,at_mem h0 b,j⟩,λ _=>h0⟩,n.st.low⟩
  ·exact AX (k+1) U U ⟨Aa,Aa,λ x hx=>by
    rw[G0 h0 b]at hx
    rcases List.mem_append.1 hx with hx|hx
    ·exact i x hx
    ·rw[List.mem_singleton.1 hx,j];decide⟩ Aa
 ·rw[GD Aa]at i
  exact A2 q U U U λ w M n=>⟨⟨-1,rfl,λ h=>by omega,λ h=>by
   obtain⟨x,hx,z⟩:=List.any_eq_true.1 h
   exact absurd z (i x hx)⟩,n.st.low⟩
theorem As0(v:Value)(l:List Sp)(w:World)(M:Mem)(i:Sat w M)(hl:Sl M 3 l.length v (l.flatMap Sp.cells))(j:len l<=1099511627776):
  Calls prog 94 [v,.func (.func 95) #[] #[]].toArray w λ e w'=>e= .returned (.bool (l.any λ x=>x.part))/\Ext w w':=by
 refine AH (Hr:=[]) AF func94 U ntmps94 [(0,kn v 3 l Sp.cells)] [] [.sl 0 v,.v (.func (.func 95) #[] #[])] U (Aj i) (fc 0 hl Sp.AS A3) (λ B n=>AP [] (λ k:Int=>I k) [] (λ _=>[]) (Fg:=λ _=>[]) (pu:=λ k=>0<=k↔l.any (λ x=>x.part)=true) U U call152 U U (λ w M hS hF=>(Ar9 v l w M hS.sat (hF.get (k:=0) U).sl j).mono λ e w' ⟨⟨k,he,b⟩,hx⟩=>⟨k,M,he,b,Mem.le.refl _,hS.ext hx,A3⟩) λ k b=>A2 n U U U λ w M q=>⟨?_,q.st.low⟩) U
 suffices h:decide (0<=k)=l.any (λ x=>x.part) by rw[<-h];rfl
 cases h:l.any (λ x=>x.part)with
 |true=>simpa using b.2 h
 |false=>rw[h]at b;simpa using b
set_option maxHeartbeats 1000000 in
theorem As1{n:Nat}(hn1:n+1<=16777216)(H:QO n):QO (n+1):=by
 intro f w0 wv M0 M Rs i v u t hfn hg hfs hSt F hlf hlt ha hs J hi0 hi1
 have hfz:=DS f
 have hfp:=f.size_pos
 have hfe:=f.size_eq
 have htz:=DS t
 have htp:=t.size_pos
 have hte:=t.size_eq
 have hhp:=KD f hg
 have htm:t.size<=16777216:=Nat.le_trans (Nat.le_mul_of_pos_right _ hhp) J
 have A:(at' f.flat 0).op=f.t.op:=by rw[f.CU];rfl
 have hto:(at' t.flat 0).op=t.t.op:=by rw[t.CU];rfl
 have V:(at' t.flat 0).n=t.t.n:=by rw[t.CU];rfl
 have hat0:at' f.flat 0=f.node:=f.CU
 have hkz: ∀x∈AQ f,x.B3/\AU x/\x.size<f.size:=λ x hx=>⟨(hg.EL hx).1,hfs.EL hx,(hg.EL hx).2⟩
 have hq0:CO (n+1) f i t=VJ (CO n) f i t:=rfl
 rw[hq0]
 refine AH (Hr:=Rs) AF func39 U ntmps39 [(0,A6 v f.flat),(1,A6 u.v t.flat)] [] [.sl 0 v,I i,.sl 1 u.v] U hSt (AD hlf (AD hlt A3)) (λ B l=>B9 2 U zeroValue48 U λ b7=>AP [] (λ g:Value×List AI=>.sl 3 g.1) [3] (λ _=>[]) U U call77 U U (λ w M hS hF=>S1 hS (hF.get (k:=0) U) Aa) λ C hgg=>?_) U
 have hgl2:len C.2=(f.ps.length:Int):=hgg
 have X: ∀ {M:Mem} {k:Nat},k<f.ps.length->(C9 C.1 C.2 (DL f)).ok M->(A6 (at' C.2 (k:Int)).v (at' (AQ f) (k:Int)).flat).ok M:=λ{M k} hk h=>by
  have:=EN h (k:=(k:Int)) Aa Aa
  rw[ND,MD (by rw[Z5];exact hk)]at this;exact this
 have hkm: ∀ {k:Nat},k<f.ps.length->at' (AQ f) (k:Int)∈AQ f:=λ hk=>NC (by rw[Z5];exact hk)
 unfold VJ at l
 refine A1 U (λ hb0=>?_) (λ hb0=>?_)<;>simp only[zb]at hb0<;>rw[A]at hb0
 ·rw[if_pos hb0]at l
  exact A2 l U U U λ w M' q=>⟨u,M',rfl,trivial,q.le,q.B6 [] U,AD (q.f.get (k:=1) U) A3⟩
 rw[if_neg hb0]at l
 refine A1 U (λ G=>?_) (λ G=>?_)<;>simp only[zb]at G<;>rw[A]at G
 ·rw[if_pos G]at l
  obtain⟨a,b,e⟩:=hg.two (.inl G)
  have hl2:f.ps.length=2:=by rw[e];rfl
  obtain⟨a1,a2,a3⟩:=hkz _ (hkm (k:=0) Aa)
  obtain⟨b1,b2,b3⟩:=hkz _ (hkm (k:=1) Aa)
  have ea:at' (AQ f) ((0:Nat):Int)=a.named []:=by unfold AQ;rw[e];rfl
  have eb:at' (AQ f) ((1:Nat):Int)=b.named []:=by unfold AQ;rw[e];rfl
  have hfs2:f.size=1+(a.size+b.size):=by rw[hfe,e,AB,AB,AB];omega
  have hh:hF f=hF a*hF b:=by rw[JD f,if_pos G,e,hP,hP,hP,Nat.mul_one]
  have hfa:=X (M:=M) (k:=0) Aa
  have hbp:=KD b (hg.kids b (by rw[e];simp))
  have hsa:t.size*hF (at' (AQ f) 0)<=16777216:=by
   have:at' (AQ f) 0=a.named []:=ea
   rw[this,IV]
   refine Nat.le_trans ?_ J
   rw[hh]
   exact Nat.mul_le_mul_left _ (Nat.le_mul_of_pos_right _ hbp)
  have hza:(at' (AQ f) 0).size=a.size:=by have:at' (AQ f) 0=a.named []:=ea;rw[this,Tf.G2]
  have hzb:(at' (AQ f) 1).size=b.size:=by have:at' (AQ f) 1=b.named []:=eb;rw[this,Tf.G2]
  have hzl:=DS (at' (AQ f) 0)
  have hap:=a.size_pos
  have hbp2:=b.size_pos
  have O: ∀ {M:Mem},(C9 C.1 C.2 (DL f)).ok M->(A6 (at' C.2 0).v (at' (AQ f) 0).flat).ok M:=λ h=>X (k:=0) Aa h
  have hk1: ∀ {M:Mem},(C9 C.1 C.2 (DL f)).ok M->(A6 (at' C.2 1).v (at' (AQ f) 1).flat).ok M:=λ h=>X (k:=1) Aa h
  refine D7 [8,16,17,18] 5 (λ _ _ _ _ _ h=>h) U BK U <|FZ 8 16 U U U ?_ ?_
  ·refine AR (W:=.t) (I (len (at' (AQ f) 0).flat)) U U (λ w M q=>PV.MJ (O (q.f.get (k:=3) U)).sl (A7 (v:=.v (at' C.2 0).v) (E:=[]) U) ⟨_,underlying23⟩) <|AE U <|AK 16 U U U <|EC [] [4] (λ _ (h:AI)=>.sl 4 h.v) (λ _ _ _=>[]) l U U call39 U U (List.sublist_cons_self _ _) (λ w M hS hF=>H (at' (AQ f) 0) (i+1) (at' C.2 0).v u t Aa a1 a2 hS F (O (hF.get (k:=3) U)) (hF.get (k:=1) U) ha hs hsa Aa Aa) λ y j hy l h4 _=>?_
   have Q:=VP n (at' (AQ f) 0) Aa a1 a2 _ _ _ _ hy ha hs
   have hsb:y.size*hF (at' (AQ f) 1)<=16777216:=by
    have e1:at' (AQ f) 1=b.named []:=eb
    have e0:at' (AQ f) 0=a.named []:=ea
    have h1:=Q.size
    rw[e0,IV]at h1
    rw[e1,IV]
    refine Nat.le_trans (Nat.mul_le_mul_right _ h1) ?_
    rw[Nat.mul_assoc,<-hh];exact J
   refine AE U <|AK 17 U U U ?_
   rw[<-PR.ret (CO n (at' (AQ f) 1) (i+1+(at' (AQ f) 0).size) y),<-hzl]at l
   exact EC [] [6] (λ _ (h:AI)=>.sl 6 h.v) (λ _ _ _=>[]) l U U call39 U U (List.sublist_cons_self _ _) (λ w M hS hF=>H (at' (AQ f) 1) (i+1+len (at' (AQ f) 0).flat) (at' C.2 1).v h4 y Aa b1 b2 hS F (hk1 (hF.get (k:=3) U)) (hF.get (k:=4) U) Q.ar Q.sh hsb Aa Aa) λ z k hz l R _=>AE U <|AK 18 U U U <|AE U <|BL U U U <|A2 l U U U λ w M' q=>⟨R,M',rfl,trivial,q.le,q.B6 [] U,AD (q.f.get (k:=6) U) A3⟩
  ·refine EC [] [4] (λ _ (h:AI)=>.sl 4 h.v) (λ _ _ _=>[]) l U U call39 U U (List.sublist_cons_self _ _) (λ w M hS hF=>H (at' (AQ f) 0) (i+1) (at' C.2 0).v u t Aa a1 a2 hS F (O (hF.get (k:=3) U)) (hF.get (k:=1) U) ha hs hsa Aa Aa) λ y j hy l h4 _=>?_
   have Q:=VP n (at' (AQ f) 0) Aa a1 a2 _ _ _ _ hy ha hs
   have hsb:y.size*hF (at' (AQ f) 1)<=16777216:=by
    have e1:at' (AQ f) 1=b.named []:=eb
    have e0:at' (AQ f) 0=a.named []:=ea
    have h1:=Q.size
    rw[e0,IV]at h1
    rw[e1,IV]
    refine Nat.le_trans (Nat.mul_le_mul_right _ h1) ?_
    rw[Nat.mul_assoc,<-hh];exact J
   refine AE U <|AK 8 U U U <|AR (W:=.t) (I (len (at' (AQ f) 0).flat)) U U (λ w M q=>PV.MJ (O (q.f.get (k:=3) U)).sl (A7 (v:=.v (at' C.2 0).v) (E:=[]) U) ⟨_,underlying23⟩) <|AE U <|AK 17 U U U ?_
   rw[<-PR.ret (CO n (at' (AQ f) 1) (i+1+(at' (AQ f) 0).size) y),<-hzl]at l
   exact EC [] [6] (λ _ (h:AI)=>.sl 6 h.v) (λ _ _ _=>[]) l U U call39 U U (List.sublist_cons_self _ _) (λ w M hS hF=>H (at' (AQ f) 1) (i+1+len (at' (AQ f) 0).flat) (at' C.2 1).v h4 y Aa b1 b2 hS F (hk1 (hF.get (k:=3) U)) (hF.get (k:=4) U) Q.ar Q.sh hsb Aa Aa) λ z k hz l R _=>AE U <|AK 18 U U U <|AE U <|BL U U U <|A2 l U U U λ w M' q=>⟨R,M',rfl,trivial,q.le,q.B6 [] U,AD (q.f.get (k:=6) U) A3⟩
 rw[if_neg G]at l
 refine A1 U (λ hb5=>?_) (λ hb5=>?_)<;>simp only[zb]at hb5<;>rw[A]at hb5
 ·rw[if_pos hb5]at l
  obtain⟨a,e⟩:=hg.one Aa
  have hl2:f.ps.length=1:=by rw[e];rfl
  obtain⟨a1,a2,a3⟩:=hkz _ (hkm (k:=0) Aa)
  have ea:at' (AQ f) 0=a.named []:=by unfold AQ;rw[e];rfl
  have hza:(at' (AQ f) 0).size=a.size:=by rw[ea,Tf.G2]
  have hfs2:f.size=1+a.size:=by rw[hfe,e,AB,AB];omega
  have hh:hF f=1+hF a:=by rw[JD f,if_neg G,if_neg Aa,e,hS,hS];rfl
  have hha:hF (at' (AQ f) 0)=hF a:=by rw[ea,IV]
  rw[hh]at J
  have O: ∀ {M:Mem},(C9 C.1 C.2 (DL f)).ok M->(A6 (at' C.2 0).v (at' (AQ f) 0).flat).ok M:=λ h=>X (k:=0) Aa h
  rw[<-PR.ret (HV (CO n) (at' (AQ f) 0) i t)]at l
  exact EC [] [6] (λ _ (h:AI)=>.sl 6 h.v) (λ _ _ _=>[]) l U U call89 U U (List.sublist_cons_self _ _) (λ w M hS hF=>Ap3 H (at' (AQ f) 0) i (at' C.2 0).v u t Aa a1 a2 hS F (O (hF.get (k:=3) U)) (hF.get (k:=1) U) ha hs (by rw[hha];exact J) Aa Aa Aa) λ y jj hy l R _=>A2 l U U U λ w M' q=>⟨R,M',rfl,trivial,q.le,q.B6 [] U,AD (q.f.get (k:=6) U) A3⟩
 rw[if_neg hb5]at l
 refine A1 U (λ hb6=>?_) (λ hb6=>?_)<;>simp only[zb]at hb6<;>rw[A]at hb6
 ·rw[if_pos hb6]at l
  obtain⟨a,e⟩:=hg.one Aa
  have hl2:f.ps.length=1:=by rw[e];rfl
  obtain⟨a1,a2,a3⟩:=hkz _ (hkm (k:=0) Aa)
  have ea:at' (AQ f) 0=a.named []:=by unfold AQ;rw[e];rfl
  have hza:(at' (AQ f) 0).size=a.size:=by rw[ea,Tf.G2]
  have hfs2:f.size=1+a.size:=by rw[hfe,e,AB,AB];omega
  have hh:hF f=1+hF a:=by rw[JD f,if_neg G,if_neg Aa,e,hS,hS];rfl
  have hha:hF (at' (AQ f) 0)=hF a:=by rw[ea,IV]
  rw[hh]at J
  have O: ∀ {M:Mem},(C9 C.1 C.2 (DL f)).ok M->(A6 (at' C.2 0).v (at' (AQ f) 0).flat).ok M:=λ h=>X (k:=0) Aa h
  refine BH 12 [(5:Int),3,4,2] SX 1 3 (λ _=>rfl) U U Ah U λ v12=>GB (.v (.bool false)) U U (λ S=>?_) (λ S=>?_)
  ·have hn0:t.t.n=0:=by rw[V]at S;simpa using S
   refine AJ U call90 U U (hE2:=N5 S λ c D=>by simpa using D) (λ _ w M q=>Ao8 [5,3,4,2] (at' t.flat 0).op v12 w M q.st.sat (q.f.get (k:=12) U)) U <|A1 U (λ D=>?_) (λ D=>?_)
   ·have K: ¬((at' t.flat 0).op∈([5,3,4,2]:List Int)):=λ h=>by
     have hn3:((at' t.flat 0).n != 0)=false:=by rw[V,hn0];rfl
     rw[decide_eq_true h,hn3]at D;exact absurd D Ab
    rw[hto]at K
    rw[if_neg (λ h=>K (by rcases h.2 with h|h|h|h<;>rw[h]<;>decide))]at l
    exact EU [] U U call81 U U (λ w M hS hF=>FJ i 1 hS) λ a w M hs hS hle=>DY _ (l.p ⟨M,rfl,hS.drop _ ((List.sublist_cons_self _ _).cons _),hle⟩ a hs)
   ·have K:(at' t.flat 0).op∈([5,3,4,2]:List Int):=Decidable.byContradiction λ h=>by
     have hn3:((at' t.flat 0).n != 0)=false:=by rw[V,hn0];rfl
     rw[decide_eq_false h,hn3]at D;exact absurd D Ab
    rw[hto]at K
    have hc3:t.t.op=5\/t.t.op=3\/t.t.op=4\/t.t.op=2:=by simpa using K
    rw[if_pos ⟨hn0,hc3⟩]at l
    rw[<-PR.ret (IU (CO n) (at' (AQ f) 0) (i+1) t)]at l
    refine EC [] [6] (λ _ (h:AI)=>.sl 6 h.v) (λ _ _ _=>[]) l U U call91 U U ((List.sublist_cons_self _ _).cons _) (λ w M hS hF=>ZB H (at' (AQ f) 0) (i+1) (at' C.2 0).v u t Aa a1 a2 hS F (O (hF.get (k:=3) U)) (hF.get (k:=1) U) ha hs Aa (by rw[hha];refine Nat.le_trans (Nat.mul_le_mul_left _ ?_) J;omega) Aa Aa) λ y jj hy l R _=>?_
    exact A2 l U U U λ w M' q=>⟨R,M',rfl,trivial,q.le,q.B6 [] U,AD (q.f.get (k:=6) U) A3⟩
  ·have hn1:t.t.n≠0:=λ h=>by rw[V,h]at S;exact absurd S Ab
   refine A1 U (λ D=>?_) (λ D=>?_)
   ·rw[if_neg (λ h=>hn1 h.1)]at l
    exact EU [] U U call81 U U (λ w M hS hF=>FJ i 1 hS) λ a w M hs hS hle=>DY _ (l.p ⟨M,rfl,hS.drop _ ((List.sublist_cons_self _ _).cons _),hle⟩ a hs)
   ·exact absurd D (by rw[V];simp[hn1])
 rw[if_neg hb6]at l
 refine A1 U (λ T=>?_) (λ T=>?_)<;>simp only[zb]at T<;>rw[A]at T
 ·rw[if_pos T]at l
  exact EU [] U U call81 U U (λ w M hS hF=>FJ i 4 hS) λ a w M hs hS hle=>DY _ (l.p ⟨M,rfl,hS.drop _ (List.sublist_cons_self _ _),hle⟩ a hs)
 rw[if_neg T]at l
 refine CQ 0 (λ s=> ∃b:Bool,(b=true↔f.t.op=8\/f.t.op=9)/\s=⟨[(0,A6 v f.flat),(1,A6 u.v t.flat)],[(2,.box b7 (E8 (at' f.flat 0).cells) 48)],[Z 0 (.sl 0 v),Z 1 (I i),Z 2 (.sl 1 u.v),Z 7 (.bx 2 b7 0),Z 17 (I (at' f.flat 0).op),Z 79 (.v (.bool b))]⟩) U U (λ L=>?_) (λ L=>?_) ?_<;>try simp only[zb]at L<;>rw[A]at L
 ·exact AT _ U U ⟨_,by rw[A];simp[L],rfl⟩
 ·exact AT _ U U ⟨_,by rw[A];simp[L],rfl⟩
 rintro s ⟨b,hb,rfl⟩
 refine A1 U (λ L=>?_) (λ L=>?_)
 ·have ho:=hb.1 L
  rw[if_pos ho]at l
  have hh:hF f=1+hS f.ps:=by rw[JD,if_neg G,if_neg T]
  rw[<-PR.ret (QK (CO n) f i t)]at l
  exact EC [] [6] (λ _ (h:AI)=>.sl 6 h.v) (λ _ _ _=>[]) l U U call92 U U (List.sublist_cons_self _ _) (λ w M hS hF=>Ar7 H f i v u t hfn hg hfs ho hS F (hF.get (k:=0) U) (hF.get (k:=1) U) ha hs (by rw[<-hh];exact J) Aa hi0 hi1) λ y jj hy l R _=>A2 l U U U λ w M' q=>⟨R,M',rfl,trivial,q.le,q.B6 [] U,AD (q.f.get (k:=6) U) A3⟩
 have ho89: ¬(f.t.op=8\/f.t.op=9):=λ h=>by have:=hb.2 h;rw[L]at this;cases this
 rw[if_neg ho89]at l
 refine CQ 0 (λ s=> ∃b:Bool,(b=true↔f.t.op=12\/f.t.op=13)/\s=⟨[(0,A6 v f.flat),(1,A6 u.v t.flat)],[(2,.box b7 (E8 (at' f.flat 0).cells) 48)],[Z 0 (.sl 0 v),Z 1 (I i),Z 2 (.sl 1 u.v),Z 7 (.bx 2 b7 0),Z 17 (I (at' f.flat 0).op),Z 86 (.v (.bool b))]⟩) U U (λ N=>?_) (λ N=>?_) ?_<;>try simp only[zb]at N<;>rw[A]at N
 ·exact AT _ U U ⟨_,by rw[A];simp[N],rfl⟩
 ·exact AT _ U U ⟨_,by rw[A];simp[N],rfl⟩
 rintro s ⟨b,hb,rfl⟩
 refine A1 U (λ N=>?_) (λ N=>?_)
 ·rw[if_pos (hb.1 N)]at l
  rw[<-PR.ret (L0 f.t i t)]at l
  refine EC [] [6] (λ _ (h:AI)=>.sl 6 h.v) (λ _ _ _=>[]) l U U call93 U U (List.sublist_cons_self _ _) (hu:=λ _ _=>rfl) (hH:=λ _ _ _=>rfl) (λ w M hS hF=>by
    have:=Ap8 f.node i u t hS F (hF.get (k:=1) U) ha hs hfs.root.2.1 htm
    rw[show f.node.cells=(at' f.flat 0).cells by rw[hat0]]at this
    exact this) λ y jj hy l R _=>?_
  exact A2 l U U U λ w M' q=>⟨R,M',rfl,trivial,q.le,q.B6 [] U,AD (q.f.get (k:=6) U) A3⟩
 have ho12: ¬(f.t.op=12\/f.t.op=13):=λ h=>by have:=hb.2 h;rw[N]at this;cases this
 rw[if_neg ho12]at l
 refine A1 U (λ P=>?_) (λ P=>?_)<;>simp only[zb]at P<;>rw[A]at P
 ·rw[if_pos P]at l
  have hs0:(at' f.flat 0).s=f.t.s:=by rw[f.CU];rfl
  have hrl:=V9 f.t.s
  have hrs:=hfs.root.2.1
  rw[<-hs0]at l hrl hrs
  obtain⟨p,hp⟩: ∃p,p=(BZ (at' f.flat 0).s).1:=⟨_,rfl⟩
  rw[<-hp]at l hrl
  refine AP [] (λ u:Value=>.sl 10 u) [10] (λ _=>[]) (Fg:=λ u=>[(1,kn u 3 p Sp.cells)]) (pu:=λ _=>True) U U call80 U U (hu:=λ _=>rfl) (hH:=λ _=>rfl) (λ w M hS hF=>by rw[hp];exact fY (at' f.flat 0).s hS F Aa) λ v10 _=>?_
  have hpl0:=A8 p
  refine GB (.v (.bool false)) U U (λ S=>?_) (λ S=>?_)
  ·have hpne:p≠[]:=λ h=>by rw[h]at S;exact absurd S Ab
   refine AJ U call94 U U (hE2:=N5 S λ c D=>by simpa using D) (λ _ w M q=>As0 v10 p w M q.st.sat (q.f.get (k:=10) U).sl Aa) U ?_
   have hl0:(len p==0)=false:=by simpa using S
   refine A1 U (λ D=>?_) (λ D=>?_)
   ·have K:p.any Sp.part=true:=by rw[hl0]at D;simpa using D
    rw[if_pos (.inr K)]at l
    exact EU [] U U call81 U U (λ w M hS hF=>FJ i 5 hS) λ a w M hs hS hle=>DY _ (l.p ⟨M,rfl,hS.drop _ (List.sublist_cons_self _ _),hle⟩ a hs)
   ·have K: ¬p.any Sp.part=true:=λ h=>by rw[hl0]at D;have h2:(p.any λ x=>x.part)=true:=h;rw[h2]at D;exact absurd D Ab
    rw[if_neg (λ h=>h.elim hpne K)]at l
    rw[<-PR.ret (HW i p t)]at l
    exact EC [] [6] (λ _ (h:AI)=>.sl 6 h.v) (λ _ _ _=>[]) l U U call96 U U (List.sublist_cons_self _ _) (λ w M hS hF=>Aq5 p i v10 u t hpne hS (hF.get (k:=10) U) (hF.get (k:=1) U) ha hs htm Aa) λ y jj hy l R _=>A2 l U U U λ w M' q=>⟨R,M',rfl,trivial,q.le,q.B6 [] U,AD (q.f.get (k:=6) U) A3⟩
  ·have hpe:p=[]:=by
    have:(len p==0)=true:=by simpa using S
    have h2:len p=0:=by simpa using this
    exact List.eq_nil_of_length_eq_zero (by unfold len at h2;omega)
   refine A1 U (λ D=>?_) (λ D=>?_)
   ·rw[if_pos (.inl hpe)]at l
    exact EU [] U U call81 U U (λ w M hS hF=>FJ i 5 hS) λ a w M hs hS hle=>DY _ (l.p ⟨M,rfl,hS.drop _ (List.sublist_cons_self _ _),hle⟩ a hs)
   ·rw[hpe]at D;exact absurd D Ab
 rw[if_neg P]at l
 rw[<-PR.ret (JR f.t i t)]at l
 refine EC [] [6] (λ _ (h:AI)=>.sl 6 h.v) (λ _ _ _=>[]) l U U call97 U U (List.sublist_cons_self _ _) (hu:=λ _ _=>rfl) (hH:=λ _ _ _=>rfl) (λ w M hS hF=>by
   have:=Aq6 f.node i u t hS F (hF.get (k:=1) U) ha hs (λ h=>(gG hg.plain h).2.1) htm
   rw[show f.node.cells=(at' f.flat 0).cells by rw[hat0]]at this
   exact this) λ y jj hy l R _=>?_
 exact A2 l U U U λ w M' q=>⟨R,M',rfl,trivial,q.le,q.B6 [] U,AD (q.f.get (k:=6) U) A3⟩
end Go.Proofs.YtnoegalemkbbbaaGreatDoor
namespace Go.Eng
def MF:PR Tf->Fl×Int×Int
 | .ok y _=>(y.flat,0,0)
 | .er i why=>([],i,why)
def JT(f t:Tf):Fl×Int×Int:=MF (CO f.size f 0 t)
def KE(p t:Tf):Fl×Int×Int:=MF (DN p 0 t true)
end Go.Eng
namespace Go.Proofs.YtnoegalemkbbbaaGreatDoor
open Go.Proofs.Tryz
open Go.Eng Go.RowKit
theorem allI: ∀(n:Nat),n<=16777216->QO n:=by
 intro n
 induction n with
 |zero=>intro _ g _ _ _ _ _ _ _ _ _ h;have:=g.size_pos;omega
 |succ n b=>intro h;exact As1 h (b Aa)
abbrev VR(bx by' bz:Nat)(x y z:Value):List HO:=[.box bx [x] 25,.box by' [y] 3,.box bz [z] 3]
theorem As2{w0 j:World}{M0 M:Mem}{Rs:List HO}(bx by' b:Nat)(x y z:Value)(hS:St w0 M0 j M (VR bx by' b x y z++Rs)):
   CallsD prog 76 [.pointer (some ⟨bx,0,none⟩),.pointer (some ⟨by',0,none⟩),.pointer (some ⟨b,0,none⟩)].toArray .returning j (λ e k w'=>e= .returned (.tuple #[])/\k=(HB .returning).2/\ ∃M',St w0 M0 w' M' (VR bx by' b x y z++Rs)/\M.le M'):=by
 refine pY (Hr:=Rs) AF func76 U ntmps76 U U U U (λ a w=>rfl) [] [(0,.box bx [.v x] 25),(1,.box by' [.v y] 3),(2,.box b [.v z] 3)] (.v .nilIface) [.bx 0 bx 0,.bx 1 by' 0,.bx 2 b 0] U U hS A3 (λ B l=>AR (.tu [.ag [I 0,I 0],.v (.bool false)]) U U (λ w M i=>PV.AY1 (A7 (v:=.v .nilIface) (E:=[]) U) underlying110 zeroValue110) <|B9 3 U zeroValue110 U λ n=>A1 U (λ h=>?_) (λ h=>?_)) U
 ·cases h
 ·exact pZ l U λ w M' i=>⟨M',i.B6 [0,1,2] U,i.le⟩
theorem As3{w0 l:World}{M0 M:Mem}{Rs:List HO}(b p:Int)(bx by' i:Nat)(x y z:Value)(hS:St w0 M0 l M (VR bx by' i x y z++Rs)):
   CallsD prog 76 [.pointer (some ⟨bx,0,none⟩),.pointer (some ⟨by',0,none⟩),.pointer (some ⟨i,0,none⟩)].toArray (.panicking [PB 110 b p]) l (λ e n w'=>e= .returned (.tuple #[])/\n=(HB (.panicking [PB 110 b p])).2/\ ∃M',St w0 M0 w' M' (VR bx by' i (.slice none 0 0) (i64 b) (i64 p)++Rs)/\M.le M'):=by
 refine pY (Hr:=Rs) AF func76 U ntmps76 U U U U (λ a w=>rfl) [] [(0,.box bx [.v x] 25),(1,.box by' [.v y] 3),(2,.box i [.v z] 3)] (.v (.iface 110 (.agg #[i64 b,i64 p]))) [.bx 0 bx 0,.bx 1 by' 0,.bx 2 i 0] U U hS A3 (λ B q=>AR (.tu [.ag [I b,I p],.v (.bool true)]) U U (λ w M k=>PV.AY0 (v:=.agg #[i64 b,i64 p]) (A7 (v:=.v (.iface 110 (.agg #[i64 b,i64 p]))) (E:=[]) U) underlying110) <|B9 3 U zeroValue110 U λ s=>A1 U (λ j=>?_) (λ j=>?_)) U
 ·exact D7 [4,5,6] 4 (λ _ _ _ _ _ h=>h) U BK Ac <|AK 4 U U U <|AE U <|AK 5 U U U <|AE U <|AK 6 U U U <|AE U <|BL U U U <|pZ q U λ w M' k=>⟨M',k.B6 [0,1,2] U,k.le⟩
 ·cases j
abbrev gV(w:World)(M:Mem)(r:Fl×Int×Int):Ending->World->Prop:=MP w M (λ h:AI=>.tuple #[h.v,i64 r.2.1,i64 r.2.2]) (λ _=>True) λ h=>[(0,A6 h.v r.1)]
abbrev ZD(b1 b2:Nat)(v u:Value):List HO:=[.box b1 [v] 23,.box b2 [u] 25]
abbrev ZE(fid:FuncId)(b1 b2:Nat):Value:=.func (.func fid) #[] #[.pointer (some ⟨b1,0,none⟩),.pointer (some ⟨b2,0,none⟩)]
theorem u6{i:FuncId}(D:CT prog i){w0 F:World}{M0 M:Mem}{Rs:List HO}(q s:Nat)(v u:Value)(f t:Tf)(r:PR Tf)(hS:St w0 M0 F M (ZD q s v u++Rs))(N:(A6 v f.flat).ok M)(hu:(A6 u t.flat).ok M)
   (G: ∀ {w:World} {M:Mem} {Rs:List HO},St w0 M0 w M (ZD q s v u++Rs)->(A6 v f.flat).ok M->(A6 u t.flat).ok M->Calls prog i [.pointer (some ⟨q,0,none⟩),.pointer (some ⟨s,0,none⟩)].toArray w (JS w0 M0 M Rs r)):
   Calls prog 33 [ZE i q s].toArray F (BF w0 M0 M Rs (λ h:AI=>.tuple #[h.v,i64 (MF r).2.1,i64 (MF r).2.2]) (λ _=>True) (λ h=>[(0,A6 h.v (MF r).1)]) λ _=>[]):=by
 refine AY4 (Hr:=Rs) AF func33 U ntmps33 [(0,A6 v f.flat),(1,A6 u t.flat)] [(8,.box q [.sl 0 v] 23),(9,.box s [.sl 1 u] 25)] [.v (ZE i q s)] U hS (AD N (AD hu A3)) (λ B J=>B9 10 U zeroValue25 U λ bx=>B9 11 U zeroValue3 U λ by'=>?_) U
 refine B9 12 U zeroValue3 U λ l=>AR (.v (.func (.func 76) #[] #[.pointer (some ⟨bx,0,none⟩),.pointer (some ⟨by',0,none⟩),.pointer (some ⟨l,0,none⟩)])) U U (λ w M A=>PV.makeFunc (xs:=[]) (ys:=[.tmp 2,.tmp 3,.tmp 4]) (vs:=[]) (us:=[.pointer (some ⟨bx,0,none⟩),.pointer (some ⟨by',0,none⟩),.pointer (some ⟨l,0,none⟩)]) trivial ⟨A7 (v:=.bx 10 bx 0) (E:=[]) U,A7 (v:=.bx 11 by' 0) (E:=[]) U,A7 (v:=.bx 12 l 0) (E:=[]) U,trivial⟩) <|AY5 (λ _ _ _ _ h=>h) (λ _ _ _ _ _ h=>h) U U U ?_
 have n: ∀ {w:World} {M:Mem} {x y z:Value},St w0 M0 w M ([.box l [z] 3,.box by' [y] 3,.box bx [x] 25]++Rs)->St w0 M0 w M (VR bx by' l x y z++Rs):=λ h=>h.perm ((List.reverse_perm [_,_,_]).append_right _)
 cases hr:r with
 |er K p=>
  subst hr
  refine EU [8,9] U U D U U (λ w M hS hF=>G hS (hF.get (k:=0) U) (hF.get (k:=1) U)) λ a w M hs hS hle=>DY _ (J.pan hs ?_)
  have C:=n hS
  refine pX call76 (λ h=>by cases h) rfl (As3 K p bx by' l _ _ _ C) λ w' ⟨M',e,b⟩=>⟨_,fF AF (H:=[(10,.box bx [.v (.slice none 0 0)] 25),(11,.box by' [I K] 3),(12,.box l [I p] 3)]) (Hr:=Rs) e hs rfl rfl,?_⟩
  exact⟨⟨none,0,0⟩,M',rfl,trivial,hle.trans b,e.drop _ (((List.Sublist.refl _).cons _).cons _|>.cons _),AD ⟨Sl.nil M' 11,Tm.AS,trivial⟩ A3⟩
 |ok x j=>
  subst hr
  refine AP [8,9] (λ h:AI=>.sl 5 h.v) [5] (λ _=>[]) (Fg:=λ h=>[(0,A6 h.v x.flat)]) (pu:=λ _=>True) U U D U U (λ w M hS hF=>G hS (hF.get (k:=0) U) (hF.get (k:=1) U)) λ L _=>?_
  refine AY6 J rfl λ a w M hs A=>pX call76 (λ h=>by cases h) rfl (As2 bx by' l _ _ _ (A.B6 [10,11,12] rfl)) λ w' ⟨M',e,b⟩=>⟨_,fF AF (H:=[(10,.box bx [.sl 5 L.v] 25),(11,.box by' [I 0] 3),(12,.box l [I 0] 3)]) (Hr:=Rs) e hs rfl rfl,?_⟩
  exact⟨L,M',rfl,trivial,A.le.trans b,e.drop _ (((List.Sublist.refl _).cons _).cons _|>.cons _),AD ((A.f.get (k:=5) U).mono b) A3⟩
theorem As4{w0 s:World}{M0 M:Mem}{Rs:List HO}(b e:Nat)(v:Value)(u:AI)(f t:Tf)(hS:St w0 M0 s M (ZD b e v u.v++Rs))(j:Gl w0)(z:(A6 v f.flat).ok M)(hu:(A6 u.v t.flat).ok M)(hg:f.B3)(l:AU f)(A:B8 t=true)(hs:AU t)(C:f.size<=16777216)(n:t.size*hF f<=16777216):
  Calls prog 38 [.pointer (some ⟨b,0,none⟩),.pointer (some ⟨e,0,none⟩)].toArray s (JS w0 M0 M Rs (CO f.size f 0 t)):=by
 refine AH (Hr:=Rs) AF func38 U ntmps38 [(0,A6 v f.flat),(1,A6 u.v t.flat)] [(8,.box b [.sl 0 v] 23),(9,.box e [.sl 1 u.v] 25)] [.bx 8 b 0,.bx 9 e 0] U hS (AD z (AD hu A3)) (λ B i=>?_) U
 rw[<-PR.ret (CO f.size f 0 t)]at i
 exact EC [] [6] (λ _ (h:AI)=>.sl 6 h.v) (λ _ _ _=>[]) i U U call39 U U (((List.Sublist.refl _).cons _).cons _) (λ w M hS hF=>allI f.size C f 0 v u t (Nat.le_refl _) hg l hS j (hF.get (k:=0) U) (hF.get (k:=1) U) A hs n Aa Aa) λ y E F i D _=>A2 i U U U λ w M' q=>⟨D,M',rfl,trivial,q.le,q.B6 [] U,AD (q.f.get (k:=6) U) A3⟩
theorem As5{w0 s:World}{M0 M:Mem}{Rs:List HO}(b e:Nat)(v:Value)(u:AI)(p t:Tf)(hS:St w0 M0 s M (ZD b e v u.v++Rs))(j:Gl w0)(z:(A6 v p.flat).ok M)(hu:(A6 u.v t.flat).ok M)(hg:p.B3)(A:F9 p.t=true)(l:AU p)(C:B8 t=true)(hs:AU t)(n:(t.size:Int)+p.size<=16777216):
  Calls prog 34 [.pointer (some ⟨b,0,none⟩),.pointer (some ⟨e,0,none⟩)].toArray s (JS w0 M0 M Rs (DN p 0 t true)):=by
 refine AH (Hr:=Rs) AF func34 U ntmps34 [(0,A6 v p.flat),(1,A6 u.v t.flat)] [(8,.box b [.sl 0 v] 23),(9,.box e [.sl 1 u.v] 25)] [.bx 8 b 0,.bx 9 e 0] U hS (AD z (AD hu A3)) (λ B i=>?_) U
 rw[<-PR.ret (DN p 0 t true)]at i
 exact EC [] [6] (λ _ (h:AI)=>.sl 6 h.v) (λ _ _ _=>[]) i U U call35 U U (((List.Sublist.refl _).cons _).cons _) (λ w M hS hF=>tK p.size p 0 v u.v t true (Nat.le_refl _) hg A l hS j (hF.get (k:=0) U) (hF.get (k:=1) U) C hs n Aa Aa) λ y E F i D _=>A2 i U U U λ w M' q=>⟨D,M',rfl,trivial,q.le,q.B6 [] U,AD (q.f.get (k:=6) U) A3⟩
theorem u7(f t:Tf)(v u:Value)(w:World)(M:Mem)(s:Sat w M)(i:Gl w)(j:(A6 v f.flat).ok M)(hu:(A6 u t.flat).ok M)(hg:f.B3)(l:AU f)(y:B8 t=true)(hs:AU t)(z:f.size<=16777216)(n:t.size*hF f<=16777216):
  Calls prog 16 [v,u].toArray w (gV w M (JT f t)):=by
 obtain⟨us,rfl⟩:=A6.shape hu
 exact AH (Hr:=[]) AF func16 U ntmps16 [(0,A6 v f.flat),(1,A6 us.v t.flat)] [] [.sl 0 v,.sl 1 us.v] U (Aj s) (AD j (AD hu A3)) (λ B A=>BM 8 U U U λ b=>BM 9 U U U λ e=>AR (.v (ZE 38 b e)) U U (λ w M q=>PV.makeFunc (xs:=[]) (ys:=[.tmp 2,.tmp 3]) (vs:=[]) (us:=[.pointer (some ⟨b,0,none⟩),.pointer (some ⟨e,0,none⟩)]) trivial ⟨A7 (v:=.bx 8 b 0) (E:=[]) U,A7 (v:=.bx 9 e 0) (E:=[]) U,trivial⟩) <|AP [8,9] (λ h:AI=>.tu [.sl 5 h.v,I (JT f t).2.1,I (JT f t).2.2]) [5] (λ _=>[]) (Fg:=λ h=>[(0,A6 h.v (JT f t).1)]) (pu:=λ _=>True) U U call33 U U (λ w M hS hF=>u6 call38 b e v us.v f t _ hS (hF.get (k:=0) U) (hF.get (k:=1) U) λ hS j hu=>As4 b e v us f t hS i j hu hg l y hs z n) λ C _=>A2 A U U U λ w M' q=>⟨C,M',rfl,trivial,(q.B6 [] U).done,AD (q.f.get (k:=5) U) A3⟩) U
theorem uA(p t:Tf)(v u:Value)(w:World)(M:Mem)(s:Sat w M)(i:Gl w)(j:(A6 v p.flat).ok M)(hu:(A6 u t.flat).ok M)(hg:p.B3)(y:F9 p.t=true)(l:AU p)(z:B8 t=true)(hs:AU t)(n:(t.size:Int)+p.size<=16777216):
  Calls prog 12 [v,u].toArray w (gV w M (KE p t)):=by
 obtain⟨us,rfl⟩:=A6.shape hu
 exact AH (Hr:=[]) AF func12 U ntmps12 [(0,A6 v p.flat),(1,A6 us.v t.flat)] [] [.sl 0 v,.sl 1 us.v] U (Aj s) (AD j (AD hu A3)) (λ B A=>BM 8 U U U λ b=>BM 9 U U U λ e=>AR (.v (ZE 34 b e)) U U (λ w M q=>PV.makeFunc (xs:=[]) (ys:=[.tmp 2,.tmp 3]) (vs:=[]) (us:=[.pointer (some ⟨b,0,none⟩),.pointer (some ⟨e,0,none⟩)]) trivial ⟨A7 (v:=.bx 8 b 0) (E:=[]) U,A7 (v:=.bx 9 e 0) (E:=[]) U,trivial⟩) <|AP [8,9] (λ h:AI=>.tu [.sl 5 h.v,I (KE p t).2.1,I (KE p t).2.2]) [5] (λ _=>[]) (Fg:=λ h=>[(0,A6 h.v (KE p t).1)]) (pu:=λ _=>True) U U call33 U U (λ w M hS hF=>u6 call34 b e v us.v p t _ hS (hF.get (k:=0) U) (hF.get (k:=1) U) λ hS j hu=>As5 b e v us p t hS i j hu hg y l z hs n) λ C _=>A2 A U U U λ w M' q=>⟨C,M',rfl,trivial,(q.B6 [] U).done,AD (q.f.get (k:=5) U) A3⟩) U
open Go.Eng
abbrev uB(t:Tm):Value:=.agg #[i64 t.op,i64 t.many,str t.name,str t.s,i64 t.n,i64 t.c.kind,i64 t.c.many,str t.c.name,str t.c.s,.bool t.c.neg,i64 t.c.e]
abbrev HG(t:Tm):XV:=.ag [I t.op,I t.many,.v (str t.name),.v (str t.s),I t.n,I t.c.kind,I t.c.many,.v (str t.c.name),.v (str t.c.s),.v (.bool t.c.neg),I t.c.e]
theorem gW(t:Tm)(w:World):Calls prog 132 [uB t].toArray w λ e w'=>e= .returned (.bool (F9 t))/\Ext w w':=AH AF func132 U ntmps132 [] [] [HG t] U (BE w) A3 (λ B b=>BM 1 U U U λ i=>A2 b U U U λ w M h=>⟨rfl,h.st.low⟩) U
theorem ZF(f:Fl)(v:Value)(i:Int)(M:Mem)(w:World)(n:Sat w M)(s:Sl M 11 f.length v (f.flatMap Tm.cells))(E:len f<=1048576)(h0:0<=i)(h1:i<=1048576):
    Calls prog 112 [v,i64 i].toArray w λ e w'=>e= .returned (i64 (GV f i))/\Ext w w':=by
 have y:=A8 f
 refine AH (Hr:=[]) AF func112 U ntmps112 [(0,A6 v f)] [] [.sl 0 v,I i] U (Aj n) (fc 0 s Tm.AS A3) (λ B h=>B7 (σ:=Nat×Int×Int) (λ(g,o,j)=>⟨[(0,A6 v f)],[],[Z 0 (.sl 0 v),Z 1 (I j),Z 5 (I o)]⟩) (λ(g,o,j)=>HN g f o j=GV f i/\len f+2<=g+j/\i<=j/\(o=1/\j=i\/j<=len f)/\o<=1+(j-i)*1048576/\0<=o) (λ(g,o,j)=>(len f-j).toNat) (f.length+2,1,i) U U ⟨rfl,by unfold len;omega,Aa,.inl ⟨rfl,rfl⟩,Aa,Aa⟩ ?_) U
 rintro⟨g,o,j⟩ ⟨hg,z,F,A,ho,C⟩
 refine A1 U (λ k=>?_) (λ k=>?_)<;>simp only[zb]at k
 ·refine A1 U (λ l=>?_) (λ l=>?_)<;>simp only[zb]at l
  ·have D:GV f i= -1:=by
    rw[<-hg]
    cases g with
    |zero=>rfl
    |succ g=>rw[HN,if_neg Aa,if_pos Aa]
   refine A2 h U U U λ w M b=>⟨?_,b.st.low⟩
   rw[D];rfl
  ·obtain⟨g,rfl⟩: ∃q,g=q+1:=⟨g-1,Aa⟩
   rw[HN,if_neg Aa,if_neg Aa]at hg
   exact AX (g,o-1+(at' f j).many,j+1) U U ⟨hg,Aa,Aa,.inr Aa,Aa,Aa⟩ Ag
 ·obtain⟨g,rfl⟩: ∃q,g=q+1:=⟨g-1,Aa⟩
  rw[fA Aa]at hg
  refine A2 h U U U λ w M b=>⟨?_,b.st.low⟩
  rw[<-hg];rfl
theorem As6(f:Fl)(v:Value)(a:Int)(dn:List Tf)(x:Tf)(r:List Tf)(M:Mem)(w:World)(D:Sat w M)(E:Sl M 11 f.length v (f.flatMap Tm.cells))(F:len f<=1048576)(K:0<=a)(hs:BS f (a+1) (dn++x::r)):
    Calls prog 189 [v,i64 a,i64 (a+1+AB dn)].toArray w λ e w'=>e= .returned (.bool (decide (x.t.name∈dn.map (·.t.name))))/\Ext w w':=by
 have hx:=hs.skip.node
 have hle:=hs.le
 rw[I7,AB]at hle
 have l:(at' f (a+1+AB dn)).name=x.t.name:=by rw[hx.2.2];rfl
 refine AH (Hr:=[]) AF func189 U ntmps189 [(0,A6 v f)] [] [.sl 0 v,I a,I (a+1+AB dn)] U (Aj D) (fc 0 E Tm.AS A3) (λ B A=>B7 (σ:=List Tf×List Tf×Int) (λ(p,q,i)=>⟨[(0,A6 v f)],[],[Z 0 (.sl 0 v),Z 1 (I a),Z 2 (I (a+1+AB dn)),Z 7 (I i)]⟩) (λ(p,q,i)=>dn=p++q/\i=a+1+AB p/\x.t.name ∉ p.map (·.t.name)) (λ(p,q,i)=>q.length) ([],dn,a+1) U U ⟨rfl,by simp[AB],by simp⟩ ?_) U
 rintro⟨p,q,i⟩ ⟨b,hi,hp⟩
 have h:=congrArg AB b
 rw[I7]at h
 have n:BS f i (q++x::r):=by
  have:=hs
  rw[b,List.append_assoc]at this
  rw[hi];exact this.skip
 refine A1 U (λ C=>?_) (λ C=>?_)<;>simp only[zb]at C
 ·cases q with
  |nil=>simp[AB]at h;omega
  |cons y q=>
   have G:=n.node
   have s:(at' f i).name=y.t.name:=by rw[G.2.2];rfl
   have z:=SE n
   have H:=y.size_pos
   rw[AB]at h
   refine FX U BK Ac (FY U ?_)
   refine A1 U (λ j=>?_) (λ j=>?_)<;>simp only[zb]at j
   ·rw[s,l]at j
    refine A2 A U U U λ w M k=>⟨?_,k.st.low⟩
    rw[decide_eq_true (by rw[b];simp[j])];rfl
   ·rw[s,l]at j
    refine AJ U call112 U U (λ _ w M k=>ZF f v i M w k.st.sat (k.sl 0 U) F Aa Aa) U ?_
    refine AX (p++[y],q,GV f i) U U ⟨by rw[b];simp,by rw[z,hi,I7,AB,AB];omega,?_⟩ (by show q.length<(y::q).length;simp)
    simp only[List.map_append,List.map_cons,List.map_nil,List.mem_append,List.mem_singleton,not_or]
    exact⟨hp,λ e=>j e.symm⟩
 ·have J:q=[]:=by
   cases q with
   |nil=>rfl
   |cons y q=>rw[AB]at h;have:=y.size_pos;omega
  subst J
  rw[List.append_nil]at b
  subst b
  refine A2 A U U U λ w M k=>⟨?_,k.st.low⟩
  rw[decide_eq_false hp];rfl
theorem As7(f:Fl)(v:Value)(a:Int)(x:Tf)(z:List Tf)(M:Mem)(w:World)(hM:Sat w M)(hv:Sl M 11 f.length v (f.flatMap Tm.cells))(W:len f<=1048576)(hs:BS f a (x::z))(P: ∀t∈f,len t.name<=1048576):
    Calls prog 164 [v,i64 a].toArray w λ e w'=>e= .returned (.bool (G4 x.t [] x.ps))/\Ext w w':=by
 have hx:=hs.node
 have Q:=hs.SD
 have hle:=hs.le
 rw[AB,Tf.size_eq]at hle
 have l:(at' f a).op=x.t.op:=by rw[hx.2.2];rfl
 have hxm:(at' f a).many=len x.ps:=by rw[hx.2.2];rfl
 have E:F9 (at' f a)=F9 x.t:=by rw[hx.2.2];rfl
 have hlp:=A8 x.ps
 have hls:=LZ x.ps
 refine AH (Hr:=[]) AF func164 U ntmps164 [(0,A6 v f)] [] [.sl 0 v,I a] U (Aj hM) (fc 0 hv Tm.AS A3) (λ B R=>B9 1 U zeroValue48 U λ X=>B7 (σ:=List Tf×List Tf×Int) (λ(p,q,i)=>⟨[(0,A6 v f)],[(1,.box X [I (at' f a).op,I (at' f a).many,.v (str (at' f a).name),.v (str (at' f a).s),I (at' f a).n,I (at' f a).c.kind,I (at' f a).c.many,.v (str (at' f a).c.name),.v (str (at' f a).c.s),.v (.bool (at' f a).c.neg),I (at' f a).c.e] 48)],[Z 0 (.sl 0 v),Z 1 (I a),Z 5 (.bx 1 X 0),Z 6 (I i),Z 7 (I (len p))]⟩) (λ(p,q,i)=>x.ps=p++q/\i=a+1+AB p/\G4 x.t [] x.ps=G4 x.t p q) (λ(p,q,i)=>q.length) ([],x.ps,a+1) U U ⟨rfl,by simp[AB],rfl⟩ ?_) U
 rintro⟨p,q,i⟩ ⟨k,hi,A⟩
 have F:=congrArg AB k
 rw[I7]at F
 have G:=congrArg len k
 rw[AO]at G
 have hl0:=A8 p
 have hq0:=A8 q
 have H:BS f i (q++z):=by
  have:=Q
  rw[k,List.append_assoc]at this
  rw[hi];exact this.skip
 refine A1 U (λ h2=>?_) (λ h2=>?_)<;>simp only[zb]at h2
 ·cases q with
  |nil=>rw[len_nil]at G;omega
  |cons y q=>
   have J:=H.node
   have K:(at' f i).op=y.t.op:=by rw[J.2.2];rfl
   have L:(at' f i).name=y.t.name:=by rw[J.2.2];rfl
   have N:F9 (at' f i)=F9 y.t:=by rw[J.2.2];rfl
   have S:=SE H
   have hys:=y.size_pos
   have hyl:=P _ (at_mem J.1 J.2.1)
   rw[AB]at F
   have O:BS f (a+1) (p++y::(q++z)):=by rw[k]at Q;simpa using Q
   refine B9 2 U zeroValue48 U λ b2=>?_
   refine FX U BK Ac ?_
   refine H4 U call132 U U (λ _ w M b=>gW (at' f i) w) U ?_
   refine H4 U call132 U U (λ _ w M b=>gW (at' f a) w) U ?_
   refine FY U ?_
   refine A1 U (λ D=>?_) (λ D=>?_)
   ·rw[N,E,l,K]at D
    refine A2 R U U U λ w M b=>⟨?_,b.st.low⟩
    rw[A,G4]
    unfold KQ
    rw[if_pos (by rw[V4];exact D)];rfl
   rw[N,E,l,K]at D
   refine AJ U call125 U U (λ _ w M b=>X1 (at' f i).name w Aa) U ?_
   refine AJ U call189 U U (λ _ w M b=>by have:=As6 f v a p y (q++z) M w b.st.sat (b.sl 0 U) W hs.1 O;rw[<-hi]at this;exact this) U ?_
   refine A1 U (λ j=>?_) (λ j=>?_)<;>simp only[zb]at j
   ·rw[l,L]at j
    refine A2 R U U U λ w M b=>⟨?_,b.st.low⟩
    rw[A,G4]
    unfold KQ
    rw[if_neg (by rw[V4,D];decide),if_pos (by rcases j with j|j;exact .inl j;exact .inr ⟨j.1,j.2⟩)];rfl
   ·rw[l,L]at j
    have T:KQ x.t p y=true:=by
     unfold KQ
     rw[if_neg (by rw[V4,D];decide),if_neg]
     rintro(⟨V,C⟩|⟨V,C⟩)
     ·rcases j.1 with h|h
      ·exact V h
      ·exact C h
     ·rcases j.2 with h|h
      ·exact h V
      ·rcases C with C|C
       ·rw[h.1]at C;cases C
       ·exact h.2 C
    refine AJ U call112 U U (λ _ w M b=>ZF f v i M w b.st.sat (b.sl 0 U) W Aa Aa) U ?_
    refine AX (p++[y],q,GV f i) U (by dsimp only;rw[AO];rfl) ⟨by rw[k];simp,by rw[S,hi,I7,AB,AB];omega,?_⟩ (by show q.length<(y::q).length;simp)
    rw[A,G4,T];rfl
 ·have hq:q=[]:=SB Aa
  subst hq
  refine A2 R U U U λ w M b=>⟨?_,b.st.low⟩
  rw[A,G4];rfl
theorem As8(t:Tm)(w:World)(hs:len t.s<=1048576)(G:len t.c.s<=1048576):Calls prog 163 [uB t].toArray w λ e w'=>e= .returned (.bool (DH t))/\Ext w w':=by
 refine AH AF func163 U ntmps163 [] [] [HG t] U (BE w) A3 (λ B C=>BM 1 U U U λ q=>B9 2 U zeroValue48 U λ y=>CQ 0 (λ s=> ∃b:Bool,(b=true↔(t.op=0\/t.op=10\/t.op=11\/t.op=14))/\s=⟨[],[(1,.box q [I t.op,I t.many,.v (str t.name),.v (str t.s),I t.n,I t.c.kind,I t.c.many,.v (str t.c.name),.v (str t.c.s),.v (.bool t.c.neg),I t.c.e] 48),(2,.box y [I t.op,I t.many,.v (str t.name),.v (str []),I 0,I 0,I 0,.v (str []),.v (str []),.v (.bool false),I 0] 48)],[Z 1 (.bx 1 q 0),Z 3 (.bx 2 y 0),Z 12 (I t.op),Z 13 (.v (.bool b))]⟩) U U (λ h0=>?_) (λ h0=>?_) ?_) U
 ·exact AT _ U U ⟨_,by simp only[zb]at h0 ⊢;omega,rfl⟩
 ·exact A1 U (λ h1=>AT _ U U ⟨_,by simp only[zb]at h1 ⊢;omega,rfl⟩) (λ h1=>A1 U (λ E=>AT _ U U ⟨_,by simp only[zb]at E ⊢;omega,rfl⟩) (λ E=>AT _ U U ⟨_,by simp only[zb]at h0 h1 E ⊢;omega,rfl⟩))
 rintro _ ⟨b,h,rfl⟩
 refine A1 U (λ i=>?_) (λ i=>?_)
 ·refine AR (.v (.bool (decide (t=(EZ t))))) U U (λ w M j=>PV.bin (A7 (v:=HG t) U) (A7 (v:=HG (EZ t)) U) (λ _ w _=>LU _ _ _ _ w)) <|A2 C U U U λ w M j=>⟨?_,j.st.low⟩
  unfold DH;rw[if_pos (h.1 i)];rfl
 have n13: ¬(t.op=0\/t.op=10\/t.op=11\/t.op=14):=λ e=>by have:=h.2 e;rw[i]at this;cases this
 clear h
 refine A1 U (λ i=>?_) (λ i=>?_)
 ·have F:t.op=1:=by simp only[zb]at i;exact i
  refine AR (.v (.bool (decide (t= { EZ t with s:=t.s})))) U U (λ w M j=>PV.bin (A7 (v:=HG t) U) (A7 (v:=HG { EZ t with s:=t.s}) U) (λ _ w _=>LU _ _ _ _ w)) <|AJ U call125 U U (λ _ w M j=>X1 t.s w Aa) U <|A2 C U U U λ w M j=>⟨?_,j.st.low⟩
  unfold DH;rw[if_neg n13,if_pos (F)];rfl
 have n26: ¬(t.op=1):=by simp only[zb]at i;exact i
 refine CQ 0 (λ s=> ∃b:Bool,(b=true↔(t.op=2\/t.op=3))/\s=⟨[],[(1,.box q [I t.op,I t.many,.v (str t.name),.v (str t.s),I t.n,I t.c.kind,I t.c.many,.v (str t.c.name),.v (str t.c.s),.v (.bool t.c.neg),I t.c.e] 48),(2,.box y [I t.op,I t.many,.v (str t.name),.v (str []),I 0,I 0,I 0,.v (str []),.v (str []),.v (.bool false),I 0] 48)],[Z 1 (.bx 1 q 0),Z 3 (.bx 2 y 0),Z 12 (I t.op),Z 44 (.v (.bool b))]⟩) U U (λ h0=>?_) (λ h0=>?_) ?_
 ·exact AT _ U U ⟨_,by simp only[zb]at h0 ⊢;omega,rfl⟩
 ·exact AT _ U U ⟨_,by simp only[zb]at h0 ⊢;omega,rfl⟩
 rintro _ ⟨b,h,rfl⟩
 refine A1 U (λ i=>?_) (λ i=>?_)
 ·refine AR (.v (.bool (decide (t= { EZ t with n:=t.n})))) U U (λ w M j=>PV.bin (A7 (v:=HG t) U) (A7 (v:=HG { EZ t with n:=t.n}) U) (λ _ w _=>LU _ _ _ _ w)) <|A2 C U U U λ w M j=>⟨?_,j.st.low⟩
  unfold DH;rw[if_neg n13,if_neg n26,if_pos (h.1 i)];rfl
 have k: ¬(t.op=2\/t.op=3):=λ e=>by have:=h.2 e;rw[i]at this;cases this
 clear h
 refine CQ 0 (λ s=> ∃b:Bool,(b=true↔(t.op=4\/t.op=17\/t.op=18))/\s=⟨[],[(1,.box q [I t.op,I t.many,.v (str t.name),.v (str t.s),I t.n,I t.c.kind,I t.c.many,.v (str t.c.name),.v (str t.c.s),.v (.bool t.c.neg),I t.c.e] 48),(2,.box y [I t.op,I t.many,.v (str t.name),.v (str []),I 0,I 0,I 0,.v (str []),.v (str []),.v (.bool false),I 0] 48)],[Z 1 (.bx 1 q 0),Z 3 (.bx 2 y 0),Z 12 (I t.op),Z 68 (.v (.bool b))]⟩) U U (λ h0=>?_) (λ h0=>?_) ?_
 ·exact AT _ U U ⟨_,by simp only[zb]at h0 ⊢;omega,rfl⟩
 ·exact A1 U (λ h1=>AT _ U U ⟨_,by simp only[zb]at h1 ⊢;omega,rfl⟩) (λ h1=>AT _ U U ⟨_,by simp only[zb]at h0 h1 ⊢;omega,rfl⟩)
 rintro _ ⟨b,h,rfl⟩
 refine A1 U (λ i=>?_) (λ i=>?_)
 ·refine AR (.v (.bool (decide (t=(EZ t))))) U U (λ w M j=>PV.bin (A7 (v:=HG t) U) (A7 (v:=HG (EZ t)) U) (λ _ w _=>LU _ _ _ _ w)) <|A2 C U U U λ w M j=>⟨?_,j.st.low⟩
  unfold DH;rw[if_neg n13,if_neg n26,if_neg k,if_pos (h.1 i)];rfl
 have l: ¬(t.op=4\/t.op=17\/t.op=18):=λ e=>by have:=h.2 e;rw[i]at this;cases this
 clear h
 refine CQ 0 (λ s=> ∃b:Bool,(b=true↔(t.op=5\/t.op=6\/t.op=7\/t.op=19))/\s=⟨[],[(1,.box q [I t.op,I t.many,.v (str t.name),.v (str t.s),I t.n,I t.c.kind,I t.c.many,.v (str t.c.name),.v (str t.c.s),.v (.bool t.c.neg),I t.c.e] 48),(2,.box y [I t.op,I t.many,.v (str t.name),.v (str []),I 0,I 0,I 0,.v (str []),.v (str []),.v (.bool false),I 0] 48)],[Z 1 (.bx 1 q 0),Z 3 (.bx 2 y 0),Z 12 (I t.op),Z 80 (.v (.bool b))]⟩) U U (λ h0=>?_) (λ h0=>?_) ?_
 ·exact AT _ U U ⟨_,by simp only[zb]at h0 ⊢;omega,rfl⟩
 ·exact A1 U (λ h1=>AT _ U U ⟨_,by simp only[zb]at h1 ⊢;omega,rfl⟩) (λ h1=>A1 U (λ E=>AT _ U U ⟨_,by simp only[zb]at E ⊢;omega,rfl⟩) (λ E=>AT _ U U ⟨_,by simp only[zb]at h0 h1 E ⊢;omega,rfl⟩))
 rintro _ ⟨b,h,rfl⟩
 refine A1 U (λ i=>?_) (λ i=>?_)
 ·refine AR (.v (.bool (decide (t=(EZ t))))) U U (λ w M j=>PV.bin (A7 (v:=HG t) U) (A7 (v:=HG (EZ t)) U) (λ _ w _=>LU _ _ _ _ w)) <|A2 C U U U λ w M j=>⟨?_,j.st.low⟩
  unfold DH;rw[if_neg n13,if_neg n26,if_neg k,if_neg l,if_pos (h.1 i)];rfl
 have z: ¬(t.op=5\/t.op=6\/t.op=7\/t.op=19):=λ e=>by have:=h.2 e;rw[i]at this;cases this
 clear h
 refine CQ 0 (λ s=> ∃b:Bool,(b=true↔(t.op=8\/t.op=9))/\s=⟨[],[(1,.box q [I t.op,I t.many,.v (str t.name),.v (str t.s),I t.n,I t.c.kind,I t.c.many,.v (str t.c.name),.v (str t.c.s),.v (.bool t.c.neg),I t.c.e] 48),(2,.box y [I t.op,I t.many,.v (str t.name),.v (str []),I 0,I 0,I 0,.v (str []),.v (str []),.v (.bool false),I 0] 48)],[Z 1 (.bx 1 q 0),Z 3 (.bx 2 y 0),Z 12 (I t.op),Z 93 (.v (.bool b))]⟩) U U (λ h0=>?_) (λ h0=>?_) ?_
 ·exact AT _ U U ⟨_,by simp only[zb]at h0 ⊢;omega,rfl⟩
 ·exact AT _ U U ⟨_,by simp only[zb]at h0 ⊢;omega,rfl⟩
 rintro _ ⟨b,h,rfl⟩
 refine A1 U (λ i=>?_) (λ i=>?_)
 ·refine AR (.v (.bool (decide (t=(EZ t))))) U U (λ w M j=>PV.bin (A7 (v:=HG t) U) (A7 (v:=HG (EZ t)) U) (λ _ w _=>LU _ _ _ _ w)) <|A2 C U U U λ w M j=>⟨?_,j.st.low⟩
  unfold DH;rw[if_neg n13,if_neg n26,if_neg k,if_neg l,if_neg z,if_pos (h.1 i)];rfl
 have D: ¬(t.op=8\/t.op=9):=λ e=>by have:=h.2 e;rw[i]at this;cases this
 clear h
 refine CQ 0 (λ s=> ∃b:Bool,(b=true↔(t.op=12\/t.op=13\/t.op=15))/\s=⟨[],[(1,.box q [I t.op,I t.many,.v (str t.name),.v (str t.s),I t.n,I t.c.kind,I t.c.many,.v (str t.c.name),.v (str t.c.s),.v (.bool t.c.neg),I t.c.e] 48),(2,.box y [I t.op,I t.many,.v (str t.name),.v (str []),I 0,I 0,I 0,.v (str []),.v (str []),.v (.bool false),I 0] 48)],[Z 1 (.bx 1 q 0),Z 3 (.bx 2 y 0),Z 12 (I t.op),Z 104 (.v (.bool b))]⟩) U U (λ h0=>?_) (λ h0=>?_) ?_
 ·exact AT _ U U ⟨_,by simp only[zb]at h0 ⊢;omega,rfl⟩
 ·exact A1 U (λ h1=>AT _ U U ⟨_,by simp only[zb]at h1 ⊢;omega,rfl⟩) (λ h1=>AT _ U U ⟨_,by simp only[zb]at h0 h1 ⊢;omega,rfl⟩)
 rintro _ ⟨b,h,rfl⟩
 refine A1 U (λ i=>?_) (λ i=>?_)
 ·refine AR (.v (.bool (decide (t= { EZ t with s:=t.s})))) U U (λ w M j=>PV.bin (A7 (v:=HG t) U) (A7 (v:=HG { EZ t with s:=t.s}) U) (λ _ w _=>LU _ _ _ _ w)) <|AJ U call188 U U (λ _ w M j=>pO t.s w hs) U <|A2 C U U U λ w M j=>⟨?_,j.st.low⟩
  unfold DH;rw[if_neg n13,if_neg n26,if_neg k,if_neg l,if_neg z,if_neg D,if_pos (h.1 i)];rfl
 have n104: ¬(t.op=12\/t.op=13\/t.op=15):=λ e=>by have:=h.2 e;rw[i]at this;cases this
 clear h
 refine A1 U (λ i=>?_) (λ i=>?_)
 ·have A:t.op=16:=by simp only[zb]at i;exact i
  refine AR (.v (.bool (decide (t= { EZ t with s:=t.s,n:=t.n,c:=t.c})))) U U (λ w M j=>PV.bin (A7 (v:=HG t) U) (A7 (v:=HG { EZ t with s:=t.s,n:=t.n,c:=t.c}) U) (λ _ w _=>LU _ _ _ _ w)) <|AJ U call188 U U (λ _ w M j=>pO t.s w hs) U <|GB (.v (.slice none 0 0)) U U (λ hg=>?_) (λ hg=>?_)
  ·refine BH 3 [t.c] Nd.cells 6 46 Nd.AS U U (hE1:=NT hg U) Ah U λ v=>AJ U call37 U U (λ _ w M j=>pU t.c v M w j.st.sat (j.sl 3 U) Aa) U <|A2 C U U U λ w M j=>⟨?_,j.st.low⟩
   unfold DH YP;rw[if_neg n13,if_neg n26,if_neg k,if_neg l,if_neg z,if_neg D,if_neg n104,if_pos (A)]
   show Ending.returned (.bool _)=_
   simp only[Bool.and_assoc];rfl
  ·refine AJ (u:=.bool (decide (t.c.name=[])&&decide (t.c.many=0)&&G3 t.c)) U call37 U U (λ H w M j=>absurd (H.symm.trans hg) Ab) U <|A2 C U U U λ w M j=>⟨?_,j.st.low⟩
   unfold DH YP;rw[if_neg n13,if_neg n26,if_neg k,if_neg l,if_neg z,if_neg D,if_neg n104,if_pos (A)]
   show Ending.returned (.bool _)=_
   simp only[Bool.and_assoc];rfl
 have n124: ¬(t.op=16):=by simp only[zb]at i;exact i
 refine A2 C U U U λ w M j=>⟨?_,j.st.low⟩
 unfold DH;rw[if_neg n13,if_neg n26,if_neg k,if_neg l,if_neg z,if_neg D,if_neg n104,if_neg n124];rfl
theorem As9(f:Fl)(v:Value)(M:Mem)(w:World)(F:Sat w M)(G:Sl M 11 f.length v (f.flatMap Tm.cells))(D:len f<=1048576)(k: ∀t∈f,len t.s<=1048576/\len t.name<=1048576/\len t.c.s<=1048576):
    Calls prog 131 [v].toArray w λ e w'=>e= .returned (.bool (KR f))/\Ext w w':=by
 have H:=A8 f
 refine AH (Hr:=[]) AF func131 U ntmps131 [(0,A6 v f)] [] [.sl 0 v] U (Aj F) (fc 0 G Tm.AS A3) (λ B z=>AJ U call112 U U (λ _ w M h=>ZF f v 0 M w h.st.sat (h.sl 0 U) D Aa Aa) U ?_) U
 refine A1 U (λ h1=>?_) (λ h1=>?_)<;>simp only[zb]at h1
 ·refine A2 z U U U λ w M h=>⟨?_,h.st.low⟩
  rw[pT (by rcases h1 with(h1|h1)|h1;exact .inl (SB h1);exact .inr (.inl h1);exact .inr (.inr h1))];rfl
 obtain⟨x,J,j⟩:=pQ h1.2 (λ e=>h1.1.1 (by rw[e];rfl))
 have K:x.t.name=[]:=by have:=h1.1.2;rw[j,x.CU]at this;exact this
 have l:KR f=x.JA:=by rw[j];exact AW8 J K
 have L:len f=x.size:=by rw[j];unfold len;rw[Tf.D5]
 refine B7 (σ:=List Tf×Int) (λ(b,i)=>⟨[(0,A6 v f)],[],[Z 0 (.sl 0 v),Z 3 (I i)]⟩) (λ(b,i)=>BS f i b/\i+AB b=len f/\x.JA=HP b) (λ(b,i)=>(len f-i).toNat) ([x],0) U U ⟨by rw[j];exact BS.top x,by rw[AB,AB];omega,by rw[HP,HP,Bool.and_true]⟩ ?_
 rintro⟨b,i⟩ ⟨hs,hi,hg⟩
 refine A1 U (λ E=>?_) (λ E=>?_)<;>simp only[zb]at E
 ·cases b with
  |nil=>rw[AB]at hi;omega
  |cons y b=>
   have A:=hs.node
   have N:=k _ (at_mem A.1 A.2.1)
   rw[AB,Tf.size_eq]at hi
   refine AJ U call163 U U (λ _ w M h=>As8 (at' f i) w Aa Aa) U ?_
   refine AJ U call164 U U (λ _ w M h=>As7 f v i y b M w h.st.sat (h.sl 0 U) D hs (λ t O=>(k t O).2.1)) U ?_
   have n:HP (y::b)=((DH (at' f i)&&G4 y.t [] y.ps)&&HP (y.ps++b)):=by
    rw[A.2.2,HP,AW4]
    obtain⟨t,ps⟩:=y
    rw[Tf.JA,Bool.and_assoc];rfl
   refine A1 U (λ q=>?_) (λ q=>?_)
   ·refine A2 z U U U λ w M h=>⟨?_,h.st.low⟩
    have:(DH (at' f i)&&G4 y.t [] y.ps)=false:=by
     cases h4:DH (at' f i)<;>cases h5:G4 y.t [] y.ps<;>rw[h4,h5]at q<;>first|rfl|cases q
    rw[l,hg,n,this];rfl
   ·have:(DH (at' f i)&&G4 y.t [] y.ps)=true:=by
     cases h4:DH (at' f i)<;>cases h5:G4 y.t [] y.ps<;>rw[h4,h5]at q<;>first|rfl|cases q
    exact AX (y.ps++b,i+1) U U ⟨hs.SD,by rw[I7];omega,by rw[hg,n,this];rfl⟩ Ag
 ·have C:b=[]:=by
   cases b with
   |nil=>rfl
   |cons y b=>rw[AB]at hi;have:=y.size_pos;omega
  subst C
  refine A2 z U U U λ w M h=>⟨?_,h.st.low⟩
  rw[l,hg];rfl
theorem At0(f:Fl)(v:Value)(M:Mem)(w:World)(n:Sat w M)(q:Sl M 11 f.length v (f.flatMap Tm.cells))(y:len f<=1048576)(i: ∀t∈f,len t.s<=1048576/\len t.name<=1048576/\len t.c.s<=1048576):
    Calls prog 72 [v].toArray w λ e w'=>e= .returned (.bool (fD f))/\Ext w w':=by
 refine AH (Hr:=[]) AF func72 U ntmps72 [(0,A6 v f)] [] [.sl 0 v] U (Aj n) (fc 0 q Tm.AS A3) (λ B z=>AJ U call131 U U (λ _ w M b=>As9 f v M w b.st.sat (b.sl 0 U) y i) U ?_) U
 have j:KR f=true->0<len f:=λ h=>by
  rcases Int.lt_or_le 0 (len f)with l|l
  ·exact l
  ·have:=pT (v:=f) (.inl (SB (by have:=A8 f;omega)))
   rw[h]at this;cases this
 refine AJ U (hO:=by
   have k:KR f=false\/0<len f:=by
    cases hw:KR f
    ·exact .inl U
    ·exact .inr (j hw)
   rcases k with h|h<;>simp[h]) call132 rfl rfl (λ _ w M b=>gW (at' f 0) w) rfl ?_
 exact A2 z U U U λ w M b=>⟨rfl,b.st.low⟩
theorem At1(f:Fl)(v:Value)(m:Int)(M:Mem)(w:World)(D:Sat w M)(A:Sl M 11 f.length v (f.flatMap Tm.cells))(hm:m<=1048576):
    Calls prog 22 [v,i64 m].toArray w λ e w'=>e= .returned (.bool (Q4 f m))/\Ext w w':=by
 have E:=A8 f
 have hle:len f<=9223372036854775807:=A.le
 refine AH (Hr:=[]) AF func22 U ntmps22 [(0,A6 v f)] [] [.sl 0 v,I m] U (Aj D) (fc 0 A Tm.AS A3) (λ B n=>?_) U
 refine A1 U (λ h1=>?_) (λ h1=>?_)<;>simp only[zb]at h1
 ·refine A2 n U U U λ w M j=>⟨?_,j.st.low⟩
  unfold Q4;rw[decide_eq_false Aa];rfl
 refine B7 (σ:=Int) (λ i=>⟨[(0,A6 v f)],[],[Z 0 (.sl 0 v),Z 5 (I i)]⟩) (λ i=>0<=i/\i<=len f/\(Eng.sub f 0 i).all OE=true) (λ i=>(len f-i).toNat) 0 U U ⟨Aa,Aa,rfl⟩ ?_
 rintro i ⟨k,F,b⟩
 refine A1 U (λ l=>?_) (λ l=>?_)<;>simp only[zb]at l
 ·refine A1 U (λ C=>?_) (λ C=>?_)<;>simp only[zb]at C
  ·have q:f.all OE=false:=by
    rw[<-Bool.not_eq_true,List.all_eq_true]
    intro h
    have:=h _ (at_mem k l)
    unfold OE at this
    simp only[Bool.and_eq_true,decide_eq_true_eq]at this
    omega
   refine A2 n U U U λ w M j=>⟨?_,j.st.low⟩
   unfold Q4;rw[q,Bool.and_false];rfl
  ·have y:OE (at' f i)=true:=by
    unfold OE
    simp only[Bool.and_eq_true,decide_eq_true_eq]
    omega
   exact AX (i+1) U U ⟨Aa,Aa,by rw[G0 k l,List.all_append,b];simp[y]⟩ Ag
 ·rw[GD Aa]at b
  have z: ∀t∈f,len t.s<=1048576/\len t.name<=1048576/\len t.c.s<=1048576:=λ t G=>by
   have:=List.all_eq_true.1 b t G
   unfold OE at this
   simp only[Bool.and_eq_true,decide_eq_true_eq]at this
   omega
  refine AJ U call72 U U (λ _ w M j=>At0 f v M w j.st.sat (j.sl 0 U) Aa z) U <|A2 n U U U λ w M j=>⟨?_,j.st.low⟩
  unfold Q4;rw[b,decide_eq_true Aa];rfl
end Go.Proofs.YtnoegalemkbbbaaGreatDoor
