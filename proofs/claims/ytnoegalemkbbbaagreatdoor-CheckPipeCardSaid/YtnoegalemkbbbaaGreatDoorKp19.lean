/- Lemmas for the card. -/
import Derived.Test.YtnoegalemkbbbaaGreatDoorKp18
set_option linter.unusedVariables false
set_option linter.unusedSimpArgs false
set_option maxRecDepth 100000
set_option maxRecDepth 100000
namespace Go.Eng
open Go.RowKit
theorem uY: ∀ {ns:List A0} {ys:List Tf},ns.length=ys.length->QH ns ys=CL ns ys
 |[],[],_=>rfl
 |n::ns,y::ys,h=>by
  have:=uY (ns:=ns) (ys:=ys) (by simpa using h)
  rw[CL,<-this];rfl
theorem Au9{ns:List A0}{ys:List Tf}(h:ns.length=ys.length)(i:ns.Nodup):(CM (AP 2) (BV ns) ((BV ns).map λ n=>at' ys (BU ns n))).flat=(Tf.mk (AP 2) (KX (CL ns ys))).flat:=by
 unfold CM
 have h1:=Ae9 h i
 rw[uY h]at h1
 have b:=iI (BV ns) ((BV ns).map λ n=>at' ys (BU ns n))
 rw[List.map_map]at b
 have e:(CL (BV ns) ((BV ns).map λ n=>at' ys (BU ns n))).map Tf.flat=(KX (CL ns ys)).map Tf.flat:=by rw[<-b,<-h1];rfl
 have j:len (CL (BV ns) ((BV ns).map λ n=>at' ys (BU ns n)))=len (KX (CL ns ys)):=by
  have:=congrArg List.length e
  rw[List.length_map,List.length_map]at this
  unfold len;omega
 rw[Tf.Q7,Tf.Q7,e,j]
theorem B3.pick {α β:Type}{M:Mem}{sz:Nat}{f:α->List Value}{hs:List AI}{xs:List (List α)}(h:B3 M sz f hs xs)(b:β->Int): ∀(l:List β),(∀n∈l,0<=b n/\b n<Eng.len hs)->B3 M sz f (l.map λ n=>at' hs (b n)) (l.map λ n=>at' xs (b n))
 |[],_=>trivial
 |n::l,hl=>⟨B3.at h (hl n (.head _)).1 (hl n (.head _)).2,B3.pick h b l λ m hm=>hl m (.tail _ hm)⟩
theorem uZ{f:Tf}(h:f.AR)(ho:f.t.op=8):(f.ps.map λ x=>x.t.name).Nodup:=by
 unfold List.Nodup
 rw[List.pairwise_iff_getElem]
 intro i j hi b k
 rw[List.length_map]at hi b
 simp only[List.getElem_map]
 have l:=h.L4 (f.ps.take j) f.ps[j] (f.ps.drop (j+1)) (by rw[<-List.drop_eq_getElem_cons b,List.take_append_drop])
 intro e
 refine l.d ho ?_
 rw[<-e]
 refine List.mem_map.2 ⟨f.ps[i],?_,rfl⟩
 rw[List.mem_take_iff_getElem]
 exact⟨i,Aa,rfl⟩
theorem iL{α β:Type}[Inhabited α](g:α->β){l:List α}{k:Nat}(h:k<l.length):(l.take (k+1)).map g=(l.take k).map g++[g (at' l (k:Int))]:=by
 rw[sV h,List.map_append];rfl
theorem Av0{im:Tf->Int->Tf->PR Tf}{t x:Tf}{r:List Tf}{pl:Int}{seen:List (List Sp)}{ys:List Tf}(K:List Tf->PR Tf):
  ((J2 im t (x::r) pl seen).bind λ l _=>K (ys++l))=(im (x.named []) pl t).bind λ y _=>if seen.any (λ q=> !IK (D4 x.flat) q)=true then .er pl 3 else(J2 im t r (pl+x.size) (seen++[D4 x.flat])).bind λ l _=>K (ys++[y]++l):=by
 rw[J2,PR.assoc]
 refine PR.congr λ y i=>?_
 split
 ·rfl
 ·rw[PR.assoc]
  exact PR.congr λ l i=>by rw[PR.SH,List.append_assoc];rfl
theorem Av1(t:Tf)(k:Nat):BX t k<=t.size:=by
 have:=(JX t k).2
 unfold len at this
 rw[Tf.DC]at this
 exact this
end Go.Eng
namespace Go.Proofs.YtnoegalemkbbbaaGreatDoor
open Go.Proofs.Tryz
open Go.Eng Go.RowKit
abbrev ZS(f:Tf)(l:List Tf):PR Tf:=.ok (if f.t.op=9 then .mk (AP 4) l else .mk (AP 2) (KX (CL (f.ps.map λ x=>x.t.name) l))) 0
set_option maxHeartbeats 1000000 in
theorem Av2{n:Nat}(H:QW n)(f:Tf){w0 wv:World}{M0 M:Mem}{Rs:List HO}(i:Int)(v:Value)(u:AI)(t:Tf)(hfn:f.size<=n+1)(hg:f.AR)(hfs:AT f)(ho:f.t.op=8\/f.t.op=9)(hSt:St w0 M0 wv M Rs)(hgl:Gl w0)(hlf:(A7 v f.flat).ok M)(hlt:(A7 u.v t.flat).ok M)(ha:B6 t=true)(hs:AT t)(hsz:t.size*(1+hS f.ps)<=16777216)(hfb:f.size<=16777216)(hi0:0<=i)(hi1:i+2*f.size<=1099511627776):
    Calls prog 92 [v,i64 i,u.v].toArray wv (K3 w0 M0 M Rs (KM (BG n) f i t)):=by
 have hfz:=CN f
 have hfe:=f.size_eq
 have hpn:((f.ps.length:Nat):Int)<=A6 f.ps:=MI f.ps
 have hfo:(at' f.flat 0).op=f.t.op:=by rw[f.DA];rfl
 have hImC: ∀x∈f.ps,P6 (BG n) (x.named []):=λ x hx=>T5 n _ (by rw[Tf.E7];have:=I0 hx;omega) ((hg.kids x hx).named []) ((hfs.kids x hx).named (by show len ([]:A0)<=_;decide))
 refine AH (Hr:=Rs) AF func92 U ntmps92 [(0,A7 v f.flat),(1,A7 u.v t.flat)] [] [.sl 0 v,I i,.sl 1 u.v] U hSt (AG hlf (AG hlt A4)) (λ B D=>Ad7 10 U λ mb=>AS [] (λ g:Value×List AI=>.sl 4 g.1) [4] (λ _=>[]) U U call77 U U (λ w M hS hF=>SA hS (hF.get (k:=0) U) Aa) λ L hgg=>?_) U
 have hgl2:len L.2=(f.ps.length:Int):=hgg
 refine UI 7 7 61 1 BR CR U <|cS 8 8 9 1 D7 DN U <|cS 9 9 25 1 BR CR U <|DS 20 (T8 [] []) (λ w M s=>⟨Sl.nil M 1,DN,trivial⟩) <|DS 21 (FU [] (([]:List Tf).map Tf.flat)) (λ w M s=>⟨Sl.nil M 1,DN,trivial⟩) ?_
 refine B5 (σ:=Nat×Value×List AI×Value×Value×List AI×List Tf×List SV×Nat) (λ(k,sv,sh,F,N,gs,ys,T,V)=>⟨[(0,A7 v f.flat),(1,A7 u.v t.flat),(4,C6 L.1 L.2 (DU f)),(7,kn sv 1 sh BR),(20,T8 sh ((f.ps.take k).map λ x=>D4 x.flat)),(21,FU gs (ys.map Tf.flat))],
   [(10,.ho (.raw mb (FB T V))),(7,.ho (.own 61 1 sv sh.length (sh.flatMap BR))),(8,QP F ((f.ps.take k).map λ x=>x.t.name)),(9,Go.Proofs.YtnoegalemkbbbaaGreatDoor.EC N gs)],
   [Z 0 (.sl 0 v),Z 1 (I i),Z 2 (.sl 1 u.v),Z 7 (.sl 7 sv),Z 8 (.sl 8 F),Z 9 (.sl 9 N),Z 10 (.v (.map (some mb))),Z 11 (I (BX f k)),Z 21 (.sl 4 L.1),Z 22 (I (len L.2)),Z 23 (I k)]⟩)
  (λ(k,sv,sh,F,N,gs,ys,T,V)=>k<=f.ps.length/\gs.length=k/\ys.length=k/\sh.length=k/\(KM (BG n) f i t=(J2 (BG n) t (f.ps.drop k) (i+BX f k) ((f.ps.take k).map λ x=>D4 x.flat)).bind λ r _=>ZS f (ys++r))/\(f.t.op=8->T=JL ((f.ps.take k).map λ x=>x.t.name) gs 0/\V=k))
  (λ(k,sv,sh,F,N,gs,ys,T,V)=>f.ps.length-k) (0,.slice none 0 0,[],.slice none 0 0,.slice none 0 0,[],[],[],0) U U ⟨Aa,rfl,rfl,rfl,rfl,λ _=>⟨rfl,rfl⟩⟩ ?_
 rintro⟨k,sv,sh,F,N,gs,ys,T,V⟩ ⟨hk,hgk,hyk,hsk,hq,hm8⟩
 refine A1 U (λ hb1=>?_) (λ hb1=>?_)<;>simp only[zb]at hb1
 ·have b:k<f.ps.length:=by omega
  obtain⟨x,hx⟩: ∃x,x=at' f.ps (k:Int):=⟨_,rfl⟩
  have O:x∈f.ps:=by rw[hx];exact MU b
  have hxz:=I0 O
  have hxg:=hg.kids x O
  have hxn:(x.named []).AR:=hxg.named []
  have hxs:AT (x.named []):=(hfs.kids x O).named (by show len ([]:A0)<=_;decide)
  have hxl:=CN (x.named [])
  rw[Tf.E7]at hxl
  have hpx:at' (DU f) (k:Int)=(x.named []).flat:=by
   rw[P7,MW (by rw[ZK];exact b),Ap7 b,<-hx]
  have hst:=QF b
  rw[<-hx,CN x]at hst
  have hpk:=JX f k
  have hpk2:=Av1 f (k+1)
  have hrt:=rC b
  have hnm:(at' f.flat (BX f k)).name=x.t.name:=by rw[hrt.1,hx]
  have hhx:hF (x.named [])<=hS f.ps:=by rw[J5];exact ZL O
  have hsb:t.size*hF (x.named [])<=16777216:=Nat.le_trans (Nat.mul_le_mul_left _ Aa) hsz
  have hfk: ∀ {M:Mem},(C6 L.1 L.2 (DU f)).ok M->(A7 (at' L.2 (k:Int)).v (x.named []).flat).ok M:=λ h=>by
   have:=F9 h (k:=(k:Int)) Aa Aa
   rw[hpx]at this;exact this
  have hqs:=iL (λ x:Tf=>D4 x.flat) b
  have A:=iL (λ x:Tf=>x.t.name) b
  rw[<-hx]at hqs A
  rw[ZQ b,<-hx,Av0 (ZS f),Int.add_assoc,<-hst]at hq
  rw[hq]at D
  refine EF [] [14] (λ _ (h:AI)=>.sl 14 h.v) (λ _ _ _=>[]) D U U call39 U U ((((List.Sublist.refl _).cons _).cons _).cons _|>.cons _) (λ w M hS hF=>H (x.named []) (i+BX f k) (at' L.2 (k:Int)).v u t (by rw[Tf.E7];omega) hxn hxs hS hgl (hfk (hF.get (k:=4) U)) (hF.get (k:=1) U) ha hs hsb Aa (by rw[Tf.E7];omega)) λ y j hy D C _=>?_
  refine AS [] (λ u:Value=>.sl 16 u) [16] (λ _=>[]) (Fg:=λ u=>[(0,kn u 3 (D4 x.flat) Sp.cells)]) (pu:=λ _=>True) U U call28 U U (hu:=λ _=>rfl) (hH:=λ _=>rfl) (λ w M hS hF=>by
   have:=sX (x.named []).flat.length (x.named []).flat (Nat.le_refl _) (Au4 _ _ (Nat.le_refl _) hxn) hS (hfk (hF.get (k:=4) U)) Aa
   rw[Au2]at this
   exact this) λ pv _=>?_
  have hsl:=gW x.flat
  refine UT 16 U λ a16 c16 e16=>?_
  obtain⟨ph,hph⟩: ∃ph:AI,pv=ph.v:=⟨⟨a16,_,c16⟩,e16⟩
  subst hph
  refine BA 15 U zeroValue61 U λ G=>AU (.v (TB G)) U U (λ w M s=>PV.makeFunc (xs:=[]) (ys:=[.tmp 15]) (vs:=[]) (us:=[.pointer (some ⟨G,0,none⟩)]) trivial ⟨A8 (v:=.bx 15 G 0) (E:=[]) U,trivial⟩) <|AS [15] (λ _:Unit=>.v (.bool (((f.ps.take k).map λ x=>D4 x.flat).any λ q=> !IK (D4 x.flat) q))) [] (λ _=>[(15,.box G [.sl 16 ph.v] 61)]) (Fg:=λ _=>[]) (pu:=λ _=>True) U U call148 U U (λ w M hS hF=>Au8 G ph.v sv (D4 x.flat) sh _ hS (hF.get (k:=16) U) (hF.get (k:=7) U) (hF.get (k:=20) U).more (by unfold len;omega)) λ _ _=>A1 U (λ l=>?_) (λ l=>?_)
  ·rw[if_pos l]at D
   exact EY [] U U call81 U U (λ w M hS hF=>FL (i+BX f k) 3 hS) λ a w M hs hS hle=>E4 _ (D.p ⟨M,rfl,hS.drop _ ((((List.Sublist.refl _).cons _).cons _).cons _|>.cons _|>.cons _),hle⟩ a hs)
  have hq2:KM (BG n) f i t=(J2 (BG n) t (f.ps.drop (k+1)) (i+BX f (k+1)) ((f.ps.take (k+1)).map λ x=>D4 x.flat)).bind λ r _=>ZS f (ys++[y]++r):=by
   rw[hq,hy,PR.SH,if_neg (by rw[l];decide),hqs]
  obtain⟨P,X⟩: ∃P,P=sset T V x.t.name C.v:=⟨_,rfl⟩
  obtain⟨Q,hmc2⟩: ∃Q,Q=OX T V x.t.name C.v:=⟨_,rfl⟩
  refine BF 17 [ph] BR 1 61 CR U U Ah U λ v17=>F5 24 U U U underlying178 type61 U U ON (by simp only[AM,len_nil];unfold len at*;omega) λ sv2=>BF 18 [(at' f.flat (BX f k)).name] D7 1 9 DN U U Ah U λ v18=>IB 16 U U U underlying103 type9 U U bA (by simp only[AM,len_nil];unfold len at*;rw[List.length_map,List.length_take];omega) λ nv2=>BF 19 [C] BR 1 25 CR U U Ah U λ v19=>IB 24 U U U underlying53 type25 U U ON (by simp only[AM,len_nil];unfold len at*;omega) λ lv2=>Ad8 false 10 P Q U U U U Ad U underlying179 underlying9 (by rw[X,hnm];rfl) (by rw[hmc2,hnm];rfl) <|DS 20 (T8 (sh++[ph]) ((f.ps.take (k+1)).map λ x=>D4 x.flat)) (λ w M s=>⟨Sl.nil M 1,DN,by rw[hqs];exact B3.snoc (s.sl 16 U) (s.f.get (k:=20) U).more⟩) <|DS 21 (FU (gs++[C]) ((ys++[y]).map Tf.flat)) (λ w M s=>⟨Sl.nil M 1,DN,by rw[List.map_append];exact B3.snoc (s.sl 14 U) (s.f.get (k:=21) U).more⟩) <|AU (W:=.t) (I (len (x.named []).flat)) U U (λ w M s=>PV.O4 (hfk (s.f.get (k:=4) U)).sl (A8 (v:=.v (at' L.2 (k:Int)).v) (E:=[]) U) ⟨_,underlying23⟩) <|AX (k+1,sv2,sh++[ph],nv2,lv2,gs++[C],ys++[y],P,Q) U ?_ ⟨Aa,by simp[hgk],by simp[hyk],by simp[hsk],hq2,λ h8=>?_⟩ (by show f.ps.length-(k+1)<f.ps.length-k;omega)
  ·dsimp only
   rw[A,hst,<-hxl,<-hnm]
   rfl
  ·obtain⟨m1,m2⟩:=hm8 h8
   have R:((f.ps.take k).map λ x=>x.t.name).length=k:=by rw[List.length_map,List.length_take];omega
   have hni:x.t.name ∉ (f.ps.take k).map λ x=>x.t.name:=λ hm=>by
    have J:=uZ hg h8
    have e1:(f.ps.map λ x=>x.t.name)=((f.ps.take k).map λ x=>x.t.name)++(x.t.name::(f.ps.drop (k+1)).map λ x=>x.t.name):=by
     rw[hx,<-List.map_cons (f:=λ x:Tf=>x.t.name),<-List.map_append,<-ZQ b,List.take_append_drop]
    rw[e1]at J
    exact(List.nodup_append.1 J).2.2 _ hm _ (.head _) U
   obtain⟨q1,q2⟩:=Ae7 (x:=C) (ns:=(f.ps.take k).map λ x=>x.t.name) (hs:=gs) (by rw[R,hgk]) hni
   rw[R]at q1 q2
   rw[X,hmc2,m1,m2,A]
   exact⟨q1,by rw[q2,List.length_append,R];rfl⟩
 have hke:k=f.ps.length:=by omega
 subst hke
 rw[List.drop_length,J2,PR.SH,List.append_nil]at hq
 have him:=uE hfs hImC hq ha hs
 have hys:A6 ys<=16777216:=by
  have h1:=him.size
  split at h1
  ·rw[Tf.size]at h1;omega
  ·rw[Tf.size,VZ (OY _),QU]at h1;omega
 rw[hq]at D
 unfold ZS at D
 rw[List.take_length]
 refine A1 U (λ l=>?_) (λ l=>?_)<;>simp only[zb]at l<;>rw[hfo]at l
 ·rw[if_pos l,show Tf.mk (AP 4) ys=CM (AP 4) [] ys by unfold CM;rw[W4]]at D
  exact C2 9 U <|AS [] (λ h:AI=>.sl 30 h.v) [] (λ h=>[(30,DV h.v (CM (AP 4) [] ys).flat)]) U U call146 U U (λ w M hS hF=>LF (AP 4) (.slice none 0 0) [] N gs ys hS (Sl.nil M 1) (hF.get (k:=9) U).sl (hF.get (k:=21) U).more hys) λ h10 _=>C2 30 U <|A2 D U U U λ w M' s=>⟨h10,M',rfl,trivial,s.le,s.B9 [] U,AG (s.f.get (k:=30) U) A4⟩
 have ho8:f.t.op=8:=by omega
 obtain⟨m1,m2⟩:=hm8 ho8
 rw[if_neg l]at D
 have J:=uZ hg ho8
 rw[List.take_length]at m1
 obtain⟨ns,A⟩: ∃ns,ns=f.ps.map λ x=>x.t.name:=⟨_,rfl⟩
 rw[<-A]at D J m1 ⊢
 have R:ns.length=f.ps.length:=by rw[A,List.length_map]
 have hsl:=Ae2 ns
 have hln:len ns=(f.ps.length:Int):=by unfold len;omega
 have hgl:ns.length=gs.length:=by omega
 refine AS [8] (λ _:Unit=>.tu []) [] (λ _=>[(8,QP F (BV ns))]) (Fg:=λ _=>[]) (pu:=λ _=>True) (Hg:=λ _=>[T0 F (BV ns)]) U U call151 U U (λ w M hS hF=>Af2 F ns hS Aa) λ _ _=>C2 8 U ?_
 refine B5 (σ:=Nat×List AI) (λ(j,z)=>⟨[(8,kn F 1 (BV ns) D7),(21,FU gs (ys.map Tf.flat))],[(10,.ho (.raw mb (FB T V))),(9,Go.Proofs.YtnoegalemkbbbaaGreatDoor.EC N z)],[Z 8 (.sl 8 F),Z 9 (.sl 9 N),Z 10 (.v (.map (some mb))),Z 77 (.sl 8 F),Z 78 (I (len (BV ns))),Z 79 (I j)]⟩)
  (λ(j,z)=>j<=(BV ns).length/\z=((BV ns).take j).map (λ n=>at' gs (BU ns n))++gs.drop j) (λ(j,z)=>(BV ns).length-j) (0,gs) U U ⟨Aa,rfl⟩ ?_
 rintro⟨j,z⟩ ⟨hj,S⟩
 have hsl2:(BV ns).length=f.ps.length:=by unfold len at hsl;omega
 have hh2l:z.length=gs.length:=by rw[S,List.length_append,List.length_map,List.length_take,List.length_drop];omega
 have hh2n:len z=(gs.length:Int):=by unfold len;omega
 refine A1 U (λ K=>?_) (λ K=>?_)<;>simp only[zb]at K
 ·have hj2:j<(BV ns).length:=by unfold len at K;omega
  have hin:at' (BV ns) (j:Int)∈ns:=gF.1 (by
   obtain⟨q1,q2⟩:=CG (BV ns) (i:=(j:Int)) Aa (by unfold len;omega)
   rw[q2];exact List.getElem_mem _)
  refine Ad9 10 U U U U underlying179 underlying9 zeroValue25 (v:=(at' gs (BU ns (at' (BV ns) (j:Int)))).v) (by rw[m1,rT ns gs 0 _ hgl,if_pos hin];rfl) <|HU (at' gs (BU ns (at' (BV ns) (j:Int)))) U U U sizeOf25 U U U Aa λ hs3 hhs3=>?_
  rw[Int.toNat_natCast]at hhs3
  exact AX (j+1,hs3) U U ⟨Aa,by
   have hjg:j<gs.length:=by omega
   rw[hhs3,S,iL (λ n=>at' gs (BU ns n)) hj2]
   have hl1:(((BV ns).take j).map (λ n=>at' gs (BU ns n))).length=j:=by rw[List.length_map,List.length_take];omega
   rw[List.set_append_right _ _ Aa,hl1,Nat.sub_self,List.drop_eq_getElem_cons hjg,List.set_cons_zero,List.append_assoc];rfl⟩ (by show(BV ns).length-(j+1)<(BV ns).length-j;omega)
 rw[List.take_of_length_le (by unfold len at K;omega),List.drop_of_length_le (by unfold len at K;omega),List.append_nil]at S
 have hyl:ns.length=ys.length:=by omega
 have hpf:=Au9 hyl J
 have hzs:A6 ((BV ns).map λ n=>at' ys (BU ns n))<=16777216:=by
  have h1:=congrArg List.length hpf
  unfold CM at h1
  rw[Tf.DC,Tf.DC,Tf.size,Tf.size,QU,VZ (OY _),QU]at h1
  omega
 refine C2 9 U ?_
 refine AS [] (λ h:AI=>.sl 30 h.v) [] (λ h=>[(30,DV h.v (CM (AP 2) (BV ns) ((BV ns).map λ n=>at' ys (BU ns n))).flat)]) U U call146 U U (λ w M hS hF=>LF (AP 2) F (BV ns) N z _ hS (hF.get (k:=8) U).sl (hF.get (k:=9) U).sl (by
  have h2:B3 M 11 Tm.cells gs (ys.map Tf.flat):=(hF.get (k:=21) U).more
  have h3:=B3.pick h2 (BU ns) (BV ns) (λ n hn=>by
   have:=rR (gF.1 hn)
   exact⟨this.1,by unfold len at*;omega⟩)
  rw[S,List.map_map]
  have e:((BV ns).map λ n=>at' (ys.map Tf.flat) (BU ns n))=(BV ns).map (Tf.flat ∘ λ n=>at' ys (BU ns n)):=List.map_congr_left λ n hn=>by
   obtain⟨a1,a2⟩:=NR (gF.1 hn)
   rw[a2]
   exact MW Aa
  rw[e]at h3
  exact h3) hzs) λ h10 _=>?_
 refine C2 30 U <|A2 D U U U λ w M' s=>⟨h10,M',rfl,trivial,s.le,s.B9 [] U,AG ?_ A4⟩
 rw[<-hpf]
 exact s.f.get (k:=30) U
theorem Av3(x:Sp)(w:World):Calls prog 95 [.agg x.cells.toArray].toArray w λ e w'=>e= .returned (.bool x.part)/\Ext w w':=AH AF func95 U ntmps95 [] [] [.ag [.v (.bool x.part),.v (str x.name),I x.n]] U (BD w) A4 (λ B b=>BP 1 U U U λ i=>A2 b U U U λ w M h=>⟨rfl,h.st.low⟩) U
theorem Av4(v:Value)(l:List Sp)(w:World)(M:Mem)(s:Sat w M)(hl:Sl M 3 l.length v (l.flatMap Sp.cells))(A:len l<=1099511627776):
    Calls prog 152 [v,.func (.func 95) #[] #[]].toArray w λ e w'=>(∃k:Int,e= .returned (i64 k)/\(0<=k↔l.any (λ x=>x.part)=true))/\Ext w w':=by
 have y:=A9 l
 refine AH (Hr:=[]) AF func152 U ntmps152 [(0,kn v 3 l Sp.cells)] [] [.sl 0 v,.v (.func (.func 95) #[] #[])] U (Aj s) (fc 0 hl Sp.AV A4) (λ B q=>B5 (σ:=Int) (λ k=>⟨[(0,kn v 3 l Sp.cells)],[],[Z 0 (.sl 0 v),Z 1 (.v (.func (.func 95) #[] #[])),Z 7 (I (len l)),Z 8 (I k)]⟩) (λ k=>0<=k/\k<=len l/\ ∀x∈Eng.sub l 0 k,x.part≠true) (λ k=>(len l-k).toNat) 0 rfl rfl ⟨Aa,Aa,λ x hx=>by cases hx⟩ ?_) U
 intro k ⟨h0,h1,i⟩
 refine A1 U (λ b=>?_) (λ b=>?_)<;>simp only[zb]at b
 ·refine AS [] (λ _:Unit=>.v (.bool (at' l k).part)) [] (λ _=>[]) (Fg:=λ _=>[]) (pu:=λ _=>True) U U call95 U U (λ w M hS hF=>(Av3 (at' l k) w).mono λ e w' ⟨he,hx⟩=>⟨(),M,he,trivial,Mem.le.refl _,hS.ext hx,A4⟩) λ _ _=>A1 U (λ j=>?_) (λ j=>?_)
  ·exact A2 q U U U λ w M n=>⟨⟨k,rfl,λ _=>List.any_eq_true.2 ⟨at' l k,at_mem h0 b,j⟩,λ _=>h0⟩,n.st.low⟩
  ·exact AX (k+1) U U ⟨Aa,Aa,λ x hx=>by
    rw[FT h0 b]at hx
    rcases List.mem_append.1 hx with hx|hx
    ·exact i x hx
    ·rw[List.mem_singleton.1 hx,j];decide⟩ Aa
 ·rw[G7 Aa]at i
  exact A2 q U U U λ w M n=>⟨⟨-1,rfl,λ h=>by omega,λ h=>by
   obtain⟨x,hx,z⟩:=List.any_eq_true.1 h
   exact absurd z (i x hx)⟩,n.st.low⟩
theorem Av5(v:Value)(l:List Sp)(w:World)(M:Mem)(i:Sat w M)(hl:Sl M 3 l.length v (l.flatMap Sp.cells))(j:len l<=1099511627776):
  Calls prog 94 [v,.func (.func 95) #[] #[]].toArray w λ e w'=>e= .returned (.bool (l.any λ x=>x.part))/\Ext w w':=by
 refine AH (Hr:=[]) AF func94 U ntmps94 [(0,kn v 3 l Sp.cells)] [] [.sl 0 v,.v (.func (.func 95) #[] #[])] U (Aj i) (fc 0 hl Sp.AV A4) (λ B n=>AS [] (λ k:Int=>I k) [] (λ _=>[]) (Fg:=λ _=>[]) (pu:=λ k=>0<=k↔l.any (λ x=>x.part)=true) U U call152 U U (λ w M hS hF=>(Av4 v l w M hS.sat (hF.get (k:=0) U).sl j).mono λ e w' ⟨⟨k,he,b⟩,hx⟩=>⟨k,M,he,b,Mem.le.refl _,hS.ext hx,A4⟩) λ k b=>A2 n U U U λ w M q=>⟨?_,q.st.low⟩) U
 suffices h:decide (0<=k)=l.any (λ x=>x.part) by rw[<-h];rfl
 cases h:l.any (λ x=>x.part)with
 |true=>simpa using b.2 h
 |false=>rw[h]at b;simpa using b
set_option maxHeartbeats 1000000 in
theorem Av6{n:Nat}(hn1:n+1<=16777216)(H:QW n):QW (n+1):=by
 intro f w0 wv M0 M Rs i v u t hfn hg hfs hSt F hlf hlt ha hs J hi0 hi1
 have hfz:=CN f
 have hfp:=f.size_pos
 have hfe:=f.size_eq
 have htz:=CN t
 have htp:=t.size_pos
 have hte:=t.size_eq
 have hhp:=KN f hg
 have htm:t.size<=16777216:=Nat.le_trans (Nat.le_mul_of_pos_right _ hhp) J
 have A:(at' f.flat 0).op=f.t.op:=by rw[f.DA];rfl
 have hto:(at' t.flat 0).op=t.t.op:=by rw[t.DA];rfl
 have V:(at' t.flat 0).n=t.t.n:=by rw[t.DA];rfl
 have hat0:at' f.flat 0=f.node:=f.DA
 have hkz: ∀x∈AL f,x.AR/\AT x/\x.size<f.size:=λ x hx=>⟨(hg.CD hx).1,hfs.CD hx,(hg.CD hx).2⟩
 have hq0:BG (n+1) f i t=GD (BG n) f i t:=rfl
 rw[hq0]
 refine AH (Hr:=Rs) AF func39 U ntmps39 [(0,A7 v f.flat),(1,A7 u.v t.flat)] [] [.sl 0 v,I i,.sl 1 u.v] U hSt (AG hlf (AG hlt A4)) (λ B l=>BA 2 U zeroValue48 U λ b7=>AS [] (λ g:Value×List AI=>.sl 3 g.1) [3] (λ _=>[]) U U call77 U U (λ w M hS hF=>SA hS (hF.get (k:=0) U) Aa) λ C hgg=>?_) U
 have hgl2:len C.2=(f.ps.length:Int):=hgg
 have X: ∀ {M:Mem} {k:Nat},k<f.ps.length->(C6 C.1 C.2 (DU f)).ok M->(A7 (at' C.2 (k:Int)).v (at' (AL f) (k:Int)).flat).ok M:=λ{M k} hk h=>by
  have:=F9 h (k:=(k:Int)) Aa Aa
  rw[P7,MW (by rw[ZK];exact hk)]at this;exact this
 have hkm: ∀ {k:Nat},k<f.ps.length->at' (AL f) (k:Int)∈AL f:=λ hk=>MU (by rw[ZK];exact hk)
 unfold GD at l
 refine A1 U (λ hb0=>?_) (λ hb0=>?_)<;>simp only[zb]at hb0<;>rw[A]at hb0
 ·rw[if_pos hb0]at l
  exact A2 l U U U λ w M' q=>⟨u,M',rfl,trivial,q.le,q.B9 [] U,AG (q.f.get (k:=1) U) A4⟩
 rw[if_neg hb0]at l
 refine A1 U (λ G=>?_) (λ G=>?_)<;>simp only[zb]at G<;>rw[A]at G
 ·rw[if_pos G]at l
  obtain⟨a,b,e⟩:=hg.two (.inl G)
  have hl2:f.ps.length=2:=by rw[e];rfl
  obtain⟨a1,a2,a3⟩:=hkz _ (hkm (k:=0) Aa)
  obtain⟨b1,b2,b3⟩:=hkz _ (hkm (k:=1) Aa)
  have ea:at' (AL f) ((0:Nat):Int)=a.named []:=by unfold AL;rw[e];rfl
  have eb:at' (AL f) ((1:Nat):Int)=b.named []:=by unfold AL;rw[e];rfl
  have hfs2:f.size=1+(a.size+b.size):=by rw[hfe,e,A6,A6,A6];omega
  have hh:hF f=hF a*hF b:=by rw[J3 f,if_pos G,e,hP,hP,hP,Nat.mul_one]
  have hfa:=X (M:=M) (k:=0) Aa
  have hbp:=KN b (hg.kids b (by rw[e];simp))
  have hsa:t.size*hF (at' (AL f) 0)<=16777216:=by
   have:at' (AL f) 0=a.named []:=ea
   rw[this,J5]
   refine Nat.le_trans ?_ J
   rw[hh]
   exact Nat.mul_le_mul_left _ (Nat.le_mul_of_pos_right _ hbp)
  have hza:(at' (AL f) 0).size=a.size:=by have:at' (AL f) 0=a.named []:=ea;rw[this,Tf.E7]
  have hzb:(at' (AL f) 1).size=b.size:=by have:at' (AL f) 1=b.named []:=eb;rw[this,Tf.E7]
  have hzl:=CN (at' (AL f) 0)
  have hap:=a.size_pos
  have hbp2:=b.size_pos
  have O: ∀ {M:Mem},(C6 C.1 C.2 (DU f)).ok M->(A7 (at' C.2 0).v (at' (AL f) 0).flat).ok M:=λ h=>X (k:=0) Aa h
  have hk1: ∀ {M:Mem},(C6 C.1 C.2 (DU f)).ok M->(A7 (at' C.2 1).v (at' (AL f) 1).flat).ok M:=λ h=>X (k:=1) Aa h
  refine DI [8,16,17,18] 5 (λ _ _ _ _ _ h=>h) U BM U <|G6 8 16 U U U ?_ ?_
  ·refine AU (W:=.t) (I (len (at' (AL f) 0).flat)) U U (λ w M q=>PV.O4 (O (q.f.get (k:=3) U)).sl (A8 (v:=.v (at' C.2 0).v) (E:=[]) U) ⟨_,underlying23⟩) <|AD U <|AK 16 U U U <|EF [] [4] (λ _ (h:AI)=>.sl 4 h.v) (λ _ _ _=>[]) l U U call39 U U (List.sublist_cons_self _ _) (λ w M hS hF=>H (at' (AL f) 0) (i+1) (at' C.2 0).v u t Aa a1 a2 hS F (O (hF.get (k:=3) U)) (hF.get (k:=1) U) ha hs hsa Aa Aa) λ y j hy l h4 _=>?_
   have Q:=T5 n (at' (AL f) 0) Aa a1 a2 _ _ _ _ hy ha hs
   have hsb:y.size*hF (at' (AL f) 1)<=16777216:=by
    have e1:at' (AL f) 1=b.named []:=eb
    have e0:at' (AL f) 0=a.named []:=ea
    have h1:=Q.size
    rw[e0,J5]at h1
    rw[e1,J5]
    refine Nat.le_trans (Nat.mul_le_mul_right _ h1) ?_
    rw[Nat.mul_assoc,<-hh];exact J
   refine AD U <|AK 17 U U U ?_
   rw[<-PR.ret (BG n (at' (AL f) 1) (i+1+(at' (AL f) 0).size) y),<-hzl]at l
   exact EF [] [6] (λ _ (h:AI)=>.sl 6 h.v) (λ _ _ _=>[]) l U U call39 U U (List.sublist_cons_self _ _) (λ w M hS hF=>H (at' (AL f) 1) (i+1+len (at' (AL f) 0).flat) (at' C.2 1).v h4 y Aa b1 b2 hS F (hk1 (hF.get (k:=3) U)) (hF.get (k:=4) U) Q.ar Q.sh hsb Aa Aa) λ z k hz l R _=>AD U <|AK 18 U U U <|AD U <|BN U U U <|A2 l U U U λ w M' q=>⟨R,M',rfl,trivial,q.le,q.B9 [] U,AG (q.f.get (k:=6) U) A4⟩
  ·refine EF [] [4] (λ _ (h:AI)=>.sl 4 h.v) (λ _ _ _=>[]) l U U call39 U U (List.sublist_cons_self _ _) (λ w M hS hF=>H (at' (AL f) 0) (i+1) (at' C.2 0).v u t Aa a1 a2 hS F (O (hF.get (k:=3) U)) (hF.get (k:=1) U) ha hs hsa Aa Aa) λ y j hy l h4 _=>?_
   have Q:=T5 n (at' (AL f) 0) Aa a1 a2 _ _ _ _ hy ha hs
   have hsb:y.size*hF (at' (AL f) 1)<=16777216:=by
    have e1:at' (AL f) 1=b.named []:=eb
    have e0:at' (AL f) 0=a.named []:=ea
    have h1:=Q.size
    rw[e0,J5]at h1
    rw[e1,J5]
    refine Nat.le_trans (Nat.mul_le_mul_right _ h1) ?_
    rw[Nat.mul_assoc,<-hh];exact J
   refine AD U <|AK 8 U U U <|AU (W:=.t) (I (len (at' (AL f) 0).flat)) U U (λ w M q=>PV.O4 (O (q.f.get (k:=3) U)).sl (A8 (v:=.v (at' C.2 0).v) (E:=[]) U) ⟨_,underlying23⟩) <|AD U <|AK 17 U U U ?_
   rw[<-PR.ret (BG n (at' (AL f) 1) (i+1+(at' (AL f) 0).size) y),<-hzl]at l
   exact EF [] [6] (λ _ (h:AI)=>.sl 6 h.v) (λ _ _ _=>[]) l U U call39 U U (List.sublist_cons_self _ _) (λ w M hS hF=>H (at' (AL f) 1) (i+1+len (at' (AL f) 0).flat) (at' C.2 1).v h4 y Aa b1 b2 hS F (hk1 (hF.get (k:=3) U)) (hF.get (k:=4) U) Q.ar Q.sh hsb Aa Aa) λ z k hz l R _=>AD U <|AK 18 U U U <|AD U <|BN U U U <|A2 l U U U λ w M' q=>⟨R,M',rfl,trivial,q.le,q.B9 [] U,AG (q.f.get (k:=6) U) A4⟩
 rw[if_neg G]at l
 refine A1 U (λ hb5=>?_) (λ hb5=>?_)<;>simp only[zb]at hb5<;>rw[A]at hb5
 ·rw[if_pos hb5]at l
  obtain⟨a,e⟩:=hg.one Aa
  have hl2:f.ps.length=1:=by rw[e];rfl
  obtain⟨a1,a2,a3⟩:=hkz _ (hkm (k:=0) Aa)
  have ea:at' (AL f) 0=a.named []:=by unfold AL;rw[e];rfl
  have hza:(at' (AL f) 0).size=a.size:=by rw[ea,Tf.E7]
  have hfs2:f.size=1+a.size:=by rw[hfe,e,A6,A6];omega
  have hh:hF f=1+hF a:=by rw[J3 f,if_neg G,if_neg Aa,e,hS,hS];rfl
  have hha:hF (at' (AL f) 0)=hF a:=by rw[ea,J5]
  rw[hh]at J
  have O: ∀ {M:Mem},(C6 C.1 C.2 (DU f)).ok M->(A7 (at' C.2 0).v (at' (AL f) 0).flat).ok M:=λ h=>X (k:=0) Aa h
  rw[<-PR.ret (EU (BG n) (at' (AL f) 0) i t)]at l
  exact EF [] [6] (λ _ (h:AI)=>.sl 6 h.v) (λ _ _ _=>[]) l U U call89 U U (List.sublist_cons_self _ _) (λ w M hS hF=>As8 H (at' (AL f) 0) i (at' C.2 0).v u t Aa a1 a2 hS F (O (hF.get (k:=3) U)) (hF.get (k:=1) U) ha hs (by rw[hha];exact J) Aa Aa Aa) λ y jj hy l R _=>A2 l U U U λ w M' q=>⟨R,M',rfl,trivial,q.le,q.B9 [] U,AG (q.f.get (k:=6) U) A4⟩
 rw[if_neg hb5]at l
 refine A1 U (λ hb6=>?_) (λ hb6=>?_)<;>simp only[zb]at hb6<;>rw[A]at hb6
 ·rw[if_pos hb6]at l
  obtain⟨a,e⟩:=hg.one Aa
  have hl2:f.ps.length=1:=by rw[e];rfl
  obtain⟨a1,a2,a3⟩:=hkz _ (hkm (k:=0) Aa)
  have ea:at' (AL f) 0=a.named []:=by unfold AL;rw[e];rfl
  have hza:(at' (AL f) 0).size=a.size:=by rw[ea,Tf.E7]
  have hfs2:f.size=1+a.size:=by rw[hfe,e,A6,A6];omega
  have hh:hF f=1+hF a:=by rw[J3 f,if_neg G,if_neg Aa,e,hS,hS];rfl
  have hha:hF (at' (AL f) 0)=hF a:=by rw[ea,J5]
  rw[hh]at J
  have O: ∀ {M:Mem},(C6 C.1 C.2 (DU f)).ok M->(A7 (at' C.2 0).v (at' (AL f) 0).flat).ok M:=λ h=>X (k:=0) Aa h
  refine BF 12 [(5:Int),3,4,2] T7 1 3 (λ _=>rfl) U U Ah U λ v12=>EX (.v (.bool false)) U U (λ S=>?_) (λ S=>?_)
  ·have hn0:t.t.n=0:=by rw[V]at S;simpa using S
   refine AJ U call90 U U (hE2:=MJ S λ c D=>by simpa using D) (λ _ w M q=>As3 [5,3,4,2] (at' t.flat 0).op v12 w M q.st.sat (q.f.get (k:=12) U)) U <|A1 U (λ D=>?_) (λ D=>?_)
   ·have K: ¬((at' t.flat 0).op∈([5,3,4,2]:List Int)):=λ h=>by
     have hn3:((at' t.flat 0).n != 0)=false:=by rw[V,hn0];rfl
     rw[decide_eq_true h,hn3]at D;exact absurd D Ab
    rw[hto]at K
    rw[if_neg (λ h=>K (by rcases h.2 with h|h|h|h<;>rw[h]<;>decide))]at l
    exact EY [] U U call81 U U (λ w M hS hF=>FL i 1 hS) λ a w M hs hS hle=>E4 _ (l.p ⟨M,rfl,hS.drop _ ((List.sublist_cons_self _ _).cons _),hle⟩ a hs)
   ·have K:(at' t.flat 0).op∈([5,3,4,2]:List Int):=Decidable.byContradiction λ h=>by
     have hn3:((at' t.flat 0).n != 0)=false:=by rw[V,hn0];rfl
     rw[decide_eq_false h,hn3]at D;exact absurd D Ab
    rw[hto]at K
    have hc3:t.t.op=5\/t.t.op=3\/t.t.op=4\/t.t.op=2:=by simpa using K
    rw[if_pos ⟨hn0,hc3⟩]at l
    rw[<-PR.ret (F1 (BG n) (at' (AL f) 0) (i+1) t)]at l
    refine EF [] [6] (λ _ (h:AI)=>.sl 6 h.v) (λ _ _ _=>[]) l U U call91 U U ((List.sublist_cons_self _ _).cons _) (λ w M hS hF=>ZR H (at' (AL f) 0) (i+1) (at' C.2 0).v u t Aa a1 a2 hS F (O (hF.get (k:=3) U)) (hF.get (k:=1) U) ha hs Aa (by rw[hha];refine Nat.le_trans (Nat.mul_le_mul_left _ ?_) J;omega) Aa Aa) λ y jj hy l R _=>?_
    exact A2 l U U U λ w M' q=>⟨R,M',rfl,trivial,q.le,q.B9 [] U,AG (q.f.get (k:=6) U) A4⟩
  ·have hn1:t.t.n≠0:=λ h=>by rw[V,h]at S;exact absurd S Ab
   refine A1 U (λ D=>?_) (λ D=>?_)
   ·rw[if_neg (λ h=>hn1 h.1)]at l
    exact EY [] U U call81 U U (λ w M hS hF=>FL i 1 hS) λ a w M hs hS hle=>E4 _ (l.p ⟨M,rfl,hS.drop _ ((List.sublist_cons_self _ _).cons _),hle⟩ a hs)
   ·exact absurd D (by rw[V];simp[hn1])
 rw[if_neg hb6]at l
 refine A1 U (λ T=>?_) (λ T=>?_)<;>simp only[zb]at T<;>rw[A]at T
 ·rw[if_pos T]at l
  exact EY [] U U call81 U U (λ w M hS hF=>FL i 4 hS) λ a w M hs hS hle=>E4 _ (l.p ⟨M,rfl,hS.drop _ (List.sublist_cons_self _ _),hle⟩ a hs)
 rw[if_neg T]at l
 refine CP 0 (λ s=> ∃b:Bool,(b=true↔f.t.op=8\/f.t.op=9)/\s=⟨[(0,A7 v f.flat),(1,A7 u.v t.flat)],[(2,.box b7 (EO (at' f.flat 0).cells) 48)],[Z 0 (.sl 0 v),Z 1 (I i),Z 2 (.sl 1 u.v),Z 7 (.bx 2 b7 0),Z 17 (I (at' f.flat 0).op),Z 79 (.v (.bool b))]⟩) U U (λ L=>?_) (λ L=>?_) ?_<;>try simp only[zb]at L<;>rw[A]at L
 ·exact AW _ U U ⟨_,by rw[A];simp[L],rfl⟩
 ·exact AW _ U U ⟨_,by rw[A];simp[L],rfl⟩
 rintro s ⟨b,hb,rfl⟩
 refine A1 U (λ L=>?_) (λ L=>?_)
 ·have ho:=hb.1 L
  rw[if_pos ho]at l
  have hh:hF f=1+hS f.ps:=by rw[J3,if_neg G,if_neg T]
  rw[<-PR.ret (KM (BG n) f i t)]at l
  exact EF [] [6] (λ _ (h:AI)=>.sl 6 h.v) (λ _ _ _=>[]) l U U call92 U U (List.sublist_cons_self _ _) (λ w M hS hF=>Av2 H f i v u t hfn hg hfs ho hS F (hF.get (k:=0) U) (hF.get (k:=1) U) ha hs (by rw[<-hh];exact J) Aa hi0 hi1) λ y jj hy l R _=>A2 l U U U λ w M' q=>⟨R,M',rfl,trivial,q.le,q.B9 [] U,AG (q.f.get (k:=6) U) A4⟩
 have ho89: ¬(f.t.op=8\/f.t.op=9):=λ h=>by have:=hb.2 h;rw[L]at this;cases this
 rw[if_neg ho89]at l
 refine CP 0 (λ s=> ∃b:Bool,(b=true↔f.t.op=12\/f.t.op=13)/\s=⟨[(0,A7 v f.flat),(1,A7 u.v t.flat)],[(2,.box b7 (EO (at' f.flat 0).cells) 48)],[Z 0 (.sl 0 v),Z 1 (I i),Z 2 (.sl 1 u.v),Z 7 (.bx 2 b7 0),Z 17 (I (at' f.flat 0).op),Z 86 (.v (.bool b))]⟩) U U (λ N=>?_) (λ N=>?_) ?_<;>try simp only[zb]at N<;>rw[A]at N
 ·exact AW _ U U ⟨_,by rw[A];simp[N],rfl⟩
 ·exact AW _ U U ⟨_,by rw[A];simp[N],rfl⟩
 rintro s ⟨b,hb,rfl⟩
 refine A1 U (λ N=>?_) (λ N=>?_)
 ·rw[if_pos (hb.1 N)]at l
  rw[<-PR.ret (JN f.t i t)]at l
  refine EF [] [6] (λ _ (h:AI)=>.sl 6 h.v) (λ _ _ _=>[]) l U U call93 U U (List.sublist_cons_self _ _) (hu:=λ _ _=>rfl) (hH:=λ _ _ _=>rfl) (λ w M hS hF=>by
    have:=At3 f.node i u t hS F (hF.get (k:=1) U) ha hs hfs.root.2.1 htm
    rw[show f.node.cells=(at' f.flat 0).cells by rw[hat0]]at this
    exact this) λ y jj hy l R _=>?_
  exact A2 l U U U λ w M' q=>⟨R,M',rfl,trivial,q.le,q.B9 [] U,AG (q.f.get (k:=6) U) A4⟩
 have ho12: ¬(f.t.op=12\/f.t.op=13):=λ h=>by have:=hb.2 h;rw[N]at this;cases this
 rw[if_neg ho12]at l
 refine A1 U (λ P=>?_) (λ P=>?_)<;>simp only[zb]at P<;>rw[A]at P
 ·rw[if_pos P]at l
  have hs0:(at' f.flat 0).s=f.t.s:=by rw[f.DA];rfl
  have hrl:=VN f.t.s
  have hrs:=hfs.root.2.1
  rw[<-hs0]at l hrl hrs
  obtain⟨p,hp⟩: ∃p,p=(C8 (at' f.flat 0).s).1:=⟨_,rfl⟩
  rw[<-hp]at l hrl
  refine AS [] (λ u:Value=>.sl 10 u) [10] (λ _=>[]) (Fg:=λ u=>[(1,kn u 3 p Sp.cells)]) (pu:=λ _=>True) U U call80 U U (hu:=λ _=>rfl) (hH:=λ _=>rfl) (λ w M hS hF=>by rw[hp];exact gU (at' f.flat 0).s hS F Aa) λ v10 _=>?_
  have hpl0:=A9 p
  refine EX (.v (.bool false)) U U (λ S=>?_) (λ S=>?_)
  ·have hpne:p≠[]:=λ h=>by rw[h]at S;exact absurd S Ab
   refine AJ U call94 U U (hE2:=MJ S λ c D=>by simpa using D) (λ _ w M q=>Av5 v10 p w M q.st.sat (q.f.get (k:=10) U).sl Aa) U ?_
   have hl0:(len p==0)=false:=by simpa using S
   refine A1 U (λ D=>?_) (λ D=>?_)
   ·have K:p.any Sp.part=true:=by rw[hl0]at D;simpa using D
    rw[if_pos (.inr K)]at l
    exact EY [] U U call81 U U (λ w M hS hF=>FL i 5 hS) λ a w M hs hS hle=>E4 _ (l.p ⟨M,rfl,hS.drop _ (List.sublist_cons_self _ _),hle⟩ a hs)
   ·have K: ¬p.any Sp.part=true:=λ h=>by rw[hl0]at D;have h2:(p.any λ x=>x.part)=true:=h;rw[h2]at D;exact absurd D Ab
    rw[if_neg (λ h=>h.elim hpne K)]at l
    rw[<-PR.ret (FE i p t)]at l
    exact EF [] [6] (λ _ (h:AI)=>.sl 6 h.v) (λ _ _ _=>[]) l U U call96 U U (List.sublist_cons_self _ _) (λ w M hS hF=>Au0 p i v10 u t hpne hS (hF.get (k:=10) U) (hF.get (k:=1) U) ha hs htm Aa) λ y jj hy l R _=>A2 l U U U λ w M' q=>⟨R,M',rfl,trivial,q.le,q.B9 [] U,AG (q.f.get (k:=6) U) A4⟩
  ·have hpe:p=[]:=by
    have:(len p==0)=true:=by simpa using S
    have h2:len p=0:=by simpa using this
    exact List.eq_nil_of_length_eq_zero (by unfold len at h2;omega)
   refine A1 U (λ D=>?_) (λ D=>?_)
   ·rw[if_pos (.inl hpe)]at l
    exact EY [] U U call81 U U (λ w M hS hF=>FL i 5 hS) λ a w M hs hS hle=>E4 _ (l.p ⟨M,rfl,hS.drop _ (List.sublist_cons_self _ _),hle⟩ a hs)
   ·rw[hpe]at D;exact absurd D Ab
 rw[if_neg P]at l
 rw[<-PR.ret (GQ f.t i t)]at l
 refine EF [] [6] (λ _ (h:AI)=>.sl 6 h.v) (λ _ _ _=>[]) l U U call97 U U (List.sublist_cons_self _ _) (hu:=λ _ _=>rfl) (hH:=λ _ _ _=>rfl) (λ w M hS hF=>by
   have:=Au1 f.node i u t hS F (hF.get (k:=1) U) ha hs (λ h=>(ZE hg.plain h).2.1) htm
   rw[show f.node.cells=(at' f.flat 0).cells by rw[hat0]]at this
   exact this) λ y jj hy l R _=>?_
 exact A2 l U U U λ w M' q=>⟨R,M',rfl,trivial,q.le,q.B9 [] U,AG (q.f.get (k:=6) U) A4⟩
end Go.Proofs.YtnoegalemkbbbaaGreatDoor
namespace Go.Eng
def W5:PR Tf->Fl×Int×Int
 | .ok y _=>(y.flat,0,0)
 | .er i why=>([],i,why)
def CY(f t:Tf):Fl×Int×Int:=W5 (BG f.size f 0 t)
def NS(p t:Tf):Fl×Int×Int:=W5 (E8 p 0 t true)
end Go.Eng
namespace Go.Proofs.YtnoegalemkbbbaaGreatDoor
open Go.Proofs.Tryz
open Go.Eng Go.RowKit
theorem allI: ∀(n:Nat),n<=16777216->QW n:=by
 intro n
 induction n with
 |zero=>intro _ g _ _ _ _ _ _ _ _ _ h;have:=g.size_pos;omega
 |succ n b=>intro h;exact Av6 h (b Aa)
abbrev W6(bx by' bz:Nat)(x y z:Value):List HO:=[.box bx [x] 25,.box by' [y] 3,.box bz [z] 3]
theorem Av7{w0 j:World}{M0 M:Mem}{Rs:List HO}(bx by' b:Nat)(x y z:Value)(hS:St w0 M0 j M (W6 bx by' b x y z++Rs)):
   CallsD prog 76 [.pointer (some ⟨bx,0,none⟩),.pointer (some ⟨by',0,none⟩),.pointer (some ⟨b,0,none⟩)].toArray .returning j (λ e k w'=>e= .returned (.tuple #[])/\k=(HJ .returning).2/\ ∃M',St w0 M0 w' M' (W6 bx by' b x y z++Rs)/\M.le M'):=by
 refine r6 (Hr:=Rs) AF func76 U ntmps76 U U U U (λ a w=>rfl) [] [(0,.box bx [.v x] 25),(1,.box by' [.v y] 3),(2,.box b [.v z] 3)] (.v .nilIface) [.bx 0 bx 0,.bx 1 by' 0,.bx 2 b 0] U U hS A4 (λ B l=>AU (.tu [.ag [I 0,I 0],.v (.bool false)]) U U (λ w M i=>PV.Ab3 (A8 (v:=.v .nilIface) (E:=[]) U) underlying110 zeroValue110) <|BA 3 U zeroValue110 U λ n=>A1 U (λ h=>?_) (λ h=>?_)) U
 ·cases h
 ·exact r7 l U λ w M' i=>⟨M',i.B9 [0,1,2] U,i.le⟩
theorem Av8{w0 l:World}{M0 M:Mem}{Rs:List HO}(b p:Int)(bx by' i:Nat)(x y z:Value)(hS:St w0 M0 l M (W6 bx by' i x y z++Rs)):
   CallsD prog 76 [.pointer (some ⟨bx,0,none⟩),.pointer (some ⟨by',0,none⟩),.pointer (some ⟨i,0,none⟩)].toArray (.panicking [PO 110 b p]) l (λ e n w'=>e= .returned (.tuple #[])/\n=(HJ (.panicking [PO 110 b p])).2/\ ∃M',St w0 M0 w' M' (W6 bx by' i (.slice none 0 0) (i64 b) (i64 p)++Rs)/\M.le M'):=by
 refine r6 (Hr:=Rs) AF func76 U ntmps76 U U U U (λ a w=>rfl) [] [(0,.box bx [.v x] 25),(1,.box by' [.v y] 3),(2,.box i [.v z] 3)] (.v (.iface 110 (.agg #[i64 b,i64 p]))) [.bx 0 bx 0,.bx 1 by' 0,.bx 2 i 0] U U hS A4 (λ B q=>AU (.tu [.ag [I b,I p],.v (.bool true)]) U U (λ w M k=>PV.Ab2 (v:=.agg #[i64 b,i64 p]) (A8 (v:=.v (.iface 110 (.agg #[i64 b,i64 p]))) (E:=[]) U) underlying110) <|BA 3 U zeroValue110 U λ s=>A1 U (λ j=>?_) (λ j=>?_)) U
 ·exact DI [4,5,6] 4 (λ _ _ _ _ _ h=>h) U BM Ac <|AK 4 U U U <|AD U <|AK 5 U U U <|AD U <|AK 6 U U U <|AD U <|BN U U U <|r7 q U λ w M' k=>⟨M',k.B9 [0,1,2] U,k.le⟩
 ·cases j
abbrev vA(w:World)(M:Mem)(r:Fl×Int×Int):Ending->World->Prop:=N5 w M (λ h:AI=>.tuple #[h.v,i64 r.2.1,i64 r.2.2]) (λ _=>True) λ h=>[(0,A7 h.v r.1)]
abbrev ZT(b1 b2:Nat)(v u:Value):List HO:=[.box b1 [v] 23,.box b2 [u] 25]
abbrev ZU(fid:FuncId)(b1 b2:Nat):Value:=.func (.func fid) #[] #[.pointer (some ⟨b1,0,none⟩),.pointer (some ⟨b2,0,none⟩)]
theorem vB{i:FuncId}(D:CT prog i){w0 F:World}{M0 M:Mem}{Rs:List HO}(q s:Nat)(v u:Value)(f t:Tf)(r:PR Tf)(hS:St w0 M0 F M (ZT q s v u++Rs))(N:(A7 v f.flat).ok M)(hu:(A7 u t.flat).ok M)
   (G: ∀ {w:World} {M:Mem} {Rs:List HO},St w0 M0 w M (ZT q s v u++Rs)->(A7 v f.flat).ok M->(A7 u t.flat).ok M->Calls prog i [.pointer (some ⟨q,0,none⟩),.pointer (some ⟨s,0,none⟩)].toArray w (K3 w0 M0 M Rs r)):
   Calls prog 33 [ZU i q s].toArray F (BJ w0 M0 M Rs (λ h:AI=>.tuple #[h.v,i64 (W5 r).2.1,i64 (W5 r).2.2]) (λ _=>True) (λ h=>[(0,A7 h.v (W5 r).1)]) λ _=>[]):=by
 refine Ab6 (Hr:=Rs) AF func33 U ntmps33 [(0,A7 v f.flat),(1,A7 u t.flat)] [(8,.box q [.sl 0 v] 23),(9,.box s [.sl 1 u] 25)] [.v (ZU i q s)] U hS (AG N (AG hu A4)) (λ B J=>BA 10 U zeroValue25 U λ bx=>BA 11 U zeroValue3 U λ by'=>?_) U
 refine BA 12 U zeroValue3 U λ l=>AU (.v (.func (.func 76) #[] #[.pointer (some ⟨bx,0,none⟩),.pointer (some ⟨by',0,none⟩),.pointer (some ⟨l,0,none⟩)])) U U (λ w M A=>PV.makeFunc (xs:=[]) (ys:=[.tmp 2,.tmp 3,.tmp 4]) (vs:=[]) (us:=[.pointer (some ⟨bx,0,none⟩),.pointer (some ⟨by',0,none⟩),.pointer (some ⟨l,0,none⟩)]) trivial ⟨A8 (v:=.bx 10 bx 0) (E:=[]) U,A8 (v:=.bx 11 by' 0) (E:=[]) U,A8 (v:=.bx 12 l 0) (E:=[]) U,trivial⟩) <|Ab7 (λ _ _ _ _ h=>h) (λ _ _ _ _ _ h=>h) U U U ?_
 have n: ∀ {w:World} {M:Mem} {x y z:Value},St w0 M0 w M ([.box l [z] 3,.box by' [y] 3,.box bx [x] 25]++Rs)->St w0 M0 w M (W6 bx by' l x y z++Rs):=λ h=>h.perm ((List.reverse_perm [_,_,_]).append_right _)
 cases hr:r with
 |er K p=>
  subst hr
  refine EY [8,9] U U D U U (λ w M hS hF=>G hS (hF.get (k:=0) U) (hF.get (k:=1) U)) λ a w M hs hS hle=>E4 _ (J.pan hs ?_)
  have C:=n hS
  refine r0 call76 (λ h=>by cases h) rfl (Av8 K p bx by' l _ _ _ C) λ w' ⟨M',e,b⟩=>⟨_,fZ AF (H:=[(10,.box bx [.v (.slice none 0 0)] 25),(11,.box by' [I K] 3),(12,.box l [I p] 3)]) (Hr:=Rs) e hs rfl rfl,?_⟩
  exact⟨⟨none,0,0⟩,M',rfl,trivial,hle.trans b,e.drop _ (((List.Sublist.refl _).cons _).cons _|>.cons _),AG ⟨Sl.nil M' 11,Tm.AV,trivial⟩ A4⟩
 |ok x j=>
  subst hr
  refine AS [8,9] (λ h:AI=>.sl 5 h.v) [5] (λ _=>[]) (Fg:=λ h=>[(0,A7 h.v x.flat)]) (pu:=λ _=>True) U U D U U (λ w M hS hF=>G hS (hF.get (k:=0) U) (hF.get (k:=1) U)) λ L _=>?_
  refine Ab8 J rfl λ a w M hs A=>r0 call76 (λ h=>by cases h) rfl (Av7 bx by' l _ _ _ (A.B9 [10,11,12] rfl)) λ w' ⟨M',e,b⟩=>⟨_,fZ AF (H:=[(10,.box bx [.sl 5 L.v] 25),(11,.box by' [I 0] 3),(12,.box l [I 0] 3)]) (Hr:=Rs) e hs rfl rfl,?_⟩
  exact⟨L,M',rfl,trivial,A.le.trans b,e.drop _ (((List.Sublist.refl _).cons _).cons _|>.cons _),AG ((A.f.get (k:=5) U).mono b) A4⟩
theorem Av9{w0 s:World}{M0 M:Mem}{Rs:List HO}(b e:Nat)(v:Value)(u:AI)(f t:Tf)(hS:St w0 M0 s M (ZT b e v u.v++Rs))(j:Gl w0)(z:(A7 v f.flat).ok M)(hu:(A7 u.v t.flat).ok M)(hg:f.AR)(l:AT f)(A:B6 t=true)(hs:AT t)(C:f.size<=16777216)(n:t.size*hF f<=16777216):
  Calls prog 38 [.pointer (some ⟨b,0,none⟩),.pointer (some ⟨e,0,none⟩)].toArray s (K3 w0 M0 M Rs (BG f.size f 0 t)):=by
 refine AH (Hr:=Rs) AF func38 U ntmps38 [(0,A7 v f.flat),(1,A7 u.v t.flat)] [(8,.box b [.sl 0 v] 23),(9,.box e [.sl 1 u.v] 25)] [.bx 8 b 0,.bx 9 e 0] U hS (AG z (AG hu A4)) (λ B i=>?_) U
 rw[<-PR.ret (BG f.size f 0 t)]at i
 exact EF [] [6] (λ _ (h:AI)=>.sl 6 h.v) (λ _ _ _=>[]) i U U call39 U U (((List.Sublist.refl _).cons _).cons _) (λ w M hS hF=>allI f.size C f 0 v u t (Nat.le_refl _) hg l hS j (hF.get (k:=0) U) (hF.get (k:=1) U) A hs n Aa Aa) λ y E F i D _=>A2 i U U U λ w M' q=>⟨D,M',rfl,trivial,q.le,q.B9 [] U,AG (q.f.get (k:=6) U) A4⟩
theorem Aw0{w0 s:World}{M0 M:Mem}{Rs:List HO}(b e:Nat)(v:Value)(u:AI)(p t:Tf)(hS:St w0 M0 s M (ZT b e v u.v++Rs))(j:Gl w0)(z:(A7 v p.flat).ok M)(hu:(A7 u.v t.flat).ok M)(hg:p.AR)(A:EG p.t=true)(l:AT p)(C:B6 t=true)(hs:AT t)(n:(t.size:Int)+p.size<=16777216):
  Calls prog 34 [.pointer (some ⟨b,0,none⟩),.pointer (some ⟨e,0,none⟩)].toArray s (K3 w0 M0 M Rs (E8 p 0 t true)):=by
 refine AH (Hr:=Rs) AF func34 U ntmps34 [(0,A7 v p.flat),(1,A7 u.v t.flat)] [(8,.box b [.sl 0 v] 23),(9,.box e [.sl 1 u.v] 25)] [.bx 8 b 0,.bx 9 e 0] U hS (AG z (AG hu A4)) (λ B i=>?_) U
 rw[<-PR.ret (E8 p 0 t true)]at i
 exact EF [] [6] (λ _ (h:AI)=>.sl 6 h.v) (λ _ _ _=>[]) i U U call35 U U (((List.Sublist.refl _).cons _).cons _) (λ w M hS hF=>uJ p.size p 0 v u.v t true (Nat.le_refl _) hg A l hS j (hF.get (k:=0) U) (hF.get (k:=1) U) C hs n Aa Aa) λ y E F i D _=>A2 i U U U λ w M' q=>⟨D,M',rfl,trivial,q.le,q.B9 [] U,AG (q.f.get (k:=6) U) A4⟩
theorem QY(f t:Tf)(v u:Value)(w:World)(M:Mem)(s:Sat w M)(i:Gl w)(j:(A7 v f.flat).ok M)(hu:(A7 u t.flat).ok M)(hg:f.AR)(l:AT f)(y:B6 t=true)(hs:AT t)(z:f.size<=16777216)(n:t.size*hF f<=16777216):
  Calls prog 16 [v,u].toArray w (vA w M (CY f t)):=by
 obtain⟨us,rfl⟩:=A7.shape hu
 exact AH (Hr:=[]) AF func16 U ntmps16 [(0,A7 v f.flat),(1,A7 us.v t.flat)] [] [.sl 0 v,.sl 1 us.v] U (Aj s) (AG j (AG hu A4)) (λ B A=>BP 8 U U U λ b=>BP 9 U U U λ e=>AU (.v (ZU 38 b e)) U U (λ w M q=>PV.makeFunc (xs:=[]) (ys:=[.tmp 2,.tmp 3]) (vs:=[]) (us:=[.pointer (some ⟨b,0,none⟩),.pointer (some ⟨e,0,none⟩)]) trivial ⟨A8 (v:=.bx 8 b 0) (E:=[]) U,A8 (v:=.bx 9 e 0) (E:=[]) U,trivial⟩) <|AS [8,9] (λ h:AI=>.tu [.sl 5 h.v,I (CY f t).2.1,I (CY f t).2.2]) [5] (λ _=>[]) (Fg:=λ h=>[(0,A7 h.v (CY f t).1)]) (pu:=λ _=>True) U U call33 U U (λ w M hS hF=>vB call38 b e v us.v f t _ hS (hF.get (k:=0) U) (hF.get (k:=1) U) λ hS j hu=>Av9 b e v us f t hS i j hu hg l y hs z n) λ C _=>A2 A U U U λ w M' q=>⟨C,M',rfl,trivial,(q.B9 [] U).done,AG (q.f.get (k:=5) U) A4⟩) U
theorem Aw1(p t:Tf)(v u:Value)(w:World)(M:Mem)(s:Sat w M)(i:Gl w)(j:(A7 v p.flat).ok M)(hu:(A7 u t.flat).ok M)(hg:p.AR)(y:EG p.t=true)(l:AT p)(z:B6 t=true)(hs:AT t)(n:(t.size:Int)+p.size<=16777216):
  Calls prog 12 [v,u].toArray w (vA w M (NS p t)):=by
 obtain⟨us,rfl⟩:=A7.shape hu
 exact AH (Hr:=[]) AF func12 U ntmps12 [(0,A7 v p.flat),(1,A7 us.v t.flat)] [] [.sl 0 v,.sl 1 us.v] U (Aj s) (AG j (AG hu A4)) (λ B A=>BP 8 U U U λ b=>BP 9 U U U λ e=>AU (.v (ZU 34 b e)) U U (λ w M q=>PV.makeFunc (xs:=[]) (ys:=[.tmp 2,.tmp 3]) (vs:=[]) (us:=[.pointer (some ⟨b,0,none⟩),.pointer (some ⟨e,0,none⟩)]) trivial ⟨A8 (v:=.bx 8 b 0) (E:=[]) U,A8 (v:=.bx 9 e 0) (E:=[]) U,trivial⟩) <|AS [8,9] (λ h:AI=>.tu [.sl 5 h.v,I (NS p t).2.1,I (NS p t).2.2]) [5] (λ _=>[]) (Fg:=λ h=>[(0,A7 h.v (NS p t).1)]) (pu:=λ _=>True) U U call33 U U (λ w M hS hF=>vB call34 b e v us.v p t _ hS (hF.get (k:=0) U) (hF.get (k:=1) U) λ hS j hu=>Aw0 b e v us p t hS i j hu hg y l z hs n) λ C _=>A2 A U U U λ w M' q=>⟨C,M',rfl,trivial,(q.B9 [] U).done,AG (q.f.get (k:=5) U) A4⟩) U
end Go.Proofs.YtnoegalemkbbbaaGreatDoor
namespace Go.Eng
open Go.RowKit
def BI{α:Type}:PR α->PR α
 | .ok x _=>.ok x 0
 | .er _ p=>.er 0 p
theorem LG{α β:Type}{r r':PR α}{k k':α->Int->PR β}(h:BI r=BI r')(b: ∀x i j,r= .ok x i->BI (k x i)=BI (k' x j)):BI (r.bind k)=BI (r'.bind k'):=by
 cases r with
 |ok x i=>cases r' with
  |ok y j=>cases (PR.ok.inj h).1;exact b x i j rfl
  |er e p=>cases h
 |er e p=>cases r' with
  |ok y j=>cases h
  |er l n=>cases (PR.er.inj h).2;rfl
abbrev vC(im im':Tf->Int->Tf->PR Tf)(n:Nat):Prop:= ∀g:Tf,g.size<n->g.AR->AT g-> ∀i j t,BI (im g i t)=BI (im' g j t)
theorem ZV: ∀(p:Tf) (i j:Int) (t:Tf) (h:Bool),BI (E8 p i t h)=BI (E8 p j t h)
 | .mk x [],i,j,t,h=>by unfold E8;split<;>rfl
 | .mk x [a],i,j,t,h=>by unfold E8;exact ZV a _ _ t _
 | .mk x (a::b::l),i,j,t,h=>by
  unfold E8
  split
  ·rfl
  ·exact LG (ZV a _ _ t h) λ u _ _ _=>ZV b _ _ u h
theorem vD{g b:Tf->PR Tf}: ∀ {l:List Tf},(∀x∈l,BI (g x)=BI (b x))->BI (HN g l)=BI (HN b l)
 |[],_=>rfl
 |x::l,h=>by
  unfold HN
  exact LG (h x (.head _)) λ y _ _ _=>LG (vD λ z e=>h z (.tail _ e)) λ r _ _ _=>rfl
theorem ZW{im b:Tf->Int->Tf->PR Tf}{g:Tf}(h: ∀i j t,BI (im g i t)=BI (b g j t))(i j:Int)(t:Tf):BI (F1 im g i t)=BI (F1 b g j t):=
 LG (vD λ x _=>h i j x) λ r _ _ _=>rfl
theorem ZX(g:Tf)(i j:Int):(BO g i).1=(BO g j).1/\(BO g i).2.1=(BO g j).2.1:=by unfold BO;split<;>exact⟨rfl,rfl⟩
theorem Aw2{im b:Tf->Int->Tf->PR Tf}{g:Tf}(hg:g.AR)(e:AT g)(q:H5 g=true)(h: ∀i j t,BI (im (BO g 0).2.1 i t)=BI (b (BO g 0).2.1 j t))(i j:Int)(t:Tf):BI (LC im g i t)=BI (LC b g j t):=by
 unfold LC
 obtain⟨k,a2⟩:=ZX g i 0
 obtain⟨l,n⟩:=ZX g j 0
 rw[k,a2,l,n]
 refine LG (ZV _ _ _ t true) λ u _ _ _=>?_
 split
 ·exact h _ _ _
 ·rfl
theorem Aw3{im e:Tf->Int->Tf->PR Tf}{n:Nat}(h:vC im e n){g:Tf}(k:g.size<n)(hg:g.AR)(b:AT g)(i j:Int)(t:Tf):BI (EU im g i t)=BI (EU e g j t):=by
 unfold EU
 split
 ·split
  ·rename_i l
   obtain⟨p1,p2,p3,p4,p5,p6,p7,z,_⟩:=MV (i:=0) hg b l
   exact LG (Aw2 hg b l (h _ Aa p3 p5) _ _ _) λ y _ _ _=>rfl
  ·exact ZW (h g k hg b) _ _ _
 ·split
  ·exact ZW (h g k hg b) _ _ _
  ·split
   ·split
    ·rename_i q
     obtain⟨s,w,A,B,_⟩:=ZM hg b q
     exact ZW (h _ Aa s w) _ _ _
    ·rfl
   ·rfl
theorem vE{im b:Tf->Int->Tf->PR Tf}{t:Tf}: ∀ {l:List Tf} {i j:Int} {seen:List (List Sp)},(∀x∈l,∀i j,BI (im (x.named []) i t)=BI (b (x.named []) j t))->BI (J2 im t l i seen)=BI (J2 b t l j seen)
 |[],_,_,_,_=>rfl
 |x::l,i,j,seen,h=>by
  unfold J2
  refine LG (h x (.head _) _ _) λ y _ _ _=>?_
  split
  ·rfl
  ·exact LG (vE λ z e=>h z (.tail _ e)) λ r _ _ _=>rfl
theorem vF: ∀(p:List Sp) (i j:Int) (t:Tf),BI (FE i p t)=BI (FE j p t)
 |[],_,_,_=>rfl
 |s::p,i,j,t=>by
  unfold FE
  split
  ·rfl
  ·split
   ·rfl
   ·split
    ·split<;>rfl
    ·exact LG (vF p i j _) λ y _ _ _=>rfl
theorem Aw4(x:Tm)(i j:Int)(t:Tf):BI (GQ x i t)=BI (GQ x j t):=by
 unfold GQ I6
 repeat' split
 all_goals exact rfl
theorem Aw5{im k:Tf->Int->Tf->PR Tf}{f:Tf}(h:vC im k f.size)(hg:f.AR)(w:AT f)(i j:Int)(t:Tf):BI (GD im f i t)=BI (GD k f j t):=by
 have s: ∀x∈AL f,∀i j t,BI (im x i t)=BI (k x j t):=λ x hx=>h x (hg.CD hx).2 (hg.CD hx).1 (w.CD hx)
 have n: ∀ {a:Tf},f.ps=[a]->at' (AL f) 0∈AL f:=λ e=>by unfold AL;rw[e];exact .head _
 unfold GD
 split
 ·rfl
 split
 ·rename_i z
  obtain⟨a,b,e⟩:=hg.two (.inl z)
  have q:at' (AL f) 0∈AL f:=by unfold AL;rw[e];exact .head _
  have A:at' (AL f) 1∈AL f:=by unfold AL;rw[e];exact .tail _ (.head _)
  exact LG (s _ q _ _ _) λ y _ _ _=>s _ A _ _ _
 split
 ·rename_i B
  obtain⟨a,e⟩:=hg.one (.inl B)
  have q:=n e
  exact Aw3 h (hg.CD q).2 (hg.CD q).1 (w.CD q) _ _ _
 split
 ·rename_i C
  obtain⟨a,e⟩:=hg.one (.inr (.inl C))
  split
  ·exact ZW (s _ (n e)) _ _ _
  ·rfl
 split
 ·rfl
 split
 ·unfold KM
  exact LG (vE λ x hx i j=>s (x.named []) (List.mem_map.2 ⟨x,hx,rfl⟩) i j t) λ l _ _ _=>rfl
 split
 ·unfold JN;split
  ·rfl
  ·split<;>rfl
 split
 ·split
  ·rfl
  ·exact vF _ _ _ _
 ·exact Aw4 _ _ _ _
theorem Aw6: ∀(n m:Nat) (f:Tf),f.size<=n->f.size<=m->f.AR->AT f-> ∀i j t,BI (BG n f i t)=BI (BG m f j t):=by
 intro n
 induction n with
 |zero=>intro m f h;have:=f.size_pos;omega
 |succ n k=>
  intro m f q hm hg hs i j t
  cases m with
  |zero=>have:=f.size_pos;omega
  |succ m=>exact Aw5 (λ g l b e i j t=>k m g Aa Aa b e i j t) hg hs i j t
def CO(f t:Tf):PR Tf:=BI (BG f.size f 0 t)
theorem iM{n:Nat}{f:Tf}(b:f.size<=n)(hg:f.AR)(hs:AT f)(i:Int)(t:Tf):BI (BG n f i t)=CO f t:=Aw6 n f.size f b (Nat.le_refl _) hg hs i 0 t
theorem ZY{α:Type}(r:PR α):BI (BI r)=BI r:=by cases r<;>rfl
theorem Aw7{α β:Type}(r:PR α)(k:α->Int->PR β)(k':α->PR β)(b: ∀x i,BI (k x i)=BI (k' x)):BI (r.bind k)=BI ((BI r).bind λ x _=>k' x):=by
 cases r with
 |ok x i=>exact b x i
 |er e p=>rfl
theorem iN{f a b:Tf}(hg:f.AR)(hs:AT f)(ho:f.t.op=4)(e:f.ps=[a,b])(t:Tf):CO f t=BI ((CO a t).bind λ y _=>CO b y):=by
 have j:a.named []=a:=Tf.ME ((hg.L4 [] a [b] (by rw[e];rfl)).n Aa)
 have k:b.named []=b:=Tf.ME ((hg.L4 [a] b [] (by rw[e];rfl)).n Aa)
 have h:=f.size_eq
 rw[e,A6,A6,A6]at h
 obtain⟨n,l⟩: ∃n,f.size=n+1:=⟨f.size-1,Aa⟩
 have h0:BG f.size f 0 t=(BG n a (0+1) t).bind λ y _=>BG n b (0+1+a.size) y:=by
  rw[l]
  show GD (BG n) f 0 t=_
  unfold GD
  rw[if_neg Aa,if_pos ho]
  unfold AL
  rw[e]
  show(BG n (a.named []) (0+1) t).bind (λ y _=>BG n (b.named []) (0+1+(a.named []).size) y)=_
  rw[j,k]
 unfold CO
 rw[h0,Aw7 _ _ (λ y=>CO b y) (λ y i=>by
  have:=iM (n:=n) (f:=b) Aa (hg.kids b (by rw[e];simp)) (hs.kids b (by rw[e];simp)) (0+1+a.size) y
  rw[this];unfold CO;rw[ZY]),iM (n:=n) Aa (hg.kids a (by rw[e];simp)) (hs.kids a (by rw[e];simp))]
 rfl
theorem PR.LH {α β:Type}{r:PR α}{k:α->Int->PR β}{e p:Int}(h:r.bind k= .er e p):r= .er e p\/ ∃x i,r= .ok x i/\k x i= .er e p:=by
 cases r with
 |er b j=>exact .inl (by cases h;rfl)
 |ok x i=>exact .inr ⟨x,i,rfl,h⟩
structure J6 (i:Int) (n:Nat) (e p:Int):Prop where
 lo:i<=e
 hi:e<i+n
 why:1<=p/\p<=6
theorem J6.up {i j:Int}{n m:Nat}{e p:Int}(h:J6 i n e p)(h1:j<=i)(b:i+n<=j+m):J6 j m e p:=⟨by have:=h.lo;omega,by have:=h.hi;omega,h.why⟩
theorem J6.at {i:Int}{n:Nat}{p e q:Int}(h:(.er i p:PR Tf)= .er e q)(b:1<=n)(hp:1<=p/\p<=6):J6 i n e q:=by cases h;exact⟨Aa,Aa,hp⟩
theorem ZZ: ∀(p:Tf) {i:Int} {t:Tf} {h:Bool} {e q:Int},E8 p i t h= .er e q->i<=e/\e<i+p.size/\(q=4\/q=5)
 | .mk x [],i,t,h,e,q,he=>by
  unfold E8 at he
  split at he
  ·cases he
  ·cases he
   exact⟨Aa,by rw[Tf.size,A6];omega,.inr U⟩
 | .mk x [a],i,t,h,e,q,he=>by
  unfold E8 at he
  have:=ZZ a he
  rw[Tf.size,A6,A6]
  exact⟨Aa,Aa,this.2.2⟩
 | .mk x (a::b::l),i,t,h,e,q,he=>by
  unfold E8 at he
  rw[Tf.size,A6,A6]
  have j:=a.size_pos
  split at he
  ·cases he
   exact⟨Aa,Aa,.inl U⟩
  ·rcases PR.LH he with he|⟨u,k,_,he⟩
   ·have:=ZZ a he
    exact⟨Aa,Aa,this.2.2⟩
   ·have:=ZZ b he
    exact⟨Aa,Aa,this.2.2⟩
theorem vG{g:Tf->PR Tf}{e p:Int}: ∀ {l:List Tf},HN g l= .er e p-> ∃x∈l,g x= .er e p
 |[],h=>by cases h
 |x::l,h=>by
  unfold HN at h
  rcases PR.LH h with h|⟨y,i,_,h⟩
  ·exact⟨x,.head _,h⟩
  ·rcases PR.LH h with h|⟨r,i,_,h⟩
   ·obtain⟨z,b,h⟩:=vG h
    exact⟨z,.tail _ b,h⟩
   ·cases h
abbrev NT(im:Tf->Int->Tf->PR Tf)(g:Tf):Prop:= ∀i t e p,im g i t= .er e p->J6 i g.size e p
theorem a6{im:Tf->Int->Tf->PR Tf}{g:Tf}(hg:NT im g):NT (F1 im) g:=by
 intro i t e p h
 unfold F1 at h
 rcases PR.LH h with h|⟨y,i',_,h⟩
 ·obtain⟨x,_,h⟩:=vG h
  exact hg i x e p h
 ·cases h
theorem Aw8{im:Tf->Int->Tf->PR Tf}{g:Tf}(hg:g.AR)(s:AT g)(B:H5 g=true)(hid: ∀i t e p,im K2 i t≠ .er e p)(hm:g.t.op=4->NT im (BO g 0).2.1):NT (LC im) g:=by
 intro i t e p h
 have C:=g.size_pos
 have w:=g.size_eq
 unfold LC at h
 obtain⟨p1,p2,p3,p4,p5,p6,p7,E,_⟩:=MV (i:=i) hg s B
 obtain⟨a,z⟩:=p1.one (.inr (.inr (.inl p2)))
 have n:=(BO g i).1.size_eq
 rw[z,A6,A6]at n
 have y:at' (AL (BO g i).1) 0=a.named []:=by unfold AL;rw[z];rfl
 rw[y]at h
 have key:(BO g i).2.2=i/\(BO g i).1=g/\(BO g i).2.1=K2\/(BO g i).2.2=i+1/\g.t.op=4/\(BO g i).1.size+(BO g i).2.1.size+1<=g.size:=by
  unfold BO
  split
  ·rename_i A
   obtain⟨a,b,e⟩:=hg.two (.inl A)
   have y:AL g=[a.named [],b.named []]:=by unfold AL;rw[e];rfl
   rw[e,A6,A6,A6]at w
   refine .inr ⟨rfl,A,?_⟩
   rw[y];show(a.named []).size+(b.named []).size+1<=_;rw[Tf.E7,Tf.E7];omega
  ·exact .inl ⟨rfl,rfl,rfl⟩
 rcases PR.LH h with h|⟨u,k,_,h⟩
 ·have D:=ZZ _ h
  rw[Tf.E7]at D
  rcases key with⟨q,j,l⟩|⟨q,j,l⟩
  ·rw[j]at n;exact⟨Aa,Aa,Aa⟩
  ·exact⟨Aa,Aa,Aa⟩
 ·split at h
  ·rcases key with⟨q,j,l⟩|⟨q,j,l⟩
   ·rw[l]at h;exact absurd h (hid _ _ _ _)
   ·have:=hm j _ _ _ _ (by rw[<-(ZX g i 0).2];exact h)
    rw[<-(ZX g i 0).2]at this
    exact this.up Aa Aa
  ·cases h
   rcases key with⟨q,j,l⟩|⟨q,j,l⟩<;>exact⟨Aa,Aa,Aa⟩
abbrev vH(im:Tf->Int->Tf->PR Tf)(n:Nat):Prop:= ∀g:Tf,g.size<n->g.AR->AT g->NT im g
theorem Aw9{im:Tf->Int->Tf->PR Tf}{n:Nat}(h:vH im n)(hid: ∀i t e p,im K2 i t≠ .er e p){g:Tf}(j:g.size<n)(hg:g.AR)(b:AT g){i:Int}{t:Tf}{e p:Int}(he:EU im g i t= .er e p):J6 i (1+g.size) e p:=by
 unfold EU at he
 split at he
 ·split at he
  ·rename_i l
   obtain⟨p1,p2,p3,p4,p5,p6,p7,A,q⟩:=MV (i:=0) hg b l
   rcases PR.LH he with he|⟨u,k,_,he⟩
   ·exact(Aw8 hg b l hid (λ s=>h _ (by have:=q s;omega) p3 p5) _ _ _ _ he).up Aa Aa
   ·cases he
  ·exact(a6 (h g j hg b) _ _ _ _ he).up Aa Aa
 ·split at he
  ·exact(a6 (h g j hg b) _ _ _ _ he).up Aa Aa
  ·split at he
   ·split at he
    ·rename_i w
     obtain⟨y,z,B,C,D⟩:=ZM hg b w
     exact(a6 (h _ Aa y z) _ _ _ _ he).up Aa Aa
    ·exact J6.at he Aa Aa
   ·exact J6.at he Aa Aa
theorem vI{im:Tf->Int->Tf->PR Tf}{t:Tf}{e p:Int}: ∀ {l:List Tf} {i:Int} {seen:List (List Sp)},(∀x∈l,NT im (x.named []))->J2 im t l i seen= .er e p->J6 i (A6 l) e p
 |[],_,_,_,h=>by cases h
 |x::l,i,seen,hx,h=>by
  have b:=x.size_pos
  unfold J2 at h
  rw[A6]
  rcases PR.LH h with h|⟨y,j,_,h⟩
  ·have:=hx x (.head _) _ _ _ _ h
   rw[Tf.E7]at this
   exact this.up Aa Aa
  ·split at h
   ·cases h;exact⟨Aa,Aa,Aa⟩
   ·rcases PR.LH h with h|⟨r,j,_,h⟩
    ·exact(vI (λ z k=>hx z (.tail _ k)) h).up Aa Aa
    ·cases h
theorem vJ{i e q:Int}: ∀ {p:List Sp} {t:Tf},FE i p t= .er e q->e=i/\1<=q/\q<=6
 |[],t,h=>by cases h;omega
 |s::p,t,h=>by
  unfold FE at h
  split at h
  ·cases h;omega
  ·split at h
   ·cases h;omega
   ·split at h
    ·split at h<;>cases h;omega
    ·rcases PR.LH h with h|⟨y,j,_,h⟩
     ·exact vJ h
     ·cases h
theorem Ax0{x:Tm}{i e q:Int}{t:Tf}(h:GQ x i t= .er e q):e=i/\1<=q/\q<=6:=by
 unfold GQ I6 at h
 repeat' split at h
 all_goals first|(cases h;omega)|cases h
theorem vK{im:Tf->Int->Tf->PR Tf}{f:Tf}(h:vH im f.size)(hid: ∀i t e p,im K2 i t≠ .er e p)(hg:f.AR)(z:AT f):NT (GD im) f:=by
 intro i t e q he
 have l:=f.size_pos
 have n:=f.size_eq
 have w: ∀x∈AL f,NT im x:=λ x hx=>h x (hg.CD hx).2 (hg.CD hx).1 (z.CD hx)
 unfold GD at he
 split at he
 ·cases he
 split at he
 ·rename_i A
  obtain⟨a,b,k⟩:=hg.two (.inl A)
  have e0:at' (AL f) 0=a.named []:=by unfold AL;rw[k];rfl
  have B:at' (AL f) 1=b.named []:=by unfold AL;rw[k];rfl
  have s:a.named []∈AL f:=by unfold AL;rw[k];exact .head _
  have C:b.named []∈AL f:=by unfold AL;rw[k];exact .tail _ (.head _)
  rw[k,A6,A6,A6]at n
  rw[e0,B]at he
  rcases PR.LH he with he|⟨y,j,_,he⟩
  ·have:=w _ s _ _ _ _ he
   rw[Tf.E7]at this
   exact this.up Aa Aa
  ·have:=w _ C _ _ _ _ he
   rw[Tf.E7,Tf.E7]at this
   exact this.up Aa Aa
 split at he
 ·rename_i D
  obtain⟨a,k⟩:=hg.one (.inl D)
  have e0:at' (AL f) 0=a.named []:=by unfold AL;rw[k];rfl
  have s:a.named []∈AL f:=by unfold AL;rw[k];exact .head _
  rw[e0]at he
  have:=Aw9 h hid (hg.CD s).2 (hg.CD s).1 (z.CD s) he
  rw[Tf.E7]at this
  rw[k,A6,A6]at n
  exact this.up Aa Aa
 split at he
 ·rename_i E
  obtain⟨a,k⟩:=hg.one (.inr (.inl E))
  have e0:at' (AL f) 0=a.named []:=by unfold AL;rw[k];rfl
  have s:a.named []∈AL f:=by unfold AL;rw[k];exact .head _
  rw[e0]at he
  rw[k,A6,A6]at n
  split at he
  ·have:=a6 (w _ s) _ _ _ _ he
   rw[Tf.E7]at this
   exact this.up Aa Aa
  ·exact J6.at he l Aa
 split at he
 ·exact J6.at he l Aa
 split at he
 ·unfold KM at he
  rcases PR.LH he with he|⟨y,j,_,he⟩
  ·exact(vI (λ x hx=>w _ (List.mem_map.2 ⟨x,hx,rfl⟩)) he).up Aa Aa
  ·cases he
 split at he
 ·unfold JN at he
  split at he
  ·exact J6.at he l Aa
  ·split at he
   ·cases he
   ·exact J6.at he l Aa
 split at he
 ·split at he
  ·exact J6.at he l Aa
  ·have:=vJ he
   exact⟨Aa,Aa,this.2⟩
 ·have:=Ax0 he
  exact⟨Aa,Aa,this.2⟩
theorem Ax1: ∀(n:Nat) (f:Tf),f.size<=n->f.AR->AT f->NT (BG n) f:=by
 intro n
 induction n with
 |zero=>intro f h;have:=f.size_pos;omega
 |succ n A=>
  intro f C hg hs
  cases n with
  |zero=>
   intro i t e p he
   have B:f.size=1:=by have:=f.size_pos;omega
   exact vK (im:=λ g i t=>if g.size=1/\g.t.op=0 then .ok t 0 else BG 0 g i t) (λ g k=>absurd k (by have:=g.size_pos;omega)) (λ i t e p=>by rw[if_pos ⟨rfl,rfl⟩];intro h;cases h) hg hs i t e p (by
    have q:=f.size_eq
    have j:f.ps=[]:=by
     cases hq:f.ps with
     |nil=>rfl
     |cons x l=>rw[hq,A6]at q;have:=x.size_pos;omega
    have n4:f.t.op≠4:=λ h=>by obtain⟨a,b,e⟩:=hg.two (.inl h);rw[j]at e;cases e
    have y:f.t.op≠5:=λ h=>by obtain⟨a,e⟩:=hg.one (.inl h);rw[j]at e;cases e
    have n6:f.t.op≠6:=λ h=>by obtain⟨a,e⟩:=hg.one (.inr (.inl h));rw[j]at e;cases e
    have z: ∀im:Tf->Int->Tf->PR Tf,KM im f i t= .ok (if f.t.op=9 then .mk (AP 4) []else .mk (AP 2) (KX (CL [] []))) 0:=λ im=>by unfold KM;rw[j];rfl
    rw[<-he]
    show GD _ f i t=GD (BG 0) f i t
    unfold GD
    rw[if_neg n4,if_neg n4,if_neg y,if_neg y,if_neg n6,if_neg n6,z,z])
  |succ n=>exact vK (λ g k s w=>A g Aa s w) (λ i t e p h=>by cases h) hg hs
abbrev a8(im:Tf->Int->Tf->PR Tf)(g:Tf):Prop:= ∀i t y j,im g i t= .ok y j->t.t.name=[]->y.t.name=[]
abbrev NmA(im:Tf->Int->Tf->PR Tf)(n:Nat):Prop:= ∀g:Tf,g.size<n->g.AR->AT g->a8 im g
theorem Ax3{x:Tm}{i:Int}{t y:Tf}{j:Int}(hx:x.op=2->0<=x.n)(h:GQ x i t= .ok y j)(k:t.t.name=[]):y.t.name=[]:=by
 have e: ∀z∈AN t,z.t.name=[]:=λ z b=>by
  unfold AN at b
  split at b
  ·cases b
  ·obtain⟨q,_,rfl⟩:=List.mem_map.1 b
   rw[Tf.ZG]
 unfold GQ at h
 split at h
 ·split at h
  ·split at h
   ·rename_i s
    have:=PR.DQ h
    subst this
    obtain⟨w,A⟩:=NR s
    exact e _ (by rw[A];exact MU (by rw[<-NQ];exact w))
   ·cases h
  ·cases h
 ·split at h
  ·split at h
   ·unfold I6 at h
    split at h
    ·cases h
    ·rename_i C
     split at h
     ·rename_i B
      have:=PR.DQ h
      subst this
      exact e _ (at_mem (l:=AN t) (hx B) Aa)
     ·have:=PR.DQ h
      subst this;rfl
   ·split at h
    ·have:=PR.DQ h
     subst this;exact k
    ·cases h
  ·repeat' split at h
   all_goals first|(have:=PR.DQ h;subst this;rfl)|cases h
theorem Ax4{im:Tf->Int->Tf->PR Tf}{f:Tf}(h:NmA im f.size)(hg:f.AR)(A:AT f):a8 (GD im) f:=by
 intro i t y j he n
 have w: ∀x∈AL f,a8 im x:=λ x hx=>h x (hg.CD hx).2 (hg.CD hx).1 (A.CD hx)
 have e: ∀ {g:Tf} {i:Int} {y:Tf} {j:Int},F1 im g i t= .ok y j->y.t.name=[]:=λ he=>by
  unfold F1 at he
  obtain⟨ys,k,_,l⟩:=PR.HW he
  have:=PR.DQ l
  subst this;rfl
 unfold GD at he
 split at he
 ·have:=PR.DQ he
  subst this;exact n
 split at he
 ·rename_i B
  obtain⟨a,b,z⟩:=hg.two (.inl B)
  have C:at' (AL f) 0∈AL f:=by unfold AL;rw[z];exact .head _
  have D:at' (AL f) 1∈AL f:=by unfold AL;rw[z];exact .tail _ (.head _)
  obtain⟨u,k,h1,q⟩:=PR.HW he
  exact w _ D _ _ _ _ q (w _ C _ _ _ _ h1 n)
 split at he
 ·unfold EU at he
  split at he
  ·split at he
   ·obtain⟨ys,k,_,l⟩:=PR.HW he
    have:=PR.DQ l
    subst this;rfl
   ·exact e he
  ·split at he
   ·exact e he
   ·split at he
    ·split at he
     ·exact e he
     ·cases he
    ·cases he
 split at he
 ·split at he
  ·exact e he
  ·cases he
 split at he
 ·cases he
 split at he
 ·unfold KM at he
  obtain⟨ys,k,_,l⟩:=PR.HW he
  have:=PR.DQ l
  subst this;split<;>rfl
 split at he
 ·unfold JN at he
  split at he
  ·cases he
  ·split at he
   ·have:=PR.DQ he
    subst this;rfl
   ·cases he
 split at he
 ·split at he
  ·cases he
  ·have hw: ∀ {p:List Sp} {t y:Tf} {j:Int},FE i p t= .ok y j->y.t=t.t:=λ{p t y j} he=>by
    cases p with
    |nil=>cases he
    |cons s p=>
     unfold FE at he
     split at he
     ·cases he
     ·split at he
      ·cases he
      ·split at he
       ·split at he
        ·cases he
        ·have:=PR.DQ he
         subst this;rfl
       ·obtain⟨u,k,_,l⟩:=PR.HW he
        have:=PR.DQ l
        subst this;rfl
   rw[hw he];exact n
 ·exact Ax3 (λ q=>(ZE hg.plain (.inl q)).2.1) he n
theorem Ax5: ∀(n:Nat) (f:Tf),f.size<=n->f.AR->AT f->a8 (BG n) f:=by
 intro n
 induction n with
 |zero=>intro f h;have:=f.size_pos;omega
 |succ n i=>
  intro f k hg hs
  exact Ax4 (λ g j b e=>i g Aa b e) hg hs
end Go.Eng
namespace Go.Proofs.YtnoegalemkbbbaaGreatDoor
open Go.Proofs.Tryz
open Go.Eng
abbrev vL(t:Tm):Value:=.agg #[i64 t.op,i64 t.many,str t.name,str t.s,i64 t.n,i64 t.c.kind,i64 t.c.many,str t.c.name,str t.c.s,.bool t.c.neg,i64 t.c.e]
abbrev HP(t:Tm):XV:=.ag [I t.op,I t.many,.v (str t.name),.v (str t.s),I t.n,I t.c.kind,I t.c.many,.v (str t.c.name),.v (str t.c.s),.v (.bool t.c.neg),I t.c.e]
theorem iO(t:Tm)(w:World):Calls prog 132 [vL t].toArray w λ e w'=>e= .returned (.bool (EG t))/\Ext w w':=AH AF func132 U ntmps132 [] [] [HP t] U (BD w) A4 (λ B b=>BP 1 U U U λ i=>A2 b U U U λ w M h=>⟨rfl,h.st.low⟩) U
theorem aA(f:Fl)(v:Value)(i:Int)(M:Mem)(w:World)(n:Sat w M)(s:Sl M 11 f.length v (f.flatMap Tm.cells))(E:len f<=1048576)(h0:0<=i)(h1:i<=1048576):
    Calls prog 112 [v,i64 i].toArray w λ e w'=>e= .returned (i64 (GZ f i))/\Ext w w':=by
 have y:=A9 f
 refine AH (Hr:=[]) AF func112 U ntmps112 [(0,A7 v f)] [] [.sl 0 v,I i] U (Aj n) (fc 0 s Tm.AV A4) (λ B h=>B5 (σ:=Nat×Int×Int) (λ(g,o,j)=>⟨[(0,A7 v f)],[],[Z 0 (.sl 0 v),Z 1 (I j),Z 5 (I o)]⟩) (λ(g,o,j)=>HZ g f o j=GZ f i/\len f+2<=g+j/\i<=j/\(o=1/\j=i\/j<=len f)/\o<=1+(j-i)*1048576/\0<=o) (λ(g,o,j)=>(len f-j).toNat) (f.length+2,1,i) U U ⟨rfl,by unfold len;omega,Aa,.inl ⟨rfl,rfl⟩,Aa,Aa⟩ ?_) U
 rintro⟨g,o,j⟩ ⟨hg,z,F,A,ho,C⟩
 refine A1 U (λ k=>?_) (λ k=>?_)<;>simp only[zb]at k
 ·refine A1 U (λ l=>?_) (λ l=>?_)<;>simp only[zb]at l
  ·have D:GZ f i= -1:=by
    rw[<-hg]
    cases g with
    |zero=>rfl
    |succ g=>rw[HZ,if_neg Aa,if_pos Aa]
   refine A2 h U U U λ w M b=>⟨?_,b.st.low⟩
   rw[D];rfl
  ·obtain⟨g,rfl⟩: ∃q,g=q+1:=⟨g-1,Aa⟩
   rw[HZ,if_neg Aa,if_neg Aa]at hg
   exact AX (g,o-1+(at' f j).many,j+1) U U ⟨hg,Aa,Aa,.inr Aa,Aa,Aa⟩ Ag
 ·obtain⟨g,rfl⟩: ∃q,g=q+1:=⟨g-1,Aa⟩
  rw[fU Aa]at hg
  refine A2 h U U U λ w M b=>⟨?_,b.st.low⟩
  rw[<-hg];rfl
theorem Ax6(f:Fl)(v:Value)(a:Int)(dn:List Tf)(x:Tf)(r:List Tf)(M:Mem)(w:World)(D:Sat w M)(E:Sl M 11 f.length v (f.flatMap Tm.cells))(F:len f<=1048576)(K:0<=a)(hs:BW f (a+1) (dn++x::r)):
    Calls prog 189 [v,i64 a,i64 (a+1+A6 dn)].toArray w λ e w'=>e= .returned (.bool (decide (x.t.name∈dn.map (·.t.name))))/\Ext w w':=by
 have hx:=hs.skip.node
 have hle:=hs.le
 rw[IG,A6]at hle
 have l:(at' f (a+1+A6 dn)).name=x.t.name:=by rw[hx.2.2];rfl
 refine AH (Hr:=[]) AF func189 U ntmps189 [(0,A7 v f)] [] [.sl 0 v,I a,I (a+1+A6 dn)] U (Aj D) (fc 0 E Tm.AV A4) (λ B A=>B5 (σ:=List Tf×List Tf×Int) (λ(p,q,i)=>⟨[(0,A7 v f)],[],[Z 0 (.sl 0 v),Z 1 (I a),Z 2 (I (a+1+A6 dn)),Z 7 (I i)]⟩) (λ(p,q,i)=>dn=p++q/\i=a+1+A6 p/\x.t.name ∉ p.map (·.t.name)) (λ(p,q,i)=>q.length) ([],dn,a+1) U U ⟨rfl,by simp[A6],by simp⟩ ?_) U
 rintro⟨p,q,i⟩ ⟨b,hi,hp⟩
 have h:=congrArg A6 b
 rw[IG]at h
 have n:BW f i (q++x::r):=by
  have:=hs
  rw[b,List.append_assoc]at this
  rw[hi];exact this.skip
 refine A1 U (λ C=>?_) (λ C=>?_)<;>simp only[zb]at C
 ·cases q with
  |nil=>simp[A6]at h;omega
  |cons y q=>
   have G:=n.node
   have s:(at' f i).name=y.t.name:=by rw[G.2.2];rfl
   have z:=SP n
   have H:=y.size_pos
   rw[A6]at h
   refine G4 U BM Ac (G5 U ?_)
   refine A1 U (λ j=>?_) (λ j=>?_)<;>simp only[zb]at j
   ·rw[s,l]at j
    refine A2 A U U U λ w M k=>⟨?_,k.st.low⟩
    rw[decide_eq_true (by rw[b];simp[j])];rfl
   ·rw[s,l]at j
    refine AJ U call112 U U (λ _ w M k=>aA f v i M w k.st.sat (k.sl 0 U) F Aa Aa) U ?_
    refine AX (p++[y],q,GZ f i) U U ⟨by rw[b];simp,by rw[z,hi,IG,A6,A6];omega,?_⟩ (by show q.length<(y::q).length;simp)
    simp only[List.map_append,List.map_cons,List.map_nil,List.mem_append,List.mem_singleton,not_or]
    exact⟨hp,λ e=>j e.symm⟩
 ·have J:q=[]:=by
   cases q with
   |nil=>rfl
   |cons y q=>rw[A6]at h;have:=y.size_pos;omega
  subst J
  rw[List.append_nil]at b
  subst b
  refine A2 A U U U λ w M k=>⟨?_,k.st.low⟩
  rw[decide_eq_false hp];rfl
theorem Ax7(f:Fl)(v:Value)(a:Int)(x:Tf)(z:List Tf)(M:Mem)(w:World)(hM:Sat w M)(hv:Sl M 11 f.length v (f.flatMap Tm.cells))(W:len f<=1048576)(hs:BW f a (x::z))(P: ∀t∈f,len t.name<=1048576):
    Calls prog 164 [v,i64 a].toArray w λ e w'=>e= .returned (.bool (EM x.t [] x.ps))/\Ext w w':=by
 have hx:=hs.node
 have Q:=hs.SO
 have hle:=hs.le
 rw[A6,Tf.size_eq]at hle
 have l:(at' f a).op=x.t.op:=by rw[hx.2.2];rfl
 have hxm:(at' f a).many=len x.ps:=by rw[hx.2.2];rfl
 have E:EG (at' f a)=EG x.t:=by rw[hx.2.2];rfl
 have hlp:=A9 x.ps
 have hls:=MI x.ps
 refine AH (Hr:=[]) AF func164 U ntmps164 [(0,A7 v f)] [] [.sl 0 v,I a] U (Aj hM) (fc 0 hv Tm.AV A4) (λ B R=>BA 1 U zeroValue48 U λ X=>B5 (σ:=List Tf×List Tf×Int) (λ(p,q,i)=>⟨[(0,A7 v f)],[(1,.box X [I (at' f a).op,I (at' f a).many,.v (str (at' f a).name),.v (str (at' f a).s),I (at' f a).n,I (at' f a).c.kind,I (at' f a).c.many,.v (str (at' f a).c.name),.v (str (at' f a).c.s),.v (.bool (at' f a).c.neg),I (at' f a).c.e] 48)],[Z 0 (.sl 0 v),Z 1 (I a),Z 5 (.bx 1 X 0),Z 6 (I i),Z 7 (I (len p))]⟩) (λ(p,q,i)=>x.ps=p++q/\i=a+1+A6 p/\EM x.t [] x.ps=EM x.t p q) (λ(p,q,i)=>q.length) ([],x.ps,a+1) U U ⟨rfl,by simp[A6],rfl⟩ ?_) U
 rintro⟨p,q,i⟩ ⟨k,hi,A⟩
 have F:=congrArg A6 k
 rw[IG]at F
 have G:=congrArg len k
 rw[AQ]at G
 have hl0:=A9 p
 have hq0:=A9 q
 have H:BW f i (q++z):=by
  have:=Q
  rw[k,List.append_assoc]at this
  rw[hi];exact this.skip
 refine A1 U (λ h2=>?_) (λ h2=>?_)<;>simp only[zb]at h2
 ·cases q with
  |nil=>rw[len_nil]at G;omega
  |cons y q=>
   have J:=H.node
   have K:(at' f i).op=y.t.op:=by rw[J.2.2];rfl
   have L:(at' f i).name=y.t.name:=by rw[J.2.2];rfl
   have N:EG (at' f i)=EG y.t:=by rw[J.2.2];rfl
   have S:=SP H
   have hys:=y.size_pos
   have hyl:=P _ (at_mem J.1 J.2.1)
   rw[A6]at F
   have O:BW f (a+1) (p++y::(q++z)):=by rw[k]at Q;simpa using Q
   refine BA 2 U zeroValue48 U λ b2=>?_
   refine G4 U BM Ac ?_
   refine HB U call132 U U (λ _ w M b=>iO (at' f i) w) U ?_
   refine HB U call132 U U (λ _ w M b=>iO (at' f a) w) U ?_
   refine G5 U ?_
   refine A1 U (λ D=>?_) (λ D=>?_)
   ·rw[N,E,l,K]at D
    refine A2 R U U U λ w M b=>⟨?_,b.st.low⟩
    rw[A,EM]
    unfold JV
    rw[if_pos (by rw[VI];exact D)];rfl
   rw[N,E,l,K]at D
   refine AJ U call125 U U (λ _ w M b=>XJ (at' f i).name w Aa) U ?_
   refine AJ U call189 U U (λ _ w M b=>by have:=Ax6 f v a p y (q++z) M w b.st.sat (b.sl 0 U) W hs.1 O;rw[<-hi]at this;exact this) U ?_
   refine A1 U (λ j=>?_) (λ j=>?_)<;>simp only[zb]at j
   ·rw[l,L]at j
    refine A2 R U U U λ w M b=>⟨?_,b.st.low⟩
    rw[A,EM]
    unfold JV
    rw[if_neg (by rw[VI,D];decide),if_pos (by rcases j with j|j;exact .inl j;exact .inr ⟨j.1,j.2⟩)];rfl
   ·rw[l,L]at j
    have T:JV x.t p y=true:=by
     unfold JV
     rw[if_neg (by rw[VI,D];decide),if_neg]
     rintro(⟨V,C⟩|⟨V,C⟩)
     ·rcases j.1 with h|h
      ·exact V h
      ·exact C h
     ·rcases j.2 with h|h
      ·exact h V
      ·rcases C with C|C
       ·rw[h.1]at C;cases C
       ·exact h.2 C
    refine AJ U call112 U U (λ _ w M b=>aA f v i M w b.st.sat (b.sl 0 U) W Aa Aa) U ?_
    refine AX (p++[y],q,GZ f i) U (by dsimp only;rw[AQ];rfl) ⟨by rw[k];simp,by rw[S,hi,IG,A6,A6];omega,?_⟩ (by show q.length<(y::q).length;simp)
    rw[A,EM,T];rfl
 ·have hq:q=[]:=SM Aa
  subst hq
  refine A2 R U U U λ w M b=>⟨?_,b.st.low⟩
  rw[A,EM];rfl
end Go.Proofs.YtnoegalemkbbbaaGreatDoor
