/- Lemmas for the card. -/
import Derived.Test.YtnoegalemkbbbaaGreatDoorKv17
set_option linter.unusedVariables false
set_option linter.unusedSimpArgs false
set_option maxRecDepth 100000
set_option maxRecDepth 100000
namespace Go.Eng
open Go.RowKit
abbrev JO(s:A0):Tm:= { AD 1 with s:=s}
theorem iI(v:Tf)(s:A0):FE v s=true↔(v.named []).node=JO s:=by
 unfold FE
 rw[decide_eq_true_iff]
 constructor
 ·intro h
  rw[Tf.GO,Tf.GO]at h
  exact(List.cons.inj h).1
 ·intro h
  have hm:len (v.named []).ps=0:=by have:=congrArg Tm.many h;exact this
  have hp:(v.named []).ps=[]:=List.eq_nil_of_length_eq_zero (by unfold len at hm;omega)
  rw[Tf.GO,h,hp];rfl
theorem uU{v:Tf}{i:Int}(h:FE v C2=true):GC v i=(MS,i):=by unfold GC;rw[if_pos h]
theorem uV{v a b:Tf}{i:Int}(h0:FE v C2=false)(ho:v.t.op=4)(e:v.ps=[a,b])(h:FE a C2=true):GC v i=(b.named [],i+2):=by
 unfold GC
 rw[if_neg (by rw[h0];decide),if_pos ⟨ho,by rw[e];exact h⟩]
 unfold AO;rw[e];rfl
theorem Au0{v:Tf}{i:Int}(h0:FE v C2=false)(h: ¬(v.t.op=4/\FE (at' v.ps 0) C2=true)):GC v i=(default,-1):=by
 unfold GC
 rw[if_neg (by rw[h0];decide),if_neg h]
def MZ(p:Tf×Int):Fl:=if 0<=p.2 then p.1.flat else []
theorem iJ{g a b:Tf}(ho:g.t.op=8)(e:g.ps=[a,b]):CO g=
  if a.t.name=C8/\b.t.name=C2 then(if FE a C8=true then GC b (1+a.size)else(default,-1))
  else if a.t.name=C2/\b.t.name=C8 then(if FE b C8=true then GC a 1 else(default,-1))else(default,-1):=by
 unfold CO
 rw[if_neg (by rw[e];simp[ho,len]),e]
 rfl
end Go.Eng
namespace Go.Proofs.YtnoegalemkbbbaaGreatDoor
open Go.Proofs.Tryz
open Go.Eng Go.RowKit
theorem Au1{w0 wv:World}{M0 M:Mem}{Rs:List HO}(g:Tf)(v:Value)(hg:g.AS)(hS:St w0 M0 wv M Rs)(hl:(A7 v g.flat).ok M)(hb:g.size<=16777216):
    Calls prog 144 [v].toArray wv (BJ w0 M0 M Rs (λ h:AI=>.tuple #[h.v,i64 (CO g).2]) (λ _=>True) (λ h=>[(0,A7 h.v (MZ (CO g)))]) λ _=>[]):=by
 have hgz:=D3 g
 have hgp:=g.size_pos
 have hge:=g.size_eq
 have hop:(at' g.flat 0).op=g.t.op:=by rw[g.DR];rfl
 have hmn:(at' g.flat 0).many=len g.ps:=by rw[g.DR];rfl
 have A: ∀ {w:World} {M':Mem},(CO g).2= -1->M.le M'->St w0 M0 w M' Rs->BJ w0 M0 M Rs (λ h:AI=>.tuple #[h.v,i64 (CO g).2]) (λ _=>True) (λ h=>[(0,A7 h.v (MZ (CO g)))]) (λ _=>[]) (.returned (.tuple #[.slice none 0 0,i64 (-1)])) w:=λ{w M'} h1 F s=>by
  refine⟨⟨none,0,0⟩,M',by rw[h1],trivial,F,s,?_⟩
  have e:MZ (CO g)=[]:=by unfold MZ;rw[if_neg (by rw[h1];decide)]
  rw[e]
  exact AH ⟨Sl.nil M' 11,Tm.AT,trivial⟩ A4
 refine AJ (Hr:=Rs) AG func144 U ntmps144 [(0,A7 v g.flat)] [] [.sl 0 v] U hS (AH hl A4) (λ B hB=>?_) U
 refine A1 U (λ P=>?_) (λ P=>?_)<;>simp only[zb]at P<;>rw[hop,hmn]at P
 ·exact A2 hB U U U λ w M' q=>A (by unfold CO;rw[if_pos Aa]) q.le (q.B9 [] U)
 obtain⟨a,b,e⟩:=i7 (l:=g.ps) Aa
 have ho:g.t.op=8:=by omega
 have Q:=iJ ho e
 have ha:a.AS:=hg.kids a (by rw[e];simp)
 have hbg:b.AS:=hg.kids b (by rw[e];simp)
 have T:b.t.name≠a.t.name:=λ h=>(hg.L9 [a] b [] (by rw[e];rfl)).d ho (by rw[h];simp)
 rw[e,A6,A6,A6]at hge
 have hpn:DW g=[(a.named []).flat,(b.named []).flat]:=by rw[PC];unfold AO;rw[e];rfl
 have hza:=D3 (a.named [])
 have hzb:=D3 (b.named [])
 rw[Tf.DX]at hza hzb
 have hgf:g.flat=g.node::(a.flat++(b.flat++[])):=by rw[Tf.GO,e];rfl
 have hn1:(at' g.flat 1).name=a.t.name:=by rw[hgf,Tf.GO a];rfl
 have hn2:(at' g.flat (1+(a.size:Int))).name=b.t.name:=by
  have:=iG (g.node::a.flat) b.flat [] (j:=0) Aa b.ER
  rw[Int.add_zero,AM,show len a.flat=a.size from D3 a]at this
  have e3:g.flat=(g.node::a.flat)++(b.flat++[]):=hgf
  rw[e3,show(1+(a.size:Int))=(a.size:Int)+1 by omega,this,b.DR];rfl
 refine AR [] (λ g:Value×List AI=>.sl 4 g.1) [4] (λ _=>[]) U U call77 U U (λ w M hS hF=>SF hS (hF.get (k:=0) U) Aa) λ K hgg=>?_
 have hgl2:len K.2=2:=by rw[hgg,e];rfl
 refine DU 6 (A7 (.slice none 0 0) []) (λ w M q=>⟨Sl.nil M 11,Tm.AT,trivial⟩) <|CK U Ad Aa <|KX 6 6 U ?_
 refine B5 (σ:=Nat×Int×Int×Value×Fl) (λ(k,pl,D,u,vx)=>⟨[(0,A7 v g.flat),(4,C7 K.1 K.2 (DW g)),(6,A7 u vx)],[],[Z 0 (.sl 0 v),Z 4 (I pl),Z 5 (I D),Z 6 (.sl 6 u),Z 23 (.sl 4 K.1),Z 24 (I (len K.2)),Z 25 (I k)]⟩)
  (λ(k,pl,D,u,vx)=>(k=0/\pl=1/\D= -1)\/(k=1/\pl=1+a.size/\((a.t.name=C8/\FE a C8=true/\D= -1)\/(a.t.name=C2/\D=1/\vx=(a.named []).flat)))\/(k=2/\ ∃x,x.AS/\(x.named []).flat=vx/\CO g=GC x D/\1<=D/\D<=16777216)) (λ(k,pl,D,u,vx)=>2-k) (0,1,-1,.slice none 0 0,[]) U U (.inl ⟨rfl,rfl,rfl⟩) ?_
 rintro⟨k,pl,D,u,vx⟩ hI
 dsimp only at hI
 refine A1 U (λ hb2=>?_) (λ hb2=>?_)<;>simp only[zb]at hb2
 ·obtain⟨x,hxk,hpl0,J,hnx⟩: ∃x:Tf,at' (DW g) (k:Int)=(x.named []).flat/\(0<=pl/\pl+x.size<=g.size)/\(k=0/\x=a/\pl=1\/k=1/\x=b/\pl=1+a.size)/\(at' g.flat pl).name=x.t.name:=by
   rcases hI with⟨h1,F,s⟩|⟨h1,F,s⟩|⟨h1,s⟩
   ·subst h1;subst F;exact⟨a,by rw[hpn];rfl,⟨Aa,Aa⟩,.inl ⟨rfl,rfl,rfl⟩,hn1⟩
   ·subst h1;subst F;exact⟨b,by rw[hpn];rfl,⟨Aa,Aa⟩,.inr ⟨rfl,rfl,rfl⟩,hn2⟩
   ·omega
  have hxp:=x.size_pos
  have hzx:=D3 (x.named [])
  rw[Tf.DX]at hzx
  have R: ∀ {M:Mem},(C7 K.1 K.2 (DW g)).ok M->(A7 (at' K.2 (k:Int)).v (x.named []).flat).ok M:=λ h=>by
   have:=F9 h (k:=(k:Int)) Aa Aa
   rw[hxk]at this;exact this
  refine A1 U (λ C=>?_) (λ C=>?_)<;>simp only[zb]at C<;>rw[hnx]at C
  ·refine BA 9 [JO C8] Tm.cells 11 48 Tm.AT U U Ah U λ v9=>AK U call176 U U (λ _ w M q=>At5 (x.named []).flat [JO C8] (at' K.2 (k:Int)).v v9 w M q.st.sat (R (q.f.get (k:=4) U)) (q.f.get (k:=9) U)) U <|A1 U (λ z=>?_) (λ z=>?_)
   ·have L:FE x C8=false:=by
     have: ¬(x.named []).flat=[JO C8]:=by simpa using z
     exact decide_eq_false this
    refine A2 hB U U U λ w M' q=>A ?_ q.le (q.B9 [] U)
    rw[Q]
    rcases J with⟨_,rfl,_⟩|⟨_,rfl,_⟩
    ·rw[L,C];simp
    ·rw[L,C];simp
   ·have y:FE x C8=true:=by
     have:(x.named []).flat=[JO C8]:=by simpa using z
     exact decide_eq_true this
    refine AU (W:=.t) (I (len (x.named []).flat)) U U (λ w M q=>PV.O7 (R (q.f.get (k:=4) U)).sl (A8 (v:=.v (at' K.2 (k:Int)).v) (E:=[]) U) ⟨_,underlying23⟩) <|AX (k+1,pl+len (x.named []).flat,D,u,vx) U U ?_ (by show 2-(k+1)<2-k;omega)
    rcases J with⟨X,rfl,N⟩|⟨X,rfl,N⟩
    ·rcases hI with⟨h1,F,s⟩|⟨h1,F,s⟩|⟨h1,s⟩
     ·exact .inr (.inl ⟨Aa,Aa,.inl ⟨C,y,s⟩⟩)
     ·omega
     ·omega
    ·rcases hI with⟨h1,F,s⟩|⟨h1,F,s|s⟩|⟨h1,s⟩
     ·omega
     ·exact absurd (C.trans s.1.symm) T
     ·refine .inr (.inr ⟨Aa,a,ha,s.2.2.symm,?_,Aa,Aa⟩)
      rw[Q,C,s.1,y,s.2.1];rfl
     ·omega
  refine A1 U (λ z=>?_) (λ z=>?_)<;>simp only[zb]at z<;>rw[hnx]at z
  ·refine CK U Ad Ae <|DU 6 (A7 (at' K.2 (k:Int)).v (x.named []).flat) (λ w M q=>R (q.f.get (k:=4) U)) (KX 6 6 U ?_)
   refine AU (W:=.t) (I (len (x.named []).flat)) U U (λ w M q=>PV.O7 (R (q.f.get (k:=4) U)).sl (A8 (v:=.v (at' K.2 (k:Int)).v) (E:=[]) U) ⟨_,underlying23⟩) <|AX (k+1,pl+len (x.named []).flat,pl,(at' K.2 (k:Int)).v,(x.named []).flat) U U ?_ (by show 2-(k+1)<2-k;omega)
   rcases J with⟨X,rfl,N⟩|⟨X,rfl,N⟩
   ·exact .inr (.inl ⟨Aa,Aa,.inr ⟨z,N,rfl⟩⟩)
   ·rcases hI with⟨h1,F,s⟩|⟨h1,F,s|s⟩|⟨h1,s⟩
    ·omega
    ·refine .inr (.inr ⟨Aa,x,hbg,rfl,?_,Aa,Aa⟩)
     rw[Q,z,s.1,s.2.1,N];rfl
    ·exact absurd (z.trans s.1.symm) T
    ·omega
  ·refine A2 hB U U U λ w M' q=>A ?_ q.le (q.B9 [] U)
   rw[Q]
   rcases J with⟨_,rfl,_⟩|⟨_,rfl,_⟩
   ·rw[if_neg (λ h=>C h.1),if_neg (λ h=>z h.1)]
   ·rw[if_neg (λ h=>z h.2),if_neg (λ h=>C h.2)]
 obtain⟨x,hxg,hxv,O,hf0,hf1⟩: ∃x:Tf,x.AS/\(x.named []).flat=vx/\CO g=GC x D/\1<=D/\D<=16777216:=by
  rcases hI with⟨h1,F,s⟩|⟨h1,F,s⟩|⟨h1,s⟩
  ·omega
  ·omega
  ·exact s
 subst hxv
 have hxz:=D3 (x.named [])
 have hxp:=(x.named []).size_pos
 have hx0:at' (x.named []).flat 0=(x.named []).node:=(x.named []).DR
 have hxe:=(x.named []).size_eq
 have hxo:(at' (x.named []).flat 0).op=x.t.op:=by rw[hx0];cases x;rfl
 have hfi:=iI x C2
 have hlen1:FE x C2=true->len (x.named []).flat=1:=λ h=>by have:=of_decide_eq_true h;rw[this];rfl
 refine BB 10 U zeroValue48 U λ b9=>DN [8,10] 3 (λ _ _ _ _ _ h=>h) U BM U <|AL 8 U U U <|AU (.v (.bool (decide (at' (x.named []).flat 0=JO C2)))) U U (λ w M q=>PV.bin (A8 (v:=TB (at' (x.named []).flat 0)) U) (A8 (v:=TB (JO C2)) U) (λ _ w _=>MH _ _ _ _ w)) <|AE U <|AL 10 U U U <|AE U <|BO U U U ?_
 refine A1 U (λ S=>?_) (λ S=>?_)<;>simp only[zb]at S
 ·have y:FE x C2=true:=hfi.2 (by rw[<-hx0];exact S.2)
  refine BA 11 [AD 0] Tm.cells 11 48 Tm.AT U U Ah U λ v11=>CK U Ad Aa <|RY 11 U λ a11 c11 e11=>?_
  subst e11
  refine A2 hB U U U λ w M' q=>⟨⟨a11,1,c11⟩,M',?_,trivial,q.le,q.B9 [] U,?_⟩
  ·rw[O,uU y];rfl
  ·rw[O,uU y]
   have:MZ (MS,D)=[AD 0]:=by unfold MZ;rw[if_pos (by show 0<=D;omega)];rfl
   rw[this]
   exact AH (q.f.get (k:=11) U) A4
 have L:FE x C2=false:=by
  rw[<-Bool.not_eq_true]
  intro h
  have h1:=hlen1 h
  have F:=hfi.1 h
  rw[<-hx0]at F
  exact S.elim (λ h=>h h1) (λ h=>h F)
 have G:x.t.op=4-> ∃a b,x.ps=[a,b]/\(x.named []).flat=(x.named []).node::(a.flat++b.flat)/\at' (x.named []).flat 1=a.node/\2<len (x.named []).flat/\(FE a C2=true↔a.node=JO C2)/\(FE a C2=true->Eng.sub (x.named []).flat 2 (len (x.named []).flat)=b.flat)/\b.named []=b/\a.named []=a:=λ h4=>by
  obtain⟨a,b,V⟩:=hxg.two (.inl h4)
  have na:a.named []=a:=Tf.JU ((hxg.L9 [] a [b] (by rw[V];rfl)).n Aa)
  have nb:b.named []=b:=Tf.JU ((hxg.L9 [a] b [] (by rw[V];rfl)).n Aa)
  have hf:(x.named []).flat=(x.named []).node::(a.flat++b.flat):=by rw[Tf.GO,Tf.fX,V];show _::(a.flat++(b.flat++[]))=_;rw[List.append_nil]
  have ha1:=a.ER
  have P:=b.ER
  refine⟨a,b,V,hf,by rw[hf,Tf.GO a];rfl,by rw[hf,AM,AQ];omega,by have:=iI a C2;rw[na]at this;exact this,λ h=>?_,nb,na⟩
  have h1:a.flat=[JO C2]:=by have:=of_decide_eq_true h;rw[na]at this;rw[this];rfl
  rw[hf,h1]
  unfold Eng.sub len
  simp
  exact List.take_of_length_le Aa
 refine DN [10,12] 3 (λ _ _ _ _ _ h=>h) U BM U ?_
 have hlen:x.t.op=4->2<len (x.named []).flat:=λ h4=>by obtain⟨_,_,_,_,_,h5,_⟩:=G h4;exact h5
 rw[<-hxo]at hlen
 have hlen2:((at' (x.named []).flat 0).op==4)=false\/2<len (x.named []).flat:=by
  cases hq:(at' (x.named []).flat 0).op==4 with
  |false=>exact .inl U
  |true=>exact .inr (hlen (by simpa using hq))
 refine AL 10 U U U <|AU (.v (.bool (decide (at' (x.named []).flat 1=JO C2)))) U U (λ w M q=>PV.bin (A8 (v:=TB (at' (x.named []).flat 1)) U) (A8 (v:=TB (JO C2)) U) (λ _ w _=>MH _ _ _ _ w)) <|AE U <|AL 12 U U U <|AE U <|BO U U U ?_
 refine A1 U (λ H=>?_) (λ H=>?_)<;>simp only[zb]at H<;>rw[hxo]at H
 ·obtain⟨a',b',V,q1,q2,q3,q4,q5,q6,q7⟩:=G H.1
  have y:FE a' C2=true:=q4.2 (by rw[<-q2];exact H.2)
  have hk:=uV (i:=D) L H.1 V y
  rw[q6]at hk
  refine FO (gd:=none) 12 2 (len (x.named []).flat) U U U ⟨.i64,_,rfl,AF U⟩ U underlying23 sizeOf48 Aa U λ v12=>?_
  rw[q5 y]
  refine CK U Ad Ae <|RY 12 U λ a12 c12 e12=>?_
  subst e12
  refine A2 hB U U U λ w M' q=>⟨⟨a12,b'.flat.length,c12⟩,M',?_,trivial,q.le,q.B9 [] U,?_⟩
  ·rw[O,hk];rfl
  ·rw[O,hk]
   have:MZ (b',D+2)=b'.flat:=by unfold MZ;rw[if_pos (by show 0<=D+2;omega)]
   rw[this]
   exact AH (q.f.get (k:=12) U) A4
 ·refine A2 hB U U U λ w M' q=>A ?_ q.le (q.B9 [] U)
  rw[O,Au0 L ?_]
  rintro⟨h4,h5⟩
  obtain⟨a',b',V,q1,q2,q3,q4,q5,q6,q7⟩:=G h4
  rw[V]at h5
  exact H.elim (λ h=>h h4) (λ h=>h (by rw[q2];exact q4.1 h5))
theorem Au2{n:Nat}(H:R2 n)(g:Tf){w0 wv:World}{M0 M:Mem}{Rs:List HO}(i:Int)(v:Value)(u:AI)(t:Tf)(S:g.size<=n)(hg:g.AS)(A:AV g)(hS:St w0 M0 wv M Rs)(E:Gl w0)(T:(A7 v g.flat).ok M)(V:(A7 u.v t.flat).ok M)(L:B7 t=true)(hs:AV t)(W:t.size*(1+hF g)<=16777216)(X:g.size<=16777216)(hi0:0<=i)(hi1:i+2*g.size+2<=1099511627776):
    Calls prog 89 [v,i64 i,u.v].toArray wv (K5 w0 M0 M Rs (F1 (BH n) g i t)):=by
 have hgz:=D3 g
 have hgp:=g.size_pos
 have hge:=g.size_eq
 have htz:=D3 t
 have htp:=t.size_pos
 have hhp:=KQ g hg
 rw[Nat.mul_add,Nat.mul_one]at W
 have G:(at' t.flat 0).op=t.t.op:=by rw[t.DR];rfl
 have N:(at' g.flat 0).op=g.t.op:=by rw[g.DR];rfl
 have J:g.t.op=4->1<len g.flat/\(at' g.flat 1).op=(at' g.ps 0).t.op:=λ F=>by
  obtain⟨a,b,e⟩:=hg.two (.inl F)
  have hap:=a.ER
  have hbp:=b.ER
  refine⟨?_,by rw[e,Tf.GO,e];show(at' (_::(a.flat++(b.flat++[]))) 1).op=a.t.op;rw[Tf.GO a];rfl⟩
  rw[Tf.GO,e]
  show 1<len (_::(a.flat++(b.flat++[])))
  rw[AM,AQ,AQ];have:=A9 ([]:Fl);omega
 have h14b:((at' g.flat 0).op==4)=false\/1<len g.flat:=by
  cases P:(at' g.flat 0).op==4 with
  |false=>exact .inl U
  |true=>rw[N]at P;exact .inr (J (by simpa using P)).1
 refine AJ (Hr:=Rs) AG func89 U ntmps89 [(0,A7 v g.flat),(1,A7 u.v t.flat)] [] [.sl 0 v,I i,.sl 1 u.v] U hS (AH T (AH V A4)) (λ B q=>?_) U
 refine A1 U (λ s=>?_) (λ s=>?_)<;>simp only[zb]at s<;>rw[G]at s
 ·refine A1 U (λ l=>?_) (λ l=>?_)<;>simp only[zb]at l<;>rw[N]at l
  ·have GI:K3 g=true:=by
    unfold K3
    simp only[Bool.or_eq_true,Bool.and_eq_true,decide_eq_true_eq]
    rcases l with h|⟨h1,h2⟩
    ·exact .inl h
    ·exact .inr ⟨h1,by rw[<-(J h1).2];exact h2⟩
   have P:F1 (BH n) g i t=(LI (BH n) g (i+1) (at' (AN t) 0)).bind λ y _=>.ok (.mk (AD 5) [y]) 0:=by unfold F1;rw[if_pos s,if_pos GI]
   obtain⟨x,e⟩:=B7.one L (.inr Aa)
   have hkl:(AN t).length=1:=by rw[KN Aa,List.length_map,e];rfl
   obtain⟨k1,Q⟩:=MV L hs
   have D:at' (AN t) 0∈AN t:=NU (k:=0) Aa
   have hm0:at' ((AN t).map Tf.flat) 0=(at' (AN t) 0).flat:=MY (k:=0) Aa
   have hkz:=I1 D
   have hte:=t.size_eq
   have hkb:(at' (AN t) 0).size*hF g<=16777216:=Nat.le_trans (Nat.mul_le_mul_right _ (show(at' (AN t) 0).size<=t.size by omega)) Aa
   refine AR [] (λ g:Value×List AI=>.sl 8 g.1) [9] (λ g=>[(8,EG g.1 g.2)]) U U call143 U U (λ w M hS hF=>T4 hS (hF.get (k:=1) U) Aa) λ gg hgg=>?_
   obtain⟨pu,K⟩:=gg
   dsimp only at hgg
   refine C1 8 U <|DU 8 (C7 pu K ((AN t).map Tf.flat)) (λ w M z=>⟨(z.f.get (k:=8) U).sl,CN,(z.f.get (k:=9) U).more⟩) ?_
   have hl8:len K=1:=by unfold len;omega
   rw[P]at q
   refine EI [] [4] (λ _ (h:AI)=>.sl 4 h.v) (λ _ _ _=>[]) q U U call142 U U (List.Sublist.refl _) (λ w M hS hF=>As8 H g (i+1) v (at' K 0) (at' (AN t) 0) S hg A hS E (hF.get (k:=0) U) (by have:=F9 (hF.get (k:=8) U) (k:=0) Aa Aa;rw[hm0]at this;exact this) (Q _ D).1 (Q _ D).2 GI hkb Aa Aa) λ y j R q F _=>?_
   have hiy:=uF hg A GI (W6 n _ (by have:=(MX (i:=i+1) hg A GI).2.2.2.2.2.2.1;omega) (MX (i:=i+1) hg A GI).2.2.1 (MX (i:=i+1) hg A GI).2.2.2.2.1) R (Q _ D).1 (Q _ D).2
   have hyz:=D3 y
   have hys:=hiy.size
   exact AR [] (λ h:AI=>.sl 10 h.v) [] (λ h=>[(10,EA h.v (Tf.mk (AD 5) [y]).flat)]) U U call141 U U (λ w M hS hF=>Am8 F y hS (hF.get (k:=4) U) Aa) λ h10 _=>C1 10 U <|A2 q U U U λ w M' z=>⟨h10,M',rfl,trivial,z.le,z.B9 [] U,AH (z.f.get (k:=10) U) A4⟩
  ·have GI: ¬K3 g=true:=by
    unfold K3
    simp only[Bool.or_eq_true,Bool.and_eq_true,decide_eq_true_eq]
    rintro(h|⟨h1,h2⟩)
    ·exact l.1 h
    ·exact l.2.elim (λ h=>h h1) (λ h=>h (by rw[(J h1).2];exact h2))
   rw[show F1 (BH n) g i t=F0 (BH n) g (i+1) t by unfold F1;rw[if_pos s,if_neg GI],<-PR.ret (F0 (BH n) g (i+1) t)]at q
   exact EI [] [4] (λ _ (h:AI)=>.sl 4 h.v) (λ _ _ _=>[]) q U U call91 U U (List.Sublist.refl _) (λ w M hS hF=>ZR H g (i+1) v u t S hg A hS E (hF.get (k:=0) U) (hF.get (k:=1) U) L hs Aa Aa Aa Aa) λ y j R q F _=>A2 q U U U λ w M' z=>⟨F,M',rfl,trivial,z.le,z.B9 [] U,AH (z.f.get (k:=4) U) A4⟩
 refine A1 U (λ l=>?_) (λ l=>?_)<;>simp only[zb]at l<;>rw[G]at l
 ·rw[show F1 (BH n) g i t=F0 (BH n) g (i+1) t by unfold F1;rw[if_neg s,if_pos l],<-PR.ret (F0 (BH n) g (i+1) t)]at q
  exact EI [] [4] (λ _ (h:AI)=>.sl 4 h.v) (λ _ _ _=>[]) q U U call91 U U (List.Sublist.refl _) (λ w M hS hF=>ZR H g (i+1) v u t S hg A hS E (hF.get (k:=0) U) (hF.get (k:=1) U) L hs Aa Aa Aa Aa) λ y j R q F _=>A2 q U U U λ w M' z=>⟨F,M',rfl,trivial,z.le,z.B9 [] U,AH (z.f.get (k:=4) U) A4⟩
 refine A1 U (λ C=>?_) (λ C=>?_)<;>simp only[zb]at C<;>rw[G]at C
 ·refine AR [] (λ h:AI=>.tu [.sl 5 h.v,I (CO g).2]) [5] (λ _=>[]) (Fg:=λ h=>[(0,A7 h.v (MZ (CO g)))]) (pu:=λ _=>True) U U call144 U U (λ w M hS hF=>Au1 g v hg hS (hF.get (k:=0) U) X) λ h5 _=>?_
  refine A1 U (λ O=>?_) (λ O=>?_)<;>simp only[zb]at O
  ·obtain⟨q1,q2,q3,q4,q5⟩:=ZM hg A Aa
   have hkp:MZ (CO g)=(CO g).1.flat:=if_pos Aa
   rw[show F1 (BH n) g i t=F0 (BH n) (CO g).1 (i+1+(CO g).2) t by unfold F1;rw[if_neg s,if_neg l,if_pos C,if_pos Aa],<-PR.ret (F0 (BH n) (CO g).1 (i+1+(CO g).2) t)]at q
   have hsb:t.size*hF (CO g).1<=16777216:=Nat.le_trans (Nat.mul_le_mul_left _ q4) Aa
   exact EI [] [4] (λ _ (h:AI)=>.sl 4 h.v) (λ _ _ _=>[]) q U U call91 U U (List.Sublist.refl _) (λ w M hS hF=>ZR H (CO g).1 (i+1+(CO g).2) h5.v u t Aa q1 q2 hS E (by have:=hF.get (k:=5) U;rw[hkp]at this;exact this) (hF.get (k:=1) U) L hs Aa hsb Aa Aa) λ y j R q F _=>A2 q U U U λ w M' z=>⟨F,M',rfl,trivial,z.le,z.B9 [] U,AH (z.f.get (k:=4) U) A4⟩
  ·rw[show F1 (BH n) g i t= .er i 1 by unfold F1;rw[if_neg s,if_neg l,if_pos C,if_neg Aa]]at q
   exact EW [] U U call81 U U (λ w M hS hF=>FL i 1 hS) λ a w M hs hS hle=>E7 _ (q.p ⟨M,rfl,hS.drop _ (List.Sublist.refl _),hle⟩ a hs)
 ·rw[show F1 (BH n) g i t= .er i 1 by unfold F1;rw[if_neg s,if_neg l,if_neg C]]at q
  exact EW [] U U call81 U U (λ w M hS hF=>FL i 1 hS) λ a w M hs hS hle=>E7 _ (q.p ⟨M,rfl,hS.drop _ (List.Sublist.refl _),hle⟩ a hs)
theorem Au3{w0 C:World}{M0 M:Mem}{Rs:List HO}{g n c:Nat}{xs:List Value}{i:Nat}(hS:St w0 M0 C M (.priv 9 1 (.slice (some ⟨g,0,none⟩) n c) n xs::Rs))(hi:i<n)(K:n<=1099511627)(q: ∀u∈xs,u.oneCell'=true):
    Calls prog 154 [.slice (some ⟨g,0,none⟩) n c,.int .i64 i,.int .i64 (i+1)].toArray C (BJ w0 M0 M Rs (λ _:Unit=>.slice (some ⟨g,0,none⟩) (n-1) c) (λ _=>True) (λ _=>[]) λ _=>[.priv 9 1 (.slice (some ⟨g,0,none⟩) (n-1) c) (n-1) (xs.eraseIdx i)]):=by
 obtain⟨_,_,s,D,F⟩:=hS.rowAt (i:=0) rfl
 have G:maxLen=9223372036854775807:=rfl
 obtain⟨a,H,y⟩: ∃a:Addr,OO g n c 1 (i+1)= .slice (some a) (n-(i+1)) (c-(i+1))/\(i+1<n->a=⟨g,i+1,none⟩):=by
  unfold OO
  split
  ·exact⟨_,rfl,λ h=>by omega⟩
  ·exact⟨_,rfl,λ _=>by rw[Nat.mul_one]⟩
 refine AJ (Hr:=Rs) AG func154 U ntmps154 [] [(0,.ho (.priv 9 1 (.slice (some ⟨g,0,none⟩) n c) n xs))] [.v (.slice (some ⟨g,0,none⟩) n c),.v (.int .i64 i),.v (.int .i64 (i+1))] U hS A4 (λ B J=>AU (W:=.t) (I n) U U (λ w M b=>OP U underlying103) <|AU (W:=.t) (.v (sliced (some ⟨g,0,none⟩) (i:Int).toNat ((i:Int)+1).toNat (n:Int).toNat 1)) U U (λ w M b=>PV.nE _ (A8 (v:=.v (.slice (some ⟨g,0,none⟩) n c)) (E:=[]) U) (A8 (v:=.v (.int .i64 i)) (E:=[]) U) (A8 (v:=.v (.int .i64 (i+1))) (E:=[]) U) (A8 (v:=I n) (E:=[]) U) underlying103 sizeOf9 Aa U) ?_) U
 refine A1 U (λ e=>?_) (λ e=>?_)<;>simp only[zb]at e
 ·omega
 refine AU (W:=.t) (I n) U U (λ w M b=>OP U underlying103) <|Y8 6 U BM Ac <|OQ (W:=.t) (.v (.slice (some ⟨g,0,none⟩) i c)) U U (λ w M b=>Y6 i U U underlying103 sizeOf9 Aa U) <|OQ (W:=.t) (.v (.slice (some a) (n-(i+1)) (c-(i+1)))) U U (λ w M b=>Go.Eng.EG (i+1) U U underlying103 sizeOf9 Aa Aa H.symm) <|Y9 (λ _ _ _ _ _ h=>h) U ?_
 have z:(xs.drop (i+1)).length=n-(i+1):=by rw[List.length_drop,s];omega
 refine nG 0 i (n-(i+1)) (cs:=xs.drop (i+1)) U U U underlying103 type9 U (by rw[z,Nat.mul_one]) (λ w M b j u hu=>by
  have L:=(List.getElem?_eq_some_iff.1 hu).1
  rw[y Aa]
  exact SA b (kk:=0) (o:=i+1) U hu) (by rw[z];omega) Aa (λ u hu=>q u (List.mem_of_mem_drop hu)) ?_
 rw[Nat.mul_one]
 have A:i+(n-(i+1))=n-1:=by omega
 rw[A]
 refine AU (W:=.t) (I ((n-1:Nat):Int)) U U (λ w M b=>OP U underlying103) ?_
 refine AU (W:=.t) (.v (.slice (some ⟨g,n-1,none⟩) 1 (c-(n-1)))) U U (λ w M b=>PV.nF _ (A8 (v:=.v (.slice (some ⟨g,0,none⟩) (n-1) c)) (E:=[]) U) (A8 (v:=I ((n-1:Nat):Int)) (E:=[]) U) (A8 (v:=I n) (E:=[]) U) underlying103 sizeOf9 Aa (by
  unfold sliced
  rw[Int.toNat_natCast,Int.toNat_natCast,if_neg Aa,show n-(n-1)=1 by omega,Nat.mul_one]
  show Value.slice _ _ _=Value.slice _ _ _
  simp[F2])) ?_
 refine nH 0 (n-1) 1 U U U underlying103 zeroValue9 U U Aa (by unfold C3;simp only[List.length_append,List.length_take,List.length_drop];omega) <|nI 0 (n-1) U Aa <|A2 J U U U λ w M' b=>⟨(),M',rfl,trivial,b.le,?_,A4⟩
 have k:(C3 (C3 xs i (xs.drop (i+1))) (n-1) (List.replicate 1 (str []))).take ((n-1)*1)=xs.eraseIdx i:=by
  rw[List.eraseIdx_eq_take_drop_succ,Nat.mul_one]
  unfold C3
  have h1:(xs.take i++xs.drop (i+1)).length=n-1:=by rw[List.length_append,List.length_take,z];omega
  rw[List.take_append_of_le_length (l₁:=xs.take i++xs.drop (i+1)) Aa,List.take_of_length_le (l:=xs.take i++xs.drop (i+1)) Aa,List.append_assoc,List.take_append_of_le_length Aa,List.take_of_length_le Aa]
 have:=b.st
 rw[<-k]
 exact this
theorem Au4{w0 C:World}{M0 M:Mem}{Rs:List HO}{g n c:Nat}{xs:List Value}{i:Nat}(hS:St w0 M0 C M (.priv 25 1 (.slice (some ⟨g,0,none⟩) n c) n xs::Rs))(hi:i<n)(K:n<=1099511627)(q: ∀u∈xs,u.oneCell'=true):
    Calls prog 155 [.slice (some ⟨g,0,none⟩) n c,.int .i64 i,.int .i64 (i+1)].toArray C (BJ w0 M0 M Rs (λ _:Unit=>.slice (some ⟨g,0,none⟩) (n-1) c) (λ _=>True) (λ _=>[]) λ _=>[.priv 25 1 (.slice (some ⟨g,0,none⟩) (n-1) c) (n-1) (xs.eraseIdx i)]):=by
 obtain⟨_,_,s,D,F⟩:=hS.rowAt (i:=0) rfl
 have G:maxLen=9223372036854775807:=rfl
 obtain⟨a,H,y⟩: ∃a:Addr,OO g n c 1 (i+1)= .slice (some a) (n-(i+1)) (c-(i+1))/\(i+1<n->a=⟨g,i+1,none⟩):=by
  unfold OO
  split
  ·exact⟨_,rfl,λ h=>by omega⟩
  ·exact⟨_,rfl,λ _=>by rw[Nat.mul_one]⟩
 refine AJ (Hr:=Rs) AG func155 U ntmps155 [] [(0,.ho (.priv 25 1 (.slice (some ⟨g,0,none⟩) n c) n xs))] [.v (.slice (some ⟨g,0,none⟩) n c),.v (.int .i64 i),.v (.int .i64 (i+1))] U hS A4 (λ B J=>AU (W:=.t) (I n) U U (λ w M b=>OP U underlying53) <|AU (W:=.t) (.v (sliced (some ⟨g,0,none⟩) (i:Int).toNat ((i:Int)+1).toNat (n:Int).toNat 1)) U U (λ w M b=>PV.nE _ (A8 (v:=.v (.slice (some ⟨g,0,none⟩) n c)) (E:=[]) U) (A8 (v:=.v (.int .i64 i)) (E:=[]) U) (A8 (v:=.v (.int .i64 (i+1))) (E:=[]) U) (A8 (v:=I n) (E:=[]) U) underlying53 sizeOf25 Aa U) ?_) U
 refine A1 U (λ e=>?_) (λ e=>?_)<;>simp only[zb]at e
 ·omega
 refine AU (W:=.t) (I n) U U (λ w M b=>OP U underlying53) <|Y8 6 U BM Ac <|OQ (W:=.t) (.v (.slice (some ⟨g,0,none⟩) i c)) U U (λ w M b=>Y6 i U U underlying53 sizeOf25 Aa U) <|OQ (W:=.t) (.v (.slice (some a) (n-(i+1)) (c-(i+1)))) U U (λ w M b=>Go.Eng.EG (i+1) U U underlying53 sizeOf25 Aa Aa H.symm) <|Y9 (λ _ _ _ _ _ h=>h) U ?_
 have z:(xs.drop (i+1)).length=n-(i+1):=by rw[List.length_drop,s];omega
 refine nG 0 i (n-(i+1)) (cs:=xs.drop (i+1)) U U U underlying53 type25 U (by rw[z,Nat.mul_one]) (λ w M b j u hu=>by
  have L:=(List.getElem?_eq_some_iff.1 hu).1
  rw[y Aa]
  exact SA b (kk:=0) (o:=i+1) U hu) (by rw[z];omega) Aa (λ u hu=>q u (List.mem_of_mem_drop hu)) ?_
 rw[Nat.mul_one]
 have A:i+(n-(i+1))=n-1:=by omega
 rw[A]
 refine AU (W:=.t) (I ((n-1:Nat):Int)) U U (λ w M b=>OP U underlying53) ?_
 refine AU (W:=.t) (.v (.slice (some ⟨g,n-1,none⟩) 1 (c-(n-1)))) U U (λ w M b=>PV.nF _ (A8 (v:=.v (.slice (some ⟨g,0,none⟩) (n-1) c)) (E:=[]) U) (A8 (v:=I ((n-1:Nat):Int)) (E:=[]) U) (A8 (v:=I n) (E:=[]) U) underlying53 sizeOf25 Aa (by
  unfold sliced
  rw[Int.toNat_natCast,Int.toNat_natCast,if_neg Aa,show n-(n-1)=1 by omega,Nat.mul_one]
  show Value.slice _ _ _=Value.slice _ _ _
  simp[F2])) ?_
 refine nH 0 (n-1) 1 U U U underlying53 zeroValue25 U U Aa (by unfold C3;simp only[List.length_append,List.length_take,List.length_drop];omega) <|nI 0 (n-1) U Aa <|A2 J U U U λ w M' b=>⟨(),M',rfl,trivial,b.le,?_,A4⟩
 have k:(C3 (C3 xs i (xs.drop (i+1))) (n-1) (List.replicate 1 (.slice none 0 0:Value))).take ((n-1)*1)=xs.eraseIdx i:=by
  rw[List.eraseIdx_eq_take_drop_succ,Nat.mul_one]
  unfold C3
  have h1:(xs.take i++xs.drop (i+1)).length=n-1:=by rw[List.length_append,List.length_take,z];omega
  rw[List.take_append_of_le_length (l₁:=xs.take i++xs.drop (i+1)) Aa,List.take_of_length_le (l:=xs.take i++xs.drop (i+1)) Aa,List.append_assoc,List.take_append_of_le_length Aa,List.take_of_length_le Aa]
 have:=b.st
 rw[<-k]
 exact this
end Go.Proofs.YtnoegalemkbbbaaGreatDoor
namespace Go.Eng
open Go.RowKit
def R3(hs xs:List AI)(k:Nat):Prop:=xs.length=hs.length/\ ∀j,j<hs.length->at' xs (j:Int)=if j<k\/hs.length-k<=j then at' hs ((hs.length-1-j:Nat):Int)else at' hs (j:Int)
theorem uW{α:Type}[Inhabited α]{l:List α}{k j:Nat}{y:α}(q:k<l.length)(s:j<l.length):at' (l.set k y) (j:Int)=if j=k then y else at' l (j:Int):=by
 obtain⟨h1,b⟩:=CJ (l.set k y) (i:=(j:Int)) Aa (by unfold len;rw[List.length_set];omega)
 obtain⟨w,n⟩:=CJ l (i:=(j:Int)) Aa (by unfold len;omega)
 rw[b,n]
 simp only[Int.toNat_natCast,List.getElem_set]
 split
 ·rename_i h;rw[if_pos h.symm]
 ·rename_i h;rw[if_neg (λ e=>h e.symm)]
theorem R3.step {hs xs:List AI}{k:Nat}(h:R3 hs xs k)(l:k<hs.length-1-k):R3 hs ((xs.set k (at' xs ((hs.length-1-k:Nat):Int))).set (hs.length-1-k) (at' xs (k:Int))) (k+1):=by
 obtain⟨h1,b⟩:=h
 refine⟨by rw[List.length_set,List.length_set,h1],λ j i=>?_⟩
 rw[uW (by rw[List.length_set];omega) (by rw[List.length_set];omega),uW Aa Aa]
 have e:=b k Aa
 have e2:=b (hs.length-1-k) Aa
 rw[if_neg Aa]at e e2
 by_cases c1:j=hs.length-1-k
 ·rw[if_pos c1,if_pos Aa,e,c1];congr 1;omega
 ·rw[if_neg c1]
  by_cases c2:j=k
  ·rw[if_pos c2,if_pos Aa,e2,c2]
  ·rw[if_neg c2,b j i]
   by_cases c3:j<k\/hs.length-k<=j
   ·rw[if_pos c3,if_pos Aa]
   ·rw[if_neg c3,if_neg Aa]
theorem R3.done {hs xs:List AI}{k:Nat}(h:R3 hs xs k)(y:hs.length<=2*k+1):xs=hs.reverse:=by
 obtain⟨h1,n⟩:=h
 apply List.ext_getElem (by rw[h1,List.length_reverse])
 intro j q b
 rw[List.length_reverse]at b
 rw[List.getElem_reverse]
 obtain⟨z,s⟩:=CJ xs (i:=(j:Int)) Aa (by unfold len;omega)
 obtain⟨A,w⟩:=CJ hs (i:=((hs.length-1-j:Nat):Int)) Aa (by unfold len;omega)
 have e:=n j b
 have l:at' xs (j:Int)=at' hs ((hs.length-1-j:Nat):Int):=by
  by_cases c:j<k\/hs.length-k<=j
  ·rw[if_pos c]at e;exact e
  ·rw[if_neg c]at e
   rw[e];congr 1;omega
 rw[s,w]at l
 simpa using l
end Go.Eng
namespace Go.Proofs.YtnoegalemkbbbaaGreatDoor
open Go.Proofs.Tryz
open Go.Eng Go.RowKit
theorem Au5{w0 z:World}{M0 M:Mem}{Rs:List HO}(v:Value)(hs:List AI)(hS:St w0 M0 z M (NT v hs::Rs))(G:hs.length<=1099511627):
    Calls prog 182 [v].toArray z (BJ w0 M0 M Rs (λ _:Unit=>.tuple #[]) (λ _=>True) (λ _=>[]) λ _=>[NT v hs.reverse]):=by
 refine AJ (Hr:=Rs) AG func182 U ntmps182 [] [(0,Go.Proofs.YtnoegalemkbbbaaGreatDoor.EG v hs)] [.sl 0 v] U hS A4 (λ B C=>B5 (σ:=Nat×Int×List AI) (λ(k,j,xs)=>⟨[],[(0,Go.Proofs.YtnoegalemkbbbaaGreatDoor.EG v xs)],[Z 0 (.sl 0 v),Z 2 (I k),Z 3 (I j)]⟩) (λ(k,j,xs)=>R3 hs xs k/\k<=hs.length/\j=(hs.length:Int)-1-k) (λ(k,j,xs)=>hs.length-k) (0,len hs-1,hs) U (hO:=by unfold len;omega) U ⟨⟨rfl,λ j H=>by rw[if_neg Aa]⟩,Aa,by unfold len;omega⟩ ?_) U
 rintro⟨k,j,xs⟩ ⟨w,J,rfl⟩
 have l:=w.1
 have D:len xs=(hs.length:Int):=by unfold len;rw[l]
 refine A1 U (λ q=>?_) (λ q=>?_)<;>simp only[zb]at q
 ·have y:k<hs.length-1-k:=by omega
  have E:(hs.length:Int)-1-k=((hs.length-1-k:Nat):Int):=by omega
  have fin: ∀(e i:List AI),e=xs.set (k:Int).toNat (at' xs ((hs.length:Int)-1-k))->i=e.set ((hs.length:Int)-1-k).toNat (at' xs (k:Int))->R3 hs i (k+1):=λ e i F e2=>by
   subst F;subst e2
   rw[E,Int.toNat_natCast,Int.toNat_natCast]
   exact w.step y
  refine DN [7,11,13,15] 5 (λ _ _ _ _ _ h=>h) U BM U <|G5 7 11 U U U ?_ ?_
  ·refine AE U <|AL 11 U U U <|AE U <|AL 13 U U U <|HW (at' xs ((hs.length:Int)-1-k)) U U U sizeOf25 U U U Aa λ e b=>AE U ?_
   have s:len e=(hs.length:Int):=by rw[b];unfold len;rw[List.length_set,l]
   exact AL 15 U U U <|HW (at' xs (k:Int)) U U U sizeOf25 U U U Aa λ i n=>AE U <|BO U U U <|AX (k+1,(hs.length:Int)-1-k-1,i) U U ⟨fin e i b n,Aa,Aa⟩ (by show hs.length-(k+1)<hs.length-k;omega)
  ·refine AE U <|AL 7 U U U <|AE U <|AL 13 U U U <|HW (at' xs ((hs.length:Int)-1-k)) U U U sizeOf25 U U U Aa λ e b=>AE U ?_
   have s:len e=(hs.length:Int):=by rw[b];unfold len;rw[List.length_set,l]
   exact AL 15 U U U <|HW (at' xs (k:Int)) U U U sizeOf25 U U U Aa λ i n=>AE U <|BO U U U <|AX (k+1,(hs.length:Int)-1-k-1,i) U U ⟨fin e i b n,Aa,Aa⟩ (by show hs.length-(k+1)<hs.length-k;omega)
 ·refine UM C U U λ w' M' A=>⟨(),M',rfl,trivial,A.le,?_,A4⟩
  rw[<-w.done Aa]
  exact A.st
end Go.Proofs.YtnoegalemkbbbaaGreatDoor
namespace Go.Eng
open Go.RowKit
theorem W7(l:List Tf):CR [] l=l:=by cases l<;>rfl
theorem B3.drop {α:Type}{M:Mem}{sz:Nat}{f:α->List Value}: ∀(k:Nat) {hs:List AI} {xs:List (List α)},B3 M sz f hs xs->B3 M sz f (hs.drop k) (xs.drop k)
 |0,_,_,h=>h
 |k+1,[],[],h=>h
 |k+1,_::_,_::_,h=>B3.drop k h.2
theorem B3.rev {α:Type}{M:Mem}{sz:Nat}{f:α->List Value}: ∀ {hs:List AI} {xs:List (List α)},B3 M sz f hs xs->B3 M sz f hs.reverse xs.reverse
 |[],[],h=>h
 |_::_,_::_,h=>by rw[List.reverse_cons,List.reverse_cons];exact B3.snoc h.1 (B3.rev h.2)
theorem uX{α:Type}(l:List α){k:Int}(h0:0<=k)(h1:k<=len l):Eng.sub l k (len l)=l.drop k.toNat:=by
 unfold Eng.sub
 rw[List.take_of_length_le]
 rw[List.length_drop];unfold len;omega
end Go.Eng
namespace Go.Proofs.YtnoegalemkbbbaaGreatDoor
open Go.Proofs.Tryz
open Go.Eng Go.RowKit
theorem Au6{w0 D:World}{M0 M:Mem}{Rs:List HO}(x:Tm)(i:Int)(pu:Value)(hs:List AI)(b:List Tf)(hS:St w0 M0 D M (NT pu hs::Rs))(E:B3 M 11 Tm.cells hs (b.map Tf.flat))(hx:x.op=2\/x.op=3->0<=x.n)(F:A6 b<=16777216):
   Calls prog 156 [.agg x.cells.toArray,i64 i,pu].toArray D (K5 w0 M0 M Rs (IL x i b)):=by
 have hlen:hs.length=b.length:=by have:=B3.len E;rwa [List.length_map]at this
 have J:len hs=len b:=by unfold len;omega
 have K:=MM b
 have L:=A9 b
 refine AJ (Hr:=Rs) AG func156 U ntmps156 [(9,FU hs (b.map Tf.flat))] [(2,Go.Proofs.YtnoegalemkbbbaaGreatDoor.EG pu hs)] [.ag (EO x.cells),I i,.sl 2 pu] U hS (AH ⟨Sl.nil M 1,DC,E⟩ A4) (λ B q=>BQ 3 U U U λ N=>?_) U
 refine A1 U (λ A=>?_) (λ A=>?_)<;>simp only[zb]at A
 ·rw[show IL x i b= .er i 2 by unfold IL;rw[if_pos Aa]]at q
  exact EW [] U U call81 U U (λ w M hS hF=>FL i 2 hS) λ a w M hs hS hle=>E7 _ (q.p ⟨M,rfl,hS.drop _ ((List.sublist_cons_self _ _).cons _),hle⟩ a hs)
 have s: ¬((x.op=2/\len b<=x.n)\/(x.op=3/\len b<x.n)):=by omega
 refine A1 U (λ e=>?_) (λ e=>?_)<;>simp only[zb]at e
 ·have h0:=hx (.inl e)
  obtain⟨k,G⟩: ∃k:Nat,x.n=k:=⟨x.n.toNat,Aa⟩
  rw[show IL x i b= .ok (at' b x.n) 0 by unfold IL;rw[if_neg s,if_pos e]]at q
  refine A2 q U U U λ w M' j=>⟨at' hs x.n,M',rfl,trivial,j.le,j.B9 [] U,AH ?_ A4⟩
  have C:B3 M' 11 Tm.cells hs (b.map Tf.flat):=(j.f.get (k:=9) U).more
  have H:=B3.at C h0 Aa
  rw[G,MY (by unfold len at*;omega)]at H
  rw[G]
  exact⟨H,Tm.AT,trivial⟩
 refine A1 U (λ l=>?_) (λ l=>?_)<;>simp only[zb]at l
 ·have h0:=hx (.inr l)
  rw[show IL x i b= .ok (CS (AD 4) [] (b.drop x.n.toNat)) 0 by unfold IL CS;rw[if_neg s,if_neg e,if_pos l,W7]]at q
  refine C1 2 U <|FO (gd:=none) 12 x.n (len hs) U U U ⟨.i64,_,rfl,AF U⟩ U underlying53 sizeOf25 Aa U λ v12=>?_
  rw[uX hs h0 Aa]
  have y:A6 (b.drop x.n.toNat)<=16777216:=Nat.le_trans (ZO (List.drop_sublist _ _)) F
  exact AR [] (λ h:AI=>.sl 10 h.v) [] (λ h=>[(10,EA h.v (CS (AD 4) [] (b.drop x.n.toNat)).flat)]) U U call146 U U (λ w M hS hF=>LM (AD 4) (.slice none 0 0) [] v12 (hs.drop x.n.toNat) (b.drop x.n.toNat) hS (Sl.nil M 1) (hF.get (k:=12) U).sl (by have C:B3 M 11 Tm.cells hs (b.map Tf.flat):=(hF.get (k:=9) U).more;rw[List.map_drop];exact B3.drop _ C) y) λ z _=>C1 10 U <|A2 q U U U λ w M' j=>⟨z,M',rfl,trivial,j.le,j.B9 [] U,AH (j.f.get (k:=10) U) A4⟩
 ·rw[show IL x i b= .ok (CS (AD 4) [] b.reverse) 0 by unfold IL CS;rw[if_neg s,if_neg e,if_neg l,W7]]at q
  have y:A6 b.reverse<=16777216:=by rw[W3 (List.reverse_perm b)];exact F
  exact AR [2] (λ _:Unit=>.tu []) [] (λ _=>[(2,Go.Proofs.YtnoegalemkbbbaaGreatDoor.EG pu hs.reverse)]) (Fg:=λ _=>[]) (pu:=λ _=>True) (Hg:=λ _=>[NT pu hs.reverse]) U U call182 U U (λ w M hS hF=>Au5 pu hs hS (by unfold len at*;omega)) λ _ _=>C1 2 U <|AR [] (λ h:AI=>.sl 10 h.v) [] (λ h=>[(10,EA h.v (CS (AD 4) [] b.reverse).flat)]) U U call146 U U (λ w M hS hF=>LM (AD 4) (.slice none 0 0) [] pu hs.reverse b.reverse hS (Sl.nil M 1) (hF.get (k:=2) U).sl (by have C:B3 M 11 Tm.cells hs (b.map Tf.flat):=(hF.get (k:=9) U).more;rw[List.map_reverse];exact B3.rev C) y) λ z _=>C1 10 U <|A2 q U U U λ w M' j=>⟨z,M',rfl,trivial,j.le,j.B9 [] U,AH (j.f.get (k:=10) U) A4⟩
theorem Au7{w0 J:World}{M0 M:Mem}{Rs:List HO}(x:Tm)(i:Int)(u:AI)(t:Tf)(hS:St w0 M0 J M Rs)(A:Gl w0)(C:(A7 u.v t.flat).ok M)(K:B7 t=true)(hs:AV t)(N:len x.s<=100)(hz:t.size<=16777216):
   Calls prog 93 [.agg x.cells.toArray,i64 i,u.v].toArray J (K5 w0 M0 M Rs (K4 x i t)):=by
 have D:(at' t.flat 0).op=t.t.op:=by rw[t.DR];rfl
 have O:=D3 t
 have P:=t.size_pos
 have Q:=t.size_eq
 refine AJ (Hr:=Rs) AG func93 U ntmps93 [(1,A7 u.v t.flat)] [] [.ag (EO x.cells),I i,.sl 1 u.v] U hS (AH C A4) (λ B q=>BQ 3 U U U λ L=>?_) U
 refine A1 U (λ j=>?_) (λ j=>?_)<;>simp only[zb]at j<;>rw[D]at j
 ·rw[show K4 x i t= .er i 1 by unfold K4;rw[if_pos j]]at q
  exact EW [] U U call81 U U (λ w M hS hF=>FL i 1 hS) λ a w M hs hS hle=>E7 _ (q.p ⟨M,rfl,hS.drop _ (List.sublist_cons_self _ _),hle⟩ a hs)
 obtain⟨y,e⟩:=B7.one K (.inr Aa)
 have R:(AN t).length=1:=by rw[KN Aa,List.length_map,e];rfl
 obtain⟨k1,k2⟩:=MV K hs
 have E:at' (AN t) 0∈AN t:=NU (k:=0) Aa
 have F:at' ((AN t).map Tf.flat) 0=(at' (AN t) 0).flat:=MY (k:=0) Aa
 have S:=I1 E
 have T:=D3 (at' (AN t) 0)
 have V:=VP x.s
 refine AR [] (λ g:Value×List AI=>.sl 8 g.1) [9] (λ g=>[(8,Go.Proofs.YtnoegalemkbbbaaGreatDoor.EG g.1 g.2)]) U U call143 U U (λ w M hS hF=>T4 hS (hF.get (k:=1) U) Aa) λ W G=>?_
 obtain⟨pu,b⟩:=W
 dsimp only at G
 have X:len b=1:=by unfold len;omega
 refine C1 8 U <|DU 8 (C7 pu b ((AN t).map Tf.flat)) (λ w M z=>⟨(z.f.get (k:=8) U).sl,CN,(z.f.get (k:=9) U).more⟩) <|DN [5,6,10,11] 5 (λ _ _ _ _ _ h=>h) U BM U <|AL 5 U U U <|AR [] (λ u:Value=>.sl 6 u) [6] (λ _=>[]) (Fg:=λ u=>[(1,kn u 3 (CB x.s).1 Sp.cells)]) (pu:=λ _=>True) U U call80 U U (λ w M hS hF=>gU x.s hS A Aa) λ v6 _=>AE U <|AL 6 U U U <|AR [] (λ _:Unit=>.tu [I (BK (CB x.s).1 (at' (AN t) 0)).1,.v (.bool (BK (CB x.s).1 (at' (AN t) 0)).2)]) [] (λ _=>[]) (Fg:=λ _=>[]) (pu:=λ _=>True) U U call134 U U (λ w M hS hF=>ZA (CB x.s).1 (at' b 0).v v6 (at' (AN t) 0) hS (by have:=F9 (hF.get (k:=8) U) (k:=0) Aa Aa;rw[F]at this;exact this) (hF.get (k:=6) U) Aa Aa) λ _ _=>AE U <|AL 10 U U U <|AE U <|AL 11 U U U <|AE U <|BO U U U <|A1 U (λ n=>?_) (λ n=>?_)
 ·have hl:(BK (CB x.s).1 (at' (AN t) 0)).2=false:=by simpa using n
  rw[show K4 x i t= .er i 5 by unfold K4;rw[if_neg Aa,hl];rfl]at q
  exact EW [] U U call81 U U (λ w M hS hF=>FL i 5 hS) λ a w M hs hS hle=>E7 _ (q.p ⟨M,rfl,hS.drop _ (List.sublist_cons_self _ _),hle⟩ a hs)
 have hl:(BK (CB x.s).1 (at' (AN t) 0)).2=true:=by simpa using n
 rw[show K4 x i t= .ok (CS { AD (if x.op=12 then 8 else 7)with s:=x.s} [] (AN t)) 0 by unfold K4 CS;rw[if_neg Aa,if_pos hl,W7]]at q
 refine CY 0 (λ s=>s=⟨[(8,C7 pu b ((AN t).map Tf.flat))],[(3,.box L (EO x.cells) 48)],[Z 3 (.bx 3 L 0),Z 7 (.sl 8 pu),Z 10 (I (if x.op=12 then 8 else 7))]⟩) U U (λ l=>?_) (λ l=>?_) ?_<;>try simp only[zb]at l
 ·rw[if_pos l]
  exact AW _ U U U
 ·rw[if_neg l]
  exact AW _ U U U
 rintro s rfl
 exact AR [] (λ h:AI=>.sl 10 h.v) [] (λ h=>[(10,EA h.v (CS { AD (if x.op=12 then 8 else 7)with s:=x.s} [] (AN t)).flat)]) U U call146 U U (λ w M hS hF=>LM { AD (if x.op=12 then 8 else 7)with s:=x.s} (.slice none 0 0) [] pu b (AN t) hS (Sl.nil M 1) (hF.get (k:=8) U).sl (hF.get (k:=8) U).more Aa) λ H _=>C1 10 U <|A2 q U U U λ w M' z=>⟨H,M',rfl,trivial,z.le,z.B9 [] U,AH (z.f.get (k:=10) U) A4⟩
end Go.Proofs.YtnoegalemkbbbaaGreatDoor
namespace Go.Eng
open Go.RowKit
theorem iK: ∀l:List Tf,CR (l.map λ x=>x.t.name) (l.map (Tf.named []))=l
 |[]=>rfl
 |x::l=>by rw[List.map_cons,List.map_cons,CR,iK l,Tf.Aa7,Tf.Aa6]
theorem uY: ∀ {ns:List A0} {b:List Tf} {i:Nat} (y:Tf),ns.length=b.length->i<b.length->CR ns (b.set i y)=(CR ns b).set i (y.named (at' ns (i:Int)))
 |[],b,i,y,h,hi=>absurd hi (by rw[<-h];exact Nat.not_lt_zero _)
 |n::ns,k::b,0,y,h,_=>by rw[List.set_cons_zero,CR,CR,List.set_cons_zero];rfl
 |n::ns,k::b,i+1,y,h,hi=>by
  have e:at' (n::ns) ((i+1:Nat):Int)=at' ns (i:Int):=by unfold at';simp
  rw[List.set_cons_succ,CR,CR,List.set_cons_succ,uY y (by simpa using h) (by simpa using hi),e]
theorem uZ: ∀ {ns:List A0} {b:List Tf} (i:Nat),ns.length=b.length->CR (ns.eraseIdx i) (b.eraseIdx i)=(CR ns b).eraseIdx i
 |[],[],_,_=>rfl
 |n::ns,k::b,0,h=>by rw[List.eraseIdx_cons_zero,List.eraseIdx_cons_zero,CR,List.eraseIdx_cons_zero]
 |n::ns,k::b,i+1,h=>by rw[List.eraseIdx_cons_succ,List.eraseIdx_cons_succ,CR,CR,List.eraseIdx_cons_succ,uZ i (by simpa using h)]
theorem Au8{ns:List A0}{n:A0}(h:n∈ns):at' ns (BU ns n)=n:=by
 obtain⟨h1,e⟩:=PB h
 obtain⟨j,b⟩:=CJ ns (i:=BU ns n) Aa (by unfold len;omega)
 rw[b]
 unfold BU
 simp only[Int.toNat_natCast]
 exact List.getElem_idxOf _
theorem B3.erase {α:Type}{M:Mem}{sz:Nat}{f:α->List Value}: ∀(k:Nat) {hs:List AI} {xs:List (List α)},B3 M sz f hs xs->B3 M sz f (hs.eraseIdx k) (xs.eraseIdx k)
 |_,[],[],h=>h
 |0,_::_,_::_,h=>h.2
 |k+1,_::_,_::_,h=>⟨h.1,B3.erase k h.2⟩
theorem B3.set {α:Type}{M:Mem}{sz:Nat}{f:α->List Value}{h:AI}{x:List α}(hx:Sl M sz x.length h.v (x.flatMap f)): ∀(k:Nat) {hs:List AI} {xs:List (List α)},B3 M sz f hs xs->B3 M sz f (hs.set k h) (xs.set k x)
 |_,[],[],h=>h
 |0,_::_,_::_,h=>⟨hx,h.2⟩
 |k+1,_::_,_::_,h=>⟨h.1,B3.set hx k h.2⟩
theorem Au9{s:Sp}{t y:Tf}(ho:t.t.op=2)(hm:s.name∈B6 t):(CS t.node (B6 t) ((AN t).set (BU (B6 t) s.name).toNat y)).flat=(Tf.mk t.t (t.ps.set (BU (B6 t) s.name).toNat (y.named s.name))).flat:=by
 obtain⟨h1,b⟩:=PB hm
 have hl:(B6 t).length=(AN t).length:=P9 t
 have e:CR (B6 t) (AN t)=t.ps:=by
  unfold B6;rw[if_neg Aa,KN Aa];exact iK _
 unfold CS
 rw[uY y hl Aa,e,<-b,Au8 hm]
 rfl
theorem Av0{s:Sp}{t:Tf}(ho:t.t.op=2):(CS t.node ((B6 t).eraseIdx (BU (B6 t) s.name).toNat) ((AN t).eraseIdx (BU (B6 t) s.name).toNat)).flat=(Tf.mk t.t (t.ps.eraseIdx (BU (B6 t) s.name).toNat)).flat:=by
 have hl:(B6 t).length=(AN t).length:=P9 t
 have e:CR (B6 t) (AN t)=t.ps:=by
  unfold B6;rw[if_neg Aa,KN Aa];exact iK _
 unfold CS
 rw[uZ _ hl,e]
 rfl
theorem vA{s:Sp}{t y:Tf}{j:Nat}(ho:t.t.op=2)(hm:s.name∈B6 t)(b:j=(BU (B6 t) s.name).toNat):(CS t.node (B6 t) ((AN t).set j y)).flat=(Tf.mk t.t (t.ps.set j (y.named s.name))).flat:=by subst b;exact Au9 ho hm
theorem Av1{s:Sp}{t:Tf}{j:Nat}(ho:t.t.op=2)(b:j=(BU (B6 t) s.name).toNat):(CS t.node ((B6 t).eraseIdx j) ((AN t).eraseIdx j)).flat=(Tf.mk t.t (t.ps.eraseIdx j)).flat:=by subst b;exact Av0 ho
theorem vB{α β:Type}(f:α->β): ∀(l:List α) (i:Nat),(l.eraseIdx i).map f=(l.map f).eraseIdx i
 |[],_=>rfl
 |x::l,0=>rfl
 |x::l,i+1=>by rw[List.eraseIdx_cons_succ,List.map_cons,List.map_cons,List.eraseIdx_cons_succ,vB f l i]
theorem iL{α:Type}{f:α->Value}: ∀(l:List α) (i:Nat),(l.flatMap λ x=>[f x]).eraseIdx i=(l.eraseIdx i).flatMap λ x=>[f x]
 |[],_=>rfl
 |x::l,0=>by simp
 |x::l,i+1=>by
  have:=iL (f:=f) l i
  rw[List.flatMap_cons,List.singleton_append,List.eraseIdx_cons_succ,List.eraseIdx_cons_succ,List.flatMap_cons,this];rfl
theorem St.vC {w0 w:World}{M0 M:Mem}{Hs:List HO}{e:TypeId}{sz n:Nat}{v:Value}{xs:List Value}{k:Nat}(h:St w0 M0 w M Hs)(j:Hs[k]? =some (.priv e sz v n xs))(l:0<n): ∃g c,v= .slice (some ⟨g,0,none⟩) n c:=by
 obtain⟨⟨hl,b⟩,i⟩:=h.obj j
 rcases b with⟨b,h0⟩|⟨g,cap,cur,b,_⟩
 ·omega
 ·exact⟨g,cap,b⟩
end Go.Eng
namespace Go.Proofs.YtnoegalemkbbbaaGreatDoor
open Go.Proofs.Tryz
open Go.Eng Go.RowKit
theorem Av2{w0 b:World}{M0 M:Mem}{Rs:List HO}(u:Value)(ns:List A0){i:Nat}(hS:St w0 M0 b M (T5 u ns::Rs))(hi:i<ns.length)(l:ns.length<=1099511627):
  Calls prog 154 [u,.int .i64 i,.int .i64 (i+1)].toArray b (BJ w0 M0 M Rs (λ v:Value=>v) (λ _=>True) (λ _=>[]) λ v=>[T5 v (ns.eraseIdx i)]):=by
 obtain⟨g,c,rfl⟩:=hS.vC (k:=0) rfl Aa
 refine(Au3 hS hi l (λ u hu=>by obtain⟨s,_,h⟩:=List.mem_flatMap.1 hu;exact bA s u h)).mono λ e w' ⟨_,M',h1,w,n,j,y⟩=>⟨_,M',h1,trivial,n,?_,A4⟩
 have q:(ns.flatMap CX).eraseIdx i=(ns.eraseIdx i).flatMap CX:=iL (f:=λ s=>str s) ns i
 have e2:(ns.eraseIdx i).length=ns.length-1:=List.length_eraseIdx_of_lt hi
 rw[q]at j
 unfold T5
 rw[e2]
 exact j
theorem Av3{w0 b:World}{M0 M:Mem}{Rs:List HO}(u:Value)(hs:List AI){i:Nat}(hS:St w0 M0 b M (NT u hs::Rs))(hi:i<hs.length)(l:hs.length<=1099511627):
  Calls prog 155 [u,.int .i64 i,.int .i64 (i+1)].toArray b (BJ w0 M0 M Rs (λ v:Value=>v) (λ _=>True) (λ _=>[]) λ v=>[NT v (hs.eraseIdx i)]):=by
 obtain⟨g,c,rfl⟩:=hS.vC (k:=0) rfl Aa
 refine(Au4 hS hi l (λ u hu=>by obtain⟨s,_,h⟩:=List.mem_flatMap.1 hu;exact OR s u h)).mono λ e w' ⟨_,M',h1,y,q,j,z⟩=>⟨_,M',h1,trivial,q,?_,A4⟩
 have w:(hs.flatMap BN).eraseIdx i=(hs.eraseIdx i).flatMap BN:=iL (f:=λ h:AI=>(.slice h.a h.n h.c:Value)) hs i
 have e2:(hs.eraseIdx i).length=hs.length-1:=List.length_eraseIdx_of_lt hi
 rw[w]at j
 unfold NT
 rw[e2]
 exact j
theorem Av4: ∀(p:List Sp) {w0 V:World} {M0 M:Mem} {Rs:List HO} (i:Int) (v:Value) (u:AI) (t:Tf),p≠[]->St w0 M0 V M Rs->(kn v 3 p Sp.cells).ok M->(A7 u.v t.flat).ok M->B7 t=true->AV t->t.size<=16777216->len p<=1099511627776->
   Calls prog 96 [v,i64 i,u.v].toArray V (K5 w0 M0 M Rs (G0 i p t)):=by
 intro p
 induction p with
 |nil=>intro _ _ _ _ _ _ _ _ _ h;exact absurd rfl h
 |cons s p ih=>
  intro w0 V M0 M Rs i v u t _ hS W X ha hs hz hp
  have hto:(at' t.flat 0).op=t.t.op:=by rw[t.DR];rfl
  have htn:(at' t.flat 0).n=t.t.n:=by rw[t.DR];rfl
  have htz:=D3 t
  have htp:=t.size_pos
  have hte:=t.size_eq
  have hpl:=A9 p
  have hp1:len (s::p)=len p+1:=by rw[AM]
  have hp0:at' (s::p) 0=s:=rfl
  refine AJ (Hr:=Rs) AG func96 U ntmps96 [(0,kn v 3 (s::p) Sp.cells),(1,A7 u.v t.flat)] [] [.sl 0 v,I i,.sl 1 u.v] U hS (AH W (AH X A4)) (λ B C=>?_) U
  refine A1 U (λ J=>?_) (λ J=>?_)<;>simp only[zb]at J<;>rw[hto]at J
  ·rw[show G0 i (s::p) t= .er i 1 by unfold G0;rw[if_pos J]]at C
   refine EW [] U U call81 U U (λ w M hS hF=>FL i 1 hS) λ a w M hs hS hle=>?_
   exact E7 _ (C.p ⟨M,rfl,hS.drop _ (List.Sublist.refl _),hle⟩ a hs)
  have ho:t.t.op=2:=by omega
  obtain⟨k1,L⟩:=MV ha hs
  have hkl:=P9 t
  have hkn:((AN t).length:Int)<=A6 (AN t):=MM _
  refine AR [] (λ u:Value=>.sl 5 u) [] (λ u=>[(5,QV u (B6 t))]) U U call147 U U (λ w M hS hF=>gV hS (hF.get (k:=1) U) Aa) λ T _=>?_
  refine AR [] (λ g:Value×List AI=>.sl 8 g.1) [9] (λ g=>[(8,Go.Proofs.YtnoegalemkbbbaaGreatDoor.EG g.1 g.2)]) U U call143 U U (λ w M hS hF=>T4 hS (hF.get (k:=1) U) Aa) λ gg hgg=>?_
  obtain⟨pu,b⟩:=gg
  dsimp only at hgg
  refine AK U call153 U U (λ _ w M q=>by
   have D:=q.st.told (k:=1) U
   exact uT (B6 t) s.name T w _ D.sat ⟨D.sl (i:=1) U,DC,trivial⟩) U ?_
  refine A1 U (λ E=>?_) (λ E=>?_)<;>simp only[zb]at E
  ·have hno:s.name ∉ B6 t:=λ h=>by
    have D:=(PB h).2
    unfold MT at E;rw[if_pos h]at E;omega
   rw[show G0 i (s::p) t= .er i 2 by rw[G0,if_neg (λ h=>h ho),if_pos hno]]at C
   refine EW [] U U call81 U U (λ w M hS hF=>FL i 2 hS) λ a w M hs hS hle=>?_
   exact E7 _ (C.p ⟨M,rfl,hS.drop _ (((List.Sublist.refl _).cons _).cons _),hle⟩ a hs)
  have e:s.name∈B6 t:=Decidable.byContradiction λ h=>E (by unfold MT;rw[if_neg h];decide)
  obtain⟨j1,j2⟩:=PB e
  obtain⟨j,Q⟩: ∃j:Nat,j=(BU (B6 t) s.name).toNat:=⟨_,rfl⟩
  have hix:MT (B6 t) s.name=j:=by unfold MT;rw[if_pos e];omega
  have hjj:BU (B6 t) s.name=j:=by omega
  rw[<-Q]at j1
  rw[hix]
  have F:j<(AN t).length:=by omega
  have hl8:len b=(AN t).length:=by unfold len;omega
  have z:=NU F
  have hkz:=I1 z
  refine A1 U (λ O=>?_) (λ O=>?_)<;>simp only[zb]at O
  ·have G:p≠[]:=λ h=>by subst h;exact absurd O (by show ¬(1:Int)<1;decide)
   rw[show G0 i (s::p) t=(G0 i p (at' (AN t) (j:Int))).bind λ y _=>.ok (.mk t.t (t.ps.set j (y.named s.name))) 0 by rw[G0,if_neg (λ h=>h ho),if_neg (λ h=>h e),if_neg G,hjj,Int.toNat_natCast]]at C
   have N:Eng.sub (s::p) 1 (len (s::p))=p:=by rw[uX _ Aa Aa];rfl
   refine DN [3,8,9,11] 5 (λ _ _ _ _ _ h=>h) U BM U ?_
   refine G5 3 8 U U U ?_ ?_
   ·refine FO (gd:=none) 12 1 (len (s::p)) U U U ⟨.i64,_,rfl,AF U⟩ U underlying61 sizeOf105 Aa U λ v12=>?_
    rw[N]
    refine AE U ?_
    refine AL 8 U U U ?_
    refine AE U ?_
    refine AL 9 U U U ?_
    refine EI [] [4] (λ _ (h:AI)=>.sl 4 h.v) (λ _ _ _=>[]) C U U call96 U U (((List.Sublist.refl _).cons _).cons _) (λ w M hS hF=>ih i v12 (at' b (j:Int)) (at' (AN t) (j:Int)) G hS (hF.get (k:=12) U) (by
     have D:B3 M 11 Tm.cells b ((AN t).map Tf.flat):=(hF.get (k:=9) U).more
     have R:=B3.at D (k:=(j:Int)) Aa Aa
     rw[MY F]at R
     exact⟨R,Tm.AT,trivial⟩) (L _ z).1 (L _ z).2 Aa Aa) λ y jj hy C h4 _=>?_
    have hyi:=(ZP hy (L _ z).1 (L _ z).2).1.size
    have CE:=ZN y F
    refine AE U ?_
    refine AL 11 U U U ?_
    refine HW h4 U U U sizeOf25 U U U ⟨Aa,by show(j:Int)<len b;omega⟩ λ A l=>?_
    rw[Int.toNat_natCast]at l
    have P:len A=(AN t).length:=by rw[l];unfold len at*;rw[List.length_set];omega
    have S:A.length=(AN t).length:=by unfold len at P;omega
    refine DU 9 (FU A (((AN t).set j y).map Tf.flat)) (λ w M q=>⟨Sl.nil M 1,DC,by
     have D:B3 M 11 Tm.cells b ((AN t).map Tf.flat):=(q.f.get (k:=9) U).more
     rw[l,List.map_set]
     exact B3.set (q.sl 4 U) j D⟩) ?_
    refine AE U ?_
    refine BO U U U ?_
    refine C1 5 U ?_
    refine C1 8 U ?_
    refine AR [] (λ h:AI=>.sl 10 h.v) [] (λ h=>[(10,EA h.v (CS t.node (B6 t) ((AN t).set j y)).flat)]) U U call146 U U (hu:=λ _=>rfl) (hH:=λ _=>rfl) (λ w M hS hF=>by
     have:=LM t.node T (B6 t) pu A ((AN t).set j y) hS (hF.get (k:=5) U).sl (hF.get (k:=8) U).sl (hF.get (k:=9) U).more Aa
     rw[<-t.DR]at this ⊢
     exact this) λ H _=>?_
    refine C1 10 U ?_
    refine A2 C U U U λ w M' q=>⟨H,M',rfl,trivial,q.le,q.B9 [] U,AH ?_ A4⟩
    rw[<-vA ho e Q]
    exact q.f.get (k:=10) U
   ·refine AE U ?_
    refine AL 3 U U U ?_
    refine FO (gd:=none) 12 1 (len (s::p)) U U U ⟨.i64,_,rfl,AF U⟩ U underlying61 sizeOf105 Aa U λ v12=>?_
    rw[N]
    refine AE U ?_
    refine AL 9 U U U ?_
    refine EI [] [4] (λ _ (h:AI)=>.sl 4 h.v) (λ _ _ _=>[]) C U U call96 U U (((List.Sublist.refl _).cons _).cons _) (λ w M hS hF=>ih i v12 (at' b (j:Int)) (at' (AN t) (j:Int)) G hS (hF.get (k:=12) U) (by
     have D:B3 M 11 Tm.cells b ((AN t).map Tf.flat):=(hF.get (k:=9) U).more
     have R:=B3.at D (k:=(j:Int)) Aa Aa
     rw[MY F]at R
     exact⟨R,Tm.AT,trivial⟩) (L _ z).1 (L _ z).2 Aa Aa) λ y jj hy C h4 _=>?_
    have hyi:=(ZP hy (L _ z).1 (L _ z).2).1.size
    have CE:=ZN y F
    refine AE U ?_
    refine AL 11 U U U ?_
    refine HW h4 U U U sizeOf25 U U U ⟨Aa,by show(j:Int)<len b;omega⟩ λ A l=>?_
    rw[Int.toNat_natCast]at l
    have P:len A=(AN t).length:=by rw[l];unfold len at*;rw[List.length_set];omega
    have S:A.length=(AN t).length:=by unfold len at P;omega
    refine DU 9 (FU A (((AN t).set j y).map Tf.flat)) (λ w M q=>⟨Sl.nil M 1,DC,by
     have D:B3 M 11 Tm.cells b ((AN t).map Tf.flat):=(q.f.get (k:=9) U).more
     rw[l,List.map_set]
     exact B3.set (q.sl 4 U) j D⟩) ?_
    refine AE U ?_
    refine BO U U U ?_
    refine C1 5 U ?_
    refine C1 8 U ?_
    refine AR [] (λ h:AI=>.sl 10 h.v) [] (λ h=>[(10,EA h.v (CS t.node (B6 t) ((AN t).set j y)).flat)]) U U call146 U U (hu:=λ _=>rfl) (hH:=λ _=>rfl) (λ w M hS hF=>by
     have:=LM t.node T (B6 t) pu A ((AN t).set j y) hS (hF.get (k:=5) U).sl (hF.get (k:=8) U).sl (hF.get (k:=9) U).more Aa
     rw[<-t.DR]at this ⊢
     exact this) λ H _=>?_
    refine C1 10 U ?_
    refine A2 C U U U λ w M' q=>⟨H,M',rfl,trivial,q.le,q.B9 [] U,AH ?_ A4⟩
    rw[<-vA ho e Q]
    exact q.f.get (k:=10) U
  have G:p=[]:=List.eq_nil_of_length_eq_zero (by unfold len at*;omega)
  subst G
  refine A1 U (λ K=>?_) (λ K=>?_)<;>simp only[zb]at K<;>rw[htn]at K
  ·rw[show G0 i [s] t= .er i 1 by rw[G0,if_neg (λ h=>h ho),if_neg (λ h=>h e),if_pos U,if_pos K]]at C
   refine EW [] U U call81 U U (λ w M hS hF=>FL i 1 hS) λ a w M hs hS hle=>?_
   exact E7 _ (C.p ⟨M,rfl,hS.drop _ (((List.Sublist.refl _).cons _).cons _),hle⟩ a hs)
  ·rw[show G0 i [s] t= .ok (.mk t.t (t.ps.eraseIdx j)) 0 by rw[G0,if_neg (λ h=>h ho),if_neg (λ h=>h e),if_pos U,if_neg Aa,<-Q]]at C
   refine AR [5] (λ u:Value=>.sl 15 u) [] (λ u=>[(15,QV u ((B6 t).eraseIdx j))]) (Fg:=λ _=>[]) (pu:=λ _=>True) (Hg:=λ g=>[T5 g ((B6 t).eraseIdx j)]) U U call154 U U (λ w M hS hF=>Av2 T (B6 t) hS j1 Aa) λ nu2 _=>?_
   refine AR [8] (λ u:Value=>.sl 18 u) [] (λ u=>[(18,Go.Proofs.YtnoegalemkbbbaaGreatDoor.EG u (b.eraseIdx j))]) (Fg:=λ _=>[]) (pu:=λ _=>True) (Hg:=λ g=>[NT g (b.eraseIdx j)]) U U call155 U U (λ w M hS hF=>Av3 pu b hS Aa Aa) λ pu2 _=>?_
   refine C1 15 U ?_
   refine DU 9 (FU (b.eraseIdx j) (((AN t).eraseIdx j).map Tf.flat)) (λ w M q=>⟨Sl.nil M 1,DC,by have D:B3 M 11 Tm.cells b ((AN t).map Tf.flat):=(q.f.get (k:=9) U).more;rw[vB];exact B3.erase j D⟩) ?_
   refine C1 18 U ?_
   refine AR [] (λ h:AI=>.sl 10 h.v) [] (λ h=>[(10,EA h.v (CS t.node ((B6 t).eraseIdx j) ((AN t).eraseIdx j)).flat)]) U U call146 U U (hu:=λ _=>rfl) (hH:=λ _=>rfl) (λ w M hS hF=>by
    have:=LM t.node nu2 ((B6 t).eraseIdx j) pu2 (b.eraseIdx j) ((AN t).eraseIdx j) hS (hF.get (k:=15) U).sl (hF.get (k:=18) U).sl (hF.get (k:=9) U).more (Nat.le_trans (ZO (List.eraseIdx_sublist _ _)) Aa)
    rw[<-t.DR]at this ⊢
    exact this) λ H _=>?_
   refine C1 10 U ?_
   refine A2 C U U U λ w M' q=>⟨H,M',rfl,trivial,q.le,q.B9 [] U,AH ?_ A4⟩
   rw[<-Av1 (s:=s) ho Q]
   exact q.f.get (k:=10) U
theorem Av5{w0 Q:World}{M0 M:Mem}{Rs:List HO}(x:Tm)(i:Int)(u:AI)(t:Tf)(hS:St w0 M0 Q M Rs)(V:Gl w0)(L:(A7 u.v t.flat).ok M)(W:B7 t=true)(hs:AV t)(hx:x.op=2\/x.op=3->0<=x.n)(hz:t.size<=16777216):
    Calls prog 97 [.agg x.cells.toArray,i64 i,u.v].toArray Q (K5 w0 M0 M Rs (HQ x i t)):=by
 have D:(at' t.flat 0).op=t.t.op:=by rw[t.DR];rfl
 have X:=D3 t
 have htp:=t.size_pos
 have hte:=t.size_eq
 obtain⟨k1,k2⟩:=MV W hs
 have hkn:((AN t).length:Int)<=A6 (AN t):=MM _
 have hnl:=P9 t
 refine AJ (Hr:=Rs) AG func97 U ntmps97 [(1,A7 u.v t.flat)] [] [.ag (EO x.cells),I i,.sl 1 u.v] U hS (AH L A4) (λ B z=>BQ 3 U U U λ R=>AR [] (λ g:Value×List AI=>.sl 8 g.1) [9] (λ g=>[(8,Go.Proofs.YtnoegalemkbbbaaGreatDoor.EG g.1 g.2)]) U U call143 U U (λ w M hS hF=>T4 hS (hF.get (k:=1) U) Aa) λ gg N=>?_) U
 obtain⟨pu,C⟩:=gg
 dsimp only at N
 have hl8:len C=(AN t).length:=by unfold len;omega
 refine A1 U (λ E=>?_) (λ E=>?_)<;>simp only[zb]at E
 ·refine A1 U (λ q=>?_) (λ q=>?_)<;>simp only[zb]at q<;>rw[D]at q
  ·have F:HQ x i t=if x.s∈B6 t then .ok (at' (AN t) (BU (B6 t) x.s)) 0 else .er i 2:=by unfold HQ;rw[if_pos E,if_pos q]
   refine DN [1,4,5] 4 (λ _ _ _ _ _ h=>h) U BM U <|AL 1 U U U <|AR [] (λ u:Value=>.sl 5 u) [] (λ u=>[(5,QV u (B6 t))]) U U call147 U U (λ w M hS hF=>gV hS (hF.get (k:=1) U) Aa) λ nu _=>C1 5 U <|AE U <|AL 4 U U U <|AK U call153 U U (λ _ w M A=>uT (B6 t) x.s nu w M A.st.sat (A.f.get (k:=5) U)) U <|AE U <|AL 5 U U U <|AE U <|BO U U U ?_
   by_cases hm:x.s∈B6 t
   ·obtain⟨j1,j2⟩:=PB hm
    obtain⟨j,hj⟩: ∃j:Nat,j=(BU (B6 t) x.s).toNat:=⟨_,rfl⟩
    have O:MT (B6 t) x.s=j:=by unfold MT;rw[if_pos hm];omega
    rw[F,if_pos hm,j2,<-hj]at z
    have P:j<(AN t).length:=by omega
    rw[O]
    refine A1 U (λ e=>?_) (λ e=>?_)<;>simp only[zb]at e
    ·refine A2 z U U (hO:=by and_intros<;>first|omega|(show(j:Int)<len C;omega)) U λ w M' A=>⟨at' C (j:Int),M',rfl,trivial,A.le,A.B9 [] U,AH ?_ A4⟩
     have h2:B3 M' 11 Tm.cells C ((AN t).map Tf.flat):=(A.f.get (k:=9) U).more
     have S:=B3.at h2 (k:=(j:Int)) Aa Aa
     rw[MY P]at S
     exact⟨S,Tm.AT,trivial⟩
    ·omega
   ·rw[F,if_neg hm]at z
    rw[uS hm]
    refine A1 U (λ e=>?_) (λ e=>?_)<;>simp only[zb]at e
    ·omega
    refine A1 U (λ l=>?_) (λ l=>?_)<;>simp only[zb]at l<;>rw[D]at l
    ·exact EW [] U U call81 U U (λ w M hS hF=>FL i 2 hS) λ a w M hs hS hle=>E7 _ (z.p ⟨M,rfl,hS.drop _ (((List.Sublist.refl _).cons _).cons _),hle⟩ a hs)
    ·omega
  ·rw[show HQ x i t= .er i 1 by unfold HQ;rw[if_pos E,if_neg q]]at z
   refine A1 U (λ e=>?_) (λ e=>?_)<;>simp only[zb]at e
   ·omega
   refine A1 U (λ l=>?_) (λ l=>?_)<;>simp only[zb]at l<;>rw[D]at l
   ·omega
   ·exact EW [] U U call81 U U (λ w M hS hF=>FL i 1 hS) λ a w M hs hS hle=>E7 _ (z.p ⟨M,rfl,hS.drop _ (((List.Sublist.refl _).cons _).cons _),hle⟩ a hs)
 refine CY 0 (λ s=> ∃b:Bool,(b=true↔x.op=2\/x.op=3\/x.op=14)/\s=⟨[(1,A7 u.v t.flat),(9,FU C ((AN t).map Tf.flat))],[(8,Go.Proofs.YtnoegalemkbbbaaGreatDoor.EG pu C),(3,.box R (EO x.cells) 48)],[Z 1 (I i),Z 2 (.sl 1 u.v),Z 3 (.bx 3 R 0),Z 7 (.sl 8 pu),Z 8 (I (at' t.flat 0).op),Z 17 (I x.op),Z 39 (.v (.bool b))]⟩) U U (λ q=>?_) (λ q=>?_) ?_<;>try simp only[zb]at q
 ·exact AW _ U U ⟨_,by simp[q],rfl⟩
 ·refine A1 U (λ e=>?_) (λ e=>?_)<;>simp only[zb]at e
  ·exact AW _ U U ⟨_,by simp[e],rfl⟩
  ·exact AW _ U U ⟨_,by simp[e,q],rfl⟩
 rintro s ⟨b,T,rfl⟩
 refine A1 U (λ q=>?_) (λ q=>?_)
 ·have H:=T.1 q
  have F:HQ x i t=if t.t.op=4 then IL x i (AN t)else if t.t.op=5/\x.op≠2 then .ok t 0 else .er i 1:=by unfold HQ;rw[if_neg E,if_pos H]
  refine A1 U (λ e=>?_) (λ e=>?_)<;>simp only[zb]at e<;>rw[D]at e
  ·rw[F,if_pos e,<-PR.ret (IL x i (AN t))]at z
   exact EI [8] [4] (λ _ (h:AI)=>.sl 4 h.v) (λ _ _ _=>[]) z U U call156 U U (List.sublist_cons_self _ _) (λ w M hS hF=>Au6 x i pu C (AN t) hS (hF.get (k:=9) U).more Aa Aa) λ y jj hy z h4 _=>A2 z U U U λ w M' A=>⟨h4,M',rfl,trivial,A.le,A.B9 [] U,AH (A.f.get (k:=4) U) A4⟩
  refine A1 U (λ l=>?_) (λ l=>?_)<;>simp only[zb]at l<;>rw[D]at l
  ·rw[F,if_neg e,if_pos l]at z
   exact A2 z U U U λ w M' A=>⟨u,M',rfl,trivial,A.le,A.B9 [] U,AH (A.f.get (k:=1) U) A4⟩
  ·rw[F,if_neg e,if_neg Aa]at z
   exact EW [] U U call81 U U (λ w M hS hF=>FL i 1 hS) λ a w M hs hS hle=>E7 _ (z.p ⟨M,rfl,hS.drop _ (((List.Sublist.refl _).cons _).cons _),hle⟩ a hs)
 have H: ¬(x.op=2\/x.op=3\/x.op=14):=λ h=>by have:=T.2 h;rw[q]at this;cases this
 have F:HQ x i t=if x.op=10 then(if t.t.op=3 then .ok (.mk (AD 6) (AN t)) 0 else .er i 1)else if x.op=11 then(if t.t.op=6 then .ok (.mk (AD 3) (AN t)) 0 else .er i 1)else .er i 1:=by unfold HQ;rw[if_neg E,if_neg H]
 have K: ∀o,(Tf.mk (AD o) (AN t))=CS (AD o) [] (AN t):=λ o=>by unfold CS;rw[W7]
 rw[K,K]at F
 refine A1 U (λ e=>?_) (λ e=>?_)<;>simp only[zb]at e
 ·refine A1 U (λ l=>?_) (λ l=>?_)<;>simp only[zb]at l<;>rw[D]at l
  ·rw[F,if_pos e,if_pos l]at z
   exact C1 8 U <|AR [] (λ h:AI=>.sl 10 h.v) [] (λ h=>[(10,EA h.v (CS (AD 6) [] (AN t)).flat)]) U U call146 U U (λ w M hS hF=>LM (AD 6) (.slice none 0 0) [] pu C (AN t) hS (Sl.nil M 1) (hF.get (k:=8) U).sl (hF.get (k:=9) U).more Aa) λ J _=>C1 10 U <|A2 z U U U λ w M' A=>⟨J,M',rfl,trivial,A.le,A.B9 [] U,AH (A.f.get (k:=10) U) A4⟩
  ·rw[F,if_pos e,if_neg l]at z
   exact EW [] U U call81 U U (λ w M hS hF=>FL i 1 hS) λ a w M hs hS hle=>E7 _ (z.p ⟨M,rfl,hS.drop _ (((List.Sublist.refl _).cons _).cons _),hle⟩ a hs)
 refine A1 U (λ l=>?_) (λ l=>?_)<;>simp only[zb]at l
 ·refine A1 U (λ G=>?_) (λ G=>?_)<;>simp only[zb]at G<;>rw[D]at G
  ·rw[F,if_neg e,if_pos l,if_pos G]at z
   exact C1 8 U <|AR [] (λ h:AI=>.sl 10 h.v) [] (λ h=>[(10,EA h.v (CS (AD 3) [] (AN t)).flat)]) U U call146 U U (λ w M hS hF=>LM (AD 3) (.slice none 0 0) [] pu C (AN t) hS (Sl.nil M 1) (hF.get (k:=8) U).sl (hF.get (k:=9) U).more Aa) λ J _=>C1 10 U <|A2 z U U U λ w M' A=>⟨J,M',rfl,trivial,A.le,A.B9 [] U,AH (A.f.get (k:=10) U) A4⟩
  ·rw[F,if_neg e,if_pos l,if_neg G]at z
   exact EW [] U U call81 U U (λ w M hS hF=>FL i 1 hS) λ a w M hs hS hle=>E7 _ (z.p ⟨M,rfl,hS.drop _ (((List.Sublist.refl _).cons _).cons _),hle⟩ a hs)
 ·rw[F,if_neg e,if_neg l]at z
  exact EW [] U U call81 U U (λ w M hS hF=>FL i 1 hS) λ a w M hs hS hle=>E7 _ (z.p ⟨M,rfl,hS.drop _ (((List.Sublist.refl _).cons _).cons _),hle⟩ a hs)
end Go.Proofs.YtnoegalemkbbbaaGreatDoor
namespace Go.Eng
open Go.RowKit
abbrev TE(hs:List AI)(qs:List (List Sp)):Kn:=⟨.slice none 0 0,1,([]:List A0),CX,λ M=>B3 M 3 Sp.cells hs qs,λ _ _ hm h=>B3.mono hm h⟩
theorem Av6(n:A0)(x:Tf):D9 (x.named n).flat=D9 x.flat:=by
 cases x with|mk t ps=>
 show D9 ({ t with name:=n,many:=len ps}::AP ps)=D9 ({ t with many:=len ps}::AP ps)
 cases AP ps<;>rfl
theorem Av7{x:Tf}(h:x.AS)(hs:K0 x.node=true):x.ps=[]:=by
 have hm:len x.ps=0:=by
  unfold K0 at hs
  simp only[Bool.or_eq_true,decide_eq_true_eq]at hs
  have hp:=h.plain
  unfold CQ at hp
  rcases hs with hs|hs
  ·rw[if_neg Aa,if_pos hs]at hp
   simp only[Bool.and_eq_true,decide_eq_true_eq]at hp
   exact hp.1.2
  ·exact(i6 h.plain (.inl hs)).1
 exact List.eq_nil_of_length_eq_zero (by unfold len at hm;omega)
theorem Av8: ∀(n:Nat) (x:Tf),x.size<=n->x.AS->MR x.flat=true:=by
 intro n
 induction n with
 |zero=>intro x h;have:=x.size_pos;omega
 |succ n j=>
  intro x s hg
  have hs:=x.size_eq
  by_cases h4:x.t.op=4
  ·obtain⟨a,b,e⟩:=hg.two (.inl h4)
   rw[e,A6,A6,A6]at hs
   have k:a.AS:=hg.kids a (by rw[e];simp)
   have l:b.AS:=hg.kids b (by rw[e];simp)
   have q:x.flat=x.node::a.node::(AP a.ps++b.flat):=by rw[Tf.GO,e];show _::(a.flat++(b.flat++[]))=_;rw[List.append_nil,Tf.GO a];rfl
   rw[q]
   by_cases hst:K0 a.node=true
   ·have:=Av7 k hst
    rw[this]
    show MR (_::_::b.flat)=true
    have i:=j b Aa l
    unfold MR
    rw[i,Bool.or_true]
   ·unfold MR
    have:K0 a.node=false:=by simpa using hst
    rw[this];simp
  ·have ho:x.node.op≠4:=h4
   rw[Tf.GO]
   cases AP x.ps with
   |nil=>show(x.node.op != 4)=true;simpa using ho
   |cons y r=>unfold MR;simp[ho]
end Go.Eng
namespace Go.Proofs.YtnoegalemkbbbaaGreatDoor
open Go.Proofs.Tryz
open Go.Eng Go.RowKit
abbrev TF(b:Nat)(pv:Value):HO:=.box b [pv] 61
abbrev TG(b:Nat):Value:=.func (.func 149) #[] #[.pointer (some ⟨b,0,none⟩)]
theorem Av9{w0 i:World}{M0 M:Mem}{Rs:List HO}(b:Nat)(pv h:Value)(p q:List Sp)(hS:St w0 M0 i M (TF b pv::Rs))(hp:(kn pv 3 p Sp.cells).ok M)(j:(kn h 3 q Sp.cells).ok M):
  Calls prog 149 [h,.pointer (some ⟨b,0,none⟩)].toArray i (BJ w0 M0 M Rs (λ _:Unit=>.bool (!IK p q)) (λ _=>True) (λ _=>[]) λ _=>[TF b pv]):=AJ (Hr:=Rs) AG func149 U ntmps149 [(1,kn pv 3 p Sp.cells),(0,kn h 3 q Sp.cells)] [(0,.box b [.sl 1 pv] 61)] [.sl 0 h,.bx 0 b 0] U hS (AH hp (AH j A4)) (λ B l=>AK U call150 U U (λ _ w M e=>At6 p q pv h w M e.st.sat (e.f.get (k:=1) U) (e.f.get (k:=0) U)) U <|A2 l U U U λ w M' e=>⟨(),M',rfl,trivial,e.le,e.st,A4⟩) U
theorem Aw0{M:Mem}{hs:List AI}{b:List (List Sp)}(h:B3 M 3 Sp.cells hs b){k:Int}(h0:0<=k)(h1:k<len hs):(kn (at' hs k).v 3 (at' b k) Sp.cells).ok M:=⟨B3.at h h0 h1,λ _=>rfl,trivial⟩
theorem Aw1{w0 y:World}{M0 M:Mem}{Rs:List HO}(b:Nat)(pv v:Value)(p:List Sp)(hs:List AI)(i:List (List Sp))(hS:St w0 M0 y M (TF b pv::Rs))(hp:(kn pv 3 p Sp.cells).ok M)(hl:(kn v 1 hs BN).ok M)(z:B3 M 3 Sp.cells hs i)(E:len hs<=1099511627776):
    Calls prog 178 [v,TG b].toArray y (BJ w0 M0 M Rs (λ k:Int=>i64 k) (λ k=>0<=k↔(i.any λ q=> !IK p q)=true) (λ _=>[]) λ _=>[TF b pv]):=by
 have hlen:len hs=len i:=by have:=B3.len z;unfold len;omega
 have C:=A9 i
 refine AJ (Hr:=Rs) AG func178 U ntmps178 [(0,kn v 1 hs BN),(1,kn pv 3 p Sp.cells),(2,TE hs i)] [(0,.box b [.sl 1 pv] 61)] [.sl 0 v,.v (TG b)] U hS (AH hl (AH hp (AH ⟨Sl.nil M 1,DC,z⟩ A4))) (λ B A=>B5 (σ:=Int) (λ k=>⟨[(0,kn v 1 hs BN),(1,kn pv 3 p Sp.cells),(2,TE hs i)],[(0,.box b [.sl 1 pv] 61)],[Z 0 (.sl 0 v),Z 1 (.v (TG b)),Z 7 (I (len hs)),Z 8 (I k)]⟩) (λ k=>0<=k/\k<=len hs/\ ∀a∈Eng.sub i 0 k,¬(!IK p a)=true) (λ k=>(len hs-k).toNat) 0 rfl rfl ⟨Aa,Aa,λ x hx=>by cases hx⟩ ?_) U
 intro k ⟨h0,h1,j⟩
 refine A1 U (λ l=>?_) (λ l=>?_)<;>simp only[zb]at l
 ·refine AR [0] (λ _:Unit=>.v (.bool (!IK p (at' i k)))) [] (λ _=>[(0,.box b [.sl 1 pv] 61)]) (Fg:=λ _=>[]) (pu:=λ _=>True) U U call149 U U (λ w M hS hF=>Av9 b pv (at' hs k).v p (at' i k) hS (hF.get (k:=1) U) (Aw0 (hF.get (k:=2) U).more h0 l)) λ _ _=>A1 U (λ n=>?_) (λ n=>?_)
  ·exact A2 A U U U λ w M' s=>⟨k,M',rfl,⟨λ _=>List.any_eq_true.2 ⟨at' i k,at_mem h0 Aa,n⟩,λ _=>h0⟩,s.le,s.st,A4⟩
  ·exact AX (k+1) U U ⟨Aa,Aa,λ a e=>by
    rw[FT h0 Aa]at e
    rcases List.mem_append.1 e with e|e
    ·exact j a e
    ·rw[List.mem_singleton.1 e,n];decide⟩ Ag
 ·rw[G6 Aa]at j
  exact A2 A U U U λ w M' s=>⟨-1,M',rfl,⟨λ h=>by omega,λ h=>by
   obtain⟨a,e,D⟩:=List.any_eq_true.1 h
   exact absurd D (j a e)⟩,s.le,s.st,A4⟩
theorem Aw2{w0 l:World}{M0 M:Mem}{Rs:List HO}(b:Nat)(pv v:Value)(p:List Sp)(hs:List AI)(i:List (List Sp))(hS:St w0 M0 l M (TF b pv::Rs))(hp:(kn pv 3 p Sp.cells).ok M)(hl:(kn v 1 hs BN).ok M)(s:B3 M 3 Sp.cells hs i)(y:len hs<=1099511627776):
    Calls prog 148 [v,TG b].toArray l (BJ w0 M0 M Rs (λ _:Unit=>.bool (i.any λ q=> !IK p q)) (λ _=>True) (λ _=>[]) λ _=>[TF b pv]):=by
 refine AJ (Hr:=Rs) AG func148 U ntmps148 [(0,kn v 1 hs BN),(1,kn pv 3 p Sp.cells),(2,TE hs i)] [(0,.box b [.sl 1 pv] 61)] [.sl 0 v,.v (TG b)] U hS (AH hl (AH hp (AH ⟨Sl.nil M 1,DC,s⟩ A4))) (λ B z=>AR [0] (λ k:Int=>I k) [] (λ _=>[(0,.box b [.sl 1 pv] 61)]) (Fg:=λ _=>[]) (pu:=λ k=>0<=k↔(i.any λ q=> !IK p q)=true) U U call178 U U (λ w M hS hF=>Aw1 b pv v p hs i hS (hF.get (k:=1) U) (hF.get (k:=0) U) (hF.get (k:=2) U).more y) λ k j=>?_) U
 exact A2 z U U U λ w M' n=>⟨(),M',by
  have e:decide (0<=k)=(i.any λ q=> !IK p q):=by
   by_cases h:0<=k
   · rw[j.1 h];simpa using h
   · rw[show(i.any λ q=> !IK p q)=false from by rw[<-Bool.not_eq_true];exact λ q=>h (j.2 q)];simpa using h
  rw[<-e];rfl,trivial,n.le,n.st,A4⟩
end Go.Proofs.YtnoegalemkbbbaaGreatDoor
