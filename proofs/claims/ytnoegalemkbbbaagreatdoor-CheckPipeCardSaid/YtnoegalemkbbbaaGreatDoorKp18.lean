/- Lemmas for the card. -/
import Derived.Test.YtnoegalemkbbbaaGreatDoorKp17
set_option linter.unusedVariables false
set_option linter.unusedSimpArgs false
set_option maxRecDepth 100000
set_option maxRecDepth 100000
namespace Go.Eng
open Go.RowKit
abbrev JO(s:A0):Tm:= { AP 1 with s:=s}
theorem uP(v:Tf)(s:A0):G0 v s=true↔(v.named []).node=JO s:=by
 unfold G0
 rw[decide_eq_true_iff]
 constructor
 ·intro h
  rw[Tf.FK,Tf.FK]at h
  exact(List.cons.inj h).1
 ·intro h
  have hm:len (v.named []).ps=0:=by have:=congrArg Tm.many h;exact this
  have hp:(v.named []).ps=[]:=List.eq_nil_of_length_eq_zero (by unfold len at hm;omega)
  rw[Tf.FK,h,hp];rfl
theorem uQ{v:Tf}{i:Int}(h:G0 v ET=true):GP v i=(K2,i):=by unfold GP;rw[if_pos h]
theorem As4{v a b:Tf}{i:Int}(h0:G0 v ET=false)(ho:v.t.op=4)(e:v.ps=[a,b])(h:G0 a ET=true):GP v i=(b.named [],i+2):=by
 unfold GP
 rw[if_neg (by rw[h0];decide),if_pos ⟨ho,by rw[e];exact h⟩]
 unfold AL;rw[e];rfl
theorem As5{v:Tf}{i:Int}(h0:G0 v ET=false)(h: ¬(v.t.op=4/\G0 (at' v.ps 0) ET=true)):GP v i=(default,-1):=by
 unfold GP
 rw[if_neg (by rw[h0];decide),if_neg h]
def MX(p:Tf×Int):Fl:=if 0<=p.2 then p.1.flat else []
theorem As6{g a b:Tf}(ho:g.t.op=8)(e:g.ps=[a,b]):DM g=
  if a.t.name=IJ/\b.t.name=ET then(if G0 a IJ=true then GP b (1+a.size)else(default,-1))
  else if a.t.name=ET/\b.t.name=IJ then(if G0 b IJ=true then GP a 1 else(default,-1))else(default,-1):=by
 unfold DM
 rw[if_neg (by rw[e];simp[ho,len]),e]
 rfl
end Go.Eng
namespace Go.Proofs.YtnoegalemkbbbaaGreatDoor
open Go.Proofs.Tryz
open Go.Eng Go.RowKit
theorem As7{w0 wv:World}{M0 M:Mem}{Rs:List HO}(g:Tf)(v:Value)(hg:g.AR)(hS:St w0 M0 wv M Rs)(hl:(A7 v g.flat).ok M)(hb:g.size<=16777216):
    Calls prog 144 [v].toArray wv (BJ w0 M0 M Rs (λ h:AI=>.tuple #[h.v,i64 (DM g).2]) (λ _=>True) (λ h=>[(0,A7 h.v (MX (DM g)))]) λ _=>[]):=by
 have hgz:=CN g
 have hgp:=g.size_pos
 have hge:=g.size_eq
 have hop:(at' g.flat 0).op=g.t.op:=by rw[g.DA];rfl
 have hmn:(at' g.flat 0).many=len g.ps:=by rw[g.DA];rfl
 have A: ∀ {w:World} {M':Mem},(DM g).2= -1->M.le M'->St w0 M0 w M' Rs->BJ w0 M0 M Rs (λ h:AI=>.tuple #[h.v,i64 (DM g).2]) (λ _=>True) (λ h=>[(0,A7 h.v (MX (DM g)))]) (λ _=>[]) (.returned (.tuple #[.slice none 0 0,i64 (-1)])) w:=λ{w M'} h1 F s=>by
  refine⟨⟨none,0,0⟩,M',by rw[h1],trivial,F,s,?_⟩
  have e:MX (DM g)=[]:=by unfold MX;rw[if_neg (by rw[h1];decide)]
  rw[e]
  exact AG ⟨Sl.nil M' 11,Tm.AV,trivial⟩ A4
 refine AH (Hr:=Rs) AF func144 U ntmps144 [(0,A7 v g.flat)] [] [.sl 0 v] U hS (AG hl A4) (λ B hB=>?_) U
 refine A1 U (λ P=>?_) (λ P=>?_)<;>simp only[zb]at P<;>rw[hop,hmn]at P
 ·exact A2 hB U U U λ w M' q=>A (by unfold DM;rw[if_pos Aa]) q.le (q.B9 [] U)
 obtain⟨a,b,e⟩:=i7 (l:=g.ps) Aa
 have ho:g.t.op=8:=by omega
 have Q:=As6 ho e
 have ha:a.AR:=hg.kids a (by rw[e];simp)
 have hbg:b.AR:=hg.kids b (by rw[e];simp)
 have T:b.t.name≠a.t.name:=λ h=>(hg.L4 [a] b [] (by rw[e];rfl)).d ho (by rw[h];simp)
 rw[e,A6,A6,A6]at hge
 have hpn:DU g=[(a.named []).flat,(b.named []).flat]:=by rw[P7];unfold AL;rw[e];rfl
 have hza:=CN (a.named [])
 have hzb:=CN (b.named [])
 rw[Tf.E7]at hza hzb
 have hgf:g.flat=g.node::(a.flat++(b.flat++[])):=by rw[Tf.FK,e];rfl
 have hn1:(at' g.flat 1).name=a.t.name:=by rw[hgf,Tf.FK a];rfl
 have hn2:(at' g.flat (1+(a.size:Int))).name=b.t.name:=by
  have:=iH (g.node::a.flat) b.flat [] (j:=0) Aa b.EE
  rw[Int.add_zero,AM,show len a.flat=a.size from CN a]at this
  have e3:g.flat=(g.node::a.flat)++(b.flat++[]):=hgf
  rw[e3,show(1+(a.size:Int))=(a.size:Int)+1 by omega,this,b.DA];rfl
 refine AS [] (λ g:Value×List AI=>.sl 4 g.1) [4] (λ _=>[]) U U call77 U U (λ w M hS hF=>SA hS (hF.get (k:=0) U) Aa) λ K hgg=>?_
 have hgl2:len K.2=2:=by rw[hgg,e];rfl
 refine DS 6 (A7 (.slice none 0 0) []) (λ w M q=>⟨Sl.nil M 11,Tm.AV,trivial⟩) <|CH U Ad Aa <|KR 6 6 U ?_
 refine B5 (σ:=Nat×Int×Int×Value×Fl) (λ(k,pl,D,u,vx)=>⟨[(0,A7 v g.flat),(4,C6 K.1 K.2 (DU g)),(6,A7 u vx)],[],[Z 0 (.sl 0 v),Z 4 (I pl),Z 5 (I D),Z 6 (.sl 6 u),Z 23 (.sl 4 K.1),Z 24 (I (len K.2)),Z 25 (I k)]⟩)
  (λ(k,pl,D,u,vx)=>(k=0/\pl=1/\D= -1)\/(k=1/\pl=1+a.size/\((a.t.name=IJ/\G0 a IJ=true/\D= -1)\/(a.t.name=ET/\D=1/\vx=(a.named []).flat)))\/(k=2/\ ∃x,x.AR/\(x.named []).flat=vx/\DM g=GP x D/\1<=D/\D<=16777216)) (λ(k,pl,D,u,vx)=>2-k) (0,1,-1,.slice none 0 0,[]) U U (.inl ⟨rfl,rfl,rfl⟩) ?_
 rintro⟨k,pl,D,u,vx⟩ hI
 dsimp only at hI
 refine A1 U (λ hb2=>?_) (λ hb2=>?_)<;>simp only[zb]at hb2
 ·obtain⟨x,hxk,hpl0,J,hnx⟩: ∃x:Tf,at' (DU g) (k:Int)=(x.named []).flat/\(0<=pl/\pl+x.size<=g.size)/\(k=0/\x=a/\pl=1\/k=1/\x=b/\pl=1+a.size)/\(at' g.flat pl).name=x.t.name:=by
   rcases hI with⟨h1,F,s⟩|⟨h1,F,s⟩|⟨h1,s⟩
   ·subst h1;subst F;exact⟨a,by rw[hpn];rfl,⟨Aa,Aa⟩,.inl ⟨rfl,rfl,rfl⟩,hn1⟩
   ·subst h1;subst F;exact⟨b,by rw[hpn];rfl,⟨Aa,Aa⟩,.inr ⟨rfl,rfl,rfl⟩,hn2⟩
   ·omega
  have hxp:=x.size_pos
  have hzx:=CN (x.named [])
  rw[Tf.E7]at hzx
  have R: ∀ {M:Mem},(C6 K.1 K.2 (DU g)).ok M->(A7 (at' K.2 (k:Int)).v (x.named []).flat).ok M:=λ h=>by
   have:=F9 h (k:=(k:Int)) Aa Aa
   rw[hxk]at this;exact this
  refine A1 U (λ C=>?_) (λ C=>?_)<;>simp only[zb]at C<;>rw[hnx]at C
  ·refine BF 9 [JO IJ] Tm.cells 11 48 Tm.AV U U Ah U λ v9=>AJ U call176 U U (λ _ w M q=>Ar9 (x.named []).flat [JO IJ] (at' K.2 (k:Int)).v v9 w M q.st.sat (R (q.f.get (k:=4) U)) (q.f.get (k:=9) U)) U <|A1 U (λ z=>?_) (λ z=>?_)
   ·have L:G0 x IJ=false:=by
     have: ¬(x.named []).flat=[JO IJ]:=by simpa using z
     exact decide_eq_false this
    refine A2 hB U U U λ w M' q=>A ?_ q.le (q.B9 [] U)
    rw[Q]
    rcases J with⟨_,rfl,_⟩|⟨_,rfl,_⟩
    ·rw[L,C];simp
    ·rw[L,C];simp
   ·have y:G0 x IJ=true:=by
     have:(x.named []).flat=[JO IJ]:=by simpa using z
     exact decide_eq_true this
    refine AU (W:=.t) (I (len (x.named []).flat)) U U (λ w M q=>PV.O4 (R (q.f.get (k:=4) U)).sl (A8 (v:=.v (at' K.2 (k:Int)).v) (E:=[]) U) ⟨_,underlying23⟩) <|AX (k+1,pl+len (x.named []).flat,D,u,vx) U U ?_ (by show 2-(k+1)<2-k;omega)
    rcases J with⟨X,rfl,N⟩|⟨X,rfl,N⟩
    ·rcases hI with⟨h1,F,s⟩|⟨h1,F,s⟩|⟨h1,s⟩
     ·exact .inr (.inl ⟨Aa,Aa,.inl ⟨C,y,s⟩⟩)
     ·omega
     ·omega
    ·rcases hI with⟨h1,F,s⟩|⟨h1,F,s|s⟩|⟨h1,s⟩
     ·omega
     ·exact absurd (C.trans s.1.symm) T
     ·refine .inr (.inr ⟨Aa,a,ha,s.2.2.symm,?_,Aa,Aa⟩)
      rw[Q,C,s.1,y,s.2.1];rfl
     ·omega
  refine A1 U (λ z=>?_) (λ z=>?_)<;>simp only[zb]at z<;>rw[hnx]at z
  ·refine CH U Ad Ae <|DS 6 (A7 (at' K.2 (k:Int)).v (x.named []).flat) (λ w M q=>R (q.f.get (k:=4) U)) (KR 6 6 U ?_)
   refine AU (W:=.t) (I (len (x.named []).flat)) U U (λ w M q=>PV.O4 (R (q.f.get (k:=4) U)).sl (A8 (v:=.v (at' K.2 (k:Int)).v) (E:=[]) U) ⟨_,underlying23⟩) <|AX (k+1,pl+len (x.named []).flat,pl,(at' K.2 (k:Int)).v,(x.named []).flat) U U ?_ (by show 2-(k+1)<2-k;omega)
   rcases J with⟨X,rfl,N⟩|⟨X,rfl,N⟩
   ·exact .inr (.inl ⟨Aa,Aa,.inr ⟨z,N,rfl⟩⟩)
   ·rcases hI with⟨h1,F,s⟩|⟨h1,F,s|s⟩|⟨h1,s⟩
    ·omega
    ·refine .inr (.inr ⟨Aa,x,hbg,rfl,?_,Aa,Aa⟩)
     rw[Q,z,s.1,s.2.1,N];rfl
    ·exact absurd (z.trans s.1.symm) T
    ·omega
  ·refine A2 hB U U U λ w M' q=>A ?_ q.le (q.B9 [] U)
   rw[Q]
   rcases J with⟨_,rfl,_⟩|⟨_,rfl,_⟩
   ·rw[if_neg (λ h=>C h.1),if_neg (λ h=>z h.1)]
   ·rw[if_neg (λ h=>z h.2),if_neg (λ h=>C h.2)]
 obtain⟨x,hxg,hxv,O,hf0,hf1⟩: ∃x:Tf,x.AR/\(x.named []).flat=vx/\DM g=GP x D/\1<=D/\D<=16777216:=by
  rcases hI with⟨h1,F,s⟩|⟨h1,F,s⟩|⟨h1,s⟩
  ·omega
  ·omega
  ·exact s
 subst hxv
 have hxz:=CN (x.named [])
 have hxp:=(x.named []).size_pos
 have hx0:at' (x.named []).flat 0=(x.named []).node:=(x.named []).DA
 have hxe:=(x.named []).size_eq
 have hxo:(at' (x.named []).flat 0).op=x.t.op:=by rw[hx0];cases x;rfl
 have hfi:=uP x ET
 have hlen1:G0 x ET=true->len (x.named []).flat=1:=λ h=>by have:=of_decide_eq_true h;rw[this];rfl
 refine BA 10 U zeroValue48 U λ b9=>DI [8,10] 3 (λ _ _ _ _ _ h=>h) U BM U <|AK 8 U U U <|AU (.v (.bool (decide (at' (x.named []).flat 0=JO ET)))) U U (λ w M q=>PV.bin (A8 (v:=T6 (at' (x.named []).flat 0)) U) (A8 (v:=T6 (JO ET)) U) (λ _ w _=>MD _ _ _ _ w)) <|AD U <|AK 10 U U U <|AD U <|BN U U U ?_
 refine A1 U (λ S=>?_) (λ S=>?_)<;>simp only[zb]at S
 ·have y:G0 x ET=true:=hfi.2 (by rw[<-hx0];exact S.2)
  refine BF 11 [AP 0] Tm.cells 11 48 Tm.AV U U Ah U λ v11=>CH U Ad Aa <|UT 11 U λ a11 c11 e11=>?_
  subst e11
  refine A2 hB U U U λ w M' q=>⟨⟨a11,1,c11⟩,M',?_,trivial,q.le,q.B9 [] U,?_⟩
  ·rw[O,uQ y];rfl
  ·rw[O,uQ y]
   have:MX (K2,D)=[AP 0]:=by unfold MX;rw[if_pos (by show 0<=D;omega)];rfl
   rw[this]
   exact AG (q.f.get (k:=11) U) A4
 have L:G0 x ET=false:=by
  rw[<-Bool.not_eq_true]
  intro h
  have h1:=hlen1 h
  have F:=hfi.1 h
  rw[<-hx0]at F
  exact S.elim (λ h=>h h1) (λ h=>h F)
 have G:x.t.op=4-> ∃a b,x.ps=[a,b]/\(x.named []).flat=(x.named []).node::(a.flat++b.flat)/\at' (x.named []).flat 1=a.node/\2<len (x.named []).flat/\(G0 a ET=true↔a.node=JO ET)/\(G0 a ET=true->Eng.sub (x.named []).flat 2 (len (x.named []).flat)=b.flat)/\b.named []=b/\a.named []=a:=λ h4=>by
  obtain⟨a,b,V⟩:=hxg.two (.inl h4)
  have na:a.named []=a:=Tf.ME ((hxg.L4 [] a [b] (by rw[V];rfl)).n Aa)
  have nb:b.named []=b:=Tf.ME ((hxg.L4 [a] b [] (by rw[V];rfl)).n Aa)
  have hf:(x.named []).flat=(x.named []).node::(a.flat++b.flat):=by rw[Tf.FK,Tf.fW,V];show _::(a.flat++(b.flat++[]))=_;rw[List.append_nil]
  have ha1:=a.EE
  have P:=b.EE
  refine⟨a,b,V,hf,by rw[hf,Tf.FK a];rfl,by rw[hf,AM,AQ];omega,by have:=uP a ET;rw[na]at this;exact this,λ h=>?_,nb,na⟩
  have h1:a.flat=[JO ET]:=by have:=of_decide_eq_true h;rw[na]at this;rw[this];rfl
  rw[hf,h1]
  unfold Eng.sub len
  simp
  exact List.take_of_length_le Aa
 refine DI [10,12] 3 (λ _ _ _ _ _ h=>h) U BM U ?_
 have hlen:x.t.op=4->2<len (x.named []).flat:=λ h4=>by obtain⟨_,_,_,_,_,h5,_⟩:=G h4;exact h5
 rw[<-hxo]at hlen
 have hlen2:((at' (x.named []).flat 0).op==4)=false\/2<len (x.named []).flat:=by
  cases hq:(at' (x.named []).flat 0).op==4 with
  |false=>exact .inl U
  |true=>exact .inr (hlen (by simpa using hq))
 refine AK 10 U U U <|AU (.v (.bool (decide (at' (x.named []).flat 1=JO ET)))) U U (λ w M q=>PV.bin (A8 (v:=T6 (at' (x.named []).flat 1)) U) (A8 (v:=T6 (JO ET)) U) (λ _ w _=>MD _ _ _ _ w)) <|AD U <|AK 12 U U U <|AD U <|BN U U U ?_
 refine A1 U (λ H=>?_) (λ H=>?_)<;>simp only[zb]at H<;>rw[hxo]at H
 ·obtain⟨a',b',V,q1,q2,q3,q4,q5,q6,q7⟩:=G H.1
  have y:G0 a' ET=true:=q4.2 (by rw[<-q2];exact H.2)
  have hk:=As4 (i:=D) L H.1 V y
  rw[q6]at hk
  refine FO (gd:=none) 12 2 (len (x.named []).flat) U U U ⟨.i64,_,rfl,AE U⟩ U underlying23 sizeOf48 Aa U λ v12=>?_
  rw[q5 y]
  refine CH U Ad Ae <|UT 12 U λ a12 c12 e12=>?_
  subst e12
  refine A2 hB U U U λ w M' q=>⟨⟨a12,b'.flat.length,c12⟩,M',?_,trivial,q.le,q.B9 [] U,?_⟩
  ·rw[O,hk];rfl
  ·rw[O,hk]
   have:MX (b',D+2)=b'.flat:=by unfold MX;rw[if_pos (by show 0<=D+2;omega)]
   rw[this]
   exact AG (q.f.get (k:=12) U) A4
 ·refine A2 hB U U U λ w M' q=>A ?_ q.le (q.B9 [] U)
  rw[O,As5 L ?_]
  rintro⟨h4,h5⟩
  obtain⟨a',b',V,q1,q2,q3,q4,q5,q6,q7⟩:=G h4
  rw[V]at h5
  exact H.elim (λ h=>h h4) (λ h=>h (by rw[q2];exact q4.1 h5))
theorem As8{n:Nat}(H:QW n)(g:Tf){w0 wv:World}{M0 M:Mem}{Rs:List HO}(i:Int)(v:Value)(u:AI)(t:Tf)(S:g.size<=n)(hg:g.AR)(A:AT g)(hS:St w0 M0 wv M Rs)(E:Gl w0)(T:(A7 v g.flat).ok M)(V:(A7 u.v t.flat).ok M)(L:B6 t=true)(hs:AT t)(W:t.size*(1+hF g)<=16777216)(X:g.size<=16777216)(hi0:0<=i)(hi1:i+2*g.size+2<=1099511627776):
    Calls prog 89 [v,i64 i,u.v].toArray wv (K3 w0 M0 M Rs (EU (BG n) g i t)):=by
 have hgz:=CN g
 have hgp:=g.size_pos
 have hge:=g.size_eq
 have htz:=CN t
 have htp:=t.size_pos
 have hhp:=KN g hg
 rw[Nat.mul_add,Nat.mul_one]at W
 have G:(at' t.flat 0).op=t.t.op:=by rw[t.DA];rfl
 have N:(at' g.flat 0).op=g.t.op:=by rw[g.DA];rfl
 have J:g.t.op=4->1<len g.flat/\(at' g.flat 1).op=(at' g.ps 0).t.op:=λ F=>by
  obtain⟨a,b,e⟩:=hg.two (.inl F)
  have hap:=a.EE
  have hbp:=b.EE
  refine⟨?_,by rw[e,Tf.FK,e];show(at' (_::(a.flat++(b.flat++[]))) 1).op=a.t.op;rw[Tf.FK a];rfl⟩
  rw[Tf.FK,e]
  show 1<len (_::(a.flat++(b.flat++[])))
  rw[AM,AQ,AQ];have:=A9 ([]:Fl);omega
 have h14b:((at' g.flat 0).op==4)=false\/1<len g.flat:=by
  cases P:(at' g.flat 0).op==4 with
  |false=>exact .inl U
  |true=>rw[N]at P;exact .inr (J (by simpa using P)).1
 refine AH (Hr:=Rs) AF func89 U ntmps89 [(0,A7 v g.flat),(1,A7 u.v t.flat)] [] [.sl 0 v,I i,.sl 1 u.v] U hS (AG T (AG V A4)) (λ B q=>?_) U
 refine A1 U (λ s=>?_) (λ s=>?_)<;>simp only[zb]at s<;>rw[G]at s
 ·refine A1 U (λ l=>?_) (λ l=>?_)<;>simp only[zb]at l<;>rw[N]at l
  ·have GI:H5 g=true:=by
    unfold H5
    simp only[Bool.or_eq_true,Bool.and_eq_true,decide_eq_true_eq]
    rcases l with h|⟨h1,h2⟩
    ·exact .inl h
    ·exact .inr ⟨h1,by rw[<-(J h1).2];exact h2⟩
   have P:EU (BG n) g i t=(LC (BG n) g (i+1) (at' (AN t) 0)).bind λ y _=>.ok (.mk (AP 5) [y]) 0:=by unfold EU;rw[if_pos s,if_pos GI]
   obtain⟨x,e⟩:=B6.one L (.inr Aa)
   have hkl:(AN t).length=1:=by rw[MO Aa,List.length_map,e];rfl
   obtain⟨k1,Q⟩:=MS L hs
   have D:at' (AN t) 0∈AN t:=MU (k:=0) Aa
   have hm0:at' ((AN t).map Tf.flat) 0=(at' (AN t) 0).flat:=MW (k:=0) Aa
   have hkz:=I0 D
   have hte:=t.size_eq
   have hkb:(at' (AN t) 0).size*hF g<=16777216:=Nat.le_trans (Nat.mul_le_mul_right _ (show(at' (AN t) 0).size<=t.size by omega)) Aa
   refine AS [] (λ g:Value×List AI=>.sl 8 g.1) [9] (λ g=>[(8,EC g.1 g.2)]) U U call143 U U (λ w M hS hF=>SZ hS (hF.get (k:=1) U) Aa) λ gg hgg=>?_
   obtain⟨pu,K⟩:=gg
   dsimp only at hgg
   refine C2 8 U <|DS 8 (C6 pu K ((AN t).map Tf.flat)) (λ w M z=>⟨(z.f.get (k:=8) U).sl,CR,(z.f.get (k:=9) U).more⟩) ?_
   have hl8:len K=1:=by unfold len;omega
   rw[P]at q
   refine EF [] [4] (λ _ (h:AI)=>.sl 4 h.v) (λ _ _ _=>[]) q U U call142 U U (List.Sublist.refl _) (λ w M hS hF=>Ar2 H g (i+1) v (at' K 0) (at' (AN t) 0) S hg A hS E (hF.get (k:=0) U) (by have:=F9 (hF.get (k:=8) U) (k:=0) Aa Aa;rw[hm0]at this;exact this) (Q _ D).1 (Q _ D).2 GI hkb Aa Aa) λ y j R q F _=>?_
   have hiy:=uA hg A GI (T5 n _ (by have:=(MV (i:=i+1) hg A GI).2.2.2.2.2.2.1;omega) (MV (i:=i+1) hg A GI).2.2.1 (MV (i:=i+1) hg A GI).2.2.2.2.1) R (Q _ D).1 (Q _ D).2
   have hyz:=CN y
   have hys:=hiy.size
   exact AS [] (λ h:AI=>.sl 10 h.v) [] (λ h=>[(10,DV h.v (Tf.mk (AP 5) [y]).flat)]) U U call141 U U (λ w M hS hF=>Al3 F y hS (hF.get (k:=4) U) Aa) λ h10 _=>C2 10 U <|A2 q U U U λ w M' z=>⟨h10,M',rfl,trivial,z.le,z.B9 [] U,AG (z.f.get (k:=10) U) A4⟩
  ·have GI: ¬H5 g=true:=by
    unfold H5
    simp only[Bool.or_eq_true,Bool.and_eq_true,decide_eq_true_eq]
    rintro(h|⟨h1,h2⟩)
    ·exact l.1 h
    ·exact l.2.elim (λ h=>h h1) (λ h=>h (by rw[(J h1).2];exact h2))
   rw[show EU (BG n) g i t=F1 (BG n) g (i+1) t by unfold EU;rw[if_pos s,if_neg GI],<-PR.ret (F1 (BG n) g (i+1) t)]at q
   exact EF [] [4] (λ _ (h:AI)=>.sl 4 h.v) (λ _ _ _=>[]) q U U call91 U U (List.Sublist.refl _) (λ w M hS hF=>ZR H g (i+1) v u t S hg A hS E (hF.get (k:=0) U) (hF.get (k:=1) U) L hs Aa Aa Aa Aa) λ y j R q F _=>A2 q U U U λ w M' z=>⟨F,M',rfl,trivial,z.le,z.B9 [] U,AG (z.f.get (k:=4) U) A4⟩
 refine A1 U (λ l=>?_) (λ l=>?_)<;>simp only[zb]at l<;>rw[G]at l
 ·rw[show EU (BG n) g i t=F1 (BG n) g (i+1) t by unfold EU;rw[if_neg s,if_pos l],<-PR.ret (F1 (BG n) g (i+1) t)]at q
  exact EF [] [4] (λ _ (h:AI)=>.sl 4 h.v) (λ _ _ _=>[]) q U U call91 U U (List.Sublist.refl _) (λ w M hS hF=>ZR H g (i+1) v u t S hg A hS E (hF.get (k:=0) U) (hF.get (k:=1) U) L hs Aa Aa Aa Aa) λ y j R q F _=>A2 q U U U λ w M' z=>⟨F,M',rfl,trivial,z.le,z.B9 [] U,AG (z.f.get (k:=4) U) A4⟩
 refine A1 U (λ C=>?_) (λ C=>?_)<;>simp only[zb]at C<;>rw[G]at C
 ·refine AS [] (λ h:AI=>.tu [.sl 5 h.v,I (DM g).2]) [5] (λ _=>[]) (Fg:=λ h=>[(0,A7 h.v (MX (DM g)))]) (pu:=λ _=>True) U U call144 U U (λ w M hS hF=>As7 g v hg hS (hF.get (k:=0) U) X) λ h5 _=>?_
  refine A1 U (λ O=>?_) (λ O=>?_)<;>simp only[zb]at O
  ·obtain⟨q1,q2,q3,q4,q5⟩:=ZM hg A Aa
   have hkp:MX (DM g)=(DM g).1.flat:=if_pos Aa
   rw[show EU (BG n) g i t=F1 (BG n) (DM g).1 (i+1+(DM g).2) t by unfold EU;rw[if_neg s,if_neg l,if_pos C,if_pos Aa],<-PR.ret (F1 (BG n) (DM g).1 (i+1+(DM g).2) t)]at q
   have hsb:t.size*hF (DM g).1<=16777216:=Nat.le_trans (Nat.mul_le_mul_left _ q4) Aa
   exact EF [] [4] (λ _ (h:AI)=>.sl 4 h.v) (λ _ _ _=>[]) q U U call91 U U (List.Sublist.refl _) (λ w M hS hF=>ZR H (DM g).1 (i+1+(DM g).2) h5.v u t Aa q1 q2 hS E (by have:=hF.get (k:=5) U;rw[hkp]at this;exact this) (hF.get (k:=1) U) L hs Aa hsb Aa Aa) λ y j R q F _=>A2 q U U U λ w M' z=>⟨F,M',rfl,trivial,z.le,z.B9 [] U,AG (z.f.get (k:=4) U) A4⟩
  ·rw[show EU (BG n) g i t= .er i 1 by unfold EU;rw[if_neg s,if_neg l,if_pos C,if_neg Aa]]at q
   exact EY [] U U call81 U U (λ w M hS hF=>FL i 1 hS) λ a w M hs hS hle=>E4 _ (q.p ⟨M,rfl,hS.drop _ (List.Sublist.refl _),hle⟩ a hs)
 ·rw[show EU (BG n) g i t= .er i 1 by unfold EU;rw[if_neg s,if_neg l,if_neg C]]at q
  exact EY [] U U call81 U U (λ w M hS hF=>FL i 1 hS) λ a w M hs hS hle=>E4 _ (q.p ⟨M,rfl,hS.drop _ (List.Sublist.refl _),hle⟩ a hs)
theorem As9{w0 C:World}{M0 M:Mem}{Rs:List HO}{g n c:Nat}{xs:List Value}{i:Nat}(hS:St w0 M0 C M (.priv 9 1 (.slice (some ⟨g,0,none⟩) n c) n xs::Rs))(hi:i<n)(K:n<=1099511627)(q: ∀u∈xs,u.oneCell'=true):
    Calls prog 154 [.slice (some ⟨g,0,none⟩) n c,.int .i64 i,.int .i64 (i+1)].toArray C (BJ w0 M0 M Rs (λ _:Unit=>.slice (some ⟨g,0,none⟩) (n-1) c) (λ _=>True) (λ _=>[]) λ _=>[.priv 9 1 (.slice (some ⟨g,0,none⟩) (n-1) c) (n-1) (xs.eraseIdx i)]):=by
 obtain⟨_,_,s,D,F⟩:=hS.rowAt (i:=0) rfl
 have G:maxLen=9223372036854775807:=rfl
 obtain⟨a,H,y⟩: ∃a:Addr,OK g n c 1 (i+1)= .slice (some a) (n-(i+1)) (c-(i+1))/\(i+1<n->a=⟨g,i+1,none⟩):=by
  unfold OK
  split
  ·exact⟨_,rfl,λ h=>by omega⟩
  ·exact⟨_,rfl,λ _=>by rw[Nat.mul_one]⟩
 refine AH (Hr:=Rs) AF func154 U ntmps154 [] [(0,.ho (.priv 9 1 (.slice (some ⟨g,0,none⟩) n c) n xs))] [.v (.slice (some ⟨g,0,none⟩) n c),.v (.int .i64 i),.v (.int .i64 (i+1))] U hS A4 (λ B J=>AU (W:=.t) (I n) U U (λ w M b=>OL U underlying103) <|AU (W:=.t) (.v (sliced (some ⟨g,0,none⟩) (i:Int).toNat ((i:Int)+1).toNat (n:Int).toNat 1)) U U (λ w M b=>PV.n9 _ (A8 (v:=.v (.slice (some ⟨g,0,none⟩) n c)) (E:=[]) U) (A8 (v:=.v (.int .i64 i)) (E:=[]) U) (A8 (v:=.v (.int .i64 (i+1))) (E:=[]) U) (A8 (v:=I n) (E:=[]) U) underlying103 sizeOf9 Aa U) ?_) U
 refine A1 U (λ e=>?_) (λ e=>?_)<;>simp only[zb]at e
 ·omega
 refine AU (W:=.t) (I n) U U (λ w M b=>OL U underlying103) <|Y5 6 U BM Ac <|OM (W:=.t) (.v (.slice (some ⟨g,0,none⟩) i c)) U U (λ w M b=>Y3 i U U underlying103 sizeOf9 Aa U) <|OM (W:=.t) (.v (.slice (some a) (n-(i+1)) (c-(i+1)))) U U (λ w M b=>Go.Eng.EC (i+1) U U underlying103 sizeOf9 Aa Aa H.symm) <|Y6 (λ _ _ _ _ _ h=>h) U ?_
 have z:(xs.drop (i+1)).length=n-(i+1):=by rw[List.length_drop,s];omega
 refine nC 0 i (n-(i+1)) (cs:=xs.drop (i+1)) U U U underlying103 type9 U (by rw[z,Nat.mul_one]) (λ w M b j u hu=>by
  have L:=(List.getElem?_eq_some_iff.1 hu).1
  rw[y Aa]
  exact S4 b (kk:=0) (o:=i+1) U hu) (by rw[z];omega) Aa (λ u hu=>q u (List.mem_of_mem_drop hu)) ?_
 rw[Nat.mul_one]
 have A:i+(n-(i+1))=n-1:=by omega
 rw[A]
 refine AU (W:=.t) (I ((n-1:Nat):Int)) U U (λ w M b=>OL U underlying103) ?_
 refine AU (W:=.t) (.v (.slice (some ⟨g,n-1,none⟩) 1 (c-(n-1)))) U U (λ w M b=>PV.nA _ (A8 (v:=.v (.slice (some ⟨g,0,none⟩) (n-1) c)) (E:=[]) U) (A8 (v:=I ((n-1:Nat):Int)) (E:=[]) U) (A8 (v:=I n) (E:=[]) U) underlying103 sizeOf9 Aa (by
  unfold sliced
  rw[Int.toNat_natCast,Int.toNat_natCast,if_neg Aa,show n-(n-1)=1 by omega,Nat.mul_one]
  show Value.slice _ _ _=Value.slice _ _ _
  simp[F2])) ?_
 refine nD 0 (n-1) 1 U U U underlying103 zeroValue9 U U Aa (by unfold C1;simp only[List.length_append,List.length_take,List.length_drop];omega) <|nE 0 (n-1) U Aa <|A2 J U U U λ w M' b=>⟨(),M',rfl,trivial,b.le,?_,A4⟩
 have k:(C1 (C1 xs i (xs.drop (i+1))) (n-1) (List.replicate 1 (str []))).take ((n-1)*1)=xs.eraseIdx i:=by
  rw[List.eraseIdx_eq_take_drop_succ,Nat.mul_one]
  unfold C1
  have h1:(xs.take i++xs.drop (i+1)).length=n-1:=by rw[List.length_append,List.length_take,z];omega
  rw[List.take_append_of_le_length (l₁:=xs.take i++xs.drop (i+1)) Aa,List.take_of_length_le (l:=xs.take i++xs.drop (i+1)) Aa,List.append_assoc,List.take_append_of_le_length Aa,List.take_of_length_le Aa]
 have:=b.st
 rw[<-k]
 exact this
theorem At0{w0 C:World}{M0 M:Mem}{Rs:List HO}{g n c:Nat}{xs:List Value}{i:Nat}(hS:St w0 M0 C M (.priv 25 1 (.slice (some ⟨g,0,none⟩) n c) n xs::Rs))(hi:i<n)(K:n<=1099511627)(q: ∀u∈xs,u.oneCell'=true):
    Calls prog 155 [.slice (some ⟨g,0,none⟩) n c,.int .i64 i,.int .i64 (i+1)].toArray C (BJ w0 M0 M Rs (λ _:Unit=>.slice (some ⟨g,0,none⟩) (n-1) c) (λ _=>True) (λ _=>[]) λ _=>[.priv 25 1 (.slice (some ⟨g,0,none⟩) (n-1) c) (n-1) (xs.eraseIdx i)]):=by
 obtain⟨_,_,s,D,F⟩:=hS.rowAt (i:=0) rfl
 have G:maxLen=9223372036854775807:=rfl
 obtain⟨a,H,y⟩: ∃a:Addr,OK g n c 1 (i+1)= .slice (some a) (n-(i+1)) (c-(i+1))/\(i+1<n->a=⟨g,i+1,none⟩):=by
  unfold OK
  split
  ·exact⟨_,rfl,λ h=>by omega⟩
  ·exact⟨_,rfl,λ _=>by rw[Nat.mul_one]⟩
 refine AH (Hr:=Rs) AF func155 U ntmps155 [] [(0,.ho (.priv 25 1 (.slice (some ⟨g,0,none⟩) n c) n xs))] [.v (.slice (some ⟨g,0,none⟩) n c),.v (.int .i64 i),.v (.int .i64 (i+1))] U hS A4 (λ B J=>AU (W:=.t) (I n) U U (λ w M b=>OL U underlying53) <|AU (W:=.t) (.v (sliced (some ⟨g,0,none⟩) (i:Int).toNat ((i:Int)+1).toNat (n:Int).toNat 1)) U U (λ w M b=>PV.n9 _ (A8 (v:=.v (.slice (some ⟨g,0,none⟩) n c)) (E:=[]) U) (A8 (v:=.v (.int .i64 i)) (E:=[]) U) (A8 (v:=.v (.int .i64 (i+1))) (E:=[]) U) (A8 (v:=I n) (E:=[]) U) underlying53 sizeOf25 Aa U) ?_) U
 refine A1 U (λ e=>?_) (λ e=>?_)<;>simp only[zb]at e
 ·omega
 refine AU (W:=.t) (I n) U U (λ w M b=>OL U underlying53) <|Y5 6 U BM Ac <|OM (W:=.t) (.v (.slice (some ⟨g,0,none⟩) i c)) U U (λ w M b=>Y3 i U U underlying53 sizeOf25 Aa U) <|OM (W:=.t) (.v (.slice (some a) (n-(i+1)) (c-(i+1)))) U U (λ w M b=>Go.Eng.EC (i+1) U U underlying53 sizeOf25 Aa Aa H.symm) <|Y6 (λ _ _ _ _ _ h=>h) U ?_
 have z:(xs.drop (i+1)).length=n-(i+1):=by rw[List.length_drop,s];omega
 refine nC 0 i (n-(i+1)) (cs:=xs.drop (i+1)) U U U underlying53 type25 U (by rw[z,Nat.mul_one]) (λ w M b j u hu=>by
  have L:=(List.getElem?_eq_some_iff.1 hu).1
  rw[y Aa]
  exact S4 b (kk:=0) (o:=i+1) U hu) (by rw[z];omega) Aa (λ u hu=>q u (List.mem_of_mem_drop hu)) ?_
 rw[Nat.mul_one]
 have A:i+(n-(i+1))=n-1:=by omega
 rw[A]
 refine AU (W:=.t) (I ((n-1:Nat):Int)) U U (λ w M b=>OL U underlying53) ?_
 refine AU (W:=.t) (.v (.slice (some ⟨g,n-1,none⟩) 1 (c-(n-1)))) U U (λ w M b=>PV.nA _ (A8 (v:=.v (.slice (some ⟨g,0,none⟩) (n-1) c)) (E:=[]) U) (A8 (v:=I ((n-1:Nat):Int)) (E:=[]) U) (A8 (v:=I n) (E:=[]) U) underlying53 sizeOf25 Aa (by
  unfold sliced
  rw[Int.toNat_natCast,Int.toNat_natCast,if_neg Aa,show n-(n-1)=1 by omega,Nat.mul_one]
  show Value.slice _ _ _=Value.slice _ _ _
  simp[F2])) ?_
 refine nD 0 (n-1) 1 U U U underlying53 zeroValue25 U U Aa (by unfold C1;simp only[List.length_append,List.length_take,List.length_drop];omega) <|nE 0 (n-1) U Aa <|A2 J U U U λ w M' b=>⟨(),M',rfl,trivial,b.le,?_,A4⟩
 have k:(C1 (C1 xs i (xs.drop (i+1))) (n-1) (List.replicate 1 (.slice none 0 0:Value))).take ((n-1)*1)=xs.eraseIdx i:=by
  rw[List.eraseIdx_eq_take_drop_succ,Nat.mul_one]
  unfold C1
  have h1:(xs.take i++xs.drop (i+1)).length=n-1:=by rw[List.length_append,List.length_take,z];omega
  rw[List.take_append_of_le_length (l₁:=xs.take i++xs.drop (i+1)) Aa,List.take_of_length_le (l:=xs.take i++xs.drop (i+1)) Aa,List.append_assoc,List.take_append_of_le_length Aa,List.take_of_length_le Aa]
 have:=b.st
 rw[<-k]
 exact this
end Go.Proofs.YtnoegalemkbbbaaGreatDoor
namespace Go.Eng
open Go.RowKit
def QX(hs xs:List AI)(k:Nat):Prop:=xs.length=hs.length/\ ∀j,j<hs.length->at' xs (j:Int)=if j<k\/hs.length-k<=j then at' hs ((hs.length-1-j:Nat):Int)else at' hs (j:Int)
theorem uR{α:Type}[Inhabited α]{l:List α}{k j:Nat}{y:α}(q:k<l.length)(s:j<l.length):at' (l.set k y) (j:Int)=if j=k then y else at' l (j:Int):=by
 obtain⟨h1,b⟩:=CG (l.set k y) (i:=(j:Int)) Aa (by unfold len;rw[List.length_set];omega)
 obtain⟨w,n⟩:=CG l (i:=(j:Int)) Aa (by unfold len;omega)
 rw[b,n]
 simp only[Int.toNat_natCast,List.getElem_set]
 split
 ·rename_i h;rw[if_pos h.symm]
 ·rename_i h;rw[if_neg (λ e=>h e.symm)]
theorem QX.step {hs xs:List AI}{k:Nat}(h:QX hs xs k)(l:k<hs.length-1-k):QX hs ((xs.set k (at' xs ((hs.length-1-k:Nat):Int))).set (hs.length-1-k) (at' xs (k:Int))) (k+1):=by
 obtain⟨h1,b⟩:=h
 refine⟨by rw[List.length_set,List.length_set,h1],λ j i=>?_⟩
 rw[uR (by rw[List.length_set];omega) (by rw[List.length_set];omega),uR Aa Aa]
 have e:=b k Aa
 have e2:=b (hs.length-1-k) Aa
 rw[if_neg Aa]at e e2
 by_cases c1:j=hs.length-1-k
 ·rw[if_pos c1,if_pos Aa,e,c1];congr 1;omega
 ·rw[if_neg c1]
  by_cases c2:j=k
  ·rw[if_pos c2,if_pos Aa,e2,c2]
  ·rw[if_neg c2,b j i]
   by_cases c3:j<k\/hs.length-k<=j
   ·rw[if_pos c3,if_pos Aa]
   ·rw[if_neg c3,if_neg Aa]
theorem QX.done {hs xs:List AI}{k:Nat}(h:QX hs xs k)(y:hs.length<=2*k+1):xs=hs.reverse:=by
 obtain⟨h1,n⟩:=h
 apply List.ext_getElem (by rw[h1,List.length_reverse])
 intro j q b
 rw[List.length_reverse]at b
 rw[List.getElem_reverse]
 obtain⟨z,s⟩:=CG xs (i:=(j:Int)) Aa (by unfold len;omega)
 obtain⟨A,w⟩:=CG hs (i:=((hs.length-1-j:Nat):Int)) Aa (by unfold len;omega)
 have e:=n j b
 have l:at' xs (j:Int)=at' hs ((hs.length-1-j:Nat):Int):=by
  by_cases c:j<k\/hs.length-k<=j
  ·rw[if_pos c]at e;exact e
  ·rw[if_neg c]at e
   rw[e];congr 1;omega
 rw[s,w]at l
 simpa using l
end Go.Eng
namespace Go.Proofs.YtnoegalemkbbbaaGreatDoor
open Go.Proofs.Tryz
open Go.Eng Go.RowKit
theorem At1{w0 z:World}{M0 M:Mem}{Rs:List HO}(v:Value)(hs:List AI)(hS:St w0 M0 z M (NP v hs::Rs))(G:hs.length<=1099511627):
    Calls prog 182 [v].toArray z (BJ w0 M0 M Rs (λ _:Unit=>.tuple #[]) (λ _=>True) (λ _=>[]) λ _=>[NP v hs.reverse]):=by
 refine AH (Hr:=Rs) AF func182 U ntmps182 [] [(0,Go.Proofs.YtnoegalemkbbbaaGreatDoor.EC v hs)] [.sl 0 v] U hS A4 (λ B C=>B5 (σ:=Nat×Int×List AI) (λ(k,j,xs)=>⟨[],[(0,Go.Proofs.YtnoegalemkbbbaaGreatDoor.EC v xs)],[Z 0 (.sl 0 v),Z 2 (I k),Z 3 (I j)]⟩) (λ(k,j,xs)=>QX hs xs k/\k<=hs.length/\j=(hs.length:Int)-1-k) (λ(k,j,xs)=>hs.length-k) (0,len hs-1,hs) U (hO:=by unfold len;omega) U ⟨⟨rfl,λ j H=>by rw[if_neg Aa]⟩,Aa,by unfold len;omega⟩ ?_) U
 rintro⟨k,j,xs⟩ ⟨w,J,rfl⟩
 have l:=w.1
 have D:len xs=(hs.length:Int):=by unfold len;rw[l]
 refine A1 U (λ q=>?_) (λ q=>?_)<;>simp only[zb]at q
 ·have y:k<hs.length-1-k:=by omega
  have E:(hs.length:Int)-1-k=((hs.length-1-k:Nat):Int):=by omega
  have fin: ∀(e i:List AI),e=xs.set (k:Int).toNat (at' xs ((hs.length:Int)-1-k))->i=e.set ((hs.length:Int)-1-k).toNat (at' xs (k:Int))->QX hs i (k+1):=λ e i F e2=>by
   subst F;subst e2
   rw[E,Int.toNat_natCast,Int.toNat_natCast]
   exact w.step y
  refine DI [7,11,13,15] 5 (λ _ _ _ _ _ h=>h) U BM U <|G6 7 11 U U U ?_ ?_
  ·refine AD U <|AK 11 U U U <|AD U <|AK 13 U U U <|HU (at' xs ((hs.length:Int)-1-k)) U U U sizeOf25 U U U Aa λ e b=>AD U ?_
   have s:len e=(hs.length:Int):=by rw[b];unfold len;rw[List.length_set,l]
   exact AK 15 U U U <|HU (at' xs (k:Int)) U U U sizeOf25 U U U Aa λ i n=>AD U <|BN U U U <|AX (k+1,(hs.length:Int)-1-k-1,i) U U ⟨fin e i b n,Aa,Aa⟩ (by show hs.length-(k+1)<hs.length-k;omega)
  ·refine AD U <|AK 7 U U U <|AD U <|AK 13 U U U <|HU (at' xs ((hs.length:Int)-1-k)) U U U sizeOf25 U U U Aa λ e b=>AD U ?_
   have s:len e=(hs.length:Int):=by rw[b];unfold len;rw[List.length_set,l]
   exact AK 15 U U U <|HU (at' xs (k:Int)) U U U sizeOf25 U U U Aa λ i n=>AD U <|BN U U U <|AX (k+1,(hs.length:Int)-1-k-1,i) U U ⟨fin e i b n,Aa,Aa⟩ (by show hs.length-(k+1)<hs.length-k;omega)
 ·refine UK C U U λ w' M' A=>⟨(),M',rfl,trivial,A.le,?_,A4⟩
  rw[<-w.done Aa]
  exact A.st
end Go.Proofs.YtnoegalemkbbbaaGreatDoor
namespace Go.Eng
open Go.RowKit
theorem W4(l:List Tf):CL [] l=l:=by cases l<;>rfl
theorem B3.drop {α:Type}{M:Mem}{sz:Nat}{f:α->List Value}: ∀(k:Nat) {hs:List AI} {xs:List (List α)},B3 M sz f hs xs->B3 M sz f (hs.drop k) (xs.drop k)
 |0,_,_,h=>h
 |k+1,[],[],h=>h
 |k+1,_::_,_::_,h=>B3.drop k h.2
theorem B3.rev {α:Type}{M:Mem}{sz:Nat}{f:α->List Value}: ∀ {hs:List AI} {xs:List (List α)},B3 M sz f hs xs->B3 M sz f hs.reverse xs.reverse
 |[],[],h=>h
 |_::_,_::_,h=>by rw[List.reverse_cons,List.reverse_cons];exact B3.snoc h.1 (B3.rev h.2)
theorem uS{α:Type}(l:List α){k:Int}(h0:0<=k)(h1:k<=len l):Eng.sub l k (len l)=l.drop k.toNat:=by
 unfold Eng.sub
 rw[List.take_of_length_le]
 rw[List.length_drop];unfold len;omega
end Go.Eng
namespace Go.Proofs.YtnoegalemkbbbaaGreatDoor
open Go.Proofs.Tryz
open Go.Eng Go.RowKit
theorem At2{w0 D:World}{M0 M:Mem}{Rs:List HO}(x:Tm)(i:Int)(pu:Value)(hs:List AI)(b:List Tf)(hS:St w0 M0 D M (NP pu hs::Rs))(E:B3 M 11 Tm.cells hs (b.map Tf.flat))(hx:x.op=2\/x.op=3->0<=x.n)(F:A6 b<=16777216):
   Calls prog 156 [.agg x.cells.toArray,i64 i,pu].toArray D (K3 w0 M0 M Rs (I6 x i b)):=by
 have hlen:hs.length=b.length:=by have:=B3.len E;rwa [List.length_map]at this
 have J:len hs=len b:=by unfold len;omega
 have K:=MI b
 have L:=A9 b
 refine AH (Hr:=Rs) AF func156 U ntmps156 [(9,FU hs (b.map Tf.flat))] [(2,Go.Proofs.YtnoegalemkbbbaaGreatDoor.EC pu hs)] [.ag (EO x.cells),I i,.sl 2 pu] U hS (AG ⟨Sl.nil M 1,DN,E⟩ A4) (λ B q=>BP 3 U U U λ N=>?_) U
 refine A1 U (λ A=>?_) (λ A=>?_)<;>simp only[zb]at A
 ·rw[show I6 x i b= .er i 2 by unfold I6;rw[if_pos Aa]]at q
  exact EY [] U U call81 U U (λ w M hS hF=>FL i 2 hS) λ a w M hs hS hle=>E4 _ (q.p ⟨M,rfl,hS.drop _ ((List.sublist_cons_self _ _).cons _),hle⟩ a hs)
 have s: ¬((x.op=2/\len b<=x.n)\/(x.op=3/\len b<x.n)):=by omega
 refine A1 U (λ e=>?_) (λ e=>?_)<;>simp only[zb]at e
 ·have h0:=hx (.inl e)
  obtain⟨k,G⟩: ∃k:Nat,x.n=k:=⟨x.n.toNat,Aa⟩
  rw[show I6 x i b= .ok (at' b x.n) 0 by unfold I6;rw[if_neg s,if_pos e]]at q
  refine A2 q U U U λ w M' j=>⟨at' hs x.n,M',rfl,trivial,j.le,j.B9 [] U,AG ?_ A4⟩
  have C:B3 M' 11 Tm.cells hs (b.map Tf.flat):=(j.f.get (k:=9) U).more
  have H:=B3.at C h0 Aa
  rw[G,MW (by unfold len at*;omega)]at H
  rw[G]
  exact⟨H,Tm.AV,trivial⟩
 refine A1 U (λ l=>?_) (λ l=>?_)<;>simp only[zb]at l
 ·have h0:=hx (.inr l)
  rw[show I6 x i b= .ok (CM (AP 4) [] (b.drop x.n.toNat)) 0 by unfold I6 CM;rw[if_neg s,if_neg e,if_pos l,W4]]at q
  refine C2 2 U <|FO (gd:=none) 12 x.n (len hs) U U U ⟨.i64,_,rfl,AE U⟩ U underlying53 sizeOf25 Aa U λ v12=>?_
  rw[uS hs h0 Aa]
  have y:A6 (b.drop x.n.toNat)<=16777216:=Nat.le_trans (ZO (List.drop_sublist _ _)) F
  exact AS [] (λ h:AI=>.sl 10 h.v) [] (λ h=>[(10,DV h.v (CM (AP 4) [] (b.drop x.n.toNat)).flat)]) U U call146 U U (λ w M hS hF=>LF (AP 4) (.slice none 0 0) [] v12 (hs.drop x.n.toNat) (b.drop x.n.toNat) hS (Sl.nil M 1) (hF.get (k:=12) U).sl (by have C:B3 M 11 Tm.cells hs (b.map Tf.flat):=(hF.get (k:=9) U).more;rw[List.map_drop];exact B3.drop _ C) y) λ z _=>C2 10 U <|A2 q U U U λ w M' j=>⟨z,M',rfl,trivial,j.le,j.B9 [] U,AG (j.f.get (k:=10) U) A4⟩
 ·rw[show I6 x i b= .ok (CM (AP 4) [] b.reverse) 0 by unfold I6 CM;rw[if_neg s,if_neg e,if_neg l,W4]]at q
  have y:A6 b.reverse<=16777216:=by rw[VZ (List.reverse_perm b)];exact F
  exact AS [2] (λ _:Unit=>.tu []) [] (λ _=>[(2,Go.Proofs.YtnoegalemkbbbaaGreatDoor.EC pu hs.reverse)]) (Fg:=λ _=>[]) (pu:=λ _=>True) (Hg:=λ _=>[NP pu hs.reverse]) U U call182 U U (λ w M hS hF=>At1 pu hs hS (by unfold len at*;omega)) λ _ _=>C2 2 U <|AS [] (λ h:AI=>.sl 10 h.v) [] (λ h=>[(10,DV h.v (CM (AP 4) [] b.reverse).flat)]) U U call146 U U (λ w M hS hF=>LF (AP 4) (.slice none 0 0) [] pu hs.reverse b.reverse hS (Sl.nil M 1) (hF.get (k:=2) U).sl (by have C:B3 M 11 Tm.cells hs (b.map Tf.flat):=(hF.get (k:=9) U).more;rw[List.map_reverse];exact B3.rev C) y) λ z _=>C2 10 U <|A2 q U U U λ w M' j=>⟨z,M',rfl,trivial,j.le,j.B9 [] U,AG (j.f.get (k:=10) U) A4⟩
theorem At3{w0 J:World}{M0 M:Mem}{Rs:List HO}(x:Tm)(i:Int)(u:AI)(t:Tf)(hS:St w0 M0 J M Rs)(A:Gl w0)(C:(A7 u.v t.flat).ok M)(K:B6 t=true)(hs:AT t)(N:len x.s<=100)(hz:t.size<=16777216):
   Calls prog 93 [.agg x.cells.toArray,i64 i,u.v].toArray J (K3 w0 M0 M Rs (JN x i t)):=by
 have D:(at' t.flat 0).op=t.t.op:=by rw[t.DA];rfl
 have O:=CN t
 have P:=t.size_pos
 have Q:=t.size_eq
 refine AH (Hr:=Rs) AF func93 U ntmps93 [(1,A7 u.v t.flat)] [] [.ag (EO x.cells),I i,.sl 1 u.v] U hS (AG C A4) (λ B q=>BP 3 U U U λ L=>?_) U
 refine A1 U (λ j=>?_) (λ j=>?_)<;>simp only[zb]at j<;>rw[D]at j
 ·rw[show JN x i t= .er i 1 by unfold JN;rw[if_pos j]]at q
  exact EY [] U U call81 U U (λ w M hS hF=>FL i 1 hS) λ a w M hs hS hle=>E4 _ (q.p ⟨M,rfl,hS.drop _ (List.sublist_cons_self _ _),hle⟩ a hs)
 obtain⟨y,e⟩:=B6.one K (.inr Aa)
 have R:(AN t).length=1:=by rw[MO Aa,List.length_map,e];rfl
 obtain⟨k1,k2⟩:=MS K hs
 have E:at' (AN t) 0∈AN t:=MU (k:=0) Aa
 have F:at' ((AN t).map Tf.flat) 0=(at' (AN t) 0).flat:=MW (k:=0) Aa
 have S:=I0 E
 have T:=CN (at' (AN t) 0)
 have V:=VN x.s
 refine AS [] (λ g:Value×List AI=>.sl 8 g.1) [9] (λ g=>[(8,Go.Proofs.YtnoegalemkbbbaaGreatDoor.EC g.1 g.2)]) U U call143 U U (λ w M hS hF=>SZ hS (hF.get (k:=1) U) Aa) λ W G=>?_
 obtain⟨pu,b⟩:=W
 dsimp only at G
 have X:len b=1:=by unfold len;omega
 refine C2 8 U <|DS 8 (C6 pu b ((AN t).map Tf.flat)) (λ w M z=>⟨(z.f.get (k:=8) U).sl,CR,(z.f.get (k:=9) U).more⟩) <|DI [5,6,10,11] 5 (λ _ _ _ _ _ h=>h) U BM U <|AK 5 U U U <|AS [] (λ u:Value=>.sl 6 u) [6] (λ _=>[]) (Fg:=λ u=>[(1,kn u 3 (C8 x.s).1 Sp.cells)]) (pu:=λ _=>True) U U call80 U U (λ w M hS hF=>gU x.s hS A Aa) λ v6 _=>AD U <|AK 6 U U U <|AS [] (λ _:Unit=>.tu [I (BK (C8 x.s).1 (at' (AN t) 0)).1,.v (.bool (BK (C8 x.s).1 (at' (AN t) 0)).2)]) [] (λ _=>[]) (Fg:=λ _=>[]) (pu:=λ _=>True) U U call134 U U (λ w M hS hF=>Z8 (C8 x.s).1 (at' b 0).v v6 (at' (AN t) 0) hS (by have:=F9 (hF.get (k:=8) U) (k:=0) Aa Aa;rw[F]at this;exact this) (hF.get (k:=6) U) Aa Aa) λ _ _=>AD U <|AK 10 U U U <|AD U <|AK 11 U U U <|AD U <|BN U U U <|A1 U (λ n=>?_) (λ n=>?_)
 ·have hl:(BK (C8 x.s).1 (at' (AN t) 0)).2=false:=by simpa using n
  rw[show JN x i t= .er i 5 by unfold JN;rw[if_neg Aa,hl];rfl]at q
  exact EY [] U U call81 U U (λ w M hS hF=>FL i 5 hS) λ a w M hs hS hle=>E4 _ (q.p ⟨M,rfl,hS.drop _ (List.sublist_cons_self _ _),hle⟩ a hs)
 have hl:(BK (C8 x.s).1 (at' (AN t) 0)).2=true:=by simpa using n
 rw[show JN x i t= .ok (CM { AP (if x.op=12 then 8 else 7)with s:=x.s} [] (AN t)) 0 by unfold JN CM;rw[if_neg Aa,if_pos hl,W4]]at q
 refine CP 0 (λ s=>s=⟨[(8,C6 pu b ((AN t).map Tf.flat))],[(3,.box L (EO x.cells) 48)],[Z 3 (.bx 3 L 0),Z 7 (.sl 8 pu),Z 10 (I (if x.op=12 then 8 else 7))]⟩) U U (λ l=>?_) (λ l=>?_) ?_<;>try simp only[zb]at l
 ·rw[if_pos l]
  exact AW _ U U U
 ·rw[if_neg l]
  exact AW _ U U U
 rintro s rfl
 exact AS [] (λ h:AI=>.sl 10 h.v) [] (λ h=>[(10,DV h.v (CM { AP (if x.op=12 then 8 else 7)with s:=x.s} [] (AN t)).flat)]) U U call146 U U (λ w M hS hF=>LF { AP (if x.op=12 then 8 else 7)with s:=x.s} (.slice none 0 0) [] pu b (AN t) hS (Sl.nil M 1) (hF.get (k:=8) U).sl (hF.get (k:=8) U).more Aa) λ H _=>C2 10 U <|A2 q U U U λ w M' z=>⟨H,M',rfl,trivial,z.le,z.B9 [] U,AG (z.f.get (k:=10) U) A4⟩
end Go.Proofs.YtnoegalemkbbbaaGreatDoor
namespace Go.Eng
open Go.RowKit
theorem iJ: ∀l:List Tf,CL (l.map λ x=>x.t.name) (l.map (Tf.named []))=l
 |[]=>rfl
 |x::l=>by rw[List.map_cons,List.map_cons,CL,iJ l,Tf.AZ3,Tf.AZ2]
theorem uT: ∀ {ns:List A0} {b:List Tf} {i:Nat} (y:Tf),ns.length=b.length->i<b.length->CL ns (b.set i y)=(CL ns b).set i (y.named (at' ns (i:Int)))
 |[],b,i,y,h,hi=>absurd hi (by rw[<-h];exact Nat.not_lt_zero _)
 |n::ns,k::b,0,y,h,_=>by rw[List.set_cons_zero,CL,CL,List.set_cons_zero];rfl
 |n::ns,k::b,i+1,y,h,hi=>by
  have e:at' (n::ns) ((i+1:Nat):Int)=at' ns (i:Int):=by unfold at';simp
  rw[List.set_cons_succ,CL,CL,List.set_cons_succ,uT y (by simpa using h) (by simpa using hi),e]
theorem uU: ∀ {ns:List A0} {b:List Tf} (i:Nat),ns.length=b.length->CL (ns.eraseIdx i) (b.eraseIdx i)=(CL ns b).eraseIdx i
 |[],[],_,_=>rfl
 |n::ns,k::b,0,h=>by rw[List.eraseIdx_cons_zero,List.eraseIdx_cons_zero,CL,List.eraseIdx_cons_zero]
 |n::ns,k::b,i+1,h=>by rw[List.eraseIdx_cons_succ,List.eraseIdx_cons_succ,CL,CL,List.eraseIdx_cons_succ,uU i (by simpa using h)]
theorem At4{ns:List A0}{n:A0}(h:n∈ns):at' ns (BU ns n)=n:=by
 obtain⟨h1,e⟩:=NR h
 obtain⟨j,b⟩:=CG ns (i:=BU ns n) Aa (by unfold len;omega)
 rw[b]
 unfold BU
 simp only[Int.toNat_natCast]
 exact List.getElem_idxOf _
theorem B3.erase {α:Type}{M:Mem}{sz:Nat}{f:α->List Value}: ∀(k:Nat) {hs:List AI} {xs:List (List α)},B3 M sz f hs xs->B3 M sz f (hs.eraseIdx k) (xs.eraseIdx k)
 |_,[],[],h=>h
 |0,_::_,_::_,h=>h.2
 |k+1,_::_,_::_,h=>⟨h.1,B3.erase k h.2⟩
theorem B3.set {α:Type}{M:Mem}{sz:Nat}{f:α->List Value}{h:AI}{x:List α}(hx:Sl M sz x.length h.v (x.flatMap f)): ∀(k:Nat) {hs:List AI} {xs:List (List α)},B3 M sz f hs xs->B3 M sz f (hs.set k h) (xs.set k x)
 |_,[],[],h=>h
 |0,_::_,_::_,h=>⟨hx,h.2⟩
 |k+1,_::_,_::_,h=>⟨h.1,B3.set hx k h.2⟩
theorem At5{s:Sp}{t y:Tf}(ho:t.t.op=2)(hm:s.name∈B7 t):(CM t.node (B7 t) ((AN t).set (BU (B7 t) s.name).toNat y)).flat=(Tf.mk t.t (t.ps.set (BU (B7 t) s.name).toNat (y.named s.name))).flat:=by
 obtain⟨h1,b⟩:=NR hm
 have hl:(B7 t).length=(AN t).length:=NQ t
 have e:CL (B7 t) (AN t)=t.ps:=by
  unfold B7;rw[if_neg Aa,MO Aa];exact iJ _
 unfold CM
 rw[uT y hl Aa,e,<-b,At4 hm]
 rfl
theorem At6{s:Sp}{t:Tf}(ho:t.t.op=2):(CM t.node ((B7 t).eraseIdx (BU (B7 t) s.name).toNat) ((AN t).eraseIdx (BU (B7 t) s.name).toNat)).flat=(Tf.mk t.t (t.ps.eraseIdx (BU (B7 t) s.name).toNat)).flat:=by
 have hl:(B7 t).length=(AN t).length:=NQ t
 have e:CL (B7 t) (AN t)=t.ps:=by
  unfold B7;rw[if_neg Aa,MO Aa];exact iJ _
 unfold CM
 rw[uU _ hl,e]
 rfl
theorem uV{s:Sp}{t y:Tf}{j:Nat}(ho:t.t.op=2)(hm:s.name∈B7 t)(b:j=(BU (B7 t) s.name).toNat):(CM t.node (B7 t) ((AN t).set j y)).flat=(Tf.mk t.t (t.ps.set j (y.named s.name))).flat:=by subst b;exact At5 ho hm
theorem At7{s:Sp}{t:Tf}{j:Nat}(ho:t.t.op=2)(b:j=(BU (B7 t) s.name).toNat):(CM t.node ((B7 t).eraseIdx j) ((AN t).eraseIdx j)).flat=(Tf.mk t.t (t.ps.eraseIdx j)).flat:=by subst b;exact At6 ho
theorem uW{α β:Type}(f:α->β): ∀(l:List α) (i:Nat),(l.eraseIdx i).map f=(l.map f).eraseIdx i
 |[],_=>rfl
 |x::l,0=>rfl
 |x::l,i+1=>by rw[List.eraseIdx_cons_succ,List.map_cons,List.map_cons,List.eraseIdx_cons_succ,uW f l i]
theorem iK{α:Type}{f:α->Value}: ∀(l:List α) (i:Nat),(l.flatMap λ x=>[f x]).eraseIdx i=(l.eraseIdx i).flatMap λ x=>[f x]
 |[],_=>rfl
 |x::l,0=>by simp
 |x::l,i+1=>by
  have:=iK (f:=f) l i
  rw[List.flatMap_cons,List.singleton_append,List.eraseIdx_cons_succ,List.eraseIdx_cons_succ,List.flatMap_cons,this];rfl
theorem St.uX {w0 w:World}{M0 M:Mem}{Hs:List HO}{e:TypeId}{sz n:Nat}{v:Value}{xs:List Value}{k:Nat}(h:St w0 M0 w M Hs)(j:Hs[k]? =some (.priv e sz v n xs))(l:0<n): ∃g c,v= .slice (some ⟨g,0,none⟩) n c:=by
 obtain⟨⟨hl,b⟩,i⟩:=h.obj j
 rcases b with⟨b,h0⟩|⟨g,cap,cur,b,_⟩
 ·omega
 ·exact⟨g,cap,b⟩
end Go.Eng
namespace Go.Proofs.YtnoegalemkbbbaaGreatDoor
open Go.Proofs.Tryz
open Go.Eng Go.RowKit
theorem At8{w0 b:World}{M0 M:Mem}{Rs:List HO}(u:Value)(ns:List A0){i:Nat}(hS:St w0 M0 b M (T0 u ns::Rs))(hi:i<ns.length)(l:ns.length<=1099511627):
  Calls prog 154 [u,.int .i64 i,.int .i64 (i+1)].toArray b (BJ w0 M0 M Rs (λ v:Value=>v) (λ _=>True) (λ _=>[]) λ v=>[T0 v (ns.eraseIdx i)]):=by
 obtain⟨g,c,rfl⟩:=hS.uX (k:=0) rfl Aa
 refine(As9 hS hi l (λ u hu=>by obtain⟨s,_,h⟩:=List.mem_flatMap.1 hu;exact bA s u h)).mono λ e w' ⟨_,M',h1,w,n,j,y⟩=>⟨_,M',h1,trivial,n,?_,A4⟩
 have q:(ns.flatMap D7).eraseIdx i=(ns.eraseIdx i).flatMap D7:=iK (f:=λ s=>str s) ns i
 have e2:(ns.eraseIdx i).length=ns.length-1:=List.length_eraseIdx_of_lt hi
 rw[q]at j
 unfold T0
 rw[e2]
 exact j
theorem At9{w0 b:World}{M0 M:Mem}{Rs:List HO}(u:Value)(hs:List AI){i:Nat}(hS:St w0 M0 b M (NP u hs::Rs))(hi:i<hs.length)(l:hs.length<=1099511627):
  Calls prog 155 [u,.int .i64 i,.int .i64 (i+1)].toArray b (BJ w0 M0 M Rs (λ v:Value=>v) (λ _=>True) (λ _=>[]) λ v=>[NP v (hs.eraseIdx i)]):=by
 obtain⟨g,c,rfl⟩:=hS.uX (k:=0) rfl Aa
 refine(At0 hS hi l (λ u hu=>by obtain⟨s,_,h⟩:=List.mem_flatMap.1 hu;exact ON s u h)).mono λ e w' ⟨_,M',h1,y,q,j,z⟩=>⟨_,M',h1,trivial,q,?_,A4⟩
 have w:(hs.flatMap BR).eraseIdx i=(hs.eraseIdx i).flatMap BR:=iK (f:=λ h:AI=>(.slice h.a h.n h.c:Value)) hs i
 have e2:(hs.eraseIdx i).length=hs.length-1:=List.length_eraseIdx_of_lt hi
 rw[w]at j
 unfold NP
 rw[e2]
 exact j
theorem Au0: ∀(p:List Sp) {w0 V:World} {M0 M:Mem} {Rs:List HO} (i:Int) (v:Value) (u:AI) (t:Tf),p≠[]->St w0 M0 V M Rs->(kn v 3 p Sp.cells).ok M->(A7 u.v t.flat).ok M->B6 t=true->AT t->t.size<=16777216->len p<=1099511627776->
   Calls prog 96 [v,i64 i,u.v].toArray V (K3 w0 M0 M Rs (FE i p t)):=by
 intro p
 induction p with
 |nil=>intro _ _ _ _ _ _ _ _ _ h;exact absurd rfl h
 |cons s p ih=>
  intro w0 V M0 M Rs i v u t _ hS W X ha hs hz hp
  have hto:(at' t.flat 0).op=t.t.op:=by rw[t.DA];rfl
  have htn:(at' t.flat 0).n=t.t.n:=by rw[t.DA];rfl
  have htz:=CN t
  have htp:=t.size_pos
  have hte:=t.size_eq
  have hpl:=A9 p
  have hp1:len (s::p)=len p+1:=by rw[AM]
  have hp0:at' (s::p) 0=s:=rfl
  refine AH (Hr:=Rs) AF func96 U ntmps96 [(0,kn v 3 (s::p) Sp.cells),(1,A7 u.v t.flat)] [] [.sl 0 v,I i,.sl 1 u.v] U hS (AG W (AG X A4)) (λ B C=>?_) U
  refine A1 U (λ J=>?_) (λ J=>?_)<;>simp only[zb]at J<;>rw[hto]at J
  ·rw[show FE i (s::p) t= .er i 1 by unfold FE;rw[if_pos J]]at C
   refine EY [] U U call81 U U (λ w M hS hF=>FL i 1 hS) λ a w M hs hS hle=>?_
   exact E4 _ (C.p ⟨M,rfl,hS.drop _ (List.Sublist.refl _),hle⟩ a hs)
  have ho:t.t.op=2:=by omega
  obtain⟨k1,L⟩:=MS ha hs
  have hkl:=NQ t
  have hkn:((AN t).length:Int)<=A6 (AN t):=MI _
  refine AS [] (λ u:Value=>.sl 5 u) [] (λ u=>[(5,QP u (B7 t))]) U U call147 U U (λ w M hS hF=>gV hS (hF.get (k:=1) U) Aa) λ T _=>?_
  refine AS [] (λ g:Value×List AI=>.sl 8 g.1) [9] (λ g=>[(8,Go.Proofs.YtnoegalemkbbbaaGreatDoor.EC g.1 g.2)]) U U call143 U U (λ w M hS hF=>SZ hS (hF.get (k:=1) U) Aa) λ gg hgg=>?_
  obtain⟨pu,b⟩:=gg
  dsimp only at hgg
  refine AJ U call153 U U (λ _ w M q=>by
   have D:=q.st.told (k:=1) U
   exact uO (B7 t) s.name T w _ D.sat ⟨D.sl (i:=1) U,DN,trivial⟩) U ?_
  refine A1 U (λ E=>?_) (λ E=>?_)<;>simp only[zb]at E
  ·have hno:s.name ∉ B7 t:=λ h=>by
    have D:=(NR h).2
    unfold MQ at E;rw[if_pos h]at E;omega
   rw[show FE i (s::p) t= .er i 2 by rw[FE,if_neg (λ h=>h ho),if_pos hno]]at C
   refine EY [] U U call81 U U (λ w M hS hF=>FL i 2 hS) λ a w M hs hS hle=>?_
   exact E4 _ (C.p ⟨M,rfl,hS.drop _ (((List.Sublist.refl _).cons _).cons _),hle⟩ a hs)
  have e:s.name∈B7 t:=Decidable.byContradiction λ h=>E (by unfold MQ;rw[if_neg h];decide)
  obtain⟨j1,j2⟩:=NR e
  obtain⟨j,Q⟩: ∃j:Nat,j=(BU (B7 t) s.name).toNat:=⟨_,rfl⟩
  have hix:MQ (B7 t) s.name=j:=by unfold MQ;rw[if_pos e];omega
  have hjj:BU (B7 t) s.name=j:=by omega
  rw[<-Q]at j1
  rw[hix]
  have F:j<(AN t).length:=by omega
  have hl8:len b=(AN t).length:=by unfold len;omega
  have z:=MU F
  have hkz:=I0 z
  refine A1 U (λ O=>?_) (λ O=>?_)<;>simp only[zb]at O
  ·have G:p≠[]:=λ h=>by subst h;exact absurd O (by show ¬(1:Int)<1;decide)
   rw[show FE i (s::p) t=(FE i p (at' (AN t) (j:Int))).bind λ y _=>.ok (.mk t.t (t.ps.set j (y.named s.name))) 0 by rw[FE,if_neg (λ h=>h ho),if_neg (λ h=>h e),if_neg G,hjj,Int.toNat_natCast]]at C
   have N:Eng.sub (s::p) 1 (len (s::p))=p:=by rw[uS _ Aa Aa];rfl
   refine DI [3,8,9,11] 5 (λ _ _ _ _ _ h=>h) U BM U ?_
   refine G6 3 8 U U U ?_ ?_
   ·refine FO (gd:=none) 12 1 (len (s::p)) U U U ⟨.i64,_,rfl,AE U⟩ U underlying61 sizeOf105 Aa U λ v12=>?_
    rw[N]
    refine AD U ?_
    refine AK 8 U U U ?_
    refine AD U ?_
    refine AK 9 U U U ?_
    refine EF [] [4] (λ _ (h:AI)=>.sl 4 h.v) (λ _ _ _=>[]) C U U call96 U U (((List.Sublist.refl _).cons _).cons _) (λ w M hS hF=>ih i v12 (at' b (j:Int)) (at' (AN t) (j:Int)) G hS (hF.get (k:=12) U) (by
     have D:B3 M 11 Tm.cells b ((AN t).map Tf.flat):=(hF.get (k:=9) U).more
     have R:=B3.at D (k:=(j:Int)) Aa Aa
     rw[MW F]at R
     exact⟨R,Tm.AV,trivial⟩) (L _ z).1 (L _ z).2 Aa Aa) λ y jj hy C h4 _=>?_
    have hyi:=(ZP hy (L _ z).1 (L _ z).2).1.size
    have CB:=ZN y F
    refine AD U ?_
    refine AK 11 U U U ?_
    refine HU h4 U U U sizeOf25 U U U ⟨Aa,by show(j:Int)<len b;omega⟩ λ A l=>?_
    rw[Int.toNat_natCast]at l
    have P:len A=(AN t).length:=by rw[l];unfold len at*;rw[List.length_set];omega
    have S:A.length=(AN t).length:=by unfold len at P;omega
    refine DS 9 (FU A (((AN t).set j y).map Tf.flat)) (λ w M q=>⟨Sl.nil M 1,DN,by
     have D:B3 M 11 Tm.cells b ((AN t).map Tf.flat):=(q.f.get (k:=9) U).more
     rw[l,List.map_set]
     exact B3.set (q.sl 4 U) j D⟩) ?_
    refine AD U ?_
    refine BN U U U ?_
    refine C2 5 U ?_
    refine C2 8 U ?_
    refine AS [] (λ h:AI=>.sl 10 h.v) [] (λ h=>[(10,DV h.v (CM t.node (B7 t) ((AN t).set j y)).flat)]) U U call146 U U (hu:=λ _=>rfl) (hH:=λ _=>rfl) (λ w M hS hF=>by
     have:=LF t.node T (B7 t) pu A ((AN t).set j y) hS (hF.get (k:=5) U).sl (hF.get (k:=8) U).sl (hF.get (k:=9) U).more Aa
     rw[<-t.DA]at this ⊢
     exact this) λ H _=>?_
    refine C2 10 U ?_
    refine A2 C U U U λ w M' q=>⟨H,M',rfl,trivial,q.le,q.B9 [] U,AG ?_ A4⟩
    rw[<-uV ho e Q]
    exact q.f.get (k:=10) U
   ·refine AD U ?_
    refine AK 3 U U U ?_
    refine FO (gd:=none) 12 1 (len (s::p)) U U U ⟨.i64,_,rfl,AE U⟩ U underlying61 sizeOf105 Aa U λ v12=>?_
    rw[N]
    refine AD U ?_
    refine AK 9 U U U ?_
    refine EF [] [4] (λ _ (h:AI)=>.sl 4 h.v) (λ _ _ _=>[]) C U U call96 U U (((List.Sublist.refl _).cons _).cons _) (λ w M hS hF=>ih i v12 (at' b (j:Int)) (at' (AN t) (j:Int)) G hS (hF.get (k:=12) U) (by
     have D:B3 M 11 Tm.cells b ((AN t).map Tf.flat):=(hF.get (k:=9) U).more
     have R:=B3.at D (k:=(j:Int)) Aa Aa
     rw[MW F]at R
     exact⟨R,Tm.AV,trivial⟩) (L _ z).1 (L _ z).2 Aa Aa) λ y jj hy C h4 _=>?_
    have hyi:=(ZP hy (L _ z).1 (L _ z).2).1.size
    have CB:=ZN y F
    refine AD U ?_
    refine AK 11 U U U ?_
    refine HU h4 U U U sizeOf25 U U U ⟨Aa,by show(j:Int)<len b;omega⟩ λ A l=>?_
    rw[Int.toNat_natCast]at l
    have P:len A=(AN t).length:=by rw[l];unfold len at*;rw[List.length_set];omega
    have S:A.length=(AN t).length:=by unfold len at P;omega
    refine DS 9 (FU A (((AN t).set j y).map Tf.flat)) (λ w M q=>⟨Sl.nil M 1,DN,by
     have D:B3 M 11 Tm.cells b ((AN t).map Tf.flat):=(q.f.get (k:=9) U).more
     rw[l,List.map_set]
     exact B3.set (q.sl 4 U) j D⟩) ?_
    refine AD U ?_
    refine BN U U U ?_
    refine C2 5 U ?_
    refine C2 8 U ?_
    refine AS [] (λ h:AI=>.sl 10 h.v) [] (λ h=>[(10,DV h.v (CM t.node (B7 t) ((AN t).set j y)).flat)]) U U call146 U U (hu:=λ _=>rfl) (hH:=λ _=>rfl) (λ w M hS hF=>by
     have:=LF t.node T (B7 t) pu A ((AN t).set j y) hS (hF.get (k:=5) U).sl (hF.get (k:=8) U).sl (hF.get (k:=9) U).more Aa
     rw[<-t.DA]at this ⊢
     exact this) λ H _=>?_
    refine C2 10 U ?_
    refine A2 C U U U λ w M' q=>⟨H,M',rfl,trivial,q.le,q.B9 [] U,AG ?_ A4⟩
    rw[<-uV ho e Q]
    exact q.f.get (k:=10) U
  have G:p=[]:=List.eq_nil_of_length_eq_zero (by unfold len at*;omega)
  subst G
  refine A1 U (λ K=>?_) (λ K=>?_)<;>simp only[zb]at K<;>rw[htn]at K
  ·rw[show FE i [s] t= .er i 1 by rw[FE,if_neg (λ h=>h ho),if_neg (λ h=>h e),if_pos U,if_pos K]]at C
   refine EY [] U U call81 U U (λ w M hS hF=>FL i 1 hS) λ a w M hs hS hle=>?_
   exact E4 _ (C.p ⟨M,rfl,hS.drop _ (((List.Sublist.refl _).cons _).cons _),hle⟩ a hs)
  ·rw[show FE i [s] t= .ok (.mk t.t (t.ps.eraseIdx j)) 0 by rw[FE,if_neg (λ h=>h ho),if_neg (λ h=>h e),if_pos U,if_neg Aa,<-Q]]at C
   refine AS [5] (λ u:Value=>.sl 15 u) [] (λ u=>[(15,QP u ((B7 t).eraseIdx j))]) (Fg:=λ _=>[]) (pu:=λ _=>True) (Hg:=λ g=>[T0 g ((B7 t).eraseIdx j)]) U U call154 U U (λ w M hS hF=>At8 T (B7 t) hS j1 Aa) λ nu2 _=>?_
   refine AS [8] (λ u:Value=>.sl 18 u) [] (λ u=>[(18,Go.Proofs.YtnoegalemkbbbaaGreatDoor.EC u (b.eraseIdx j))]) (Fg:=λ _=>[]) (pu:=λ _=>True) (Hg:=λ g=>[NP g (b.eraseIdx j)]) U U call155 U U (λ w M hS hF=>At9 pu b hS Aa Aa) λ pu2 _=>?_
   refine C2 15 U ?_
   refine DS 9 (FU (b.eraseIdx j) (((AN t).eraseIdx j).map Tf.flat)) (λ w M q=>⟨Sl.nil M 1,DN,by have D:B3 M 11 Tm.cells b ((AN t).map Tf.flat):=(q.f.get (k:=9) U).more;rw[uW];exact B3.erase j D⟩) ?_
   refine C2 18 U ?_
   refine AS [] (λ h:AI=>.sl 10 h.v) [] (λ h=>[(10,DV h.v (CM t.node ((B7 t).eraseIdx j) ((AN t).eraseIdx j)).flat)]) U U call146 U U (hu:=λ _=>rfl) (hH:=λ _=>rfl) (λ w M hS hF=>by
    have:=LF t.node nu2 ((B7 t).eraseIdx j) pu2 (b.eraseIdx j) ((AN t).eraseIdx j) hS (hF.get (k:=15) U).sl (hF.get (k:=18) U).sl (hF.get (k:=9) U).more (Nat.le_trans (ZO (List.eraseIdx_sublist _ _)) Aa)
    rw[<-t.DA]at this ⊢
    exact this) λ H _=>?_
   refine C2 10 U ?_
   refine A2 C U U U λ w M' q=>⟨H,M',rfl,trivial,q.le,q.B9 [] U,AG ?_ A4⟩
   rw[<-At7 (s:=s) ho Q]
   exact q.f.get (k:=10) U
theorem Au1{w0 Q:World}{M0 M:Mem}{Rs:List HO}(x:Tm)(i:Int)(u:AI)(t:Tf)(hS:St w0 M0 Q M Rs)(V:Gl w0)(L:(A7 u.v t.flat).ok M)(W:B6 t=true)(hs:AT t)(hx:x.op=2\/x.op=3->0<=x.n)(hz:t.size<=16777216):
    Calls prog 97 [.agg x.cells.toArray,i64 i,u.v].toArray Q (K3 w0 M0 M Rs (GQ x i t)):=by
 have D:(at' t.flat 0).op=t.t.op:=by rw[t.DA];rfl
 have X:=CN t
 have htp:=t.size_pos
 have hte:=t.size_eq
 obtain⟨k1,k2⟩:=MS W hs
 have hkn:((AN t).length:Int)<=A6 (AN t):=MI _
 have hnl:=NQ t
 refine AH (Hr:=Rs) AF func97 U ntmps97 [(1,A7 u.v t.flat)] [] [.ag (EO x.cells),I i,.sl 1 u.v] U hS (AG L A4) (λ B z=>BP 3 U U U λ R=>AS [] (λ g:Value×List AI=>.sl 8 g.1) [9] (λ g=>[(8,Go.Proofs.YtnoegalemkbbbaaGreatDoor.EC g.1 g.2)]) U U call143 U U (λ w M hS hF=>SZ hS (hF.get (k:=1) U) Aa) λ gg N=>?_) U
 obtain⟨pu,C⟩:=gg
 dsimp only at N
 have hl8:len C=(AN t).length:=by unfold len;omega
 refine A1 U (λ E=>?_) (λ E=>?_)<;>simp only[zb]at E
 ·refine A1 U (λ q=>?_) (λ q=>?_)<;>simp only[zb]at q<;>rw[D]at q
  ·have F:GQ x i t=if x.s∈B7 t then .ok (at' (AN t) (BU (B7 t) x.s)) 0 else .er i 2:=by unfold GQ;rw[if_pos E,if_pos q]
   refine DI [1,4,5] 4 (λ _ _ _ _ _ h=>h) U BM U <|AK 1 U U U <|AS [] (λ u:Value=>.sl 5 u) [] (λ u=>[(5,QP u (B7 t))]) U U call147 U U (λ w M hS hF=>gV hS (hF.get (k:=1) U) Aa) λ nu _=>C2 5 U <|AD U <|AK 4 U U U <|AJ U call153 U U (λ _ w M A=>uO (B7 t) x.s nu w M A.st.sat (A.f.get (k:=5) U)) U <|AD U <|AK 5 U U U <|AD U <|BN U U U ?_
   by_cases hm:x.s∈B7 t
   ·obtain⟨j1,j2⟩:=NR hm
    obtain⟨j,hj⟩: ∃j:Nat,j=(BU (B7 t) x.s).toNat:=⟨_,rfl⟩
    have O:MQ (B7 t) x.s=j:=by unfold MQ;rw[if_pos hm];omega
    rw[F,if_pos hm,j2,<-hj]at z
    have P:j<(AN t).length:=by omega
    rw[O]
    refine A1 U (λ e=>?_) (λ e=>?_)<;>simp only[zb]at e
    ·refine A2 z U U (hO:=by and_intros<;>first|omega|(show(j:Int)<len C;omega)) U λ w M' A=>⟨at' C (j:Int),M',rfl,trivial,A.le,A.B9 [] U,AG ?_ A4⟩
     have h2:B3 M' 11 Tm.cells C ((AN t).map Tf.flat):=(A.f.get (k:=9) U).more
     have S:=B3.at h2 (k:=(j:Int)) Aa Aa
     rw[MW P]at S
     exact⟨S,Tm.AV,trivial⟩
    ·omega
   ·rw[F,if_neg hm]at z
    rw[uN hm]
    refine A1 U (λ e=>?_) (λ e=>?_)<;>simp only[zb]at e
    ·omega
    refine A1 U (λ l=>?_) (λ l=>?_)<;>simp only[zb]at l<;>rw[D]at l
    ·exact EY [] U U call81 U U (λ w M hS hF=>FL i 2 hS) λ a w M hs hS hle=>E4 _ (z.p ⟨M,rfl,hS.drop _ (((List.Sublist.refl _).cons _).cons _),hle⟩ a hs)
    ·omega
  ·rw[show GQ x i t= .er i 1 by unfold GQ;rw[if_pos E,if_neg q]]at z
   refine A1 U (λ e=>?_) (λ e=>?_)<;>simp only[zb]at e
   ·omega
   refine A1 U (λ l=>?_) (λ l=>?_)<;>simp only[zb]at l<;>rw[D]at l
   ·omega
   ·exact EY [] U U call81 U U (λ w M hS hF=>FL i 1 hS) λ a w M hs hS hle=>E4 _ (z.p ⟨M,rfl,hS.drop _ (((List.Sublist.refl _).cons _).cons _),hle⟩ a hs)
 refine CP 0 (λ s=> ∃b:Bool,(b=true↔x.op=2\/x.op=3\/x.op=14)/\s=⟨[(1,A7 u.v t.flat),(9,FU C ((AN t).map Tf.flat))],[(8,Go.Proofs.YtnoegalemkbbbaaGreatDoor.EC pu C),(3,.box R (EO x.cells) 48)],[Z 1 (I i),Z 2 (.sl 1 u.v),Z 3 (.bx 3 R 0),Z 7 (.sl 8 pu),Z 8 (I (at' t.flat 0).op),Z 17 (I x.op),Z 39 (.v (.bool b))]⟩) U U (λ q=>?_) (λ q=>?_) ?_<;>try simp only[zb]at q
 ·exact AW _ U U ⟨_,by simp[q],rfl⟩
 ·refine A1 U (λ e=>?_) (λ e=>?_)<;>simp only[zb]at e
  ·exact AW _ U U ⟨_,by simp[e],rfl⟩
  ·exact AW _ U U ⟨_,by simp[e,q],rfl⟩
 rintro s ⟨b,T,rfl⟩
 refine A1 U (λ q=>?_) (λ q=>?_)
 ·have H:=T.1 q
  have F:GQ x i t=if t.t.op=4 then I6 x i (AN t)else if t.t.op=5/\x.op≠2 then .ok t 0 else .er i 1:=by unfold GQ;rw[if_neg E,if_pos H]
  refine A1 U (λ e=>?_) (λ e=>?_)<;>simp only[zb]at e<;>rw[D]at e
  ·rw[F,if_pos e,<-PR.ret (I6 x i (AN t))]at z
   exact EF [8] [4] (λ _ (h:AI)=>.sl 4 h.v) (λ _ _ _=>[]) z U U call156 U U (List.sublist_cons_self _ _) (λ w M hS hF=>At2 x i pu C (AN t) hS (hF.get (k:=9) U).more Aa Aa) λ y jj hy z h4 _=>A2 z U U U λ w M' A=>⟨h4,M',rfl,trivial,A.le,A.B9 [] U,AG (A.f.get (k:=4) U) A4⟩
  refine A1 U (λ l=>?_) (λ l=>?_)<;>simp only[zb]at l<;>rw[D]at l
  ·rw[F,if_neg e,if_pos l]at z
   exact A2 z U U U λ w M' A=>⟨u,M',rfl,trivial,A.le,A.B9 [] U,AG (A.f.get (k:=1) U) A4⟩
  ·rw[F,if_neg e,if_neg Aa]at z
   exact EY [] U U call81 U U (λ w M hS hF=>FL i 1 hS) λ a w M hs hS hle=>E4 _ (z.p ⟨M,rfl,hS.drop _ (((List.Sublist.refl _).cons _).cons _),hle⟩ a hs)
 have H: ¬(x.op=2\/x.op=3\/x.op=14):=λ h=>by have:=T.2 h;rw[q]at this;cases this
 have F:GQ x i t=if x.op=10 then(if t.t.op=3 then .ok (.mk (AP 6) (AN t)) 0 else .er i 1)else if x.op=11 then(if t.t.op=6 then .ok (.mk (AP 3) (AN t)) 0 else .er i 1)else .er i 1:=by unfold GQ;rw[if_neg E,if_neg H]
 have K: ∀o,(Tf.mk (AP o) (AN t))=CM (AP o) [] (AN t):=λ o=>by unfold CM;rw[W4]
 rw[K,K]at F
 refine A1 U (λ e=>?_) (λ e=>?_)<;>simp only[zb]at e
 ·refine A1 U (λ l=>?_) (λ l=>?_)<;>simp only[zb]at l<;>rw[D]at l
  ·rw[F,if_pos e,if_pos l]at z
   exact C2 8 U <|AS [] (λ h:AI=>.sl 10 h.v) [] (λ h=>[(10,DV h.v (CM (AP 6) [] (AN t)).flat)]) U U call146 U U (λ w M hS hF=>LF (AP 6) (.slice none 0 0) [] pu C (AN t) hS (Sl.nil M 1) (hF.get (k:=8) U).sl (hF.get (k:=9) U).more Aa) λ J _=>C2 10 U <|A2 z U U U λ w M' A=>⟨J,M',rfl,trivial,A.le,A.B9 [] U,AG (A.f.get (k:=10) U) A4⟩
  ·rw[F,if_pos e,if_neg l]at z
   exact EY [] U U call81 U U (λ w M hS hF=>FL i 1 hS) λ a w M hs hS hle=>E4 _ (z.p ⟨M,rfl,hS.drop _ (((List.Sublist.refl _).cons _).cons _),hle⟩ a hs)
 refine A1 U (λ l=>?_) (λ l=>?_)<;>simp only[zb]at l
 ·refine A1 U (λ G=>?_) (λ G=>?_)<;>simp only[zb]at G<;>rw[D]at G
  ·rw[F,if_neg e,if_pos l,if_pos G]at z
   exact C2 8 U <|AS [] (λ h:AI=>.sl 10 h.v) [] (λ h=>[(10,DV h.v (CM (AP 3) [] (AN t)).flat)]) U U call146 U U (λ w M hS hF=>LF (AP 3) (.slice none 0 0) [] pu C (AN t) hS (Sl.nil M 1) (hF.get (k:=8) U).sl (hF.get (k:=9) U).more Aa) λ J _=>C2 10 U <|A2 z U U U λ w M' A=>⟨J,M',rfl,trivial,A.le,A.B9 [] U,AG (A.f.get (k:=10) U) A4⟩
  ·rw[F,if_neg e,if_pos l,if_neg G]at z
   exact EY [] U U call81 U U (λ w M hS hF=>FL i 1 hS) λ a w M hs hS hle=>E4 _ (z.p ⟨M,rfl,hS.drop _ (((List.Sublist.refl _).cons _).cons _),hle⟩ a hs)
 ·rw[F,if_neg e,if_neg l]at z
  exact EY [] U U call81 U U (λ w M hS hF=>FL i 1 hS) λ a w M hs hS hle=>E4 _ (z.p ⟨M,rfl,hS.drop _ (((List.Sublist.refl _).cons _).cons _),hle⟩ a hs)
end Go.Proofs.YtnoegalemkbbbaaGreatDoor
namespace Go.Eng
open Go.RowKit
abbrev T8(hs:List AI)(qs:List (List Sp)):Kn:=⟨.slice none 0 0,1,([]:List A0),D7,λ M=>B3 M 3 Sp.cells hs qs,λ _ _ hm h=>B3.mono hm h⟩
theorem Au2(n:A0)(x:Tf):D4 (x.named n).flat=D4 x.flat:=by
 cases x with|mk t ps=>
 show D4 ({ t with name:=n,many:=len ps}::AO ps)=D4 ({ t with many:=len ps}::AO ps)
 cases AO ps<;>rfl
theorem Au3{x:Tf}(h:x.AR)(hs:JZ x.node=true):x.ps=[]:=by
 have hm:len x.ps=0:=by
  unfold JZ at hs
  simp only[Bool.or_eq_true,decide_eq_true_eq]at hs
  have hp:=h.plain
  unfold CU at hp
  rcases hs with hs|hs
  ·rw[if_neg Aa,if_pos hs]at hp
   simp only[Bool.and_eq_true,decide_eq_true_eq]at hp
   exact hp.1.2
  ·exact(ZE h.plain (.inl hs)).1
 exact List.eq_nil_of_length_eq_zero (by unfold len at hm;omega)
theorem Au4: ∀(n:Nat) (x:Tf),x.size<=n->x.AR->MP x.flat=true:=by
 intro n
 induction n with
 |zero=>intro x h;have:=x.size_pos;omega
 |succ n j=>
  intro x s hg
  have hs:=x.size_eq
  by_cases h4:x.t.op=4
  ·obtain⟨a,b,e⟩:=hg.two (.inl h4)
   rw[e,A6,A6,A6]at hs
   have k:a.AR:=hg.kids a (by rw[e];simp)
   have l:b.AR:=hg.kids b (by rw[e];simp)
   have q:x.flat=x.node::a.node::(AO a.ps++b.flat):=by rw[Tf.FK,e];show _::(a.flat++(b.flat++[]))=_;rw[List.append_nil,Tf.FK a];rfl
   rw[q]
   by_cases hst:JZ a.node=true
   ·have:=Au3 k hst
    rw[this]
    show MP (_::_::b.flat)=true
    have i:=j b Aa l
    unfold MP
    rw[i,Bool.or_true]
   ·unfold MP
    have:JZ a.node=false:=by simpa using hst
    rw[this];simp
  ·have ho:x.node.op≠4:=h4
   rw[Tf.FK]
   cases AO x.ps with
   |nil=>show(x.node.op != 4)=true;simpa using ho
   |cons y r=>unfold MP;simp[ho]
end Go.Eng
namespace Go.Proofs.YtnoegalemkbbbaaGreatDoor
open Go.Proofs.Tryz
open Go.Eng Go.RowKit
abbrev T9(b:Nat)(pv:Value):HO:=.box b [pv] 61
abbrev TB(b:Nat):Value:=.func (.func 149) #[] #[.pointer (some ⟨b,0,none⟩)]
theorem Au5{w0 i:World}{M0 M:Mem}{Rs:List HO}(b:Nat)(pv h:Value)(p q:List Sp)(hS:St w0 M0 i M (T9 b pv::Rs))(hp:(kn pv 3 p Sp.cells).ok M)(j:(kn h 3 q Sp.cells).ok M):
  Calls prog 149 [h,.pointer (some ⟨b,0,none⟩)].toArray i (BJ w0 M0 M Rs (λ _:Unit=>.bool (!IK p q)) (λ _=>True) (λ _=>[]) λ _=>[T9 b pv]):=AH (Hr:=Rs) AF func149 U ntmps149 [(1,kn pv 3 p Sp.cells),(0,kn h 3 q Sp.cells)] [(0,.box b [.sl 1 pv] 61)] [.sl 0 h,.bx 0 b 0] U hS (AG hp (AG j A4)) (λ B l=>AJ U call150 U U (λ _ w M e=>As0 p q pv h w M e.st.sat (e.f.get (k:=1) U) (e.f.get (k:=0) U)) U <|A2 l U U U λ w M' e=>⟨(),M',rfl,trivial,e.le,e.st,A4⟩) U
theorem Au6{M:Mem}{hs:List AI}{b:List (List Sp)}(h:B3 M 3 Sp.cells hs b){k:Int}(h0:0<=k)(h1:k<len hs):(kn (at' hs k).v 3 (at' b k) Sp.cells).ok M:=⟨B3.at h h0 h1,λ _=>rfl,trivial⟩
theorem Au7{w0 y:World}{M0 M:Mem}{Rs:List HO}(b:Nat)(pv v:Value)(p:List Sp)(hs:List AI)(i:List (List Sp))(hS:St w0 M0 y M (T9 b pv::Rs))(hp:(kn pv 3 p Sp.cells).ok M)(hl:(kn v 1 hs BR).ok M)(z:B3 M 3 Sp.cells hs i)(E:len hs<=1099511627776):
    Calls prog 178 [v,TB b].toArray y (BJ w0 M0 M Rs (λ k:Int=>i64 k) (λ k=>0<=k↔(i.any λ q=> !IK p q)=true) (λ _=>[]) λ _=>[T9 b pv]):=by
 have hlen:len hs=len i:=by have:=B3.len z;unfold len;omega
 have C:=A9 i
 refine AH (Hr:=Rs) AF func178 U ntmps178 [(0,kn v 1 hs BR),(1,kn pv 3 p Sp.cells),(2,T8 hs i)] [(0,.box b [.sl 1 pv] 61)] [.sl 0 v,.v (TB b)] U hS (AG hl (AG hp (AG ⟨Sl.nil M 1,DN,z⟩ A4))) (λ B A=>B5 (σ:=Int) (λ k=>⟨[(0,kn v 1 hs BR),(1,kn pv 3 p Sp.cells),(2,T8 hs i)],[(0,.box b [.sl 1 pv] 61)],[Z 0 (.sl 0 v),Z 1 (.v (TB b)),Z 7 (I (len hs)),Z 8 (I k)]⟩) (λ k=>0<=k/\k<=len hs/\ ∀a∈Eng.sub i 0 k,¬(!IK p a)=true) (λ k=>(len hs-k).toNat) 0 rfl rfl ⟨Aa,Aa,λ x hx=>by cases hx⟩ ?_) U
 intro k ⟨h0,h1,j⟩
 refine A1 U (λ l=>?_) (λ l=>?_)<;>simp only[zb]at l
 ·refine AS [0] (λ _:Unit=>.v (.bool (!IK p (at' i k)))) [] (λ _=>[(0,.box b [.sl 1 pv] 61)]) (Fg:=λ _=>[]) (pu:=λ _=>True) U U call149 U U (λ w M hS hF=>Au5 b pv (at' hs k).v p (at' i k) hS (hF.get (k:=1) U) (Au6 (hF.get (k:=2) U).more h0 l)) λ _ _=>A1 U (λ n=>?_) (λ n=>?_)
  ·exact A2 A U U U λ w M' s=>⟨k,M',rfl,⟨λ _=>List.any_eq_true.2 ⟨at' i k,at_mem h0 Aa,n⟩,λ _=>h0⟩,s.le,s.st,A4⟩
  ·exact AX (k+1) U U ⟨Aa,Aa,λ a e=>by
    rw[FT h0 Aa]at e
    rcases List.mem_append.1 e with e|e
    ·exact j a e
    ·rw[List.mem_singleton.1 e,n];decide⟩ Ag
 ·rw[G7 Aa]at j
  exact A2 A U U U λ w M' s=>⟨-1,M',rfl,⟨λ h=>by omega,λ h=>by
   obtain⟨a,e,D⟩:=List.any_eq_true.1 h
   exact absurd D (j a e)⟩,s.le,s.st,A4⟩
theorem Au8{w0 l:World}{M0 M:Mem}{Rs:List HO}(b:Nat)(pv v:Value)(p:List Sp)(hs:List AI)(i:List (List Sp))(hS:St w0 M0 l M (T9 b pv::Rs))(hp:(kn pv 3 p Sp.cells).ok M)(hl:(kn v 1 hs BR).ok M)(s:B3 M 3 Sp.cells hs i)(y:len hs<=1099511627776):
    Calls prog 148 [v,TB b].toArray l (BJ w0 M0 M Rs (λ _:Unit=>.bool (i.any λ q=> !IK p q)) (λ _=>True) (λ _=>[]) λ _=>[T9 b pv]):=by
 refine AH (Hr:=Rs) AF func148 U ntmps148 [(0,kn v 1 hs BR),(1,kn pv 3 p Sp.cells),(2,T8 hs i)] [(0,.box b [.sl 1 pv] 61)] [.sl 0 v,.v (TB b)] U hS (AG hl (AG hp (AG ⟨Sl.nil M 1,DN,s⟩ A4))) (λ B z=>AS [0] (λ k:Int=>I k) [] (λ _=>[(0,.box b [.sl 1 pv] 61)]) (Fg:=λ _=>[]) (pu:=λ k=>0<=k↔(i.any λ q=> !IK p q)=true) U U call178 U U (λ w M hS hF=>Au7 b pv v p hs i hS (hF.get (k:=1) U) (hF.get (k:=0) U) (hF.get (k:=2) U).more y) λ k j=>?_) U
 exact A2 z U U U λ w M' n=>⟨(),M',by
  have e:decide (0<=k)=(i.any λ q=> !IK p q):=by
   by_cases h:0<=k
   · rw[j.1 h];simpa using h
   · rw[show(i.any λ q=> !IK p q)=false from by rw[<-Bool.not_eq_true];exact λ q=>h (j.2 q)];simpa using h
  rw[<-e];rfl,trivial,n.le,n.st,A4⟩
end Go.Proofs.YtnoegalemkbbbaaGreatDoor
