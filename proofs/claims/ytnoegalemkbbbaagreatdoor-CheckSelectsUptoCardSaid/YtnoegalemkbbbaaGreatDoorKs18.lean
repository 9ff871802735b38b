/- Lemmas for the card. -/
import Derived.Test.YtnoegalemkbbbaaGreatDoorKs17
set_option linter.unusedVariables false
set_option linter.unusedSimpArgs false
set_option maxRecDepth 100000
set_option maxRecDepth 100000
namespace Go.Eng
open Go.RowKit
abbrev JF(s:A0):Tm:= { AV 1 with s:=s}
theorem tQ(v:Tf)(s:A0):FU v s=true↔(v.named []).node=JF s:=by
 unfold FU
 rw[decide_eq_true_iff]
 constructor
 ·intro h
  rw[Tf.G1,Tf.G1]at h
  exact(List.cons.inj h).1
 ·intro h
  have hm:len (v.named []).ps=0:=by have:=congrArg Tm.many h;exact this
  have hp:(v.named []).ps=[]:=List.eq_nil_of_length_eq_zero (by unfold len at hm;omega)
  rw[Tf.G1,h,hp];rfl
theorem tT{v:Tf}{i:Int}(h:FU v ER=true):GK v i=(SR,i):=by unfold GK;rw[if_pos h]
theorem Ao9{v a b:Tf}{i:Int}(h0:FU v ER=false)(ho:v.t.op=4)(e:v.ps=[a,b])(h:FU a ER=true):GK v i=(b.named [],i+2):=by
 unfold GK
 rw[if_neg (by rw[h0];decide),if_pos ⟨ho,by rw[e];exact h⟩]
 unfold AQ;rw[e];rfl
theorem Ap0{v:Tf}{i:Int}(h0:FU v ER=false)(h: ¬(v.t.op=4/\FU (at' v.ps 0) ER=true)):GK v i=(default,-1):=by
 unfold GK
 rw[if_neg (by rw[h0];decide),if_neg h]
def ME(p:Tf×Int):Fl:=if 0<=p.2 then p.1.flat else []
theorem Ap1{g a b:Tf}(ho:g.t.op=8)(e:g.ps=[a,b]):DI g=
  if a.t.name=IC/\b.t.name=ER then(if FU a IC=true then GK b (1+a.size)else(default,-1))
  else if a.t.name=ER/\b.t.name=IC then(if FU b IC=true then GK a 1 else(default,-1))else(default,-1):=by
 unfold DI
 rw[if_neg (by rw[e];simp[ho,len]),e]
 rfl
end Go.Eng
namespace Go.Proofs.YtnoegalemkbbbaaGreatDoor
open Go.Proofs.Tryz
open Go.Eng Go.RowKit
theorem Ap2{w0 wv:World}{M0 M:Mem}{Rs:List HO}(g:Tf)(v:Value)(hg:g.B3)(hS:St w0 M0 wv M Rs)(hl:(A6 v g.flat).ok M)(hb:g.size<=16777216):
    Calls prog 144 [v].toArray wv (BF w0 M0 M Rs (λ h:AI=>.tuple #[h.v,i64 (DI g).2]) (λ _=>True) (λ h=>[(0,A6 h.v (ME (DI g)))]) λ _=>[]):=by
 have hgz:=DS g
 have hgp:=g.size_pos
 have hge:=g.size_eq
 have hop:(at' g.flat 0).op=g.t.op:=by rw[g.CU];rfl
 have hmn:(at' g.flat 0).many=len g.ps:=by rw[g.CU];rfl
 have A: ∀ {w:World} {M':Mem},(DI g).2= -1->M.le M'->St w0 M0 w M' Rs->BF w0 M0 M Rs (λ h:AI=>.tuple #[h.v,i64 (DI g).2]) (λ _=>True) (λ h=>[(0,A6 h.v (ME (DI g)))]) (λ _=>[]) (.returned (.tuple #[.slice none 0 0,i64 (-1)])) w:=λ{w M'} h1 F s=>by
  refine⟨⟨none,0,0⟩,M',by rw[h1],trivial,F,s,?_⟩
  have e:ME (DI g)=[]:=by unfold ME;rw[if_neg (by rw[h1];decide)]
  rw[e]
  exact AD ⟨Sl.nil M' 11,Tm.AS,trivial⟩ A3
 refine AH (Hr:=Rs) AF func144 U ntmps144 [(0,A6 v g.flat)] [] [.sl 0 v] U hS (AD hl A3) (λ B hB=>?_) U
 refine A1 U (λ P=>?_) (λ P=>?_)<;>simp only[zb]at P<;>rw[hop,hmn]at P
 ·exact A2 hB U U U λ w M' q=>A (by unfold DI;rw[if_pos Aa]) q.le (q.B6 [] U)
 obtain⟨a,b,e⟩:=gH (l:=g.ps) Aa
 have ho:g.t.op=8:=by omega
 have Q:=Ap1 ho e
 have ha:a.B3:=hg.kids a (by rw[e];simp)
 have hbg:b.B3:=hg.kids b (by rw[e];simp)
 have T:b.t.name≠a.t.name:=λ h=>(hg.SF [a] b [] (by rw[e];rfl)).d ho (by rw[h];simp)
 rw[e,AB,AB,AB]at hge
 have hpn:DL g=[(a.named []).flat,(b.named []).flat]:=by rw[ND];unfold AQ;rw[e];rfl
 have hza:=DS (a.named [])
 have hzb:=DS (b.named [])
 rw[Tf.G2]at hza hzb
 have hgf:g.flat=g.node::(a.flat++(b.flat++[])):=by rw[Tf.G1,e];rfl
 have hn1:(at' g.flat 1).name=a.t.name:=by rw[hgf,Tf.G1 a];rfl
 have hn2:(at' g.flat (1+(a.size:Int))).name=b.t.name:=by
  have:=gO (g.node::a.flat) b.flat [] (j:=0) Aa b.EW
  rw[Int.add_zero,AL,show len a.flat=a.size from DS a]at this
  have e3:g.flat=(g.node::a.flat)++(b.flat++[]):=hgf
  rw[e3,show(1+(a.size:Int))=(a.size:Int)+1 by omega,this,b.CU];rfl
 refine AP [] (λ g:Value×List AI=>.sl 4 g.1) [4] (λ _=>[]) U U call77 U U (λ w M hS hF=>S1 hS (hF.get (k:=0) U) Aa) λ K hgg=>?_
 have hgl2:len K.2=2:=by rw[hgg,e];rfl
 refine DW 6 (A6 (.slice none 0 0) []) (λ w M q=>⟨Sl.nil M 11,Tm.AS,trivial⟩) <|CL U Ad Aa <|MO 6 6 U ?_
 refine B7 (σ:=Nat×Int×Int×Value×Fl) (λ(k,pl,D,u,vx)=>⟨[(0,A6 v g.flat),(4,C9 K.1 K.2 (DL g)),(6,A6 u vx)],[],[Z 0 (.sl 0 v),Z 4 (I pl),Z 5 (I D),Z 6 (.sl 6 u),Z 23 (.sl 4 K.1),Z 24 (I (len K.2)),Z 25 (I k)]⟩)
  (λ(k,pl,D,u,vx)=>(k=0/\pl=1/\D= -1)\/(k=1/\pl=1+a.size/\((a.t.name=IC/\FU a IC=true/\D= -1)\/(a.t.name=ER/\D=1/\vx=(a.named []).flat)))\/(k=2/\ ∃x,x.B3/\(x.named []).flat=vx/\DI g=GK x D/\1<=D/\D<=16777216)) (λ(k,pl,D,u,vx)=>2-k) (0,1,-1,.slice none 0 0,[]) U U (.inl ⟨rfl,rfl,rfl⟩) ?_
 rintro⟨k,pl,D,u,vx⟩ hI
 dsimp only at hI
 refine A1 U (λ hb2=>?_) (λ hb2=>?_)<;>simp only[zb]at hb2
 ·obtain⟨x,hxk,hpl0,J,hnx⟩: ∃x:Tf,at' (DL g) (k:Int)=(x.named []).flat/\(0<=pl/\pl+x.size<=g.size)/\(k=0/\x=a/\pl=1\/k=1/\x=b/\pl=1+a.size)/\(at' g.flat pl).name=x.t.name:=by
   rcases hI with⟨h1,F,s⟩|⟨h1,F,s⟩|⟨h1,s⟩
   ·subst h1;subst F;exact⟨a,by rw[hpn];rfl,⟨Aa,Aa⟩,.inl ⟨rfl,rfl,rfl⟩,hn1⟩
   ·subst h1;subst F;exact⟨b,by rw[hpn];rfl,⟨Aa,Aa⟩,.inr ⟨rfl,rfl,rfl⟩,hn2⟩
   ·omega
  have hxp:=x.size_pos
  have hzx:=DS (x.named [])
  rw[Tf.G2]at hzx
  have R: ∀ {M:Mem},(C9 K.1 K.2 (DL g)).ok M->(A6 (at' K.2 (k:Int)).v (x.named []).flat).ok M:=λ h=>by
   have:=EN h (k:=(k:Int)) Aa Aa
   rw[hxk]at this;exact this
  refine A1 U (λ C=>?_) (λ C=>?_)<;>simp only[zb]at C<;>rw[hnx]at C
  ·refine BH 9 [JF IC] Tm.cells 11 48 Tm.AS U U Ah U λ v9=>AJ U call176 U U (λ _ w M q=>Ao4 (x.named []).flat [JF IC] (at' K.2 (k:Int)).v v9 w M q.st.sat (R (q.f.get (k:=4) U)) (q.f.get (k:=9) U)) U <|A1 U (λ z=>?_) (λ z=>?_)
   ·have L:FU x IC=false:=by
     have: ¬(x.named []).flat=[JF IC]:=by simpa using z
     exact decide_eq_false this
    refine A2 hB U U U λ w M' q=>A ?_ q.le (q.B6 [] U)
    rw[Q]
    rcases J with⟨_,rfl,_⟩|⟨_,rfl,_⟩
    ·rw[L,C];simp
    ·rw[L,C];simp
   ·have y:FU x IC=true:=by
     have:(x.named []).flat=[JF IC]:=by simpa using z
     exact decide_eq_true this
    refine AR (W:=.t) (I (len (x.named []).flat)) U U (λ w M q=>PV.MJ (R (q.f.get (k:=4) U)).sl (A7 (v:=.v (at' K.2 (k:Int)).v) (E:=[]) U) ⟨_,underlying23⟩) <|AX (k+1,pl+len (x.named []).flat,D,u,vx) U U ?_ (by show 2-(k+1)<2-k;omega)
    rcases J with⟨X,rfl,N⟩|⟨X,rfl,N⟩
    ·rcases hI with⟨h1,F,s⟩|⟨h1,F,s⟩|⟨h1,s⟩
     ·exact .inr (.inl ⟨Aa,Aa,.inl ⟨C,y,s⟩⟩)
     ·omega
     ·omega
    ·rcases hI with⟨h1,F,s⟩|⟨h1,F,s|s⟩|⟨h1,s⟩
     ·omega
     ·exact absurd (C.trans s.1.symm) T
     ·refine .inr (.inr ⟨Aa,a,ha,s.2.2.symm,?_,Aa,Aa⟩)
      rw[Q,C,s.1,y,s.2.1];rfl
     ·omega
  refine A1 U (λ z=>?_) (λ z=>?_)<;>simp only[zb]at z<;>rw[hnx]at z
  ·refine CL U Ad Ae <|DW 6 (A6 (at' K.2 (k:Int)).v (x.named []).flat) (λ w M q=>R (q.f.get (k:=4) U)) (MO 6 6 U ?_)
   refine AR (W:=.t) (I (len (x.named []).flat)) U U (λ w M q=>PV.MJ (R (q.f.get (k:=4) U)).sl (A7 (v:=.v (at' K.2 (k:Int)).v) (E:=[]) U) ⟨_,underlying23⟩) <|AX (k+1,pl+len (x.named []).flat,pl,(at' K.2 (k:Int)).v,(x.named []).flat) U U ?_ (by show 2-(k+1)<2-k;omega)
   rcases J with⟨X,rfl,N⟩|⟨X,rfl,N⟩
   ·exact .inr (.inl ⟨Aa,Aa,.inr ⟨z,N,rfl⟩⟩)
   ·rcases hI with⟨h1,F,s⟩|⟨h1,F,s|s⟩|⟨h1,s⟩
    ·omega
    ·refine .inr (.inr ⟨Aa,x,hbg,rfl,?_,Aa,Aa⟩)
     rw[Q,z,s.1,s.2.1,N];rfl
    ·exact absurd (z.trans s.1.symm) T
    ·omega
  ·refine A2 hB U U U λ w M' q=>A ?_ q.le (q.B6 [] U)
   rw[Q]
   rcases J with⟨_,rfl,_⟩|⟨_,rfl,_⟩
   ·rw[if_neg (λ h=>C h.1),if_neg (λ h=>z h.1)]
   ·rw[if_neg (λ h=>z h.2),if_neg (λ h=>C h.2)]
 obtain⟨x,hxg,hxv,O,hf0,hf1⟩: ∃x:Tf,x.B3/\(x.named []).flat=vx/\DI g=GK x D/\1<=D/\D<=16777216:=by
  rcases hI with⟨h1,F,s⟩|⟨h1,F,s⟩|⟨h1,s⟩
  ·omega
  ·omega
  ·exact s
 subst hxv
 have hxz:=DS (x.named [])
 have hxp:=(x.named []).size_pos
 have hx0:at' (x.named []).flat 0=(x.named []).node:=(x.named []).CU
 have hxe:=(x.named []).size_eq
 have hxo:(at' (x.named []).flat 0).op=x.t.op:=by rw[hx0];cases x;rfl
 have hfi:=tQ x ER
 have hlen1:FU x ER=true->len (x.named []).flat=1:=λ h=>by have:=of_decide_eq_true h;rw[this];rfl
 refine B9 10 U zeroValue48 U λ b9=>D7 [8,10] 3 (λ _ _ _ _ _ h=>h) U BK U <|AK 8 U U U <|AR (.v (.bool (decide (at' (x.named []).flat 0=JF ER)))) U U (λ w M q=>PV.bin (A7 (v:=SW (at' (x.named []).flat 0)) U) (A7 (v:=SW (JF ER)) U) (λ _ w _=>LU _ _ _ _ w)) <|AE U <|AK 10 U U U <|AE U <|BL U U U ?_
 refine A1 U (λ S=>?_) (λ S=>?_)<;>simp only[zb]at S
 ·have y:FU x ER=true:=hfi.2 (by rw[<-hx0];exact S.2)
  refine BH 11 [AV 0] Tm.cells 11 48 Tm.AS U U Ah U λ v11=>CL U Ad Aa <|RG 11 U λ a11 c11 e11=>?_
  subst e11
  refine A2 hB U U U λ w M' q=>⟨⟨a11,1,c11⟩,M',?_,trivial,q.le,q.B6 [] U,?_⟩
  ·rw[O,tT y];rfl
  ·rw[O,tT y]
   have:ME (SR,D)=[AV 0]:=by unfold ME;rw[if_pos (by show 0<=D;omega)];rfl
   rw[this]
   exact AD (q.f.get (k:=11) U) A3
 have L:FU x ER=false:=by
  rw[<-Bool.not_eq_true]
  intro h
  have h1:=hlen1 h
  have F:=hfi.1 h
  rw[<-hx0]at F
  exact S.elim (λ h=>h h1) (λ h=>h F)
 have G:x.t.op=4-> ∃a b,x.ps=[a,b]/\(x.named []).flat=(x.named []).node::(a.flat++b.flat)/\at' (x.named []).flat 1=a.node/\2<len (x.named []).flat/\(FU a ER=true↔a.node=JF ER)/\(FU a ER=true->Eng.sub (x.named []).flat 2 (len (x.named []).flat)=b.flat)/\b.named []=b/\a.named []=a:=λ h4=>by
  obtain⟨a,b,V⟩:=hxg.two (.inl h4)
  have na:a.named []=a:=Tf.dG ((hxg.SF [] a [b] (by rw[V];rfl)).n Aa)
  have nb:b.named []=b:=Tf.dG ((hxg.SF [a] b [] (by rw[V];rfl)).n Aa)
  have hf:(x.named []).flat=(x.named []).node::(a.flat++b.flat):=by rw[Tf.G1,Tf.fC,V];show _::(a.flat++(b.flat++[]))=_;rw[List.append_nil]
  have ha1:=a.EW
  have P:=b.EW
  refine⟨a,b,V,hf,by rw[hf,Tf.G1 a];rfl,by rw[hf,AL,AO];omega,by have:=tQ a ER;rw[na]at this;exact this,λ h=>?_,nb,na⟩
  have h1:a.flat=[JF ER]:=by have:=of_decide_eq_true h;rw[na]at this;rw[this];rfl
  rw[hf,h1]
  unfold Eng.sub len
  simp
  exact List.take_of_length_le Aa
 refine D7 [10,12] 3 (λ _ _ _ _ _ h=>h) U BK U ?_
 have hlen:x.t.op=4->2<len (x.named []).flat:=λ h4=>by obtain⟨_,_,_,_,_,h5,_⟩:=G h4;exact h5
 rw[<-hxo]at hlen
 have hlen2:((at' (x.named []).flat 0).op==4)=false\/2<len (x.named []).flat:=by
  cases hq:(at' (x.named []).flat 0).op==4 with
  |false=>exact .inl U
  |true=>exact .inr (hlen (by simpa using hq))
 refine AK 10 U U U <|AR (.v (.bool (decide (at' (x.named []).flat 1=JF ER)))) U U (λ w M q=>PV.bin (A7 (v:=SW (at' (x.named []).flat 1)) U) (A7 (v:=SW (JF ER)) U) (λ _ w _=>LU _ _ _ _ w)) <|AE U <|AK 12 U U U <|AE U <|BL U U U ?_
 refine A1 U (λ H=>?_) (λ H=>?_)<;>simp only[zb]at H<;>rw[hxo]at H
 ·obtain⟨a',b',V,q1,q2,q3,q4,q5,q6,q7⟩:=G H.1
  have y:FU a' ER=true:=q4.2 (by rw[<-q2];exact H.2)
  have hk:=Ao9 (i:=D) L H.1 V y
  rw[q6]at hk
  refine ET (gd:=none) 12 2 (len (x.named []).flat) U U U ⟨.i64,_,rfl,AG U⟩ U underlying23 sizeOf48 Aa U λ v12=>?_
  rw[q5 y]
  refine CL U Ad Ae <|RG 12 U λ a12 c12 e12=>?_
  subst e12
  refine A2 hB U U U λ w M' q=>⟨⟨a12,b'.flat.length,c12⟩,M',?_,trivial,q.le,q.B6 [] U,?_⟩
  ·rw[O,hk];rfl
  ·rw[O,hk]
   have:ME (b',D+2)=b'.flat:=by unfold ME;rw[if_pos (by show 0<=D+2;omega)]
   rw[this]
   exact AD (q.f.get (k:=12) U) A3
 ·refine A2 hB U U U λ w M' q=>A ?_ q.le (q.B6 [] U)
  rw[O,Ap0 L ?_]
  rintro⟨h4,h5⟩
  obtain⟨a',b',V,q1,q2,q3,q4,q5,q6,q7⟩:=G h4
  rw[V]at h5
  exact H.elim (λ h=>h h4) (λ h=>h (by rw[q2];exact q4.1 h5))
theorem Ap3{n:Nat}(H:QO n)(g:Tf){w0 wv:World}{M0 M:Mem}{Rs:List HO}(i:Int)(v:Value)(u:AI)(t:Tf)(S:g.size<=n)(hg:g.B3)(A:AU g)(hS:St w0 M0 wv M Rs)(E:Gl w0)(T:(A6 v g.flat).ok M)(V:(A6 u.v t.flat).ok M)(L:B8 t=true)(hs:AU t)(W:t.size*(1+hF g)<=16777216)(X:g.size<=16777216)(hi0:0<=i)(hi1:i+2*g.size+2<=1099511627776):
    Calls prog 89 [v,i64 i,u.v].toArray wv (JS w0 M0 M Rs (HV (CO n) g i t)):=by
 have hgz:=DS g
 have hgp:=g.size_pos
 have hge:=g.size_eq
 have htz:=DS t
 have htp:=t.size_pos
 have hhp:=KD g hg
 rw[Nat.mul_add,Nat.mul_one]at W
 have G:(at' t.flat 0).op=t.t.op:=by rw[t.CU];rfl
 have N:(at' g.flat 0).op=g.t.op:=by rw[g.CU];rfl
 have J:g.t.op=4->1<len g.flat/\(at' g.flat 1).op=(at' g.ps 0).t.op:=λ F=>by
  obtain⟨a,b,e⟩:=hg.two (.inl F)
  have hap:=a.EW
  have hbp:=b.EW
  refine⟨?_,by rw[e,Tf.G1,e];show(at' (_::(a.flat++(b.flat++[]))) 1).op=a.t.op;rw[Tf.G1 a];rfl⟩
  rw[Tf.G1,e]
  show 1<len (_::(a.flat++(b.flat++[])))
  rw[AL,AO,AO];have:=A8 ([]:Fl);omega
 have h14b:((at' g.flat 0).op==4)=false\/1<len g.flat:=by
  cases P:(at' g.flat 0).op==4 with
  |false=>exact .inl U
  |true=>rw[N]at P;exact .inr (J (by simpa using P)).1
 refine AH (Hr:=Rs) AF func89 U ntmps89 [(0,A6 v g.flat),(1,A6 u.v t.flat)] [] [.sl 0 v,I i,.sl 1 u.v] U hS (AD T (AD V A3)) (λ B q=>?_) U
 refine A1 U (λ s=>?_) (λ s=>?_)<;>simp only[zb]at s<;>rw[G]at s
 ·refine A1 U (λ l=>?_) (λ l=>?_)<;>simp only[zb]at l<;>rw[N]at l
  ·have GA:KZ g=true:=by
    unfold KZ
    simp only[Bool.or_eq_true,Bool.and_eq_true,decide_eq_true_eq]
    rcases l with h|⟨h1,h2⟩
    ·exact .inl h
    ·exact .inr ⟨h1,by rw[<-(J h1).2];exact h2⟩
   have P:HV (CO n) g i t=(SS (CO n) g (i+1) (at' (AM t) 0)).bind λ y _=>.ok (.mk (AV 5) [y]) 0:=by unfold HV;rw[if_pos s,if_pos GA]
   obtain⟨x,e⟩:=B8.one L (.inr Aa)
   have hkl:(AM t).length=1:=by rw[NA Aa,List.length_map,e];rfl
   obtain⟨k1,Q⟩:=MB L hs
   have D:at' (AM t) 0∈AM t:=NC (k:=0) Aa
   have hm0:at' ((AM t).map Tf.flat) 0=(at' (AM t) 0).flat:=MD (k:=0) Aa
   have hkz:=I8 D
   have hte:=t.size_eq
   have hkb:(at' (AM t) 0).size*hF g<=16777216:=Nat.le_trans (Nat.mul_le_mul_right _ (show(at' (AM t) 0).size<=t.size by omega)) Aa
   refine AP [] (λ g:Value×List AI=>.sl 8 g.1) [9] (λ g=>[(8,EA g.1 g.2)]) U U call143 U U (λ w M hS hF=>SN hS (hF.get (k:=1) U) Aa) λ gg hgg=>?_
   obtain⟨pu,K⟩:=gg
   dsimp only at hgg
   refine C6 8 U <|DW 8 (C9 pu K ((AM t).map Tf.flat)) (λ w M z=>⟨(z.f.get (k:=8) U).sl,E5,(z.f.get (k:=9) U).more⟩) ?_
   have hl8:len K=1:=by unfold len;omega
   rw[P]at q
   refine EC [] [4] (λ _ (h:AI)=>.sl 4 h.v) (λ _ _ _=>[]) q U U call142 U U (List.Sublist.refl _) (λ w M hS hF=>An7 H g (i+1) v (at' K 0) (at' (AM t) 0) S hg A hS E (hF.get (k:=0) U) (by have:=EN (hF.get (k:=8) U) (k:=0) Aa Aa;rw[hm0]at this;exact this) (Q _ D).1 (Q _ D).2 GA hkb Aa Aa) λ y j R q F _=>?_
   have hiy:=sX hg A GA (VP n _ (by have:=(QN (i:=i+1) hg A GA).2.2.2.2.2.2.1;omega) (QN (i:=i+1) hg A GA).2.2.1 (QN (i:=i+1) hg A GA).2.2.2.2.1) R (Q _ D).1 (Q _ D).2
   have hyz:=DS y
   have hys:=hiy.size
   exact AP [] (λ h:AI=>.sl 10 h.v) [] (λ h=>[(10,ED h.v (Tf.mk (AV 5) [y]).flat)]) U U call141 U U (λ w M hS hF=>Ai3 F y hS (hF.get (k:=4) U) Aa) λ h10 _=>C6 10 U <|A2 q U U U λ w M' z=>⟨h10,M',rfl,trivial,z.le,z.B6 [] U,AD (z.f.get (k:=10) U) A3⟩
  ·have GA: ¬KZ g=true:=by
    unfold KZ
    simp only[Bool.or_eq_true,Bool.and_eq_true,decide_eq_true_eq]
    rintro(h|⟨h1,h2⟩)
    ·exact l.1 h
    ·exact l.2.elim (λ h=>h h1) (λ h=>h (by rw[(J h1).2];exact h2))
   rw[show HV (CO n) g i t=IU (CO n) g (i+1) t by unfold HV;rw[if_pos s,if_neg GA],<-PR.ret (IU (CO n) g (i+1) t)]at q
   exact EC [] [4] (λ _ (h:AI)=>.sl 4 h.v) (λ _ _ _=>[]) q U U call91 U U (List.Sublist.refl _) (λ w M hS hF=>ZB H g (i+1) v u t S hg A hS E (hF.get (k:=0) U) (hF.get (k:=1) U) L hs Aa Aa Aa Aa) λ y j R q F _=>A2 q U U U λ w M' z=>⟨F,M',rfl,trivial,z.le,z.B6 [] U,AD (z.f.get (k:=4) U) A3⟩
 refine A1 U (λ l=>?_) (λ l=>?_)<;>simp only[zb]at l<;>rw[G]at l
 ·rw[show HV (CO n) g i t=IU (CO n) g (i+1) t by unfold HV;rw[if_neg s,if_pos l],<-PR.ret (IU (CO n) g (i+1) t)]at q
  exact EC [] [4] (λ _ (h:AI)=>.sl 4 h.v) (λ _ _ _=>[]) q U U call91 U U (List.Sublist.refl _) (λ w M hS hF=>ZB H g (i+1) v u t S hg A hS E (hF.get (k:=0) U) (hF.get (k:=1) U) L hs Aa Aa Aa Aa) λ y j R q F _=>A2 q U U U λ w M' z=>⟨F,M',rfl,trivial,z.le,z.B6 [] U,AD (z.f.get (k:=4) U) A3⟩
 refine A1 U (λ C=>?_) (λ C=>?_)<;>simp only[zb]at C<;>rw[G]at C
 ·refine AP [] (λ h:AI=>.tu [.sl 5 h.v,I (DI g).2]) [5] (λ _=>[]) (Fg:=λ h=>[(0,A6 h.v (ME (DI g)))]) (pu:=λ _=>True) U U call144 U U (λ w M hS hF=>Ap2 g v hg hS (hF.get (k:=0) U) X) λ h5 _=>?_
  refine A1 U (λ O=>?_) (λ O=>?_)<;>simp only[zb]at O
  ·obtain⟨q1,q2,q3,q4,q5⟩:=sZ hg A Aa
   have hkp:ME (DI g)=(DI g).1.flat:=if_pos Aa
   rw[show HV (CO n) g i t=IU (CO n) (DI g).1 (i+1+(DI g).2) t by unfold HV;rw[if_neg s,if_neg l,if_pos C,if_pos Aa],<-PR.ret (IU (CO n) (DI g).1 (i+1+(DI g).2) t)]at q
   have hsb:t.size*hF (DI g).1<=16777216:=Nat.le_trans (Nat.mul_le_mul_left _ q4) Aa
   exact EC [] [4] (λ _ (h:AI)=>.sl 4 h.v) (λ _ _ _=>[]) q U U call91 U U (List.Sublist.refl _) (λ w M hS hF=>ZB H (DI g).1 (i+1+(DI g).2) h5.v u t Aa q1 q2 hS E (by have:=hF.get (k:=5) U;rw[hkp]at this;exact this) (hF.get (k:=1) U) L hs Aa hsb Aa Aa) λ y j R q F _=>A2 q U U U λ w M' z=>⟨F,M',rfl,trivial,z.le,z.B6 [] U,AD (z.f.get (k:=4) U) A3⟩
  ·rw[show HV (CO n) g i t= .er i 1 by unfold HV;rw[if_neg s,if_neg l,if_pos C,if_neg Aa]]at q
   exact EU [] U U call81 U U (λ w M hS hF=>FJ i 1 hS) λ a w M hs hS hle=>DY _ (q.p ⟨M,rfl,hS.drop _ (List.Sublist.refl _),hle⟩ a hs)
 ·rw[show HV (CO n) g i t= .er i 1 by unfold HV;rw[if_neg s,if_neg l,if_neg C]]at q
  exact EU [] U U call81 U U (λ w M hS hF=>FJ i 1 hS) λ a w M hs hS hle=>DY _ (q.p ⟨M,rfl,hS.drop _ (List.Sublist.refl _),hle⟩ a hs)
theorem Ap4{w0 C:World}{M0 M:Mem}{Rs:List HO}{g n c:Nat}{xs:List Value}{i:Nat}(hS:St w0 M0 C M (.priv 9 1 (.slice (some ⟨g,0,none⟩) n c) n xs::Rs))(hi:i<n)(K:n<=1099511627)(q: ∀u∈xs,u.oneCell'=true):
    Calls prog 154 [.slice (some ⟨g,0,none⟩) n c,.int .i64 i,.int .i64 (i+1)].toArray C (BF w0 M0 M Rs (λ _:Unit=>.slice (some ⟨g,0,none⟩) (n-1) c) (λ _=>True) (λ _=>[]) λ _=>[.priv 9 1 (.slice (some ⟨g,0,none⟩) (n-1) c) (n-1) (xs.eraseIdx i)]):=by
 obtain⟨_,_,s,D,F⟩:=hS.rowAt (i:=0) rfl
 have G:maxLen=9223372036854775807:=rfl
 obtain⟨a,H,y⟩: ∃a:Addr,O4 g n c 1 (i+1)= .slice (some a) (n-(i+1)) (c-(i+1))/\(i+1<n->a=⟨g,i+1,none⟩):=by
  unfold O4
  split
  ·exact⟨_,rfl,λ h=>by omega⟩
  ·exact⟨_,rfl,λ _=>by rw[Nat.mul_one]⟩
 refine AH (Hr:=Rs) AF func154 U ntmps154 [] [(0,.ho (.priv 9 1 (.slice (some ⟨g,0,none⟩) n c) n xs))] [.v (.slice (some ⟨g,0,none⟩) n c),.v (.int .i64 i),.v (.int .i64 (i+1))] U hS A3 (λ B J=>AR (W:=.t) (I n) U U (λ w M b=>O5 U underlying103) <|AR (W:=.t) (.v (sliced (some ⟨g,0,none⟩) (i:Int).toNat ((i:Int)+1).toNat (n:Int).toNat 1)) U U (λ w M b=>PV.mC _ (A7 (v:=.v (.slice (some ⟨g,0,none⟩) n c)) (E:=[]) U) (A7 (v:=.v (.int .i64 i)) (E:=[]) U) (A7 (v:=.v (.int .i64 (i+1))) (E:=[]) U) (A7 (v:=I n) (E:=[]) U) underlying103 sizeOf9 Aa U) ?_) U
 refine A1 U (λ e=>?_) (λ e=>?_)<;>simp only[zb]at e
 ·omega
 refine AR (W:=.t) (I n) U U (λ w M b=>O5 U underlying103) <|XM 6 U BK Ac <|O6 (W:=.t) (.v (.slice (some ⟨g,0,none⟩) i c)) U U (λ w M b=>XK i U U underlying103 sizeOf9 Aa U) <|O6 (W:=.t) (.v (.slice (some a) (n-(i+1)) (c-(i+1)))) U U (λ w M b=>Go.Eng.EA (i+1) U U underlying103 sizeOf9 Aa Aa H.symm) <|XN (λ _ _ _ _ _ h=>h) U ?_
 have z:(xs.drop (i+1)).length=n-(i+1):=by rw[List.length_drop,s];omega
 refine mE 0 i (n-(i+1)) (cs:=xs.drop (i+1)) U U U underlying103 type9 U (by rw[z,Nat.mul_one]) (λ w M b j u hu=>by
  have L:=(List.getElem?_eq_some_iff.1 hu).1
  rw[y Aa]
  exact RX b (kk:=0) (o:=i+1) U hu) (by rw[z];omega) Aa (λ u hu=>q u (List.mem_of_mem_drop hu)) ?_
 rw[Nat.mul_one]
 have A:i+(n-(i+1))=n-1:=by omega
 rw[A]
 refine AR (W:=.t) (I ((n-1:Nat):Int)) U U (λ w M b=>O5 U underlying103) ?_
 refine AR (W:=.t) (.v (.slice (some ⟨g,n-1,none⟩) 1 (c-(n-1)))) U U (λ w M b=>PV.mD _ (A7 (v:=.v (.slice (some ⟨g,0,none⟩) (n-1) c)) (E:=[]) U) (A7 (v:=I ((n-1:Nat):Int)) (E:=[]) U) (A7 (v:=I n) (E:=[]) U) underlying103 sizeOf9 Aa (by
  unfold sliced
  rw[Int.toNat_natCast,Int.toNat_natCast,if_neg Aa,show n-(n-1)=1 by omega,Nat.mul_one]
  show Value.slice _ _ _=Value.slice _ _ _
  simp[F1])) ?_
 refine mF 0 (n-1) 1 U U U underlying103 zeroValue9 U U Aa (by unfold BY;simp only[List.length_append,List.length_take,List.length_drop];omega) <|mG 0 (n-1) U Aa <|A2 J U U U λ w M' b=>⟨(),M',rfl,trivial,b.le,?_,A3⟩
 have k:(BY (BY xs i (xs.drop (i+1))) (n-1) (List.replicate 1 (str []))).take ((n-1)*1)=xs.eraseIdx i:=by
  rw[List.eraseIdx_eq_take_drop_succ,Nat.mul_one]
  unfold BY
  have h1:(xs.take i++xs.drop (i+1)).length=n-1:=by rw[List.length_append,List.length_take,z];omega
  rw[List.take_append_of_le_length (l₁:=xs.take i++xs.drop (i+1)) Aa,List.take_of_length_le (l:=xs.take i++xs.drop (i+1)) Aa,List.append_assoc,List.take_append_of_le_length Aa,List.take_of_length_le Aa]
 have:=b.st
 rw[<-k]
 exact this
theorem Ap5{w0 C:World}{M0 M:Mem}{Rs:List HO}{g n c:Nat}{xs:List Value}{i:Nat}(hS:St w0 M0 C M (.priv 25 1 (.slice (some ⟨g,0,none⟩) n c) n xs::Rs))(hi:i<n)(K:n<=1099511627)(q: ∀u∈xs,u.oneCell'=true):
    Calls prog 155 [.slice (some ⟨g,0,none⟩) n c,.int .i64 i,.int .i64 (i+1)].toArray C (BF w0 M0 M Rs (λ _:Unit=>.slice (some ⟨g,0,none⟩) (n-1) c) (λ _=>True) (λ _=>[]) λ _=>[.priv 25 1 (.slice (some ⟨g,0,none⟩) (n-1) c) (n-1) (xs.eraseIdx i)]):=by
 obtain⟨_,_,s,D,F⟩:=hS.rowAt (i:=0) rfl
 have G:maxLen=9223372036854775807:=rfl
 obtain⟨a,H,y⟩: ∃a:Addr,O4 g n c 1 (i+1)= .slice (some a) (n-(i+1)) (c-(i+1))/\(i+1<n->a=⟨g,i+1,none⟩):=by
  unfold O4
  split
  ·exact⟨_,rfl,λ h=>by omega⟩
  ·exact⟨_,rfl,λ _=>by rw[Nat.mul_one]⟩
 refine AH (Hr:=Rs) AF func155 U ntmps155 [] [(0,.ho (.priv 25 1 (.slice (some ⟨g,0,none⟩) n c) n xs))] [.v (.slice (some ⟨g,0,none⟩) n c),.v (.int .i64 i),.v (.int .i64 (i+1))] U hS A3 (λ B J=>AR (W:=.t) (I n) U U (λ w M b=>O5 U underlying53) <|AR (W:=.t) (.v (sliced (some ⟨g,0,none⟩) (i:Int).toNat ((i:Int)+1).toNat (n:Int).toNat 1)) U U (λ w M b=>PV.mC _ (A7 (v:=.v (.slice (some ⟨g,0,none⟩) n c)) (E:=[]) U) (A7 (v:=.v (.int .i64 i)) (E:=[]) U) (A7 (v:=.v (.int .i64 (i+1))) (E:=[]) U) (A7 (v:=I n) (E:=[]) U) underlying53 sizeOf25 Aa U) ?_) U
 refine A1 U (λ e=>?_) (λ e=>?_)<;>simp only[zb]at e
 ·omega
 refine AR (W:=.t) (I n) U U (λ w M b=>O5 U underlying53) <|XM 6 U BK Ac <|O6 (W:=.t) (.v (.slice (some ⟨g,0,none⟩) i c)) U U (λ w M b=>XK i U U underlying53 sizeOf25 Aa U) <|O6 (W:=.t) (.v (.slice (some a) (n-(i+1)) (c-(i+1)))) U U (λ w M b=>Go.Eng.EA (i+1) U U underlying53 sizeOf25 Aa Aa H.symm) <|XN (λ _ _ _ _ _ h=>h) U ?_
 have z:(xs.drop (i+1)).length=n-(i+1):=by rw[List.length_drop,s];omega
 refine mE 0 i (n-(i+1)) (cs:=xs.drop (i+1)) U U U underlying53 type25 U (by rw[z,Nat.mul_one]) (λ w M b j u hu=>by
  have L:=(List.getElem?_eq_some_iff.1 hu).1
  rw[y Aa]
  exact RX b (kk:=0) (o:=i+1) U hu) (by rw[z];omega) Aa (λ u hu=>q u (List.mem_of_mem_drop hu)) ?_
 rw[Nat.mul_one]
 have A:i+(n-(i+1))=n-1:=by omega
 rw[A]
 refine AR (W:=.t) (I ((n-1:Nat):Int)) U U (λ w M b=>O5 U underlying53) ?_
 refine AR (W:=.t) (.v (.slice (some ⟨g,n-1,none⟩) 1 (c-(n-1)))) U U (λ w M b=>PV.mD _ (A7 (v:=.v (.slice (some ⟨g,0,none⟩) (n-1) c)) (E:=[]) U) (A7 (v:=I ((n-1:Nat):Int)) (E:=[]) U) (A7 (v:=I n) (E:=[]) U) underlying53 sizeOf25 Aa (by
  unfold sliced
  rw[Int.toNat_natCast,Int.toNat_natCast,if_neg Aa,show n-(n-1)=1 by omega,Nat.mul_one]
  show Value.slice _ _ _=Value.slice _ _ _
  simp[F1])) ?_
 refine mF 0 (n-1) 1 U U U underlying53 zeroValue25 U U Aa (by unfold BY;simp only[List.length_append,List.length_take,List.length_drop];omega) <|mG 0 (n-1) U Aa <|A2 J U U U λ w M' b=>⟨(),M',rfl,trivial,b.le,?_,A3⟩
 have k:(BY (BY xs i (xs.drop (i+1))) (n-1) (List.replicate 1 (.slice none 0 0:Value))).take ((n-1)*1)=xs.eraseIdx i:=by
  rw[List.eraseIdx_eq_take_drop_succ,Nat.mul_one]
  unfold BY
  have h1:(xs.take i++xs.drop (i+1)).length=n-1:=by rw[List.length_append,List.length_take,z];omega
  rw[List.take_append_of_le_length (l₁:=xs.take i++xs.drop (i+1)) Aa,List.take_of_length_le (l:=xs.take i++xs.drop (i+1)) Aa,List.append_assoc,List.take_append_of_le_length Aa,List.take_of_length_le Aa]
 have:=b.st
 rw[<-k]
 exact this
end Go.Proofs.YtnoegalemkbbbaaGreatDoor
namespace Go.Eng
open Go.RowKit
def QP(hs xs:List AI)(k:Nat):Prop:=xs.length=hs.length/\ ∀j,j<hs.length->at' xs (j:Int)=if j<k\/hs.length-k<=j then at' hs ((hs.length-1-j:Nat):Int)else at' hs (j:Int)
theorem tU{α:Type}[Inhabited α]{l:List α}{k j:Nat}{y:α}(q:k<l.length)(s:j<l.length):at' (l.set k y) (j:Int)=if j=k then y else at' l (j:Int):=by
 obtain⟨h1,b⟩:=CE (l.set k y) (i:=(j:Int)) Aa (by unfold len;rw[List.length_set];omega)
 obtain⟨w,n⟩:=CE l (i:=(j:Int)) Aa (by unfold len;omega)
 rw[b,n]
 simp only[Int.toNat_natCast,List.getElem_set]
 split
 ·rename_i h;rw[if_pos h.symm]
 ·rename_i h;rw[if_neg (λ e=>h e.symm)]
theorem QP.step {hs xs:List AI}{k:Nat}(h:QP hs xs k)(l:k<hs.length-1-k):QP hs ((xs.set k (at' xs ((hs.length-1-k:Nat):Int))).set (hs.length-1-k) (at' xs (k:Int))) (k+1):=by
 obtain⟨h1,b⟩:=h
 refine⟨by rw[List.length_set,List.length_set,h1],λ j i=>?_⟩
 rw[tU (by rw[List.length_set];omega) (by rw[List.length_set];omega),tU Aa Aa]
 have e:=b k Aa
 have e2:=b (hs.length-1-k) Aa
 rw[if_neg Aa]at e e2
 by_cases c1:j=hs.length-1-k
 ·rw[if_pos c1,if_pos Aa,e,c1];congr 1;omega
 ·rw[if_neg c1]
  by_cases c2:j=k
  ·rw[if_pos c2,if_pos Aa,e2,c2]
  ·rw[if_neg c2,b j i]
   by_cases c3:j<k\/hs.length-k<=j
   ·rw[if_pos c3,if_pos Aa]
   ·rw[if_neg c3,if_neg Aa]
theorem QP.done {hs xs:List AI}{k:Nat}(h:QP hs xs k)(y:hs.length<=2*k+1):xs=hs.reverse:=by
 obtain⟨h1,n⟩:=h
 apply List.ext_getElem (by rw[h1,List.length_reverse])
 intro j q b
 rw[List.length_reverse]at b
 rw[List.getElem_reverse]
 obtain⟨z,s⟩:=CE xs (i:=(j:Int)) Aa (by unfold len;omega)
 obtain⟨A,w⟩:=CE hs (i:=((hs.length-1-j:Nat):Int)) Aa (by unfold len;omega)
 have e:=n j b
 have l:at' xs (j:Int)=at' hs ((hs.length-1-j:Nat):Int):=by
  by_cases c:j<k\/hs.length-k<=j
  ·rw[if_pos c]at e;exact e
  ·rw[if_neg c]at e
   rw[e];congr 1;omega
 rw[s,w]at l
 simpa using l
end Go.Eng
namespace Go.Proofs.YtnoegalemkbbbaaGreatDoor
open Go.Proofs.Tryz
open Go.Eng Go.RowKit
theorem Ap6{w0 z:World}{M0 M:Mem}{Rs:List HO}(v:Value)(hs:List AI)(hS:St w0 M0 z M (NB v hs::Rs))(G:hs.length<=1099511627):
    Calls prog 182 [v].toArray z (BF w0 M0 M Rs (λ _:Unit=>.tuple #[]) (λ _=>True) (λ _=>[]) λ _=>[NB v hs.reverse]):=by
 refine AH (Hr:=Rs) AF func182 U ntmps182 [] [(0,Go.Proofs.YtnoegalemkbbbaaGreatDoor.EA v hs)] [.sl 0 v] U hS A3 (λ B C=>B7 (σ:=Nat×Int×List AI) (λ(k,j,xs)=>⟨[],[(0,Go.Proofs.YtnoegalemkbbbaaGreatDoor.EA v xs)],[Z 0 (.sl 0 v),Z 2 (I k),Z 3 (I j)]⟩) (λ(k,j,xs)=>QP hs xs k/\k<=hs.length/\j=(hs.length:Int)-1-k) (λ(k,j,xs)=>hs.length-k) (0,len hs-1,hs) U (hO:=by unfold len;omega) U ⟨⟨rfl,λ j H=>by rw[if_neg Aa]⟩,Aa,by unfold len;omega⟩ ?_) U
 rintro⟨k,j,xs⟩ ⟨w,J,rfl⟩
 have l:=w.1
 have D:len xs=(hs.length:Int):=by unfold len;rw[l]
 refine A1 U (λ q=>?_) (λ q=>?_)<;>simp only[zb]at q
 ·have y:k<hs.length-1-k:=by omega
  have E:(hs.length:Int)-1-k=((hs.length-1-k:Nat):Int):=by omega
  have fin: ∀(e i:List AI),e=xs.set (k:Int).toNat (at' xs ((hs.length:Int)-1-k))->i=e.set ((hs.length:Int)-1-k).toNat (at' xs (k:Int))->QP hs i (k+1):=λ e i F e2=>by
   subst F;subst e2
   rw[E,Int.toNat_natCast,Int.toNat_natCast]
   exact w.step y
  refine D7 [7,11,13,15] 5 (λ _ _ _ _ _ h=>h) U BK U <|FZ 7 11 U U U ?_ ?_
  ·refine AE U <|AK 11 U U U <|AE U <|AK 13 U U U <|I2 (at' xs ((hs.length:Int)-1-k)) U U U sizeOf25 U U U Aa λ e b=>AE U ?_
   have s:len e=(hs.length:Int):=by rw[b];unfold len;rw[List.length_set,l]
   exact AK 15 U U U <|I2 (at' xs (k:Int)) U U U sizeOf25 U U U Aa λ i n=>AE U <|BL U U U <|AX (k+1,(hs.length:Int)-1-k-1,i) U U ⟨fin e i b n,Aa,Aa⟩ (by show hs.length-(k+1)<hs.length-k;omega)
  ·refine AE U <|AK 7 U U U <|AE U <|AK 13 U U U <|I2 (at' xs ((hs.length:Int)-1-k)) U U U sizeOf25 U U U Aa λ e b=>AE U ?_
   have s:len e=(hs.length:Int):=by rw[b];unfold len;rw[List.length_set,l]
   exact AK 15 U U U <|I2 (at' xs (k:Int)) U U U sizeOf25 U U U Aa λ i n=>AE U <|BL U U U <|AX (k+1,(hs.length:Int)-1-k-1,i) U U ⟨fin e i b n,Aa,Aa⟩ (by show hs.length-(k+1)<hs.length-k;omega)
 ·refine U8 C U U λ w' M' A=>⟨(),M',rfl,trivial,A.le,?_,A3⟩
  rw[<-w.done Aa]
  exact A.st
end Go.Proofs.YtnoegalemkbbbaaGreatDoor
namespace Go.Eng
open Go.RowKit
theorem VQ(l:List Tf):CN [] l=l:=by cases l<;>rfl
theorem B5.drop {α:Type}{M:Mem}{sz:Nat}{f:α->List Value}: ∀(k:Nat) {hs:List AI} {xs:List (List α)},B5 M sz f hs xs->B5 M sz f (hs.drop k) (xs.drop k)
 |0,_,_,h=>h
 |k+1,[],[],h=>h
 |k+1,_::_,_::_,h=>B5.drop k h.2
theorem B5.rev {α:Type}{M:Mem}{sz:Nat}{f:α->List Value}: ∀ {hs:List AI} {xs:List (List α)},B5 M sz f hs xs->B5 M sz f hs.reverse xs.reverse
 |[],[],h=>h
 |_::_,_::_,h=>by rw[List.reverse_cons,List.reverse_cons];exact B5.snoc h.1 (B5.rev h.2)
theorem tV{α:Type}(l:List α){k:Int}(h0:0<=k)(h1:k<=len l):Eng.sub l k (len l)=l.drop k.toNat:=by
 unfold Eng.sub
 rw[List.take_of_length_le]
 rw[List.length_drop];unfold len;omega
end Go.Eng
namespace Go.Proofs.YtnoegalemkbbbaaGreatDoor
open Go.Proofs.Tryz
open Go.Eng Go.RowKit
theorem Ap7{w0 D:World}{M0 M:Mem}{Rs:List HO}(x:Tm)(i:Int)(pu:Value)(hs:List AI)(b:List Tf)(hS:St w0 M0 D M (NB pu hs::Rs))(E:B5 M 11 Tm.cells hs (b.map Tf.flat))(hx:x.op=2\/x.op=3->0<=x.n)(F:AB b<=16777216):
   Calls prog 156 [.agg x.cells.toArray,i64 i,pu].toArray D (JS w0 M0 M Rs (JC x i b)):=by
 have hlen:hs.length=b.length:=by have:=B5.len E;rwa [List.length_map]at this
 have J:len hs=len b:=by unfold len;omega
 have K:=LZ b
 have L:=A8 b
 refine AH (Hr:=Rs) AF func156 U ntmps156 [(9,FP hs (b.map Tf.flat))] [(2,Go.Proofs.YtnoegalemkbbbaaGreatDoor.EA pu hs)] [.ag (E8 x.cells),I i,.sl 2 pu] U hS (AD ⟨Sl.nil M 1,DO,E⟩ A3) (λ B q=>BM 3 U U U λ N=>?_) U
 refine A1 U (λ A=>?_) (λ A=>?_)<;>simp only[zb]at A
 ·rw[show JC x i b= .er i 2 by unfold JC;rw[if_pos Aa]]at q
  exact EU [] U U call81 U U (λ w M hS hF=>FJ i 2 hS) λ a w M hs hS hle=>DY _ (q.p ⟨M,rfl,hS.drop _ ((List.sublist_cons_self _ _).cons _),hle⟩ a hs)
 have s: ¬((x.op=2/\len b<=x.n)\/(x.op=3/\len b<x.n)):=by omega
 refine A1 U (λ e=>?_) (λ e=>?_)<;>simp only[zb]at e
 ·have h0:=hx (.inl e)
  obtain⟨k,G⟩: ∃k:Nat,x.n=k:=⟨x.n.toNat,Aa⟩
  rw[show JC x i b= .ok (at' b x.n) 0 by unfold JC;rw[if_neg s,if_pos e]]at q
  refine A2 q U U U λ w M' j=>⟨at' hs x.n,M',rfl,trivial,j.le,j.B6 [] U,AD ?_ A3⟩
  have C:B5 M' 11 Tm.cells hs (b.map Tf.flat):=(j.f.get (k:=9) U).more
  have H:=B5.at C h0 Aa
  rw[G,MD (by unfold len at*;omega)]at H
  rw[G]
  exact⟨H,Tm.AS,trivial⟩
 refine A1 U (λ l=>?_) (λ l=>?_)<;>simp only[zb]at l
 ·have h0:=hx (.inr l)
  rw[show JC x i b= .ok (CK (AV 4) [] (b.drop x.n.toNat)) 0 by unfold JC CK;rw[if_neg s,if_neg e,if_pos l,VQ]]at q
  refine C6 2 U <|ET (gd:=none) 12 x.n (len hs) U U U ⟨.i64,_,rfl,AG U⟩ U underlying53 sizeOf25 Aa U λ v12=>?_
  rw[tV hs h0 Aa]
  have y:AB (b.drop x.n.toNat)<=16777216:=Nat.le_trans (Z8 (List.drop_sublist _ _)) F
  exact AP [] (λ h:AI=>.sl 10 h.v) [] (λ h=>[(10,ED h.v (CK (AV 4) [] (b.drop x.n.toNat)).flat)]) U U call146 U U (λ w M hS hF=>L1 (AV 4) (.slice none 0 0) [] v12 (hs.drop x.n.toNat) (b.drop x.n.toNat) hS (Sl.nil M 1) (hF.get (k:=12) U).sl (by have C:B5 M 11 Tm.cells hs (b.map Tf.flat):=(hF.get (k:=9) U).more;rw[List.map_drop];exact B5.drop _ C) y) λ z _=>C6 10 U <|A2 q U U U λ w M' j=>⟨z,M',rfl,trivial,j.le,j.B6 [] U,AD (j.f.get (k:=10) U) A3⟩
 ·rw[show JC x i b= .ok (CK (AV 4) [] b.reverse) 0 by unfold JC CK;rw[if_neg s,if_neg e,if_neg l,VQ]]at q
  have y:AB b.reverse<=16777216:=by rw[VM (List.reverse_perm b)];exact F
  exact AP [2] (λ _:Unit=>.tu []) [] (λ _=>[(2,Go.Proofs.YtnoegalemkbbbaaGreatDoor.EA pu hs.reverse)]) (Fg:=λ _=>[]) (pu:=λ _=>True) (Hg:=λ _=>[NB pu hs.reverse]) U U call182 U U (λ w M hS hF=>Ap6 pu hs hS (by unfold len at*;omega)) λ _ _=>C6 2 U <|AP [] (λ h:AI=>.sl 10 h.v) [] (λ h=>[(10,ED h.v (CK (AV 4) [] b.reverse).flat)]) U U call146 U U (λ w M hS hF=>L1 (AV 4) (.slice none 0 0) [] pu hs.reverse b.reverse hS (Sl.nil M 1) (hF.get (k:=2) U).sl (by have C:B5 M 11 Tm.cells hs (b.map Tf.flat):=(hF.get (k:=9) U).more;rw[List.map_reverse];exact B5.rev C) y) λ z _=>C6 10 U <|A2 q U U U λ w M' j=>⟨z,M',rfl,trivial,j.le,j.B6 [] U,AD (j.f.get (k:=10) U) A3⟩
theorem Ap8{w0 J:World}{M0 M:Mem}{Rs:List HO}(x:Tm)(i:Int)(u:AI)(t:Tf)(hS:St w0 M0 J M Rs)(A:Gl w0)(C:(A6 u.v t.flat).ok M)(K:B8 t=true)(hs:AU t)(N:len x.s<=100)(hz:t.size<=16777216):
   Calls prog 93 [.agg x.cells.toArray,i64 i,u.v].toArray J (JS w0 M0 M Rs (L0 x i t)):=by
 have D:(at' t.flat 0).op=t.t.op:=by rw[t.CU];rfl
 have O:=DS t
 have P:=t.size_pos
 have Q:=t.size_eq
 refine AH (Hr:=Rs) AF func93 U ntmps93 [(1,A6 u.v t.flat)] [] [.ag (E8 x.cells),I i,.sl 1 u.v] U hS (AD C A3) (λ B q=>BM 3 U U U λ L=>?_) U
 refine A1 U (λ j=>?_) (λ j=>?_)<;>simp only[zb]at j<;>rw[D]at j
 ·rw[show L0 x i t= .er i 1 by unfold L0;rw[if_pos j]]at q
  exact EU [] U U call81 U U (λ w M hS hF=>FJ i 1 hS) λ a w M hs hS hle=>DY _ (q.p ⟨M,rfl,hS.drop _ (List.sublist_cons_self _ _),hle⟩ a hs)
 obtain⟨y,e⟩:=B8.one K (.inr Aa)
 have R:(AM t).length=1:=by rw[NA Aa,List.length_map,e];rfl
 obtain⟨k1,k2⟩:=MB K hs
 have E:at' (AM t) 0∈AM t:=NC (k:=0) Aa
 have F:at' ((AM t).map Tf.flat) 0=(at' (AM t) 0).flat:=MD (k:=0) Aa
 have S:=I8 E
 have T:=DS (at' (AM t) 0)
 have V:=V9 x.s
 refine AP [] (λ g:Value×List AI=>.sl 8 g.1) [9] (λ g=>[(8,Go.Proofs.YtnoegalemkbbbaaGreatDoor.EA g.1 g.2)]) U U call143 U U (λ w M hS hF=>SN hS (hF.get (k:=1) U) Aa) λ W G=>?_
 obtain⟨pu,b⟩:=W
 dsimp only at G
 have X:len b=1:=by unfold len;omega
 refine C6 8 U <|DW 8 (C9 pu b ((AM t).map Tf.flat)) (λ w M z=>⟨(z.f.get (k:=8) U).sl,E5,(z.f.get (k:=9) U).more⟩) <|D7 [5,6,10,11] 5 (λ _ _ _ _ _ h=>h) U BK U <|AK 5 U U U <|AP [] (λ u:Value=>.sl 6 u) [6] (λ _=>[]) (Fg:=λ u=>[(1,kn u 3 (BZ x.s).1 Sp.cells)]) (pu:=λ _=>True) U U call80 U U (λ w M hS hF=>fY x.s hS A Aa) λ v6 _=>AE U <|AK 6 U U U <|AP [] (λ _:Unit=>.tu [I (B1 (BZ x.s).1 (at' (AM t) 0)).1,.v (.bool (B1 (BZ x.s).1 (at' (AM t) 0)).2)]) [] (λ _=>[]) (Fg:=λ _=>[]) (pu:=λ _=>True) U U call134 U U (λ w M hS hF=>YT (BZ x.s).1 (at' b 0).v v6 (at' (AM t) 0) hS (by have:=EN (hF.get (k:=8) U) (k:=0) Aa Aa;rw[F]at this;exact this) (hF.get (k:=6) U) Aa Aa) λ _ _=>AE U <|AK 10 U U U <|AE U <|AK 11 U U U <|AE U <|BL U U U <|A1 U (λ n=>?_) (λ n=>?_)
 ·have hl:(B1 (BZ x.s).1 (at' (AM t) 0)).2=false:=by simpa using n
  rw[show L0 x i t= .er i 5 by unfold L0;rw[if_neg Aa,hl];rfl]at q
  exact EU [] U U call81 U U (λ w M hS hF=>FJ i 5 hS) λ a w M hs hS hle=>DY _ (q.p ⟨M,rfl,hS.drop _ (List.sublist_cons_self _ _),hle⟩ a hs)
 have hl:(B1 (BZ x.s).1 (at' (AM t) 0)).2=true:=by simpa using n
 rw[show L0 x i t= .ok (CK { AV (if x.op=12 then 8 else 7)with s:=x.s} [] (AM t)) 0 by unfold L0 CK;rw[if_neg Aa,if_pos hl,VQ]]at q
 refine CQ 0 (λ s=>s=⟨[(8,C9 pu b ((AM t).map Tf.flat))],[(3,.box L (E8 x.cells) 48)],[Z 3 (.bx 3 L 0),Z 7 (.sl 8 pu),Z 10 (I (if x.op=12 then 8 else 7))]⟩) U U (λ l=>?_) (λ l=>?_) ?_<;>try simp only[zb]at l
 ·rw[if_pos l]
  exact AT _ U U U
 ·rw[if_neg l]
  exact AT _ U U U
 rintro s rfl
 exact AP [] (λ h:AI=>.sl 10 h.v) [] (λ h=>[(10,ED h.v (CK { AV (if x.op=12 then 8 else 7)with s:=x.s} [] (AM t)).flat)]) U U call146 U U (λ w M hS hF=>L1 { AV (if x.op=12 then 8 else 7)with s:=x.s} (.slice none 0 0) [] pu b (AM t) hS (Sl.nil M 1) (hF.get (k:=8) U).sl (hF.get (k:=8) U).more Aa) λ H _=>C6 10 U <|A2 q U U U λ w M' z=>⟨H,M',rfl,trivial,z.le,z.B6 [] U,AD (z.f.get (k:=10) U) A3⟩
end Go.Proofs.YtnoegalemkbbbaaGreatDoor
namespace Go.Eng
open Go.RowKit
theorem gS: ∀l:List Tf,CN (l.map λ x=>x.t.name) (l.map (Tf.named []))=l
 |[]=>rfl
 |x::l=>by rw[List.map_cons,List.map_cons,CN,gS l,Tf.AW1,Tf.AW0]
theorem tW: ∀ {ns:List A0} {b:List Tf} {i:Nat} (y:Tf),ns.length=b.length->i<b.length->CN ns (b.set i y)=(CN ns b).set i (y.named (at' ns (i:Int)))
 |[],b,i,y,h,hi=>absurd hi (by rw[<-h];exact Nat.not_lt_zero _)
 |n::ns,k::b,0,y,h,_=>by rw[List.set_cons_zero,CN,CN,List.set_cons_zero];rfl
 |n::ns,k::b,i+1,y,h,hi=>by
  have e:at' (n::ns) ((i+1:Nat):Int)=at' ns (i:Int):=by unfold at';simp
  rw[List.set_cons_succ,CN,CN,List.set_cons_succ,tW y (by simpa using h) (by simpa using hi),e]
theorem tX: ∀ {ns:List A0} {b:List Tf} (i:Nat),ns.length=b.length->CN (ns.eraseIdx i) (b.eraseIdx i)=(CN ns b).eraseIdx i
 |[],[],_,_=>rfl
 |n::ns,k::b,0,h=>by rw[List.eraseIdx_cons_zero,List.eraseIdx_cons_zero,CN,List.eraseIdx_cons_zero]
 |n::ns,k::b,i+1,h=>by rw[List.eraseIdx_cons_succ,List.eraseIdx_cons_succ,CN,CN,List.eraseIdx_cons_succ,tX i (by simpa using h)]
theorem Ap9{ns:List A0}{n:A0}(h:n∈ns):at' ns (BP ns n)=n:=by
 obtain⟨h1,e⟩:=OU h
 obtain⟨j,b⟩:=CE ns (i:=BP ns n) Aa (by unfold len;omega)
 rw[b]
 unfold BP
 simp only[Int.toNat_natCast]
 exact List.getElem_idxOf _
theorem B5.erase {α:Type}{M:Mem}{sz:Nat}{f:α->List Value}: ∀(k:Nat) {hs:List AI} {xs:List (List α)},B5 M sz f hs xs->B5 M sz f (hs.eraseIdx k) (xs.eraseIdx k)
 |_,[],[],h=>h
 |0,_::_,_::_,h=>h.2
 |k+1,_::_,_::_,h=>⟨h.1,B5.erase k h.2⟩
theorem B5.set {α:Type}{M:Mem}{sz:Nat}{f:α->List Value}{h:AI}{x:List α}(hx:Sl M sz x.length h.v (x.flatMap f)): ∀(k:Nat) {hs:List AI} {xs:List (List α)},B5 M sz f hs xs->B5 M sz f (hs.set k h) (xs.set k x)
 |_,[],[],h=>h
 |0,_::_,_::_,h=>⟨hx,h.2⟩
 |k+1,_::_,_::_,h=>⟨h.1,B5.set hx k h.2⟩
theorem Aq0{s:Sp}{t y:Tf}(ho:t.t.op=2)(hm:s.name∈BA t):(CK t.node (BA t) ((AM t).set (BP (BA t) s.name).toNat y)).flat=(Tf.mk t.t (t.ps.set (BP (BA t) s.name).toNat (y.named s.name))).flat:=by
 obtain⟨h1,b⟩:=OU hm
 have hl:(BA t).length=(AM t).length:=OQ t
 have e:CN (BA t) (AM t)=t.ps:=by
  unfold BA;rw[if_neg Aa,NA Aa];exact gS _
 unfold CK
 rw[tW y hl Aa,e,<-b,Ap9 hm]
 rfl
theorem Aq1{s:Sp}{t:Tf}(ho:t.t.op=2):(CK t.node ((BA t).eraseIdx (BP (BA t) s.name).toNat) ((AM t).eraseIdx (BP (BA t) s.name).toNat)).flat=(Tf.mk t.t (t.ps.eraseIdx (BP (BA t) s.name).toNat)).flat:=by
 have hl:(BA t).length=(AM t).length:=OQ t
 have e:CN (BA t) (AM t)=t.ps:=by
  unfold BA;rw[if_neg Aa,NA Aa];exact gS _
 unfold CK
 rw[tX _ hl,e]
 rfl
theorem tY{s:Sp}{t y:Tf}{j:Nat}(ho:t.t.op=2)(hm:s.name∈BA t)(b:j=(BP (BA t) s.name).toNat):(CK t.node (BA t) ((AM t).set j y)).flat=(Tf.mk t.t (t.ps.set j (y.named s.name))).flat:=by subst b;exact Aq0 ho hm
theorem Aq2{s:Sp}{t:Tf}{j:Nat}(ho:t.t.op=2)(b:j=(BP (BA t) s.name).toNat):(CK t.node ((BA t).eraseIdx j) ((AM t).eraseIdx j)).flat=(Tf.mk t.t (t.ps.eraseIdx j)).flat:=by subst b;exact Aq1 ho
theorem tZ{α β:Type}(f:α->β): ∀(l:List α) (i:Nat),(l.eraseIdx i).map f=(l.map f).eraseIdx i
 |[],_=>rfl
 |x::l,0=>rfl
 |x::l,i+1=>by rw[List.eraseIdx_cons_succ,List.map_cons,List.map_cons,List.eraseIdx_cons_succ,tZ f l i]
theorem gT{α:Type}{f:α->Value}: ∀(l:List α) (i:Nat),(l.flatMap λ x=>[f x]).eraseIdx i=(l.eraseIdx i).flatMap λ x=>[f x]
 |[],_=>rfl
 |x::l,0=>by simp
 |x::l,i+1=>by
  have:=gT (f:=f) l i
  rw[List.flatMap_cons,List.singleton_append,List.eraseIdx_cons_succ,List.eraseIdx_cons_succ,List.flatMap_cons,this];rfl
theorem St.u3 {w0 w:World}{M0 M:Mem}{Hs:List HO}{e:TypeId}{sz n:Nat}{v:Value}{xs:List Value}{k:Nat}(h:St w0 M0 w M Hs)(j:Hs[k]? =some (.priv e sz v n xs))(l:0<n): ∃g c,v= .slice (some ⟨g,0,none⟩) n c:=by
 obtain⟨⟨hl,b⟩,i⟩:=h.obj j
 rcases b with⟨b,h0⟩|⟨g,cap,cur,b,_⟩
 ·omega
 ·exact⟨g,cap,b⟩
end Go.Eng
namespace Go.Proofs.YtnoegalemkbbbaaGreatDoor
open Go.Proofs.Tryz
open Go.Eng Go.RowKit
theorem Aq3{w0 b:World}{M0 M:Mem}{Rs:List HO}(u:Value)(ns:List A0){i:Nat}(hS:St w0 M0 b M (SO u ns::Rs))(hi:i<ns.length)(l:ns.length<=1099511627):
  Calls prog 154 [u,.int .i64 i,.int .i64 (i+1)].toArray b (BF w0 M0 M Rs (λ v:Value=>v) (λ _=>True) (λ _=>[]) λ v=>[SO v (ns.eraseIdx i)]):=by
 obtain⟨g,c,rfl⟩:=hS.u3 (k:=0) rfl Aa
 refine(Ap4 hS hi l (λ u hu=>by obtain⟨s,_,h⟩:=List.mem_flatMap.1 hu;exact aA s u h)).mono λ e w' ⟨_,M',h1,w,n,j,y⟩=>⟨_,M',h1,trivial,n,?_,A3⟩
 have q:(ns.flatMap DV).eraseIdx i=(ns.eraseIdx i).flatMap DV:=gT (f:=λ s=>str s) ns i
 have e2:(ns.eraseIdx i).length=ns.length-1:=List.length_eraseIdx_of_lt hi
 rw[q]at j
 unfold SO
 rw[e2]
 exact j
theorem Aq4{w0 b:World}{M0 M:Mem}{Rs:List HO}(u:Value)(hs:List AI){i:Nat}(hS:St w0 M0 b M (NB u hs::Rs))(hi:i<hs.length)(l:hs.length<=1099511627):
  Calls prog 155 [u,.int .i64 i,.int .i64 (i+1)].toArray b (BF w0 M0 M Rs (λ v:Value=>v) (λ _=>True) (λ _=>[]) λ v=>[NB v (hs.eraseIdx i)]):=by
 obtain⟨g,c,rfl⟩:=hS.u3 (k:=0) rfl Aa
 refine(Ap5 hS hi l (λ u hu=>by obtain⟨s,_,h⟩:=List.mem_flatMap.1 hu;exact O7 s u h)).mono λ e w' ⟨_,M',h1,y,q,j,z⟩=>⟨_,M',h1,trivial,q,?_,A3⟩
 have w:(hs.flatMap BX).eraseIdx i=(hs.eraseIdx i).flatMap BX:=gT (f:=λ h:AI=>(.slice h.a h.n h.c:Value)) hs i
 have e2:(hs.eraseIdx i).length=hs.length-1:=List.length_eraseIdx_of_lt hi
 rw[w]at j
 unfold NB
 rw[e2]
 exact j
theorem Aq5: ∀(p:List Sp) {w0 V:World} {M0 M:Mem} {Rs:List HO} (i:Int) (v:Value) (u:AI) (t:Tf),p≠[]->St w0 M0 V M Rs->(kn v 3 p Sp.cells).ok M->(A6 u.v t.flat).ok M->B8 t=true->AU t->t.size<=16777216->len p<=1099511627776->
   Calls prog 96 [v,i64 i,u.v].toArray V (JS w0 M0 M Rs (HW i p t)):=by
 intro p
 induction p with
 |nil=>intro _ _ _ _ _ _ _ _ _ h;exact absurd rfl h
 |cons s p ih=>
  intro w0 V M0 M Rs i v u t _ hS W X ha hs hz hp
  have hto:(at' t.flat 0).op=t.t.op:=by rw[t.CU];rfl
  have htn:(at' t.flat 0).n=t.t.n:=by rw[t.CU];rfl
  have htz:=DS t
  have htp:=t.size_pos
  have hte:=t.size_eq
  have hpl:=A8 p
  have hp1:len (s::p)=len p+1:=by rw[AL]
  have hp0:at' (s::p) 0=s:=rfl
  refine AH (Hr:=Rs) AF func96 U ntmps96 [(0,kn v 3 (s::p) Sp.cells),(1,A6 u.v t.flat)] [] [.sl 0 v,I i,.sl 1 u.v] U hS (AD W (AD X A3)) (λ B C=>?_) U
  refine A1 U (λ J=>?_) (λ J=>?_)<;>simp only[zb]at J<;>rw[hto]at J
  ·rw[show HW i (s::p) t= .er i 1 by unfold HW;rw[if_pos J]]at C
   refine EU [] U U call81 U U (λ w M hS hF=>FJ i 1 hS) λ a w M hs hS hle=>?_
   exact DY _ (C.p ⟨M,rfl,hS.drop _ (List.Sublist.refl _),hle⟩ a hs)
  have ho:t.t.op=2:=by omega
  obtain⟨k1,L⟩:=MB ha hs
  have hkl:=OQ t
  have hkn:((AM t).length:Int)<=AB (AM t):=LZ _
  refine AP [] (λ u:Value=>.sl 5 u) [] (λ u=>[(5,QH u (BA t))]) U U call147 U U (λ w M hS hF=>fZ hS (hF.get (k:=1) U) Aa) λ T _=>?_
  refine AP [] (λ g:Value×List AI=>.sl 8 g.1) [9] (λ g=>[(8,Go.Proofs.YtnoegalemkbbbaaGreatDoor.EA g.1 g.2)]) U U call143 U U (λ w M hS hF=>SN hS (hF.get (k:=1) U) Aa) λ gg hgg=>?_
  obtain⟨pu,b⟩:=gg
  dsimp only at hgg
  refine AJ U call153 U U (λ _ w M q=>by
   have D:=q.st.told (k:=1) U
   exact tP (BA t) s.name T w _ D.sat ⟨D.sl (i:=1) U,DO,trivial⟩) U ?_
  refine A1 U (λ E=>?_) (λ E=>?_)<;>simp only[zb]at E
  ·have hno:s.name ∉ BA t:=λ h=>by
    have D:=(OU h).2
    unfold M9 at E;rw[if_pos h]at E;omega
   rw[show HW i (s::p) t= .er i 2 by rw[HW,if_neg (λ h=>h ho),if_pos hno]]at C
   refine EU [] U U call81 U U (λ w M hS hF=>FJ i 2 hS) λ a w M hs hS hle=>?_
   exact DY _ (C.p ⟨M,rfl,hS.drop _ (((List.Sublist.refl _).cons _).cons _),hle⟩ a hs)
  have e:s.name∈BA t:=Decidable.byContradiction λ h=>E (by unfold M9;rw[if_neg h];decide)
  obtain⟨j1,j2⟩:=OU e
  obtain⟨j,Q⟩: ∃j:Nat,j=(BP (BA t) s.name).toNat:=⟨_,rfl⟩
  have hix:M9 (BA t) s.name=j:=by unfold M9;rw[if_pos e];omega
  have hjj:BP (BA t) s.name=j:=by omega
  rw[<-Q]at j1
  rw[hix]
  have F:j<(AM t).length:=by omega
  have hl8:len b=(AM t).length:=by unfold len;omega
  have z:=NC F
  have hkz:=I8 z
  refine A1 U (λ O=>?_) (λ O=>?_)<;>simp only[zb]at O
  ·have G:p≠[]:=λ h=>by subst h;exact absurd O (by show ¬(1:Int)<1;decide)
   rw[show HW i (s::p) t=(HW i p (at' (AM t) (j:Int))).bind λ y _=>.ok (.mk t.t (t.ps.set j (y.named s.name))) 0 by rw[HW,if_neg (λ h=>h ho),if_neg (λ h=>h e),if_neg G,hjj,Int.toNat_natCast]]at C
   have N:Eng.sub (s::p) 1 (len (s::p))=p:=by rw[tV _ Aa Aa];rfl
   refine D7 [3,8,9,11] 5 (λ _ _ _ _ _ h=>h) U BK U ?_
   refine FZ 3 8 U U U ?_ ?_
   ·refine ET (gd:=none) 12 1 (len (s::p)) U U U ⟨.i64,_,rfl,AG U⟩ U underlying61 sizeOf105 Aa U λ v12=>?_
    rw[N]
    refine AE U ?_
    refine AK 8 U U U ?_
    refine AE U ?_
    refine AK 9 U U U ?_
    refine EC [] [4] (λ _ (h:AI)=>.sl 4 h.v) (λ _ _ _=>[]) C U U call96 U U (((List.Sublist.refl _).cons _).cons _) (λ w M hS hF=>ih i v12 (at' b (j:Int)) (at' (AM t) (j:Int)) G hS (hF.get (k:=12) U) (by
     have D:B5 M 11 Tm.cells b ((AM t).map Tf.flat):=(hF.get (k:=9) U).more
     have R:=B5.at D (k:=(j:Int)) Aa Aa
     rw[MD F]at R
     exact⟨R,Tm.AS,trivial⟩) (L _ z).1 (L _ z).2 Aa Aa) λ y jj hy C h4 _=>?_
    have hyi:=(Z9 hy (L _ z).1 (L _ z).2).1.size
    have C8:=Z7 y F
    refine AE U ?_
    refine AK 11 U U U ?_
    refine I2 h4 U U U sizeOf25 U U U ⟨Aa,by show(j:Int)<len b;omega⟩ λ A l=>?_
    rw[Int.toNat_natCast]at l
    have P:len A=(AM t).length:=by rw[l];unfold len at*;rw[List.length_set];omega
    have S:A.length=(AM t).length:=by unfold len at P;omega
    refine DW 9 (FP A (((AM t).set j y).map Tf.flat)) (λ w M q=>⟨Sl.nil M 1,DO,by
     have D:B5 M 11 Tm.cells b ((AM t).map Tf.flat):=(q.f.get (k:=9) U).more
     rw[l,List.map_set]
     exact B5.set (q.sl 4 U) j D⟩) ?_
    refine AE U ?_
    refine BL U U U ?_
    refine C6 5 U ?_
    refine C6 8 U ?_
    refine AP [] (λ h:AI=>.sl 10 h.v) [] (λ h=>[(10,ED h.v (CK t.node (BA t) ((AM t).set j y)).flat)]) U U call146 U U (hu:=λ _=>rfl) (hH:=λ _=>rfl) (λ w M hS hF=>by
     have:=L1 t.node T (BA t) pu A ((AM t).set j y) hS (hF.get (k:=5) U).sl (hF.get (k:=8) U).sl (hF.get (k:=9) U).more Aa
     rw[<-t.CU]at this ⊢
     exact this) λ H _=>?_
    refine C6 10 U ?_
    refine A2 C U U U λ w M' q=>⟨H,M',rfl,trivial,q.le,q.B6 [] U,AD ?_ A3⟩
    rw[<-tY ho e Q]
    exact q.f.get (k:=10) U
   ·refine AE U ?_
    refine AK 3 U U U ?_
    refine ET (gd:=none) 12 1 (len (s::p)) U U U ⟨.i64,_,rfl,AG U⟩ U underlying61 sizeOf105 Aa U λ v12=>?_
    rw[N]
    refine AE U ?_
    refine AK 9 U U U ?_
    refine EC [] [4] (λ _ (h:AI)=>.sl 4 h.v) (λ _ _ _=>[]) C U U call96 U U (((List.Sublist.refl _).cons _).cons _) (λ w M hS hF=>ih i v12 (at' b (j:Int)) (at' (AM t) (j:Int)) G hS (hF.get (k:=12) U) (by
     have D:B5 M 11 Tm.cells b ((AM t).map Tf.flat):=(hF.get (k:=9) U).more
     have R:=B5.at D (k:=(j:Int)) Aa Aa
     rw[MD F]at R
     exact⟨R,Tm.AS,trivial⟩) (L _ z).1 (L _ z).2 Aa Aa) λ y jj hy C h4 _=>?_
    have hyi:=(Z9 hy (L _ z).1 (L _ z).2).1.size
    have C8:=Z7 y F
    refine AE U ?_
    refine AK 11 U U U ?_
    refine I2 h4 U U U sizeOf25 U U U ⟨Aa,by show(j:Int)<len b;omega⟩ λ A l=>?_
    rw[Int.toNat_natCast]at l
    have P:len A=(AM t).length:=by rw[l];unfold len at*;rw[List.length_set];omega
    have S:A.length=(AM t).length:=by unfold len at P;omega
    refine DW 9 (FP A (((AM t).set j y).map Tf.flat)) (λ w M q=>⟨Sl.nil M 1,DO,by
     have D:B5 M 11 Tm.cells b ((AM t).map Tf.flat):=(q.f.get (k:=9) U).more
     rw[l,List.map_set]
     exact B5.set (q.sl 4 U) j D⟩) ?_
    refine AE U ?_
    refine BL U U U ?_
    refine C6 5 U ?_
    refine C6 8 U ?_
    refine AP [] (λ h:AI=>.sl 10 h.v) [] (λ h=>[(10,ED h.v (CK t.node (BA t) ((AM t).set j y)).flat)]) U U call146 U U (hu:=λ _=>rfl) (hH:=λ _=>rfl) (λ w M hS hF=>by
     have:=L1 t.node T (BA t) pu A ((AM t).set j y) hS (hF.get (k:=5) U).sl (hF.get (k:=8) U).sl (hF.get (k:=9) U).more Aa
     rw[<-t.CU]at this ⊢
     exact this) λ H _=>?_
    refine C6 10 U ?_
    refine A2 C U U U λ w M' q=>⟨H,M',rfl,trivial,q.le,q.B6 [] U,AD ?_ A3⟩
    rw[<-tY ho e Q]
    exact q.f.get (k:=10) U
  have G:p=[]:=List.eq_nil_of_length_eq_zero (by unfold len at*;omega)
  subst G
  refine A1 U (λ K=>?_) (λ K=>?_)<;>simp only[zb]at K<;>rw[htn]at K
  ·rw[show HW i [s] t= .er i 1 by rw[HW,if_neg (λ h=>h ho),if_neg (λ h=>h e),if_pos U,if_pos K]]at C
   refine EU [] U U call81 U U (λ w M hS hF=>FJ i 1 hS) λ a w M hs hS hle=>?_
   exact DY _ (C.p ⟨M,rfl,hS.drop _ (((List.Sublist.refl _).cons _).cons _),hle⟩ a hs)
  ·rw[show HW i [s] t= .ok (.mk t.t (t.ps.eraseIdx j)) 0 by rw[HW,if_neg (λ h=>h ho),if_neg (λ h=>h e),if_pos U,if_neg Aa,<-Q]]at C
   refine AP [5] (λ u:Value=>.sl 15 u) [] (λ u=>[(15,QH u ((BA t).eraseIdx j))]) (Fg:=λ _=>[]) (pu:=λ _=>True) (Hg:=λ g=>[SO g ((BA t).eraseIdx j)]) U U call154 U U (λ w M hS hF=>Aq3 T (BA t) hS j1 Aa) λ nu2 _=>?_
   refine AP [8] (λ u:Value=>.sl 18 u) [] (λ u=>[(18,Go.Proofs.YtnoegalemkbbbaaGreatDoor.EA u (b.eraseIdx j))]) (Fg:=λ _=>[]) (pu:=λ _=>True) (Hg:=λ g=>[NB g (b.eraseIdx j)]) U U call155 U U (λ w M hS hF=>Aq4 pu b hS Aa Aa) λ pu2 _=>?_
   refine C6 15 U ?_
   refine DW 9 (FP (b.eraseIdx j) (((AM t).eraseIdx j).map Tf.flat)) (λ w M q=>⟨Sl.nil M 1,DO,by have D:B5 M 11 Tm.cells b ((AM t).map Tf.flat):=(q.f.get (k:=9) U).more;rw[tZ];exact B5.erase j D⟩) ?_
   refine C6 18 U ?_
   refine AP [] (λ h:AI=>.sl 10 h.v) [] (λ h=>[(10,ED h.v (CK t.node ((BA t).eraseIdx j) ((AM t).eraseIdx j)).flat)]) U U call146 U U (hu:=λ _=>rfl) (hH:=λ _=>rfl) (λ w M hS hF=>by
    have:=L1 t.node nu2 ((BA t).eraseIdx j) pu2 (b.eraseIdx j) ((AM t).eraseIdx j) hS (hF.get (k:=15) U).sl (hF.get (k:=18) U).sl (hF.get (k:=9) U).more (Nat.le_trans (Z8 (List.eraseIdx_sublist _ _)) Aa)
    rw[<-t.CU]at this ⊢
    exact this) λ H _=>?_
   refine C6 10 U ?_
   refine A2 C U U U λ w M' q=>⟨H,M',rfl,trivial,q.le,q.B6 [] U,AD ?_ A3⟩
   rw[<-Aq2 (s:=s) ho Q]
   exact q.f.get (k:=10) U
theorem Aq6{w0 Q:World}{M0 M:Mem}{Rs:List HO}(x:Tm)(i:Int)(u:AI)(t:Tf)(hS:St w0 M0 Q M Rs)(V:Gl w0)(L:(A6 u.v t.flat).ok M)(W:B8 t=true)(hs:AU t)(hx:x.op=2\/x.op=3->0<=x.n)(hz:t.size<=16777216):
    Calls prog 97 [.agg x.cells.toArray,i64 i,u.v].toArray Q (JS w0 M0 M Rs (JR x i t)):=by
 have D:(at' t.flat 0).op=t.t.op:=by rw[t.CU];rfl
 have X:=DS t
 have htp:=t.size_pos
 have hte:=t.size_eq
 obtain⟨k1,k2⟩:=MB W hs
 have hkn:((AM t).length:Int)<=AB (AM t):=LZ _
 have hnl:=OQ t
 refine AH (Hr:=Rs) AF func97 U ntmps97 [(1,A6 u.v t.flat)] [] [.ag (E8 x.cells),I i,.sl 1 u.v] U hS (AD L A3) (λ B z=>BM 3 U U U λ R=>AP [] (λ g:Value×List AI=>.sl 8 g.1) [9] (λ g=>[(8,Go.Proofs.YtnoegalemkbbbaaGreatDoor.EA g.1 g.2)]) U U call143 U U (λ w M hS hF=>SN hS (hF.get (k:=1) U) Aa) λ gg N=>?_) U
 obtain⟨pu,C⟩:=gg
 dsimp only at N
 have hl8:len C=(AM t).length:=by unfold len;omega
 refine A1 U (λ E=>?_) (λ E=>?_)<;>simp only[zb]at E
 ·refine A1 U (λ q=>?_) (λ q=>?_)<;>simp only[zb]at q<;>rw[D]at q
  ·have F:JR x i t=if x.s∈BA t then .ok (at' (AM t) (BP (BA t) x.s)) 0 else .er i 2:=by unfold JR;rw[if_pos E,if_pos q]
   refine D7 [1,4,5] 4 (λ _ _ _ _ _ h=>h) U BK U <|AK 1 U U U <|AP [] (λ u:Value=>.sl 5 u) [] (λ u=>[(5,QH u (BA t))]) U U call147 U U (λ w M hS hF=>fZ hS (hF.get (k:=1) U) Aa) λ nu _=>C6 5 U <|AE U <|AK 4 U U U <|AJ U call153 U U (λ _ w M A=>tP (BA t) x.s nu w M A.st.sat (A.f.get (k:=5) U)) U <|AE U <|AK 5 U U U <|AE U <|BL U U U ?_
   by_cases hm:x.s∈BA t
   ·obtain⟨j1,j2⟩:=OU hm
    obtain⟨j,hj⟩: ∃j:Nat,j=(BP (BA t) x.s).toNat:=⟨_,rfl⟩
    have O:M9 (BA t) x.s=j:=by unfold M9;rw[if_pos hm];omega
    rw[F,if_pos hm,j2,<-hj]at z
    have P:j<(AM t).length:=by omega
    rw[O]
    refine A1 U (λ e=>?_) (λ e=>?_)<;>simp only[zb]at e
    ·refine A2 z U U (hO:=by and_intros<;>first|omega|(show(j:Int)<len C;omega)) U λ w M' A=>⟨at' C (j:Int),M',rfl,trivial,A.le,A.B6 [] U,AD ?_ A3⟩
     have h2:B5 M' 11 Tm.cells C ((AM t).map Tf.flat):=(A.f.get (k:=9) U).more
     have S:=B5.at h2 (k:=(j:Int)) Aa Aa
     rw[MD P]at S
     exact⟨S,Tm.AS,trivial⟩
    ·omega
   ·rw[F,if_neg hm]at z
    rw[tO hm]
    refine A1 U (λ e=>?_) (λ e=>?_)<;>simp only[zb]at e
    ·omega
    refine A1 U (λ l=>?_) (λ l=>?_)<;>simp only[zb]at l<;>rw[D]at l
    ·exact EU [] U U call81 U U (λ w M hS hF=>FJ i 2 hS) λ a w M hs hS hle=>DY _ (z.p ⟨M,rfl,hS.drop _ (((List.Sublist.refl _).cons _).cons _),hle⟩ a hs)
    ·omega
  ·rw[show JR x i t= .er i 1 by unfold JR;rw[if_pos E,if_neg q]]at z
   refine A1 U (λ e=>?_) (λ e=>?_)<;>simp only[zb]at e
   ·omega
   refine A1 U (λ l=>?_) (λ l=>?_)<;>simp only[zb]at l<;>rw[D]at l
   ·omega
   ·exact EU [] U U call81 U U (λ w M hS hF=>FJ i 1 hS) λ a w M hs hS hle=>DY _ (z.p ⟨M,rfl,hS.drop _ (((List.Sublist.refl _).cons _).cons _),hle⟩ a hs)
 refine CQ 0 (λ s=> ∃b:Bool,(b=true↔x.op=2\/x.op=3\/x.op=14)/\s=⟨[(1,A6 u.v t.flat),(9,FP C ((AM t).map Tf.flat))],[(8,Go.Proofs.YtnoegalemkbbbaaGreatDoor.EA pu C),(3,.box R (E8 x.cells) 48)],[Z 1 (I i),Z 2 (.sl 1 u.v),Z 3 (.bx 3 R 0),Z 7 (.sl 8 pu),Z 8 (I (at' t.flat 0).op),Z 17 (I x.op),Z 39 (.v (.bool b))]⟩) U U (λ q=>?_) (λ q=>?_) ?_<;>try simp only[zb]at q
 ·exact AT _ U U ⟨_,by simp[q],rfl⟩
 ·refine A1 U (λ e=>?_) (λ e=>?_)<;>simp only[zb]at e
  ·exact AT _ U U ⟨_,by simp[e],rfl⟩
  ·exact AT _ U U ⟨_,by simp[e,q],rfl⟩
 rintro s ⟨b,T,rfl⟩
 refine A1 U (λ q=>?_) (λ q=>?_)
 ·have H:=T.1 q
  have F:JR x i t=if t.t.op=4 then JC x i (AM t)else if t.t.op=5/\x.op≠2 then .ok t 0 else .er i 1:=by unfold JR;rw[if_neg E,if_pos H]
  refine A1 U (λ e=>?_) (λ e=>?_)<;>simp only[zb]at e<;>rw[D]at e
  ·rw[F,if_pos e,<-PR.ret (JC x i (AM t))]at z
   exact EC [8] [4] (λ _ (h:AI)=>.sl 4 h.v) (λ _ _ _=>[]) z U U call156 U U (List.sublist_cons_self _ _) (λ w M hS hF=>Ap7 x i pu C (AM t) hS (hF.get (k:=9) U).more Aa Aa) λ y jj hy z h4 _=>A2 z U U U λ w M' A=>⟨h4,M',rfl,trivial,A.le,A.B6 [] U,AD (A.f.get (k:=4) U) A3⟩
  refine A1 U (λ l=>?_) (λ l=>?_)<;>simp only[zb]at l<;>rw[D]at l
  ·rw[F,if_neg e,if_pos l]at z
   exact A2 z U U U λ w M' A=>⟨u,M',rfl,trivial,A.le,A.B6 [] U,AD (A.f.get (k:=1) U) A3⟩
  ·rw[F,if_neg e,if_neg Aa]at z
   exact EU [] U U call81 U U (λ w M hS hF=>FJ i 1 hS) λ a w M hs hS hle=>DY _ (z.p ⟨M,rfl,hS.drop _ (((List.Sublist.refl _).cons _).cons _),hle⟩ a hs)
 have H: ¬(x.op=2\/x.op=3\/x.op=14):=λ h=>by have:=T.2 h;rw[q]at this;cases this
 have F:JR x i t=if x.op=10 then(if t.t.op=3 then .ok (.mk (AV 6) (AM t)) 0 else .er i 1)else if x.op=11 then(if t.t.op=6 then .ok (.mk (AV 3) (AM t)) 0 else .er i 1)else .er i 1:=by unfold JR;rw[if_neg E,if_neg H]
 have K: ∀o,(Tf.mk (AV o) (AM t))=CK (AV o) [] (AM t):=λ o=>by unfold CK;rw[VQ]
 rw[K,K]at F
 refine A1 U (λ e=>?_) (λ e=>?_)<;>simp only[zb]at e
 ·refine A1 U (λ l=>?_) (λ l=>?_)<;>simp only[zb]at l<;>rw[D]at l
  ·rw[F,if_pos e,if_pos l]at z
   exact C6 8 U <|AP [] (λ h:AI=>.sl 10 h.v) [] (λ h=>[(10,ED h.v (CK (AV 6) [] (AM t)).flat)]) U U call146 U U (λ w M hS hF=>L1 (AV 6) (.slice none 0 0) [] pu C (AM t) hS (Sl.nil M 1) (hF.get (k:=8) U).sl (hF.get (k:=9) U).more Aa) λ J _=>C6 10 U <|A2 z U U U λ w M' A=>⟨J,M',rfl,trivial,A.le,A.B6 [] U,AD (A.f.get (k:=10) U) A3⟩
  ·rw[F,if_pos e,if_neg l]at z
   exact EU [] U U call81 U U (λ w M hS hF=>FJ i 1 hS) λ a w M hs hS hle=>DY _ (z.p ⟨M,rfl,hS.drop _ (((List.Sublist.refl _).cons _).cons _),hle⟩ a hs)
 refine A1 U (λ l=>?_) (λ l=>?_)<;>simp only[zb]at l
 ·refine A1 U (λ G=>?_) (λ G=>?_)<;>simp only[zb]at G<;>rw[D]at G
  ·rw[F,if_neg e,if_pos l,if_pos G]at z
   exact C6 8 U <|AP [] (λ h:AI=>.sl 10 h.v) [] (λ h=>[(10,ED h.v (CK (AV 3) [] (AM t)).flat)]) U U call146 U U (λ w M hS hF=>L1 (AV 3) (.slice none 0 0) [] pu C (AM t) hS (Sl.nil M 1) (hF.get (k:=8) U).sl (hF.get (k:=9) U).more Aa) λ J _=>C6 10 U <|A2 z U U U λ w M' A=>⟨J,M',rfl,trivial,A.le,A.B6 [] U,AD (A.f.get (k:=10) U) A3⟩
  ·rw[F,if_neg e,if_pos l,if_neg G]at z
   exact EU [] U U call81 U U (λ w M hS hF=>FJ i 1 hS) λ a w M hs hS hle=>DY _ (z.p ⟨M,rfl,hS.drop _ (((List.Sublist.refl _).cons _).cons _),hle⟩ a hs)
 ·rw[F,if_neg e,if_neg l]at z
  exact EU [] U U call81 U U (λ w M hS hF=>FJ i 1 hS) λ a w M hs hS hle=>DY _ (z.p ⟨M,rfl,hS.drop _ (((List.Sublist.refl _).cons _).cons _),hle⟩ a hs)
end Go.Proofs.YtnoegalemkbbbaaGreatDoor
namespace Go.Eng
open Go.RowKit
abbrev SY(hs:List AI)(qs:List (List Sp)):Kn:=⟨.slice none 0 0,1,([]:List A0),DV,λ M=>B5 M 3 Sp.cells hs qs,λ _ _ hm h=>B5.mono hm h⟩
theorem Aq7(n:A0)(x:Tf):D2 (x.named n).flat=D2 x.flat:=by
 cases x with|mk t ps=>
 show D2 ({ t with name:=n,many:=len ps}::AN ps)=D2 ({ t with many:=len ps}::AN ps)
 cases AN ps<;>rfl
theorem Aq8{x:Tf}(h:x.B3)(hs:JP x.node=true):x.ps=[]:=by
 have hm:len x.ps=0:=by
  unfold JP at hs
  simp only[Bool.or_eq_true,decide_eq_true_eq]at hs
  have hp:=h.plain
  unfold DH at hp
  rcases hs with hs|hs
  ·rw[if_neg Aa,if_pos hs]at hp
   simp only[Bool.and_eq_true,decide_eq_true_eq]at hp
   exact hp.1.2
  ·exact(gG h.plain (.inl hs)).1
 exact List.eq_nil_of_length_eq_zero (by unfold len at hm;omega)
theorem Aq9: ∀(n:Nat) (x:Tf),x.size<=n->x.B3->M7 x.flat=true:=by
 intro n
 induction n with
 |zero=>intro x h;have:=x.size_pos;omega
 |succ n j=>
  intro x s hg
  have hs:=x.size_eq
  by_cases h4:x.t.op=4
  ·obtain⟨a,b,e⟩:=hg.two (.inl h4)
   rw[e,AB,AB,AB]at hs
   have k:a.B3:=hg.kids a (by rw[e];simp)
   have l:b.B3:=hg.kids b (by rw[e];simp)
   have q:x.flat=x.node::a.node::(AN a.ps++b.flat):=by rw[Tf.G1,e];show _::(a.flat++(b.flat++[]))=_;rw[List.append_nil,Tf.G1 a];rfl
   rw[q]
   by_cases hst:JP a.node=true
   ·have:=Aq8 k hst
    rw[this]
    show M7 (_::_::b.flat)=true
    have i:=j b Aa l
    unfold M7
    rw[i,Bool.or_true]
   ·unfold M7
    have:JP a.node=false:=by simpa using hst
    rw[this];simp
  ·have ho:x.node.op≠4:=h4
   rw[Tf.G1]
   cases AN x.ps with
   |nil=>show(x.node.op != 4)=true;simpa using ho
   |cons y r=>unfold M7;simp[ho]
end Go.Eng
namespace Go.Proofs.YtnoegalemkbbbaaGreatDoor
open Go.Proofs.Tryz
open Go.Eng Go.RowKit
abbrev SZ(b:Nat)(pv:Value):HO:=.box b [pv] 61
abbrev T0(b:Nat):Value:=.func (.func 149) #[] #[.pointer (some ⟨b,0,none⟩)]
theorem Ar0{w0 i:World}{M0 M:Mem}{Rs:List HO}(b:Nat)(pv h:Value)(p q:List Sp)(hS:St w0 M0 i M (SZ b pv::Rs))(hp:(kn pv 3 p Sp.cells).ok M)(j:(kn h 3 q Sp.cells).ok M):
  Calls prog 149 [h,.pointer (some ⟨b,0,none⟩)].toArray i (BF w0 M0 M Rs (λ _:Unit=>.bool (!ID p q)) (λ _=>True) (λ _=>[]) λ _=>[SZ b pv]):=AH (Hr:=Rs) AF func149 U ntmps149 [(1,kn pv 3 p Sp.cells),(0,kn h 3 q Sp.cells)] [(0,.box b [.sl 1 pv] 61)] [.sl 0 h,.bx 0 b 0] U hS (AD hp (AD j A3)) (λ B l=>AJ U call150 U U (λ _ w M e=>Ao5 p q pv h w M e.st.sat (e.f.get (k:=1) U) (e.f.get (k:=0) U)) U <|A2 l U U U λ w M' e=>⟨(),M',rfl,trivial,e.le,e.st,A3⟩) U
theorem Ar1{M:Mem}{hs:List AI}{b:List (List Sp)}(h:B5 M 3 Sp.cells hs b){k:Int}(h0:0<=k)(h1:k<len hs):(kn (at' hs k).v 3 (at' b k) Sp.cells).ok M:=⟨B5.at h h0 h1,λ _=>rfl,trivial⟩
theorem Ar2{w0 y:World}{M0 M:Mem}{Rs:List HO}(b:Nat)(pv v:Value)(p:List Sp)(hs:List AI)(i:List (List Sp))(hS:St w0 M0 y M (SZ b pv::Rs))(hp:(kn pv 3 p Sp.cells).ok M)(hl:(kn v 1 hs BX).ok M)(z:B5 M 3 Sp.cells hs i)(E:len hs<=1099511627776):
    Calls prog 178 [v,T0 b].toArray y (BF w0 M0 M Rs (λ k:Int=>i64 k) (λ k=>0<=k↔(i.any λ q=> !ID p q)=true) (λ _=>[]) λ _=>[SZ b pv]):=by
 have hlen:len hs=len i:=by have:=B5.len z;unfold len;omega
 have C:=A8 i
 refine AH (Hr:=Rs) AF func178 U ntmps178 [(0,kn v 1 hs BX),(1,kn pv 3 p Sp.cells),(2,SY hs i)] [(0,.box b [.sl 1 pv] 61)] [.sl 0 v,.v (T0 b)] U hS (AD hl (AD hp (AD ⟨Sl.nil M 1,DO,z⟩ A3))) (λ B A=>B7 (σ:=Int) (λ k=>⟨[(0,kn v 1 hs BX),(1,kn pv 3 p Sp.cells),(2,SY hs i)],[(0,.box b [.sl 1 pv] 61)],[Z 0 (.sl 0 v),Z 1 (.v (T0 b)),Z 7 (I (len hs)),Z 8 (I k)]⟩) (λ k=>0<=k/\k<=len hs/\ ∀a∈Eng.sub i 0 k,¬(!ID p a)=true) (λ k=>(len hs-k).toNat) 0 rfl rfl ⟨Aa,Aa,λ x hx=>by cases hx⟩ ?_) U
 intro k ⟨h0,h1,j⟩
 refine A1 U (λ l=>?_) (λ l=>?_)<;>simp only[zb]at l
 ·refine AP [0] (λ _:Unit=>.v (.bool (!ID p (at' i k)))) [] (λ _=>[(0,.box b [.sl 1 pv] 61)]) (Fg:=λ _=>[]) (pu:=λ _=>True) U U call149 U U (λ w M hS hF=>Ar0 b pv (at' hs k).v p (at' i k) hS (hF.get (k:=1) U) (Ar1 (hF.get (k:=2) U).more h0 l)) λ _ _=>A1 U (λ n=>?_) (λ n=>?_)
  ·exact A2 A U U U λ w M' s=>⟨k,M',rfl,⟨λ _=>List.any_eq_true.2 ⟨at' i k,at_mem h0 Aa,n⟩,λ _=>h0⟩,s.le,s.st,A3⟩
  ·exact AX (k+1) U U ⟨Aa,Aa,λ a e=>by
    rw[G0 h0 Aa]at e
    rcases List.mem_append.1 e with e|e
    ·exact j a e
    ·rw[List.mem_singleton.1 e,n];decide⟩ Ag
 ·rw[GD Aa]at j
  exact A2 A U U U λ w M' s=>⟨-1,M',rfl,⟨λ h=>by omega,λ h=>by
   obtain⟨a,e,D⟩:=List.any_eq_true.1 h
   exact absurd D (j a e)⟩,s.le,s.st,A3⟩
theorem Ar3{w0 l:World}{M0 M:Mem}{Rs:List HO}(b:Nat)(pv v:Value)(p:List Sp)(hs:List AI)(i:List (List Sp))(hS:St w0 M0 l M (SZ b pv::Rs))(hp:(kn pv 3 p Sp.cells).ok M)(hl:(kn v 1 hs BX).ok M)(s:B5 M 3 Sp.cells hs i)(y:len hs<=1099511627776):
    Calls prog 148 [v,T0 b].toArray l (BF w0 M0 M Rs (λ _:Unit=>.bool (i.any λ q=> !ID p q)) (λ _=>True) (λ _=>[]) λ _=>[SZ b pv]):=by
 refine AH (Hr:=Rs) AF func148 U ntmps148 [(0,kn v 1 hs BX),(1,kn pv 3 p Sp.cells),(2,SY hs i)] [(0,.box b [.sl 1 pv] 61)] [.sl 0 v,.v (T0 b)] U hS (AD hl (AD hp (AD ⟨Sl.nil M 1,DO,s⟩ A3))) (λ B z=>AP [0] (λ k:Int=>I k) [] (λ _=>[(0,.box b [.sl 1 pv] 61)]) (Fg:=λ _=>[]) (pu:=λ k=>0<=k↔(i.any λ q=> !ID p q)=true) U U call178 U U (λ w M hS hF=>Ar2 b pv v p hs i hS (hF.get (k:=1) U) (hF.get (k:=0) U) (hF.get (k:=2) U).more y) λ k j=>?_) U
 exact A2 z U U U λ w M' n=>⟨(),M',by
  have e:decide (0<=k)=(i.any λ q=> !ID p q):=by
   by_cases h:0<=k
   · rw[j.1 h];simpa using h
   · rw[show(i.any λ q=> !ID p q)=false from by rw[<-Bool.not_eq_true];exact λ q=>h (j.2 q)];simpa using h
  rw[<-e];rfl,trivial,n.le,n.st,A3⟩
end Go.Proofs.YtnoegalemkbbbaaGreatDoor
