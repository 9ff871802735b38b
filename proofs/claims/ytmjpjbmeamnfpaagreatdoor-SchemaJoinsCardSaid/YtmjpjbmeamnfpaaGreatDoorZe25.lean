/-
  Parts Stab Lx NumB Back, put together and made short by wip/py/merge.py (mini.py).
-/
import Derived.Test.YtmjpjbmeamnfpaaGreatDoorZe14
import Derived.Test.YtmjpjbmeamnfpaaGreatDoorZe15
import Derived.Lib.SlTrimSet
import Derived.Test.YtmjpjbmeamnfpaaGreatDoorZe17
import Derived.Lib.Join
import Derived.Test.YtmjpjbmeamnfpaaGreatDoorZe0
set_option linter.unusedVariables false
set_option linter.unusedSimpArgs false
namespace Go.Eng
open Go.RowKit
theorem KT{u v:A1}{j:Int}(h0:0<=j)(h:j<len u):A2 (u++v) j=A2 u j:=by
 unfold len at h
 unfold A2
 rw[List.getD_eq_getElem?_getD,List.getD_eq_getElem?_getD,List.getElem?_append_left (by omega)]
theorem ZM{u v:A1}{k:Int}(h0:0<=k):A2 (u++v) (len u+k)=A2 v k:=by
 unfold A2 len
 rw[List.getD_eq_getElem?_getD,List.getD_eq_getElem?_getD,List.getElem?_append_right (by omega),show((u.length:Int)+k).toNat-u.length=k.toNat from by omega]
theorem yV{u v:A1}{k:Int}(h0:len u<=k):A2 (u++v) k=A2 v (k-len u):=by
 have:=ZM (u:=u) (v:=v) (k:=k-len u) (by omega)
 rw[<-this];congr 1;omega
theorem FN(a:UInt8)(l:A1):A2 (a::l) 0=(a.toNat:Int):=rfl
theorem yW(k:Int):A2 [] k=0:=by unfold A2;simp
theorem ZN{u v:A1}:A3 (u++v) (len u)=v:=by unfold A3 len;simp
theorem jO{u v:A1}{k:Int}(h0:0<=k)(h:k<=len u):A3 (u++v) k=A3 u k++v:=by
 unfold A3 len at*
 rw[List.drop_append_of_le_length (by omega)]
theorem N7{α:Type}(s:List α):A3 s 0=s:=rfl
theorem UZ{u v:A1}:Eng.sub (u++v) 0 (len u)=u:=by unfold Eng.sub len;simp
theorem yX{s:A1}{n:Int}(h0:0<=n)(h1:n<=len s):s=Eng.sub s 0 n++A3 s n/\len (Eng.sub s 0 n)=n:=by
 refine⟨?_,by rw[FX (by omega) h0 h1];omega⟩
 have:=YL s 0 n (by omega) h0
 rw[N7]at this;exact this
theorem yY{a b:A1}(hl:len a=len b)(h: ∀j:Int,0<=j->j<len a->A2 a j=A2 b j):a=b:=by
 unfold len at hl
 refine List.ext_getElem (by omega) λ i h1 h2=>?_
 have:=h (i:Int) (by omega) (by unfold len;omega)
 simp only[A2,Int.toNat_natCast,List.getD_eq_getElem?_getD,List.getElem?_eq_getElem h1,List.getElem?_eq_getElem h2,Option.getD_some]at this
 exact UInt8.toNat_inj.1 (by omega)
theorem yZ{s s':A1}{i i' k:Int}(h0:0<=i)(h0':0<=i')(hk:0<=k)(h1:i+k<=len s)(h2:i'+k<=len s')(h: ∀j,0<=j->j<k->A2 s' (i'+j)=A2 s (i+j)):Eng.sub s' i' (i'+k)=Eng.sub s i (i+k):=by
 have l1:=FX (s:=s) (i:=i) (j:=i+k) h0 (by omega) h1
 have l2:=FX (s:=s') (i:=i') (j:=i'+k) h0' (by omega) h2
 refine yY (by omega) λ j a b=>?_
 rw[P3 h0' a (by omega) h2,P3 h0 a (by omega) h1]
 exact h j a (by omega)
theorem ZO{s s':A1}{i i':Int}(h0:0<=i)(h0':0<=i')(h1:1<=rune s i)(hl:i<len s)(hl':i'+rune s i<=len s')(h: ∀j,0<=j->j<rune s i->A2 s' (i'+j)=A2 s (i+j)):
  rune s' i'=rune s i/\AQ s' i'=AQ s i/\runeLen s' i'=runeLen s i:=by
 have hb:=SS s i
 have hle:=rune_le s i hl
 have a0:A2 s' i'=A2 s i:=by have:=h 0 (by omega) (by omega);rwa [Int.add_zero,Int.add_zero]at this
 have a1:2<=rune s i->A2 s' (i'+1)=A2 s (i+1):=λ x=>h 1 (by omega) (by omega)
 have a2:3<=rune s i->A2 s' (i'+2)=A2 s (i+2):=λ x=>h 2 (by omega) (by omega)
 have a3:4<=rune s i->A2 s' (i'+3)=A2 s (i+3):=λ x=>h 3 (by omega) (by omega)
 have er:rune s' i'=rune s i:=by
  clear h
  generalize hk:rune s i=k at*
  unfold rune cont at hk ⊢
  dsimp only at hk ⊢
  rw[a0]
  simp only[Bool.and_eq_true,Bool.or_eq_true,decide_eq_true_eq,beq_iff_eq]at hk ⊢
  split at hk
  ·rw[if_pos (by assumption)];exact hk
  rename_i c0
  rw[if_neg c0]
  split at hk
  ·rename_i c1
   subst hk
   have:=a1 (by omega)
   rw[if_pos (by omega)]
  rename_i c1
  split at hk
  ·rename_i c2
   have hk3:k=3:=by split at hk<;>omega
   have e1:=a1 (by omega)
   have e2:=a2 (by omega)
   rw[if_neg (by omega),if_pos (by omega),e1]
   exact hk
  rename_i c2
  split at hk
  ·rename_i c3
   have hk4:k=4:=by split at hk<;>omega
   have e1:=a1 (by omega)
   have e2:=a2 (by omega)
   have e3:=a3 (by omega)
   rw[if_neg (by omega),if_neg (by omega),if_pos (by omega),e1]
   exact hk
  ·omega
 refine⟨er,?_⟩
 have hl2:i'<len s':=by omega
 have D:=XY (s.length-i.toNat) (s.getD i.toNat 0).toNat (s.getD (i.toNat+1) 0).toNat (s.getD (i.toNat+2) 0).toNat (s.getD (i.toNat+3) 0).toNat (by unfold len at*;omega) (UInt8.toNat_lt _) (UInt8.toNat_lt _) (UInt8.toNat_lt _) (UInt8.toNat_lt _)
 have D':=XY (s'.length-i'.toNat) (s'.getD i'.toNat 0).toNat (s'.getD (i'.toNat+1) 0).toNat (s'.getD (i'.toNat+2) 0).toNat (s'.getD (i'.toNat+3) 0).toNat (by unfold len at*;omega) (UInt8.toNat_lt _) (UInt8.toNat_lt _) (UInt8.toNat_lt _) (UInt8.toNat_lt _)
 have r1:=XZ h0 hl
 have r2:=XZ h0' hl2
 have q: ∀(t:A1) (x:Int),0<=x->AQ t x=((Lib.decodeN (t.length-x.toNat) (t.getD x.toNat 0).toNat (t.getD (x.toNat+1) 0).toNat (t.getD (x.toNat+2) 0).toNat (t.getD (x.toNat+3) 0).toNat).1:Nat)/\runeLen t x=((Lib.decodeN (t.length-x.toNat) (t.getD x.toNat 0).toNat (t.getD (x.toNat+1) 0).toNat (t.getD (x.toNat+2) 0).toNat (t.getD (x.toNat+3) 0).toNat).2:Nat):=λ t x hx=>by
  unfold AQ runeLen;rw[QO t x hx,U1 t x hx];exact⟨rfl,rfl⟩
 obtain⟨q1,q2⟩:=q s i h0
 obtain⟨q3,q4⟩:=q s' i' h0'
 rw[q1,q2,q3,q4]
 have n0: ∀(t:A1) (x:Int),0<=x->A2 t x=((t.getD x.toNat 0).toNat:Int):=λ t x hx=>rfl
 have nj:=λ(t:A1) (x:Int) (hx:0<=x) (j:Nat)=>TZ t x hx j
 rw[n0 s i h0,n0 s' i' h0']at a0
 have b1:A2 s (i+1)=_:=nj s i h0 1
 have b2:A2 s (i+2)=_:=nj s i h0 2
 have b3:A2 s (i+3)=_:=nj s i h0 3
 have b1':A2 s' (i'+1)=_:=nj s' i' h0' 1
 have b2':A2 s' (i'+2)=_:=nj s' i' h0' 2
 have b3':A2 s' (i'+3)=_:=nj s' i' h0' 3
 rw[b1,b1']at a1
 rw[b2,b2']at a2
 rw[b3,b3']at a3
 unfold XX at D D'
 generalize (s.getD i.toNat 0).toNat=x0 at*
 generalize (s.getD (i.toNat+1) 0).toNat=x1 at*
 generalize (s.getD (i.toNat+2) 0).toNat=x2 at*
 generalize (s.getD (i.toNat+3) 0).toNat=x3 at*
 generalize (s'.getD i'.toNat 0).toNat=y0 at*
 generalize (s'.getD (i'.toNat+1) 0).toNat=y1 at*
 generalize (s'.getD (i'.toNat+2) 0).toNat=y2 at*
 generalize (s'.getD (i'.toNat+3) 0).toNat=y3 at*
 generalize MS (s.length-i.toNat) x0 x1 x2 x3=k at*
 generalize MS (s'.length-i'.toNat) y0 y1 y2 y3=k' at*
 generalize Lib.decodeN (s.length-i.toNat) x0 x1 x2 x3=d at*
 generalize Lib.decodeN (s'.length-i'.toNat) y0 y1 y2 y3=d' at*
 obtain⟨d1,d2⟩:=d
 obtain⟨e1,e2⟩:=d'
 clear q1 q2 q3 q4 q n0 nj b1 b2 b3 b1' b2' b3' h
 dsimp only at*
 rcases D with D|D|D|D|D<;>rcases D' with D'|D'|D'|D'|D'<;>first|(exfalso;omega)|(constructor<;>omega)
theorem ZP{s s':A1}(hl:6<=len s')(h: ∀j,0<=j->j<6->A2 s' j=A2 s j)(h0:0<=BJ s):BJ s'=BJ s:=by
 by_cases hs:len s<6\/ ¬A2 s 0=92\/ ¬A2 s (0+1)=117
 ·have:=tT (s:=s) (i:=0) (by omega) (by omega)
  rw[N7]at this;omega
 ·have e1:=fS (s:=s) (i:=0) (by omega) (by omega) (by omega) (by omega)
  have e2:=fS (s:=s') (i:=0) (by omega) (by omega) (by rw[h 0 (by omega) (by omega)];omega) (by rw[h (0+1) (by omega) (by omega)];omega)
  rw[N7]at e1 e2
  have e3:Eng.sub s' (0+2) (0+6)=Eng.sub s (0+2) (0+6):=yZ (k:=4) (by omega) (by omega) (by omega) (by omega) (by omega) (λ j a b=>h _ (by omega) (by omega))
  rw[e1,e2,e3]
theorem z6{s s':A1}(h0:(B5 s).2≠0)(hl:(B5 s).2<=len s')(h: ∀j,0<=j->j<(B5 s).2->A2 s' j=A2 s j):B5 s'=B5 s:=by
 generalize hk:(B5 s).2=k at*
 unfold B5 at hk ⊢
 by_cases c1:len s<2
 ·rw[if_pos c1]at hk;exact absurd hk.symm h0
 rw[if_neg c1]at hk ⊢
 by_cases c2:JW (A2 s 1)=true
 ·rw[if_pos c2]at hk ⊢
  have hk':k=2:=hk.symm
  rw[if_neg (by omega),h 1 (by omega) (by omega),if_pos c2]
 rw[if_neg c2]at hk ⊢
 by_cases c3:BJ s<0\/(56320<=BJ s/\BJ s<57344)
 ·rw[if_pos c3]at hk;exact absurd hk.symm h0
 rw[if_neg c3]at hk ⊢
 by_cases c4:BJ s<55296\/57344<=BJ s
 ·rw[if_pos c4]at hk ⊢
  have hk':k=6:=hk.symm
  have e:=ZP (s:=s) (s':=s') (by omega) (λ j a b=>h j a (by omega)) (by omega)
  rw[if_neg (by omega),h 1 (by omega) (by omega),if_neg c2,e,if_neg c3,if_pos c4]
 rw[if_neg c4]at hk ⊢
 by_cases c5:BJ (A3 s 6)<56320\/57344<=BJ (A3 s 6)
 ·rw[if_pos c5]at hk;exact absurd hk.symm h0
 rw[if_neg c5]at hk ⊢
 have hk':k=12:=hk.symm
 have e:=ZP (s:=s) (s':=s') (by omega) (λ j a b=>h j a (by omega)) (by omega)
 have e2:=ZP (s:=A3 s 6) (s':=A3 s' 6) (by rw[CN s' 6 (by omega) (by omega)];omega) (λ j a b=>by rw[U0 _ _ _ (by omega) a,U0 _ _ _ (by omega) a];exact h _ (by omega) (by omega)) (by omega)
 rw[if_neg (by omega),h 1 (by omega) (by omega),if_neg c2,e,if_neg c3,if_neg c4,e2,if_neg c5]
theorem ZQ{s s':A1}{n:Int}(hn':n<=len s')(ha: ∀j,0<=j->j<n->A2 s' j=A2 s j): ∀(f f':Nat) (i:Int) (acc:List Int) (x:A1),0<=i->i<=len s->CZ f s i acc=(x,n,0)->(len s'-i).toNat<=f'->CZ f' s' i acc=(x,n,0)
 |0,_,_,_,_,_,_,h,_=>by unfold CZ at h;simp at h
 |f+1,f',i,acc,x,h0,hi,h,hf=>by
  have hb:=U4 (f:=f+1) (s:=s) (i:=i) (acc:=acc) h0 hi
  rw[h]at hb
  dsimp only at hb
  have hin:i<n:=hb.2.2.1 U
  have hl:i<len s:=by omega
  have hl':i<len s':=by omega
  rw[KE hf hl']
  unfold CZ at h
  rw[if_pos hl]at h
  have hby:A2 s' i=A2 s i:=ha i h0 hin
  rw[U2 s i h0,OJ s i h0]at h
  rw[U2 s' i h0,OJ s' i h0]
  have low: ∀c:Int,c<128->(AQ s' i=c↔AQ s i=c):=λ c hc=>by rw[J6 h0 hl hc,J6 h0 hl' hc,hby]
  by_cases c1:AQ s i=34
  ·rw[if_pos c1]at h;rw[if_pos ((low 34 (by omega)).2 c1)];exact h
  rw[if_neg c1]at h
  rw[if_neg (λ e=>c1 ((low 34 (by omega)).1 e))]
  by_cases c2:AQ s i=92
  ·rw[if_pos c2]at h;rw[if_pos ((low 92 (by omega)).2 c2)]
   by_cases c3:(B5 (A3 s i)).2=0
   ·rw[if_pos c3]at h;simp at h
   rw[if_neg c3]at h
   have hfl:=CN s i h0 hi
   have hfl':=CN s' i h0 (by omega)
   have he:=Y3 (A3 s i)
   have hb2:=U4 (f:=f) (s:=s) (i:=i+(B5 (A3 s i)).2) (acc:=acc++Lib.encodeRuneZ (B5 (A3 s i)).1) (by omega) (by omega)
   rw[h]at hb2
   dsimp only at hb2
   have:=hb2.2.2.1 U
   have e:B5 (A3 s' i)=B5 (A3 s i):=z6 c3 (by omega) (λ j a b=>by rw[U0 _ _ _ h0 a,U0 _ _ _ h0 a];exact ha _ (by omega) (by omega))
   rw[e,if_neg c3]
   exact ZQ hn' ha f (f'-1) _ _ x (by omega) (by omega) h (by omega)
  ·rw[if_neg c2]at h
   rw[if_neg (λ e=>c2 ((low 92 (by omega)).1 e))]
   by_cases c3:AQ s i<32\/(AQ s i=65533/\runeLen s i=1)
   ·rw[if_pos c3]at h;simp at h
   rw[if_neg c3]at h
   have hr:=QQ h0 hl
   have hv:rune s i≠0:=λ e=>c3 (.inr ((YI h0 hl).1 e))
   have hrb:=SS s i
   have hre:runeLen s i=rune s i:=by rcases MU h0 hl with d|d<;>omega
   have hb2:=U4 (f:=f) (s:=s) (i:=i+runeLen s i) (acc:=acc++Lib.encodeRuneZ (AQ s i)) (by omega) (by omega)
   rw[h]at hb2
   dsimp only at hb2
   have:=hb2.2.2.1 U
   obtain⟨_,e2,e3⟩:=ZO (s:=s) (s':=s') (i:=i) (i':=i) h0 h0 (by omega) hl (by omega) (λ j a b=>ha _ (by omega) (by omega))
   rw[e2,e3,if_neg c3]
   exact ZQ hn' ha f (f'-1) _ _ x (by omega) (by omega) h (by omega)
theorem jQ{u v v':A1}{x:A1}(h:AM (u++v)=(x,len u,0)):AM (u++v')=(x,len u,0):=by
 have hb:=KG (u++v)
 rw[h]at hb
 dsimp only at hb
 have h2:2<=len u:=hb.2.2.1 U
 have ha: ∀j,0<=j->j<len u->A2 (u++v') j=A2 (u++v) j:=λ j a b=>by rw[KT a b,KT a b]
 have hv:=AG u v
 have hv':=AG u v'
 have p1:=A8 v
 have p2:=A8 v'
 have hne: ∀w:A1,¬u++w=[]:=λ w e=>by have:=congrArg len e;rw[AG,len_nil]at this;have:=A8 w;omega
 unfold AM at h ⊢
 by_cases c:Lib.hasPrefix (u++v) [34]=true
 ·rw[if_pos c]at h
  rw[if_pos (P5.2 ⟨hne v',by rw[ha 0 (by omega) (by omega)];exact(P5.1 c).2⟩)]
  exact ZQ (n:=len u) (by omega) ha _ _ 1 [] x (by omega) (by omega) h (by unfold len;omega)
 ·rw[if_neg c]at h;simp at h
def HV(c:Int):Bool:=IN c||c==40||c==41||c==44||c==58||c==91||c==93||c==125
def Stop(v v':A1):Prop:=v'=[]\/(v'≠[]/\HV (A2 v' 0)=true)\/(v≠[]/\v'≠[]/\A2 v' 0=A2 v 0)
theorem V1{α:Type}{l:List α}:l≠[]↔0<len l:=⟨λ h=>JG h,λ h e=>by rw[e,len_nil]at h;omega⟩
theorem ZR{s:A1}{n:Int}(hn:n<=len s)(ha: ∀j:Int,0<=j->j<n->BN (A2 s j) (j==0)=true)(hs:n<len s->BN (A2 s n) (n==0)=false)(i:Int)(h0:0<=i)(hi:i<=n):CC s i=n:=by
 by_cases h:i<n
 ·rw[<-NP h0 (by omega) (ha i h0 h)]
  exact ZR hn ha hs (i+1) (by omega) (by omega)
 ·have e:i=n:=by omega
  subst e
  by_cases hl:i<len s
  ·exact NQ h0 hl (hs hl)
  ·exact NR hl
termination_by (n-i).toNat
theorem ZS{s:A1}: ∀(i:Int),0<=i->(∀j:Int,i<=j->j<CC s i->BN (A2 s j) (j==0)=true)/\(i<=len s->CC s i<len s->BN (A2 s (CC s i)) (CC s i==0)=false):=by
 intro i h0
 by_cases hlt:i<len s
 ·cases hw:BN (A2 s i) (i==0)with
  |true=>
   have:=ZS (s:=s) (i+1) (by omega)
   rw[NP h0 hlt hw]at this
   refine⟨λ j a b=>?_,λ a b=>this.2 (by omega) b⟩
   by_cases e:j=i
   ·subst e;exact hw
   ·exact this.1 j (by omega) b
  |false=>rw[NQ h0 hlt hw];exact⟨λ j a b=>by omega,λ _ _=>hw⟩
 ·rw[NR hlt];exact⟨λ j a b=>by omega,λ a b=>by omega⟩
termination_by i=>(len s-i).toNat
theorem z7{c:Int}{f:Bool}(h:HV c=true):BN c f=false:=by
 unfold HV IN at h
 unfold BN E4 C7
 simp only[Bool.or_eq_true,beq_iff_eq]at h
 rw[<-Bool.not_eq_true]
 simp only[Bool.or_eq_true,Bool.and_eq_true,decide_eq_true_eq,beq_iff_eq]
 omega
theorem jR{u v v':A1}(h:B1 (u++v)=u)(hv:Stop v v'):B1 (u++v')=u:=by
 have hl:CC (u++v) 0=len u:=by rw[<-MX,h]
 have ho:=ZS (s:=u++v) 0 (by omega)
 rw[hl]at ho
 have l1:=AG u v
 have l2:=AG u v'
 have p1:=A8 u
 have p2:=A8 v'
 have hb:=KF (s:=u++v) (i:=0) (by omega) (A8 _)
 have e:CC (u++v') 0=len u:=by
  refine ZR (by omega) (λ j a b=>?_) (λ a=>?_) 0 (by omega) (by omega)
  ·rw[KT a b,<-KT (v:=v) a b];exact ho.1 j a b
  ·have e0: ∀w:A1,A2 (u++w) (len u)=A2 w 0:=λ w=>by have:=ZM (u:=u) (v:=w) (k:=0) (by omega);rwa [Int.add_zero]at this
   rw[e0]
   rcases hv with hv|⟨_,hv⟩|⟨hv1,_,hv3⟩
   ·subst hv;rw[len_nil]at l2;omega
   ·exact z7 hv
   ·rw[hv3,<-e0 v];exact ho.2 (by omega) (by have:=V1.1 hv1;omega)
 unfold B1;rw[e,UZ]
theorem KU{s:A1}(h:E4 (A2 s 0)=false):B1 s=[]:=by
 have e:CC s 0=0:=by
  by_cases hl:0<len s
  ·exact NQ (by omega) hl (by unfold BN;rw[h];rfl)
  ·exact NR hl
 unfold B1;rw[e];rfl
theorem z8{s:A1}(h0:0<len s)(h:E4 (A2 s 0)=true):B1 s≠[]:=by
 have e:=NP (s:=s) (i:=0) (by omega) h0 (by unfold BN;rw[h];rfl)
 have hb:=KF (s:=s) (i:=0+1) (by omega) (by omega)
 rw[V1,MX];omega
theorem jS{p:UInt8->Bool}{v v':A1}(hv:v'=[]\/(∃b r,v'=b::r/\p b=false)): ∀ {u:A1},(u++v).takeWhile p=u->(u++v').takeWhile p=u
 |[],_=>by
  rcases hv with rfl|⟨b,r,rfl,hb⟩
  ·rfl
  ·simp[List.takeWhile_cons,hb]
 |a::u,h=>by
  rw[List.cons_append,List.takeWhile_cons]at h ⊢
  split at h
  ·rename_i ha
   rw[if_pos ha,jS hv (List.cons.inj h).2]
  ·cases h
theorem zA{b:UInt8}(h:HV (b.toNat:Int)=true):I7 b=false:=by
 cases hn:I7 b with
 |false=>rfl
 |true=>
  rw[fU]at hn
  unfold HV IN at h
  simp only[Bool.or_eq_true,beq_iff_eq]at h
  omega
theorem zB{p:UInt8->Bool}(hp: ∀b:UInt8,HV (b.toNat:Int)=true->p b=false){v v':A1}(hv:Stop v v')(h:v=[]\/ ∃b r,v=b::r/\p b=false):v'=[]\/ ∃b r,v'=b::r/\p b=false:=by
 cases v' with
 |nil=>exact .inl U
 |cons b r=>
  refine .inr ⟨b,r,rfl,?_⟩
  rcases hv with hv|⟨_,hv⟩|⟨hv1,_,hv3⟩
  ·cases hv
  ·exact hp b hv
  ·rcases h with h|⟨c,q,h,hc⟩
   ·exact absurd h hv1
   ·subst h
    have:b=c:=UInt8.toNat_inj.1 (by rw[FN,FN]at hv3;omega)
    rw[this];exact hc
theorem jT{p:UInt8->Bool}{v:A1}: ∀ {u:A1},(u++v).takeWhile p=u->v=[]\/ ∃b r,v=b::r/\p b=false
 |[],h=>by
  cases v with
  |nil=>exact .inl U
  |cons b r=>
   refine .inr ⟨b,r,rfl,?_⟩
   rw[List.nil_append,List.takeWhile_cons]at h
   split at h
   ·cases h
   ·rename_i hb;simpa using hb
 |a::u,h=>by
  rw[List.cons_append,List.takeWhile_cons]at h
  split at h
  ·exact jT (List.cons.inj h).2
  ·cases h
theorem zC{u v v':A1}(h:runN (u++v)=u)(hv:Stop v v'):runN (u++v')=u:=by
 rw[Y0]at h ⊢
 exact jS (zB (λ b=>zA) hv (jT h)) h
def N8(b:UInt8):Bool:=([61,33,60,62,46,124,44,58,40,41,91,93,123,125,63]:A1).contains b
theorem V2{a:UInt8}{s:A1}(h:N8 a=false):BK (a::s)=[]:=by
 have h': ∀m∈AD,Lib.hasPrefix (a::s) m=false:=by
  intro m hm
  cases hp:Lib.hasPrefix (a::s) m with
  |false=>rfl
  |true=>
   exfalso
   have hf: ∀m∈AD,m≠[]/\N8 (m.headD 0)=true:=by decide+kernel
   obtain⟨hn,hb⟩:=hf m hm
   cases m with
   |nil=>exact hn U
   |cons b r=>
   have hb:N8 b=true:=hb
   have:=List.isPrefixOf_iff_prefix.1 hp
   rw[List.cons_prefix_cons]at this
   rw[<-this.1,hb]at h;cases h
 unfold BK
 rw[List.find?_eq_none.2 (λ m hm=>by rw[h' m hm];simp)]
 rfl
theorem zD{u v v':A1}(hu:u≠[])(h:BK (u++v)=u)(hv:Stop v v'):BK (u++v')=u:=by
  have hm:u∈AD:=by
                             rcases MW (u++v)with e|e
                             · exact absurd (h.symm.trans e) hu
                             · rw[h]at e;exact e.1
  have two: ∀m∈AD,(∃a,m=[a,61])\/ ∃a,m=[a]:=by
    have tw: ∀m∈AD,m=[m.headD 0,61]\/m=[m.headD 0]:=by decide+kernel
    intro m hm
    rcases tw m hm with e|e
    · exact .inl ⟨_,e⟩
    · exact .inr ⟨_,e⟩
  have one: ∀m∈AD,∀w:A1,w=[]\/A2 w 0≠61\/(∃a,m=[a,61])\/(m≠[60]/\m≠[62])->BK (m++w)=m:=by
    intro m hm w hw
    simp only[AD,List.mem_cons,List.not_mem_nil,or_false]at hm
    cases w with
    |nil=>rcases hm with rfl|rfl|rfl|rfl|rfl|rfl|rfl|rfl|rfl|rfl|rfl|rfl|rfl|rfl|rfl|rfl|rfl<;>rfl
    |cons b r=>
      have hb:b=61\/ ¬(61:UInt8)=b:=by by_cases e:b=61;exact .inl e;exact .inr (λ x=>e x.symm)
      have hb2:A2 (b::r) 0≠61-> ¬(61:UInt8)=b:=λ x e=>x (by rw[<-e];rfl)
      rcases hm with rfl|rfl|rfl|rfl|rfl|rfl|rfl|rfl|rfl|rfl|rfl|rfl|rfl|rfl|rfl|rfl|rfl<;>
        first
          |rfl
          |(
             have hn: ¬(61:UInt8)=b:=by
               rcases hw with hw|hw|⟨a,hw⟩|hw
               · cases hw
               · exact hb2 hw
               · simp at hw
               · simp at hw
             simp[BK,AD,List.find?,Lib.hasPrefix,List.isPrefixOf,(beq_eq_false_iff_ne.2 hn)])
          |(
             rcases hb with rfl|hn
             · rfl
             · simp[BK,AD,List.find?,Lib.hasPrefix,List.isPrefixOf,(beq_eq_false_iff_ne.2 hn)])
  refine one u hm v' ?_
  rcases two u hm with e|⟨a,e⟩
  · exact .inr (.inr (.inl e))
  · rcases hv with hv|⟨_,hv⟩|⟨hv1,_,hv3⟩
    · exact .inl hv
    · refine .inr (.inl λ x=>?_);rw[x]at hv;exact absurd hv (by decide)
    · by_cases e2:u≠[60]/\u≠[62]
      · exact .inr (.inr (.inr e2))
      · refine .inr (.inl λ x=>?_)
        rw[hv3]at x
        cases v with
        |nil=>exact hv1 U
        |cons b r=>
          have hb:b=61:=UInt8.toNat_inj.1 (by rw[FN]at x;exact Int.ofNat_inj.1 x)
          subst hb
          have:u=[60]\/u=[62]:=by
            by_cases e3:u=[60]
            · exact .inl e3
            · exact .inr (Classical.byContradiction λ e4=>e2 ⟨e3,e4⟩)
          rcases this with rfl|rfl
          · exact absurd h (show ¬([60,61]:A1)=[60] by decide)
          · exact absurd h (show ¬([62,61]:A1)=[62] by decide)
theorem jU{a:UInt8}(h:E4 (a.toNat:Int)=true):N8 a=false:=by
 have: ∀n:Fin 256,E4 (n.val:Int)=true->N8 (UInt8.ofNat n.val)=false:=by decide+kernel
 have:=this ⟨a.toNat,a.toNat_lt⟩ h
 simpa using this
theorem zE{a:UInt8}(h:(a.toNat:Int)=45\/C7 (a.toNat:Int)=true):N8 a=false/\E4 (a.toNat:Int)=false:=by
 have: ∀n:Fin 256,((n.val:Int)=45\/C7 (n.val:Int)=true)->N8 (UInt8.ofNat n.val)=false/\E4 (n.val:Int)=false:=by decide+kernel
 have:=this ⟨a.toNat,a.toNat_lt⟩ h
 simpa using this
theorem jV{c:Int}(h:HV c=true):E4 c=false/\c≠34:=by
 unfold HV IN at h
 simp only[Bool.or_eq_true,beq_iff_eq]at h
 unfold E4
 rw[<-Bool.not_eq_true]
 simp only[Bool.or_eq_true,Bool.and_eq_true,decide_eq_true_eq,beq_iff_eq]
 omega
theorem jW(a:UInt8)(l:A1):A3 (a::l) 1=l:=rfl
theorem ZT{u v v':A1}{t:Tk}(hu:u≠[])(h:A7 (u++v)=(t,len u,0))(hv:Stop v v'):A7 (u++v')=(t,len u,0):=by
 cases u with
 |nil=>exact absurd U hu
 |cons a u=>
 have hp:=A8 u
 rw[AK]at h ⊢
 rw[List.cons_append]at h ⊢
 have hpre: ∀ {l m:A1},m≠[]->BK l=m-> ∃r,m++r=l:=λ{l m} hm e=>by
  rcases MW l with e2|e2
  ·exact absurd (e.symm.trans e2) hm
  ·rw[e]at e2;exact List.isPrefixOf_iff_prefix.1 e2.2
 have cut: ∀ {l x:A1},x++[]++(A3 l (len x))=l->True:=λ _=>trivial
 unfold A7 at h ⊢
 rw[FN,jW]at h ⊢
 by_cases c1:(a.toNat:Int)=46/\B1 (u++v)≠[]
 ·rw[if_pos c1]at h
  simp only[Prod.mk.injEq]at h
  obtain⟨h1,h2,_⟩:=h
  have hl:len (B1 (u++v))=len u:=by omega
  have hw:B1 (u++v)=u:=by
   have:B1 (u++v)=Eng.sub (u++v) 0 (CC (u++v) 0):=rfl
   rw[this,<-MX,hl,UZ]
  have hw':=jR hw hv
  rw[hw]at c1 h1
  rw[hw',if_pos c1,h1,Int.add_comm]
 rw[if_neg c1]at h
 by_cases c2:(a.toNat:Int)=46/\Lib.hasPrefix (u++v) [34]=true
 ·rw[if_pos c2]at h
  simp only[Prod.mk.injEq]at h
  obtain⟨h1,h2,h3⟩:=h
  have hq:AM (u++v)=((AM (u++v)).1,len u,0):=by
   rw[show(AM (u++v))=((AM (u++v)).1,(AM (u++v)).2.1,(AM (u++v)).2.2)from rfl,h3,show(AM (u++v)).2.1=len u from by omega]
  have hq':=jQ (v':=v') hq
  have hb:=KG (u++v)
  rw[h3,show(AM (u++v)).2.1=len u from by omega]at hb
  have hu2:=hb.2.2.1 U
  have h34:=(P5.1 c2.2).2
  rw[KT (by omega) (by omega)]at h34
  have h34':A2 (u++v') 0=34:=by rw[KT (by omega) (by omega)];exact h34
  have hw0:B1 (u++v')=[]:=KU (by rw[h34'];rfl)
  rw[if_neg (λ x=>x.2 hw0),if_pos ⟨c2.1,P5.2 ⟨λ e=>by have:=congrArg len e;rw[AG,len_nil]at this;have:=A8 v';omega,h34'⟩⟩,hq',<-h1]
  simp only[Prod.mk.injEq,true_and,and_true]
  omega
 rw[if_neg c2]at h
 by_cases c3:BK (a::(u++v))≠[]
 ·rw[if_pos c3]at h
  simp only[Prod.mk.injEq]at h
  obtain⟨h1,h2,_⟩:=h
  obtain⟨r,hr⟩:=hpre c3 rfl
  have hm:BK ((a::u)++v)=a::u:=by
   rw[List.cons_append]
   have hl:(BK (a::(u++v))).length=(a::u).length:=by rw[List.length_cons];unfold len at h2;omega
   rw[<-List.cons_append]at hr
   exact(List.append_inj hr hl).1
  have hm':=zD (by simp) hm hv
  rw[List.cons_append]at hm hm'
  have n1: ¬((a.toNat:Int)=46/\B1 (u++v')≠[]):=by
   rintro⟨ea,hw⟩
   have hu0:u=[]:=by
    have hmm:a::u∈AD:=by
     rcases MW (a::(u++v))with e|e
     ·exact absurd e c3
     ·rw[hm]at e;exact e.1
    have: ∀m∈AD,A2 m 0=46->A3 m 1=[]:=by decide+kernel
    exact this _ hmm ea
   subst hu0
   rw[List.nil_append]at hw c1
   have hwv:B1 v=[]:=Classical.byContradiction λ e=>c1 ⟨ea,e⟩
   apply hw
   rcases hv with hv|⟨_,hv⟩|⟨hv1,_,hv3⟩
   ·rw[hv];exact KU U
   ·exact KU (jV hv).1
   ·refine KU ?_
    rw[hv3]
    cases hh:E4 (A2 v 0)with
    |false=>rfl
    |true=>exact absurd hwv (z8 (V1.1 hv1) hh)
  have n2: ¬((a.toNat:Int)=46/\Lib.hasPrefix (u++v') [34]=true):=by
   rintro⟨ea,hw⟩
   have hu0:u=[]:=by
    have hmm:a::u∈AD:=by
     rcases MW (a::(u++v))with e|e
     ·exact absurd e c3
     ·rw[hm]at e;exact e.1
    have: ∀m∈AD,A2 m 0=46->A3 m 1=[]:=by decide+kernel
    exact this _ hmm ea
   subst hu0
   rw[List.nil_append]at hw c2
   have h34:=P5.1 hw
   rcases hv with hv|⟨_,hv⟩|⟨hv1,_,hv3⟩
   ·exact h34.1 hv
   ·exact(jV hv).2 h34.2
   ·exact c2 ⟨ea,P5.2 ⟨hv1,by rw[<-hv3];exact h34.2⟩⟩
  rw[if_neg n1,if_neg n2,hm',if_pos (by simp),<-h1,hm,AK]
 rw[if_neg c3]at h
 have c3':BK (a::(u++v))=[]:=Classical.byContradiction c3
 by_cases c4:B1 (a::(u++v))≠[]
 ·rw[if_pos c4]at h
  simp only[Prod.mk.injEq]at h
  obtain⟨h1,h2,_⟩:=h
  have hw:B1 ((a::u)++v)=a::u:=by
   have:B1 ((a::u)++v)=Eng.sub ((a::u)++v) 0 (CC ((a::u)++v) 0):=rfl
   rw[this,<-MX,List.cons_append,h2,<-AK a,<-List.cons_append,UZ]
  have hw':=jR hw hv
  rw[List.cons_append]at hw hw'
  have hlet:E4 (a.toNat:Int)=true:=by
   cases hh:E4 (a.toNat:Int)with
   |true=>rfl
   |false=>exact absurd (KU (s:=a::(u++v)) hh) c4
  have ha46: ¬(a.toNat:Int)=46:=λ e=>by rw[e]at hlet;cases hlet
  rw[if_neg (λ x=>ha46 x.1),if_neg (λ x=>ha46 x.1),V2 (jU hlet),if_neg (λ x=>x U),hw',if_pos (by simp),<-h1,hw,AK]
 rw[if_neg c4]at h
 have c4':B1 (a::(u++v))=[]:=Classical.byContradiction c4
 by_cases c5:(a.toNat:Int)=34
 ·rw[if_pos c5]at h
  simp only[Prod.mk.injEq]at h
  obtain⟨h1,h2,h3⟩:=h
  have ha:a=34:=UInt8.toNat_inj.1 (by show a.toNat=34;omega)
  subst ha
  have hq:AM ((34::u)++v)=((AM (34::(u++v))).1,len ((34:UInt8)::u),0):=by
   rw[List.cons_append,show(AM (34::(u++v)))=((AM (34::(u++v))).1,(AM (34::(u++v))).2.1,(AM (34::(u++v))).2.2)from rfl,h3,h2,AK]
  have hq':=jQ (v':=v') hq
  rw[List.cons_append]at hq'
  have hw0:B1 (34::(u++v'))=[]:=KU U
  have hm0:BK (34::(u++v'))=[]:=V2 U
  rw[if_neg (λ x=>absurd x.1 (by decide)),if_neg (λ x=>absurd x.1 (by decide)),hm0,if_neg (λ x=>x U),hw0,if_neg (λ x=>x U),if_pos c5,hq',<-h1,AK]
 rw[if_neg c5]at h
 by_cases c6:(a.toNat:Int)=45\/C7 (a.toNat:Int)=true
 ·rw[if_pos c6]at h
  by_cases c7:(BY (runN (a::(u++v)))).2.2≠0
  ·rw[if_pos c7]at h
   simp only[Prod.mk.injEq]at h
   exact absurd h.2.2 c7
  ·rw[if_neg c7]at h
   simp only[Prod.mk.injEq]at h
   obtain⟨h1,h2,_⟩:=h
   have hr:runN ((a::u)++v)=a::u:=by
    have hpre:=List.takeWhile_prefix I7 (l:=(a::u)++v)
    rw[<-Y0]at hpre
    obtain⟨r,hr⟩:=hpre
    have hl:(runN ((a::u)++v)).length=(a::u).length:=by rw[List.length_cons,List.cons_append];unfold len at h2;omega
    exact(List.append_inj hr hl).1
   have hr':=zC hr hv
   rw[List.cons_append]at hr hr'
   obtain⟨g1,g2⟩:=zE c6
   have ha46: ¬(a.toNat:Int)=46:=λ e=>by rw[e]at c6;revert c6;decide
   rw[hr]at c7 h1
   rw[if_neg (λ x=>ha46 x.1),if_neg (λ x=>ha46 x.1),V2 g1,if_neg (λ x=>x U),KU (s:=a::(u++v')) g2,if_neg (λ x=>x U),if_neg c5,if_pos c6,hr',if_neg c7,<-h1,AK]
 ·rw[if_neg c6]at h
  simp only[Prod.mk.injEq]at h
  exact absurd h.2.2 (by decide)
end Go.Eng
namespace Go.Eng
open Go.RowKit
inductive Lx (s:A1):Int->List Tk->Prop
 |done {i:Int}:0<=i-> ¬i<len s->Lx s i []
 |step {i n:Int} {t:Tk} {l:List Tk}:0<=i->i<len s->A7 (A3 s i)=(t,n,0)->Lx s (AV s (i+n)) l->Lx s i ({ t with pos:=i}::l)
inductive EP (s:A1):Int->Int->Int->Prop
 |here {i n e:Int} {t:Tk}:0<=i->i<len s->A7 (A3 s i)=(t,n,e)->e≠0->EP s i (i+n) e
 |there {i n p e:Int} {t:Tk}:0<=i->i<len s->A7 (A3 s i)=(t,n,0)->EP s (AV s (i+n)) p e->EP s i p e
theorem HW{s:A1}{i n e:Int}{t:Tk}(h0:0<=i)(h1:i<len s)(h:A7 (A3 s i)=(t,n,e)):0<=n/\i+n<=len s/\(e=0->1<=n)/\(e=0\/e=1\/e=2\/e=4):=by
 have hl:=CN s i h0 (by omega)
 have:=fW (s:=A3 s i) (by omega)
 rw[h]at this
 dsimp only at this
 omega
theorem jX{s:A1}: ∀(f:Nat) (i:Int) (acc:List Tk),0<=i->(len s-i).toNat<=f->
  (∃l,Lx s i l/\HK f s i acc=(acc++l++[BH s],0,0))\/(∃p e,EP s i p e/\HK f s i acc=([],p,e))
 |0,i,acc,h0,hf=>.inl ⟨[],.done h0 (by omega),by unfold HK;simp⟩
 |f+1,i,acc,h0,hf=>by
  by_cases h1:i<len s
  ·obtain⟨t,n,e,ht⟩: ∃t n e,A7 (A3 s i)=(t,n,e):=⟨_,_,_,rfl⟩
   have hb:=HW h0 h1 ht
   rw[OK hf h1,ht]
   dsimp only
   by_cases he:e=0
   ·subst he
    have hbl:=I6 s (i+n) (by omega) (by omega)
    rw[if_neg (by simp)]
    rcases jX (s:=s) f (AV s (i+n)) (acc++[{ t with pos:=i}]) (by omega) (by omega)with⟨l,h2,h3⟩|⟨p,e,h2,h3⟩
    ·exact .inl ⟨_,.step h0 h1 ht h2,by rw[Nat.add_sub_cancel,h3];simp⟩
    ·exact .inr ⟨p,e,.there h0 h1 ht h2,by rw[Nat.add_sub_cancel,h3]⟩
   ·rw[if_pos he]
    exact .inr ⟨_,_,.here h0 h1 ht he,rfl⟩
  ·exact .inl ⟨[],.done h0 h1,by rw[Y2 h1];simp⟩
theorem EP.bd {s:A1}{i p e:Int}(h:EP s i p e):i<=p/\p<=len s/\(e=1\/e=2\/e=4):=by
 induction h with
 |here h0 h1 h he=>have:=HW h0 h1 h;omega
 | @there i n p e t h0 h1 h _ ih=>
  have hb:=HW h0 h1 h
  have:=I6 s (i+n) (by omega) hb.2.1
  omega
theorem Lx.go {s:A1}{i:Int}{l:List Tk}(h:Lx s i l): ∀(f:Nat) (acc:List Tk),(len s-i).toNat<=f->HK f s i acc=(acc++l++[BH s],0,0):=by
 induction h with
 |done _ h1=>intro f acc _;rw[Y2 h1];simp
 | @step i n t l h0 h1 h _ ih=>
  intro f acc hf
  have hb:=HW h0 h1 h
  have hbl:=I6 s (i+n) (by omega) hb.2.1
  rw[OK hf h1,h]
  dsimp only
  rw[if_neg (by simp),ih _ _ (by omega)]
  simp
theorem EP.go {s:A1}{i p e:Int}(h:EP s i p e): ∀(f:Nat) (acc:List Tk),(len s-i).toNat<=f->HK f s i acc=([],p,e):=by
 induction h with
 |here h0 h1 h he=>intro f acc hf;rw[OK hf h1,h];dsimp only;rw[if_pos he]
 | @there i n p e t h0 h1 h _ ih=>
  intro f acc hf
  have hb:=HW h0 h1 h
  have hbl:=I6 s (i+n) (by omega) hb.2.1
  rw[OK hf h1,h]
  dsimp only
  rw[if_neg (by simp),ih _ _ (by omega)]
theorem ZU(s:A1):(len s-AV s 0).toNat<=s.length:=by
 have:=I6 s 0 (Int.le_refl 0) (A8 s)
 unfold len at*;omega
theorem zF(s:A1):(∃l,Lx s (AV s 0) l/\BB s=(l++[BH s],0,0))\/(∃p e,EP s (AV s 0) p e/\BB s=([],p,e)):=by
 have:=jX (s:=s) s.length (AV s 0) [] (I6 s 0 (Int.le_refl 0) (A8 s)).1 (ZU s)
 simp only[List.nil_append]at this
 exact this
theorem Lx.lex {s:A1}{l:List Tk}(h:Lx s (AV s 0) l):BB s=(l++[BH s],0,0):=by
 have:=h.go s.length [] (ZU s)
 rwa [List.nil_append]at this
theorem EP.lex {s:A1}{p e:Int}(h:EP s (AV s 0) p e):BB s=([],p,e):=h.go s.length [] (ZU s)
theorem ZV{s:A1}(h:(BB s).2.2=0): ∃l,Lx s (AV s 0) l/\BB s=(l++[BH s],0,0):=by
 rcases zF s with h1|⟨p,e,h1,h2⟩
 ·exact h1
 ·rw[h2]at h;have:=h1.bd;dsimp only at h;omega
theorem Lx.size {s:A1}{i:Int}{l:List Tk}(h:Lx s i l):i<=len s->len l<=len s-i:=by
 induction h with
 |done _ _=>intro x;rw[len_nil];omega
 | @step i n t l h0 h1 h _ ih=>
  intro x
  have hb:=HW h0 h1 h
  have hbl:=I6 s (i+n) (by omega) hb.2.1
  have:=ih hbl.2
  rw[AK];omega
theorem KW{s:A1}{i:Int}(h0:0<=i):AV s i=i+AV (A3 s i) 0:=by
 unfold AV;rw[N7];omega
theorem zG:AV [] 0=0:=rfl
theorem V3{b:UInt8}{r:A1}(h:IN (b.toNat:Int)=true):AV (b::r) 0=1+AV r 0:=by
 unfold AV
 rw[N7,N7,List.takeWhile_cons,show FY b=true from h]
 simp[len];omega
theorem N9{b:UInt8}{r:A1}(h:IN (b.toNat:Int)=false):AV (b::r) 0=0:=by
 unfold AV
 rw[N7,List.takeWhile_cons,show FY b=false from h]
 simp[len]
theorem jY{s:A1}{i n:Int}{t:Tk}(h0:0<=i)(h1:i<len s)(h:A7 (A3 s i)=(t,n,0)):
  ∃u v,A3 s i=u++v/\len u=n/\u≠[]/\v=A3 s (i+n)/\u=Eng.sub s i (i+n)/\A7 (u++v)=(t,len u,0):=by
 have hb:=HW h0 h1 h
 have hl:=CN s i h0 (by omega)
 have h2:=yX (s:=A3 s i) (n:=n) (by omega) (by omega)
 rw[MT s i n h0 (by omega),tW s i n h0 (by omega)]at h2
 exact⟨_,_,h2.1,h2.2,λ e=>by rw[e,len_nil]at h2;omega,rfl,rfl,by rw[<-h2.1,h2.2];exact h⟩
end Go.Eng
namespace Go.Eng
open Go.RowKit
def JF(l:A1):Prop:= ∀b∈l,DP b=true
theorem V4{s:A1}:HE s=true↔JF s:=by
 rw[YW]
 constructor
 ·intro h b hb
  obtain⟨j,hj,e⟩:=List.getElem_of_mem hb
  have:=h j hj
  rw[e]at this;exact this
 ·intro h j hj;exact h _ (List.getElem_mem hj)
theorem JF.app {a b:A1}(h:JF a)(k:JF b):JF (a++b):=λ x hx=>by
 rcases List.mem_append.1 hx with hx|hx
 ·exact h x hx
 ·exact k x hx
theorem jZ{n:Nd}(h:L6 n=true):n=⟨3,0,[],n.s,n.neg,n.e⟩/\JF n.s/\len n.s<=100/\ -1000<=n.e/\n.e<=1000/\len n.s+n.e<=1000/\((n.s=[]/\n.neg=false/\n.e=0)\/(n.s≠[]/\A2 n.s 0≠48/\A2 n.s (len n.s-1)≠48)):=by
 obtain⟨kind,many,name,s,neg,e⟩:=n
 unfold L6 at h
 dsimp only at h ⊢
 split at h
 ·cases h
 rename_i hc
 simp only[Bool.or_eq_true,decide_eq_true_eq,bne_iff_ne,Bool.not_eq_true',beq_eq_false_iff_ne,not_or,ne_eq,Classical.not_not]at hc
 obtain⟨⟨⟨⟨⟨⟨⟨c1,c2⟩,c3⟩,c4⟩,c5⟩,c6⟩,c7⟩,c8⟩:=hc
 subst c1;subst c2;subst c3
 refine⟨rfl,V4.1 (by simpa using c4),by omega,by omega,by omega,by omega,?_⟩
 split at h
 ·rename_i hs
  simp only[Bool.and_eq_true,Bool.not_eq_true',beq_iff_eq]at h hs
  exact .inl ⟨hs,h.1,h.2⟩
 ·rename_i hs
  simp only[Bool.and_eq_true,bne_iff_ne,beq_iff_eq]at h hs
  exact .inr ⟨hs,h.1,h.2⟩
theorem zH{neg:Bool}{s:A1}{e:Int}(h:(EG neg s e).2=0):L6 (EG neg s e).1=true:=by
 unfold EG at h ⊢
 by_cases c1:HE s=true
 ·rw[if_pos c1]at h ⊢
  by_cases c2:(AZ s==[])=true
  ·rw[if_pos c2];decide+kernel
  rw[if_neg c2]at h ⊢
  split at h
  ·cases h
  rename_i c3
  rw[if_neg c3]
  split at h
  ·cases h
  rename_i c4
  rw[if_neg c4]
  simp only[Bool.or_eq_true,decide_eq_true_eq]at c4
  have c2': ¬AZ s=[]:=by simpa using c2
  have hp:=eA s c2'
  have htn:CY (AZ s)≠[]:=V1.2 hp
  have hpre: ∃r,CY (AZ s)++r=AZ s:=by
   unfold CY Lib.trimRightS
   have:=List.dropWhile_suffix (([48]:A1).contains ·) (l:=(AZ s).reverse)
   obtain⟨r,hr⟩:=this
   refine⟨r.reverse,?_⟩
   rw[<-List.reverse_append,hr,List.reverse_reverse]
  obtain⟨r,hr⟩:=hpre
  have hF:JF (CY (AZ s)):=λ b hb=>(eE (V4.1 c1)) b (by rw[<-hr];simp[hb])
  have hfirst:A2 (CY (AZ s)) 0≠48:=by
   rw[<-KT (v:=r) (Int.le_refl 0) hp,hr]
   cases hd:AZ s with
   |nil=>exact absurd hd c2'
   |cons b l=>
    have:=XT hd
    intro e;rw[FN]at e;rw[eM.2 e]at this;cases this
  have hlast:A2 (CY (AZ s)) (len (CY (AZ s))-1)≠48:=by
   obtain⟨b,e1,e2⟩:=rP hp
   rw[<-e2]
   intro e3
   have hb:([48]:A1).contains b=true:=eM.2 e3
   have:CY (AZ s)=((AZ s).reverse.dropWhile (([48]:A1).contains ·)).reverse:=rfl
   rw[this]at e1
   have h2:=congrArg List.reverse e1
   rw[List.reverse_reverse,List.reverse_append,List.reverse_cons,List.reverse_nil,List.nil_append,List.singleton_append]at h2
   have:=XT (s:=(AZ s).reverse) (b:=b) (l:=(Eng.sub (CY (AZ s)) 0 (len (CY (AZ s))-1)).reverse) h2
   rw[hb]at this;cases this
  unfold L6
  dsimp only
  rw[if_neg (by
   simp only[Bool.or_eq_true,decide_eq_true_eq,bne_iff_ne,Bool.not_eq_true',beq_eq_false_iff_ne,V4.2 hF]
   simp only[not_or]
   refine⟨⟨⟨⟨⟨⟨⟨by simp,by simp⟩,by simp⟩,by simp⟩,by omega⟩,by omega⟩,by omega⟩,by omega⟩),if_neg (by simpa using htn)]
  simp[hfirst,hlast]
 ·rw[if_neg c1]at h;exact absurd h (by decide)
theorem zI{neg:Bool}{s:A1}{e:Int}(h:JF s):(EG neg s e).2=0\/(EG neg s e).2=2:=by
 unfold EG
 rw[if_pos (V4.2 h)]
 split
 ·exact .inl U
 ·split
  ·exact .inr U
  ·split
   ·exact .inr U
   ·exact .inl U
def V5(r:Nd×Int×Int):Prop:=(r.2.2=0->L6 r.1=true)/\(r.2.2=0\/r.2.2=1\/r.2.2=2)
theorem k0{neg:Bool}{fg:A1}{x:Int}{pw:A1}{side:Int}(h:JF fg):V5 (IZ neg fg x pw side):=by
 unfold IZ
 split
 ·exact⟨λ e=>absurd e (by decide),.inr (.inr U)⟩
 ·refine⟨λ e=>zH e,?_⟩
  rcases zI (neg:=neg) (e:=x+side*D9 (AZ pw)) h with e|e
  ·exact .inl e
  ·exact .inr (.inr e)
theorem RU(n:Nd)(p:Int):V5 (n,p,1):=⟨λ e=>absurd e (show ¬(1:Int)=0 by decide),.inr (.inl U)⟩
theorem k6{s fg:A1}{neg:Bool}{x b:Int}(h:JF fg):V5 (GH s neg fg x b):=by
 unfold GH
 split
 ·unfold MR
  dsimp only
  repeat' split
  all_goals first|exact RU _ _|exact k0 h
 ·split
  ·exact RU _ _
  ·exact k0 h
theorem k7(s:A1):V5 (BY s):=by
 have h0:=LI s [45] 0 (A8 s)
 have hr:=IY s (B4 s [45] 0) (by omega) h0.2
 have h1:=LI s [46] (AJ s (B4 s [45] 0)) hr.2
 unfold BY
 dsimp only
 have hF:JF (Eng.sub s (B4 s [45] 0) (AJ s (B4 s [45] 0))):=QM h0.1
 split
 ·exact RU _ _
 ·split
  ·exact RU _ _
  ·split
   ·split
    ·exact RU _ _
    ·exact k6 (hF.app (QM (by omega)))
   ·exact k6 hF
end Go.Eng
namespace Go.Eng
open Go.RowKit
theorem K4{x:Int}(h0:0<=x)(h1:x<256):((UInt8.ofNat x.toNat).toNat:Int)=x:=by
 rw[show(UInt8.ofNat x.toNat).toNat=x.toNat%256 from rfl,Nat.mod_eq_of_lt (by omega)];omega
theorem k8{a b:A1}: ∀(j:Int),0<=j->GU b j=true->GU (a++b) (len a+j)=true
 |j,h0,h=>by
  have hl:=AG a b
  have ha:=A8 a
  by_cases hj:j<len b
  ·by_cases hr:rune b j=0
   ·rw[bJ b j h0 hj hr]at h;cases h
   have hb:=SS b j
   have hle:=rune_le b j hj
   rw[<-NS b j h0 hj (by omega)]at h
   have agr:=ZO (s:=b) (s':=a++b) (i:=j) (i':=len a+j) h0 (by omega) (by omega) hj (by omega) (λ k x y=>by
    rw[show len a+j+k=len a+(j+k)from by omega,ZM (by omega)])
   rw[<-NS (a++b) (len a+j) (by omega) (by omega) (by rw[agr.1];omega),agr.1,Int.add_assoc]
   exact k8 (j+rune b j) (by omega) h
  ·exact W4 _ _ (by omega)
termination_by j=>(len b-j).toNat
theorem k9{a b:A1}(hb:FH b=true): ∀(i:Int),0<=i->i<=len a->GU a i=true->GU (a++b) i=true
 |i,h0,h1,h=>by
  have hl:=AG a b
  have hbn:=A8 b
  by_cases hi:i<len a
  ·by_cases hr:rune a i=0
   ·rw[bJ a i h0 hi hr]at h;cases h
   have hbd:=SS a i
   have hle:=rune_le a i hi
   rw[<-NS a i h0 hi (by omega)]at h
   have agr:=ZO (s:=a) (s':=a++b) (i:=i) (i':=i) h0 h0 (by omega) hi (by omega) (λ k x y=>KT (by omega) (by omega))
   rw[<-NS (a++b) i h0 (by omega) (by rw[agr.1];omega),agr.1]
   exact k9 hb (i+rune a i) (by omega) hle h
  ·have e:i=len a:=by omega
   subst e
   have:=k8 (a:=a) (b:=b) 0 (Int.le_refl 0) hb
   rwa [Int.add_zero]at this
termination_by i=>(len a-i).toNat
theorem V6{s:A1}(hn:0<len s)(h:rune s 0=len s):FH s=true:=by
 unfold FH
 rw[<-NS s 0 (Int.le_refl 0) hn (by omega)]
 exact W4 s (0+rune s 0) (by omega)
theorem zJ(r:Int):FH (toStr (Lib.encodeRuneZ r))=true:=by
 have b0: ∀(x:UInt8) (l:A1),A2 (x::l) 0=(x.toNat:Int):=λ _ _=>rfl
 have b1: ∀(x y:UInt8) (l:A1),A2 (x::y::l) (0+1)=(y.toNat:Int):=λ _ _ _=>rfl
 have b2: ∀(x y z:UInt8) (l:A1),A2 (x::y::z::l) (0+2)=(z.toNat:Int):=λ _ _ _ _=>rfl
 have b3: ∀(x y z u:UInt8) (l:A1),A2 (x::y::z::u::l) (0+3)=(u.toNat:Int):=λ _ _ _ _ _=>rfl
 have l1: ∀(x:UInt8),len [x]=1:=λ _=>rfl
 have l2: ∀(x y:UInt8),len [x,y]=2:=λ _ _=>rfl
 have l3: ∀(x y z:UInt8),len [x,y,z]=3:=λ _ _ _=>rfl
 have l4: ∀(x y z u:UInt8),len [x,y,z,u]=4:=λ _ _ _ _=>rfl
 unfold Lib.encodeRuneZ
 split
 ·refine V6 (show(0:Int)<1 by decide) ?_
  show rune [UInt8.ofNat r.toNat] 0=1
  unfold rune
  rw[b0,K4 (by omega) (by omega)]
  dsimp only
  rw[if_pos (by omega)]
 split
 ·refine V6 (show(0:Int)<2 by decide) ?_
  show rune [UInt8.ofNat (192+r/64).toNat,UInt8.ofNat (128+r%64).toNat] 0=2
  unfold rune cont
  rw[b0,b1,l2,K4 (by omega) (by omega),K4 (by omega) (by omega)]
  dsimp only
  simp only[Bool.and_eq_true,decide_eq_true_eq]
  rw[if_neg (by omega),if_pos (by omega)]
 split
 ·refine V6 (show(0:Int)<3 by decide) ?_
  show rune [UInt8.ofNat (224+r/4096).toNat,UInt8.ofNat (128+r/64%64).toNat,UInt8.ofNat (128+r%64).toNat] 0=3
  unfold rune cont
  rw[b0,b1,b2,l3,K4 (by omega) (by omega),K4 (by omega) (by omega),K4 (by omega) (by omega)]
  dsimp only
  simp only[Bool.and_eq_true,Bool.or_eq_true,decide_eq_true_eq,beq_iff_eq]
  rw[if_neg (by omega),if_neg (by omega),if_pos (by omega),if_neg (by omega)]
 split
 ·refine V6 (show(0:Int)<4 by decide) ?_
  show rune [UInt8.ofNat (240+r/262144).toNat,UInt8.ofNat (128+r/4096%64).toNat,UInt8.ofNat (128+r/64%64).toNat,UInt8.ofNat (128+r%64).toNat] 0=4
  unfold rune cont
  rw[b0,b1,b2,b3,l4,K4 (by omega) (by omega),K4 (by omega) (by omega),K4 (by omega) (by omega),K4 (by omega) (by omega)]
  dsimp only
  simp only[Bool.and_eq_true,Bool.or_eq_true,decide_eq_true_eq,beq_iff_eq]
  rw[if_neg (by omega),if_neg (by omega),if_neg (by omega),if_pos (by omega),if_neg (by omega)]
 ·decide+kernel
theorem kA{acc:List Int}(h:FH (toStr acc)=true)(r:Int):FH (toStr (acc++Lib.encodeRuneZ r))=true:=by
 rw[YH]
 exact k9 (zJ r) 0 (Int.le_refl 0) (A8 _) h
theorem PD:FH []=true:=by decide+kernel
theorem ZW{s:A1}: ∀(f:Nat) (i:Int) (acc:List Int),FH (toStr acc)=true->FH (CZ f s i acc).1=true
 |0,_,_,_=>by unfold CZ;exact PD
 |f+1,i,acc,h=>by
  unfold CZ
  split
  ·split
   ·exact h
   ·split
    ·split
     ·exact PD
     ·exact ZW f _ _ (kA h _)
    ·split
     ·exact PD
     ·exact ZW f _ _ (kA h _)
  ·exact PD
theorem kB(s:A1):FH (AM s).1=true:=by
 unfold AM
 split
 ·exact ZW _ _ _ PD
 ·exact PD
theorem kC{s:A1}(h: ∀j:Int,0<=j->j<len s->A2 s j<128): ∀i:Int,0<=i->GU s i=true
 |i,h0=>by
  by_cases hi:i<len s
  ·have hr:rune s i=1:=by unfold rune;dsimp only;rw[if_pos (h i h0 hi)]
   rw[<-NS s i h0 hi (by omega),hr]
   exact kC h (i+1) (by omega)
  ·exact W4 _ _ hi
termination_by i=>(len s-i).toNat
theorem kD(s:A1): ∀j:Int,0<=j->j<len (B1 s)->BN (A2 (B1 s) j) (j==0)=true:=λ j a b=>by
 have hb:=KF (s:=s) (i:=0) (Int.le_refl 0) (A8 s)
 rw[MX]at b
 have:=(ZS (s:=s) 0 (Int.le_refl 0)).1 j a b
 unfold B1
 rw[P3 (Int.le_refl 0) a (by omega) hb.2,Int.zero_add];exact this
theorem zK{s:A1}(h:B1 s≠[]):NT (B1 s)=true:=YM.2 ⟨h,kD s⟩
theorem zL{c:Int}{f:Bool}(h:BN c f=true):c<128:=by
 rcases Int.lt_or_le c 128 with x|x
 ·exact x
 ·rw[W0 x]at h;cases h
theorem zM(s:A1):FH (B1 s)=true:=kC (λ j a b=>zL (kD s j a b)) 0 (Int.le_refl 0)
theorem kE{s:A1}{t:Tk}{n:Int}(h:A7 s=(t,n,0)):G9 t=true:=by
 have hno:(AY=AY):=rfl
 unfold A7 at h
 split at h
 ·cases h;unfold G9;simp[zM]
 split at h
 ·simp only[Prod.mk.injEq]at h
  rw[<-h.1];unfold G9;simp[kB]
 split at h
 ·rename_i hm
  cases h
  rcases MW s with e|e
  ·exact absurd e hm
  ·unfold G9 bL;simp[e.1]
 split at h
 ·rename_i hw
  cases h;unfold G9;simp[zK hw]
 split at h
 ·simp only[Prod.mk.injEq]at h
  rw[<-h.1];unfold G9;simp[kB]
 split at h
 ·split at h
  ·rename_i hr
   simp only[Prod.mk.injEq]at h
   exact absurd h.2.2 hr
  ·rename_i hr
   cases h
   have:=(k7 (runN s)).1 (by simpa using hr)
   unfold G9;simp[this]
 ·simp at h
theorem zN{s:A1}{t:Tk}{n e:Int}(h:A7 s=(t,n,e)):e=0\/e=1\/e=2:=by
 have u1:=KG (A3 s 1)
 have u2:=KG s
 have r:=(k7 (runN s)).2
 unfold A7 at h
 repeat' split at h
 all_goals (simp only[Prod.mk.injEq]at h;omega)
def kF(r:A1):Prop:=r=[]\/ ∃q,r=32::q
theorem kF.stop {r:A1}(h:kF r)(v:A1):Stop v r:=by
 rcases h with rfl|⟨q,rfl⟩
 ·exact .inl U
 ·exact .inr (.inl ⟨by simp,rfl⟩)
theorem Lx.G9 {s:A1}{i:Int}{l:List Tk}(h:Lx s i l): ∀t∈l,Eng.G9 t=true:=by
 induction h with
 |done _ _=>intro t ht;cases ht
 | @step i n t l _ _ h _ ih=>
  intro t' ht
  rcases List.mem_cons.1 ht with rfl|ht
  ·have:Eng.G9 t=true:=kE h
   exact this
  ·exact ih t' ht
theorem EP.err {s:A1}{i p e:Int}(h:EP s i p e):e=1\/e=2:=by
 induction h with
 |here _ _ h he=>have:=zN h;omega
 |there _ _ _ _ ih=>exact ih
theorem zO{t:Tk}(h:Eng.G9 t=true)(hl:len t.s<=1048576):YN t:=by
 have h0:len t.c.s<=1048576/\ -1000000<=t.c.e/\t.c.e<=1000000:=by
  unfold Eng.G9 at h
  have no:t.c=AY->len t.c.s<=1048576/\ -1000000<=t.c.e/\t.c.e<=1000000:=λ e=>by rw[e];decide
  split at h
  ·simp only[Bool.and_eq_true,decide_eq_true_eq]at h;exact no h.2
  split at h
  ·simp only[Bool.and_eq_true,decide_eq_true_eq]at h;exact no h.2
  split at h
  ·simp only[Bool.and_eq_true,decide_eq_true_eq]at h;exact no h.2
  split at h
  ·simp only[Bool.and_eq_true]at h
   obtain⟨_,_,h1,h2,h3,_⟩:=jZ h.2
   omega
  ·cases h
 exact⟨hl,h0.1,λ _=>h0.2⟩
theorem zP(r:Int):len (Lib.encodeRuneZ r)<=4:=by
 unfold Lib.encodeRuneZ
 repeat' split
 all_goals (unfold len;simp)
theorem ZX{s:A1}: ∀(f:Nat) (i:Int) (acc:List Int),0<=i->i<=len s->len (CZ f s i acc).1<=len acc+4*(len s-i)
 |0,i,acc,h0,h1=>by unfold CZ;have:=A8 acc;rw[len_nil];omega
 |f+1,i,acc,h0,h1=>by
  have ha:=A8 acc
  have hn:len ([]:A1)=0:=rfl
  have he:=zP
  unfold CZ
  split
  ·rename_i hlt
   have hf:=CN s i h0 h1
   split
   ·have:len (toStr acc)=len acc:=by unfold toStr len;simp
    dsimp only;omega
   ·split
    ·have hb:=Y3 (A3 s i)
     split
     ·dsimp only;omega
     ·have:=ZX (s:=s) f (i+(B5 (A3 s i)).2) (acc++Lib.encodeRuneZ (B5 (A3 s i)).1) (by omega) (by omega)
      have:=he (B5 (A3 s i)).1
      rw[AG]at*
      omega
    ·split
     ·dsimp only;omega
     ·have hb:=QQ h0 hlt
      rw[OJ s i h0]
      have:=ZX (s:=s) f (i+runeLen s i) (acc++Lib.encodeRuneZ (AQ (A3 s i) 0)) (by omega) (by omega)
      have:=he (AQ (A3 s i) 0)
      rw[AG]at*
      omega
  ·dsimp only;omega
theorem V7(s:A1):len (AM s).1<=4*len s:=by
 have:=A8 s
 unfold AM
 split
 ·rename_i h
  have h1:(1:Int)<=len s:=U5 h
  have:=ZX (s:=s) s.length 1 [] (by omega) h1
  rw[len_nil]at this;omega
 ·show len ([]:A1)<=_
  rw[len_nil];omega
theorem zQ{s:A1}{t:Tk}{n:Int}(h:A7 s=(t,n,0)):len t.s<=4*len s+2:=by
 have h0:=A8 s
 have h1:=MP s 1
 have w1:=QP (A3 s 1)
 have w2:=QP s
 have u1:=V7 (A3 s 1)
 have u2:=V7 s
 have m1:len (BK s)<=2:=by
  rcases MW s with e|e
  ·rw[e];decide
  ·have: ∀m∈AD,len m<=2:=by decide
   exact this _ e.1
 have n0:len ([]:A1)=0:=rfl
 unfold A7 at h
 repeat' split at h
 all_goals (simp only[Prod.mk.injEq]at h;first|(rw[<-h.1];dsimp only;omega)|(exfalso;omega))
theorem Lx.bd {s:A1}(hs:len s<=100000){i:Int}{l:List Tk}(h:Lx s i l):(∀t∈l,YN t)/\(i<=len s->len l<=len s-i):=by
 induction h with
 |done _ _=>exact⟨λ t ht=>(by cases ht),λ x=>by rw[len_nil];omega⟩
 | @step i n t l h0 h1 h _ ih=>
  have hb:=HW h0 h1 h
  have hbl:=I6 s (i+n) (by omega) hb.2.1
  have hl:=zQ h
  have hf:=CN s i h0 (by omega)
  refine⟨λ t' ht=>?_,λ x=>?_⟩
  ·rcases List.mem_cons.1 ht with rfl|ht
   ·have:YN t:=zO (kE h) (by omega)
    exact this
   ·exact ih.1 t' ht
  ·have:=ih.2 hbl.2
   rw[AK];omega
end Go.Eng
