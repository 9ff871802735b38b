/-
  Parts Sa Sim Sd Joined Mid Wth Se, put together and made short by wip/py/merge.py (mini.py).
-/
import Derived.Test.YtmjpjbmeamnfpaaGreatDoorZe26
import Derived.Test.YtmjpjbmeamnfpaaGreatDoorZe28
import Derived.Test.YtmjpjbmeamnfpaaGreatDoorZe13
import Derived.Test.YtmjpjbmeamnfpaaGreatDoorZe22
import Derived.Test.YtmjpjbmeamnfpaaGreatDoorZe20
import Derived.Test.YtmjpjbmeamnfpaaGreatDoorZe25
import Derived.Test.YtmjpjbmeamnfpaaGreatDoorZe0
set_option linter.unusedVariables false
set_option linter.unusedSimpArgs false
set_option maxRecDepth 100000
namespace Go.Proofs.YtmjpjbmeamnfpaaGreatDoor
open Go.Eng
abbrev LY:A1:=[123,98,58,32,115,116,114,44,32,97,58,32,110,117,109,124,110,117,108,108,40,33,61,32,51,41,44,32,63,125]
abbrev l8:A1:=[91,110,117,109,44,32,115,116,114,93]
abbrev ND:A1:=[115,111,114,116,101,100,40,46,107,44,32,123,107,58,32,110,117,109,125,41]
theorem AF6:(B2 A4 DC LY).2=(0,0)/\len (B2 A4 DC LY).1=4/\(at' (B2 A4 DC LY).1 1).name=[97]/\(at' (B2 A4 DC LY).1 1).n=9/\(at' (B2 A4 DC LY).1 0).n=1:=by decide+kernel
theorem AF7:B2 A4 DC l8=([],4,1):=by decide+kernel
theorem AF8:(B2 A4 DC ND).2.2=0/\len (B2 A4 DC ND).1=3/\(at' (B2 A4 DC ND).1 0).s=[46,107]:=by decide+kernel
theorem VJ(w:World)(hg:Gl w):
  Calls Tryz.prog 16 [].toArray w λ e w'=>e= .returned (.bool true)/\Ext w w':=by
 obtain⟨a1,a2,a3,a4,a5⟩:=AF6
 obtain⟨c1,c2,c3⟩:=AF8
 obtain⟨z1,hz1⟩: ∃z,z=(B2 A4 DC LY).1:=⟨_,rfl⟩
 obtain⟨z3,hz3⟩: ∃z,z=(B2 A4 DC ND).1:=⟨_,rfl⟩
 obtain⟨y3,hy3⟩: ∃z,z=(B2 A4 DC ND).2.1:=⟨_,rfl⟩
 have e1:B2 A4 DC LY=(z1,0,0):=by rw[hz1];exact Prod.ext U a1
 have e3:B2 A4 DC ND=(z3,y3,0):=by rw[hz3,hy3];exact Prod.ext U (Prod.ext U c1)
 rw[<-hz1]at a2 a3 a4 a5
 rw[<-hz3]at c2 c3
 refine B3 AX Tryz.func16 U Tryz.ntmps16 [] [] [] U (GG w) AA (λ B hB=>?_) U
 refine HI (λ h:AO=>.tu [.sl 1 h.v,I 0,I 0]) [1] U (A0 U) (by omega) U Tryz.call17 U U (A0 U) (λ w M hX=>by have:=IH IK LY w M hX.st.sat (hg.low hX.st.low) (by decide);rw[e1]at this;exact this) (λ _=>rfl) λ h1 _=>?_
 refine HI (λ h:AO=>.tu [.sl 2 h.v,I 4,I 1]) [2] U (A0 U) (by omega) U Tryz.call17 U U (A0 U) (λ w M hX=>by have:=IH IK l8 w M hX.st.sat (hg.low hX.st.low) (by decide);rw[AF7]at this;exact this) (λ _=>rfl) λ h2 _=>?_
 refine HI (λ h:AO=>.tu [.sl 3 h.v,I y3,I 0]) [3] U (A0 U) (by omega) U Tryz.call17 U U (A0 U) (λ w M hX=>by have:=IH IK ND w M hX.st.sat (hg.low hX.st.low) (by decide);rw[e3]at this;exact this) (λ _=>rfl) λ h3 _=>?_
 refine AH hB U U (A0 U) (by simp only[zb]<;>omega) U (A0 U) λ w M hX=>⟨?_,hX.st.low⟩
 dsimp only
 rw[a2,a3,a4,a5,c2,c3];rfl
end Go.Proofs.YtmjpjbmeamnfpaaGreatDoor
namespace Go.Eng
def Sm{α:Type}(b:Bool)(o:Int)(r r':PR α):Prop:=
 (∀x j,r= .ok x j->r'= .ok x (j+o)\/(b=true/\ ∃p,r'= .er 3 p))/\(b=false-> ∀p,r= .er 3 p-> ∃p',r'= .er 3 p')
theorem Sm.ok {α:Type}{b:Bool}{o:Int}{x:α}{j j':Int}(h:j'=j+o):Sm b o (.ok x j) (.ok x j'):=
 ⟨λ y k e=>(by cases e;subst h;exact .inl rfl),λ _ p e=>(by cases e)⟩
theorem Sm.fail {α:Type}{b:Bool}{o:Int}{l:List Tk}{i:Int}{r':PR α}:Sm b o (B8 l i 1) r':=
 ⟨λ y k e=>(by cases e),λ _ p e=>(by cases e)⟩
theorem Sm.bind {α β:Type}{b:Bool}{o:Int}{r r':PR α}{k k':α->Int->PR β}(h:Sm b o r r')(hk: ∀x j,r= .ok x j->Sm b o (k x j) (k' x (j+o))):Sm b o (r.bind k) (r'.bind k'):=by
 cases r with
 |er c p=>
  refine⟨λ y m e=>(by cases e),λ hb p2 e=>?_⟩
  have e2:PR.er (α:=α) c p= .er 3 p2:=by cases e;rfl
  obtain⟨p',h2⟩:=h.2 hb p2 e2
  exact⟨p',by rw[h2];rfl⟩
 |ok x j=>
  rcases h.1 x j rfl with h2|⟨hb,p,h2⟩
  ·rw[h2];exact hk x j U
  ·rw[h2];exact⟨λ y m e=>.inr ⟨hb,p,rfl⟩,λ hb2=>by rw[hb]at hb2;cases hb2⟩
structure Vw (l l':List Tk) (o:Int):Prop where
 eq: ∀i,0<=i->i<len l->(at' l i).kind≠6->(at' l' (i+o)).kind=(at' l i).kind/\(at' l' (i+o)).s=(at' l i).s/\(at' l' (i+o)).c=(at' l i).c
 en: ∀i,0<=i->i<len l->(at' l i).kind=6->(at' l' (i+o)).kind=6\/((at' l' (i+o)).kind=1/\(at' l' (i+o)).s=[41])
 few:l.length<=l'.length
section
variable {l l':List Tk} {o:Int} (hl:C6 l) (v:Vw l l' o) {b:Bool} {i:Int} (h0:0<=i) (h1:i<len l)
include v h0 h1
theorem Vw.A9 {m:A1}(hm:m≠[41]):A9 l' (i+o) m=A9 l i m:=by
 unfold Go.Eng.A9
 by_cases h:(at' l i).kind=6
 ·have h2:((at' l i).kind==1)=false:=by rw[h];rfl
  rw[h2,Bool.false_and]
  rcases v.en i h0 h1 h with h3|⟨h3,h4⟩
  ·have:((at' l' (i+o)).kind==1)=false:=by rw[h3];rfl
   rw[this,Bool.false_and]
  ·have:((at' l' (i+o)).s==m)=false:=by rw[h4,beq_eq_false_iff_ne];exact λ e=>hm e.symm
   rw[this,Bool.and_false]
 ·obtain⟨h2,h3,_⟩:=v.eq i h0 h1 h
  rw[h2,h3]
theorem Vw.PF {m:A1}(hm:Go.Eng.A9 l i m=true):Go.Eng.A9 l' (i+o) m=true:=by
 have h:(at' l i).kind≠6:=λ e=>by unfold Go.Eng.A9 at hm;rw[e]at hm;simp at hm
 obtain⟨h2,h3,_⟩:=v.eq i h0 h1 h
 unfold Go.Eng.A9 at hm ⊢
 rw[h2,h3];exact hm
theorem Vw.kind {k:Int}(hk:k≠1/\k≠6):((at' l' (i+o)).kind=k)=((at' l i).kind=k):=by
 by_cases h:(at' l i).kind=6
 ·rw[h]
  rcases v.en i h0 h1 h with h3|⟨h3,_⟩
  ·rw[h3]
  ·rw[h3];exact propext ⟨λ e=>(hk.1 e.symm).elim,λ e=>(hk.2 e.symm).elim⟩
 ·rw[(v.eq i h0 h1 h).1]
theorem Vw.tok {k:Int}(hk:k≠6)(h:(at' l i).kind=k):(at' l' (i+o)).kind=k/\(at' l' (i+o)).s=(at' l i).s/\(at' l' (i+o)).c=(at' l i).c:=by
 have:=v.eq i h0 h1 (by rw[h];exact hk)
 rw[h]at this;exact this
theorem Sm.CI {m:A1}:Sm b o (AR l i m) (AR l' (i+o) m):=by
 unfold AR
 by_cases h:Go.Eng.A9 l i m=true
 ·rw[if_pos h,if_pos (v.PF h0 h1 h)];exact .ok (by omega)
 ·rw[if_neg h];exact .fail
theorem Sm.op {m:A1}{d d':Int}(hd:b=false->d=d'):Sm b o (C9 l d i m) (C9 l' d' (i+o) m):=by
 unfold C9
 by_cases h:Go.Eng.A9 l i m=true
 ·have h':=v.PF h0 h1 h
  rw[h,h',Bool.true_and,Bool.true_and]
  by_cases h6:64<=d
  ·rw[if_pos (decide_eq_true h6)]
   refine⟨λ x j e=>(by cases e),λ hb p e=>?_⟩
   rw[<-hd hb,if_pos (decide_eq_true h6)];exact⟨_,rfl⟩
  ·rw[if_neg (by simpa using h6)]
   by_cases h7:64<=d'
   ·rw[if_pos (decide_eq_true h7)]
    cases b with
    |true=>exact⟨λ x j e=>.inr ⟨rfl,_,rfl⟩,λ hb=>(by cases hb)⟩
    |false=>exact(h6 (by rw[hd U];exact h7)).elim
   ·rw[if_neg (by simpa using h7)];exact Sm.CI v h0 h1
 ·have h2:Go.Eng.A9 l i m=false:=by simpa using h
  rw[h2,Bool.false_and,if_neg (by simp)]
  unfold AR;rw[if_neg h];exact .fail
theorem Sm.whole:Sm b o (DU l i) (DU l' (i+o)):=by
 by_cases h:(at' l i).kind=5
 ·obtain⟨h2,_,h3⟩:=v.tok h0 h1 (by decide) h
  have e:GI (at' l' (i+o))=GI (at' l i):=by unfold GI;rw[h3]
  unfold DU
  rw[h2,h,h3,e]
  split
  ·exact .fail
  ·split
   ·exact .fail
   ·exact .ok (by omega)
 ·unfold DU;rw[if_pos (.inl h)];exact .fail
include hl
theorem Sm.call {α:Type}{d d':Int}{X X':Int->PR α}(hd:b=false->d=d')(hX:i+1<len l->Sm b o (X (i+1)) (X' (i+1+o)))(hb: ∀x k,i+1<len l->X (i+1)= .ok x k->0<=k/\k<len l):Sm b o (HL l d i X) (HL l' d' (i+o) X'):=by
 unfold HL
 refine Sm.bind (Sm.op v h0 h1 hd) λ u j e=>?_
 obtain⟨rfl,h2,_,_⟩:=E6 hl h0 h1 e
 refine Sm.bind (hX h2) λ x k e2=>?_
 obtain⟨h3,h4⟩:=hb x k h2 e2
 exact Sm.bind (Sm.CI v h3 h4) λ _ m _=>.ok U
omit h0 h1 in
theorem Sm.steps {dot:Bool}: ∀(f f':Nat) (xs:List Sp) (i:Int),f<=f'->0<=i->i<len l->Sm b o (DQ dot f l xs i) (DQ dot f' l' xs (i+o))
 |0,_,xs,i,_,_,_=>.fail
 |f+1,0,xs,i,h,_,_=>by omega
 |f+1,f'+1,xs,i,hf,h0,h1=>by
  unfold DQ
  have e:(Go.Eng.A9 l' (i+o) [91]=true\/(at' l' (i+o)).kind=3/\(dot=false\/xs≠[]))=(Go.Eng.A9 l i [91]=true\/(at' l i).kind=3/\(dot=false\/xs≠[])):=by rw[v.kind h0 h1 (by decide),v.A9 h0 h1 (by decide)]
  by_cases h:Go.Eng.A9 l i [91]=true\/(at' l i).kind=3/\(dot=false\/xs≠[])
  ·rw[if_pos h,if_pos (e.mpr h)]
   split
   ·exact .fail
   ·have hi:i+1<len l:=by
     rcases h with h|⟨h,_⟩
     ·exact DW hl h0 h1 h
     ·exact EZ hl h0 h1 h (by decide)
    have hk6:(at' l i).kind≠6:=by
     rcases h with h|⟨h,_⟩
     ·intro e6;unfold Go.Eng.A9 at h;rw[e6]at h;simp at h
     ·rw[h];decide
    obtain⟨h2,h3,_⟩:=v.eq i h0 h1 hk6
    rw[h2,h3,show i+o+1=i+1+o from by omega]
    split
    ·refine Sm.bind (Sm.whole v (by omega) hi) λ n j e2=>?_
     obtain⟨rfl,h5,_,_⟩:=R7 hl (by omega) hi e2
     refine Sm.bind (Sm.CI v (by omega) h5) λ u k e3=>?_
     obtain⟨rfl,h6,_⟩:=DS hl (by omega) h5 e3
     exact Sm.steps f f' _ _ (by omega) (by omega) h6
    ·exact Sm.steps f f' _ _ (by omega) (by omega) hi
  ·rw[if_neg h,if_neg (λ h'=>h (e.mp h'))];exact .ok U
theorem Sm.path {q:A1->A1}:Sm b o (GJ q l i) (GJ q l' (i+o)):=by
 unfold GJ
 rw[v.A9 h0 h1 (by decide)]
 split
 ·rename_i h
  rw[show i+o+1=i+1+o from by omega]
  exact Sm.bind (Sm.steps hl v _ _ _ _ v.few (by omega) (DW hl h0 h1 h)) λ xs j _=>.ok U
 ·by_cases h3:(at' l i).kind=3
  ·have h3':=(v.kind h0 h1 (k:=3) (by decide)).mpr h3
   rw[if_neg (λ n=>n h3),if_neg (λ n=>n h3')]
   exact Sm.bind (Sm.steps hl v _ _ _ _ v.few h0 h1) λ xs j _=>.ok U
  ·rw[if_pos h3];exact .fail
omit hl in
theorem Sm.lit:Sm b o (D0 l i) (D0 l' (i+o)):=by
 by_cases h6:(at' l i).kind=6
 ·have e:D0 l i=B8 l i 1:=by
   unfold D0;rw[h6];simp
  rw[e];exact .fail
 ·obtain⟨h2,h3,h4⟩:=v.eq i h0 h1 h6
  unfold D0
  rw[h2,h3,h4]
  split
  ·exact .ok (by omega)
  ·split
   ·exact .ok (by omega)
   ·split
    ·exact .ok (by omega)
    ·exact .fail
end
section
variable {l l':List Tk} {o:Int} (hl:C6 l) (v:Vw l l' o) (b:Bool) (q:A1->A1)
structure AM5 (l l':List Tk) (o:Int) (b:Bool) (q:A1->A1) (f:Nat):Prop where
 fil: ∀f' d d' i,f<=f'->(b=false->d=d')->0<=i->i<len l->Sm b o (LK q f l d i) (LK q f' l' d' (i+o))
 pip: ∀f' d d' xs i,f<=f'->(b=false->d=d')->0<=i->i<len l->Sm b o (ON q f l d xs i) (ON q f' l' d' xs (i+o))
 pos: ∀f' d d' i,f<=f'->(b=false->d=d')->0<=i->i<len l->Sm b o (LM q f l d i) (LM q f' l' d' (i+o))
 pri: ∀f' d d' i,f<=f'->(b=false->d=d')->0<=i->i<len l->Sm b o (QT q f l d i) (QT q f' l' d' (i+o))
 wor: ∀f' d d' i,f<=f'->(b=false->d=d')->0<=i->i<len l->(at' l i).kind=2->Sm b o (QU q f l d i) (QU q f' l' d' (i+o))
 obs: ∀f' d d' xs i,f<=f'->(b=false->d=d')->0<=i->i<len l->Sm b o (OO q f l d xs i) (OO q f' l' d' xs (i+o))
 lis: ∀f' d d' xs i,f<=f'->(b=false->d=d')->0<=i->i<len l->Sm b o (OP q f l d xs i) (OP q f' l' d' xs (i+o))
 eit: ∀f' d d' i,f<=f'->(b=false->d=d')->0<=i->i<len l->Sm b o (OQ q f l d i) (OQ q f' l' d' (i+o))
 eis: ∀f' d d' x i,f<=f'->(b=false->d=d')->0<=i->i<len l->Sm b o (OR q f l d x i) (OR q f' l' d' x (i+o))
 bot: ∀f' d d' i,f<=f'->(b=false->d=d')->0<=i->i<len l->Sm b o (OS q f l d i) (OS q f' l' d' (i+o))
 bos: ∀f' d d' x i,f<=f'->(b=false->d=d')->0<=i->i<len l->Sm b o (OT q f l d x i) (OT q f' l' d' x (i+o))
 sin: ∀f' d d' i,f<=f'->(b=false->d=d')->0<=i->i<len l->Sm b o (OU q f l d i) (OU q f' l' d' (i+o))
include hl v in
end
end Go.Eng
namespace Go.Eng
abbrev PG:List A1:=[[41],[93],[125],[44]]
theorem Sy.S5 {α:Type}{b:Bool}{o:Int}{r r':PR α}(h: ∃p,r= .er 1 p):Sm b o r r':=by
 obtain⟨p,rfl⟩:=h
 exact⟨λ y k e=>(by cases e),λ _ p e=>(by cases e)⟩
theorem aF{l:List Tk}{i:Int}{m:A1}(h6:(at' l i).kind=6): ∃p,AR l i m= .er 1 p:=by
 unfold AR A9;rw[h6];exact⟨_,rfl⟩
theorem S6{l:List Tk}{i:Int}{m:A1}(h6:(at' l i).kind=6):A9 l i m=false:=by unfold A9;rw[h6];rfl
structure Vy (l l':List Tk) (o:Int):Prop where
 eq: ∀i,0<=i->i<len l->(at' l i).kind≠6->(at' l' (i+o)).kind=(at' l i).kind/\(at' l' (i+o)).s=(at' l i).s/\(at' l' (i+o)).c=(at' l i).c
 en: ∀i,0<=i->i<len l->(at' l i).kind=6->(at' l' (i+o)).kind=6\/((at' l' (i+o)).kind=1/\(at' l' (i+o)).s∈PG)
 few:l.length<=l'.length
section
variable {l l':List Tk} {o:Int} (hl:C6 l) (v:Vy l l' o) {b:Bool} {i:Int} (h0:0<=i) (h1:i<len l)
include v h0 h1
theorem Vy.A9 {m:A1}(hm:m ∉ PG):A9 l' (i+o) m=A9 l i m:=by
 unfold Go.Eng.A9
 by_cases h:(at' l i).kind=6
 ·have h2:((at' l i).kind==1)=false:=by rw[h];rfl
  rw[h2,Bool.false_and]
  rcases v.en i h0 h1 h with h3|⟨h3,h4⟩
  ·have:((at' l' (i+o)).kind==1)=false:=by rw[h3];rfl
   rw[this,Bool.false_and]
  ·have:((at' l' (i+o)).s==m)=false:=by rw[beq_eq_false_iff_ne];exact λ e=>hm (e▸h4)
   rw[this,Bool.and_false]
 ·obtain⟨h2,h3,_⟩:=v.eq i h0 h1 h
  rw[h2,h3]
theorem Vy.PF {m:A1}(hm:Go.Eng.A9 l i m=true):Go.Eng.A9 l' (i+o) m=true:=by
 have h:(at' l i).kind≠6:=λ e=>by unfold Go.Eng.A9 at hm;rw[e]at hm;simp at hm
 obtain⟨h2,h3,_⟩:=v.eq i h0 h1 h
 unfold Go.Eng.A9 at hm ⊢
 rw[h2,h3];exact hm
theorem Vy.kind {k:Int}(hk:k≠1/\k≠6):((at' l' (i+o)).kind=k)=((at' l i).kind=k):=by
 by_cases h:(at' l i).kind=6
 ·rw[h]
  rcases v.en i h0 h1 h with h3|⟨h3,_⟩
  ·rw[h3]
  ·rw[h3];exact propext ⟨λ e=>(hk.1 e.symm).elim,λ e=>(hk.2 e.symm).elim⟩
 ·rw[(v.eq i h0 h1 h).1]
theorem Vy.tok {k:Int}(hk:k≠6)(h:(at' l i).kind=k):(at' l' (i+o)).kind=k/\(at' l' (i+o)).s=(at' l i).s/\(at' l' (i+o)).c=(at' l i).c:=by
 have:=v.eq i h0 h1 (by rw[h];exact hk)
 rw[h]at this;exact this
theorem Sy.CI {m:A1}:Sm b o (AR l i m) (AR l' (i+o) m):=by
 unfold AR
 by_cases h:Go.Eng.A9 l i m=true
 ·rw[if_pos h,if_pos (v.PF h0 h1 h)];exact .ok (by omega)
 ·rw[if_neg h];exact .fail
theorem Sy.op {m:A1}{d d':Int}(hd:b=false->d=d'):Sm b o (C9 l d i m) (C9 l' d' (i+o) m):=by
 unfold C9
 by_cases h:Go.Eng.A9 l i m=true
 ·have h':=v.PF h0 h1 h
  rw[h,h',Bool.true_and,Bool.true_and]
  by_cases h6:64<=d
  ·rw[if_pos (decide_eq_true h6)]
   refine⟨λ x j e=>(by cases e),λ hb p e=>?_⟩
   rw[<-hd hb,if_pos (decide_eq_true h6)];exact⟨_,rfl⟩
  ·rw[if_neg (by simpa using h6)]
   by_cases h7:64<=d'
   ·rw[if_pos (decide_eq_true h7)]
    cases b with
    |true=>exact⟨λ x j e=>.inr ⟨rfl,_,rfl⟩,λ hb=>(by cases hb)⟩
    |false=>exact(h6 (by rw[hd U];exact h7)).elim
   ·rw[if_neg (by simpa using h7)];exact Sy.CI v h0 h1
 ·have h2:Go.Eng.A9 l i m=false:=by simpa using h
  rw[h2,Bool.false_and,if_neg (by simp)]
  unfold AR;rw[if_neg h];exact .fail
theorem Sy.whole:Sm b o (DU l i) (DU l' (i+o)):=by
 by_cases h:(at' l i).kind=5
 ·obtain⟨h2,_,h3⟩:=v.tok h0 h1 (by decide) h
  have e:GI (at' l' (i+o))=GI (at' l i):=by unfold GI;rw[h3]
  unfold DU
  rw[h2,h,h3,e]
  split
  ·exact .fail
  ·split
   ·exact .fail
   ·exact .ok (by omega)
 ·unfold DU;rw[if_pos (.inl h)];exact .fail
include hl
theorem Sy.call {α:Type}{d d':Int}{X X':Int->PR α}(hd:b=false->d=d')(hX:i+1<len l->Sm b o (X (i+1)) (X' (i+1+o)))(hb: ∀x k,i+1<len l->X (i+1)= .ok x k->0<=k/\k<len l):Sm b o (HL l d i X) (HL l' d' (i+o) X'):=by
 unfold HL
 refine Sm.bind (Sy.op v h0 h1 hd) λ u j e=>?_
 obtain⟨rfl,h2,_,_⟩:=E6 hl h0 h1 e
 refine Sm.bind (hX h2) λ x k e2=>?_
 obtain⟨h3,h4⟩:=hb x k h2 e2
 exact Sm.bind (Sy.CI v h3 h4) λ _ m _=>.ok U
omit h0 h1 in
theorem Sy.steps {dot:Bool}: ∀(f f':Nat) (xs:List Sp) (i:Int),f<=f'->0<=i->i<len l->Sm b o (DQ dot f l xs i) (DQ dot f' l' xs (i+o))
 |0,_,xs,i,_,_,_=>.fail
 |f+1,0,xs,i,h,_,_=>by omega
 |f+1,f'+1,xs,i,hf,h0,h1=>by
  unfold DQ
  have e:(Go.Eng.A9 l' (i+o) [91]=true\/(at' l' (i+o)).kind=3/\(dot=false\/xs≠[]))=(Go.Eng.A9 l i [91]=true\/(at' l i).kind=3/\(dot=false\/xs≠[])):=by rw[v.kind h0 h1 (by decide),v.A9 h0 h1 (by decide)]
  by_cases h:Go.Eng.A9 l i [91]=true\/(at' l i).kind=3/\(dot=false\/xs≠[])
  ·rw[if_pos h,if_pos (e.mpr h)]
   split
   ·exact .fail
   ·have hi:i+1<len l:=by
     rcases h with h|⟨h,_⟩
     ·exact DW hl h0 h1 h
     ·exact EZ hl h0 h1 h (by decide)
    have hk6:(at' l i).kind≠6:=by
     rcases h with h|⟨h,_⟩
     ·intro e6;unfold Go.Eng.A9 at h;rw[e6]at h;simp at h
     ·rw[h];decide
    obtain⟨h2,h3,_⟩:=v.eq i h0 h1 hk6
    rw[h2,h3,show i+o+1=i+1+o from by omega]
    split
    ·refine Sm.bind (Sy.whole v (by omega) hi) λ n j e2=>?_
     obtain⟨rfl,h5,_,_⟩:=R7 hl (by omega) hi e2
     refine Sm.bind (Sy.CI v (by omega) h5) λ u k e3=>?_
     obtain⟨rfl,h6,_⟩:=DS hl (by omega) h5 e3
     exact Sy.steps f f' _ _ (by omega) (by omega) h6
    ·exact Sy.steps f f' _ _ (by omega) (by omega) hi
  ·rw[if_neg h,if_neg (λ h'=>h (e.mp h'))];exact .ok U
theorem Sy.path {q:A1->A1}:Sm b o (GJ q l i) (GJ q l' (i+o)):=by
 unfold GJ
 rw[v.A9 h0 h1 (by decide)]
 split
 ·rename_i h
  rw[show i+o+1=i+1+o from by omega]
  exact Sm.bind (Sy.steps hl v _ _ _ _ v.few (by omega) (DW hl h0 h1 h)) λ xs j _=>.ok U
 ·by_cases h3:(at' l i).kind=3
  ·have h3':=(v.kind h0 h1 (k:=3) (by decide)).mpr h3
   rw[if_neg (λ n=>n h3),if_neg (λ n=>n h3')]
   exact Sm.bind (Sy.steps hl v _ _ _ _ v.few h0 h1) λ xs j _=>.ok U
  ·rw[if_pos h3];exact .fail
omit hl in
theorem Sy.lit:Sm b o (D0 l i) (D0 l' (i+o)):=by
 by_cases h6:(at' l i).kind=6
 ·have e:D0 l i=B8 l i 1:=by
   unfold D0;rw[h6];simp
  rw[e];exact .fail
 ·obtain⟨h2,h3,h4⟩:=v.eq i h0 h1 h6
  unfold D0
  rw[h2,h3,h4]
  split
  ·exact .ok (by omega)
  ·split
   ·exact .ok (by omega)
   ·split
    ·exact .ok (by omega)
    ·exact .fail
end
section
variable {l l':List Tk} {o:Int} (hl:C6 l) (v:Vy l l' o) {b:Bool}
include hl v
omit v in
theorem aG{m i n j:Int}(h0:0<=i)(h1:i<len l)(h:GL l m i= .ok n j):j=i+1/\j<len l:=by
 unfold GL at h
 split at h
 ·rename_i q;cases h;exact⟨rfl,EZ hl h0 h1 q.1 (by decide)⟩
 ·exact(CO h).elim
omit hl in
theorem Sy.kind {m i:Int}(h0:0<=i)(h1:i<len l):Sm b o (GL l m i) (GL l' m (i+o)):=by
 unfold GL
 by_cases h:(at' l i).kind=2
 ·obtain⟨h2,h3,_⟩:=v.tok h0 h1 (by decide) h
  rw[h2,h3,h]
  split
  ·exact .ok (by omega)
  ·exact .fail
 ·rw[if_neg (λ q=>h q.1)];exact .fail
theorem Sy.kinds: ∀(f f':Nat) (m i:Int),f<=f'->0<=i->i<len l->Sm b o (H0 f l m i) (H0 f' l' m (i+o))
 |0,_,m,i,_,_,_=>.fail
 |f+1,0,m,i,h,_,_=>by omega
 |f+1,f'+1,m,i,hf,h0,h1=>by
  unfold H0
  rw[v.A9 h0 h1 (by decide)]
  split
  ·rename_i hm
   have h2:=DW hl h0 h1 hm
   rw[show i+o+1=i+1+o from by omega]
   refine Sm.bind (Sy.kind v (by omega) h2) λ n j e=>?_
   obtain⟨rfl,h3⟩:=aG hl (by omega) h2 e
   exact Sy.kinds f f' _ _ (by omega) (by omega) h3
  ·exact .ok U
omit v in
theorem l9: ∀(f:Nat) {m i n j:Int},0<=i->i<len l->H0 f l m i= .ok n j->i<=j/\j<len l
 |0,m,i,n,j,_,_,h=>(CO h).elim
 |f+1,m,i,n,j,h0,h1,h=>by
  unfold H0 at h
  split at h
  ·rename_i hm
   have h2:=DW hl h0 h1 hm
   obtain⟨x,k,h3,h4⟩:=BA h
   obtain⟨rfl,h5⟩:=aG hl (by omega) h2 h3
   have:=l9 f (by omega) h5 h4
   exact⟨by omega,this.2⟩
  ·cases h;exact⟨Int.le_refl _,h1⟩
theorem Sy.atom {i:Int}(h0:0<=i)(h1:i<len l):Sm b o (HM l i) (HM l' (i+o)):=by
 unfold HM
 by_cases h:(at' l i).kind=1/\(at' l i).s∈JZ
 ·obtain⟨h2,h3,_⟩:=v.eq i h0 h1 (by rw[h.1];decide)
  rw[if_pos h,h2,h3,if_pos h,show i+o+1=i+1+o from by omega]
  exact Sm.bind (Sy.lit v (by omega) (EZ hl h0 h1 h.1 (by decide))) λ c k _=>.ok U
 ·rw[if_neg h];exact .fail
theorem Sy.lA {α:Type}(F:List Tf->α): ∀(f f':Nat) (xs:List Tf) (i:Int),f<=f'->0<=i->i<len l->
  Sm b o ((I8 f l xs i).bind λ ys p=>(AR l p [41]).bind λ _ r=>.ok (F ys) r) ((I8 f' l' xs (i+o)).bind λ ys p=>(AR l' p [41]).bind λ _ r=>.ok (F ys) r)
 |0,_,xs,i,_,_,_=>Sy.S5 ⟨_,rfl⟩
 |f+1,0,xs,i,h,_,_=>by omega
 |f+1,f'+1,xs,i,hf,h0,h1=>by
  unfold I8
  by_cases hm:A9 l i [44]=true
  ·rw[if_pos hm,if_pos (v.PF h0 h1 hm),PR.assoc,PR.assoc]
   have h2:=DW hl h0 h1 hm
   rw[show i+o+1=i+1+o from by omega]
   refine Sm.bind (Sy.atom hl v (by omega) h2) λ x j e=>?_
   obtain⟨rfl,h3,_⟩:=P9 hl (by omega) h2 e
   exact Sy.lA F f f' _ _ (by omega) (by omega) h3
  ·rw[if_neg hm]
   by_cases h6:(at' l i).kind=6
   ·obtain⟨p,hp⟩:=aF (m:=[41]) h6
    exact Sy.S5 ⟨p,by show(AR l i [41]).bind _=_;rw[hp];rfl⟩
   ·obtain⟨h2,h3,_⟩:=v.eq i h0 h1 h6
    have hm': ¬A9 l' (i+o) [44]=true:=by unfold Go.Eng.A9 at hm ⊢;rw[h2,h3];exact hm
    rw[if_neg hm']
    show Sm b o ((AR l i [41]).bind _) ((AR l' (i+o) [41]).bind _)
    exact Sm.bind (Sy.CI v h0 h1) λ _ j _=>.ok U
theorem Sy.aH {d d' i:Int}(hd:b=false->d=d')(h0:0<=i)(h1:i<len l):Sm b o (J4 l d i) (J4 l' d' (i+o)):=by
 unfold J4
 refine Sm.bind (Sy.kind v h0 h1) λ m0 i0 e=>?_
 obtain⟨rfl,h2⟩:=aG hl h0 h1 e
 refine Sm.bind (Sy.kinds hl v _ _ _ _ v.few (by omega) h2) λ m j e2=>?_
 obtain⟨h3,h4⟩:=l9 hl _ (by omega) h2 e2
 rw[v.A9 (by omega) h4 (by decide)]
 split
 ·refine Sm.bind (Sy.op v (by omega) h4 hd) λ _ k e3=>?_
  obtain⟨rfl,h5,_,_⟩:=E6 hl (by omega) h4 e3
  refine Sm.bind (Sy.atom hl v (by omega) h5) λ x n e4=>?_
  obtain⟨rfl,h6,_⟩:=P9 hl (by omega) h5 e4
  exact Sy.lA hl v (KL m) _ _ _ _ v.few (by omega) h6
 ·exact .ok U
theorem Sy.S7 {rt:Tf->Bool}{kd i:Int}{X X':Int->PR Tf}(h0:0<=i)(h1:i<len l)(hX: ∀k,0<=k->k<len l->Sm b o (X k) (X' (k+o)))(hg: ∀k y m,0<=k->k<len l->X k= .ok y m->0<=m/\m<len l):Sm b o (EI A4 rt l kd i X) (EI A4 rt l' kd (i+o) X'):=by
 unfold EI
 refine Sm.bind (Sy.path hl v h0 h1) λ s j e=>?_
 obtain⟨h2,h3⟩:=fH hl h0 h1 e
 refine Sm.bind (Sy.CI v (by omega) h3) λ _ k e2=>?_
 obtain⟨rfl,h4,_⟩:=DS hl (by omega) h3 e2
 refine Sm.bind (hX _ (by omega) h4) λ y m e3=>?_
 obtain⟨h5,h6⟩:=hg _ y m (by omega) h4 e3
 refine Sm.bind (Sy.CI v h5 h6) λ _ n e4=>?_
 split
 ·exact .ok U
 ·exact .fail
end
theorem AF9{q:A1->A1}{rt:Tf->Bool}{f:Nat}{l:List Tk}{d i:Int}(h6:(at' l i).kind=6): ∃p,AP q rt f l d i= .er 1 p:=by
 cases f with
 |zero=>exact⟨_,rfl⟩
 |succ f=>
  rw[AP,if_neg (by rw[h6];decide),S6 h6,if_neg (by decide)]
  have e:C9 l d i [91]=B8 l i 1:=by unfold C9 AR;rw[S6 h6];rfl
  rw[e];exact⟨_,rfl⟩
structure AG0 (l l':List Tk) (o:Int) (b:Bool) (rt:Tf->Bool) (f:Nat):Prop where
 ty: ∀f' d d' i,f<=f'->(b=false->d=d')->0<=i->i<len l->Sm b o (AP A4 rt f l d i) (AP A4 rt f' l' d' (i+o))
 wd: ∀f' d d' i,f<=f'->(b=false->d=d')->0<=i->i<len l->(at' l i).kind=2->Sm b o (HN A4 rt f l d i) (HN A4 rt f' l' d' (i+o))
 ob: ∀f' d d' xs i,f<=f'->(b=false->d=d')->0<=i->i<len l->Sm b o (D1 A4 rt f l d xs i) (D1 A4 rt f' l' d' xs (i+o))
 tu: ∀f' d d' xs i,f<=f'->(b=false->d=d')->0<=i->i<len l->Sm b o ((D6 A4 rt f l d xs i).bind λ x k=>(AR l k [41]).bind λ _ m=>.ok x m) ((D6 A4 rt f' l' d' xs (i+o)).bind λ x k=>(AR l' k [41]).bind λ _ m=>.ok x m)
theorem aI(rt:Tf->Bool){l l':List Tk}{o:Int}(hl:C6 l)(v:Vy l l' o)(b:Bool): ∀f,AG0 l l' o b rt f
 |0=>⟨λ _ _ _ _ _ _ _ _=>.fail,λ _ _ _ _ _ _ _ _ _=>.fail,λ _ _ _ _ _ _ _ _ _=>.fail,λ _ _ _ _ _ _ _ _ _=>Sy.S5 ⟨_,rfl⟩⟩
 |f+1=>by
  have ih:=aI rt hl v b f
  have G:=IG rt hl f
  constructor
  ·intro f' d d' i hf hd h0 h1
   obtain⟨f',rfl⟩: ∃k,f'=k+1:=⟨f'-1,by omega⟩
   rw[AP,AP]
   by_cases h2:(at' l i).kind=2
   ·rw[if_pos h2,if_pos ((v.kind h0 h1 (k:=2) (by decide)).mpr h2)]
    exact ih.wd f' d d' i (by omega) hd h0 h1 h2
   ·rw[if_neg h2,if_neg (λ h=>h2 ((v.kind h0 h1 (k:=2) (by decide)).mp h)),v.A9 h0 h1 (by decide)]
    split
    ·refine Sm.bind (Sy.op v h0 h1 hd) λ u j e=>?_
     obtain⟨rfl,h4,_⟩:=E6 hl h0 h1 e
     exact ih.ob f' (d+1) (d'+1) [] _ (by omega) (λ h=>by rw[hd h]) (by omega) h4
    ·refine Sm.bind (Sy.op v h0 h1 hd) λ u j e=>?_
     obtain⟨rfl,h4,_⟩:=E6 hl h0 h1 e
     refine Sm.bind (ih.ty f' (d+1) (d'+1) _ (by omega) (λ h=>by rw[hd h]) (by omega) h4) λ x k e2=>?_
     have g:=G.ty _ _ _ _ (by omega) h4 e2
     exact Sm.bind (Sy.CI v (by have:=g.lt;omega) g.le) λ _ m _=>.ok U
  ·intro f' d d' i hf hd h0 h1 hk
   obtain⟨f',rfl⟩: ∃k,f'=k+1:=⟨f'-1,by omega⟩
   obtain⟨_,h3,_⟩:=v.tok h0 h1 (by decide) hk
   have h2:=EZ hl h0 h1 hk (by decide)
   have e1:i+o+1=i+1+o:=by omega
   rw[HN,HN,h3,e1]
   split
   ·exact .ok (by omega)
   split
   ·refine Sm.bind (Sy.op v (by omega) h2 hd) λ u j e=>?_
    obtain⟨rfl,h4,_⟩:=E6 hl (by omega) h2 e
    exact ih.tu f' (d+1) (d'+1) [] _ (by omega) (λ h=>by rw[hd h]) (by omega) h4
   split
   ·refine Sm.bind (Sy.op v (by omega) h2 hd) λ u j e=>?_
    obtain⟨rfl,h4,_⟩:=E6 hl (by omega) h2 e
    refine Sm.bind (ih.ty f' (d+1) (d'+1) _ (by omega) (λ h=>by rw[hd h]) (by omega) h4) λ x k e2=>?_
    have g:=G.ty _ _ _ _ (by omega) h4 e2
    exact Sm.bind (Sy.CI v (by have:=g.lt;omega) g.le) λ _ m _=>.ok U
   split
   ·refine Sm.bind (Sy.op v (by omega) h2 hd) λ u j e=>?_
    obtain⟨rfl,h4,_⟩:=E6 hl (by omega) h2 e
    exact Sy.S7 hl v (by omega) h4 (λ k a c=>ih.ty f' (d+1) (d'+1) k (by omega) (λ h=>by rw[hd h]) a c) λ k y m a c e2=>by
     have g:=G.ty _ _ _ _ a c e2
     exact⟨by have:=g.lt;omega,g.le⟩
   split
   ·refine Sm.bind (Sy.op v (by omega) h2 hd) λ u j e=>?_
    obtain⟨rfl,h4,_⟩:=E6 hl (by omega) h2 e
    exact Sy.S7 hl v (by omega) h4 (λ k a c=>ih.ty f' (d+1) (d'+1) k (by omega) (λ h=>by rw[hd h]) a c) λ k y m a c e2=>by
     have g:=G.ty _ _ _ _ a c e2
     exact⟨by have:=g.lt;omega,g.le⟩
   ·exact Sy.aH hl v hd h0 h1
  ·intro f' d d' xs i hf hd h0 h1
   obtain⟨f',rfl⟩: ∃k,f'=k+1:=⟨f'-1,by omega⟩
   rw[D1,D1]
   by_cases h6:(at' l i).kind=6
   ·refine Sy.S5 ?_
    rw[S6 h6,if_neg (by decide)]
    obtain⟨p,hp⟩:=aF (m:=[44]) h6
    split
    ·refine⟨(at' l i).pos,?_⟩
     show(if A9 l i [63]=true then _ else _)=_
     rw[S6 h6,if_neg (by decide),if_pos (.inl ⟨by rw[h6];decide,by rw[h6];decide⟩)];rfl
    ·exact⟨p,by rw[hp];rfl⟩
   obtain⟨k1,k2,_⟩:=v.eq i h0 h1 h6
   have hme:A9 l' (i+o) [125]=A9 l i [125]:=by unfold Go.Eng.A9;rw[k1,k2]
   rw[hme]
   split
   ·exact .ok (by omega)
   ·have h2:Sm b o (if xs.isEmpty then PR.ok () i else AR l i [44]) (if xs.isEmpty then PR.ok () (i+o)else AR l' (i+o) [44]):=by
     split
     ·exact .ok U
     ·exact Sy.CI v h0 h1
    refine Sm.bind h2 λ u j e=>?_
    have hj:0<=j/\j<len l:=by
     split at e
     ·cases e;exact⟨h0,h1⟩
     ·obtain⟨rfl,h3,_⟩:=DS hl h0 h1 e;exact⟨by omega,h3⟩
    rw[v.A9 hj.1 hj.2 (by decide)]
    split
    ·rename_i hq
     have hj1:=DW hl hj.1 hj.2 hq
     rw[show j+o+1=j+1+o from by omega,v.A9 (by omega) hj1 (by decide)]
     split
     ·rename_i hc
      have hj2:=DW hl (by omega) hj1 (by rw[Bool.and_eq_true]at hc;exact hc.2)
      rw[show j+o+2=j+2+o from by omega]
      refine Sm.bind (ih.ty f' d d' _ (by omega) hd (by omega) (by omega)) λ x k e2=>?_
      have g:=G.ty _ _ _ _ (by omega) (by omega) e2
      exact Sm.bind (Sy.CI v (by have:=g.lt;omega) g.le) λ _ m _=>.ok U
     ·exact Sm.bind (Sy.CI v (by omega) hj1) λ _ m _=>.ok U
    ·by_cases hc:(at' l j).kind≠2/\(at' l j).kind≠4\/(at' l j).s∈xs.map (λ x=>x.t.name)
     ·rw[if_pos hc];exact .fail
     ·have hk:(at' l j).kind≠6:=λ e6=>hc (.inl ⟨by rw[e6];decide,by rw[e6];decide⟩)
      obtain⟨h4,h5,_⟩:=v.eq j hj.1 hj.2 hk
      rw[if_neg hc,h4,h5,if_neg hc,show j+o+1=j+1+o from by omega]
      have h6:=hl.last j hj.1 hj.2 hk
      refine Sm.bind (Sy.CI v (by omega) h6) λ u k e2=>?_
      obtain⟨rfl,h7,_⟩:=DS hl (by omega) h6 e2
      refine Sm.bind (ih.ty f' d d' _ (by omega) hd (by omega) h7) λ x m e3=>?_
      have g:=G.ty _ _ _ _ (by omega) h7 e3
      exact ih.ob f' d d' _ m (by omega) hd (by have:=g.lt;omega) g.le
  ·intro f' d d' xs i hf hd h0 h1
   obtain⟨f',rfl⟩: ∃k,f'=k+1:=⟨f'-1,by omega⟩
   rw[D6,D6]
   by_cases h6:(at' l i).kind=6
   ·refine Sy.S5 ?_
    rw[S6 h6,if_neg (by decide)]
    obtain⟨p,hp⟩:=aF (m:=[44]) h6
    obtain⟨p2,hp2⟩:=AF9 (q:=A4) (rt:=rt) (f:=f) (d:=d) h6
    split
    ·refine⟨p2,?_⟩
     show((AP A4 rt f l d i).bind _).bind _=_
     rw[hp2];rfl
    ·exact⟨p,by rw[hp];rfl⟩
   obtain⟨k1,k2,_⟩:=v.eq i h0 h1 h6
   have hme:A9 l' (i+o) [41]=A9 l i [41]:=by unfold Go.Eng.A9;rw[k1,k2]
   rw[hme]
   split
   ·show Sm b o ((AR l i [41]).bind _) ((AR l' (i+o) [41]).bind _)
    exact Sm.bind (Sy.CI v h0 h1) λ _ m _=>.ok U
   ·have h2:Sm b o (if xs.isEmpty then PR.ok () i else AR l i [44]) (if xs.isEmpty then PR.ok () (i+o)else AR l' (i+o) [44]):=by
     split
     ·exact .ok U
     ·exact Sy.CI v h0 h1
    rw[PR.assoc,PR.assoc]
    refine Sm.bind h2 λ u j e=>?_
    have hj:0<=j/\j<len l:=by
     split at e
     ·cases e;exact⟨h0,h1⟩
     ·obtain⟨rfl,h3,_⟩:=DS hl h0 h1 e;exact⟨by omega,h3⟩
    rw[PR.assoc,PR.assoc]
    refine Sm.bind (ih.ty f' d d' _ (by omega) hd hj.1 hj.2) λ x m e3=>?_
    have g:=G.ty _ _ _ _ hj.1 hj.2 e3
    exact ih.tu f' d d' _ m (by omega) hd (by have:=g.lt;omega) g.le
end Go.Eng
namespace Go.Eng
open Go.RowKit
section aN
variable {a b:A1}
abbrev GP(a b:A1):A1:=a++[32]++b
theorem lB:GP a b=a++(32::b):=by simp[GP]
theorem PH:len (GP a b)=len a+1+len b:=by rw[lB,AG,AK];omega
theorem VK{j:Int}(h:0<=j):A3 (GP a b) (len a+1+j)=A3 b j:=by
 have e:GP a b=(a++[32])++b:=rfl
 have hl:len (a++[32])=len a+1:=by rw[AG];rfl
 rw[e,<-MT _ (len a+1) j (by have:=A8 a;omega) h,<-hl,ZN]
theorem lC{i:Int}(h0:0<=i)(h1:i<=len a):A3 (GP a b) i=A3 a i++(32::b):=by rw[lB,jO h0 h1]
theorem lD{j:Int}(h:0<=j):AV (GP a b) (len a+1+j)=len a+1+AV b j:=by
 have:=A8 a
 rw[KW (by omega),VK h,KW (s:=b) h];omega
theorem aJ(v:A1): ∀u:A1,AV (u++v) 0=if AV u 0<len u then AV u 0 else len u+AV v 0
 |[]=>by rw[zG,len_nil];simp
 |x::u=>by
  rw[List.cons_append]
  have hl:=A8 u
  cases hx:IN (x.toNat:Int)with
  |true=>
   have:=aJ v u
   rw[V3 hx,V3 hx,this,AK]
   by_cases h:AV u 0<len u
   ·rw[if_pos h,if_pos (by omega)]
   ·rw[if_neg h,if_neg (by omega)];omega
  |false=>rw[N9 hx,N9 hx,if_pos (by rw[AK];omega)]
theorem lE{k:Int}(h0:0<=k)(h1:k<=len a):AV (GP a b) k=if AV a k<len a then AV a k else len a+1+AV b 0:=by
 have hl:=CN a k h0 h1
 rw[KW h0,lC h0 h1,aJ,KW (s:=a) h0,V3 (by decide),hl]
 by_cases h:AV (A3 a k) 0<len a-k
 ·rw[if_pos h,if_pos (by omega)]
 ·rw[if_neg h,if_neg (by omega)];omega
theorem lF{i n:Int}{t:Tk}(h0:0<=i)(h1:i<len a)(h:A7 (A3 a i)=(t,n,0)):A7 (A3 (GP a b) i)=(t,n,0):=by
 obtain⟨u,v,e,hn,hu,_,_,ht⟩:=jY h0 h1 h
 rw[lC h0 (by omega),e,List.append_assoc,<-hn]
 refine ZT hu ht ?_
 cases v with
 |nil=>exact .inr (.inl ⟨by simp,rfl⟩)
 |cons c r=>exact .inr (.inr ⟨by simp,by simp,rfl⟩)
abbrev aK(a b:A1):Int:=len a+1+AV b 0
abbrev PI(a b:A1)(i:Int):Int:=if i<len a then i else aK a b
theorem Lx.left {m:List Tk}(hm:Lx (GP a b) (aK a b) m){i:Int}{l:List Tk}(h:Lx a i l):Lx (GP a b) (PI a b i) (l++m):=by
 induction h with
 |done h0 h1=>unfold PI;rw[if_neg h1];exact hm
 | @step i n t l h0 h1 h _ ih=>
  have hb:=HW h0 h1 h
  have hbl:=I6 a (i+n) (by omega) hb.2.1
  unfold PI
  rw[if_pos h1]
  refine .step h0 (by rw[PH];have:=A8 b;omega) (lF h0 h1 h) ?_
  rw[lE (by omega) hb.2.1];exact ih
theorem EP.left {p e:Int}(hm:EP (GP a b) (aK a b) p e){i:Int}{l:List Tk}(h:Lx a i l):EP (GP a b) (PI a b i) p e:=by
 induction h with
 |done h0 h1=>unfold PI;rw[if_neg h1];exact hm
 | @step i n t l h0 h1 h _ ih=>
  have hb:=HW h0 h1 h
  unfold PI
  rw[if_pos h1]
  refine .there h0 (by rw[PH];have:=A8 b;omega) (lF h0 h1 h) ?_
  rw[lE (by omega) hb.2.1];exact ih
def BW(k:Int)(t:Tk):Tk:= { t with pos:=k+t.pos}
theorem Lx.right {i:Int}{l:List Tk}(h:Lx b i l):Lx (GP a b) (len a+1+i) (l.map (BW (len a+1))):=by
 have ha:=A8 a
 induction h with
 |done h0 h1=>exact .done (by omega) (by rw[PH];omega)
 | @step i n t l h0 h1 h _ ih=>
  have hb:=HW h0 h1 h
  refine Lx.step (t:=t) (n:=n) (by omega) (by rw[PH];omega) (by rw[VK h0];exact h) ?_
  rw[show len a+1+i+n=len a+1+(i+n)from by omega,lD (by omega)];exact ih
theorem EP.right {i p e:Int}(h:EP b i p e):EP (GP a b) (len a+1+i) (len a+1+p) e:=by
 have ha:=A8 a
 induction h with
 | @here i n e t h0 h1 h he=>
  rw[show len a+1+(i+n)=len a+1+i+n from by omega]
  exact .here (by omega) (by rw[PH];omega) (by rw[VK h0];exact h) he
 | @there i n p e t h0 h1 h _ ih=>
  have hb:=HW h0 h1 h
  refine EP.there (t:=t) (n:=n) (by omega) (by rw[PH];omega) (by rw[VK h0];exact h) ?_
  rw[show len a+1+i+n=len a+1+(i+n)from by omega,lD (by omega)];exact ih
end aN
end Go.Eng
namespace Go.Eng
section PU
variable {p s q:A1}
abbrev CB(p s q:A1):A1:=p++(s++q)
theorem VL:len (CB p s q)=len p+len s+len q:=by rw[AG,AG];omega
theorem VM{i:Int}(h0:0<=i)(h1:i<=len s):A3 (CB p s q) (len p+i)=A3 s i++q:=by
 rw[<-MT _ (len p) i (A8 p) h0,ZN,jO h0 h1]
abbrev FE(p s q:A1):Int:=AV (CB p s q) (len p+len s)
theorem S8:FE p s q=len p+len s+AV q 0:=by
 have hp:=A8 p;have hs:=A8 s
 unfold FE
 rw[KW (by omega),VM hs (Int.le_refl _),show A3 s (len s)=[]from XR s _ (Int.le_refl _),List.nil_append]
theorem lG{k:Int}(h0:0<=k)(h1:k<=len s):AV (CB p s q) (len p+k)=if AV s k<len s then len p+AV s k else FE p s q:=by
 have hp:=A8 p
 have hl:=CN s k h0 h1
 rw[S8,KW (by omega),VM h0 h1,aJ,KW (s:=s) h0,hl]
 by_cases h:AV (A3 s k) 0<len s-k
 ·rw[if_pos h,if_pos (by omega)];omega
 ·rw[if_neg h,if_neg (by omega)];omega
theorem AG1(hq:q=[]\/HV (A2 q 0)=true){i n:Int}{t:Tk}(h0:0<=i)(h1:i<len s)(h:A7 (A3 s i)=(t,n,0)):A7 (A3 (CB p s q) (len p+i))=(t,n,0):=by
 obtain⟨u,v,e,hn,hu,_,_,ht⟩:=jY h0 h1 h
 rw[VM h0 (by omega),e,List.append_assoc,<-hn]
 refine ZT hu ht ?_
 cases v with
 |nil=>
  rcases hq with rfl|hq
  ·exact .inl U
  ·cases q with
   |nil=>exact .inl U
   |cons c r=>exact .inr (.inl ⟨by simp,hq⟩)
 |cons c r=>exact .inr (.inr ⟨by simp,by simp,rfl⟩)
theorem Lx.PU (hq:q=[]\/HV (A2 q 0)=true){m:List Tk}(hm:Lx (CB p s q) (FE p s q) m){i:Int}{l:List Tk}(h:Lx s i l):Lx (CB p s q) (if i<len s then len p+i else FE p s q) (l.map (BW (len p))++m):=by
 have hp:=A8 p
 induction h with
 |done h0 h1=>rw[if_neg h1];exact hm
 | @step i n t l h0 h1 h _ ih=>
  have hb:=HW h0 h1 h
  rw[if_pos h1]
  refine Lx.step (t:=t) (n:=n) (by omega) (by rw[VL];have:=A8 q;omega) (AG1 hq h0 h1 h) ?_
  rw[show len p+i+n=len p+(i+n)from by omega,lG (by omega) hb.2.1];exact ih
theorem Lx.aL (hq:q=[]\/HV (A2 q 0)=true){m:List Tk}(hm:Lx (CB p s q) (FE p s q) m){l:List Tk}(h:Lx s (AV s 0) l):Lx (CB p s q) (AV (CB p s q) (len p)) (l.map (BW (len p))++m):=by
 have:=Lx.PU hq hm h
 have e:=lG (p:=p) (s:=s) (q:=q) (k:=0) (Int.le_refl 0) (A8 s)
 rw[Int.add_zero]at e
 rw[e];exact this
end PU
end Go.Eng
namespace Go.Eng
def Er{α:Type}(r:PR α):Prop:= ∀c p,r= .er c p->c≠0
theorem Er.ok {α:Type}{x:α}{j:Int}:Er (.ok x j):=λ c p e=>by cases e
theorem Er.fail {α:Type}{l:List Tk}{i e:Int}(he:e≠0):Er (B8 l i e:PR α):=λ c p h=>by cases h;exact he
theorem Er.bind {α β:Type}{r:PR α}{k:α->Int->PR β}(h:Er r)(hk: ∀x j,Er (k x j)):Er (r.bind k):=by
 cases r with
 |er c p=>exact λ c' p' e=>by cases e;exact h c p rfl
 |ok x j=>exact hk x j
theorem Er.CI {l:List Tk}{i:Int}{m:A1}:Er (AR l i m):=by unfold AR;split;exact .ok;exact .fail (by decide)
theorem Er.op {l:List Tk}{d i:Int}{m:A1}:Er (C9 l d i m):=by unfold C9;split;exact .fail (by decide);exact .CI
theorem Er.call {α:Type}{l:List Tk}{d i:Int}{X:Int->PR α}(h: ∀j,Er (X j)):Er (HL l d i X):=Er.op.bind λ _ j=>(h j).bind λ _ _=>Er.CI.bind λ _ _=>.ok
theorem Er.whole {l:List Tk}{i:Int}:Er (DU l i):=by unfold DU;split;exact .fail (by decide);split;exact .fail (by decide);exact .ok
theorem Er.steps {l:List Tk}{dot:Bool}: ∀(f:Nat) (xs:List Sp) (i:Int),Er (DQ dot f l xs i)
 |0,_,_=>.fail (by decide)
 |f+1,xs,i=>by
  unfold DQ;split
  ·split
   ·exact .fail (by decide)
   ·split
    ·exact Er.whole.bind λ _ _=>Er.CI.bind λ _ _=>Er.steps f _ _
    ·exact Er.steps f _ _
  ·exact .ok
theorem Er.path {l:List Tk}{i:Int}{q:A1->A1}:Er (GJ q l i):=by
 unfold GJ;split
 ·exact(Er.steps _ _ _).bind λ _ _=>.ok
 ·split
  ·exact .fail (by decide)
  ·exact(Er.steps _ _ _).bind λ _ _=>.ok
theorem Er.lit {l:List Tk}{i:Int}:Er (D0 l i):=by
 unfold D0;split
 ·exact .ok
 ·split
  ·exact .ok
  ·split
   ·exact .ok
   ·exact .fail (by decide)
structure AM6 (l:List Tk) (q:A1->A1) (f:Nat):Prop where
 fil: ∀d i,Er (LK q f l d i)
 pip: ∀d xs i,Er (ON q f l d xs i)
 pos: ∀d i,Er (LM q f l d i)
 pri: ∀d i,Er (QT q f l d i)
 wor: ∀d i,Er (QU q f l d i)
 obs: ∀d xs i,Er (OO q f l d xs i)
 lis: ∀d xs i,Er (OP q f l d xs i)
 eit: ∀d i,Er (OQ q f l d i)
 eis: ∀d x i,Er (OR q f l d x i)
 bot: ∀d i,Er (OS q f l d i)
 bos: ∀d x i,Er (OT q f l d x i)
 sin: ∀d i,Er (OU q f l d i)
theorem AG2{s:A1}{t:Tk}{n:Int}(h:A7 s=(t,n,0)):t.kind≠6:=by
 unfold A7 at h
 repeat' split at h
 all_goals simp only[Prod.mk.injEq]at h
 all_goals obtain⟨h1,h2,h3⟩:=h
 all_goals subst h1
 all_goals first|(simp;done)|(simp[Y1];done)
theorem Lx.kind {s:A1}{i:Int}{l:List Tk}(h:Lx s i l): ∀t∈l,t.kind≠6:=by
 induction h with
 |done=>intro t ht;cases ht
 |step _ _ ht _ ih=>
  intro t hm
  rcases List.mem_cons.1 hm with rfl|hm
  ·have h6:=AG2 ht;exact h6
  ·exact ih t hm
theorem VN{α:Type}[Inhabited α](A B:List α){i:Int}(h0:0<=i):at' (A++B) (i+len A)=at' B i:=by
 have hA:(i+len A).toNat=i.toNat+A.length:=by unfold len;omega
 unfold at'
 rw[List.getD_eq_getElem?_getD,List.getD_eq_getElem?_getD,hA,List.getElem?_append_right (by omega),Nat.add_sub_cancel]
theorem Vw.self (l:List Tk):Vw l l 0:=⟨λ i _ _ _=>by rw[Int.add_zero];exact⟨rfl,rfl,rfl⟩,λ i _ _ h=>.inl (by rw[Int.add_zero];exact h),Nat.le_refl _⟩
theorem lH{p s q:A1}(hq:AV q 0=0):At (CB p s q) (FE p s q) q:=by
 have h1:=A8 p;have h2:=A8 s;have h3:=A8 q
 rw[S8,hq,Int.add_zero]
 refine⟨by omega,by rw[VL];omega,?_⟩
 rw[VM h2 (Int.le_refl _),show A3 s (len s)=[]from XR s _ (Int.le_refl _),List.nil_append]
end Go.Eng
namespace Go.Eng
theorem Er.kind {l:List Tk}{m i:Int}:Er (GL l m i):=by unfold GL;split;exact .ok;exact .fail (by decide)
theorem Er.kinds {l:List Tk}: ∀(f:Nat) (m i:Int),Er (H0 f l m i)
 |0,_,_=>.fail (by decide)
 |f+1,m,i=>by
  unfold H0;split
  ·exact Er.kind.bind λ _ _=>Er.kinds f _ _
  ·exact .ok
theorem Er.atom {l:List Tk}{i:Int}:Er (HM l i):=by
 unfold HM;split
 ·exact Er.lit.bind λ _ _=>.ok
 ·exact .fail (by decide)
theorem Er.atoms {l:List Tk}: ∀(f:Nat) (xs:List Tf) (i:Int),Er (I8 f l xs i)
 |0,_,_=>.fail (by decide)
 |f+1,xs,i=>by
  unfold I8;split
  ·exact Er.atom.bind λ _ _=>Er.atoms f _ _
  ·exact .ok
theorem Er.aH {l:List Tk}{d i:Int}:Er (J4 l d i):=by
 unfold J4
 refine Er.kind.bind λ _ _=>(Er.kinds _ _ _).bind λ _ _=>?_
 split
 ·exact Er.op.bind λ _ _=>Er.atom.bind λ _ _=>(Er.atoms _ _ _).bind λ _ _=>Er.CI.bind λ _ _=>.ok
 ·exact .ok
theorem Er.S7 {q:A1->A1}{rt:Tf->Bool}{l:List Tk}{k i:Int}{X:Int->PR Tf}(h: ∀j,Er (X j)):Er (EI q rt l k i X):=by
 unfold EI
 refine Er.path.bind λ _ _=>Er.CI.bind λ _ _=>(h _).bind λ _ _=>Er.CI.bind λ _ _=>?_
 split
 ·exact .ok
 ·exact .fail (by decide)
structure AG3 (l:List Tk) (q:A1->A1) (rt:Tf->Bool) (f:Nat):Prop where
 ty: ∀d i,Er (AP q rt f l d i)
 wd: ∀d i,Er (HN q rt f l d i)
 ob: ∀d xs i,Er (D1 q rt f l d xs i)
 tu: ∀d xs i,Er (D6 q rt f l d xs i)
theorem lI(l:List Tk)(q:A1->A1)(rt:Tf->Bool): ∀f,AG3 l q rt f
 |0=>⟨λ _ _=>.fail (by decide),λ _ _=>.fail (by decide),λ _ _ _=>.fail (by decide),λ _ _ _=>.fail (by decide)⟩
 |f+1=>by
  have ih:=lI l q rt f
  constructor
  ·intro d i;rw[AP];split
   ·exact ih.wd _ _
   ·split
    ·exact Er.op.bind λ _ _=>ih.ob _ _ _
    ·exact Er.op.bind λ _ _=>(ih.ty _ _).bind λ _ _=>Er.CI.bind λ _ _=>.ok
  ·intro d i;rw[HN];split
   ·exact .ok
   ·split
    ·exact Er.op.bind λ _ _=>(ih.tu _ _ _).bind λ _ _=>Er.CI.bind λ _ _=>.ok
    ·split
     ·exact Er.op.bind λ _ _=>(ih.ty _ _).bind λ _ _=>Er.CI.bind λ _ _=>.ok
     ·split
      ·exact Er.op.bind λ _ _=>Er.S7 λ j=>ih.ty _ _
      ·split
       ·exact Er.op.bind λ _ _=>Er.S7 λ j=>ih.ty _ _
       ·exact .aH
  ·intro d xs i;rw[D1];split
   ·exact .ok
   ·refine Er.bind (by split;exact .ok;exact .CI) λ _ j=>?_
    split
    ·split
     ·exact(ih.ty _ _).bind λ _ _=>Er.CI.bind λ _ _=>.ok
     ·exact Er.CI.bind λ _ _=>.ok
    ·split
     ·exact .fail (by decide)
     ·exact Er.CI.bind λ _ _=>(ih.ty _ _).bind λ _ _=>ih.ob _ _ _
  ·intro d xs i;rw[D6];split
   ·exact .ok
   ·exact Er.bind (by split;exact .ok;exact .CI) λ _ j=>(ih.ty _ _).bind λ _ _=>ih.tu _ _ _
theorem lJ{rt:Tf->Bool}{s:A1}(hs:len s<=100000)(h:(B2 A4 rt s).2.2=0):
  ∃l x,Lx s (AV s 0) l/\BB s=(l++[BH s],0,0)/\C6 (l++[BH s])/\AP A4 rt (4*(l++[BH s]).length+4) (l++[BH s]) 0 0= .ok x (len l)/\B2 A4 rt s=(x.flat,0,0)/\len x.flat<=1048576:=by
 have hz:(BB s).2.2=0:=by
  rcases Classical.em ((BB s).2.2=0)with hz|hz
  ·exact hz
  ·unfold B2 at h;rw[if_pos hz]at h;exact h
 obtain⟨l,hx,he⟩:=ZV hz
 have hk:=kG hs hz
 rw[he]at hk
 dsimp only at hk
 have e1:B2 A4 rt s=K0 A4 rt (l++[BH s]):=by unfold B2;rw[he];simp
 have hle:len (l++[BH s])=len l+1:=by rw[AG];rfl
 have hl0:=A8 l
 rw[e1]at h ⊢
 unfold K0 at h ⊢
 cases hr:AP A4 rt (4*(l++[BH s]).length+4) (l++[BH s]) 0 0 with
 |er c p=>rw[hr]at h;exact absurd h ((lI _ A4 rt _).ty _ _ _ _ hr)
 |ok x j=>
  rw[hr]at h
  dsimp only at h
  by_cases h6:(at' (l++[BH s]) j).kind=6
  ·have g:=(IG rt hk _).ty 0 0 x j (Int.le_refl 0) (by omega) hr
   have hlt:=g.lt;have hgl:=g.le
   have hj:j=len l:=by
    rcases Int.lt_or_le j (len l)with h2|h2
    ·exfalso;rw[UF _ _ (by omega) h2]at h6;exact hx.kind _ (at_mem (by omega) h2) h6
    ·omega
   subst hj
   exact⟨l,x,hx,he,hk,hr,by dsimp only;rw[if_pos h6],by have:=g.size;have:=hk.few;omega⟩
  ·rw[if_neg h6]at h;exact absurd h (by show ¬(1:Int)=0;decide)
theorem AG4{l A r:List Tk}{e t:Tk}{k:Int}(he:e.kind=6)(hk: ∀t∈l,t.kind≠6)(ht:t.kind=6\/t.kind=1/\t.s∈PG):Vy (l++[e]) (A++(l.map (BW k)++t::r)) (len A):=by
 have hlm:len (l.map (BW k))=len l:=by unfold len;rw[List.length_map]
 have hle:len (l++[e])=len l+1:=by rw[AG];rfl
 have hend:at' (l++[e]) (len l)=e:=fB l e U
 refine⟨λ i h0 h1 h6=>?_,λ i h0 h1 h6=>?_,?_⟩
 ·have hi:i<len l:=by
   rcases Int.lt_or_le i (len l)with h|h
   ·exact h
   ·have:i=len l:=by omega
    subst this;rw[hend]at h6;exact absurd he h6
  rw[VN _ _ h0,UF _ _ h0 (by rw[hlm];exact hi),fC _ _ h0 hi,UF _ _ h0 hi]
  exact⟨rfl,rfl,rfl⟩
 ·have hi:i=len l:=by
   rcases Int.lt_or_le i (len l)with h|h
   ·rw[UF _ _ h0 h]at h6;exact absurd h6 (hk _ (at_mem h0 h))
   ·omega
  rw[VN _ _ h0,hi]
  have:=VN (l.map (BW k)) (t::r) (i:=0) (Int.le_refl 0)
  rw[Int.zero_add,hlm]at this
  rw[this];exact ht
 ·simp;omega
theorem Vy.self (l:List Tk):Vy l l 0:=⟨λ i _ _ _=>by rw[Int.add_zero];exact⟨rfl,rfl,rfl⟩,λ i _ _ h=>.inl (by rw[Int.add_zero];exact h),Nat.le_refl _⟩
def LZ(p:A1)(A:List Tk):Prop:= ∀(r:A1) (l:List Tk),Lx (p++r) (AV (p++r) (len p)) l->Lx (p++r) (AV (p++r) 0) (A++l)
def VO(m:A1)(A:Int->List Tk):Prop:= ∀(w r:A1) (l:List Tk),Lx (w++(m++r)) (AV (w++(m++r)) (len w+len m)) l->Lx (w++(m++r)) (len w) (A (len w)++l)
theorem lK(w r:A1):At (w++r) (len w) r:=⟨A8 _,by rw[AG];have:=A8 r;omega,ZN⟩
theorem Lx.G6 {s:A1}{i:Int}{u r:A1}{t:Tk}{l:List Tk}(h:At s i (u++r))(hu:u≠[])(ht:A7 (u++r)=(t,len u,0))(hl:Lx s (AV s (i+len u)) l):Lx s i ({ t with pos:=i}::l):=Lx.at h hu ht hl
theorem PJ{s:A1}{i:Int}{r:A1}(h:At s i (32::r)):AV s i=AV s (i+1):=by
 have h2:=At.one h
 have h0:=h.1
 rw[KW h0,h.2.2,V3 (by decide),KW (i:=i+1) (by omega),h2.2.2];omega
theorem HA{s:A1}{i:Int}{c:UInt8}{r:A1}(h:At s i (c::r))(hc:FY c=false):AV s i=i:=At.l6 h λ x y e=>by rw[<-(List.cons.inj e).1];exact hc
theorem lL{p a:A1}{c:UInt8}{A la:List Tk}(hc:c∈([41,93,125]:A1))(hP:LZ p A)(ha:Lx a (AV a 0) la):
  ∃(k e:Int),BB (CB p a [c])=(A++(la.map (BW k)++AE [c] e::[BH (CB p a [c])]),0,0):=by
 have hcs:IN (c.toNat:Int)=false/\HV (c.toNat:Int)=true/\c∈([40,41,91,93,123,125,58,44,124]:A1):=by
  simp only[List.mem_cons,List.not_mem_nil,or_false]at hc
  rcases hc with rfl|rfl|rfl<;>exact⟨rfl,rfl,by decide⟩
 have hat:=lH (p:=p) (s:=a) (q:=[c]) (N9 hcs.1)
 have h1:Lx (CB p a [c]) (FE p a [c]) [AE [c] (FE p a [c])]:=
  Lx.mark (b:=[]) (r:=[]) hat hcs.2.2 (λ c hc=>by cases hc) (λ c r e=>by cases e) (.done (by have:=hat.1;show 0<=FE p a [c]+1+0;omega) (by rw[S8,VL,N9 hcs.1];show ¬(_+0+1+0:Int)<_+1;omega))
 have h2:=Lx.aL (p:=p) (.inr (by rw[FN];exact hcs.2.1)) h1 ha
 have h3:=(hP _ _ h2).lex
 exact⟨len p,FE p a [c],by rw[h3];simp⟩
theorem lM{p m a b:A1}{c:UInt8}{A la lb:List Tk}{Am:Int->List Tk}(hc:c∈([41,93,125]:A1))(hP:LZ p A)(hM:VO (44::m) Am)(ha:Lx a (AV a 0) la)(hb:Lx b (AV b 0) lb):
  ∃(k e k2 e2:Int),BB (p++(a++(44::m++(b++[c]))))=(A++(la.map (BW k)++(Am e++(lb.map (BW k2)++AE [c] e2::[BH (p++(a++(44::m++(b++[c]))))]))),0,0):=by
 have hcs:IN (c.toNat:Int)=false/\HV (c.toNat:Int)=true/\c∈([40,41,91,93,123,125,58,44,124]:A1):=by
  simp only[List.mem_cons,List.not_mem_nil,or_false]at hc
  rcases hc with rfl|rfl|rfl<;>exact⟨rfl,rfl,by decide⟩
 obtain⟨p2,hp2⟩: ∃p2:A1,p2=p++(a++(44::m)):=⟨_,rfl⟩
 have e1:p++(a++(44::m++(b++[c])))=CB p2 b [c]:=by rw[hp2];simp[CB]
 have e2:p++(a++(44::m++(b++[c])))=(p++a)++(44::m++(b++[c])):=by simp
 have hat:=lH (p:=p2) (s:=b) (q:=[c]) (N9 hcs.1)
 have h1:Lx (CB p2 b [c]) (FE p2 b [c]) [AE [c] (FE p2 b [c])]:=
  Lx.mark (b:=[]) (r:=[]) hat hcs.2.2 (λ c hc=>by cases hc) (λ c r e=>by cases e) (.done (by have:=hat.1;show 0<=FE p2 b [c]+1+0;omega) (by rw[S8,VL,N9 hcs.1];show ¬(_+0+1+0:Int)<_+1;omega))
 have h2:=Lx.aL (p:=p2) (.inr (by rw[FN];exact hcs.2.1)) h1 hb
 rw[<-e1,e2]at h2
 have hl2:len p2=len (p++a)+len (44::m):=by rw[hp2,<-List.append_assoc,AG]
 rw[hl2]at h2
 have h3:=hM (p++a) (b++[c]) _ h2
 rw[<-e2]at h3
 have hq:FE p a (44::m++(b++[c]))=len (p++a):=by
  rw[S8,List.cons_append,N9 (by decide),AG];omega
 rw[<-hq]at h3
 have h4:=Lx.aL (p:=p) (s:=a) (q:=44::m++(b++[c])) (.inr (by rw[List.cons_append,FN];rfl)) h3 ha
 have h5:=(hP _ _ h4).lex
 exact⟨len p,FE p a (44::m++(b++[c])),FE p a (44::m++(b++[c]))+len (44::m),FE p2 b [c],by rw[h5];simp⟩
end Go.Eng
