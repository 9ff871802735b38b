/-
  Parts Ks Recov Dfr Xd Lok, put together and made short by wip/py/merge.py (mini.py).
-/
import Derived.Test.YtmjpjbmeamnfpaaGreatDoorZc34
import Derived.Test.YtmjpjbmeamnfpaaGreatDoorZc7
import Derived.Defers
import Derived.Recover
import Derived.Test.YtmjpjbmeamnfpaaGreatDoorZc13
import Derived.Test.YtmjpjbmeamnfpaaGreatDoorZc23
import Derived.Test.YtmjpjbmeamnfpaaGreatDoorZc21
import Derived.Test.YtmjpjbmeamnfpaaGreatDoorZc0
set_option linter.unusedVariables false
set_option linter.unusedSimpArgs false
set_option maxRecDepth 100000
namespace Go.Proofs.YtmjpjbmeamnfpaaGreatDoor
open Go.Eng
def P9:List SV:=[⟨I8,i64 10,0⟩,⟨IY,i64 11,1⟩,⟨JK,i64 14,2⟩]
def X7:List SV:=[⟨PX,i64 12,0⟩,⟨RY,i64 13,1⟩,⟨UW,i64 15,2⟩]
theorem oD(x:A1):EG P9 x=(LH x).map λ o=>i64 o:=by
 show(if x==I8 then some (i64 10)else if x==IY then some (i64 11)else if x==JK then some (i64 14)else none)=_
 unfold LH
 simp only[beq_iff_eq]
 by_cases h1:x=I8
 ·rw[if_pos h1,if_pos h1];rfl
 rw[if_neg h1,if_neg h1]
 by_cases h2:x=IY
 ·rw[if_pos h2,if_pos h2];rfl
 rw[if_neg h2,if_neg h2]
 by_cases h3:x=JK
 ·rw[if_pos h3,if_pos h3];rfl
 rw[if_neg h3,if_neg h3];rfl
theorem oE(x:A1):EG X7 x=(JL x).map λ o=>i64 o:=by
 show(if x==PX then some (i64 12)else if x==RY then some (i64 13)else if x==UW then some (i64 15)else none)=_
 unfold JL
 simp only[beq_iff_eq]
 by_cases h1:x=PX
 ·rw[if_pos h1,if_pos h1];rfl
 rw[if_neg h1,if_neg h1]
 by_cases h2:x=RY
 ·rw[if_pos h2,if_pos h2];rfl
 rw[if_neg h2,if_neg h2]
 by_cases h3:x=UW
 ·rw[if_pos h3,if_pos h3];rfl
 rw[if_neg h3,if_neg h3];rfl
def PA(l:List Tk)(o:Int)(j:Int):PR Tf:=(G5 A9 l j).bind λ s k=>.ok (.mk { AH o with s:=s} []) k
theorem AO7{w0 wv:World}{M0 M:Mem}{Rs:List HO}{b b1 bo:Nat}{z1 z2:HO}{v:Value}{l:List Tk}{i d o:Int}{r:PR Tf}(e0:PA l o i=r)(hg:Gl w0)(ok:IE l)(h0:0<=i)(h1:i<len l)
   (hS:St w0 M0 wv M (CQ b v i d:: .box bo [i64 o] 3::z1::z2:: .box b1 [.pointer (some ⟨b,0,none⟩)] 58::Rs)) (hl:Sl M 9 l.length v (l.flatMap Tk.cells)):
   Calls Tryz.prog 161 [.pointer (some ⟨bo,0,none⟩),.pointer (some ⟨b1,0,none⟩)].toArray wv (HW w0 M0 M (.box bo [i64 o] 3::z1::z2:: .box b1 [.pointer (some ⟨b,0,none⟩)] 58::Rs) b v d r):=by
 have hfew:=ok.E9
 unfold PA at e0
 refine B8 (Hr:=Rs) B3 Tryz.func161 U Tryz.ntmps161 [(0,kn v 9 l Tk.cells)] [(0,AW b v i d),(1,.box bo [I o] 3),(3,.ho z1),(4,.ho z2),(2,.box b1 [.bx 0 b 0] 58)] [.bx 1 bo 0,.bx 2 b1 0] U hS (fc 0 hl (λ _=>rfl) AF) (λ B hB=>?_) U
 refine N2 [2,4,5] 4 (λ _ _ _ _ _ h=>h) U (A0 U) (by omega) IA (by decide+kernel) ?_
 refine E8 2 U (A0 U) (by omega) U U ?_
 cases hp:G5 A9 l i with
 |er ec p=>
  rw[hp]at e0;subst e0
  exact BK [0] U (A0 U) (by omega) U Tryz.call162 U (A0 U) U (λ w M hS hF=>X3 hp ⟨hS,(hF.get (k:=0) U).sl,hg,ok,h0,h1⟩) λ a w M hs hS hle=>BC _ (hB.p ⟨M,rfl,hS,hle⟩ a hs)
 |ok s j=>
  rw[hp]at e0;simp only[PR.bind]at e0;subst e0
  refine AU [0] (λ _:Unit=>.v (str s)) [] (λ _=>[(0,AW b v j d)]) U (A0 U) (by omega) U Tryz.call162 U U (A0 U) U (λ w M hS hF=>X3 hp ⟨hS,(hF.get (k:=0) U).sl,hg,ok,h0,h1⟩) (λ _=>rfl) (λ _=>rfl) λ _ _=>?_
  refine DB U (A0 U) (by omega) ?_
  refine E8 4 U (A0 U) (by omega) U U ?_
  refine AU [] (λ h:AJ=>.sl 7 h.v) [] (λ h=>[(7,B6 h.v (Tf.mk { AH o with s:=s} []).flat)]) U (A0 U) (by omega) U Tryz.call122 U U (A0 U) U (λ w M hS hF=>ME { AH o with s:=s} hS) (λ _=>rfl) (λ _=>rfl) λ h7 _=>?_
  refine DB U (A0 U) (by omega) ?_
  refine E8 5 U (A0 U) (by omega) U U ?_
  refine DB U (A0 U) (by omega) ?_
  refine KP U (A0 U) (by omega) U U ?_
  exact AD hB U U (A0 U) (by omega) U (A0 U) λ w M' hX=>⟨h7,M',rfl,trivial,hX.le,hX.CR [0,7,1,3,4,2] U,AF⟩
theorem TV{k:Int}{fn:FuncId}{tw:List Tk->Int->Int->PR Tf}{f:Nat}(ct:CT Tryz.prog fn)(hC:GH k fn tw f HY){l:List Tk}(BP: ∀d i x j,0<=i->i<len l->tw l d i= .ok x j->ED l i x j){w0 wv:World}{M0 M:Mem}{Rs:List HO}{b:Nat}{v:Value}{i d:Int}{r:PR Tf}(hr:D1 l d i (tw l (d+1))=r)(h:HA w0 wv M0 M Rs b v l i d)(hd0:0<=d)(hd:d<=64)(hf:8*(len l-(i+1))+k<=(f:Int)):
  Calls Tryz.prog 126 [.pointer (some ⟨b,0,none⟩),.func (.func fn) #[.pointer (some ⟨b,0,none⟩)] #[]].toArray wv (HW w0 M0 M Rs b v d r):=
 nY (a:=[.pointer (some ⟨b,0,none⟩)]) (bb:=[]) (tw l (d+1)) hr h hd0 hd ct (λ x k q0 q1=>by have h0:=h.h0;have g:=BP (d+1) _ x k (by omega) q0 q1;have h2:=g.lt;exact⟨by omega,g.le⟩) λ q0 q1 w M' hS' hl'=>hC U ⟨hS',hl',h.g,h.ok,by have:=h.h0;omega,q0⟩ (by omega) (by omega) hf trivial
theorem X8{l:List Tk}(ok:IE l){i d:Int}{X:Int->PR Tf}{x:Tf}{m:Int}(h0:0<=i)(h1:i<len l)(BP: ∀x k,i+1<len l->X (i+1)= .ok x k->ED l (i+1) x k)(h:D1 l d i X= .ok x m):len x.flat<=4194304/\DJ x:=by
 obtain⟨h4,_,k,h5,_⟩:=N8 ok h0 h1 h
 have g:=BP x k h4 h5
 have:=g.size
 have:=g.le
 have:=ok.E9
 exact⟨by omega,g.pipe⟩
theorem AO8{f:Nat}(H: ∀g,g<=f->JB g):GH 1 123 (G6 A9 (f+1)) (f+1) λ l i=>(A2 l i).kind=2:=by
 intro w0 wv M0 M Rs b v l i d r0 e0 h hd0 hd hf hk2
 obtain⟨hS,hl,hg,ok,h0,h1⟩:=h
 have hfew:=ok.E9
 have hl0:=AA l
 have hi1:=IF ok h0 h1 hk2 (by decide)
 rw[G6]at e0
 refine B8 (Hr:=Rs) B3 Tryz.func123 U Tryz.ntmps123 [(0,kn v 9 l Tk.cells)] [(0,AW b v i d)] [.bx 0 b 0] U hS (fc 0 hl (λ _=>rfl) AF) (λ B hB=>?_) U
 refine JU 1 U (A0 U) (by omega) U U (A0 U) λ b1=>?_
 refine cU 5 U (A0 U) (by omega) U λ m1=>?_
 refine P8 true 5 [⟨I8,i64 10,0⟩] 1 U (A0 U) (by omega) U U U (A0 U) U Tryz.underlying206 Tryz.underlying9 (by kernel_rfl) (by kernel_rfl) ?_
 refine P8 true 5 [⟨I8,i64 10,0⟩,⟨IY,i64 11,1⟩] 2 U (A0 U) (by omega) U U U (A0 U) U Tryz.underlying206 Tryz.underlying9 (by kernel_rfl) (by kernel_rfl) ?_
 refine P8 true 5 P9 3 U (A0 U) (by omega) U U U (A0 U) U Tryz.underlying206 Tryz.underlying9 (by kernel_rfl) (by kernel_rfl) ?_
 refine cU 6 U (A0 U) (by omega) U λ m2=>?_
 refine P8 true 6 [⟨PX,i64 12,0⟩] 1 U (A0 U) (by omega) U U U (A0 U) U Tryz.underlying206 Tryz.underlying9 (by kernel_rfl) (by kernel_rfl) ?_
 refine P8 true 6 [⟨PX,i64 12,0⟩,⟨RY,i64 13,1⟩] 2 U (A0 U) (by omega) U U U (A0 U) U Tryz.underlying206 Tryz.underlying9 (by kernel_rfl) (by kernel_rfl) ?_
 refine P8 true 6 X7 3 U (A0 U) (by omega) U U U (A0 U) U Tryz.underlying206 Tryz.underlying9 (by kernel_rfl) (by kernel_rfl) ?_
 refine DY [0] (FO (A2 l i)) U (A0 U) (by omega) Tryz.call25 U U (A0 U) U (λ _ w M hS hF=>G9 hS (hF.get (k:=0) U).sl h0 h1) U ?_
 refine nW 5 rfl (A0 rfl) (by omega) rfl rfl (A0 rfl) rfl Tryz.underlying206 Tryz.underlying9 Tryz.zeroValue3 (v:=i64 ((LH (A2 l i).s).getD 0)) (q:=(LH (A2 l i).s).isSome) (by rw[oD];cases LH (A2 l i).s<;>rfl) (by rw[oD];cases LH (A2 l i).s<;>rfl) ?_
 refine AE U (A0 U) (by omega) (λ hb1=>?_) (λ hb1=>?_)
 ·obtain⟨o,ho⟩:=Option.isSome_iff_exists.1 hb1
  rw[ho]at e0
  simp only at e0
  subst e0
  refine AU [] (λ h:AJ=>.sl 7 h.v) [] (λ h=>[(7,B6 h.v (Tf.mk (AH o) []).flat)]) U (A0 U) (by simp only[zb]<;>omega) U Tryz.call122 U U (A0 U) U (λ w M hS hF=>by rw[ho];exact ME (AH o) hS) (λ _=>rfl) (λ _=>rfl) λ h7 _=>?_
  exact AD hB U U (A0 U) (by omega) U (A0 U) λ w M' hX=>⟨h7,M',rfl,trivial,hX.le,hX.CR [0,7] U,AF⟩
 have hp1:LH (A2 l i).s=none:=by cases hh:LH (A2 l i).s with|none=>rfl|some o=>rw[hh]at hb1;cases hb1
 rw[hp1]at e0
 simp only at e0
 refine nW 6 rfl (A0 rfl) (by omega) rfl rfl (A0 rfl) rfl Tryz.underlying206 Tryz.underlying9 Tryz.zeroValue3 (v:=i64 ((JL (A2 l i).s).getD 0)) (q:=(JL (A2 l i).s).isSome) (by rw[oE];cases JL (A2 l i).s<;>rfl) (by rw[oE];cases JL (A2 l i).s<;>rfl) ?_
 refine CY 8 U (A0 U) (by omega) Tryz.zeroValue3 U λ bo=>?_
 refine AE U (A0 U) (by omega) (λ hb2=>?_) (λ hb2=>?_)
 ·obtain⟨o,ho⟩:=Option.isSome_iff_exists.1 hb2
  rw[ho]at e0
  simp only at e0
  refine CX (.v (.func (.func 161) #[] #[.pointer (some ⟨bo,0,none⟩),.pointer (some ⟨b1,0,none⟩)])) U (A0 U) (by simp only[zb]<;>omega) U (λ w M hX=>PV.makeFunc (xs:=[]) (ys:=[.tmp 8,.tmp 1]) (vs:=[]) (us:=[.pointer (some ⟨bo,0,none⟩),.pointer (some ⟨b1,0,none⟩)]) trivial ⟨AT (v:=.bx 8 bo 0) (E:=[]) U (A0 U),AT (v:=.bx 1 b1 0) (E:=[]) U (A0 U),trivial⟩) ?_
  have key: ∀w M r,D1 l d (i+1) (PA l o)=r->St w0 M0 w M (CQ b v (i+1) d:: .box bo [i64 ((JL (A2 l i).s).getD 0)] 3:: .raw m2 (CV X7 3):: .raw m1 (CV P9 3):: .box b1 [.pointer (some ⟨b,0,none⟩)] 58::Rs)->Sl M 9 l.length v (l.flatMap Tk.cells)->
     Calls Tryz.prog 126 [.pointer (some ⟨b,0,none⟩),.func (.func 161) #[] #[.pointer (some ⟨bo,0,none⟩),.pointer (some ⟨b1,0,none⟩)]].toArray w (HW w0 M0 M (.box bo [i64 ((JL (A2 l i).s).getD 0)] 3:: .raw m2 (CV X7 3):: .raw m1 (CV P9 3):: .box b1 [.pointer (some ⟨b,0,none⟩)] 58::Rs) b v d r):=λ w M r hr hS hl=>by
   rw[ho]at hS ⊢
   exact nY (a:=[]) (PA l o) hr ⟨hS,hl,hg,ok,by omega,hi1⟩ hd0 hd Tryz.call161 (λ x k q0 q1=>by obtain⟨s,k',q2,q3⟩:=CB q1;cases q3;obtain⟨q4,q5⟩:=W6 ok (by omega) q0 q2;exact⟨by omega,q5⟩) λ q0 q1 w M' hS' hl'=>AO7 rfl hg ok (by omega) q0 hS' hl'
  cases hc:D1 l d (i+1) (PA l o)with
  |er ec p=>
   have e1:=e0
   unfold PA at hc
   rw[hc]at e1;subst e1
   exact BK [0] U (A0 U) (by omega) U Tryz.call126 U (A0 U) U (λ w M hS hF=>key w M _ hc hS (hF.get (k:=0) U).sl) λ a w M hs hS hle=>BC _ (hB.p ⟨M,rfl,hS.drop _ QZ,hle⟩ a hs)
  |ok x j=>
   have e1:=e0
   unfold PA at hc
   rw[hc]at e1;subst e1
   refine AU [0] (λ h:AJ=>.sl 7 h.v) [] (λ h=>[(0,AW b v j d),(7,B6 h.v x.flat)]) U (A0 U) (by omega) U Tryz.call126 U U (A0 U) U (λ w M hS hF=>key w M _ hc hS (hF.get (k:=0) U).sl) (λ _=>rfl) (λ _=>rfl) λ h7 _=>?_
   exact AD hB U U (A0 U) (by omega) U (A0 U) λ w M' hX=>⟨h7,M',rfl,trivial,hX.le,hX.CR [0,7] U,AF⟩
 have hp2:JL (A2 l i).s=none:=by cases hh:JL (A2 l i).s with|none=>rfl|some o=>rw[hh]at hb2;cases hb2
 rw[hp2]at e0
 simp only at e0
 refine AE U (A0 U) (by omega) (λ hb3=>?_) (λ hb3=>?_)<;>simp only[zb]at hb3
 ·replace hb3:(A2 l i).s=YC:=hb3
  rw[if_pos hb3]at e0
  refine CX (.v (.func (.func 24) #[.pointer (some ⟨b,0,none⟩)] #[])) U (A0 U) (by simp only[zb]<;>omega) U (λ w M hX=>PV.makeFunc (xs:=[.tmp 64]) (ys:=[]) (vs:=[.pointer (some ⟨b,0,none⟩)]) (us:=[]) ⟨AT (v:=.bx 0 b 0) (E:=[]) U (A0 U),trivial⟩ trivial) ?_
  have key: ∀ {w M Rs r},D1 l d (i+1) (EM A9 f l (d+1))=r->St w0 M0 w M (CQ b v (i+1) d::Rs)->Sl M 9 l.length v (l.flatMap Tk.cells)->Calls Tryz.prog 126 [.pointer (some ⟨b,0,none⟩),.func (.func 24) #[.pointer (some ⟨b,0,none⟩)] #[]].toArray w (HW w0 M0 M Rs b v d r):=λ hr hS hl=>
    TV Tryz.call24 (H f (Nat.le_refl _)).fil (EY ok A9 f).fil hr ⟨hS,hl,hg,ok,by omega,hi1⟩ hd0 hd (by omega)
  cases hc:D1 l d (i+1) (EM A9 f l (d+1))with
  |er ec p=>
   rw[hc]at e0;subst e0
   exact BK [0] U (A0 U) (by omega) U Tryz.call126 U (A0 U) U (λ w M hS hF=>key hc hS (hF.get (k:=0) U).sl) λ a w M hs hS hle=>BC _ (hB.p ⟨M,rfl,hS.drop _ QZ,hle⟩ a hs)
  |ok x j=>
   obtain⟨hxs,hxp⟩:=X8 ok (by omega) hi1 (λ x k q0 q1=>(EY ok A9 f).fil (d+1) _ x k (by omega) q0 q1) hc
   rw[hc]at e0;simp only[PR.bind]at e0;subst e0
   refine AU [0] (λ h:AJ=>.sl 7 h.v) [] (λ h=>[(0,AW b v j d),(7,B6 h.v x.flat)]) U (A0 U) (by omega) U Tryz.call126 U U (A0 U) U (λ w M hS hF=>key hc hS (hF.get (k:=0) U).sl) (λ _=>rfl) (λ _=>rfl) λ h7 _=>?_
   refine EW 7 U ?_
   refine D2 9 [h7] BS 1 23 CL U (A0 U) (by omega) U (A0 U) (λ w=>by kernel_rfl) U λ v9=>?_
   refine AU [] (λ h:AJ=>.sl 10 h.v) [] (λ u=>[(10,B6 u.v (Tf.mk (AH 5) [x]).flat)]) U (A0 U) (by omega) U Tryz.call122 U U (A0 U) U (λ w M hS hF=>TQ (AH 5) v9 h7 x hS (hF.get (k:=9) U).sl (hF.get (k:=7) U).sl (by omega)) (λ _=>rfl) (λ _=>rfl) λ h10 _=>?_
   exact AD hB U U (A0 U) (by omega) U (A0 U) λ w M' hX=>⟨h10,M',rfl,trivial,hX.le,hX.CR [0,10] U,AF⟩
 replace hb3: ¬(A2 l i).s=YC:=hb3
 rw[if_neg hb3]at e0
 refine AE U (A0 U) (by omega) (λ hb4=>?_) (λ hb4=>?_)<;>simp only[zb]at hb4
 ·replace hb4:(A2 l i).s=YD:=hb4
  rw[if_pos hb4]at e0
  refine CX (.v (.func (.func 24) #[.pointer (some ⟨b,0,none⟩)] #[])) U (A0 U) (by simp only[zb]<;>omega) U (λ w M hX=>PV.makeFunc (xs:=[.tmp 80]) (ys:=[]) (vs:=[.pointer (some ⟨b,0,none⟩)]) (us:=[]) ⟨AT (v:=.bx 0 b 0) (E:=[]) U (A0 U),trivial⟩ trivial) ?_
  have key: ∀ {w M Rs r},D1 l d (i+1) (EM A9 f l (d+1))=r->St w0 M0 w M (CQ b v (i+1) d::Rs)->Sl M 9 l.length v (l.flatMap Tk.cells)->Calls Tryz.prog 126 [.pointer (some ⟨b,0,none⟩),.func (.func 24) #[.pointer (some ⟨b,0,none⟩)] #[]].toArray w (HW w0 M0 M Rs b v d r):=λ hr hS hl=>
    TV Tryz.call24 (H f (Nat.le_refl _)).fil (EY ok A9 f).fil hr ⟨hS,hl,hg,ok,by omega,hi1⟩ hd0 hd (by omega)
  cases hc:D1 l d (i+1) (EM A9 f l (d+1))with
  |er ec p=>
   rw[hc]at e0;subst e0
   exact BK [0] U (A0 U) (by omega) U Tryz.call126 U (A0 U) U (λ w M hS hF=>key hc hS (hF.get (k:=0) U).sl) λ a w M hs hS hle=>BC _ (hB.p ⟨M,rfl,hS.drop _ QZ,hle⟩ a hs)
  |ok x j=>
   obtain⟨hxs,hxp⟩:=X8 ok (by omega) hi1 (λ x k q0 q1=>(EY ok A9 f).fil (d+1) _ x k (by omega) q0 q1) hc
   rw[hc]at e0;simp only[PR.bind]at e0;subst e0
   refine AU [0] (λ h:AJ=>.sl 7 h.v) [] (λ h=>[(0,AW b v j d),(7,B6 h.v x.flat)]) U (A0 U) (by omega) U Tryz.call126 U U (A0 U) U (λ w M hS hF=>key hc hS (hF.get (k:=0) U).sl) (λ _=>rfl) (λ _=>rfl) λ h7 _=>?_
   refine EW 7 U ?_
   refine D2 9 [h7] BS 1 23 CL U (A0 U) (by omega) U (A0 U) (λ w=>by kernel_rfl) U λ v9=>?_
   refine AU [] (λ h:AJ=>.sl 10 h.v) [] (λ u=>[(10,B6 u.v (Tf.mk (AH 6) [x]).flat)]) U (A0 U) (by omega) U Tryz.call122 U U (A0 U) U (λ w M hS hF=>TQ (AH 6) v9 h7 x hS (hF.get (k:=9) U).sl (hF.get (k:=7) U).sl (by omega)) (λ _=>rfl) (λ _=>rfl) λ h10 _=>?_
   exact AD hB U U (A0 U) (by omega) U (A0 U) λ w M' hX=>⟨h10,M',rfl,trivial,hX.le,hX.CR [0,10] U,AF⟩
 replace hb4: ¬(A2 l i).s=YD:=hb4
 rw[if_neg hb4]at e0
 refine AE U (A0 U) (by omega) (λ hb5=>?_) (λ hb5=>?_)<;>simp only[zb]at hb5
 ·replace hb5:(A2 l i).s=YE:=hb5
  rw[if_pos hb5]at e0
  refine CX (.v (.func (.func 24) #[.pointer (some ⟨b,0,none⟩)] #[])) U (A0 U) (by simp only[zb]<;>omega) U (λ w M hX=>PV.makeFunc (xs:=[.tmp 96]) (ys:=[]) (vs:=[.pointer (some ⟨b,0,none⟩)]) (us:=[]) ⟨AT (v:=.bx 0 b 0) (E:=[]) U (A0 U),trivial⟩ trivial) ?_
  have key: ∀ {w M Rs r},D1 l d (i+1) (EM A9 f l (d+1))=r->St w0 M0 w M (CQ b v (i+1) d::Rs)->Sl M 9 l.length v (l.flatMap Tk.cells)->Calls Tryz.prog 126 [.pointer (some ⟨b,0,none⟩),.func (.func 24) #[.pointer (some ⟨b,0,none⟩)] #[]].toArray w (HW w0 M0 M Rs b v d r):=λ hr hS hl=>
    TV Tryz.call24 (H f (Nat.le_refl _)).fil (EY ok A9 f).fil hr ⟨hS,hl,hg,ok,by omega,hi1⟩ hd0 hd (by omega)
  cases hc:D1 l d (i+1) (EM A9 f l (d+1))with
  |er ec p=>
   rw[hc]at e0;subst e0
   exact BK [0] U (A0 U) (by omega) U Tryz.call126 U (A0 U) U (λ w M hS hF=>key hc hS (hF.get (k:=0) U).sl) λ a w M hs hS hle=>BC _ (hB.p ⟨M,rfl,hS.drop _ QZ,hle⟩ a hs)
  |ok x j=>
   obtain⟨hxs,hxp⟩:=X8 ok (by omega) hi1 (λ x k q0 q1=>(EY ok A9 f).fil (d+1) _ x k (by omega) q0 q1) hc
   rw[hc]at e0;simp only[PR.bind]at e0;subst e0
   refine AU [0] (λ h:AJ=>.sl 7 h.v) [] (λ h=>[(0,AW b v j d),(7,B6 h.v x.flat)]) U (A0 U) (by omega) U Tryz.call126 U U (A0 U) U (λ w M hS hF=>key hc hS (hF.get (k:=0) U).sl) (λ _=>rfl) (λ _=>rfl) λ h7 _=>?_
   refine EW 7 U ?_
   refine D2 9 [h7] BS 1 23 CL U (A0 U) (by omega) U (A0 U) (λ w=>by kernel_rfl) U λ v9=>?_
   refine AU [] (λ h:AJ=>.sl 10 h.v) [] (λ u=>[(10,B6 u.v (Tf.mk (AH 5) [x]).flat)]) U (A0 U) (by omega) U Tryz.call122 U U (A0 U) U (λ w M hS hF=>TQ (AH 5) v9 h7 x hS (hF.get (k:=9) U).sl (hF.get (k:=7) U).sl (by omega)) (λ _=>rfl) (λ _=>rfl) λ h10 _=>?_
   have hwl:len (B1 ([Tf.mk (AH 10) [],Tf.mk (AH 5) [x]]++[Tf.mk (AH 11) []]))<=137438953472:=by
    show len ((Tf.mk (AH 10) []).flat++((Tf.mk (AH 5) [x]).flat++((Tf.mk (AH 11) []).flat++[])))<=_
    rw[A5,A5,A5,Tf.O4,Tf.O4,Tf.M5,O6]
    show 1+(1+len x.flat+(1+0))<=137438953472;omega
   refine AU [] (λ h:AJ=>.sl 11 h.v) [] (λ u=>[(11,B6 u.v (Tf.mk (AH 10) []).flat)]) U (A0 U) (by omega) U Tryz.call122 U U (A0 U) U (λ w M hS hF=>ME (AH 10) hS) (λ _=>rfl) (λ _=>rfl) λ h11 _=>?_
   refine AU [] (λ h:AJ=>.sl 12 h.v) [] (λ u=>[(12,B6 u.v (Tf.mk (AH 11) []).flat)]) U (A0 U) (by omega) U Tryz.call122 U U (A0 U) U (λ w M hS hF=>ME (AH 11) hS) (λ _=>rfl) (λ _=>rfl) λ h12 _=>?_
   refine EW 10 U (EW 11 U ?_)
   refine D2 13 [h11,h10,h12] BS 1 23 CL U (A0 U) (by omega) U (A0 U) (λ w=>by kernel_rfl) U λ v13=>?_
   refine FM 14 (GG [h11,h10] ([Tf.mk (AH 10) [],Tf.mk (AH 5) [x]].map Tf.flat)) (λ w M hX=>⟨Sl.nil M 1,DO,hX.sl 11 U,hX.sl 10 U,trivial⟩) ?_
   refine AU [12] (λ h:AJ=>.sl 15 h.v) [] (λ u=>[(15,B6 u.v (DW ([Tf.mk (AH 10) [],Tf.mk (AH 5) [x]]++[Tf.mk (AH 11) []])).flat)]) U (A0 U) (by omega) U Tryz.call51 U U (A0 U) U (λ w M hS hF=>cT v13 [h11,h10] h12 [Tf.mk (AH 10) [],Tf.mk (AH 5) [x]] (Tf.mk (AH 11) []) hS (hF.get (k:=13) U).sl (hF.get (k:=14) U).more (λ y hy=>by
     rcases List.mem_cons.1 hy with rfl|hy
     ·exact .no (by show(10:Int)≠4;decide)
     ·rcases List.mem_cons.1 hy with rfl|hy
      ·exact .no (by show(5:Int)≠4;decide)
      ·rcases List.mem_cons.1 hy with rfl|hy
       ·exact .no (by show(11:Int)≠4;decide)
       ·cases hy) hwl) (λ _=>rfl) (λ _=>rfl) λ h15 _=>?_
   exact AD hB U U (A0 U) (by omega) U (A0 U) λ w M' hX=>⟨h15,M',rfl,trivial,hX.le,hX.CR [0,15] U,AF⟩
 replace hb5: ¬(A2 l i).s=YE:=hb5
 rw[if_neg hb5]at e0
 refine AE U (A0 U) (by omega) (λ hb6=>?_) (λ hb6=>?_)<;>simp only[zb]at hb6
 ·replace hb6:(A2 l i).s=YF:=hb6
  rw[if_pos hb6]at e0
  refine CX (.v (.func (.func 163) #[.pointer (some ⟨b,0,none⟩)] #[])) U (A0 U) (by simp only[zb]<;>omega) U (λ w M hX=>PV.makeFunc (xs:=[.tmp 119]) (ys:=[]) (vs:=[.pointer (some ⟨b,0,none⟩)]) (us:=[]) ⟨AT (v:=.bx 0 b 0) (E:=[]) U (A0 U),trivial⟩ trivial) ?_
  have key: ∀ {w M Rs r},D1 l d (i+1) (G7 A9 f l (d+1))=r->St w0 M0 w M (CQ b v (i+1) d::Rs)->Sl M 9 l.length v (l.flatMap Tk.cells)->Calls Tryz.prog 126 [.pointer (some ⟨b,0,none⟩),.func (.func 163) #[.pointer (some ⟨b,0,none⟩)] #[]].toArray w (HW w0 M0 M Rs b v d r):=λ hr hS hl=>
    TV Tryz.call163 (H f (Nat.le_refl _)).eit (EY ok A9 f).eit hr ⟨hS,hl,hg,ok,by omega,hi1⟩ hd0 hd (by omega)
  cases hc:D1 l d (i+1) (G7 A9 f l (d+1))with
  |er ec p=>
   rw[hc]at e0;subst e0
   exact BK [0] U (A0 U) (by omega) U Tryz.call126 U (A0 U) U (λ w M hS hF=>key hc hS (hF.get (k:=0) U).sl) λ a w M hs hS hle=>BC _ (hB.p ⟨M,rfl,hS.drop _ QZ,hle⟩ a hs)
  |ok x j=>
   obtain⟨hxs,hxp⟩:=X8 ok (by omega) hi1 (λ x k q0 q1=>(EY ok A9 f).eit (d+1) _ x k (by omega) q0 q1) hc
   rw[hc]at e0;simp only[PR.bind]at e0;subst e0
   refine AU [0] (λ h:AJ=>.sl 7 h.v) [] (λ h=>[(0,AW b v j d),(7,B6 h.v x.flat)]) U (A0 U) (by omega) U Tryz.call126 U U (A0 U) U (λ w M hS hF=>key hc hS (hF.get (k:=0) U).sl) (λ _=>rfl) (λ _=>rfl) λ h7 _=>?_
   refine EW 7 U ?_
   refine D2 9 [h7] BS 1 23 CL U (A0 U) (by omega) U (A0 U) (λ w=>by kernel_rfl) U λ v9=>?_
   refine AU [] (λ h:AJ=>.sl 10 h.v) [] (λ u=>[(10,B6 u.v (Tf.mk (AH 7) [x]).flat)]) U (A0 U) (by omega) U Tryz.call122 U U (A0 U) U (λ w M hS hF=>TQ (AH 7) v9 h7 x hS (hF.get (k:=9) U).sl (hF.get (k:=7) U).sl (by omega)) (λ _=>rfl) (λ _=>rfl) λ h10 _=>?_
   exact AD hB U U (A0 U) (by omega) U (A0 U) λ w M' hX=>⟨h10,M',rfl,trivial,hX.le,hX.CR [0,10] U,AF⟩
 replace hb6: ¬(A2 l i).s=YF:=hb6
 rw[if_neg hb6]at e0
 subst e0
 exact BK [0] U (A0 U) (by omega) U Tryz.call26 U (A0 U) U (λ w M hS hF=>JW 1 hS (hF.get (k:=0) U).sl h0 h1) λ a w M hs hS hle=>BC _ (hB.p ⟨M,rfl,hS.drop _ QZ,hle⟩ a hs)
theorem AO9{f:Nat}(H: ∀g,g<=f->JB g):GH 2 81 (GZ A9 (f+1)) (f+1) HY:=by
 intro w0 wv M0 M Rs b v l i d r0 e0 h hd0 hd hf _
 obtain⟨hS,hl,hg,ok,h0,h1⟩:=h
 have hfew:=ok.E9
 have hl0:=AA l
 rw[GZ]at e0
 refine B8 (Hr:=Rs) B3 Tryz.func81 U Tryz.ntmps81 [(0,kn v 9 l Tk.cells)] [(0,AW b v i d)] [.bx 0 b 0] U hS (fc 0 hl (λ _=>rfl) AF) (λ B hB=>?_) U
 refine DY [0] (FO (A2 l i)) U (A0 U) (by omega) Tryz.call25 U U (A0 U) U (λ _ w M hS hF=>G9 hS (hF.get (k:=0) U).sl h0 h1) U ?_
 refine CY 3 U (A0 U) (by omega) Tryz.zeroValue63 U λ bt=>?_
 refine DY [0] (.v (.bool (AL l i [46]))) U (A0 U) (by omega) Tryz.call50 U U (A0 U) U (λ _ w M hS hF=>HT [46] hS (hF.get (k:=0) U).sl h0 h1) U ?_
 refine AE U (A0 U) (by omega) (λ hb1=>?_) (λ hb1=>?_)
 ·rw[if_pos hb1]at e0;subst e0
  refine AU [] (λ h:AJ=>.sl 7 h.v) [] (λ u=>[(7,B6 u.v (Tf.mk (AH 0) []).flat)]) U (A0 U) (by simp only[zb]<;>omega) U Tryz.call122 U U (A0 U) U (λ w M hS hF=>ME (AH 0) hS) (λ _=>rfl) (λ _=>rfl) λ h7 _=>?_
  exact AD hB U U (A0 U) (by omega) U (A0 U) λ w M' hX=>⟨h7,M',rfl,trivial,hX.le,hX.CR [0,7] U,AF⟩
 rw[if_neg (by rw[hb1];decide)]at e0
 refine AE U (A0 U) (by omega) (λ hb2=>?_) (λ hb2=>?_)<;>simp only[zb]at hb2
 ·rw[if_pos hb2]at e0;subst e0
  refine AU [] (λ h:AJ=>.sl 7 h.v) [] (λ u=>[(7,B6 u.v (Tf.mk { AH 1 with s:=(A2 l i).s} []).flat)]) U (A0 U) (by simp only[zb]<;>omega) U Tryz.call122 U U (A0 U) U (λ w M hS hF=>ME { AH 1 with s:=(A2 l i).s} hS) (λ _=>rfl) (λ _=>rfl) λ h7 _=>?_
  exact AD hB U U (A0 U) (by omega) U (A0 U) λ w M' hX=>⟨h7,M',rfl,trivial,hX.le,hX.CR [0,7] U,AF⟩
 rw[if_neg hb2]at e0
 refine AE U (A0 U) (by omega) (λ hb3=>?_) (λ hb3=>?_)<;>simp only[zb]at hb3
 ·rw[if_pos hb3]at e0
  cases hr:G6 A9 f l d i with
  |er ec p=>
   rw[hr]at e0;subst e0
   exact BK [0] U (A0 U) (by omega) U Tryz.call123 U (A0 U) U (λ w M hS hF=>(H f (Nat.le_refl _)).wor hr ⟨hS,(hF.get (k:=0) U).sl,hg,ok,h0,h1⟩ hd0 hd (by omega) hb3) λ a w M hs hS hle=>BC _ (hB.p ⟨M,rfl,hS.drop _ (List.sublist_cons_self _ _),hle⟩ a hs)
  |ok x j=>
   rw[hr]at e0;subst e0
   refine AU [0] (λ h:AJ=>.sl 7 h.v) [] (λ h=>[(0,AW b v j d),(7,B6 h.v x.flat)]) U (A0 U) (by omega) U Tryz.call123 U U (A0 U) U (λ w M hS hF=>(H f (Nat.le_refl _)).wor hr ⟨hS,(hF.get (k:=0) U).sl,hg,ok,h0,h1⟩ hd0 hd (by omega) hb3) (λ _=>rfl) (λ _=>rfl) λ h7 _=>?_
   exact AD hB U U (A0 U) (by omega) U (A0 U) λ w M' hX=>⟨h7,M',rfl,trivial,hX.le,hX.CR [0,7] U,AF⟩
 rw[if_neg hb3]at e0
 refine DY [0] (.v (.bool (AL l i [123]))) U (A0 U) (by omega) Tryz.call50 U U (A0 U) U (λ _ w M hS hF=>HT [123] hS (hF.get (k:=0) U).sl h0 h1) U ?_
 refine AE U (A0 U) (by omega) (λ hb4=>?_) (λ hb4=>?_)
 ·rw[if_pos hb4]at e0
  cases hr:TU f l d i with
  |er ec p=>
   have e1:=e0
   unfold TU at hr
   rw[hr]at e1;subst e1
   exact BK [0] U (A0 U) (by omega) U Tryz.call124 U (A0 U) U (λ w M hS hF=>oC H hr ⟨hS,(hF.get (k:=0) U).sl,hg,ok,h0,h1⟩ hd0 hd (by omega) trivial) λ a w M hs hS hle=>BC _ (hB.p ⟨M,rfl,hS.drop _ (List.sublist_cons_self _ _),hle⟩ a hs)
  |ok x j=>
   have e1:=e0
   unfold TU at hr
   rw[hr]at e1;subst e1
   refine AU [0] (λ h:AJ=>.sl 7 h.v) [] (λ h=>[(0,AW b v j d),(7,B6 h.v x.flat)]) U (A0 U) (by omega) U Tryz.call124 U U (A0 U) U (λ w M hS hF=>oC H hr ⟨hS,(hF.get (k:=0) U).sl,hg,ok,h0,h1⟩ hd0 hd (by omega) trivial) (λ _=>rfl) (λ _=>rfl) λ h7 _=>?_
   exact AD hB U U (A0 U) (by omega) U (A0 U) λ w M' hX=>⟨h7,M',rfl,trivial,hX.le,hX.CR [0,7] U,AF⟩
 rw[if_neg (by rw[hb4];decide)]at e0
 refine DY [0] (.v (.bool (AL l i [91]))) U (A0 U) (by omega) Tryz.call50 U U (A0 U) U (λ _ w M hS hF=>HT [91] hS (hF.get (k:=0) U).sl h0 h1) U ?_
 refine AE U (A0 U) (by omega) (λ hb5=>?_) (λ hb5=>?_)
 ·rw[if_pos hb5]at e0
  cases hr:TR f l d i with
  |er ec p=>
   have e1:=e0
   unfold TR at hr
   rw[hr]at e1;subst e1
   exact BK [0] U (A0 U) (by omega) U Tryz.call125 U (A0 U) U (λ w M hS hF=>o9 H hr ⟨hS,(hF.get (k:=0) U).sl,hg,ok,h0,h1⟩ hd0 hd (by omega) trivial) λ a w M hs hS hle=>BC _ (hB.p ⟨M,rfl,hS.drop _ (List.sublist_cons_self _ _),hle⟩ a hs)
  |ok x j=>
   have e1:=e0
   unfold TR at hr
   rw[hr]at e1;subst e1
   refine AU [0] (λ h:AJ=>.sl 7 h.v) [] (λ h=>[(0,AW b v j d),(7,B6 h.v x.flat)]) U (A0 U) (by omega) U Tryz.call125 U U (A0 U) U (λ w M hS hF=>o9 H hr ⟨hS,(hF.get (k:=0) U).sl,hg,ok,h0,h1⟩ hd0 hd (by omega) trivial) (λ _=>rfl) (λ _=>rfl) λ h7 _=>?_
   exact AD hB U U (A0 U) (by omega) U (A0 U) λ w M' hX=>⟨h7,M',rfl,trivial,hX.le,hX.CR [0,7] U,AF⟩
 rw[if_neg (by rw[hb5];decide)]at e0
 refine CX (.v (.func (.func 24) #[.pointer (some ⟨b,0,none⟩)] #[])) U (A0 U) (by simp only[zb]<;>omega) U (λ w M hX=>PV.makeFunc (xs:=[.tmp 50]) (ys:=[]) (vs:=[.pointer (some ⟨b,0,none⟩)]) (us:=[]) ⟨AT (v:=.bx 0 b 0) (E:=[]) U (A0 U),trivial⟩ trivial) ?_
 have key: ∀ {w M Rs r},D1 l d i (EM A9 f l (d+1))=r->St w0 M0 w M (CQ b v i d::Rs)->Sl M 9 l.length v (l.flatMap Tk.cells)->Calls Tryz.prog 126 [.pointer (some ⟨b,0,none⟩),.func (.func 24) #[.pointer (some ⟨b,0,none⟩)] #[]].toArray w (HW w0 M0 M Rs b v d r):=λ hr hS hl=>
   TV Tryz.call24 (H f (Nat.le_refl _)).fil (EY ok A9 f).fil hr ⟨hS,hl,hg,ok,h0,h1⟩ hd0 hd (by omega)
 cases hc:D1 l d i (EM A9 f l (d+1))with
 |er ec p=>
  rw[hc]at e0;subst e0
  exact BK [0] U (A0 U) (by omega) U Tryz.call126 U (A0 U) U (λ w M hS hF=>key hc hS (hF.get (k:=0) U).sl) λ a w M hs hS hle=>BC _ (hB.p ⟨M,rfl,hS.drop _ (List.sublist_cons_self _ _),hle⟩ a hs)
 |ok x j=>
  rw[hc]at e0;subst e0
  refine AU [0] (λ h:AJ=>.sl 7 h.v) [] (λ h=>[(0,AW b v j d),(7,B6 h.v x.flat)]) U (A0 U) (by omega) U Tryz.call126 U U (A0 U) U (λ w M hS hF=>key hc hS (hF.get (k:=0) U).sl) (λ _=>rfl) (λ _=>rfl) λ h7 _=>?_
  exact AD hB U U (A0 U) (by omega) U (A0 U) λ w M' hX=>⟨h7,M',rfl,trivial,hX.le,hX.CR [0,7] U,AF⟩
theorem oF: ∀f,JB f:=by
 intro f
 induction f using Nat.strongRecOn with
 |_ f ih=>
  cases f with
  |zero=>
   have no: ∀ {k:Int} {fn:FuncId} {tw:List Tk->Int->Int->PR Tf} {P:List Tk->Int->Prop},0<=k->GH k fn tw 0 P:=λ{k fn tw P} hk {w0 wv M0 M Rs b v l i d r} _ h _ _ hf _=>by have:=h.h1;exfalso;omega
   exact⟨no (k:=4) (by decide),no (k:=3) (by decide),no (k:=2) (by decide),no (k:=1) (P:=λ l i=>(A2 l i).kind=2) (by decide),no (k:=3) (by decide),no (k:=2) (by decide),no (k:=1) (by decide)⟩
  |succ f=>
   have H: ∀g,g<=f->JB g:=λ g hg=>ih g (by omega)
   exact⟨AO0 H,AO1 H,AO9 H,AO8 H,AO2 H,AO3 H,AO4 H⟩
end Go.Proofs.YtmjpjbmeamnfpaaGreatDoor
namespace Go.Eng
open Go.RowKit
theorem AP0{P:Program}{ops:Array Oper}{Q:Exit->Act->List Frame->World->Prop}{cs:List Frame}(hq: ¬LetsOut (λ e a w=>Q e a cs w))(l:List Oper):
  ∀(k:Nat),(∀j,l[j]? =ops[k+j]?)-> ∀a w,wpList P ops (λ e a w=>Q e a cs w) l a w->wpOpsS P ops Q (List.range' k l.length) a cs w:=by
 induction l with
 |nil=>intro k _ a w h;exact h
 |cons o l ih=>
  intro k hk a w h
  have h0:ops[k]? =some o:=by simpa using(hk 0).symm
  have ih':=ih (k+1) (λ j=>by have:=hk (j+1);simpa[Nat.add_assoc,Nat.add_comm 1 j]using this)
  simp only[List.length_cons,List.range'_succ,wpOpsS,h0]
  unfold wpList at h
  by_cases hw:Region.wanted o (yielded ops a.tmps)=true
  ·rw[if_pos hw]at h ⊢
   have h1:=(h.resolve_right λ hh=>hq hh.2)
   have h2:=Oper.wp_mono (λ a' w' hh=>ih' a' w' hh) h1
   unfold Oper.wp at h2
   split
   ·rename_i w' he;rw[he]at h2;exact h2.elim
   ·exact h2
  ·rw[if_neg hw]at h ⊢
   exact ih' _ _ h
theorem AP1{P:Program}{Q:Exit->Act->List Frame->World->Prop}{cs cs':List Frame}{id:Nat}{o0:Oper}{l:List Oper}{a:Act}{w:World}{v:Value}(hg:o0.guard=none)(hrun:(execOp a.eval o0).run P w= .ok .recover w)
  (hrec:recoverD cs=some (v,cs')\/(recoverD cs=none/\v= .nilIface/\cs'=cs)) (hq: ¬LetsOut (λ e a w=>Q e a cs' w)) (h:wpList P (o0::l).toArray (λ e a w=>Q e a cs' w) l (a.put o0.dst v) w):
  (Code.region id (o0::l).toArray false).wpS P Q a cs w:=by
 refine wpS_region ?_
 have hw:Region.wanted o0 (yielded (o0::l).toArray a.tmps)=true:=by unfold Region.wanted;rw[hg]
 have h1:=AP0 (ops:=(o0::l).toArray) hq l 1 (λ j=>by simp[Nat.add_comm 1 j]) _ _ h
 rw[show List.range (o0::l).toArray.size=0::List.range' 1 l.length from by simp[List.range_eq_range',List.range'_succ]]
 unfold wpOpsS
 rw[show(o0::l).toArray[0]? =some o0 from by simp]
 dsimp only
 rw[if_pos hw,hrun]
 dsimp only
 rcases hrec with hr|⟨hr,rfl,rfl⟩
 ·rw[hr];exact h1
 ·rw[hr];exact h1
section
variable {P:Program} {C:World->Prop} {L:Env} {W:Bool} {d:Option Tmp} {ty:TypeId} {ps:String} {af:Array Edge} {gd:Option (Nat×Bool)}
theorem PV.AP2 {xt t:TypeId}{x:Operand}{v:Value}{fs:Array Field}(hx:A8 L W x (.iface t v))(ht:P.underlying t=some (.struct fs)):PV P C L W ⟨d,.typeAssert x xt t true,ty,ps,af,gd⟩ (.tuple #[v,.bool true]):=
 .un (f:=λ u=>Instr.typeAssert u xt t true) (λ _=>rfl) hx λ _ w _=>by
  simp only[Instr.typeAssert,Sem.run_bind,run_underlying ht,Result.andThen_ok]
  simp[Sem.run_pure]
theorem PV.AP3 {xt t:TypeId}{x:Operand}{z:Value}{fs:Array Field}(hx:A8 L W x .nilIface)(ht:P.underlying t=some (.struct fs))(hz: ∀w,(zeroValue t).run P w= .ok z w):PV P C L W ⟨d,.typeAssert x xt t true,ty,ps,af,gd⟩ (.tuple #[z,.bool false]):=
 .un (f:=λ u=>Instr.typeAssert u xt t true) (λ _=>rfl) hx λ _ w _=>by
  simp only[Instr.typeAssert,Sem.run_bind,run_underlying ht,Result.andThen_ok]
  simp[Sem.run_bind,Sem.run_pure,hz]
end
def GI:FrameMode->Value×FrameMode
 | .panicking ({ v,recovered:=false,goexit:=false}::older)=>(v,.panicking ({ v,recovered:=true}::older))
 |u=>(.nilIface,u)
theorem AP4(c:Frame)(cs:List Frame):recoverD (c::cs)=some ((GI c.mode).1,{ c with mode:=(GI c.mode).2}::cs)\/(recoverD (c::cs)=none/\(GI c.mode).1= .nilIface/\ { c with mode:=(GI c.mode).2}::cs=c::cs):=by
 obtain⟨_,_,_,_,m,_,_⟩:=c
 cases m with
 |panicking ch=>
  cases ch with
  |nil=>exact .inr ⟨rfl,rfl,rfl⟩
  |cons p older=>
   obtain⟨v,r,g⟩:=p
   cases r<;>cases g<;>first|exact .inl rfl|exact .inr ⟨rfl,rfl,rfl⟩
 |_=>exact .inr ⟨rfl,rfl,rfl⟩
theorem AP5{P:Program}{f:FuncId}{fn:Func}{id d N:Nat}{o0:Oper}{l:List Oper}{y:Code}{vs:List Value}{u:FrameMode}{w:World}{S:World->Prop}(hf:P.funcs[f]? =some fn)(hb:fn.body=some (.seq (.region id (o0::l).toArray false) y))(hn:fn.ntmps=N)(hl:vs.length<=N)
  (hres:fn.results= #[]) (hg:o0.guard=none) (hd:o0.dst=some d) (hdN:Nat.blt d N=true) (hrun: ∀(a:Act) w,(execOp a.eval o0).run P w= .ok .recover w)
  (h: ∀(K:Act->World->Prop) (Q:Exit->Act->World->Prop),(∀a w',y.wp P Q a w'->K a w')->(∀a w',a.defers=[]->S w'->Q .normal a w')->RL P (o0::l).toArray (Exit.then K Q) N l ((d,true,(GI u).1)::L6 0 vs) w):
  CallsD P f vs.toArray u w (λ e u' w'=>e= .returned (.tuple #[])/\u'=(GI u).2/\S w'):=by
 refine callsD_of_wpS hf hb λ c₀ cs hu=>wpS_seq ?_
 subst hu
 have hs:=AK.enter vs N hl
 rw[<-hn]at hs
 refine AP1 hg (hrun _ _) (AP4 c₀ cs) ?_ ?_
 ·rintro⟨a,w',h1⟩
  obtain⟨u',h2,_⟩:=h1
  cases h2
 ·subst hn
  have hput:=hs.put hdN true (GI c₀.mode).1
  rw[hd]
  have hh:=h (λ a w'=>y.wpS P (bodyPostS P fn c₀ cs (λ e u' w'=>e= .returned (.tuple #[])/\u'=(GI c₀.mode).2/\S w')) a ({ c₀ with mode:=(GI c₀.mode).2}::cs) w')
   (λ e a w'=>bodyPostS P fn c₀ cs (λ e u' w'=>e= .returned (.tuple #[])/\u'=(GI c₀.mode).2/\S w') e a ({ c₀ with mode:=(GI c₀.mode).2}::cs) w')
   (λ a w' h1=>wpS_of_wp h1) (λ a w' h1 h2=>⟨h1,_,rfl,_,results_none hres _ _ _,rfl,rfl,h2⟩) _ hput
  refine Eq.mp ?_ hh
  congr 1
  funext e a w'
  cases e<;>rfl
end Go.Eng
namespace Go.Eng
open Go.RowKit
def EU(D:List Deferred)(a:Act):Act:=⟨a.tmps,a.defers++D⟩
theorem cW(D:List Deferred)(a:Act):(EU D a).eval=a.eval:=by funext x;cases x<;>rfl
theorem R6(D:List Deferred)(a:Act)(d:Option Tmp)(v:Value):(EU D a).put d v=EU D (a.put d v):=by cases d<;>rfl
section
variable {P:Program} {ops:Array Oper} {D:List Deferred} {Q:Exit->Act->World->Prop} {N:Nat} {L:Env} {w:World}
theorem AP6{o:Oper}{a:Act}{n n':Act->World->Prop}(hn: ∀a w,n' a w->n (EU D a) w)(r:Result Next)(h:o.upon P a n' (λ e a w=>Q e (EU D a) w) r):o.upon P (EU D a) n Q r:=by
 cases r with
 |ok x w'=>
  cases x with
  |value v=>rw[Oper.upon_value]at h ⊢;rw[R6];exact hn _ _ h
  |skip=>rw[Oper.upon_skip]at h ⊢;rw[R6];exact hn _ _ h
  |defer d=>
   rw[Oper.upon_defer]at h ⊢
   have e:({ EU D a with defers:=d::(EU D a).defers}:Act)=EU D { a with defers:=d::a.defers}:=rfl
   rw[e,R6];exact hn _ _ h
  |enter f args=>
   rw[Oper.upon_enter]at h ⊢
   refine h.mono λ e w'' he=>?_
   cases e with
   |returned v=>dsimp only at he ⊢;rw[R6];exact hn _ _ he
   |panicked ch=>exact he
   |outgrown=>obtain⟨a2,w2,h2⟩:=he;exact⟨_,_,h2⟩
  |row r args=>
   rw[Oper.upon_row]at h ⊢
   exact Rows.mono h λ v w'' he=>by rw[R6];exact hn _ _ he
  |_=>exact h.elim
 |halt x w'=>
  cases x with
  |panic v=>exact h
  |_=>exact h.elim
theorem AP7(l:List Oper): ∀(a:Act) (w:World),wpList P ops (λ e a w=>Q e (EU D a) w) l a w->wpList P ops Q l (EU D a) w:=by
 induction l with
 |nil=>intro a w h;exact h
 |cons o l ih=>
  intro a w h
  unfold wpList at h ⊢
  show if Region.wanted o (yielded ops a.tmps)=true then _ else _
  by_cases hw:Region.wanted o (yielded ops a.tmps)=true
  ·rw[if_pos hw]at h ⊢
   rcases h with h|⟨ha,a2,w2,h2⟩
   ·left
    unfold Oper.wp at h ⊢
    rw[cW]
    exact AP6 ih _ h
   ·right
    refine⟨?_,_,_,h2⟩
    unfold Oper.asks at ha ⊢
    rw[cW];exact ha
  ·rw[if_neg hw]at h ⊢
   rw[R6];exact ih _ _ h
def F8(P:Program)(D:List Deferred)(c:Code)(Q:Exit->Act->World->Prop)(N:Nat)(L:Env)(w:World):Prop:= ∀a,AK a N L->c.wp P Q (EU D a) w
theorem F8.seq {x y:Code}(h:F8 P D x (Exit.then (y.wp P Q) Q) N L w):F8 P D (.seq x y) Q N L w:=λ a hs=>wp_seq (h a hs)
theorem F8.region {id:Nat}{l:List Oper}(h:RL P l.toArray (λ e a w=>Q e (EU D a) w) N l L w):F8 P D (.region id l.toArray false) Q N L w:=λ a hs=>wp_region_lit (AP7 _ _ _ (h a hs))
theorem F8.sr {id:Nat}{l:List Oper}{y:Code}(h:RL P l.toArray (λ e a w=>Exit.then (y.wp P Q) Q e (EU D a) w) N l L w):F8 P D (.seq (.region id l.toArray false) y) Q N L w:=F8.seq (F8.region h)
theorem F8.cond {c:Nat}{x y:Code}{b:Bool}(hc:look L c=some (true,.bool b))(ht:b=true->F8 P D x Q N L w)(hf:b=false->F8 P D y Q N L w):F8 P D (.cond (.tmp c) x y) Q N L w:=
 λ a hs=>wp_cond_split (show(EU D a).eval (.tmp c)= .bool b from by rw[cW];exact hs.get hc) (λ hb=>ht hb a hs) (λ hb=>hf hb a hs)
theorem F8.skip (h: ∀a,AK a N L->Q .normal (EU D a) w):F8 P D .skip Q N L w:=λ a hs=>wp_skip (h a hs)
theorem F8.ret (h: ∀a,AK a N L->Q .ret (EU D a) w):F8 P D .ret Q N L w:=λ a hs=>wp_ret (h a hs)
theorem F8.id {y:Code}{Q':Exit->Act->World->Prop}(h:F8 P D y Q' N L w): ∀a,AK a N L->y.wp P Q' (EU D a) w:=h
theorem F8.at {y:Code}{Q':Exit->Act->World->Prop}(L':Env)(hk:Eng.BG (NK L') L=L')(h:F8 P D y Q' N L' w): ∀a,AK a N L->y.wp P Q' (EU D a) w:=λ a hs=>h a (hk▸hs.BG _)
structure L3 (P:Program) (fn:Func) (R:Ending->World->Prop) (Q:Exit->Act->World->Prop):Prop where
 all: ∀e a w,bodyPostD P fn R e a w->Q e a w
theorem F8.enter {f:FuncId}{fn:Func}{c:Code}{vs:List Value}{R:Ending->World->Prop}(hf:P.funcs[f]? =some fn)(hb:fn.body=some c)(hn:fn.ntmps=N)(hl:vs.length<=N)
  (h: ∀Q,L3 P fn R Q->CW P c Q N (L6 0 vs) w):Calls P f vs.toArray w R:=
 calls_of_wp_defers hf hb (by rw[hn];exact h _ ⟨λ _ _ _ h=>h⟩ _ (AK.enter vs N hl))
theorem L3.p {fn:Func}{R:Ending->World->Prop}{ch:List PanicEntry}(E:L3 P fn R Q)(h: ∀a,AK a N L->Leaves P fn a.tmps R D (.panicking ch) w): ∀a,AK a N L->Q (.panic ch) (EU D a) w:=
 λ a hs=>E.all _ _ _ (by show Leaves P fn a.tmps R (a.defers++D) _ w;rw[hs.CZ];exact h a hs)
theorem L3.r {fn:Func}{R:Ending->World->Prop}(E:L3 P fn R Q)(h: ∀a,AK a N L->Leaves P fn a.tmps R D .returning w): ∀a,AK a N L->Q .ret (EU D a) w:=
 λ a hs=>E.all _ _ _ (by show Leaves P fn a.tmps R (a.defers++D) _ w;rw[hs.CZ];exact h a hs)
theorem RL.defer {f:FuncId}{x:Operand}{cs:List Value}{tys:Array TypeId}{ty:TypeId}{ps:String}{af:Array Edge}(hx:A8 L true x (.func (.func f) #[] cs.toArray))(h:RL P ops (λ e a w=>Q e (EU [{ target:=.fn (.func f) cs.toArray,args:= #[]}] a) w) N [] L w):
  RL P ops Q N [⟨none,.defer ⟨.value x,#[],tys⟩,ty,ps,af,none⟩] L w:=by
 intro a hs
 refine wpList_plain U λ K hK=>?_
 have key:(execOp a.eval ⟨none,.defer ⟨.value x,#[],tys⟩,ty,ps,af,none⟩).run P w= .ok (.defer { target:=.fn (.func f) cs.toArray,args:= #[]}) w:=by
  simp only[execOp,resolve,hx a N hs U,Deferred.ofValue,Sem.run_bind,Sem.run_pure,Result.andThen_ok]
  simp
 simp only[Oper.wp,key,Oper.upon_defer]
 have h1:=h a hs
 refine hK _ _ ?_
 show Q .normal (Act.put { a with defers:=_::a.defers} none undef) w
 rw[hs.CZ]
 have h2:Q .normal (EU [{ target:=.fn (.func f) cs.toArray,args:= #[]}] a) w:=h1
 unfold EU at h2
 rw[hs.CZ]at h2
 exact h2
theorem cX{fn:Func}{R:Ending->World->Prop}{f:FuncId}{tmps:Array Value}{cs:List Value}{u:FrameMode}{S:World->Prop}(ct: ∀args w,(callFunc f args).run P w= .ok (.enter f args) w)(hu:u≠ .run)(hm:settle (GI u).2= .returning)
  (hc:CallsD P f cs.toArray u w (λ e u' w'=>e= .returned (.tuple #[])/\u'=(GI u).2/\S w')) (h: ∀w',S w'-> ∃v,(results fn tmps).run P w'= .ok v w'/\R (.returned v) w'):
  Leaves P fn tmps R [{ target:=.fn (.func f) cs.toArray,args:= #[]}] u w:=by
 refine leaves_cons hu (args:=cs.toArray) (f:=f) (by simp[invoke,go_sem,ct]) (hc.mono ?_)
 rintro e u' w' ⟨rfl,rfl,hS⟩
 show Leaves P fn tmps R [] (settle (GI u).2) w'
 rw[hm]
 exact h w' hS
end
end Go.Eng
namespace Go.Eng
open Go.RowKit
def TW(c:Cx)(ds:List Deferred):Cx:= { c with W:=Wk.CZ c.P ds}
def PB(ds:List Deferred)(B:Exit->Act->World->Prop):Exit->Act->World->Prop:=λ e a w=>B e (EO ds a) w
theorem X9{c:Cx}{ds:List Deferred}{B:Exit->Act->World->Prop}(hw: ∀x Q a w,x.wp c.P Q a w->c.W.wp x Q a w): ∀(k:List Fr),MZ k=true-> ∀e a w,post (TW c ds) (PB ds B) k e a w->post c B k e (EO ds a) w
 |[],_,e,a,w,h=>h
 | .seq y::k,hk,e,a,w,h=>by
  unfold MZ at hk
  rw[Bool.and_eq_true]at hk
  have ih:=X9 (ds:=ds) (B:=B) hw k hk.2
  cases e with
  |normal=>
   have h:DH y=true->y.wp c.P (SQ ds (post (TW c ds) (PB ds B) k)) (EO ds a) w:=h
   refine hw _ _ _ _ (wp_mono (h hk.1) λ e a w ⟨a0,e0,q⟩=>?_)
   subst e0;exact ih _ _ _ q
  |_=>exact ih _ a w h
 | .block id::k,hk,e,a,w,h=>by
  have ih:=X9 (ds:=ds) (B:=B) hw k hk
  cases e with
  |exit id'=>
   have h:if id'=id then post (TW c ds) (PB ds B) k .normal a w else post (TW c ds) (PB ds B) k (.exit id') a w:=h
   show if id'=id then _ else _
   split<;>rename_i hid
   ·rw[if_pos hid]at h;exact ih _ a w h
   ·rw[if_neg hid]at h;exact ih _ a w h
  |_=>exact ih _ a w h
 | .scope::k,hk,e,a,w,h=>by
  have ih:=X9 (ds:=ds) (B:=B) hw k hk
  cases e<;>first|exact h.elim|exact ih _ a w h
 | .loop J::k,hk,_,_,_,_=>by cases hk
theorem AP8{P:Program}{N:Nat}{w0 w:World}{M0 M:Mem}{Hr:List HO}{T:TT}(hT:EN P T){f:FuncId}{fn:Func}{x:Code}{R:Ending->World->Prop}(hf:P.funcs[f]? =some fn)(hb:fn.body=some x)(hn:fn.ntmps=N)
  (F:List (Nat×Kn)) (H:List (Nat×HX)) (vs:List XV) (hl:Nat.ble vs.length N=true) (hS:St w0 M0 w M (HD H++Hr)) (hF:BJ M F)
  (h: ∀B,L3 P fn R B->XG ⟨P,N,w0,M0,M,Hr,T,hT,.wide P⟩ B [] (.code x) ⟨F,H,MU 0 vs⟩) {av:List Value} (ha:vs.map XV.d=av):Calls P f av.toArray w R:=by
 subst ha
 refine calls_of_wp_defers hf hb ?_
 rw[hn]
 have hs:=AK.enter (vs.map XV.d) N (by rw[List.length_map];exact Nat.le_of_ble_eq_true hl)
 exact h _ ⟨λ _ _ _ h=>h⟩ _ w ⟨by rw[<-Q7]at hs;exact hs,M,hS,hF,Mem.le.refl _⟩
section
variable {c:Cx} {B:Exit->Act->World->Prop} {k k':List Fr} {m:Md} {s s':XS} {O:Prop} {E:List Ck} {all:Array Oper} {ty:TypeId} {ps:String} {af:Array Edge}
abbrev cY(f:FuncId)(cs:List Value):List Deferred:=[{ target:=.fn (.func f) cs.toArray,args:= #[]}]
theorem AP9{x:Operand}{f:FuncId}{cs:List Value}{tys:Array TypeId}{E1:List Ck}(hw: ∀x Q a w,x.wp c.P Q a w->c.W.wp x Q a w)(hl: ∀ops Q l a w,wpList c.P ops Q l a w->c.W.list ops Q l a w)
  (h:run c.T c.N k m s=⟨k',.ops all [⟨none,.defer ⟨.value x,#[],tys⟩,ty,ps,af,none⟩],s',O,E⟩) (hE:AG E) (hO:O) (hx:C9 s'.L .t x=some (.v (.func (.func f) #[] ⟨cs⟩),E1)) (hE1:AG E1) (hk:MZ k'=true)
  (hn:XG (TW c (cY f cs)) (PB (cY f cs) B) k' .next s'):XG c B k m s:=by
 refine CI h hE hO λ a w ⟨hs,M,hX⟩=>hl _ _ _ _ _ ?_
 refine wpList_plain U λ K hK=>?_
 have hxv:a.eval x= .func (.func f) #[] ⟨cs⟩:=AT hx hE1 a c.N hs U
 have key:(execOp a.eval ⟨none,.defer ⟨.value x,#[],tys⟩,ty,ps,af,none⟩).run c.P w= .ok (.defer { target:=.fn (.func f) cs.toArray,args:= #[]}) w:=by
  simp only[execOp,resolve,hxv,Deferred.ofValue,Sem.run_bind,Sem.run_pure,Result.andThen_ok]
  simp
 simp only[Oper.wp,key,Oper.upon_defer]
 refine hK _ _ ?_
 have h1:=X9 hw k' hk _ _ _ (hn a w ⟨hs,M,hX.st,hX.f,hX.le⟩)
 have e:EO (cY f cs) a= { a with defers:= { target:=.fn (.func f) cs.toArray,args:= #[]}::a.defers}:=by unfold EO;rw[hs.CZ];rfl
 rw[e]at h1
 exact h1
theorem cZ{P:Program}{T:TT}(hT:EN P T){fn:Func}{H:List (Nat×HX)}{Hr:List HO}{w0 w:World}{M0 M:Mem}{L:XE}{a:Act}{N:Nat}{rs:List ResultVar}{vs:List XV}{E2:List Ck}(hS:St w0 M0 w M (HD H++Hr))(hs:AK a N L.d)(hr:fn.results=⟨rs⟩)(hl:QB T H L rs=some (vs,E2))(hE2:AG E2):(results fn a.tmps).run P w= .ok (SM vs) w:=by
 rw[XJ,hr]
 have h3:=ZG hT hS hs hl hE2
 have h4:((⟨rs⟩:Array ResultVar).mapM (JD a.tmps)).run P w= .ok (vs.map XV.d).toArray w:=by
  rw[Array.mapM_eq_mapM_toList]
  refine(Sem.run_bind' P _ _ w).trans ?_
  rw[h3];rfl
 rw[Sem.run_bind,h4]
 simp only[Result.andThen_ok,Sem.run_pure]
 congr 1
 match vs with
 |[]=>rfl
 |[v]=>rfl
 |_::_::_=>simp[SM]
theorem AQ0{fn:Func}{R:Ending->World->Prop}{ds:List Deferred}{B0:Exit->Act->World->Prop}(hB:L3 c.P fn R B0)(h:run c.T c.N k m s=⟨[],.ret,s',O,E⟩)(hE:AG E)(hO:O)(hR: ∀a w M,AK a c.N s'.L.d->DX c s'.F s'.H w M->Leaves c.P fn a.tmps R ds .returning w):XG c (PB ds B0) k m s:=
 CI h hE hO λ a w ⟨h1,M,h2⟩=>hB.all _ _ _ (by
  show Leaves c.P fn a.tmps R (a.defers++ds) .returning w
  rw[h1.CZ];exact hR a w M h1 h2)
theorem L3.oG {P:Program}{N:Nat}{L:XE}{fn:Func}{R:Ending->World->Prop}{Q:Exit->Act->World->Prop}{ds:List Deferred}{ch:List PanicEntry}{a:Act}{w:World}(hB:L3 P fn R Q)(hs:AK a N L.d)(h:Leaves P fn a.tmps R ds (.panicking ch) w):PB ds Q (.panic ch) a w:=
 hB.all _ _ _ (by show Leaves P fn a.tmps R (a.defers++ds) _ w;rw[hs.CZ];exact h)
theorem L3.ends {P:Program}{fn:Func}{R:Ending->World->Prop}{Q:Exit->Act->World->Prop}(hB:L3 P fn R Q):Ends P fn R Q:=⟨λ e a w h=>hB.all e a w (by
 cases e with
 |normal=>obtain⟨hd,h⟩:=h;show Leaves _ _ _ _ a.defers _ _;rw[hd];exact h
 |ret=>obtain⟨hd,h⟩:=h;show Leaves _ _ _ _ a.defers _ _;rw[hd];exact h
 |panic ch=>obtain⟨hd,h⟩:=h;show Leaves _ _ _ _ a.defers _ _;rw[hd];exact h
 |outgrown=>exact h
 |exit id=>exact h.elim
 |goto l=>exact h.elim)⟩
end
theorem AQ1{P:Program}{o:Oper}{a:Act}{w:World}{K K':Act->World->Prop}{Q:Exit->Act->World->Prop}(h:o.wp P a w K' Q):o.wp P a w K' (Exit.then K Q):=by
 unfold Oper.wp at*
 generalize (execOp a.eval o).run P w=r at*
 cases r with
 |ok n w'=>cases n<;>first|exact h|(simp only[Oper.upon]at h ⊢;exact h)
 |halt s w'=>cases s<;>first|exact h|(simp only[Oper.upon]at h ⊢;exact h)
theorem oH{P:Program}{T:TT}(hT:EN P T){f:FuncId}{fn:Func}{id d N:Nat}{o0:Oper}{l:List Oper}{y:Code}{u:FrameMode}{w0 w:World}{M0 M:Mem}{Hr:List HO}{S:World->Prop}(hf:P.funcs[f]? =some fn)(hb:fn.body=some (.seq (.region id (o0::l).toArray false) y))(hn:fn.ntmps=N)
  (hres:fn.results= #[]) (hg:o0.guard=none) (hd:o0.dst=some d) (hdN:Nat.blt d N=true) (hrun: ∀(a:Act) w,(execOp a.eval o0).run P w= .ok .recover w) (F:List (Nat×Kn)) (H:List (Nat×HX)) (rv:XV) (vs:List XV) (hrv:rv.d=(GI u).1) (hl:Nat.ble vs.length N=true) (hS:St w0 M0 w M (HD H++Hr)) (hF:BJ M F)
  (h: ∀B,(∀a w',a.defers=[]->S w'->B .normal a w')->XG ⟨P,N,w0,M0,M,Hr,T,hT,.wide P⟩ B [.seq y] (.ops (o0::l).toArray l) ⟨F,H,(d,.t,rv)::MU 0 vs⟩) {av:List Value} (ha:vs.map XV.d=av):
  CallsD P f av.toArray u w (λ e u' w'=>e= .returned (.tuple #[])/\u'=(GI u).2/\S w'):=by
 subst ha
 refine AP5 hf hb hn (by rw[List.length_map];exact Nat.le_of_ble_eq_true hl) hres hg hd hdN hrun λ K Q hK hQ a hs=>?_
 have h1:=h Q hQ a w ⟨by
  show AK a N ((d,true,rv.d)::XE.d (MU 0 vs))
  rw[Q7,hrv];exact hs,M,hS,hF,Mem.le.refl _⟩
 have mono: ∀(l':List Oper) (a:Act) (w:World),wpList P (o0::l).toArray (Exit.then (y.wp P Q) Q) l' a w->wpList P (o0::l).toArray (Exit.then K Q) l' a w:=by
  intro l'
  induction l' with
  |nil=>intro a w h;exact hK _ _ h
  |cons o l' ih=>
   intro a w h
   unfold wpList at h ⊢
   split at h<;>rename_i hw
   ·rw[if_pos hw]
    rcases h with h|⟨ha,a2,w2,h2⟩
    ·refine .inl ?_
     have h3:=S9 h
     have h4:=Oper.wp_mono (λ a w hh=>ih a w hh) h3
     exact AQ1 h4
    ·exact .inr ⟨ha,a2,w2,h2⟩
   ·rw[if_neg hw];exact ih _ _ h
 exact mono l a w h1
theorem oI{c:Cx}{B:Exit->Act->World->Prop}{k:List Fr}{m:Md}{s s':XS}{O:Prop}{E:List Ck}{S:World->Prop}(hB: ∀a w',a.defers=[]->S w'->B .normal a w')(h:run c.T c.N k m s=⟨[],.next,s',O,E⟩)(hE:AG E)(hO:O)(hR: ∀w M,DX c s'.F s'.H w M->S w):XG c B k m s:=
 CI h hE hO λ a w ⟨h1,M,h2⟩=>hB a w h1.CZ (hR w M h2)
end Go.Eng
namespace Go.Eng
theorem AQ2{t:Tk}(h:Eng.F1 t=true)(hk:t.kind=5):GK t.c=true:=by
 unfold Eng.F1 at h
 simp only[hk]at h
 simp at h
 exact h.2
theorem AQ3{s:A1}(hs:len s<=100000)(h:(CF s).2.2=0):IE (CF s).1:=by
 obtain⟨l,h1,h2⟩:=kZ h
 have hb:=h1.bd hs
 have hr:=h1.F1
 have hbl:=KF s 0 (Int.le_refl 0) (AA s)
 rw[h2]
 dsimp only
 have hll:len (l++[G4 s])=len l+1:=by rw[A5];rfl
 refine⟨λ i h0 hi hk=>?_,λ t ht hk=>?_,λ t ht hk=>?_,λ t ht=>?_,?_⟩
 ·rw[hll]at hi ⊢
  rcases Int.lt_or_eq_of_le (show i<=len l by omega)with hl|hl
  ·omega
  ·exact absurd (by rw[k8 l (G4 s) hl];rfl) hk
 ·rcases List.mem_append.1 ht with ht|ht
  ·obtain⟨_,hf,_⟩:=bP (AQ2 (hr t ht) hk)
   exact hf
  ·rw[List.mem_singleton.1 ht]at hk;exact absurd hk (by show ¬(6:Int)=5;decide)
 ·rcases List.mem_append.1 ht with ht|ht
  ·have:=hb.1 t ht
   exact⟨this.2.1,by have:=this.2.2 hk;omega⟩
  ·rw[List.mem_singleton.1 ht]at hk;exact absurd hk (by show ¬(6:Int)=5;decide)
 ·rcases List.mem_append.1 ht with ht|ht
  ·exact(hb.1 t ht).1
  ·rw[List.mem_singleton.1 ht];show len ([]:A1)<=_;decide
 ·have:=hb.2 hbl.2
  rw[hll];omega
end Go.Eng
