/-
  Parts Im Recov Dfr Xd, put together and made short by wip/py/merge.py (mini.py).
-/
import Derived.Test.YtmjpjbmeamnfpaaGreatDoorZe23
import Derived.Test.YtmjpjbmeamnfpaaGreatDoorZe8
import Derived.Defers
import Derived.Recover
import Derived.Test.YtmjpjbmeamnfpaaGreatDoorZe12
import Derived.Test.YtmjpjbmeamnfpaaGreatDoorZe0
set_option linter.unusedVariables false
set_option linter.unusedSimpArgs false
set_option maxRecDepth 100000
namespace Go.Eng
theorem jI{rt:Tf->Bool}{l:List Tk}: ∀ {f:Nat} {d i:Int} {xs:List Tf} {x:Tf} {j:Int},D6 A4 rt f l d xs i= .ok x j->x.t.op=4
 |0,_,_,_,_,_,h=>(CO h).elim
 |f+1,d,i,xs,x,j,h=>by
  rw[D6]at h
  split at h
  ·cases h;rfl
  ·obtain⟨_,k,_,h3⟩:=BA h
   obtain⟨y,m,_,h6⟩:=BA h3
   exact jI h6
theorem jJ{rt:Tf->Bool}{l:List Tk}{kd i:Int}{X:Int->PR Tf}{x:Tf}{j:Int}(h:EI A4 rt l kd i X= .ok x j):x.t.op=kd:=by
 unfold EI at h
 obtain⟨s,k1,h2,h3⟩:=BA h
 obtain⟨_,k2,h8,h9⟩:=BA h3
 obtain⟨y,k3,hb,hc⟩:=BA h9
 obtain⟨_,k4,hd,he⟩:=BA hc
 split at he
 ·cases he;rfl
 ·exact(CO he).elim
theorem UW(x:Tf):(at' x.flat 0).op=x.t.op:=by rw[Tf.IA];rfl
end Go.Eng
namespace Go.Proofs.YtmjpjbmeamnfpaaGreatDoor
open Go.Eng
def RP(b:Nat):List SV:=[⟨EW,.func (.func 90) #[.pointer (some ⟨b,0,none⟩)] #[],0⟩,⟨QV,.func (.func 91) #[.pointer (some ⟨b,0,none⟩)] #[],1⟩,⟨QW,.func (.func 92) #[.pointer (some ⟨b,0,none⟩)] #[],2⟩,⟨QX,.func (.func 93) #[.pointer (some ⟨b,0,none⟩)] #[],3⟩]
theorem jK{b:Nat}{x:A1}(h1:x≠EW)(h2:x≠QV)(h3:x≠QW)(h4:x≠QX):G5 (RP b) x=none:=by
 show(if x==EW then _ else if x==QV then _ else if x==QW then _ else if x==QX then _ else none)=none
 simp only[beq_iff_eq]
 rw[if_neg h1,if_neg h2,if_neg h3,if_neg h4]
theorem yF{rt:Tf->Bool}{f:Nat}(hrt:KR rt)(H:HU rt f){w0 wv:World}{M0 M:Mem}{Rs:List HO}{b:Nat}{v:Value}{l:List Tk}{i d d2:Int}(h:G4 w0 wv M0 M Rs b v l i d)(hd0:0<d)(hd:d<=64)(hf:4*(len l-i)+2<=(f:Int))(hd2:d-1=d2):
 Calls Tryz.prog 92 [.pointer (some ⟨b,0,none⟩)].toArray wv (LS w0 M0 M Rs b v d2 (EI A4 rt l 7 i (AP A4 rt f l d))):=by subst hd2;exact xW hrt H h hd0 hd hf
theorem yG{rt:Tf->Bool}{f:Nat}(hrt:KR rt)(H:HU rt f){w0 wv:World}{M0 M:Mem}{Rs:List HO}{b:Nat}{v:Value}{l:List Tk}{i d d2:Int}(h:G4 w0 wv M0 M Rs b v l i d)(hd0:0<d)(hd:d<=64)(hf:4*(len l-i)+2<=(f:Int))(hd2:d-1=d2):
 Calls Tryz.prog 93 [.pointer (some ⟨b,0,none⟩)].toArray wv (LS w0 M0 M Rs b v d2 (EI A4 rt l 8 i (AP A4 rt f l d))):=by subst hd2;exact xX hrt H h hd0 hd hf
theorem yH{rt:Tf->Bool}{f:Nat}(hrt:KR rt)(H: ∀g,g<=f->HU rt g):LV 1 62 (HN A4 rt (f+1)) (f+1) λ l i=>(at' l i).kind=2:=by
 intro w0 wv M0 M Rs b v l i d h hd0 hd hf hk2
 obtain⟨hS,hl,hg,ok,h0,h1⟩:=h
 have hfew:=ok.few
 have hi1:=EZ ok h0 h1 hk2 (by decide)
 refine B3 (Hr:=Rs) AX Tryz.func62 U Tryz.ntmps62 [(0,kn v 9 l Tk.cells)] [(0,AS b v i d)] [.bx 0 b 0] U hS (fc 0 hl (λ _=>rfl) AA) (λ B hB=>?_) U
 rw[HN]at hB
 refine iS 5 U (A0 U) (by omega) U λ mm=>?_
 refine DT (.v (.func (.func 90) #[.pointer (some ⟨b,0,none⟩)] #[])) U (A0 U) (by omega) U (λ w M hX=>PV.makeFunc (xs:=[.tmp 9]) (ys:=[]) (vs:=[.pointer (some ⟨b,0,none⟩)]) (us:=[]) ⟨AT (v:=.bx 0 b 0) (E:=[]) U (A0 U),trivial⟩ trivial) ?_
 refine RM true 5 ((RP b).take 1) 1 U (A0 U) (by omega) U U U (A0 U) U Tryz.underlying145 Tryz.underlying9 (by kernel_rfl) (by kernel_rfl) ?_
 refine DT (.v (.func (.func 91) #[.pointer (some ⟨b,0,none⟩)] #[])) U (A0 U) (by omega) U (λ w M hX=>PV.makeFunc (xs:=[.tmp 11]) (ys:=[]) (vs:=[.pointer (some ⟨b,0,none⟩)]) (us:=[]) ⟨AT (v:=.bx 0 b 0) (E:=[]) U (A0 U),trivial⟩ trivial) ?_
 refine RM true 5 ((RP b).take 2) 2 U (A0 U) (by omega) U U U (A0 U) U Tryz.underlying145 Tryz.underlying9 (by kernel_rfl) (by kernel_rfl) ?_
 refine DT (.v (.func (.func 92) #[.pointer (some ⟨b,0,none⟩)] #[])) U (A0 U) (by omega) U (λ w M hX=>PV.makeFunc (xs:=[.tmp 13]) (ys:=[]) (vs:=[.pointer (some ⟨b,0,none⟩)]) (us:=[]) ⟨AT (v:=.bx 0 b 0) (E:=[]) U (A0 U),trivial⟩ trivial) ?_
 refine RM true 5 ((RP b).take 3) 3 U (A0 U) (by omega) U U U (A0 U) U Tryz.underlying145 Tryz.underlying9 (by kernel_rfl) (by kernel_rfl) ?_
 refine DT (.v (.func (.func 93) #[.pointer (some ⟨b,0,none⟩)] #[])) U (A0 U) (by omega) U (λ w M hX=>PV.makeFunc (xs:=[.tmp 15]) (ys:=[]) (vs:=[.pointer (some ⟨b,0,none⟩)]) (us:=[]) ⟨AT (v:=.bx 0 b 0) (E:=[]) U (A0 U),trivial⟩ trivial) ?_
 refine RM true 5 (RP b) 4 U (A0 U) (by omega) U U U (A0 U) U Tryz.underlying145 Tryz.underlying9 (by kernel_rfl) (by kernel_rfl) ?_
 refine CF [0] (DA (at' l i)) U (A0 U) (by omega) Tryz.call41 U U (A0 U) U (λ _ w M hS hF=>DR hS (hF.get (k:=0) U).sl h0 h1) U ?_
 by_cases e:(at' l i).s=EW
 ·have hna:(at' l i).s≠KK:=by rw[e];decide
  rw[if_neg hna,if_pos e]at hB
  refine PA 5 U (A0 U) (by omega) U U (A0 U) U Tryz.underlying145 Tryz.underlying9 Tryz.zeroValue87 (v:=.func (.func 90) #[.pointer (some ⟨b,0,none⟩)] #[]) (q:=true) (by rw[e];rfl) (by rw[e];rfl) ?_
  refine AB U (A0 U) (by omega) (λ hb1=>?_) (λ hb1=>?_)<;>simp only[zb]at hb1
  ·exact absurd hb1 hna
  refine AB rfl (A0 rfl) (by omega) (λ hb2=>by cases hb2) (λ _=>?_)
  refine BO [0] [] (λ _ (_:Unit)=>.tu []) (λ _ j _=>[(0,AS b v j (d+1))]) hB U (A0 U) (by simp only[zb]<;>omega) U Tryz.call95 U U (A0 U) U (List.sublist_cons_self _ _) (λ w M hS hF=>MZ [40] ⟨hS,(hF.get (k:=0) U).sl,hg,ok,by omega,hi1⟩ ⟨hd0,hd⟩) (λ _ _=>rfl) (λ _ _ _=>rfl) λ _ k hk hB _ _=>?_
  obtain⟨rfl,hk1,hd2,_⟩:=E6 ok (by omega) hi1 hk
  refine BO [0] [] (λ _ (h:AO)=>.sl 7 h.v) (λ x j h=>[(0,AS b v j (d+1)),(7,C2 h.v x.flat)]) hB U (A0 U) (by omega) U Tryz.call90 U U (A0 U) U (List.sublist_cons_self _ _) (λ w M hS hF=>xY H ⟨hS,(hF.get (k:=0) U).sl,hg,ok,by omega,hk1⟩ (by omega) (by omega) (by omega) trivial) (λ _ _=>rfl) (λ _ _ _=>rfl) λ x j hx hB h7 _=>?_
  obtain⟨hij,hle,_,_,_⟩:=(IG rt ok f).tup _ (i+1+1) _ _ _ _ (by omega) hk1 (.nil _) hx
  have hop:=jI hx
  have hfp:=Tf.G3 x
  have hop2:=UW x
  refine AB U (A0 U) (by simp only[zb]<;>omega) (λ hb3=>?_) (λ hb3=>?_)<;>simp only[zb]at hb3
  ·refine BO [0] [] (λ _ (_:Unit)=>.tu []) (λ _ j _=>[(0,AS b v j d)]) hB U (A0 U) (by omega) U Tryz.call96 U U (A0 U) U IB (λ w M hS hF=>N1 [41] ⟨hS,(hF.get (k:=0) U).sl,hg,ok,by omega,hle⟩ (by omega) (by omega)) (λ _ _=>rfl) (λ _ _ _=>rfl) λ _ n hn hB _ _=>?_
   exact AH hB U U (A0 U) (by omega) U (A0 U) λ w M' hX=>⟨h7,M',rfl,trivial,hX.le,hX.C5 [0,7] U,AA⟩
  ·omega
 have e0:=e
 by_cases e:(at' l i).s=QV
 ·have hna:(at' l i).s≠KK:=by rw[e];decide
  rw[if_neg hna,if_neg e0,if_pos e]at hB
  refine PA 5 U (A0 U) (by omega) U U (A0 U) U Tryz.underlying145 Tryz.underlying9 Tryz.zeroValue87 (v:=.func (.func 91) #[.pointer (some ⟨b,0,none⟩)] #[]) (q:=true) (by rw[e];rfl) (by rw[e];rfl) ?_
  refine AB U (A0 U) (by omega) (λ hb1=>?_) (λ hb1=>?_)<;>simp only[zb]at hb1
  ·exact absurd hb1 hna
  refine AB rfl (A0 rfl) (by omega) (λ hb2=>by cases hb2) (λ _=>?_)
  refine BO [0] [] (λ _ (_:Unit)=>.tu []) (λ _ j _=>[(0,AS b v j (d+1))]) hB U (A0 U) (by simp only[zb]<;>omega) U Tryz.call95 U U (A0 U) U (List.sublist_cons_self _ _) (λ w M hS hF=>MZ [40] ⟨hS,(hF.get (k:=0) U).sl,hg,ok,by omega,hi1⟩ ⟨hd0,hd⟩) (λ _ _=>rfl) (λ _ _ _=>rfl) λ _ k hk hB _ _=>?_
  obtain⟨rfl,hk1,hd2,_⟩:=E6 ok (by omega) hi1 hk
  have eb:((AP A4 rt f l (d+1) (i+1+1)).bind λ x k=>(AR l k [41]).bind λ _ m=>.ok (.mk (AN 6) [x]) m)=(ZH rt f l (d+1) (i+1+1)).bind λ x k=>(AR l k [41]).bind λ _ m=>.ok x m:=by unfold ZH;rw[PR.assoc];rfl
  rw[eb]at hB
  refine BO [0] [] (λ _ (h:AO)=>.sl 7 h.v) (λ x j h=>[(0,AS b v j (d+1)),(7,C2 h.v x.flat)]) hB U (A0 U) (by omega) U Tryz.call91 U U (A0 U) U (List.sublist_cons_self _ _) (λ w M hS hF=>xV (H f (Nat.le_refl _)) ⟨hS,(hF.get (k:=0) U).sl,hg,ok,by omega,hk1⟩ (by omega) (by omega) (by omega) trivial) (λ _ _=>rfl) (λ _ _ _=>rfl) λ x j hx hB h7 _=>?_
  obtain⟨y,j',hy,he⟩:=BA hx
  cases he
  have gy:=(IG rt ok f).ty _ _ _ _ (by omega) hk1 hy
  have hij:=gy.lt
  have hle:=gy.le
  have hop:(Tf.mk (AN 6) [y]).t.op=6:=rfl
  have hfp:=Tf.G3 (Tf.mk (AN 6) [y])
  have hop2:=UW (Tf.mk (AN 6) [y])
  refine AB U (A0 U) (by simp only[zb]<;>omega) (λ hb3=>?_) (λ hb3=>?_)<;>simp only[zb]at hb3
  ·refine BO [0] [] (λ _ (_:Unit)=>.tu []) (λ _ j _=>[(0,AS b v j d)]) hB U (A0 U) (by omega) U Tryz.call96 U U (A0 U) U IB (λ w M hS hF=>N1 [41] ⟨hS,(hF.get (k:=0) U).sl,hg,ok,by omega,hle⟩ (by omega) (by omega)) (λ _ _=>rfl) (λ _ _ _=>rfl) λ _ n hn hB _ _=>?_
   exact AH hB U U (A0 U) (by omega) U (A0 U) λ w M' hX=>⟨h7,M',rfl,trivial,hX.le,hX.C5 [0,7] U,AA⟩
  ·omega
 have e1:=e
 by_cases e:(at' l i).s=QW
 ·have hna:(at' l i).s≠KK:=by rw[e];decide
  rw[if_neg hna,if_neg e0,if_neg e1,if_pos e]at hB
  refine PA 5 U (A0 U) (by omega) U U (A0 U) U Tryz.underlying145 Tryz.underlying9 Tryz.zeroValue87 (v:=.func (.func 92) #[.pointer (some ⟨b,0,none⟩)] #[]) (q:=true) (by rw[e];rfl) (by rw[e];rfl) ?_
  refine AB U (A0 U) (by omega) (λ hb1=>?_) (λ hb1=>?_)<;>simp only[zb]at hb1
  ·exact absurd hb1 hna
  refine AB rfl (A0 rfl) (by omega) (λ hb2=>by cases hb2) (λ _=>?_)
  refine BO [0] [] (λ _ (_:Unit)=>.tu []) (λ _ j _=>[(0,AS b v j (d+1))]) hB U (A0 U) (by simp only[zb]<;>omega) U Tryz.call95 U U (A0 U) U (List.sublist_cons_self _ _) (λ w M hS hF=>MZ [40] ⟨hS,(hF.get (k:=0) U).sl,hg,ok,by omega,hi1⟩ ⟨hd0,hd⟩) (λ _ _=>rfl) (λ _ _ _=>rfl) λ _ k hk hB _ _=>?_
  obtain⟨rfl,hk1,hd2,_⟩:=E6 ok (by omega) hi1 hk
  refine BO [0] [] (λ _ (h:AO)=>.sl 7 h.v) (λ x j h=>[(0,AS b v j d),(7,C2 h.v x.flat)]) ((PR.ret (EI A4 rt l 7 (i+1+1) (AP A4 rt f l (d+1)))).symm▸hB) U (A0 U) (by omega) U Tryz.call92 U U (A0 U) U (List.sublist_cons_self _ _) (λ w M hS hF=>yF (l:=l) hrt (H f (Nat.le_refl _)) ⟨hS,(hF.get (k:=0) U).sl,hg,ok,by omega,hk1⟩ (by omega) (by omega) (by omega) (by omega)) (λ _ _=>rfl) (λ _ _ _=>rfl) λ x j hx hB h7 _=>?_
  have hop:=jJ hx
  have hfp:=Tf.G3 x
  have hop2:=UW x
  refine AB U (A0 U) (by simp only[zb]<;>omega) (λ hb3=>?_) (λ hb3=>?_)<;>simp only[zb]at hb3
  ·omega
  ·exact AH hB U U (A0 U) (by omega) U (A0 U) λ w M' hX=>⟨h7,M',rfl,trivial,hX.le,hX.C5 [0,7] U,AA⟩
 have e2:=e
 by_cases e:(at' l i).s=QX
 ·have hna:(at' l i).s≠KK:=by rw[e];decide
  rw[if_neg hna,if_neg e0,if_neg e1,if_neg e2,if_pos e]at hB
  refine PA 5 U (A0 U) (by omega) U U (A0 U) U Tryz.underlying145 Tryz.underlying9 Tryz.zeroValue87 (v:=.func (.func 93) #[.pointer (some ⟨b,0,none⟩)] #[]) (q:=true) (by rw[e];rfl) (by rw[e];rfl) ?_
  refine AB U (A0 U) (by omega) (λ hb1=>?_) (λ hb1=>?_)<;>simp only[zb]at hb1
  ·exact absurd hb1 hna
  refine AB rfl (A0 rfl) (by omega) (λ hb2=>by cases hb2) (λ _=>?_)
  refine BO [0] [] (λ _ (_:Unit)=>.tu []) (λ _ j _=>[(0,AS b v j (d+1))]) hB U (A0 U) (by simp only[zb]<;>omega) U Tryz.call95 U U (A0 U) U (List.sublist_cons_self _ _) (λ w M hS hF=>MZ [40] ⟨hS,(hF.get (k:=0) U).sl,hg,ok,by omega,hi1⟩ ⟨hd0,hd⟩) (λ _ _=>rfl) (λ _ _ _=>rfl) λ _ k hk hB _ _=>?_
  obtain⟨rfl,hk1,hd2,_⟩:=E6 ok (by omega) hi1 hk
  refine BO [0] [] (λ _ (h:AO)=>.sl 7 h.v) (λ x j h=>[(0,AS b v j d),(7,C2 h.v x.flat)]) ((PR.ret (EI A4 rt l 8 (i+1+1) (AP A4 rt f l (d+1)))).symm▸hB) U (A0 U) (by omega) U Tryz.call93 U U (A0 U) U (List.sublist_cons_self _ _) (λ w M hS hF=>yG (l:=l) hrt (H f (Nat.le_refl _)) ⟨hS,(hF.get (k:=0) U).sl,hg,ok,by omega,hk1⟩ (by omega) (by omega) (by omega) (by omega)) (λ _ _=>rfl) (λ _ _ _=>rfl) λ x j hx hB h7 _=>?_
  have hop:=jJ hx
  have hfp:=Tf.G3 x
  have hop2:=UW x
  refine AB U (A0 U) (by simp only[zb]<;>omega) (λ hb3=>?_) (λ hb3=>?_)<;>simp only[zb]at hb3
  ·omega
  ·exact AH hB U U (A0 U) (by omega) U (A0 U) λ w M' hX=>⟨h7,M',rfl,trivial,hX.le,hX.C5 [0,7] U,AA⟩
 refine PA 5 U (A0 U) (by omega) U U (A0 U) U Tryz.underlying145 Tryz.underlying9 Tryz.zeroValue87 (v:=.nilFunc) (q:=false) (by rw[jK e0 e1 e2 e];rfl) (by rw[jK e0 e1 e2 e];rfl) ?_
 refine AB U (A0 U) (by omega) (λ hb1=>?_) (λ hb1=>?_)<;>simp only[zb]at hb1
 ·have ha:(at' l i).s=KK:=hb1
  rw[if_pos ha]at hB
  refine ML 7 [AN 0] Tm.cells 11 48 Tm.BZ U (A0 U) (by simp only[zb]<;>omega) U (A0 U) (λ w=>by kernel_rfl) U λ u=>?_
  exact AH hB U U (A0 U) (by omega) U (A0 U) λ w M' hX=>Z9 (d:=d) (x:=(Tf.mk (AN 0) []).flat) ⟨u,M',rfl,trivial,hX.le,hX.C5 [0,7] U,AA⟩
 ·have ha: ¬(at' l i).s=KK:=hb1
  rw[if_neg ha,if_neg e0,if_neg e1,if_neg e2,if_neg e]at hB
  refine AB rfl (A0 rfl) (by omega) (λ _=>?_) (λ hb2=>by cases hb2)
  refine BO [0] [] (λ _ (h:AO)=>.sl 7 h.v) (λ x j h=>[(0,AS b v j d),(7,C2 h.v x.flat)]) ((PR.ret (J4 l d i)).symm▸hB) U (A0 U) (by omega) U Tryz.call94 U U (A0 U) U (List.sublist_cons_self _ _) (λ w M hS hF=>wS ⟨hS,(hF.get (k:=0) U).sl,hg,ok,h0,h1⟩ ⟨hd0,hd⟩) (λ _ _=>rfl) (λ _ _ _=>rfl) λ x j hx hB h7 _=>?_
  exact AH hB U U (A0 U) (by omega) U (A0 U) λ w M' hX=>⟨h7,M',rfl,trivial,hX.le,hX.C5 [0,7] U,AA⟩
theorem yI{rt:Tf->Bool}{f:Nat}(H: ∀g,g<=f->HU rt g):LV 2 40 (AP A4 rt (f+1)) (f+1) PB:=by
 intro w0 wv M0 M Rs b v l i d h hd0 hd hf _
 obtain⟨hS,hl,hg,ok,h0,h1⟩:=h
 refine B3 (Hr:=Rs) AX Tryz.func40 U Tryz.ntmps40 [(0,kn v 9 l Tk.cells)] [(0,AS b v i d)] [.bx 0 b 0] U hS (fc 0 hl (λ _=>rfl) AA) (λ B hB=>?_) U
 rw[AP,<-PR.ret (ite _ _ _)]at hB
 refine CF [0] (DA (at' l i)) U (A0 U) (by omega) Tryz.call41 U U (A0 U) U (λ _ w M hS hF=>DR hS (hF.get (k:=0) U).sl h0 h1) U ?_
 refine AB U (A0 U) (by omega) (λ hb1=>?_) (λ hb1=>?_)<;>simp only[zb]at hb1
 ·rw[if_pos hb1]at hB
  refine BO [0] [] (λ _ (h:AO)=>.sl 7 h.v) (λ x j h=>[(0,AS b v j d),(7,C2 h.v x.flat)]) hB U (A0 U) (by omega) U Tryz.call62 U U (A0 U) U (List.Sublist.refl _) (λ w M hS hF=>(H f (Nat.le_refl _)).wd ⟨hS,(hF.get (k:=0) U).sl,hg,ok,h0,h1⟩ hd0 hd (by omega) hb1) (λ _ _=>rfl) (λ _ _ _=>rfl) λ x j hx hB h7 _=>?_
  exact AH hB U U (A0 U) (by omega) U (A0 U) λ w M' hX=>⟨h7,M',rfl,trivial,hX.le,hX.C5 [0,7] U,AA⟩
 rw[if_neg hb1]at hB
 refine CF [0] (.v (.bool (A9 l i [123]))) U (A0 U) (by omega) Tryz.call63 U U (A0 U) U (λ _ w M hS hF=>I9 [123] hS (hF.get (k:=0) U).sl h0 h1) U ?_
 refine AB U (A0 U) (by omega) (λ hb2=>?_) (λ hb2=>?_)
 ·rw[if_pos hb2]at hB
  refine BO [0] [] (r:=jH rt f l d i) (λ _ (h:AO)=>.sl 7 h.v) (λ x j h=>[(0,AS b v j d),(7,C2 h.v x.flat)]) hB U (A0 U) (by omega) U Tryz.call64 U U (A0 U) U (List.Sublist.refl _) (λ w M hS hF=>yE H ⟨hS,(hF.get (k:=0) U).sl,hg,ok,h0,h1⟩ hd0 hd (by omega) trivial) (λ _ _=>rfl) (λ _ _ _=>rfl) λ x j hx hB h7 _=>?_
  exact AH hB U U (A0 U) (by omega) U (A0 U) λ w M' hX=>⟨h7,M',rfl,trivial,hX.le,hX.C5 [0,7] U,AA⟩
 ·rw[if_neg (by rw[hb2];decide)]at hB
  refine BO [0] [] (r:=jC rt f l d i) (λ _ (h:AO)=>.sl 7 h.v) (λ x j h=>[(0,AS b v j d),(7,C2 h.v x.flat)]) hB U (A0 U) (by omega) U Tryz.call65 U U (A0 U) U (List.Sublist.refl _) (λ w M hS hF=>xU (H f (Nat.le_refl _)) ⟨hS,(hF.get (k:=0) U).sl,hg,ok,h0,h1⟩ hd0 hd (by omega) trivial) (λ _ _=>rfl) (λ _ _ _=>rfl) λ x j hx hB h7 _=>?_
  exact AH hB U U (A0 U) (by omega) U (A0 U) λ w M' hX=>⟨h7,M',rfl,trivial,hX.le,hX.C5 [0,7] U,AA⟩
theorem ZI{rt:Tf->Bool}(hrt:KR rt): ∀(f g:Nat),g<=f->HU rt g
 |f,0,_=>⟨λ h _ _ hf _=>by have:=h.h1;omega,λ h _ _ hf _=>by have:=h.h1;omega⟩
 |0,g+1,hgf=>by omega
 |f+1,g+1,hgf=>⟨yI λ k hk=>ZI hrt f k (by omega),yH hrt λ k hk=>ZI hrt f k (by omega)⟩
end Go.Proofs.YtmjpjbmeamnfpaaGreatDoor
namespace Go.Eng
open Go.RowKit
theorem yJ{P:Program}{ops:Array Oper}{Q:Exit->Act->List Frame->World->Prop}{cs:List Frame}(hq: ¬LetsOut (λ e a w=>Q e a cs w))(l:List Oper):
  ∀(k:Nat),(∀j,l[j]? =ops[k+j]?)-> ∀a w,wpList P ops (λ e a w=>Q e a cs w) l a w->wpOpsS P ops Q (List.range' k l.length) a cs w:=by
 induction l with
 |nil=>intro k _ a w h;exact h
 |cons o l ih=>
  intro k hk a w h
  have h0:ops[k]? =some o:=by simpa using(hk 0).symm
  have ih':=ih (k+1) (λ j=>by have:=hk (j+1);simpa[Nat.add_assoc,Nat.add_comm 1 j]using this)
  simp only[List.length_cons,List.range'_succ,wpOpsS,h0]
  unfold wpList at h
  by_cases hw:Region.wanted o (yielded ops a.tmps)=true
  ·rw[if_pos hw]at h ⊢
   have h1:=(h.resolve_right λ hh=>hq hh.2)
   have h2:=Oper.wp_mono (λ a' w' hh=>ih' a' w' hh) h1
   unfold Oper.wp at h2
   split
   ·rename_i w' he;rw[he]at h2;exact h2.elim
   ·exact h2
  ·rw[if_neg hw]at h ⊢
   exact ih' _ _ h
theorem yK{P:Program}{Q:Exit->Act->List Frame->World->Prop}{cs cs':List Frame}{id:Nat}{o0:Oper}{l:List Oper}{a:Act}{w:World}{v:Value}(hg:o0.guard=none)(hrun:(execOp a.eval o0).run P w= .ok .recover w)
  (hrec:recoverD cs=some (v,cs')\/(recoverD cs=none/\v= .nilIface/\cs'=cs)) (hq: ¬LetsOut (λ e a w=>Q e a cs' w)) (h:wpList P (o0::l).toArray (λ e a w=>Q e a cs' w) l (a.put o0.dst v) w):
  (Code.region id (o0::l).toArray false).wpS P Q a cs w:=by
 refine wpS_region ?_
 have hw:Region.wanted o0 (yielded (o0::l).toArray a.tmps)=true:=by unfold Region.wanted;rw[hg]
 have h1:=yJ (ops:=(o0::l).toArray) hq l 1 (λ j=>by simp[Nat.add_comm 1 j]) _ _ h
 rw[show List.range (o0::l).toArray.size=0::List.range' 1 l.length from by simp[List.range_eq_range',List.range'_succ]]
 unfold wpOpsS
 rw[show(o0::l).toArray[0]? =some o0 from by simp]
 dsimp only
 rw[if_pos hw,hrun]
 dsimp only
 rcases hrec with hr|⟨hr,rfl,rfl⟩
 ·rw[hr];exact h1
 ·rw[hr];exact h1
section
variable {P:Program} {C:World->Prop} {L:Env} {W:Bool} {d:Option Tmp} {ty:TypeId} {ps:String} {af:Array Edge} {gd:Option (Nat×Bool)}
theorem PV.yL {xt t:TypeId}{x:Operand}{v:Value}{fs:Array Field}(hx:A5 L W x (.iface t v))(ht:P.underlying t=some (.struct fs)):PV P C L W ⟨d,.typeAssert x xt t true,ty,ps,af,gd⟩ (.tuple #[v,.bool true]):=
 .un (f:=λ u=>Instr.typeAssert u xt t true) (λ _=>rfl) hx λ _ w _=>by
  simp only[Instr.typeAssert,Sem.run_bind,run_underlying ht,Result.andThen_ok]
  simp[Sem.run_pure]
theorem PV.yM {xt t:TypeId}{x:Operand}{z:Value}{fs:Array Field}(hx:A5 L W x .nilIface)(ht:P.underlying t=some (.struct fs))(hz: ∀w,(zeroValue t).run P w= .ok z w):PV P C L W ⟨d,.typeAssert x xt t true,ty,ps,af,gd⟩ (.tuple #[z,.bool false]):=
 .un (f:=λ u=>Instr.typeAssert u xt t true) (λ _=>rfl) hx λ _ w _=>by
  simp only[Instr.typeAssert,Sem.run_bind,run_underlying ht,Result.andThen_ok]
  simp[Sem.run_bind,Sem.run_pure,hz]
end
def FB:FrameMode->Value×FrameMode
 | .panicking ({ v,recovered:=false,goexit:=false}::older)=>(v,.panicking ({ v,recovered:=true}::older))
 |u=>(.nilIface,u)
theorem yN(c:Frame)(cs:List Frame):recoverD (c::cs)=some ((FB c.mode).1,{ c with mode:=(FB c.mode).2}::cs)\/(recoverD (c::cs)=none/\(FB c.mode).1= .nilIface/\ { c with mode:=(FB c.mode).2}::cs=c::cs):=by
 obtain⟨_,_,_,_,m,_,_⟩:=c
 cases m with
 |panicking ch=>
  cases ch with
  |nil=>exact .inr ⟨rfl,rfl,rfl⟩
  |cons p older=>
   obtain⟨v,r,g⟩:=p
   cases r<;>cases g<;>first|exact .inl rfl|exact .inr ⟨rfl,rfl,rfl⟩
 |_=>exact .inr ⟨rfl,rfl,rfl⟩
theorem yO{P:Program}{f:FuncId}{fn:Func}{id d N:Nat}{o0:Oper}{l:List Oper}{y:Code}{vs:List Value}{u:FrameMode}{w:World}{S:World->Prop}(hf:P.funcs[f]? =some fn)(hb:fn.body=some (.seq (.region id (o0::l).toArray false) y))(hn:fn.ntmps=N)(hl:vs.length<=N)
  (hres:fn.results= #[]) (hg:o0.guard=none) (hd:o0.dst=some d) (hdN:Nat.blt d N=true) (hrun: ∀(a:Act) w,(execOp a.eval o0).run P w= .ok .recover w)
  (h: ∀(K:Act->World->Prop) (Q:Exit->Act->World->Prop),(∀a w',y.wp P Q a w'->K a w')->(∀a w',a.defers=[]->S w'->Q .normal a w')->RL P (o0::l).toArray (Exit.then K Q) N l ((d,true,(FB u).1)::JI 0 vs) w):
  CallsD P f vs.toArray u w (λ e u' w'=>e= .returned (.tuple #[])/\u'=(FB u).2/\S w'):=by
 refine callsD_of_wpS hf hb λ c₀ cs hu=>wpS_seq ?_
 subst hu
 have hs:=AF.enter vs N hl
 rw[<-hn]at hs
 refine yK hg (hrun _ _) (yN c₀ cs) ?_ ?_
 ·rintro⟨a,w',h1⟩
  obtain⟨u',h2,_⟩:=h1
  cases h2
 ·subst hn
  have hput:=hs.put hdN true (FB c₀.mode).1
  rw[hd]
  have hh:=h (λ a w'=>y.wpS P (bodyPostS P fn c₀ cs (λ e u' w'=>e= .returned (.tuple #[])/\u'=(FB c₀.mode).2/\S w')) a ({ c₀ with mode:=(FB c₀.mode).2}::cs) w')
   (λ e a w'=>bodyPostS P fn c₀ cs (λ e u' w'=>e= .returned (.tuple #[])/\u'=(FB c₀.mode).2/\S w') e a ({ c₀ with mode:=(FB c₀.mode).2}::cs) w')
   (λ a w' h1=>wpS_of_wp h1) (λ a w' h1 h2=>⟨h1,_,rfl,_,results_none hres _ _ _,rfl,rfl,h2⟩) _ hput
  refine Eq.mp ?_ hh
  congr 1
  funext e a w'
  cases e<;>rfl
end Go.Eng
namespace Go.Eng
open Go.RowKit
def DX(D:List Deferred)(a:Act):Act:=⟨a.tmps,a.defers++D⟩
theorem ZJ(D:List Deferred)(a:Act):(DX D a).eval=a.eval:=by funext x;cases x<;>rfl
theorem PC(D:List Deferred)(a:Act)(d:Option Tmp)(v:Value):(DX D a).put d v=DX D (a.put d v):=by cases d<;>rfl
section
variable {P:Program} {ops:Array Oper} {D:List Deferred} {Q:Exit->Act->World->Prop} {N:Nat} {L:Env} {w:World}
theorem yP{o:Oper}{a:Act}{n n':Act->World->Prop}(hn: ∀a w,n' a w->n (DX D a) w)(r:Result Next)(h:o.upon P a n' (λ e a w=>Q e (DX D a) w) r):o.upon P (DX D a) n Q r:=by
 cases r with
 |ok x w'=>
  cases x with
  |value v=>rw[Oper.upon_value]at h ⊢;rw[PC];exact hn _ _ h
  |skip=>rw[Oper.upon_skip]at h ⊢;rw[PC];exact hn _ _ h
  |defer d=>
   rw[Oper.upon_defer]at h ⊢
   have e:({ DX D a with defers:=d::(DX D a).defers}:Act)=DX D { a with defers:=d::a.defers}:=rfl
   rw[e,PC];exact hn _ _ h
  |enter f args=>
   rw[Oper.upon_enter]at h ⊢
   refine h.mono λ e w'' he=>?_
   cases e with
   |returned v=>dsimp only at he ⊢;rw[PC];exact hn _ _ he
   |panicked ch=>exact he
   |outgrown=>obtain⟨a2,w2,h2⟩:=he;exact⟨_,_,h2⟩
  |row r args=>
   rw[Oper.upon_row]at h ⊢
   exact Rows.mono h λ v w'' he=>by rw[PC];exact hn _ _ he
  |_=>exact h.elim
 |halt x w'=>
  cases x with
  |panic v=>exact h
  |_=>exact h.elim
theorem yQ(l:List Oper): ∀(a:Act) (w:World),wpList P ops (λ e a w=>Q e (DX D a) w) l a w->wpList P ops Q l (DX D a) w:=by
 induction l with
 |nil=>intro a w h;exact h
 |cons o l ih=>
  intro a w h
  unfold wpList at h ⊢
  show if Region.wanted o (yielded ops a.tmps)=true then _ else _
  by_cases hw:Region.wanted o (yielded ops a.tmps)=true
  ·rw[if_pos hw]at h ⊢
   rcases h with h|⟨ha,a2,w2,h2⟩
   ·left
    unfold Oper.wp at h ⊢
    rw[ZJ]
    exact yP ih _ h
   ·right
    refine⟨?_,_,_,h2⟩
    unfold Oper.asks at ha ⊢
    rw[ZJ];exact ha
  ·rw[if_neg hw]at h ⊢
   rw[PC];exact ih _ _ h
def EE(P:Program)(D:List Deferred)(c:Code)(Q:Exit->Act->World->Prop)(N:Nat)(L:Env)(w:World):Prop:= ∀a,AF a N L->c.wp P Q (DX D a) w
theorem EE.seq {x y:Code}(h:EE P D x (Exit.then (y.wp P Q) Q) N L w):EE P D (.seq x y) Q N L w:=λ a hs=>wp_seq (h a hs)
theorem EE.region {id:Nat}{l:List Oper}(h:RL P l.toArray (λ e a w=>Q e (DX D a) w) N l L w):EE P D (.region id l.toArray false) Q N L w:=λ a hs=>wp_region_lit (yQ _ _ _ (h a hs))
theorem EE.sr {id:Nat}{l:List Oper}{y:Code}(h:RL P l.toArray (λ e a w=>Exit.then (y.wp P Q) Q e (DX D a) w) N l L w):EE P D (.seq (.region id l.toArray false) y) Q N L w:=EE.seq (EE.region h)
theorem EE.cond {c:Nat}{x y:Code}{b:Bool}(hc:look L c=some (true,.bool b))(ht:b=true->EE P D x Q N L w)(hf:b=false->EE P D y Q N L w):EE P D (.cond (.tmp c) x y) Q N L w:=
 λ a hs=>wp_cond_split (show(DX D a).eval (.tmp c)= .bool b from by rw[ZJ];exact hs.get hc) (λ hb=>ht hb a hs) (λ hb=>hf hb a hs)
theorem EE.skip (h: ∀a,AF a N L->Q .normal (DX D a) w):EE P D .skip Q N L w:=λ a hs=>wp_skip (h a hs)
theorem EE.ret (h: ∀a,AF a N L->Q .ret (DX D a) w):EE P D .ret Q N L w:=λ a hs=>wp_ret (h a hs)
theorem EE.id {y:Code}{Q':Exit->Act->World->Prop}(h:EE P D y Q' N L w): ∀a,AF a N L->y.wp P Q' (DX D a) w:=h
theorem EE.at {y:Code}{Q':Exit->Act->World->Prop}(L':Env)(hk:Eng.BL (PT L') L=L')(h:EE P D y Q' N L' w): ∀a,AF a N L->y.wp P Q' (DX D a) w:=λ a hs=>h a (hk▸hs.BL _)
structure JE (P:Program) (fn:Func) (R:Ending->World->Prop) (Q:Exit->Act->World->Prop):Prop where
 all: ∀e a w,bodyPostD P fn R e a w->Q e a w
theorem EE.enter {f:FuncId}{fn:Func}{c:Code}{vs:List Value}{R:Ending->World->Prop}(hf:P.funcs[f]? =some fn)(hb:fn.body=some c)(hn:fn.ntmps=N)(hl:vs.length<=N)
  (h: ∀Q,JE P fn R Q->CW P c Q N (JI 0 vs) w):Calls P f vs.toArray w R:=
 calls_of_wp_defers hf hb (by rw[hn];exact h _ ⟨λ _ _ _ h=>h⟩ _ (AF.enter vs N hl))
theorem JE.p {fn:Func}{R:Ending->World->Prop}{ch:List PanicEntry}(E:JE P fn R Q)(h: ∀a,AF a N L->Leaves P fn a.tmps R D (.panicking ch) w): ∀a,AF a N L->Q (.panic ch) (DX D a) w:=
 λ a hs=>E.all _ _ _ (by show Leaves P fn a.tmps R (a.defers++D) _ w;rw[hs.CD];exact h a hs)
theorem JE.r {fn:Func}{R:Ending->World->Prop}(E:JE P fn R Q)(h: ∀a,AF a N L->Leaves P fn a.tmps R D .returning w): ∀a,AF a N L->Q .ret (DX D a) w:=
 λ a hs=>E.all _ _ _ (by show Leaves P fn a.tmps R (a.defers++D) _ w;rw[hs.CD];exact h a hs)
theorem RL.defer {f:FuncId}{x:Operand}{cs:List Value}{tys:Array TypeId}{ty:TypeId}{ps:String}{af:Array Edge}(hx:A5 L true x (.func (.func f) #[] cs.toArray))(h:RL P ops (λ e a w=>Q e (DX [{ target:=.fn (.func f) cs.toArray,args:= #[]}] a) w) N [] L w):
  RL P ops Q N [⟨none,.defer ⟨.value x,#[],tys⟩,ty,ps,af,none⟩] L w:=by
 intro a hs
 refine wpList_plain U λ K hK=>?_
 have key:(execOp a.eval ⟨none,.defer ⟨.value x,#[],tys⟩,ty,ps,af,none⟩).run P w= .ok (.defer { target:=.fn (.func f) cs.toArray,args:= #[]}) w:=by
  simp only[execOp,resolve,hx a N hs U,Deferred.ofValue,Sem.run_bind,Sem.run_pure,Result.andThen_ok]
  simp
 simp only[Oper.wp,key,Oper.upon_defer]
 have h1:=h a hs
 refine hK _ _ ?_
 show Q .normal (Act.put { a with defers:=_::a.defers} none undef) w
 rw[hs.CD]
 have h2:Q .normal (DX [{ target:=.fn (.func f) cs.toArray,args:= #[]}] a) w:=h1
 unfold DX at h2
 rw[hs.CD]at h2
 exact h2
theorem ZK{fn:Func}{R:Ending->World->Prop}{f:FuncId}{tmps:Array Value}{cs:List Value}{u:FrameMode}{S:World->Prop}(ct: ∀args w,(callFunc f args).run P w= .ok (.enter f args) w)(hu:u≠ .run)(hm:settle (FB u).2= .returning)
  (hc:CallsD P f cs.toArray u w (λ e u' w'=>e= .returned (.tuple #[])/\u'=(FB u).2/\S w')) (h: ∀w',S w'-> ∃v,(results fn tmps).run P w'= .ok v w'/\R (.returned v) w'):
  Leaves P fn tmps R [{ target:=.fn (.func f) cs.toArray,args:= #[]}] u w:=by
 refine leaves_cons hu (args:=cs.toArray) (f:=f) (by simp[invoke,go_sem,ct]) (hc.mono ?_)
 rintro e u' w' ⟨rfl,rfl,hS⟩
 show Leaves P fn tmps R [] (settle (FB u).2) w'
 rw[hm]
 exact h w' hS
end
end Go.Eng
namespace Go.Eng
open Go.RowKit
def RT(c:Cx)(ds:List Deferred):Cx:= { c with W:=Wk.CD c.P ds}
def N6(ds:List Deferred)(B:Exit->Act->World->Prop):Exit->Act->World->Prop:=λ e a w=>B e (CM ds a) w
theorem UX{c:Cx}{ds:List Deferred}{B:Exit->Act->World->Prop}(hw: ∀x Q a w,x.wp c.P Q a w->c.W.wp x Q a w): ∀(k:List Fr),KD k=true-> ∀e a w,post (RT c ds) (N6 ds B) k e a w->post c B k e (CM ds a) w
 |[],_,e,a,w,h=>h
 | .seq y::k,hk,e,a,w,h=>by
  unfold KD at hk
  rw[Bool.and_eq_true]at hk
  have ih:=UX (ds:=ds) (B:=B) hw k hk.2
  cases e with
  |normal=>
   have h:CR y=true->y.wp c.P (OF ds (post (RT c ds) (N6 ds B) k)) (CM ds a) w:=h
   refine hw _ _ _ _ (wp_mono (h hk.1) λ e a w ⟨a0,e0,q⟩=>?_)
   subst e0;exact ih _ _ _ q
  |_=>exact ih _ a w h
 | .block id::k,hk,e,a,w,h=>by
  have ih:=UX (ds:=ds) (B:=B) hw k hk
  cases e with
  |exit id'=>
   have h:if id'=id then post (RT c ds) (N6 ds B) k .normal a w else post (RT c ds) (N6 ds B) k (.exit id') a w:=h
   show if id'=id then _ else _
   split<;>rename_i hid
   ·rw[if_pos hid]at h;exact ih _ a w h
   ·rw[if_neg hid]at h;exact ih _ a w h
  |_=>exact ih _ a w h
 | .scope::k,hk,e,a,w,h=>by
  have ih:=UX (ds:=ds) (B:=B) hw k hk
  cases e<;>first|exact h.elim|exact ih _ a w h
 | .loop J::k,hk,_,_,_,_=>by cases hk
theorem yR{P:Program}{N:Nat}{w0 w:World}{M0 M:Mem}{Hr:List HO}{T:TT}(hT:DI P T){f:FuncId}{fn:Func}{x:Code}{R:Ending->World->Prop}(hf:P.funcs[f]? =some fn)(hb:fn.body=some x)(hn:fn.ntmps=N)
  (F:List (Nat×Kn)) (H:List (Nat×HX)) (vs:List XV) (hl:Nat.ble vs.length N=true) (hS:St w0 M0 w M (HD H++Hr)) (hF:B7 M F)
  (h: ∀B,JE P fn R B->XG ⟨P,N,w0,M0,M,Hr,T,hT,.wide P⟩ B [] (.code x) ⟨F,H,K9 0 vs⟩) {av:List Value} (ha:vs.map XV.d=av):Calls P f av.toArray w R:=by
 subst ha
 refine calls_of_wp_defers hf hb ?_
 rw[hn]
 have hs:=AF.enter (vs.map XV.d) N (by rw[List.length_map];exact Nat.le_of_ble_eq_true hl)
 exact h _ ⟨λ _ _ _ h=>h⟩ _ w ⟨by rw[<-O5]at hs;exact hs,M,hS,hF,Mem.le.refl _⟩
section
variable {c:Cx} {B:Exit->Act->World->Prop} {k k':List Fr} {m:Md} {s s':XS} {O:Prop} {E:List Ck} {all:Array Oper} {ty:TypeId} {ps:String} {af:Array Edge}
abbrev ZL(f:FuncId)(cs:List Value):List Deferred:=[{ target:=.fn (.func f) cs.toArray,args:= #[]}]
theorem yS{x:Operand}{f:FuncId}{cs:List Value}{tys:Array TypeId}{E1:List Ck}(hw: ∀x Q a w,x.wp c.P Q a w->c.W.wp x Q a w)(hl: ∀ops Q l a w,wpList c.P ops Q l a w->c.W.list ops Q l a w)
  (h:run c.T c.N k m s=⟨k',.ops all [⟨none,.defer ⟨.value x,#[],tys⟩,ty,ps,af,none⟩],s',O,E⟩) (hE:A6 E) (hO:O) (hx:BI s'.L .t x=some (.v (.func (.func f) #[] ⟨cs⟩),E1)) (hE1:A6 E1) (hk:KD k'=true)
  (hn:XG (RT c (ZL f cs)) (N6 (ZL f cs) B) k' .next s'):XG c B k m s:=by
 refine CH h hE hO λ a w ⟨hs,M,hX⟩=>hl _ _ _ _ _ ?_
 refine wpList_plain U λ K hK=>?_
 have hxv:a.eval x= .func (.func f) #[] ⟨cs⟩:=AT hx hE1 a c.N hs U
 have key:(execOp a.eval ⟨none,.defer ⟨.value x,#[],tys⟩,ty,ps,af,none⟩).run c.P w= .ok (.defer { target:=.fn (.func f) cs.toArray,args:= #[]}) w:=by
  simp only[execOp,resolve,hxv,Deferred.ofValue,Sem.run_bind,Sem.run_pure,Result.andThen_ok]
  simp
 simp only[Oper.wp,key,Oper.upon_defer]
 refine hK _ _ ?_
 have h1:=UX hw k' hk _ _ _ (hn a w ⟨hs,M,hX.st,hX.f,hX.le⟩)
 have e:CM (ZL f cs) a= { a with defers:= { target:=.fn (.func f) cs.toArray,args:= #[]}::a.defers}:=by unfold CM;rw[hs.CD];rfl
 rw[e]at h1
 exact h1
theorem UY{P:Program}{T:TT}(hT:DI P T){fn:Func}{H:List (Nat×HX)}{Hr:List HO}{w0 w:World}{M0 M:Mem}{L:XE}{a:Act}{N:Nat}{rs:List ResultVar}{vs:List XV}{E2:List Ck}(hS:St w0 M0 w M (HD H++Hr))(hs:AF a N L.d)(hr:fn.results=⟨rs⟩)(hl:LB T H L rs=some (vs,E2))(hE2:A6 E2):(results fn a.tmps).run P w= .ok (MM vs) w:=by
 rw[SM,hr]
 have h3:=XL hT hS hs hl hE2
 have h4:((⟨rs⟩:Array ResultVar).mapM (I0 a.tmps)).run P w= .ok (vs.map XV.d).toArray w:=by
  rw[Array.mapM_eq_mapM_toList]
  refine(Sem.run_bind' P _ _ w).trans ?_
  rw[h3];rfl
 rw[Sem.run_bind,h4]
 simp only[Result.andThen_ok,Sem.run_pure]
 congr 1
 match vs with
 |[]=>rfl
 |[v]=>rfl
 |_::_::_=>simp[MM]
theorem yT{fn:Func}{R:Ending->World->Prop}{ds:List Deferred}{B0:Exit->Act->World->Prop}(hB:JE c.P fn R B0)(h:run c.T c.N k m s=⟨[],.ret,s',O,E⟩)(hE:A6 E)(hO:O)(hR: ∀a w M,AF a c.N s'.L.d->D4 c s'.F s'.H w M->Leaves c.P fn a.tmps R ds .returning w):XG c (N6 ds B0) k m s:=
 CH h hE hO λ a w ⟨h1,M,h2⟩=>hB.all _ _ _ (by
  show Leaves c.P fn a.tmps R (a.defers++ds) .returning w
  rw[h1.CD];exact hR a w M h1 h2)
theorem JE.jL {P:Program}{N:Nat}{L:XE}{fn:Func}{R:Ending->World->Prop}{Q:Exit->Act->World->Prop}{ds:List Deferred}{ch:List PanicEntry}{a:Act}{w:World}(hB:JE P fn R Q)(hs:AF a N L.d)(h:Leaves P fn a.tmps R ds (.panicking ch) w):N6 ds Q (.panic ch) a w:=
 hB.all _ _ _ (by show Leaves P fn a.tmps R (a.defers++ds) _ w;rw[hs.CD];exact h)
theorem JE.ends {P:Program}{fn:Func}{R:Ending->World->Prop}{Q:Exit->Act->World->Prop}(hB:JE P fn R Q):Ends P fn R Q:=⟨λ e a w h=>hB.all e a w (by
 cases e with
 |normal=>obtain⟨hd,h⟩:=h;show Leaves _ _ _ _ a.defers _ _;rw[hd];exact h
 |ret=>obtain⟨hd,h⟩:=h;show Leaves _ _ _ _ a.defers _ _;rw[hd];exact h
 |panic ch=>obtain⟨hd,h⟩:=h;show Leaves _ _ _ _ a.defers _ _;rw[hd];exact h
 |outgrown=>exact h
 |exit id=>exact h.elim
 |goto l=>exact h.elim)⟩
end
theorem yU{P:Program}{o:Oper}{a:Act}{w:World}{K K':Act->World->Prop}{Q:Exit->Act->World->Prop}(h:o.wp P a w K' Q):o.wp P a w K' (Exit.then K Q):=by
 unfold Oper.wp at*
 generalize (execOp a.eval o).run P w=r at*
 cases r with
 |ok n w'=>cases n<;>first|exact h|(simp only[Oper.upon]at h ⊢;exact h)
 |halt s w'=>cases s<;>first|exact h|(simp only[Oper.upon]at h ⊢;exact h)
theorem jM{P:Program}{T:TT}(hT:DI P T){f:FuncId}{fn:Func}{id d N:Nat}{o0:Oper}{l:List Oper}{y:Code}{u:FrameMode}{w0 w:World}{M0 M:Mem}{Hr:List HO}{S:World->Prop}(hf:P.funcs[f]? =some fn)(hb:fn.body=some (.seq (.region id (o0::l).toArray false) y))(hn:fn.ntmps=N)
  (hres:fn.results= #[]) (hg:o0.guard=none) (hd:o0.dst=some d) (hdN:Nat.blt d N=true) (hrun: ∀(a:Act) w,(execOp a.eval o0).run P w= .ok .recover w) (F:List (Nat×Kn)) (H:List (Nat×HX)) (rv:XV) (vs:List XV) (hrv:rv.d=(FB u).1) (hl:Nat.ble vs.length N=true) (hS:St w0 M0 w M (HD H++Hr)) (hF:B7 M F)
  (h: ∀B,(∀a w',a.defers=[]->S w'->B .normal a w')->XG ⟨P,N,w0,M0,M,Hr,T,hT,.wide P⟩ B [.seq y] (.ops (o0::l).toArray l) ⟨F,H,(d,.t,rv)::K9 0 vs⟩) {av:List Value} (ha:vs.map XV.d=av):
  CallsD P f av.toArray u w (λ e u' w'=>e= .returned (.tuple #[])/\u'=(FB u).2/\S w'):=by
 subst ha
 refine yO hf hb hn (by rw[List.length_map];exact Nat.le_of_ble_eq_true hl) hres hg hd hdN hrun λ K Q hK hQ a hs=>?_
 have h1:=h Q hQ a w ⟨by
  show AF a N ((d,true,rv.d)::XE.d (K9 0 vs))
  rw[O5,hrv];exact hs,M,hS,hF,Mem.le.refl _⟩
 have mono: ∀(l':List Oper) (a:Act) (w:World),wpList P (o0::l).toArray (Exit.then (y.wp P Q) Q) l' a w->wpList P (o0::l).toArray (Exit.then K Q) l' a w:=by
  intro l'
  induction l' with
  |nil=>intro a w h;exact hK _ _ h
  |cons o l' ih=>
   intro a w h
   unfold wpList at h ⊢
   split at h<;>rename_i hw
   ·rw[if_pos hw]
    rcases h with h|⟨ha,a2,w2,h2⟩
    ·refine .inl ?_
     have h3:=Q9 h
     have h4:=Oper.wp_mono (λ a w hh=>ih a w hh) h3
     exact yU h4
    ·exact .inr ⟨ha,a2,w2,h2⟩
   ·rw[if_neg hw];exact ih _ _ h
 exact mono l a w h1
theorem jN{c:Cx}{B:Exit->Act->World->Prop}{k:List Fr}{m:Md}{s s':XS}{O:Prop}{E:List Ck}{S:World->Prop}(hB: ∀a w',a.defers=[]->S w'->B .normal a w')(h:run c.T c.N k m s=⟨[],.next,s',O,E⟩)(hE:A6 E)(hO:O)(hR: ∀w M,D4 c s'.F s'.H w M->S w):XG c B k m s:=
 CH h hE hO λ a w ⟨h1,M,h2⟩=>hB a w h1.CD (hR w M h2)
end Go.Eng
