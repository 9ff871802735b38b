/-
  Parts Im Recov Dfr Xd Stab Lx, put together and made short by wip/py/merge.py (mini.py).
-/
import Derived.Test.YtmjpjbmeamnfpaaGreatDoorZd22
import Derived.Test.YtmjpjbmeamnfpaaGreatDoorZd8
import Derived.Defers
import Derived.Recover
import Derived.Test.YtmjpjbmeamnfpaaGreatDoorZd12
import Derived.Test.YtmjpjbmeamnfpaaGreatDoorZd13
import Derived.Test.YtmjpjbmeamnfpaaGreatDoorZd0
set_option linter.unusedVariables false
set_option linter.unusedSimpArgs false
set_option maxRecDepth 100000
namespace Go.Eng
theorem fZ{rt:Tf->Bool}{l:List Tk}: ∀ {f:Nat} {d i:Int} {xs:List Tf} {x:Tf} {j:Int},EG AH rt f l d xs i= .ok x j->x.t.op=4
 |0,_,_,_,_,_,h=>(CP h).elim
 |f+1,d,i,xs,x,j,h=>by
  rw[EG]at h
  split at h
  ·cases h;rfl
  ·obtain⟨_,k,_,h3⟩:=B3 h
   obtain⟨y,m,_,h6⟩:=B3 h3
   exact fZ h6
theorem gA{rt:Tf->Bool}{l:List Tk}{kd i:Int}{X:Int->PR Tf}{x:Tf}{j:Int}(h:FL AH rt l kd i X= .ok x j):x.t.op=kd:=by
 unfold FL at h
 obtain⟨s,k1,h2,h3⟩:=B3 h
 obtain⟨_,k2,h8,h9⟩:=B3 h3
 obtain⟨y,k3,hb,hc⟩:=B3 h9
 obtain⟨_,k4,hd,he⟩:=B3 hc
 split at he
 ·cases he;rfl
 ·exact(CP he).elim
theorem T6(x:Tf):(at' x.flat 0).op=x.t.op:=by rw[Tf.HS];rfl
end Go.Eng
namespace Go.Proofs.YtmjpjbmeamnfpaaGreatDoor
open Go.Eng
def Q0(b:Nat):List SV:=[⟨GN,.func (.func 90) #[.pointer (some ⟨b,0,none⟩)] #[],0⟩,⟨GO,.func (.func 91) #[.pointer (some ⟨b,0,none⟩)] #[],1⟩,⟨PC,.func (.func 92) #[.pointer (some ⟨b,0,none⟩)] #[],2⟩,⟨PD,.func (.func 93) #[.pointer (some ⟨b,0,none⟩)] #[],3⟩]
theorem gB{b:Nat}{x:A1}(h1:x≠GN)(h2:x≠GO)(h3:x≠PC)(h4:x≠PD):FO (Q0 b) x=none:=by
 show(if x==GN then _ else if x==GO then _ else if x==PC then _ else if x==PD then _ else none)=none
 simp only[beq_iff_eq]
 rw[if_neg h1,if_neg h2,if_neg h3,if_neg h4]
theorem uX{rt:Tf->Bool}{f:Nat}(hrt:K3 rt)(H:HA rt f){w0 wv:World}{M0 M:Mem}{Rs:List HO}{b:Nat}{v:Value}{l:List Tk}{i d d2:Int}(h:FN w0 wv M0 M Rs b v l i d)(hd0:0<d)(hd:d<=64)(hf:4*(len l-i)+2<=(f:Int))(hd2:d-1=d2):
 Calls Tryz.prog 92 [.pointer (some ⟨b,0,none⟩)].toArray wv (L1 w0 M0 M Rs b v d2 (FL AH rt l 7 i (AY AH rt f l d))):=by subst hd2;exact uK hrt H h hd0 hd hf
theorem uY{rt:Tf->Bool}{f:Nat}(hrt:K3 rt)(H:HA rt f){w0 wv:World}{M0 M:Mem}{Rs:List HO}{b:Nat}{v:Value}{l:List Tk}{i d d2:Int}(h:FN w0 wv M0 M Rs b v l i d)(hd0:0<d)(hd:d<=64)(hf:4*(len l-i)+2<=(f:Int))(hd2:d-1=d2):
 Calls Tryz.prog 93 [.pointer (some ⟨b,0,none⟩)].toArray wv (L1 w0 M0 M Rs b v d2 (FL AH rt l 8 i (AY AH rt f l d))):=by subst hd2;exact uL hrt H h hd0 hd hf
theorem uZ{rt:Tf->Bool}{f:Nat}(hrt:K3 rt)(H: ∀g,g<=f->HA rt g):L3 1 62 (JX AH rt (f+1)) (f+1) λ l i=>(at' l i).kind=2:=by
 intro w0 wv M0 M Rs b v l i d h hd0 hd hf hk2
 obtain⟨hS,hl,hg,ok,h0,h1⟩:=h
 have hfew:=ok.few
 have hi1:=GS ok h0 h1 hk2 (by decide)
 refine AX (Hr:=Rs) AT Tryz.func62 U Tryz.ntmps62 [(0,kn v 9 l Tk.cells)] [(0,AK b v i d)] [.bx 0 b 0] U hS (fc 0 hl (λ _=>rfl) A7) (λ B hB=>?_) U
 rw[JX]at hB
 refine fA 5 U (A0 U) (by omega) U λ mm=>?_
 refine CZ (.v (.func (.func 90) #[.pointer (some ⟨b,0,none⟩)] #[])) U (A0 U) (by omega) U (λ w M hX=>PV.makeFunc (xs:=[.tmp 9]) (ys:=[]) (vs:=[.pointer (some ⟨b,0,none⟩)]) (us:=[]) ⟨AI (v:=.bx 0 b 0) (E:=[]) U (A0 U),trivial⟩ trivial) ?_
 refine PY true 5 ((Q0 b).take 1) 1 U (A0 U) (by omega) U U U (A0 U) U Tryz.underlying145 Tryz.underlying9 (by kernel_rfl) (by kernel_rfl) ?_
 refine CZ (.v (.func (.func 91) #[.pointer (some ⟨b,0,none⟩)] #[])) U (A0 U) (by omega) U (λ w M hX=>PV.makeFunc (xs:=[.tmp 11]) (ys:=[]) (vs:=[.pointer (some ⟨b,0,none⟩)]) (us:=[]) ⟨AI (v:=.bx 0 b 0) (E:=[]) U (A0 U),trivial⟩ trivial) ?_
 refine PY true 5 ((Q0 b).take 2) 2 U (A0 U) (by omega) U U U (A0 U) U Tryz.underlying145 Tryz.underlying9 (by kernel_rfl) (by kernel_rfl) ?_
 refine CZ (.v (.func (.func 92) #[.pointer (some ⟨b,0,none⟩)] #[])) U (A0 U) (by omega) U (λ w M hX=>PV.makeFunc (xs:=[.tmp 13]) (ys:=[]) (vs:=[.pointer (some ⟨b,0,none⟩)]) (us:=[]) ⟨AI (v:=.bx 0 b 0) (E:=[]) U (A0 U),trivial⟩ trivial) ?_
 refine PY true 5 ((Q0 b).take 3) 3 U (A0 U) (by omega) U U U (A0 U) U Tryz.underlying145 Tryz.underlying9 (by kernel_rfl) (by kernel_rfl) ?_
 refine CZ (.v (.func (.func 93) #[.pointer (some ⟨b,0,none⟩)] #[])) U (A0 U) (by omega) U (λ w M hX=>PV.makeFunc (xs:=[.tmp 15]) (ys:=[]) (vs:=[.pointer (some ⟨b,0,none⟩)]) (us:=[]) ⟨AI (v:=.bx 0 b 0) (E:=[]) U (A0 U),trivial⟩ trivial) ?_
 refine PY true 5 (Q0 b) 4 U (A0 U) (by omega) U U U (A0 U) U Tryz.underlying145 Tryz.underlying9 (by kernel_rfl) (by kernel_rfl) ?_
 refine C4 [0] (D1 (at' l i)) U (A0 U) (by omega) Tryz.call41 U U (A0 U) U (λ _ w M hS hF=>DH hS (hF.get (k:=0) U).sl h0 h1) U ?_
 by_cases e:(at' l i).s=GN
 ·have hna:(at' l i).s≠EV:=by rw[e];decide
  rw[if_neg hna,if_pos e]at hB
  refine O1 5 U (A0 U) (by omega) U U (A0 U) U Tryz.underlying145 Tryz.underlying9 Tryz.zeroValue87 (v:=.func (.func 90) #[.pointer (some ⟨b,0,none⟩)] #[]) (q:=true) (by rw[e];rfl) (by rw[e];rfl) ?_
  refine A8 U (A0 U) (by omega) (λ hb1=>?_) (λ hb1=>?_)<;>simp only[zb]at hb1
  ·exact absurd hb1 hna
  refine A8 rfl (A0 rfl) (by omega) (λ hb2=>by cases hb2) (λ _=>?_)
  refine BH [0] [] (λ _ (_:Unit)=>.tu []) (λ _ j _=>[(0,AK b v j (d+1))]) hB U (A0 U) (by simp only[zb]<;>omega) U Tryz.call95 U U (A0 U) U (List.sublist_cons_self _ _) (λ w M hS hF=>M6 [40] ⟨hS,(hF.get (k:=0) U).sl,hg,ok,by omega,hi1⟩ ⟨hd0,hd⟩) (λ _ _=>rfl) (λ _ _ _=>rfl) λ _ k hk hB _ _=>?_
  obtain⟨rfl,hk1,hd2,_⟩:=GU ok (by omega) hi1 hk
  refine BH [0] [] (λ _ (h:AO)=>.sl 7 h.v) (λ x j h=>[(0,AK b v j (d+1)),(7,CD h.v x.flat)]) hB U (A0 U) (by omega) U Tryz.call90 U U (A0 U) U (List.sublist_cons_self _ _) (λ w M hS hF=>uM H ⟨hS,(hF.get (k:=0) U).sl,hg,ok,by omega,hk1⟩ (by omega) (by omega) (by omega) trivial) (λ _ _=>rfl) (λ _ _ _=>rfl) λ x j hx hB h7 _=>?_
  obtain⟨hij,hle,_,_,_⟩:=(JF rt ok f).tup _ (i+1+1) _ _ _ _ (by omega) hk1 (.nil _) hx
  have hop:=fZ hx
  have hfp:=Tf.FM x
  have hop2:=T6 x
  refine A8 U (A0 U) (by simp only[zb]<;>omega) (λ hb3=>?_) (λ hb3=>?_)<;>simp only[zb]at hb3
  ·refine BH [0] [] (λ _ (_:Unit)=>.tu []) (λ _ j _=>[(0,AK b v j d)]) hB U (A0 U) (by omega) U Tryz.call96 U U (A0 U) U HT (λ w M hS hF=>M7 [41] ⟨hS,(hF.get (k:=0) U).sl,hg,ok,by omega,hle⟩ (by omega) (by omega)) (λ _ _=>rfl) (λ _ _ _=>rfl) λ _ n hn hB _ _=>?_
   exact AE hB U U (A0 U) (by omega) U (A0 U) λ w M' hX=>⟨h7,M',rfl,trivial,hX.le,hX.BX [0,7] U,A7⟩
  ·omega
 have e0:=e
 by_cases e:(at' l i).s=GO
 ·have hna:(at' l i).s≠EV:=by rw[e];decide
  rw[if_neg hna,if_neg e0,if_pos e]at hB
  refine O1 5 U (A0 U) (by omega) U U (A0 U) U Tryz.underlying145 Tryz.underlying9 Tryz.zeroValue87 (v:=.func (.func 91) #[.pointer (some ⟨b,0,none⟩)] #[]) (q:=true) (by rw[e];rfl) (by rw[e];rfl) ?_
  refine A8 U (A0 U) (by omega) (λ hb1=>?_) (λ hb1=>?_)<;>simp only[zb]at hb1
  ·exact absurd hb1 hna
  refine A8 rfl (A0 rfl) (by omega) (λ hb2=>by cases hb2) (λ _=>?_)
  refine BH [0] [] (λ _ (_:Unit)=>.tu []) (λ _ j _=>[(0,AK b v j (d+1))]) hB U (A0 U) (by simp only[zb]<;>omega) U Tryz.call95 U U (A0 U) U (List.sublist_cons_self _ _) (λ w M hS hF=>M6 [40] ⟨hS,(hF.get (k:=0) U).sl,hg,ok,by omega,hi1⟩ ⟨hd0,hd⟩) (λ _ _=>rfl) (λ _ _ _=>rfl) λ _ k hk hB _ _=>?_
  obtain⟨rfl,hk1,hd2,_⟩:=GU ok (by omega) hi1 hk
  have eb:((AY AH rt f l (d+1) (i+1+1)).bind λ x k=>(AV l k [41]).bind λ _ m=>.ok (.mk (AR 6) [x]) m)=(XM rt f l (d+1) (i+1+1)).bind λ x k=>(AV l k [41]).bind λ _ m=>.ok x m:=by unfold XM;rw[PR.assoc];rfl
  rw[eb]at hB
  refine BH [0] [] (λ _ (h:AO)=>.sl 7 h.v) (λ x j h=>[(0,AK b v j (d+1)),(7,CD h.v x.flat)]) hB U (A0 U) (by omega) U Tryz.call91 U U (A0 U) U (List.sublist_cons_self _ _) (λ w M hS hF=>uJ (H f (Nat.le_refl _)) ⟨hS,(hF.get (k:=0) U).sl,hg,ok,by omega,hk1⟩ (by omega) (by omega) (by omega) trivial) (λ _ _=>rfl) (λ _ _ _=>rfl) λ x j hx hB h7 _=>?_
  obtain⟨y,j',hy,he⟩:=B3 hx
  cases he
  have gy:=(JF rt ok f).ty _ _ _ _ (by omega) hk1 hy
  have hij:=gy.lt
  have hle:=gy.le
  have hop:(Tf.mk (AR 6) [y]).t.op=6:=rfl
  have hfp:=Tf.FM (Tf.mk (AR 6) [y])
  have hop2:=T6 (Tf.mk (AR 6) [y])
  refine A8 U (A0 U) (by simp only[zb]<;>omega) (λ hb3=>?_) (λ hb3=>?_)<;>simp only[zb]at hb3
  ·refine BH [0] [] (λ _ (_:Unit)=>.tu []) (λ _ j _=>[(0,AK b v j d)]) hB U (A0 U) (by omega) U Tryz.call96 U U (A0 U) U HT (λ w M hS hF=>M7 [41] ⟨hS,(hF.get (k:=0) U).sl,hg,ok,by omega,hle⟩ (by omega) (by omega)) (λ _ _=>rfl) (λ _ _ _=>rfl) λ _ n hn hB _ _=>?_
   exact AE hB U U (A0 U) (by omega) U (A0 U) λ w M' hX=>⟨h7,M',rfl,trivial,hX.le,hX.BX [0,7] U,A7⟩
  ·omega
 have e1:=e
 by_cases e:(at' l i).s=PC
 ·have hna:(at' l i).s≠EV:=by rw[e];decide
  rw[if_neg hna,if_neg e0,if_neg e1,if_pos e]at hB
  refine O1 5 U (A0 U) (by omega) U U (A0 U) U Tryz.underlying145 Tryz.underlying9 Tryz.zeroValue87 (v:=.func (.func 92) #[.pointer (some ⟨b,0,none⟩)] #[]) (q:=true) (by rw[e];rfl) (by rw[e];rfl) ?_
  refine A8 U (A0 U) (by omega) (λ hb1=>?_) (λ hb1=>?_)<;>simp only[zb]at hb1
  ·exact absurd hb1 hna
  refine A8 rfl (A0 rfl) (by omega) (λ hb2=>by cases hb2) (λ _=>?_)
  refine BH [0] [] (λ _ (_:Unit)=>.tu []) (λ _ j _=>[(0,AK b v j (d+1))]) hB U (A0 U) (by simp only[zb]<;>omega) U Tryz.call95 U U (A0 U) U (List.sublist_cons_self _ _) (λ w M hS hF=>M6 [40] ⟨hS,(hF.get (k:=0) U).sl,hg,ok,by omega,hi1⟩ ⟨hd0,hd⟩) (λ _ _=>rfl) (λ _ _ _=>rfl) λ _ k hk hB _ _=>?_
  obtain⟨rfl,hk1,hd2,_⟩:=GU ok (by omega) hi1 hk
  refine BH [0] [] (λ _ (h:AO)=>.sl 7 h.v) (λ x j h=>[(0,AK b v j d),(7,CD h.v x.flat)]) ((PR.ret (FL AH rt l 7 (i+1+1) (AY AH rt f l (d+1)))).symm▸hB) U (A0 U) (by omega) U Tryz.call92 U U (A0 U) U (List.sublist_cons_self _ _) (λ w M hS hF=>uX (l:=l) hrt (H f (Nat.le_refl _)) ⟨hS,(hF.get (k:=0) U).sl,hg,ok,by omega,hk1⟩ (by omega) (by omega) (by omega) (by omega)) (λ _ _=>rfl) (λ _ _ _=>rfl) λ x j hx hB h7 _=>?_
  have hop:=gA hx
  have hfp:=Tf.FM x
  have hop2:=T6 x
  refine A8 U (A0 U) (by simp only[zb]<;>omega) (λ hb3=>?_) (λ hb3=>?_)<;>simp only[zb]at hb3
  ·omega
  ·exact AE hB U U (A0 U) (by omega) U (A0 U) λ w M' hX=>⟨h7,M',rfl,trivial,hX.le,hX.BX [0,7] U,A7⟩
 have e2:=e
 by_cases e:(at' l i).s=PD
 ·have hna:(at' l i).s≠EV:=by rw[e];decide
  rw[if_neg hna,if_neg e0,if_neg e1,if_neg e2,if_pos e]at hB
  refine O1 5 U (A0 U) (by omega) U U (A0 U) U Tryz.underlying145 Tryz.underlying9 Tryz.zeroValue87 (v:=.func (.func 93) #[.pointer (some ⟨b,0,none⟩)] #[]) (q:=true) (by rw[e];rfl) (by rw[e];rfl) ?_
  refine A8 U (A0 U) (by omega) (λ hb1=>?_) (λ hb1=>?_)<;>simp only[zb]at hb1
  ·exact absurd hb1 hna
  refine A8 rfl (A0 rfl) (by omega) (λ hb2=>by cases hb2) (λ _=>?_)
  refine BH [0] [] (λ _ (_:Unit)=>.tu []) (λ _ j _=>[(0,AK b v j (d+1))]) hB U (A0 U) (by simp only[zb]<;>omega) U Tryz.call95 U U (A0 U) U (List.sublist_cons_self _ _) (λ w M hS hF=>M6 [40] ⟨hS,(hF.get (k:=0) U).sl,hg,ok,by omega,hi1⟩ ⟨hd0,hd⟩) (λ _ _=>rfl) (λ _ _ _=>rfl) λ _ k hk hB _ _=>?_
  obtain⟨rfl,hk1,hd2,_⟩:=GU ok (by omega) hi1 hk
  refine BH [0] [] (λ _ (h:AO)=>.sl 7 h.v) (λ x j h=>[(0,AK b v j d),(7,CD h.v x.flat)]) ((PR.ret (FL AH rt l 8 (i+1+1) (AY AH rt f l (d+1)))).symm▸hB) U (A0 U) (by omega) U Tryz.call93 U U (A0 U) U (List.sublist_cons_self _ _) (λ w M hS hF=>uY (l:=l) hrt (H f (Nat.le_refl _)) ⟨hS,(hF.get (k:=0) U).sl,hg,ok,by omega,hk1⟩ (by omega) (by omega) (by omega) (by omega)) (λ _ _=>rfl) (λ _ _ _=>rfl) λ x j hx hB h7 _=>?_
  have hop:=gA hx
  have hfp:=Tf.FM x
  have hop2:=T6 x
  refine A8 U (A0 U) (by simp only[zb]<;>omega) (λ hb3=>?_) (λ hb3=>?_)<;>simp only[zb]at hb3
  ·omega
  ·exact AE hB U U (A0 U) (by omega) U (A0 U) λ w M' hX=>⟨h7,M',rfl,trivial,hX.le,hX.BX [0,7] U,A7⟩
 refine O1 5 U (A0 U) (by omega) U U (A0 U) U Tryz.underlying145 Tryz.underlying9 Tryz.zeroValue87 (v:=.nilFunc) (q:=false) (by rw[gB e0 e1 e2 e];rfl) (by rw[gB e0 e1 e2 e];rfl) ?_
 refine A8 U (A0 U) (by omega) (λ hb1=>?_) (λ hb1=>?_)<;>simp only[zb]at hb1
 ·have ha:(at' l i).s=EV:=hb1
  rw[if_pos ha]at hB
  refine NA 7 [AR 0] Tm.cells 11 48 Tm.C1 U (A0 U) (by simp only[zb]<;>omega) U (A0 U) (λ w=>by kernel_rfl) U λ u=>?_
  exact AE hB U U (A0 U) (by omega) U (A0 U) λ w M' hX=>XD (d:=d) (x:=(Tf.mk (AR 0) []).flat) ⟨u,M',rfl,trivial,hX.le,hX.BX [0,7] U,A7⟩
 ·have ha: ¬(at' l i).s=EV:=hb1
  rw[if_neg ha,if_neg e0,if_neg e1,if_neg e2,if_neg e]at hB
  refine A8 rfl (A0 rfl) (by omega) (λ _=>?_) (λ hb2=>by cases hb2)
  refine BH [0] [] (λ _ (h:AO)=>.sl 7 h.v) (λ x j h=>[(0,AK b v j d),(7,CD h.v x.flat)]) ((PR.ret (NQ l d i)).symm▸hB) U (A0 U) (by omega) U Tryz.call94 U U (A0 U) U (List.sublist_cons_self _ _) (λ w M hS hF=>tG ⟨hS,(hF.get (k:=0) U).sl,hg,ok,h0,h1⟩ ⟨hd0,hd⟩) (λ _ _=>rfl) (λ _ _ _=>rfl) λ x j hx hB h7 _=>?_
  exact AE hB U U (A0 U) (by omega) U (A0 U) λ w M' hX=>⟨h7,M',rfl,trivial,hX.le,hX.BX [0,7] U,A7⟩
theorem vA{rt:Tf->Bool}{f:Nat}(H: ∀g,g<=f->HA rt g):L3 2 40 (AY AH rt (f+1)) (f+1) O3:=by
 intro w0 wv M0 M Rs b v l i d h hd0 hd hf _
 obtain⟨hS,hl,hg,ok,h0,h1⟩:=h
 refine AX (Hr:=Rs) AT Tryz.func40 U Tryz.ntmps40 [(0,kn v 9 l Tk.cells)] [(0,AK b v i d)] [.bx 0 b 0] U hS (fc 0 hl (λ _=>rfl) A7) (λ B hB=>?_) U
 rw[AY,<-PR.ret (ite _ _ _)]at hB
 refine C4 [0] (D1 (at' l i)) U (A0 U) (by omega) Tryz.call41 U U (A0 U) U (λ _ w M hS hF=>DH hS (hF.get (k:=0) U).sl h0 h1) U ?_
 refine A8 U (A0 U) (by omega) (λ hb1=>?_) (λ hb1=>?_)<;>simp only[zb]at hb1
 ·rw[if_pos hb1]at hB
  refine BH [0] [] (λ _ (h:AO)=>.sl 7 h.v) (λ x j h=>[(0,AK b v j d),(7,CD h.v x.flat)]) hB U (A0 U) (by omega) U Tryz.call62 U U (A0 U) U (List.Sublist.refl _) (λ w M hS hF=>(H f (Nat.le_refl _)).wd ⟨hS,(hF.get (k:=0) U).sl,hg,ok,h0,h1⟩ hd0 hd (by omega) hb1) (λ _ _=>rfl) (λ _ _ _=>rfl) λ x j hx hB h7 _=>?_
  exact AE hB U U (A0 U) (by omega) U (A0 U) λ w M' hX=>⟨h7,M',rfl,trivial,hX.le,hX.BX [0,7] U,A7⟩
 rw[if_neg hb1]at hB
 refine C4 [0] (.v (.bool (AN l i [123]))) U (A0 U) (by omega) Tryz.call63 U U (A0 U) U (λ _ w M hS hF=>HP [123] hS (hF.get (k:=0) U).sl h0 h1) U ?_
 refine A8 U (A0 U) (by omega) (λ hb2=>?_) (λ hb2=>?_)
 ·rw[if_pos hb2]at hB
  refine BH [0] [] (r:=fY rt f l d i) (λ _ (h:AO)=>.sl 7 h.v) (λ x j h=>[(0,AK b v j d),(7,CD h.v x.flat)]) hB U (A0 U) (by omega) U Tryz.call64 U U (A0 U) U (List.Sublist.refl _) (λ w M hS hF=>uW H ⟨hS,(hF.get (k:=0) U).sl,hg,ok,h0,h1⟩ hd0 hd (by omega) trivial) (λ _ _=>rfl) (λ _ _ _=>rfl) λ x j hx hB h7 _=>?_
  exact AE hB U U (A0 U) (by omega) U (A0 U) λ w M' hX=>⟨h7,M',rfl,trivial,hX.le,hX.BX [0,7] U,A7⟩
 ·rw[if_neg (by rw[hb2];decide)]at hB
  refine BH [0] [] (r:=fT rt f l d i) (λ _ (h:AO)=>.sl 7 h.v) (λ x j h=>[(0,AK b v j d),(7,CD h.v x.flat)]) hB U (A0 U) (by omega) U Tryz.call65 U U (A0 U) U (List.Sublist.refl _) (λ w M hS hF=>uI (H f (Nat.le_refl _)) ⟨hS,(hF.get (k:=0) U).sl,hg,ok,h0,h1⟩ hd0 hd (by omega) trivial) (λ _ _=>rfl) (λ _ _ _=>rfl) λ x j hx hB h7 _=>?_
  exact AE hB U U (A0 U) (by omega) U (A0 U) λ w M' hX=>⟨h7,M',rfl,trivial,hX.le,hX.BX [0,7] U,A7⟩
theorem XN{rt:Tf->Bool}(hrt:K3 rt): ∀(f g:Nat),g<=f->HA rt g
 |f,0,_=>⟨λ h _ _ hf _=>by have:=h.h1;omega,λ h _ _ hf _=>by have:=h.h1;omega⟩
 |0,g+1,hgf=>by omega
 |f+1,g+1,hgf=>⟨vA λ k hk=>XN hrt f k (by omega),uZ hrt λ k hk=>XN hrt f k (by omega)⟩
end Go.Proofs.YtmjpjbmeamnfpaaGreatDoor
namespace Go.Eng
open Go.RowKit
theorem vB{P:Program}{ops:Array Oper}{Q:Exit->Act->List Frame->World->Prop}{cs:List Frame}(hq: ¬LetsOut (λ e a w=>Q e a cs w))(l:List Oper):
  ∀(k:Nat),(∀j,l[j]? =ops[k+j]?)-> ∀a w,wpList P ops (λ e a w=>Q e a cs w) l a w->wpOpsS P ops Q (List.range' k l.length) a cs w:=by
 induction l with
 |nil=>intro k _ a w h;exact h
 |cons o l ih=>
  intro k hk a w h
  have h0:ops[k]? =some o:=by simpa using(hk 0).symm
  have ih':=ih (k+1) (λ j=>by have:=hk (j+1);simpa[Nat.add_assoc,Nat.add_comm 1 j]using this)
  simp only[List.length_cons,List.range'_succ,wpOpsS,h0]
  unfold wpList at h
  by_cases hw:Region.wanted o (yielded ops a.tmps)=true
  ·rw[if_pos hw]at h ⊢
   have h1:=(h.resolve_right λ hh=>hq hh.2)
   have h2:=Oper.wp_mono (λ a' w' hh=>ih' a' w' hh) h1
   unfold Oper.wp at h2
   split
   ·rename_i w' he;rw[he]at h2;exact h2.elim
   ·exact h2
  ·rw[if_neg hw]at h ⊢
   exact ih' _ _ h
theorem vC{P:Program}{Q:Exit->Act->List Frame->World->Prop}{cs cs':List Frame}{id:Nat}{o0:Oper}{l:List Oper}{a:Act}{w:World}{v:Value}(hg:o0.guard=none)(hrun:(execOp a.eval o0).run P w= .ok .recover w)
  (hrec:recoverD cs=some (v,cs')\/(recoverD cs=none/\v= .nilIface/\cs'=cs)) (hq: ¬LetsOut (λ e a w=>Q e a cs' w)) (h:wpList P (o0::l).toArray (λ e a w=>Q e a cs' w) l (a.put o0.dst v) w):
  (Code.region id (o0::l).toArray false).wpS P Q a cs w:=by
 refine wpS_region ?_
 have hw:Region.wanted o0 (yielded (o0::l).toArray a.tmps)=true:=by unfold Region.wanted;rw[hg]
 have h1:=vB (ops:=(o0::l).toArray) hq l 1 (λ j=>by simp[Nat.add_comm 1 j]) _ _ h
 rw[show List.range (o0::l).toArray.size=0::List.range' 1 l.length from by simp[List.range_eq_range',List.range'_succ]]
 unfold wpOpsS
 rw[show(o0::l).toArray[0]? =some o0 from by simp]
 dsimp only
 rw[if_pos hw,hrun]
 dsimp only
 rcases hrec with hr|⟨hr,rfl,rfl⟩
 ·rw[hr];exact h1
 ·rw[hr];exact h1
section
variable {P:Program} {C:World->Prop} {L:Env} {W:Bool} {d:Option Tmp} {ty:TypeId} {ps:String} {af:Array Edge} {gd:Option (Nat×Bool)}
theorem PV.vD {xt t:TypeId}{x:Operand}{v:Value}{fs:Array Field}(hx:A4 L W x (.iface t v))(ht:P.underlying t=some (.struct fs)):PV P C L W ⟨d,.typeAssert x xt t true,ty,ps,af,gd⟩ (.tuple #[v,.bool true]):=
 .un (f:=λ u=>Instr.typeAssert u xt t true) (λ _=>rfl) hx λ _ w _=>by
  simp only[Instr.typeAssert,Sem.run_bind,run_underlying ht,Result.andThen_ok]
  simp[Sem.run_pure]
theorem PV.vE {xt t:TypeId}{x:Operand}{z:Value}{fs:Array Field}(hx:A4 L W x .nilIface)(ht:P.underlying t=some (.struct fs))(hz: ∀w,(zeroValue t).run P w= .ok z w):PV P C L W ⟨d,.typeAssert x xt t true,ty,ps,af,gd⟩ (.tuple #[z,.bool false]):=
 .un (f:=λ u=>Instr.typeAssert u xt t true) (λ _=>rfl) hx λ _ w _=>by
  simp only[Instr.typeAssert,Sem.run_bind,run_underlying ht,Result.andThen_ok]
  simp[Sem.run_bind,Sem.run_pure,hz]
end
def EY:FrameMode->Value×FrameMode
 | .panicking ({ v,recovered:=false,goexit:=false}::older)=>(v,.panicking ({ v,recovered:=true}::older))
 |u=>(.nilIface,u)
theorem vF(c:Frame)(cs:List Frame):recoverD (c::cs)=some ((EY c.mode).1,{ c with mode:=(EY c.mode).2}::cs)\/(recoverD (c::cs)=none/\(EY c.mode).1= .nilIface/\ { c with mode:=(EY c.mode).2}::cs=c::cs):=by
 obtain⟨_,_,_,_,m,_,_⟩:=c
 cases m with
 |panicking ch=>
  cases ch with
  |nil=>exact .inr ⟨rfl,rfl,rfl⟩
  |cons p older=>
   obtain⟨v,r,g⟩:=p
   cases r<;>cases g<;>first|exact .inl rfl|exact .inr ⟨rfl,rfl,rfl⟩
 |_=>exact .inr ⟨rfl,rfl,rfl⟩
theorem vG{P:Program}{f:FuncId}{fn:Func}{id d N:Nat}{o0:Oper}{l:List Oper}{y:Code}{vs:List Value}{u:FrameMode}{w:World}{S:World->Prop}(hf:P.funcs[f]? =some fn)(hb:fn.body=some (.seq (.region id (o0::l).toArray false) y))(hn:fn.ntmps=N)(hl:vs.length<=N)
  (hres:fn.results= #[]) (hg:o0.guard=none) (hd:o0.dst=some d) (hdN:Nat.blt d N=true) (hrun: ∀(a:Act) w,(execOp a.eval o0).run P w= .ok .recover w)
  (h: ∀(K:Act->World->Prop) (Q:Exit->Act->World->Prop),(∀a w',y.wp P Q a w'->K a w')->(∀a w',a.defers=[]->S w'->Q .normal a w')->RL P (o0::l).toArray (Exit.then K Q) N l ((d,true,(EY u).1)::IW 0 vs) w):
  CallsD P f vs.toArray u w (λ e u' w'=>e= .returned (.tuple #[])/\u'=(EY u).2/\S w'):=by
 refine callsD_of_wpS hf hb λ c₀ cs hu=>wpS_seq ?_
 subst hu
 have hs:=A9.enter vs N hl
 rw[<-hn]at hs
 refine vC hg (hrun _ _) (vF c₀ cs) ?_ ?_
 ·rintro⟨a,w',h1⟩
  obtain⟨u',h2,_⟩:=h1
  cases h2
 ·subst hn
  have hput:=hs.put hdN true (EY c₀.mode).1
  rw[hd]
  have hh:=h (λ a w'=>y.wpS P (bodyPostS P fn c₀ cs (λ e u' w'=>e= .returned (.tuple #[])/\u'=(EY c₀.mode).2/\S w')) a ({ c₀ with mode:=(EY c₀.mode).2}::cs) w')
   (λ e a w'=>bodyPostS P fn c₀ cs (λ e u' w'=>e= .returned (.tuple #[])/\u'=(EY c₀.mode).2/\S w') e a ({ c₀ with mode:=(EY c₀.mode).2}::cs) w')
   (λ a w' h1=>wpS_of_wp h1) (λ a w' h1 h2=>⟨h1,_,rfl,_,results_none hres _ _ _,rfl,rfl,h2⟩) _ hput
  refine Eq.mp ?_ hh
  congr 1
  funext e a w'
  cases e<;>rfl
end Go.Eng
namespace Go.Eng
open Go.RowKit
def DN(D:List Deferred)(a:Act):Act:=⟨a.tmps,a.defers++D⟩
theorem XO(D:List Deferred)(a:Act):(DN D a).eval=a.eval:=by funext x;cases x<;>rfl
theorem O4(D:List Deferred)(a:Act)(d:Option Tmp)(v:Value):(DN D a).put d v=DN D (a.put d v):=by cases d<;>rfl
section
variable {P:Program} {ops:Array Oper} {D:List Deferred} {Q:Exit->Act->World->Prop} {N:Nat} {L:Env} {w:World}
theorem vH{o:Oper}{a:Act}{n n':Act->World->Prop}(hn: ∀a w,n' a w->n (DN D a) w)(r:Result Next)(h:o.upon P a n' (λ e a w=>Q e (DN D a) w) r):o.upon P (DN D a) n Q r:=by
 cases r with
 |ok x w'=>
  cases x with
  |value v=>rw[Oper.upon_value]at h ⊢;rw[O4];exact hn _ _ h
  |skip=>rw[Oper.upon_skip]at h ⊢;rw[O4];exact hn _ _ h
  |defer d=>
   rw[Oper.upon_defer]at h ⊢
   have e:({ DN D a with defers:=d::(DN D a).defers}:Act)=DN D { a with defers:=d::a.defers}:=rfl
   rw[e,O4];exact hn _ _ h
  |enter f args=>
   rw[Oper.upon_enter]at h ⊢
   refine h.mono λ e w'' he=>?_
   cases e with
   |returned v=>dsimp only at he ⊢;rw[O4];exact hn _ _ he
   |panicked ch=>exact he
   |outgrown=>obtain⟨a2,w2,h2⟩:=he;exact⟨_,_,h2⟩
  |row r args=>
   rw[Oper.upon_row]at h ⊢
   exact Rows.mono h λ v w'' he=>by rw[O4];exact hn _ _ he
  |_=>exact h.elim
 |halt x w'=>
  cases x with
  |panic v=>exact h
  |_=>exact h.elim
theorem vI(l:List Oper): ∀(a:Act) (w:World),wpList P ops (λ e a w=>Q e (DN D a) w) l a w->wpList P ops Q l (DN D a) w:=by
 induction l with
 |nil=>intro a w h;exact h
 |cons o l ih=>
  intro a w h
  unfold wpList at h ⊢
  show if Region.wanted o (yielded ops a.tmps)=true then _ else _
  by_cases hw:Region.wanted o (yielded ops a.tmps)=true
  ·rw[if_pos hw]at h ⊢
   rcases h with h|⟨ha,a2,w2,h2⟩
   ·left
    unfold Oper.wp at h ⊢
    rw[XO]
    exact vH ih _ h
   ·right
    refine⟨?_,_,_,h2⟩
    unfold Oper.asks at ha ⊢
    rw[XO];exact ha
  ·rw[if_neg hw]at h ⊢
   rw[O4];exact ih _ _ h
def DY(P:Program)(D:List Deferred)(c:Code)(Q:Exit->Act->World->Prop)(N:Nat)(L:Env)(w:World):Prop:= ∀a,A9 a N L->c.wp P Q (DN D a) w
theorem DY.seq {x y:Code}(h:DY P D x (Exit.then (y.wp P Q) Q) N L w):DY P D (.seq x y) Q N L w:=λ a hs=>wp_seq (h a hs)
theorem DY.region {id:Nat}{l:List Oper}(h:RL P l.toArray (λ e a w=>Q e (DN D a) w) N l L w):DY P D (.region id l.toArray false) Q N L w:=λ a hs=>wp_region_lit (vI _ _ _ (h a hs))
theorem DY.sr {id:Nat}{l:List Oper}{y:Code}(h:RL P l.toArray (λ e a w=>Exit.then (y.wp P Q) Q e (DN D a) w) N l L w):DY P D (.seq (.region id l.toArray false) y) Q N L w:=DY.seq (DY.region h)
theorem DY.cond {c:Nat}{x y:Code}{b:Bool}(hc:look L c=some (true,.bool b))(ht:b=true->DY P D x Q N L w)(hf:b=false->DY P D y Q N L w):DY P D (.cond (.tmp c) x y) Q N L w:=
 λ a hs=>wp_cond_split (show(DN D a).eval (.tmp c)= .bool b from by rw[XO];exact hs.get hc) (λ hb=>ht hb a hs) (λ hb=>hf hb a hs)
theorem DY.skip (h: ∀a,A9 a N L->Q .normal (DN D a) w):DY P D .skip Q N L w:=λ a hs=>wp_skip (h a hs)
theorem DY.ret (h: ∀a,A9 a N L->Q .ret (DN D a) w):DY P D .ret Q N L w:=λ a hs=>wp_ret (h a hs)
theorem DY.id {y:Code}{Q':Exit->Act->World->Prop}(h:DY P D y Q' N L w): ∀a,A9 a N L->y.wp P Q' (DN D a) w:=h
theorem DY.at {y:Code}{Q':Exit->Act->World->Prop}(L':Env)(hk:Eng.BC (OE L') L=L')(h:DY P D y Q' N L' w): ∀a,A9 a N L->y.wp P Q' (DN D a) w:=λ a hs=>h a (hk▸hs.BC _)
structure IS (P:Program) (fn:Func) (R:Ending->World->Prop) (Q:Exit->Act->World->Prop):Prop where
 all: ∀e a w,bodyPostD P fn R e a w->Q e a w
theorem DY.enter {f:FuncId}{fn:Func}{c:Code}{vs:List Value}{R:Ending->World->Prop}(hf:P.funcs[f]? =some fn)(hb:fn.body=some c)(hn:fn.ntmps=N)(hl:vs.length<=N)
  (h: ∀Q,IS P fn R Q->CW P c Q N (IW 0 vs) w):Calls P f vs.toArray w R:=
 calls_of_wp_defers hf hb (by rw[hn];exact h _ ⟨λ _ _ _ h=>h⟩ _ (A9.enter vs N hl))
theorem IS.p {fn:Func}{R:Ending->World->Prop}{ch:List PanicEntry}(E:IS P fn R Q)(h: ∀a,A9 a N L->Leaves P fn a.tmps R D (.panicking ch) w): ∀a,A9 a N L->Q (.panic ch) (DN D a) w:=
 λ a hs=>E.all _ _ _ (by show Leaves P fn a.tmps R (a.defers++D) _ w;rw[hs.C2];exact h a hs)
theorem IS.r {fn:Func}{R:Ending->World->Prop}(E:IS P fn R Q)(h: ∀a,A9 a N L->Leaves P fn a.tmps R D .returning w): ∀a,A9 a N L->Q .ret (DN D a) w:=
 λ a hs=>E.all _ _ _ (by show Leaves P fn a.tmps R (a.defers++D) _ w;rw[hs.C2];exact h a hs)
theorem RL.defer {f:FuncId}{x:Operand}{cs:List Value}{tys:Array TypeId}{ty:TypeId}{ps:String}{af:Array Edge}(hx:A4 L true x (.func (.func f) #[] cs.toArray))(h:RL P ops (λ e a w=>Q e (DN [{ target:=.fn (.func f) cs.toArray,args:= #[]}] a) w) N [] L w):
  RL P ops Q N [⟨none,.defer ⟨.value x,#[],tys⟩,ty,ps,af,none⟩] L w:=by
 intro a hs
 refine wpList_plain U λ K hK=>?_
 have key:(execOp a.eval ⟨none,.defer ⟨.value x,#[],tys⟩,ty,ps,af,none⟩).run P w= .ok (.defer { target:=.fn (.func f) cs.toArray,args:= #[]}) w:=by
  simp only[execOp,resolve,hx a N hs U,Deferred.ofValue,Sem.run_bind,Sem.run_pure,Result.andThen_ok]
  simp
 simp only[Oper.wp,key,Oper.upon_defer]
 have h1:=h a hs
 refine hK _ _ ?_
 show Q .normal (Act.put { a with defers:=_::a.defers} none undef) w
 rw[hs.C2]
 have h2:Q .normal (DN [{ target:=.fn (.func f) cs.toArray,args:= #[]}] a) w:=h1
 unfold DN at h2
 rw[hs.C2]at h2
 exact h2
theorem XR{fn:Func}{R:Ending->World->Prop}{f:FuncId}{tmps:Array Value}{cs:List Value}{u:FrameMode}{S:World->Prop}(ct: ∀args w,(callFunc f args).run P w= .ok (.enter f args) w)(hu:u≠ .run)(hm:settle (EY u).2= .returning)
  (hc:CallsD P f cs.toArray u w (λ e u' w'=>e= .returned (.tuple #[])/\u'=(EY u).2/\S w')) (h: ∀w',S w'-> ∃v,(results fn tmps).run P w'= .ok v w'/\R (.returned v) w'):
  Leaves P fn tmps R [{ target:=.fn (.func f) cs.toArray,args:= #[]}] u w:=by
 refine leaves_cons hu (args:=cs.toArray) (f:=f) (by simp[invoke,go_sem,ct]) (hc.mono ?_)
 rintro e u' w' ⟨rfl,rfl,hS⟩
 show Leaves P fn tmps R [] (settle (EY u).2) w'
 rw[hm]
 exact h w' hS
end
end Go.Eng
namespace Go.Eng
open Go.RowKit
def Q1(c:Cx)(ds:List Deferred):Cx:= { c with W:=Wk.C2 c.P ds}
def MF(ds:List Deferred)(B:Exit->Act->World->Prop):Exit->Act->World->Prop:=λ e a w=>B e (CB ds a) w
theorem T7{c:Cx}{ds:List Deferred}{B:Exit->Act->World->Prop}(hw: ∀x Q a w,x.wp c.P Q a w->c.W.wp x Q a w): ∀(k:List Fr),JP k=true-> ∀e a w,post (Q1 c ds) (MF ds B) k e a w->post c B k e (CB ds a) w
 |[],_,e,a,w,h=>h
 | .seq y::k,hk,e,a,w,h=>by
  unfold JP at hk
  rw[Bool.and_eq_true]at hk
  have ih:=T7 (ds:=ds) (B:=B) hw k hk.2
  cases e with
  |normal=>
   have h:CH y=true->y.wp c.P (NH ds (post (Q1 c ds) (MF ds B) k)) (CB ds a) w:=h
   refine hw _ _ _ _ (wp_mono (h hk.1) λ e a w ⟨a0,e0,q⟩=>?_)
   subst e0;exact ih _ _ _ q
  |_=>exact ih _ a w h
 | .block id::k,hk,e,a,w,h=>by
  have ih:=T7 (ds:=ds) (B:=B) hw k hk
  cases e with
  |exit id'=>
   have h:if id'=id then post (Q1 c ds) (MF ds B) k .normal a w else post (Q1 c ds) (MF ds B) k (.exit id') a w:=h
   show if id'=id then _ else _
   split<;>rename_i hid
   ·rw[if_pos hid]at h;exact ih _ a w h
   ·rw[if_neg hid]at h;exact ih _ a w h
  |_=>exact ih _ a w h
 | .scope::k,hk,e,a,w,h=>by
  have ih:=T7 (ds:=ds) (B:=B) hw k hk
  cases e<;>first|exact h.elim|exact ih _ a w h
 | .loop J::k,hk,_,_,_,_=>by cases hk
theorem vJ{P:Program}{N:Nat}{w0 w:World}{M0 M:Mem}{Hr:List HO}{T:TT}(hT:D6 P T){f:FuncId}{fn:Func}{x:Code}{R:Ending->World->Prop}(hf:P.funcs[f]? =some fn)(hb:fn.body=some x)(hn:fn.ntmps=N)
  (F:List (Nat×Kn)) (H:List (Nat×HX)) (vs:List XV) (hl:Nat.ble vs.length N=true) (hS:St w0 M0 w M (HD H++Hr)) (hF:B1 M F)
  (h: ∀B,IS P fn R B->XG ⟨P,N,w0,M0,M,Hr,T,hT,.wide P⟩ B [] (.code x) ⟨F,H,JM 0 vs⟩) {av:List Value} (ha:vs.map XV.d=av):Calls P f av.toArray w R:=by
 subst ha
 refine calls_of_wp_defers hf hb ?_
 rw[hn]
 have hs:=A9.enter (vs.map XV.d) N (by rw[List.length_map];exact Nat.le_of_ble_eq_true hl)
 exact h _ ⟨λ _ _ _ h=>h⟩ _ w ⟨by rw[<-N5]at hs;exact hs,M,hS,hF,Mem.le.refl _⟩
section
variable {c:Cx} {B:Exit->Act->World->Prop} {k k':List Fr} {m:Md} {s s':XS} {O:Prop} {E:List Ck} {all:Array Oper} {ty:TypeId} {ps:String} {af:Array Edge}
abbrev XT(f:FuncId)(cs:List Value):List Deferred:=[{ target:=.fn (.func f) cs.toArray,args:= #[]}]
theorem vK{x:Operand}{f:FuncId}{cs:List Value}{tys:Array TypeId}{E1:List Ck}(hw: ∀x Q a w,x.wp c.P Q a w->c.W.wp x Q a w)(hl: ∀ops Q l a w,wpList c.P ops Q l a w->c.W.list ops Q l a w)
  (h:run c.T c.N k m s=⟨k',.ops all [⟨none,.defer ⟨.value x,#[],tys⟩,ty,ps,af,none⟩],s',O,E⟩) (hE:A5 E) (hO:O) (hx:BA s'.L .t x=some (.v (.func (.func f) #[] ⟨cs⟩),E1)) (hE1:A5 E1) (hk:JP k'=true)
  (hn:XG (Q1 c (XT f cs)) (MF (XT f cs) B) k' .next s'):XG c B k m s:=by
 refine CA h hE hO λ a w ⟨hs,M,hX⟩=>hl _ _ _ _ _ ?_
 refine wpList_plain U λ K hK=>?_
 have hxv:a.eval x= .func (.func f) #[] ⟨cs⟩:=AI hx hE1 a c.N hs U
 have key:(execOp a.eval ⟨none,.defer ⟨.value x,#[],tys⟩,ty,ps,af,none⟩).run c.P w= .ok (.defer { target:=.fn (.func f) cs.toArray,args:= #[]}) w:=by
  simp only[execOp,resolve,hxv,Deferred.ofValue,Sem.run_bind,Sem.run_pure,Result.andThen_ok]
  simp
 simp only[Oper.wp,key,Oper.upon_defer]
 refine hK _ _ ?_
 have h1:=T7 hw k' hk _ _ _ (hn a w ⟨hs,M,hX.st,hX.f,hX.le⟩)
 have e:CB (XT f cs) a= { a with defers:= { target:=.fn (.func f) cs.toArray,args:= #[]}::a.defers}:=by unfold CB;rw[hs.C2];rfl
 rw[e]at h1
 exact h1
theorem T8{P:Program}{T:TT}(hT:D6 P T){fn:Func}{H:List (Nat×HX)}{Hr:List HO}{w0 w:World}{M0 M:Mem}{L:XE}{a:Act}{N:Nat}{rs:List ResultVar}{vs:List XV}{E2:List Ck}(hS:St w0 M0 w M (HD H++Hr))(hs:A9 a N L.d)(hr:fn.results=⟨rs⟩)(hl:KK T H L rs=some (vs,E2))(hE2:A5 E2):(results fn a.tmps).run P w= .ok (LM vs) w:=by
 rw[QQ,hr]
 have h3:=VF hT hS hs hl hE2
 have h4:((⟨rs⟩:Array ResultVar).mapM (HF a.tmps)).run P w= .ok (vs.map XV.d).toArray w:=by
  rw[Array.mapM_eq_mapM_toList]
  refine(Sem.run_bind' P _ _ w).trans ?_
  rw[h3];rfl
 rw[Sem.run_bind,h4]
 simp only[Result.andThen_ok,Sem.run_pure]
 congr 1
 match vs with
 |[]=>rfl
 |[v]=>rfl
 |_::_::_=>simp[LM]
theorem vL{fn:Func}{R:Ending->World->Prop}{ds:List Deferred}{B0:Exit->Act->World->Prop}(hB:IS c.P fn R B0)(h:run c.T c.N k m s=⟨[],.ret,s',O,E⟩)(hE:A5 E)(hO:O)(hR: ∀a w M,A9 a c.N s'.L.d->CS c s'.F s'.H w M->Leaves c.P fn a.tmps R ds .returning w):XG c (MF ds B0) k m s:=
 CA h hE hO λ a w ⟨h1,M,h2⟩=>hB.all _ _ _ (by
  show Leaves c.P fn a.tmps R (a.defers++ds) .returning w
  rw[h1.C2];exact hR a w M h1 h2)
theorem IS.gC {P:Program}{N:Nat}{L:XE}{fn:Func}{R:Ending->World->Prop}{Q:Exit->Act->World->Prop}{ds:List Deferred}{ch:List PanicEntry}{a:Act}{w:World}(hB:IS P fn R Q)(hs:A9 a N L.d)(h:Leaves P fn a.tmps R ds (.panicking ch) w):MF ds Q (.panic ch) a w:=
 hB.all _ _ _ (by show Leaves P fn a.tmps R (a.defers++ds) _ w;rw[hs.C2];exact h)
theorem IS.ends {P:Program}{fn:Func}{R:Ending->World->Prop}{Q:Exit->Act->World->Prop}(hB:IS P fn R Q):Ends P fn R Q:=⟨λ e a w h=>hB.all e a w (by
 cases e with
 |normal=>obtain⟨hd,h⟩:=h;show Leaves _ _ _ _ a.defers _ _;rw[hd];exact h
 |ret=>obtain⟨hd,h⟩:=h;show Leaves _ _ _ _ a.defers _ _;rw[hd];exact h
 |panic ch=>obtain⟨hd,h⟩:=h;show Leaves _ _ _ _ a.defers _ _;rw[hd];exact h
 |outgrown=>exact h
 |exit id=>exact h.elim
 |goto l=>exact h.elim)⟩
end
theorem vM{P:Program}{o:Oper}{a:Act}{w:World}{K K':Act->World->Prop}{Q:Exit->Act->World->Prop}(h:o.wp P a w K' Q):o.wp P a w K' (Exit.then K Q):=by
 unfold Oper.wp at*
 generalize (execOp a.eval o).run P w=r at*
 cases r with
 |ok n w'=>cases n<;>first|exact h|(simp only[Oper.upon]at h ⊢;exact h)
 |halt s w'=>cases s<;>first|exact h|(simp only[Oper.upon]at h ⊢;exact h)
theorem gD{P:Program}{T:TT}(hT:D6 P T){f:FuncId}{fn:Func}{id d N:Nat}{o0:Oper}{l:List Oper}{y:Code}{u:FrameMode}{w0 w:World}{M0 M:Mem}{Hr:List HO}{S:World->Prop}(hf:P.funcs[f]? =some fn)(hb:fn.body=some (.seq (.region id (o0::l).toArray false) y))(hn:fn.ntmps=N)
  (hres:fn.results= #[]) (hg:o0.guard=none) (hd:o0.dst=some d) (hdN:Nat.blt d N=true) (hrun: ∀(a:Act) w,(execOp a.eval o0).run P w= .ok .recover w) (F:List (Nat×Kn)) (H:List (Nat×HX)) (rv:XV) (vs:List XV) (hrv:rv.d=(EY u).1) (hl:Nat.ble vs.length N=true) (hS:St w0 M0 w M (HD H++Hr)) (hF:B1 M F)
  (h: ∀B,(∀a w',a.defers=[]->S w'->B .normal a w')->XG ⟨P,N,w0,M0,M,Hr,T,hT,.wide P⟩ B [.seq y] (.ops (o0::l).toArray l) ⟨F,H,(d,.t,rv)::JM 0 vs⟩) {av:List Value} (ha:vs.map XV.d=av):
  CallsD P f av.toArray u w (λ e u' w'=>e= .returned (.tuple #[])/\u'=(EY u).2/\S w'):=by
 subst ha
 refine vG hf hb hn (by rw[List.length_map];exact Nat.le_of_ble_eq_true hl) hres hg hd hdN hrun λ K Q hK hQ a hs=>?_
 have h1:=h Q hQ a w ⟨by
  show A9 a N ((d,true,rv.d)::XE.d (JM 0 vs))
  rw[N5,hrv];exact hs,M,hS,hF,Mem.le.refl _⟩
 have mono: ∀(l':List Oper) (a:Act) (w:World),wpList P (o0::l).toArray (Exit.then (y.wp P Q) Q) l' a w->wpList P (o0::l).toArray (Exit.then K Q) l' a w:=by
  intro l'
  induction l' with
  |nil=>intro a w h;exact hK _ _ h
  |cons o l' ih=>
   intro a w h
   unfold wpList at h ⊢
   split at h<;>rename_i hw
   ·rw[if_pos hw]
    rcases h with h|⟨ha,a2,w2,h2⟩
    ·refine .inl ?_
     have h3:=OS h
     have h4:=Oper.wp_mono (λ a w hh=>ih a w hh) h3
     exact vM h4
    ·exact .inr ⟨ha,a2,w2,h2⟩
   ·rw[if_neg hw];exact ih _ _ h
 exact mono l a w h1
theorem gE{c:Cx}{B:Exit->Act->World->Prop}{k:List Fr}{m:Md}{s s':XS}{O:Prop}{E:List Ck}{S:World->Prop}(hB: ∀a w',a.defers=[]->S w'->B .normal a w')(h:run c.T c.N k m s=⟨[],.next,s',O,E⟩)(hE:A5 E)(hO:O)(hR: ∀w M,CS c s'.F s'.H w M->S w):XG c B k m s:=
 CA h hE hO λ a w ⟨h1,M,h2⟩=>hB a w h1.C2 (hR w M h2)
end Go.Eng
namespace Go.Eng
open Go.RowKit
theorem XU{u v:A1}{j:Int}(h0:0<=j)(h:j<len u):A2 (u++v) j=A2 u j:=by
 unfold len at h
 unfold A2
 rw[List.getD_eq_getElem?_getD,List.getD_eq_getElem?_getD,List.getElem?_append_left (by omega)]
theorem gF{u v:A1}{k:Int}(h0:0<=k):A2 (u++v) (len u+k)=A2 v k:=by
 unfold A2 len
 rw[List.getD_eq_getElem?_getD,List.getD_eq_getElem?_getD,List.getElem?_append_right (by omega),show((u.length:Int)+k).toNat-u.length=k.toNat from by omega]
theorem vN{u v:A1}{k:Int}(h0:len u<=k):A2 (u++v) k=A2 v (k-len u):=by
 have:=gF (u:=u) (v:=v) (k:=k-len u) (by omega)
 rw[<-this];congr 1;omega
theorem L4(a:UInt8)(l:A1):A2 (a::l) 0=(a.toNat:Int):=rfl
theorem vO(k:Int):A2 [] k=0:=by unfold A2;simp
theorem vP{u v:A1}:Eng.sub (u++v) 0 (len u)=u:=by unfold Eng.sub len;simp
theorem gG{s s':A1}{i i':Int}(h0:0<=i)(h0':0<=i')(h1:1<=rune s i)(hl:i<len s)(hl':i'+rune s i<=len s')(h: ∀j,0<=j->j<rune s i->A2 s' (i'+j)=A2 s (i+j)):
  rune s' i'=rune s i/\AM s' i'=AM s i/\runeLen s' i'=runeLen s i:=by
 have hb:=U0 s i
 have hle:=rune_le s i hl
 have a0:A2 s' i'=A2 s i:=by have:=h 0 (by omega) (by omega);rwa [Int.add_zero,Int.add_zero]at this
 have a1:2<=rune s i->A2 s' (i'+1)=A2 s (i+1):=λ x=>h 1 (by omega) (by omega)
 have a2:3<=rune s i->A2 s' (i'+2)=A2 s (i+2):=λ x=>h 2 (by omega) (by omega)
 have a3:4<=rune s i->A2 s' (i'+3)=A2 s (i+3):=λ x=>h 3 (by omega) (by omega)
 have er:rune s' i'=rune s i:=by
  clear h
  generalize hk:rune s i=k at*
  unfold rune cont at hk ⊢
  dsimp only at hk ⊢
  rw[a0]
  simp only[Bool.and_eq_true,Bool.or_eq_true,decide_eq_true_eq,beq_iff_eq]at hk ⊢
  split at hk
  ·rw[if_pos (by assumption)];exact hk
  rename_i c0
  rw[if_neg c0]
  split at hk
  ·rename_i c1
   subst hk
   have:=a1 (by omega)
   rw[if_pos (by omega)]
  rename_i c1
  split at hk
  ·rename_i c2
   have hk3:k=3:=by split at hk<;>omega
   have e1:=a1 (by omega)
   have e2:=a2 (by omega)
   rw[if_neg (by omega),if_pos (by omega),e1]
   exact hk
  rename_i c2
  split at hk
  ·rename_i c3
   have hk4:k=4:=by split at hk<;>omega
   have e1:=a1 (by omega)
   have e2:=a2 (by omega)
   have e3:=a3 (by omega)
   rw[if_neg (by omega),if_neg (by omega),if_pos (by omega),e1]
   exact hk
  ·omega
 refine⟨er,?_⟩
 have hl2:i'<len s':=by omega
 have D:=VO (s.length-i.toNat) (s.getD i.toNat 0).toNat (s.getD (i.toNat+1) 0).toNat (s.getD (i.toNat+2) 0).toNat (s.getD (i.toNat+3) 0).toNat (by unfold len at*;omega) (UInt8.toNat_lt _) (UInt8.toNat_lt _) (UInt8.toNat_lt _) (UInt8.toNat_lt _)
 have D':=VO (s'.length-i'.toNat) (s'.getD i'.toNat 0).toNat (s'.getD (i'.toNat+1) 0).toNat (s'.getD (i'.toNat+2) 0).toNat (s'.getD (i'.toNat+3) 0).toNat (by unfold len at*;omega) (UInt8.toNat_lt _) (UInt8.toNat_lt _) (UInt8.toNat_lt _) (UInt8.toNat_lt _)
 have r1:=VP h0 hl
 have r2:=VP h0' hl2
 have q: ∀(t:A1) (x:Int),0<=x->AM t x=((Lib.decodeN (t.length-x.toNat) (t.getD x.toNat 0).toNat (t.getD (x.toNat+1) 0).toNat (t.getD (x.toNat+2) 0).toNat (t.getD (x.toNat+3) 0).toNat).1:Nat)/\runeLen t x=((Lib.decodeN (t.length-x.toNat) (t.getD x.toNat 0).toNat (t.getD (x.toNat+1) 0).toNat (t.getD (x.toNat+2) 0).toNat (t.getD (x.toNat+3) 0).toNat).2:Nat):=λ t x hx=>by
  unfold AM runeLen;rw[P7 t x hx,S8 t x hx];exact⟨rfl,rfl⟩
 obtain⟨q1,q2⟩:=q s i h0
 obtain⟨q3,q4⟩:=q s' i' h0'
 rw[q1,q2,q3,q4]
 have n0: ∀(t:A1) (x:Int),0<=x->A2 t x=((t.getD x.toNat 0).toNat:Int):=λ t x hx=>rfl
 have nj:=λ(t:A1) (x:Int) (hx:0<=x) (j:Nat)=>S6 t x hx j
 rw[n0 s i h0,n0 s' i' h0']at a0
 have b1:A2 s (i+1)=_:=nj s i h0 1
 have b2:A2 s (i+2)=_:=nj s i h0 2
 have b3:A2 s (i+3)=_:=nj s i h0 3
 have b1':A2 s' (i'+1)=_:=nj s' i' h0' 1
 have b2':A2 s' (i'+2)=_:=nj s' i' h0' 2
 have b3':A2 s' (i'+3)=_:=nj s' i' h0' 3
 rw[b1,b1']at a1
 rw[b2,b2']at a2
 rw[b3,b3']at a3
 unfold VN at D D'
 generalize (s.getD i.toNat 0).toNat=x0 at*
 generalize (s.getD (i.toNat+1) 0).toNat=x1 at*
 generalize (s.getD (i.toNat+2) 0).toNat=x2 at*
 generalize (s.getD (i.toNat+3) 0).toNat=x3 at*
 generalize (s'.getD i'.toNat 0).toNat=y0 at*
 generalize (s'.getD (i'.toNat+1) 0).toNat=y1 at*
 generalize (s'.getD (i'.toNat+2) 0).toNat=y2 at*
 generalize (s'.getD (i'.toNat+3) 0).toNat=y3 at*
 generalize LR (s.length-i.toNat) x0 x1 x2 x3=k at*
 generalize LR (s'.length-i'.toNat) y0 y1 y2 y3=k' at*
 generalize Lib.decodeN (s.length-i.toNat) x0 x1 x2 x3=d at*
 generalize Lib.decodeN (s'.length-i'.toNat) y0 y1 y2 y3=d' at*
 obtain⟨d1,d2⟩:=d
 obtain⟨e1,e2⟩:=d'
 clear q1 q2 q3 q4 q n0 nj b1 b2 b3 b1' b2' b3' h
 dsimp only at*
 rcases D with D|D|D|D|D<;>rcases D' with D'|D'|D'|D'|D'<;>first|(exfalso;omega)|(constructor<;>omega)
def vQ(c:Int):Bool:=TY c||c==40||c==41||c==44||c==58||c==91||c==93||c==125
def Stop(v v':A1):Prop:=v'=[]\/(v'≠[]/\vQ (A2 v' 0)=true)\/(v≠[]/\v'≠[]/\A2 v' 0=A2 v 0)
theorem vR{α:Type}{l:List α}:l≠[]↔0<len l:=⟨λ h=>JI h,λ h e=>by rw[e,len_nil]at h;omega⟩
theorem gH{s:A1}{n:Int}(hn:n<=len s)(ha: ∀j:Int,0<=j->j<n->BN (A2 s j) (j==0)=true)(hs:n<len s->BN (A2 s n) (n==0)=false)(i:Int)(h0:0<=i)(hi:i<=n):CG s i=n:=by
 by_cases h:i<n
 ·rw[<-OD h0 (by omega) (ha i h0 h)]
  exact gH hn ha hs (i+1) (by omega) (by omega)
 ·have e:i=n:=by omega
  subst e
  by_cases hl:i<len s
  ·exact MQ h0 hl (hs hl)
  ·exact MR hl
termination_by (n-i).toNat
theorem gI{s:A1}: ∀(i:Int),0<=i->(∀j:Int,i<=j->j<CG s i->BN (A2 s j) (j==0)=true)/\(i<=len s->CG s i<len s->BN (A2 s (CG s i)) (CG s i==0)=false):=by
 intro i h0
 by_cases hlt:i<len s
 ·cases hw:BN (A2 s i) (i==0)with
  |true=>
   have:=gI (s:=s) (i+1) (by omega)
   rw[OD h0 hlt hw]at this
   refine⟨λ j a b=>?_,λ a b=>this.2 (by omega) b⟩
   by_cases e:j=i
   ·subst e;exact hw
   ·exact this.1 j (by omega) b
  |false=>rw[MQ h0 hlt hw];exact⟨λ j a b=>by omega,λ _ _=>hw⟩
 ·rw[MR hlt];exact⟨λ j a b=>by omega,λ a b=>by omega⟩
termination_by i=>(len s-i).toNat
theorem gJ{s:A1}(h:GD (A2 s 0)=false):B9 s=[]:=by
 have e:CG s 0=0:=by
  by_cases hl:0<len s
  ·exact MQ (by omega) hl (by unfold BN;rw[h];rfl)
  ·exact MR hl
 unfold B9;rw[e];rfl
def Q2(b:UInt8):Bool:=([61,33,60,62,46,124,44,58,40,41,91,93,123,125,63]:A1).contains b
theorem vS{a:UInt8}{s:A1}(h:Q2 a=false):C3 (a::s)=[]:=by
 have h': ∀m∈AB,Lib.hasPrefix (a::s) m=false:=by
  intro m hm
  cases hp:Lib.hasPrefix (a::s) m with
  |false=>rfl
  |true=>
   exfalso
   have hf: ∀m∈AB,m≠[]/\Q2 (m.headD 0)=true:=by decide+kernel
   obtain⟨hn,hb⟩:=hf m hm
   cases m with
   |nil=>exact hn U
   |cons b r=>
   have hb:Q2 b=true:=hb
   have:=List.isPrefixOf_iff_prefix.1 hp
   rw[List.cons_prefix_cons]at this
   rw[<-this.1,hb]at h;cases h
 unfold C3
 rw[List.find?_eq_none.2 (λ m hm=>by rw[h' m hm];simp)]
 rfl
theorem vT{a:UInt8}(h:GD (a.toNat:Int)=true):Q2 a=false:=by
 have: ∀n:Fin 256,GD (n.val:Int)=true->Q2 (UInt8.ofNat n.val)=false:=by decide+kernel
 have:=this ⟨a.toNat,a.toNat_lt⟩ h
 simpa using this
theorem vU(a:UInt8)(l:A1):A3 (a::l) 1=l:=rfl
end Go.Eng
namespace Go.Eng
open Go.RowKit
inductive Lx (s:A1):Int->List Tk->Prop
 |done {i:Int}:0<=i-> ¬i<len s->Lx s i []
 |step {i n:Int} {t:Tk} {l:List Tk}:0<=i->i<len s->A6 (A3 s i)=(t,n,0)->Lx s (DF s (i+n)) l->Lx s i ({ t with pos:=i}::l)
inductive HB (s:A1):Int->Int->Int->Prop
 |here {i n e:Int} {t:Tk}:0<=i->i<len s->A6 (A3 s i)=(t,n,e)->e≠0->HB s i (i+n) e
 |there {i n p e:Int} {t:Tk}:0<=i->i<len s->A6 (A3 s i)=(t,n,0)->HB s (DF s (i+n)) p e->HB s i p e
theorem MH{s:A1}{i n e:Int}{t:Tk}(h0:0<=i)(h1:i<len s)(h:A6 (A3 s i)=(t,n,e)):0<=n/\i+n<=len s/\(e=0->1<=n)/\(e=0\/e=1\/e=2\/e=4):=by
 have hl:=DK s i h0 (by omega)
 have:=cY (s:=A3 s i) (by omega)
 rw[h]at this
 dsimp only at this
 omega
theorem gK{s:A1}: ∀(f:Nat) (i:Int) (acc:List Tk),0<=i->(len s-i).toNat<=f->
  (∃l,Lx s i l/\H6 f s i acc=(acc++l++[F8 s],0,0))\/(∃p e,HB s i p e/\H6 f s i acc=([],p,e))
 |0,i,acc,h0,hf=>.inl ⟨[],.done h0 (by omega),by unfold H6;simp⟩
 |f+1,i,acc,h0,hf=>by
  by_cases h1:i<len s
  ·obtain⟨t,n,e,ht⟩: ∃t n e,A6 (A3 s i)=(t,n,e):=⟨_,_,_,rfl⟩
   have hb:=MH h0 h1 ht
   rw[NM hf h1,ht]
   dsimp only
   by_cases he:e=0
   ·subst he
    have hbl:=IG s (i+n) (by omega) (by omega)
    rw[if_neg (by simp)]
    rcases gK (s:=s) f (DF s (i+n)) (acc++[{ t with pos:=i}]) (by omega) (by omega)with⟨l,h2,h3⟩|⟨p,e,h2,h3⟩
    ·exact .inl ⟨_,.step h0 h1 ht h2,by rw[Nat.add_sub_cancel,h3];simp⟩
    ·exact .inr ⟨p,e,.there h0 h1 ht h2,by rw[Nat.add_sub_cancel,h3]⟩
   ·rw[if_pos he]
    exact .inr ⟨_,_,.here h0 h1 ht he,rfl⟩
  ·exact .inl ⟨[],.done h0 h1,by rw[VR h1];simp⟩
theorem HB.bd {s:A1}{i p e:Int}(h:HB s i p e):i<=p/\p<=len s/\(e=1\/e=2\/e=4):=by
 induction h with
 |here h0 h1 h he=>have:=MH h0 h1 h;omega
 | @there i n p e t h0 h1 h _ ih=>
  have hb:=MH h0 h1 h
  have:=IG s (i+n) (by omega) hb.2.1
  omega
theorem Lx.go {s:A1}{i:Int}{l:List Tk}(h:Lx s i l): ∀(f:Nat) (acc:List Tk),(len s-i).toNat<=f->H6 f s i acc=(acc++l++[F8 s],0,0):=by
 induction h with
 |done _ h1=>intro f acc _;rw[VR h1];simp
 | @step i n t l h0 h1 h _ ih=>
  intro f acc hf
  have hb:=MH h0 h1 h
  have hbl:=IG s (i+n) (by omega) hb.2.1
  rw[NM hf h1,h]
  dsimp only
  rw[if_neg (by simp),ih _ _ (by omega)]
  simp
theorem HB.go {s:A1}{i p e:Int}(h:HB s i p e): ∀(f:Nat) (acc:List Tk),(len s-i).toNat<=f->H6 f s i acc=([],p,e):=by
 induction h with
 |here h0 h1 h he=>intro f acc hf;rw[NM hf h1,h];dsimp only;rw[if_pos he]
 | @there i n p e t h0 h1 h _ ih=>
  intro f acc hf
  have hb:=MH h0 h1 h
  have hbl:=IG s (i+n) (by omega) hb.2.1
  rw[NM hf h1,h]
  dsimp only
  rw[if_neg (by simp),ih _ _ (by omega)]
theorem XW(s:A1):(len s-DF s 0).toNat<=s.length:=by
 have:=IG s 0 (Int.le_refl 0) (AA s)
 unfold len at*;omega
theorem vV(s:A1):(∃l,Lx s (DF s 0) l/\BF s=(l++[F8 s],0,0))\/(∃p e,HB s (DF s 0) p e/\BF s=([],p,e)):=by
 have:=gK (s:=s) s.length (DF s 0) [] (IG s 0 (Int.le_refl 0) (AA s)).1 (XW s)
 simp only[List.nil_append]at this
 exact this
theorem Lx.lex {s:A1}{l:List Tk}(h:Lx s (DF s 0) l):BF s=(l++[F8 s],0,0):=by
 have:=h.go s.length [] (XW s)
 rwa [List.nil_append]at this
theorem HB.lex {s:A1}{p e:Int}(h:HB s (DF s 0) p e):BF s=([],p,e):=h.go s.length [] (XW s)
theorem gL{s:A1}(h:(BF s).2.2=0): ∃l,Lx s (DF s 0) l/\BF s=(l++[F8 s],0,0):=by
 rcases vV s with h1|⟨p,e,h1,h2⟩
 ·exact h1
 ·rw[h2]at h;have:=h1.bd;dsimp only at h;omega
theorem Lx.size {s:A1}{i:Int}{l:List Tk}(h:Lx s i l):i<=len s->len l<=len s-i:=by
 induction h with
 |done _ _=>intro x;rw[len_nil];omega
 | @step i n t l h0 h1 h _ ih=>
  intro x
  have hb:=MH h0 h1 h
  have hbl:=IG s (i+n) (by omega) hb.2.1
  have:=ih hbl.2
  rw[AL];omega
end Go.Eng
