/- Lemmas for the card. -/
import Derived.Test.YtmjpjbmeamnfpaaGreatDoorZf15
set_option linter.unusedVariables false
set_option linter.unusedSimpArgs false
set_option maxRecDepth 100000
namespace Go.Eng
theorem nG{rt:Tf->Bool}{l:List Tk}: ∀ {f:Nat} {d i:Int} {xs:List Tf} {x:Tf} {j:Int},HG AE rt f l d xs i= .ok x j->x.t.op=4
 |0,_,_,_,_,_,h=>(DU h).elim
 |f+1,d,i,xs,x,j,h=>by
  rw[HG]at h
  split at h
  ·cases h;rfl
  ·obtain⟨_,k,_,h3⟩:=BM h
   obtain⟨y,m,_,h6⟩:=BM h3
   exact nG h6
theorem nH{rt:Tf->Bool}{l:List Tk}{kd i:Int}{X:Int->PR Tf}{x:Tf}{j:Int}(h:GN AE rt l kd i X= .ok x j):x.t.op=kd:=by
 unfold GN at h
 obtain⟨s,k1,h2,h3⟩:=BM h
 obtain⟨_,k2,h8,h9⟩:=BM h3
 obtain⟨y,k3,hb,hc⟩:=BM h9
 obtain⟨_,k4,hd,he⟩:=BM hc
 split at he
 ·cases he;rfl
 ·exact(DU he).elim
theorem X8(x:Tf):(at' x.flat 0).op=x.t.op:=by rw[Tf.KC];rfl
end Go.Eng
namespace Go.Proofs.YtmjpjbmeamnfpaaGreatDoor
open Go.Proofs.Tryz
open Go.Eng
def U3(b:Nat):List SV:=[⟨JB,.func (.func 90) #[.pointer (some ⟨b,0,none⟩)] #[],0⟩,⟨JC,.func (.func 91) #[.pointer (some ⟨b,0,none⟩)] #[],1⟩,⟨K8,.func (.func 92) #[.pointer (some ⟨b,0,none⟩)] #[],2⟩,⟨K9,.func (.func 93) #[.pointer (some ⟨b,0,none⟩)] #[],3⟩]
theorem nI{b:Nat}{x:A1}(h1:x≠JB)(h2:x≠JC)(h3:x≠K8)(h4:x≠K9):HJ (U3 b) x=none:=by
 show(if x==JB then _ else if x==JC then _ else if x==K8 then _ else if x==K9 then _ else none)=none
 simp only[beq_iff_eq]
 rw[if_neg h1,if_neg h2,if_neg h3,if_neg h4]
theorem AL0{rt:Tf->Bool}{f:Nat}(hrt:NN rt)(H:JI rt f){w0 wv:World}{M0 M:Mem}{Rs:List HO}{b:Nat}{v:Value}{l:List Tk}{i d d2:Int}(h:HI w0 wv M0 M Rs b v l i d)(hd0:0<d)(hd:d<=64)(hf:4*(len l-i)+2<=(f:Int))(hd2:d-1=d2):
 Calls prog 92 [.pointer (some ⟨b,0,none⟩)].toArray wv (OQ w0 M0 M Rs b v d2 (GN AE rt l 7 i (C3 AE rt f l d))):=by subst hd2;exact AJ7 hrt H h hd0 hd hf
theorem AL1{rt:Tf->Bool}{f:Nat}(hrt:NN rt)(H:JI rt f){w0 wv:World}{M0 M:Mem}{Rs:List HO}{b:Nat}{v:Value}{l:List Tk}{i d d2:Int}(h:HI w0 wv M0 M Rs b v l i d)(hd0:0<d)(hd:d<=64)(hf:4*(len l-i)+2<=(f:Int))(hd2:d-1=d2):
 Calls prog 93 [.pointer (some ⟨b,0,none⟩)].toArray wv (OQ w0 M0 M Rs b v d2 (GN AE rt l 8 i (C3 AE rt f l d))):=by subst hd2;exact AJ8 hrt H h hd0 hd hf
theorem AL2{rt:Tf->Bool}{f:Nat}(hrt:NN rt)(H: ∀g,g<=f->JI rt g):OR 1 62 (JE AE rt (f+1)) (f+1) λ l i=>(at' l i).kind=2:=by
 intro w0 wv M0 M Rs b v l i d h hd0 hd hf hk2
 obtain⟨hS,hl,hg,ok,h0,h1⟩:=h
 have hfew:=ok.few
 have hi1:=IQ ok h0 h1 hk2 (by decide)
 refine AU (Hr:=Rs) AP func62 U ntmps62 [(0,kn v 9 l Tk.cells)] [(0,AV b v i d)] [.bx 0 b 0] U hS (fc 0 hl (λ _=>rfl) AA) (λ B hB=>?_) U
 rw[JE]at hB
 refine mJ 5 U (A0 U) U U λ mm=>?_
 refine CY (.v (.func (.func 90) #[.pointer (some ⟨b,0,none⟩)] #[])) U (A0 U) U U (λ w M hX=>PV.makeFunc (xs:=[.tmp 9]) (ys:=[]) (vs:=[.pointer (some ⟨b,0,none⟩)]) (us:=[]) ⟨AN (v:=.bx 0 b 0) (E:=[]) U (A0 U),trivial⟩ trivial) ?_
 refine U1 true 5 ((U3 b).take 1) 1 U (A0 U) U U U U (A0 U) U underlying145 underlying9 (by kernel_rfl) (by kernel_rfl) ?_
 refine CY (.v (.func (.func 91) #[.pointer (some ⟨b,0,none⟩)] #[])) U (A0 U) U U (λ w M hX=>PV.makeFunc (xs:=[.tmp 11]) (ys:=[]) (vs:=[.pointer (some ⟨b,0,none⟩)]) (us:=[]) ⟨AN (v:=.bx 0 b 0) (E:=[]) U (A0 U),trivial⟩ trivial) ?_
 refine U1 true 5 ((U3 b).take 2) 2 U (A0 U) U U U U (A0 U) U underlying145 underlying9 (by kernel_rfl) (by kernel_rfl) ?_
 refine CY (.v (.func (.func 92) #[.pointer (some ⟨b,0,none⟩)] #[])) U (A0 U) U U (λ w M hX=>PV.makeFunc (xs:=[.tmp 13]) (ys:=[]) (vs:=[.pointer (some ⟨b,0,none⟩)]) (us:=[]) ⟨AN (v:=.bx 0 b 0) (E:=[]) U (A0 U),trivial⟩ trivial) ?_
 refine U1 true 5 ((U3 b).take 3) 3 U (A0 U) U U U U (A0 U) U underlying145 underlying9 (by kernel_rfl) (by kernel_rfl) ?_
 refine CY (.v (.func (.func 93) #[.pointer (some ⟨b,0,none⟩)] #[])) U (A0 U) U U (λ w M hX=>PV.makeFunc (xs:=[.tmp 15]) (ys:=[]) (vs:=[.pointer (some ⟨b,0,none⟩)]) (us:=[]) ⟨AN (v:=.bx 0 b 0) (E:=[]) U (A0 U),trivial⟩ trivial) ?_
 refine U1 true 5 (U3 b) 4 U (A0 U) U U U U (A0 U) U underlying145 underlying9 (by kernel_rfl) (by kernel_rfl) ?_
 refine CZ [0] (EB (at' l i)) U (A0 U) U call41 U U (A0 U) U (λ _ w M hS hF=>EN hS (hF.get (k:=0) U).sl h0 h1) U ?_
 by_cases e:(at' l i).s=JB
 ·have hna:(at' l i).s≠I0:=by rw[e];decide
  rw[if_neg hna,if_pos e]at hB
  refine S2 5 U (A0 U) U U U (A0 U) U underlying145 underlying9 zeroValue87 (v:=.func (.func 90) #[.pointer (some ⟨b,0,none⟩)] #[]) (q:=true) (by rw[e];rfl) (by rw[e];rfl) ?_
  refine A7 U (A0 U) U (λ hb1=>?_) (λ hb1=>?_)<;>simp only[zb]at hb1
  ·exact absurd hb1 hna
  refine A7 rfl (A0 rfl) U (λ hb2=>by cases hb2) (λ _=>?_)
  refine C9 [0] [] (λ _ (_:Unit)=>.tu []) (λ _ j _=>[(0,AV b v j (d+1))]) hB U (A0 U) (by simp only[zb]<;>omega) U call95 U U (A0 U) U (List.sublist_cons_self _ _) (λ w M hS hF=>PT [40] ⟨hS,(hF.get (k:=0) U).sl,hg,ok,by omega,hi1⟩ ⟨hd0,hd⟩) (λ _ _=>rfl) (λ _ _ _=>rfl) λ _ k hk hB _ _=>?_
  obtain⟨rfl,hk1,hd2,_⟩:=IS ok (by omega) hi1 hk
  refine C9 [0] [] (λ _ (h:AX)=>.sl 7 h.v) (λ x j h=>[(0,AV b v j (d+1)),(7,DF h.v x.flat)]) hB U (A0 U) U U call90 U U (A0 U) U (List.sublist_cons_self _ _) (λ w M hS hF=>AJ9 H ⟨hS,(hF.get (k:=0) U).sl,hg,ok,by omega,hk1⟩ (by omega) (by omega) (by omega) trivial) (λ _ _=>rfl) (λ _ _ _=>rfl) λ x j hx hB h7 _=>?_
  obtain⟨hij,hle,_,_,_⟩:=(MS rt ok f).tup _ (i+1+1) _ _ _ _ (by omega) hk1 (.nil _) hx
  have hop:=nG hx
  have hfp:=Tf.FU x
  have hop2:=X8 x
  refine A7 U (A0 U) (by simp only[zb]<;>omega) (λ hb3=>?_) (λ hb3=>?_)<;>simp only[zb]at hb3
  ·refine C9 [0] [] (λ _ (_:Unit)=>.tu []) (λ _ j _=>[(0,AV b v j d)]) hB U (A0 U) U U call96 U U (A0 U) U KD (λ w M hS hF=>PU [41] ⟨hS,(hF.get (k:=0) U).sl,hg,ok,by omega,hle⟩ (by omega) (by omega)) (λ _ _=>rfl) (λ _ _ _=>rfl) λ _ n hn hB _ _=>?_
   exact A9 hB U U (A0 U) U U (A0 U) λ w M' hX=>⟨h7,M',rfl,trivial,hX.le,hX.CQ [0,7] U,AA⟩
  ·omega
 have e0:=e
 by_cases e:(at' l i).s=JC
 ·have hna:(at' l i).s≠I0:=by rw[e];decide
  rw[if_neg hna,if_neg e0,if_pos e]at hB
  refine S2 5 U (A0 U) U U U (A0 U) U underlying145 underlying9 zeroValue87 (v:=.func (.func 91) #[.pointer (some ⟨b,0,none⟩)] #[]) (q:=true) (by rw[e];rfl) (by rw[e];rfl) ?_
  refine A7 U (A0 U) U (λ hb1=>?_) (λ hb1=>?_)<;>simp only[zb]at hb1
  ·exact absurd hb1 hna
  refine A7 rfl (A0 rfl) U (λ hb2=>by cases hb2) (λ _=>?_)
  refine C9 [0] [] (λ _ (_:Unit)=>.tu []) (λ _ j _=>[(0,AV b v j (d+1))]) hB U (A0 U) (by simp only[zb]<;>omega) U call95 U U (A0 U) U (List.sublist_cons_self _ _) (λ w M hS hF=>PT [40] ⟨hS,(hF.get (k:=0) U).sl,hg,ok,by omega,hi1⟩ ⟨hd0,hd⟩) (λ _ _=>rfl) (λ _ _ _=>rfl) λ _ k hk hB _ _=>?_
  obtain⟨rfl,hk1,hd2,_⟩:=IS ok (by omega) hi1 hk
  have eb:((C3 AE rt f l (d+1) (i+1+1)).bind λ x k=>(B6 l k [41]).bind λ _ m=>.ok (.mk (BJ 6) [x]) m)=(cI rt f l (d+1) (i+1+1)).bind λ x k=>(B6 l k [41]).bind λ _ m=>.ok x m:=by unfold cI;rw[PR.assoc];rfl
  rw[eb]at hB
  refine C9 [0] [] (λ _ (h:AX)=>.sl 7 h.v) (λ x j h=>[(0,AV b v j (d+1)),(7,DF h.v x.flat)]) hB U (A0 U) U U call91 U U (A0 U) U (List.sublist_cons_self _ _) (λ w M hS hF=>AJ6 (H f (Nat.le_refl _)) ⟨hS,(hF.get (k:=0) U).sl,hg,ok,by omega,hk1⟩ (by omega) (by omega) (by omega) trivial) (λ _ _=>rfl) (λ _ _ _=>rfl) λ x j hx hB h7 _=>?_
  obtain⟨y,j',hy,he⟩:=BM hx
  cases he
  have gy:=(MS rt ok f).ty _ _ _ _ (by omega) hk1 hy
  have hij:=gy.lt
  have hle:=gy.le
  have hop:(Tf.mk (BJ 6) [y]).t.op=6:=rfl
  have hfp:=Tf.FU (Tf.mk (BJ 6) [y])
  have hop2:=X8 (Tf.mk (BJ 6) [y])
  refine A7 U (A0 U) (by simp only[zb]<;>omega) (λ hb3=>?_) (λ hb3=>?_)<;>simp only[zb]at hb3
  ·refine C9 [0] [] (λ _ (_:Unit)=>.tu []) (λ _ j _=>[(0,AV b v j d)]) hB U (A0 U) U U call96 U U (A0 U) U KD (λ w M hS hF=>PU [41] ⟨hS,(hF.get (k:=0) U).sl,hg,ok,by omega,hle⟩ (by omega) (by omega)) (λ _ _=>rfl) (λ _ _ _=>rfl) λ _ n hn hB _ _=>?_
   exact A9 hB U U (A0 U) U U (A0 U) λ w M' hX=>⟨h7,M',rfl,trivial,hX.le,hX.CQ [0,7] U,AA⟩
  ·omega
 have e1:=e
 by_cases e:(at' l i).s=K8
 ·have hna:(at' l i).s≠I0:=by rw[e];decide
  rw[if_neg hna,if_neg e0,if_neg e1,if_pos e]at hB
  refine S2 5 U (A0 U) U U U (A0 U) U underlying145 underlying9 zeroValue87 (v:=.func (.func 92) #[.pointer (some ⟨b,0,none⟩)] #[]) (q:=true) (by rw[e];rfl) (by rw[e];rfl) ?_
  refine A7 U (A0 U) U (λ hb1=>?_) (λ hb1=>?_)<;>simp only[zb]at hb1
  ·exact absurd hb1 hna
  refine A7 rfl (A0 rfl) U (λ hb2=>by cases hb2) (λ _=>?_)
  refine C9 [0] [] (λ _ (_:Unit)=>.tu []) (λ _ j _=>[(0,AV b v j (d+1))]) hB U (A0 U) (by simp only[zb]<;>omega) U call95 U U (A0 U) U (List.sublist_cons_self _ _) (λ w M hS hF=>PT [40] ⟨hS,(hF.get (k:=0) U).sl,hg,ok,by omega,hi1⟩ ⟨hd0,hd⟩) (λ _ _=>rfl) (λ _ _ _=>rfl) λ _ k hk hB _ _=>?_
  obtain⟨rfl,hk1,hd2,_⟩:=IS ok (by omega) hi1 hk
  refine C9 [0] [] (λ _ (h:AX)=>.sl 7 h.v) (λ x j h=>[(0,AV b v j d),(7,DF h.v x.flat)]) ((PR.ret (GN AE rt l 7 (i+1+1) (C3 AE rt f l (d+1)))).symm▸hB) U (A0 U) U U call92 U U (A0 U) U (List.sublist_cons_self _ _) (λ w M hS hF=>AL0 (l:=l) hrt (H f (Nat.le_refl _)) ⟨hS,(hF.get (k:=0) U).sl,hg,ok,by omega,hk1⟩ (by omega) (by omega) (by omega) (by omega)) (λ _ _=>rfl) (λ _ _ _=>rfl) λ x j hx hB h7 _=>?_
  have hop:=nH hx
  have hfp:=Tf.FU x
  have hop2:=X8 x
  refine A7 U (A0 U) (by simp only[zb]<;>omega) (λ hb3=>?_) (λ hb3=>?_)<;>simp only[zb]at hb3
  ·omega
  ·exact A9 hB U U (A0 U) U U (A0 U) λ w M' hX=>⟨h7,M',rfl,trivial,hX.le,hX.CQ [0,7] U,AA⟩
 have e2:=e
 by_cases e:(at' l i).s=K9
 ·have hna:(at' l i).s≠I0:=by rw[e];decide
  rw[if_neg hna,if_neg e0,if_neg e1,if_neg e2,if_pos e]at hB
  refine S2 5 U (A0 U) U U U (A0 U) U underlying145 underlying9 zeroValue87 (v:=.func (.func 93) #[.pointer (some ⟨b,0,none⟩)] #[]) (q:=true) (by rw[e];rfl) (by rw[e];rfl) ?_
  refine A7 U (A0 U) U (λ hb1=>?_) (λ hb1=>?_)<;>simp only[zb]at hb1
  ·exact absurd hb1 hna
  refine A7 rfl (A0 rfl) U (λ hb2=>by cases hb2) (λ _=>?_)
  refine C9 [0] [] (λ _ (_:Unit)=>.tu []) (λ _ j _=>[(0,AV b v j (d+1))]) hB U (A0 U) (by simp only[zb]<;>omega) U call95 U U (A0 U) U (List.sublist_cons_self _ _) (λ w M hS hF=>PT [40] ⟨hS,(hF.get (k:=0) U).sl,hg,ok,by omega,hi1⟩ ⟨hd0,hd⟩) (λ _ _=>rfl) (λ _ _ _=>rfl) λ _ k hk hB _ _=>?_
  obtain⟨rfl,hk1,hd2,_⟩:=IS ok (by omega) hi1 hk
  refine C9 [0] [] (λ _ (h:AX)=>.sl 7 h.v) (λ x j h=>[(0,AV b v j d),(7,DF h.v x.flat)]) ((PR.ret (GN AE rt l 8 (i+1+1) (C3 AE rt f l (d+1)))).symm▸hB) U (A0 U) U U call93 U U (A0 U) U (List.sublist_cons_self _ _) (λ w M hS hF=>AL1 (l:=l) hrt (H f (Nat.le_refl _)) ⟨hS,(hF.get (k:=0) U).sl,hg,ok,by omega,hk1⟩ (by omega) (by omega) (by omega) (by omega)) (λ _ _=>rfl) (λ _ _ _=>rfl) λ x j hx hB h7 _=>?_
  have hop:=nH hx
  have hfp:=Tf.FU x
  have hop2:=X8 x
  refine A7 U (A0 U) (by simp only[zb]<;>omega) (λ hb3=>?_) (λ hb3=>?_)<;>simp only[zb]at hb3
  ·omega
  ·exact A9 hB U U (A0 U) U U (A0 U) λ w M' hX=>⟨h7,M',rfl,trivial,hX.le,hX.CQ [0,7] U,AA⟩
 refine S2 5 U (A0 U) U U U (A0 U) U underlying145 underlying9 zeroValue87 (v:=.nilFunc) (q:=false) (by rw[nI e0 e1 e2 e];rfl) (by rw[nI e0 e1 e2 e];rfl) ?_
 refine A7 U (A0 U) U (λ hb1=>?_) (λ hb1=>?_)<;>simp only[zb]at hb1
 ·have ha:(at' l i).s=I0:=hb1
  rw[if_pos ha]at hB
  refine PK 7 [BJ 0] Tm.cells 11 48 Tm.B4 U (A0 U) (by simp only[zb]<;>omega) U (A0 U) (λ w=>by kernel_rfl) U λ u=>?_
  exact A9 hB U U (A0 U) U U (A0 U) λ w M' hX=>cB (d:=d) (x:=(Tf.mk (BJ 0) []).flat) ⟨u,M',rfl,trivial,hX.le,hX.CQ [0,7] U,AA⟩
 ·have ha: ¬(at' l i).s=I0:=hb1
  rw[if_neg ha,if_neg e0,if_neg e1,if_neg e2,if_neg e]at hB
  refine A7 rfl (A0 rfl) U (λ _=>?_) (λ hb2=>by cases hb2)
  refine C9 [0] [] (λ _ (h:AX)=>.sl 7 h.v) (λ x j h=>[(0,AV b v j d),(7,DF h.v x.flat)]) ((PR.ret (NH l d i)).symm▸hB) U (A0 U) U U call94 U U (A0 U) U (List.sublist_cons_self _ _) (λ w M hS hF=>AG2 ⟨hS,(hF.get (k:=0) U).sl,hg,ok,h0,h1⟩ ⟨hd0,hd⟩) (λ _ _=>rfl) (λ _ _ _=>rfl) λ x j hx hB h7 _=>?_
  exact A9 hB U U (A0 U) U U (A0 U) λ w M' hX=>⟨h7,M',rfl,trivial,hX.le,hX.CQ [0,7] U,AA⟩
theorem AL3{rt:Tf->Bool}{f:Nat}(H: ∀g,g<=f->JI rt g):OR 2 40 (C3 AE rt (f+1)) (f+1) S3:=by
 intro w0 wv M0 M Rs b v l i d h hd0 hd hf _
 obtain⟨hS,hl,hg,ok,h0,h1⟩:=h
 refine AU (Hr:=Rs) AP func40 U ntmps40 [(0,kn v 9 l Tk.cells)] [(0,AV b v i d)] [.bx 0 b 0] U hS (fc 0 hl (λ _=>rfl) AA) (λ B hB=>?_) U
 rw[C3,<-PR.ret (ite _ _ _)]at hB
 refine CZ [0] (EB (at' l i)) U (A0 U) U call41 U U (A0 U) U (λ _ w M hS hF=>EN hS (hF.get (k:=0) U).sl h0 h1) U ?_
 refine A7 U (A0 U) U (λ hb1=>?_) (λ hb1=>?_)<;>simp only[zb]at hb1
 ·rw[if_pos hb1]at hB
  refine C9 [0] [] (λ _ (h:AX)=>.sl 7 h.v) (λ x j h=>[(0,AV b v j d),(7,DF h.v x.flat)]) hB U (A0 U) U U call62 U U (A0 U) U (List.Sublist.refl _) (λ w M hS hF=>(H f (Nat.le_refl _)).wd ⟨hS,(hF.get (k:=0) U).sl,hg,ok,h0,h1⟩ hd0 hd (by omega) hb1) (λ _ _=>rfl) (λ _ _ _=>rfl) λ x j hx hB h7 _=>?_
  exact A9 hB U U (A0 U) U U (A0 U) λ w M' hX=>⟨h7,M',rfl,trivial,hX.le,hX.CQ [0,7] U,AA⟩
 rw[if_neg hb1]at hB
 refine CZ [0] (.v (.bool (AG l i [123]))) U (A0 U) U call63 U U (A0 U) U (λ _ w M hS hF=>KB [123] hS (hF.get (k:=0) U).sl h0 h1) U ?_
 refine A7 U (A0 U) U (λ hb2=>?_) (λ hb2=>?_)
 ·rw[if_pos hb2]at hB
  refine C9 [0] [] (r:=nF rt f l d i) (λ _ (h:AX)=>.sl 7 h.v) (λ x j h=>[(0,AV b v j d),(7,DF h.v x.flat)]) hB U (A0 U) U U call64 U U (A0 U) U (List.Sublist.refl _) (λ w M hS hF=>AK9 H ⟨hS,(hF.get (k:=0) U).sl,hg,ok,h0,h1⟩ hd0 hd (by omega) trivial) (λ _ _=>rfl) (λ _ _ _=>rfl) λ x j hx hB h7 _=>?_
  exact A9 hB U U (A0 U) U U (A0 U) λ w M' hX=>⟨h7,M',rfl,trivial,hX.le,hX.CQ [0,7] U,AA⟩
 ·rw[if_neg (by rw[hb2];decide)]at hB
  refine C9 [0] [] (r:=n9 rt f l d i) (λ _ (h:AX)=>.sl 7 h.v) (λ x j h=>[(0,AV b v j d),(7,DF h.v x.flat)]) hB U (A0 U) U U call65 U U (A0 U) U (List.Sublist.refl _) (λ w M hS hF=>AJ5 (H f (Nat.le_refl _)) ⟨hS,(hF.get (k:=0) U).sl,hg,ok,h0,h1⟩ hd0 hd (by omega) trivial) (λ _ _=>rfl) (λ _ _ _=>rfl) λ x j hx hB h7 _=>?_
  exact A9 hB U U (A0 U) U U (A0 U) λ w M' hX=>⟨h7,M',rfl,trivial,hX.le,hX.CQ [0,7] U,AA⟩
theorem cJ{rt:Tf->Bool}(hrt:NN rt): ∀(f g:Nat),g<=f->JI rt g
 |f,0,_=>⟨λ h _ _ hf _=>by have:=h.h1;omega,λ h _ _ hf _=>by have:=h.h1;omega⟩
 |0,g+1,hgf=>by omega
 |f+1,g+1,hgf=>⟨AL3 λ k hk=>cJ hrt f k (by omega),AL2 hrt λ k hk=>cJ hrt f k (by omega)⟩
end Go.Proofs.YtmjpjbmeamnfpaaGreatDoor
namespace Go.Eng
open Go.RowKit
theorem AL4{P:Program}{ops:Array Oper}{Q:Exit->Act->List Frame->World->Prop}{cs:List Frame}(hq: ¬LetsOut (λ e a w=>Q e a cs w))(l:List Oper):
  ∀(k:Nat),(∀j,l[j]? =ops[k+j]?)-> ∀a w,wpList P ops (λ e a w=>Q e a cs w) l a w->wpOpsS P ops Q (List.range' k l.length) a cs w:=by
 induction l with
 |nil=>intro k _ a w h;exact h
 |cons o l ih=>
  intro k hk a w h
  have h0:ops[k]? =some o:=by simpa using(hk 0).symm
  have ih':=ih (k+1) (λ j=>by have:=hk (j+1);simpa[Nat.add_assoc,Nat.add_comm 1 j]using this)
  simp only[List.length_cons,List.range'_succ,wpOpsS,h0]
  unfold wpList at h
  by_cases hw:Region.wanted o (yielded ops a.tmps)=true
  ·rw[if_pos hw]at h ⊢
   have h1:=(h.resolve_right λ hh=>hq hh.2)
   have h2:=Oper.wp_mono (λ a' w' hh=>ih' a' w' hh) h1
   unfold Oper.wp at h2
   split
   ·rename_i w' he;rw[he]at h2;exact h2.elim
   ·exact h2
  ·rw[if_neg hw]at h ⊢
   exact ih' _ _ h
theorem AL5{P:Program}{Q:Exit->Act->List Frame->World->Prop}{cs cs':List Frame}{id:Nat}{o0:Oper}{l:List Oper}{a:Act}{w:World}{v:Value}(hg:o0.guard=none)(hrun:(execOp a.eval o0).run P w= .ok .recover w)
  (hrec:recoverD cs=some (v,cs')\/(recoverD cs=none/\v= .nilIface/\cs'=cs)) (hq: ¬LetsOut (λ e a w=>Q e a cs' w)) (h:wpList P (o0::l).toArray (λ e a w=>Q e a cs' w) l (a.put o0.dst v) w):
  (Code.region id (o0::l).toArray false).wpS P Q a cs w:=by
 refine wpS_region ?_
 have hw:Region.wanted o0 (yielded (o0::l).toArray a.tmps)=true:=by unfold Region.wanted;rw[hg]
 have h1:=AL4 (ops:=(o0::l).toArray) hq l 1 (λ j=>by simp[Nat.add_comm 1 j]) _ _ h
 rw[show List.range (o0::l).toArray.size=0::List.range' 1 l.length from by simp[List.range_eq_range',List.range'_succ]]
 unfold wpOpsS
 rw[show(o0::l).toArray[0]? =some o0 from by simp]
 dsimp only
 rw[if_pos hw,hrun]
 dsimp only
 rcases hrec with hr|⟨hr,rfl,rfl⟩
 ·rw[hr];exact h1
 ·rw[hr];exact h1
section
variable {P:Program} {C:World->Prop} {L:Env} {W:Bool} {d:Option Tmp} {ty:TypeId} {ps:String} {af:Array Edge} {gd:Option (Nat×Bool)}
theorem PV.AL6 {xt t:TypeId}{x:Operand}{v:Value}{fs:Array Field}(hx:A8 L W x (.iface t v))(ht:P.underlying t=some (.struct fs)):PV P C L W ⟨d,.typeAssert x xt t true,ty,ps,af,gd⟩ (.tuple #[v,.bool true]):=
 .un (f:=λ u=>Instr.typeAssert u xt t true) (λ _=>rfl) hx λ _ w _=>by
  simp only[Instr.typeAssert,Sem.run_bind,run_underlying ht,Result.andThen_ok]
  simp[Sem.run_pure]
theorem PV.AL7 {xt t:TypeId}{x:Operand}{z:Value}{fs:Array Field}(hx:A8 L W x .nilIface)(ht:P.underlying t=some (.struct fs))(hz: ∀w,(zeroValue t).run P w= .ok z w):PV P C L W ⟨d,.typeAssert x xt t true,ty,ps,af,gd⟩ (.tuple #[z,.bool false]):=
 .un (f:=λ u=>Instr.typeAssert u xt t true) (λ _=>rfl) hx λ _ w _=>by
  simp only[Instr.typeAssert,Sem.run_bind,run_underlying ht,Result.andThen_ok]
  simp[Sem.run_bind,Sem.run_pure,hz]
end
def GQ:FrameMode->Value×FrameMode
 | .panicking ({ v,recovered:=false,goexit:=false}::older)=>(v,.panicking ({ v,recovered:=true}::older))
 |u=>(.nilIface,u)
theorem AL8(c:Frame)(cs:List Frame):recoverD (c::cs)=some ((GQ c.mode).1,{ c with mode:=(GQ c.mode).2}::cs)\/(recoverD (c::cs)=none/\(GQ c.mode).1= .nilIface/\ { c with mode:=(GQ c.mode).2}::cs=c::cs):=by
 obtain⟨_,_,_,_,m,_,_⟩:=c
 cases m with
 |panicking ch=>
  cases ch with
  |nil=>exact .inr ⟨rfl,rfl,rfl⟩
  |cons p older=>
   obtain⟨v,r,g⟩:=p
   cases r<;>cases g<;>first|exact .inl rfl|exact .inr ⟨rfl,rfl,rfl⟩
 |_=>exact .inr ⟨rfl,rfl,rfl⟩
theorem AL9{P:Program}{f:FuncId}{fn:Func}{id d N:Nat}{o0:Oper}{l:List Oper}{y:Code}{vs:List Value}{u:FrameMode}{w:World}{S:World->Prop}(hf:P.funcs[f]? =some fn)(hb:fn.body=some (.seq (.region id (o0::l).toArray false) y))(hn:fn.ntmps=N)(hl:vs.length<=N)
  (hres:fn.results= #[]) (hg:o0.guard=none) (hd:o0.dst=some d) (hdN:Nat.blt d N=true) (hrun: ∀(a:Act) w,(execOp a.eval o0).run P w= .ok .recover w)
  (h: ∀(K:Act->World->Prop) (Q:Exit->Act->World->Prop),(∀a w',y.wp P Q a w'->K a w')->(∀a w',a.defers=[]->S w'->Q .normal a w')->RL P (o0::l).toArray (Exit.then K Q) N l ((d,true,(GQ u).1)::MZ 0 vs) w):
  CallsD P f vs.toArray u w (λ e u' w'=>e= .returned (.tuple #[])/\u'=(GQ u).2/\S w'):=by
 refine callsD_of_wpS hf hb λ c₀ cs hu=>wpS_seq ?_
 subst hu
 have hs:=AJ.enter vs N hl
 rw[<-hn]at hs
 refine AL5 hg (hrun _ _) (AL8 c₀ cs) ?_ ?_
 ·rintro⟨a,w',h1⟩
  obtain⟨u',h2,_⟩:=h1
  cases h2
 ·subst hn
  have hput:=hs.put hdN true (GQ c₀.mode).1
  rw[hd]
  have hh:=h (λ a w'=>y.wpS P (bodyPostS P fn c₀ cs (λ e u' w'=>e= .returned (.tuple #[])/\u'=(GQ c₀.mode).2/\S w')) a ({ c₀ with mode:=(GQ c₀.mode).2}::cs) w')
   (λ e a w'=>bodyPostS P fn c₀ cs (λ e u' w'=>e= .returned (.tuple #[])/\u'=(GQ c₀.mode).2/\S w') e a ({ c₀ with mode:=(GQ c₀.mode).2}::cs) w')
   (λ a w' h1=>wpS_of_wp h1) (λ a w' h1 h2=>⟨h1,_,rfl,_,results_none hres _ _ _,rfl,rfl,h2⟩) _ hput
  refine Eq.mp ?_ hh
  congr 1
  funext e a w'
  cases e<;>rfl
def X9(D:List Deferred)(a:Act):Act:=⟨a.tmps,a.defers++D⟩
section
variable {P:Program} {ops:Array Oper} {D:List Deferred} {Q:Exit->Act->World->Prop} {N:Nat} {L:Env} {w:World}
def nJ(P:Program)(D:List Deferred)(c:Code)(Q:Exit->Act->World->Prop)(N:Nat)(L:Env)(w:World):Prop:= ∀a,AJ a N L->c.wp P Q (X9 D a) w
theorem nJ.at {y:Code}{Q':Exit->Act->World->Prop}(L':Env)(hk:Eng.BC (O4 L') L=L')(h:nJ P D y Q' N L' w): ∀a,AJ a N L->y.wp P Q' (X9 D a) w:=λ a hs=>h a (hk▸hs.BC _)
structure MT (P:Program) (fn:Func) (R:Ending->World->Prop) (Q:Exit->Act->World->Prop):Prop where
 all: ∀e a w,bodyPostD P fn R e a w->Q e a w
theorem MT.p {fn:Func}{R:Ending->World->Prop}{ch:List PanicEntry}(E:MT P fn R Q)(h: ∀a,AJ a N L->Leaves P fn a.tmps R D (.panicking ch) w): ∀a,AJ a N L->Q (.panic ch) (X9 D a) w:=
 λ a hs=>E.all _ _ _ (by show Leaves P fn a.tmps R (a.defers++D) _ w;rw[hs.DE];exact h a hs)
theorem MT.r {fn:Func}{R:Ending->World->Prop}(E:MT P fn R Q)(h: ∀a,AJ a N L->Leaves P fn a.tmps R D .returning w): ∀a,AJ a N L->Q .ret (X9 D a) w:=
 λ a hs=>E.all _ _ _ (by show Leaves P fn a.tmps R (a.defers++D) _ w;rw[hs.DE];exact h a hs)
theorem cK{fn:Func}{R:Ending->World->Prop}{f:FuncId}{tmps:Array Value}{cs:List Value}{u:FrameMode}{S:World->Prop}(ct: ∀args w,(callFunc f args).run P w= .ok (.enter f args) w)(hu:u≠ .run)(hm:settle (GQ u).2= .returning)
  (hc:CallsD P f cs.toArray u w (λ e u' w'=>e= .returned (.tuple #[])/\u'=(GQ u).2/\S w')) (h: ∀w',S w'-> ∃v,(results fn tmps).run P w'= .ok v w'/\R (.returned v) w'):
  Leaves P fn tmps R [{ target:=.fn (.func f) cs.toArray,args:= #[]}] u w:=by
 refine leaves_cons hu (args:=cs.toArray) (f:=f) (by simp[invoke,go_sem,ct]) (hc.mono ?_)
 rintro e u' w' ⟨rfl,rfl,hS⟩
 show Leaves P fn tmps R [] (settle (GQ u).2) w'
 rw[hm]
 exact h w' hS
end
def U4(c:Cx)(ds:List Deferred):Cx:= { c with W:=Wk.DE c.P ds}
def Q1(ds:List Deferred)(B:Exit->Act->World->Prop):Exit->Act->World->Prop:=λ e a w=>B e (DD ds a) w
theorem XA{c:Cx}{ds:List Deferred}{B:Exit->Act->World->Prop}(hw: ∀x Q a w,x.wp c.P Q a w->c.W.wp x Q a w): ∀(k:List Fr),NG k=true-> ∀e a w,post (U4 c ds) (Q1 ds B) k e a w->post c B k e (DD ds a) w
 |[],_,e,a,w,h=>h
 | .seq y::k,hk,e,a,w,h=>by
  unfold NG at hk
  rw[Bool.and_eq_true]at hk
  have ih:=XA (ds:=ds) (B:=B) hw k hk.2
  cases e with
  |normal=>
   have h:DM y=true->y.wp c.P (RM ds (post (U4 c ds) (Q1 ds B) k)) (DD ds a) w:=h
   refine hw _ _ _ _ (wp_mono (h hk.1) λ e a w ⟨a0,e0,q⟩=>?_)
   subst e0;exact ih _ _ _ q
  |_=>exact ih _ a w h
 | .block id::k,hk,e,a,w,h=>by
  have ih:=XA (ds:=ds) (B:=B) hw k hk
  cases e with
  |exit id'=>
   have h:if id'=id then post (U4 c ds) (Q1 ds B) k .normal a w else post (U4 c ds) (Q1 ds B) k (.exit id') a w:=h
   show if id'=id then _ else _
   split<;>rename_i hid
   ·rw[if_pos hid]at h;exact ih _ a w h
   ·rw[if_neg hid]at h;exact ih _ a w h
  |_=>exact ih _ a w h
 | .scope::k,hk,e,a,w,h=>by
  have ih:=XA (ds:=ds) (B:=B) hw k hk
  cases e<;>first|exact h.elim|exact ih _ a w h
 | .loop J::k,hk,_,_,_,_=>by cases hk
theorem AM0{P:Program}{N:Nat}{w0 w:World}{M0 M:Mem}{Hr:List HO}{T:TT}(hT:EH P T){f:FuncId}{fn:Func}{x:Code}{R:Ending->World->Prop}(hf:P.funcs[f]? =some fn)(hb:fn.body=some x)(hn:fn.ntmps=N)
  (F:List (Nat×Kn)) (H:List (Nat×HX)) (vs:List XV) (hl:Nat.ble vs.length N=true) (hS:St w0 M0 w M (HD H++Hr)) (hF:BF M F)
  (h: ∀B,MT P fn R B->XG ⟨P,N,w0,M0,M,Hr,T,hT,.wide P⟩ B [] (.code x) ⟨F,H,NA 0 vs⟩) {av:List Value} (ha:vs.map XV.d=av):Calls P f av.toArray w R:=by
 subst ha
 refine calls_of_wp_defers hf hb ?_
 rw[hn]
 have hs:=AJ.enter (vs.map XV.d) N (by rw[List.length_map];exact Nat.le_of_ble_eq_true hl)
 exact h _ ⟨λ _ _ _ h=>h⟩ _ w ⟨by rw[<-RC]at hs;exact hs,M,hS,hF,Mem.le.refl _⟩
section
variable {c:Cx} {B:Exit->Act->World->Prop} {k k':List Fr} {m:Md} {s s':XS} {O:Prop} {E:List Ck} {all:Array Oper} {ty:TypeId} {ps:String} {af:Array Edge}
abbrev cL(f:FuncId)(cs:List Value):List Deferred:=[{ target:=.fn (.func f) cs.toArray,args:= #[]}]
theorem AM1{x:Operand}{f:FuncId}{cs:List Value}{tys:Array TypeId}{E1:List Ck}(hw: ∀x Q a w,x.wp c.P Q a w->c.W.wp x Q a w)(hl: ∀ops Q l a w,wpList c.P ops Q l a w->c.W.list ops Q l a w)
  (h:run c.T c.N k m s=⟨k',.ops all [⟨none,.defer ⟨.value x,#[],tys⟩,ty,ps,af,none⟩],s',O,E⟩) (hE:AD E) (hO:O) (hx:BZ s'.L .t x=some (.v (.func (.func f) #[] ⟨cs⟩),E1)) (hE1:AD E1) (hk:NG k'=true)
  (hn:XG (U4 c (cL f cs)) (Q1 (cL f cs) B) k' .next s'):XG c B k m s:=by
 refine CX h hE hO λ a w ⟨hs,M,hX⟩=>hl _ _ _ _ _ ?_
 refine wpList_plain U λ K hK=>?_
 have hxv:a.eval x= .func (.func f) #[] ⟨cs⟩:=AN hx hE1 a c.N hs U
 have key:(execOp a.eval ⟨none,.defer ⟨.value x,#[],tys⟩,ty,ps,af,none⟩).run c.P w= .ok (.defer { target:=.fn (.func f) cs.toArray,args:= #[]}) w:=by
  simp only[execOp,resolve,hxv,Deferred.ofValue,Sem.run_bind,Sem.run_pure,Result.andThen_ok]
  simp
 simp only[Oper.wp,key,Oper.upon_defer]
 refine hK _ _ ?_
 have h1:=XA hw k' hk _ _ _ (hn a w ⟨hs,M,hX.st,hX.f,hX.le⟩)
 have e:DD (cL f cs) a= { a with defers:= { target:=.fn (.func f) cs.toArray,args:= #[]}::a.defers}:=by unfold DD;rw[hs.DE];rfl
 rw[e]at h1
 exact h1
theorem XB{P:Program}{T:TT}(hT:EH P T){fn:Func}{H:List (Nat×HX)}{Hr:List HO}{w0 w:World}{M0 M:Mem}{L:XE}{a:Act}{N:Nat}{rs:List ResultVar}{vs:List XV}{E2:List Ck}(hS:St w0 M0 w M (HD H++Hr))(hs:AJ a N L.d)(hr:fn.results=⟨rs⟩)(hl:OL T H L rs=some (vs,E2))(hE2:AD E2):(results fn a.tmps).run P w= .ok (PL vs) w:=by
 rw[YL,hr]
 have h3:=aH hT hS hs hl hE2
 have h4:((⟨rs⟩:Array ResultVar).mapM (JT a.tmps)).run P w= .ok (vs.map XV.d).toArray w:=by
  rw[Array.mapM_eq_mapM_toList]
  refine(Sem.run_bind' P _ _ w).trans ?_
  rw[h3];rfl
 rw[Sem.run_bind,h4]
 simp only[Result.andThen_ok,Sem.run_pure]
 congr 1
 match vs with
 |[]=>rfl
 |[v]=>rfl
 |_::_::_=>simp[PL]
theorem AM2{fn:Func}{R:Ending->World->Prop}{ds:List Deferred}{B0:Exit->Act->World->Prop}(hB:MT c.P fn R B0)(h:run c.T c.N k m s=⟨[],.ret,s',O,E⟩)(hE:AD E)(hO:O)(hR: ∀a w M,AJ a c.N s'.L.d->E5 c s'.F s'.H w M->Leaves c.P fn a.tmps R ds .returning w):XG c (Q1 ds B0) k m s:=
 CX h hE hO λ a w ⟨h1,M,h2⟩=>hB.all _ _ _ (by
  show Leaves c.P fn a.tmps R (a.defers++ds) .returning w
  rw[h1.DE];exact hR a w M h1 h2)
theorem MT.nK {P:Program}{N:Nat}{L:XE}{fn:Func}{R:Ending->World->Prop}{Q:Exit->Act->World->Prop}{ds:List Deferred}{ch:List PanicEntry}{a:Act}{w:World}(hB:MT P fn R Q)(hs:AJ a N L.d)(h:Leaves P fn a.tmps R ds (.panicking ch) w):Q1 ds Q (.panic ch) a w:=
 hB.all _ _ _ (by show Leaves P fn a.tmps R (a.defers++ds) _ w;rw[hs.DE];exact h)
theorem MT.ends {P:Program}{fn:Func}{R:Ending->World->Prop}{Q:Exit->Act->World->Prop}(hB:MT P fn R Q):Ends P fn R Q:=⟨λ e a w h=>hB.all e a w (by
 cases e with
 |normal=>obtain⟨hd,h⟩:=h;show Leaves _ _ _ _ a.defers _ _;rw[hd];exact h
 |ret=>obtain⟨hd,h⟩:=h;show Leaves _ _ _ _ a.defers _ _;rw[hd];exact h
 |panic ch=>obtain⟨hd,h⟩:=h;show Leaves _ _ _ _ a.defers _ _;rw[hd];exact h
 |outgrown=>exact h
 |exit id=>exact h.elim
 |goto l=>exact h.elim)⟩
end
theorem AM3{P:Program}{o:Oper}{a:Act}{w:World}{K K':Act->World->Prop}{Q:Exit->Act->World->Prop}(h:o.wp P a w K' Q):o.wp P a w K' (Exit.then K Q):=by
 unfold Oper.wp at*
 generalize (execOp a.eval o).run P w=r at*
 cases r with
 |ok n w'=>cases n<;>first|exact h|(simp only[Oper.upon]at h ⊢;exact h)
 |halt s w'=>cases s<;>first|exact h|(simp only[Oper.upon]at h ⊢;exact h)
theorem nL{P:Program}{T:TT}(hT:EH P T){f:FuncId}{fn:Func}{id d N:Nat}{o0:Oper}{l:List Oper}{y:Code}{u:FrameMode}{w0 w:World}{M0 M:Mem}{Hr:List HO}{S:World->Prop}(hf:P.funcs[f]? =some fn)(hb:fn.body=some (.seq (.region id (o0::l).toArray false) y))(hn:fn.ntmps=N)
  (hres:fn.results= #[]) (hg:o0.guard=none) (hd:o0.dst=some d) (hdN:Nat.blt d N=true) (hrun: ∀(a:Act) w,(execOp a.eval o0).run P w= .ok .recover w) (F:List (Nat×Kn)) (H:List (Nat×HX)) (rv:XV) (vs:List XV) (hrv:rv.d=(GQ u).1) (hl:Nat.ble vs.length N=true) (hS:St w0 M0 w M (HD H++Hr)) (hF:BF M F)
  (h: ∀B,(∀a w',a.defers=[]->S w'->B .normal a w')->XG ⟨P,N,w0,M0,M,Hr,T,hT,.wide P⟩ B [.seq y] (.ops (o0::l).toArray l) ⟨F,H,(d,.t,rv)::NA 0 vs⟩) {av:List Value} (ha:vs.map XV.d=av):
  CallsD P f av.toArray u w (λ e u' w'=>e= .returned (.tuple #[])/\u'=(GQ u).2/\S w'):=by
 subst ha
 refine AL9 hf hb hn (by rw[List.length_map];exact Nat.le_of_ble_eq_true hl) hres hg hd hdN hrun λ K Q hK hQ a hs=>?_
 have h1:=h Q hQ a w ⟨by
  show AJ a N ((d,true,rv.d)::XE.d (NA 0 vs))
  rw[RC,hrv];exact hs,M,hS,hF,Mem.le.refl _⟩
 have mono: ∀(l':List Oper) (a:Act) (w:World),wpList P (o0::l).toArray (Exit.then (y.wp P Q) Q) l' a w->wpList P (o0::l).toArray (Exit.then K Q) l' a w:=by
  intro l'
  induction l' with
  |nil=>intro a w h;exact hK _ _ h
  |cons o l' ih=>
   intro a w h
   unfold wpList at h ⊢
   split at h<;>rename_i hw
   ·rw[if_pos hw]
    rcases h with h|⟨ha,a2,w2,h2⟩
    ·refine .inl ?_
     have h3:=T5 h
     have h4:=Oper.wp_mono (λ a w hh=>ih a w hh) h3
     exact AM3 h4
    ·exact .inr ⟨ha,a2,w2,h2⟩
   ·rw[if_neg hw];exact ih _ _ h
 exact mono l a w h1
theorem nN{c:Cx}{B:Exit->Act->World->Prop}{k:List Fr}{m:Md}{s s':XS}{O:Prop}{E:List Ck}{S:World->Prop}(hB: ∀a w',a.defers=[]->S w'->B .normal a w')(h:run c.T c.N k m s=⟨[],.next,s',O,E⟩)(hE:AD E)(hO:O)(hR: ∀w M,E5 c s'.F s'.H w M->S w):XG c B k m s:=
 CX h hE hO λ a w ⟨h1,M,h2⟩=>hB a w h1.DE (hR w M h2)
theorem H3{u v:A1}{j:Int}(h0:0<=j)(h:j<len u):A2 (u++v) j=A2 u j:=by
 unfold len at h
 unfold A2
 rw[List.getD_eq_getElem?_getD,List.getD_eq_getElem?_getD,List.getElem?_append_left (by omega)]
theorem U5{u v:A1}{k:Int}(h0:0<=k):A2 (u++v) (len u+k)=A2 v k:=by
 unfold A2 len
 rw[List.getD_eq_getElem?_getD,List.getD_eq_getElem?_getD,List.getElem?_append_right (by omega),show((u.length:Int)+k).toNat-u.length=k.toNat from by omega]
theorem nO{u v:A1}{k:Int}(h0:len u<=k):A2 (u++v) k=A2 v (k-len u):=by
 have:=U5 (u:=u) (v:=v) (k:=k-len u) (by omega)
 rw[<-this];congr 1;omega
theorem DO(a:UInt8)(l:A1):A2 (a::l) 0=(a.toNat:Int):=rfl
theorem AM4(k:Int):A2 [] k=0:=by unfold A2;simp
theorem U6{u v:A1}:A3 (u++v) (len u)=v:=by unfold A3 len;simp
theorem AM5{u v:A1}{k:Int}(h0:0<=k)(h:k<=len u):A3 (u++v) k=A3 u k++v:=by
 unfold A3 len at*
 rw[List.drop_append_of_le_length (by omega)]
theorem Q2{α:Type}(s:List α):A3 s 0=s:=rfl
theorem U7{u v:A1}:Eng.sub (u++v) 0 (len u)=u:=by unfold Eng.sub len;simp
theorem cM{s:A1}{n:Int}(h0:0<=n)(h1:n<=len s):s=Eng.sub s 0 n++A3 s n/\len (Eng.sub s 0 n)=n:=by
 refine⟨?_,by rw[FB (by omega) h0 h1];omega⟩
 have:=PS s 0 n (by omega) h0
 rw[Q2]at this;exact this
theorem AM6{a b:A1}(hl:len a=len b)(h: ∀j:Int,0<=j->j<len a->A2 a j=A2 b j):a=b:=by
 unfold len at hl
 refine List.ext_getElem (by omega) λ i h1 h2=>?_
 have:=h (i:Int) (by omega) (by unfold len;omega)
 simp only[A2,Int.toNat_natCast,List.getD_eq_getElem?_getD,List.getElem?_eq_getElem h1,List.getElem?_eq_getElem h2,Option.getD_some]at this
 exact UInt8.toNat_inj.1 (by omega)
theorem AM7{s s':A1}{i i' k:Int}(h0:0<=i)(h0':0<=i')(hk:0<=k)(h1:i+k<=len s)(h2:i'+k<=len s')(h: ∀j,0<=j->j<k->A2 s' (i'+j)=A2 s (i+j)):Eng.sub s' i' (i'+k)=Eng.sub s i (i+k):=by
 have l1:=FB (s:=s) (i:=i) (j:=i+k) h0 (by omega) h1
 have l2:=FB (s:=s') (i:=i') (j:=i'+k) h0' (by omega) h2
 refine AM6 (by omega) λ j a b=>?_
 rw[PQ h0' a (by omega) h2,PQ h0 a (by omega) h1]
 exact h j a (by omega)
theorem cN{p:UInt8->Bool}: ∀ {l:A1},(∀b∈l,p b=true)->l.takeWhile p=l
 |[],_=>rfl
 |a::l,h=>by rw[List.takeWhile_cons,if_pos (h a (by simp)),cN (λ b hb=>h b (by simp[hb]))]
theorem XC{s s':A1}{i i':Int}(h0:0<=i)(h0':0<=i')(h1:1<=rune s i)(hl:i<len s)(hl':i'+rune s i<=len s')(h: ∀j,0<=j->j<rune s i->A2 s' (i'+j)=A2 s (i+j)):
  rune s' i'=rune s i/\AO s' i'=AO s i/\runeLen s' i'=runeLen s i:=by
 have hb:=LR s i
 have hle:=rune_le s i hl
 have a0:A2 s' i'=A2 s i:=by have:=h 0 (by omega) (by omega);rwa [Int.add_zero,Int.add_zero]at this
 have a1:2<=rune s i->A2 s' (i'+1)=A2 s (i+1):=λ x=>h 1 (by omega) (by omega)
 have a2:3<=rune s i->A2 s' (i'+2)=A2 s (i+2):=λ x=>h 2 (by omega) (by omega)
 have a3:4<=rune s i->A2 s' (i'+3)=A2 s (i+3):=λ x=>h 3 (by omega) (by omega)
 have er:rune s' i'=rune s i:=by
  clear h
  generalize hk:rune s i=k at*
  unfold rune cont at hk ⊢
  dsimp only at hk ⊢
  rw[a0]
  simp only[Bool.and_eq_true,Bool.or_eq_true,decide_eq_true_eq,beq_iff_eq]at hk ⊢
  split at hk
  ·rw[if_pos (by assumption)];exact hk
  rename_i c0
  rw[if_neg c0]
  split at hk
  ·rename_i c1
   subst hk
   have:=a1 (by omega)
   rw[if_pos (by omega)]
  rename_i c1
  split at hk
  ·rename_i c2
   have hk3:k=3:=by split at hk<;>omega
   have e1:=a1 (by omega)
   have e2:=a2 (by omega)
   rw[if_neg (by omega),if_pos (by omega),e1]
   exact hk
  rename_i c2
  split at hk
  ·rename_i c3
   have hk4:k=4:=by split at hk<;>omega
   have e1:=a1 (by omega)
   have e2:=a2 (by omega)
   have e3:=a3 (by omega)
   rw[if_neg (by omega),if_neg (by omega),if_pos (by omega),e1]
   exact hk
  ·omega
 refine⟨er,?_⟩
 have hl2:i'<len s':=by omega
 have D:=Z8 (s.length-i.toNat) (s.getD i.toNat 0).toNat (s.getD (i.toNat+1) 0).toNat (s.getD (i.toNat+2) 0).toNat (s.getD (i.toNat+3) 0).toNat (by unfold len at*;omega) (UInt8.toNat_lt _) (UInt8.toNat_lt _) (UInt8.toNat_lt _) (UInt8.toNat_lt _)
 have D':=Z8 (s'.length-i'.toNat) (s'.getD i'.toNat 0).toNat (s'.getD (i'.toNat+1) 0).toNat (s'.getD (i'.toNat+2) 0).toNat (s'.getD (i'.toNat+3) 0).toNat (by unfold len at*;omega) (UInt8.toNat_lt _) (UInt8.toNat_lt _) (UInt8.toNat_lt _) (UInt8.toNat_lt _)
 have r1:=Z9 h0 hl
 have r2:=Z9 h0' hl2
 have q: ∀(t:A1) (x:Int),0<=x->AO t x=((Lib.decodeN (t.length-x.toNat) (t.getD x.toNat 0).toNat (t.getD (x.toNat+1) 0).toNat (t.getD (x.toNat+2) 0).toNat (t.getD (x.toNat+3) 0).toNat).1:Nat)/\runeLen t x=((Lib.decodeN (t.length-x.toNat) (t.getD x.toNat 0).toNat (t.getD (x.toNat+1) 0).toNat (t.getD (x.toNat+2) 0).toNat (t.getD (x.toNat+3) 0).toNat).2:Nat):=λ t x hx=>by
  unfold AO runeLen;rw[QX t x hx,VE t x hx];exact⟨rfl,rfl⟩
 obtain⟨q1,q2⟩:=q s i h0
 obtain⟨q3,q4⟩:=q s' i' h0'
 rw[q1,q2,q3,q4]
 have n0: ∀(t:A1) (x:Int),0<=x->A2 t x=((t.getD x.toNat 0).toNat:Int):=λ t x hx=>rfl
 have nj:=λ(t:A1) (x:Int) (hx:0<=x) (j:Nat)=>VD t x hx j
 rw[n0 s i h0,n0 s' i' h0']at a0
 have b1:A2 s (i+1)=_:=nj s i h0 1
 have b2:A2 s (i+2)=_:=nj s i h0 2
 have b3:A2 s (i+3)=_:=nj s i h0 3
 have b1':A2 s' (i'+1)=_:=nj s' i' h0' 1
 have b2':A2 s' (i'+2)=_:=nj s' i' h0' 2
 have b3':A2 s' (i'+3)=_:=nj s' i' h0' 3
 rw[b1,b1']at a1
 rw[b2,b2']at a2
 rw[b3,b3']at a3
 unfold Z7 at D D'
 generalize (s.getD i.toNat 0).toNat=x0 at*
 generalize (s.getD (i.toNat+1) 0).toNat=x1 at*
 generalize (s.getD (i.toNat+2) 0).toNat=x2 at*
 generalize (s.getD (i.toNat+3) 0).toNat=x3 at*
 generalize (s'.getD i'.toNat 0).toNat=y0 at*
 generalize (s'.getD (i'.toNat+1) 0).toNat=y1 at*
 generalize (s'.getD (i'.toNat+2) 0).toNat=y2 at*
 generalize (s'.getD (i'.toNat+3) 0).toNat=y3 at*
 generalize P9 (s.length-i.toNat) x0 x1 x2 x3=k at*
 generalize P9 (s'.length-i'.toNat) y0 y1 y2 y3=k' at*
 generalize Lib.decodeN (s.length-i.toNat) x0 x1 x2 x3=d at*
 generalize Lib.decodeN (s'.length-i'.toNat) y0 y1 y2 y3=d' at*
 obtain⟨d1,d2⟩:=d
 obtain⟨e1,e2⟩:=d'
 clear q1 q2 q3 q4 q n0 nj b1 b2 b3 b1' b2' b3' h
 dsimp only at*
 rcases D with D|D|D|D|D<;>rcases D' with D'|D'|D'|D'|D'<;>first|(exfalso;omega)|(constructor<;>omega)
theorem cO{s s':A1}(hl:6<=len s')(h: ∀j,0<=j->j<6->A2 s' j=A2 s j)(h0:0<=B9 s):B9 s'=B9 s:=by
 by_cases hs:len s<6\/ ¬A2 s 0=92\/ ¬A2 s (0+1)=117
 ·have:=kG (s:=s) (i:=0) (by omega) (by omega)
  rw[Q2]at this;omega
 ·have e1:=WO (s:=s) (i:=0) (by omega) (by omega) (by omega) (by omega)
  have e2:=WO (s:=s') (i:=0) (by omega) (by omega) (by rw[h 0 (by omega) (by omega)];omega) (by rw[h (0+1) (by omega) (by omega)];omega)
  rw[Q2]at e1 e2
  have e3:Eng.sub s' (0+2) (0+6)=Eng.sub s (0+2) (0+6):=AM7 (k:=4) (by omega) (by omega) (by omega) (by omega) (by omega) (λ j a b=>h _ (by omega) (by omega))
  rw[e1,e2,e3]
theorem nP{s s':A1}(h0:(AW s).2≠0)(hl:(AW s).2<=len s')(h: ∀j,0<=j->j<(AW s).2->A2 s' j=A2 s j):AW s'=AW s:=by
 generalize hk:(AW s).2=k at*
 unfold AW at hk ⊢
 by_cases c1:len s<2
 ·rw[if_pos c1]at hk;exact absurd hk.symm h0
 rw[if_neg c1]at hk ⊢
 by_cases c2:HU (A2 s 1)=true
 ·rw[if_pos c2]at hk ⊢
  have hk':k=2:=hk.symm
  rw[if_neg (by omega),h 1 (by omega) (by omega),if_pos c2]
 rw[if_neg c2]at hk ⊢
 by_cases c3:B9 s<0\/(56320<=B9 s/\B9 s<57344)
 ·rw[if_pos c3]at hk;exact absurd hk.symm h0
 rw[if_neg c3]at hk ⊢
 by_cases c4:B9 s<55296\/57344<=B9 s
 ·rw[if_pos c4]at hk ⊢
  have hk':k=6:=hk.symm
  have e:=cO (s:=s) (s':=s') (by omega) (λ j a b=>h j a (by omega)) (by omega)
  rw[if_neg (by omega),h 1 (by omega) (by omega),if_neg c2,e,if_neg c3,if_pos c4]
 rw[if_neg c4]at hk ⊢
 by_cases c5:B9 (A3 s 6)<56320\/57344<=B9 (A3 s 6)
 ·rw[if_pos c5]at hk;exact absurd hk.symm h0
 rw[if_neg c5]at hk ⊢
 have hk':k=12:=hk.symm
 have e:=cO (s:=s) (s':=s') (by omega) (λ j a b=>h j a (by omega)) (by omega)
 have e2:=cO (s:=A3 s 6) (s':=A3 s' 6) (by rw[CO s' 6 (by omega) (by omega)];omega) (λ j a b=>by rw[OB _ _ _ (by omega) a,OB _ _ _ (by omega) a];exact h _ (by omega) (by omega)) (by omega)
 rw[if_neg (by omega),h 1 (by omega) (by omega),if_neg c2,e,if_neg c3,if_neg c4,e2,if_neg c5]
theorem cP{s s':A1}{n:Int}(hn':n<=len s')(ha: ∀j,0<=j->j<n->A2 s' j=A2 s j): ∀(f f':Nat) (i:Int) (acc:List Int) (x:A1),0<=i->i<=len s->DL f s i acc=(x,n,0)->(len s'-i).toNat<=f'->DL f' s' i acc=(x,n,0)
 |0,_,_,_,_,_,_,h,_=>by unfold DL at h;simp at h
 |f+1,f',i,acc,x,h0,hi,h,hf=>by
  have hb:=VJ (f:=f+1) (s:=s) (i:=i) (acc:=acc) h0 hi
  rw[h]at hb
  dsimp only at hb
  have hin:i<n:=hb.2.2.1 U
  have hl:i<len s:=by omega
  have hl':i<len s':=by omega
  rw[KS hf hl']
  unfold DL at h
  rw[if_pos hl]at h
  have hby:A2 s' i=A2 s i:=ha i h0 hin
  rw[QY s i h0,PA s i h0]at h
  rw[QY s' i h0,PA s' i h0]
  have low: ∀c:Int,c<128->(AO s' i=c↔AO s i=c):=λ c hc=>by rw[IT h0 hl hc,IT h0 hl' hc,hby]
  by_cases c1:AO s i=34
  ·rw[if_pos c1]at h;rw[if_pos ((low 34 (by omega)).2 c1)];exact h
  rw[if_neg c1]at h
  rw[if_neg (λ e=>c1 ((low 34 (by omega)).1 e))]
  by_cases c2:AO s i=92
  ·rw[if_pos c2]at h;rw[if_pos ((low 92 (by omega)).2 c2)]
   by_cases c3:(AW (A3 s i)).2=0
   ·rw[if_pos c3]at h;simp at h
   rw[if_neg c3]at h
   have hfl:=CO s i h0 hi
   have hfl':=CO s' i h0 (by omega)
   have he:=VI (A3 s i)
   have hb2:=VJ (f:=f) (s:=s) (i:=i+(AW (A3 s i)).2) (acc:=acc++Lib.encodeRuneZ (AW (A3 s i)).1) (by omega) (by omega)
   rw[h]at hb2
   dsimp only at hb2
   have:=hb2.2.2.1 U
   have e:AW (A3 s' i)=AW (A3 s i):=nP c3 (by omega) (λ j a b=>by rw[OB _ _ _ h0 a,OB _ _ _ h0 a];exact ha _ (by omega) (by omega))
   rw[e,if_neg c3]
   exact cP hn' ha f (f'-1) _ _ x (by omega) (by omega) h (by omega)
  ·rw[if_neg c2]at h
   rw[if_neg (λ e=>c2 ((low 92 (by omega)).1 e))]
   by_cases c3:AO s i<32\/(AO s i=65533/\runeLen s i=1)
   ·rw[if_pos c3]at h;simp at h
   rw[if_neg c3]at h
   have hr:=SU h0 hl
   have hv:rune s i≠0:=λ e=>c3 (.inr ((WN h0 hl).1 e))
   have hrb:=LR s i
   have hre:runeLen s i=rune s i:=by rcases LX h0 hl with d|d<;>omega
   have hb2:=VJ (f:=f) (s:=s) (i:=i+runeLen s i) (acc:=acc++Lib.encodeRuneZ (AO s i)) (by omega) (by omega)
   rw[h]at hb2
   dsimp only at hb2
   have:=hb2.2.2.1 U
   obtain⟨_,e2,e3⟩:=XC (s:=s) (s':=s') (i:=i) (i':=i) h0 h0 (by omega) hl (by omega) (λ j a b=>ha _ (by omega) (by omega))
   rw[e2,e3,if_neg c3]
   exact cP hn' ha f (f'-1) _ _ x (by omega) (by omega) h (by omega)
theorem nQ{u v v':A1}{x:A1}(h:AH (u++v)=(x,len u,0)):AH (u++v')=(x,len u,0):=by
 have hb:=N8 (u++v)
 rw[h]at hb
 dsimp only at hb
 have h2:2<=len u:=hb.2.2.1 U
 have ha: ∀j,0<=j->j<len u->A2 (u++v') j=A2 (u++v) j:=λ j a b=>by rw[H3 a b,H3 a b]
 have hv:=A5 u v
 have hv':=A5 u v'
 have p1:=A4 v
 have p2:=A4 v'
 have hne: ∀w:A1,¬u++w=[]:=λ w e=>by have:=congrArg len e;rw[A5,len_nil]at this;have:=A4 w;omega
 unfold AH at h ⊢
 by_cases c:Lib.hasPrefix (u++v) [34]=true
 ·rw[if_pos c]at h
  rw[if_pos (MM.2 ⟨hne v',by rw[ha 0 (by omega) (by omega)];exact(MM.1 c).2⟩)]
  exact cP (n:=len u) (by omega) ha _ _ 1 [] x (by omega) (by omega) h (by unfold len;omega)
 ·rw[if_neg c]at h;simp at h
def KH(c:Int):Bool:=J1 c||c==40||c==41||c==44||c==58||c==91||c==93||c==125
def Stop(v v':A1):Prop:=v'=[]\/(v'≠[]/\KH (A2 v' 0)=true)\/(v≠[]/\v'≠[]/\A2 v' 0=A2 v 0)
theorem LI{α:Type}{l:List α}:l≠[]↔0<len l:=⟨λ h=>G0 h,λ h e=>by rw[e,len_nil]at h;omega⟩
theorem S4{s:A1}{n:Int}(hn:n<=len s)(ha: ∀j:Int,0<=j->j<n->BS (A2 s j) (j==0)=true)(hs:n<len s->BS (A2 s n) (n==0)=false)(i:Int)(h0:0<=i)(hi:i<=n):CE s i=n:=by
 by_cases h:i<n
 ·rw[<-QN h0 (by omega) (ha i h0 h)]
  exact S4 hn ha hs (i+1) (by omega) (by omega)
 ·have e:i=n:=by omega
  subst e
  by_cases hl:i<len s
  ·exact QO h0 hl (hs hl)
  ·exact QP hl
termination_by (n-i).toNat
theorem XD{s:A1}: ∀(i:Int),0<=i->(∀j:Int,i<=j->j<CE s i->BS (A2 s j) (j==0)=true)/\(i<=len s->CE s i<len s->BS (A2 s (CE s i)) (CE s i==0)=false):=by
 intro i h0
 by_cases hlt:i<len s
 ·cases hw:BS (A2 s i) (i==0)with
  |true=>
   have:=XD (s:=s) (i+1) (by omega)
   rw[QN h0 hlt hw]at this
   refine⟨λ j a b=>?_,λ a b=>this.2 (by omega) b⟩
   by_cases e:j=i
   ·subst e;exact hw
   ·exact this.1 j (by omega) b
  |false=>rw[QO h0 hlt hw];exact⟨λ j a b=>by omega,λ _ _=>hw⟩
 ·rw[QP hlt];exact⟨λ j a b=>by omega,λ a b=>by omega⟩
termination_by i=>(len s-i).toNat
theorem nR{c:Int}{f:Bool}(h:KH c=true):BS c f=false:=by
 unfold KH J1 at h
 unfold BS E9 BG
 simp only[Bool.or_eq_true,beq_iff_eq]at h
 rw[<-Bool.not_eq_true]
 simp only[Bool.or_eq_true,Bool.and_eq_true,decide_eq_true_eq,beq_iff_eq]
 omega
theorem cQ{u v v':A1}(h:AS (u++v)=u)(hv:Stop v v'):AS (u++v')=u:=by
 have hl:CE (u++v) 0=len u:=by rw[<-LZ,h]
 have ho:=XD (s:=u++v) 0 (by omega)
 rw[hl]at ho
 have l1:=A5 u v
 have l2:=A5 u v'
 have p1:=A4 u
 have p2:=A4 v'
 have hb:=LY (s:=u++v) (i:=0) (by omega) (A4 _)
 have e:CE (u++v') 0=len u:=by
  refine S4 (by omega) (λ j a b=>?_) (λ a=>?_) 0 (by omega) (by omega)
  ·rw[H3 a b,<-H3 (v:=v) a b];exact ho.1 j a b
  ·have e0: ∀w:A1,A2 (u++w) (len u)=A2 w 0:=λ w=>by have:=U5 (u:=u) (v:=w) (k:=0) (by omega);rwa [Int.add_zero]at this
   rw[e0]
   rcases hv with hv|⟨_,hv⟩|⟨hv1,_,hv3⟩
   ·subst hv;rw[len_nil]at l2;omega
   ·exact nR hv
   ·rw[hv3,<-e0 v];exact ho.2 (by omega) (by have:=LI.1 hv1;omega)
 unfold AS;rw[e,U7]
theorem I4{s:A1}(h:E9 (A2 s 0)=false):AS s=[]:=by
 have e:CE s 0=0:=by
  by_cases hl:0<len s
  ·exact QO (by omega) hl (by unfold BS;rw[h];rfl)
  ·exact QP hl
 unfold AS;rw[e];rfl
theorem AM8{s:A1}(h0:0<len s)(h:E9 (A2 s 0)=true):AS s≠[]:=by
 have e:=QN (s:=s) (i:=0) (by omega) h0 (by unfold BS;rw[h];rfl)
 have hb:=LY (s:=s) (i:=0+1) (by omega) (by omega)
 rw[LI,LZ];omega
theorem nS{p:UInt8->Bool}{v v':A1}(hv:v'=[]\/(∃b r,v'=b::r/\p b=false)): ∀ {u:A1},(u++v).takeWhile p=u->(u++v').takeWhile p=u
 |[],_=>by
  rcases hv with rfl|⟨b,r,rfl,hb⟩
  ·rfl
  ·simp[List.takeWhile_cons,hb]
 |a::u,h=>by
  rw[List.cons_append,List.takeWhile_cons]at h ⊢
  split at h
  ·rename_i ha
   rw[if_pos ha,nS hv (List.cons.inj h).2]
  ·cases h
theorem AM9{b:UInt8}(h:KH (b.toNat:Int)=true):HW b=false:=by
 cases hn:HW b with
 |false=>rfl
 |true=>
  rw[WR]at hn
  unfold KH J1 at h
  simp only[Bool.or_eq_true,beq_iff_eq]at h
  omega
theorem AN0{p:UInt8->Bool}(hp: ∀b:UInt8,KH (b.toNat:Int)=true->p b=false){v v':A1}(hv:Stop v v')(h:v=[]\/ ∃b r,v=b::r/\p b=false):v'=[]\/ ∃b r,v'=b::r/\p b=false:=by
 cases v' with
 |nil=>exact .inl U
 |cons b r=>
  refine .inr ⟨b,r,rfl,?_⟩
  rcases hv with hv|⟨_,hv⟩|⟨hv1,_,hv3⟩
  ·cases hv
  ·exact hp b hv
  ·rcases h with h|⟨c,q,h,hc⟩
   ·exact absurd h hv1
   ·subst h
    have:b=c:=UInt8.toNat_inj.1 (by rw[DO,DO]at hv3;omega)
    rw[this];exact hc
theorem nT{p:UInt8->Bool}{v:A1}: ∀ {u:A1},(u++v).takeWhile p=u->v=[]\/ ∃b r,v=b::r/\p b=false
 |[],h=>by
  cases v with
  |nil=>exact .inl U
  |cons b r=>
   refine .inr ⟨b,r,rfl,?_⟩
   rw[List.nil_append,List.takeWhile_cons]at h
   split at h
   ·cases h
   ·rename_i hb;simpa using hb
 |a::u,h=>by
  rw[List.cons_append,List.takeWhile_cons]at h
  split at h
  ·exact nT (List.cons.inj h).2
  ·cases h
theorem cS{u v v':A1}(h:runN (u++v)=u)(hv:Stop v v'):runN (u++v')=u:=by
 rw[SS]at h ⊢
 exact nS (AN0 (λ b=>AM9) hv (nT h)) h
def OS(b:UInt8):Bool:=([61,33,60,62,46,124,44,58,40,41,91,93,123,125,63]:A1).contains b
theorem NP{a:UInt8}{s:A1}(h:OS a=false):BY (a::s)=[]:=by
 have h': ∀m∈AL,Lib.hasPrefix (a::s) m=false:=by
  intro m hm
  cases hp:Lib.hasPrefix (a::s) m with
  |false=>rfl
  |true=>
   exfalso
   have hf: ∀m∈AL,m≠[]/\OS (m.headD 0)=true:=by decide+kernel
   obtain⟨hn,hb⟩:=hf m hm
   cases m with
   |nil=>exact hn U
   |cons b r=>
   have hb:OS b=true:=hb
   have:=List.isPrefixOf_iff_prefix.1 hp
   rw[List.cons_prefix_cons]at this
   rw[<-this.1,hb]at h;cases h
 unfold BY
 rw[List.find?_eq_none.2 (λ m hm=>by rw[h' m hm];simp)]
 rfl
theorem AN1{u v v':A1}(hu:u≠[])(h:BY (u++v)=u)(hv:Stop v v'):BY (u++v')=u:=by
  have hm:u∈AL:=by
                             rcases PC (u++v)with e|e
                             · exact absurd (h.symm.trans e) hu
                             · rw[h]at e;exact e.1
  have two: ∀m∈AL,(∃a,m=[a,61])\/ ∃a,m=[a]:=by
    have tw: ∀m∈AL,m=[m.headD 0,61]\/m=[m.headD 0]:=by decide+kernel
    intro m hm
    rcases tw m hm with e|e
    · exact .inl ⟨_,e⟩
    · exact .inr ⟨_,e⟩
  have one: ∀m∈AL,∀w:A1,w=[]\/A2 w 0≠61\/(∃a,m=[a,61])\/(m≠[60]/\m≠[62])->BY (m++w)=m:=by
    intro m hm w hw
    simp only[AL,List.mem_cons,List.not_mem_nil,or_false]at hm
    cases w with
    |nil=>rcases hm with rfl|rfl|rfl|rfl|rfl|rfl|rfl|rfl|rfl|rfl|rfl|rfl|rfl|rfl|rfl|rfl|rfl<;>rfl
    |cons b r=>
      have hb:b=61\/ ¬(61:UInt8)=b:=by by_cases e:b=61;exact .inl e;exact .inr (λ x=>e x.symm)
      have hb2:A2 (b::r) 0≠61-> ¬(61:UInt8)=b:=λ x e=>x (by rw[<-e];rfl)
      rcases hm with rfl|rfl|rfl|rfl|rfl|rfl|rfl|rfl|rfl|rfl|rfl|rfl|rfl|rfl|rfl|rfl|rfl<;>
        first
          |rfl
          |(
             have hn: ¬(61:UInt8)=b:=by
               rcases hw with hw|hw|⟨a,hw⟩|hw
               · cases hw
               · exact hb2 hw
               · simp at hw
               · simp at hw
             simp[BY,AL,List.find?,Lib.hasPrefix,List.isPrefixOf,(beq_eq_false_iff_ne.2 hn)])
          |(
             rcases hb with rfl|hn
             · rfl
             · simp[BY,AL,List.find?,Lib.hasPrefix,List.isPrefixOf,(beq_eq_false_iff_ne.2 hn)])
  refine one u hm v' ?_
  rcases two u hm with e|⟨a,e⟩
  · exact .inr (.inr (.inl e))
  · rcases hv with hv|⟨_,hv⟩|⟨hv1,_,hv3⟩
    · exact .inl hv
    · refine .inr (.inl λ x=>?_);rw[x]at hv;exact absurd hv (by decide)
    · by_cases e2:u≠[60]/\u≠[62]
      · exact .inr (.inr (.inr e2))
      · refine .inr (.inl λ x=>?_)
        rw[hv3]at x
        cases v with
        |nil=>exact hv1 U
        |cons b r=>
          have hb:b=61:=UInt8.toNat_inj.1 (by rw[DO]at x;exact Int.ofNat_inj.1 x)
          subst hb
          have:u=[60]\/u=[62]:=by
            by_cases e3:u=[60]
            · exact .inl e3
            · exact .inr (Classical.byContradiction λ e4=>e2 ⟨e3,e4⟩)
          rcases this with rfl|rfl
          · exact absurd h (show ¬([60,61]:A1)=[60] by decide)
          · exact absurd h (show ¬([62,61]:A1)=[62] by decide)
theorem cT{a:UInt8}(h:E9 (a.toNat:Int)=true):OS a=false:=by
 have: ∀n:Fin 256,E9 (n.val:Int)=true->OS (UInt8.ofNat n.val)=false:=by decide+kernel
 have:=this ⟨a.toNat,a.toNat_lt⟩ h
 simpa using this
theorem cU{a:UInt8}(h:(a.toNat:Int)=45\/BG (a.toNat:Int)=true):OS a=false/\E9 (a.toNat:Int)=false:=by
 have: ∀n:Fin 256,((n.val:Int)=45\/BG (n.val:Int)=true)->OS (UInt8.ofNat n.val)=false/\E9 (n.val:Int)=false:=by decide+kernel
 have:=this ⟨a.toNat,a.toNat_lt⟩ h
 simpa using this
theorem cV{c:Int}(h:KH c=true):E9 c=false/\c≠34:=by
 unfold KH J1 at h
 simp only[Bool.or_eq_true,beq_iff_eq]at h
 unfold E9
 rw[<-Bool.not_eq_true]
 simp only[Bool.or_eq_true,Bool.and_eq_true,decide_eq_true_eq,beq_iff_eq]
 omega
theorem S5(a:UInt8)(l:A1):A3 (a::l) 1=l:=rfl
theorem cW{u v v':A1}{t:Tk}(hu:u≠[])(h:AB (u++v)=(t,len u,0))(hv:Stop v v'):AB (u++v')=(t,len u,0):=by
 cases u with
 |nil=>exact absurd U hu
 |cons a u=>
 have hp:=A4 u
 rw[A6]at h ⊢
 rw[List.cons_append]at h ⊢
 have hpre: ∀ {l m:A1},m≠[]->BY l=m-> ∃r,m++r=l:=λ{l m} hm e=>by
  rcases PC l with e2|e2
  ·exact absurd (e.symm.trans e2) hm
  ·rw[e]at e2;exact List.isPrefixOf_iff_prefix.1 e2.2
 have cut: ∀ {l x:A1},x++[]++(A3 l (len x))=l->True:=λ _=>trivial
 unfold AB at h ⊢
 rw[DO,S5]at h ⊢
 by_cases c1:(a.toNat:Int)=46/\AS (u++v)≠[]
 ·rw[if_pos c1]at h
  simp only[Prod.mk.injEq]at h
  obtain⟨h1,h2,_⟩:=h
  have hl:len (AS (u++v))=len u:=by omega
  have hw:AS (u++v)=u:=by
   have:AS (u++v)=Eng.sub (u++v) 0 (CE (u++v) 0):=rfl
   rw[this,<-LZ,hl,U7]
  have hw':=cQ hw hv
  rw[hw]at c1 h1
  rw[hw',if_pos c1,h1,Int.add_comm]
 rw[if_neg c1]at h
 by_cases c2:(a.toNat:Int)=46/\Lib.hasPrefix (u++v) [34]=true
 ·rw[if_pos c2]at h
  simp only[Prod.mk.injEq]at h
  obtain⟨h1,h2,h3⟩:=h
  have hq:AH (u++v)=((AH (u++v)).1,len u,0):=by
   rw[show(AH (u++v))=((AH (u++v)).1,(AH (u++v)).2.1,(AH (u++v)).2.2)from rfl,h3,show(AH (u++v)).2.1=len u from by omega]
  have hq':=nQ (v':=v') hq
  have hb:=N8 (u++v)
  rw[h3,show(AH (u++v)).2.1=len u from by omega]at hb
  have hu2:=hb.2.2.1 U
  have h34:=(MM.1 c2.2).2
  rw[H3 (by omega) (by omega)]at h34
  have h34':A2 (u++v') 0=34:=by rw[H3 (by omega) (by omega)];exact h34
  have hw0:AS (u++v')=[]:=I4 (by rw[h34'];rfl)
  rw[if_neg (λ x=>x.2 hw0),if_pos ⟨c2.1,MM.2 ⟨λ e=>by have:=congrArg len e;rw[A5,len_nil]at this;have:=A4 v';omega,h34'⟩⟩,hq',<-h1]
  simp only[Prod.mk.injEq,true_and,and_true]
  omega
 rw[if_neg c2]at h
 by_cases c3:BY (a::(u++v))≠[]
 ·rw[if_pos c3]at h
  simp only[Prod.mk.injEq]at h
  obtain⟨h1,h2,_⟩:=h
  obtain⟨r,hr⟩:=hpre c3 rfl
  have hm:BY ((a::u)++v)=a::u:=by
   rw[List.cons_append]
   have hl:(BY (a::(u++v))).length=(a::u).length:=by rw[List.length_cons];unfold len at h2;omega
   rw[<-List.cons_append]at hr
   exact(List.append_inj hr hl).1
  have hm':=AN1 (by simp) hm hv
  rw[List.cons_append]at hm hm'
  have n1: ¬((a.toNat:Int)=46/\AS (u++v')≠[]):=by
   rintro⟨ea,hw⟩
   have hu0:u=[]:=by
    have hmm:a::u∈AL:=by
     rcases PC (a::(u++v))with e|e
     ·exact absurd e c3
     ·rw[hm]at e;exact e.1
    have: ∀m∈AL,A2 m 0=46->A3 m 1=[]:=by decide+kernel
    exact this _ hmm ea
   subst hu0
   rw[List.nil_append]at hw c1
   have hwv:AS v=[]:=Classical.byContradiction λ e=>c1 ⟨ea,e⟩
   apply hw
   rcases hv with hv|⟨_,hv⟩|⟨hv1,_,hv3⟩
   ·rw[hv];exact I4 U
   ·exact I4 (cV hv).1
   ·refine I4 ?_
    rw[hv3]
    cases hh:E9 (A2 v 0)with
    |false=>rfl
    |true=>exact absurd hwv (AM8 (LI.1 hv1) hh)
  have n2: ¬((a.toNat:Int)=46/\Lib.hasPrefix (u++v') [34]=true):=by
   rintro⟨ea,hw⟩
   have hu0:u=[]:=by
    have hmm:a::u∈AL:=by
     rcases PC (a::(u++v))with e|e
     ·exact absurd e c3
     ·rw[hm]at e;exact e.1
    have: ∀m∈AL,A2 m 0=46->A3 m 1=[]:=by decide+kernel
    exact this _ hmm ea
   subst hu0
   rw[List.nil_append]at hw c2
   have h34:=MM.1 hw
   rcases hv with hv|⟨_,hv⟩|⟨hv1,_,hv3⟩
   ·exact h34.1 hv
   ·exact(cV hv).2 h34.2
   ·exact c2 ⟨ea,MM.2 ⟨hv1,by rw[<-hv3];exact h34.2⟩⟩
  rw[if_neg n1,if_neg n2,hm',if_pos (by simp),<-h1,hm,A6]
 rw[if_neg c3]at h
 have c3':BY (a::(u++v))=[]:=Classical.byContradiction c3
 by_cases c4:AS (a::(u++v))≠[]
 ·rw[if_pos c4]at h
  simp only[Prod.mk.injEq]at h
  obtain⟨h1,h2,_⟩:=h
  have hw:AS ((a::u)++v)=a::u:=by
   have:AS ((a::u)++v)=Eng.sub ((a::u)++v) 0 (CE ((a::u)++v) 0):=rfl
   rw[this,<-LZ,List.cons_append,h2,<-A6 a,<-List.cons_append,U7]
  have hw':=cQ hw hv
  rw[List.cons_append]at hw hw'
  have hlet:E9 (a.toNat:Int)=true:=by
   cases hh:E9 (a.toNat:Int)with
   |true=>rfl
   |false=>exact absurd (I4 (s:=a::(u++v)) hh) c4
  have ha46: ¬(a.toNat:Int)=46:=λ e=>by rw[e]at hlet;cases hlet
  rw[if_neg (λ x=>ha46 x.1),if_neg (λ x=>ha46 x.1),NP (cT hlet),if_neg (λ x=>x U),hw',if_pos (by simp),<-h1,hw,A6]
 rw[if_neg c4]at h
 have c4':AS (a::(u++v))=[]:=Classical.byContradiction c4
 by_cases c5:(a.toNat:Int)=34
 ·rw[if_pos c5]at h
  simp only[Prod.mk.injEq]at h
  obtain⟨h1,h2,h3⟩:=h
  have ha:a=34:=UInt8.toNat_inj.1 (by show a.toNat=34;omega)
  subst ha
  have hq:AH ((34::u)++v)=((AH (34::(u++v))).1,len ((34:UInt8)::u),0):=by
   rw[List.cons_append,show(AH (34::(u++v)))=((AH (34::(u++v))).1,(AH (34::(u++v))).2.1,(AH (34::(u++v))).2.2)from rfl,h3,h2,A6]
  have hq':=nQ (v':=v') hq
  rw[List.cons_append]at hq'
  have hw0:AS (34::(u++v'))=[]:=I4 U
  have hm0:BY (34::(u++v'))=[]:=NP U
  rw[if_neg (λ x=>absurd x.1 (by decide)),if_neg (λ x=>absurd x.1 (by decide)),hm0,if_neg (λ x=>x U),hw0,if_neg (λ x=>x U),if_pos c5,hq',<-h1,A6]
 rw[if_neg c5]at h
 by_cases c6:(a.toNat:Int)=45\/BG (a.toNat:Int)=true
 ·rw[if_pos c6]at h
  by_cases c7:(BW (runN (a::(u++v)))).2.2≠0
  ·rw[if_pos c7]at h
   simp only[Prod.mk.injEq]at h
   exact absurd h.2.2 c7
  ·rw[if_neg c7]at h
   simp only[Prod.mk.injEq]at h
   obtain⟨h1,h2,_⟩:=h
   have hr:runN ((a::u)++v)=a::u:=by
    have hpre:=List.takeWhile_prefix HW (l:=(a::u)++v)
    rw[<-SS]at hpre
    obtain⟨r,hr⟩:=hpre
    have hl:(runN ((a::u)++v)).length=(a::u).length:=by rw[List.length_cons,List.cons_append];unfold len at h2;omega
    exact(List.append_inj hr hl).1
   have hr':=cS hr hv
   rw[List.cons_append]at hr hr'
   obtain⟨g1,g2⟩:=cU c6
   have ha46: ¬(a.toNat:Int)=46:=λ e=>by rw[e]at c6;revert c6;decide
   rw[hr]at c7 h1
   rw[if_neg (λ x=>ha46 x.1),if_neg (λ x=>ha46 x.1),NP g1,if_neg (λ x=>x U),I4 (s:=a::(u++v')) g2,if_neg (λ x=>x U),if_neg c5,if_pos c6,hr',if_neg c7,<-h1,A6]
 ·rw[if_neg c6]at h
  simp only[Prod.mk.injEq]at h
  exact absurd h.2.2 (by decide)
inductive Lx (s:A1):Int->List Tk->Prop
 |done {i:Int}:0<=i-> ¬i<len s->Lx s i []
 |step {i n:Int} {t:Tk} {l:List Tk}:0<=i->i<len s->AB (A3 s i)=(t,n,0)->Lx s (BL s (i+n)) l->Lx s i ({ t with pos:=i}::l)
inductive Q3 (s:A1):Int->Int->Int->Prop
 |here {i n e:Int} {t:Tk}:0<=i->i<len s->AB (A3 s i)=(t,n,e)->e≠0->Q3 s i (i+n) e
 |there {i n p e:Int} {t:Tk}:0<=i->i<len s->AB (A3 s i)=(t,n,0)->Q3 s (BL s (i+n)) p e->Q3 s i p e
theorem OT{s:A1}{i n e:Int}{t:Tk}(h0:0<=i)(h1:i<len s)(h:AB (A3 s i)=(t,n,e)):0<=n/\i+n<=len s/\(e=0->1<=n)/\(e=0\/e=1\/e=2\/e=4):=by
 have hl:=CO s i h0 (by omega)
 have:=kN (s:=A3 s i) (by omega)
 rw[h]at this
 dsimp only at this
 omega
theorem nU{s:A1}: ∀(f:Nat) (i:Int) (acc:List Tk),0<=i->(len s-i).toNat<=f->
  (∃l,Lx s i l/\JZ f s i acc=(acc++l++[GJ s],0,0))\/(∃p e,Q3 s i p e/\JZ f s i acc=([],p,e))
 |0,i,acc,h0,hf=>.inl ⟨[],.done h0 (by omega),by unfold JZ;simp⟩
 |f+1,i,acc,h0,hf=>by
  by_cases h1:i<len s
  ·obtain⟨t,n,e,ht⟩: ∃t n e,AB (A3 s i)=(t,n,e):=⟨_,_,_,rfl⟩
   have hb:=OT h0 h1 ht
   rw[VG hf h1,ht]
   dsimp only
   by_cases he:e=0
   ·subst he
    have hbl:=LW s (i+n) (by omega) (by omega)
    rw[if_neg (by simp)]
    rcases nU (s:=s) f (BL s (i+n)) (acc++[{ t with pos:=i}]) (by omega) (by omega)with⟨l,h2,h3⟩|⟨p,e,h2,h3⟩
    ·exact .inl ⟨_,.step h0 h1 ht h2,by rw[Nat.add_sub_cancel,h3];simp⟩
    ·exact .inr ⟨p,e,.there h0 h1 ht h2,by rw[Nat.add_sub_cancel,h3]⟩
   ·rw[if_pos he]
    exact .inr ⟨_,_,.here h0 h1 ht he,rfl⟩
  ·exact .inl ⟨[],.done h0 h1,by rw[ZA h1];simp⟩
theorem Q3.bd {s:A1}{i p e:Int}(h:Q3 s i p e):i<=p/\p<=len s/\(e=1\/e=2\/e=4):=by
 induction h with
 |here h0 h1 h he=>have:=OT h0 h1 h;omega
 | @there i n p e t h0 h1 h _ ih=>
  have hb:=OT h0 h1 h
  have:=LW s (i+n) (by omega) hb.2.1
  omega
theorem Lx.go {s:A1}{i:Int}{l:List Tk}(h:Lx s i l): ∀(f:Nat) (acc:List Tk),(len s-i).toNat<=f->JZ f s i acc=(acc++l++[GJ s],0,0):=by
 induction h with
 |done _ h1=>intro f acc _;rw[ZA h1];simp
 | @step i n t l h0 h1 h _ ih=>
  intro f acc hf
  have hb:=OT h0 h1 h
  have hbl:=LW s (i+n) (by omega) hb.2.1
  rw[VG hf h1,h]
  dsimp only
  rw[if_neg (by simp),ih _ _ (by omega)]
  simp
theorem nV(s:A1):(len s-BL s 0).toNat<=s.length:=by
 have:=LW s 0 (Int.le_refl 0) (A4 s)
 unfold len at*;omega
theorem AN2(s:A1):(∃l,Lx s (BL s 0) l/\C6 s=(l++[GJ s],0,0))\/(∃p e,Q3 s (BL s 0) p e/\C6 s=([],p,e)):=by
 have:=nU (s:=s) s.length (BL s 0) [] (LW s 0 (Int.le_refl 0) (A4 s)).1 (nV s)
 simp only[List.nil_append]at this
 exact this
theorem Lx.lex {s:A1}{l:List Tk}(h:Lx s (BL s 0) l):C6 s=(l++[GJ s],0,0):=by
 have:=h.go s.length [] (nV s)
 rwa [List.nil_append]at this
theorem nW{s:A1}(h:(C6 s).2.2=0): ∃l,Lx s (BL s 0) l/\C6 s=(l++[GJ s],0,0):=by
 rcases AN2 s with h1|⟨p,e,h1,h2⟩
 ·exact h1
 ·rw[h2]at h;have:=h1.bd;dsimp only at h;omega
theorem Lx.size {s:A1}{i:Int}{l:List Tk}(h:Lx s i l):i<=len s->len l<=len s-i:=by
 induction h with
 |done _ _=>intro x;rw[len_nil];omega
 | @step i n t l h0 h1 h _ ih=>
  intro x
  have hb:=OT h0 h1 h
  have hbl:=LW s (i+n) (by omega) hb.2.1
  have:=ih hbl.2
  rw[A6];omega
theorem cX{s:A1}{i:Int}(h0:0<=i):BL s i=i+BL (A3 s i) 0:=by
 unfold BL;rw[Q2];omega
theorem AN3:BL [] 0=0:=rfl
theorem nX{b:UInt8}{r:A1}(h:J1 (b.toNat:Int)=true):BL (b::r) 0=1+BL r 0:=by
 unfold BL
 rw[Q2,Q2,List.takeWhile_cons,show HV b=true from h]
 simp[len];omega
theorem nY{b:UInt8}{r:A1}(h:J1 (b.toNat:Int)=false):BL (b::r) 0=0:=by
 unfold BL
 rw[Q2,List.takeWhile_cons,show HV b=false from h]
 simp[len]
theorem AN4{s:A1}{t:Tk}{n:Int}(h1:0<len s)(h:AB s=(t,n,0)):J1 (A2 s 0)=false:=by
 cases hb:J1 (A2 s 0)with
 |false=>rfl
 |true=>
  exfalso
  cases s with
  |nil=>simp[len_nil]at h1
  |cons a l=>
   rw[DO]at hb
   have hf: ∀n:Fin 256,J1 (n.val:Int)=true->OS (UInt8.ofNat n.val)=false/\E9 (n.val:Int)=false/\ ¬(n.val:Int)=46/\ ¬(n.val:Int)=34/\ ¬((n.val:Int)=45\/BG (n.val:Int)=true):=by decide+kernel
   have hf':=hf ⟨a.toNat,a.toNat_lt⟩ hb
   simp only[UInt8.ofNat_toNat]at hf'
   obtain⟨g1,g2,g3,g4,g5⟩:=hf'
   unfold AB at h
   rw[DO,if_neg (λ x=>g3 x.1),if_neg (λ x=>g3 x.1),NP g1,if_neg (λ x=>x U),I4 (s:=a::l) g2,if_neg (λ x=>x U),if_neg g4,if_neg g5]at h
   simp at h
theorem AN5{s:A1}{i n:Int}{t:Tk}(h0:0<=i)(h1:i<len s)(h:AB (A3 s i)=(t,n,0)):
  ∃u v,A3 s i=u++v/\len u=n/\u≠[]/\v=A3 s (i+n)/\u=Eng.sub s i (i+n)/\AB (u++v)=(t,len u,0):=by
 have hb:=OT h0 h1 h
 have hl:=CO s i h0 (by omega)
 have h2:=cM (s:=A3 s i) (n:=n) (by omega) (by omega)
 rw[IF s i n h0 (by omega),WQ s i n h0 (by omega)]at h2
 exact⟨_,_,h2.1,h2.2,λ e=>by rw[e,len_nil]at h2;omega,rfl,rfl,by rw[<-h2.1,h2.2];exact h⟩
end Go.Eng
