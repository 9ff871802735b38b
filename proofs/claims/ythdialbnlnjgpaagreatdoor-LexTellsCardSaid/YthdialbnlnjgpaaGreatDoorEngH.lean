/-
  THE ENGINE, PART 8: small regions whose operations come in several orders: each order by itself, one end. Over any program.
-/
import Derived.Test.YthdialbnlnjgpaaGreatDoorEngG
import Derived.Orders
set_option linter.unusedVariables false
set_option linter.unusedSimpArgs false
namespace Go.Eng
open Go.RowKit

section ra
variable {P : Program} {md : Region.Mode} {ops : Array Oper} {Q : Exit → Act → World → Prop} {N f : Nat} {listed : Array Bool} {L : Env} {w : World}
/-- The exits of one operation: behind it K. -/
def Qn (K : Act → World → Prop) (Q : Exit → Act → World → Prop) : Exit → Act → World → Prop
  | .normal, a, w => K a w
  | e, a, w => Q e a w
def RA (P : Program) (md : Region.Mode) (ops : Array Oper) (Q : Exit → Act → World → Prop) (N f : Nat) (listed : Array Bool) (L : Env) (w : World) : Prop := ∀ a, Slots a N L → wpAny P md ops Q f listed a w
theorem upon_qn {o : Oper} {a : Act} {K K' : Act → World → Prop} : ∀ r : Result Next, o.upon P a K' (Qn K Q) r → o.upon P a K' Q r := by
  intro r h
  cases r with
  | ok n w' =>
    cases n with
    | enter f args =>
      refine Calls.mono h ?_
      intro e w'' he
      cases e <;> exact he
    | _ => exact h
  | halt x w' => cases x <;> exact h
theorem RA.of {is : List Nat} (hr : Region.ready md ops listed = is) (hne : is.isEmpty = false) (h : ∀ i ∈ is, RL P ops (Qn (fun a' w' => wpAny P md ops Q f (listed.setIfInBounds i true) a' w') Q) N (ops[i]?).toList L w) : RA P md ops Q N (f + 1) listed L w := by
  intro a hs
  refine ⟨fun h0 => ?_, fun i hi => ?_⟩
  · rw [hr] at h0; subst h0; cases hne
  · rw [hr] at hi
    have h1 := h i hi a hs
    unfold wpOp
    cases ho : ops[i]? with
    | none => rw [ho] at h1; exact h1
    | some o =>
      rw [ho] at h1
      simp only [Option.toList_some] at h1
      unfold wpList at h1
      dsimp only
      split
      · rename_i hw
        rw [if_pos hw] at h1
        rcases h1 with h1 | ⟨h1, h2⟩
        · exact .inl (upon_qn _ h1)
        · exact .inr ⟨h1, h2⟩
      · rename_i hw
        rw [if_neg hw] at h1; exact h1
theorem RA.next {K : Act → World → Prop} (h : ∀ a, Slots a N L → K a w) : ∀ a, Slots a N L → (Qn K Q) .normal a w := h
theorem RA.nil (hr : Region.ready md ops listed = []) (h : ∀ a, Slots a N L → Q .normal a w) : RA P md ops Q N 0 listed L w := fun a hs => ⟨hr, h a hs⟩
theorem RA.one {i : Nat} (hr : Region.ready md ops listed = [i]) (h : RL P ops (Qn (fun a' w' => wpAny P md ops Q f (listed.setIfInBounds i true) a' w') Q) N (ops[i]?).toList L w) : RA P md ops Q N (f + 1) listed L w :=
  RA.of hr rfl (by simpa using h)
theorem RA.two {i j : Nat} (hr : Region.ready md ops listed = [i, j]) (h1 : RL P ops (Qn (fun a' w' => wpAny P md ops Q f (listed.setIfInBounds i true) a' w') Q) N (ops[i]?).toList L w)
    (h2 : RL P ops (Qn (fun a' w' => wpAny P md ops Q f (listed.setIfInBounds j true) a' w') Q) N (ops[j]?).toList L w) : RA P md ops Q N (f + 1) listed L w :=
  RA.of hr rfl (by simpa using ⟨h1, h2⟩)
theorem RA.three {i j k : Nat} (hr : Region.ready md ops listed = [i, j, k]) (h1 : RL P ops (Qn (fun a' w' => wpAny P md ops Q f (listed.setIfInBounds i true) a' w') Q) N (ops[i]?).toList L w)
    (h2 : RL P ops (Qn (fun a' w' => wpAny P md ops Q f (listed.setIfInBounds j true) a' w') Q) N (ops[j]?).toList L w) (h3 : RL P ops (Qn (fun a' w' => wpAny P md ops Q f (listed.setIfInBounds k true) a' w') Q) N (ops[k]?).toList L w) : RA P md ops Q N (f + 1) listed L w :=
  RA.of hr rfl (by simpa using ⟨h1, h2, h3⟩)
/-- A region of several orders, each with its own end. -/
theorem CW.regionA {w0 : World} {M0 M : Mem} {Hs : List HO} {id : Nat} {l : List Oper} (hS : St w0 M0 w M Hs) (hm : P.follows .mixedOrders = true)
    (h : ∀ w1, St w0 M0 w1 M Hs → RA P .any l.toArray Q N l.length (Array.replicate l.length false) L w1) : CW P (.region id l.toArray true) Q N L w := by
  intro a hs
  refine wp_region_any hm ?_
  have := h _ (hS.ext (Ext.drew w)) a hs
  simpa using this
/-- A region of several orders, which all end alike. -/
theorem CW.regionJ {w0 : World} {M0 M : Mem} {Hs : List HO} {id : Nat} {l : List Oper} (L' : Env) (Hs' : List HO) (hS : St w0 M0 w M Hs) (hm : P.follows .mixedOrders = true)
    (hreg : ∀ w1, St w0 M0 w1 M Hs → RA P .any l.toArray (Qn (fun a w' => Slots a N L' ∧ St w0 M0 w' M Hs') Q) N l.length (Array.replicate l.length false) L w1)
    (hcont : ∀ w', St w0 M0 w' M Hs' → ∀ a, Slots a N L' → Q .normal a w') : CW P (.region id l.toArray true) Q N L w := by
  intro a hs
  refine wp_region_any hm ?_
  have h1 := hreg _ (hS.ext (Ext.drew w)) a hs
  have mono : ∀ (f : Nat) (listed : Array Bool) (a : Act) (w : World), wpAny P .any l.toArray (Qn (fun a w' => Slots a N L' ∧ St w0 M0 w' M Hs') Q) f listed a w → wpAny P .any l.toArray Q f listed a w := by
    intro f
    induction f with
    | zero => intro listed a w h; exact ⟨h.1, hcont _ h.2.2 _ h.2.1⟩
    | succ f ih =>
      intro listed a w h
      refine ⟨fun h0 => hcont _ (h.1 h0).2 _ (h.1 h0).1, fun i hi => ?_⟩
      have h2 := h.2 i hi
      unfold wpOp at h2 ⊢
      split at h2
      · exact ih _ _ _ h2
      · split at h2
        · rename_i hw
          rw [if_pos hw]
          refine h2.imp (fun h3 => ?_) (fun h => ⟨h.1, h.2⟩)
          refine Oper.wp_mono (fun a w hh => ih _ a w hh) ?_
          exact upon_qn _ h3
        · rename_i hw
          rw [if_neg hw]; exact ih _ _ _ h2
  exact mono _ _ _ _ (by simpa using h1)
end ra
end Go.Eng
