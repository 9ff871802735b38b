/-
  THE ENGINE, PART 5: regions that draw their order: all of it quiet; or all but a tail. Over any program.
-/
import Derived.Test.YthdialbnlnjgpaaGreatDoorEngD
import Derived.StillTail
set_option linter.unusedVariables false
set_option linter.unusedSimpArgs false
namespace Go.Eng
open Go.RowKit

section rq
variable {P : Program} {ops : Array Oper} {C : World → Prop} {post : Act → Prop} {N : Nat} {rest : List Oper} {L : Env} {d : Nat} {op : Op} {ty : TypeId} {ps : String} {af : Array Edge} {gd : Option (Nat × Bool)} {W : Bool} {u : Value}
def RQ (P : Program) (ops : Array Oper) (C : World → Prop) (N : Nat) (post : Act → Prop) (l : List Oper) (L : Env) : Prop := ∀ a, Slots a N L → wpQuiet P ops C post l a
theorem RQ.v (hw : Wants ops L gd W) (hp : PV P C L W ⟨some d, op, ty, ps, af, gd⟩ u) (hd : Nat.blt d N = true) (h : RQ P ops C N post rest ((d, W, u) :: L)) : RQ P ops C N post (⟨some d, op, ty, ps, af, gd⟩ :: rest) L := by
  intro a hs
  unfold wpQuiet
  rw [Wants.wanted (o := ⟨some d, op, ty, ps, af, gd⟩) hw hs]
  have hput := hs.put hd W u
  cases W
  · exact h _ hput
  · refine ⟨u, fun w hw' => ?_, h _ hput⟩
    simp only [Oper.quietAt, hp a N hs rfl w hw', Oper.quietUpon, and_self]
theorem RQ.call {f : FuncId} {xs : List Operand} {vs : List Value} {tys : Array TypeId} (hw : Wants ops L gd W) (ct : ∀ args w, (callFunc f args).run P w = .ok (.enter f args) w) (hx : Opds L W xs vs)
    (hc : W = true → ∀ w, C w → Calls P f vs.toArray w (fun e w' => e = .returned u ∧ C w')) (hd : Nat.blt d N = true) (h : RQ P ops C N post rest ((d, W, u) :: L)) : RQ P ops C N post (⟨some d, .call ⟨.value (.func f), xs.toArray, tys⟩, ty, ps, af, gd⟩ :: rest) L := by
  intro a hs
  unfold wpQuiet
  rw [Wants.wanted (o := ⟨some d, .call ⟨.value (.func f), xs.toArray, tys⟩, ty, ps, af, gd⟩) hw hs]
  have hput := hs.put hd W u
  cases W
  · exact h _ hput
  · refine ⟨u, fun w hw' => ?_, h _ hput⟩
    simp only [Oper.quietAt, call_run ct hx hs rfl, Oper.quietUpon, true_and]
    exact hc rfl w hw'
theorem RQ.nil (h : ∀ a, Slots a N L → post a) : RQ P ops C N post [] L := fun a hs => wpQuiet_nil (h a hs)
/-- All of the region is quiet. -/
theorem CW.regionD {Q : Exit → Act → World → Prop} {w0 w : World} {M0 M : Mem} {Hs : List HO} {id : Nat} {l : List Oper} (hS : St w0 M0 w M Hs) (hm : P.follows .mixedOrders = true) (hB : Region.lexB .any l.toArray = true)
    (h : RQ P l.toArray (fun w' => Ext w w') N (fun a => ∀ w', St w0 M0 w' M Hs → Q .normal a w') l L) : CW P (.region id l.toArray true) Q N L w := by
  intro a hs
  refine wp_region_quiet (C := fun w' => Ext w w') hm hB (Ext.drew w) ?_
  have h1 := h a hs
  have mono' : ∀ (l : List Oper) (ops : Array Oper) (a : Act) (p q : Act → Prop), (∀ a, p a → q a) → wpQuiet P ops (fun w' => Ext w w') p l a → wpQuiet P ops (fun w' => Ext w w') q l a := by
    intro l ops
    induction l with
    | nil => intro a p q hpq hp; exact hpq a hp
    | cons o l ih =>
      intro a p q hpq hp
      unfold wpQuiet at hp ⊢
      split
      · rename_i hw
        rw [if_pos hw] at hp
        obtain ⟨v, hv1, hv2⟩ := hp
        exact ⟨v, hv1, ih _ p q hpq hv2⟩
      · rename_i hw
        rw [if_neg hw] at hp
        exact ih _ p q hpq hp
  exact mono' l l.toArray a _ _ (fun a' h2 w' he => h2 w' (hS.ext he)) h1
end rq

section rs
variable {P : Program} {ops : Array Oper} {w1 : World} {post : Act → Prop} {N : Nat} {rest : List Oper} {L : Env} {d : Nat} {op : Op} {ty : TypeId} {ps : String} {af : Array Edge} {gd : Option (Nat × Bool)} {W : Bool} {u : Value}
def RS (P : Program) (ops : Array Oper) (w1 : World) (N : Nat) (post : Act → Prop) (l : List Oper) (L : Env) : Prop := ∀ a, Slots a N L → wpStill P ops w1 post l a
theorem RS.v (hw : Wants ops L gd W) (hp : PV P (· = w1) L W ⟨some d, op, ty, ps, af, gd⟩ u) (hd : Nat.blt d N = true) (h : RS P ops w1 N post rest ((d, W, u) :: L)) : RS P ops w1 N post (⟨some d, op, ty, ps, af, gd⟩ :: rest) L := by
  intro a hs
  unfold wpStill
  rw [Wants.wanted (o := ⟨some d, op, ty, ps, af, gd⟩) hw hs]
  have hput := hs.put hd W u
  cases W
  · exact h _ hput
  · simp only [if_true, Oper.still, hp a N hs rfl w1 rfl, Oper.stillUpon_value]
    exact h _ hput
theorem RS.nil {Q : Exit → Act → World → Prop} {l : List Oper} (h : RL P ops Q N l L w1) : RS P ops w1 N (fun a' => wpList P ops Q l a' w1) [] L := fun a hs => wpStill_nil (h a hs)
/-- The first n operations are still; the others come one behind the other. -/
theorem CW.regionT {Q : Exit → Act → World → Prop} {w0 w : World} {M0 M : Mem} {Hs : List HO} {id : Nat} {l : List Oper} (n : Nat) (hS : St w0 M0 w M Hs) (hm : P.follows .mixedOrders = true) (hB : Region.lexTailB .any l.toArray n = true)
    (h : ∀ w1, St w0 M0 w1 M Hs → RS P l.toArray w1 N (fun a' => wpList P l.toArray Q (l.drop n) a' w1) (l.take n) L) : CW P (.region id l.toArray true) Q N L w :=
  fun a hs => wp_region_still_tail n hm hB (h _ (hS.ext (Ext.drew w)) a hs)
end rs
end Go.Eng
