/-
  THE ENGINE, PART 13: a part of a slice that is read. Over any program.
-/
import Derived.Test.YthdialbnlnjgpaaGreatDoorEngL
set_option linter.unusedVariables false
set_option linter.unusedSimpArgs false
namespace Go.Eng
open Go.RowKit

theorem sub_flat {α : Type} (f : α → List Value) (sz : Nat) (hf : ∀ x, (f x).length = sz) (l : List α) (a b j : Nat) (hab : a ≤ b) (hb : b ≤ l.length) (hj : j < (b - a) * sz) :
    (l.flatMap f)[a * sz + j]? = (((l.drop a).take (b - a)).flatMap f)[j]? := by
  have e : l = l.take a ++ ((l.drop a).take (b - a) ++ (l.drop a).drop (b - a)) := by rw [List.take_append_drop, List.take_append_drop]
  have e2 : l.flatMap f = (l.take a).flatMap f ++ (((l.drop a).take (b - a)).flatMap f ++ ((l.drop a).drop (b - a)).flatMap f) := by
    conv => lhs; rw [e]
    rw [List.flatMap_append, List.flatMap_append]
  have h1 : ((l.take a).flatMap f).length = a * sz := by rw [flat_len f sz hf, List.length_take, Nat.min_eq_left (by omega)]
  have h2 : (((l.drop a).take (b - a)).flatMap f).length = (b - a) * sz := by rw [flat_len f sz hf, List.length_take, List.length_drop, Nat.min_eq_left (by omega)]
  rw [e2, List.getElem?_append_right (by omega), h1, show a * sz + j - a * sz = j from by omega, List.getElem?_append_left (by omega)]
theorem sl_part {α : Type} {f : α → List Value} {M : Mem} {sz : Nat} {v : Value} {l : List α} (h : Sl M sz l.length v (l.flatMap f)) (hf : ∀ x, (f x).length = sz) {a b : Int} (h0 : 0 ≤ a) (h1 : a ≤ b) (h2 : b ≤ len l) :
    ∃ p cap, v = .slice p l.length cap ∧ l.length ≤ cap ∧ Sl M sz (Eng.sub l a b).length (sliced p a.toNat b.toNat cap sz) ((Eng.sub l a b).flatMap f) := by
  obtain ⟨p, cap, hv, hc, hm, hp⟩ := h.val
  refine ⟨p, cap, hv, hc, ?_⟩
  unfold len at h2
  have hl : (Eng.sub l a b).length = b.toNat - a.toNat := by unfold Eng.sub; rw [List.length_take, List.length_drop]; omega
  refine ⟨by rw [flat_len f sz hf], _, _, by unfold sliced; rw [hl], by rw [hl]; omega, by omega, fun hn => ?_⟩
  rw [hl] at hn
  obtain ⟨b0, o, hpe, hcell⟩ := hp (by omega)
  refine ⟨b0, o + a.toNat * sz, by rw [if_neg (by omega), hpe, Option.map_some, add_none], fun j hj => ?_⟩
  rw [flat_len f sz hf, hl] at hj
  have hlen : a.toNat * sz + j < (l.flatMap f).length := by
    rw [flat_len f sz hf]
    have := Nat.mul_le_mul_right sz (show a.toNat + (b.toNat - a.toNat) ≤ l.length by omega)
    rw [Nat.add_mul] at this; omega
  rw [Nat.add_assoc, hcell _ hlen]
  exact sub_flat f sz hf l a.toNat b.toNat j (by omega) (by omega) hj
section sl
variable {P : Program} {α : Type} {f : α → List Value} {M : Mem} {sz : Nat} {v : Value} {l : List α} {t e : TypeId}
theorem elem_of (ht : P.underlying t = some (.slice e)) : P.elem t = e := by unfold Program.elem; rw [ht]
theorem slSl_b (h : Sl M sz l.length v (l.flatMap f)) (hf : ∀ x, (f x).length = sz) (ht : P.underlying t = some (.slice e)) (hs : ∀ w, (sizeOf e).run P w = .ok sz w) (a b : Int) (hr : 0 ≤ a ∧ a ≤ b ∧ b ≤ len l) :
    ∃ v', Sl M sz (Eng.sub l a b).length v' ((Eng.sub l a b).flatMap f) ∧ ∀ (k k' : IntKind) w, (Instr.sliceAt t v (some (.int k a)) (some (.int k' b)) none).run P w = .ok v' w := by
  obtain ⟨h0, h1, h2⟩ := hr
  obtain ⟨p, cap, hv, hc, hS⟩ := sl_part h hf h0 h1 h2
  have ht' : P.underlying t = some (.slice (P.elem t)) := by rw [elem_of ht]; exact ht
  refine ⟨_, hS, fun k k' w => ?_⟩
  rw [hv, run_sliceAt_slice w t _ _ _ _ ht', run_slice_lh w t p _ cap ht' k k' a b h0 h1 (by unfold len at h2; omega), elem_of ht, hs]
  rfl
theorem slSl_h (h : Sl M sz l.length v (l.flatMap f)) (hf : ∀ x, (f x).length = sz) (ht : P.underlying t = some (.slice e)) (hs : ∀ w, (sizeOf e).run P w = .ok sz w) (a b : Int) (hr : 0 ≤ a ∧ a ≤ b ∧ b ≤ len l) (ha : a = 0 := by rfl) :
    ∃ v', Sl M sz (Eng.sub l a b).length v' ((Eng.sub l a b).flatMap f) ∧ ∀ (k' : IntKind) w, (Instr.sliceAt t v none (some (.int k' b)) none).run P w = .ok v' w := by
  subst ha
  obtain ⟨h0, h1, h2⟩ := hr
  obtain ⟨p, cap, hv, hc, hS⟩ := sl_part h hf h0 h1 h2
  have ht' : P.underlying t = some (.slice (P.elem t)) := by rw [elem_of ht]; exact ht
  refine ⟨_, hS, fun k' w => ?_⟩
  rw [hv, run_sliceAt_slice w t _ _ _ _ ht', run_slice_h w t p _ cap ht' k' b h1 (by unfold len at h2; omega), elem_of ht, hs]
  rfl
theorem slSl_l (h : Sl M sz l.length v (l.flatMap f)) (hf : ∀ x, (f x).length = sz) (ht : P.underlying t = some (.slice e)) (hs : ∀ w, (sizeOf e).run P w = .ok sz w) (a b : Int) (hr : 0 ≤ a ∧ a ≤ b ∧ b ≤ len l) (hb : b = len l := by rfl) :
    ∃ v', Sl M sz (Eng.sub l a b).length v' ((Eng.sub l a b).flatMap f) ∧ ∀ (k : IntKind) w, (Instr.sliceAt t v (some (.int k a)) none none).run P w = .ok v' w := by
  subst hb
  obtain ⟨h0, h1, h2⟩ := hr
  obtain ⟨p, cap, hv, hc, hS⟩ := sl_part h hf h0 h1 h2
  have ht' : P.underlying t = some (.slice (P.elem t)) := by rw [elem_of ht]; exact ht
  refine ⟨_, hS, fun k w => ?_⟩
  rw [hv, run_sliceAt_slice w t _ _ _ _ ht', run_slice_l w t p _ cap ht' k a h0 h1, elem_of ht, hs]
  rfl
variable {C : World → Prop} {L : Env} {W : Bool} {d : Option Tmp} {ty : TypeId} {ps : String} {af : Array Edge} {gd : Option (Nat × Bool)} {x y z : Operand} {v' : Value} {k k' : IntKind} {a b : Int}
theorem PV.slRb (hx : Opd L W x v) (hy : Opd L W y (.int k a)) (hz : Opd L W z (.int k' b)) (hr : ∀ (k k' : IntKind) w, (Instr.sliceAt t v (some (.int k a)) (some (.int k' b)) none).run P w = .ok v' w) : PV P C L W ⟨d, .slice t x (some y) (some z) none, ty, ps, af, gd⟩ v' := by
  intro ac N hs hW w _
  simp only [execOp, hx ac N hs hW, Option.map_some, Option.map_none, hy ac N hs hW, hz ac N hs hW]
  rw [Sem.run_bind, hr]; rfl
theorem PV.slRh (hx : Opd L W x v) (hz : Opd L W z (.int k' b)) (hr : ∀ (k' : IntKind) w, (Instr.sliceAt t v none (some (.int k' b)) none).run P w = .ok v' w) : PV P C L W ⟨d, .slice t x none (some z) none, ty, ps, af, gd⟩ v' := by
  intro ac N hs hW w _
  simp only [execOp, hx ac N hs hW, Option.map_some, Option.map_none, hz ac N hs hW]
  rw [Sem.run_bind, hr]; rfl
theorem PV.slRl (hx : Opd L W x v) (hy : Opd L W y (.int k a)) (hr : ∀ (k : IntKind) w, (Instr.sliceAt t v (some (.int k a)) none none).run P w = .ok v' w) : PV P C L W ⟨d, .slice t x (some y) none none, ty, ps, af, gd⟩ v' := by
  intro ac N hs hW w _
  simp only [execOp, hx ac N hs hW, Option.map_some, Option.map_none, hy ac N hs hW]
  rw [Sem.run_bind, hr]; rfl
end sl
end Go.Eng
