/-
  AN ARGUMENT THAT IS A SLICE OF TOKENS, OPENED: its tokens, as they lie in memory.
-/
import Derived.Test.YthdialbnlnjgpaaGreatDoorCard
import Derived.Test.YthdialbnlnjgpaaGreatDoorR1
import Derived.Test.YthdialbnlnjgpaaGreatDoorToks
import Derived.Deep.Slices
import Derived.Carry
set_option linter.unusedVariables false
set_option linter.unusedSimpArgs false
set_option maxRecDepth 100000
namespace Go.Proofs.YthdialbnlnjgpaaGreatDoor
open Go.ChangeShapes Go.WideShapes Go.ChangeAt Go.RowKit Go.Eng Go.Deep

/-- All that is there. -/
def memOf (W : World) : Mem := fun b o => W.cell? ⟨b, o, none⟩
theorem sat_mem (W : World) : Sat W (memOf W) := ⟨fun _ _ _ h => h⟩
theorem laidOut : laidOutB Tryz.prog = true := by kernel_rfl
section
variable {H : Type} {enc : TypeId × Value → H} {w : World} {base : Nat} {sp : Nat → Bool} {hd : Bool}
theorem fldOf {fs : Array Field} {n : Nat} {cs : List Value} {xs : List (DataW H × List MemPlace)} (hf : ∀ (i : Nat) (f : Field), fs[i]? = some f → DataW.trod enc Tryz.prog w base sp hd n f.type ((cs.drop f.offset).take (Tryz.prog.cellsOf f.type)) = xs[i]?) (hx : xs.length = fs.size)
    {i t o c : Nat} (h : (fs[i]?).map (fun f => (f.type, f.offset, Tryz.prog.cellsOf f.type)) = some (t, o, c)) : ∃ x, DataW.trod enc Tryz.prog w base sp hd n t ((cs.drop o).take c) = some x := by
  obtain ⟨f, h1, h2⟩ := Option.map_eq_some_iff.1 h
  have h3 := hf i f h1
  have hlt : i < xs.length := by rw [hx]; exact (Array.getElem?_eq_some_iff.1 h1).1
  rw [List.getElem?_eq_getElem hlt] at h3
  simp only [Prod.mk.injEq] at h2
  obtain ⟨e1, e2, e3⟩ := h2
  rw [e3, e2, e1] at h3
  exact ⟨_, h3⟩
theorem cell_int {n : Nat} {cs : List Value} {c : Value} (hc : cs = [c]) (h : ∃ x, DataW.trod enc Tryz.prog w base sp hd n 3 cs = some x) : ∃ z, c = i64 z := by
  obtain ⟨x, h⟩ := h
  obtain ⟨z, h1, _⟩ := DataW.trod_int Tryz.underlying3 h
  rw [hc] at h1
  exact ⟨z, (List.cons.inj h1).1⟩
theorem cell_str {n : Nat} {cs : List Value} {c : Value} (hc : cs = [c]) (h : ∃ x, DataW.trod enc Tryz.prog w base sp hd n 9 cs = some x) : ∃ s : Str, c = str s ∧ len s ≤ 9223372036854775807 := by
  obtain ⟨x, h⟩ := h
  obtain ⟨s, h1, _, h2⟩ := DataW.trod_string Tryz.underlying9 h
  rw [hc] at h1
  refine ⟨s.data.toList, (List.cons.inj h1).1, ?_⟩
  unfold len
  have : s.data.toList.length = s.size := Array.length_toList
  have h3 : s.size ≤ 9223372036854775807 := h2
  rw [this]; omega
theorem cell_bool {n : Nat} {cs : List Value} {c : Value} (hc : cs = [c]) (h : ∃ x, DataW.trod enc Tryz.prog w base sp hd n 4 cs = some x) : ∃ b, c = .bool b := by
  obtain ⟨x, h⟩ := h
  obtain ⟨b, h1, _⟩ := DataW.trod_bool Tryz.underlying4 h
  rw [hc] at h1
  exact ⟨b, (List.cons.inj h1).1⟩
theorem open_node {n : Nat} {cs : List Value} (h : ∃ x, DataW.trod enc Tryz.prog w base sp hd n 31 cs = some x) : ∃ nd : Nd, cs = nd.cells ∧ len nd.s ≤ 9223372036854775807 := by
  obtain ⟨x, h⟩ := h
  obtain ⟨xs, k, _, _, hl, hxl, hf⟩ := DataW.trod_struct fieldsNd h
  have hl6 : cs.length = 6 := hl.trans (by kernel_rfl)
  match cs, hl6 with
  | [c0, c1, c2, c3, c4, c5], _ =>
    obtain ⟨z0, rfl⟩ := cell_int (c := c0) rfl (fldOf hf hxl (i := 0) (t := 3) (o := 0) (c := 1) (by kernel_rfl))
    obtain ⟨z1, rfl⟩ := cell_int (c := c1) rfl (fldOf hf hxl (i := 1) (t := 3) (o := 1) (c := 1) (by kernel_rfl))
    obtain ⟨s2, rfl, _⟩ := cell_str (c := c2) rfl (fldOf hf hxl (i := 2) (t := 9) (o := 2) (c := 1) (by kernel_rfl))
    obtain ⟨s3, rfl, h3⟩ := cell_str (c := c3) rfl (fldOf hf hxl (i := 3) (t := 9) (o := 3) (c := 1) (by kernel_rfl))
    obtain ⟨b4, rfl⟩ := cell_bool (c := c4) rfl (fldOf hf hxl (i := 4) (t := 4) (o := 4) (c := 1) (by kernel_rfl))
    obtain ⟨z5, rfl⟩ := cell_int (c := c5) rfl (fldOf hf hxl (i := 5) (t := 3) (o := 5) (c := 1) (by kernel_rfl))
    exact ⟨⟨z0, z1, s2, s3, b4, z5⟩, rfl, h3⟩
theorem open_tok {n : Nat} {cs : List Value} (h : ∃ x, DataW.trod enc Tryz.prog w base sp hd n 33 cs = some x) : ∃ t : Tk, cs = t.cells ∧ len t.s ≤ 9223372036854775807 ∧ len t.c.s ≤ 9223372036854775807 := by
  obtain ⟨x, h⟩ := h
  obtain ⟨xs, k, _, _, hl, hxl, hf⟩ := DataW.trod_struct fieldsTk h
  have hl9 : cs.length = 9 := hl.trans (by kernel_rfl)
  match cs, hl9 with
  | [c0, c1, c2, c3, c4, c5, c6, c7, c8], _ =>
    obtain ⟨z0, rfl⟩ := cell_int (c := c0) rfl (fldOf hf hxl (i := 0) (t := 3) (o := 0) (c := 1) (by kernel_rfl))
    obtain ⟨s1, rfl, h1⟩ := cell_str (c := c1) rfl (fldOf hf hxl (i := 1) (t := 9) (o := 1) (c := 1) (by kernel_rfl))
    obtain ⟨nd, hn, h2⟩ := open_node (fldOf hf hxl (i := 2) (t := 31) (o := 2) (c := 6) (by kernel_rfl))
    obtain ⟨z8, rfl⟩ := cell_int (c := c8) rfl (fldOf hf hxl (i := 3) (t := 3) (o := 8) (c := 1) (by kernel_rfl))
    refine ⟨⟨z0, s1, nd, z8⟩, ?_, h1, h2⟩
    have hn' : [c2, c3, c4, c5, c6, c7] = nd.cells := hn
    unfold Nd.cells at hn'
    unfold Tk.cells
    simp only [List.cons.injEq, and_true] at hn' ⊢
    obtain ⟨rfl, rfl, rfl, rfl, rfl, rfl⟩ := hn'
    simp
end
/-- A slice of tokens: its tokens. -/
theorem open_toks {H : Type} {enc : TypeId × Value → H} {W : World} {r : Reach} {b0 : Nat} {v : Value} {d : DataW H} {ps : List MemPlace} (hval : Value.okWide Tryz.prog W r b0 23 v) (h : DataW.Trod enc Tryz.prog W 0 (fun _ => true) true 23 v d ps) :
    ∃ l : List Tk, Sl (memOf W) 9 l.length v (l.flatMap Tk.cells) ∧ ∀ t ∈ l, len t.s ≤ 9223372036854775807 ∧ len t.c.s ≤ 9223372036854775807 := by
  obtain ⟨a0, n0, c0, rfl⟩ := okWide_slice Tryz.underlying23 hval
  obtain ⟨fuel, h⟩ := h
  rcases open_slice Tryz.underlying23 h with ⟨h1, _⟩ | ⟨a, ln, cap, m, n, D, Pl, h1, _, hl, hm, hmm, _, hx⟩
  · simp only [Value.cells, List.cons.injEq, Value.slice.injEq, and_true] at h1
    obtain ⟨rfl, rfl, rfl⟩ := h1
    exact ⟨[], Sl.nil _ 9, fun t ht => by cases ht⟩
  · simp only [Value.cells, List.cons.injEq, Value.slice.injEq, and_true] at h1
    obtain ⟨rfl, rfl, rfl⟩ := h1
    have ce : Tryz.prog.cellsOf 33 = 9 := by kernel_rfl
    have each : ∀ i, i < n0 → ∃ t : Tk, (len t.s ≤ 9223372036854775807 ∧ len t.c.s ≤ 9223372036854775807) ∧ ∀ j, j < 9 → W.cell? ((a.add (i * 9)).add j) = t.cells[j]? := by
      intro i hi
      have him : i < m := by rw [hmm, if_pos rfl]; omega
      obtain ⟨cs', h2, h3⟩ := hx i him
      rw [ce] at h2
      obtain ⟨_, _, hcell⟩ := World.cells?_some h2
      obtain ⟨t, rfl, h4, h5⟩ := open_tok ⟨_, h3⟩
      exact ⟨t, ⟨h4, h5⟩, hcell⟩
    obtain ⟨q, hq⟩ := choose_lt each
    have hlen : ((List.range n0).map q).length = n0 := by simp
    refine ⟨(List.range n0).map q, ⟨by rw [flat_len Tk.cells 9 Tk.cells_len], some a, c0, by rw [hlen], by rw [hlen]; exact hl, hm, fun hn => ?_⟩, fun t ht => ?_⟩
    · rw [hlen] at hn
      have hsp : a.spot = none := by
        have h0 := (hq 0 hn).2 0 (by omega)
        rw [Nat.zero_mul] at h0
        have e : (a.add 0).add 0 = a := rfl
        rw [e] at h0
        cases hs : a.spot with
        | none => rfl
        | some x =>
          unfold World.cell? at h0
          rw [hs] at h0
          split at h0 <;> simp [Tk.cells] at h0
      obtain ⟨b, o, spot⟩ := a
      have hsp : spot = none := hsp
      subst hsp
      refine ⟨b, o, rfl, fun j hj => ?_⟩
      rw [flat_len Tk.cells 9 Tk.cells_len, hlen] at hj
      have hi : j / 9 < n0 := by omega
      have hr : j % 9 < 9 := by omega
      have h1 := (hq (j / 9) hi).2 (j % 9) hr
      rw [add_none, add_none] at h1
      have hj' : o + j / 9 * 9 + j % 9 = o + j := by omega
      rw [hj'] at h1
      have h2 := flat_get Tk.cells 9 Tk.cells_len ((List.range n0).map q) (j / 9) (j % 9) (by rw [hlen]; exact hi) hr
      rw [show j / 9 * 9 + j % 9 = j from by omega] at h2
      unfold memOf
      rw [h1, h2]
      simp
    · obtain ⟨i, hi, rfl⟩ := List.mem_map.1 ht
      exact (hq i (List.mem_range.1 hi)).1
end Go.Proofs.YthdialbnlnjgpaaGreatDoor
