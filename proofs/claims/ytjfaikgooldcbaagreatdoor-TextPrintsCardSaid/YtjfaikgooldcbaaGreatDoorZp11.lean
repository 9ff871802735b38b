/-
  RIGHT VALUES ARE GOOD TREES. No program in it.
  How long texts of numbers and strings are. Plain: no program in it.
  How long a value's text is. No program in it.
-/
import Derived.Test.YtjfaikgooldcbaaGreatDoorZp8
import Derived.Test.YtjfaikgooldcbaaGreatDoorZp10
import Derived.Test.YtjfaikgooldcbaaGreatDoorZp5
import Derived.Laws.BitsLemmas
import Derived.Test.YtjfaikgooldcbaaGreatDoorZp3
import Derived.Test.YtjfaikgooldcbaaGreatDoorProg
import Derived.Test.YtjfaikgooldcbaaGreatDoorZp6
set_option linter.unusedVariables false
set_option linter.unusedSimpArgs false
namespace Go.Eng
open Go.RowKit

def nameOK (k : Int) (x : Str) : Prop := (k = 5 → x = []) ∧ utf x = true
/-- The parts' names: none in a list; valid, and rising in an object. -/
def risL (k : Int) : List Tr → Prop
  | [] => True
  | t :: ts => nameOK k t.node.name ∧ (∀ u us, ts = u :: us → k = 6 → Op.bytesLess t.node.name u.node.name = true) ∧ risL k ts
mutual
def Tr.good : Tr → Prop
  | .mk n ps => plainB n = true ∧ n.many = len ps ∧ risL n.kind ps ∧ goodL ps
def goodL : List Tr → Prop
  | [] => True
  | t :: ts => t.good ∧ goodL ts
end
mutual
theorem Tr.good_wf : {t : Tr} → t.good → t.wf
  | .mk n ps, h => by rw [Tr.good] at h; rw [Tr.wf]; exact ⟨h.2.1, goodL_wf h.2.2.2⟩
theorem goodL_wf : {l : List Tr} → goodL l → wfL l
  | [], _ => trivial
  | t :: ts, h => by rw [goodL] at h; rw [wfL]; exact ⟨Tr.good_wf h.1, goodL_wf h.2⟩
end
theorem risF_iff {v : Vl} {a : Int} : ∀ (us : List Tr) (k i : Int), SegL v i us → wfL us → len us = (at' v a).many - k → 0 ≤ k → (risF us.length v a k i = true ↔ risL (at' v a).kind us)
  | [], k, i, _, _, _, _ => by simp [risF, risL]
  | u :: us, k, i, hs, hw, hl, h0 => by
    have h1 := hs.first.node.2.2
    have hn := nextV_seg hs.first hw.1
    rw [len_cons] at hl
    have ih := risF_iff (v := v) (a := a) us (k + 1) (i + u.size) hs.rest hw.2 (by omega) (by omega)
    rw [List.length_cons, risF, risL, h1, hn]
    by_cases hA : ((at' v a).kind = 5 ∧ u.node.name ≠ []) ∨ utf u.node.name = false
    · rw [if_pos hA]
      refine ⟨fun h => (by cases h), fun h => ?_⟩
      rcases hA with ⟨h2, h3⟩ | h2
      · exact absurd (h.1.1 h2) h3
      · rw [h.1.2] at h2; cases h2
    · rw [if_neg hA]
      have hA' : nameOK (at' v a).kind u.node.name := by
        refine ⟨fun h => ?_, ?_⟩
        · by_cases hx : u.node.name = []
          · exact hx
          · exact absurd (.inl ⟨h, hx⟩) hA
        · cases hu : utf u.node.name with
          | true => rfl
          | false => exact absurd (.inr hu) hA
      by_cases hB : (at' v a).kind = 6 ∧ k + 1 < (at' v a).many ∧ Op.bytesLess u.node.name (at' v (i + u.size)).name = false
      · rw [if_pos hB]
        refine ⟨fun h => (by cases h), fun h => ?_⟩
        cases us with
        | nil => rw [len_nil] at hl; omega
        | cons w ws =>
          have h3 := h.2.1 w ws rfl hB.1
          rw [hs.rest.first.node.2.2, h3] at hB; cases hB.2.2
      · rw [if_neg hB, ih]
        refine ⟨fun h => ⟨hA', fun w ws e h6 => ?_, h⟩, fun h => h.2.2⟩
        subst e
        have h4 := hs.rest.first.node.2.2
        cases hc : Op.bytesLess u.node.name w.node.name with
        | true => rfl
        | false =>
          refine absurd ⟨h6, ?_, ?_⟩ hB
          · rw [len_cons] at hl; have := len_nonneg ws; omega
          · rw [h4]; exact hc
theorem risB_iff {v : Vl} {a : Int} {t : Tr} (hs : SegAt v a t) (hw : t.wf) : risB v a = true ↔ risL t.node.kind t.parts := by
  obtain ⟨n, ps⟩ := t
  have hh := hs.head
  rw [Tr.wf] at hw
  have hp := len_nonneg ps
  have := risF_iff (v := v) (a := a) ps 0 (a + 1) hs.kids hw.2 (by rw [hh.2.2]; omega) (by omega)
  unfold risB
  rw [hh.2.2] at this ⊢
  rw [show n.many.toNat = ps.length by unfold len at hw; omega]
  exact this
theorem allF_iff {v : Vl} : ∀ (f : Nat) (i : Int), len v + 1 ≤ f + i → (allF f v i = true ↔ ∀ j, i ≤ j → j < len v → plainB (at' v j) = true ∧ risB v j = true)
  | 0, i, hf => by
    refine ⟨fun _ j h1 h2 => by omega, fun _ => rfl⟩
  | f + 1, i, hf => by
    rw [allF]
    by_cases h1 : len v ≤ i
    · rw [if_pos h1]; exact ⟨fun _ j h2 h3 => by omega, fun _ => rfl⟩
    · rw [if_neg h1]
      have ih := allF_iff (v := v) f (i + 1) (by omega)
      by_cases h2 : plainB (at' v i) = false ∨ risB v i = false
      · rw [if_pos h2]
        refine ⟨fun h => (by cases h), fun h => ?_⟩
        have := h i (Int.le_refl _) (by omega)
        rcases h2 with h2 | h2
        · rw [this.1] at h2; cases h2
        · rw [this.2] at h2; cases h2
      · rw [if_neg h2, ih]
        refine ⟨fun h j h3 h4 => ?_, fun h j h3 h4 => h j (by omega) h4⟩
        rcases Int.lt_or_eq_of_le h3 with h5 | rfl
        · exact h j (by omega) h4
        · constructor
          · cases hx : plainB (at' v i) with
            | true => rfl
            | false => exact absurd (.inl hx) h2
          · cases hx : risB v i with
            | true => rfl
            | false => exact absurd (.inr hx) h2
theorem good_of {v : Vl} (ha : ∀ j, 0 ≤ j → j < len v → plainB (at' v j) = true ∧ risB v j = true) : ∀ (n : Nat) (ts : List Tr) (i : Int), sizeL ts = n → wfL ts → SegL v i ts → goodL ts := by
  intro n
  induction n using Nat.strongRecOn with
  | _ n ih =>
    intro ts i hn hw hs
    cases ts with
    | nil => trivial
    | cons t ts =>
      obtain ⟨nd, ps⟩ := t
      have hh := hs.first.head
      rw [wfL] at hw
      have hb := ha i hh.1 hh.2.1
      rw [hh.2.2] at hb
      have hr := (risB_iff hs.first hw.1).1 hb.2
      rw [sizeL, Tr.size] at hn
      rw [Tr.wf] at hw
      rw [goodL, Tr.good]
      exact ⟨⟨hb.1, hw.1.1, hr, ih (sizeL ps) (by omega) ps (i + 1) rfl hw.1.2 hs.first.kids⟩, ih (sizeL ts) (by omega) ts _ rfl hw.2 hs.rest⟩
theorem of_good {v : Vl} : ∀ (n : Nat) (ts : List Tr) (i : Int), sizeL ts = n → goodL ts → SegL v i ts → ∀ j, i ≤ j → j < i + n → plainB (at' v j) = true ∧ risB v j = true := by
  intro n
  induction n using Nat.strongRecOn with
  | _ n ih =>
    intro ts i hn hg hs j h1 h2
    cases ts with
    | nil => rw [sizeL] at hn; omega
    | cons t ts =>
      obtain ⟨nd, ps⟩ := t
      have hh := hs.first.head
      have hg0 := hg
      rw [goodL] at hg
      have hw := Tr.good_wf hg.1
      have hg1 := hg.1
      rw [Tr.good] at hg1
      rw [sizeL, Tr.size] at hn
      rcases Int.lt_or_eq_of_le h1 with h3 | rfl
      · rcases Int.lt_or_le j (i + 1 + sizeL ps) with h4 | h4
        · exact ih (sizeL ps) (by omega) ps (i + 1) rfl hg1.2.2.2 hs.first.kids j (by omega) (by omega)
        · exact ih (sizeL ts) (by omega) ts _ rfl hg.2 hs.rest j (by rw [Tr.size]; omega) (by rw [Tr.size]; omega)
      · rw [hh.2.2]
        exact ⟨hg1.1, (risB_iff hs.first hw).2 hg1.2.2.1⟩
/-- A right value is a good tree without a name. -/
theorem right_good {v : Vl} (h : rightB v = true) : ∃ t : Tr, v = t.flat ∧ t.good ∧ t.node.name = [] := by
  unfold rightB at h
  split at h
  · cases h
  · rename_i hn
    have h1 : v ≠ [] := fun e => hn (.inl e)
    have h2 : (at' v 0).name = [] := by
      by_cases hx : (at' v 0).name = []
      · exact hx
      · exact absurd (.inr (.inl hx)) hn
    have h3 : nextV v 0 = len v := by
      by_cases hx : nextV v 0 = len v
      · exact hx
      · exact absurd (.inr (.inr hx)) hn
    obtain ⟨t, hw, rfl⟩ := tree_of_next h3 h1
    have ha := (allF_iff (v := t.flat) _ 0 (by unfold len; omega)).1 h
    have := good_of (fun j h4 h5 => ha j h4 h5) _ [t] 0 rfl ⟨hw, trivial⟩ (SegL.one (SegAt.top t))
    exact ⟨t, rfl, this.1, by rw [← Tr.at0]; exact h2⟩
theorem good_right {t : Tr} (hg : t.good) (hn : t.node.name = []) : rightB t.flat = true := by
  unfold rightB
  rw [if_neg]
  · refine (allF_iff (v := t.flat) _ 0 (by unfold len; omega)).2 fun j h1 h2 => ?_
    exact of_good _ [t] 0 rfl ⟨hg, trivial⟩ (SegL.one (SegAt.top t)) j h1 (by unfold len at h2; rw [Tr.flat_len] at h2; simp only [sizeL]; omega)
  · rintro (h | h | h)
    · exact t.flat_ne h
    · exact h (by rw [Tr.at0]; exact hn)
    · refine h ?_
      rw [nextV_seg (SegAt.top t) (Tr.good_wf hg)]
      unfold len; rw [Tr.flat_len]; omega
theorem plain_scalar {n : Nd} (h : plainB n = true) (hk : n.kind < 5) : n.many = 0 ∧ -1000000 ≤ n.e ∧ n.e ≤ 1000000 := by
  unfold plainB at h
  split at h
  · rw [decide_eq_true_eq] at h
    have e := congrArg Nd.many h; have e2 := congrArg Nd.e h
    exact ⟨e, by have : n.e = 0 := e2; omega, by have : n.e = 0 := e2; omega⟩
  split at h
  · obtain ⟨h1, _, _, h2, h3, _⟩ := right_open h
    have e := congrArg Nd.many h1
    exact ⟨e, by have : -1000 ≤ n.e := h2; omega, by have : n.e ≤ 1000 := h3; omega⟩
  split at h
  · simp only [Bool.and_eq_true, decide_eq_true_eq] at h
    have e := congrArg Nd.many h.2; have e2 := congrArg Nd.e h.2
    exact ⟨e, by have : n.e = 0 := e2; omega, by have : n.e = 0 := e2; omega⟩
  split at h
  · omega
  · cases h
theorem plain_many {n : Nd} (h : plainB n = true) (hk : ¬ n.kind < 5) : (n.kind = 5 ∨ n.kind = 6) ∧ n.e = 0 ∧ bareN n = ⟨n.kind, n.many, [], [], false, 0⟩ := by
  unfold plainB at h
  split at h
  · omega
  split at h
  · omega
  split at h
  · omega
  split at h
  · simp only [Bool.and_eq_true, decide_eq_true_eq] at h
    have e2 := congrArg Nd.e h.2
    exact ⟨by assumption, e2, h.2⟩
  · cases h
/-- Texts no longer than so. -/
def shortV (q : Int) (v : Vl) : Prop := ∀ n ∈ v, len n.s ≤ q ∧ len n.name ≤ q
mutual
theorem Tr.good_ok : {t : Tr} → t.good → shortV 1099511627776 t.flat → t.ok
  | .mk n ps, h, hs => by
    rw [Tr.good] at h
    rw [Tr.flat] at hs
    have h1 := hs n List.mem_cons_self
    rw [Tr.ok]
    have hp := len_nonneg ps
    by_cases hk : n.kind < 5
    · have h2 := plain_scalar h.1 hk
      exact ⟨fun _ => len_zero.1 (by omega), fun h3 => by omega, ⟨h1.1, h1.2, h2.2.1, h2.2.2⟩, goodL_ok h.2.2.2 fun m hm => hs m (List.mem_cons_of_mem _ hm)⟩
    · have h2 := plain_many h.1 hk
      exact ⟨fun h3 => absurd h3 hk, fun _ => h.2.1, ⟨h1.1, h1.2, by omega, by omega⟩, goodL_ok h.2.2.2 fun m hm => hs m (List.mem_cons_of_mem _ hm)⟩
theorem goodL_ok : {l : List Tr} → goodL l → shortV 1099511627776 (flatL l) → okL l
  | [], _, _ => trivial
  | t :: ts, h, hs => by
    rw [goodL] at h; rw [okL]
    rw [flatL] at hs
    exact ⟨Tr.good_ok h.1 fun m hm => hs m (List.mem_append.2 (.inl hm)), goodL_ok h.2 fun m hm => hs m (List.mem_append.2 (.inr hm))⟩
end
end Go.Eng
namespace Go.Eng
open Go.RowKit

theorem print1_len {n : Nd} (h : -1000000 ≤ n.e ∧ n.e ≤ 1000000) : 0 ≤ len (print1 n) ∧ len (print1 n) ≤ 2 * len n.s + 1000100 := by
  have h0 := len_nonneg n.s
  have h1 := zeros_len' n.e
  have h2 := zeros_len' (1 - n.e - len n.s)
  have h3 := itoa_len n.e
  have h4 := sub_bd (zeros (1 - n.e - len n.s) ++ n.s) 0 (len (zeros (1 - n.e - len n.s) ++ n.s) + n.e)
  have h5 := from_bd (zeros (1 - n.e - len n.s) ++ n.s) (len (zeros (1 - n.e - len n.s) ++ n.s) + n.e)
  have h6 := len_app (zeros (1 - n.e - len n.s)) n.s
  have hs : len (if n.neg = true then ([45] : Str) else []) ≤ 1 ∧ 0 ≤ len (if n.neg = true then ([45] : Str) else []) := by split <;> decide
  unfold print1
  dsimp only
  split
  · rw [len_cons, len_nil]; omega
  · split
    · rename_i hc
      simp only [Bool.and_eq_true, decide_eq_true_eq] at hc
      rw [len_app, len_app]; omega
    · split
      · rename_i hc
        simp only [Bool.and_eq_true, decide_eq_true_eq] at hc
        rw [len_app, len_app, len_app, len_cons, len_nil]; omega
      · rw [len_app, len_app, len_app, len_cons, len_nil]; omega
theorem qOne_len (r : Int) : 0 ≤ len (qOne r) ∧ len (qOne r) ≤ 6 := by
  have := Lib.encodeRuneZ_length r
  unfold qOne
  split
  · simp only [len_cons, len_nil]; omega
  · split
    · simp only [len_cons, len_nil]; omega
    · unfold Lib.encodeRune len; rw [List.length_map]; omega
theorem qFrom_len (s : Str) (i : Int) (h0 : 0 ≤ i) (h1 : i ≤ len s) : len (qFrom s i) ≤ 6 * (len s - i) := by
  by_cases h : i < len s
  · have hb := runeLen_bd h0 h
    have ih := qFrom_len s (i + runeLen s i) (by omega) (by omega)
    have := qOne_len (runeAt s i)
    rw [qFrom_step h0 h, len_app]; omega
  · rw [qFrom_end h, len_nil]; omega
termination_by (len s - i).toNat
decreasing_by have hb := runeLen_bd h0 h; omega
theorem quoteP_len (s : Str) : 2 ≤ len (quoteP s) ∧ len (quoteP s) ≤ 6 * len s + 2 := by
  have := qFrom_len s 0 (Int.le_refl 0) (len_nonneg s)
  have h0 := len_nonneg (qFrom s 0)
  unfold quoteP
  rw [len_app, len_cons, len_cons, len_nil]; omega
end Go.Eng
namespace Go.Eng
open Go.RowKit

theorem print1_pos (n : Nd) : 1 ≤ len (print1 n) := by
  unfold print1
  dsimp only
  split
  · decide
  · rename_i h
    have hs : 1 ≤ len n.s := by
      cases hn : n.s with
      | nil => rw [hn] at h; exact absurd rfl h
      | cons a l => rw [len_cons]; have := len_nonneg l; omega
    have h1 := len_nonneg (if n.neg = true then [45] else ([] : Str))
    split
    · simp only [len_app]; have := len_nonneg (zeros n.e); omega
    split
    · simp only [len_app, len_cons, len_nil]
      have h2 := len_nonneg (Eng.sub (zeros (1 - n.e - len n.s) ++ n.s) 0 (len (zeros (1 - n.e - len n.s)) + len n.s + n.e))
      have h3 := len_nonneg (from' (zeros (1 - n.e - len n.s) ++ n.s) (len (zeros (1 - n.e - len n.s)) + len n.s + n.e))
      omega
    · simp only [len_app, len_cons, len_nil]; have := len_nonneg (Lib.itoa n.e); omega
theorem scalar_bd {n : Nd} (h : plainB n = true) (hk : n.kind < 5) (hs : len n.s ≤ 200) : 1 ≤ len (scalarP n) ∧ len (scalarP n) ≤ 1000500 := by
  unfold scalarP
  have hq := quoteP_len n.s
  split
  · exact ⟨by decide, by decide⟩
  split
  · exact ⟨by decide, by decide⟩
  split
  · exact ⟨by decide, by decide⟩
  split
  · rename_i h0 h1 h2 h3
    unfold plainB at h
    rw [if_neg (by omega), if_pos h3] at h
    have h4 : 1 ≤ len (print1 (bareN n)) := print1_pos _
    have h5 : print1 (bareN n) = print1 n := rfl
    have h6 := plain_scalar (n := n) (by unfold plainB; rw [if_neg (by omega), if_pos h3]; exact h) hk
    have h7 := print1_len (n := n) h6.2
    rw [h5] at h4
    exact ⟨h4, by omega⟩
  · exact ⟨by omega, by omega⟩
theorem lineP_bd (ln : Bool) {d : Int} (h0 : 0 ≤ d) (h1 : d ≤ 1000000) : 0 ≤ len (lineP ln d) ∧ len (lineP ln d) ≤ 2000001 := by
  unfold lineP
  have := twoN_len d.toNat
  split
  · rw [len_cons]; omega
  · exact ⟨Int.le_refl _, by rw [len_nil]; omega⟩
mutual
theorem prt_bd {ln : Bool} : {d : Int} → {t : Tr} → t.good → shortV 200 t.flat → 0 ≤ d → d + t.size ≤ 1000000 → t.size ≤ len (prt ln d t) ∧ len (prt ln d t) + 4000000 ≤ 10000000 * (t.size : Int)
  | d, .mk n ps, h, hs, h0, h1 => by
    rw [Tr.good] at h
    rw [Tr.flat] at hs
    have hn := hs n List.mem_cons_self
    rw [Tr.size] at h1 ⊢
    rw [prt]
    by_cases hk : n.kind < 5
    · rw [if_pos hk]
      have h2 := scalar_bd h.1 hk hn.1
      have h3 := plain_scalar h.1 hk
      have : ps = [] := len_zero.1 (by have := len_nonneg ps; omega)
      subst this
      simp only [sizeL]; omega
    · rw [if_neg hk]
      have h2 := prtL_bd (ln := ln) (d := d) (ob := n.kind == 6) (f := true) h.2.2.2 (fun m hm => hs m (List.mem_cons_of_mem _ hm)) h0 (by omega)
      have h3 := lineP_bd ln h0 (by omega)
      have h4 : 0 ≤ len (if ps.isEmpty = true then [] else lineP ln d) ∧ len (if ps.isEmpty = true then [] else lineP ln d) ≤ 2000001 := by
        split
        · exact ⟨by rw [len_nil]; omega, by rw [len_nil]; omega⟩
        · exact h3
      simp only [List.cons_append, len_cons, len_app, len_nil]
      omega
theorem prtL_bd {ln : Bool} : {d : Int} → {ob f : Bool} → {ts : List Tr} → goodL ts → shortV 200 (flatL ts) → 0 ≤ d → d + 1 + sizeL ts ≤ 1000000 → sizeL ts ≤ len (prtL ln d ob f ts) ∧ len (prtL ln d ob f ts) ≤ 10000000 * (sizeL ts : Int)
  | d, ob, f, [], _, _, _, _ => by rw [prtL, sizeL, len_nil]; omega
  | d, ob, f, t :: ts, h, hs, h0, h1 => by
    rw [goodL] at h
    rw [flatL] at hs
    rw [sizeL] at h1 ⊢
    rw [prtL]
    have h2 := prt_bd (ln := ln) (d := d + 1) h.1 (fun m hm => hs m (List.mem_append.2 (.inl hm))) (by omega) (by omega)
    have h3 := prtL_bd (ln := ln) (d := d) (ob := ob) (f := false) h.2 (fun m hm => hs m (List.mem_append.2 (.inr hm))) h0 (by omega)
    have h4 := lineP_bd ln (d := d + 1) (by omega) (by omega)
    have h5 : 0 ≤ len (if f = true then ([] : Str) else [44]) ∧ len (if f = true then ([] : Str) else [44]) ≤ 1 := by split <;> exact ⟨by decide, by decide⟩
    have hnm : len t.node.name ≤ 200 := by
      obtain ⟨n, ps⟩ := t
      exact (hs n (List.mem_append.2 (.inl (by rw [Tr.flat]; exact List.mem_cons_self)))).2
    have h6 : 0 ≤ len (if ob = true then nameP ln t.node else []) ∧ len (if ob = true then nameP ln t.node else []) ≤ 1204 := by
      have hq := quoteP_len t.node.name
      split
      · unfold nameP; rw [len_app, len_cons]
        split
        · rw [len_cons, len_nil]; omega
        · rw [len_nil]; omega
      · exact ⟨by rw [len_nil]; omega, by rw [len_nil]; omega⟩
    simp only [len_app]
    omega
end
theorem prt_ne {ln : Bool} {t : Tr} (h : t.good) (hs : shortV 200 t.flat) (hz : t.size ≤ 1000000) : prt ln 0 t ≠ [] := by
  intro e
  have := (prt_bd (ln := ln) (d := 0) h hs (Int.le_refl _) (by omega)).1
  rw [e, len_nil] at this
  have := t.size_pos; omega
theorem shortV.mono {a b : Int} (h : a ≤ b) {v : Vl} (hs : shortV a v) : shortV b v := fun n hn => by have := hs n hn; omega
theorem goodL_mem {u : Tr} : ∀ {l : List Tr}, goodL l → u ∈ l → u.good
  | t :: l, h, hm => by
    rw [goodL] at h
    rcases List.mem_cons.1 hm with rfl | hm
    · exact h.1
    · exact goodL_mem h.2 hm
theorem goodL_app {a b : List Tr} : goodL (a ++ b) ↔ goodL a ∧ goodL b := by
  induction a with
  | nil => simp [goodL]
  | cons x a ih => rw [List.cons_append, goodL, goodL, ih, and_assoc]
theorem Tr.named_good {x : Str} {t : Tr} (h : t.good) : (t.named x).good := by
  obtain ⟨n, ps⟩ := t
  rw [Tr.good] at h
  rw [Tr.named, Tr.good]
  exact h
theorem Tr.parts_good {t : Tr} (h : t.good) : goodL t.parts := by obtain ⟨n, ps⟩ := t; rw [Tr.good] at h; exact h.2.2.2
theorem flatL_mem {u : Tr} {n : Nd} : ∀ {l : List Tr}, u ∈ l → n ∈ u.flat → n ∈ flatL l
  | t :: l, h, hn => by
    rw [flatL]
    rcases List.mem_cons.1 h with rfl | h
    · exact List.mem_append.2 (.inl hn)
    · exact List.mem_append.2 (.inr (flatL_mem h hn))
theorem Tr.flat_parts {t : Tr} {n : Nd} (h : n ∈ flatL t.parts) : n ∈ t.flat := by obtain ⟨m, ps⟩ := t; rw [Tr.flat]; exact List.mem_cons_of_mem _ h
theorem short_kid {t u : Tr} {q : Int} (h0 : 0 ≤ q) (hs : shortV q t.flat) (hu : u ∈ t.parts) : shortV q (u.named []).flat := by
  intro n hn
  have key : ∀ m ∈ u.flat, len m.s ≤ q ∧ len m.name ≤ q := fun m hm => hs m (Tr.flat_parts (flatL_mem hu hm))
  obtain ⟨m, ps⟩ := u
  rw [Tr.named, Tr.flat] at hn
  rw [Tr.flat] at key
  rcases List.mem_cons.1 hn with rfl | hn
  · exact ⟨(key m List.mem_cons_self).1, by show len ([] : Str) ≤ q; rw [len_nil]; exact h0⟩
  · exact key n (List.mem_cons_of_mem _ hn)
theorem risL_mem {k : Int} {u : Tr} : ∀ {l : List Tr}, risL k l → u ∈ l → nameOK k u.node.name
  | t :: l, h, hm => by
    rw [risL] at h
    rcases List.mem_cons.1 hm with rfl | hm
    · exact h.1
    · exact risL_mem h.2.2 hm
theorem kid_name {t u : Tr} (h : t.good) (hu : u ∈ t.parts) : nameOK t.node.kind u.node.name := by
  obtain ⟨n, ps⟩ := t
  rw [Tr.good] at h
  exact risL_mem h.2.2.1 hu
theorem kidNs_at {t u : Tr} {k : Int} (h6 : t.node.kind = 6) (hu : t.parts[k.toNat]? = some u) : at' (kidNs t) k = u.node.name := by
  unfold kidNs at'
  rw [if_pos h6, List.getD_eq_getElem?_getD, List.getElem?_map, hu]; rfl
theorem kidNs_len {t : Tr} : len (kidNs t) = if t.node.kind = 6 then len t.parts else 0 := by
  unfold kidNs
  split
  · unfold len; rw [List.length_map]
  · rfl
theorem Tr.good_node {t : Tr} (h : t.good) : plainB t.node = true := by obtain ⟨n, ps⟩ := t; rw [Tr.good] at h; exact h.1
theorem Tr.short_node {t : Tr} {q : Int} (hs : shortV q t.flat) : len t.node.s ≤ q ∧ len t.node.name ≤ q := by obtain ⟨n, ps⟩ := t; rw [Tr.flat] at hs; exact hs n List.mem_cons_self
theorem plain_kind {n : Nd} (h : plainB n = true) : 0 ≤ n.kind ∧ n.kind ≤ 6 := by
  unfold plainB at h
  split at h
  · omega
  split at h
  · omega
  split at h
  · omega
  split at h
  · omega
  · cases h
theorem plain_utf {n : Nd} (h : plainB n = true) (hk : n.kind = 4) : utf n.s = true := by
  unfold plainB at h
  rw [if_neg (by omega), if_neg (by omega), if_pos hk] at h
  simp only [Bool.and_eq_true] at h
  exact h.1
end Go.Eng
namespace Go.Proofs.YtjfaikgooldcbaaGreatDoor
open Go.Eng

/- loupe/louperef04.Blank -/
set_option maxRecDepth 100000 in
theorem blank_c (s : Str) (i : Int) (w : World) (h0 : 0 ≤ i) (h1 : i ≤ len s) (hb : len s ≤ 9223372036854775807) :
  Calls Tryz.prog 30 [(str s), (i64 i)].toArray w fun e w' => e = .returned (i64 (blankTo s i)) ∧ w' = w := by
 refine CW.enter1 Tryz.func30 rfl Tryz.ntmps30 (Nat.le_of_ble_eq_true rfl) fun Q hE => ?_
 refine CW.weaken [0, 1] (L' := [Y 0 (str s), Y 1 (i64 i)]) ?_ rfl
 refine CW.sr ?_
 refine RL.u (.assign .c) rfl ?_
 refine RL.nil (CW.id ?_)
 refine CW.seq ?_
 refine CW.block ?_
 refine CW.loop (σ := Int) (fun k => [Y 0 (str s), Y 1 (i64 k)]) (fun k wl => w = wl ∧ i ≤ k ∧ k ≤ len s ∧ blankTo s k = blankTo s i) (fun k => (len s - k).toNat) i [0, 1] rfl ?_ ?_
 ·exact ⟨rfl, by omega, by omega, rfl⟩
 ·rintro k wl ⟨rfl, hk0, hk1, hkF⟩
  have hby := byteAt_bd s k
  refine CW.seq ?_
  refine CW.sr ?_
  refine RL.m rfl rfl (RL.m rfl rfl (RL.u (.lenS (.t rfl) Tryz.underlying9) rfl (RL.u (.lss (.t rfl) (.t rfl)) rfl (RL.m rfl rfl (RL.v (.pos rfl rfl) (.move (.t rfl)) rfl ?_)))))
  refine RL.v (.pos rfl rfl) (.move (.t rfl)) rfl (RL.v (.pos rfl rfl) (.idxS (.g rfl (fun h => h)) (.g rfl (fun h => h)) Tryz.underlying9 (fun hW => by simp only [zb] at hW; omega)) rfl (RL.v (.pos rfl rfl) (.eql (.g rfl (fun h => h)) .c) rfl (RL.v (.pos rfl rfl) (.move (.g rfl (fun h => h))) rfl (RL.v (.negG rfl rfl) (.move (.t rfl)) rfl (RL.v (.negG rfl rfl) (.move (.t rfl)) rfl ?_)))))
  refine RL.v (.negG rfl rfl) (.idxS (.g rfl (fun h => h)) (.g rfl (fun h => h)) Tryz.underlying9 (fun hW => by simp only [zb] at hW; omega)) rfl (RL.v (.negG rfl rfl) (.eql (.g rfl (fun h => h)) .c) rfl (RL.v (.pos rfl rfl) (.or (.g rfl (fun h => h)) (.g rfl (fun h => h))) rfl (RL.v (.pos rfl rfl) (.move (.g rfl (fun h => h))) rfl (RL.v (.negG rfl rfl) (.move (.t rfl)) rfl (RL.v (.negG rfl rfl) (.move (.t rfl)) rfl ?_)))))
  refine RL.v (.negG rfl rfl) (.idxS (.g rfl (fun h => h)) (.g rfl (fun h => h)) Tryz.underlying9 (fun hW => by simp only [zb] at hW; omega)) rfl (RL.v (.negG rfl rfl) (.eql (.g rfl (fun h => h)) .c) rfl (RL.v (.pos rfl rfl) (.or (.g rfl (fun h => h)) (.g rfl (fun h => h))) rfl (RL.v (.pos rfl rfl) (.move (.g rfl (fun h => h))) rfl (RL.v (.negG rfl rfl) (.move (.t rfl)) rfl (RL.v (.negG rfl rfl) (.move (.t rfl)) rfl ?_)))))
  refine RL.v (.negG rfl rfl) (.idxS (.g rfl (fun h => h)) (.g rfl (fun h => h)) Tryz.underlying9 (fun hW => by simp only [zb] at hW; omega)) rfl (RL.v (.negG rfl rfl) (.eql (.g rfl (fun h => h)) .c) rfl (RL.v (.pos rfl rfl) (.or (.g rfl (fun h => h)) (.g rfl (fun h => h))) rfl (RL.u (.and (.t rfl) (.g rfl (fun h => h))) rfl ?_)))
  refine RL.nil (CW.id ?_)
  refine CW.cond rfl (fun hb1 => ?_) (fun hb1 => ?_)
  ·try simp only [zb] at hb1
   refine CW.skip (CW.id ?_)
   refine CW.block ?_
   refine CW.region ?_
   refine RL.m rfl rfl (RL.u (.add (.t rfl) .c (fun _ => by omega)) rfl (RL.a rfl rfl ?_))
   refine RL.nil fun a hs => Exists.intro (k + 1) ⟨hs.keep [0, 1], ?_, ?_⟩
   ·exact ⟨rfl, by omega, by omega, by rw [← hkF, blankTo_step (by omega) (by omega) (by simp only [isBlank, zb]; simp_all)]⟩
   ·show Int.toNat _ < Int.toNat _; omega
  ·try simp only [zb] at hb1
   refine CW.exit (CW.at [Y 1 (i64 k)] rfl ?_)
   refine CW.sr ?_
   refine RL.m rfl rfl (RL.a rfl rfl ?_)
   refine RL.nil (CW.id ?_)
   refine CW.ret (hE.r1 rfl rfl ?_)
   clear hE
   have hk : k = blankTo s i := by
    rw [← hkF]
    by_cases hl : k < len s
    ·exact (blankTo_stop (by omega) hl (by simp only [isBlank, zb]; simp_all)).symm
    ·exact (blankTo_end (by omega)).symm
   exact ⟨by rw [← hk], rfl⟩

/- loupe/louperef03.hex -/
set_option maxRecDepth 100000 in
theorem hex_c (n : Int) (w : World) (h : 0 ≤ n ∧ n ≤ 15) :
  Calls Tryz.prog 122 [(i64 n)].toArray w fun e w' => e = .returned (str (hexS n)) ∧ w' = w := by
 refine CW.enter1 Tryz.func122 rfl Tryz.ntmps122 (Nat.le_of_ble_eq_true rfl) fun Q hE => ?_
 refine CW.weaken [0] (L' := [Y 0 (i64 n)]) ?_ rfl
 refine CW.sr ?_
 refine RL.u (.assign .c) rfl ?_
 refine RL.nil (CW.id ?_)
 refine CW.sr ?_
 refine RL.m rfl rfl (RL.m rfl rfl (RL.u (.add (.t rfl) .c (fun _ => by first | omega | (simp only [len_cons, len_nil]; omega))) rfl (RL.u (.slS .c (.t rfl) (.t rfl) Tryz.underlying9 (fun _ => by first | omega | (simp only [len_cons, len_nil]; omega))) rfl (RL.a rfl rfl ?_))))
 refine RL.nil (CW.id ?_)
 refine CW.ret (hE.r1 rfl rfl ?_)
 exact ⟨rfl, rfl⟩

/- loupe/louperef03.written -/
set_option maxRecDepth 100000 in
theorem written_c (c : Int) (w : World) (h : 0 ≤ c ∧ c ≤ 255) :
  Calls Tryz.prog 88 [(.int .u8 c)].toArray w fun e w' => e = .returned (str (writtenP c)) ∧ Ext w w' := by
 refine CW.enter1 Tryz.func88 rfl Tryz.ntmps88 (Nat.le_of_ble_eq_true rfl) fun Q hE => ?_
 have hS : St w (fun _ _ => none) w (fun _ _ => none) [] := St.start ⟨fun _ _ _ h => by cases h⟩
 refine CW.weaken [0] (L' := [Y 0 (.int .u8 c)]) ?_ rfl
 refine CW.sr ?_
 refine RL.u (.assign .c) rfl ?_
 refine RL.nil (CW.id ?_)
 refine CW.seq ?_
 refine CW.sr ?_
 refine RL.m rfl rfl ?_
 refine RL.nil (CW.id ?_)
 refine CW.block ?_
 refine CW.sr ?_
 refine RL.u (.eql (.t rfl) .c) rfl (RL.a rfl rfl ?_)
 refine RL.nil (CW.id ?_)
 refine CW.cond rfl (fun hb1 => ?_) (fun hb1 => ?_)
 ·try simp only [zb] at hb1
  refine CW.sr ?_
  refine RL.u (.assign .c) rfl ?_
  refine RL.nil (CW.id ?_)
  refine CW.ret (hE.r1 rfl rfl ?_)
  clear hE
  refine ⟨congrArg (fun x => Ending.returned (str x)) ?_, hS.low⟩
  unfold writtenP; simp_all
  try (intro h; omega)
 ·try simp only [zb] at hb1
  refine CW.sr ?_
  refine RL.u (.eql (.t rfl) .c) rfl (RL.a rfl rfl ?_)
  refine RL.nil (CW.id ?_)
  refine CW.cond rfl (fun hb2 => ?_) (fun hb2 => ?_)
  ·try simp only [zb] at hb2
   refine CW.sr ?_
   refine RL.u (.assign .c) rfl ?_
   refine RL.nil (CW.id ?_)
   refine CW.ret (hE.r1 rfl rfl ?_)
   clear hE
   refine ⟨congrArg (fun x => Ending.returned (str x)) ?_, hS.low⟩
   unfold writtenP; simp_all
   try (intro h; omega)
  ·try simp only [zb] at hb2
   refine CW.sr ?_
   refine RL.u (.eql (.t rfl) .c) rfl (RL.a rfl rfl ?_)
   refine RL.nil (CW.id ?_)
   refine CW.cond rfl (fun hb3 => ?_) (fun hb3 => ?_)
   ·try simp only [zb] at hb3
    refine CW.sr ?_
    refine RL.u (.assign .c) rfl ?_
    refine RL.nil (CW.id ?_)
    refine CW.ret (hE.r1 rfl rfl ?_)
    clear hE
    refine ⟨congrArg (fun x => Ending.returned (str x)) ?_, hS.low⟩
    unfold writtenP; simp_all
    try (intro h; omega)
   ·try simp only [zb] at hb3
    refine CW.sr ?_
    refine RL.u (.eql (.t rfl) .c) rfl (RL.a rfl rfl ?_)
    refine RL.nil (CW.id ?_)
    refine CW.cond rfl (fun hb4 => ?_) (fun hb4 => ?_)
    ·try simp only [zb] at hb4
     refine CW.sr ?_
     refine RL.u (.assign .c) rfl ?_
     refine RL.nil (CW.id ?_)
     refine CW.ret (hE.r1 rfl rfl ?_)
     clear hE
     refine ⟨congrArg (fun x => Ending.returned (str x)) ?_, hS.low⟩
     unfold writtenP; simp_all
     try (intro h; omega)
    ·try simp only [zb] at hb4
     refine CW.sr ?_
     refine RL.u (.eql (.t rfl) .c) rfl (RL.a rfl rfl ?_)
     refine RL.nil (CW.id ?_)
     refine CW.cond rfl (fun hb5 => ?_) (fun hb5 => ?_)
     ·try simp only [zb] at hb5
      refine CW.sr ?_
      refine RL.u (.assign .c) rfl ?_
      refine RL.nil (CW.id ?_)
      refine CW.ret (hE.r1 rfl rfl ?_)
      clear hE
      refine ⟨congrArg (fun x => Ending.returned (str x)) ?_, hS.low⟩
      unfold writtenP; simp_all
      try (intro h; omega)
     ·try simp only [zb] at hb5
      refine CW.sr ?_
      refine RL.u (.eql (.t rfl) .c) rfl (RL.a rfl rfl ?_)
      refine RL.nil (CW.id ?_)
      refine CW.cond rfl (fun hb6 => ?_) (fun hb6 => ?_)
      ·try simp only [zb] at hb6
       refine CW.sr ?_
       refine RL.u (.assign .c) rfl ?_
       refine RL.nil (CW.id ?_)
       refine CW.ret (hE.r1 rfl rfl ?_)
       clear hE
       refine ⟨congrArg (fun x => Ending.returned (str x)) ?_, hS.low⟩
       unfold writtenP; simp_all
       try (intro h; omega)
      ·try simp only [zb] at hb6
       refine CW.sr ?_
       refine RL.u (.eql (.t rfl) .c) rfl (RL.a rfl rfl ?_)
       refine RL.nil (CW.id ?_)
       refine CW.cond rfl (fun hb7 => ?_) (fun hb7 => ?_)
       ·try simp only [zb] at hb7
        refine CW.sr ?_
        refine RL.u (.assign .c) rfl ?_
        refine RL.nil (CW.id ?_)
        refine CW.ret (hE.r1 rfl rfl ?_)
        clear hE
        refine ⟨congrArg (fun x => Ending.returned (str x)) ?_, hS.low⟩
        unfold writtenP; simp_all
        try (intro h; omega)
       ·try simp only [zb] at hb7
        refine CW.skip (CW.id ?_)
        refine CW.seq ?_
        refine CW.sr ?_
        refine RL.m rfl rfl (RL.u (.lss (.t rfl) .c) rfl ?_)
        refine RL.nil (CW.id ?_)
        refine CW.cond rfl (fun hb8 => ?_) (fun hb8 => ?_)
        ·try simp only [zb] at hb8
         refine CW.sr ?_
         refine RL.m rfl rfl (RL.u (.cvtK (r := c) (.t rfl) Tryz.underlying5 Tryz.underlying3 (fun _ => by exact Eng.wrap_i64 (by omega))) rfl (RL.u (.quo (.t rfl) .c (fun _ => by first | omega | (simp only [hexS, len_app, len_cons, len_nil]; have := sub_bd ([48, 49, 50, 51, 52, 53, 54, 55, 56, 57, 97, 98, 99, 100, 101, 102] : Str) (c / 16) (c / 16 + 1); have := sub_bd ([48, 49, 50, 51, 52, 53, 54, 55, 56, 57, 97, 98, 99, 100, 101, 102] : Str) (c % 16) (c % 16 + 1); simp only [len_cons, len_nil] at *; omega))) rfl ?_))
         refine RL.callS .none Tryz.call122 (.cons (.t rfl) .nil) (fun _ => (hex_c (c / 16) _ (by omega))) rfl ?_
         refine RL.u (.sadd .c (.t rfl) (fun _ => by first | omega | (simp only [hexS, len_app, len_cons, len_nil]; have := sub_bd ([48, 49, 50, 51, 52, 53, 54, 55, 56, 57, 97, 98, 99, 100, 101, 102] : Str) (c / 16) (c / 16 + 1); have := sub_bd ([48, 49, 50, 51, 52, 53, 54, 55, 56, 57, 97, 98, 99, 100, 101, 102] : Str) (c % 16) (c % 16 + 1); simp only [len_cons, len_nil] at *; omega))) rfl (RL.m rfl rfl (RL.u (.cvtK (r := c) (.t rfl) Tryz.underlying5 Tryz.underlying3 (fun _ => by exact Eng.wrap_i64 (by omega))) rfl (RL.u (.rem (.t rfl) .c (fun _ => by first | omega | (simp only [hexS, len_app, len_cons, len_nil]; have := sub_bd ([48, 49, 50, 51, 52, 53, 54, 55, 56, 57, 97, 98, 99, 100, 101, 102] : Str) (c / 16) (c / 16 + 1); have := sub_bd ([48, 49, 50, 51, 52, 53, 54, 55, 56, 57, 97, 98, 99, 100, 101, 102] : Str) (c % 16) (c % 16 + 1); simp only [len_cons, len_nil] at *; omega))) rfl ?_)))
         refine RL.callS .none Tryz.call122 (.cons (.t rfl) .nil) (fun _ => (hex_c (c % 16) _ (by omega))) rfl ?_
         refine RL.u (.sadd (.t rfl) (.t rfl) (fun _ => by first | omega | (simp only [hexS, len_app, len_cons, len_nil]; have := sub_bd ([48, 49, 50, 51, 52, 53, 54, 55, 56, 57, 97, 98, 99, 100, 101, 102] : Str) (c / 16) (c / 16 + 1); have := sub_bd ([48, 49, 50, 51, 52, 53, 54, 55, 56, 57, 97, 98, 99, 100, 101, 102] : Str) (c % 16) (c % 16 + 1); simp only [len_cons, len_nil] at *; omega))) rfl (RL.a rfl rfl ?_)
         refine RL.nil (CW.at [Y 2 (str (([92, 117, 48, 48] ++ (hexS (c / 16))) ++ (hexS (c % 16))))] rfl ?_)
         refine CW.ret (hE.r1 rfl rfl ?_)
         clear hE
         refine ⟨congrArg (fun x => Ending.returned (str x)) ?_, hS.low⟩
         unfold writtenP; simp_all
         try (intro h; omega)
        ·try simp only [zb] at hb8
         refine CW.skip (CW.id ?_)
         refine CW.sr ?_
         refine RL.m rfl rfl ?_
         refine RL.buildSlice (n := 1) (sz := 1) (e := 5) (vs := [(0, (.int .u8 c))]) (cs := [(.int .u8 c)]) hS (.cons (.t rfl) .nil) rfl rfl (fun w => by kernel_rfl) rfl (fun v1 w2 M3 hS4 hle5 => ?_)
         replace hS4 : St w (fun _ _ => none) w2 M3 [.own 5 1 v1 (([c] : List Int)).length ((([c] : List Int)).flatMap u8I)] := hS4
         refine RL.u (.b2s hS4 extEq (hS4.sl (i := 0) rfl) (.t rfl) Tryz.underlying63 Tryz.underlying5 Tryz.underlying9) rfl (RL.a rfl rfl ?_)
         refine RL.nil (CW.id ?_)
         refine CW.ret (hE.r1 rfl rfl ?_)
         clear hE
         refine ⟨congrArg (fun x => Ending.returned (str x)) ?_, hS4.low⟩
         unfold writtenP; simp_all
         try (intro h; omega)

/- loupe/louperef01.run -/
set_option maxRecDepth 100000 in
theorem run1_c (s : Str) (i : Int) (w : World) (h0 : 0 ≤ i) (h1 : i ≤ len s) (hb : len s ≤ 9223372036854775807) :
  Calls Tryz.prog 109 [(str s), (i64 i)].toArray w fun e w' => e = .returned (i64 (runTo s i)) ∧ w' = w := by
 refine CW.enter1 Tryz.func109 rfl Tryz.ntmps109 (Nat.le_of_ble_eq_true rfl) fun Q hE => ?_
 refine CW.weaken [0, 1] (L' := [Y 0 (str s), Y 1 (i64 i)]) ?_ rfl
 refine CW.sr ?_
 refine RL.u (.assign .c) rfl ?_
 refine RL.nil (CW.id ?_)
 refine CW.seq ?_
 refine CW.block ?_
 refine CW.loop (σ := Int) (fun k => [Y 0 (str s), Y 1 (i64 k)]) (fun k wl => w = wl ∧ i ≤ k ∧ k ≤ len s ∧ runTo s k = runTo s i) (fun k => (len s - k).toNat) i [0, 1] rfl ?_ ?_
 ·exact ⟨rfl, by omega, by omega, rfl⟩
 ·rintro k wl ⟨rfl, hk0, hk1, hkF⟩
  have hby := byteAt_bd s k
  refine CW.seq ?_
  refine CW.sr ?_
  refine RL.m rfl rfl (RL.m rfl rfl (RL.u (.lenS (.t rfl) Tryz.underlying9) rfl (RL.u (.lss (.t rfl) (.t rfl)) rfl (RL.m rfl rfl (RL.v (.pos rfl rfl) (.move (.t rfl)) rfl ?_)))))
  refine RL.v (.pos rfl rfl) (.move (.t rfl)) rfl (RL.v (.pos rfl rfl) (.idxS (.g rfl (fun h => h)) (.g rfl (fun h => h)) Tryz.underlying9 (fun hW => by simp only [zb] at hW; omega)) rfl (RL.v (.pos rfl rfl) (.geq (.g rfl (fun h => h)) .c) rfl (RL.u (.and (.t rfl) (.g rfl (fun h => h))) rfl (RL.m rfl rfl (RL.v (.pos rfl rfl) (.move (.t rfl)) rfl ?_)))))
  refine RL.v (.pos rfl rfl) (.move (.t rfl)) rfl (RL.v (.pos rfl rfl) (.idxS (.g rfl (fun h => h)) (.g rfl (fun h => h)) Tryz.underlying9 (fun hW => by simp only [zb] at hW; omega)) rfl (RL.v (.pos rfl rfl) (.leq (.g rfl (fun h => h)) .c) rfl (RL.u (.and (.t rfl) (.g rfl (fun h => h))) rfl ?_)))
  refine RL.nil (CW.id ?_)
  refine CW.cond rfl (fun hb1 => ?_) (fun hb1 => ?_)
  ·try simp only [zb] at hb1
   refine CW.skip (CW.id ?_)
   refine CW.block ?_
   refine CW.region ?_
   refine RL.m rfl rfl (RL.u (.add (.t rfl) .c (fun _ => by omega)) rfl (RL.a rfl rfl ?_))
   refine RL.nil fun a hs => Exists.intro (k + 1) ⟨hs.keep [0, 1], ?_, ?_⟩
   ·exact ⟨rfl, by omega, by omega, by rw [← hkF, runTo_step (by omega) (by omega) (by simp only [isFig, zb]; omega)]⟩
   ·show Int.toNat _ < Int.toNat _; omega
  ·try simp only [zb] at hb1
   refine CW.exit (CW.at [Y 1 (i64 k)] rfl ?_)
   refine CW.sr ?_
   refine RL.m rfl rfl (RL.a rfl rfl ?_)
   refine RL.nil (CW.id ?_)
   refine CW.ret (hE.r1 rfl rfl ?_)
   have hk : k = runTo s i := by
    rw [← hkF]
    by_cases hl : k < len s
    ·exact (runTo_stop (by omega) hl (by simp only [isFig, zb]; omega)).symm
    ·exact (runTo_end (by omega)).symm
   exact ⟨by rw [← hk], rfl⟩

/- loupe/louperef03.Quote -/
set_option maxRecDepth 100000 in
theorem quote3_c (s : Str) (w : World) (hb : len s ≤ 1099511627776) :
  Calls Tryz.prog 60 [(str s)].toArray w fun e w' => e = .returned (str (quoteR s)) ∧ Ext w w' := by
 refine CW.enter1 Tryz.func60 rfl Tryz.ntmps60 (Nat.le_of_ble_eq_true rfl) fun Q hE => ?_
 have := len_nonneg s
 have hS : St w (fun _ _ => none) w (fun _ _ => none) [] := St.start ⟨fun _ _ _ h => by cases h⟩
 refine CW.weaken [0] (L' := [Y 0 (str s)]) ?_ rfl
 refine CW.sr ?_
 refine RL.u (.assign .c) rfl ?_
 refine RL.nil (CW.id ?_)
 refine CW.sr ?_
 refine RL.u (.assign .c) rfl ?_
 refine RL.nil (CW.id ?_)
 refine CW.seq ?_
 refine CW.sr ?_
 refine RL.u (.assign .c) rfl ?_
 refine RL.nil (CW.id ?_)
 refine CW.block ?_
 refine CW.loop (σ := Int × Str) (fun (k, o) => [Y 0 (str s), Y 3 (str o), Y 4 (i64 k)]) (fun (k, o) wl => St w (fun _ _ => none) wl (fun _ _ => none) [] ∧ 0 ≤ k ∧ k ≤ len s ∧ o = 34 :: (Eng.sub s 0 k).flatMap wrB ∧ len o ≤ 6 * k + 1) (fun (k, o) => (len s - k).toNat) ((0, [34])) [0, 3, 4] rfl ?_ ?_
 ·refine ⟨hS, ?_⟩; exact ⟨by omega, by omega, rfl, by decide⟩
 ·rintro ⟨k, o⟩ wl ⟨hS1, hk0, hk1, hkF, hlen⟩
  have hwl := writtenP_len (byteAt s k)
  have hby := byteAt_bd s k
  have ho := len_nonneg o
  refine CW.seq ?_
  refine CW.sr ?_
  refine RL.m rfl rfl (RL.m rfl rfl (RL.u (.lenS (.t rfl) Tryz.underlying9) rfl (RL.u (.lss (.t rfl) (.t rfl)) rfl ?_)))
  refine RL.nil (CW.id ?_)
  refine CW.cond rfl (fun hb1 => ?_) (fun hb1 => ?_)
  ·try simp only [zb] at hb1
   refine CW.skip (CW.id ?_)
   refine CW.seq ?_
   refine CW.block ?_
   refine CW.region ?_
   refine RL.m rfl rfl (RL.m rfl rfl (RL.m rfl rfl (RL.u (.idxS (.t rfl) (.t rfl) Tryz.underlying9 (fun _ => by first | omega | (simp only [len_app, len_cons, len_nil]; omega))) rfl ?_)))
   refine RL.callE hS1 .none Tryz.call88 (.cons (.t rfl) .nil) (fun _ => (written_c (byteAt s k) _ (by omega))) rfl (fun w2 hS3 => ?_)
   refine RL.u (.sadd (.t rfl) (.t rfl) (fun _ => by first | omega | (simp only [len_app, len_cons, len_nil]; omega))) rfl (RL.a rfl rfl ?_)
   refine RL.nil (CW.at [Y 0 (str s), Y 3 (str (o ++ (writtenP (byteAt s k)))), Y 4 (i64 k)] rfl ?_)
   refine CW.region ?_
   refine RL.m rfl rfl (RL.u (.add (.t rfl) .c (fun _ => by first | omega | (simp only [len_app, len_cons, len_nil]; omega))) rfl (RL.a rfl rfl ?_))
   refine RL.nil fun a hs => Exists.intro ((k + 1, o ++ writtenP (byteAt s k))) ⟨hs.keep [0, 3, 4], ?_, ?_⟩
   ·refine ⟨hS3, ?_⟩
    exact ⟨by omega, by omega, quote_step hk0 hb1 hkF, by rw [len_app]; omega⟩
   ·show Int.toNat _ < Int.toNat _; omega
  ·try simp only [zb] at hb1
   refine CW.exit (CW.at [Y 3 (str o)] rfl ?_)
   refine CW.sr ?_
   refine RL.m rfl rfl (RL.u (.sadd (.t rfl) .c (fun _ => by first | omega | (simp only [len_app, len_cons, len_nil]; omega))) rfl (RL.a rfl rfl ?_))
   refine RL.nil (CW.id ?_)
   refine CW.ret (hE.r1 rfl rfl ?_)
   exact ⟨by unfold quoteR; rw [hkF, sub_all _ _ (by omega)], hS1.low⟩

/- loupe/louperef03.utf -/
set_option maxRecDepth 100000 in
theorem utf3_c (n : Int) (w : World) (h : 0 ≤ n ∧ n ≤ 1114111) (hs : n < 55296 ∨ 57343 < n) :
  Calls Tryz.prog 137 [(i64 n)].toArray w fun e w' => e = .returned (str (toStr (Lib.encodeRuneZ n))) ∧ Ext w w' := by
 refine CW.enter1 Tryz.func137 rfl Tryz.ntmps137 (Nat.le_of_ble_eq_true rfl) fun Q hE => ?_
 have hS : St w (fun _ _ => none) w (fun _ _ => none) [] := St.start ⟨fun _ _ _ h => by cases h⟩
 refine CW.weaken [0] (L' := [Y 0 (i64 n)]) ?_ rfl
 refine CW.sr ?_
 refine RL.u (.assign .c) rfl ?_
 refine RL.nil (CW.id ?_)
 refine CW.seq ?_
 refine CW.sr ?_
 refine RL.m rfl rfl (RL.u (.lss (.t rfl) .c) rfl ?_)
 refine RL.nil (CW.id ?_)
 refine CW.cond rfl (fun hb1 => ?_) (fun hb1 => ?_)
 ·try simp only [zb] at hb1
  refine CW.sr ?_
  refine RL.m rfl rfl (RL.u (.cvtK (r := n) (.t rfl) Tryz.underlying3 Tryz.underlying5 (fun _ => by exact Eng.wrap_u8 (by omega))) rfl ?_)
  refine RL.buildSlice (n := 1) (sz := 1) (e := 5) (vs := [(0, (.int .u8 n))]) (cs := [(.int .u8 n)]) hS (.cons (.t rfl) .nil) rfl rfl (fun w => by kernel_rfl) rfl (fun v1 w2 M3 hS4 hle5 => ?_)
  replace hS4 : St w (fun _ _ => none) w2 M3 [.own 5 1 v1 (([n] : List Int)).length ((([n] : List Int)).flatMap u8I)] := hS4
  refine RL.u (.b2s hS4 extEq (hS4.sl (i := 0) rfl) (.t rfl) Tryz.underlying63 Tryz.underlying5 Tryz.underlying9) rfl (RL.a rfl rfl ?_)
  refine RL.nil (CW.id ?_)
  refine CW.ret (hE.r1 rfl rfl ?_)
  refine ⟨?_, hS4.low⟩
  rw [show Lib.encodeRuneZ n = _ from Lib.encodeRuneZ_one (by omega) (by omega)]
 ·try simp only [zb] at hb1
  refine CW.skip (CW.id ?_)
  refine CW.seq ?_
  refine CW.sr ?_
  refine RL.m rfl rfl (RL.u (.lss (.t rfl) .c) rfl ?_)
  refine RL.nil (CW.id ?_)
  refine CW.cond rfl (fun hb2 => ?_) (fun hb2 => ?_)
  ·try simp only [zb] at hb2
   refine CW.sr ?_
   refine RL.m rfl rfl (RL.u (.quo (.t rfl) .c (fun _ => by omega)) rfl (RL.u (.add .c (.t rfl) (fun _ => by omega)) rfl (RL.u (.cvtK (r := 192 + (n / 64)) (.t rfl) Tryz.underlying3 Tryz.underlying5 (fun _ => by exact Eng.wrap_u8 (by omega))) rfl (RL.m rfl rfl (RL.u (.rem (.t rfl) .c (fun _ => by omega)) rfl ?_)))))
   refine RL.u (.add .c (.t rfl) (fun _ => by omega)) rfl (RL.u (.cvtK (r := 128 + (n % 64)) (.t rfl) Tryz.underlying3 Tryz.underlying5 (fun _ => by exact Eng.wrap_u8 (by omega))) rfl ?_)
   refine RL.buildSlice (n := 2) (sz := 1) (e := 5) (vs := [(0, (.int .u8 (192 + (n / 64)))), (1, (.int .u8 (128 + (n % 64))))]) (cs := [(.int .u8 (192 + (n / 64))), (.int .u8 (128 + (n % 64)))]) hS (.cons (.t rfl) (.cons (.t rfl) .nil)) rfl rfl (fun w => by kernel_rfl) rfl (fun v6 w7 M8 hS9 hle10 => ?_)
   replace hS9 : St w (fun _ _ => none) w7 M8 [.own 5 1 v6 (([192 + (n / 64), 128 + (n % 64)] : List Int)).length ((([192 + (n / 64), 128 + (n % 64)] : List Int)).flatMap u8I)] := hS9
   refine RL.u (.b2s hS9 extEq (hS9.sl (i := 0) rfl) (.t rfl) Tryz.underlying63 Tryz.underlying5 Tryz.underlying9) rfl (RL.a rfl rfl ?_)
   refine RL.nil (CW.id ?_)
   refine CW.ret (hE.r1 rfl rfl ?_)
   refine ⟨?_, hS9.low⟩
   rw [show Lib.encodeRuneZ n = _ from Lib.encodeRuneZ_two (by omega) (by omega)]
  ·try simp only [zb] at hb2
   refine CW.skip (CW.id ?_)
   refine CW.seq ?_
   refine CW.sr ?_
   refine RL.m rfl rfl (RL.u (.lss (.t rfl) .c) rfl ?_)
   refine RL.nil (CW.id ?_)
   refine CW.cond rfl (fun hb3 => ?_) (fun hb3 => ?_)
   ·try simp only [zb] at hb3
    refine CW.sr ?_
    refine RL.m rfl rfl (RL.u (.quo (.t rfl) .c (fun _ => by omega)) rfl (RL.u (.add .c (.t rfl) (fun _ => by omega)) rfl (RL.u (.cvtK (r := 224 + (n / 4096)) (.t rfl) Tryz.underlying3 Tryz.underlying5 (fun _ => by exact Eng.wrap_u8 (by omega))) rfl (RL.m rfl rfl (RL.u (.quo (.t rfl) .c (fun _ => by omega)) rfl ?_)))))
    refine RL.u (.rem (.t rfl) .c (fun _ => by omega)) rfl (RL.u (.add .c (.t rfl) (fun _ => by omega)) rfl (RL.u (.cvtK (r := 128 + ((n / 64) % 64)) (.t rfl) Tryz.underlying3 Tryz.underlying5 (fun _ => by exact Eng.wrap_u8 (by omega))) rfl (RL.m rfl rfl (RL.u (.rem (.t rfl) .c (fun _ => by omega)) rfl (RL.u (.add .c (.t rfl) (fun _ => by omega)) rfl ?_)))))
    refine RL.u (.cvtK (r := 128 + (n % 64)) (.t rfl) Tryz.underlying3 Tryz.underlying5 (fun _ => by exact Eng.wrap_u8 (by omega))) rfl ?_
    refine RL.buildSlice (n := 3) (sz := 1) (e := 5) (vs := [(0, (.int .u8 (224 + (n / 4096)))), (1, (.int .u8 (128 + ((n / 64) % 64)))), (2, (.int .u8 (128 + (n % 64))))]) (cs := [(.int .u8 (224 + (n / 4096))), (.int .u8 (128 + ((n / 64) % 64))), (.int .u8 (128 + (n % 64)))]) hS (.cons (.t rfl) (.cons (.t rfl) (.cons (.t rfl) .nil))) rfl rfl (fun w => by kernel_rfl) rfl (fun v11 w12 M13 hS14 hle15 => ?_)
    replace hS14 : St w (fun _ _ => none) w12 M13 [.own 5 1 v11 (([224 + (n / 4096), 128 + ((n / 64) % 64), 128 + (n % 64)] : List Int)).length ((([224 + (n / 4096), 128 + ((n / 64) % 64), 128 + (n % 64)] : List Int)).flatMap u8I)] := hS14
    refine RL.u (.b2s hS14 extEq (hS14.sl (i := 0) rfl) (.t rfl) Tryz.underlying63 Tryz.underlying5 Tryz.underlying9) rfl (RL.a rfl rfl ?_)
    refine RL.nil (CW.id ?_)
    refine CW.ret (hE.r1 rfl rfl ?_)
    refine ⟨?_, hS14.low⟩
    rw [show Lib.encodeRuneZ n = _ from Lib.encodeRuneZ_three (by omega)]
   ·try simp only [zb] at hb3
    refine CW.skip (CW.id ?_)
    refine CW.sr ?_
    refine RL.m rfl rfl (RL.u (.quo (.t rfl) .c (fun _ => by omega)) rfl (RL.u (.add .c (.t rfl) (fun _ => by omega)) rfl (RL.u (.cvtK (r := 240 + (n / 262144)) (.t rfl) Tryz.underlying3 Tryz.underlying5 (fun _ => by exact Eng.wrap_u8 (by omega))) rfl (RL.m rfl rfl (RL.u (.quo (.t rfl) .c (fun _ => by omega)) rfl ?_)))))
    refine RL.u (.rem (.t rfl) .c (fun _ => by omega)) rfl (RL.u (.add .c (.t rfl) (fun _ => by omega)) rfl (RL.u (.cvtK (r := 128 + ((n / 4096) % 64)) (.t rfl) Tryz.underlying3 Tryz.underlying5 (fun _ => by exact Eng.wrap_u8 (by omega))) rfl (RL.m rfl rfl (RL.u (.quo (.t rfl) .c (fun _ => by omega)) rfl (RL.u (.rem (.t rfl) .c (fun _ => by omega)) rfl ?_)))))
    refine RL.u (.add .c (.t rfl) (fun _ => by omega)) rfl (RL.u (.cvtK (r := 128 + ((n / 64) % 64)) (.t rfl) Tryz.underlying3 Tryz.underlying5 (fun _ => by exact Eng.wrap_u8 (by omega))) rfl (RL.m rfl rfl (RL.u (.rem (.t rfl) .c (fun _ => by omega)) rfl (RL.u (.add .c (.t rfl) (fun _ => by omega)) rfl (RL.u (.cvtK (r := 128 + (n % 64)) (.t rfl) Tryz.underlying3 Tryz.underlying5 (fun _ => by exact Eng.wrap_u8 (by omega))) rfl ?_)))))
    refine RL.buildSlice (n := 4) (sz := 1) (e := 5) (vs := [(0, (.int .u8 (240 + (n / 262144)))), (1, (.int .u8 (128 + ((n / 4096) % 64)))), (2, (.int .u8 (128 + ((n / 64) % 64)))), (3, (.int .u8 (128 + (n % 64))))]) (cs := [(.int .u8 (240 + (n / 262144))), (.int .u8 (128 + ((n / 4096) % 64))), (.int .u8 (128 + ((n / 64) % 64))), (.int .u8 (128 + (n % 64)))]) hS (.cons (.t rfl) (.cons (.t rfl) (.cons (.t rfl) (.cons (.t rfl) .nil)))) rfl rfl (fun w => by kernel_rfl) rfl (fun v16 w17 M18 hS19 hle20 => ?_)
    replace hS19 : St w (fun _ _ => none) w17 M18 [.own 5 1 v16 (([240 + (n / 262144), 128 + ((n / 4096) % 64), 128 + ((n / 64) % 64), 128 + (n % 64)] : List Int)).length ((([240 + (n / 262144), 128 + ((n / 4096) % 64), 128 + ((n / 64) % 64), 128 + (n % 64)] : List Int)).flatMap u8I)] := hS19
    refine RL.u (.b2s hS19 extEq (hS19.sl (i := 0) rfl) (.t rfl) Tryz.underlying63 Tryz.underlying5 Tryz.underlying9) rfl (RL.a rfl rfl ?_)
    refine RL.nil (CW.id ?_)
    refine CW.ret (hE.r1 rfl rfl ?_)
    refine ⟨?_, hS19.low⟩
    rw [show Lib.encodeRuneZ n = _ from Lib.encodeRuneZ_four (by omega) (by omega)]

/- loupe/louperef01.Make -/
set_option maxRecDepth 100000 in
theorem make1_c (neg : Bool) (s : Str) (x : Int) (w : World) (hb : len s ≤ 1099511627776) :
  Calls Tryz.prog 111 [(.bool neg), (str s), (i64 x)].toArray w fun e w' => e = .returned (.tuple #[(ndV ((mk1 neg s x).1)), (i64 ((mk1 neg s x).2))]) ∧ Ext w w' := by
 refine CW.enter1 Tryz.func111 rfl Tryz.ntmps111 (Nat.le_of_ble_eq_true rfl) fun Q hE => ?_
 have := len_nonneg s
 have hS : St w (fun _ _ => none) w (fun _ _ => none) [] := St.start ⟨fun _ _ _ h => by cases h⟩
 refine CW.weaken [0, 1, 2] (L' := [Y 0 (.bool neg), Y 1 (str s), Y 2 (i64 x)]) ?_ rfl
 refine CW.sr ?_
 refine RL.alloc hS Tryz.zeroValue38 rfl (fun w1 b2 hS3 => ?_)
 refine RL.u (.assign .c) rfl ?_
 refine RL.nil (CW.id ?_)
 refine CW.seq ?_
 refine CW.sr ?_
 refine RL.m rfl rfl ?_
 refine RL.callS .none Tryz.call89 (.cons (.t rfl) .nil) (fun _ => (figs_c s _ (by omega))) rfl ?_
 refine RL.u (.not (.t rfl)) rfl ?_
 refine RL.nil (CW.at [Y 0 (.bool neg), Y 1 (str s), Y 2 (i64 x), Y 6 (.pointer (some ⟨b2, 0, none⟩)), Y 10 (.bool (!(figs s)))] rfl ?_)
 refine CW.cond rfl (fun hb1 => ?_) (fun hb1 => ?_)
 ·try simp only [zb] at hb1
  refine CW.sr ?_
  refine RL.u (.build (vs := []) (v := (.agg #[(i64 0), (i64 0), (str []), (str []), (.bool false), (i64 0)])) .nil (fun w => by kernel_rfl)) rfl ?_
  refine RL.st hS3 (i := 0) rfl (.t rfl) (.t rfl) Tryz.sizeOf38 rfl rfl rfl rfl rfl (fun w4 hS5 => ?_)
  refine RL.u (.assign .c) rfl ?_
  refine RL.nil (CW.id ?_)
  refine CW.ret (hE.R2 rfl (.boxN hS5 (i := 0) rfl rfl Tryz.isAgg38 Tryz.sizeOf38) (show RV _ _ _ (.tmp _) _ from rfl) ?_)
  clear hE
  refine ⟨?_, hS5.low⟩
  have hm : mk1 neg s x = (⟨0, 0, [], [], false, 0⟩, 4) := by
   (try subst hyy); (try subst hut); (try subst ht)
   unfold mk1
   simp_all
   try ((repeat' split) <;> first | rfl | omega)
  rw [hm]; try rfl
 ·try simp only [zb] at hb1
  refine CW.skip (CW.id ?_)
  refine CW.seq ?_
  refine CW.block ?_
  refine CW.loop (σ := Str) (fun t => [Y 0 (.bool neg), Y 1 (str t), Y 2 (i64 x), Y 6 (.pointer (some ⟨b2, 0, none⟩))]) (fun t wl => St w (fun _ _ => none) wl (fun _ _ => none) [.box b2 [(i64 0), (i64 0), (str []), (str []), (.bool false), (i64 0)] 38] ∧ dropZ t = dropZ s ∧ len t ≤ len s) (fun t => t.length) s [0, 1, 2, 6] rfl ?_ ?_
  ·refine ⟨hS3, ?_⟩; exact ⟨rfl, by omega⟩
  ·rintro t wl ⟨hS6, hF, hl⟩
   have hbt := byteAt_bd t 0
   have hlt := len_nonneg t
   have hfl := from_bd t 1
   refine CW.seq ?_
   refine CW.sr ?_
   refine RL.m rfl rfl (RL.u (.lenS (.t rfl) Tryz.underlying9) rfl (RL.u (.gtr (.t rfl) .c) rfl (RL.m rfl rfl (RL.v (.pos rfl rfl) (.move (.t rfl)) rfl (RL.v (.pos rfl rfl) (.idxS (.g rfl (fun h => h)) .c Tryz.underlying9 (fun hW => by simp only [zb] at hW; omega)) rfl ?_)))))
   refine RL.v (.pos rfl rfl) (.eql (.g rfl (fun h => h)) .c) rfl (RL.u (.and (.t rfl) (.g rfl (fun h => h))) rfl ?_)
   refine RL.nil (CW.id ?_)
   refine CW.cond rfl (fun hb2 => ?_) (fun hb2 => ?_)
   ·try simp only [zb] at hb2
    refine CW.skip (CW.id ?_)
    refine CW.block ?_
    refine CW.region ?_
    refine RL.m rfl rfl (RL.u (.slSl (.t rfl) .c Tryz.underlying9 (fun _ => by omega)) rfl (RL.a rfl rfl ?_))
    refine RL.nil fun a hs => Exists.intro (Eng.from' t 1) ⟨hs.keep [0, 1, 2, 6], ?_, ?_⟩
    ·refine ⟨hS6, ?_⟩
     exact ⟨by rw [dropZ_step hb2, hF], by omega⟩
    ·show List.length _ < List.length _; have := from_len t 1 (by omega) (by omega); unfold len at *; omega
   ·try simp only [zb] at hb2
    have ht : t = dropZ s := by rw [← hF, dropZ_stop (by rintro ⟨h1, h2⟩; rcases hb2 with h | h; exact h h1; exact h h2)]
    refine CW.exit (CW.at [Y 0 (.bool neg), Y 1 (str t), Y 2 (i64 x), Y 6 (.pointer (some ⟨b2, 0, none⟩))] rfl ?_)
    refine CW.seq ?_
    refine CW.sr ?_
    refine RL.m rfl rfl (RL.u (.seql (.t rfl) .c) rfl ?_)
    refine RL.nil (CW.id ?_)
    refine CW.cond rfl (fun hb3 => ?_) (fun hb3 => ?_)
    ·try simp only [zb] at hb3
     refine CW.sr ?_
     refine RL.u (.build (vs := [(0, (i64 3))]) (v := (.agg #[(i64 3), (i64 0), (str []), (str []), (.bool false), (i64 0)])) (.cons .c .nil) (fun w => by kernel_rfl)) rfl ?_
     refine RL.st hS6 (i := 0) rfl (.t rfl) (.t rfl) Tryz.sizeOf38 rfl rfl rfl rfl rfl (fun w7 hS8 => ?_)
     refine RL.u (.assign .c) rfl ?_
     refine RL.nil (CW.id ?_)
     refine CW.ret (hE.R2 rfl (.boxN hS8 (i := 0) rfl rfl Tryz.isAgg38 Tryz.sizeOf38) (show RV _ _ _ (.tmp _) _ from rfl) ?_)
     clear hE
     refine ⟨?_, hS8.low⟩
     have hm : mk1 neg s x = (⟨3, 0, [], [], false, 0⟩, 0) := by
      (try subst hyy); (try subst hut); (try subst ht)
      unfold mk1
      simp_all
      try ((repeat' split) <;> first | rfl | omega)
     rw [hm]; try rfl
    ·try simp only [zb] at hb3
     refine CW.skip (CW.id ?_)
     refine CW.seq ?_
     refine CW.sr ?_
     refine RL.m rfl rfl (RL.u (.lss (.t rfl) .c) rfl (RL.m rfl rfl (RL.v (.neg rfl rfl) (.move (.t rfl)) rfl (RL.v (.neg rfl rfl) (.gtr (.g rfl (fun h => h)) .c) rfl (RL.u (.or (.t rfl) (.g rfl (fun h => h))) rfl ?_)))))
     refine RL.nil (CW.id ?_)
     refine CW.cond rfl (fun hb4 => ?_) (fun hb4 => ?_)
     ·try simp only [zb] at hb4
      refine CW.sr ?_
      refine RL.u (.build (vs := []) (v := (.agg #[(i64 0), (i64 0), (str []), (str []), (.bool false), (i64 0)])) .nil (fun w => by kernel_rfl)) rfl ?_
      refine RL.st hS6 (i := 0) rfl (.t rfl) (.t rfl) Tryz.sizeOf38 rfl rfl rfl rfl rfl (fun w9 hS10 => ?_)
      refine RL.u (.assign .c) rfl ?_
      refine RL.nil (CW.id ?_)
      refine CW.ret (hE.R2 rfl (.boxN hS10 (i := 0) rfl rfl Tryz.isAgg38 Tryz.sizeOf38) (show RV _ _ _ (.tmp _) _ from rfl) ?_)
      clear hE
      refine ⟨?_, hS10.low⟩
      have hm : mk1 neg s x = (⟨0, 0, [], [], false, 0⟩, 2) := by
       (try subst hyy); (try subst hut); (try subst ht)
       unfold mk1
       simp_all
       try ((repeat' split) <;> first | rfl | omega)
      rw [hm]; try rfl
     ·try simp only [zb] at hb4
      refine CW.skip (CW.id ?_)
      refine CW.seq ?_
      refine CW.block ?_
      refine CW.loop (σ := Str × Int) (fun (u, y) => [Y 0 (.bool neg), Y 1 (str u), Y 2 (i64 y), Y 6 (.pointer (some ⟨b2, 0, none⟩))]) (fun (u, y) wl => St w (fun _ _ => none) wl (fun _ _ => none) [.box b2 [(i64 0), (i64 0), (str []), (str []), (.bool false), (i64 0)] 38] ∧ trimZ u = trimZ (dropZ s) ∧ len u ≤ len (dropZ s) ∧ y + len u = x + len (dropZ s)) (fun (u, y) => u.length) ((t, x)) [0, 1, 2, 6] rfl ?_ ?_
      ·refine ⟨hS6, ?_⟩; exact ⟨by rw [ht], by rw [ht]; omega, by rw [ht]⟩
      ·rintro ⟨u, y⟩ wl ⟨hS11, hu, hul, hy⟩
       have htl : len t = len (dropZ s) := by rw [ht]
       have hub := byteAt_bd u (len u - 1)
       have hp1 := trimZ_pos s (by rw [← ht]; exact hb3)
       have hp2 := trimZ_len u
       rw [hu] at hp2
       have hln := len_nonneg u
       refine CW.seq ?_
       refine CW.sr ?_
       refine RL.m rfl rfl (RL.m rfl rfl (RL.u (.lenS (.t rfl) Tryz.underlying9) rfl (RL.u (.sub (.t rfl) .c (fun _ => by omega)) rfl (RL.u (.idxS (.t rfl) (.t rfl) Tryz.underlying9 (fun _ => by omega)) rfl (RL.u (.eql (.t rfl) .c) rfl ?_)))))
       refine RL.nil (CW.id ?_)
       refine CW.cond rfl (fun hb5 => ?_) (fun hb5 => ?_)
       ·try simp only [zb] at hb5
        refine CW.skip (CW.id ?_)
        refine CW.block ?_
        refine CW.sr ?_
        refine RL.m rfl rfl (RL.m rfl rfl (RL.u (.lenS (.t rfl) Tryz.underlying9) rfl (RL.u (.sub (.t rfl) .c (fun _ => by omega)) rfl (RL.u (.slSh (.t rfl) (.t rfl) Tryz.underlying9 (fun _ => by omega)) rfl (RL.a rfl rfl ?_)))))
        refine RL.nil (CW.id ?_)
        refine CW.region ?_
        refine RL.m rfl rfl (RL.u (.add (.t rfl) .c (fun _ => by omega)) rfl (RL.a rfl rfl ?_))
        refine RL.nil fun a hs => Exists.intro ((Eng.sub u 0 (len u - 1), y + 1)) ⟨hs.keep [0, 1, 2, 6], ?_, ?_⟩
        ·refine ⟨hS11, ?_⟩
         exact ⟨by rw [trimZ_step (by omega) hb5, hu], by rw [sub_len (by omega) (by omega) (by omega)]; omega, by rw [sub_len (by omega) (by omega) (by omega)]; omega⟩
        ·show List.length _ < List.length _; have := sub_len (s := u) (i := 0) (j := len u - 1) (by omega) (by omega) (by omega); unfold len at *; omega
       ·try simp only [zb] at hb5
        have hut : u = trimZ (dropZ s) := by rw [← hu, trimZ_stop (by omega) hb5]
        have hyy : y = x + (len (dropZ s) - len (trimZ (dropZ s))) := by rw [← hut]; omega
        refine CW.exit (CW.at [Y 0 (.bool neg), Y 1 (str u), Y 2 (i64 y), Y 6 (.pointer (some ⟨b2, 0, none⟩))] rfl ?_)
        refine CW.seq ?_
        refine CW.sr ?_
        refine RL.m rfl rfl (RL.u (.lenS (.t rfl) Tryz.underlying9) rfl (RL.u (.gtr (.t rfl) .c) rfl (RL.m rfl rfl (RL.v (.neg rfl rfl) (.move (.t rfl)) rfl (RL.v (.neg rfl rfl) (.lss (.g rfl (fun h => h)) .c) rfl ?_)))))
        refine RL.u (.or (.t rfl) (.g rfl (fun h => h))) rfl (RL.m rfl rfl (RL.v (.neg rfl rfl) (.move (.t rfl)) rfl (RL.v (.neg rfl rfl) (.lenS (.g rfl (fun h => h)) Tryz.underlying9) rfl (RL.v (.neg rfl rfl) (.move (.t rfl)) rfl (RL.v (.neg rfl rfl) (.add (.g rfl (fun h => h)) (.g rfl (fun h => h)) (fun hW => by simp only [zb] at hW; omega)) rfl ?_)))))
        refine RL.v (.neg rfl rfl) (.gtr (.g rfl (fun h => h)) .c) rfl (RL.u (.or (.t rfl) (.g rfl (fun h => h))) rfl ?_)
        refine RL.nil (CW.id ?_)
        refine CW.cond rfl (fun hb6 => ?_) (fun hb6 => ?_)
        ·try simp only [zb] at hb6
         refine CW.sr ?_
         refine RL.u (.build (vs := []) (v := (.agg #[(i64 0), (i64 0), (str []), (str []), (.bool false), (i64 0)])) .nil (fun w => by kernel_rfl)) rfl ?_
         refine RL.st hS11 (i := 0) rfl (.t rfl) (.t rfl) Tryz.sizeOf38 rfl rfl rfl rfl rfl (fun w12 hS13 => ?_)
         refine RL.u (.assign .c) rfl ?_
         refine RL.nil (CW.id ?_)
         refine CW.ret (hE.R2 rfl (.boxN hS13 (i := 0) rfl rfl Tryz.isAgg38 Tryz.sizeOf38) (show RV _ _ _ (.tmp _) _ from rfl) ?_)
         clear hE
         refine ⟨?_, hS13.low⟩
         have hm : mk1 neg s x = (⟨0, 0, [], [], false, 0⟩, 2) := by
          (try subst hyy); (try subst hut); (try subst ht)
          unfold mk1
          simp_all
          try ((repeat' split) <;> first | rfl | omega)
         rw [hm]; try rfl
        ·try simp only [zb] at hb6
         refine CW.skip (CW.id ?_)
         refine CW.sr ?_
         refine RL.m rfl rfl (RL.m rfl rfl (RL.m rfl rfl (RL.u (.build (vs := [(0, (i64 3)), (3, (str u)), (4, (.bool neg)), (5, (i64 y))]) (v := (.agg #[(i64 3), (i64 0), (str []), (str u), (.bool neg), (i64 y)])) (.cons .c (.cons (.t rfl) (.cons (.t rfl) (.cons (.t rfl) .nil)))) (fun w => by kernel_rfl)) rfl ?_)))
         refine RL.st hS11 (i := 0) rfl (.t rfl) (.t rfl) Tryz.sizeOf38 rfl rfl rfl rfl rfl (fun w14 hS15 => ?_)
         refine RL.u (.assign .c) rfl ?_
         refine RL.nil (CW.id ?_)
         refine CW.ret (hE.R2 rfl (.boxN hS15 (i := 0) rfl rfl Tryz.isAgg38 Tryz.sizeOf38) (show RV _ _ _ (.tmp _) _ from rfl) ?_)
         clear hE
         refine ⟨?_, hS15.low⟩
         have hm : mk1 neg s x = (⟨3, 0, [], u, neg, y⟩, 0) := by
          (try subst hyy); (try subst hut); (try subst ht)
          unfold mk1
          simp_all
          try ((repeat' split) <;> first | rfl | omega)
         rw [hm]; try rfl

end Go.Proofs.YtjfaikgooldcbaaGreatDoor
