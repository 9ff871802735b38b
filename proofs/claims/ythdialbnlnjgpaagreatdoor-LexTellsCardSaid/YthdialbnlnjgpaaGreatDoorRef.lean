/-
  THE PLAIN FORMS OF THE DOCUMENT's ANSWERS: louperef01, 03, 04, 08.
-/
import Derived.Test.YthdialbnlnjgpaaGreatDoorQuote
set_option linter.unusedVariables false
set_option linter.unusedSimpArgs false
namespace Go.Eng
open Go.RowKit

def isBlankB (b : UInt8) : Bool := isBlank (b.toNat : Int)
/-- The place behind blanks. -/
def blankTo (s : Str) (i : Int) : Int := i + len ((from' s i).takeWhile isBlankB)
theorem blankTo_step {s : Str} {i : Int} (h0 : 0 ≤ i) (h1 : i < len s) (h : isBlank (byteAt s i) = true) : blankTo s (i + 1) = blankTo s i := by
  obtain ⟨b, h2, h3⟩ := from_cons s i h0 h1
  unfold blankTo
  rw [h2, List.takeWhile_cons, show isBlankB b = true from by unfold isBlankB; rw [← h3]; exact h]
  simp [len]; omega
theorem blankTo_stop {s : Str} {i : Int} (h0 : 0 ≤ i) (h1 : i < len s) (h : isBlank (byteAt s i) = false) : blankTo s i = i := by
  obtain ⟨b, h2, h3⟩ := from_cons s i h0 h1
  unfold blankTo
  rw [h2, List.takeWhile_cons, show isBlankB b = false from by unfold isBlankB; rw [← h3]; exact h]
  simp [len]
theorem blankTo_end {s : Str} {i : Int} (h1 : len s ≤ i) : blankTo s i = i := by
  unfold blankTo; rw [from_nil s i h1]; simp [len]
theorem blankTo_bd (s : Str) (i : Int) (h0 : 0 ≤ i) (h1 : i ≤ len s) : i ≤ blankTo s i ∧ blankTo s i ≤ len s := by
  have h2 := from_len s i h0 h1
  have h3 := (List.takeWhile_sublist isBlankB (l := from' s i)).length_le
  unfold blankTo len at *; omega
/-- Does a text stand at a place? -/
def hasAt (s : Str) (i : Int) (t : Str) : Bool := decide (i + len t ≤ len s) && (Eng.sub s i (i + len t) == t)
def hexS (n : Int) : Str := Eng.sub [48, 49, 50, 51, 52, 53, 54, 55, 56, 57, 97, 98, 99, 100, 101, 102] n (n + 1)
/-- A byte, written. -/
def writtenP (c : Int) : Str :=
  if c = 34 then [92, 34] else if c = 92 then [92, 92] else if c = 8 then [92, 98] else if c = 12 then [92, 102] else if c = 10 then [92, 110] else if c = 13 then [92, 114] else if c = 9 then [92, 116]
  else if c < 32 then [92, 117, 48, 48] ++ hexS (c / 16) ++ hexS (c % 16) else toStr [c]
def wrB (b : UInt8) : Str := writtenP (b.toNat : Int)
def quoteR (s : Str) : Str := 34 :: s.flatMap wrB ++ [34]
theorem writtenP_len (c : Int) : 0 ≤ len (writtenP c) ∧ len (writtenP c) ≤ 6 := by
  have h1 := sub_bd ([48, 49, 50, 51, 52, 53, 54, 55, 56, 57, 97, 98, 99, 100, 101, 102] : Str) (c / 16) (c / 16 + 1)
  have h2 : ∀ n : Int, 0 ≤ len (hexS n) ∧ len (hexS n) ≤ 1 := by intro n; unfold hexS Eng.sub len; simp; omega
  have h3 := h2 (c / 16)
  have h4 := h2 (c % 16)
  unfold writtenP toStr
  (repeat' split) <;> (simp only [len_app, len_cons, len_nil, List.map_cons, List.map_nil]; omega)
theorem sub_snoc {s : Str} {k : Int} (h0 : 0 ≤ k) (h1 : k < len s) : ∃ b, Eng.sub s 0 (k + 1) = Eng.sub s 0 k ++ [b] ∧ (b.toNat : Int) = byteAt s k := by
  have h : k.toNat < s.length := by unfold len at h1; omega
  refine ⟨s[k.toNat], ?_, by simp [byteAt, h]⟩
  unfold Eng.sub
  simp only [Int.toNat_zero, List.drop_zero, Nat.sub_zero]
  rw [show (k + 1).toNat = k.toNat + 1 from by omega, List.take_succ_eq_append_getElem h]
theorem quote_step {s : Str} {k : Int} {o : Str} (h0 : 0 ≤ k) (h1 : k < len s) (h : o = 34 :: (Eng.sub s 0 k).flatMap wrB) : o ++ writtenP (byteAt s k) = 34 :: (Eng.sub s 0 (k + 1)).flatMap wrB := by
  obtain ⟨b, h2, h3⟩ := sub_snoc h0 h1
  rw [h2, h, List.flatMap_append, ← h3]; simp [wrB]
theorem u8_eq48 {b : UInt8} : (([48] : Str).contains b) = true ↔ (b.toNat : Int) = 48 := by
  simp only [List.contains_cons, List.contains_nil, Bool.or_false, beq_iff_eq]
  constructor
  · rintro rfl; rfl
  · intro h; apply UInt8.toNat_inj.1; show b.toNat = 48; omega
theorem dropZ_stop {s : Str} (h : ¬ (0 < len s ∧ byteAt s 0 = 48)) : dropZ s = s := by
  cases s with
  | nil => rfl
  | cons a l =>
    unfold dropZ
    rw [List.dropWhile_cons, if_neg]
    intro hc
    have h1 := u8_eq48.1 hc
    exact h ⟨by rw [len_cons]; have := len_nonneg l; omega, by simpa [byteAt] using h1⟩
theorem dropZ_step {s : Str} (h : 0 < len s ∧ byteAt s 0 = 48) : dropZ (from' s 1) = dropZ s := by
  cases s with
  | nil => exact absurd h.1 (by decide)
  | cons a l =>
    rw [from_one]
    unfold dropZ
    conv => rhs; rw [List.dropWhile_cons, if_pos (u8_eq48.2 (by simpa [byteAt] using h.2))]
theorem last_split {s : Str} (h : 0 < len s) : ∃ b, s = Eng.sub s 0 (len s - 1) ++ [b] ∧ (b.toNat : Int) = byteAt s (len s - 1) := by
  obtain ⟨b, h1, h2⟩ := sub_snoc (s := s) (k := len s - 1) (by omega) (by omega)
  rw [show len s - 1 + 1 = len s from by omega, sub_all s (len s) (by omega)] at h1
  exact ⟨b, h1, h2⟩
theorem trimZ_step {s : Str} (h : 0 < len s) (h2 : byteAt s (len s - 1) = 48) : trimZ (Eng.sub s 0 (len s - 1)) = trimZ s := by
  obtain ⟨b, h3, h4⟩ := last_split h
  generalize Eng.sub s 0 (len s - 1) = v at h3
  rw [h3]
  unfold trimZ Lib.trimRightS
  rw [List.reverse_append, List.reverse_singleton, List.singleton_append, List.dropWhile_cons, if_pos (u8_eq48.2 (by rw [h4, h2]))]
theorem trimZ_stop {s : Str} (h : 0 < len s) (h2 : ¬ byteAt s (len s - 1) = 48) : trimZ s = s := by
  obtain ⟨b, h3, h4⟩ := last_split h
  generalize Eng.sub s 0 (len s - 1) = v at h3
  rw [h3]
  unfold trimZ Lib.trimRightS
  rw [List.reverse_append, List.reverse_singleton, List.singleton_append, List.dropWhile_cons, if_neg (fun hc => h2 (by rw [← h4]; exact u8_eq48.1 hc))]
  simp
theorem toStr_one (x : Int) (n : Nat) (h : x.toNat = n) : toStr [x] = [UInt8.ofNat n] := by subst h; rfl
theorem itoa_step {k : Int} (h : 0 ≤ k) : Lib.itoa k = (if 10 ≤ k then Lib.itoa (k / 10) else []) ++ toStr [48 + k % 10] := by
  rw [toStr_one _ (48 + k.toNat % 10) (by omega)]
  by_cases hk : 10 ≤ k
  · rw [if_pos hk]
    unfold Lib.itoa
    rw [if_neg (by omega), if_neg (by omega), Lib.decDigits, dif_neg (by omega), show (k / 10).toNat = k.toNat / 10 from by omega]
  · rw [if_neg hk]
    unfold Lib.itoa
    rw [if_neg (by omega), Lib.decDigits, dif_pos (by omega), Nat.mod_eq_of_lt (by omega)]; rfl
theorem itoa_neg_step {k : Int} (h : k ≤ -10) : Lib.itoa k = Lib.itoa (-((-k) / 10)) ++ toStr [48 + (-k) % 10] := by
  rw [toStr_one _ (48 + k.natAbs % 10) (by omega)]
  unfold Lib.itoa
  rw [if_pos (by omega), if_pos (by omega), Lib.decDigits, dif_neg (by omega), show (-((-k) / 10)).natAbs = k.natAbs / 10 from by omega]; rfl
theorem itoa_neg_one {k : Int} (h : -10 < k) (h2 : k < 0) : Lib.itoa k = [45] ++ toStr [48 - k] := by
  rw [toStr_one _ (48 + k.natAbs) (by omega)]
  unfold Lib.itoa
  rw [if_pos (by omega), Lib.decDigits, dif_pos (by omega)]; rfl
theorem tdiv_neg' {k : Int} (h : k ≤ 0) : k.tdiv 10 = -((-k) / 10) := by
  have : k = -(-k) := by omega
  rw [this, Int.neg_tdiv, Int.tdiv_eq_ediv_of_nonneg (by omega)]; simp
theorem tmod_neg' {k : Int} (h : k ≤ 0) : k.tmod 10 = -((-k) % 10) := by
  have : k = -(-k) := by omega
  rw [this, Int.neg_tmod, Int.tmod_eq_emod_of_nonneg (by omega)]; simp
theorem dropZ_cons {a : UInt8} {l : Str} (h : (([48] : Str).contains a) = true) : dropZ (a :: l) = dropZ l := by unfold dropZ; rw [List.dropWhile_cons, if_pos h]
end Go.Eng
