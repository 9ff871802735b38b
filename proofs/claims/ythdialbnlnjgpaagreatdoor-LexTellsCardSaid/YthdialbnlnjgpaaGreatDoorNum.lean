/-
  THE PLAIN FORMS OF NUMBERS: what num and louperef01 compute.
-/
import Derived.Test.YthdialbnlnjgpaaGreatDoorPure
import Derived.Shelf.Strings.SlTrimAscii
import Derived.Lib.ItoaNum
import Derived.Lib.Bytealg
import Derived.Lib.AtoiAll
set_option linter.unusedVariables false
set_option linter.unusedSimpArgs false
namespace Go.Eng
open Go.RowKit

def isFigB (b : UInt8) : Bool := isFig (b.toNat : Int)
def zeros (n : Int) : Str := List.replicate n.toNat 48
/-- The place behind the figures from a place on. -/
def runTo (s : Str) (i : Int) : Int := i + len ((from' s i).takeWhile isFigB)
def dropZ (s : Str) : Str := s.dropWhile (([48] : Str).contains ·)
def trimZ (s : Str) : Str := Lib.trimRightS s [48]
def decVal (s : Str) : Int := s.foldl (fun n b => n * 10 + ((b.toNat : Int) - 48)) 0

theorem from_cons (s : Str) (i : Int) (h0 : 0 ≤ i) (h1 : i < len s) : ∃ b, from' s i = b :: from' s (i + 1) ∧ byteAt s i = (b.toNat : Int) := by
  have h : i.toNat < s.length := by unfold len at h1; omega
  refine ⟨s[i.toNat], ?_, by simp [byteAt, h]⟩
  unfold from'
  rw [show (i + 1).toNat = i.toNat + 1 from by omega]
  exact List.drop_eq_getElem_cons h
theorem from_nil (s : Str) (i : Int) (h1 : len s ≤ i) : from' s i = [] := by
  unfold from'; rw [List.drop_eq_nil_iff]; unfold len at h1; omega
theorem from_len (s : Str) (i : Int) (h0 : 0 ≤ i) (h1 : i ≤ len s) : len (from' s i) = len s - i := by
  unfold from' len at *; rw [List.length_drop]; omega
theorem runTo_step {s : Str} {i : Int} (h0 : 0 ≤ i) (h1 : i < len s) (h : isFig (byteAt s i) = true) : runTo s (i + 1) = runTo s i := by
  obtain ⟨b, h2, h3⟩ := from_cons s i h0 h1
  unfold runTo
  rw [h2, List.takeWhile_cons, show isFigB b = true from by unfold isFigB; rw [← h3]; exact h]
  simp [len]; omega
theorem runTo_stop {s : Str} {i : Int} (h0 : 0 ≤ i) (h1 : i < len s) (h : isFig (byteAt s i) = false) : runTo s i = i := by
  obtain ⟨b, h2, h3⟩ := from_cons s i h0 h1
  unfold runTo
  rw [h2, List.takeWhile_cons, show isFigB b = false from by unfold isFigB; rw [← h3]; exact h]
  simp [len]
theorem runTo_end {s : Str} {i : Int} (h1 : len s ≤ i) : runTo s i = i := by
  unfold runTo; rw [from_nil s i h1]; simp [len]
theorem runTo_bd (s : Str) (i : Int) (h0 : 0 ≤ i) (h1 : i ≤ len s) : i ≤ runTo s i ∧ runTo s i ≤ len s := by
  have h2 := from_len s i h0 h1
  have h3 := (List.takeWhile_sublist isFigB (l := from' s i)).length_le
  unfold runTo len at *; omega
theorem runTo_fig {s : Str} {i k : Int} (h0 : 0 ≤ i) (h1 : i ≤ k) (h2 : k < runTo s i) : isFig (byteAt s k) = true := by
  by_cases hl : i < len s
  · by_cases hf : isFig (byteAt s i) = true
    · by_cases hk : i = k
      · subst hk; exact hf
      · rw [← runTo_step h0 hl hf] at h2
        exact runTo_fig (i := i + 1) (by omega) (by omega) h2
    · rw [Bool.not_eq_true] at hf
      rw [runTo_stop h0 hl hf] at h2; omega
  · rw [runTo_end (by omega)] at h2; omega
termination_by (len s - i).toNat
theorem runTo_behind {s : Str} {i : Int} (h0 : 0 ≤ i) (h1 : i ≤ len s) (h2 : runTo s i < len s) : isFig (byteAt s (runTo s i)) = false := by
  by_cases hl : i < len s
  · by_cases hf : isFig (byteAt s i) = true
    · rw [← runTo_step h0 hl hf] at h2 ⊢
      exact runTo_behind (i := i + 1) (by omega) (by omega) h2
    · rw [Bool.not_eq_true] at hf
      rw [runTo_stop h0 hl hf]; exact hf
  · rw [runTo_end (by omega)] at h2; omega
termination_by (len s - i).toNat

/-- A1: a number of figures and a power. -/
def mk1 (neg : Bool) (s : Str) (e : Int) : Nd × Int :=
  if figs s then
    if dropZ s == [] then (⟨3, 0, [], [], false, 0⟩, 0)
    else if decide (e < -100000000) || decide (100000000 < e) then (noNd, 2)
    else
      if decide (100 < len (trimZ (dropZ s))) || decide (e + (len (dropZ s) - len (trimZ (dropZ s))) < -1000) || decide (1000 < len (trimZ (dropZ s)) + (e + (len (dropZ s) - len (trimZ (dropZ s))))) then (noNd, 2)
      else (⟨3, 0, [], trimZ (dropZ s), neg, e + (len (dropZ s) - len (trimZ (dropZ s)))⟩, 0)
  else (noNd, 4)

/-- A2: a number's text. -/
def print1 (n : Nd) : Str :=
  let sign : Str := if n.neg then [45] else []
  if n.s == [] then [48]
  else if decide (0 ≤ n.e) && decide (len n.s + n.e ≤ 20) then sign ++ n.s ++ zeros n.e
  else if decide (n.e < 0) && decide (-20 ≤ n.e) then
    let s := zeros (1 - n.e - len n.s) ++ n.s
    sign ++ Eng.sub s 0 (len s + n.e) ++ [46] ++ from' s (len s + n.e)
  else sign ++ n.s ++ [101] ++ Lib.itoa n.e
theorem zeros_neg {n : Int} (h : n ≤ 0) : zeros n = [] := by unfold zeros; rw [show n.toNat = 0 from by omega]; rfl
theorem zeros_len (n : Int) (h : 0 ≤ n) : len (zeros n) = n := by unfold zeros len; rw [List.length_replicate]; omega
theorem zeros_len' (d : Int) : 0 ≤ len (zeros d) ∧ d ≤ len (zeros d) ∧ (len (zeros d) ≤ 0 ∨ len (zeros d) = d) := by unfold zeros len; rw [List.length_replicate]; omega
theorem zeros_max (d : Int) : zeros (if 0 > d then 0 else d) = zeros d := by
  split
  · rw [zeros_neg (n := d) (by omega)]; rfl
  · rfl
theorem len_app {α : Type} (a b : List α) : len (a ++ b) = len a + len b := by unfold len; simp
theorem len_cons {α : Type} (a : α) (b : List α) : len (a :: b) = len b + 1 := by unfold len; simp
theorem from_one {α : Type} (a : α) (b : List α) : from' (a :: b) 1 = b := rfl
theorem len_nil {α : Type} : len ([] : List α) = 0 := rfl
theorem sub_bd {α : Type} (s : List α) (i j : Int) : 0 ≤ len (Eng.sub s i j) ∧ len (Eng.sub s i j) ≤ len s := by unfold Eng.sub len; simp; omega
theorem sub_len {α : Type} {s : List α} {i j : Int} (h0 : 0 ≤ i) (h1 : i ≤ j) (h2 : j ≤ len s) : len (Eng.sub s i j) = j - i := by unfold Eng.sub len at *; simp; omega
theorem from_bd {α : Type} (s : List α) (i : Int) : 0 ≤ len (from' s i) ∧ len (from' s i) ≤ len s := by unfold from' len; simp
theorem dropZ_len (s : Str) : len (dropZ s) ≤ len s := by
  have := (List.dropWhile_sublist (([48] : Str).contains ·) (l := s)).length_le
  unfold dropZ len; omega
theorem trimZ_len (s : Str) : len (trimZ s) ≤ len s := by
  have := (List.dropWhile_sublist (([48] : Str).contains ·) (l := s.reverse)).length_le
  unfold trimZ Lib.trimRightS len; simp at *; omega

theorem dropWhile_nil {α : Type} {p : α → Bool} : ∀ {l : List α}, l.dropWhile p = [] → ∀ x ∈ l, p x = true
  | [], _, x, hx => by cases hx
  | a :: l, h, x, hx => by
    rw [List.dropWhile_cons] at h
    split at h
    · rename_i ha
      rcases List.mem_cons.1 hx with rfl | hx
      · exact ha
      · exact dropWhile_nil h x hx
    · cases h
theorem dropZ_first {s : Str} {b : UInt8} {l : Str} (h : dropZ s = b :: l) : (([48] : Str).contains b) = false := by
  unfold dropZ at h
  induction s with
  | nil => cases h
  | cons a s ih =>
    rw [List.dropWhile_cons] at h
    split at h
    · exact ih h
    · rename_i hn; cases h; simpa using hn
theorem trimZ_pos (s : Str) : ¬ dropZ s = [] → 0 < len (trimZ (dropZ s)) := by
  intro h
  cases hd : dropZ s with
  | nil => exact absurd hd h
  | cons b l =>
    have hb := dropZ_first hd
    have : trimZ (b :: l) ≠ [] := by
      unfold trimZ Lib.trimRightS
      intro hr
      rw [List.reverse_eq_nil_iff] at hr
      have := dropWhile_nil hr b (by simp)
      rw [this] at hb; cases hb
    unfold len
    have := List.length_pos_iff.2 this
    omega

theorem decDigits_len (u : Nat) : (Lib.decDigits u).length ≤ u + 1 := by
  induction u using Nat.strongRecOn with
  | _ u ih =>
    rw [Lib.decDigits]
    split
    · simp
    · have := ih (u / 10) (by omega)
      simp only [List.length_append, List.length_cons, List.length_nil]; omega
theorem itoa_len (n : Int) : 0 ≤ len (Lib.itoa n) ∧ len (Lib.itoa n) ≤ n.natAbs + 2 := by
  unfold Lib.itoa len
  have h1 := decDigits_len n.natAbs
  have h2 := decDigits_len n.toNat
  split
  · simp only [List.length_cons]; omega
  · omega

/-- Does one of some signs stand at a place? -/
def isAt (s signs : Str) (p : Int) : Bool := decide (p < len s) && decide (0 ≤ Lib.indexByte signs (byteAt s p).toNat.toUInt8)
def isTo (s signs : Str) (p : Int) : Int := if isAt s signs p then p + 1 else p
theorem isAt_lt {s signs : Str} {p : Int} (h : isAt s signs p = true) : p < len s := by unfold isAt at h; simp only [Bool.and_eq_true, decide_eq_true_eq] at h; exact h.1
theorem isTo_bd (s signs : Str) (p : Int) (h : p ≤ len s) : p ≤ isTo s signs p ∧ isTo s signs p ≤ len s := by
  unfold isTo; split
  · rename_i h1; have := isAt_lt h1; omega
  · omega
theorem isTo_yes {s signs : Str} {p : Int} (h : isAt s signs p = true) : isTo s signs p = p + 1 := by unfold isTo; rw [if_pos h]
theorem isTo_no {s signs : Str} {p : Int} (h : isAt s signs p = false) : isTo s signs p = p := by unfold isTo; rw [if_neg (by rw [h]; simp)]
/-- A2: a number of a sign, figures, a power and what stands behind e. -/
def fin1 (neg : Bool) (fg : Str) (x : Int) (pw : Str) (side : Int) : Nd × Int × Int :=
  if 6 < len (dropZ pw) then (noNd, 0, 2)
  else ((mk1 neg fg (x + side * decVal (dropZ pw))).1, 0, (mk1 neg fg (x + side * decVal (dropZ pw))).2)
/-- Behind e. -/
def exp1 (s : Str) (neg : Bool) (fg : Str) (x : Int) (c0 : Int) : Nd × Int × Int :=
  let m := isAt s [45] c0
  let c1 := if m then isTo s [45] c0 else isTo s [43] (isTo s [45] c0)
  let c2 := runTo s c1
  let pw := Eng.sub s c1 c2
  if pw = [] ∨ c2 < len s then (noNd, c2, 1) else fin1 neg fg x pw (if m then -1 else 1)
/-- Behind the figures. -/
def rest1 (s : Str) (neg : Bool) (fg : Str) (x : Int) (b : Int) : Nd × Int × Int :=
  if isAt s [101, 69] b then exp1 s neg fg x (isTo s [101, 69] b)
  else if isTo s [101, 69] b < len s then (noNd, isTo s [101, 69] b, 1) else fin1 neg fg x [] 1
/-- A2: a text's number; or where it is none. -/
def read1 (s : Str) : Nd × Int × Int :=
  let neg := isAt s [45] 0
  let a0 := isTo s [45] 0
  let b0 := runTo s a0
  let fg := Eng.sub s a0 b0
  if 1 < len fg ∧ byteAt fg 0 = 48 then (noNd, a0 + 1, 1)
  else if fg = [] then (noNd, b0, 1)
  else if isAt s [46] b0 then
    let b2 := runTo s (isTo s [46] b0)
    let part := Eng.sub s (isTo s [46] b0) b2
    if part = [] then (noNd, b2, 1) else rest1 s neg (fg ++ part) (-(len part)) b2
  else rest1 s neg fg 0 (isTo s [46] b0)
theorem sub_run {s : Str} {i : Int} (h0 : 0 ≤ i) : Eng.sub s i (runTo s i) = (from' s i).takeWhile isFigB := by
  have h1 : (runTo s i).toNat - i.toNat = ((from' s i).takeWhile isFigB).length := by unfold runTo len; omega
  unfold Eng.sub; rw [h1]
  exact (List.prefix_iff_eq_take.1 (List.takeWhile_prefix isFigB)).symm
theorem takeWhile_all {α : Type} {p : α → Bool} : ∀ {l : List α}, ∀ x ∈ l.takeWhile p, p x = true
  | [], x, hx => by cases hx
  | a :: l, x, hx => by
    rw [List.takeWhile_cons] at hx
    split at hx
    · rename_i ha
      rcases List.mem_cons.1 hx with rfl | hx
      · exact ha
      · exact takeWhile_all x hx
    · cases hx
theorem figs_run {s : Str} {i : Int} (h0 : 0 ≤ i) : ∀ b ∈ Eng.sub s i (runTo s i), isFigB b = true := by rw [sub_run h0]; exact takeWhile_all
theorem figs_drop {l : Str} (h : ∀ b ∈ l, isFigB b = true) : ∀ b ∈ dropZ l, isFigB b = true := fun b hb => h b ((List.dropWhile_sublist _).subset hb)
theorem decVal_bd : ∀ (l : Str) (n : Int), (∀ b ∈ l, isFigB b = true) → 0 ≤ n → 0 ≤ l.foldl (fun n b => n * 10 + ((b.toNat : Int) - 48)) n ∧ l.foldl (fun n b => n * 10 + ((b.toNat : Int) - 48)) n < (n + 1) * 10 ^ l.length
  | [], n, _, h0 => by simp; omega
  | a :: l, n, h, h0 => by
    have ha := h a (by simp)
    unfold isFigB isFig at ha
    simp only [Bool.and_eq_true, decide_eq_true_eq] at ha
    have := decVal_bd l (n * 10 + ((a.toNat : Int) - 48)) (fun b hb => h b (by simp [hb])) (by omega)
    rw [List.foldl_cons]
    refine ⟨this.1, Int.lt_of_lt_of_le this.2 ?_⟩
    have h1 : (n + 1) * 10 ^ (a :: l).length = ((n + 1) * 10) * 10 ^ l.length := by rw [List.length_cons, Int.pow_succ, Int.mul_comm (10 ^ l.length) 10, ← Int.mul_assoc]
    rw [h1]
    exact Int.mul_le_mul_of_nonneg_right (by omega) (Int.le_of_lt (Int.pow_pos (by decide : (0 : Int) < 10)))
theorem parse_figs : ∀ (l : Str) (n : Nat), (∀ b ∈ l, isFigB b = true) → (n + 1) * 10 ^ l.length ≤ 10000000 → Lib.parseUint10 n l = .ok (l.foldl (fun n b => n * 10 + ((b.toNat : Int) - 48)) (n : Int)).toNat
  | [], n, _, _ => by simp [Lib.parseUint10]
  | a :: l, n, h, hl => by
    have ha := h a (by simp)
    unfold isFigB isFig at ha
    simp only [Bool.and_eq_true, decide_eq_true_eq] at ha
    have hn : n < 10000000 := by
      have : (n + 1) * 1 ≤ (n + 1) * 10 ^ (a :: l).length := Nat.mul_le_mul_left _ (Nat.pow_pos (by decide))
      omega
    have ih := parse_figs l (n * 10 + (a.toNat - 48)) (fun b hb => h b (by simp [hb])) (by
      have h1 : (n + 1) * 10 ^ (a :: l).length = ((n + 1) * 10) * 10 ^ l.length := by rw [List.length_cons, Nat.pow_succ, Nat.mul_comm (10 ^ l.length) 10, ← Nat.mul_assoc]
      rw [h1] at hl
      exact Nat.le_trans (Nat.mul_le_mul_right _ (by omega)) hl)
    rw [Lib.parseUint10, if_pos (by omega), if_neg (by omega), if_neg (by omega), ih, List.foldl_cons]
    congr 3
    omega
theorem atoi_figs {l : Str} (h : ∀ b ∈ l, isFigB b = true) (hl : len l ≤ 6) : Lib.atoiAll ([48] ++ l) = .ok (decVal l) ∧ 0 ≤ decVal l ∧ decVal l < 1000000 := by
  have h1 := decVal_bd l 0 h (by omega)
  have h2 : (10 : Int) ^ l.length ≤ 10 ^ 6 := by
    have : (10 : Nat) ^ l.length ≤ 10 ^ 6 := Nat.pow_le_pow_right (by omega) (by unfold len at hl; omega)
    exact_mod_cast this
  have h3 := parse_figs l 0 h (by
    have : (10 : Nat) ^ l.length ≤ 10 ^ 6 := Nat.pow_le_pow_right (by omega) (by unfold len at hl; omega)
    omega)
  have h4 : 0 ≤ decVal l ∧ decVal l < 1000000 := by unfold decVal; omega
  refine ⟨?_, h4⟩
  show Lib.atoiAll (48 :: l) = _
  have hm : Lib.parseMag (48 :: l) = .ok (decVal l).toNat := by
    unfold Lib.parseMag
    rw [if_neg (by simp), Lib.parseUint10, if_pos (by decide), if_neg (by decide), if_neg (by decide)]
    exact h3
  unfold Lib.atoiAll
  dsimp only
  rw [if_neg (by decide : ¬ ((48 : UInt8).toNat = 43 ∨ (48 : UInt8).toNat = 45)), hm]
  dsimp only
  rw [if_neg (by omega), if_neg (by intro hh; exact absurd hh.1 (by decide)), if_neg (by decide)]
  congr 1; omega
end Go.Eng
