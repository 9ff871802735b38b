/-
  THE PLAIN FORMS OF TOKENS, 2: louperef08's token at a place is lex's of what stands from there on. No program in it.
-/
import Derived.Test.YthdialbnlnjgpaaGreatDoorRefs
set_option linter.unusedVariables false
set_option linter.unusedSimpArgs false
namespace Go.Eng
open Go.RowKit

/-! ### Words -/
theorem wordFrom_iff {t : Str} {i : Int} (h0 : 0 ≤ i) : wordFrom t i = true ↔ ¬ t = [] ∧ ∀ j : Int, i ≤ j → j < len t → isWordR (byteAt t j) (j == 0) = true := by
  by_cases hlt : i < len t
  · have hc : (isLetter (byteAt t i) || i != 0 && isFig (byteAt t i)) = isWordR (byteAt t i) (i == 0) := rfl
    by_cases hw : isWordR (byteAt t i) (i == 0) = true
    · rw [← wordFrom_step t i h0 hlt (by rw [hc]; exact hw), wordFrom_iff (i := i + 1) (by omega)]
      refine and_congr_right fun _ => ⟨fun h j h1 h2 => ?_, fun h j h1 h2 => h j (by omega) h2⟩
      by_cases e : j = i
      · subst e; exact hw
      · exact h j (by omega) h2
    · rw [wordFrom_bad t i h0 hlt (by rw [hc]; exact hw)]
      exact ⟨fun h => (by cases h), fun h => absurd (h.2 i (Int.le_refl _) hlt) hw⟩
  · rw [wordFrom_end t i hlt, bne_iff_ne]
    exact Iff.intro (fun h => And.intro h (fun j h1 h2 => by omega)) (fun h => h.1)
termination_by (len t - i).toNat
theorem word6_iff {t : Str} : word6 t = true ↔ ¬ t = [] ∧ ∀ j : Int, 0 ≤ j → j < len t → isWordR (byteAt t j) (j == 0) = true := wordFrom_iff (Int.le_refl 0)
/-- The place behind the word at a place. -/
def wordEnd (s : Str) (i : Int) : Int := i + wordTo (from' s i) 0
def WordAll (s : Str) (i k : Int) : Prop := ∀ j : Int, 0 ≤ j → j < k - i → isWordR (byteAt s (i + j)) (j == 0) = true
theorem WordAll.start (s : Str) (i : Int) : WordAll s i i := fun j h0 h1 => by omega
theorem word6_sub {s : Str} {i k : Int} (h0 : 0 ≤ i) (h1 : i ≤ k) (h2 : k < len s) (ha : WordAll s i k) : word6 (Eng.sub s i (k + 1)) = isWordR (byteAt s k) (k - i == 0) := by
  have hl := sub_len (s := s) (i := i) (j := k + 1) h0 (by omega) (by omega)
  rw [Bool.eq_iff_iff, word6_iff]
  constructor
  · rintro ⟨_, h⟩
    have := h (k - i) (by omega) (by omega)
    rw [byteAt_sub h0 (by omega) (by omega) (by omega), show i + (k - i) = k from by omega] at this
    exact this
  · intro h
    refine ⟨fun e => by rw [e, len_nil] at hl; omega, fun j h3 h4 => ?_⟩
    rw [byteAt_sub h0 h3 (by omega) (by omega)]
    by_cases e : j = k - i
    · subst e; rw [show i + (k - i) = k from by omega]; exact h
    · exact ha j h3 (by omega)
theorem WordAll.step {s : Str} {i k : Int} (h0 : 0 ≤ i) (h1 : i ≤ k) (h2 : k < len s) (ha : WordAll s i k) (h : word6 (Eng.sub s i (k + 1)) = true) : WordAll s i (k + 1) := by
  rw [word6_sub h0 h1 h2 ha] at h
  intro j h3 h4
  by_cases e : j = k - i
  · subst e; rw [show i + (k - i) = k from by omega]; exact h
  · exact ha j h3 (by omega)
theorem wordEnd_step {s : Str} {i k : Int} (h0 : 0 ≤ i) (h1 : i ≤ k) (h2 : k < len s) (ha : WordAll s i k) (h : word6 (Eng.sub s i (k + 1)) = true) : wordTo (from' s i) (k + 1 - i) = wordTo (from' s i) (k - i) := by
  rw [word6_sub h0 h1 h2 ha] at h
  rw [show k + 1 - i = k - i + 1 from by omega]
  refine wordTo_step (by omega) (by rw [from_len s i h0 (by omega)]; omega) ?_
  rw [byteAt_from s i (k - i) h0 (by omega), show i + (k - i) = k from by omega]; exact h
theorem wordEnd_stop {s : Str} {i k : Int} (h0 : 0 ≤ i) (h1 : i ≤ k) (h3 : k ≤ len s) (ha : WordAll s i k) (h : ¬ (k < len s ∧ word6 (Eng.sub s i (k + 1)) = true)) : wordTo (from' s i) (k - i) = k - i := by
  by_cases h2 : k < len s
  · have hw : word6 (Eng.sub s i (k + 1)) = false := by simpa using fun e => h ⟨h2, e⟩
    rw [word6_sub h0 h1 h2 ha] at hw
    refine wordTo_stop (by omega) (by rw [from_len s i h0 (by omega)]; omega) ?_
    rw [byteAt_from s i (k - i) h0 (by omega), show i + (k - i) = k from by omega]; exact hw
  · exact wordTo_end (by rw [from_len s i h0 (by omega)]; omega)
theorem wordEnd_bd {s : Str} {i : Int} (h0 : 0 ≤ i) (h1 : i ≤ len s) : i ≤ wordEnd s i ∧ wordEnd s i ≤ len s := by
  have := wordTo_bd (s := from' s i) (i := 0) (by omega) (len_nonneg _)
  rw [from_len s i h0 h1] at this
  unfold wordEnd; omega
theorem sub_from {α : Type} (s : List α) (i j : Int) (h0 : 0 ≤ i) (h1 : 0 ≤ j) : Eng.sub (from' s i) 0 j = Eng.sub s i (i + j) := by
  unfold Eng.sub from'
  simp only [Int.toNat_zero, List.drop_zero, Nat.sub_zero]
  congr 1; omega
theorem wordP_from {s : Str} {i : Int} (h0 : 0 ≤ i) : wordP (from' s i) = Eng.sub s i (wordEnd s i) := by
  have := wordTo_bd (s := from' s i) (i := 0) (by omega) (len_nonneg _)
  unfold wordP wordEnd; rw [sub_from s i _ h0 this.1]
theorem wordEnd_len {s : Str} {i : Int} : wordEnd s i = i + len (wordP (from' s i)) := by rw [wordP_len]; rfl
/-! ### Numbers -/
theorem numB_fin : ∀ n : Fin 256, isNumB (UInt8.ofNat n.val) = decide ((48 ≤ n.val ∧ n.val ≤ 57) ∨ n.val = 43 ∨ n.val = 45 ∨ n.val = 46 ∨ n.val = 101 ∨ n.val = 69) := by decide +kernel
theorem numB_iff (b : UInt8) : isNumB b = true ↔ (48 ≤ b.toNat ∧ b.toNat ≤ 57) ∨ b.toNat = 43 ∨ b.toNat = 45 ∨ b.toNat = 46 ∨ b.toNat = 101 ∨ b.toNat = 69 := by
  have := numB_fin ⟨b.toNat, b.toNat_lt⟩
  simp only [UInt8.ofNat_toNat] at this
  rw [this, decide_eq_true_eq]
theorem numTo_step {s : Str} {i : Int} (h0 : 0 ≤ i) (h1 : i < len s) (h : (48 ≤ byteAt s i ∧ byteAt s i ≤ 57) ∨ byteAt s i = 43 ∨ byteAt s i = 45 ∨ byteAt s i = 46 ∨ byteAt s i = 101 ∨ byteAt s i = 69) : numTo s (i + 1) = numTo s i := by
  obtain ⟨b, h2, h3⟩ := from_cons s i h0 h1
  unfold numTo
  rw [h2, List.takeWhile_cons, show isNumB b = true from by rw [numB_iff]; omega]
  simp [len]; omega
theorem numTo_stop {s : Str} {i : Int} (h0 : 0 ≤ i) (h1 : ¬ (i < len s ∧ ((48 ≤ byteAt s i ∧ byteAt s i ≤ 57) ∨ byteAt s i = 43 ∨ byteAt s i = 45 ∨ byteAt s i = 46 ∨ byteAt s i = 101 ∨ byteAt s i = 69))) : numTo s i = i := by
  unfold numTo
  by_cases h : i < len s
  · obtain ⟨b, h2, h3⟩ := from_cons s i h0 h
    rw [h2, List.takeWhile_cons, show isNumB b = false from by
      cases hb : isNumB b with
      | false => rfl
      | true => rw [numB_iff] at hb; exfalso; apply h1; refine ⟨h, ?_⟩; omega]
    simp [len]
  · rw [from_nil s i (by omega)]; simp [len]
theorem numTo_bd {s : Str} {i : Int} (h0 : 0 ≤ i) (h1 : i ≤ len s) : i ≤ numTo s i ∧ numTo s i ≤ len s := by
  have h2 := from_len s i h0 h1
  have h3 := (List.takeWhile_sublist isNumB (l := from' s i)).length_le
  unfold numTo len at *; omega
theorem runN_at {s : Str} {i : Int} (h0 : 0 ≤ i) : runN (from' s i) = Eng.sub s i (numTo s i) := by
  have h := (List.takeWhile_prefix isNumB (l := from' s i))
  rw [runN_take, List.prefix_iff_eq_take.1 h]
  unfold Eng.sub numTo len
  rw [show (i + ((List.takeWhile isNumB (from' s i)).length : Int)).toNat - i.toNat = (List.takeWhile isNumB (from' s i)).length from by omega]
  rfl
theorem runN_len {s : Str} {i : Int} (h0 : 0 ≤ i) : i + len (runN (from' s i)) = numTo s i := (numTo_run s i h0).symm
/-! ### Marks -/
theorem hasAt_iff {s : Str} {i : Int} {t : Str} (h0 : 0 ≤ i) (h1 : i ≤ len s) : hasAt s i t = Lib.hasPrefix (from' s i) t := by
  have hl := from_len s i h0 h1
  have ht := len_nonneg t
  rw [← Lib.hasPrefix_of_take]
  unfold hasAt
  have e : Eng.sub s i (i + len t) = (from' s i).take t.length := by
    unfold Eng.sub from'; congr 1; unfold len; omega
  rw [e]
  congr 1
  rw [Bool.eq_iff_iff, decide_eq_true_eq, decide_eq_true_eq]
  unfold len at *; omega
theorem hasAt_out {s : Str} {i : Int} {t : Str} (h0 : len s < i) (ht : 0 < len t) : hasAt s i t = false := by
  unfold hasAt; rw [Bool.and_eq_false_iff]; left; rw [decide_eq_false_iff_not]; omega
def NoMark (s : Str) (i k : Int) : Prop := (Eng.sub marks8 0 k).find? (fun m => Lib.hasPrefix (from' s i) m) = none
theorem NoMark.start (s : Str) (i : Int) : NoMark s i 0 := rfl
theorem NoMark.step {s : Str} {i k : Int} (h : NoMark s i k) (h0 : 0 ≤ i) (h1 : i ≤ len s) (hk0 : 0 ≤ k) (hk1 : k < 17) (h2 : hasAt s i (at' marks8 k) = false) : NoMark s i (k + 1) := by
  unfold NoMark at *
  rw [sub_succ marks8 k hk0 hk1, List.find?_append, h]
  rw [hasAt_iff h0 h1] at h2
  rw [Option.none_or, List.find?_cons, show marks8.getD k.toNat default = at' marks8 k from rfl, h2]; rfl
theorem NoMark.found {s : Str} {i k : Int} (h : NoMark s i k) (h0 : 0 ≤ i) (h1 : i ≤ len s) (hk0 : 0 ≤ k) (hk1 : k < 17) (h2 : hasAt s i (at' marks8 k) = true) : markP (from' s i) = at' marks8 k := by
  unfold NoMark at h
  rw [hasAt_iff h0 h1] at h2
  have e : marks8 = Eng.sub marks8 0 k ++ from' marks8 k := by
    have := from_split marks8 0 k (Int.le_refl _) hk0
    exact this
  have hk : k.toNat < marks8.length := by show k.toNat < 17; omega
  have e2 : from' marks8 k = at' marks8 k :: from' marks8 (k + 1) := by
    unfold from' at'
    rw [show (k + 1).toNat = k.toNat + 1 from by omega, List.drop_eq_getElem_cons hk]
    simp [hk]
  have e3 : marks8.find? (fun m => Lib.hasPrefix (from' s i) m) = some (at' marks8 k) := by
    conv => lhs; rw [e]
    rw [List.find?_append, h, e2, List.find?_cons, h2]; rfl
  unfold markP; rw [e3]; rfl
theorem NoMark.none' {s : Str} {i k : Int} (h : NoMark s i k) (hk : 17 ≤ k) : markP (from' s i) = [] := by
  unfold NoMark at h
  rw [sub_all marks8 k (by show (17 : Int) ≤ k; omega)] at h
  unfold markP; rw [h]; rfl
theorem mark_ne {k : Int} (hk0 : 0 ≤ k) (hk1 : k < 17) : ¬ at' marks8 k = [] := by
  have : k = 0 ∨ k = 1 ∨ k = 2 ∨ k = 3 ∨ k = 4 ∨ k = 5 ∨ k = 6 ∨ k = 7 ∨ k = 8 ∨ k = 9 ∨ k = 10 ∨ k = 11 ∨ k = 12 ∨ k = 13 ∨ k = 14 ∨ k = 15 ∨ k = 16 := by omega
  rcases this with rfl | rfl | rfl | rfl | rfl | rfl | rfl | rfl | rfl | rfl | rfl | rfl | rfl | rfl | rfl | rfl | rfl <;> decide
theorem mark_len {k : Int} (hk0 : 0 ≤ k) (hk1 : k < 17) : 1 ≤ len (at' marks8 k) ∧ len (at' marks8 k) ≤ 2 := by
  have : k = 0 ∨ k = 1 ∨ k = 2 ∨ k = 3 ∨ k = 4 ∨ k = 5 ∨ k = 6 ∨ k = 7 ∨ k = 8 ∨ k = 9 ∨ k = 10 ∨ k = 11 ∨ k = 12 ∨ k = 13 ∨ k = 14 ∨ k = 15 ∨ k = 16 := by omega
  rcases this with rfl | rfl | rfl | rfl | rfl | rfl | rfl | rfl | rfl | rfl | rfl | rfl | rfl | rfl | rfl | rfl | rfl <;> decide
/-! ### What is at a place -/
abbrev Got := Tk × Int × Int
def gotOf (t : Got) (i : Int) : Got := if t.2.2 ≠ 0 then (noTk, i + t.2.1, t.2.2) else ({ t.1 with pos := i }, i + t.2.1, 0)
def numberR (s : Str) (i : Int) : Got :=
  if (read1 (Eng.sub s i (numTo s i))).2.2 ≠ 0 then (noTk, i + (read1 (Eng.sub s i (numTo s i))).2.1, (read1 (Eng.sub s i (numTo s i))).2.2)
  else (⟨5, [], (read1 (Eng.sub s i (numTo s i))).1, i⟩, numTo s i, 0)
def textR8 (s : Str) (i kind pos : Int) : Got :=
  if (unqP (from' s i)).2.2 ≠ 0 then (noTk, i + (unqP (from' s i)).2.1, (unqP (from' s i)).2.2)
  else (⟨kind, (unqP (from' s i)).1, noNd, pos⟩, i + (unqP (from' s i)).2.1, 0)
/-- No field stands at a place. -/
def NoDot (s : Str) (i : Int) : Prop := ¬ byteAt s i = 46 ∨ (¬ i + 1 < wordEnd s (i + 1) ∧ hasAt s (i + 1) [34] = false)
section tok
variable {s : Str} {i : Int}
theorem byte_from0 (h0 : 0 ≤ i) : byteAt (from' s i) 0 = byteAt s i := by rw [byteAt_from s i 0 h0 (by omega), Int.add_zero]
theorem wordP_ne {j : Int} (h0 : 0 ≤ j) : wordP (from' s j) ≠ [] ↔ j < wordEnd s j := by
  have h := wordP_bd (from' s j)
  rw [wordEnd_len]
  constructor
  · intro hn
    have := len_pos hn
    omega
  · intro hl e; rw [e, len_nil] at hl; omega
theorem hasAt_dot (h0 : 0 ≤ i) (h1 : i < len s) : hasAt s i [46] = true ↔ byteAt s i = 46 := by
  rw [hasAt_iff h0 (by omega), pre_one, byte_from0 h0]
  refine ⟨fun h => h.2, fun h => ⟨fun e => ?_, h⟩⟩
  have := from_len s i h0 (by omega)
  rw [e, len_nil] at this; omega
theorem has34 (h0 : 0 ≤ i) (h1 : i < len s) : Lib.hasPrefix (from' (from' s i) 1) [34] = hasAt s (i + 1) [34] := by
  rw [from_from s i 1 h0 (by omega), hasAt_iff (by omega) (by omega)]
theorem tok_field (h0 : 0 ≤ i) (h1 : i < len s) (h2 : byteAt s i = 46) (h3 : i + 1 < wordEnd s (i + 1)) : gotOf (tokP (from' s i)) i = (⟨3, Eng.sub s (i + 1) (wordEnd s (i + 1)), noNd, i⟩, wordEnd s (i + 1), 0) := by
  have e : tokP (from' s i) = (⟨3, wordP (from' s (i + 1)), noNd, 0⟩, 1 + len (wordP (from' s (i + 1))), 0) := by
    unfold tokP; rw [byte_from0 h0, from_from s i 1 h0 (by omega), if_pos ⟨h2, (wordP_ne (by omega)).2 h3⟩]
  rw [e]
  unfold gotOf
  rw [if_neg (by simp), wordEnd_len, ← wordEnd_len, ← wordP_from (by omega)]
  congr 2
  dsimp only; rw [wordEnd_len]; omega
theorem tok_fieldtext (h0 : 0 ≤ i) (h1 : i < len s) (h2 : byteAt s i = 46) (h3 : ¬ i + 1 < wordEnd s (i + 1)) (h4 : hasAt s (i + 1) [34] = true) : gotOf (tokP (from' s i)) i = textR8 s (i + 1) 3 i := by
  have e : tokP (from' s i) = (⟨3, (unqP (from' s (i + 1))).1, noNd, 0⟩, 1 + (unqP (from' s (i + 1))).2.1, (unqP (from' s (i + 1))).2.2) := by
    unfold tokP; rw [byte_from0 h0, from_from s i 1 h0 (by omega), if_neg (fun h => h3 ((wordP_ne (by omega)).1 h.2)), if_pos ⟨h2, by rw [← from_from s i 1 h0 (by omega), has34 h0 h1]; exact h4⟩]
  rw [e]
  unfold gotOf textR8
  dsimp only
  rw [Int.add_assoc]
theorem tok_no (h0 : 0 ≤ i) (h1 : i < len s) (h : NoDot s i) : tokP (from' s i) =
    if markP (from' s i) ≠ [] then (⟨1, markP (from' s i), noNd, 0⟩, len (markP (from' s i)), 0)
    else if wordP (from' s i) ≠ [] then (⟨2, wordP (from' s i), noNd, 0⟩, len (wordP (from' s i)), 0)
    else if byteAt s i = 34 then (⟨4, (unqP (from' s i)).1, noNd, 0⟩, (unqP (from' s i)).2.1, (unqP (from' s i)).2.2)
    else if byteAt s i = 45 ∨ isFig (byteAt s i) = true then
      if (read1 (runN (from' s i))).2.2 ≠ 0 then (noTk, (read1 (runN (from' s i))).2.1, (read1 (runN (from' s i))).2.2)
      else (⟨5, [], (read1 (runN (from' s i))).1, 0⟩, len (runN (from' s i)), 0)
    else (noTk, 0, 1) := by
  unfold tokP
  rw [byte_from0 h0, if_neg, if_neg]
  · rintro ⟨h2, h3⟩
    rw [has34 h0 h1] at h3
    rcases h with h | h
    · exact h h2
    · rw [h.2] at h3; cases h3
  · rintro ⟨h2, h3⟩
    rw [from_from s i 1 h0 (by omega)] at h3
    rcases h with h | h
    · exact h h2
    · exact h.1 ((wordP_ne (by omega)).1 h3)
theorem tok_mark (h0 : 0 ≤ i) (h1 : i < len s) (h : NoDot s i) {m : Str} (hm : markP (from' s i) = m) (hn : ¬ m = []) : gotOf (tokP (from' s i)) i = (⟨1, m, noNd, i⟩, i + len m, 0) := by
  rw [tok_no h0 h1 h, hm, if_pos hn]; rfl
theorem tok_word (h0 : 0 ≤ i) (h1 : i < len s) (h : NoDot s i) (hm : markP (from' s i) = []) (hw : i < wordEnd s i) : gotOf (tokP (from' s i)) i = (⟨2, Eng.sub s i (wordEnd s i), noNd, i⟩, wordEnd s i, 0) := by
  rw [tok_no h0 h1 h, if_neg (by rw [hm]; simp), if_pos ((wordP_ne h0).2 hw)]
  unfold gotOf
  rw [if_neg (by simp), wordEnd_len, ← wordEnd_len, ← wordP_from h0]
theorem tok_text (h0 : 0 ≤ i) (h1 : i < len s) (h : NoDot s i) (hm : markP (from' s i) = []) (hw : ¬ i < wordEnd s i) (h34 : byteAt s i = 34) : gotOf (tokP (from' s i)) i = textR8 s i 4 i := by
  rw [tok_no h0 h1 h, if_neg (by rw [hm]; simp), if_neg (fun e => hw ((wordP_ne h0).1 e)), if_pos h34]; rfl
theorem tok_num (h0 : 0 ≤ i) (h1 : i < len s) (h : NoDot s i) (hm : markP (from' s i) = []) (hw : ¬ i < wordEnd s i) (h34 : ¬ byteAt s i = 34) (hd : byteAt s i = 45 ∨ (48 ≤ byteAt s i ∧ byteAt s i ≤ 57)) : gotOf (tokP (from' s i)) i = numberR s i := by
  rw [tok_no h0 h1 h, if_neg (by rw [hm]; simp), if_neg (fun e => hw ((wordP_ne h0).1 e)), if_neg h34, if_pos (by unfold isFig; simpa using hd)]
  unfold gotOf numberR
  rw [runN_at h0]
  by_cases c : (read1 (Eng.sub s i (numTo s i))).2.2 ≠ 0
  · rw [if_pos c, if_pos c, if_pos c]
  · rw [if_neg c, if_neg (by simp), if_neg c]
    congr 2
    rw [← runN_at h0, runN_len h0]
theorem tok_bad (h0 : 0 ≤ i) (h1 : i < len s) (h : NoDot s i) (hm : markP (from' s i) = []) (hw : ¬ i < wordEnd s i) (h34 : ¬ byteAt s i = 34) (hd : ¬ (byteAt s i = 45 ∨ (48 ≤ byteAt s i ∧ byteAt s i ≤ 57))) : gotOf (tokP (from' s i)) i = (noTk, i, 1) := by
  rw [tok_no h0 h1 h, if_neg (by rw [hm]; simp), if_neg (fun e => hw ((wordP_ne h0).1 e)), if_neg h34, if_neg (by unfold isFig; simpa using hd)]
  unfold gotOf
  rw [if_pos (by simp), Int.add_zero]
end tok
theorem runN_pos {s : Str} (h1 : 0 < len s) (h : byteAt s 0 = 45 ∨ isFig (byteAt s 0) = true) : 1 ≤ len (runN s) := by
  rw [runN_take]
  cases s with
  | nil => exact absurd h1 (by decide)
  | cons b l =>
    have hb : isNumB b = true := by
      rw [numB_iff]
      have e : byteAt (b :: l) 0 = (b.toNat : Int) := rfl
      rw [e] at h
      unfold isFig at h
      simp only [Bool.and_eq_true, decide_eq_true_eq] at h
      omega
    rw [List.takeWhile_cons, hb]
    simp [len]; omega
theorem tokP_bd {s : Str} (h1 : 0 < len s) : 0 ≤ (tokP s).2.1 ∧ (tokP s).2.1 ≤ len s ∧ ((tokP s).2.2 = 0 → 1 ≤ (tokP s).2.1) ∧ ((tokP s).2.2 = 0 ∨ (tokP s).2.2 = 1 ∨ (tokP s).2.2 = 2 ∨ (tokP s).2.2 = 4) := by
  have hf := from_len s 1 (by omega) (by omega)
  have hw1 := wordP_bd (from' s 1)
  have hw0 := wordP_bd s
  have hu1 := unqP_bd (from' s 1)
  have hu0 := unqP_bd s
  have hr := read1_bd (runN s)
  have hrl : len (runN s) ≤ len s := by unfold runN; exact (sub_bd _ _ _).2
  have hrl0 := len_nonneg (runN s)
  unfold tokP
  split
  · exact ⟨by dsimp only; omega, by dsimp only; omega, fun _ => by dsimp only; omega, .inl rfl⟩
  · split
    · refine ⟨by dsimp only; omega, by dsimp only; omega, fun _ => by dsimp only; omega, ?_⟩
      dsimp only; omega
    · split
      · rename_i hm
        have hp : len (markP s) ≤ len s := by
          rcases markP_mem s with h | h
          · exact absurd h hm
          · exact hasPrefix_len h.2
        have := len_pos hm
        exact ⟨by dsimp only; omega, by dsimp only; omega, fun _ => by dsimp only; omega, .inl rfl⟩
      · split
        · rename_i hn
          have := len_pos hn
          exact ⟨by dsimp only; omega, by dsimp only; omega, fun _ => by dsimp only; omega, .inl rfl⟩
        · split
          · refine ⟨by dsimp only; omega, by dsimp only; omega, fun h => by dsimp only at h ⊢; omega, ?_⟩
            dsimp only; omega
          · split
            · rename_i hd
              have hp := runN_pos h1 hd
              split
              · rename_i he
                exact ⟨by dsimp only; omega, by dsimp only; omega, fun h => absurd h he, by dsimp only; omega⟩
              · exact ⟨by dsimp only; omega, by dsimp only; omega, fun h => by dsimp only; omega, .inl rfl⟩
            · exact ⟨Int.le_refl _, by dsimp only; omega, fun h => absurd h (by decide), .inr (.inl rfl)⟩
theorem gotOf_bd {s : Str} {i : Int} (h0 : 0 ≤ i) (h1 : i < len s) : i ≤ (gotOf (tokP (from' s i)) i).2.1 ∧ (gotOf (tokP (from' s i)) i).2.1 ≤ len s ∧ ((gotOf (tokP (from' s i)) i).2.2 = 0 → i < (gotOf (tokP (from' s i)) i).2.1) := by
  have hl := from_len s i h0 (by omega)
  have hb := tokP_bd (s := from' s i) (by omega)
  unfold gotOf
  split
  · rename_i h
    exact ⟨by dsimp only; omega, by dsimp only; omega, fun h2 => absurd h2 h⟩
  · rename_i h
    have h' : (tokP (from' s i)).2.2 = 0 := by simpa using h
    have := hb.2.2.1 h'
    exact ⟨by dsimp only; omega, by dsimp only; omega, fun _ => by dsimp only; omega⟩
theorem lexGo_err {f : Nat} {s : Str} {i : Int} {acc : List Tk} (hf : (len s - i).toNat ≤ f) (h1 : i < len s) (h : ¬ (gotOf (tokP (from' s i)) i).2.2 = 0) : lexGo f s i acc = ([], (gotOf (tokP (from' s i)) i).2.1, (gotOf (tokP (from' s i)) i).2.2) := by
  rw [lexGo_eq hf h1]
  unfold gotOf at *
  by_cases c : (tokP (from' s i)).2.2 ≠ 0
  · rw [if_pos c, if_pos c]
  · rw [if_neg c] at h; exact absurd rfl h
theorem lexGo_ok {f : Nat} {s : Str} {i : Int} {acc : List Tk} (hf : (len s - i).toNat ≤ f) (h1 : i < len s) (h : (gotOf (tokP (from' s i)) i).2.2 = 0) : lexGo (f - 1) s (blankTo s (gotOf (tokP (from' s i)) i).2.1) (acc ++ [(gotOf (tokP (from' s i)) i).1]) = lexGo f s i acc := by
  rw [lexGo_eq hf h1]
  unfold gotOf at *
  by_cases c : (tokP (from' s i)).2.2 ≠ 0
  · rw [if_pos c] at h; exact absurd h c
  · rw [if_neg c, if_neg c]
/-! ### Texts -/
/-- A token that is not too long to be written. -/
def TkB (t : Tk) : Prop := len t.s ≤ 1048576 ∧ len t.c.s ≤ 1048576 ∧ (t.kind = 5 → -1000000 ≤ t.c.e ∧ t.c.e ≤ 1000000)
theorem print1_len {n : Nd} (h : -1000000 ≤ n.e ∧ n.e ≤ 1000000) : 0 ≤ len (print1 n) ∧ len (print1 n) ≤ 2 * len n.s + 1000100 := by
  have h0 := len_nonneg n.s
  have h1 := zeros_len' n.e
  have h2 := zeros_len' (1 - n.e - len n.s)
  have h3 := itoa_len n.e
  have h4 := sub_bd (zeros (1 - n.e - len n.s) ++ n.s) 0 (len (zeros (1 - n.e - len n.s) ++ n.s) + n.e)
  have h5 := from_bd (zeros (1 - n.e - len n.s) ++ n.s) (len (zeros (1 - n.e - len n.s) ++ n.s) + n.e)
  have h6 := len_app (zeros (1 - n.e - len n.s)) n.s
  have hs : len (if n.neg = true then ([45] : Str) else []) ≤ 1 ∧ 0 ≤ len (if n.neg = true then ([45] : Str) else []) := by split <;> decide
  unfold print1
  dsimp only
  split
  · rw [len_cons, len_nil]; omega
  · split
    · rename_i hc
      simp only [Bool.and_eq_true, decide_eq_true_eq] at hc
      rw [len_app, len_app]; omega
    · split
      · rename_i hc
        simp only [Bool.and_eq_true, decide_eq_true_eq] at hc
        rw [len_app, len_app, len_app, len_cons, len_nil]; omega
      · rw [len_app, len_app, len_app, len_cons, len_nil]; omega
theorem oneR_len {t : Tk} (h : TkB t) : 0 ≤ len (oneR t) ∧ len (oneR t) ≤ 8388607 := by
  obtain ⟨h1, h2, h3⟩ := h
  have h4 := name7_len t.s
  have h5 := quoteR_len t.s
  have h6 := len_nonneg t.s
  unfold oneR
  split
  · rw [len_app, len_cons, len_nil]; omega
  · split
    · omega
    · split
      · rename_i hk
        have := print1_len (h3 hk)
        omega
      · omega
theorem textR_step {l : List Tk} {k : Int} {o : Str} (h0 : 0 ≤ k) (h1 : k < len l) (h : o = (Eng.sub l 0 k).foldl textStep []) : textStep o (at' l k) = (Eng.sub l 0 (k + 1)).foldl textStep [] := by
  rw [sub_succ l k h0 h1, List.foldl_append, ← h]; rfl
theorem qOne_len (r : Int) : 0 ≤ len (qOne r) ∧ len (qOne r) ≤ 6 := by
  have := Lib.encodeRuneZ_length r
  unfold qOne
  split
  · simp only [len_cons, len_nil]; omega
  · split
    · simp only [len_cons, len_nil]; omega
    · unfold Lib.encodeRune len; rw [List.length_map]; omega
theorem qFrom_len (s : Str) (i : Int) (h0 : 0 ≤ i) (h1 : i ≤ len s) : len (qFrom s i) ≤ 6 * (len s - i) := by
  by_cases h : i < len s
  · have hb := runeLen_bd h0 h
    have ih := qFrom_len s (i + runeLen s i) (by omega) (by omega)
    have := qOne_len (runeAt s i)
    rw [qFrom_step h0 h, len_app]; omega
  · rw [qFrom_end h, len_nil]; omega
termination_by (len s - i).toNat
decreasing_by have hb := runeLen_bd h0 h; omega
theorem quoteP_len (s : Str) : 2 ≤ len (quoteP s) ∧ len (quoteP s) ≤ 6 * len s + 2 := by
  have := qFrom_len s 0 (Int.le_refl 0) (len_nonneg s)
  have h0 := len_nonneg (qFrom s 0)
  unfold quoteP
  rw [len_app, len_cons, len_cons, len_nil]; omega
theorem oneP_len {t : Tk} (h : TkB t) : 0 ≤ len (oneP t) ∧ len (oneP t) ≤ 8388607 := by
  obtain ⟨h1, h2, h3⟩ := h
  have h5 := quoteP_len t.s
  have h6 := len_nonneg t.s
  unfold oneP
  split
  · rw [len_cons]; split <;> omega
  · split
    · omega
    · split
      · rename_i hk
        have := print1_len (h3 hk)
        omega
      · omega
theorem textsP_skip {l : List Tk} {k : Int} (h0 : 0 ≤ k) (h1 : k < len l) (h2 : (at' l k).kind = 6) : textsP (Eng.sub l 0 (k + 1)) = textsP (Eng.sub l 0 k) := by
  unfold textsP
  rw [sub_succ l k h0 h1, List.filter_append, show l.getD k.toNat default = at' l k from rfl]
  simp [h2]
theorem textsP_step {l : List Tk} {k : Int} (h0 : 0 ≤ k) (h1 : k < len l) (h2 : ¬ (at' l k).kind = 6) : textsP (Eng.sub l 0 (k + 1)) = textsP (Eng.sub l 0 k) ++ [oneP (at' l k)] := by
  unfold textsP
  rw [sub_succ l k h0 h1, List.filter_append, show l.getD k.toNat default = at' l k from rfl]
  simp [h2]
theorem jtail_len {B : Int} : ∀ {l : List Str}, (∀ x ∈ l, len x ≤ B) → len (Lib.joinTail [32] l) ≤ len l * (B + 1)
  | [], _ => by simp [Lib.joinTail, len]
  | x :: l, h => by
    have h1 := h x (by simp)
    have ih := jtail_len (l := l) (fun z hz => h z (by simp [hz]))
    have e : Lib.joinTail [32] (x :: l) = 32 :: x ++ Lib.joinTail [32] l := by simp [Lib.joinTail]
    have e2 : (len l + 1) * (B + 1) = len l * (B + 1) + (B + 1) := by rw [Int.add_mul, Int.one_mul]
    rw [e, len_app, len_cons, len_cons]; omega
theorem join_len {B : Int} {l : List Str} (h : ∀ x ∈ l, len x ≤ B) (hB : 0 ≤ B) : len (Lib.join l [32]) ≤ len l * (B + 1) := by
  cases l with
  | nil => simp [Lib.join_nil, len]
  | cons x l =>
    have h1 := h x (by simp)
    have h2 := jtail_len (l := l) (fun z hz => h z (by simp [hz]))
    have e2 : (len l + 1) * (B + 1) = len l * (B + 1) + (B + 1) := by rw [Int.add_mul, Int.one_mul]
    rw [Lib.join_cons, len_app, len_cons]; omega
theorem textsP_bd {l : List Tk} (h : ∀ t ∈ l, TkB t) : ∀ x ∈ textsP l, len x ≤ 8388607 := by
  intro x hx
  unfold textsP at hx
  obtain ⟨t, ht, rfl⟩ := List.mem_map.1 hx
  exact (oneP_len (h t (List.mem_filter.1 ht).1)).2
theorem textP_len {l : List Tk} (h : ∀ t ∈ l, TkB t) : len (textP l) ≤ len l * 8388608 := by
  have h1 := join_len (textsP_bd h) (by omega)
  have h2 : len (textsP l) ≤ len l := by unfold textsP len; rw [List.length_map]; have := List.length_filter_le (fun t : Tk => t.kind != 6) l; omega
  have h3 : len (textsP l) * 8388608 ≤ len l * 8388608 := Int.mul_le_mul_of_nonneg_right h2 (by omega)
  unfold textP; omega
end Go.Eng
