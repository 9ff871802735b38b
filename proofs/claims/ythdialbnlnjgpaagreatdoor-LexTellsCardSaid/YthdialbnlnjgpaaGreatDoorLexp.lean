/-
  THE PLAIN FORMS OF TOKENS: what lex and louperef08 reckon. No program in it.
-/
import Derived.Test.YthdialbnlnjgpaaGreatDoorUtf
import Derived.Lib.Join
set_option linter.unusedVariables false
set_option linter.unusedSimpArgs false
namespace Go.Eng
open Go.RowKit

/-! ### Blanks, and a number's run -/
def blankCut : Str := [32, 9, 10, 13]
def numCut : Str := [48, 49, 50, 51, 52, 53, 54, 55, 56, 57, 43, 45, 46, 101, 69]
def dropB (s : Str) : Str := s.dropWhile (([32, 9, 10, 13] : Str).contains ·)
def dropN (s : Str) : Str := s.dropWhile (([48, 49, 50, 51, 52, 53, 54, 55, 56, 57, 43, 45, 46, 101, 69] : Str).contains ·)
def isNumB (b : UInt8) : Bool := ([48, 49, 50, 51, 52, 53, 54, 55, 56, 57, 43, 45, 46, 101, 69] : Str).contains b
theorem drop_take {α : Type} (p : α → Bool) : ∀ l : List α, l.dropWhile p = l.drop (l.takeWhile p).length
  | [] => rfl
  | a :: l => by
    rw [List.dropWhile_cons, List.takeWhile_cons]
    split
    · rw [List.length_cons, List.drop_succ_cons]; exact drop_take p l
    · rfl
theorem contains_blank (b : UInt8) : ([32, 9, 10, 13] : Str).contains b = isBlankB b := by
  unfold isBlankB isBlank
  rw [Bool.eq_iff_iff]
  simp only [List.contains_cons, List.contains_nil, Bool.or_false, Bool.or_eq_true, beq_iff_eq]
  have h : ∀ n : Nat, n < 256 → (b = UInt8.ofNat n ↔ (b.toNat : Int) = n) := fun n hn => by
    rw [← UInt8.toNat_inj]; simp [Nat.mod_eq_of_lt hn]; omega
  have h1 := h 32 (by omega)
  have h2 := h 9 (by omega)
  have h3 := h 10 (by omega)
  have h4 := h 13 (by omega)
  have e1 : b = 32 ↔ (b.toNat : Int) = 32 := h1
  have e2 : b = 9 ↔ (b.toNat : Int) = 9 := h2
  have e3 : b = 10 ↔ (b.toNat : Int) = 10 := h3
  have e4 : b = 13 ↔ (b.toNat : Int) = 13 := h4
  rw [e1, e2, e3, e4]; omega
theorem dropB_from (s : Str) (i : Int) (h0 : 0 ≤ i) : dropB (from' s i) = from' s (blankTo s i) := by
  unfold dropB blankTo
  rw [show (fun b => ([32, 9, 10, 13] : Str).contains b) = isBlankB from funext contains_blank, drop_take, ← from_from s i _ h0 (len_nonneg _)]
  unfold from' len
  rw [Int.toNat_natCast]
/-- The place behind a number's bytes. -/
def numTo (s : Str) (i : Int) : Int := i + len ((from' s i).takeWhile isNumB)
def runN (s : Str) : Str := Eng.sub s 0 (len s - len (dropN s))
theorem runN_take (s : Str) : runN s = s.takeWhile isNumB := by
  unfold runN dropN
  rw [show (fun b => ([48, 49, 50, 51, 52, 53, 54, 55, 56, 57, 43, 45, 46, 101, 69] : Str).contains b) = isNumB from rfl, drop_take]
  have h := (List.takeWhile_prefix isNumB (l := s)).length_le
  unfold Eng.sub len
  rw [List.length_drop]
  have e : ((s.length : Int) - ((s.length - (s.takeWhile isNumB).length : Nat) : Int)).toNat - Int.toNat 0 = (s.takeWhile isNumB).length := by omega
  rw [e]
  simp only [Int.toNat_zero, List.drop_zero]
  exact (List.prefix_iff_eq_take.1 (List.takeWhile_prefix isNumB)).symm
theorem dropN_len (s : Str) : 0 ≤ len (dropN s) ∧ len (dropN s) ≤ len s := by
  have := (List.dropWhile_sublist (([48, 49, 50, 51, 52, 53, 54, 55, 56, 57, 43, 45, 46, 101, 69] : Str).contains ·) (l := s)).length_le
  unfold dropN len; omega
theorem dropB_len (s : Str) : 0 ≤ len (dropB s) ∧ len (dropB s) ≤ len s := by
  have := (List.dropWhile_sublist (([32, 9, 10, 13] : Str).contains ·) (l := s)).length_le
  unfold dropB len; omega
theorem numTo_run (s : Str) (i : Int) (h0 : 0 ≤ i) : numTo s i = i + len (runN (from' s i)) := by rw [runN_take]; rfl

/-! ### Marks -/
/-- The first mark that a text begins with; none: nothing. -/
def markP (s : Str) : Str := (marks8.find? (fun m => Lib.hasPrefix s m)).getD []
theorem markP_mem (s : Str) : markP s = [] ∨ (markP s ∈ marks8 ∧ Lib.hasPrefix s (markP s) = true) := by
  unfold markP
  cases h : marks8.find? (fun m => Lib.hasPrefix s m) with
  | none => left; rfl
  | some m => right; exact ⟨List.mem_of_find?_eq_some h, by simpa using List.find?_some h⟩
/-! ### Tokens -/
def noTk : Tk := ⟨0, [], noNd, 0⟩
/-- The token that a text begins with, its bytes; or an error, and its place. -/
def tokP (s : Str) : Tk × Int × Int :=
  if byteAt s 0 = 46 ∧ wordP (from' s 1) ≠ [] then (⟨3, wordP (from' s 1), noNd, 0⟩, 1 + len (wordP (from' s 1)), 0)
  else if byteAt s 0 = 46 ∧ Lib.hasPrefix (from' s 1) [34] = true then (⟨3, (unqP (from' s 1)).1, noNd, 0⟩, 1 + (unqP (from' s 1)).2.1, (unqP (from' s 1)).2.2)
  else if markP s ≠ [] then (⟨1, markP s, noNd, 0⟩, len (markP s), 0)
  else if wordP s ≠ [] then (⟨2, wordP s, noNd, 0⟩, len (wordP s), 0)
  else if byteAt s 0 = 34 then (⟨4, (unqP s).1, noNd, 0⟩, (unqP s).2.1, (unqP s).2.2)
  else if byteAt s 0 = 45 ∨ isFig (byteAt s 0) = true then
    if (read1 (runN s)).2.2 ≠ 0 then (noTk, (read1 (runN s)).2.1, (read1 (runN s)).2.2)
    else (⟨5, [], (read1 (runN s)).1, 0⟩, len (runN s), 0)
  else (noTk, 0, 1)
def endTk (s : Str) : Tk := ⟨6, [], noNd, len s⟩
def lexGo (f : Nat) (s : Str) (i : Int) (acc : List Tk) : List Tk × Int × Int :=
  match f with
  | 0 => (acc ++ [endTk s], 0, 0)
  | f + 1 =>
    if i < len s then
      if (tokP (from' s i)).2.2 ≠ 0 then ([], i + (tokP (from' s i)).2.1, (tokP (from' s i)).2.2)
      else lexGo f s (blankTo s (i + (tokP (from' s i)).2.1)) (acc ++ [{ (tokP (from' s i)).1 with pos := i }])
    else (acc ++ [endTk s], 0, 0)
def lexP (s : Str) : List Tk × Int × Int := lexGo s.length s (blankTo s 0) []
theorem lexGo_eq {f : Nat} {s : Str} {i : Int} {acc : List Tk} (hf : (len s - i).toNat ≤ f) (h1 : i < len s) : lexGo f s i acc =
    if (tokP (from' s i)).2.2 ≠ 0 then ([], i + (tokP (from' s i)).2.1, (tokP (from' s i)).2.2)
      else lexGo (f - 1) s (blankTo s (i + (tokP (from' s i)).2.1)) (acc ++ [{ (tokP (from' s i)).1 with pos := i }]) := by
  cases f with
  | zero => omega
  | succ f => conv => lhs; unfold lexGo
              rw [if_pos h1]; rfl
theorem lexGo_end {f : Nat} {s : Str} {i : Int} {acc : List Tk} (h1 : ¬ i < len s) : lexGo f s i acc = (acc ++ [endTk s], 0, 0) := by
  cases f with
  | zero => rfl
  | succ f => unfold lexGo; rw [if_neg h1]

/-! ### Bounds -/
theorem wordTo_bd {s : Str} {i : Int} (h0 : 0 ≤ i) (h1 : i ≤ len s) : i ≤ wordTo s i ∧ wordTo s i ≤ len s := by
  by_cases h : i < len s
  · by_cases hw : isWordR (byteAt s i) (i == 0) = true
    · have := wordTo_bd (s := s) (i := i + 1) (by omega) (by omega)
      rw [wordTo_step h0 h hw] at this; omega
    · rw [wordTo_stop h0 h (by simpa using hw)]; omega
  · rw [wordTo_end h]; omega
termination_by (len s - i).toNat
theorem wordP_len (s : Str) : len (wordP s) = wordTo s 0 := by
  have := wordTo_bd (s := s) (i := 0) (by omega) (len_nonneg s)
  unfold wordP; rw [sub_len (by omega) (by omega) (by omega)]; omega
theorem wordP_bd (s : Str) : 0 ≤ len (wordP s) ∧ len (wordP s) ≤ len s := by
  have := wordTo_bd (s := s) (i := 0) (by omega) (len_nonneg s)
  rw [wordP_len]; omega
theorem from_len' {α : Type} (s : List α) (i : Int) (h0 : 0 ≤ i) : len (from' s i) = if i ≤ len s then len s - i else 0 := by
  unfold from' len; rw [List.length_drop]; split <;> omega
theorem escP_le (s : Str) : 0 ≤ (escP s).2 ∧ (escP s).2 ≤ len s ∧ ((escP s).2 ≠ 0 → 2 ≤ (escP s).2) := by
  have h1 := numP_bd s
  have h2 := numP_bd (from' s 6)
  have h3 := from_len' s 6 (by omega)
  have h4 := len_nonneg s
  unfold escP
  repeat' split
  all_goals (dsimp only; try (split at h3); all_goals omega)
theorem runeLen_bd {s : Str} {i : Int} (h0 : 0 ≤ i) (h1 : i < len s) : 1 ≤ runeLen s i ∧ i + runeLen s i ≤ len s := by
  have h2 := rune_le s i h1
  rcases rune_dec h0 h1 with ⟨_, _, h3, _⟩ | ⟨h3, h4, _⟩ <;> omega
theorem unqGo_bd {f : Nat} {s : Str} {i : Int} {acc : List Int} (h0 : 0 ≤ i) (h1 : i ≤ len s) :
    0 ≤ (unqGo f s i acc).2.1 ∧ (unqGo f s i acc).2.1 ≤ len s ∧ ((unqGo f s i acc).2.2 = 0 → i < (unqGo f s i acc).2.1) ∧ ((unqGo f s i acc).2.2 = 0 ∨ (unqGo f s i acc).2.2 = 1) := by
  induction f generalizing i acc with
  | zero => unfold unqGo; dsimp only; omega
  | succ f ih =>
    unfold unqGo
    split
    · rename_i hlt
      have hf := from_len s i h0 h1
      split
      · dsimp only; omega
      · split
        · have he := escP_le (from' s i)
          split
          · dsimp only; omega
          · have := ih (i := i + (escP (from' s i)).2) (acc := acc ++ Lib.encodeRuneZ (escP (from' s i)).1) (by omega) (by omega)
            omega
        · split
          · dsimp only; omega
          · have hb := runeLen_bd h0 hlt
            rw [runeLen_from s i h0]
            have := ih (i := i + runeLen s i) (acc := acc ++ Lib.encodeRuneZ (runeAt (from' s i) 0)) (by omega) (by omega)
            omega
    · dsimp only; omega
theorem hasPrefix_len {s p : Str} (h : Lib.hasPrefix s p = true) : len p ≤ len s := by
  have := (List.isPrefixOf_iff_prefix.1 h).length_le
  unfold len; omega
theorem unqP_bd (s : Str) : 0 ≤ (unqP s).2.1 ∧ (unqP s).2.1 ≤ len s ∧ ((unqP s).2.2 = 0 → 2 ≤ (unqP s).2.1) ∧ ((unqP s).2.2 = 0 ∨ (unqP s).2.2 = 1) := by
  unfold unqP
  split
  · rename_i h
    have h1 : (1 : Int) ≤ len s := hasPrefix_len h
    have := unqGo_bd (f := s.length) (s := s) (i := 1) (acc := []) (by omega) h1
    omega
  · have := len_nonneg s; dsimp only; omega
/-! ### Texts -/
def oneP (t : Tk) : Str :=
  if t.kind = 3 then 46 :: (if ¬ wordP t.s = t.s ∨ t.s = [] then quoteP t.s else t.s)
  else if t.kind = 4 then quoteP t.s
  else if t.kind = 5 then print1 t.c
  else t.s
def textsP (l : List Tk) : List Str := (l.filter (fun t => t.kind != 6)).map oneP
def textP (l : List Tk) : Str := Lib.join (textsP l) [32]
def name7 (s : Str) : Str := if word6 s then s else quoteR s
def oneR (t : Tk) : Str :=
  if t.kind = 3 then [46] ++ name7 t.s
  else if t.kind = 4 then quoteR t.s
  else if t.kind = 5 then print1 t.c
  else t.s
/-- A text, token by token. -/
def textStep (o : Str) (t : Tk) : Str := (if t.kind ≠ 6 ∧ o ≠ [] then o ++ [32] else o) ++ oneR t
def textR (l : List Tk) : Str := l.foldl textStep []
end Go.Eng
