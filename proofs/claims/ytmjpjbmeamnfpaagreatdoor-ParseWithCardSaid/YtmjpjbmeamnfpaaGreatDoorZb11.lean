/-
  PLAIN LEAN: UTF-8, of bytes alone: the document's runes and Go's decoding. No program in it.
  PLAIN LEAN: UTF-8, as the document has it ('rune') and as Go decodes it ('runeAt', 'runeLen'). No program in it.
  THE PLAIN FORMS OF TOKENS: what lex and louperef08 reckon. No program in it.
  THE PLAIN FORM OF parse.Parse: what a text is read as, as a filter. No program in it.
  The parser's first steps: now, is.
  AN ITERATOR, walked: calls of yield. Over any program.
  THE ENGINE, PART 17: slices of slices: an element is a slice's header; a fact beside tells what each of them holds. Over any program.
  slices.Backward's iterator.
-/
import Derived.Lib.DecodeN
import Derived.Test.YtmjpjbmeamnfpaaGreatDoorZb10
import Derived.Lib.Join
import Derived.Test.YtmjpjbmeamnfpaaGreatDoorZb8
import Derived.Test.YtmjpjbmeamnfpaaGreatDoorZb7
import Derived.Test.YtmjpjbmeamnfpaaGreatDoorZb4
set_option linter.unusedVariables false
set_option linter.unusedSimpArgs false
namespace Go.Eng

/-- The document's rune, of bytes alone. -/
def runeN (n x0 x1 x2 x3 : Nat) : Nat :=
  if x0 < 128 then 1
  else if 194 ≤ x0 ∧ x0 < 224 ∧ (1 < n ∧ 128 ≤ x1 ∧ x1 < 192) then 2
  else if 224 ≤ x0 ∧ x0 < 240 ∧ (1 < n ∧ 128 ≤ x1 ∧ x1 < 192) ∧ (2 < n ∧ 128 ≤ x2 ∧ x2 < 192) then
    if (x0 = 224 ∧ x1 < 160) ∨ (x0 = 237 ∧ 160 ≤ x1) then 0 else 3
  else if 240 ≤ x0 ∧ x0 < 245 ∧ (1 < n ∧ 128 ≤ x1 ∧ x1 < 192) ∧ (2 < n ∧ 128 ≤ x2 ∧ x2 < 192) ∧ (3 < n ∧ 128 ≤ x3 ∧ x3 < 192) then
    if (x0 = 240 ∧ x1 < 144) ∨ (x0 = 244 ∧ 144 ≤ x1) then 0 else 4
  else 0
/-- What a rune of so many bytes is decoded as. -/
def DecAs (n x0 x1 x2 x3 k r l : Nat) : Prop :=
  (k = 0 ∧ r = 65533 ∧ l = 1 ∧ 128 ≤ x0) ∨ (k = 1 ∧ r = x0 ∧ l = 1 ∧ x0 < 128) ∨
  (k = 2 ∧ l = 2 ∧ 2 ≤ n ∧ 128 ≤ r ∧ r ≤ 2047 ∧ 192 + r / 64 = x0 ∧ 128 + r % 64 = x1) ∨
  (k = 3 ∧ l = 3 ∧ 3 ≤ n ∧ ((2048 ≤ r ∧ r < 55296) ∨ (57343 < r ∧ r ≤ 65535)) ∧ 224 + r / 4096 = x0 ∧ 128 + r / 64 % 64 = x1 ∧ 128 + r % 64 = x2) ∨
  (k = 4 ∧ l = 4 ∧ 4 ≤ n ∧ 65536 ≤ r ∧ r ≤ 1114111 ∧ 240 + r / 262144 = x0 ∧ 128 + r / 4096 % 64 = x1 ∧ 128 + r / 64 % 64 = x2 ∧ 128 + r % 64 = x3)
set_option maxHeartbeats 4000000 in
set_option maxRecDepth 100000 in
theorem runeN_dec (n x0 x1 x2 x3 : Nat) (hn : 1 ≤ n) (h0 : x0 < 256) (h1 : x1 < 256) (h2 : x2 < 256) (h3 : x3 < 256) : DecAs n x0 x1 x2 x3 (runeN n x0 x1 x2 x3) (Lib.decodeN n x0 x1 x2 x3).1 (Lib.decodeN n x0 x1 x2 x3).2 := by
  unfold runeN Lib.decodeN DecAs
  repeat' split
  all_goals first | exact .inl ⟨rfl, rfl, rfl, by omega⟩ | exact .inr (.inl ⟨rfl, rfl, rfl, by omega⟩) | exact .inr (.inr (.inl ⟨rfl, rfl, by omega, by dsimp only; omega, by dsimp only; omega, by dsimp only; omega, by dsimp only; omega⟩)) | exact .inr (.inr (.inr (.inl ⟨rfl, rfl, by omega, by dsimp only; omega, by dsimp only; omega, by dsimp only; omega, by dsimp only; omega⟩))) | exact .inr (.inr (.inr (.inr ⟨rfl, rfl, by omega, by dsimp only; omega, by dsimp only; omega, by dsimp only; omega, by dsimp only; omega, by dsimp only; omega, by dsimp only; omega⟩))) | (exfalso; omega)
end Go.Eng
namespace Go.Eng
open Go.RowKit

theorem byteAt_nat (s : Str) (i : Int) (h0 : 0 ≤ i) (j : Nat) : byteAt s (i + j) = ((s.getD (i.toNat + j) 0).toNat : Int) := by
  unfold byteAt; rw [show (i + j).toNat = i.toNat + j from by omega]
theorem getD_from (s : Str) (i : Int) (j : Nat) : (from' s i).getD j 0 = s.getD (i.toNat + j) 0 := by
  unfold from'; simp [List.getD_eq_getElem?_getD, List.getElem?_drop]
theorem get!_mk (l : Str) (j : Nat) : (ByteArray.mk ⟨l⟩).get! j = l.getD j 0 := by
  show (Array.mk l)[j]! = _
  simp [List.getD_eq_getElem?_getD]
  rfl
theorem from_from {α : Type} (s : List α) (i j : Int) (h0 : 0 ≤ i) (h1 : 0 ≤ j) : from' (from' s i) j = from' s (i + j) := by
  unfold from'; rw [List.drop_drop, show (i + j).toNat = i.toNat + j.toNat from by omega]
theorem byteAt_from (s : Str) (i j : Int) (h0 : 0 ≤ i) (h1 : 0 ≤ j) : byteAt (from' s i) j = byteAt s (i + j) := by
  unfold byteAt; rw [getD_from, show (i + j).toNat = i.toNat + j.toNat from by omega]
theorem decode_from (s : Str) (i : Int) (h0 : 0 ≤ i) :
    Utf8.decode ⟨⟨from' s i⟩⟩ 0 = Lib.decodeN (s.length - i.toNat) (s.getD i.toNat 0).toNat (s.getD (i.toNat + 1) 0).toNat (s.getD (i.toNat + 2) 0).toNat (s.getD (i.toNat + 3) 0).toNat := by
  rw [Lib.decode_at]
  simp only [get!_mk, getD_from, Nat.zero_add, Nat.add_zero, Nat.sub_zero]
  congr 1
  show (from' s i).length = _
  unfold from'; rw [List.length_drop]
/-- Ranging over a text, and decoding what stands from a place on, are the same. -/
theorem decode_same (s : Str) (i : Int) (h0 : 0 ≤ i) : Utf8.decode ⟨⟨s⟩⟩ i.toNat = Utf8.decode ⟨⟨from' s i⟩⟩ 0 := by
  rw [decode_from s i h0, Lib.decode_at]
  simp only [get!_mk]; rfl
theorem runeAt_from (s : Str) (i : Int) (h0 : 0 ≤ i) : runeAt (from' s i) 0 = runeAt s i := by unfold runeAt; rw [decode_same s i h0]; rfl
theorem runeLen_from (s : Str) (i : Int) (h0 : 0 ≤ i) : runeLen (from' s i) 0 = runeLen s i := by unfold runeLen; rw [decode_same s i h0]; rfl
theorem sub_bytes2 {s : Str} {i : Int} (h0 : 0 ≤ i) : ∀ n : Nat, i + n ≤ len s → Eng.sub s i (i + n) = (List.range n).map (fun j => s.getD (i.toNat + j) 0) := by
  intro n h
  unfold Eng.sub
  apply List.ext_getElem?
  intro k
  rw [show (i + n).toNat - i.toNat = n from by omega]
  unfold len at h
  by_cases hk : k < n
  · rw [List.getElem?_take, if_pos hk, List.getElem?_drop]
    have : i.toNat + k < s.length := by omega
    simp [hk, this]
  · rw [List.getElem?_take, if_neg hk]
    simp [hk]
theorem u8_of (b : UInt8) (x : Int) (h : x = (b.toNat : Int)) : UInt8.ofNat x.toNat = b := by subst h; simp
theorem rune_N {s : Str} {i : Int} (h0 : 0 ≤ i) (h1 : i < len s) : rune s i = (runeN (s.length - i.toNat) (s.getD i.toNat 0).toNat (s.getD (i.toNat + 1) 0).toNat (s.getD (i.toNat + 2) 0).toNat (s.getD (i.toNat + 3) 0).toNat : Nat) := by
  have e0 : byteAt s i = ((s.getD i.toNat 0).toNat : Int) := rfl
  have e1 : byteAt s (i + 1) = ((s.getD (i.toNat + 1) 0).toNat : Int) := byteAt_nat s i h0 1
  have e2 : byteAt s (i + 2) = ((s.getD (i.toNat + 2) 0).toNat : Int) := byteAt_nat s i h0 2
  have e3 : byteAt s (i + 3) = ((s.getD (i.toNat + 3) 0).toNat : Int) := byteAt_nat s i h0 3
  have hlen : len s = (s.length : Int) := rfl
  unfold rune cont runeN
  simp only [e0, e1, e2, e3]
  simp only [Bool.and_eq_true, Bool.or_eq_true, decide_eq_true_eq, beq_iff_eq]
  repeat' split
  all_goals first | rfl | (exfalso; omega)
/-- A rune that is valid is what Go decodes; its bytes are what stands there. -/
theorem rune_dec {s : Str} {i : Int} (h0 : 0 ≤ i) (h1 : i < len s) :
    (rune s i = 0 ∧ runeAt s i = 65533 ∧ runeLen s i = 1 ∧ 128 ≤ byteAt s i) ∨
    (1 ≤ rune s i ∧ runeLen s i = rune s i ∧ ¬ (runeAt s i = 65533 ∧ runeLen s i = 1) ∧ toStr (Lib.encodeRuneZ (runeAt s i)) = Eng.sub s i (i + rune s i) ∧ (byteAt s i < 128 → rune s i = 1 ∧ runeAt s i = byteAt s i) ∧ (128 ≤ byteAt s i → 128 ≤ runeAt s i)) := by
  have hlen : len s = (s.length : Int) := rfl
  have hrn := rune_N h0 h1
  have hle := rune_le s i h1
  have e0 : byteAt s i = ((s.getD i.toNat 0).toNat : Int) := rfl
  have s1 := sub_bytes2 (s := s) h0 1
  have s2 := sub_bytes2 (s := s) h0 2
  have s3 := sub_bytes2 (s := s) h0 3
  have s4 := sub_bytes2 (s := s) h0 4
  simp only [List.range_succ, List.range_zero, List.nil_append, List.map_append, List.map_cons, List.map_nil, List.cons_append, Nat.add_zero] at s1 s2 s3 s4
  have hr : runeAt s i = ((Lib.decodeN (s.length - i.toNat) (s.getD i.toNat 0).toNat (s.getD (i.toNat + 1) 0).toNat (s.getD (i.toNat + 2) 0).toNat (s.getD (i.toNat + 3) 0).toNat).1 : Nat) := by
    unfold runeAt; rw [decode_same s i h0, decode_from s i h0]
  have hl : runeLen s i = ((Lib.decodeN (s.length - i.toNat) (s.getD i.toNat 0).toNat (s.getD (i.toNat + 1) 0).toNat (s.getD (i.toNat + 2) 0).toNat (s.getD (i.toNat + 3) 0).toNat).2 : Nat) := by
    unfold runeLen; rw [decode_same s i h0, decode_from s i h0]
  have hD := runeN_dec (s.length - i.toNat) (s.getD i.toNat 0).toNat (s.getD (i.toNat + 1) 0).toNat (s.getD (i.toNat + 2) 0).toNat (s.getD (i.toNat + 3) 0).toNat (by omega) (UInt8.toNat_lt _) (UInt8.toNat_lt _) (UInt8.toNat_lt _) (UInt8.toNat_lt _)
  generalize Lib.decodeN (s.length - i.toNat) (s.getD i.toNat 0).toNat (s.getD (i.toNat + 1) 0).toNat (s.getD (i.toNat + 2) 0).toNat (s.getD (i.toNat + 3) 0).toNat = D at *
  generalize runeN (s.length - i.toNat) (s.getD i.toNat 0).toNat (s.getD (i.toNat + 1) 0).toNat (s.getD (i.toNat + 2) 0).toNat (s.getD (i.toNat + 3) 0).toNat = K at *
  obtain ⟨r, l⟩ := D
  dsimp only at hD hr hl
  rcases hD with ⟨rfl, hd, hx⟩ | ⟨rfl, hd, hx⟩ | ⟨rfl, hd, hx⟩ | ⟨rfl, hd, hx⟩ | ⟨rfl, hd, hx⟩
  · left; refine ⟨by omega, by omega, by omega, by omega⟩
  · right
    refine ⟨by omega, by omega, by omega, ?_, fun _ => ⟨by omega, by omega⟩, by omega⟩
    rw [hr, hrn, Lib.encodeRuneZ_one (by omega) (by omega)]
    rw [show ((1 : Nat) : Int) = 1 from rfl] at *
    rw [s1 (by omega)]
    simp only [toStr, List.map_cons, List.map_nil]
    rw [u8_of (s.getD i.toNat 0) _ (by omega)]
  · right
    refine ⟨by omega, by omega, by omega, ?_, by omega, by omega⟩
    rw [hr, hrn, Lib.encodeRuneZ_two (by omega) (by omega)]
    have := s2 (by omega)
    refine Eq.trans ?_ this.symm
    simp only [toStr, List.map_cons, List.map_nil]
    rw [u8_of (s.getD i.toNat 0) _ (by omega), u8_of (s.getD (i.toNat + 1) 0) _ (by omega)]
  · right
    refine ⟨by omega, by omega, by omega, ?_, by omega, by omega⟩
    rw [hr, hrn, Lib.encodeRuneZ_three (by omega)]
    have := s3 (by omega)
    refine Eq.trans ?_ this.symm
    simp only [toStr, List.map_cons, List.map_nil]
    rw [u8_of (s.getD i.toNat 0) _ (by omega), u8_of (s.getD (i.toNat + 1) 0) _ (by omega), u8_of (s.getD (i.toNat + 2) 0) _ (by omega)]
  · right
    refine ⟨by omega, by omega, by omega, ?_, by omega, by omega⟩
    rw [hr, hrn, Lib.encodeRuneZ_four (by omega) (by omega)]
    have := s4 (by omega)
    refine Eq.trans ?_ this.symm
    simp only [toStr, List.map_cons, List.map_nil]
    rw [u8_of (s.getD i.toNat 0) _ (by omega), u8_of (s.getD (i.toNat + 1) 0) _ (by omega), u8_of (s.getD (i.toNat + 2) 0) _ (by omega), u8_of (s.getD (i.toNat + 3) 0) _ (by omega)]
end Go.Eng
namespace Go.Eng
open Go.RowKit

def dropB (s : Str) : Str := s.dropWhile (([32, 9, 10, 13] : Str).contains ·)
def dropN (s : Str) : Str := s.dropWhile (([48, 49, 50, 51, 52, 53, 54, 55, 56, 57, 43, 45, 46, 101, 69] : Str).contains ·)
def isNumB (b : UInt8) : Bool := ([48, 49, 50, 51, 52, 53, 54, 55, 56, 57, 43, 45, 46, 101, 69] : Str).contains b
theorem drop_take {α : Type} (p : α → Bool) : ∀ l : List α, l.dropWhile p = l.drop (l.takeWhile p).length
  | [] => rfl
  | a :: l => by
    rw [List.dropWhile_cons, List.takeWhile_cons]
    split
    · rw [List.length_cons, List.drop_succ_cons]; exact drop_take p l
    · rfl
theorem contains_blank (b : UInt8) : ([32, 9, 10, 13] : Str).contains b = isBlankB b := by
  unfold isBlankB isBlank
  rw [Bool.eq_iff_iff]
  simp only [List.contains_cons, List.contains_nil, Bool.or_false, Bool.or_eq_true, beq_iff_eq]
  have h : ∀ n : Nat, n < 256 → (b = UInt8.ofNat n ↔ (b.toNat : Int) = n) := fun n hn => by
    rw [← UInt8.toNat_inj]; simp [Nat.mod_eq_of_lt hn]; omega
  have h1 := h 32 (by omega)
  have h2 := h 9 (by omega)
  have h3 := h 10 (by omega)
  have h4 := h 13 (by omega)
  have e1 : b = 32 ↔ (b.toNat : Int) = 32 := h1
  have e2 : b = 9 ↔ (b.toNat : Int) = 9 := h2
  have e3 : b = 10 ↔ (b.toNat : Int) = 10 := h3
  have e4 : b = 13 ↔ (b.toNat : Int) = 13 := h4
  rw [e1, e2, e3, e4]; omega
theorem dropB_from (s : Str) (i : Int) (h0 : 0 ≤ i) : dropB (from' s i) = from' s (blankTo s i) := by
  unfold dropB blankTo
  rw [show (fun b => ([32, 9, 10, 13] : Str).contains b) = isBlankB from funext contains_blank, drop_take, ← from_from s i _ h0 (len_nonneg _)]
  unfold from' len
  rw [Int.toNat_natCast]
def runN (s : Str) : Str := Eng.sub s 0 (len s - len (dropN s))
theorem runN_take (s : Str) : runN s = s.takeWhile isNumB := by
  unfold runN dropN
  rw [show (fun b => ([48, 49, 50, 51, 52, 53, 54, 55, 56, 57, 43, 45, 46, 101, 69] : Str).contains b) = isNumB from rfl, drop_take]
  have h := (List.takeWhile_prefix isNumB (l := s)).length_le
  unfold Eng.sub len
  rw [List.length_drop]
  have e : ((s.length : Int) - ((s.length - (s.takeWhile isNumB).length : Nat) : Int)).toNat - Int.toNat 0 = (s.takeWhile isNumB).length := by omega
  rw [e]
  simp only [Int.toNat_zero, List.drop_zero]
  exact (List.prefix_iff_eq_take.1 (List.takeWhile_prefix isNumB)).symm
theorem dropN_len (s : Str) : 0 ≤ len (dropN s) ∧ len (dropN s) ≤ len s := by
  have := (List.dropWhile_sublist (([48, 49, 50, 51, 52, 53, 54, 55, 56, 57, 43, 45, 46, 101, 69] : Str).contains ·) (l := s)).length_le
  unfold dropN len; omega
/-! ### Marks -/
/-- The first mark that a text begins with; none: nothing. -/
def markP (s : Str) : Str := (marks8.find? (fun m => Lib.hasPrefix s m)).getD []
theorem markP_mem (s : Str) : markP s = [] ∨ (markP s ∈ marks8 ∧ Lib.hasPrefix s (markP s) = true) := by
  unfold markP
  cases h : marks8.find? (fun m => Lib.hasPrefix s m) with
  | none => left; rfl
  | some m => right; exact ⟨List.mem_of_find?_eq_some h, by simpa using List.find?_some h⟩
/-! ### Tokens -/
def noTk : Tk := ⟨0, [], noNd, 0⟩
/-- The token that a text begins with, its bytes; or an error, and its place. -/
def tokP (s : Str) : Tk × Int × Int :=
  if byteAt s 0 = 46 ∧ wordP (from' s 1) ≠ [] then (⟨3, wordP (from' s 1), noNd, 0⟩, 1 + len (wordP (from' s 1)), 0)
  else if byteAt s 0 = 46 ∧ Lib.hasPrefix (from' s 1) [34] = true then (⟨3, (unqP (from' s 1)).1, noNd, 0⟩, 1 + (unqP (from' s 1)).2.1, (unqP (from' s 1)).2.2)
  else if markP s ≠ [] then (⟨1, markP s, noNd, 0⟩, len (markP s), 0)
  else if wordP s ≠ [] then (⟨2, wordP s, noNd, 0⟩, len (wordP s), 0)
  else if byteAt s 0 = 34 then (⟨4, (unqP s).1, noNd, 0⟩, (unqP s).2.1, (unqP s).2.2)
  else if byteAt s 0 = 45 ∨ isFig (byteAt s 0) = true then
    if (read1 (runN s)).2.2 ≠ 0 then (noTk, (read1 (runN s)).2.1, (read1 (runN s)).2.2)
    else (⟨5, [], (read1 (runN s)).1, 0⟩, len (runN s), 0)
  else (noTk, 0, 1)
def endTk (s : Str) : Tk := ⟨6, [], noNd, len s⟩
def lexGo (f : Nat) (s : Str) (i : Int) (acc : List Tk) : List Tk × Int × Int :=
  match f with
  | 0 => (acc ++ [endTk s], 0, 0)
  | f + 1 =>
    if i < len s then
      if (tokP (from' s i)).2.2 ≠ 0 then ([], i + (tokP (from' s i)).2.1, (tokP (from' s i)).2.2)
      else lexGo f s (blankTo s (i + (tokP (from' s i)).2.1)) (acc ++ [{ (tokP (from' s i)).1 with pos := i }])
    else (acc ++ [endTk s], 0, 0)
def lexP (s : Str) : List Tk × Int × Int := lexGo s.length s (blankTo s 0) []
theorem lexGo_eq {f : Nat} {s : Str} {i : Int} {acc : List Tk} (hf : (len s - i).toNat ≤ f) (h1 : i < len s) : lexGo f s i acc =
    if (tokP (from' s i)).2.2 ≠ 0 then ([], i + (tokP (from' s i)).2.1, (tokP (from' s i)).2.2)
      else lexGo (f - 1) s (blankTo s (i + (tokP (from' s i)).2.1)) (acc ++ [{ (tokP (from' s i)).1 with pos := i }]) := by
  cases f with
  | zero => omega
  | succ f => conv => lhs; unfold lexGo
              rw [if_pos h1]; rfl
theorem lexGo_end {f : Nat} {s : Str} {i : Int} {acc : List Tk} (h1 : ¬ i < len s) : lexGo f s i acc = (acc ++ [endTk s], 0, 0) := by
  cases f with
  | zero => rfl
  | succ f => unfold lexGo; rw [if_neg h1]

/-! ### Bounds -/
theorem wordTo_bd {s : Str} {i : Int} (h0 : 0 ≤ i) (h1 : i ≤ len s) : i ≤ wordTo s i ∧ wordTo s i ≤ len s := by
  by_cases h : i < len s
  · by_cases hw : isWordR (byteAt s i) (i == 0) = true
    · have := wordTo_bd (s := s) (i := i + 1) (by omega) (by omega)
      rw [wordTo_step h0 h hw] at this; omega
    · rw [wordTo_stop h0 h (by simpa using hw)]; omega
  · rw [wordTo_end h]; omega
termination_by (len s - i).toNat
theorem wordP_len (s : Str) : len (wordP s) = wordTo s 0 := by
  have := wordTo_bd (s := s) (i := 0) (by omega) (len_nonneg s)
  unfold wordP; rw [sub_len (by omega) (by omega) (by omega)]; omega
theorem wordP_bd (s : Str) : 0 ≤ len (wordP s) ∧ len (wordP s) ≤ len s := by
  have := wordTo_bd (s := s) (i := 0) (by omega) (len_nonneg s)
  rw [wordP_len]; omega
theorem from_len' {α : Type} (s : List α) (i : Int) (h0 : 0 ≤ i) : len (from' s i) = if i ≤ len s then len s - i else 0 := by
  unfold from' len; rw [List.length_drop]; split <;> omega
theorem escP_le (s : Str) : 0 ≤ (escP s).2 ∧ (escP s).2 ≤ len s ∧ ((escP s).2 ≠ 0 → 2 ≤ (escP s).2) := by
  have h1 := numP_bd s
  have h2 := numP_bd (from' s 6)
  have h3 := from_len' s 6 (by omega)
  have h4 := len_nonneg s
  unfold escP
  repeat' split
  all_goals (dsimp only; try (split at h3); all_goals omega)
theorem runeLen_bd {s : Str} {i : Int} (h0 : 0 ≤ i) (h1 : i < len s) : 1 ≤ runeLen s i ∧ i + runeLen s i ≤ len s := by
  have h2 := rune_le s i h1
  rcases rune_dec h0 h1 with ⟨_, _, h3, _⟩ | ⟨h3, h4, _⟩ <;> omega
theorem unqGo_bd {f : Nat} {s : Str} {i : Int} {acc : List Int} (h0 : 0 ≤ i) (h1 : i ≤ len s) :
    0 ≤ (unqGo f s i acc).2.1 ∧ (unqGo f s i acc).2.1 ≤ len s ∧ ((unqGo f s i acc).2.2 = 0 → i < (unqGo f s i acc).2.1) ∧ ((unqGo f s i acc).2.2 = 0 ∨ (unqGo f s i acc).2.2 = 1) := by
  induction f generalizing i acc with
  | zero => unfold unqGo; dsimp only; omega
  | succ f ih =>
    unfold unqGo
    split
    · rename_i hlt
      have hf := from_len s i h0 h1
      split
      · dsimp only; omega
      · split
        · have he := escP_le (from' s i)
          split
          · dsimp only; omega
          · have := ih (i := i + (escP (from' s i)).2) (acc := acc ++ Lib.encodeRuneZ (escP (from' s i)).1) (by omega) (by omega)
            omega
        · split
          · dsimp only; omega
          · have hb := runeLen_bd h0 hlt
            rw [runeLen_from s i h0]
            have := ih (i := i + runeLen s i) (acc := acc ++ Lib.encodeRuneZ (runeAt (from' s i) 0)) (by omega) (by omega)
            omega
    · dsimp only; omega
theorem hasPrefix_len {s p : Str} (h : Lib.hasPrefix s p = true) : len p ≤ len s := by
  have := (List.isPrefixOf_iff_prefix.1 h).length_le
  unfold len; omega
theorem unqP_bd (s : Str) : 0 ≤ (unqP s).2.1 ∧ (unqP s).2.1 ≤ len s ∧ ((unqP s).2.2 = 0 → 2 ≤ (unqP s).2.1) ∧ ((unqP s).2.2 = 0 ∨ (unqP s).2.2 = 1) := by
  unfold unqP
  split
  · rename_i h
    have h1 : (1 : Int) ≤ len s := hasPrefix_len h
    have := unqGo_bd (f := s.length) (s := s) (i := 1) (acc := []) (by omega) h1
    omega
  · have := len_nonneg s; dsimp only; omega
end Go.Eng
namespace Go.Eng
open Go.RowKit

/-- A term. -/
structure Tm where
  op : Int
  many : Int
  name : Str
  s : Str
  n : Int
  c : Nd
deriving Inhabited, DecidableEq
def Tm.cells (t : Tm) : List Value := [i64 t.op, i64 t.many, str t.name, str t.s, i64 t.n, i64 t.c.kind, i64 t.c.many, str t.c.name, str t.c.s, .bool t.c.neg, i64 t.c.e]
theorem Tm.cells_len (t : Tm) : t.cells.length = 11 := rfl
/-- A filter, as its terms. -/
abbrev Fl := List Tm
def tmF (o : Int) : Tm := ⟨o, 0, [], [], 0, noNd⟩
/-- A filter, as a tree. -/
inductive Tf where
  | mk (t : Tm) (ps : List Tf)
mutual
def Tf.flat : Tf → Fl
  | .mk t ps => { t with many := len ps } :: flatF ps
def flatF : List Tf → Fl
  | [] => []
  | x :: l => x.flat ++ flatF l
end
instance : Inhabited Tf := ⟨.mk default []⟩
def Tf.t : Tf → Tm
  | .mk t _ => t
def Tf.ps : Tf → List Tf
  | .mk _ ps => ps
def Tf.named (n : Str) : Tf → Tf
  | .mk t ps => .mk { t with name := n } ps
/-- One, then another one. -/
def pipeF : Tf → Tf → Tf
  | .mk t [a, b], g => if t.op = 4 then .mk (tmF 4) [a, pipeF b g] else .mk (tmF 4) [.mk t [a, b], g]
  | x, g => .mk (tmF 4) [x, g]
def pipedF : List Tf → Tf
  | [] => default
  | [x] => x
  | x :: y :: l => pipeF x (pipedF (y :: l))
/-- A step of a path. -/
structure Sp where
  part : Bool
  name : Str
  n : Int
deriving Inhabited, DecidableEq
def Sp.cells (x : Sp) : List Value := [.bool x.part, str x.name, i64 x.n]
def isWordS (s : Str) : Bool := s != [] && wordP s == s
def stepP (q : Str → Str) (x : Sp) : Str :=
  if x.part then [91] ++ Lib.itoa x.n ++ [93] else if isWordS x.name then [46] ++ x.name else [46] ++ q x.name
def pathP (q : Str → Str) (p : List Sp) : Str := (if p = [] ∨ (at' p 0).part = true then [46] else []) ++ (p.map (stepP q)).flatten

/-! ### tokens -/
def isM (l : List Tk) (i : Int) (m : Str) : Bool := (at' l i).kind == 1 && (at' l i).s == m
def isWd (l : List Tk) (i : Int) (w : Str) : Bool := (at' l i).kind == 2 && (at' l i).s == w
def failA {α : Type} (l : List Tk) (i e : Int) : PR α := .er e (at' l i).pos
def PR.bind {α β : Type} (r : PR α) (k : α → Int → PR β) : PR β := match r with
  | .er c p => .er c p
  | .ok x j => k x j
def needA (l : List Tk) (i : Int) (m : Str) : PR Unit := if isM l i m then .ok () (i + 1) else failA l i 1
def openA (l : List Tk) (d i : Int) (m : Str) : PR Unit := if isM l i m && decide (64 ≤ d) then failA l i 3 else needA l i m
/-- A mark, something, a mark. -/
def callA {α : Type} (l : List Tk) (d i : Int) (x : Int → PR α) : PR α := (openA l d i [40]).bind fun _ j => (x j).bind fun y k => (needA l k [41]).bind fun _ m => .ok y m
def figsN (s : Str) : Int := s.foldl (fun n c => 10 * n + ((c.toNat : Int) - 48)) 0
def wholeN (t : Tk) : Int := figsN (t.c.s ++ List.replicate t.c.e.toNat 48)
def wholeA (l : List Tk) (i : Int) : PR Int :=
  if (at' l i).kind ≠ 5 ∨ (at' l i).c.neg = true ∨ (at' l i).c.e < 0 ∨ 7 < len (at' l i).c.s + (at' l i).c.e then failA l i 1
  else if 1000000 < wholeN (at' l i) then failA l i 1 else .ok (wholeN (at' l i)) (i + 1)
/-- A suffix: a field, a part, a tail. -/
def sufA (l : List Tk) (i : Int) : PR Tf :=
  if (at' l i).kind = 3 then .ok (.mk { tmF 1 with s := (at' l i).s } []) (i + 1)
  else (wholeA l (i + 1)).bind fun n j =>
    if isM l j [58] then (needA l (j + 1) [93]).bind fun _ k => .ok (.mk { tmF 3 with n := n } []) k
    else (needA l j [93]).bind fun _ k => .ok (.mk { tmF 2 with n := n } []) k
def sufsA : Nat → List Tk → List Tf → Int → PR Tf
  | 0, l, _, i => failA l i 1
  | f + 1, l, xs, i => if (at' l i).kind = 3 ∨ isM l i [91] = true then (sufA l i).bind fun x j => sufsA f l (xs ++ [x]) j else .ok (pipedF xs) i
/-- The steps of a path. -/
def stepsA (dot : Bool) : Nat → List Tk → List Sp → Int → PR (List Sp)
  | 0, l, _, i => failA l i 1
  | f + 1, l, xs, i =>
    if isM l i [91] = true ∨ (at' l i).kind = 3 ∧ (dot = false ∨ xs ≠ []) then
      if len xs = 20 then failA l i 1
      else if (at' l i).kind = 1 then (wholeA l (i + 1)).bind fun n j => (needA l j [93]).bind fun _ k => stepsA dot f l (xs ++ [⟨true, [], n⟩]) k
      else stepsA dot f l (xs ++ [⟨false, (at' l i).s, 0⟩]) (i + 1)
    else .ok xs i
def pathA (q : Str → Str) (l : List Tk) (i : Int) : PR Str :=
  if isM l i [46] then (stepsA true l.length l [] (i + 1)).bind fun xs j => .ok (pathP q xs) j
  else if (at' l i).kind ≠ 3 then failA l i 1 else (stepsA false l.length l [] i).bind fun xs j => .ok (pathP q xs) j
def sTrue : Str := [116, 114, 117, 101]
def sFalse : Str := [102, 97, 108, 115, 101]
def sNull : Str := [110, 117, 108, 108]
def litA (l : List Tk) (i : Int) : PR Nd :=
  if (at' l i).kind = 5 then .ok (at' l i).c (i + 1)
  else if (at' l i).kind = 4 then .ok ⟨4, 0, [], (at' l i).s, false, 0⟩ (i + 1)
  else if (at' l i).kind = 2 ∧ (at' l i).s ∈ [sNull, sFalse, sTrue] then .ok ⟨([sNull, sFalse, sTrue].idxOf (at' l i).s : Nat), 0, [], [], false, 0⟩ (i + 1)
  else failA l i 1
def signsA : List Str := [[61, 61], [33, 61], [60], [60, 61], [62], [62, 61]]
def cmpA (q : Str → Str) (l : List Tk) (i : Int) : PR Tf := (pathA q l i).bind fun s j =>
  if (at' l j).kind = 1 ∧ (at' l j).s ∈ signsA then (litA l (j + 1)).bind fun c k => .ok (.mk ⟨16, 0, [], s, (signsA.idxOf (at' l j).s : Nat), c⟩ []) k
  else failA l j 1
def sOr : Str := [111, 114]
def sAnd : Str := [97, 110, 100]
def sNot : Str := [110, 111, 116]
def sToE : Str := [116, 111, 95, 101, 110, 116, 114, 105, 101, 115]
def sFromE : Str := [102, 114, 111, 109, 95, 101, 110, 116, 114, 105, 101, 115]
def sRev : Str := [114, 101, 118, 101, 114, 115, 101]
def sGroup : Str := [103, 114, 111, 117, 112, 95, 98, 121]
def sSort : Str := [115, 111, 114, 116, 95, 98, 121]
def sDel : Str := [100, 101, 108]
def sMap : Str := [109, 97, 112]
def sVals : Str := [109, 97, 112, 95, 118, 97, 108, 117, 101, 115]
def sWith : Str := [119, 105, 116, 104, 95, 101, 110, 116, 114, 105, 101, 115]
def sSelect : Str := [115, 101, 108, 101, 99, 116]
/-- What calls of a path do. -/
def pathOps (w : Str) : Option Int := if w = sGroup then some 12 else if w = sSort then some 13 else if w = sDel then some 15 else none
def plainOps (w : Str) : Option Int := if w = sToE then some 10 else if w = sFromE then some 11 else if w = sRev then some 14 else none
mutual
def filA (q : Str → Str) : Nat → List Tk → Int → Int → PR Tf
  | 0, l, _, i => failA l i 1
  | f + 1, l, d, i => (posA q f l d i).bind fun x j => pipA q f l d [x] j
def pipA (q : Str → Str) : Nat → List Tk → Int → List Tf → Int → PR Tf
  | 0, l, _, _, i => failA l i 1
  | f + 1, l, d, xs, i => if isM l i [124] then (posA q f l d (i + 1)).bind fun x j => pipA q f l d (xs ++ [x]) j else .ok (pipedF xs) i
def posA (q : Str → Str) : Nat → List Tk → Int → Int → PR Tf
  | 0, l, _, i => failA l i 1
  | f + 1, l, d, i => (priA q f l d i).bind fun x j => sufsA l.length l (if isM l i [46] && isM l j [91] then [] else [x]) j
def priA (q : Str → Str) : Nat → List Tk → Int → Int → PR Tf
  | 0, l, _, i => failA l i 1
  | f + 1, l, d, i =>
    if isM l i [46] then .ok (.mk (tmF 0) []) (i + 1)
    else if (at' l i).kind = 3 then .ok (.mk { tmF 1 with s := (at' l i).s } []) (i + 1)
    else if (at' l i).kind = 2 then worA q f l d i
    else if isM l i [123] then (openA l d i [123]).bind fun _ j => obsA q f l (d + 1) [] j
    else if isM l i [91] then (openA l d i [91]).bind fun _ j => lisA q f l (d + 1) [] j
    else callA l d i (filA q f l (d + 1))
def worA (q : Str → Str) : Nat → List Tk → Int → Int → PR Tf
  | 0, l, _, i => failA l i 1
  | f + 1, l, d, i => match plainOps (at' l i).s with
    | some o => .ok (.mk (tmF o) []) (i + 1)
    | none => match pathOps (at' l i).s with
      | some o => callA l d (i + 1) fun j => (pathA q l j).bind fun s k => .ok (.mk { tmF o with s := s } []) k
      | none =>
        if (at' l i).s = sMap then (callA l d (i + 1) (filA q f l (d + 1))).bind fun x j => .ok (.mk (tmF 5) [x]) j
        else if (at' l i).s = sVals then (callA l d (i + 1) (filA q f l (d + 1))).bind fun x j => .ok (.mk (tmF 6) [x]) j
        else if (at' l i).s = sWith then (callA l d (i + 1) (filA q f l (d + 1))).bind fun x j => .ok (pipedF [.mk (tmF 10) [], .mk (tmF 5) [x], .mk (tmF 11) []]) j
        else if (at' l i).s = sSelect then (callA l d (i + 1) (eitA q f l (d + 1))).bind fun x j => .ok (.mk (tmF 7) [x]) j
        else failA l i 1
def obsA (q : Str → Str) : Nat → List Tk → Int → List Tf → Int → PR Tf
  | 0, l, _, _, i => failA l i 1
  | f + 1, l, d, xs, i =>
    if isM l i [125] then .ok (.mk (tmF 8) xs) (i + 1)
    else (if xs.isEmpty then .ok () i else needA l i [44]).bind fun _ j =>
      if (at' l j).kind ≠ 2 ∧ (at' l j).kind ≠ 4 ∨ (at' l j).s ∈ xs.map (fun x => x.t.name) then failA l j 1
      else (needA l (j + 1) [58]).bind fun _ k => (posA q f l d k).bind fun x m => obsA q f l d (xs ++ [x.named (at' l j).s]) m
def lisA (q : Str → Str) : Nat → List Tk → Int → List Tf → Int → PR Tf
  | 0, l, _, _, i => failA l i 1
  | f + 1, l, d, xs, i =>
    if isM l i [93] then .ok (.mk (tmF 9) xs) (i + 1)
    else (if xs.isEmpty then .ok () i else needA l i [44]).bind fun _ j => (posA q f l d j).bind fun x m => lisA q f l d (xs ++ [x]) m
def eitA (q : Str → Str) : Nat → List Tk → Int → Int → PR Tf
  | 0, l, _, i => failA l i 1
  | f + 1, l, d, i => (botA q f l d i).bind fun x j => eisA q f l d x j
def eisA (q : Str → Str) : Nat → List Tk → Int → Tf → Int → PR Tf
  | 0, l, _, _, i => failA l i 1
  | f + 1, l, d, x, i => if isWd l i sOr then (botA q f l d (i + 1)).bind fun y j => eisA q f l d (.mk (tmF 18) [x, y]) j else .ok x i
def botA (q : Str → Str) : Nat → List Tk → Int → Int → PR Tf
  | 0, l, _, i => failA l i 1
  | f + 1, l, d, i => (sinA q f l d i).bind fun x j => bosA q f l d x j
def bosA (q : Str → Str) : Nat → List Tk → Int → Tf → Int → PR Tf
  | 0, l, _, _, i => failA l i 1
  | f + 1, l, d, x, i => if isWd l i sAnd then (sinA q f l d (i + 1)).bind fun y j => bosA q f l d (.mk (tmF 17) [x, y]) j else .ok x i
def sinA (q : Str → Str) : Nat → List Tk → Int → Int → PR Tf
  | 0, l, _, i => failA l i 1
  | f + 1, l, d, i =>
    if isM l i [40] = false then cmpA q l i
    else (openA l d i [40]).bind fun _ j => (eitA q f l (d + 1) j).bind fun x k =>
      (if isM l k [124] then (if isWd l (k + 1) sNot then .ok (.mk (tmF 19) [x]) (k + 2) else failA l (k + 1) 1) else .ok x k).bind fun y m => (needA l m [41]).bind fun _ n => .ok y n
end
/-- parse.Parse, of a text's tokens. -/
def parseA (q : Str → Str) (l : List Tk) : Fl × Int × Int := match filA q (8 * l.length + 8) l 0 0 with
  | .er c p => ([], p, c)
  | .ok x j => if (at' l j).kind = 6 then (x.flat, 0, 0) else ([], (at' l j).pos, 1)
def parseF (q : Str → Str) (s : Str) : Fl × Int × Int := if (lexP s).2.2 ≠ 0 then ([], (lexP s).2.1, (lexP s).2.2) else parseA q (lexP s).1
end Go.Eng
set_option maxRecDepth 100000
namespace Go.Proofs.YtmjpjbmeamnfpaaGreatDoor
open Go.Eng

/-- The parser's box. -/
abbrev pBox (b : Nat) (v : Value) (i d : Int) : HO := .box b [v, i64 i, i64 d] 60
abbrev xBox (b : Nat) (v : Value) (i d : Int) : HX := .box b [.sl 0 v, I i, I d] 60
theorem mixedK : Tryz.prog.follows .mixedOrders = true := by kernel_rfl
theorem now_c {w0 wv : World} {M0 M : Mem} {Rs : List HO} {b : Nat} {v : Value} {l : List Tk} {i d : Int} (hS : St w0 M0 wv M (pBox b v i d :: Rs)) (hl : Sl M 9 l.length v (l.flatMap Tk.cells)) (h0 : 0 ≤ i) (h1 : i < len l) :
  Calls Tryz.prog 25 [.pointer (some ⟨b, 0, none⟩)].toArray wv (ORet w0 M0 M Rs (fun _ : Unit => tkV (at' l i)) (fun _ => True) (fun _ => []) fun _ => [pBox b v i d]) := by
 refine xenter (Hr := Rs) ttok Tryz.func25 rfl Tryz.ntmps25 [(0, kn v 9 l Tk.cells)] [(0, xBox b v i d)] [.bx 0 b 0] rfl hS (fc 0 hl (fun _ => rfl) fnil) (fun B hB => ?_) rfl
 refine xalloc 1 rfl (eok rfl) (by omega) Tryz.zeroValue63 rfl fun b1 => ?_
 refine xdrawT 10 (fun _ _ _ _ _ h => h) rfl (eok rfl) (by omega) mixedK (by decide +kernel) rfl (eok rfl) (by simp only [zb] <;> omega) ?_
 exact xret hB rfl rfl (eok rfl) (by omega) rfl (eok rfl) fun w M' hX => ⟨(), M', rfl, trivial, hX.le, hX.st.drop _ (List.sublist_cons_self _ _), fun x h => by cases h⟩
/-- A token, as it is known. -/
abbrev xTk (t : Tk) : XV := .ag [I t.kind, .v (str t.s), I t.c.kind, I t.c.many, .v (str t.c.name), .v (str t.c.s), .v (.bool t.c.neg), I t.c.e, I t.pos]
theorem isP_c {w0 wv : World} {M0 M : Mem} {Rs : List HO} {b : Nat} {v : Value} {l : List Tk} {i d : Int} (m : Str) (hS : St w0 M0 wv M (pBox b v i d :: Rs)) (hl : Sl M 9 l.length v (l.flatMap Tk.cells)) (h0 : 0 ≤ i) (h1 : i < len l) :
  Calls Tryz.prog 50 [.pointer (some ⟨b, 0, none⟩), str m].toArray wv (ORet w0 M0 M Rs (fun _ : Unit => .bool (isM l i m)) (fun _ => True) (fun _ => []) fun _ => [pBox b v i d]) := by
 refine xenter (Hr := Rs) ttok Tryz.func50 rfl Tryz.ntmps50 [(0, kn v 9 l Tk.cells)] [(0, xBox b v i d)] [.bx 0 b 0, .v (str m)] rfl hS (fc 0 hl (fun _ => rfl) fnil) (fun B hB => ?_) rfl
 refine xcallO [0] (fun _ : Unit => xTk (at' l i)) [] (fun _ => [(0, xBox b v i d)]) rfl (eok rfl) (by omega) rfl Tryz.call25 rfl rfl (eok rfl) rfl (fun w M hS hF => now_c hS (hF.get (k := 0) rfl).sl h0 h1) (fun _ => rfl) (fun _ => rfl) fun _ _ => ?_
 refine xsplit (xTk (at' l i)) rfl (eok rfl) (by omega) rfl (fun hb1 => ?_) (fun hb1 => ?_)
 ·refine xcallO [0] (fun _ : Unit => xTk (at' l i)) [] (fun _ => [(0, xBox b v i d)]) rfl (eok rfl) (by omega) rfl Tryz.call25 rfl rfl (eok1 hb1 rfl) rfl (fun w M hS hF => now_c hS (hF.get (k := 0) rfl).sl h0 h1) (fun _ => rfl) (fun _ => rfl) fun _ _ => ?_
  exact xret hB rfl rfl (eok rfl) (by omega) rfl (eok rfl) fun w M' hX => ⟨(), M', rfl, trivial, hX.le, hX.st, fun x h => by cases h⟩
 ·exact xret hB rfl rfl (eok rfl) (by omega) rfl (eok rfl) fun w M' hX => ⟨(), M', rfl, trivial, hX.le, hX.st, fun x h => by cases h⟩
theorem isWordP_c {w0 wv : World} {M0 M : Mem} {Rs : List HO} {b : Nat} {v : Value} {l : List Tk} {i d : Int} (m : Str) (hS : St w0 M0 wv M (pBox b v i d :: Rs)) (hl : Sl M 9 l.length v (l.flatMap Tk.cells)) (h0 : 0 ≤ i) (h1 : i < len l) :
  Calls Tryz.prog 215 [.pointer (some ⟨b, 0, none⟩), str m].toArray wv (ORet w0 M0 M Rs (fun _ : Unit => .bool (isWd l i m)) (fun _ => True) (fun _ => []) fun _ => [pBox b v i d]) := by
 refine xenter (Hr := Rs) ttok Tryz.func215 rfl Tryz.ntmps215 [(0, kn v 9 l Tk.cells)] [(0, xBox b v i d)] [.bx 0 b 0, .v (str m)] rfl hS (fc 0 hl (fun _ => rfl) fnil) (fun B hB => ?_) rfl
 refine xcallO [0] (fun _ : Unit => xTk (at' l i)) [] (fun _ => [(0, xBox b v i d)]) rfl (eok rfl) (by omega) rfl Tryz.call25 rfl rfl (eok rfl) rfl (fun w M hS hF => now_c hS (hF.get (k := 0) rfl).sl h0 h1) (fun _ => rfl) (fun _ => rfl) fun _ _ => ?_
 refine xsplit (xTk (at' l i)) rfl (eok rfl) (by omega) rfl (fun hb1 => ?_) (fun hb1 => ?_)
 ·refine xcallO [0] (fun _ : Unit => xTk (at' l i)) [] (fun _ => [(0, xBox b v i d)]) rfl (eok rfl) (by omega) rfl Tryz.call25 rfl rfl (eok1 hb1 rfl) rfl (fun w M hS hF => now_c hS (hF.get (k := 0) rfl).sl h0 h1) (fun _ => rfl) (fun _ => rfl) fun _ _ => ?_
  exact xret hB rfl rfl (eok rfl) (by omega) rfl (eok rfl) fun w M' hX => ⟨(), M', rfl, trivial, hX.le, hX.st, fun x h => by cases h⟩
 ·exact xret hB rfl rfl (eok rfl) (by omega) rfl (eok rfl) fun w M' hX => ⟨(), M', rfl, trivial, hX.le, hX.st, fun x h => by cases h⟩
abbrev PanE (w0 : World) (M0 M : Mem) (Rs : List HO) (ec p : Int) : Ending → World → Prop := fun e w' => ∃ M', e = .panicked [wrongE 56 ec p] ∧ St w0 M0 w' M' Rs ∧ M.le M'
theorem failP_c {w0 wv : World} {M0 M : Mem} {Rs : List HO} {b : Nat} {v : Value} {l : List Tk} {i d : Int} (ec : Int) (hS : St w0 M0 wv M (pBox b v i d :: Rs)) (hl : Sl M 9 l.length v (l.flatMap Tk.cells)) (h0 : 0 ≤ i) (h1 : i < len l) :
  Calls Tryz.prog 26 [.pointer (some ⟨b, 0, none⟩), i64 ec].toArray wv (PanE w0 M0 M Rs ec (at' l i).pos) := by
 refine xenter (Hr := Rs) ttok Tryz.func26 rfl Tryz.ntmps26 [(0, kn v 9 l Tk.cells)] [(0, xBox b v i d)] [.bx 0 b 0, I ec] rfl hS (fc 0 hl (fun _ => rfl) fnil) (fun B hB => ?_) rfl
 refine xcallO [0] (fun _ : Unit => xTk (at' l i)) [] (fun _ => [(0, xBox b v i d)]) rfl (eok rfl) (by omega) rfl Tryz.call25 rfl rfl (eok rfl) rfl (fun w M hS hF => now_c hS (hF.get (k := 0) rfl).sl h0 h1) (fun _ => rfl) (fun _ => rfl) fun _ _ => ?_
 refine xpv (.v (.iface 56 (.agg #[i64 ec, i64 (at' l i).pos]))) rfl (eok rfl) (by omega) rfl (fun w M hX => PV.iface (v := .agg #[i64 ec, i64 (at' l i).pos]) (opd_d (v := .ag [I ec, I (at' l i).pos]) (E := []) rfl (eok rfl)) Tryz.underlying56 rfl) ?_
 exact xpanic rfl (eok rfl) (by omega) rfl (eok rfl) rfl fun a w M hs hX => post_panic [] (hB.p ⟨M, rfl, hX.st.drop _ (List.sublist_cons_self _ _), hX.le⟩ a hs)
/-- How a step ends that goes on to another token. -/
abbrev StepC (w0 : World) (M0 M : Mem) (Rs : List HO) (b : Nat) (v : Value) (r : PR Unit) (d : Int) : Ending → World → Prop :=
  QRet w0 M0 M Rs 56 r fun _ j => ORet w0 M0 M Rs (fun _ : Unit => .tuple #[]) (fun _ => True) (fun _ => []) fun _ => [pBox b v j d]
theorem needP_c {w0 wv : World} {M0 M : Mem} {Rs : List HO} {b : Nat} {v : Value} {l : List Tk} {i d : Int} (m : Str) (hS : St w0 M0 wv M (pBox b v i d :: Rs)) (hl : Sl M 9 l.length v (l.flatMap Tk.cells)) (h0 : 0 ≤ i) (h1 : i < len l) (hb : len l ≤ 1099511627776) :
  Calls Tryz.prog 128 [.pointer (some ⟨b, 0, none⟩), str m].toArray wv (StepC w0 M0 M Rs b v (needA l i m) d) := by
 refine xenter (Hr := Rs) ttok Tryz.func128 rfl Tryz.ntmps128 [(0, kn v 9 l Tk.cells)] [(0, xBox b v i d)] [.bx 0 b 0, .v (str m)] rfl hS (fc 0 hl (fun _ => rfl) fnil) (fun B hB => ?_) rfl
 refine xcallO [0] (fun _ : Unit => .v (.bool (isM l i m))) [] (fun _ => [(0, xBox b v i d)]) rfl (eok rfl) (by omega) rfl Tryz.call50 rfl rfl (eok rfl) rfl (fun w M hS hF => isP_c m hS (hF.get (k := 0) rfl).sl h0 h1) (fun _ => rfl) (fun _ => rfl) fun _ _ => ?_
 refine xbr rfl (eok rfl) (by omega) (fun hb1 => ?_) (fun hb1 => ?_)
 ·have e : needA l i m = .er 1 (at' l i).pos := by unfold needA failA; rw [if_neg (by simpa using hb1)]
  refine xcallE [0] rfl (eok rfl) (by omega) rfl Tryz.call26 rfl (eok rfl) rfl (fun w M hS hF => failP_c 1 hS (hF.get (k := 0) rfl).sl h0 h1) fun a w M hs hS hle => post_panic _ (hB.p ?_ a hs)
  rw [e]; exact ⟨M, rfl, hS, hle⟩
 ·have e : needA l i m = .ok () (i + 1) := by unfold needA; rw [if_pos (by simpa using hb1)]
  refine xend hB rfl rfl (eok rfl) (by simp only [zb] <;> omega) fun w M' hX => ?_
  rw [e]; exact ⟨(), M', rfl, trivial, hX.le, hX.st, fun x h => by cases h⟩
theorem needQ {w0 wv : World} {M0 M : Mem} {Rs : List HO} {b : Nat} {v : Value} {l : List Tk} {i d : Int} (m : Str) {r : PR Unit} (h : needA l i m = r) (hS : St w0 M0 wv M (pBox b v i d :: Rs)) (hl : Sl M 9 l.length v (l.flatMap Tk.cells)) (h0 : 0 ≤ i) (h1 : i < len l) (hb : len l ≤ 1099511627776) :
  Calls Tryz.prog 128 [.pointer (some ⟨b, 0, none⟩), str m].toArray wv (StepC w0 M0 M Rs b v r d) := by subst h; exact needP_c m hS hl h0 h1 hb
theorem openP_c {w0 wv : World} {M0 M : Mem} {Rs : List HO} {b : Nat} {v : Value} {l : List Tk} {i d : Int} (m : Str) (hS : St w0 M0 wv M (pBox b v i d :: Rs)) (hl : Sl M 9 l.length v (l.flatMap Tk.cells)) (h0 : 0 ≤ i) (h1 : i < len l) (hb : len l ≤ 1099511627776) (hd : 0 ≤ d ∧ d ≤ 64) :
  Calls Tryz.prog 164 [.pointer (some ⟨b, 0, none⟩), str m].toArray wv (StepC w0 M0 M Rs b v (openA l d i m) (d + 1)) := by
 refine xenter (Hr := Rs) ttok Tryz.func164 rfl Tryz.ntmps164 [(0, kn v 9 l Tk.cells)] [(0, xBox b v i d)] [.bx 0 b 0, .v (str m)] rfl hS (fc 0 hl (fun _ => rfl) fnil) (fun B hB => ?_) rfl
 refine xcallO [0] (fun _ : Unit => .v (.bool (isM l i m))) [] (fun _ => [(0, xBox b v i d)]) rfl (eok rfl) (by omega) rfl Tryz.call50 rfl rfl (eok rfl) rfl (fun w M hS hF => isP_c m hS (hF.get (k := 0) rfl).sl h0 h1) (fun _ => rfl) (fun _ => rfl) fun _ _ => ?_
 refine xbr rfl (eok rfl) (by simp only [zb] <;> omega) (fun hb1 => ?_) (fun hb1 => ?_)
 ·have e : openA l d i m = .er 3 (at' l i).pos := by unfold openA failA; rw [if_pos hb1]
  refine xcallE [0] rfl (eok rfl) (by omega) rfl Tryz.call26 rfl (eok rfl) rfl (fun w M hS hF => failP_c 3 hS (hF.get (k := 0) rfl).sl h0 h1) fun a w M hs hS hle => post_panic _ (hB.p ?_ a hs)
  rw [e]; exact ⟨M, rfl, hS, hle⟩
 ·have e : openA l d i m = needA l i m := by unfold openA; rw [if_neg (by rw [hb1]; decide)]
  cases hm : isM l i m with
  | false =>
   have e2 : needA l i m = .er 1 (at' l i).pos := by unfold needA failA; rw [if_neg (by rw [hm]; decide)]
   refine xcallE [0] rfl (eok rfl) (by omega) rfl Tryz.call128 rfl (eok rfl) rfl (fun w M hS hF => needQ m e2 hS (hF.get (k := 0) rfl).sl h0 h1 hb) fun a w M hs hS hle => post_panic _ (hB.p ?_ a hs)
   rw [e, e2]; exact ⟨M, rfl, hS, hle⟩
  | true =>
   have e2 : needA l i m = .ok () (i + 1) := by unfold needA; rw [if_pos hm]
   refine xcallO [0] (fun _ : Unit => .tu []) [] (fun _ => [(0, xBox b v (i + 1) d)]) rfl (eok rfl) (by omega) rfl Tryz.call128 rfl rfl (eok rfl) rfl (fun w M hS hF => needQ m e2 hS (hF.get (k := 0) rfl).sl h0 h1 hb) (fun _ => rfl) (fun _ => rfl) fun _ _ => ?_
   refine xend hB rfl rfl (eok rfl) (by simp only [zb] <;> omega) fun w M' hX => ?_
   rw [e, e2]; exact ⟨(), M', rfl, trivial, hX.le, hX.st, fun x h => by cases h⟩
theorem shutP_c {w0 wv : World} {M0 M : Mem} {Rs : List HO} {b : Nat} {v : Value} {l : List Tk} {i d : Int} (m : Str) (hS : St w0 M0 wv M (pBox b v i d :: Rs)) (hl : Sl M 9 l.length v (l.flatMap Tk.cells)) (h0 : 0 ≤ i) (h1 : i < len l) (hb : len l ≤ 1099511627776) (hd : 0 ≤ d ∧ d ≤ 65) :
  Calls Tryz.prog 168 [.pointer (some ⟨b, 0, none⟩), str m].toArray wv (StepC w0 M0 M Rs b v (needA l i m) (d - 1)) := by
 refine xenter (Hr := Rs) ttok Tryz.func168 rfl Tryz.ntmps168 [(0, kn v 9 l Tk.cells)] [(0, xBox b v i d)] [.bx 0 b 0, .v (str m)] rfl hS (fc 0 hl (fun _ => rfl) fnil) (fun B hB => ?_) rfl
 cases hm : isM l i m with
 | false =>
  have e2 : needA l i m = .er 1 (at' l i).pos := by unfold needA failA; rw [if_neg (by rw [hm]; decide)]
  refine xcallE [0] rfl (eok rfl) (by omega) rfl Tryz.call128 rfl (eok rfl) rfl (fun w M hS hF => needQ m e2 hS (hF.get (k := 0) rfl).sl h0 h1 hb) fun a w M hs hS hle => post_panic _ (hB.p ?_ a hs)
  rw [e2]; exact ⟨M, rfl, hS, hle⟩
 | true =>
  have e2 : needA l i m = .ok () (i + 1) := by unfold needA; rw [if_pos hm]
  refine xcallO [0] (fun _ : Unit => .tu []) [] (fun _ => [(0, xBox b v (i + 1) d)]) rfl (eok rfl) (by omega) rfl Tryz.call128 rfl rfl (eok rfl) rfl (fun w M hS hF => needQ m e2 hS (hF.get (k := 0) rfl).sl h0 h1 hb) (fun _ => rfl) (fun _ => rfl) fun _ _ => ?_
  refine xend hB rfl rfl (eok rfl) (by simp only [zb] <;> omega) fun w M' hX => ?_
  rw [e2]; exact ⟨(), M', rfl, trivial, hX.le, hX.st, fun x h => by cases h⟩
end Go.Proofs.YtmjpjbmeamnfpaaGreatDoor
namespace Go.Eng
open Go.RowKit

/-- The beginning of a call of a function that calls yield. -/
theorem xenterI {P : Program} {N : Nat} {w0 w : World} {M0 M : Mem} {Hr : List HO} {T : TT} (hT : TOk P T) {f : FuncId} {fn : Func} {x : Code} {R : Ending → World → Prop} (hf : P.funcs[f]? = some fn) (hb : fn.body = some x) (hn : fn.ntmps = N) (hst : straight x = true) (ho : ∀ w, ¬ R .outgrown w)
    (F : List (Nat × Kn)) (H : List (Nat × HX)) (vs : List XV) (hl : Nat.ble vs.length N = true) (hS : St w0 M0 w M (HD H ++ Hr)) (hF : FOk M F)
    (h : ∀ B, Ends P fn R B → XG ⟨P, N, w0, M0, M, Hr, T, hT, .fence P none 1⟩ B [] (.code x) ⟨F, H, xargs 0 vs⟩) {av : List Value} (ha : vs.map XV.d = av) : Calls P f av.toArray w R := by
  subst ha
  refine (callsIn_wide (n := 1)).1 (callsIn_of_wp_marks hf hb trivial ?_ rfl)
  rw [hn]
  have hs := Slots.enter (vs.map XV.d) N (by rw [List.length_map]; exact Nat.le_of_ble_eq_true hl)
  have hE : EndsM P fn R (bodyPostM Fence.wide 1 P fn R) := ⟨fun _ _ _ h => h⟩
  have := h _ hE.ends _ w ⟨by rw [← xargs_d] at hs; exact hs, M, hS, hF, Mem.le.refl _⟩
  exact this (fun ⟨a, w, q⟩ => ho w q) hst
theorem yield_run {P : Program} {w : World} {L : Env} {W : Bool} {l : Nat} {x : Operand} {xs : List Operand} {vs : List Value} (hf : Opd L W x (.func (.yield l) #[] #[])) (hx : Opds L W xs vs) {a : Act} {N : Nat} (hs : Slots a N L) (hW : W = true) {d : Option Tmp} {tys : Array TypeId} {ty : TypeId} {ps : String} {af : Array Edge} {gd : Option (Nat × Bool)} :
    (execOp a.eval ⟨d, .call ⟨.value x, xs.toArray, tys⟩, ty, ps, af, gd⟩).run P w = (Instr.yield l vs.toArray).run P w := by
  have e : xs.toArray.map a.eval = vs.toArray := by rw [List.map_toArray, Opds.map hs hW xs vs hx]
  simp only [execOp, resolve, e, hf a N hs hW, Deferred.ofValue, invoke, Sem.run_bind, Sem.run_pure, Result.andThen_ok]
  simp
/-- A call of yield: what lies in H under ids is the caller's, and changes. -/
theorem xyield {P : Program} {N : Nat} {w0 : World} {M0 M1 : Mem} {Hr : List HO} {T : TT} {hT : TOk P T} {B : Exit → Act → World → Prop} {k k' : List Fr} {m : Md} {s s' : XS} {O : Prop} {E : List Ck} {all : Array Oper} {rest : List Oper} {d : Nat} {ty : TypeId} {ps : String} {af : Array Edge}
    {γ : Type} (Hx : γ → List (Nat × HX)) (ids : List Nat) {pu : γ → Prop} {Fg : γ → List (Nat × Kn)} {Hg : γ → List HO} {l : Nat} {xf : Operand} {E1 E2 : List Ck} {xs : List Operand} {tys : Array TypeId} {vs : List XV} {A R : List (Nat × HX)} (ks : List Nat)
    (h : run T N k m s = ⟨k', .ops all (⟨some d, .call ⟨.value xf, ⟨xs⟩, tys⟩, ty, ps, af, none⟩ :: rest), s', O, E⟩) (hE : EOk E) (hO : O) (hf : opd s'.L .t xf = some (.v (.func (.yield l) #[] #[]), E1)) (hE1 : EOk E1) (hd : Nat.blt d N = true) (hx : opds s'.L .t xs = some (vs, E2)) (hE2 : EOk E2)
    (hA : hsel ids s'.H = some (A, R)) (hc : ∀ w M, St w0 M0 w M (HD A ++ (HD R ++ Hr)) → FOk M s'.F → M1.le M → RoundO P l (vs.map XV.d).toArray w (ORet w0 M0 M (HD R ++ Hr) (fun _ : γ => .bool true) pu Fg Hg)) (hH : ∀ g, HD (Hx g) = Hg g)
    (hn : ∀ g, pu g → XG ⟨P, N, w0, M0, M1, Hr, T, hT, .fence P none 1⟩ B k' (.ops all rest) ⟨fnum ks (Fg g) ++ s'.F, Hx g ++ R, (d, .t, .v (.bool true)) :: s'.L⟩) : XG ⟨P, N, w0, M0, M1, Hr, T, hT, .fence P none 1⟩ B k m s := by
  refine run_ok h hE hO fun a w ⟨hs, M, hX⟩ hl hst => ?_
  rw [List.all_cons, Bool.and_eq_true] at hst
  have hSt : St w0 M0 w M (HD A ++ (HD R ++ Hr)) := hX.st.perm (by rw [← List.append_assoc]; exact (hsel_ok hA).append_right _)
  obtain ⟨fn, tmps, assign, body, hy, hr⟩ := hc w M hSt hX.f hX.le
  unfold wpListIn
  rw [if_pos (show Region.wanted ⟨some d, .call ⟨.value xf, ⟨xs⟩, tys⟩, ty, ps, af, none⟩ (yielded all a.tmps) = true from rfl)]
  refine ⟨fun _ _ => trivial, ?_⟩
  have key := yield_run (P := P) (w := w) (opd_d hf hE1) (opds_d hx hE2) hs rfl (d := some d) (tys := tys) (ty := ty) (ps := ps) (af := af) (gd := none)
  rw [show (FR none).round = none from rfl, show ∀ (o : Oper), Oper.semAt none a.eval o = execOp a.eval o from fun _ => rfl]
  have e1 : (⟨xs⟩ : Array Operand) = xs.toArray := rfl
  rw [e1, key, hy]
  refine ⟨(fun h => by cases h), RoundIn.mono (R := ORet w0 M0 M (HD R ++ Hr) (fun _ : γ => .bool true) pu Fg Hg) hr fun e w' he => ?_⟩
  obtain ⟨g, M', rfl, hp, hle, hS, hF⟩ := he
  have hs2 := put_slot hs hd (.v (.bool true))
  have e2 : HD (Hx g ++ R) ++ Hr = Hg g ++ (HD R ++ Hr) := by rw [← hH]; unfold HD; rw [List.map_append, List.append_assoc]
  exact hn g hp _ w' ⟨hs2, M', by rw [e2]; exact hS, (fnum_ok hF).app (hX.f.mono hle), hX.le.trans hle⟩ hl hst.2
end Go.Eng
namespace Go.Eng
open Go.RowKit

structure SlH where
  a : Option Addr
  n : Nat
  c : Nat
deriving Inhabited
def valI (h : SlH) : List Value := [.slice h.a h.n h.c]
theorem valI_len (h : SlH) : (valI h).length = 1 := rfl
theorem valI_one (h : SlH) : ∀ u ∈ valI h, u.oneCell' = true := by intro u hu; simp [valI] at hu; subst hu; rfl
abbrev SlH.v (h : SlH) : Value := .slice h.a h.n h.c
/-- Each header's slice holds the cells of the list beside. -/
def RowsV {α : Type} (M : Mem) (sz : Nat) (f : α → List Value) : List SlH → List (List α) → Prop
  | [], [] => True
  | h :: hs, x :: xs => Sl M sz x.length h.v (x.flatMap f) ∧ RowsV M sz f hs xs
  | _, _ => False
section
variable {α : Type} {M M' : Mem} {sz : Nat} {f : α → List Value}
theorem RowsV.mono (hm : M.le M') : ∀ {hs : List SlH} {xs : List (List α)}, RowsV M sz f hs xs → RowsV M' sz f hs xs
  | [], [], _ => trivial
  | _ :: _, _ :: _, h => ⟨h.1.mono hm, RowsV.mono hm h.2⟩
  | [], _ :: _, h => h.elim
  | _ :: _, [], h => h.elim
theorem RowsV.snoc {h : SlH} {x : List α} (hx : Sl M sz x.length h.v (x.flatMap f)) : ∀ {hs : List SlH} {xs : List (List α)}, RowsV M sz f hs xs → RowsV M sz f (hs ++ [h]) (xs ++ [x])
  | [], [], _ => ⟨hx, trivial⟩
  | _ :: _, _ :: _, h => ⟨h.1, RowsV.snoc hx h.2⟩
  | [], _ :: _, h => h.elim
  | _ :: _, [], h => h.elim
theorem RowsV.len : ∀ {hs : List SlH} {xs : List (List α)}, RowsV M sz f hs xs → hs.length = xs.length
  | [], [], _ => rfl
  | _ :: _, _ :: _, h => by simp [RowsV.len h.2]
  | [], _ :: _, h => h.elim
  | _ :: _, [], h => h.elim
theorem RowsV.get : ∀ {hs : List SlH} {xs : List (List α)} (k : Nat), RowsV M sz f hs xs → k < hs.length → Sl M sz (xs.getD k []).length (hs.getD k default).v ((xs.getD k []).flatMap f)
  | [], _, _, _, h => absurd h (Nat.not_lt_zero _)
  | _ :: _, [], _, h, _ => h.elim
  | _ :: _, _ :: _, 0, h, _ => h.1
  | _ :: _, _ :: _, k + 1, h, hk => by simpa using RowsV.get k h.2 (by simpa using hk)
end
theorem RowsV.at {α : Type} {M : Mem} {sz : Nat} {f : α → List Value} {hs : List SlH} {xs : List (List α)} {k : Int} (h : RowsV M sz f hs xs) (h0 : 0 ≤ k) (h1 : k < Eng.len hs) : Sl M sz (at' xs k).length (at' hs k).v ((at' xs k).flatMap f) :=
  by
  have := RowsV.get k.toNat h (by unfold Eng.len at h1; omega)
  exact this
/-- A slice's value is a header. -/
theorem Sl.shape {M : Mem} {sz n : Nat} {v : Value} {cs : List Value} (h : Sl M sz n v cs) : ∃ a c, v = .slice a n c := by
  obtain ⟨p, cap, hv, _⟩ := h.val; exact ⟨p, cap, hv⟩
end Go.Eng
set_option maxRecDepth 100000
namespace Go.Proofs.YtmjpjbmeamnfpaaGreatDoor
open Go.Eng

/-- Facts of a caller's, as one. -/
abbrev knF (F : List (Nat × Kn)) : Kn := ⟨.slice none 0 0, 1, ([] : List Str), strC, fun M => FOk M F, fun _ _ hm h => h.mono hm⟩
theorem orange_f {γ : Type} {w0 : World} {M0 M : Mem} {Rs : List HO} {u : γ → Value} {pu : γ → Prop} {Fg : γ → List (Nat × Kn)} {Hg : γ → List HO} {e : Ending} {w : World} (h : ORet w0 M0 M Rs u pu Fg Hg e w) : ORet w0 M0 M Rs u pu (fun g => [(9, knF (Fg g))]) Hg e w := by
  obtain ⟨g, M2, h1, h2, h3, h4, h5⟩ := h
  exact ⟨g, M2, h1, h2, h3, h4, fcons ⟨Sl.nil M2 1, strC_len, h5⟩ fnil⟩
theorem back1_ok {w0 w : World} {M0 M : Mem} {y1 y2 : HO} {Rs : List HO} {b : Nat} {v : Value} {hs : List SlH} (hl : Sl M 1 hs.length v (hs.flatMap valI)) (hb : len hs ≤ 1099511627776) :
    IterOk Tryz.prog 129 [.pointer (some ⟨b, 0, none⟩)] hs.length w0 M0 (y1 :: y2 :: .box b [v] 72 :: Rs)
      (fun k (_ : Unit) => [I (len hs - 1 - k), .v (at' hs (len hs - 1 - k)).v]) (fun _ _ => True) (fun _ _ => []) w M := by
 intro σ I' Hy Fy l g0 ⟨x1, x2, hx⟩ hS hF hI hy
 have hS2 : St w0 M0 w M (.box b [v] 72 :: x1 g0 :: x2 g0 :: (y1 :: y2 :: Rs)) := by
  rw [hx] at hS
  exact hS.perm (List.perm_middle (l₁ := [x1 g0, x2 g0, y1, y2])).symm
 refine xenterI (Hr := y1 :: y2 :: Rs) ttok Tryz.func129 rfl Tryz.ntmps129 rfl (fun w h => by obtain ⟨g, M', h, _⟩ := h; cases h) [(0, kn v 1 hs valI), (9, knF (Fy g0))] [(0, .box b [.sl 0 v] 72), (1, .ho (x1 g0)), (2, .ho (x2 g0))] [.v (.func (.yield l) #[] #[]), .bx 0 b 0] rfl hS2 (fc 0 hl valI_len (fcons ⟨Sl.nil M 1, strC_len, hF⟩ fnil)) (fun B hB => ?_) rfl
 have hln : len hs = (hs.length : Int) := rfl
 refine xloop (σ := Int × Nat × σ) (fun (i, k, g) => ⟨[(0, kn v 1 hs valI), (9, knF (Fy g))], [(0, .box b [.sl 0 v] 72), (1, .ho (x1 g)), (2, .ho (x2 g))], [Z 0 (.v (.func (.yield l) #[] #[])), Z 1 (.bx 0 b 0), Z 3 (I i)]⟩) (fun (i, k, g) => i = len hs - 1 - k ∧ k ≤ hs.length ∧ I' k g) (fun (i, k, g) => hs.length - k) (len hs - 1, 0, g0) rfl (eok rfl) (by simp only [zb] <;> omega) rfl ⟨by show len hs - 1 = len hs - 1 - ((0 : Nat) : Int); omega, Nat.zero_le _, hI⟩ ?_
 rintro ⟨i, k, g⟩ ⟨hi, hk, hIk⟩
 refine xbr rfl (eok rfl) (by simp only [zb] <;> omega) (fun hb1 => ?_) (fun hb1 => ?_)
 ·simp only [zb] at hb1
  have hk2 : k < hs.length := by omega
  refine xyield (fun g' => [(1, .ho (x1 g')), (2, .ho (x2 g'))]) [1, 2] (γ := σ) (pu := I' (k + 1)) (Fg := fun g' => [(9, knF (Fy g'))]) (Hg := Hy) [9] rfl (eok rfl) (by simp only [zb] <;> omega) rfl (eok rfl) rfl rfl (eok rfl) rfl (fun w' M' hS' hF' hle => ?_) (fun g' => by rw [hx]; rfl) fun g' hg' => ?_
  ·subst hi
   have hp : (Hy g ++ (y1 :: y2 :: .box b [v] 72 :: Rs)).Perm (x1 g :: x2 g :: .box b [v] 72 :: y1 :: y2 :: Rs) := by
    rw [hx]
    exact ((List.perm_middle (l₁ := [y1, y2])).cons _).cons _
   obtain ⟨fn, tt', asg, bd, e1, e2⟩ := hy k g () w' M' hk2 hIk trivial (hS'.perm hp) hle (fun x h => by cases h) (hF'.get (k := 9) rfl).more
   refine ⟨fn, tt', asg, bd, e1, e2.mono fun e w2 h => ?_⟩
   obtain ⟨g', M2, q1, q2, q3, q4, q5⟩ := h
   refine ⟨g', M2, q1, q2, q3, ?_, fcons ⟨Sl.nil M2 1, strC_len, q5⟩ fnil⟩
   refine q4.perm (List.Perm.append_left _ ?_)
   exact (List.perm_middle (l₁ := [y1, y2])).symm
  ·refine xbr rfl (eok rfl) (by omega) (fun hb2 => ?_) (fun hb2 => ?_)
   ·cases hb2
   ·exact xround (i - 1, k + 1, g') rfl (eok rfl) (by simp only [zb] <;> omega) rfl ⟨by show i - 1 = len hs - 1 - ((k + 1 : Nat) : Int); omega, hk2, hg'⟩ (by show hs.length - (k + 1) < hs.length - k; omega)
 ·simp only [zb] at hb1
  have hk3 : k = hs.length := by omega
  refine xend hB rfl rfl (eok rfl) (by omega) fun w' M' hX => ⟨g, M', rfl, by rw [← hk3]; exact hIk, hX.le, ?_, (hX.f.get (k := 9) rfl).more⟩
  refine hX.st.perm ?_
  rw [hx]
  exact List.perm_middle (l₁ := [x1 g, x2 g, y1, y2])
theorem back_c {w0 wv : World} {M0 M : Mem} {Rs : List HO} {v : Value} {hs : List SlH} (hS : St w0 M0 wv M Rs) (hl : Sl M 1 hs.length v (hs.flatMap valI)) :
    Calls Tryz.prog 83 [v].toArray wv (ORet w0 M0 M Rs (fun b : Nat => .func (.func 129) #[] #[.pointer (some ⟨b, 0, none⟩)]) (fun _ => True) (fun _ => []) fun b => [.box b [v] 72]) := by
 refine xenter (Hr := Rs) ttok Tryz.func83 rfl Tryz.ntmps83 [(0, kn v 1 hs valI)] [] [.sl 0 v] rfl hS (fc 0 hl valI_len fnil) (fun B hB => ?_) rfl
 refine xbox 1 rfl (eok rfl) (by omega) rfl rfl (eok rfl) fun b => ?_
 refine xpv (.v (.func (.func 129) #[] #[.pointer (some ⟨b, 0, none⟩)])) rfl (eok rfl) (by omega) rfl (fun w M hX => PV.makeFunc (xs := []) (ys := [.tmp 1]) (vs := []) (us := [.pointer (some ⟨b, 0, none⟩)]) trivial ⟨opd_d (v := .bx 1 b 0) (E := []) rfl (eok rfl), trivial⟩) ?_
 exact xret hB rfl rfl (eok rfl) (by omega) rfl (eok rfl) fun w' M' hX => ⟨b, M', rfl, trivial, hX.le, hX.st, fun x h => by cases h⟩
end Go.Proofs.YtmjpjbmeamnfpaaGreatDoor
