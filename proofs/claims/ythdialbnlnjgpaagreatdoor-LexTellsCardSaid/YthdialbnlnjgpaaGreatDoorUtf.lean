/-
  PLAIN LEAN: UTF-8, as the document has it ('rune') and as Go decodes it ('runeAt', 'runeLen'). No program in it.
-/
import Derived.Test.YthdialbnlnjgpaaGreatDoorRef
import Derived.Test.YthdialbnlnjgpaaGreatDoorUtfN
set_option linter.unusedVariables false
set_option linter.unusedSimpArgs false
namespace Go.Eng
open Go.RowKit

theorem byteAt_nat (s : Str) (i : Int) (h0 : 0 ≤ i) (j : Nat) : byteAt s (i + j) = ((s.getD (i.toNat + j) 0).toNat : Int) := by
  unfold byteAt; rw [show (i + j).toNat = i.toNat + j from by omega]
theorem getD_from (s : Str) (i : Int) (j : Nat) : (from' s i).getD j 0 = s.getD (i.toNat + j) 0 := by
  unfold from'; simp [List.getD_eq_getElem?_getD, List.getElem?_drop]
theorem get!_mk (l : Str) (j : Nat) : (ByteArray.mk ⟨l⟩).get! j = l.getD j 0 := by
  show (Array.mk l)[j]! = _
  simp [List.getD_eq_getElem?_getD]
  rfl
theorem from_from {α : Type} (s : List α) (i j : Int) (h0 : 0 ≤ i) (h1 : 0 ≤ j) : from' (from' s i) j = from' s (i + j) := by
  unfold from'; rw [List.drop_drop, show (i + j).toNat = i.toNat + j.toNat from by omega]
theorem byteAt_from (s : Str) (i j : Int) (h0 : 0 ≤ i) (h1 : 0 ≤ j) : byteAt (from' s i) j = byteAt s (i + j) := by
  unfold byteAt; rw [getD_from, show (i + j).toNat = i.toNat + j.toNat from by omega]
theorem decode_from (s : Str) (i : Int) (h0 : 0 ≤ i) :
    Utf8.decode ⟨⟨from' s i⟩⟩ 0 = Lib.decodeN (s.length - i.toNat) (s.getD i.toNat 0).toNat (s.getD (i.toNat + 1) 0).toNat (s.getD (i.toNat + 2) 0).toNat (s.getD (i.toNat + 3) 0).toNat := by
  rw [Lib.decode_at]
  simp only [get!_mk, getD_from, Nat.zero_add, Nat.add_zero, Nat.sub_zero]
  congr 1
  show (from' s i).length = _
  unfold from'; rw [List.length_drop]
/-- Ranging over a text, and decoding what stands from a place on, are the same. -/
theorem decode_same (s : Str) (i : Int) (h0 : 0 ≤ i) : Utf8.decode ⟨⟨s⟩⟩ i.toNat = Utf8.decode ⟨⟨from' s i⟩⟩ 0 := by
  rw [decode_from s i h0, Lib.decode_at]
  simp only [get!_mk]; rfl
theorem runeAt_from (s : Str) (i : Int) (h0 : 0 ≤ i) : runeAt (from' s i) 0 = runeAt s i := by unfold runeAt; rw [decode_same s i h0]; rfl
theorem runeLen_from (s : Str) (i : Int) (h0 : 0 ≤ i) : runeLen (from' s i) 0 = runeLen s i := by unfold runeLen; rw [decode_same s i h0]; rfl
theorem sub_bytes2 {s : Str} {i : Int} (h0 : 0 ≤ i) : ∀ n : Nat, i + n ≤ len s → Eng.sub s i (i + n) = (List.range n).map (fun j => s.getD (i.toNat + j) 0) := by
  intro n h
  unfold Eng.sub
  apply List.ext_getElem?
  intro k
  rw [show (i + n).toNat - i.toNat = n from by omega]
  unfold len at h
  by_cases hk : k < n
  · rw [List.getElem?_take, if_pos hk, List.getElem?_drop]
    have : i.toNat + k < s.length := by omega
    simp [hk, this]
  · rw [List.getElem?_take, if_neg hk]
    simp [hk]
theorem u8_of (b : UInt8) (x : Int) (h : x = (b.toNat : Int)) : UInt8.ofNat x.toNat = b := by subst h; simp
theorem rune_N {s : Str} {i : Int} (h0 : 0 ≤ i) (h1 : i < len s) : rune s i = (runeN (s.length - i.toNat) (s.getD i.toNat 0).toNat (s.getD (i.toNat + 1) 0).toNat (s.getD (i.toNat + 2) 0).toNat (s.getD (i.toNat + 3) 0).toNat : Nat) := by
  have e0 : byteAt s i = ((s.getD i.toNat 0).toNat : Int) := rfl
  have e1 : byteAt s (i + 1) = ((s.getD (i.toNat + 1) 0).toNat : Int) := byteAt_nat s i h0 1
  have e2 : byteAt s (i + 2) = ((s.getD (i.toNat + 2) 0).toNat : Int) := byteAt_nat s i h0 2
  have e3 : byteAt s (i + 3) = ((s.getD (i.toNat + 3) 0).toNat : Int) := byteAt_nat s i h0 3
  have hlen : len s = (s.length : Int) := rfl
  unfold rune cont runeN
  simp only [e0, e1, e2, e3]
  simp only [Bool.and_eq_true, Bool.or_eq_true, decide_eq_true_eq, beq_iff_eq]
  repeat' split
  all_goals first | rfl | (exfalso; omega)
/-- A rune that is valid is what Go decodes; its bytes are what stands there. -/
theorem rune_dec {s : Str} {i : Int} (h0 : 0 ≤ i) (h1 : i < len s) :
    (rune s i = 0 ∧ runeAt s i = 65533 ∧ runeLen s i = 1 ∧ 128 ≤ byteAt s i) ∨
    (1 ≤ rune s i ∧ runeLen s i = rune s i ∧ ¬ (runeAt s i = 65533 ∧ runeLen s i = 1) ∧ toStr (Lib.encodeRuneZ (runeAt s i)) = Eng.sub s i (i + rune s i) ∧ (byteAt s i < 128 → rune s i = 1 ∧ runeAt s i = byteAt s i) ∧ (128 ≤ byteAt s i → 128 ≤ runeAt s i)) := by
  have hlen : len s = (s.length : Int) := rfl
  have hrn := rune_N h0 h1
  have hle := rune_le s i h1
  have e0 : byteAt s i = ((s.getD i.toNat 0).toNat : Int) := rfl
  have s1 := sub_bytes2 (s := s) h0 1
  have s2 := sub_bytes2 (s := s) h0 2
  have s3 := sub_bytes2 (s := s) h0 3
  have s4 := sub_bytes2 (s := s) h0 4
  simp only [List.range_succ, List.range_zero, List.nil_append, List.map_append, List.map_cons, List.map_nil, List.cons_append, Nat.add_zero] at s1 s2 s3 s4
  have hr : runeAt s i = ((Lib.decodeN (s.length - i.toNat) (s.getD i.toNat 0).toNat (s.getD (i.toNat + 1) 0).toNat (s.getD (i.toNat + 2) 0).toNat (s.getD (i.toNat + 3) 0).toNat).1 : Nat) := by
    unfold runeAt; rw [decode_same s i h0, decode_from s i h0]
  have hl : runeLen s i = ((Lib.decodeN (s.length - i.toNat) (s.getD i.toNat 0).toNat (s.getD (i.toNat + 1) 0).toNat (s.getD (i.toNat + 2) 0).toNat (s.getD (i.toNat + 3) 0).toNat).2 : Nat) := by
    unfold runeLen; rw [decode_same s i h0, decode_from s i h0]
  have hD := runeN_dec (s.length - i.toNat) (s.getD i.toNat 0).toNat (s.getD (i.toNat + 1) 0).toNat (s.getD (i.toNat + 2) 0).toNat (s.getD (i.toNat + 3) 0).toNat (by omega) (UInt8.toNat_lt _) (UInt8.toNat_lt _) (UInt8.toNat_lt _) (UInt8.toNat_lt _)
  generalize Lib.decodeN (s.length - i.toNat) (s.getD i.toNat 0).toNat (s.getD (i.toNat + 1) 0).toNat (s.getD (i.toNat + 2) 0).toNat (s.getD (i.toNat + 3) 0).toNat = D at *
  generalize runeN (s.length - i.toNat) (s.getD i.toNat 0).toNat (s.getD (i.toNat + 1) 0).toNat (s.getD (i.toNat + 2) 0).toNat (s.getD (i.toNat + 3) 0).toNat = K at *
  obtain ⟨r, l⟩ := D
  dsimp only at hD hr hl
  rcases hD with ⟨rfl, hd, hx⟩ | ⟨rfl, hd, hx⟩ | ⟨rfl, hd, hx⟩ | ⟨rfl, hd, hx⟩ | ⟨rfl, hd, hx⟩
  · left; refine ⟨by omega, by omega, by omega, by omega⟩
  · right
    refine ⟨by omega, by omega, by omega, ?_, fun _ => ⟨by omega, by omega⟩, by omega⟩
    rw [hr, hrn, Lib.encodeRuneZ_one (by omega) (by omega)]
    rw [show ((1 : Nat) : Int) = 1 from rfl] at *
    rw [s1 (by omega)]
    simp only [toStr, List.map_cons, List.map_nil]
    rw [u8_of (s.getD i.toNat 0) _ (by omega)]
  · right
    refine ⟨by omega, by omega, by omega, ?_, by omega, by omega⟩
    rw [hr, hrn, Lib.encodeRuneZ_two (by omega) (by omega)]
    have := s2 (by omega)
    refine Eq.trans ?_ this.symm
    simp only [toStr, List.map_cons, List.map_nil]
    rw [u8_of (s.getD i.toNat 0) _ (by omega), u8_of (s.getD (i.toNat + 1) 0) _ (by omega)]
  · right
    refine ⟨by omega, by omega, by omega, ?_, by omega, by omega⟩
    rw [hr, hrn, Lib.encodeRuneZ_three (by omega)]
    have := s3 (by omega)
    refine Eq.trans ?_ this.symm
    simp only [toStr, List.map_cons, List.map_nil]
    rw [u8_of (s.getD i.toNat 0) _ (by omega), u8_of (s.getD (i.toNat + 1) 0) _ (by omega), u8_of (s.getD (i.toNat + 2) 0) _ (by omega)]
  · right
    refine ⟨by omega, by omega, by omega, ?_, by omega, by omega⟩
    rw [hr, hrn, Lib.encodeRuneZ_four (by omega) (by omega)]
    have := s4 (by omega)
    refine Eq.trans ?_ this.symm
    simp only [toStr, List.map_cons, List.map_nil]
    rw [u8_of (s.getD i.toNat 0) _ (by omega), u8_of (s.getD (i.toNat + 1) 0) _ (by omega), u8_of (s.getD (i.toNat + 2) 0) _ (by omega), u8_of (s.getD (i.toNat + 3) 0) _ (by omega)]
end Go.Eng
