/-
  PLAIN LEAN: UTF-8, of bytes alone: the document's runes and Go's decoding. No program in it.
-/
import Derived.Lib.DecodeN
set_option linter.unusedVariables false
set_option linter.unusedSimpArgs false
namespace Go.Eng

/-- The document's rune, of bytes alone. -/
def runeN (n x0 x1 x2 x3 : Nat) : Nat :=
  if x0 < 128 then 1
  else if 194 ≤ x0 ∧ x0 < 224 ∧ (1 < n ∧ 128 ≤ x1 ∧ x1 < 192) then 2
  else if 224 ≤ x0 ∧ x0 < 240 ∧ (1 < n ∧ 128 ≤ x1 ∧ x1 < 192) ∧ (2 < n ∧ 128 ≤ x2 ∧ x2 < 192) then
    if (x0 = 224 ∧ x1 < 160) ∨ (x0 = 237 ∧ 160 ≤ x1) then 0 else 3
  else if 240 ≤ x0 ∧ x0 < 245 ∧ (1 < n ∧ 128 ≤ x1 ∧ x1 < 192) ∧ (2 < n ∧ 128 ≤ x2 ∧ x2 < 192) ∧ (3 < n ∧ 128 ≤ x3 ∧ x3 < 192) then
    if (x0 = 240 ∧ x1 < 144) ∨ (x0 = 244 ∧ 144 ≤ x1) then 0 else 4
  else 0
/-- What a rune of so many bytes is decoded as. -/
def DecAs (n x0 x1 x2 x3 k r l : Nat) : Prop :=
  (k = 0 ∧ r = 65533 ∧ l = 1 ∧ 128 ≤ x0) ∨ (k = 1 ∧ r = x0 ∧ l = 1 ∧ x0 < 128) ∨
  (k = 2 ∧ l = 2 ∧ 2 ≤ n ∧ 128 ≤ r ∧ r ≤ 2047 ∧ 192 + r / 64 = x0 ∧ 128 + r % 64 = x1) ∨
  (k = 3 ∧ l = 3 ∧ 3 ≤ n ∧ ((2048 ≤ r ∧ r < 55296) ∨ (57343 < r ∧ r ≤ 65535)) ∧ 224 + r / 4096 = x0 ∧ 128 + r / 64 % 64 = x1 ∧ 128 + r % 64 = x2) ∨
  (k = 4 ∧ l = 4 ∧ 4 ≤ n ∧ 65536 ≤ r ∧ r ≤ 1114111 ∧ 240 + r / 262144 = x0 ∧ 128 + r / 4096 % 64 = x1 ∧ 128 + r / 64 % 64 = x2 ∧ 128 + r % 64 = x3)
set_option maxHeartbeats 4000000 in
set_option maxRecDepth 100000 in
theorem runeN_dec (n x0 x1 x2 x3 : Nat) (hn : 1 ≤ n) (h0 : x0 < 256) (h1 : x1 < 256) (h2 : x2 < 256) (h3 : x3 < 256) : DecAs n x0 x1 x2 x3 (runeN n x0 x1 x2 x3) (Lib.decodeN n x0 x1 x2 x3).1 (Lib.decodeN n x0 x1 x2 x3).2 := by
  unfold runeN Lib.decodeN DecAs
  repeat' split
  all_goals first | exact .inl ⟨rfl, rfl, rfl, by omega⟩ | exact .inr (.inl ⟨rfl, rfl, rfl, by omega⟩) | exact .inr (.inr (.inl ⟨rfl, rfl, by omega, by dsimp only; omega, by dsimp only; omega, by dsimp only; omega, by dsimp only; omega⟩)) | exact .inr (.inr (.inr (.inl ⟨rfl, rfl, by omega, by dsimp only; omega, by dsimp only; omega, by dsimp only; omega, by dsimp only; omega⟩))) | exact .inr (.inr (.inr (.inr ⟨rfl, rfl, by omega, by dsimp only; omega, by dsimp only; omega, by dsimp only; omega, by dsimp only; omega, by dsimp only; omega, by dsimp only; omega⟩))) | (exfalso; omega)
end Go.Eng
