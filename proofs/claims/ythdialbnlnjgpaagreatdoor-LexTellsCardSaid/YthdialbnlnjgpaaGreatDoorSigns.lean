/-
  PLAIN LEAN: signs among the bytes of an escape. No program in it.
-/
import Derived.Test.YthdialbnlnjgpaaGreatDoorEngK
import Derived.Test.YthdialbnlnjgpaaGreatDoorRefs
set_option linter.unusedVariables false
set_option linter.unusedSimpArgs false
namespace Go.Eng
open Go.RowKit

/-- '+', '-', '_': at which place. -/
def ix3 (r : Int) : Int := if r = 43 then 0 else if r = 45 then 1 else if r = 95 then 2 else -1
theorem ix3_neg (r : Int) : ix3 r < 0 ↔ ¬ (r = 43 ∨ r = 45 ∨ r = 95) := by unfold ix3; (repeat' split) <;> omega
theorem ixb_fin : ∀ n : Fin 256, Lib.indexByte [43, 45, 95] (UInt8.ofNat n.val) = ix3 (n.val : Int) := by decide +kernel
theorem ixb {r : Int} (h0 : 0 ≤ r) (h1 : r < 256) : Lib.indexByte [43, 45, 95] r.toNat.toUInt8 = ix3 r := by
  have := ixb_fin ⟨r.toNat, by omega⟩
  have e : ((r.toNat : Nat) : Int) = r := by omega
  simp only [e] at this
  exact this
theorem ix_high {l : Str} {c : Int} (hl : ∀ b ∈ l, b.toNat < 128) (h0 : 128 ≤ c) (h1 : c ≤ 255) : Lib.indexByte l c.toNat.toUInt8 < 0 := by
  rcases Int.lt_or_le (Lib.indexByte l c.toNat.toUInt8) 0 with h | h
  · exact h
  · exfalso
    induction l with
    | nil => exact ix_nil _ h
    | cons a l ih =>
      rcases (ix_cons a _ l).1 h with h2 | h2
      · have := hl a (by simp)
        subst h2
        have e : (c.toNat.toUInt8).toNat = c.toNat := by simp; omega
        omega
      · exact ih (fun b hb => hl b (by simp [hb])) h2
theorem signs_low (k : Int) : ∀ b ∈ from' ([43, 45, 95] : Str) k, b.toNat < 128 := by
  intro b hb
  have := List.mem_of_mem_drop hb
  simp at this
  rcases this with rfl | rfl | rfl <;> decide
theorem sign_byte (k : Int) : byteAt ([43, 45, 95] : Str) k < 128 := by
  unfold byteAt
  rcases Nat.lt_or_ge k.toNat 3 with h | h
  · have : k.toNat = 0 ∨ k.toNat = 1 ∨ k.toNat = 2 := by omega
    rcases this with h2 | h2 | h2 <;> rw [h2] <;> decide
  · have : ([43, 45, 95] : Str).getD k.toNat 0 = 0 := by simp [List.getD_eq_getElem?_getD, List.getElem?_eq_none (show ([43, 45, 95] : Str).length ≤ k.toNat from h)]
    rw [this]; decide
def NoSign (l : Str) (p : Int) : Prop := ∀ j : Int, 0 ≤ j → j < p → ix3 (byteAt l j) < 0
theorem NoSign.step {l : Str} {p : Int} (h : NoSign l p) (h0 : 0 ≤ p) (h1 : p < len l) (h2 : ix3 (runeAt l p) < 0) : NoSign l (p + runeLen l p) := by
  intro j hj0 hj1
  rcases Int.lt_or_le j p with hj | hj
  · exact h j hj0 hj
  · rcases rune_dec h0 h1 with ⟨_, _, h3, h4⟩ | ⟨h3, h4, _, h5, h6, h7⟩
    · have : j = p := by omega
      subst this; rw [ix3_neg]; omega
    · rcases Int.lt_or_le (byteAt l p) 128 with hb | hb
      · obtain ⟨h8, h9⟩ := h6 hb
        have : j = p := by omega
        subst this; rw [← h9]; exact h2
      · have hle := rune_le l p h1
        have hm := enc_high (h7 hb)
        rw [h5] at hm
        have hjl : j.toNat < l.length := by unfold len at hle; omega
        have hmem : l[j.toNat] ∈ Eng.sub l p (p + rune l p) := by
          unfold Eng.sub
          rw [List.mem_take_iff_getElem]
          refine ⟨j.toNat - p.toNat, by rw [List.length_drop]; omega, ?_⟩
          rw [List.getElem_drop]; congr 1; omega
        have h10 := hm _ hmem
        have h11 : byteAt l j = (l[j.toNat].toNat : Int) := by simp [byteAt, hjl]
        rw [ix3_neg]; omega
theorem NoSign.none' {l : Str} {p : Int} (h : NoSign l p) (hp : len l ≤ p) : l.any (fun b => ([43, 45, 95] : Str).contains b) = false := by
  rw [List.any_eq_false]
  intro b hb hc
  obtain ⟨j, hj, rfl⟩ := List.getElem_of_mem hb
  have := h (j : Int) (by omega) (by unfold len at hp; omega)
  rw [ix3_neg] at this
  have e : byteAt l (j : Int) = (l[j].toNat : Int) := by simp [byteAt, hj]
  apply this
  simp only [List.contains_cons, List.contains_nil, Bool.or_false, Bool.or_eq_true, beq_iff_eq] at hc
  rw [e]
  rcases hc with h | h | h <;> rw [h] <;> decide
theorem sign_found {l : Str} {p : Int} (h0 : 0 ≤ p) (h1 : p < len l) (h2 : ¬ ix3 (runeAt l p) < 0) : l.any (fun b => ([43, 45, 95] : Str).contains b) = true := by
  rw [ix3_neg] at h2
  have h3 : runeAt l p = 43 ∨ runeAt l p = 45 ∨ runeAt l p = 95 := by omega
  have h4 : byteAt l p = 43 ∨ byteAt l p = 45 ∨ byteAt l p = 95 := by
    rcases h3 with h | h | h
    · exact .inl ((runeAt_low h0 h1 (by decide)).1 h)
    · exact .inr (.inl ((runeAt_low h0 h1 (by decide)).1 h))
    · exact .inr (.inr ((runeAt_low h0 h1 (by decide)).1 h))
  have hp : p.toNat < l.length := by unfold len at h1; omega
  have e : byteAt l p = (l[p.toNat].toNat : Int) := by simp [byteAt, hp]
  rw [List.any_eq_true]
  refine ⟨l[p.toNat], List.getElem_mem hp, ?_⟩
  simp only [List.contains_cons, List.contains_nil, Bool.or_false, Bool.or_eq_true, beq_iff_eq]
  rw [e] at h4
  have hq : ∀ (b : UInt8) (n : Nat), (b.toNat : Int) = n → n < 256 → b = UInt8.ofNat n := fun b n h hn => by rw [← UInt8.toNat_inj]; simp [Nat.mod_eq_of_lt hn]; omega
  rcases h4 with h | h | h
  · exact .inl (hq _ 43 h (by omega))
  · exact .inr (.inl (hq _ 45 h (by omega)))
  · exact .inr (.inr (hq _ 95 h (by omega)))
/-- What Go decodes is a rune that is valid. -/
theorem runeAt_valid (s : Str) (p : Int) : runeAt s p < 55296 ∨ 57343 < runeAt s p := by
  have h : (Utf8.decode ⟨⟨s⟩⟩ p.toNat).1 < 55296 ∨ (57343 < (Utf8.decode ⟨⟨s⟩⟩ p.toNat).1 ∧ (Utf8.decode ⟨⟨s⟩⟩ p.toNat).1 ≤ 1114111) := by
    rw [Lib.decode_at]; exact Lib.decodeN_valid _ _ _ _ _ (UInt8.toNat_lt _)
  unfold runeAt; omega
end Go.Eng
