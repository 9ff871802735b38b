/-
  NUMBERS IN BASE 16, the library's way, against the figures of Quote and Refs. No program in sight.
-/
import Derived.Test.YthdialbnlnjgpaaGreatDoorRefs
import Derived.Test.YthdialbnlnjgpaaGreatDoorEngI
import Derived.Laws.BitsAllLaws
import Derived.Laws.BitsLemmas
set_option linter.unusedVariables false
set_option linter.unusedSimpArgs false
namespace Go.Proofs.YthdialbnlnjgpaaGreatDoor
open Go.Eng

def lowV (c : Int) : Int := ((c.toNat ||| 32 : Nat) : Int)
theorem low_or {c : Int} (h0 : 0 ≤ c) (h1 : c ≤ 255) : bits .or .u8 c 32 = lowV c := u8_or c 32 h0 (by omega) (by decide) (by decide)
def lowChk (c : Int) : Bool :=
  decide (lowV c ≤ 255) && (decide (48 ≤ c ∧ c ≤ 57) || (if 97 ≤ lowV c ∧ lowV c ≤ 122 then (if lowV c ≤ 102 then decide (hexI c = lowV c - 87) else decide (hexI c = -1)) else decide (hexI c = -1)))
theorem low_all : (List.range 256).all (fun n => lowChk (n : Int)) = true := by decide +kernel
theorem low_facts {c : Int} (h0 : 0 ≤ c) (h1 : c ≤ 255) : (0 ≤ lowV c ∧ lowV c ≤ 255) ∧ (97 ≤ lowV c → lowV c ≤ 122 → ¬ (48 ≤ c ∧ c ≤ 57) → (lowV c ≤ 102 → hexI c = lowV c - 87) ∧ (102 < lowV c → hexI c = -1)) ∧
    (¬ (97 ≤ lowV c ∧ lowV c ≤ 122) → ¬ (48 ≤ c ∧ c ≤ 57) → hexI c = -1) := by
  have h := List.all_eq_true.1 low_all c.toNat (List.mem_range.2 (by omega))
  rw [show ((c.toNat : Nat) : Int) = c from by omega] at h
  have hz : 0 ≤ lowV c := by unfold lowV; omega
  unfold lowChk at h
  simp only [Bool.and_eq_true, Bool.or_eq_true, decide_eq_true_eq] at h
  generalize lowV c = y at *
  generalize hexI c = z at *
  refine ⟨⟨hz, h.1⟩, fun h2 h3 h4 => ?_, fun h2 h4 => ?_⟩
  · rcases h.2 with h5 | h5
    · exact absurd h5 h4
    · rw [if_pos ⟨h2, h3⟩] at h5
      constructor
      · intro h6; rw [if_pos h6] at h5; simpa using h5
      · intro h6; rw [if_neg (by omega)] at h5; simpa using h5
  · rcases h.2 with h5 | h5
    · exact absurd h5 h4
    · rw [if_neg h2] at h5; simpa using h5
theorem hex_fig {c : Int} (h : 48 ≤ c ∧ c ≤ 57) : hexI c = c - 48 := by unfold hexI; rw [if_pos h]
theorem ints_at {s : Str} {k : Int} (h0 : 0 ≤ k) (h1 : k < len s) : at' (ints s) k = byteAt s k := by
  have h : k.toNat < s.length := by unfold len at h1; omega
  simp [at', ints, byteAt, h]
abbrev digs : Str := [48, 49, 50, 51, 52, 53, 54, 55, 56, 57, 97, 98, 99, 100, 101, 102, 103, 104, 105, 106, 107, 108, 109, 110, 111, 112, 113, 114, 115, 116, 117, 118, 119, 120, 121, 122]
theorem digs_all : ∀ n : Nat, n < 16 → byteAt digs (n : Int) = hexD (n : Int) := by decide +kernel
theorem digs_at {n : Int} (h0 : 0 ≤ n) (h1 : n < 16) : byteAt digs n = hexD n := by
  have := digs_all n.toNat (by omega)
  rwa [show ((n.toNat : Nat) : Int) = n from by omega] at this
theorem u64_and15 (x : Int) (h0 : 0 ≤ x) (h1 : x < 18446744073709551616) : bits .and .u64 x 15 = x % 16 := by
  rw [u64_and x 15 h0 h1 (by decide) (by decide)]
  have h : x.toNat &&& 15 = x.toNat % 16 := Nat.and_two_pow_sub_one_eq_mod x.toNat 4
  show ((x.toNat &&& (15 : Nat) : Nat) : Int) = _
  rw [h]; omega
theorem hexOk_nil : hexOk [] = true := rfl
theorem hexVal_nil : hexVal [] = 0 := rfl
theorem hex_bd {l : Str} {k : Int} (hl : len l = 4) (h0 : 0 ≤ k) (h1 : k < 4) (h : hexOk (Eng.sub l 0 k) = true) : 0 ≤ hexVal (Eng.sub l 0 k) ∧ hexVal (Eng.sub l 0 k) ≤ 4095 :=
  hexVal_bd3 h (by rw [sub_len (by omega) (by omega) (by omega)]; omega)
end Go.Proofs.YthdialbnlnjgpaaGreatDoor
