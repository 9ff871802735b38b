/-
  WHAT A TOKEN HANGS ON: the token that a text begins with is read of its own bytes, and of the one behind them; so it stays where these stay. Plain: no program in it.
  TOKENS FROM A PLACE ON, as a relation: which ones there are; or where there are none. What lex answers is read off it. Plain: no program in it.
  A NUMBER'S TEXT IS READ AS IT; what any text is read as is a right number. Plain: no program in it.
  THE PLAIN LAW OF LexBack: a text of tokens is read as these; what any text is read as, written, is read as it. No program in it.
-/
import Derived.Test.YtmjpjbmeamnfpaaGreatDoorZb15
import Derived.Test.YtmjpjbmeamnfpaaGreatDoorZb16
import Derived.Lib.SlTrimSet
import Derived.Test.YtmjpjbmeamnfpaaGreatDoorZb19
import Derived.Lib.Join
set_option linter.unusedVariables false
set_option linter.unusedSimpArgs false
namespace Go.Eng
open Go.RowKit

/-! ### Bytes of joined texts -/
theorem byteAt_l {u v : Str} {j : Int} (h0 : 0 ≤ j) (h : j < len u) : byteAt (u ++ v) j = byteAt u j := by
  unfold len at h
  unfold byteAt
  rw [List.getD_eq_getElem?_getD, List.getD_eq_getElem?_getD, List.getElem?_append_left (by omega)]
theorem byteAt_r {u v : Str} {k : Int} (h0 : 0 ≤ k) : byteAt (u ++ v) (len u + k) = byteAt v k := by
  unfold byteAt len
  rw [List.getD_eq_getElem?_getD, List.getD_eq_getElem?_getD, List.getElem?_append_right (by omega), show ((u.length : Int) + k).toNat - u.length = k.toNat from by omega]
theorem byteAt_r' {u v : Str} {k : Int} (h0 : len u ≤ k) : byteAt (u ++ v) k = byteAt v (k - len u) := by
  have := byteAt_r (u := u) (v := v) (k := k - len u) (by omega)
  rw [← this]; congr 1; omega
theorem byteAt_cons0 (a : UInt8) (l : Str) : byteAt (a :: l) 0 = (a.toNat : Int) := rfl
theorem byteAt_nil (k : Int) : byteAt [] k = 0 := by unfold byteAt; simp
theorem from_app {u v : Str} : from' (u ++ v) (len u) = v := by unfold from' len; simp
theorem from_app' {u v : Str} {k : Int} (h0 : 0 ≤ k) (h : k ≤ len u) : from' (u ++ v) k = from' u k ++ v := by
  unfold from' len at *
  rw [List.drop_append_of_le_length (by omega)]
theorem from_zero {α : Type} (s : List α) : from' s 0 = s := rfl
theorem sub_app {u v : Str} : Eng.sub (u ++ v) 0 (len u) = u := by unfold Eng.sub len; simp
theorem sub_from_split {s : Str} {n : Int} (h0 : 0 ≤ n) (h1 : n ≤ len s) : s = Eng.sub s 0 n ++ from' s n ∧ len (Eng.sub s 0 n) = n := by
  refine ⟨?_, by rw [sub_len (by omega) h0 h1]; omega⟩
  have := from_split s 0 n (by omega) h0
  rw [from_zero] at this; exact this
theorem str_ext {a b : Str} (hl : len a = len b) (h : ∀ j : Int, 0 ≤ j → j < len a → byteAt a j = byteAt b j) : a = b := by
  unfold len at hl
  refine List.ext_getElem (by omega) fun i h1 h2 => ?_
  have := h (i : Int) (by omega) (by unfold len; omega)
  simp only [byteAt, Int.toNat_natCast, List.getD_eq_getElem?_getD, List.getElem?_eq_getElem h1, List.getElem?_eq_getElem h2, Option.getD_some] at this
  exact UInt8.toNat_inj.1 (by omega)
theorem sub_agr {s s' : Str} {i i' k : Int} (h0 : 0 ≤ i) (h0' : 0 ≤ i') (hk : 0 ≤ k) (h1 : i + k ≤ len s) (h2 : i' + k ≤ len s') (h : ∀ j, 0 ≤ j → j < k → byteAt s' (i' + j) = byteAt s (i + j)) : Eng.sub s' i' (i' + k) = Eng.sub s i (i + k) := by
  have l1 := sub_len (s := s) (i := i) (j := i + k) h0 (by omega) h1
  have l2 := sub_len (s := s') (i := i') (j := i' + k) h0' (by omega) h2
  refine str_ext (by omega) fun j a b => ?_
  rw [byteAt_sub h0' a (by omega) h2, byteAt_sub h0 a (by omega) h1]
  exact h j a (by omega)

/-! ### A rune hangs on its own bytes -/
theorem rune_agr {s s' : Str} {i i' : Int} (h0 : 0 ≤ i) (h0' : 0 ≤ i') (h1 : 1 ≤ rune s i) (hl : i < len s) (hl' : i' + rune s i ≤ len s') (h : ∀ j, 0 ≤ j → j < rune s i → byteAt s' (i' + j) = byteAt s (i + j)) :
    rune s' i' = rune s i ∧ runeAt s' i' = runeAt s i ∧ runeLen s' i' = runeLen s i := by
  have hb := rune_bd s i
  have hle := rune_le s i hl
  have a0 : byteAt s' i' = byteAt s i := by have := h 0 (by omega) (by omega); rwa [Int.add_zero, Int.add_zero] at this
  have a1 : 2 ≤ rune s i → byteAt s' (i' + 1) = byteAt s (i + 1) := fun x => h 1 (by omega) (by omega)
  have a2 : 3 ≤ rune s i → byteAt s' (i' + 2) = byteAt s (i + 2) := fun x => h 2 (by omega) (by omega)
  have a3 : 4 ≤ rune s i → byteAt s' (i' + 3) = byteAt s (i + 3) := fun x => h 3 (by omega) (by omega)
  have er : rune s' i' = rune s i := by
    clear h
    generalize hk : rune s i = k at *
    unfold rune cont at hk ⊢
    dsimp only at hk ⊢
    rw [a0]
    simp only [Bool.and_eq_true, Bool.or_eq_true, decide_eq_true_eq, beq_iff_eq] at hk ⊢
    split at hk
    · rw [if_pos (by assumption)]; exact hk
    rename_i c0
    rw [if_neg c0]
    split at hk
    · rename_i c1
      subst hk
      have := a1 (by omega)
      rw [if_pos (by omega)]
    rename_i c1
    split at hk
    · rename_i c2
      have hk3 : k = 3 := by split at hk <;> omega
      have e1 := a1 (by omega)
      have e2 := a2 (by omega)
      rw [if_neg (by omega), if_pos (by omega), e1]
      exact hk
    rename_i c2
    split at hk
    · rename_i c3
      have hk4 : k = 4 := by split at hk <;> omega
      have e1 := a1 (by omega)
      have e2 := a2 (by omega)
      have e3 := a3 (by omega)
      rw [if_neg (by omega), if_neg (by omega), if_pos (by omega), e1]
      exact hk
    · omega
  refine ⟨er, ?_⟩
  have hl2 : i' < len s' := by omega
  have D := runeN_dec (s.length - i.toNat) (s.getD i.toNat 0).toNat (s.getD (i.toNat + 1) 0).toNat (s.getD (i.toNat + 2) 0).toNat (s.getD (i.toNat + 3) 0).toNat (by unfold len at *; omega) (UInt8.toNat_lt _) (UInt8.toNat_lt _) (UInt8.toNat_lt _) (UInt8.toNat_lt _)
  have D' := runeN_dec (s'.length - i'.toNat) (s'.getD i'.toNat 0).toNat (s'.getD (i'.toNat + 1) 0).toNat (s'.getD (i'.toNat + 2) 0).toNat (s'.getD (i'.toNat + 3) 0).toNat (by unfold len at *; omega) (UInt8.toNat_lt _) (UInt8.toNat_lt _) (UInt8.toNat_lt _) (UInt8.toNat_lt _)
  have r1 := rune_N h0 hl
  have r2 := rune_N h0' hl2
  have q : ∀ (t : Str) (x : Int), 0 ≤ x → runeAt t x = ((Lib.decodeN (t.length - x.toNat) (t.getD x.toNat 0).toNat (t.getD (x.toNat + 1) 0).toNat (t.getD (x.toNat + 2) 0).toNat (t.getD (x.toNat + 3) 0).toNat).1 : Nat) ∧ runeLen t x = ((Lib.decodeN (t.length - x.toNat) (t.getD x.toNat 0).toNat (t.getD (x.toNat + 1) 0).toNat (t.getD (x.toNat + 2) 0).toNat (t.getD (x.toNat + 3) 0).toNat).2 : Nat) := fun t x hx => by
    unfold runeAt runeLen; rw [decode_same t x hx, decode_from t x hx]; exact ⟨rfl, rfl⟩
  obtain ⟨q1, q2⟩ := q s i h0
  obtain ⟨q3, q4⟩ := q s' i' h0'
  rw [q1, q2, q3, q4]
  have n0 : ∀ (t : Str) (x : Int), 0 ≤ x → byteAt t x = ((t.getD x.toNat 0).toNat : Int) := fun t x hx => rfl
  have nj := fun (t : Str) (x : Int) (hx : 0 ≤ x) (j : Nat) => byteAt_nat t x hx j
  rw [n0 s i h0, n0 s' i' h0'] at a0
  have b1 : byteAt s (i + 1) = _ := nj s i h0 1
  have b2 : byteAt s (i + 2) = _ := nj s i h0 2
  have b3 : byteAt s (i + 3) = _ := nj s i h0 3
  have b1' : byteAt s' (i' + 1) = _ := nj s' i' h0' 1
  have b2' : byteAt s' (i' + 2) = _ := nj s' i' h0' 2
  have b3' : byteAt s' (i' + 3) = _ := nj s' i' h0' 3
  rw [b1, b1'] at a1
  rw [b2, b2'] at a2
  rw [b3, b3'] at a3
  unfold DecAs at D D'
  generalize (s.getD i.toNat 0).toNat = x0 at *
  generalize (s.getD (i.toNat + 1) 0).toNat = x1 at *
  generalize (s.getD (i.toNat + 2) 0).toNat = x2 at *
  generalize (s.getD (i.toNat + 3) 0).toNat = x3 at *
  generalize (s'.getD i'.toNat 0).toNat = y0 at *
  generalize (s'.getD (i'.toNat + 1) 0).toNat = y1 at *
  generalize (s'.getD (i'.toNat + 2) 0).toNat = y2 at *
  generalize (s'.getD (i'.toNat + 3) 0).toNat = y3 at *
  generalize runeN (s.length - i.toNat) x0 x1 x2 x3 = k at *
  generalize runeN (s'.length - i'.toNat) y0 y1 y2 y3 = k' at *
  generalize Lib.decodeN (s.length - i.toNat) x0 x1 x2 x3 = d at *
  generalize Lib.decodeN (s'.length - i'.toNat) y0 y1 y2 y3 = d' at *
  obtain ⟨d1, d2⟩ := d
  obtain ⟨e1, e2⟩ := d'
  clear q1 q2 q3 q4 q n0 nj b1 b2 b3 b1' b2' b3' h
  dsimp only at *
  rcases D with D | D | D | D | D <;> rcases D' with D' | D' | D' | D' | D' <;> first | (exfalso; omega) | (constructor <;> omega)

/-! ### A string hangs on its own bytes -/
theorem num_agr {s s' : Str} (hl : 6 ≤ len s') (h : ∀ j, 0 ≤ j → j < 6 → byteAt s' j = byteAt s j) (h0 : 0 ≤ numP s) : numP s' = numP s := by
  by_cases hs : len s < 6 ∨ ¬ byteAt s 0 = 92 ∨ ¬ byteAt s (0 + 1) = 117
  · have := numP_not (s := s) (i := 0) (by omega) (by omega)
    rw [from_zero] at this; omega
  · have e1 := numP_at (s := s) (i := 0) (by omega) (by omega) (by omega) (by omega)
    have e2 := numP_at (s := s') (i := 0) (by omega) (by omega) (by rw [h 0 (by omega) (by omega)]; omega) (by rw [h (0 + 1) (by omega) (by omega)]; omega)
    rw [from_zero] at e1 e2
    have e3 : Eng.sub s' (0 + 2) (0 + 6) = Eng.sub s (0 + 2) (0 + 6) := sub_agr (k := 4) (by omega) (by omega) (by omega) (by omega) (by omega) (fun j a b => h _ (by omega) (by omega))
    rw [e1, e2, e3]
theorem esc_agr {s s' : Str} (h0 : (escP s).2 ≠ 0) (hl : (escP s).2 ≤ len s') (h : ∀ j, 0 ≤ j → j < (escP s).2 → byteAt s' j = byteAt s j) : escP s' = escP s := by
  generalize hk : (escP s).2 = k at *
  unfold escP at hk ⊢
  by_cases c1 : len s < 2
  · rw [if_pos c1] at hk; exact absurd hk.symm h0
  rw [if_neg c1] at hk ⊢
  by_cases c2 : shIs (byteAt s 1) = true
  · rw [if_pos c2] at hk ⊢
    have hk' : k = 2 := hk.symm
    rw [if_neg (by omega), h 1 (by omega) (by omega), if_pos c2]
  rw [if_neg c2] at hk ⊢
  by_cases c3 : numP s < 0 ∨ (56320 ≤ numP s ∧ numP s < 57344)
  · rw [if_pos c3] at hk; exact absurd hk.symm h0
  rw [if_neg c3] at hk ⊢
  by_cases c4 : numP s < 55296 ∨ 57344 ≤ numP s
  · rw [if_pos c4] at hk ⊢
    have hk' : k = 6 := hk.symm
    have e := num_agr (s := s) (s' := s') (by omega) (fun j a b => h j a (by omega)) (by omega)
    rw [if_neg (by omega), h 1 (by omega) (by omega), if_neg c2, e, if_neg c3, if_pos c4]
  rw [if_neg c4] at hk ⊢
  by_cases c5 : numP (from' s 6) < 56320 ∨ 57344 ≤ numP (from' s 6)
  · rw [if_pos c5] at hk; exact absurd hk.symm h0
  rw [if_neg c5] at hk ⊢
  have hk' : k = 12 := hk.symm
  have e := num_agr (s := s) (s' := s') (by omega) (fun j a b => h j a (by omega)) (by omega)
  have e2 := num_agr (s := from' s 6) (s' := from' s' 6) (by rw [from_len s' 6 (by omega) (by omega)]; omega) (fun j a b => by rw [byteAt_from _ _ _ (by omega) a, byteAt_from _ _ _ (by omega) a]; exact h _ (by omega) (by omega)) (by omega)
  rw [if_neg (by omega), h 1 (by omega) (by omega), if_neg c2, e, if_neg c3, if_neg c4, e2, if_neg c5]

theorem unqGo_agr {s s' : Str} {n : Int} (hn' : n ≤ len s') (ha : ∀ j, 0 ≤ j → j < n → byteAt s' j = byteAt s j) : ∀ (f f' : Nat) (i : Int) (acc : List Int) (x : Str), 0 ≤ i → i ≤ len s → unqGo f s i acc = (x, n, 0) → (len s' - i).toNat ≤ f' → unqGo f' s' i acc = (x, n, 0)
  | 0, _, _, _, _, _, _, h, _ => by unfold unqGo at h; simp at h
  | f + 1, f', i, acc, x, h0, hi, h, hf => by
    have hb := unqGo_bd (f := f + 1) (s := s) (i := i) (acc := acc) h0 hi
    rw [h] at hb
    dsimp only at hb
    have hin : i < n := hb.2.2.1 rfl
    have hl : i < len s := by omega
    have hl' : i < len s' := by omega
    rw [unqGo_eq hf hl']
    unfold unqGo at h
    rw [if_pos hl] at h
    have hby : byteAt s' i = byteAt s i := ha i h0 hin
    rw [runeAt_from s i h0, runeLen_from s i h0] at h
    rw [runeAt_from s' i h0, runeLen_from s' i h0]
    have low : ∀ c : Int, c < 128 → (runeAt s' i = c ↔ runeAt s i = c) := fun c hc => by rw [runeAt_low h0 hl hc, runeAt_low h0 hl' hc, hby]
    by_cases c1 : runeAt s i = 34
    · rw [if_pos c1] at h; rw [if_pos ((low 34 (by omega)).2 c1)]; exact h
    rw [if_neg c1] at h
    rw [if_neg (fun e => c1 ((low 34 (by omega)).1 e))]
    by_cases c2 : runeAt s i = 92
    · rw [if_pos c2] at h; rw [if_pos ((low 92 (by omega)).2 c2)]
      by_cases c3 : (escP (from' s i)).2 = 0
      · rw [if_pos c3] at h; simp at h
      rw [if_neg c3] at h
      have hfl := from_len s i h0 hi
      have hfl' := from_len s' i h0 (by omega)
      have he := escP_le (from' s i)
      have hb2 := unqGo_bd (f := f) (s := s) (i := i + (escP (from' s i)).2) (acc := acc ++ Lib.encodeRuneZ (escP (from' s i)).1) (by omega) (by omega)
      rw [h] at hb2
      dsimp only at hb2
      have := hb2.2.2.1 rfl
      have e : escP (from' s' i) = escP (from' s i) := esc_agr c3 (by omega) (fun j a b => by rw [byteAt_from _ _ _ h0 a, byteAt_from _ _ _ h0 a]; exact ha _ (by omega) (by omega))
      rw [e, if_neg c3]
      exact unqGo_agr hn' ha f (f' - 1) _ _ x (by omega) (by omega) h (by omega)
    · rw [if_neg c2] at h
      rw [if_neg (fun e => c2 ((low 92 (by omega)).1 e))]
      by_cases c3 : runeAt s i < 32 ∨ (runeAt s i = 65533 ∧ runeLen s i = 1)
      · rw [if_pos c3] at h; simp at h
      rw [if_neg c3] at h
      have hr := runeLen_bd h0 hl
      have hv : rune s i ≠ 0 := fun e => c3 (.inr ((rune_none h0 hl).1 e))
      have hrb := rune_bd s i
      have hre : runeLen s i = rune s i := by rcases rune_dec h0 hl with d | d <;> omega
      have hb2 := unqGo_bd (f := f) (s := s) (i := i + runeLen s i) (acc := acc ++ Lib.encodeRuneZ (runeAt s i)) (by omega) (by omega)
      rw [h] at hb2
      dsimp only at hb2
      have := hb2.2.2.1 rfl
      obtain ⟨_, e2, e3⟩ := rune_agr (s := s) (s' := s') (i := i) (i' := i) h0 h0 (by omega) hl (by omega) (fun j a b => ha _ (by omega) (by omega))
      rw [e2, e3, if_neg c3]
      exact unqGo_agr hn' ha f (f' - 1) _ _ x (by omega) (by omega) h (by omega)
theorem unq_agr {u v v' : Str} {x : Str} (h : unqP (u ++ v) = (x, len u, 0)) : unqP (u ++ v') = (x, len u, 0) := by
  have hb := unqP_bd (u ++ v)
  rw [h] at hb
  dsimp only at hb
  have h2 : 2 ≤ len u := hb.2.2.1 rfl
  have ha : ∀ j, 0 ≤ j → j < len u → byteAt (u ++ v') j = byteAt (u ++ v) j := fun j a b => by rw [byteAt_l a b, byteAt_l a b]
  have hv := len_app u v
  have hv' := len_app u v'
  have p1 := len_nonneg v
  have p2 := len_nonneg v'
  have hne : ∀ w : Str, ¬ u ++ w = [] := fun w e => by have := congrArg len e; rw [len_app, len_nil] at this; have := len_nonneg w; omega
  unfold unqP at h ⊢
  by_cases c : Lib.hasPrefix (u ++ v) [34] = true
  · rw [if_pos c] at h
    rw [if_pos (pre_one.2 ⟨hne v', by rw [ha 0 (by omega) (by omega)]; exact (pre_one.1 c).2⟩)]
    exact unqGo_agr (n := len u) (by omega) ha _ _ 1 [] x (by omega) (by omega) h (by unfold len; omega)
  · rw [if_neg c] at h; simp at h

/-! ### Words, marks, numbers -/
/-- A blank, or a mark that ends a token: ( ) , : [ ] }. -/
def isSep (c : Int) : Bool := isBlank c || c == 40 || c == 41 || c == 44 || c == 58 || c == 91 || c == 93 || c == 125
/-- What may stand behind a token: nothing, a blank, a bracket, or what begins as it did. -/
def Stop (v v' : Str) : Prop := v' = [] ∨ (v' ≠ [] ∧ isSep (byteAt v' 0) = true) ∨ (v ≠ [] ∧ v' ≠ [] ∧ byteAt v' 0 = byteAt v 0)
theorem ne_len {α : Type} {l : List α} : l ≠ [] ↔ 0 < len l := ⟨fun h => len_pos h, fun h e => by rw [e, len_nil] at h; omega⟩
theorem wordTo_is {s : Str} {n : Int} (hn : n ≤ len s) (ha : ∀ j : Int, 0 ≤ j → j < n → isWordR (byteAt s j) (j == 0) = true) (hs : n < len s → isWordR (byteAt s n) (n == 0) = false) (i : Int) (h0 : 0 ≤ i) (hi : i ≤ n) : wordTo s i = n := by
  by_cases h : i < n
  · rw [← wordTo_step h0 (by omega) (ha i h0 h)]
    exact wordTo_is hn ha hs (i + 1) (by omega) (by omega)
  · have e : i = n := by omega
    subst e
    by_cases hl : i < len s
    · exact wordTo_stop h0 hl (hs hl)
    · exact wordTo_end hl
termination_by (n - i).toNat
theorem wordTo_of {s : Str} : ∀ (i : Int), 0 ≤ i → (∀ j : Int, i ≤ j → j < wordTo s i → isWordR (byteAt s j) (j == 0) = true) ∧ (i ≤ len s → wordTo s i < len s → isWordR (byteAt s (wordTo s i)) (wordTo s i == 0) = false) := by
  intro i h0
  by_cases hlt : i < len s
  · cases hw : isWordR (byteAt s i) (i == 0) with
    | true =>
      have := wordTo_of (s := s) (i + 1) (by omega)
      rw [wordTo_step h0 hlt hw] at this
      refine ⟨fun j a b => ?_, fun a b => this.2 (by omega) b⟩
      by_cases e : j = i
      · subst e; exact hw
      · exact this.1 j (by omega) b
    | false => rw [wordTo_stop h0 hlt hw]; exact ⟨fun j a b => by omega, fun _ _ => hw⟩
  · rw [wordTo_end hlt]; exact ⟨fun j a b => by omega, fun a b => by omega⟩
termination_by i => (len s - i).toNat
theorem blank_word {c : Int} {f : Bool} (h : isSep c = true) : isWordR c f = false := by
  unfold isSep isBlank at h
  unfold isWordR isLetter isFig
  simp only [Bool.or_eq_true, beq_iff_eq] at h
  rw [← Bool.not_eq_true]
  simp only [Bool.or_eq_true, Bool.and_eq_true, decide_eq_true_eq, beq_iff_eq]
  omega
theorem word_agr {u v v' : Str} (h : wordP (u ++ v) = u) (hv : Stop v v') : wordP (u ++ v') = u := by
  have hl : wordTo (u ++ v) 0 = len u := by rw [← wordP_len, h]
  have ho := wordTo_of (s := u ++ v) 0 (by omega)
  rw [hl] at ho
  have l1 := len_app u v
  have l2 := len_app u v'
  have p1 := len_nonneg u
  have p2 := len_nonneg v'
  have hb := wordTo_bd (s := u ++ v) (i := 0) (by omega) (len_nonneg _)
  have e : wordTo (u ++ v') 0 = len u := by
    refine wordTo_is (by omega) (fun j a b => ?_) (fun a => ?_) 0 (by omega) (by omega)
    · rw [byteAt_l a b, ← byteAt_l (v := v) a b]; exact ho.1 j a b
    · have e0 : ∀ w : Str, byteAt (u ++ w) (len u) = byteAt w 0 := fun w => by have := byteAt_r (u := u) (v := w) (k := 0) (by omega); rwa [Int.add_zero] at this
      rw [e0]
      rcases hv with hv | ⟨_, hv⟩ | ⟨hv1, _, hv3⟩
      · subst hv; rw [len_nil] at l2; omega
      · exact blank_word hv
      · rw [hv3, ← e0 v]; exact ho.2 (by omega) (by have := ne_len.1 hv1; omega)
  unfold wordP; rw [e, sub_app]
theorem word_nil {s : Str} (h : isLetter (byteAt s 0) = false) : wordP s = [] := by
  have e : wordTo s 0 = 0 := by
    by_cases hl : 0 < len s
    · exact wordTo_stop (by omega) hl (by unfold isWordR; rw [h]; rfl)
    · exact wordTo_end hl
  unfold wordP; rw [e]; rfl
theorem word_some {s : Str} (h0 : 0 < len s) (h : isLetter (byteAt s 0) = true) : wordP s ≠ [] := by
  have e := wordTo_step (s := s) (i := 0) (by omega) h0 (by unfold isWordR; rw [h]; rfl)
  have hb := wordTo_bd (s := s) (i := 0 + 1) (by omega) (by omega)
  rw [ne_len, wordP_len]; omega
/-- A number's bytes. -/
theorem takeWhile_agr {p : UInt8 → Bool} {v v' : Str} (hv : v' = [] ∨ (∃ b r, v' = b :: r ∧ p b = false)) : ∀ {u : Str}, (u ++ v).takeWhile p = u → (u ++ v').takeWhile p = u
  | [], _ => by
    rcases hv with rfl | ⟨b, r, rfl, hb⟩
    · rfl
    · simp [List.takeWhile_cons, hb]
  | a :: u, h => by
    rw [List.cons_append, List.takeWhile_cons] at h ⊢
    split at h
    · rename_i ha
      rw [if_pos ha, takeWhile_agr hv (List.cons.inj h).2]
    · cases h
theorem blank_num {b : UInt8} (h : isSep (b.toNat : Int) = true) : isNumB b = false := by
  cases hn : isNumB b with
  | false => rfl
  | true =>
    rw [numB_iff] at hn
    unfold isSep isBlank at h
    simp only [Bool.or_eq_true, beq_iff_eq] at h
    omega
theorem stop_not {p : UInt8 → Bool} (hp : ∀ b : UInt8, isSep (b.toNat : Int) = true → p b = false) {v v' : Str} (hv : Stop v v') (h : v = [] ∨ ∃ b r, v = b :: r ∧ p b = false) : v' = [] ∨ ∃ b r, v' = b :: r ∧ p b = false := by
  cases v' with
  | nil => exact .inl rfl
  | cons b r =>
    refine .inr ⟨b, r, rfl, ?_⟩
    rcases hv with hv | ⟨_, hv⟩ | ⟨hv1, _, hv3⟩
    · cases hv
    · exact hp b hv
    · rcases h with h | ⟨c, q, h, hc⟩
      · exact absurd h hv1
      · subst h
        have : b = c := UInt8.toNat_inj.1 (by rw [byteAt_cons0, byteAt_cons0] at hv3; omega)
        rw [this]; exact hc
theorem takeWhile_stop {p : UInt8 → Bool} {v : Str} : ∀ {u : Str}, (u ++ v).takeWhile p = u → v = [] ∨ ∃ b r, v = b :: r ∧ p b = false
  | [], h => by
    cases v with
    | nil => exact .inl rfl
    | cons b r =>
      refine .inr ⟨b, r, rfl, ?_⟩
      rw [List.nil_append, List.takeWhile_cons] at h
      split at h
      · cases h
      · rename_i hb; simpa using hb
  | a :: u, h => by
    rw [List.cons_append, List.takeWhile_cons] at h
    split at h
    · exact takeWhile_stop (List.cons.inj h).2
    · cases h
theorem run_agr {u v v' : Str} (h : runN (u ++ v) = u) (hv : Stop v v') : runN (u ++ v') = u := by
  rw [runN_take] at h ⊢
  exact takeWhile_agr (stop_not (fun b => blank_num) hv (takeWhile_stop h)) h
/-- The bytes that marks begin with. -/
def isMarkB (b : UInt8) : Bool := ([61, 33, 60, 62, 46, 124, 44, 58, 40, 41, 91, 93, 123, 125, 63] : Str).contains b
theorem mark_nil {a : UInt8} {s : Str} (h : isMarkB a = false) : markP (a :: s) = [] := by
  have h' : ∀ m ∈ marks8, Lib.hasPrefix (a :: s) m = false := by
    intro m hm
    cases hp : Lib.hasPrefix (a :: s) m with
    | false => rfl
    | true =>
      exfalso
      have hf : ∀ m ∈ marks8, m ≠ [] ∧ isMarkB (m.headD 0) = true := by decide +kernel
      obtain ⟨hn, hb⟩ := hf m hm
      cases m with
      | nil => exact hn rfl
      | cons b r =>
      have hb : isMarkB b = true := hb
      have := List.isPrefixOf_iff_prefix.1 hp
      rw [List.cons_prefix_cons] at this
      rw [← this.1, hb] at h; cases h
  unfold markP
  rw [List.find?_eq_none.2 (fun m hm => by rw [h' m hm]; simp)]
  rfl
theorem mark_agr {u v v' : Str} (hu : u ≠ []) (h : markP (u ++ v) = u) (hv : Stop v v') : markP (u ++ v') = u := by
  have hm : u ∈ marks8 := by rcases markP_mem (u ++ v) with e | e
                             · exact absurd (h.symm.trans e) hu
                             · rw [h] at e; exact e.1
  have two : ∀ m ∈ marks8, (∃ a, m = [a, 61]) ∨ ∃ a, m = [a] := by
    have tw : ∀ m ∈ marks8, m = [m.headD 0, 61] ∨ m = [m.headD 0] := by decide +kernel
    intro m hm
    rcases tw m hm with e | e
    · exact .inl ⟨_, e⟩
    · exact .inr ⟨_, e⟩
  have one : ∀ m ∈ marks8, ∀ w : Str, w = [] ∨ byteAt w 0 ≠ 61 ∨ (∃ a, m = [a, 61]) ∨ (m ≠ [60] ∧ m ≠ [62]) → markP (m ++ w) = m := by
    intro m hm w hw
    simp only [marks8, List.mem_cons, List.not_mem_nil, or_false] at hm
    cases w with
    | nil => rcases hm with rfl | rfl | rfl | rfl | rfl | rfl | rfl | rfl | rfl | rfl | rfl | rfl | rfl | rfl | rfl | rfl | rfl <;> rfl
    | cons b r =>
      have hb : b = 61 ∨ ¬ (61 : UInt8) = b := by by_cases e : b = 61; exact .inl e; exact .inr (fun x => e x.symm)
      have hb2 : byteAt (b :: r) 0 ≠ 61 → ¬ (61 : UInt8) = b := fun x e => x (by rw [← e]; rfl)
      rcases hm with rfl | rfl | rfl | rfl | rfl | rfl | rfl | rfl | rfl | rfl | rfl | rfl | rfl | rfl | rfl | rfl | rfl <;>
        first
          | rfl
          | (have hn : ¬ (61 : UInt8) = b := by
               rcases hw with hw | hw | ⟨a, hw⟩ | hw
               · cases hw
               · exact hb2 hw
               · simp at hw
               · simp at hw
             simp [markP, marks8, List.find?, Lib.hasPrefix, List.isPrefixOf, (beq_eq_false_iff_ne.2 hn)])
          | (rcases hb with rfl | hn
             · rfl
             · simp [markP, marks8, List.find?, Lib.hasPrefix, List.isPrefixOf, (beq_eq_false_iff_ne.2 hn)])
  refine one u hm v' ?_
  rcases two u hm with e | ⟨a, e⟩
  · exact .inr (.inr (.inl e))
  · rcases hv with hv | ⟨_, hv⟩ | ⟨hv1, _, hv3⟩
    · exact .inl hv
    · refine .inr (.inl fun x => ?_); rw [x] at hv; exact absurd hv (by decide)
    · by_cases e2 : u ≠ [60] ∧ u ≠ [62]
      · exact .inr (.inr (.inr e2))
      · refine .inr (.inl fun x => ?_)
        rw [hv3] at x
        cases v with
        | nil => exact hv1 rfl
        | cons b r =>
          have hb : b = 61 := UInt8.toNat_inj.1 (by rw [byteAt_cons0] at x; exact Int.ofNat_inj.1 x)
          subst hb
          have : u = [60] ∨ u = [62] := by
            by_cases e3 : u = [60]
            · exact .inl e3
            · exact .inr (Classical.byContradiction fun e4 => e2 ⟨e3, e4⟩)
          rcases this with rfl | rfl
          · exact absurd h (show ¬ ([60, 61] : Str) = [60] by decide)
          · exact absurd h (show ¬ ([62, 61] : Str) = [62] by decide)

/-! ### Tokens -/
theorem isLetter_mark {a : UInt8} (h : isLetter (a.toNat : Int) = true) : isMarkB a = false := by
  have : ∀ n : Fin 256, isLetter (n.val : Int) = true → isMarkB (UInt8.ofNat n.val) = false := by decide +kernel
  have := this ⟨a.toNat, a.toNat_lt⟩ h
  simpa using this
theorem fig_mark {a : UInt8} (h : (a.toNat : Int) = 45 ∨ isFig (a.toNat : Int) = true) : isMarkB a = false ∧ isLetter (a.toNat : Int) = false := by
  have : ∀ n : Fin 256, ((n.val : Int) = 45 ∨ isFig (n.val : Int) = true) → isMarkB (UInt8.ofNat n.val) = false ∧ isLetter (n.val : Int) = false := by decide +kernel
  have := this ⟨a.toNat, a.toNat_lt⟩ h
  simpa using this
theorem blank_letter {c : Int} (h : isSep c = true) : isLetter c = false ∧ c ≠ 34 := by
  unfold isSep isBlank at h
  simp only [Bool.or_eq_true, beq_iff_eq] at h
  unfold isLetter
  rw [← Bool.not_eq_true]
  simp only [Bool.or_eq_true, Bool.and_eq_true, decide_eq_true_eq, beq_iff_eq]
  omega
theorem from1 (a : UInt8) (l : Str) : from' (a :: l) 1 = l := rfl
/-- The token of a text that begins with bytes, by what these are. -/
theorem tok_stable {u v v' : Str} {t : Tk} (hu : u ≠ []) (h : tokP (u ++ v) = (t, len u, 0)) (hv : Stop v v') : tokP (u ++ v') = (t, len u, 0) := by
  cases u with
  | nil => exact absurd rfl hu
  | cons a u =>
  have hp := len_nonneg u
  rw [len_cons] at h ⊢
  rw [List.cons_append] at h ⊢
  have hpre : ∀ {l m : Str}, m ≠ [] → markP l = m → ∃ r, m ++ r = l := fun {l m} hm e => by
    rcases markP_mem l with e2 | e2
    · exact absurd (e.symm.trans e2) hm
    · rw [e] at e2; exact List.isPrefixOf_iff_prefix.1 e2.2
  have cut : ∀ {l x : Str} , x ++ [] ++ (from' l (len x)) = l → True := fun _ => trivial
  unfold tokP at h ⊢
  rw [byteAt_cons0, from1] at h ⊢
  by_cases c1 : (a.toNat : Int) = 46 ∧ wordP (u ++ v) ≠ []
  · rw [if_pos c1] at h
    simp only [Prod.mk.injEq] at h
    obtain ⟨h1, h2, _⟩ := h
    have hl : len (wordP (u ++ v)) = len u := by omega
    have hw : wordP (u ++ v) = u := by
      have : wordP (u ++ v) = Eng.sub (u ++ v) 0 (wordTo (u ++ v) 0) := rfl
      rw [this, ← wordP_len, hl, sub_app]
    have hw' := word_agr hw hv
    rw [hw] at c1 h1
    rw [hw', if_pos c1, h1, Int.add_comm]
  rw [if_neg c1] at h
  by_cases c2 : (a.toNat : Int) = 46 ∧ Lib.hasPrefix (u ++ v) [34] = true
  · rw [if_pos c2] at h
    simp only [Prod.mk.injEq] at h
    obtain ⟨h1, h2, h3⟩ := h
    have hq : unqP (u ++ v) = ((unqP (u ++ v)).1, len u, 0) := by
      rw [show (unqP (u ++ v)) = ((unqP (u ++ v)).1, (unqP (u ++ v)).2.1, (unqP (u ++ v)).2.2) from rfl, h3, show (unqP (u ++ v)).2.1 = len u from by omega]
    have hq' := unq_agr (v' := v') hq
    have hb := unqP_bd (u ++ v)
    rw [h3, show (unqP (u ++ v)).2.1 = len u from by omega] at hb
    have hu2 := hb.2.2.1 rfl
    have h34 := (pre_one.1 c2.2).2
    rw [byteAt_l (by omega) (by omega)] at h34
    have h34' : byteAt (u ++ v') 0 = 34 := by rw [byteAt_l (by omega) (by omega)]; exact h34
    have hw0 : wordP (u ++ v') = [] := word_nil (by rw [h34']; rfl)
    rw [if_neg (fun x => x.2 hw0), if_pos ⟨c2.1, pre_one.2 ⟨fun e => by have := congrArg len e; rw [len_app, len_nil] at this; have := len_nonneg v'; omega, h34'⟩⟩, hq', ← h1]
    simp only [Prod.mk.injEq, true_and, and_true]
    omega
  rw [if_neg c2] at h
  by_cases c3 : markP (a :: (u ++ v)) ≠ []
  · rw [if_pos c3] at h
    simp only [Prod.mk.injEq] at h
    obtain ⟨h1, h2, _⟩ := h
    obtain ⟨r, hr⟩ := hpre c3 rfl
    have hm : markP ((a :: u) ++ v) = a :: u := by
      rw [List.cons_append]
      have hl : (markP (a :: (u ++ v))).length = (a :: u).length := by rw [List.length_cons]; unfold len at h2; omega
      rw [← List.cons_append] at hr
      exact (List.append_inj hr hl).1
    have hm' := mark_agr (by simp) hm hv
    rw [List.cons_append] at hm hm'
    have n1 : ¬ ((a.toNat : Int) = 46 ∧ wordP (u ++ v') ≠ []) := by
      rintro ⟨ea, hw⟩
      have hu0 : u = [] := by
        have hmm : a :: u ∈ marks8 := by rcases markP_mem (a :: (u ++ v)) with e | e
                                         · exact absurd e c3
                                         · rw [hm] at e; exact e.1
        have : ∀ m ∈ marks8, byteAt m 0 = 46 → from' m 1 = [] := by decide +kernel
        exact this _ hmm ea
      subst hu0
      rw [List.nil_append] at hw c1
      have hwv : wordP v = [] := Classical.byContradiction fun e => c1 ⟨ea, e⟩
      apply hw
      rcases hv with hv | ⟨_, hv⟩ | ⟨hv1, _, hv3⟩
      · rw [hv]; exact word_nil rfl
      · exact word_nil (blank_letter hv).1
      · refine word_nil ?_
        rw [hv3]
        cases hh : isLetter (byteAt v 0) with
        | false => rfl
        | true => exact absurd hwv (word_some (ne_len.1 hv1) hh)
    have n2 : ¬ ((a.toNat : Int) = 46 ∧ Lib.hasPrefix (u ++ v') [34] = true) := by
      rintro ⟨ea, hw⟩
      have hu0 : u = [] := by
        have hmm : a :: u ∈ marks8 := by rcases markP_mem (a :: (u ++ v)) with e | e
                                         · exact absurd e c3
                                         · rw [hm] at e; exact e.1
        have : ∀ m ∈ marks8, byteAt m 0 = 46 → from' m 1 = [] := by decide +kernel
        exact this _ hmm ea
      subst hu0
      rw [List.nil_append] at hw c2
      have h34 := pre_one.1 hw
      rcases hv with hv | ⟨_, hv⟩ | ⟨hv1, _, hv3⟩
      · exact h34.1 hv
      · exact (blank_letter hv).2 h34.2
      · exact c2 ⟨ea, pre_one.2 ⟨hv1, by rw [← hv3]; exact h34.2⟩⟩
    rw [if_neg n1, if_neg n2, hm', if_pos (by simp), ← h1, hm, len_cons]
  rw [if_neg c3] at h
  have c3' : markP (a :: (u ++ v)) = [] := Classical.byContradiction c3
  by_cases c4 : wordP (a :: (u ++ v)) ≠ []
  · rw [if_pos c4] at h
    simp only [Prod.mk.injEq] at h
    obtain ⟨h1, h2, _⟩ := h
    have hw : wordP ((a :: u) ++ v) = a :: u := by
      have : wordP ((a :: u) ++ v) = Eng.sub ((a :: u) ++ v) 0 (wordTo ((a :: u) ++ v) 0) := rfl
      rw [this, ← wordP_len, List.cons_append, h2, ← len_cons a, ← List.cons_append, sub_app]
    have hw' := word_agr hw hv
    rw [List.cons_append] at hw hw'
    have hlet : isLetter (a.toNat : Int) = true := by
      cases hh : isLetter (a.toNat : Int) with
      | true => rfl
      | false => exact absurd (word_nil (s := a :: (u ++ v)) hh) c4
    have ha46 : ¬ (a.toNat : Int) = 46 := fun e => by rw [e] at hlet; cases hlet
    rw [if_neg (fun x => ha46 x.1), if_neg (fun x => ha46 x.1), mark_nil (isLetter_mark hlet), if_neg (fun x => x rfl), hw', if_pos (by simp), ← h1, hw, len_cons]
  rw [if_neg c4] at h
  have c4' : wordP (a :: (u ++ v)) = [] := Classical.byContradiction c4
  by_cases c5 : (a.toNat : Int) = 34
  · rw [if_pos c5] at h
    simp only [Prod.mk.injEq] at h
    obtain ⟨h1, h2, h3⟩ := h
    have ha : a = 34 := UInt8.toNat_inj.1 (by show a.toNat = 34; omega)
    subst ha
    have hq : unqP ((34 :: u) ++ v) = ((unqP (34 :: (u ++ v))).1, len ((34 : UInt8) :: u), 0) := by
      rw [List.cons_append, show (unqP (34 :: (u ++ v))) = ((unqP (34 :: (u ++ v))).1, (unqP (34 :: (u ++ v))).2.1, (unqP (34 :: (u ++ v))).2.2) from rfl, h3, h2, len_cons]
    have hq' := unq_agr (v' := v') hq
    rw [List.cons_append] at hq'
    have hw0 : wordP (34 :: (u ++ v')) = [] := word_nil rfl
    have hm0 : markP (34 :: (u ++ v')) = [] := mark_nil rfl
    rw [if_neg (fun x => absurd x.1 (by decide)), if_neg (fun x => absurd x.1 (by decide)), hm0, if_neg (fun x => x rfl), hw0, if_neg (fun x => x rfl), if_pos c5, hq', ← h1, len_cons]
  rw [if_neg c5] at h
  by_cases c6 : (a.toNat : Int) = 45 ∨ isFig (a.toNat : Int) = true
  · rw [if_pos c6] at h
    by_cases c7 : (read1 (runN (a :: (u ++ v)))).2.2 ≠ 0
    · rw [if_pos c7] at h
      simp only [Prod.mk.injEq] at h
      exact absurd h.2.2 c7
    · rw [if_neg c7] at h
      simp only [Prod.mk.injEq] at h
      obtain ⟨h1, h2, _⟩ := h
      have hr : runN ((a :: u) ++ v) = a :: u := by
        have hpre := List.takeWhile_prefix isNumB (l := (a :: u) ++ v)
        rw [← runN_take] at hpre
        obtain ⟨r, hr⟩ := hpre
        have hl : (runN ((a :: u) ++ v)).length = (a :: u).length := by rw [List.length_cons, List.cons_append]; unfold len at h2; omega
        exact (List.append_inj hr hl).1
      have hr' := run_agr hr hv
      rw [List.cons_append] at hr hr'
      obtain ⟨g1, g2⟩ := fig_mark c6
      have ha46 : ¬ (a.toNat : Int) = 46 := fun e => by rw [e] at c6; revert c6; decide
      rw [hr] at c7 h1
      rw [if_neg (fun x => ha46 x.1), if_neg (fun x => ha46 x.1), mark_nil g1, if_neg (fun x => x rfl), word_nil (s := a :: (u ++ v')) g2, if_neg (fun x => x rfl), if_neg c5, if_pos c6, hr', if_neg c7, ← h1, len_cons]
  · rw [if_neg c6] at h
    simp only [Prod.mk.injEq] at h
    exact absurd h.2.2 (by decide)
end Go.Eng
namespace Go.Eng
open Go.RowKit

/-- The tokens from a place on, but for the end's. -/
inductive Lx (s : Str) : Int → List Tk → Prop
  | done {i : Int} : 0 ≤ i → ¬ i < len s → Lx s i []
  | step {i n : Int} {t : Tk} {l : List Tk} : 0 ≤ i → i < len s → tokP (from' s i) = (t, n, 0) → Lx s (blankTo s (i + n)) l → Lx s i ({ t with pos := i } :: l)
/-- From a place on there are none: where, and why. -/
inductive LxE (s : Str) : Int → Int → Int → Prop
  | here {i n e : Int} {t : Tk} : 0 ≤ i → i < len s → tokP (from' s i) = (t, n, e) → e ≠ 0 → LxE s i (i + n) e
  | there {i n p e : Int} {t : Tk} : 0 ≤ i → i < len s → tokP (from' s i) = (t, n, 0) → LxE s (blankTo s (i + n)) p e → LxE s i p e
theorem tok_bd' {s : Str} {i n e : Int} {t : Tk} (h0 : 0 ≤ i) (h1 : i < len s) (h : tokP (from' s i) = (t, n, e)) : 0 ≤ n ∧ i + n ≤ len s ∧ (e = 0 → 1 ≤ n) ∧ (e = 0 ∨ e = 1 ∨ e = 2 ∨ e = 4) := by
  have hl := from_len s i h0 (by omega)
  have := tokP_bd (s := from' s i) (by omega)
  rw [h] at this
  dsimp only at this
  omega
theorem lex_cases {s : Str} : ∀ (f : Nat) (i : Int) (acc : List Tk), 0 ≤ i → (len s - i).toNat ≤ f →
    (∃ l, Lx s i l ∧ lexGo f s i acc = (acc ++ l ++ [endTk s], 0, 0)) ∨ (∃ p e, LxE s i p e ∧ lexGo f s i acc = ([], p, e))
  | 0, i, acc, h0, hf => .inl ⟨[], .done h0 (by omega), by unfold lexGo; simp⟩
  | f + 1, i, acc, h0, hf => by
    by_cases h1 : i < len s
    · obtain ⟨t, n, e, ht⟩ : ∃ t n e, tokP (from' s i) = (t, n, e) := ⟨_, _, _, rfl⟩
      have hb := tok_bd' h0 h1 ht
      rw [lexGo_eq hf h1, ht]
      dsimp only
      by_cases he : e = 0
      · subst he
        have hbl := blankTo_bd s (i + n) (by omega) (by omega)
        rw [if_neg (by simp)]
        rcases lex_cases (s := s) f (blankTo s (i + n)) (acc ++ [{ t with pos := i }]) (by omega) (by omega) with ⟨l, h2, h3⟩ | ⟨p, e, h2, h3⟩
        · exact .inl ⟨_, .step h0 h1 ht h2, by rw [Nat.add_sub_cancel, h3]; simp⟩
        · exact .inr ⟨p, e, .there h0 h1 ht h2, by rw [Nat.add_sub_cancel, h3]⟩
      · rw [if_pos he]
        exact .inr ⟨_, _, .here h0 h1 ht he, rfl⟩
    · exact .inl ⟨[], .done h0 h1, by rw [lexGo_end h1]; simp⟩
theorem LxE.bd {s : Str} {i p e : Int} (h : LxE s i p e) : i ≤ p ∧ p ≤ len s ∧ (e = 1 ∨ e = 2 ∨ e = 4) := by
  induction h with
  | here h0 h1 h he => have := tok_bd' h0 h1 h; omega
  | @there i n p e t h0 h1 h _ ih =>
    have hb := tok_bd' h0 h1 h
    have := blankTo_bd s (i + n) (by omega) hb.2.1
    omega
theorem Lx.go {s : Str} {i : Int} {l : List Tk} (h : Lx s i l) : ∀ (f : Nat) (acc : List Tk), (len s - i).toNat ≤ f → lexGo f s i acc = (acc ++ l ++ [endTk s], 0, 0) := by
  induction h with
  | done _ h1 => intro f acc _; rw [lexGo_end h1]; simp
  | @step i n t l h0 h1 h _ ih =>
    intro f acc hf
    have hb := tok_bd' h0 h1 h
    have hbl := blankTo_bd s (i + n) (by omega) hb.2.1
    rw [lexGo_eq hf h1, h]
    dsimp only
    rw [if_neg (by simp), ih _ _ (by omega)]
    simp
theorem LxE.go {s : Str} {i p e : Int} (h : LxE s i p e) : ∀ (f : Nat) (acc : List Tk), (len s - i).toNat ≤ f → lexGo f s i acc = ([], p, e) := by
  induction h with
  | here h0 h1 h he => intro f acc hf; rw [lexGo_eq hf h1, h]; dsimp only; rw [if_pos he]
  | @there i n p e t h0 h1 h _ ih =>
    intro f acc hf
    have hb := tok_bd' h0 h1 h
    have hbl := blankTo_bd s (i + n) (by omega) hb.2.1
    rw [lexGo_eq hf h1, h]
    dsimp only
    rw [if_neg (by simp), ih _ _ (by omega)]
theorem start_fuel (s : Str) : (len s - blankTo s 0).toNat ≤ s.length := by
  have := blankTo_bd s 0 (Int.le_refl 0) (len_nonneg s)
  unfold len at *; omega
theorem lexP_cases (s : Str) : (∃ l, Lx s (blankTo s 0) l ∧ lexP s = (l ++ [endTk s], 0, 0)) ∨ (∃ p e, LxE s (blankTo s 0) p e ∧ lexP s = ([], p, e)) := by
  have := lex_cases (s := s) s.length (blankTo s 0) [] (blankTo_bd s 0 (Int.le_refl 0) (len_nonneg s)).1 (start_fuel s)
  simp only [List.nil_append] at this
  exact this
theorem Lx.lex {s : Str} {l : List Tk} (h : Lx s (blankTo s 0) l) : lexP s = (l ++ [endTk s], 0, 0) := by
  have := h.go s.length [] (start_fuel s)
  rwa [List.nil_append] at this
theorem LxE.lex {s : Str} {p e : Int} (h : LxE s (blankTo s 0) p e) : lexP s = ([], p, e) := h.go s.length [] (start_fuel s)
theorem lexP_ok {s : Str} (h : (lexP s).2.2 = 0) : ∃ l, Lx s (blankTo s 0) l ∧ lexP s = (l ++ [endTk s], 0, 0) := by
  rcases lexP_cases s with h1 | ⟨p, e, h1, h2⟩
  · exact h1
  · rw [h2] at h; have := h1.bd; dsimp only at h; omega
theorem Lx.size {s : Str} {i : Int} {l : List Tk} (h : Lx s i l) : i ≤ len s → len l ≤ len s - i := by
  induction h with
  | done _ _ => intro x; rw [len_nil]; omega
  | @step i n t l h0 h1 h _ ih =>
    intro x
    have hb := tok_bd' h0 h1 h
    have hbl := blankTo_bd s (i + n) (by omega) hb.2.1
    have := ih hbl.2
    rw [len_cons]; omega
/-! ### Blanks -/
theorem blankTo_from {s : Str} {i : Int} (h0 : 0 ≤ i) : blankTo s i = i + blankTo (from' s i) 0 := by
  unfold blankTo; rw [from_zero]; omega
theorem blankTo_nil : blankTo [] 0 = 0 := rfl
theorem blankTo_cons {b : UInt8} {r : Str} (h : isBlank (b.toNat : Int) = true) : blankTo (b :: r) 0 = 1 + blankTo r 0 := by
  unfold blankTo
  rw [from_zero, from_zero, List.takeWhile_cons, show isBlankB b = true from h]
  simp [len]; omega
theorem blankTo_not {b : UInt8} {r : Str} (h : isBlank (b.toNat : Int) = false) : blankTo (b :: r) 0 = 0 := by
  unfold blankTo
  rw [from_zero, List.takeWhile_cons, show isBlankB b = false from h]
  simp [len]
/-- Behind a token's bytes. -/
theorem tok_split {s : Str} {i n : Int} {t : Tk} (h0 : 0 ≤ i) (h1 : i < len s) (h : tokP (from' s i) = (t, n, 0)) :
    ∃ u v, from' s i = u ++ v ∧ len u = n ∧ u ≠ [] ∧ v = from' s (i + n) ∧ u = Eng.sub s i (i + n) ∧ tokP (u ++ v) = (t, len u, 0) := by
  have hb := tok_bd' h0 h1 h
  have hl := from_len s i h0 (by omega)
  have h2 := sub_from_split (s := from' s i) (n := n) (by omega) (by omega)
  rw [from_from s i n h0 (by omega), sub_from s i n h0 (by omega)] at h2
  exact ⟨_, _, h2.1, h2.2, fun e => by rw [e, len_nil] at h2; omega, rfl, rfl, by rw [← h2.1, h2.2]; exact h⟩
end Go.Eng
namespace Go.Eng
open Go.RowKit

def AllF (l : Str) : Prop := ∀ b ∈ l, isFigB b = true
theorem figs_iff {s : Str} : figs s = true ↔ AllF s := by
  rw [figs_all]
  constructor
  · intro h b hb
    obtain ⟨j, hj, e⟩ := List.getElem_of_mem hb
    have := h j hj
    rw [e] at this; exact this
  · intro h j hj; exact h _ (List.getElem_mem hj)
theorem AllF.app {a b : Str} (h : AllF a) (k : AllF b) : AllF (a ++ b) := fun x hx => by
  rcases List.mem_append.1 hx with hx | hx
  · exact h x hx
  · exact k x hx
theorem right_open {n : Nd} (h : right1 n = true) : n = ⟨3, 0, [], n.s, n.neg, n.e⟩ ∧ AllF n.s ∧ len n.s ≤ 100 ∧ -1000 ≤ n.e ∧ n.e ≤ 1000 ∧ len n.s + n.e ≤ 1000 ∧ ((n.s = [] ∧ n.neg = false ∧ n.e = 0) ∨ (n.s ≠ [] ∧ byteAt n.s 0 ≠ 48 ∧ byteAt n.s (len n.s - 1) ≠ 48)) := by
  obtain ⟨kind, many, name, s, neg, e⟩ := n
  unfold right1 at h
  dsimp only at h ⊢
  split at h
  · cases h
  rename_i hc
  simp only [Bool.or_eq_true, decide_eq_true_eq, bne_iff_ne, Bool.not_eq_true', beq_eq_false_iff_ne, not_or, ne_eq, Classical.not_not] at hc
  obtain ⟨⟨⟨⟨⟨⟨⟨c1, c2⟩, c3⟩, c4⟩, c5⟩, c6⟩, c7⟩, c8⟩ := hc
  subst c1; subst c2; subst c3
  refine ⟨rfl, figs_iff.1 (by simpa using c4), by omega, by omega, by omega, by omega, ?_⟩
  split at h
  · rename_i hs
    simp only [Bool.and_eq_true, Bool.not_eq_true', beq_iff_eq] at h hs
    exact .inl ⟨hs, h.1, h.2⟩
  · rename_i hs
    simp only [Bool.and_eq_true, bne_iff_ne, beq_iff_eq] at h hs
    exact .inr ⟨hs, h.1, h.2⟩
/-! ### What a text is read as -/
theorem mk_right {neg : Bool} {s : Str} {e : Int} (h : (mk1 neg s e).2 = 0) : right1 (mk1 neg s e).1 = true := by
  unfold mk1 at h ⊢
  by_cases c1 : figs s = true
  · rw [if_pos c1] at h ⊢
    by_cases c2 : (dropZ s == []) = true
    · rw [if_pos c2]; decide +kernel
    rw [if_neg c2] at h ⊢
    split at h
    · cases h
    rename_i c3
    rw [if_neg c3]
    split at h
    · cases h
    rename_i c4
    rw [if_neg c4]
    simp only [Bool.or_eq_true, decide_eq_true_eq] at c4
    have c2' : ¬ dropZ s = [] := by simpa using c2
    have hp := trimZ_pos s c2'
    have htn : trimZ (dropZ s) ≠ [] := ne_len.2 hp
    have hpre : ∃ r, trimZ (dropZ s) ++ r = dropZ s := by
      unfold trimZ Lib.trimRightS
      have := List.dropWhile_suffix (([48] : Str).contains ·) (l := (dropZ s).reverse)
      obtain ⟨r, hr⟩ := this
      refine ⟨r.reverse, ?_⟩
      rw [← List.reverse_append, hr, List.reverse_reverse]
    obtain ⟨r, hr⟩ := hpre
    have hF : AllF (trimZ (dropZ s)) := fun b hb => (figs_drop (figs_iff.1 c1)) b (by rw [← hr]; simp [hb])
    have hfirst : byteAt (trimZ (dropZ s)) 0 ≠ 48 := by
      rw [← byteAt_l (v := r) (Int.le_refl 0) hp, hr]
      cases hd : dropZ s with
      | nil => exact absurd hd c2'
      | cons b l =>
        have := dropZ_first hd
        intro e; rw [byteAt_cons0] at e; rw [u8_eq48.2 e] at this; cases this
    have hlast : byteAt (trimZ (dropZ s)) (len (trimZ (dropZ s)) - 1) ≠ 48 := by
      obtain ⟨b, e1, e2⟩ := last_split hp
      rw [← e2]
      intro e3
      have hb : ([48] : Str).contains b = true := u8_eq48.2 e3
      have : trimZ (dropZ s) = ((dropZ s).reverse.dropWhile (([48] : Str).contains ·)).reverse := rfl
      rw [this] at e1
      have h2 := congrArg List.reverse e1
      rw [List.reverse_reverse, List.reverse_append, List.reverse_cons, List.reverse_nil, List.nil_append, List.singleton_append] at h2
      have := dropZ_first (s := (dropZ s).reverse) (b := b) (l := (Eng.sub (trimZ (dropZ s)) 0 (len (trimZ (dropZ s)) - 1)).reverse) h2
      rw [hb] at this; cases this
    unfold right1
    dsimp only
    rw [if_neg (by
      simp only [Bool.or_eq_true, decide_eq_true_eq, bne_iff_ne, Bool.not_eq_true', beq_eq_false_iff_ne, figs_iff.2 hF]
      simp only [not_or]
      refine ⟨⟨⟨⟨⟨⟨⟨by simp, by simp⟩, by simp⟩, by simp⟩, by omega⟩, by omega⟩, by omega⟩, by omega⟩), if_neg (by simpa using htn)]
    simp [hfirst, hlast]
  · rw [if_neg c1] at h; exact absurd h (by decide)
theorem mk_err {neg : Bool} {s : Str} {e : Int} (h : AllF s) : (mk1 neg s e).2 = 0 ∨ (mk1 neg s e).2 = 2 := by
  unfold mk1
  rw [if_pos (figs_iff.2 h)]
  split
  · exact .inl rfl
  · split
    · exact .inr rfl
    · split
      · exact .inr rfl
      · exact .inl rfl
def ReadOk (r : Nd × Int × Int) : Prop := (r.2.2 = 0 → right1 r.1 = true) ∧ (r.2.2 = 0 ∨ r.2.2 = 1 ∨ r.2.2 = 2)
theorem fin_ok {neg : Bool} {fg : Str} {x : Int} {pw : Str} {side : Int} (h : AllF fg) : ReadOk (fin1 neg fg x pw side) := by
  unfold fin1
  split
  · exact ⟨fun e => absurd e (by decide), .inr (.inr rfl)⟩
  · refine ⟨fun e => mk_right e, ?_⟩
    rcases mk_err (neg := neg) (e := x + side * decVal (dropZ pw)) h with e | e
    · exact .inl e
    · exact .inr (.inr e)
theorem bad_ok (n : Nd) (p : Int) : ReadOk (n, p, 1) := ⟨fun e => absurd e (show ¬ (1 : Int) = 0 by decide), .inr (.inl rfl)⟩
theorem rest_ok {s fg : Str} {neg : Bool} {x b : Int} (h : AllF fg) : ReadOk (rest1 s neg fg x b) := by
  unfold rest1
  split
  · unfold exp1
    dsimp only
    repeat' split
    all_goals first | exact bad_ok _ _ | exact fin_ok h
  · split
    · exact bad_ok _ _
    · exact fin_ok h
theorem read_ok (s : Str) : ReadOk (read1 s) := by
  have h0 := isTo_bd s [45] 0 (len_nonneg s)
  have hr := runTo_bd s (isTo s [45] 0) (by omega) h0.2
  have h1 := isTo_bd s [46] (runTo s (isTo s [45] 0)) hr.2
  unfold read1
  dsimp only
  have hF : AllF (Eng.sub s (isTo s [45] 0) (runTo s (isTo s [45] 0))) := figs_run h0.1
  split
  · exact bad_ok _ _
  · split
    · exact bad_ok _ _
    · split
      · split
        · exact bad_ok _ _
        · exact rest_ok (hF.app (figs_run (by omega)))
      · exact rest_ok hF
end Go.Eng
namespace Go.Eng
open Go.RowKit

theorem u8_nat {x : Int} (h0 : 0 ≤ x) (h1 : x < 256) : ((UInt8.ofNat x.toNat).toNat : Int) = x := by
  rw [show (UInt8.ofNat x.toNat).toNat = x.toNat % 256 from rfl, Nat.mod_eq_of_lt (by omega)]; omega
/-! ### What a string is read as is valid -/
theorem utf_shift {a b : Str} : ∀ (j : Int), 0 ≤ j → utfFrom b j = true → utfFrom (a ++ b) (len a + j) = true
  | j, h0, h => by
    have hl := len_app a b
    have ha := len_nonneg a
    by_cases hj : j < len b
    · by_cases hr : rune b j = 0
      · rw [utfFrom_bad b j h0 hj hr] at h; cases h
      have hb := rune_bd b j
      have hle := rune_le b j hj
      rw [← utfFrom_step b j h0 hj (by omega)] at h
      have agr := rune_agr (s := b) (s' := a ++ b) (i := j) (i' := len a + j) h0 (by omega) (by omega) hj (by omega) (fun k x y => by
        rw [show len a + j + k = len a + (j + k) from by omega, byteAt_r (by omega)])
      rw [← utfFrom_step (a ++ b) (len a + j) (by omega) (by omega) (by rw [agr.1]; omega), agr.1, Int.add_assoc]
      exact utf_shift (j + rune b j) (by omega) h
    · exact utfFrom_end _ _ (by omega)
termination_by j => (len b - j).toNat
theorem utf_app {a b : Str} (hb : utf b = true) : ∀ (i : Int), 0 ≤ i → i ≤ len a → utfFrom a i = true → utfFrom (a ++ b) i = true
  | i, h0, h1, h => by
    have hl := len_app a b
    have hbn := len_nonneg b
    by_cases hi : i < len a
    · by_cases hr : rune a i = 0
      · rw [utfFrom_bad a i h0 hi hr] at h; cases h
      have hbd := rune_bd a i
      have hle := rune_le a i hi
      rw [← utfFrom_step a i h0 hi (by omega)] at h
      have agr := rune_agr (s := a) (s' := a ++ b) (i := i) (i' := i) h0 h0 (by omega) hi (by omega) (fun k x y => byteAt_l (by omega) (by omega))
      rw [← utfFrom_step (a ++ b) i h0 (by omega) (by rw [agr.1]; omega), agr.1]
      exact utf_app hb (i + rune a i) (by omega) hle h
    · have e : i = len a := by omega
      subst e
      have := utf_shift (a := a) (b := b) 0 (Int.le_refl 0) hb
      rwa [Int.add_zero] at this
termination_by i => (len a - i).toNat
theorem utf_one {s : Str} (hn : 0 < len s) (h : rune s 0 = len s) : utf s = true := by
  unfold utf
  rw [← utfFrom_step s 0 (Int.le_refl 0) hn (by omega)]
  exact utfFrom_end s (0 + rune s 0) (by omega)
theorem utf_enc (r : Int) : utf (toStr (Lib.encodeRuneZ r)) = true := by
  have b0 : ∀ (x : UInt8) (l : Str), byteAt (x :: l) 0 = (x.toNat : Int) := fun _ _ => rfl
  have b1 : ∀ (x y : UInt8) (l : Str), byteAt (x :: y :: l) (0 + 1) = (y.toNat : Int) := fun _ _ _ => rfl
  have b2 : ∀ (x y z : UInt8) (l : Str), byteAt (x :: y :: z :: l) (0 + 2) = (z.toNat : Int) := fun _ _ _ _ => rfl
  have b3 : ∀ (x y z u : UInt8) (l : Str), byteAt (x :: y :: z :: u :: l) (0 + 3) = (u.toNat : Int) := fun _ _ _ _ _ => rfl
  have l1 : ∀ (x : UInt8), len [x] = 1 := fun _ => rfl
  have l2 : ∀ (x y : UInt8), len [x, y] = 2 := fun _ _ => rfl
  have l3 : ∀ (x y z : UInt8), len [x, y, z] = 3 := fun _ _ _ => rfl
  have l4 : ∀ (x y z u : UInt8), len [x, y, z, u] = 4 := fun _ _ _ _ => rfl
  unfold Lib.encodeRuneZ
  split
  · refine utf_one (show (0 : Int) < 1 by decide) ?_
    show rune [UInt8.ofNat r.toNat] 0 = 1
    unfold rune
    rw [b0, u8_nat (by omega) (by omega)]
    dsimp only
    rw [if_pos (by omega)]
  split
  · refine utf_one (show (0 : Int) < 2 by decide) ?_
    show rune [UInt8.ofNat (192 + r / 64).toNat, UInt8.ofNat (128 + r % 64).toNat] 0 = 2
    unfold rune cont
    rw [b0, b1, l2, u8_nat (by omega) (by omega), u8_nat (by omega) (by omega)]
    dsimp only
    simp only [Bool.and_eq_true, decide_eq_true_eq]
    rw [if_neg (by omega), if_pos (by omega)]
  split
  · refine utf_one (show (0 : Int) < 3 by decide) ?_
    show rune [UInt8.ofNat (224 + r / 4096).toNat, UInt8.ofNat (128 + r / 64 % 64).toNat, UInt8.ofNat (128 + r % 64).toNat] 0 = 3
    unfold rune cont
    rw [b0, b1, b2, l3, u8_nat (by omega) (by omega), u8_nat (by omega) (by omega), u8_nat (by omega) (by omega)]
    dsimp only
    simp only [Bool.and_eq_true, Bool.or_eq_true, decide_eq_true_eq, beq_iff_eq]
    rw [if_neg (by omega), if_neg (by omega), if_pos (by omega), if_neg (by omega)]
  split
  · refine utf_one (show (0 : Int) < 4 by decide) ?_
    show rune [UInt8.ofNat (240 + r / 262144).toNat, UInt8.ofNat (128 + r / 4096 % 64).toNat, UInt8.ofNat (128 + r / 64 % 64).toNat, UInt8.ofNat (128 + r % 64).toNat] 0 = 4
    unfold rune cont
    rw [b0, b1, b2, b3, l4, u8_nat (by omega) (by omega), u8_nat (by omega) (by omega), u8_nat (by omega) (by omega), u8_nat (by omega) (by omega)]
    dsimp only
    simp only [Bool.and_eq_true, Bool.or_eq_true, decide_eq_true_eq, beq_iff_eq]
    rw [if_neg (by omega), if_neg (by omega), if_neg (by omega), if_pos (by omega), if_neg (by omega)]
  · decide +kernel
theorem utf_add {acc : List Int} (h : utf (toStr acc) = true) (r : Int) : utf (toStr (acc ++ Lib.encodeRuneZ r)) = true := by
  rw [toStr_app]
  exact utf_app (utf_enc r) 0 (Int.le_refl 0) (len_nonneg _) h
theorem utf_nil : utf [] = true := by decide +kernel
theorem unqGo_utf {s : Str} : ∀ (f : Nat) (i : Int) (acc : List Int), utf (toStr acc) = true → utf (unqGo f s i acc).1 = true
  | 0, _, _, _ => by unfold unqGo; exact utf_nil
  | f + 1, i, acc, h => by
    unfold unqGo
    split
    · split
      · exact h
      · split
        · split
          · exact utf_nil
          · exact unqGo_utf f _ _ (utf_add h _)
        · split
          · exact utf_nil
          · exact unqGo_utf f _ _ (utf_add h _)
    · exact utf_nil
theorem unq_utf (s : Str) : utf (unqP s).1 = true := by
  unfold unqP
  split
  · exact unqGo_utf _ _ _ utf_nil
  · exact utf_nil
theorem utf_low {s : Str} (h : ∀ j : Int, 0 ≤ j → j < len s → byteAt s j < 128) : ∀ i : Int, 0 ≤ i → utfFrom s i = true
  | i, h0 => by
    by_cases hi : i < len s
    · have hr : rune s i = 1 := by unfold rune; dsimp only; rw [if_pos (h i h0 hi)]
      rw [← utfFrom_step s i h0 hi (by omega), hr]
      exact utf_low h (i + 1) (by omega)
    · exact utfFrom_end _ _ hi
termination_by i => (len s - i).toNat

/-! ### What a text is read as can be written -/
theorem word_all (s : Str) : ∀ j : Int, 0 ≤ j → j < len (wordP s) → isWordR (byteAt (wordP s) j) (j == 0) = true := fun j a b => by
  have hb := wordTo_bd (s := s) (i := 0) (Int.le_refl 0) (len_nonneg s)
  rw [wordP_len] at b
  have := (wordTo_of (s := s) 0 (Int.le_refl 0)).1 j a b
  unfold wordP
  rw [byteAt_sub (Int.le_refl 0) a (by omega) hb.2, Int.zero_add]; exact this
theorem word_right {s : Str} (h : wordP s ≠ []) : word6 (wordP s) = true := word6_iff.2 ⟨h, word_all s⟩
theorem isWordR_lt {c : Int} {f : Bool} (h : isWordR c f = true) : c < 128 := by
  rcases Int.lt_or_le c 128 with x | x
  · exact x
  · rw [isWordR_high x] at h; cases h
theorem word_utf (s : Str) : utf (wordP s) = true := utf_low (fun j a b => isWordR_lt (word_all s j a b)) 0 (Int.le_refl 0)
theorem tok_right {s : Str} {t : Tk} {n : Int} (h : tokP s = (t, n, 0)) : right8 t = true := by
  have hno : (noNd = noNd) := rfl
  unfold tokP at h
  split at h
  · cases h; unfold right8; simp [word_utf]
  split at h
  · simp only [Prod.mk.injEq] at h
    rw [← h.1]; unfold right8; simp [unq_utf]
  split at h
  · rename_i hm
    cases h
    rcases markP_mem s with e | e
    · exact absurd e hm
    · unfold right8 isMark8; simp [e.1]
  split at h
  · rename_i hw
    cases h; unfold right8; simp [word_right hw]
  split at h
  · simp only [Prod.mk.injEq] at h
    rw [← h.1]; unfold right8; simp [unq_utf]
  split at h
  · split at h
    · rename_i hr
      simp only [Prod.mk.injEq] at h
      exact absurd h.2.2 hr
    · rename_i hr
      cases h
      have := (read_ok (runN s)).1 (by simpa using hr)
      unfold right8; simp [this]
  · simp at h
theorem tok_err {s : Str} {t : Tk} {n e : Int} (h : tokP s = (t, n, e)) : e = 0 ∨ e = 1 ∨ e = 2 := by
  have u1 := unqP_bd (from' s 1)
  have u2 := unqP_bd s
  have r := (read_ok (runN s)).2
  unfold tokP at h
  repeat' split at h
  all_goals (simp only [Prod.mk.injEq] at h; omega)

/-! ### A token's text is read as it -/
def Blk (r : Str) : Prop := r = [] ∨ ∃ q, r = 32 :: q
theorem Blk.stop {r : Str} (h : Blk r) (v : Str) : Stop v r := by
  rcases h with rfl | ⟨q, rfl⟩
  · exact .inl rfl
  · exact .inr (.inl ⟨by simp, rfl⟩)
theorem Lx.right8 {s : Str} {i : Int} {l : List Tk} (h : Lx s i l) : ∀ t ∈ l, Eng.right8 t = true := by
  induction h with
  | done _ _ => intro t ht; cases ht
  | @step i n t l _ _ h _ ih =>
    intro t' ht
    rcases List.mem_cons.1 ht with rfl | ht
    · have : Eng.right8 t = true := tok_right h
      exact this
    · exact ih t' ht
theorem LxE.err {s : Str} {i p e : Int} (h : LxE s i p e) : e = 1 ∨ e = 2 := by
  induction h with
  | here _ _ h he => have := tok_err h; omega
  | there _ _ _ _ ih => exact ih
/-! ### Bounds -/
theorem right_bd {t : Tk} (h : Eng.right8 t = true) (hl : len t.s ≤ 1048576) : TkB t := by
  have h0 : len t.c.s ≤ 1048576 ∧ -1000000 ≤ t.c.e ∧ t.c.e ≤ 1000000 := by
    unfold Eng.right8 at h
    have no : t.c = noNd → len t.c.s ≤ 1048576 ∧ -1000000 ≤ t.c.e ∧ t.c.e ≤ 1000000 := fun e => by rw [e]; decide
    split at h
    · simp only [Bool.and_eq_true, decide_eq_true_eq] at h; exact no h.2
    split at h
    · simp only [Bool.and_eq_true, decide_eq_true_eq] at h; exact no h.2
    split at h
    · simp only [Bool.and_eq_true, decide_eq_true_eq] at h; exact no h.2
    split at h
    · simp only [Bool.and_eq_true] at h
      obtain ⟨_, _, h1, h2, h3, _⟩ := right_open h.2
      omega
    · cases h
  exact ⟨hl, h0.1, fun _ => h0.2⟩
theorem enc_len (r : Int) : len (Lib.encodeRuneZ r) ≤ 4 := by
  unfold Lib.encodeRuneZ
  repeat' split
  all_goals (unfold len; simp)
theorem unqGo_len {s : Str} : ∀ (f : Nat) (i : Int) (acc : List Int), 0 ≤ i → i ≤ len s → len (unqGo f s i acc).1 ≤ len acc + 4 * (len s - i)
  | 0, i, acc, h0, h1 => by unfold unqGo; have := len_nonneg acc; rw [len_nil]; omega
  | f + 1, i, acc, h0, h1 => by
    have ha := len_nonneg acc
    have hn : len ([] : Str) = 0 := rfl
    have he := enc_len
    unfold unqGo
    split
    · rename_i hlt
      have hf := from_len s i h0 h1
      split
      · have : len (toStr acc) = len acc := by unfold toStr len; simp
        dsimp only; omega
      · split
        · have hb := escP_le (from' s i)
          split
          · dsimp only; omega
          · have := unqGo_len (s := s) f (i + (escP (from' s i)).2) (acc ++ Lib.encodeRuneZ (escP (from' s i)).1) (by omega) (by omega)
            have := he (escP (from' s i)).1
            rw [len_app] at *
            omega
        · split
          · dsimp only; omega
          · have hb := runeLen_bd h0 hlt
            rw [runeLen_from s i h0]
            have := unqGo_len (s := s) f (i + runeLen s i) (acc ++ Lib.encodeRuneZ (runeAt (from' s i) 0)) (by omega) (by omega)
            have := he (runeAt (from' s i) 0)
            rw [len_app] at *
            omega
    · dsimp only; omega
theorem unq_len (s : Str) : len (unqP s).1 ≤ 4 * len s := by
  have := len_nonneg s
  unfold unqP
  split
  · rename_i h
    have h1 : (1 : Int) ≤ len s := hasPrefix_len h
    have := unqGo_len (s := s) s.length 1 [] (by omega) h1
    rw [len_nil] at this; omega
  · show len ([] : Str) ≤ _
    rw [len_nil]; omega
theorem tok_len {s : Str} {t : Tk} {n : Int} (h : tokP s = (t, n, 0)) : len t.s ≤ 4 * len s + 2 := by
  have h0 := len_nonneg s
  have h1 := from_bd s 1
  have w1 := wordP_bd (from' s 1)
  have w2 := wordP_bd s
  have u1 := unq_len (from' s 1)
  have u2 := unq_len s
  have m1 : len (markP s) ≤ 2 := by
    rcases markP_mem s with e | e
    · rw [e]; decide
    · have : ∀ m ∈ marks8, len m ≤ 2 := by decide
      exact this _ e.1
  have n0 : len ([] : Str) = 0 := rfl
  unfold tokP at h
  repeat' split at h
  all_goals (simp only [Prod.mk.injEq] at h; first | (rw [← h.1]; dsimp only; omega) | (exfalso; omega))
theorem Lx.bd {s : Str} (hs : len s ≤ 100000) {i : Int} {l : List Tk} (h : Lx s i l) : (∀ t ∈ l, TkB t) ∧ (i ≤ len s → len l ≤ len s - i) := by
  induction h with
  | done _ _ => exact ⟨fun t ht => (by cases ht), fun x => by rw [len_nil]; omega⟩
  | @step i n t l h0 h1 h _ ih =>
    have hb := tok_bd' h0 h1 h
    have hbl := blankTo_bd s (i + n) (by omega) hb.2.1
    have hl := tok_len h
    have hf := from_len s i h0 (by omega)
    refine ⟨fun t' ht => ?_, fun x => ?_⟩
    · rcases List.mem_cons.1 ht with rfl | ht
      · have : TkB t := right_bd (tok_right h) (by omega)
        exact this
      · exact ih.1 t' ht
    · have := ih.2 hbl.2
      rw [len_cons]; omega
end Go.Eng
