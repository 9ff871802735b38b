/-
  What is unquoted is valid UTF-8. No program in it. (The same lemmas stand in XBack.)
  What val.Object does with a map: plain laws. No program in it.
  The reference's values: named, Object.
  PLAIN LEAN: strings.TrimFunc of figures leaves nothing just where all bytes are figures. No program in it.
  A right number, opened. Plain: no program in it.
  RIGHT VALUES ARE GOOD TREES. No program in it.
  How long texts of numbers and strings are. Plain: no program in it.
  How long a value's text is. No program in it.
  A NUMBER'S TEXT IS READ AS IT; what any text is read as is a right number; a string's text is read as it. Plain: no program in it.
  A VALUE'S TEXT IS READ AS IT: plain. No program in it.
-/
import Derived.Test.YtjfaikgooldcbaaGreatDoorZs11
import Derived.Test.YtjfaikgooldcbaaGreatDoorZs14
import Derived.Lib.ValidLaws
import Derived.Test.YtjfaikgooldcbaaGreatDoorZs9
import Derived.Test.YtjfaikgooldcbaaGreatDoorZs10
import Derived.Shelf.GgClosure.StringsTrimFunc
import Derived.Lib.SlTrimSet
import Derived.Sort.Walk0
set_option linter.unusedVariables false
set_option linter.unusedSimpArgs false
namespace Go.Eng
open Go.RowKit

theorem byteAt_l {u v : Str} {j : Int} (h0 : 0 ≤ j) (h : j < len u) : byteAt (u ++ v) j = byteAt u j := by
  unfold len at h
  unfold byteAt
  rw [List.getD_eq_getElem?_getD, List.getD_eq_getElem?_getD, List.getElem?_append_left (by omega)]
theorem byteAt_r {u v : Str} {k : Int} (h0 : 0 ≤ k) : byteAt (u ++ v) (len u + k) = byteAt v k := by
  unfold byteAt len
  rw [List.getD_eq_getElem?_getD, List.getD_eq_getElem?_getD, List.getElem?_append_right (by omega), show ((u.length : Int) + k).toNat - u.length = k.toNat from by omega]
theorem u8_nat {x : Int} (h0 : 0 ≤ x) (h1 : x < 256) : ((UInt8.ofNat x.toNat).toNat : Int) = x := by
  rw [show (UInt8.ofNat x.toNat).toNat = x.toNat % 256 from rfl, Nat.mod_eq_of_lt (by omega)]; omega
theorem rune_agr {s s' : Str} {i i' : Int} (h0 : 0 ≤ i) (h0' : 0 ≤ i') (h1 : 1 ≤ rune s i) (hl : i < len s) (hl' : i' + rune s i ≤ len s') (h : ∀ j, 0 ≤ j → j < rune s i → byteAt s' (i' + j) = byteAt s (i + j)) :
    rune s' i' = rune s i ∧ runeAt s' i' = runeAt s i ∧ runeLen s' i' = runeLen s i := by
  have hb := rune_bd s i
  have hle := rune_le s i hl
  have a0 : byteAt s' i' = byteAt s i := by have := h 0 (by omega) (by omega); rwa [Int.add_zero, Int.add_zero] at this
  have a1 : 2 ≤ rune s i → byteAt s' (i' + 1) = byteAt s (i + 1) := fun x => h 1 (by omega) (by omega)
  have a2 : 3 ≤ rune s i → byteAt s' (i' + 2) = byteAt s (i + 2) := fun x => h 2 (by omega) (by omega)
  have a3 : 4 ≤ rune s i → byteAt s' (i' + 3) = byteAt s (i + 3) := fun x => h 3 (by omega) (by omega)
  have er : rune s' i' = rune s i := by
    clear h
    generalize hk : rune s i = k at *
    unfold rune cont at hk ⊢
    dsimp only at hk ⊢
    rw [a0]
    simp only [Bool.and_eq_true, Bool.or_eq_true, decide_eq_true_eq, beq_iff_eq] at hk ⊢
    split at hk
    · rw [if_pos (by assumption)]; exact hk
    rename_i c0
    rw [if_neg c0]
    split at hk
    · rename_i c1
      subst hk
      have := a1 (by omega)
      rw [if_pos (by omega)]
    rename_i c1
    split at hk
    · rename_i c2
      have hk3 : k = 3 := by split at hk <;> omega
      have e1 := a1 (by omega)
      have e2 := a2 (by omega)
      rw [if_neg (by omega), if_pos (by omega), e1]
      exact hk
    rename_i c2
    split at hk
    · rename_i c3
      have hk4 : k = 4 := by split at hk <;> omega
      have e1 := a1 (by omega)
      have e2 := a2 (by omega)
      have e3 := a3 (by omega)
      rw [if_neg (by omega), if_neg (by omega), if_pos (by omega), e1]
      exact hk
    · omega
  refine ⟨er, ?_⟩
  have hl2 : i' < len s' := by omega
  have D := runeN_dec (s.length - i.toNat) (s.getD i.toNat 0).toNat (s.getD (i.toNat + 1) 0).toNat (s.getD (i.toNat + 2) 0).toNat (s.getD (i.toNat + 3) 0).toNat (by unfold len at *; omega) (UInt8.toNat_lt _) (UInt8.toNat_lt _) (UInt8.toNat_lt _) (UInt8.toNat_lt _)
  have D' := runeN_dec (s'.length - i'.toNat) (s'.getD i'.toNat 0).toNat (s'.getD (i'.toNat + 1) 0).toNat (s'.getD (i'.toNat + 2) 0).toNat (s'.getD (i'.toNat + 3) 0).toNat (by unfold len at *; omega) (UInt8.toNat_lt _) (UInt8.toNat_lt _) (UInt8.toNat_lt _) (UInt8.toNat_lt _)
  have r1 := rune_N h0 hl
  have r2 := rune_N h0' hl2
  have q : ∀ (t : Str) (x : Int), 0 ≤ x → runeAt t x = ((Lib.decodeN (t.length - x.toNat) (t.getD x.toNat 0).toNat (t.getD (x.toNat + 1) 0).toNat (t.getD (x.toNat + 2) 0).toNat (t.getD (x.toNat + 3) 0).toNat).1 : Nat) ∧ runeLen t x = ((Lib.decodeN (t.length - x.toNat) (t.getD x.toNat 0).toNat (t.getD (x.toNat + 1) 0).toNat (t.getD (x.toNat + 2) 0).toNat (t.getD (x.toNat + 3) 0).toNat).2 : Nat) := fun t x hx => by
    unfold runeAt runeLen; rw [decode_same t x hx, decode_from t x hx]; exact ⟨rfl, rfl⟩
  obtain ⟨q1, q2⟩ := q s i h0
  obtain ⟨q3, q4⟩ := q s' i' h0'
  rw [q1, q2, q3, q4]
  have n0 : ∀ (t : Str) (x : Int), 0 ≤ x → byteAt t x = ((t.getD x.toNat 0).toNat : Int) := fun t x hx => rfl
  have nj := fun (t : Str) (x : Int) (hx : 0 ≤ x) (j : Nat) => byteAt_nat t x hx j
  rw [n0 s i h0, n0 s' i' h0'] at a0
  have b1 : byteAt s (i + 1) = _ := nj s i h0 1
  have b2 : byteAt s (i + 2) = _ := nj s i h0 2
  have b3 : byteAt s (i + 3) = _ := nj s i h0 3
  have b1' : byteAt s' (i' + 1) = _ := nj s' i' h0' 1
  have b2' : byteAt s' (i' + 2) = _ := nj s' i' h0' 2
  have b3' : byteAt s' (i' + 3) = _ := nj s' i' h0' 3
  rw [b1, b1'] at a1
  rw [b2, b2'] at a2
  rw [b3, b3'] at a3
  unfold DecAs at D D'
  generalize (s.getD i.toNat 0).toNat = x0 at *
  generalize (s.getD (i.toNat + 1) 0).toNat = x1 at *
  generalize (s.getD (i.toNat + 2) 0).toNat = x2 at *
  generalize (s.getD (i.toNat + 3) 0).toNat = x3 at *
  generalize (s'.getD i'.toNat 0).toNat = y0 at *
  generalize (s'.getD (i'.toNat + 1) 0).toNat = y1 at *
  generalize (s'.getD (i'.toNat + 2) 0).toNat = y2 at *
  generalize (s'.getD (i'.toNat + 3) 0).toNat = y3 at *
  generalize runeN (s.length - i.toNat) x0 x1 x2 x3 = k at *
  generalize runeN (s'.length - i'.toNat) y0 y1 y2 y3 = k' at *
  generalize Lib.decodeN (s.length - i.toNat) x0 x1 x2 x3 = d at *
  generalize Lib.decodeN (s'.length - i'.toNat) y0 y1 y2 y3 = d' at *
  obtain ⟨d1, d2⟩ := d
  obtain ⟨e1, e2⟩ := d'
  clear q1 q2 q3 q4 q n0 nj b1 b2 b3 b1' b2' b3' h
  dsimp only at *
  rcases D with D | D | D | D | D <;> rcases D' with D' | D' | D' | D' | D' <;> first | (exfalso; omega) | (constructor <;> omega)

theorem utf_shift {a b : Str} : ∀ (j : Int), 0 ≤ j → utfFrom b j = true → utfFrom (a ++ b) (len a + j) = true
  | j, h0, h => by
    have hl := len_app a b
    have ha := len_nonneg a
    by_cases hj : j < len b
    · by_cases hr : rune b j = 0
      · rw [utfFrom_bad b j h0 hj hr] at h; cases h
      have hb := rune_bd b j
      have hle := rune_le b j hj
      rw [← utfFrom_step b j h0 hj (by omega)] at h
      have agr := rune_agr (s := b) (s' := a ++ b) (i := j) (i' := len a + j) h0 (by omega) (by omega) hj (by omega) (fun k x y => by
        rw [show len a + j + k = len a + (j + k) from by omega, byteAt_r (by omega)])
      rw [← utfFrom_step (a ++ b) (len a + j) (by omega) (by omega) (by rw [agr.1]; omega), agr.1, Int.add_assoc]
      exact utf_shift (j + rune b j) (by omega) h
    · exact utfFrom_end _ _ (by omega)
termination_by j => (len b - j).toNat
theorem utf_app {a b : Str} (hb : utf b = true) : ∀ (i : Int), 0 ≤ i → i ≤ len a → utfFrom a i = true → utfFrom (a ++ b) i = true
  | i, h0, h1, h => by
    have hl := len_app a b
    have hbn := len_nonneg b
    by_cases hi : i < len a
    · by_cases hr : rune a i = 0
      · rw [utfFrom_bad a i h0 hi hr] at h; cases h
      have hbd := rune_bd a i
      have hle := rune_le a i hi
      rw [← utfFrom_step a i h0 hi (by omega)] at h
      have agr := rune_agr (s := a) (s' := a ++ b) (i := i) (i' := i) h0 h0 (by omega) hi (by omega) (fun k x y => byteAt_l (by omega) (by omega))
      rw [← utfFrom_step (a ++ b) i h0 (by omega) (by rw [agr.1]; omega), agr.1]
      exact utf_app hb (i + rune a i) (by omega) hle h
    · have e : i = len a := by omega
      subst e
      have := utf_shift (a := a) (b := b) 0 (Int.le_refl 0) hb
      rwa [Int.add_zero] at this
termination_by i => (len a - i).toNat
theorem utf_one {s : Str} (hn : 0 < len s) (h : rune s 0 = len s) : utf s = true := by
  unfold utf
  rw [← utfFrom_step s 0 (Int.le_refl 0) hn (by omega)]
  exact utfFrom_end s (0 + rune s 0) (by omega)
theorem utf_enc (r : Int) : utf (toStr (Lib.encodeRuneZ r)) = true := by
  have b0 : ∀ (x : UInt8) (l : Str), byteAt (x :: l) 0 = (x.toNat : Int) := fun _ _ => rfl
  have b1 : ∀ (x y : UInt8) (l : Str), byteAt (x :: y :: l) (0 + 1) = (y.toNat : Int) := fun _ _ _ => rfl
  have b2 : ∀ (x y z : UInt8) (l : Str), byteAt (x :: y :: z :: l) (0 + 2) = (z.toNat : Int) := fun _ _ _ _ => rfl
  have b3 : ∀ (x y z u : UInt8) (l : Str), byteAt (x :: y :: z :: u :: l) (0 + 3) = (u.toNat : Int) := fun _ _ _ _ _ => rfl
  have l1 : ∀ (x : UInt8), len [x] = 1 := fun _ => rfl
  have l2 : ∀ (x y : UInt8), len [x, y] = 2 := fun _ _ => rfl
  have l3 : ∀ (x y z : UInt8), len [x, y, z] = 3 := fun _ _ _ => rfl
  have l4 : ∀ (x y z u : UInt8), len [x, y, z, u] = 4 := fun _ _ _ _ => rfl
  unfold Lib.encodeRuneZ
  split
  · refine utf_one (show (0 : Int) < 1 by decide) ?_
    show rune [UInt8.ofNat r.toNat] 0 = 1
    unfold rune
    rw [b0, u8_nat (by omega) (by omega)]
    dsimp only
    rw [if_pos (by omega)]
  split
  · refine utf_one (show (0 : Int) < 2 by decide) ?_
    show rune [UInt8.ofNat (192 + r / 64).toNat, UInt8.ofNat (128 + r % 64).toNat] 0 = 2
    unfold rune cont
    rw [b0, b1, l2, u8_nat (by omega) (by omega), u8_nat (by omega) (by omega)]
    dsimp only
    simp only [Bool.and_eq_true, decide_eq_true_eq]
    rw [if_neg (by omega), if_pos (by omega)]
  split
  · refine utf_one (show (0 : Int) < 3 by decide) ?_
    show rune [UInt8.ofNat (224 + r / 4096).toNat, UInt8.ofNat (128 + r / 64 % 64).toNat, UInt8.ofNat (128 + r % 64).toNat] 0 = 3
    unfold rune cont
    rw [b0, b1, b2, l3, u8_nat (by omega) (by omega), u8_nat (by omega) (by omega), u8_nat (by omega) (by omega)]
    dsimp only
    simp only [Bool.and_eq_true, Bool.or_eq_true, decide_eq_true_eq, beq_iff_eq]
    rw [if_neg (by omega), if_neg (by omega), if_pos (by omega), if_neg (by omega)]
  split
  · refine utf_one (show (0 : Int) < 4 by decide) ?_
    show rune [UInt8.ofNat (240 + r / 262144).toNat, UInt8.ofNat (128 + r / 4096 % 64).toNat, UInt8.ofNat (128 + r / 64 % 64).toNat, UInt8.ofNat (128 + r % 64).toNat] 0 = 4
    unfold rune cont
    rw [b0, b1, b2, b3, l4, u8_nat (by omega) (by omega), u8_nat (by omega) (by omega), u8_nat (by omega) (by omega), u8_nat (by omega) (by omega)]
    dsimp only
    simp only [Bool.and_eq_true, Bool.or_eq_true, decide_eq_true_eq, beq_iff_eq]
    rw [if_neg (by omega), if_neg (by omega), if_neg (by omega), if_pos (by omega), if_neg (by omega)]
  · decide +kernel
theorem utf_add {acc : List Int} (h : utf (toStr acc) = true) (r : Int) : utf (toStr (acc ++ Lib.encodeRuneZ r)) = true := by
  rw [toStr_app]
  exact utf_app (utf_enc r) 0 (Int.le_refl 0) (len_nonneg _) h
theorem utf_nil : utf [] = true := by decide +kernel
theorem unqGo_utf {s : Str} : ∀ (f : Nat) (i : Int) (acc : List Int), utf (toStr acc) = true → utf (unqGo f s i acc).1 = true
  | 0, _, _, _ => by unfold unqGo; exact utf_nil
  | f + 1, i, acc, h => by
    unfold unqGo
    split
    · split
      · exact h
      · split
        · split
          · exact utf_nil
          · exact unqGo_utf f _ _ (utf_add h _)
        · split
          · exact utf_nil
          · exact unqGo_utf f _ _ (utf_add h _)
    · exact utf_nil
theorem unq_utf (s : Str) : utf (unqP s).1 = true := by
  unfold unqP
  split
  · exact unqGo_utf _ _ _ utf_nil
  · exact utf_nil
theorem enc_len (r : Int) : len (Lib.encodeRuneZ r) ≤ 4 := by
  unfold Lib.encodeRuneZ
  repeat' split
  all_goals (unfold len; simp)
theorem unqGo_len {s : Str} : ∀ (f : Nat) (i : Int) (acc : List Int), 0 ≤ i → i ≤ len s → len (unqGo f s i acc).1 ≤ len acc + 4 * (len s - i)
  | 0, i, acc, h0, h1 => by unfold unqGo; have := len_nonneg acc; rw [len_nil]; omega
  | f + 1, i, acc, h0, h1 => by
    have ha := len_nonneg acc
    have hn : len ([] : Str) = 0 := rfl
    have he := enc_len
    unfold unqGo
    split
    · rename_i hlt
      have hf := from_len s i h0 h1
      split
      · have : len (toStr acc) = len acc := by unfold toStr len; simp
        dsimp only; omega
      · split
        · have hb := escP_le (from' s i)
          split
          · dsimp only; omega
          · have := unqGo_len (s := s) f (i + (escP (from' s i)).2) (acc ++ Lib.encodeRuneZ (escP (from' s i)).1) (by omega) (by omega)
            have := he (escP (from' s i)).1
            rw [len_app] at *
            omega
        · split
          · dsimp only; omega
          · have hb := runeLen_bd h0 hlt
            rw [runeLen_from s i h0]
            have := unqGo_len (s := s) f (i + runeLen s i) (acc ++ Lib.encodeRuneZ (runeAt (from' s i) 0)) (by omega) (by omega)
            have := he (runeAt (from' s i) 0)
            rw [len_app] at *
            omega
    · dsimp only; omega
theorem unq_len (s : Str) : len (unqP s).1 ≤ 4 * len s := by
  have := len_nonneg s
  unfold unqP
  split
  · rename_i h
    have h1 : (1 : Int) ≤ len s := hasPrefix_len h
    have := unqGo_len (s := s) s.length 1 [] (by omega) h1
    rw [len_nil] at this; omega
  · show len ([] : Str) ≤ _
    rw [len_nil]; omega
end Go.Eng
namespace Go.Eng
open Go.RowKit

theorem dec_from (s : Str) (i : Int) (h0 : 0 ≤ i) : ((Lib.decodeL (from' s i)).1 : Int) = runeAt s i ∧ ((Lib.decodeL (from' s i)).2 : Int) = runeLen s i := by
  have h : Lib.decodeL (from' s i) = Utf8.decode ⟨⟨s⟩⟩ i.toNat := (decode_same s i h0).symm
  rw [h]; exact ⟨rfl, rfl⟩
theorem validD_from (s : Str) : ∀ (n : Nat) (i : Int), 0 ≤ i → (len s - i).toNat ≤ n → utfFrom s i = true → Lib.validD (from' s i) = true := by
  intro n
  induction n with
  | zero =>
    intro i h0 hn _
    have : from' s i = [] := by unfold from'; exact List.drop_eq_nil_of_le (by unfold len at hn; omega)
    rw [this]; rfl
  | succ n ih =>
    intro i h0 hn hu
    by_cases h1 : i < len s
    · have hne : from' s i ≠ [] := by
        intro e
        have : (from' s i).length = 0 := by rw [e]; rfl
        unfold from' at this; rw [List.length_drop] at this; unfold len at h1; omega
      unfold utfFrom at hu
      rw [dif_pos ⟨h0, h1⟩] at hu
      obtain ⟨d1, d2⟩ := dec_from s i h0
      rcases rune_dec h0 h1 with ⟨hr, _⟩ | ⟨hr, hl, hno, _⟩
      · rw [dif_neg (by omega)] at hu; cases hu
      · rw [dif_pos (by omega)] at hu
        rw [Lib.validD_step _ hne, if_neg (by intro h; exact hno ⟨by omega, by omega⟩)]
        have e : (from' s i).drop (Lib.decodeL (from' s i)).2 = from' s (i + rune s i) := by
          rw [← from_from s i (rune s i) h0 (by omega)]
          show _ = (from' s i).drop (rune s i).toNat
          rw [show (Lib.decodeL (from' s i)).2 = (rune s i).toNat by omega]
        rw [e]
        exact ih _ (by omega) (by omega) hu
    · have : from' s i = [] := by unfold from'; exact List.drop_eq_nil_of_le (by unfold len at h1; omega)
      rw [this]; rfl
theorem validD_utf {s : Str} (h : utf s = true) : Lib.validD s = true := by
  have := validD_from s (len s - 0).toNat 0 (by omega) (Nat.le_refl _) h
  simpa [from'] using this
/-- All keys are valid and not too long, all values are some. -/
def UtfK (m : List (Str × Vl)) : Prop := ∀ p ∈ m, utf p.1 = true ∧ len p.1 ≤ 4398046511104 ∧ p.2 ≠ []
theorem UtfK.put {n : Str} {x : Vl} (hn : utf n = true ∧ len n ≤ 4398046511104 ∧ x ≠ []) : ∀ {m : List (Str × Vl)}, UtfK m → UtfK (putV m n x)
  | [], _ => by intro p hp; simp [putV] at hp; subst hp; exact hn
  | q :: m, h => by
    intro p hp
    unfold putV at hp
    split at hp
    · rcases List.mem_cons.1 hp with rfl | hp
      · exact hn
      · exact h p (List.mem_cons_of_mem _ hp)
    · rcases List.mem_cons.1 hp with rfl | hp
      · exact h _ List.mem_cons_self
      · exact UtfK.put hn (fun p hp => h p (List.mem_cons_of_mem _ hp)) p hp
theorem pairT_utfk {s : Str} {i : Int} {val : Int → PR Vl} {m x : List (Str × Vl)} {j : Int} (hb : len s ≤ 1099511627776) (hv : ∀ k x j, val k = .ok x j → x ≠ []) (hk : UtfK m) (h : pairT s i val m = .ok x j) : UtfK x := by
  unfold pairT at h
  split at h
  · cases h
  · rename_i n q ht
    have hn : utf n = true ∧ len n ≤ 4398046511104 := by
      unfold textT at ht
      split at ht
      · cases ht
      · cases ht
        have h1 := unq_len (from' s i)
        have h2 : len (from' s i) ≤ len s := by unfold from' len; rw [List.length_drop]; omega
        exact ⟨unq_utf _, by omega⟩
    split at h
    · unfold mapR at h
      split at h
      · cases h
      · rename_i hval
        cases h; exact UtfK.put ⟨hn.1, hn.2, hv _ _ _ hval⟩ hk
    · cases h
theorem mapR_ok {α β : Type} {f : α → β} {r : PR α} {y : β} {j : Int} (h : mapR f r = .ok y j) : ∃ x, r = .ok x j ∧ y = f x := by
  cases r with
  | er c p => cases h
  | ok x k => cases h; exact ⟨x, rfl, rfl⟩
theorem valT_ne {f : Nat} {s : Str} {i d : Int} {x : Vl} {j : Int} (h : valT f s i d = .ok x j) : x ≠ [] := by
  cases f with
  | zero => rw [valT] at h; cases h
  | succ f =>
    rw [valT] at h
    repeat' split at h
    all_goals first
      | (cases h; done)
      | (cases h; intro e; cases e)
      | (unfold numT at h; split at h <;> cases h; intro e; cases e)
      | (obtain ⟨y, _, rfl⟩ := mapR_ok h; intro e; cases e)
theorem MapV.get {M : Mem} {n : Str} {x : Vl} : ∀ {l : List SV} {m : List (Str × Vl)}, MapV M l m → getV m n = some x → ∃ h : SlH, sget l n = some h.v ∧ Sl M 6 x.length h.v (x.flatMap Nd.cells)
  | [], [], _, h => by cases h
  | [], _ :: _, h, _ => h.elim
  | _ :: _, [], h, _ => h.elim
  | p :: l, q :: m, ⟨h1, ⟨h, h2, h3⟩, h4⟩, hg => by
    unfold getV at hg
    unfold sget
    by_cases hk : (n == q.1) = true
    · rw [if_pos hk] at hg; cases hg
      rw [if_pos (by rw [h1]; exact hk)]
      exact ⟨h, by rw [h2], h3⟩
    · rw [if_neg hk] at hg
      rw [if_neg (by rw [h1]; exact hk)]
      exact MapV.get h4 hg
theorem MapV.none {M : Mem} {n : Str} : ∀ {l : List SV} {m : List (Str × Vl)}, MapV M l m → n ∉ m.map (·.1) → sget l n = none
  | [], [], _, _ => rfl
  | [], _ :: _, h, _ => h.elim
  | _ :: _, [], h, _ => h.elim
  | p :: l, q :: m, ⟨h1, _, h4⟩, hg => by
    simp only [List.map_cons, List.mem_cons, not_or] at hg
    unfold sget
    rw [if_neg (by rw [h1]; simpa using hg.1)]
    exact MapV.none h4 hg.2
/-- The first so many pairs. -/
def zipT (ns : List Str) (xs : List Vl) (k : Int) : List (Str × Vl) := (ns.zip xs).take k.toNat
theorem zipT_step {ns : List Str} {xs : List Vl} {k : Int} (h0 : 0 ≤ k) (h1 : k < len ns) (h2 : len ns = len xs) : zipT ns xs (k + 1) = zipT ns xs k ++ [(at' ns k, at' xs k)] := by
  unfold zipT
  rw [show (k + 1).toNat = k.toNat + 1 by omega, List.take_add_one]
  congr 1
  have e1 : k.toNat < ns.length := by unfold len at h1; omega
  have e2 : k.toNat < xs.length := by unfold len at h1 h2; omega
  rw [List.getElem?_eq_getElem (by rw [List.length_zip]; omega)]
  simp [at', List.getD_eq_getElem?_getD, e1, e2]
theorem zipT_keys {ns : List Str} {xs : List Vl} (k : Int) (h2 : len ns = len xs) : (zipT ns xs k).map (·.1) = ns.take k.toNat := by
  unfold zipT
  rw [List.map_take, show (ns.zip xs).map (·.1) = ns from by have := List.map_fst_zip (l₁ := ns) (l₂ := xs) (by unfold len at h2; omega); exact this]
theorem zipT_new {ns : List Str} {xs : List Vl} {k : Int} (h0 : 0 ≤ k) (h1 : k < len ns) (h2 : len ns = len xs) (hnd : ns.Nodup) : at' ns k ∉ (zipT ns xs k).map (·.1) := by
  rw [zipT_keys k h2]
  intro hm
  have e1 : k.toNat < ns.length := by unfold len at h1; omega
  obtain ⟨j, hj, he⟩ := List.getElem_of_mem hm
  rw [List.length_take] at hj
  rw [List.getElem_take] at he
  have he2 : at' ns k = ns[k.toNat] := by simp [at', List.getD_eq_getElem?_getD, e1]
  rw [he2] at he
  have := (List.getElem_inj (h₀ := by omega) (h₁ := e1) hnd).1 he
  omega
theorem putV_new {n : Str} {x : Vl} : ∀ {m : List (Str × Vl)}, n ∉ m.map (·.1) → putV m n x = m ++ [(n, x)]
  | [], _ => rfl
  | q :: m, h => by
    simp only [List.map_cons, List.mem_cons, not_or] at h
    unfold putV
    rw [if_neg (by simpa using h.1), putV_new h.2]; rfl
theorem zipT_end {ns : List Str} {xs : List Vl} {k : Int} (h : len ns ≤ k) : zipT ns xs k = ns.zip xs := by
  unfold zipT; rw [List.take_of_length_le]; rw [List.length_zip]; unfold len at h; omega
theorem zip_keys {ns : List Str} {xs : List Vl} (h2 : len ns = len xs) : (ns.zip xs).map (·.1) = ns := List.map_fst_zip (l₁ := ns) (l₂ := xs) (by unfold len at h2; omega)
/-- The parts of the sorted names. -/
def partsL (sn : List Str) (m : List (Str × Vl)) : List Vl := sn.map fun n => (getV m n).getD []
theorem partsL_at {sn : List Str} {m : List (Str × Vl)} {k : Int} (h0 : 0 ≤ k) (h1 : k < len sn) : partsL (Eng.sub sn 0 (k + 1)) m = partsL (Eng.sub sn 0 k) m ++ [(getV m (at' sn k)).getD []] := by
  have e1 : k.toNat < sn.length := by unfold len at h1; omega
  unfold partsL Eng.sub
  rw [show (k + 1).toNat = k.toNat + 1 by omega]
  simp only [Int.toNat_zero, List.drop_zero, Nat.sub_zero]
  rw [List.take_add_one, List.getElem?_eq_getElem e1, List.map_append]
  simp [at', List.getD_eq_getElem?_getD, e1]
theorem partsL_sub {sn : List Str} {m : List (Str × Vl)} {k : Int} (h0 : 0 ≤ k) (h1 : k ≤ len sn) : ((partsL (Eng.sub sn 0 k) m).length : Int) = k := by
  unfold partsL Eng.sub; unfold len at h1
  simp only [List.length_map, Int.toNat_zero, List.drop_zero, Nat.sub_zero, List.length_take]; omega
theorem getV_in {m : List (Str × Vl)} {n : Str} (h : n ∈ m.map (·.1)) : ∃ x, getV m n = some x ∧ (n, x) ∈ m := by
  induction m with
  | nil => cases h
  | cons q m ih =>
    unfold getV
    by_cases hk : n = q.1
    · exact ⟨q.2, by rw [if_pos (by simpa using hk)], by rw [hk]; exact List.mem_cons_self⟩
    · rw [if_neg (by simpa using hk)]
      simp only [List.map_cons, List.mem_cons] at h
      obtain ⟨x, h1, h2⟩ := ih (h.resolve_left hk)
      exact ⟨x, h1, List.mem_cons_of_mem _ h2⟩
theorem sortN_mem {ns : List Str} {n : Str} : n ∈ sortN ns ↔ n ∈ ns := (List.mergeSort_perm ns _).mem_iff
theorem sortN_len (ns : List Str) : len (sortN ns) = len ns := by unfold len sortN; rw [List.length_mergeSort]
theorem partsL_keys {m : List (Str × Vl)} (hk : KeysOK m) : partsL (m.map (·.1)) m = m.map (·.2) := by
  unfold partsL
  rw [List.map_map]
  exact List.map_congr_left fun p hp => by show (getV m p.1).getD [] = p.2; rw [getV_of_mem hk hp]; rfl
theorem partsL_len {m : List (Str × Vl)} (hk : KeysOK m) : len (partsL (sortN (m.map (·.1))) m).flatten = len (m.map (·.2)).flatten := by
  rw [← partsL_keys hk]
  unfold len partsL sortN
  rw [List.Perm.length_eq (List.Perm.flatten ((List.mergeSort_perm (m.map (·.1)) _).map _))]
theorem laid_obj (m : List (Str × Vl)) : laidTo (sortN (m.map (·.1))) (partsL (sortN (m.map (·.1))) m) (len (partsL (sortN (m.map (·.1))) m)) = objV m := by
  unfold laidTo objV laidV
  have e : (sortN (m.map (·.1))).zip (partsL (sortN (m.map (·.1))) m) = (sortN (m.map (·.1))).map fun n => (n, (getV m n).getD []) := by
    unfold partsL
    generalize sortN (m.map (·.1)) = l
    induction l with
    | nil => rfl
    | cons a l ih => simp only [List.map_cons, List.zip_cons_cons, ih]
  rw [e, List.take_of_length_le (by unfold len partsL; simp)]
  congr 2
  unfold len partsL; simp
theorem zip_vals {ns : List Str} {xs : List Vl} (h2 : len ns = len xs) : (ns.zip xs).map (·.2) = xs := List.map_snd_zip (l₁ := ns) (l₂ := xs) (by unfold len at h2; omega)
/-! ### a map ranged over -/
theorem MapV.keys {M : Mem} : ∀ {l : List SV} {m : List (Str × Vl)}, MapV M l m → l.map (·.key) = m.map (·.1)
  | [], [], _ => rfl
  | [], _ :: _, h => h.elim
  | _ :: _, [], h => h.elim
  | p :: l, q :: m, ⟨h1, _, h4⟩ => by simp only [List.map_cons, h1, MapV.keys h4]
/-- What has been visited. -/
def VisS (l : List SV) (m : List (Str × Vl)) (seen : Array Nat) (ns : List Str) (xs : List Vl) : Prop :=
  ∃ vs : List SV, seen.toList = vs.map (·.born) ∧ (∀ p ∈ vs, p ∈ l) ∧ vs.map (·.key) = ns ∧ ns.length = xs.length ∧ (∀ p ∈ ns.zip xs, p ∈ m) ∧ ns.Nodup
theorem VisS.start (l : List SV) (m : List (Str × Vl)) : VisS l m #[] [] [] := ⟨[], rfl, fun _ h => (by cases h), rfl, rfl, fun _ h => (by cases h), List.nodup_nil⟩
theorem inj_of_nodup {α β : Type} {f : α → β} : ∀ {l : List α} {p q : α}, (l.map f).Nodup → p ∈ l → q ∈ l → f p = f q → p = q
  | [], _, _, _, h, _, _ => by cases h
  | a :: l, p, q, hn, hp, hq, he => by
    rw [List.map_cons, List.nodup_cons] at hn
    rcases List.mem_cons.1 hp with h1 | h1
    · rcases List.mem_cons.1 hq with h2 | h2
      · rw [h1, h2]
      · exact absurd (List.mem_map.2 ⟨q, h2, by rw [← he, h1]⟩) hn.1
    · rcases List.mem_cons.1 hq with h2 | h2
      · exact absurd (List.mem_map.2 ⟨p, h1, by rw [he, h2]⟩) hn.1
      · exact inj_of_nodup hn.2 h1 h2 he
theorem nodup_of_map {α β : Type} {f : α → β} : ∀ {l : List α}, (l.map f).Nodup → l.Nodup
  | [], _ => List.nodup_nil
  | a :: l, h => by
    rw [List.map_cons, List.nodup_cons] at h
    exact List.nodup_cons.2 ⟨fun ha => h.1 (List.mem_map.2 ⟨a, ha, rfl⟩), nodup_of_map h.2⟩
theorem sub_length {α : Type} : ∀ {l m : List α}, l.Nodup → (∀ p ∈ l, p ∈ m) → l.length ≤ m.length
  | [], _, _, _ => Nat.zero_le _
  | a :: l, m, hn, h => by
    obtain ⟨s, t, rfl⟩ := List.append_of_mem (h a List.mem_cons_self)
    rw [List.nodup_cons] at hn
    have := sub_length (m := s ++ t) hn.2 (fun p hp => by
      have h1 := h p (List.mem_cons_of_mem _ hp)
      rcases List.mem_append.1 h1 with h1 | h1
      · exact List.mem_append.2 (.inl h1)
      · rcases List.mem_cons.1 h1 with rfl | h1
        · exact absurd hp hn.1
        · exact List.mem_append.2 (.inr h1))
    simp only [List.length_append, List.length_cons] at *; omega
theorem VisS.step {M : Mem} {l : List SV} {m : List (Str × Vl)} {seen : Array Nat} {ns : List Str} {xs : List Vl} {p : SV} {x : Vl} (h : VisS l m seen ns xs) (hm : MapV M l m) (hk : KeysOK m) (hp : p ∈ l) (hns : ¬ seen.contains p.born = true) (hx : (p.key, x) ∈ m) :
    VisS l m (seen.push p.born) (ns ++ [p.key]) (xs ++ [x]) := by
  obtain ⟨vs, h1, h2, h3, h4, h5, h6⟩ := h
  have hkl : (l.map (·.key)).Nodup := by rw [hm.keys]; exact hk
  refine ⟨vs ++ [p], by simp [h1], fun q hq => ?_, by simp [h3], by simp [h4], ?_, ?_⟩
  · rcases List.mem_append.1 hq with hq | hq
    · exact h2 q hq
    · simp only [List.mem_singleton] at hq; subst hq; exact hp
  · intro q hq
    rw [List.zip_append h4] at hq
    rcases List.mem_append.1 hq with hq | hq
    · exact h5 q hq
    · simp at hq; subst hq; exact hx
  · rw [List.nodup_append]
    refine ⟨h6, by simp, fun a ha b hb => ?_⟩
    simp only [List.mem_singleton] at hb; subst hb
    intro e; subst e
    rw [← h3] at ha
    obtain ⟨q, hq, he⟩ := List.mem_map.1 ha
    have := inj_of_nodup hkl (h2 q hq) hp he
    subst this
    apply hns
    rw [Array.contains_iff_mem, Array.mem_def, h1]
    exact List.mem_map.2 ⟨q, hq, rfl⟩
theorem VisS.done {M : Mem} {l : List SV} {c : Nat} {m : List (Str × Vl)} {seen : Array Nat} {ns : List Str} {xs : List Vl} (h : VisS l m seen ns xs) (hm : MapV M l m) (hk : KeysOK m) (hb : BornOK l c) (hall : ∀ p ∈ l, seen.contains p.born = true) : (ns.zip xs).Perm m := by
  obtain ⟨vs, h1, h2, h3, h4, h5, h6⟩ := h
  have hsub : ∀ p ∈ l, p ∈ vs := by
    intro p hp
    have := hall p hp
    rw [Array.contains_iff_mem, Array.mem_def, h1] at this
    obtain ⟨q, hq, he⟩ := List.mem_map.1 this
    have := inj_of_nodup hb.2 (h2 q hq) hp he
    subst this; exact hq
  have hkl : (l.map (·.key)).Nodup := by rw [hm.keys]; exact hk
  have hln : l.Nodup := nodup_of_map hkl
  have hvn : vs.Nodup := nodup_of_map (f := (·.key)) (by rw [h3]; exact h6)
  have e1 : l.length ≤ vs.length := sub_length hln hsub
  have e2 : vs.length ≤ l.length := sub_length hvn h2
  have e3 : ns.length = vs.length := by rw [← h3, List.length_map]
  have e4 : m.length = l.length := by have := congrArg List.length hm.keys; simpa using this.symm
  have hz : (ns.zip xs).map (·.1) = ns := List.map_fst_zip (l₁ := ns) (l₂ := xs) (by omega)
  exact perm_of_sub (by rw [hz]; exact h6) h5 (by rw [List.length_zip]; omega)
theorem VisS.le {M : Mem} {l : List SV} {m : List (Str × Vl)} {seen : Array Nat} {ns : List Str} {xs : List Vl} (h : VisS l m seen ns xs) : ns.length ≤ m.length := by
  obtain ⟨vs, h1, h2, h3, h4, h5, h6⟩ := h
  have hz : (ns.zip xs).map (·.1) = ns := List.map_fst_zip (l₁ := ns) (l₂ := xs) (by omega)
  have := sub_length (l := ns.zip xs) (m := m) (nodup_of_map (f := (·.1)) (by rw [hz]; exact h6)) h5
  rw [List.length_zip] at this; omega
theorem VisS.eq {l : List SV} {m : List (Str × Vl)} {seen : Array Nat} {ns : List Str} {xs : List Vl} (h : VisS l m seen ns xs) : ns.length = xs.length := by
  obtain ⟨vs, h1, h2, h3, h4, h5, h6⟩ := h; exact h4
theorem objV_le {m : List (Str × Vl)} (hk : KeysOK m) : len (objV m) ≤ 1 + mapN m := by
  rw [← laid_obj m]
  have h1 := laidTo_le (sortN (m.map (·.1))) (partsL (sortN (m.map (·.1))) m) (len (partsL (sortN (m.map (·.1))) m))
  rw [partsL_len hk] at h1
  exact h1
/-- All have been visited: what val.Object asks. -/
theorem VisS.all {M : Mem} {l : List SV} {c : Nat} {m : List (Str × Vl)} {seen : Array Nat} {ns : List Str} {xs : List Vl} (h : VisS l m seen ns xs) (hm : MapV M l m) (hk : KeysOK m) (hu : UtfK m) (hb : BornOK l c) (hall : ∀ p ∈ l, seen.contains p.born = true) :
    len ns = len xs ∧ len ns = len m ∧ ns.Nodup ∧ (∀ n ∈ ns, utf n = true) ∧ (∀ n ∈ ns, len n ≤ 4398046511104) ∧ (∀ x ∈ xs, x ≠ []) ∧ len xs.flatten = mapN m ∧ objV (ns.zip xs) = objV m := by
  have hp := h.done hm hk hb hall
  obtain ⟨vs, h1, h2, h3, h4, h5, h6⟩ := h
  have hz : (ns.zip xs).map (·.1) = ns := List.map_fst_zip (l₁ := ns) (l₂ := xs) (by omega)
  have hz2 : (ns.zip xs).map (·.2) = xs := List.map_snd_zip (l₁ := ns) (l₂ := xs) (by omega)
  have hl := hp.length_eq
  rw [List.length_zip] at hl
  have hn : ∀ n ∈ ns, utf n = true ∧ len n ≤ 4398046511104 := fun n hn => by
    rw [← hz] at hn
    obtain ⟨q, hq, rfl⟩ := List.mem_map.1 hn
    exact ⟨(hu q (h5 q hq)).1, (hu q (h5 q hq)).2.1⟩
  refine ⟨by unfold len; omega, by unfold len; omega, h6, fun n h => (hn n h).1, fun n h => (hn n h).2, fun x hx => ?_, ?_, objV_perm hp hk⟩
  · rw [← hz2] at hx
    obtain ⟨q, hq, rfl⟩ := List.mem_map.1 hx
    exact (hu q (h5 q hq)).2.2
  · unfold mapN len
    rw [← (List.Perm.flatten (hp.map (·.2))).length_eq, hz2]
end Go.Eng
set_option maxRecDepth 100000
namespace Go.Proofs.YtjfaikgooldcbaaGreatDoor
open Go.Eng

theorem named_c (a b : Value) (ns : List Str) (rs : List SlH) (xs : List Vl) (w : World) (M : Mem) (hM : Sat w M) (ha : Sl M 1 ns.length a (ns.flatMap strC)) (hu : (kr b rs xs).ok M) (hl : len ns = len xs) (hne : ∀ x ∈ xs, x ≠ []) (hb : len xs.flatten ≤ 1048576) (hr : len rs ≤ 1048576) :
  Calls Tryz.prog 39 [a, b].toArray w (MRet w M (fun v : Value => v) (fun _ => True) fun v => [(0, kn v 6 (laidTo ns xs (len xs)) Nd.cells)]) := by
 have hlr := kr_len hu
 have hln := len_nonneg rs
 refine xenter ttok Tryz.func39 rfl Tryz.ntmps39 [(0, kn a 1 ns strC), (1, kr b rs xs)] [] [.sl 0 a, .sl 1 b] rfl (St.start hM) (fc 0 ha strC_len (fcons hu fnil)) (fun B hB => ?_) rfl
 refine xlitP 2 [⟨6, len rs, [], [], false, 0⟩] Nd.cells 6 38 Nd.cells_len rfl (eok rfl) (by omega) rfl (eok rfl) (fun w => by kernel_rfl) rfl fun v => ?_
 refine xloop (σ := Int × Value × Vl) (fun (k, v, l) => ⟨[(0, kn a 1 ns strC), (1, kr b rs xs)], [(2, .pv 38 (kn v 6 l Nd.cells) Nd.cells_len)], [Z 0 (.sl 0 a), Z 1 (.sl 1 b), Z 5 (.sl 2 v), Z 6 (I k)]⟩) (fun (k, v, l) => 0 ≤ k ∧ k ≤ len rs ∧ l = laidTo ns xs k) (fun (k, v, l) => (len rs - k).toNat) (0, v, [⟨6, len rs, [], [], false, 0⟩]) rfl (eok rfl) (by omega) rfl ⟨by omega, by omega, by rw [hlr]; rfl⟩ ?_
 rintro ⟨k, v, l⟩ ⟨h0, h1, hlk⟩
 refine xbr rfl (eok rfl) (by omega) (fun hb1 => ?_) (fun hb1 => ?_) <;> simp only [zb] at hb1
 ·have hst := laidTo_step (ns := ns) (xs := xs) h0 (by omega) hl
  have hle := laidTo_le ns xs (k + 1)
  have hxn : at' xs k ≠ [] := hne _ (at'_mem h0 (by omega))
  have hxp := len_pos hxn
  have hln2 := nameV_len (at' ns k) (at' xs k)
  rw [hst, len_app, hln2, ← hlk] at hle
  have hla : len (l ++ at' xs k) = len l + len (at' xs k) := len_app _ _
  have hl0 := len_nonneg l
  refine run_ok rfl (eok rfl) (by omega) ?_
  refine xknow 3 (kn (at' rs k).v 6 (at' xs k) Nd.cells) (fun w M hX => kr_at (hX.f.get (k := 1) rfl) h0 hb1) (xtag 25 3 rfl ?_)
  refine xappP 64 rfl (eok rfl) (by omega) rfl (eok rfl) rfl Tryz.underlying24 Tryz.type38 rfl rfl Nd.cells_one (by omega) fun v' => ?_
  refine xalloc 4 rfl (eok rfl) (by omega) Tryz.zeroValue38 rfl fun b1 => ?_
  refine xset { at' (l ++ at' xs k) (len l) with name := at' ns k } rfl (eok rfl) (by omega) rfl (eok rfl) rfl Tryz.sizeOf38 rfl rfl rfl (by omega) fun l' hl' => ?_
  refine xround (k + 1, v', l') rfl (eok rfl) (by omega) rfl ⟨by omega, by omega, by rw [hl', set_name l (at' xs k) (at' ns k) hxn, hst, hlk]⟩ (by show Int.toNat _ < Int.toNat _; omega)
 ·refine run_ok rfl (eok rfl) (by omega) (xtell 2 rfl ?_)
  refine xret hB rfl rfl (eok rfl) (by omega) rfl (eok rfl) fun w M hX => ⟨v, M, rfl, trivial, hX.st.done, ?_⟩
  have := hX.sl 2 rfl
  rw [hlk, show k = len xs by omega] at this
  exact fc 0 this Nd.cells_len fnil
end Go.Proofs.YtjfaikgooldcbaaGreatDoor
namespace Go.Eng
open Go.RowKit

def figP (x : Nat) : Bool := isFig (x : Int)
theorem figP_iff (x : Nat) : figP x = true ↔ 48 ≤ x ∧ x ≤ 57 := by unfold figP isFig; simp; omega
theorem figP_not (x : Nat) : figP x = false ↔ ¬ (48 ≤ x ∧ x ≤ 57) := by rw [← figP_iff]; simp
theorem dec_fig {s : Str} {i : Nat} (h : i < s.length) (hf : figP (s[i]).toNat = true) : Utf8.decode ⟨⟨s⟩⟩ i = ((s[i]).toNat, 1) := by
  have := decode_ascii ⟨⟨s⟩⟩ i h (by have := (figP_iff _).1 hf; show (s[i]).toNat < 128; omega)
  exact this
theorem dec_not {s : Str} {i : Nat} (h : i < s.length) (hf : figP (s[i]).toNat = false) : figP (Utf8.decode ⟨⟨s⟩⟩ i).1 = false := by
  rcases Nat.lt_or_ge (s[i]).toNat 128 with hl | hl
  · have := decode_ascii ⟨⟨s⟩⟩ i h hl
    rw [this]; exact hf
  · have := decode_high ⟨⟨s⟩⟩ i h hl
    rw [figP_not]; omega
theorem idx_find (s : Str) : ∀ (f pos : Nat), s.length ≤ pos + f → (∀ (j : Nat) (h : j < s.length), pos ≤ j → figP (s[j]).toNat = true) → Lib.idxFuncFrom figP false ⟨⟨s⟩⟩ f pos = -1
  | 0, _, _, _ => rfl
  | f + 1, pos, hl, ha => by
    unfold Lib.idxFuncFrom
    by_cases h : pos < s.length
    · rw [if_pos (show pos < (ByteArray.mk ⟨s⟩).size from h), dec_fig h (ha pos h (Nat.le_refl _)), if_neg (by rw [ha pos h (Nat.le_refl _)]; simp)]
      exact idx_find s f (pos + 1) (by omega) (fun j hj hp => ha j hj (by omega))
    · rw [if_neg (show ¬ pos < (ByteArray.mk ⟨s⟩).size from h)]
theorem idx_found (s : Str) : ∀ (f pos : Nat), s.length ≤ pos + f → (∃ (j : Nat) (h : j < s.length), pos ≤ j ∧ figP (s[j]).toNat = false) → ∃ (i : Nat) (h : i < s.length), Lib.idxFuncFrom figP false ⟨⟨s⟩⟩ f pos = (i : Int) ∧ figP (s[i]).toNat = false
  | 0, pos, hl, ⟨j, hj, hp, _⟩ => by omega
  | f + 1, pos, hl, ⟨j, hj, hp, hn⟩ => by
    unfold Lib.idxFuncFrom
    have h : pos < s.length := by omega
    rw [if_pos (show pos < (ByteArray.mk ⟨s⟩).size from h)]
    cases hf : figP (s[pos]).toNat with
    | true =>
      rw [dec_fig h hf, if_neg (by rw [hf]; simp)]
      have hne : pos ≠ j := by intro e; subst e; rw [hf] at hn; cases hn
      exact idx_found s f (pos + 1) (by omega) ⟨j, hj, by omega, hn⟩
    | false =>
      rw [if_pos (dec_not h hf)]
      exact ⟨pos, h, rfl, hf⟩
theorem last_found (t : Str) (h0 : ∃ h : 0 < t.length, figP (t[0]).toNat = false) : ∀ (f i : Nat), 0 < i → i ≤ t.length → i ≤ f → 0 ≤ Lib.lastIdxFuncFrom figP false ⟨⟨t⟩⟩ f i
  | 0, i, hi, _, hf => by omega
  | f + 1, i, hi, hl, hf => by
    obtain ⟨hz, hn⟩ := h0
    unfold Lib.lastIdxFuncFrom
    rw [if_pos hi]
    show 0 ≤ if figP (Lib.decodeLastL (t.take i)).1 = false then _ else _
    split
    · omega
    · rename_i hp
      have hp' : figP (Lib.decodeLastL (t.take i)).1 = true := by simpa using hp
      have hb := (figP_iff _).1 hp'
      have hlen : (t.take i).length = i := by rw [List.length_take]; omega
      have hw : Lib.decodeLastL (t.take i) = ((t[i - 1]'(by omega)).toNat, 1) := by
        have hne : ¬ t.take i = [] := by intro e; rw [e] at hlen; simp at hlen; omega
        have hg : (t.take i).getD ((t.take i).length - 1) 0 = t[i - 1]'(by omega) := by
          rw [hlen, List.getD_eq_getElem?_getD, List.getElem?_take, if_pos (by omega)]
          simp [show i - 1 < t.length from by omega]
        unfold Lib.decodeLastL at hb ⊢
        rw [if_neg hne, hg] at hb ⊢
        by_cases hc : (t[i - 1]'(by omega)).toNat < 128
        · rw [if_pos hc]
        · exfalso
          rw [if_neg hc] at hb
          dsimp only at hb
          split at hb
          · rename_i hls
            have hsl : Lib.lastStart (t.take i) < (t.take i).length := by
              rcases Nat.lt_or_ge (Lib.lastStart (t.take i)) (t.take i).length with h | h
              · exact h
              · exfalso
                have e0 : (t.take i).drop (Lib.lastStart (t.take i)) = [] := by rw [List.drop_eq_nil_iff]; exact h
                rw [e0] at hb
                have : (Lib.decodeL []).1 = 0 := by decide
                omega
            -- the rune that begins there is one byte below 128: then it is the last one
            have hd : Utf8.decode ⟨⟨(t.take i).drop (Lib.lastStart (t.take i))⟩⟩ 0 = Lib.decodeL ((t.take i).drop (Lib.lastStart (t.take i))) := rfl
            have hdl : 0 < ((t.take i).drop (Lib.lastStart (t.take i))).length := by rw [List.length_drop]; omega
            have hlow : (((t.take i).drop (Lib.lastStart (t.take i)))[0]).toNat < 128 := by
              rcases Nat.lt_or_ge (((t.take i).drop (Lib.lastStart (t.take i)))[0]).toNat 128 with h | h
              · exact h
              · have := decode_high ⟨⟨(t.take i).drop (Lib.lastStart (t.take i))⟩⟩ 0 hdl h
                rw [hd] at this; omega
            have hda := decode_ascii ⟨⟨(t.take i).drop (Lib.lastStart (t.take i))⟩⟩ 0 hdl hlow
            rw [hd] at hda
            rw [hda] at hls
            have e1 : Lib.lastStart (t.take i) = i - 1 := by rw [hlen] at hls; simp only at hls; omega
            apply hc
            have e2 : ((t.take i).drop (Lib.lastStart (t.take i)))[0] = t[i - 1]'(by omega) := by
              rw [List.getElem_drop, List.getElem_take]; first | done | congr 1 | (congr 1; omega)
            rw [← e2]; exact hlow
          · have : Utf8.runeError = 65533 := rfl
            simp only [this] at hb; omega
      rw [hw]
      by_cases hi1 : i = 1
      · exfalso
        subst hi1
        rw [hw] at hp'
        have : figP (t[0]).toNat = true := hp'
        rw [hn] at this; cases this
      · exact last_found t ⟨hz, hn⟩ f (i - 1) (by omega) (by omega) (by omega)
theorem figs_all {s : Str} : figs s = true ↔ ∀ (j : Nat) (h : j < s.length), figP (s[j]).toNat = true := by
  have key : ∀ (k : Nat) (i : Int), 0 ≤ i → (len s - i).toNat ≤ k → (figsFrom s i = true ↔ ∀ (j : Nat) (h : j < s.length), i ≤ (j : Int) → figP (s[j]).toNat = true) := by
    intro k
    induction k with
    | zero =>
      intro i h0 hk
      rw [figsFrom_end s i (by omega)]
      exact ⟨fun _ j h hj => by unfold len at hk; omega, fun _ => rfl⟩
    | succ k ih =>
      intro i h0 hk
      by_cases hlt : i < len s
      · obtain ⟨hh, he⟩ := byteAt_of_lt h0 hlt
        by_cases hf : isFig (byteAt s i) = true
        · rw [← figsFrom_step s i h0 hlt hf, ih (i + 1) (by omega) (by omega)]
          constructor
          · intro h j hj hij
            by_cases e : (j : Int) = i
            · have e' : j = i.toNat := by omega
              subst e'
              unfold figP; rw [← he]; exact hf
            · exact h j hj (by omega)
          · intro h j hj hij; exact h j hj (by omega)
        · rw [figsFrom_bad s i h0 hlt hf]
          constructor
          · intro h; cases h
          · intro h
            have := h i.toNat hh (by omega)
            unfold figP at this
            rw [← he] at this
            exact absurd this hf
      · rw [figsFrom_end s i hlt]
        exact ⟨fun _ j h hj => by unfold len at hlt; omega, fun _ => rfl⟩
  have := key (len s - 0).toNat 0 (Int.le_refl 0) (Nat.le_refl _)
  unfold figs
  rw [this]
  exact ⟨fun h j hj => h j hj (by omega), fun h j hj _ => h j hj⟩
theorem ext_mk (l : Str) (i j : Nat) : (ByteArray.mk ⟨l⟩).extract i j = ByteArray.mk ⟨(l.drop i).take (j - i)⟩ := by
  have := ByteArray.extract_mk l i j
  rw [this]
theorem trimF_figs (s : Str) : ((Lib.trimF figP ⟨⟨s⟩⟩).data.toList == []) = figs s := by
  rw [Bool.eq_iff_iff, beq_iff_eq]
  have hsz : (ByteArray.mk ⟨s⟩).size = s.length := rfl
  by_cases ha : ∀ (j : Nat) (h : j < s.length), figP (s[j]).toNat = true
  · refine ⟨fun _ => figs_all.2 ha, fun _ => ?_⟩
    have hi : Lib.idxFunc figP false ⟨⟨s⟩⟩ = -1 := idx_find s s.length 0 (by omega) (fun j h _ => ha j h)
    unfold Lib.trimF Lib.trimLeftF
    rw [if_pos hi]
    unfold Lib.trimRightF
    rw [ext_mk []]; simp
  · have hex : ∃ (j : Nat) (h : j < s.length), 0 ≤ j ∧ figP (s[j]).toNat = false := by
      apply Classical.byContradiction
      intro hc
      apply ha
      intro j h
      cases hf : figP (s[j]).toNat with
      | true => rfl
      | false => exact absurd ⟨j, h, Nat.zero_le _, hf⟩ hc
    obtain ⟨i, hi, he, hn⟩ := idx_found s s.length 0 (by omega) hex
    refine ⟨fun h => ?_, fun h => absurd (figs_all.1 h) ha⟩
    exfalso
    have hi' : Lib.idxFunc figP false ⟨⟨s⟩⟩ = (i : Int) := he
    have ht : Lib.trimLeftF figP ⟨⟨s⟩⟩ = ⟨⟨s.drop i⟩⟩ := by
      unfold Lib.trimLeftF
      rw [hi', if_neg (by omega), hsz, Int.toNat_natCast, ext_mk, List.take_of_length_le (by rw [List.length_drop]; omega)]
    unfold Lib.trimF at h
    rw [ht] at h
    have hpos : 0 < (s.drop i).length := by rw [List.length_drop]; omega
    have h0 : ∃ h : 0 < (s.drop i).length, figP ((s.drop i)[0]).toNat = false := ⟨hpos, by rw [List.getElem_drop]; exact hn⟩
    have hlast : 0 ≤ Lib.lastIdxFunc figP false ⟨⟨s.drop i⟩⟩ := last_found (s.drop i) h0 (s.drop i).length (s.drop i).length hpos (Nat.le_refl _) (Nat.le_refl _)
    have hend : 1 ≤ Lib.rightEndF figP ⟨⟨s.drop i⟩⟩ := by
      unfold Lib.rightEndF
      rw [if_pos hlast]
      by_cases hz : (Lib.lastIdxFunc figP false ⟨⟨s.drop i⟩⟩).toNat = 0
      · rw [hz]
        have e : (ByteArray.mk ⟨s.drop i⟩).extract 0 (ByteArray.mk ⟨s.drop i⟩).size = ⟨⟨s.drop i⟩⟩ := by
          rw [ext_mk]
          have : List.take ((s.drop i).length - 0) (List.drop 0 (s.drop i)) = s.drop i := by rw [List.drop_zero, Nat.sub_zero, List.take_length]
          exact congrArg (fun l => (⟨⟨l⟩⟩ : ByteArray)) this
        rw [e]
        unfold Lib.decodeGoB
        have hs2 : (ByteArray.mk ⟨s.drop i⟩).size = (s.drop i).length := rfl
        rw [if_neg (by rw [hs2]; omega)]
        have := Lib.decode_width_pos ⟨⟨s.drop i⟩⟩ 0 (by rw [hs2]; exact hpos)
        omega
      · omega
    unfold Lib.trimRightF at h
    rw [ext_mk] at h
    have h2 : (List.take (Lib.rightEndF figP ⟨⟨s.drop i⟩⟩ - 0) (List.drop 0 (s.drop i))) = [] := h
    rw [List.drop_zero, Nat.sub_zero, List.take_eq_nil_iff] at h2
    rcases h2 with h2 | h2
    · omega
    · rw [h2] at hpos; simp at hpos
end Go.Eng
namespace Go.Eng
open Go.RowKit

def AllF (l : Str) : Prop := ∀ b ∈ l, isFigB b = true
theorem figs_iff {s : Str} : figs s = true ↔ AllF s := by
  rw [figs_all]
  constructor
  · intro h b hb
    obtain ⟨j, hj, e⟩ := List.getElem_of_mem hb
    have := h j hj
    rw [e] at this; exact this
  · intro h j hj; exact h _ (List.getElem_mem hj)
theorem right_open {n : Nd} (h : right1 n = true) : n = ⟨3, 0, [], n.s, n.neg, n.e⟩ ∧ AllF n.s ∧ len n.s ≤ 100 ∧ -1000 ≤ n.e ∧ n.e ≤ 1000 ∧ len n.s + n.e ≤ 1000 ∧ ((n.s = [] ∧ n.neg = false ∧ n.e = 0) ∨ (n.s ≠ [] ∧ byteAt n.s 0 ≠ 48 ∧ byteAt n.s (len n.s - 1) ≠ 48)) := by
  obtain ⟨kind, many, name, s, neg, e⟩ := n
  unfold right1 at h
  dsimp only at h ⊢
  split at h
  · cases h
  rename_i hc
  simp only [Bool.or_eq_true, decide_eq_true_eq, bne_iff_ne, Bool.not_eq_true', beq_eq_false_iff_ne, not_or, ne_eq, Classical.not_not] at hc
  obtain ⟨⟨⟨⟨⟨⟨⟨c1, c2⟩, c3⟩, c4⟩, c5⟩, c6⟩, c7⟩, c8⟩ := hc
  subst c1; subst c2; subst c3
  refine ⟨rfl, figs_iff.1 (by simpa using c4), by omega, by omega, by omega, by omega, ?_⟩
  split at h
  · rename_i hs
    simp only [Bool.and_eq_true, Bool.not_eq_true', beq_iff_eq] at h hs
    exact .inl ⟨hs, h.1, h.2⟩
  · rename_i hs
    simp only [Bool.and_eq_true, bne_iff_ne, beq_iff_eq] at h hs
    exact .inr ⟨hs, h.1, h.2⟩
end Go.Eng
namespace Go.Eng
open Go.RowKit

def nameOK (k : Int) (x : Str) : Prop := (k = 5 → x = []) ∧ utf x = true
/-- The parts' names: none in a list; valid, and rising in an object. -/
def risL (k : Int) : List Tr → Prop
  | [] => True
  | t :: ts => nameOK k t.node.name ∧ (∀ u us, ts = u :: us → k = 6 → Op.bytesLess t.node.name u.node.name = true) ∧ risL k ts
mutual
def Tr.good : Tr → Prop
  | .mk n ps => plainB n = true ∧ n.many = len ps ∧ risL n.kind ps ∧ goodL ps
def goodL : List Tr → Prop
  | [] => True
  | t :: ts => t.good ∧ goodL ts
end
mutual
theorem Tr.good_wf : {t : Tr} → t.good → t.wf
  | .mk n ps, h => by rw [Tr.good] at h; rw [Tr.wf]; exact ⟨h.2.1, goodL_wf h.2.2.2⟩
theorem goodL_wf : {l : List Tr} → goodL l → wfL l
  | [], _ => trivial
  | t :: ts, h => by rw [goodL] at h; rw [wfL]; exact ⟨Tr.good_wf h.1, goodL_wf h.2⟩
end
/-- Texts no longer than so. -/
def shortV (q : Int) (v : Vl) : Prop := ∀ n ∈ v, len n.s ≤ q ∧ len n.name ≤ q
end Go.Eng
namespace Go.Eng
open Go.RowKit

end Go.Eng
namespace Go.Eng
open Go.RowKit

theorem shortV.mono {a b : Int} (h : a ≤ b) {v : Vl} (hs : shortV a v) : shortV b v := fun n hn => by have := hs n hn; omega
theorem Tr.named_good {x : Str} {t : Tr} (h : t.good) : (t.named x).good := by
  obtain ⟨n, ps⟩ := t
  rw [Tr.good] at h
  rw [Tr.named, Tr.good]
  exact h
end Go.Eng
namespace Go.Eng
open Go.RowKit

theorem byteAt_cons0 (a : UInt8) (l : Str) : byteAt (a :: l) 0 = (a.toNat : Int) := rfl
theorem ne_len {α : Type} {l : List α} : l ≠ [] ↔ 0 < len l := ⟨fun h => len_pos h, fun h e => by rw [e, len_nil] at h; omega⟩
theorem AllF.app {a b : Str} (h : AllF a) (k : AllF b) : AllF (a ++ b) := fun x hx => by
  rcases List.mem_append.1 hx with hx | hx
  · exact h x hx
  · exact k x hx
theorem zeros_mem {k : Int} : ∀ b ∈ zeros k, b = 48 := fun b hb => (List.mem_replicate.1 hb).2
theorem AllF.zeros (k : Int) : AllF (zeros k) := fun b hb => by rw [zeros_mem b hb]; rfl
/-! ### What a text is read as -/
theorem mk_right {neg : Bool} {s : Str} {e : Int} (h : (mk1 neg s e).2 = 0) : right1 (mk1 neg s e).1 = true := by
  unfold mk1 at h ⊢
  by_cases c1 : figs s = true
  · rw [if_pos c1] at h ⊢
    by_cases c2 : (dropZ s == []) = true
    · rw [if_pos c2]; decide +kernel
    rw [if_neg c2] at h ⊢
    split at h
    · cases h
    rename_i c3
    rw [if_neg c3]
    split at h
    · cases h
    rename_i c4
    rw [if_neg c4]
    simp only [Bool.or_eq_true, decide_eq_true_eq] at c4
    have c2' : ¬ dropZ s = [] := by simpa using c2
    have hp := trimZ_pos s c2'
    have htn : trimZ (dropZ s) ≠ [] := ne_len.2 hp
    have hpre : ∃ r, trimZ (dropZ s) ++ r = dropZ s := by
      unfold trimZ Lib.trimRightS
      have := List.dropWhile_suffix (([48] : Str).contains ·) (l := (dropZ s).reverse)
      obtain ⟨r, hr⟩ := this
      refine ⟨r.reverse, ?_⟩
      rw [← List.reverse_append, hr, List.reverse_reverse]
    obtain ⟨r, hr⟩ := hpre
    have hF : AllF (trimZ (dropZ s)) := fun b hb => (figs_drop (figs_iff.1 c1)) b (by rw [← hr]; simp [hb])
    have hfirst : byteAt (trimZ (dropZ s)) 0 ≠ 48 := by
      rw [← byteAt_l (v := r) (Int.le_refl 0) hp, hr]
      cases hd : dropZ s with
      | nil => exact absurd hd c2'
      | cons b l =>
        have := dropZ_first hd
        intro e; rw [byteAt_cons0] at e; rw [u8_eq48.2 e] at this; cases this
    have hlast : byteAt (trimZ (dropZ s)) (len (trimZ (dropZ s)) - 1) ≠ 48 := by
      obtain ⟨b, e1, e2⟩ := last_split hp
      rw [← e2]
      intro e3
      have hb : ([48] : Str).contains b = true := u8_eq48.2 e3
      have : trimZ (dropZ s) = ((dropZ s).reverse.dropWhile (([48] : Str).contains ·)).reverse := rfl
      rw [this] at e1
      have h2 := congrArg List.reverse e1
      rw [List.reverse_reverse, List.reverse_append, List.reverse_cons, List.reverse_nil, List.nil_append, List.singleton_append] at h2
      have := dropZ_first (s := (dropZ s).reverse) (b := b) (l := (Eng.sub (trimZ (dropZ s)) 0 (len (trimZ (dropZ s)) - 1)).reverse) h2
      rw [hb] at this; cases this
    unfold right1
    dsimp only
    rw [if_neg (by
      simp only [Bool.or_eq_true, decide_eq_true_eq, bne_iff_ne, Bool.not_eq_true', beq_eq_false_iff_ne, figs_iff.2 hF]
      simp only [not_or]
      refine ⟨⟨⟨⟨⟨⟨⟨by simp, by simp⟩, by simp⟩, by simp⟩, by omega⟩, by omega⟩, by omega⟩, by omega⟩), if_neg (by simpa using htn)]
    simp [hfirst, hlast]
  · rw [if_neg c1] at h; exact absurd h (by decide)
theorem mk_err {neg : Bool} {s : Str} {e : Int} (h : AllF s) : (mk1 neg s e).2 = 0 ∨ (mk1 neg s e).2 = 2 := by
  unfold mk1
  rw [if_pos (figs_iff.2 h)]
  split
  · exact .inl rfl
  · split
    · exact .inr rfl
    · split
      · exact .inr rfl
      · exact .inl rfl
def ReadOk (r : Nd × Int × Int) : Prop := (r.2.2 = 0 → right1 r.1 = true) ∧ (r.2.2 = 0 ∨ r.2.2 = 1 ∨ r.2.2 = 2)
theorem fin_ok {neg : Bool} {fg : Str} {x : Int} {pw : Str} {side : Int} (h : AllF fg) : ReadOk (fin1 neg fg x pw side) := by
  unfold fin1
  split
  · exact ⟨fun e => absurd e (by decide), .inr (.inr rfl)⟩
  · refine ⟨fun e => mk_right e, ?_⟩
    rcases mk_err (neg := neg) (e := x + side * decVal (dropZ pw)) h with e | e
    · exact .inl e
    · exact .inr (.inr e)
theorem bad_ok (n : Nd) (p : Int) : ReadOk (n, p, 1) := ⟨fun e => absurd e (show ¬ (1 : Int) = 0 by decide), .inr (.inl rfl)⟩
theorem rest_ok {s fg : Str} {neg : Bool} {x b : Int} (h : AllF fg) : ReadOk (rest1 s neg fg x b) := by
  unfold rest1
  split
  · unfold exp1
    dsimp only
    repeat' split
    all_goals first | exact bad_ok _ _ | exact fin_ok h
  · split
    · exact bad_ok _ _
    · exact fin_ok h
theorem read_ok (s : Str) : ReadOk (read1 s) := by
  have h0 := isTo_bd s [45] 0 (len_nonneg s)
  have hr := runTo_bd s (isTo s [45] 0) (by omega) h0.2
  have h1 := isTo_bd s [46] (runTo s (isTo s [45] 0)) hr.2
  unfold read1
  dsimp only
  have hF : AllF (Eng.sub s (isTo s [45] 0) (runTo s (isTo s [45] 0))) := figs_run h0.1
  split
  · exact bad_ok _ _
  · split
    · exact bad_ok _ _
    · split
      · split
        · exact bad_ok _ _
        · exact rest_ok (hF.app (figs_run (by omega)))
      · exact rest_ok hF
end Go.Eng
namespace Go.Eng
open Go.RowKit

/-- What stands from a place on. -/
def At (s : Str) (i : Int) (u : Str) : Prop := 0 ≤ i ∧ i ≤ len s ∧ from' s i = u
theorem At.add {s : Str} {i : Int} {u r : Str} (h : At s i (u ++ r)) : At s (i + len u) r := by
  obtain ⟨h0, h1, h2⟩ := h
  have hl := from_len s i h0 h1
  rw [h2, len_app] at hl
  have h3 := len_nonneg u; have h4 := len_nonneg r
  refine ⟨by omega, by omega, ?_⟩
  rw [← from_from s i (len u) h0 h3, h2]
  unfold from' len; simp
theorem At.one {s : Str} {i : Int} {c : UInt8} {r : Str} (h : At s i (c :: r)) : At s (i + 1) r := At.add (u := [c]) h
theorem At.lt {s : Str} {i : Int} {c : UInt8} {r : Str} (h : At s i (c :: r)) : i < len s := by
  have hl := from_len s i h.1 h.2.1
  rw [h.2.2, len_cons] at hl
  have := len_nonneg r; omega
theorem At.byte {s : Str} {i : Int} {c : UInt8} {r : Str} (h : At s i (c :: r)) : byteAt s i = (c.toNat : Int) := by
  obtain ⟨b, h1, h2⟩ := from_cons s i h.1 h.lt
  rw [h.2.2] at h1
  rw [h2, (List.cons.inj h1).1]
end Go.Eng
