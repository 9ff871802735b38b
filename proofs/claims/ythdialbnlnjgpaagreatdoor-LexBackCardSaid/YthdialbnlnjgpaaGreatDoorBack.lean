/-
  THE PLAIN LAW OF LexBack: a text of tokens is read as these; what any text is read as, written, is read as it. No program in it.
-/
import Derived.Test.YthdialbnlnjgpaaGreatDoorLx
import Derived.Test.YthdialbnlnjgpaaGreatDoorNumB
import Derived.Test.YthdialbnlnjgpaaGreatDoorSigns
import Derived.Lib.Join
set_option linter.unusedVariables false
set_option linter.unusedSimpArgs false
namespace Go.Eng
open Go.RowKit

theorem u8_nat {x : Int} (h0 : 0 ≤ x) (h1 : x < 256) : ((UInt8.ofNat x.toNat).toNat : Int) = x := by
  rw [show (UInt8.ofNat x.toNat).toNat = x.toNat % 256 from rfl, Nat.mod_eq_of_lt (by omega)]; omega
/-! ### A string's text is read as it -/
theorem qOne_tab : ∀ n : Fin 128, (qOne (n.val : Int) = [UInt8.ofNat n.val] ∧ 32 ≤ n.val ∧ n.val ≠ 34 ∧ n.val ≠ 92) ∨
    (byteAt (qOne (n.val : Int)) 0 = 92 ∧ escP (qOne (n.val : Int)) = ((n.val : Int), len (qOne (n.val : Int))) ∧ len (qOne (n.val : Int)) ≠ 0) := by decide +kernel
theorem unq_from {s T r : Str} : ∀ (f : Nat) (p i : Int) (acc : List Int), 0 ≤ p → p ≤ len s → 0 ≤ i → utfFrom s p = true → from' T i = qFrom s p ++ 34 :: r → (len T - i).toNat ≤ f →
    unqGo f T i acc = (toStr acc ++ from' s p, i + len (qFrom s p) + 1, 0)
  | f, p, i, acc, h0, h1, hi, hu, hT, hf => by
    have hne : from' T i ≠ [] := by rw [hT]; simp
    have hlT := len_of_from hi rfl hne
    have hpos := ne_len.1 hne
    have hlt : i < len T := by omega
    rw [unqGo_eq hf hlt, runeAt_from T i hi, runeLen_from T i hi]
    by_cases hp : p < len s
    · have hb := rune_bd s p
      have hle := rune_le s p hp
      rcases rune_dec h0 hp with ⟨h2, _⟩ | ⟨h2, h3, _, h5, h6, h7⟩
      · rw [utfFrom_bad s p h0 hp h2] at hu; cases hu
      rw [← utfFrom_step s p h0 hp (by omega)] at hu
      rw [qFrom_step h0 hp] at hT ⊢
      rw [h3] at hT ⊢
      rw [List.append_assoc] at hT
      have hnext := from_next hi hT
      have hlq := len_nonneg (qFrom s (p + rune s p) ++ 34 :: r)
      have hlT2 : len T = i + (len (qOne (runeAt s p)) + len (qFrom s (p + rune s p) ++ 34 :: r)) := by rw [hlT, hT, len_app]
      have hby : ∀ j, 0 ≤ j → j < len (qOne (runeAt s p)) → byteAt T (i + j) = byteAt (qOne (runeAt s p)) j := fun j a b => by
        rw [← byteAt_from T i j hi a, hT, byteAt_l a b]
      have hback : toStr acc ++ from' s p = toStr (acc ++ Lib.encodeRuneZ (runeAt s p)) ++ from' s (p + rune s p) := by
        rw [toStr_app, h5, from_split s p (p + rune s p) h0 (by omega), List.append_assoc]
      have ih := fun (g : Nat) (hg : (len T - (i + len (qOne (runeAt s p)))).toNat ≤ g) => unq_from (s := s) (T := T) (r := r) g (p + rune s p) (i + len (qOne (runeAt s p))) (acc ++ Lib.encodeRuneZ (runeAt s p)) (by omega) hle (by have := len_nonneg (qOne (runeAt s p)); omega) hu hnext hg
      rw [hback, len_app, show i + (len (qOne (runeAt s p)) + len (qFrom s (p + rune s p))) + 1 = i + len (qOne (runeAt s p)) + len (qFrom s (p + rune s p)) + 1 from by omega]
      by_cases hc : byteAt s p < 128
      · obtain ⟨h8, h9⟩ := h6 hc
        have hc0 := byteAt_bd s p
        have tab := qOne_tab ⟨(byteAt s p).toNat, by omega⟩
        dsimp only at tab
        rw [show (((byteAt s p).toNat : Nat) : Int) = byteAt s p from by omega] at tab
        rw [h9] at hby hT ih ⊢
        rcases tab with ⟨q1, q2, q3, q4⟩ | ⟨q1, q2, q3⟩
        · have hl1 : len (qOne (byteAt s p)) = 1 := by rw [q1]; rfl
          have hTb : byteAt T i = byteAt s p := by
            have := hby 0 (Int.le_refl 0) (by omega)
            rw [Int.add_zero, q1, byteAt_cons0] at this
            rw [this]; exact u8_nat hc0.1 (by omega)
          have hrl := rune_low hi hlt (by omega)
          rw [hrl.1, hrl.2, hTb, if_neg (by omega), if_neg (by omega), if_neg (by omega)]
          rw [hl1] at ih ⊢
          exact ih _ (by omega)
        · have hlp := len_nonneg (qOne (byteAt s p))
          have hTb : byteAt T i = 92 := by
            have := hby 0 (Int.le_refl 0) (by omega)
            rw [Int.add_zero, q1] at this; exact this
          have hra : runeAt T i = 92 := (runeAt_low hi hlt (by omega)).2 hTb
          have hesc : escP (from' T i) = (byteAt s p, len (qOne (byteAt s p))) := by
            rw [← q2]
            refine esc_agr (by rw [q2]; exact q3) (by rw [q2, hT, len_app]; dsimp only; omega) (fun j a b => ?_)
            rw [q2] at b
            rw [hT]; exact byteAt_l a b
          rw [hra, if_neg (by omega), if_pos rfl, hesc, if_neg q3]
          exact ih _ (by omega)
      · have hq := qOne_high (h7 (by omega))
        have hlq2 : len (qOne (runeAt s p)) = rune s p := by rw [hq, h5, sub_len h0 (by omega) hle]; omega
        have agr := rune_agr (s := s) (s' := T) (i := p) (i' := i) h0 hi (by omega) hp (by omega) (fun j a b => by
          rw [hby j a (by omega), hq, h5, byteAt_sub h0 a (by omega) hle])
        have h8 := h7 (by omega)
        have hnn := (rune_none hi hlt).2
        rw [agr.2.1, agr.2.2, h3, if_neg (by omega), if_neg (by omega), if_neg (by
          rintro (x | x)
          · omega
          · have := hnn (by rw [agr.2.1, agr.2.2, h3]; exact x)
            omega)]
        rw [hlq2] at ih ⊢
        exact ih _ (by omega)
    · rw [qFrom_end hp] at hT ⊢
      have hTb : byteAt T i = 34 := (byte_of_from hi hT).2
      rw [if_pos ((runeAt_low hi hlt (by omega)).2 hTb), from_nil s p (by omega)]
      simp [len_nil]
termination_by f p => (len s - p).toNat
decreasing_by all_goals omega
theorem unq_quote {s : Str} (h : utf s = true) (r : Str) : unqP (quoteP s ++ r) = (s, len (quoteP s), 0) := by
  have e : quoteP s ++ r = 34 :: (qFrom s 0 ++ 34 :: r) := by unfold quoteP; simp
  have hl : len (quoteP s) = 1 + len (qFrom s 0) + 1 := by unfold quoteP; rw [len_app, len_cons]; simp [len]; omega
  rw [e, hl]
  unfold unqP
  have hp : Lib.hasPrefix (34 :: (qFrom s 0 ++ 34 :: r)) [34] = true := pre_one.2 ⟨by simp, rfl⟩
  rw [if_pos hp, unq_from (s := s) (r := r) _ 0 1 [] (Int.le_refl 0) (len_nonneg s) (by omega) h rfl (by unfold len; simp; omega)]
  rfl

/-! ### What a string is read as is valid -/
theorem utf_shift {a b : Str} : ∀ (j : Int), 0 ≤ j → utfFrom b j = true → utfFrom (a ++ b) (len a + j) = true
  | j, h0, h => by
    have hl := len_app a b
    have ha := len_nonneg a
    by_cases hj : j < len b
    · by_cases hr : rune b j = 0
      · rw [utfFrom_bad b j h0 hj hr] at h; cases h
      have hb := rune_bd b j
      have hle := rune_le b j hj
      rw [← utfFrom_step b j h0 hj (by omega)] at h
      have agr := rune_agr (s := b) (s' := a ++ b) (i := j) (i' := len a + j) h0 (by omega) (by omega) hj (by omega) (fun k x y => by
        rw [show len a + j + k = len a + (j + k) from by omega, byteAt_r (by omega)])
      rw [← utfFrom_step (a ++ b) (len a + j) (by omega) (by omega) (by rw [agr.1]; omega), agr.1, Int.add_assoc]
      exact utf_shift (j + rune b j) (by omega) h
    · exact utfFrom_end _ _ (by omega)
termination_by j => (len b - j).toNat
theorem utf_app {a b : Str} (hb : utf b = true) : ∀ (i : Int), 0 ≤ i → i ≤ len a → utfFrom a i = true → utfFrom (a ++ b) i = true
  | i, h0, h1, h => by
    have hl := len_app a b
    have hbn := len_nonneg b
    by_cases hi : i < len a
    · by_cases hr : rune a i = 0
      · rw [utfFrom_bad a i h0 hi hr] at h; cases h
      have hbd := rune_bd a i
      have hle := rune_le a i hi
      rw [← utfFrom_step a i h0 hi (by omega)] at h
      have agr := rune_agr (s := a) (s' := a ++ b) (i := i) (i' := i) h0 h0 (by omega) hi (by omega) (fun k x y => byteAt_l (by omega) (by omega))
      rw [← utfFrom_step (a ++ b) i h0 (by omega) (by rw [agr.1]; omega), agr.1]
      exact utf_app hb (i + rune a i) (by omega) hle h
    · have e : i = len a := by omega
      subst e
      have := utf_shift (a := a) (b := b) 0 (Int.le_refl 0) hb
      rwa [Int.add_zero] at this
termination_by i => (len a - i).toNat
theorem utf_one {s : Str} (hn : 0 < len s) (h : rune s 0 = len s) : utf s = true := by
  unfold utf
  rw [← utfFrom_step s 0 (Int.le_refl 0) hn (by omega)]
  exact utfFrom_end s (0 + rune s 0) (by omega)
theorem utf_enc (r : Int) : utf (toStr (Lib.encodeRuneZ r)) = true := by
  have b0 : ∀ (x : UInt8) (l : Str), byteAt (x :: l) 0 = (x.toNat : Int) := fun _ _ => rfl
  have b1 : ∀ (x y : UInt8) (l : Str), byteAt (x :: y :: l) (0 + 1) = (y.toNat : Int) := fun _ _ _ => rfl
  have b2 : ∀ (x y z : UInt8) (l : Str), byteAt (x :: y :: z :: l) (0 + 2) = (z.toNat : Int) := fun _ _ _ _ => rfl
  have b3 : ∀ (x y z u : UInt8) (l : Str), byteAt (x :: y :: z :: u :: l) (0 + 3) = (u.toNat : Int) := fun _ _ _ _ _ => rfl
  have l1 : ∀ (x : UInt8), len [x] = 1 := fun _ => rfl
  have l2 : ∀ (x y : UInt8), len [x, y] = 2 := fun _ _ => rfl
  have l3 : ∀ (x y z : UInt8), len [x, y, z] = 3 := fun _ _ _ => rfl
  have l4 : ∀ (x y z u : UInt8), len [x, y, z, u] = 4 := fun _ _ _ _ => rfl
  unfold Lib.encodeRuneZ
  split
  · refine utf_one (show (0 : Int) < 1 by decide) ?_
    show rune [UInt8.ofNat r.toNat] 0 = 1
    unfold rune
    rw [b0, u8_nat (by omega) (by omega)]
    dsimp only
    rw [if_pos (by omega)]
  split
  · refine utf_one (show (0 : Int) < 2 by decide) ?_
    show rune [UInt8.ofNat (192 + r / 64).toNat, UInt8.ofNat (128 + r % 64).toNat] 0 = 2
    unfold rune cont
    rw [b0, b1, l2, u8_nat (by omega) (by omega), u8_nat (by omega) (by omega)]
    dsimp only
    simp only [Bool.and_eq_true, decide_eq_true_eq]
    rw [if_neg (by omega), if_pos (by omega)]
  split
  · refine utf_one (show (0 : Int) < 3 by decide) ?_
    show rune [UInt8.ofNat (224 + r / 4096).toNat, UInt8.ofNat (128 + r / 64 % 64).toNat, UInt8.ofNat (128 + r % 64).toNat] 0 = 3
    unfold rune cont
    rw [b0, b1, b2, l3, u8_nat (by omega) (by omega), u8_nat (by omega) (by omega), u8_nat (by omega) (by omega)]
    dsimp only
    simp only [Bool.and_eq_true, Bool.or_eq_true, decide_eq_true_eq, beq_iff_eq]
    rw [if_neg (by omega), if_neg (by omega), if_pos (by omega), if_neg (by omega)]
  split
  · refine utf_one (show (0 : Int) < 4 by decide) ?_
    show rune [UInt8.ofNat (240 + r / 262144).toNat, UInt8.ofNat (128 + r / 4096 % 64).toNat, UInt8.ofNat (128 + r / 64 % 64).toNat, UInt8.ofNat (128 + r % 64).toNat] 0 = 4
    unfold rune cont
    rw [b0, b1, b2, b3, l4, u8_nat (by omega) (by omega), u8_nat (by omega) (by omega), u8_nat (by omega) (by omega), u8_nat (by omega) (by omega)]
    dsimp only
    simp only [Bool.and_eq_true, Bool.or_eq_true, decide_eq_true_eq, beq_iff_eq]
    rw [if_neg (by omega), if_neg (by omega), if_neg (by omega), if_pos (by omega), if_neg (by omega)]
  · decide +kernel
theorem utf_add {acc : List Int} (h : utf (toStr acc) = true) (r : Int) : utf (toStr (acc ++ Lib.encodeRuneZ r)) = true := by
  rw [toStr_app]
  exact utf_app (utf_enc r) 0 (Int.le_refl 0) (len_nonneg _) h
theorem utf_nil : utf [] = true := by decide +kernel
theorem unqGo_utf {s : Str} : ∀ (f : Nat) (i : Int) (acc : List Int), utf (toStr acc) = true → utf (unqGo f s i acc).1 = true
  | 0, _, _, _ => by unfold unqGo; exact utf_nil
  | f + 1, i, acc, h => by
    unfold unqGo
    split
    · split
      · exact h
      · split
        · split
          · exact utf_nil
          · exact unqGo_utf f _ _ (utf_add h _)
        · split
          · exact utf_nil
          · exact unqGo_utf f _ _ (utf_add h _)
    · exact utf_nil
theorem unq_utf (s : Str) : utf (unqP s).1 = true := by
  unfold unqP
  split
  · exact unqGo_utf _ _ _ utf_nil
  · exact utf_nil
theorem utf_low {s : Str} (h : ∀ j : Int, 0 ≤ j → j < len s → byteAt s j < 128) : ∀ i : Int, 0 ≤ i → utfFrom s i = true
  | i, h0 => by
    by_cases hi : i < len s
    · have hr : rune s i = 1 := by unfold rune; dsimp only; rw [if_pos (h i h0 hi)]
      rw [← utfFrom_step s i h0 hi (by omega), hr]
      exact utf_low h (i + 1) (by omega)
    · exact utfFrom_end _ _ hi
termination_by i => (len s - i).toNat

/-! ### What a text is read as can be written -/
theorem word_all (s : Str) : ∀ j : Int, 0 ≤ j → j < len (wordP s) → isWordR (byteAt (wordP s) j) (j == 0) = true := fun j a b => by
  have hb := wordTo_bd (s := s) (i := 0) (Int.le_refl 0) (len_nonneg s)
  rw [wordP_len] at b
  have := (wordTo_of (s := s) 0 (Int.le_refl 0)).1 j a b
  unfold wordP
  rw [byteAt_sub (Int.le_refl 0) a (by omega) hb.2, Int.zero_add]; exact this
theorem word_right {s : Str} (h : wordP s ≠ []) : word6 (wordP s) = true := word6_iff.2 ⟨h, word_all s⟩
theorem isWordR_lt {c : Int} {f : Bool} (h : isWordR c f = true) : c < 128 := by
  rcases Int.lt_or_le c 128 with x | x
  · exact x
  · rw [isWordR_high x] at h; cases h
theorem word_utf (s : Str) : utf (wordP s) = true := utf_low (fun j a b => isWordR_lt (word_all s j a b)) 0 (Int.le_refl 0)
theorem tok_right {s : Str} {t : Tk} {n : Int} (h : tokP s = (t, n, 0)) : right8 t = true := by
  have hno : (noNd = noNd) := rfl
  unfold tokP at h
  split at h
  · cases h; unfold right8; simp [word_utf]
  split at h
  · simp only [Prod.mk.injEq] at h
    rw [← h.1]; unfold right8; simp [unq_utf]
  split at h
  · rename_i hm
    cases h
    rcases markP_mem s with e | e
    · exact absurd e hm
    · unfold right8 isMark8; simp [e.1]
  split at h
  · rename_i hw
    cases h; unfold right8; simp [word_right hw]
  split at h
  · simp only [Prod.mk.injEq] at h
    rw [← h.1]; unfold right8; simp [unq_utf]
  split at h
  · split at h
    · rename_i hr
      simp only [Prod.mk.injEq] at h
      exact absurd h.2.2 hr
    · rename_i hr
      cases h
      have := (read_ok (runN s)).1 (by simpa using hr)
      unfold right8; simp [this]
  · simp at h
theorem tok_err {s : Str} {t : Tk} {n e : Int} (h : tokP s = (t, n, e)) : e = 0 ∨ e = 1 ∨ e = 2 := by
  have u1 := unqP_bd (from' s 1)
  have u2 := unqP_bd s
  have r := (read_ok (runN s)).2
  unfold tokP at h
  repeat' split at h
  all_goals (simp only [Prod.mk.injEq] at h; omega)

/-! ### A token's text is read as it -/
def Blk (r : Str) : Prop := r = [] ∨ ∃ q, r = 32 :: q
theorem Blk.stop {r : Str} (h : Blk r) (v : Str) : Stop v r := by
  rcases h with rfl | ⟨q, rfl⟩
  · exact .inl rfl
  · exact .inr (.inl ⟨by simp, rfl⟩)
theorem word_self {s : Str} (h : word6 s = true) {r : Str} (hr : Blk r) : wordP (s ++ r) = s := by
  have h6 := word6_iff.1 h
  have e : wordTo s 0 = len s := wordTo_is (Int.le_refl _) h6.2 (fun x => absurd x (Int.lt_irrefl _)) 0 (Int.le_refl 0) (len_nonneg s)
  have e2 : wordP (s ++ []) = s := by rw [List.append_nil]; unfold wordP; rw [e]; exact sub_all s (len s) (Int.le_refl _)
  exact word_agr e2 (hr.stop [])
theorem word_head {s : Str} (h : word6 s = true) : ∃ a q, s = a :: q ∧ isLetter (a.toNat : Int) = true := by
  obtain ⟨h1, h2⟩ := word6_iff.1 h
  cases s with
  | nil => exact absurd rfl h1
  | cons a q =>
    have := h2 0 (Int.le_refl 0) (ne_len.1 h1)
    rw [byteAt_cons0] at this
    unfold isWordR at this
    simp only [beq_self_eq_true, Bool.not_true, Bool.false_and, Bool.or_false] at this
    exact ⟨a, q, rfl, this⟩
theorem mark_tab : ∀ m ∈ marks8, tokP (m ++ []) = (⟨1, m, noNd, 0⟩, len m, 0) := by decide +kernel
theorem quote_head (s : Str) : ∃ q, quoteP s = 34 :: q := ⟨_, rfl⟩
theorem tok_back {t : Tk} (h : right8 t = true) {r : Str} (hr : Blk r) : tokP (oneP t ++ r) = ({ t with pos := 0 }, len (oneP t), 0) ∧ oneP t ≠ [] := by
  obtain ⟨kind, s, c, pos⟩ := t
  unfold right8 at h
  unfold oneP
  dsimp only at h ⊢
  split at h
  · rename_i hk
    simp only [beq_iff_eq] at hk
    simp only [Bool.and_eq_true, decide_eq_true_eq] at h
    subst hk
    obtain ⟨h1, rfl⟩ := h
    unfold isMark8 at h1
    have hm : s ∈ marks8 := by simpa using h1
    have hn : s ≠ [] := by
      have : ∀ m ∈ marks8, m ≠ [] := by decide
      exact this s hm
    rw [if_neg (by decide), if_neg (by decide), if_neg (by decide)]
    exact ⟨tok_stable hn (mark_tab s hm) (hr.stop []), hn⟩
  split at h
  · rename_i hk
    simp only [beq_iff_eq] at hk
    simp only [Bool.and_eq_true, decide_eq_true_eq] at h
    subst hk
    obtain ⟨h1, rfl⟩ := h
    obtain ⟨a, q, hs, ha⟩ := word_head h1
    have hw := word_self h1 hr
    have hn : s ≠ [] := by rw [hs]; simp
    rw [if_neg (by decide), if_neg (by decide), if_neg (by decide)]
    refine ⟨?_, hn⟩
    have hb : byteAt (s ++ r) 0 = (a.toNat : Int) := by rw [hs]; rfl
    have ha46 : ¬ (a.toNat : Int) = 46 := fun e => by rw [e] at ha; cases ha
    have hm : markP (s ++ r) = [] := by rw [hs]; exact mark_nil (isLetter_mark ha)
    unfold tokP
    rw [hb, if_neg (fun x => ha46 x.1), if_neg (fun x => ha46 x.1), hm, if_neg (fun x => x rfl), hw, if_pos hn]
  split at h
  · rename_i hk
    simp only [Bool.or_eq_true, beq_iff_eq] at hk
    simp only [Bool.and_eq_true, decide_eq_true_eq] at h
    obtain ⟨h1, rfl⟩ := h
    obtain ⟨q, hq⟩ := quote_head s
    have hu := unq_quote h1 r
    rcases hk with rfl | rfl
    · rw [if_pos rfl]
      by_cases hw : ¬ wordP s = s ∨ s = []
      · rw [if_pos hw]
        refine ⟨?_, by simp⟩
        have hw0 : wordP (quoteP s ++ r) = [] := by rw [hq]; exact word_nil rfl
        have hp : Lib.hasPrefix (quoteP s ++ r) [34] = true := by rw [hq]; exact pre_one.2 ⟨by simp, rfl⟩
        unfold tokP
        rw [List.cons_append, byteAt_cons0, from1, hw0, if_neg (fun x => x.2 rfl), if_pos ⟨rfl, hp⟩, hu, len_cons]
        simp only [Prod.mk.injEq, true_and, and_true]; omega
      · rw [if_neg hw]
        simp only [not_or, Classical.not_not] at hw
        refine ⟨?_, by simp⟩
        have h6 : word6 s = true := by rw [← hw.1]; exact word_right (by rw [hw.1]; exact hw.2)
        have hws := word_self h6 hr
        unfold tokP
        rw [List.cons_append, byteAt_cons0, from1, hws, if_pos ⟨rfl, hw.2⟩, len_cons]
        simp only [Prod.mk.injEq, true_and, and_true]; omega
    · rw [if_neg (by decide), if_pos rfl]
      refine ⟨?_, by rw [hq]; simp⟩
      have hb : byteAt (quoteP s ++ r) 0 = 34 := by rw [hq]; rfl
      have hw0 : wordP (quoteP s ++ r) = [] := word_nil (by rw [hb]; rfl)
      have hm0 : markP (quoteP s ++ r) = [] := by rw [hq]; exact mark_nil rfl
      unfold tokP
      rw [hb, if_neg (fun x => absurd x.1 (by decide)), if_neg (fun x => absurd x.1 (by decide)), hm0, if_neg (fun x => x rfl), hw0, if_neg (fun x => x rfl), if_pos rfl, hu]
  split at h
  · rename_i hk
    simp only [beq_iff_eq] at hk
    simp only [Bool.and_eq_true, beq_iff_eq] at h
    subst hk
    obtain ⟨rfl, h1⟩ := h
    rw [if_neg (by decide), if_neg (by decide), if_pos rfl]
    obtain ⟨p1, ⟨g, q, hg, hgf⟩, p3⟩ := print_form h1
    obtain ⟨a, q', ha, hab⟩ : ∃ a q', print1 c = a :: q' ∧ ((a.toNat : Int) = 45 ∨ isFig (a.toNat : Int) = true) := by
      rw [hg]
      cases c.neg with
      | true => exact ⟨45, g :: q, rfl, .inl rfl⟩
      | false => exact ⟨g, q, rfl, .inr hgf⟩
    have hn : print1 c ≠ [] := by rw [ha]; simp
    refine ⟨?_, hn⟩
    have hrun : runN (print1 c ++ r) = print1 c := by
      have e : runN (print1 c ++ []) = print1 c := by
        rw [runN_take, List.append_nil]; exact takeWhile_self p3
      exact run_agr e (hr.stop [])
    have hb : byteAt (print1 c ++ r) 0 = (a.toNat : Int) := by rw [ha]; rfl
    obtain ⟨g1, g2⟩ := fig_mark hab
    have hm : markP (print1 c ++ r) = [] := by rw [ha]; exact mark_nil g1
    have hw : wordP (print1 c ++ r) = [] := word_nil (by rw [hb]; exact g2)
    have h46 : ¬ (a.toNat : Int) = 46 := fun e => by rw [e] at hab; revert hab; decide
    have h34 : ¬ (a.toNat : Int) = 34 := fun e => by rw [e] at hab; revert hab; decide
    unfold tokP
    rw [hb, if_neg (fun x => h46 x.1), if_neg (fun x => h46 x.1), hm, if_neg (fun x => x rfl), hw, if_neg (fun x => x rfl), if_neg h34, if_pos hab, hrun, p1, if_neg (by simp)]
  · cases h

/-! ### A text of tokens is read as these -/
theorem back_from {s : Str} : ∀ (l : List Tk) (i : Int), (∀ t ∈ l, right8 t = true) → 0 ≤ i → i ≤ len s → from' s i = Lib.join (l.map oneP) [32] → ∃ l', Lx s i l' ∧ l'.map (strip false) = l.map (strip false)
  | [], i, _, h0, h1, hs => by
    refine ⟨[], .done h0 ?_, rfl⟩
    have := from_len s i h0 h1
    rw [hs, List.map_nil, Lib.join_nil, len_nil] at this
    omega
  | t :: r, i, h, h0, h1, hs => by
    rw [List.map_cons, Lib.join_cons] at hs
    have ht := h t (by simp)
    have hb : Blk (Lib.joinTail [32] (r.map oneP)) := by
      cases r with
      | nil => exact .inl rfl
      | cons u r => exact .inr ⟨_, by rw [List.map_cons]; rfl⟩
    obtain ⟨k1, k2⟩ := tok_back ht hb
    have hfl := from_len s i h0 h1
    have hp := ne_len.1 k2
    have hjn := len_nonneg (Lib.joinTail [32] (r.map oneP))
    rw [hs, len_app] at hfl
    have hlt : i < len s := by omega
    have hnext := from_next h0 hs
    have hfl2 : i + len (oneP t) ≤ len s := by omega
    cases r with
    | nil =>
      rw [List.map_nil, show Lib.joinTail [32] [] = [] from rfl] at hnext hfl
      rw [len_nil] at hfl
      refine ⟨_, .step (t := { t with pos := 0 }) (n := len (oneP t)) h0 hlt (by rw [hs]; exact k1) (.done ?_ ?_), rfl⟩
      · have := blankTo_bd s (i + len (oneP t)) (by omega) hfl2; omega
      · have := blankTo_bd s (i + len (oneP t)) (by omega) hfl2; omega
    | cons u r =>
      have hj : Lib.joinTail [32] ((u :: r).map oneP) = 32 :: Lib.join ((u :: r).map oneP) [32] := by
        rw [List.map_cons, Lib.join_cons]
        show [32] ++ oneP u ++ Lib.joinTail [32] (r.map oneP) = _
        simp
      rw [hj] at hnext
      have hl3 := len_of_from (by omega) hnext (by simp)
      have hln := len_nonneg (Lib.join ((u :: r).map oneP) [32])
      rw [len_cons] at hl3
      have hn2 : from' s (i + len (oneP t) + 1) = Lib.join ((u :: r).map oneP) [32] := by
        rw [← from_from s (i + len (oneP t)) 1 (by omega) (by omega), hnext]; rfl
      have hnb : blankTo (Lib.join ((u :: r).map oneP) [32]) 0 = 0 := by
        rw [List.map_cons, Lib.join_cons]
        have hbu : Blk (Lib.joinTail [32] (r.map oneP)) := by
          cases r with
          | nil => exact .inl rfl
          | cons v r => exact .inr ⟨_, by rw [List.map_cons]; rfl⟩
        obtain ⟨u1, u2⟩ := tok_back (h u (by simp)) hbu
        have hpu := ne_len.1 u2
        have hpos : 0 < len (oneP u ++ Lib.joinTail [32] (r.map oneP)) := by rw [len_app]; have := len_nonneg (Lib.joinTail [32] (r.map oneP)); omega
        exact blankTo_stop (Int.le_refl 0) hpos (tok_noblank hpos u1)
      have hbl : blankTo s (i + len (oneP t)) = i + len (oneP t) + 1 := by
        rw [blankTo_from (by omega), hnext, blankTo_cons (by decide), hnb]; omega
      obtain ⟨l', g1, g2⟩ := back_from (s := s) (u :: r) (i + len (oneP t) + 1) (fun x hx => h x (by simp [List.mem_cons.1 hx])) (by omega) (by omega) hn2
      refine ⟨_, .step (t := { t with pos := 0 }) (n := len (oneP t)) h0 hlt (by rw [hs]; exact k1) (by rw [hbl]; exact g1), ?_⟩
      rw [List.map_cons, List.map_cons, g2]; rfl
theorem texts_right {l : List Tk} (h : ∀ t ∈ l, right8 t = true) : textsP l = l.map oneP := by
  unfold textsP
  rw [List.filter_eq_self.2 (fun t ht => ?_)]
  have := h t ht
  unfold right8 at this
  simp only [bne_iff_ne, ne_eq]
  intro e
  rw [e] at this
  exact absurd this (by simp)
theorem text_cut (l : List Tk) (e : Tk) (h : e.kind = 6) : textP (l ++ [e]) = textP l := by
  unfold textP textsP
  rw [List.filter_append]; simp [h]
theorem back_lx {l : List Tk} (h : ∀ t ∈ l, right8 t = true) : ∃ l', lexP (textP l) = (l' ++ [endTk (textP l)], 0, 0) ∧ l'.map (strip false) = l.map (strip false) := by
  have ht : textP l = Lib.join (l.map oneP) [32] := by unfold textP; rw [texts_right h]
  have hz : blankTo (textP l) 0 = 0 := by
    rw [ht]
    cases l with
    | nil => rfl
    | cons u r =>
      rw [List.map_cons, Lib.join_cons]
      have hbu : Blk (Lib.joinTail [32] (r.map oneP)) := by
        cases r with
        | nil => exact .inl rfl
        | cons v r => exact .inr ⟨_, by rw [List.map_cons]; rfl⟩
      obtain ⟨u1, u2⟩ := tok_back (h u (by simp)) hbu
      have hpu := ne_len.1 u2
      have hpos : 0 < len (oneP u ++ Lib.joinTail [32] (r.map oneP)) := by rw [len_app]; have := len_nonneg (Lib.joinTail [32] (r.map oneP)); omega
      exact blankTo_stop (Int.le_refl 0) hpos (tok_noblank hpos u1)
  obtain ⟨l', g1, g2⟩ := back_from (s := textP l) l 0 h (Int.le_refl 0) (len_nonneg _) ht
  exact ⟨l', Lx.lex (by rw [hz]; exact g1), g2⟩
/-- A text of right tokens. -/
theorem back_text {l : List Tk} (h : ∀ t ∈ l, right8 t = true) : (lexP (textP l)).2.2 = 0 ∧ sameTk (lexP (textP l)).1 (l ++ [⟨6, [], noNd, 0⟩]) false = true := by
  obtain ⟨l', h1, h2⟩ := back_lx h
  rw [h1]
  refine ⟨rfl, ?_⟩
  unfold sameTk
  rw [decide_eq_true_eq]
  simp only [List.map_append, h2]
  simp [strip, endTk]
theorem Lx.right8 {s : Str} {i : Int} {l : List Tk} (h : Lx s i l) : ∀ t ∈ l, Eng.right8 t = true := by
  induction h with
  | done _ _ => intro t ht; cases ht
  | @step i n t l _ _ h _ ih =>
    intro t' ht
    rcases List.mem_cons.1 ht with rfl | ht
    · have : Eng.right8 t = true := tok_right h
      exact this
    · exact ih t' ht
/-- What a text is read as. -/
theorem back_lexed {s : Str} (h : (lexP s).2.2 = 0) : (lexP (textP (lexP s).1)).2.2 = 0 ∧ sameTk (lexP s).1 (lexP (textP (lexP s).1)).1 false = true := by
  obtain ⟨l, h1, h2⟩ := lexP_ok h
  rw [h2]
  dsimp only
  rw [text_cut l (endTk s) rfl]
  obtain ⟨l', h3, h4⟩ := back_lx h1.right8
  rw [h3]
  refine ⟨rfl, ?_⟩
  unfold sameTk
  rw [decide_eq_true_eq]
  simp only [List.map_append, h4]
  simp [strip, endTk]
theorem LxE.err {s : Str} {i p e : Int} (h : LxE s i p e) : e = 1 ∨ e = 2 := by
  induction h with
  | here _ _ h he => have := tok_err h; omega
  | there _ _ _ _ ih => exact ih
/-! ### Bounds -/
theorem right_bd {t : Tk} (h : Eng.right8 t = true) (hl : len t.s ≤ 1048576) : TkB t := by
  have h0 : len t.c.s ≤ 1048576 ∧ -1000000 ≤ t.c.e ∧ t.c.e ≤ 1000000 := by
    unfold Eng.right8 at h
    have no : t.c = noNd → len t.c.s ≤ 1048576 ∧ -1000000 ≤ t.c.e ∧ t.c.e ≤ 1000000 := fun e => by rw [e]; decide
    split at h
    · simp only [Bool.and_eq_true, decide_eq_true_eq] at h; exact no h.2
    split at h
    · simp only [Bool.and_eq_true, decide_eq_true_eq] at h; exact no h.2
    split at h
    · simp only [Bool.and_eq_true, decide_eq_true_eq] at h; exact no h.2
    split at h
    · simp only [Bool.and_eq_true] at h
      obtain ⟨_, _, h1, h2, h3, _⟩ := right_open h.2
      omega
    · cases h
  exact ⟨hl, h0.1, fun _ => h0.2⟩
theorem given_open {l : List Tk} (h : given8 l = true) : len l ≤ 41 ∧ (∀ t ∈ l, Eng.right8 t = true) ∧ ∀ t ∈ l, TkB t := by
  unfold given8 at h
  simp only [Bool.and_eq_true, List.all_eq_true, decide_eq_true_eq] at h
  exact ⟨h.1, fun t ht => (h.2 t ht).2, fun t ht => right_bd (h.2 t ht).2 (by have := (h.2 t ht).1; omega)⟩
theorem enc_len (r : Int) : len (Lib.encodeRuneZ r) ≤ 4 := by
  unfold Lib.encodeRuneZ
  repeat' split
  all_goals (unfold len; simp)
theorem unqGo_len {s : Str} : ∀ (f : Nat) (i : Int) (acc : List Int), 0 ≤ i → i ≤ len s → len (unqGo f s i acc).1 ≤ len acc + 4 * (len s - i)
  | 0, i, acc, h0, h1 => by unfold unqGo; have := len_nonneg acc; rw [len_nil]; omega
  | f + 1, i, acc, h0, h1 => by
    have ha := len_nonneg acc
    have hn : len ([] : Str) = 0 := rfl
    have he := enc_len
    unfold unqGo
    split
    · rename_i hlt
      have hf := from_len s i h0 h1
      split
      · have : len (toStr acc) = len acc := by unfold toStr len; simp
        dsimp only; omega
      · split
        · have hb := escP_le (from' s i)
          split
          · dsimp only; omega
          · have := unqGo_len (s := s) f (i + (escP (from' s i)).2) (acc ++ Lib.encodeRuneZ (escP (from' s i)).1) (by omega) (by omega)
            have := he (escP (from' s i)).1
            rw [len_app] at *
            omega
        · split
          · dsimp only; omega
          · have hb := runeLen_bd h0 hlt
            rw [runeLen_from s i h0]
            have := unqGo_len (s := s) f (i + runeLen s i) (acc ++ Lib.encodeRuneZ (runeAt (from' s i) 0)) (by omega) (by omega)
            have := he (runeAt (from' s i) 0)
            rw [len_app] at *
            omega
    · dsimp only; omega
theorem unq_len (s : Str) : len (unqP s).1 ≤ 4 * len s := by
  have := len_nonneg s
  unfold unqP
  split
  · rename_i h
    have h1 : (1 : Int) ≤ len s := hasPrefix_len h
    have := unqGo_len (s := s) s.length 1 [] (by omega) h1
    rw [len_nil] at this; omega
  · show len ([] : Str) ≤ _
    rw [len_nil]; omega
theorem tok_len {s : Str} {t : Tk} {n : Int} (h : tokP s = (t, n, 0)) : len t.s ≤ 4 * len s + 2 := by
  have h0 := len_nonneg s
  have h1 := from_bd s 1
  have w1 := wordP_bd (from' s 1)
  have w2 := wordP_bd s
  have u1 := unq_len (from' s 1)
  have u2 := unq_len s
  have m1 : len (markP s) ≤ 2 := by
    rcases markP_mem s with e | e
    · rw [e]; decide
    · have : ∀ m ∈ marks8, len m ≤ 2 := by decide
      exact this _ e.1
  have n0 : len ([] : Str) = 0 := rfl
  unfold tokP at h
  repeat' split at h
  all_goals (simp only [Prod.mk.injEq] at h; first | (rw [← h.1]; dsimp only; omega) | (exfalso; omega))
theorem Lx.bd {s : Str} (hs : len s ≤ 400) {i : Int} {l : List Tk} (h : Lx s i l) : (∀ t ∈ l, TkB t) ∧ (i ≤ len s → len l ≤ len s - i) := by
  induction h with
  | done _ _ => exact ⟨fun t ht => (by cases ht), fun x => by rw [len_nil]; omega⟩
  | @step i n t l h0 h1 h _ ih =>
    have hb := tok_bd' h0 h1 h
    have hbl := blankTo_bd s (i + n) (by omega) hb.2.1
    have hl := tok_len h
    have hf := from_len s i h0 (by omega)
    refine ⟨fun t' ht => ?_, fun x => ?_⟩
    · rcases List.mem_cons.1 ht with rfl | ht
      · have : TkB t := right_bd (tok_right h) (by omega)
        exact this
      · exact ih.1 t' ht
    · have := ih.2 hbl.2
      rw [len_cons]; omega
theorem lexed_bd {s : Str} (hs : len s ≤ 400) : (∀ t ∈ (lexP s).1, TkB t) ∧ len (lexP s).1 ≤ 401 := by
  have hb := blankTo_bd s 0 (Int.le_refl 0) (len_nonneg s)
  rcases lexP_cases s with ⟨l, h1, h2⟩ | ⟨p, e, _, h2⟩
  · have := h1.bd hs
    rw [h2]
    dsimp only
    refine ⟨fun t ht => ?_, ?_⟩
    · rcases List.mem_append.1 ht with ht | ht
      · exact this.1 t ht
      · rw [List.mem_singleton.1 ht]
        exact ⟨by show len ([] : Str) ≤ _; decide, by show len ([] : Str) ≤ _; decide, fun e => absurd e (show ¬ (6 : Int) = 5 by decide)⟩
    · have := this.2 hb.2
      rw [len_app]
      show len l + 1 ≤ 401
      omega
  · rw [h2]; exact ⟨fun t ht => (by cases ht), show (0 : Int) ≤ 401 by decide⟩
theorem back_bad {s : Str} (h : ¬ (lexP s).2.2 = 0) : (lexP s).1 = [] ∧ 0 ≤ (lexP s).2.1 ∧ (lexP s).2.1 ≤ len s ∧ ((lexP s).2.2 = 1 ∨ (lexP s).2.2 = 2) := by
  obtain ⟨p, e, h1, h2⟩ := lexP_bad h
  have hb := blankTo_bd s 0 (Int.le_refl 0) (len_nonneg s)
  have := h1.bd
  rw [h2]
  exact ⟨rfl, by dsimp only; omega, by dsimp only; omega, h1.err⟩
end Go.Eng
