/-
  A NUMBER'S TEXT IS READ AS IT; what any text is read as is a right number; a string's text is read as it. Plain: no program in it.
-/
import Derived.Test.YtjfaikgooldcbaaGreatDoorZc21
import Derived.Test.YtjfaikgooldcbaaGreatDoorZc8
import Derived.Lib.SlTrimSet
set_option linter.unusedVariables false
set_option linter.unusedSimpArgs false
namespace Go.Eng
open Go.RowKit

theorem from_zero {α : Type} (s : List α) : from' s 0 = s := rfl
theorem str_ext {a b : Str} (hl : len a = len b) (h : ∀ j : Int, 0 ≤ j → j < len a → byteAt a j = byteAt b j) : a = b := by
  unfold len at hl
  refine List.ext_getElem (by omega) fun i h1 h2 => ?_
  have := h (i : Int) (by omega) (by unfold len; omega)
  simp only [byteAt, Int.toNat_natCast, List.getD_eq_getElem?_getD, List.getElem?_eq_getElem h1, List.getElem?_eq_getElem h2, Option.getD_some] at this
  exact UInt8.toNat_inj.1 (by omega)
theorem sub_agr {s s' : Str} {i i' k : Int} (h0 : 0 ≤ i) (h0' : 0 ≤ i') (hk : 0 ≤ k) (h1 : i + k ≤ len s) (h2 : i' + k ≤ len s') (h : ∀ j, 0 ≤ j → j < k → byteAt s' (i' + j) = byteAt s (i + j)) : Eng.sub s' i' (i' + k) = Eng.sub s i (i + k) := by
  have l1 := sub_len (s := s) (i := i) (j := i + k) h0 (by omega) h1
  have l2 := sub_len (s := s') (i := i') (j := i' + k) h0' (by omega) h2
  refine str_ext (by omega) fun j a b => ?_
  rw [byteAt_sub h0' a (by omega) h2, byteAt_sub h0 a (by omega) h1]
  exact h j a (by omega)

theorem num_agr {s s' : Str} (hl : 6 ≤ len s') (h : ∀ j, 0 ≤ j → j < 6 → byteAt s' j = byteAt s j) (h0 : 0 ≤ numP s) : numP s' = numP s := by
  by_cases hs : len s < 6 ∨ ¬ byteAt s 0 = 92 ∨ ¬ byteAt s (0 + 1) = 117
  · have := numP_not (s := s) (i := 0) (by omega) (by omega)
    rw [from_zero] at this; omega
  · have e1 := numP_at (s := s) (i := 0) (by omega) (by omega) (by omega) (by omega)
    have e2 := numP_at (s := s') (i := 0) (by omega) (by omega) (by rw [h 0 (by omega) (by omega)]; omega) (by rw [h (0 + 1) (by omega) (by omega)]; omega)
    rw [from_zero] at e1 e2
    have e3 : Eng.sub s' (0 + 2) (0 + 6) = Eng.sub s (0 + 2) (0 + 6) := sub_agr (k := 4) (by omega) (by omega) (by omega) (by omega) (by omega) (fun j a b => h _ (by omega) (by omega))
    rw [e1, e2, e3]
theorem numB_fin : ∀ n : Fin 256, isNumB (UInt8.ofNat n.val) = decide ((48 ≤ n.val ∧ n.val ≤ 57) ∨ n.val = 43 ∨ n.val = 45 ∨ n.val = 46 ∨ n.val = 101 ∨ n.val = 69) := by decide +kernel
theorem sub_app {u v : Str} : Eng.sub (u ++ v) 0 (len u) = u := by unfold Eng.sub len; simp
theorem sub_from_split {s : Str} {n : Int} (h0 : 0 ≤ n) (h1 : n ≤ len s) : s = Eng.sub s 0 n ++ from' s n ∧ len (Eng.sub s 0 n) = n := by
  refine ⟨?_, by rw [sub_len (by omega) h0 h1]; omega⟩
  have := from_split s 0 n (by omega) h0
  rw [from_zero] at this; exact this
theorem esc_agr {s s' : Str} (h0 : (escP s).2 ≠ 0) (hl : (escP s).2 ≤ len s') (h : ∀ j, 0 ≤ j → j < (escP s).2 → byteAt s' j = byteAt s j) : escP s' = escP s := by
  generalize hk : (escP s).2 = k at *
  unfold escP at hk ⊢
  by_cases c1 : len s < 2
  · rw [if_pos c1] at hk; exact absurd hk.symm h0
  rw [if_neg c1] at hk ⊢
  by_cases c2 : shIs (byteAt s 1) = true
  · rw [if_pos c2] at hk ⊢
    have hk' : k = 2 := hk.symm
    rw [if_neg (by omega), h 1 (by omega) (by omega), if_pos c2]
  rw [if_neg c2] at hk ⊢
  by_cases c3 : numP s < 0 ∨ (56320 ≤ numP s ∧ numP s < 57344)
  · rw [if_pos c3] at hk; exact absurd hk.symm h0
  rw [if_neg c3] at hk ⊢
  by_cases c4 : numP s < 55296 ∨ 57344 ≤ numP s
  · rw [if_pos c4] at hk ⊢
    have hk' : k = 6 := hk.symm
    have e := num_agr (s := s) (s' := s') (by omega) (fun j a b => h j a (by omega)) (by omega)
    rw [if_neg (by omega), h 1 (by omega) (by omega), if_neg c2, e, if_neg c3, if_pos c4]
  rw [if_neg c4] at hk ⊢
  by_cases c5 : numP (from' s 6) < 56320 ∨ 57344 ≤ numP (from' s 6)
  · rw [if_pos c5] at hk; exact absurd hk.symm h0
  rw [if_neg c5] at hk ⊢
  have hk' : k = 12 := hk.symm
  have e := num_agr (s := s) (s' := s') (by omega) (fun j a b => h j a (by omega)) (by omega)
  have e2 := num_agr (s := from' s 6) (s' := from' s' 6) (by rw [from_len s' 6 (by omega) (by omega)]; omega) (fun j a b => by rw [byteAt_from _ _ _ (by omega) a, byteAt_from _ _ _ (by omega) a]; exact h _ (by omega) (by omega)) (by omega)
  rw [if_neg (by omega), h 1 (by omega) (by omega), if_neg c2, e, if_neg c3, if_neg c4, e2, if_neg c5]

theorem sub_from {α : Type} (s : List α) (i j : Int) (h0 : 0 ≤ i) (h1 : 0 ≤ j) : Eng.sub (from' s i) 0 j = Eng.sub s i (i + j) := by
  unfold Eng.sub from'
  simp only [Int.toNat_zero, List.drop_zero, Nat.sub_zero]
  congr 1; omega
theorem numB_iff (b : UInt8) : isNumB b = true ↔ (48 ≤ b.toNat ∧ b.toNat ≤ 57) ∨ b.toNat = 43 ∨ b.toNat = 45 ∨ b.toNat = 46 ∨ b.toNat = 101 ∨ b.toNat = 69 := by
  have := numB_fin ⟨b.toNat, b.toNat_lt⟩
  simp only [UInt8.ofNat_toNat] at this
  rw [this, decide_eq_true_eq]
theorem byteAt_cons0 (a : UInt8) (l : Str) : byteAt (a :: l) 0 = (a.toNat : Int) := rfl
theorem from_app {u v : Str} : from' (u ++ v) (len u) = v := by unfold from' len; simp
theorem ne_len {α : Type} {l : List α} : l ≠ [] ↔ 0 < len l := ⟨fun h => len_pos h, fun h e => by rw [e, len_nil] at h; omega⟩
theorem AllF.app {a b : Str} (h : AllF a) (k : AllF b) : AllF (a ++ b) := fun x hx => by
  rcases List.mem_append.1 hx with hx | hx
  · exact h x hx
  · exact k x hx
theorem zeros_mem {k : Int} : ∀ b ∈ zeros k, b = 48 := fun b hb => (List.mem_replicate.1 hb).2
theorem AllF.zeros (k : Int) : AllF (zeros k) := fun b hb => by rw [zeros_mem b hb]; rfl
/-- A run of figures, by what stands there. -/
def Behind (r : Str) : Prop := r = [] ∨ ∃ b q, r = b :: q ∧ isFigB b = false
theorem run_is {s g r : Str} {i : Int} (h : from' s i = g ++ r) (hg : AllF g) (hr : Behind r) : runTo s i = i + len g := by
  have : (g ++ r).takeWhile isFigB = g := by
    rw [List.takeWhile_append_of_pos hg]
    rcases hr with rfl | ⟨b, q, rfl, hb⟩
    · simp
    · rw [List.takeWhile_cons, hb]; simp
  unfold runTo; rw [h, this]
theorem sub_mid {s g r : Str} {i : Int} (h0 : 0 ≤ i) (h : from' s i = g ++ r) : Eng.sub s i (i + len g) = g := by
  rw [← sub_from s i (len g) h0 (len_nonneg _), h, sub_app]
theorem from_next {s g r : Str} {i : Int} (h0 : 0 ≤ i) (h : from' s i = g ++ r) : from' s (i + len g) = r := by
  rw [← from_from s i (len g) h0 (len_nonneg _), h, from_app]
theorem len_of_from {s g : Str} {i : Int} (h0 : 0 ≤ i) (h : from' s i = g) (hg : g ≠ []) : len s = i + len g := by
  have hp := ne_len.1 hg
  have := from_len' s i h0
  rw [h] at this
  split at this <;> omega
theorem byte_of_from {s q : Str} {b : UInt8} {i : Int} (h0 : 0 ≤ i) (h : from' s i = b :: q) : i < len s ∧ byteAt s i = (b.toNat : Int) := by
  have hl := len_of_from h0 h (by simp)
  rw [len_cons] at hl
  have hq := len_nonneg q
  refine ⟨by omega, ?_⟩
  have := byteAt_from s i 0 h0 (Int.le_refl 0)
  rw [h, Int.add_zero] at this
  rw [← this]; rfl
theorem at_yes {s q : Str} {b : UInt8} {i : Int} (h0 : 0 ≤ i) (h : from' s i = b :: q) : isAt s [b] i = true ∧ isTo s [b] i = i + 1 := by
  have := byte_of_from h0 h
  have e : isAt s [b] i = true := isAt_one.2 this
  exact ⟨e, isTo_yes e⟩
theorem at_not {s q : Str} {b c : UInt8} {i : Int} (h0 : 0 ≤ i) (h : from' s i = b :: q) (hne : b ≠ c) : isAt s [c] i = false ∧ isTo s [c] i = i := by
  have hb := byte_of_from h0 h
  have e : isAt s [c] i = false := by
    cases hh : isAt s [c] i with
    | false => rfl
    | true => exact absurd (UInt8.toNat_inj.1 (by have := (isAt_one.1 hh).2; omega)) hne
  exact ⟨e, isTo_no e⟩
theorem at_end {s : Str} {c : Str} {i : Int} (h : len s ≤ i) : isAt s c i = false ∧ isTo s c i = i := by
  have e : isAt s c i = false := by
    cases hh : isAt s c i with
    | false => rfl
    | true => have := isAt_lt hh; omega
  exact ⟨e, isTo_no e⟩
def sgn (neg : Bool) : Str := if neg then [45] else []
theorem fig_ne {b : UInt8} (h : isFigB b = true) : b ≠ 45 ∧ b ≠ 43 ∧ b ≠ 46 ∧ b ≠ 101 ∧ b ≠ 69 := by
  refine ⟨?_, ?_, ?_, ?_, ?_⟩ <;> (intro e; subst e; revert h; decide)
/-- The whole part, behind its sign. -/
theorem read_whole {s w r : Str} {neg : Bool} (h : s = sgn neg ++ (w ++ r)) (hw : AllF w) (hn : w ≠ []) (hr : Behind r) (hz : ¬ (1 < len w ∧ byteAt w 0 = 48)) :
    ∃ b0, 0 ≤ b0 ∧ from' s b0 = r ∧ read1 s = if isAt s [46] b0 then
      if Eng.sub s (isTo s [46] b0) (runTo s (isTo s [46] b0)) = [] then (noNd, runTo s (isTo s [46] b0), 1)
      else rest1 s neg (w ++ Eng.sub s (isTo s [46] b0) (runTo s (isTo s [46] b0))) (-(len (Eng.sub s (isTo s [46] b0) (runTo s (isTo s [46] b0))))) (runTo s (isTo s [46] b0))
    else rest1 s neg w 0 (isTo s [46] b0) := by
  have ha : isAt s [45] 0 = neg ∧ isTo s [45] 0 = len (sgn neg) := by
    cases neg with
    | true => exact at_yes (q := w ++ r) (Int.le_refl 0) (by rw [h]; rfl)
    | false =>
      cases w with
      | nil => exact absurd rfl hn
      | cons b w => exact at_not (q := w ++ r) (Int.le_refl 0) (by rw [h]; rfl) (fig_ne (hw b (by simp))).1
  have hs0 := len_nonneg (sgn neg)
  have hf : from' s (len (sgn neg)) = w ++ r := by rw [h, from_app]
  have hrun := run_is hf hw hr
  have hsub := sub_mid hs0 hf
  refine ⟨len (sgn neg) + len w, by have := len_nonneg w; omega, from_next hs0 hf, ?_⟩
  rw [read1_at ha.2, hrun, hsub, if_neg hz, if_neg hn, ha.1]
theorem rest_end {s fg : Str} {neg : Bool} {x b : Int} (h : len s ≤ b) : rest1 s neg fg x b = fin1 neg fg x [] 1 := by
  obtain ⟨e1, e2⟩ := at_end (c := [101, 69]) h
  unfold rest1; rw [e1, e2, if_neg (by simp), if_neg (by omega)]
theorem read_int {s w : Str} {neg : Bool} (h : s = sgn neg ++ w) (hw : AllF w) (hn : w ≠ []) (hz : ¬ (1 < len w ∧ byteAt w 0 = 48)) : read1 s = fin1 neg w 0 [] 1 := by
  obtain ⟨b, h0, h1, h2⟩ := read_whole (neg := neg) (w := w) (r := []) (by simpa using h) hw hn (.inl rfl) hz
  have hb : len s ≤ b := by
    have := from_len' s b h0
    rw [h1, len_nil] at this
    split at this <;> omega
  obtain ⟨e1, e2⟩ := at_end (c := [46]) hb
  rw [h2, e1, e2, if_neg (by simp), rest_end hb]
theorem read_frac {s w p : Str} {neg : Bool} (h : s = sgn neg ++ (w ++ 46 :: p)) (hw : AllF w) (hn : w ≠ []) (hz : ¬ (1 < len w ∧ byteAt w 0 = 48)) (hp : AllF p) (hpn : p ≠ []) : read1 s = fin1 neg (w ++ p) (-(len p)) [] 1 := by
  obtain ⟨b, h0, h1, h2⟩ := read_whole h hw hn (.inr ⟨46, p, rfl, by decide⟩) hz
  obtain ⟨e1, e2⟩ := at_yes h0 h1
  have hf : from' s (b + 1) = p ++ [] := by rw [← from_from s b 1 h0 (by omega), h1]; simp [from']
  have hrun := run_is hf hp (.inl rfl)
  have hsub := sub_mid (by omega) hf
  have hl := len_of_from h0 h1 (by simp)
  rw [len_cons] at hl
  rw [h2, e1, e2, if_pos rfl, hrun, hsub, if_neg hpn, rest_end (by omega)]
theorem read_exp {s w p : Str} {neg neg2 : Bool} (h : s = sgn neg ++ (w ++ 101 :: (sgn neg2 ++ p))) (hw : AllF w) (hn : w ≠ []) (hz : ¬ (1 < len w ∧ byteAt w 0 = 48)) (hp : AllF p) (hpn : p ≠ []) : read1 s = fin1 neg w 0 p (if neg2 then -1 else 1) := by
  obtain ⟨b, h0, h1, h2⟩ := read_whole h hw hn (.inr ⟨101, _, rfl, by decide⟩) hz
  obtain ⟨e1, e2⟩ := at_not (c := 46) h0 h1 (by decide)
  have hby := byte_of_from h0 h1
  have e3 : isAt s [101, 69] b = true := isAt_two.2 ⟨hby.1, .inl hby.2⟩
  have hf : from' s (b + 1) = sgn neg2 ++ p := by rw [← from_from s b 1 h0 (by omega), h1]; rfl
  have hc : isAt s [45] (b + 1) = neg2 ∧ (if neg2 then isTo s [45] (b + 1) else isTo s [43] (isTo s [45] (b + 1))) = b + 1 + len (sgn neg2) := by
    cases neg2 with
    | true => exact at_yes (q := p) (by omega) hf
    | false =>
      cases p with
      | nil => exact absurd rfl hpn
      | cons c p =>
        have hc := fig_ne (hp c (by simp))
        obtain ⟨g1, g2⟩ := at_not (c := 45) (i := b + 1) (by omega) hf hc.1
        obtain ⟨g3, g4⟩ := at_not (c := 43) (i := b + 1) (by omega) hf hc.2.1
        refine ⟨g1, ?_⟩
        rw [if_neg (by simp), g2, g4]
        show b + 1 = b + 1 + 0
        omega
  have hg := len_nonneg (sgn neg2)
  have hf2 : from' s (b + 1 + len (sgn neg2)) = p ++ [] := by rw [List.append_nil]; exact from_next (by omega) hf
  have hrun := run_is hf2 hp (.inl rfl)
  have hsub := sub_mid (by omega) hf2
  have hl := len_of_from (by omega) hf2 (by simpa using hpn)
  rw [List.append_nil] at hl
  rw [h2, e1, e2, if_neg (by simp)]
  unfold rest1
  rw [e3, if_pos rfl, isTo_yes e3]
  unfold exp1
  dsimp only
  rw [hc.1, hc.2, hrun, hsub, if_neg (by rw [not_or]; exact ⟨hpn, by omega⟩)]

/-! ### What is made of figures -/
theorem dropZ_ne {s : Str} (h : byteAt s 0 ≠ 48) : dropZ s = s := dropZ_stop (fun x => h x.2)
theorem dropZ_zeros {s : Str} (h : byteAt s 0 ≠ 48) (k : Int) : dropZ (zeros k ++ s) = s := by
  have : ∀ n : Nat, dropZ (List.replicate n 48 ++ s) = s := by
    intro n
    induction n with
    | zero => exact dropZ_ne h
    | succ n ih => rw [List.replicate_succ, List.cons_append, dropZ_cons (by decide), ih]
  exact this k.toNat
theorem trimZ_zeros {s : Str} (hn : s ≠ []) (h : byteAt s (len s - 1) ≠ 48) (k : Int) : trimZ (s ++ zeros k) = s := by
  have := Lib.trimRightS_take (s ++ zeros k) [48] s.length (by simp) (fun j b hj hb => by
    rw [List.getElem?_append_right hj] at hb
    rw [zeros_mem b (List.mem_of_getElem? hb)]; rfl) (fun b h0 hb => by
    rw [List.getElem?_append_left (by omega)] at hb
    have e : byteAt s (len s - 1) = (b.toNat : Int) := by
      unfold byteAt len
      rw [show ((s.length : Int) - 1).toNat = s.length - 1 from by omega, List.getD_eq_getElem?_getD, hb]; rfl
    cases hc : ([48] : Str).contains b with
    | false => rfl
    | true => rw [u8_eq48] at hc; omega)
  unfold trimZ; rw [this]; simp
theorem mk_is {fg s : Str} {neg : Bool} {e0 e k : Int} (hf : AllF fg) (hd : dropZ fg = s ++ zeros k) (hk : 0 ≤ k) (hn : s ≠ []) (hl : byteAt s (len s - 1) ≠ 48) (he : e0 + k = e) (h1 : len s ≤ 100) (h2 : -1000 ≤ e) (h3 : len s + e ≤ 1000) (hk2 : k ≤ 2000) :
    mk1 neg fg e0 = (⟨3, 0, [], s, neg, e⟩, 0) := by
  have hp := ne_len.1 hn
  have hlz := zeros_len k hk
  have hdl : len (dropZ fg) = len s + k := by rw [hd, len_app, hlz]
  have ht : trimZ (dropZ fg) = s := by rw [hd, trimZ_zeros hn hl]
  unfold mk1
  rw [if_pos (figs_iff.2 hf), ht, hdl, if_neg (by rw [hd]; simp [hn])]
  rw [if_neg (by simp only [Bool.or_eq_true, decide_eq_true_eq]; omega), if_neg (by simp only [Bool.or_eq_true, decide_eq_true_eq]; omega)]
  rw [show e0 + (len s + k - len s) = e from by omega]
theorem itoa_tab : ∀ n : Fin 2001, (Lib.itoa ((n.val : Int) - 1000) == sgn (decide ((n.val : Int) - 1000 < 0)) ++ Lib.decDigits ((n.val : Int) - 1000).natAbs) = true ∧
    (Lib.decDigits ((n.val : Int) - 1000).natAbs).all isFigB = true ∧ Lib.decDigits ((n.val : Int) - 1000).natAbs ≠ [] ∧ len (dropZ (Lib.decDigits ((n.val : Int) - 1000).natAbs)) ≤ 6 ∧
    decVal (dropZ (Lib.decDigits ((n.val : Int) - 1000).natAbs)) = (((n.val : Int) - 1000).natAbs : Int) := by decide +kernel
theorem itoa_open {e : Int} (h0 : -1000 ≤ e) (h1 : e ≤ 1000) : ∃ p, Lib.itoa e = sgn (decide (e < 0)) ++ p ∧ AllF p ∧ p ≠ [] ∧ len (dropZ p) ≤ 6 ∧ (if decide (e < 0) then (-1 : Int) else 1) * decVal (dropZ p) = e := by
  have := itoa_tab ⟨(e + 1000).toNat, by omega⟩
  dsimp only at this
  rw [show (((e + 1000).toNat : Nat) : Int) - 1000 = e from by omega] at this
  obtain ⟨g1, g2, g3, g4, g5⟩ := this
  refine ⟨_, by simpa using g1, fun b hb => List.all_eq_true.1 g2 b hb, g3, g4, ?_⟩
  rw [g5]
  by_cases h : e < 0
  · rw [if_pos (by simpa using h)]; omega
  · rw [if_neg (by simpa using h)]; omega
theorem fin_is {neg : Bool} {fg : Str} {x : Int} : fin1 neg fg x [] 1 = ((mk1 neg fg x).1, 0, (mk1 neg fg x).2) := by
  unfold fin1
  rw [show dropZ [] = [] from rfl, if_neg (by decide), show x + 1 * decVal [] = x from by show x + 1 * 0 = x; omega]
/-- A number's text: a sign, a figure or more, and what a number has. -/
theorem print_form {n : Nd} (h : right1 n = true) : read1 (print1 n) = (n, 0, 0) ∧ (∃ g r, print1 n = sgn n.neg ++ (g :: r) ∧ isFigB g = true) ∧ ∀ b ∈ print1 n, isNumB b = true := by
  obtain ⟨he, hf, h1, h2, h3, h4, h5⟩ := right_open h
  generalize hs : n.s = s at *
  generalize hneg : n.neg = neg at *
  generalize hee : n.e = e at *
  subst he
  have numF : ∀ b, isFigB b = true → isNumB b = true := fun b hb => by
    rw [numB_iff]; left
    unfold isFigB isFig at hb
    simp only [Bool.and_eq_true, decide_eq_true_eq] at hb
    omega
  have numS : ∀ g : Bool, ∀ b ∈ sgn g, isNumB b = true := by decide
  rcases h5 with ⟨e1, e2, e3⟩ | ⟨hn, hb, hl⟩
  · subst e1; subst e2; subst e3
    exact ⟨by decide +kernel, ⟨48, [], by decide, by decide⟩, by decide⟩
  obtain ⟨g, q, hgq⟩ : ∃ g q, s = g :: q := by cases s with
    | nil => exact absurd rfl hn
    | cons g q => exact ⟨g, q, rfl⟩
  have hp := ne_len.1 hn
  unfold print1
  dsimp only
  rw [if_neg (by simpa using hn), show (if neg then ([45] : Str) else []) = sgn neg from rfl]
  by_cases c1 : (decide (0 ≤ e) && decide (len s + e ≤ 20)) = true
  · rw [if_pos c1]
    simp only [Bool.and_eq_true, decide_eq_true_eq] at c1
    have hbz : byteAt (s ++ zeros e) 0 ≠ 48 := by rw [byteAt_l (Int.le_refl 0) hp]; exact hb
    refine ⟨?_, ⟨g, q ++ zeros e, by rw [hgq]; simp, hf g (by rw [hgq]; simp)⟩, fun b hb => ?_⟩
    · rw [read_int (w := s ++ zeros e) (neg := neg) (by simp) (hf.app (AllF.zeros e)) (by simp [hn]) (fun x => hbz x.2), fin_is, mk_is (s := s) (k := e) (e := e) (hf.app (AllF.zeros e)) (dropZ_ne hbz) c1.1 hn hl (by omega) (by omega) (by omega) (by omega) (by omega)]
    · simp only [List.mem_append] at hb
      rcases hb with (hb | hb) | hb
      · exact numS _ b hb
      · exact numF b (hf b hb)
      · exact numF b (AllF.zeros e b hb)
  rw [if_neg c1]
  by_cases c2 : (decide (e < 0) && decide (-20 ≤ e)) = true
  · rw [if_pos c2]
    simp only [Bool.and_eq_true, decide_eq_true_eq] at c2
    have hz := zeros_len' (1 - e - len s)
    have hz2 : 0 ≤ 1 - e - len s → len (zeros (1 - e - len s)) = 1 - e - len s := fun x => zeros_len _ x
    have hz3 : 1 - e - len s ≤ 0 → zeros (1 - e - len s) = [] := fun x => zeros_neg x
    have hfS : AllF (zeros (1 - e - len s) ++ s) := (AllF.zeros _).app hf
    have hlS : len (zeros (1 - e - len s) ++ s) = len (zeros (1 - e - len s)) + len s := len_app _ _
    have hdS : dropZ (zeros (1 - e - len s) ++ s) = s := dropZ_zeros hb _
    have hb1 : 1 - e - len s ≤ 0 → byteAt (zeros (1 - e - len s) ++ s) 0 ≠ 48 := fun x => by rw [hz3 x]; exact hb
    generalize zeros (1 - e - len s) ++ s = S at *
    obtain ⟨hsp1, hsp2⟩ := sub_from_split (s := S) (n := len S + e) (by omega) (by omega)
    have hlf := from_len S (len S + e) (by omega) (by omega)
    have hfw : AllF (Eng.sub S 0 (len S + e)) := fun b hb => hfS b (by rw [hsp1]; simp [hb])
    have hfp : AllF (from' S (len S + e)) := fun b hb => hfS b (by rw [hsp1]; simp [hb])
    have hwn : Eng.sub S 0 (len S + e) ≠ [] := ne_len.2 (by omega)
    have hpn : from' S (len S + e) ≠ [] := ne_len.2 (by omega)
    have hzz : ¬ (1 < len (Eng.sub S 0 (len S + e)) ∧ byteAt (Eng.sub S 0 (len S + e)) 0 = 48) := by
      rintro ⟨x1, x2⟩
      by_cases hpd : 0 ≤ 1 - e - len s
      · have := hz2 hpd; omega
      · refine hb1 (by omega) ?_
        rw [byteAt_sub (Int.le_refl 0) (Int.le_refl 0) (by omega) (by omega)] at x2
        exact x2
    obtain ⟨g', q', hgq'⟩ : ∃ g q, Eng.sub S 0 (len S + e) = g :: q := by
      cases hh : Eng.sub S 0 (len S + e) with
      | nil => exact absurd hh hwn
      | cons g q => exact ⟨g, q, rfl⟩
    refine ⟨?_, ⟨g', q' ++ 46 :: from' S (len S + e), by rw [hgq']; simp, hfw g' (by rw [hgq']; simp)⟩, fun b hb => ?_⟩
    · rw [read_frac (w := Eng.sub S 0 (len S + e)) (p := from' S (len S + e)) (neg := neg) (by simp) hfw hwn hzz hfp hpn, ← hsp1, fin_is,
        mk_is (s := s) (k := 0) (e := e) hfS (by rw [hdS, zeros_neg (Int.le_refl 0)]; simp) (Int.le_refl 0) hn hl (by omega) (by omega) (by omega) (by omega) (by omega)]
    · simp only [List.mem_append, List.mem_cons, List.not_mem_nil, or_false] at hb
      rcases hb with ((hb | hb) | hb) | hb
      · exact numS _ b hb
      · exact numF b (hfw b hb)
      · subst hb; decide
      · exact numF b (hfp b hb)
  rw [if_neg c2]
  obtain ⟨p, hi, hfp, hpn, hl6, hv⟩ := itoa_open (e := e) (by omega) (by omega)
  have hbz : byteAt s 0 ≠ 48 := hb
  refine ⟨?_, ⟨g, q ++ 101 :: Lib.itoa e, by rw [hgq]; simp, hf g (by rw [hgq]; simp)⟩, fun b hb => ?_⟩
  · rw [hi, read_exp (w := s) (p := p) (neg := neg) (neg2 := decide (e < 0)) (by simp) hf hn (fun x => hbz x.2) hfp hpn]
    unfold fin1
    rw [if_neg (by omega), hv, Int.zero_add,
      mk_is (s := s) (k := 0) (e := e) hf (by rw [dropZ_ne hbz, zeros_neg (Int.le_refl 0)]; simp) (Int.le_refl 0) hn hl (by omega) (by omega) (by omega) (by omega) (by omega)]
  · rw [hi] at hb
    simp only [List.mem_append, List.mem_cons, List.not_mem_nil, or_false] at hb
    rcases hb with ((hb | hb) | hb) | hb | hb
    · exact numS _ b hb
    · exact numF b (hf b hb)
    · subst hb; decide
    · exact numS _ b hb
    · exact numF b (hfp b hb)

/-! ### What a text is read as -/
theorem mk_right {neg : Bool} {s : Str} {e : Int} (h : (mk1 neg s e).2 = 0) : right1 (mk1 neg s e).1 = true := by
  unfold mk1 at h ⊢
  by_cases c1 : figs s = true
  · rw [if_pos c1] at h ⊢
    by_cases c2 : (dropZ s == []) = true
    · rw [if_pos c2]; decide +kernel
    rw [if_neg c2] at h ⊢
    split at h
    · cases h
    rename_i c3
    rw [if_neg c3]
    split at h
    · cases h
    rename_i c4
    rw [if_neg c4]
    simp only [Bool.or_eq_true, decide_eq_true_eq] at c4
    have c2' : ¬ dropZ s = [] := by simpa using c2
    have hp := trimZ_pos s c2'
    have htn : trimZ (dropZ s) ≠ [] := ne_len.2 hp
    have hpre : ∃ r, trimZ (dropZ s) ++ r = dropZ s := by
      unfold trimZ Lib.trimRightS
      have := List.dropWhile_suffix (([48] : Str).contains ·) (l := (dropZ s).reverse)
      obtain ⟨r, hr⟩ := this
      refine ⟨r.reverse, ?_⟩
      rw [← List.reverse_append, hr, List.reverse_reverse]
    obtain ⟨r, hr⟩ := hpre
    have hF : AllF (trimZ (dropZ s)) := fun b hb => (figs_drop (figs_iff.1 c1)) b (by rw [← hr]; simp [hb])
    have hfirst : byteAt (trimZ (dropZ s)) 0 ≠ 48 := by
      rw [← byteAt_l (v := r) (Int.le_refl 0) hp, hr]
      cases hd : dropZ s with
      | nil => exact absurd hd c2'
      | cons b l =>
        have := dropZ_first hd
        intro e; rw [byteAt_cons0] at e; rw [u8_eq48.2 e] at this; cases this
    have hlast : byteAt (trimZ (dropZ s)) (len (trimZ (dropZ s)) - 1) ≠ 48 := by
      obtain ⟨b, e1, e2⟩ := last_split hp
      rw [← e2]
      intro e3
      have hb : ([48] : Str).contains b = true := u8_eq48.2 e3
      have : trimZ (dropZ s) = ((dropZ s).reverse.dropWhile (([48] : Str).contains ·)).reverse := rfl
      rw [this] at e1
      have h2 := congrArg List.reverse e1
      rw [List.reverse_reverse, List.reverse_append, List.reverse_cons, List.reverse_nil, List.nil_append, List.singleton_append] at h2
      have := dropZ_first (s := (dropZ s).reverse) (b := b) (l := (Eng.sub (trimZ (dropZ s)) 0 (len (trimZ (dropZ s)) - 1)).reverse) h2
      rw [hb] at this; cases this
    unfold right1
    dsimp only
    rw [if_neg (by
      simp only [Bool.or_eq_true, decide_eq_true_eq, bne_iff_ne, Bool.not_eq_true', beq_eq_false_iff_ne, figs_iff.2 hF]
      simp only [not_or]
      refine ⟨⟨⟨⟨⟨⟨⟨by simp, by simp⟩, by simp⟩, by simp⟩, by omega⟩, by omega⟩, by omega⟩, by omega⟩), if_neg (by simpa using htn)]
    simp [hfirst, hlast]
  · rw [if_neg c1] at h; exact absurd h (by decide)
theorem mk_err {neg : Bool} {s : Str} {e : Int} (h : AllF s) : (mk1 neg s e).2 = 0 ∨ (mk1 neg s e).2 = 2 := by
  unfold mk1
  rw [if_pos (figs_iff.2 h)]
  split
  · exact .inl rfl
  · split
    · exact .inr rfl
    · split
      · exact .inr rfl
      · exact .inl rfl
def ReadOk (r : Nd × Int × Int) : Prop := (r.2.2 = 0 → right1 r.1 = true) ∧ (r.2.2 = 0 ∨ r.2.2 = 1 ∨ r.2.2 = 2)
theorem fin_ok {neg : Bool} {fg : Str} {x : Int} {pw : Str} {side : Int} (h : AllF fg) : ReadOk (fin1 neg fg x pw side) := by
  unfold fin1
  split
  · exact ⟨fun e => absurd e (by decide), .inr (.inr rfl)⟩
  · refine ⟨fun e => mk_right e, ?_⟩
    rcases mk_err (neg := neg) (e := x + side * decVal (dropZ pw)) h with e | e
    · exact .inl e
    · exact .inr (.inr e)
theorem bad_ok (n : Nd) (p : Int) : ReadOk (n, p, 1) := ⟨fun e => absurd e (show ¬ (1 : Int) = 0 by decide), .inr (.inl rfl)⟩
theorem rest_ok {s fg : Str} {neg : Bool} {x b : Int} (h : AllF fg) : ReadOk (rest1 s neg fg x b) := by
  unfold rest1
  split
  · unfold exp1
    dsimp only
    repeat' split
    all_goals first | exact bad_ok _ _ | exact fin_ok h
  · split
    · exact bad_ok _ _
    · exact fin_ok h
theorem read_ok (s : Str) : ReadOk (read1 s) := by
  have h0 := isTo_bd s [45] 0 (len_nonneg s)
  have hr := runTo_bd s (isTo s [45] 0) (by omega) h0.2
  have h1 := isTo_bd s [46] (runTo s (isTo s [45] 0)) hr.2
  unfold read1
  dsimp only
  have hF : AllF (Eng.sub s (isTo s [45] 0) (runTo s (isTo s [45] 0))) := figs_run h0.1
  split
  · exact bad_ok _ _
  · split
    · exact bad_ok _ _
    · split
      · split
        · exact bad_ok _ _
        · exact rest_ok (hF.app (figs_run (by omega)))
      · exact rest_ok hF
theorem qOne_tab : ∀ n : Fin 128, (qOne (n.val : Int) = [UInt8.ofNat n.val] ∧ 32 ≤ n.val ∧ n.val ≠ 34 ∧ n.val ≠ 92) ∨
    (byteAt (qOne (n.val : Int)) 0 = 92 ∧ escP (qOne (n.val : Int)) = ((n.val : Int), len (qOne (n.val : Int))) ∧ len (qOne (n.val : Int)) ≠ 0) := by decide +kernel
theorem unq_from {s T r : Str} : ∀ (f : Nat) (p i : Int) (acc : List Int), 0 ≤ p → p ≤ len s → 0 ≤ i → utfFrom s p = true → from' T i = qFrom s p ++ 34 :: r → (len T - i).toNat ≤ f →
    unqGo f T i acc = (toStr acc ++ from' s p, i + len (qFrom s p) + 1, 0)
  | f, p, i, acc, h0, h1, hi, hu, hT, hf => by
    have hne : from' T i ≠ [] := by rw [hT]; simp
    have hlT := len_of_from hi rfl hne
    have hpos := ne_len.1 hne
    have hlt : i < len T := by omega
    rw [unqGo_eq hf hlt, runeAt_from T i hi, runeLen_from T i hi]
    by_cases hp : p < len s
    · have hb := rune_bd s p
      have hle := rune_le s p hp
      rcases rune_dec h0 hp with ⟨h2, _⟩ | ⟨h2, h3, _, h5, h6, h7⟩
      · rw [utfFrom_bad s p h0 hp h2] at hu; cases hu
      rw [← utfFrom_step s p h0 hp (by omega)] at hu
      rw [qFrom_step h0 hp] at hT ⊢
      rw [h3] at hT ⊢
      rw [List.append_assoc] at hT
      have hnext := from_next hi hT
      have hlq := len_nonneg (qFrom s (p + rune s p) ++ 34 :: r)
      have hlT2 : len T = i + (len (qOne (runeAt s p)) + len (qFrom s (p + rune s p) ++ 34 :: r)) := by rw [hlT, hT, len_app]
      have hby : ∀ j, 0 ≤ j → j < len (qOne (runeAt s p)) → byteAt T (i + j) = byteAt (qOne (runeAt s p)) j := fun j a b => by
        rw [← byteAt_from T i j hi a, hT, byteAt_l a b]
      have hback : toStr acc ++ from' s p = toStr (acc ++ Lib.encodeRuneZ (runeAt s p)) ++ from' s (p + rune s p) := by
        rw [toStr_app, h5, from_split s p (p + rune s p) h0 (by omega), List.append_assoc]
      have ih := fun (g : Nat) (hg : (len T - (i + len (qOne (runeAt s p)))).toNat ≤ g) => unq_from (s := s) (T := T) (r := r) g (p + rune s p) (i + len (qOne (runeAt s p))) (acc ++ Lib.encodeRuneZ (runeAt s p)) (by omega) hle (by have := len_nonneg (qOne (runeAt s p)); omega) hu hnext hg
      rw [hback, len_app, show i + (len (qOne (runeAt s p)) + len (qFrom s (p + rune s p))) + 1 = i + len (qOne (runeAt s p)) + len (qFrom s (p + rune s p)) + 1 from by omega]
      by_cases hc : byteAt s p < 128
      · obtain ⟨h8, h9⟩ := h6 hc
        have hc0 := byteAt_bd s p
        have tab := qOne_tab ⟨(byteAt s p).toNat, by omega⟩
        dsimp only at tab
        rw [show (((byteAt s p).toNat : Nat) : Int) = byteAt s p from by omega] at tab
        rw [h9] at hby hT ih ⊢
        rcases tab with ⟨q1, q2, q3, q4⟩ | ⟨q1, q2, q3⟩
        · have hl1 : len (qOne (byteAt s p)) = 1 := by rw [q1]; rfl
          have hTb : byteAt T i = byteAt s p := by
            have := hby 0 (Int.le_refl 0) (by omega)
            rw [Int.add_zero, q1, byteAt_cons0] at this
            rw [this]; exact u8_nat hc0.1 (by omega)
          have hrl := rune_low hi hlt (by omega)
          rw [hrl.1, hrl.2, hTb, if_neg (by omega), if_neg (by omega), if_neg (by omega)]
          rw [hl1] at ih ⊢
          exact ih _ (by omega)
        · have hlp := len_nonneg (qOne (byteAt s p))
          have hTb : byteAt T i = 92 := by
            have := hby 0 (Int.le_refl 0) (by omega)
            rw [Int.add_zero, q1] at this; exact this
          have hra : runeAt T i = 92 := (runeAt_low hi hlt (by omega)).2 hTb
          have hesc : escP (from' T i) = (byteAt s p, len (qOne (byteAt s p))) := by
            rw [← q2]
            refine esc_agr (by rw [q2]; exact q3) (by rw [q2, hT, len_app]; dsimp only; omega) (fun j a b => ?_)
            rw [q2] at b
            rw [hT]; exact byteAt_l a b
          rw [hra, if_neg (by omega), if_pos rfl, hesc, if_neg q3]
          exact ih _ (by omega)
      · have hq := qOne_high (h7 (by omega))
        have hlq2 : len (qOne (runeAt s p)) = rune s p := by rw [hq, h5, sub_len h0 (by omega) hle]; omega
        have agr := rune_agr (s := s) (s' := T) (i := p) (i' := i) h0 hi (by omega) hp (by omega) (fun j a b => by
          rw [hby j a (by omega), hq, h5, byteAt_sub h0 a (by omega) hle])
        have h8 := h7 (by omega)
        have hnn := (rune_none hi hlt).2
        rw [agr.2.1, agr.2.2, h3, if_neg (by omega), if_neg (by omega), if_neg (by
          rintro (x | x)
          · omega
          · have := hnn (by rw [agr.2.1, agr.2.2, h3]; exact x)
            omega)]
        rw [hlq2] at ih ⊢
        exact ih _ (by omega)
    · rw [qFrom_end hp] at hT ⊢
      have hTb : byteAt T i = 34 := (byte_of_from hi hT).2
      rw [if_pos ((runeAt_low hi hlt (by omega)).2 hTb), from_nil s p (by omega)]
      simp [len_nil]
termination_by f p => (len s - p).toNat
decreasing_by all_goals omega
theorem unq_quote {s : Str} (h : utf s = true) (r : Str) : unqP (quoteP s ++ r) = (s, len (quoteP s), 0) := by
  have e : quoteP s ++ r = 34 :: (qFrom s 0 ++ 34 :: r) := by unfold quoteP; simp
  have hl : len (quoteP s) = 1 + len (qFrom s 0) + 1 := by unfold quoteP; rw [len_app, len_cons]; simp [len]; omega
  rw [e, hl]
  unfold unqP
  have hp : Lib.hasPrefix (34 :: (qFrom s 0 ++ 34 :: r)) [34] = true := pre_one.2 ⟨by simp, rfl⟩
  rw [if_pos hp, unq_from (s := s) (r := r) _ 0 1 [] (Int.le_refl 0) (len_nonneg s) (by omega) h rfl (by unfold len; simp; omega)]
  rfl

end Go.Eng
