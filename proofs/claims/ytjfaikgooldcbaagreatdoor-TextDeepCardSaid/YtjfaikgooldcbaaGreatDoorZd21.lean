/-
  A NUMBER'S TEXT IS READ AS IT; what any text is read as is a right number; a string's text is read as it. Plain: no program in it.
  A VALUE'S TEXT IS READ AS IT: plain. No program in it.
-/
import Derived.Test.YtjfaikgooldcbaaGreatDoorZd20
import Derived.Test.YtjfaikgooldcbaaGreatDoorZd7
import Derived.Lib.SlTrimSet
import Derived.Test.YtjfaikgooldcbaaGreatDoorZd14
import Derived.Sort.Walk0
set_option linter.unusedVariables false
set_option linter.unusedSimpArgs false
namespace Go.Eng
open Go.RowKit

theorem from_zero {α : Type} (s : List α) : from' s 0 = s := rfl
theorem str_ext {a b : Str} (hl : len a = len b) (h : ∀ j : Int, 0 ≤ j → j < len a → byteAt a j = byteAt b j) : a = b := by
  unfold len at hl
  refine List.ext_getElem (by omega) fun i h1 h2 => ?_
  have := h (i : Int) (by omega) (by unfold len; omega)
  simp only [byteAt, Int.toNat_natCast, List.getD_eq_getElem?_getD, List.getElem?_eq_getElem h1, List.getElem?_eq_getElem h2, Option.getD_some] at this
  exact UInt8.toNat_inj.1 (by omega)
theorem sub_agr {s s' : Str} {i i' k : Int} (h0 : 0 ≤ i) (h0' : 0 ≤ i') (hk : 0 ≤ k) (h1 : i + k ≤ len s) (h2 : i' + k ≤ len s') (h : ∀ j, 0 ≤ j → j < k → byteAt s' (i' + j) = byteAt s (i + j)) : Eng.sub s' i' (i' + k) = Eng.sub s i (i + k) := by
  have l1 := sub_len (s := s) (i := i) (j := i + k) h0 (by omega) h1
  have l2 := sub_len (s := s') (i := i') (j := i' + k) h0' (by omega) h2
  refine str_ext (by omega) fun j a b => ?_
  rw [byteAt_sub h0' a (by omega) h2, byteAt_sub h0 a (by omega) h1]
  exact h j a (by omega)

theorem num_agr {s s' : Str} (hl : 6 ≤ len s') (h : ∀ j, 0 ≤ j → j < 6 → byteAt s' j = byteAt s j) (h0 : 0 ≤ numP s) : numP s' = numP s := by
  by_cases hs : len s < 6 ∨ ¬ byteAt s 0 = 92 ∨ ¬ byteAt s (0 + 1) = 117
  · have := numP_not (s := s) (i := 0) (by omega) (by omega)
    rw [from_zero] at this; omega
  · have e1 := numP_at (s := s) (i := 0) (by omega) (by omega) (by omega) (by omega)
    have e2 := numP_at (s := s') (i := 0) (by omega) (by omega) (by rw [h 0 (by omega) (by omega)]; omega) (by rw [h (0 + 1) (by omega) (by omega)]; omega)
    rw [from_zero] at e1 e2
    have e3 : Eng.sub s' (0 + 2) (0 + 6) = Eng.sub s (0 + 2) (0 + 6) := sub_agr (k := 4) (by omega) (by omega) (by omega) (by omega) (by omega) (fun j a b => h _ (by omega) (by omega))
    rw [e1, e2, e3]
theorem numB_fin : ∀ n : Fin 256, isNumB (UInt8.ofNat n.val) = decide ((48 ≤ n.val ∧ n.val ≤ 57) ∨ n.val = 43 ∨ n.val = 45 ∨ n.val = 46 ∨ n.val = 101 ∨ n.val = 69) := by decide +kernel
theorem sub_app {u v : Str} : Eng.sub (u ++ v) 0 (len u) = u := by unfold Eng.sub len; simp
theorem sub_from_split {s : Str} {n : Int} (h0 : 0 ≤ n) (h1 : n ≤ len s) : s = Eng.sub s 0 n ++ from' s n ∧ len (Eng.sub s 0 n) = n := by
  refine ⟨?_, by rw [sub_len (by omega) h0 h1]; omega⟩
  have := from_split s 0 n (by omega) h0
  rw [from_zero] at this; exact this
theorem esc_agr {s s' : Str} (h0 : (escP s).2 ≠ 0) (hl : (escP s).2 ≤ len s') (h : ∀ j, 0 ≤ j → j < (escP s).2 → byteAt s' j = byteAt s j) : escP s' = escP s := by
  generalize hk : (escP s).2 = k at *
  unfold escP at hk ⊢
  by_cases c1 : len s < 2
  · rw [if_pos c1] at hk; exact absurd hk.symm h0
  rw [if_neg c1] at hk ⊢
  by_cases c2 : shIs (byteAt s 1) = true
  · rw [if_pos c2] at hk ⊢
    have hk' : k = 2 := hk.symm
    rw [if_neg (by omega), h 1 (by omega) (by omega), if_pos c2]
  rw [if_neg c2] at hk ⊢
  by_cases c3 : numP s < 0 ∨ (56320 ≤ numP s ∧ numP s < 57344)
  · rw [if_pos c3] at hk; exact absurd hk.symm h0
  rw [if_neg c3] at hk ⊢
  by_cases c4 : numP s < 55296 ∨ 57344 ≤ numP s
  · rw [if_pos c4] at hk ⊢
    have hk' : k = 6 := hk.symm
    have e := num_agr (s := s) (s' := s') (by omega) (fun j a b => h j a (by omega)) (by omega)
    rw [if_neg (by omega), h 1 (by omega) (by omega), if_neg c2, e, if_neg c3, if_pos c4]
  rw [if_neg c4] at hk ⊢
  by_cases c5 : numP (from' s 6) < 56320 ∨ 57344 ≤ numP (from' s 6)
  · rw [if_pos c5] at hk; exact absurd hk.symm h0
  rw [if_neg c5] at hk ⊢
  have hk' : k = 12 := hk.symm
  have e := num_agr (s := s) (s' := s') (by omega) (fun j a b => h j a (by omega)) (by omega)
  have e2 := num_agr (s := from' s 6) (s' := from' s' 6) (by rw [from_len s' 6 (by omega) (by omega)]; omega) (fun j a b => by rw [byteAt_from _ _ _ (by omega) a, byteAt_from _ _ _ (by omega) a]; exact h _ (by omega) (by omega)) (by omega)
  rw [if_neg (by omega), h 1 (by omega) (by omega), if_neg c2, e, if_neg c3, if_neg c4, e2, if_neg c5]

theorem sub_from {α : Type} (s : List α) (i j : Int) (h0 : 0 ≤ i) (h1 : 0 ≤ j) : Eng.sub (from' s i) 0 j = Eng.sub s i (i + j) := by
  unfold Eng.sub from'
  simp only [Int.toNat_zero, List.drop_zero, Nat.sub_zero]
  congr 1; omega
theorem numB_iff (b : UInt8) : isNumB b = true ↔ (48 ≤ b.toNat ∧ b.toNat ≤ 57) ∨ b.toNat = 43 ∨ b.toNat = 45 ∨ b.toNat = 46 ∨ b.toNat = 101 ∨ b.toNat = 69 := by
  have := numB_fin ⟨b.toNat, b.toNat_lt⟩
  simp only [UInt8.ofNat_toNat] at this
  rw [this, decide_eq_true_eq]
theorem byteAt_cons0 (a : UInt8) (l : Str) : byteAt (a :: l) 0 = (a.toNat : Int) := rfl
theorem from_app {u v : Str} : from' (u ++ v) (len u) = v := by unfold from' len; simp
theorem ne_len {α : Type} {l : List α} : l ≠ [] ↔ 0 < len l := ⟨fun h => len_pos h, fun h e => by rw [e, len_nil] at h; omega⟩
theorem AllF.app {a b : Str} (h : AllF a) (k : AllF b) : AllF (a ++ b) := fun x hx => by
  rcases List.mem_append.1 hx with hx | hx
  · exact h x hx
  · exact k x hx
theorem zeros_mem {k : Int} : ∀ b ∈ zeros k, b = 48 := fun b hb => (List.mem_replicate.1 hb).2
theorem AllF.zeros (k : Int) : AllF (zeros k) := fun b hb => by rw [zeros_mem b hb]; rfl
/-- A run of figures, by what stands there. -/
def Behind (r : Str) : Prop := r = [] ∨ ∃ b q, r = b :: q ∧ isFigB b = false
theorem run_is {s g r : Str} {i : Int} (h : from' s i = g ++ r) (hg : AllF g) (hr : Behind r) : runTo s i = i + len g := by
  have : (g ++ r).takeWhile isFigB = g := by
    rw [List.takeWhile_append_of_pos hg]
    rcases hr with rfl | ⟨b, q, rfl, hb⟩
    · simp
    · rw [List.takeWhile_cons, hb]; simp
  unfold runTo; rw [h, this]
theorem sub_mid {s g r : Str} {i : Int} (h0 : 0 ≤ i) (h : from' s i = g ++ r) : Eng.sub s i (i + len g) = g := by
  rw [← sub_from s i (len g) h0 (len_nonneg _), h, sub_app]
theorem from_next {s g r : Str} {i : Int} (h0 : 0 ≤ i) (h : from' s i = g ++ r) : from' s (i + len g) = r := by
  rw [← from_from s i (len g) h0 (len_nonneg _), h, from_app]
theorem len_of_from {s g : Str} {i : Int} (h0 : 0 ≤ i) (h : from' s i = g) (hg : g ≠ []) : len s = i + len g := by
  have hp := ne_len.1 hg
  have := from_len' s i h0
  rw [h] at this
  split at this <;> omega
theorem byte_of_from {s q : Str} {b : UInt8} {i : Int} (h0 : 0 ≤ i) (h : from' s i = b :: q) : i < len s ∧ byteAt s i = (b.toNat : Int) := by
  have hl := len_of_from h0 h (by simp)
  rw [len_cons] at hl
  have hq := len_nonneg q
  refine ⟨by omega, ?_⟩
  have := byteAt_from s i 0 h0 (Int.le_refl 0)
  rw [h, Int.add_zero] at this
  rw [← this]; rfl
theorem at_yes {s q : Str} {b : UInt8} {i : Int} (h0 : 0 ≤ i) (h : from' s i = b :: q) : isAt s [b] i = true ∧ isTo s [b] i = i + 1 := by
  have := byte_of_from h0 h
  have e : isAt s [b] i = true := isAt_one.2 this
  exact ⟨e, isTo_yes e⟩
theorem at_not {s q : Str} {b c : UInt8} {i : Int} (h0 : 0 ≤ i) (h : from' s i = b :: q) (hne : b ≠ c) : isAt s [c] i = false ∧ isTo s [c] i = i := by
  have hb := byte_of_from h0 h
  have e : isAt s [c] i = false := by
    cases hh : isAt s [c] i with
    | false => rfl
    | true => exact absurd (UInt8.toNat_inj.1 (by have := (isAt_one.1 hh).2; omega)) hne
  exact ⟨e, isTo_no e⟩
theorem at_end {s : Str} {c : Str} {i : Int} (h : len s ≤ i) : isAt s c i = false ∧ isTo s c i = i := by
  have e : isAt s c i = false := by
    cases hh : isAt s c i with
    | false => rfl
    | true => have := isAt_lt hh; omega
  exact ⟨e, isTo_no e⟩
def sgn (neg : Bool) : Str := if neg then [45] else []
theorem fig_ne {b : UInt8} (h : isFigB b = true) : b ≠ 45 ∧ b ≠ 43 ∧ b ≠ 46 ∧ b ≠ 101 ∧ b ≠ 69 := by
  refine ⟨?_, ?_, ?_, ?_, ?_⟩ <;> (intro e; subst e; revert h; decide)
/-- The whole part, behind its sign. -/
theorem read_whole {s w r : Str} {neg : Bool} (h : s = sgn neg ++ (w ++ r)) (hw : AllF w) (hn : w ≠ []) (hr : Behind r) (hz : ¬ (1 < len w ∧ byteAt w 0 = 48)) :
    ∃ b0, 0 ≤ b0 ∧ from' s b0 = r ∧ read1 s = if isAt s [46] b0 then
      if Eng.sub s (isTo s [46] b0) (runTo s (isTo s [46] b0)) = [] then (noNd, runTo s (isTo s [46] b0), 1)
      else rest1 s neg (w ++ Eng.sub s (isTo s [46] b0) (runTo s (isTo s [46] b0))) (-(len (Eng.sub s (isTo s [46] b0) (runTo s (isTo s [46] b0))))) (runTo s (isTo s [46] b0))
    else rest1 s neg w 0 (isTo s [46] b0) := by
  have ha : isAt s [45] 0 = neg ∧ isTo s [45] 0 = len (sgn neg) := by
    cases neg with
    | true => exact at_yes (q := w ++ r) (Int.le_refl 0) (by rw [h]; rfl)
    | false =>
      cases w with
      | nil => exact absurd rfl hn
      | cons b w => exact at_not (q := w ++ r) (Int.le_refl 0) (by rw [h]; rfl) (fig_ne (hw b (by simp))).1
  have hs0 := len_nonneg (sgn neg)
  have hf : from' s (len (sgn neg)) = w ++ r := by rw [h, from_app]
  have hrun := run_is hf hw hr
  have hsub := sub_mid hs0 hf
  refine ⟨len (sgn neg) + len w, by have := len_nonneg w; omega, from_next hs0 hf, ?_⟩
  rw [read1_at ha.2, hrun, hsub, if_neg hz, if_neg hn, ha.1]
theorem rest_end {s fg : Str} {neg : Bool} {x b : Int} (h : len s ≤ b) : rest1 s neg fg x b = fin1 neg fg x [] 1 := by
  obtain ⟨e1, e2⟩ := at_end (c := [101, 69]) h
  unfold rest1; rw [e1, e2, if_neg (by simp), if_neg (by omega)]
theorem read_int {s w : Str} {neg : Bool} (h : s = sgn neg ++ w) (hw : AllF w) (hn : w ≠ []) (hz : ¬ (1 < len w ∧ byteAt w 0 = 48)) : read1 s = fin1 neg w 0 [] 1 := by
  obtain ⟨b, h0, h1, h2⟩ := read_whole (neg := neg) (w := w) (r := []) (by simpa using h) hw hn (.inl rfl) hz
  have hb : len s ≤ b := by
    have := from_len' s b h0
    rw [h1, len_nil] at this
    split at this <;> omega
  obtain ⟨e1, e2⟩ := at_end (c := [46]) hb
  rw [h2, e1, e2, if_neg (by simp), rest_end hb]
theorem read_frac {s w p : Str} {neg : Bool} (h : s = sgn neg ++ (w ++ 46 :: p)) (hw : AllF w) (hn : w ≠ []) (hz : ¬ (1 < len w ∧ byteAt w 0 = 48)) (hp : AllF p) (hpn : p ≠ []) : read1 s = fin1 neg (w ++ p) (-(len p)) [] 1 := by
  obtain ⟨b, h0, h1, h2⟩ := read_whole h hw hn (.inr ⟨46, p, rfl, by decide⟩) hz
  obtain ⟨e1, e2⟩ := at_yes h0 h1
  have hf : from' s (b + 1) = p ++ [] := by rw [← from_from s b 1 h0 (by omega), h1]; simp [from']
  have hrun := run_is hf hp (.inl rfl)
  have hsub := sub_mid (by omega) hf
  have hl := len_of_from h0 h1 (by simp)
  rw [len_cons] at hl
  rw [h2, e1, e2, if_pos rfl, hrun, hsub, if_neg hpn, rest_end (by omega)]
theorem read_exp {s w p : Str} {neg neg2 : Bool} (h : s = sgn neg ++ (w ++ 101 :: (sgn neg2 ++ p))) (hw : AllF w) (hn : w ≠ []) (hz : ¬ (1 < len w ∧ byteAt w 0 = 48)) (hp : AllF p) (hpn : p ≠ []) : read1 s = fin1 neg w 0 p (if neg2 then -1 else 1) := by
  obtain ⟨b, h0, h1, h2⟩ := read_whole h hw hn (.inr ⟨101, _, rfl, by decide⟩) hz
  obtain ⟨e1, e2⟩ := at_not (c := 46) h0 h1 (by decide)
  have hby := byte_of_from h0 h1
  have e3 : isAt s [101, 69] b = true := isAt_two.2 ⟨hby.1, .inl hby.2⟩
  have hf : from' s (b + 1) = sgn neg2 ++ p := by rw [← from_from s b 1 h0 (by omega), h1]; rfl
  have hc : isAt s [45] (b + 1) = neg2 ∧ (if neg2 then isTo s [45] (b + 1) else isTo s [43] (isTo s [45] (b + 1))) = b + 1 + len (sgn neg2) := by
    cases neg2 with
    | true => exact at_yes (q := p) (by omega) hf
    | false =>
      cases p with
      | nil => exact absurd rfl hpn
      | cons c p =>
        have hc := fig_ne (hp c (by simp))
        obtain ⟨g1, g2⟩ := at_not (c := 45) (i := b + 1) (by omega) hf hc.1
        obtain ⟨g3, g4⟩ := at_not (c := 43) (i := b + 1) (by omega) hf hc.2.1
        refine ⟨g1, ?_⟩
        rw [if_neg (by simp), g2, g4]
        show b + 1 = b + 1 + 0
        omega
  have hg := len_nonneg (sgn neg2)
  have hf2 : from' s (b + 1 + len (sgn neg2)) = p ++ [] := by rw [List.append_nil]; exact from_next (by omega) hf
  have hrun := run_is hf2 hp (.inl rfl)
  have hsub := sub_mid (by omega) hf2
  have hl := len_of_from (by omega) hf2 (by simpa using hpn)
  rw [List.append_nil] at hl
  rw [h2, e1, e2, if_neg (by simp)]
  unfold rest1
  rw [e3, if_pos rfl, isTo_yes e3]
  unfold exp1
  dsimp only
  rw [hc.1, hc.2, hrun, hsub, if_neg (by rw [not_or]; exact ⟨hpn, by omega⟩)]

/-! ### What is made of figures -/
theorem dropZ_ne {s : Str} (h : byteAt s 0 ≠ 48) : dropZ s = s := dropZ_stop (fun x => h x.2)
theorem dropZ_zeros {s : Str} (h : byteAt s 0 ≠ 48) (k : Int) : dropZ (zeros k ++ s) = s := by
  have : ∀ n : Nat, dropZ (List.replicate n 48 ++ s) = s := by
    intro n
    induction n with
    | zero => exact dropZ_ne h
    | succ n ih => rw [List.replicate_succ, List.cons_append, dropZ_cons (by decide), ih]
  exact this k.toNat
theorem trimZ_zeros {s : Str} (hn : s ≠ []) (h : byteAt s (len s - 1) ≠ 48) (k : Int) : trimZ (s ++ zeros k) = s := by
  have := Lib.trimRightS_take (s ++ zeros k) [48] s.length (by simp) (fun j b hj hb => by
    rw [List.getElem?_append_right hj] at hb
    rw [zeros_mem b (List.mem_of_getElem? hb)]; rfl) (fun b h0 hb => by
    rw [List.getElem?_append_left (by omega)] at hb
    have e : byteAt s (len s - 1) = (b.toNat : Int) := by
      unfold byteAt len
      rw [show ((s.length : Int) - 1).toNat = s.length - 1 from by omega, List.getD_eq_getElem?_getD, hb]; rfl
    cases hc : ([48] : Str).contains b with
    | false => rfl
    | true => rw [u8_eq48] at hc; omega)
  unfold trimZ; rw [this]; simp
theorem mk_is {fg s : Str} {neg : Bool} {e0 e k : Int} (hf : AllF fg) (hd : dropZ fg = s ++ zeros k) (hk : 0 ≤ k) (hn : s ≠ []) (hl : byteAt s (len s - 1) ≠ 48) (he : e0 + k = e) (h1 : len s ≤ 100) (h2 : -1000 ≤ e) (h3 : len s + e ≤ 1000) (hk2 : k ≤ 2000) :
    mk1 neg fg e0 = (⟨3, 0, [], s, neg, e⟩, 0) := by
  have hp := ne_len.1 hn
  have hlz := zeros_len k hk
  have hdl : len (dropZ fg) = len s + k := by rw [hd, len_app, hlz]
  have ht : trimZ (dropZ fg) = s := by rw [hd, trimZ_zeros hn hl]
  unfold mk1
  rw [if_pos (figs_iff.2 hf), ht, hdl, if_neg (by rw [hd]; simp [hn])]
  rw [if_neg (by simp only [Bool.or_eq_true, decide_eq_true_eq]; omega), if_neg (by simp only [Bool.or_eq_true, decide_eq_true_eq]; omega)]
  rw [show e0 + (len s + k - len s) = e from by omega]
theorem itoa_tab : ∀ n : Fin 2001, (Lib.itoa ((n.val : Int) - 1000) == sgn (decide ((n.val : Int) - 1000 < 0)) ++ Lib.decDigits ((n.val : Int) - 1000).natAbs) = true ∧
    (Lib.decDigits ((n.val : Int) - 1000).natAbs).all isFigB = true ∧ Lib.decDigits ((n.val : Int) - 1000).natAbs ≠ [] ∧ len (dropZ (Lib.decDigits ((n.val : Int) - 1000).natAbs)) ≤ 6 ∧
    decVal (dropZ (Lib.decDigits ((n.val : Int) - 1000).natAbs)) = (((n.val : Int) - 1000).natAbs : Int) := by decide +kernel
theorem itoa_open {e : Int} (h0 : -1000 ≤ e) (h1 : e ≤ 1000) : ∃ p, Lib.itoa e = sgn (decide (e < 0)) ++ p ∧ AllF p ∧ p ≠ [] ∧ len (dropZ p) ≤ 6 ∧ (if decide (e < 0) then (-1 : Int) else 1) * decVal (dropZ p) = e := by
  have := itoa_tab ⟨(e + 1000).toNat, by omega⟩
  dsimp only at this
  rw [show (((e + 1000).toNat : Nat) : Int) - 1000 = e from by omega] at this
  obtain ⟨g1, g2, g3, g4, g5⟩ := this
  refine ⟨_, by simpa using g1, fun b hb => List.all_eq_true.1 g2 b hb, g3, g4, ?_⟩
  rw [g5]
  by_cases h : e < 0
  · rw [if_pos (by simpa using h)]; omega
  · rw [if_neg (by simpa using h)]; omega
theorem fin_is {neg : Bool} {fg : Str} {x : Int} : fin1 neg fg x [] 1 = ((mk1 neg fg x).1, 0, (mk1 neg fg x).2) := by
  unfold fin1
  rw [show dropZ [] = [] from rfl, if_neg (by decide), show x + 1 * decVal [] = x from by show x + 1 * 0 = x; omega]
/-- A number's text: a sign, a figure or more, and what a number has. -/
theorem print_form {n : Nd} (h : right1 n = true) : read1 (print1 n) = (n, 0, 0) ∧ (∃ g r, print1 n = sgn n.neg ++ (g :: r) ∧ isFigB g = true) ∧ ∀ b ∈ print1 n, isNumB b = true := by
  obtain ⟨he, hf, h1, h2, h3, h4, h5⟩ := right_open h
  generalize hs : n.s = s at *
  generalize hneg : n.neg = neg at *
  generalize hee : n.e = e at *
  subst he
  have numF : ∀ b, isFigB b = true → isNumB b = true := fun b hb => by
    rw [numB_iff]; left
    unfold isFigB isFig at hb
    simp only [Bool.and_eq_true, decide_eq_true_eq] at hb
    omega
  have numS : ∀ g : Bool, ∀ b ∈ sgn g, isNumB b = true := by decide
  rcases h5 with ⟨e1, e2, e3⟩ | ⟨hn, hb, hl⟩
  · subst e1; subst e2; subst e3
    exact ⟨by decide +kernel, ⟨48, [], by decide, by decide⟩, by decide⟩
  obtain ⟨g, q, hgq⟩ : ∃ g q, s = g :: q := by cases s with
    | nil => exact absurd rfl hn
    | cons g q => exact ⟨g, q, rfl⟩
  have hp := ne_len.1 hn
  unfold print1
  dsimp only
  rw [if_neg (by simpa using hn), show (if neg then ([45] : Str) else []) = sgn neg from rfl]
  by_cases c1 : (decide (0 ≤ e) && decide (len s + e ≤ 20)) = true
  · rw [if_pos c1]
    simp only [Bool.and_eq_true, decide_eq_true_eq] at c1
    have hbz : byteAt (s ++ zeros e) 0 ≠ 48 := by rw [byteAt_l (Int.le_refl 0) hp]; exact hb
    refine ⟨?_, ⟨g, q ++ zeros e, by rw [hgq]; simp, hf g (by rw [hgq]; simp)⟩, fun b hb => ?_⟩
    · rw [read_int (w := s ++ zeros e) (neg := neg) (by simp) (hf.app (AllF.zeros e)) (by simp [hn]) (fun x => hbz x.2), fin_is, mk_is (s := s) (k := e) (e := e) (hf.app (AllF.zeros e)) (dropZ_ne hbz) c1.1 hn hl (by omega) (by omega) (by omega) (by omega) (by omega)]
    · simp only [List.mem_append] at hb
      rcases hb with (hb | hb) | hb
      · exact numS _ b hb
      · exact numF b (hf b hb)
      · exact numF b (AllF.zeros e b hb)
  rw [if_neg c1]
  by_cases c2 : (decide (e < 0) && decide (-20 ≤ e)) = true
  · rw [if_pos c2]
    simp only [Bool.and_eq_true, decide_eq_true_eq] at c2
    have hz := zeros_len' (1 - e - len s)
    have hz2 : 0 ≤ 1 - e - len s → len (zeros (1 - e - len s)) = 1 - e - len s := fun x => zeros_len _ x
    have hz3 : 1 - e - len s ≤ 0 → zeros (1 - e - len s) = [] := fun x => zeros_neg x
    have hfS : AllF (zeros (1 - e - len s) ++ s) := (AllF.zeros _).app hf
    have hlS : len (zeros (1 - e - len s) ++ s) = len (zeros (1 - e - len s)) + len s := len_app _ _
    have hdS : dropZ (zeros (1 - e - len s) ++ s) = s := dropZ_zeros hb _
    have hb1 : 1 - e - len s ≤ 0 → byteAt (zeros (1 - e - len s) ++ s) 0 ≠ 48 := fun x => by rw [hz3 x]; exact hb
    generalize zeros (1 - e - len s) ++ s = S at *
    obtain ⟨hsp1, hsp2⟩ := sub_from_split (s := S) (n := len S + e) (by omega) (by omega)
    have hlf := from_len S (len S + e) (by omega) (by omega)
    have hfw : AllF (Eng.sub S 0 (len S + e)) := fun b hb => hfS b (by rw [hsp1]; simp [hb])
    have hfp : AllF (from' S (len S + e)) := fun b hb => hfS b (by rw [hsp1]; simp [hb])
    have hwn : Eng.sub S 0 (len S + e) ≠ [] := ne_len.2 (by omega)
    have hpn : from' S (len S + e) ≠ [] := ne_len.2 (by omega)
    have hzz : ¬ (1 < len (Eng.sub S 0 (len S + e)) ∧ byteAt (Eng.sub S 0 (len S + e)) 0 = 48) := by
      rintro ⟨x1, x2⟩
      by_cases hpd : 0 ≤ 1 - e - len s
      · have := hz2 hpd; omega
      · refine hb1 (by omega) ?_
        rw [byteAt_sub (Int.le_refl 0) (Int.le_refl 0) (by omega) (by omega)] at x2
        exact x2
    obtain ⟨g', q', hgq'⟩ : ∃ g q, Eng.sub S 0 (len S + e) = g :: q := by
      cases hh : Eng.sub S 0 (len S + e) with
      | nil => exact absurd hh hwn
      | cons g q => exact ⟨g, q, rfl⟩
    refine ⟨?_, ⟨g', q' ++ 46 :: from' S (len S + e), by rw [hgq']; simp, hfw g' (by rw [hgq']; simp)⟩, fun b hb => ?_⟩
    · rw [read_frac (w := Eng.sub S 0 (len S + e)) (p := from' S (len S + e)) (neg := neg) (by simp) hfw hwn hzz hfp hpn, ← hsp1, fin_is,
        mk_is (s := s) (k := 0) (e := e) hfS (by rw [hdS, zeros_neg (Int.le_refl 0)]; simp) (Int.le_refl 0) hn hl (by omega) (by omega) (by omega) (by omega) (by omega)]
    · simp only [List.mem_append, List.mem_cons, List.not_mem_nil, or_false] at hb
      rcases hb with ((hb | hb) | hb) | hb
      · exact numS _ b hb
      · exact numF b (hfw b hb)
      · subst hb; decide
      · exact numF b (hfp b hb)
  rw [if_neg c2]
  obtain ⟨p, hi, hfp, hpn, hl6, hv⟩ := itoa_open (e := e) (by omega) (by omega)
  have hbz : byteAt s 0 ≠ 48 := hb
  refine ⟨?_, ⟨g, q ++ 101 :: Lib.itoa e, by rw [hgq]; simp, hf g (by rw [hgq]; simp)⟩, fun b hb => ?_⟩
  · rw [hi, read_exp (w := s) (p := p) (neg := neg) (neg2 := decide (e < 0)) (by simp) hf hn (fun x => hbz x.2) hfp hpn]
    unfold fin1
    rw [if_neg (by omega), hv, Int.zero_add,
      mk_is (s := s) (k := 0) (e := e) hf (by rw [dropZ_ne hbz, zeros_neg (Int.le_refl 0)]; simp) (Int.le_refl 0) hn hl (by omega) (by omega) (by omega) (by omega) (by omega)]
  · rw [hi] at hb
    simp only [List.mem_append, List.mem_cons, List.not_mem_nil, or_false] at hb
    rcases hb with ((hb | hb) | hb) | hb | hb
    · exact numS _ b hb
    · exact numF b (hf b hb)
    · subst hb; decide
    · exact numS _ b hb
    · exact numF b (hfp b hb)

/-! ### What a text is read as -/
theorem mk_right {neg : Bool} {s : Str} {e : Int} (h : (mk1 neg s e).2 = 0) : right1 (mk1 neg s e).1 = true := by
  unfold mk1 at h ⊢
  by_cases c1 : figs s = true
  · rw [if_pos c1] at h ⊢
    by_cases c2 : (dropZ s == []) = true
    · rw [if_pos c2]; decide +kernel
    rw [if_neg c2] at h ⊢
    split at h
    · cases h
    rename_i c3
    rw [if_neg c3]
    split at h
    · cases h
    rename_i c4
    rw [if_neg c4]
    simp only [Bool.or_eq_true, decide_eq_true_eq] at c4
    have c2' : ¬ dropZ s = [] := by simpa using c2
    have hp := trimZ_pos s c2'
    have htn : trimZ (dropZ s) ≠ [] := ne_len.2 hp
    have hpre : ∃ r, trimZ (dropZ s) ++ r = dropZ s := by
      unfold trimZ Lib.trimRightS
      have := List.dropWhile_suffix (([48] : Str).contains ·) (l := (dropZ s).reverse)
      obtain ⟨r, hr⟩ := this
      refine ⟨r.reverse, ?_⟩
      rw [← List.reverse_append, hr, List.reverse_reverse]
    obtain ⟨r, hr⟩ := hpre
    have hF : AllF (trimZ (dropZ s)) := fun b hb => (figs_drop (figs_iff.1 c1)) b (by rw [← hr]; simp [hb])
    have hfirst : byteAt (trimZ (dropZ s)) 0 ≠ 48 := by
      rw [← byteAt_l (v := r) (Int.le_refl 0) hp, hr]
      cases hd : dropZ s with
      | nil => exact absurd hd c2'
      | cons b l =>
        have := dropZ_first hd
        intro e; rw [byteAt_cons0] at e; rw [u8_eq48.2 e] at this; cases this
    have hlast : byteAt (trimZ (dropZ s)) (len (trimZ (dropZ s)) - 1) ≠ 48 := by
      obtain ⟨b, e1, e2⟩ := last_split hp
      rw [← e2]
      intro e3
      have hb : ([48] : Str).contains b = true := u8_eq48.2 e3
      have : trimZ (dropZ s) = ((dropZ s).reverse.dropWhile (([48] : Str).contains ·)).reverse := rfl
      rw [this] at e1
      have h2 := congrArg List.reverse e1
      rw [List.reverse_reverse, List.reverse_append, List.reverse_cons, List.reverse_nil, List.nil_append, List.singleton_append] at h2
      have := dropZ_first (s := (dropZ s).reverse) (b := b) (l := (Eng.sub (trimZ (dropZ s)) 0 (len (trimZ (dropZ s)) - 1)).reverse) h2
      rw [hb] at this; cases this
    unfold right1
    dsimp only
    rw [if_neg (by
      simp only [Bool.or_eq_true, decide_eq_true_eq, bne_iff_ne, Bool.not_eq_true', beq_eq_false_iff_ne, figs_iff.2 hF]
      simp only [not_or]
      refine ⟨⟨⟨⟨⟨⟨⟨by simp, by simp⟩, by simp⟩, by simp⟩, by omega⟩, by omega⟩, by omega⟩, by omega⟩), if_neg (by simpa using htn)]
    simp [hfirst, hlast]
  · rw [if_neg c1] at h; exact absurd h (by decide)
theorem mk_err {neg : Bool} {s : Str} {e : Int} (h : AllF s) : (mk1 neg s e).2 = 0 ∨ (mk1 neg s e).2 = 2 := by
  unfold mk1
  rw [if_pos (figs_iff.2 h)]
  split
  · exact .inl rfl
  · split
    · exact .inr rfl
    · split
      · exact .inr rfl
      · exact .inl rfl
def ReadOk (r : Nd × Int × Int) : Prop := (r.2.2 = 0 → right1 r.1 = true) ∧ (r.2.2 = 0 ∨ r.2.2 = 1 ∨ r.2.2 = 2)
theorem fin_ok {neg : Bool} {fg : Str} {x : Int} {pw : Str} {side : Int} (h : AllF fg) : ReadOk (fin1 neg fg x pw side) := by
  unfold fin1
  split
  · exact ⟨fun e => absurd e (by decide), .inr (.inr rfl)⟩
  · refine ⟨fun e => mk_right e, ?_⟩
    rcases mk_err (neg := neg) (e := x + side * decVal (dropZ pw)) h with e | e
    · exact .inl e
    · exact .inr (.inr e)
theorem bad_ok (n : Nd) (p : Int) : ReadOk (n, p, 1) := ⟨fun e => absurd e (show ¬ (1 : Int) = 0 by decide), .inr (.inl rfl)⟩
theorem rest_ok {s fg : Str} {neg : Bool} {x b : Int} (h : AllF fg) : ReadOk (rest1 s neg fg x b) := by
  unfold rest1
  split
  · unfold exp1
    dsimp only
    repeat' split
    all_goals first | exact bad_ok _ _ | exact fin_ok h
  · split
    · exact bad_ok _ _
    · exact fin_ok h
theorem read_ok (s : Str) : ReadOk (read1 s) := by
  have h0 := isTo_bd s [45] 0 (len_nonneg s)
  have hr := runTo_bd s (isTo s [45] 0) (by omega) h0.2
  have h1 := isTo_bd s [46] (runTo s (isTo s [45] 0)) hr.2
  unfold read1
  dsimp only
  have hF : AllF (Eng.sub s (isTo s [45] 0) (runTo s (isTo s [45] 0))) := figs_run h0.1
  split
  · exact bad_ok _ _
  · split
    · exact bad_ok _ _
    · split
      · split
        · exact bad_ok _ _
        · exact rest_ok (hF.app (figs_run (by omega)))
      · exact rest_ok hF
theorem qOne_tab : ∀ n : Fin 128, (qOne (n.val : Int) = [UInt8.ofNat n.val] ∧ 32 ≤ n.val ∧ n.val ≠ 34 ∧ n.val ≠ 92) ∨
    (byteAt (qOne (n.val : Int)) 0 = 92 ∧ escP (qOne (n.val : Int)) = ((n.val : Int), len (qOne (n.val : Int))) ∧ len (qOne (n.val : Int)) ≠ 0) := by decide +kernel
theorem unq_from {s T r : Str} : ∀ (f : Nat) (p i : Int) (acc : List Int), 0 ≤ p → p ≤ len s → 0 ≤ i → utfFrom s p = true → from' T i = qFrom s p ++ 34 :: r → (len T - i).toNat ≤ f →
    unqGo f T i acc = (toStr acc ++ from' s p, i + len (qFrom s p) + 1, 0)
  | f, p, i, acc, h0, h1, hi, hu, hT, hf => by
    have hne : from' T i ≠ [] := by rw [hT]; simp
    have hlT := len_of_from hi rfl hne
    have hpos := ne_len.1 hne
    have hlt : i < len T := by omega
    rw [unqGo_eq hf hlt, runeAt_from T i hi, runeLen_from T i hi]
    by_cases hp : p < len s
    · have hb := rune_bd s p
      have hle := rune_le s p hp
      rcases rune_dec h0 hp with ⟨h2, _⟩ | ⟨h2, h3, _, h5, h6, h7⟩
      · rw [utfFrom_bad s p h0 hp h2] at hu; cases hu
      rw [← utfFrom_step s p h0 hp (by omega)] at hu
      rw [qFrom_step h0 hp] at hT ⊢
      rw [h3] at hT ⊢
      rw [List.append_assoc] at hT
      have hnext := from_next hi hT
      have hlq := len_nonneg (qFrom s (p + rune s p) ++ 34 :: r)
      have hlT2 : len T = i + (len (qOne (runeAt s p)) + len (qFrom s (p + rune s p) ++ 34 :: r)) := by rw [hlT, hT, len_app]
      have hby : ∀ j, 0 ≤ j → j < len (qOne (runeAt s p)) → byteAt T (i + j) = byteAt (qOne (runeAt s p)) j := fun j a b => by
        rw [← byteAt_from T i j hi a, hT, byteAt_l a b]
      have hback : toStr acc ++ from' s p = toStr (acc ++ Lib.encodeRuneZ (runeAt s p)) ++ from' s (p + rune s p) := by
        rw [toStr_app, h5, from_split s p (p + rune s p) h0 (by omega), List.append_assoc]
      have ih := fun (g : Nat) (hg : (len T - (i + len (qOne (runeAt s p)))).toNat ≤ g) => unq_from (s := s) (T := T) (r := r) g (p + rune s p) (i + len (qOne (runeAt s p))) (acc ++ Lib.encodeRuneZ (runeAt s p)) (by omega) hle (by have := len_nonneg (qOne (runeAt s p)); omega) hu hnext hg
      rw [hback, len_app, show i + (len (qOne (runeAt s p)) + len (qFrom s (p + rune s p))) + 1 = i + len (qOne (runeAt s p)) + len (qFrom s (p + rune s p)) + 1 from by omega]
      by_cases hc : byteAt s p < 128
      · obtain ⟨h8, h9⟩ := h6 hc
        have hc0 := byteAt_bd s p
        have tab := qOne_tab ⟨(byteAt s p).toNat, by omega⟩
        dsimp only at tab
        rw [show (((byteAt s p).toNat : Nat) : Int) = byteAt s p from by omega] at tab
        rw [h9] at hby hT ih ⊢
        rcases tab with ⟨q1, q2, q3, q4⟩ | ⟨q1, q2, q3⟩
        · have hl1 : len (qOne (byteAt s p)) = 1 := by rw [q1]; rfl
          have hTb : byteAt T i = byteAt s p := by
            have := hby 0 (Int.le_refl 0) (by omega)
            rw [Int.add_zero, q1, byteAt_cons0] at this
            rw [this]; exact u8_nat hc0.1 (by omega)
          have hrl := rune_low hi hlt (by omega)
          rw [hrl.1, hrl.2, hTb, if_neg (by omega), if_neg (by omega), if_neg (by omega)]
          rw [hl1] at ih ⊢
          exact ih _ (by omega)
        · have hlp := len_nonneg (qOne (byteAt s p))
          have hTb : byteAt T i = 92 := by
            have := hby 0 (Int.le_refl 0) (by omega)
            rw [Int.add_zero, q1] at this; exact this
          have hra : runeAt T i = 92 := (runeAt_low hi hlt (by omega)).2 hTb
          have hesc : escP (from' T i) = (byteAt s p, len (qOne (byteAt s p))) := by
            rw [← q2]
            refine esc_agr (by rw [q2]; exact q3) (by rw [q2, hT, len_app]; dsimp only; omega) (fun j a b => ?_)
            rw [q2] at b
            rw [hT]; exact byteAt_l a b
          rw [hra, if_neg (by omega), if_pos rfl, hesc, if_neg q3]
          exact ih _ (by omega)
      · have hq := qOne_high (h7 (by omega))
        have hlq2 : len (qOne (runeAt s p)) = rune s p := by rw [hq, h5, sub_len h0 (by omega) hle]; omega
        have agr := rune_agr (s := s) (s' := T) (i := p) (i' := i) h0 hi (by omega) hp (by omega) (fun j a b => by
          rw [hby j a (by omega), hq, h5, byteAt_sub h0 a (by omega) hle])
        have h8 := h7 (by omega)
        have hnn := (rune_none hi hlt).2
        rw [agr.2.1, agr.2.2, h3, if_neg (by omega), if_neg (by omega), if_neg (by
          rintro (x | x)
          · omega
          · have := hnn (by rw [agr.2.1, agr.2.2, h3]; exact x)
            omega)]
        rw [hlq2] at ih ⊢
        exact ih _ (by omega)
    · rw [qFrom_end hp] at hT ⊢
      have hTb : byteAt T i = 34 := (byte_of_from hi hT).2
      rw [if_pos ((runeAt_low hi hlt (by omega)).2 hTb), from_nil s p (by omega)]
      simp [len_nil]
termination_by f p => (len s - p).toNat
decreasing_by all_goals omega
theorem unq_quote {s : Str} (h : utf s = true) (r : Str) : unqP (quoteP s ++ r) = (s, len (quoteP s), 0) := by
  have e : quoteP s ++ r = 34 :: (qFrom s 0 ++ 34 :: r) := by unfold quoteP; simp
  have hl : len (quoteP s) = 1 + len (qFrom s 0) + 1 := by unfold quoteP; rw [len_app, len_cons]; simp [len]; omega
  rw [e, hl]
  unfold unqP
  have hp : Lib.hasPrefix (34 :: (qFrom s 0 ++ 34 :: r)) [34] = true := pre_one.2 ⟨by simp, rfl⟩
  rw [if_pos hp, unq_from (s := s) (r := r) _ 0 1 [] (Int.le_refl 0) (len_nonneg s) (by omega) h rfl (by unfold len; simp; omega)]
  rfl

end Go.Eng
namespace Go.Eng
open Go.RowKit

/-- What stands from a place on. -/
def At (s : Str) (i : Int) (u : Str) : Prop := 0 ≤ i ∧ i ≤ len s ∧ from' s i = u
theorem At.add {s : Str} {i : Int} {u r : Str} (h : At s i (u ++ r)) : At s (i + len u) r := by
  obtain ⟨h0, h1, h2⟩ := h
  have hl := from_len s i h0 h1
  rw [h2, len_app] at hl
  have h3 := len_nonneg u; have h4 := len_nonneg r
  refine ⟨by omega, by omega, ?_⟩
  rw [← from_from s i (len u) h0 h3, h2]
  unfold from' len; simp
theorem At.one {s : Str} {i : Int} {c : UInt8} {r : Str} (h : At s i (c :: r)) : At s (i + 1) r := At.add (u := [c]) h
theorem At.lt {s : Str} {i : Int} {c : UInt8} {r : Str} (h : At s i (c :: r)) : i < len s := by
  have hl := from_len s i h.1 h.2.1
  rw [h.2.2, len_cons] at hl
  have := len_nonneg r; omega
theorem At.byte {s : Str} {i : Int} {c : UInt8} {r : Str} (h : At s i (c :: r)) : byteAt s i = (c.toNat : Int) := by
  obtain ⟨b, h1, h2⟩ := from_cons s i h.1 h.lt
  rw [h.2.2] at h1
  rw [h2, (List.cons.inj h1).1]
theorem At.has1 {s : Str} {i : Int} {c x : UInt8} {r : Str} (h : At s i (c :: r)) : hasW s i [x] = (x == c) := by
  unfold hasW Lib.hasPrefix
  rw [h.2.2]
  simp [List.isPrefixOf]
theorem At.hasNo {s : Str} {i : Int} {c x : UInt8} {r t : Str} (h : At s i (c :: r)) (hx : x ≠ c) : hasW s i (x :: t) = false := by
  unfold hasW Lib.hasPrefix
  rw [h.2.2]
  simp [List.isPrefixOf, hx]
theorem At.hasYes {s : Str} {i : Int} {t r : Str} (h : At s i (t ++ r)) : hasW s i t = true := by
  unfold hasW Lib.hasPrefix
  rw [h.2.2, List.isPrefixOf_iff_prefix]
  exact List.prefix_append t r
theorem At.nil_has {s : Str} {i : Int} {x : UInt8} {t : Str} (h : At s i []) : hasW s i (x :: t) = false := by
  unfold hasW Lib.hasPrefix
  rw [h.2.2]; rfl
def stopB (r : Str) : Prop := ∀ c r', r = c :: r' → isBlankB c = false
theorem At.blank {s : Str} {i : Int} {b r : Str} (h : At s i (b ++ r)) (hb : ∀ c ∈ b, isBlankB c = true) (hr : stopB r) : blankTo s i = i + len b := by
  unfold blankTo
  rw [h.2.2]
  have : (b ++ r).takeWhile isBlankB = b := by
    induction b with
    | nil =>
      cases r with
      | nil => rfl
      | cons c r => rw [List.nil_append, List.takeWhile_cons, hr c r rfl]; rfl
    | cons a b ih =>
      rw [List.cons_append, List.takeWhile_cons, hb a List.mem_cons_self]
      show a :: _ = _
      have key : ∀ (b r : Str), (∀ c ∈ b, isBlankB c = true) → stopB r → (b ++ r).takeWhile isBlankB = b := by
        intro b
        induction b with
        | nil => intro r _ hr; cases r with | nil => rfl | cons c r => rw [List.nil_append, List.takeWhile_cons, hr c r rfl]; rfl
        | cons a b ih2 => intro r hb2 hr; rw [List.cons_append, List.takeWhile_cons, hb2 a List.mem_cons_self, if_pos rfl, ih2 r (fun c hc => hb2 c (List.mem_cons_of_mem _ hc)) hr]
      rw [key b r (fun c hc => hb c (List.mem_cons_of_mem _ hc)) hr]
  rw [this]
theorem At.noblank {s : Str} {i : Int} {r : Str} (h : At s i r) (hr : stopB r) : blankTo s i = i := by
  have := At.blank (b := []) h (fun c hc => by cases hc) hr
  rw [len_nil] at this; omega
theorem lineP_blank (ln : Bool) (d : Int) : ∀ c ∈ lineP ln d, isBlankB c = true := by
  have key : ∀ n, ∀ c ∈ twoN n, isBlankB c = true := by
    intro n
    induction n with
    | zero => intro c hc; cases hc
    | succ n ih =>
      intro c hc
      rw [twoN] at hc
      rcases List.mem_cons.1 hc with rfl | hc
      · decide
      rcases List.mem_cons.1 hc with rfl | hc
      · decide
      · exact ih c hc
  intro c hc
  unfold lineP at hc
  split at hc
  · rcases List.mem_cons.1 hc with rfl | hc
    · decide
    · exact key _ c hc
  · cases hc
/-- A byte with which a value's text may begin. -/
def headB (c : UInt8) : Bool := !isBlankB c && c != 93 && c != 125 && c != 44
def okEnd (r : Str) : Prop := ∀ c r', r = c :: r' → isNumB c = false
theorem fig_head : ∀ n : Fin 256, isFigB (n.val).toUInt8 = true → headB (n.val).toUInt8 = true ∧ isNumB (n.val).toUInt8 = true ∧ isFig (n.val : Int) = true ∧ n.val ≠ 110 ∧ n.val ≠ 102 ∧ n.val ≠ 116 ∧ n.val ≠ 34 := by decide +kernel
theorem fig_head' {c : UInt8} (h : isFigB c = true) : headB c = true ∧ isNumB c = true ∧ isFig (c.toNat : Int) = true ∧ c ≠ 110 ∧ c ≠ 102 ∧ c ≠ 116 ∧ c ≠ 34 := by
  have e : (c.toNat).toUInt8 = c := by simp
  have := fig_head ⟨c.toNat, c.toNat_lt⟩ (by simpa using h)
  dsimp only at this
  rw [e] at this
  refine ⟨this.1, this.2.1, this.2.2.1, ?_, ?_, ?_, ?_⟩
  · intro hc; subst hc; exact absurd rfl this.2.2.2.1
  · intro hc; subst hc; exact absurd rfl this.2.2.2.2.1
  · intro hc; subst hc; exact absurd rfl this.2.2.2.2.2.1
  · intro hc; subst hc; exact absurd rfl this.2.2.2.2.2.2
theorem print1_bare (n : Nd) : print1 (bareN n) = print1 n := rfl
/-- A right number's text: how it begins. -/
theorem print1_head {n : Nd} (h : right1 (bareN n) = true) : ∃ c r, print1 n = c :: r ∧ headB c = true ∧ (c = 45 ∨ isFigB c = true) := by
  obtain ⟨g, r, hr, hg⟩ := (print_form h).2.1
  rw [print1_bare] at hr
  unfold sgn at hr
  split at hr
  · exact ⟨45, g :: r, by rw [hr]; rfl, by decide, .inl rfl⟩
  · exact ⟨g, r, by rw [hr]; rfl, (fig_head' hg).1, .inr hg⟩
theorem scalar_head {n : Nd} (h : plainB n = true) (hk : n.kind < 5) : ∃ c r, scalarP n = c :: r ∧ headB c = true := by
  unfold scalarP
  split
  · exact ⟨_, _, rfl, by decide⟩
  split
  · exact ⟨_, _, rfl, by decide⟩
  split
  · exact ⟨_, _, rfl, by decide⟩
  split
  · rename_i h0 h1 h2 h3
    unfold plainB at h
    rw [if_neg (by omega), if_pos h3] at h
    obtain ⟨c, r, h4, h5, _⟩ := print1_head h
    exact ⟨c, r, h4, h5⟩
  · exact ⟨34, _, rfl, by decide⟩
theorem prt_head {ln : Bool} {d : Int} {t : Tr} (h : t.good) : ∃ c r, prt ln d t = c :: r ∧ headB c = true := by
  obtain ⟨n, ps⟩ := t
  rw [Tr.good] at h
  rw [prt]
  split
  · rename_i hk; exact scalar_head h.1 hk
  · refine ⟨_, _, rfl, ?_⟩
    unfold marksP; split <;> decide
theorem head_blank {c : UInt8} (h : headB c = true) : isBlankB c = false := by unfold headB at h; simp only [Bool.and_eq_true, Bool.not_eq_true'] at h; exact h.1.1.1
theorem head_ne {c : UInt8} (h : headB c = true) : (93 : UInt8) ≠ c ∧ (125 : UInt8) ≠ c ∧ (44 : UInt8) ≠ c := by
  unfold headB at h; simp only [Bool.and_eq_true, bne_iff_ne] at h
  exact ⟨fun e => h.1.1.2 e.symm, fun e => h.1.2 e.symm, fun e => h.2 e.symm⟩
theorem stop_head {c : UInt8} {r : Str} (h : headB c = true) : stopB (c :: r) := fun x y e => by rw [← (List.cons.inj e).1]; exact head_blank h
/-- A scalar's text is read as it. -/
theorem val_scalar {n : Nd} (h : plainB n = true) (hk : n.kind < 5) {s : Str} {i d : Int} {r : Str} (ha : At s i (scalarP n ++ r)) (hr : okEnd r) (f : Nat) : valT (f + 1) s i d = .ok [bareN n] (i + len (scalarP n)) := by
  have hp := h
  unfold plainB at h
  unfold scalarP at ha ⊢
  have w0 : ∀ {x : Str}, At s i (110 :: x) → True := fun _ => trivial
  split at ha
  · rename_i hk0
    rw [if_pos (by omega), decide_eq_true_eq] at h
    rw [if_pos hk0, h, hk0, valT, if_pos (At.hasYes ha)]; rfl
  split at ha
  · rename_i h0 hk1
    rw [if_pos (by omega), decide_eq_true_eq] at h
    rw [if_neg h0, if_pos hk1, h, hk1, valT, if_neg (by rw [At.hasNo ha (by decide)]; decide), if_pos (At.hasYes ha)]; rfl
  split at ha
  · rename_i h0 h1 hk2
    rw [if_pos (by omega), decide_eq_true_eq] at h
    rw [if_neg h0, if_neg h1, if_pos hk2, h, hk2, valT, if_neg (by rw [At.hasNo ha (by decide)]; decide), if_neg (by rw [At.hasNo ha (by decide)]; decide), if_pos (At.hasYes ha)]; rfl
  split at ha
  · rename_i h0 h1 h2 h3
    rw [if_neg (by omega), if_pos h3] at h
    rw [if_neg h0, if_neg h1, if_neg h2, if_pos h3]
    obtain ⟨c, q, hc, hh, hcf⟩ := print1_head h
    have ha2 := ha
    rw [hc, List.cons_append] at ha2
    have hcn : c ≠ 110 ∧ c ≠ 102 ∧ c ≠ 116 ∧ c ≠ 34 := by
      rcases hcf with rfl | hf
      · decide
      · exact (fig_head' hf).2.2.2
    have hno : NoW s i 3 := by
      intro m hm0 hm3
      rcases (by omega : m = 0 ∨ m = 1 ∨ m = 2) with rfl | rfl | rfl
      · exact At.hasNo ha2 (fun e => hcn.1 e.symm)
      · exact At.hasNo ha2 (fun e => hcn.2.1 e.symm)
      · exact At.hasNo ha2 (fun e => hcn.2.2.1 e.symm)
    have hby := At.byte ha2
    have h34 : ¬ byteAt s i = 34 := by
      rw [hby]; intro e
      exact hcn.2.2.2 (UInt8.toNat_inj.1 (by have : c.toNat = 34 := by omega
                                             rw [this]; rfl))
    have hnum : byteAt s i = 45 ∨ isFig (byteAt s i) = true := by
      rw [hby]
      rcases hcf with rfl | hf
      · exact .inl rfl
      · exact .inr (fig_head' hf).2.2.1
    rw [valT_go f d hno, if_neg (by have := At.lt ha2; omega), if_neg h34, if_pos hnum]
    have hpf := print_form h
    rw [print1_bare] at hpf
    have hrun : runN (from' s i) = print1 n := by
      rw [runN_take, ha.2.2]
      have key : ∀ (u r : Str), (∀ b ∈ u, isNumB b = true) → okEnd r → (u ++ r).takeWhile isNumB = u := by
        intro u
        induction u with
        | nil => intro r _ hr; cases r with | nil => rfl | cons c r => rw [List.nil_append, List.takeWhile_cons, hr c r rfl]; rfl
        | cons a u ih => intro r hu hr; rw [List.cons_append, List.takeWhile_cons, hu a List.mem_cons_self, if_pos rfl, ih r (fun b hb => hu b (List.mem_cons_of_mem _ hb)) hr]
      exact key _ _ hpf.2.2 hr
    rw [numT_ok (by rw [hrun, hpf.1]), hrun, hpf.1]
  · rename_i h0 h1 h2 h3
    have h4 : n.kind = 4 := by have := plain_kind hp; omega
    rw [if_neg (by omega), if_neg h3, if_pos h4] at h
    simp only [Bool.and_eq_true, decide_eq_true_eq] at h
    rw [if_neg h0, if_neg h1, if_neg h2, if_neg h3]
    have ha2 : At s i (34 :: (qFrom n.s 0 ++ [34] ++ r)) := ha
    have hno : NoW s i 3 := by
      intro m hm0 hm3
      rcases (by omega : m = 0 ∨ m = 1 ∨ m = 2) with rfl | rfl | rfl
      · exact At.hasNo ha2 (by decide)
      · exact At.hasNo ha2 (by decide)
      · exact At.hasNo ha2 (by decide)
    rw [valT_go f d hno, if_neg (by have := At.lt ha2; omega), if_pos (show byteAt s i = 34 from At.byte ha2)]
    have hu : unqP (from' s i) = (n.s, len (quoteP n.s), 0) := by rw [ha.2.2]; exact unq_quote h.1 r
    rw [textT_ok (by rw [hu]), hu]
    show PR.ok [_] _ = _
    rw [h.2, h4]
/-! ### lists and objects -/
def foldP (m : List (Str × Vl)) (ts : List Tr) : List (Str × Vl) := ts.foldl (fun m u => putV m u.node.name (u.named []).flat) m
/-- Behind the parts. -/
def tailT (ln : Bool) (e : Int) (c : UInt8) (r : Str) : Str := lineP ln e ++ c :: r
def ValP (n : Nat) : Prop := ∀ (t : Tr), t.size ≤ n → t.good → ∀ (ln : Bool) (e : Int) (f : Nat) (s : Str) (i d : Int) (r : Str), At s i (prt ln e t ++ r) → okEnd r → 0 ≤ d → depthT t + d ≤ 128 → 2 * t.size ≤ f + 1 → valT f s i d = .ok (t.named []).flat (i + len (prt ln e t))
def ItemsP (n : Nat) : Prop := ∀ (t : Tr) (ts : List Tr), sizeL (t :: ts) ≤ n → goodL (t :: ts) → ∀ (ln : Bool) (e : Int) (f : Nat) (s : Str) (i d : Int) (r : Str) (l : List Vl), At s i (prt ln (e + 1) t ++ (prtL ln e false false ts ++ tailT ln e 93 r)) → 0 ≤ d → depthL (t :: ts) + (d + 1) ≤ 128 → 2 * sizeL (t :: ts) ≤ f →
  itemsT f s d l i = .ok (l ++ (t :: ts).map fun u => (u.named []).flat) (i + len (prt ln (e + 1) t) + len (prtL ln e false false ts) + len (lineP ln e) + 1)
def PairsP (n : Nat) : Prop := ∀ (t : Tr) (ts : List Tr), sizeL (t :: ts) ≤ n → goodL (t :: ts) → (∀ u ∈ t :: ts, utf u.node.name = true) → ∀ (ln : Bool) (e : Int) (f : Nat) (s : Str) (i d : Int) (r : Str) (m : List (Str × Vl)), At s i (nameP ln t.node ++ (prt ln (e + 1) t ++ (prtL ln e true false ts ++ tailT ln e 125 r))) → 0 ≤ d → depthL (t :: ts) + (d + 1) ≤ 128 → 2 * sizeL (t :: ts) ≤ f →
  pairsT f s d m i = .ok (foldP m (t :: ts)) (i + len (nameP ln t.node) + len (prt ln (e + 1) t) + len (prtL ln e true false ts) + len (lineP ln e) + 1)
theorem line_end (ln : Bool) (d : Int) (c : UInt8) (r : Str) (hc : isNumB c = false) : okEnd (lineP ln d ++ c :: r) := by
  intro x y e
  unfold lineP at e
  split at e
  · rw [List.cons_append] at e; rw [← (List.cons.inj e).1]; decide
  · rw [List.nil_append] at e; rw [← (List.cons.inj e).1]; exact hc
theorem prtL_end (ln : Bool) (d : Int) (ob : Bool) (ts : List Tr) (c : UInt8) (r : Str) (hc : isNumB c = false) : okEnd (prtL ln d ob false ts ++ tailT ln d c r) := by
  cases ts with
  | nil => rw [prtL, List.nil_append]; exact line_end ln d c r hc
  | cons t ts =>
    intro x y e
    rw [prtL] at e
    simp only [Bool.false_eq_true, if_false, List.cons_append, List.nil_append] at e
    rw [← (List.cons.inj e).1]; decide
/-- What stands behind a part: the end, or a comma and the next one. -/
theorem more_end {α : Type} {ln : Bool} {e : Int} {c : UInt8} {r s : Str} {j : Int} {x : α} {go : α → Int → PR α} (h : At s j (tailT ln e c r)) (hc : isBlankB c = false) : moreT s [c] (.ok x j) go = .ok x (j + len (lineP ln e) + 1) := by
  have hb := At.blank (b := lineP ln e) h (lineP_blank ln e) (fun y z e => by rw [← (List.cons.inj e).1]; exact hc)
  have h2 := At.add (u := lineP ln e) h
  rw [moreT_end (by rw [hb, At.has1 h2]; simp), hb]
theorem more_more {α : Type} {c : UInt8} {u q s : Str} {j : Int} {x : α} {go : α → Int → PR α} (h : At s j (44 :: (u ++ q))) (hc : c ≠ 44) (hu : ∀ c ∈ u, isBlankB c = true) (hq : stopB q) : moreT s [c] (.ok x j) go = go x (j + 1 + len u) := by
  have hb := At.noblank h (fun y z e => by rw [← (List.cons.inj e).1]; decide)
  have h2 := At.one h
  have hb2 := At.blank h2 hu hq
  rw [moreT_more (by rw [hb, At.has1 h]; simp [hc]) (by rw [hb, At.has1 h]; simp), hb, hb2]
theorem items_step {n : Nat} (hv : ValP (n + 1)) (hi : ItemsP n) : ItemsP (n + 1) := by
  intro t ts hz hg ln e f s i d r l ha h0 hd hf
  have hts := t.size_pos
  rw [sizeL] at hz hf
  rw [goodL] at hg
  rw [depthL] at hd
  obtain ⟨f, rfl⟩ : ∃ g, f = g + 1 := ⟨f - 1, by omega⟩
  have hval := hv t (by omega) hg.1 ln (e + 1) f s i (d + 1) _ ha (prtL_end ln e false ts 93 r (by decide)) (by omega) (by omega) (by omega)
  have ha2 := At.add ha
  rw [itemsT, hval]
  show moreT s [93] (.ok (l ++ [(t.named []).flat]) _) _ = _
  cases ts with
  | nil =>
    rw [prtL, List.nil_append] at ha2
    rw [more_end ha2 (by decide), prtL, len_nil]
    congr 1; omega
  | cons u us =>
    have hgu : u.good := by rw [goodL] at hg; exact hg.2.1
    obtain ⟨c, q, hc, hh⟩ := prt_head (ln := ln) (d := e + 1) hgu
    rw [prtL] at ha2
    simp only [Bool.false_eq_true, if_false, List.cons_append, List.nil_append, List.append_assoc] at ha2
    have hq : stopB (prt ln (e + 1) u ++ (prtL ln e false false us ++ tailT ln e 93 r)) := by rw [hc]; exact stop_head hh
    rw [more_more ha2 (by decide) (lineP_blank ln (e + 1)) hq]
    have ha3 := At.add (At.one ha2)
    rw [hi u us (by omega) hg.2 ln e f s _ d r _ ha3 h0 (by omega) (by omega), prtL]
    simp only [Bool.false_eq_true, if_false, List.cons_append, List.nil_append, len_cons, len_app, List.map_cons, List.append_assoc]
    congr 1; omega
theorem colon_blank (ln : Bool) : ∀ c ∈ (if ln = true then [32] else ([] : Str)), isBlankB c = true := by
  intro c hc
  split at hc
  · simp only [List.mem_singleton] at hc; subst hc; decide
  · cases hc
theorem name_stop (ln : Bool) (nd : Nd) (q : Str) : stopB (nameP ln nd ++ q) := by
  intro y z e
  have h : ∃ w, nameP ln nd ++ q = 34 :: w := ⟨_, rfl⟩
  obtain ⟨w, hw⟩ := h
  rw [hw] at e
  rw [← (List.cons.inj e).1]; decide
theorem name_at {ln : Bool} {nd : Nd} {q s : Str} {i : Int} (h : At s i (nameP ln nd ++ q)) (hu : utf nd.name = true) (hq : stopB q) {val : Int → PR Vl} {m : List (Str × Vl)} : pairT s i val m = mapR (putV m nd.name) (val (i + len (nameP ln nd))) := by
  unfold nameP at h ⊢
  rw [List.append_assoc] at h
  have ht : textT s i = .ok nd.name (i + len (quoteP nd.name)) := by
    have hun : unqP (from' s i) = (nd.name, len (quoteP nd.name), 0) := by rw [h.2.2]; exact unq_quote hu _
    rw [textT_ok (by rw [hun]), hun]
  have h2 := At.add h
  rw [List.cons_append] at h2
  have hb := At.noblank h2 (fun y z e => by rw [← (List.cons.inj e).1]; decide)
  have h3 := At.one h2
  have hb3 : blankTo s (i + len (quoteP nd.name) + 1) = i + len (quoteP nd.name) + 1 + len (if ln = true then [32] else ([] : Str)) := At.blank h3 (colon_blank ln) hq
  rw [pairT_val ht (by rw [hb, At.has1 h2]; rfl), hb, hb3, len_app, len_cons]
  congr 2; omega
theorem pairs_step {n : Nat} (hv : ValP (n + 1)) (hi : PairsP n) : PairsP (n + 1) := by
  intro t ts hz hg hu ln e f s i d r m ha h0 hd hf
  have hts := t.size_pos
  rw [sizeL] at hz hf
  rw [goodL] at hg
  rw [depthL] at hd
  obtain ⟨f, rfl⟩ : ∃ g, f = g + 1 := ⟨f - 1, by omega⟩
  obtain ⟨c0, q0, hc0, hh0⟩ := prt_head (ln := ln) (d := e + 1) hg.1
  have ha1 := At.add ha
  have hval := hv t (by omega) hg.1 ln (e + 1) f s _ (d + 1) _ ha1 (prtL_end ln e true ts 125 r (by decide)) (by omega) (by omega) (by omega)
  have ha2 := At.add ha1
  rw [pairsT, name_at ha (hu t List.mem_cons_self) (by rw [hc0]; exact stop_head hh0), hval]
  show moreT s [125] (.ok (putV m t.node.name (t.named []).flat) _) _ = _
  cases ts with
  | nil =>
    rw [prtL, List.nil_append] at ha2
    rw [more_end ha2 (by decide), prtL, len_nil]
    show PR.ok (putV m t.node.name (t.named []).flat) _ = PR.ok (putV m t.node.name (t.named []).flat) _
    congr 1; omega
  | cons u us =>
    rw [prtL] at ha2
    simp only [Bool.false_eq_true, if_false, if_true, List.cons_append, List.nil_append, List.append_assoc] at ha2
    have hq := name_stop ln u.node (prt ln (e + 1) u ++ (prtL ln e true false us ++ tailT ln e 125 r))
    rw [more_more ha2 (by decide) (lineP_blank ln (e + 1)) hq]
    have ha3 := At.add (At.one ha2)
    rw [hi u us (by omega) hg.2 (fun w hw => hu w (List.mem_cons_of_mem _ hw)) ln e f s _ d r _ ha3 h0 (by omega) (by omega), prtL]
    simp only [Bool.false_eq_true, if_false, if_true, List.cons_append, List.nil_append, len_cons, len_app]
    show PR.ok (foldP (putV m t.node.name (t.named []).flat) (u :: us)) _ = PR.ok (foldP (putV m t.node.name (t.named []).flat) (u :: us)) _
    congr 1; omega
/-! ### an object's pairs -/
theorem foldP_app (ts : List Tr) : ∀ m : List (Str × Vl), (∀ u ∈ ts, u.node.name ∉ m.map (·.1)) → (ts.map (·.node.name)).Nodup → foldP m ts = m ++ ts.map fun u => (u.node.name, (u.named []).flat) := by
  induction ts with
  | nil => intro m _ _; simp [foldP]
  | cons t ts ih =>
    intro m hm hn
    rw [List.map_cons, List.nodup_cons] at hn
    show foldP (putV m t.node.name (t.named []).flat) ts = _
    rw [putV_new (hm t List.mem_cons_self), ih]
    · simp
    · intro u hu
      rw [List.map_append]
      intro hx
      rcases List.mem_append.1 hx with hx | hx
      · exact hm u (List.mem_cons_of_mem _ hu) hx
      · simp only [List.map_cons, List.map_nil, List.mem_singleton] at hx
        exact hn.1 (List.mem_map.2 ⟨u, hu, hx⟩)
    · exact hn.2
theorem rise_lt : ∀ {ts : List Tr} {t : Tr}, risL 6 (t :: ts) → ∀ u ∈ ts, t.node.name < u.node.name
  | [], _, _, u, hu => by cases hu
  | w :: ws, t, h, u, hu => by
    rw [risL] at h
    have h1 := h.2.1 w ws rfl rfl
    rw [Go.Proofs.bytesLess_eq, decide_eq_true_eq] at h1
    rcases List.mem_cons.1 hu with rfl | hu
    · exact h1
    · exact List.lt_trans h1 (rise_lt h.2.2 u hu)
theorem rise_pair : ∀ {ts : List Tr}, risL 6 ts → (ts.map (·.node.name)).Pairwise (· < ·)
  | [], _ => List.Pairwise.nil
  | t :: ts, h => by
    rw [List.map_cons, List.pairwise_cons]
    refine ⟨fun x hx => ?_, rise_pair (by rw [risL] at h; exact h.2.2)⟩
    obtain ⟨u, hu, rfl⟩ := List.mem_map.1 hx
    exact rise_lt h u hu
theorem sortN_rise {l : List Str} (h : l.Pairwise (· < ·)) : sortN l = l := by
  unfold sortN
  refine List.Perm.eq_of_pairwise (le := fun x y => decide (x ≤ y) = true) (fun x y _ _ h1 h2 => ?_) (List.pairwise_mergeSort str_trans str_total _) (h.imp fun h1 => ?_) (List.mergeSort_perm _ _)
  · simp only [decide_eq_true_eq] at h1 h2; exact List.le_antisymm h1 h2
  · simp only [decide_eq_true_eq]; exact List.le_of_lt h1
theorem name_back (u : Tr) : nameV u.node.name (u.named []).flat = u.flat := by obtain ⟨n, ps⟩ := u; rfl
theorem obj_rise {ts : List Tr} (h : risL 6 ts) : objV (foldP [] ts) = ⟨6, len ts, [], [], false, 0⟩ :: flatL ts := by
  have hp := rise_pair h
  have hn : (ts.map (·.node.name)).Nodup := hp.imp fun h1 e => by subst e; exact List.lt_irrefl _ h1
  rw [foldP_app ts [] (fun u _ h => by cases h) hn, List.nil_append]
  have hk : (ts.map fun u => (u.node.name, (u.named []).flat)).map (·.1) = ts.map (·.node.name) := by rw [List.map_map]; rfl
  have hK : KeysOK (ts.map fun u => (u.node.name, (u.named []).flat)) := by unfold KeysOK; rw [hk]; exact hn
  unfold objV laidV
  rw [hk, sortN_rise hp]
  have e : ((ts.map (·.node.name)).map fun n => (n, (getV (ts.map fun u => (u.node.name, (u.named []).flat)) n).getD [])) = ts.map fun u => (u.node.name, (u.named []).flat) := by
    rw [List.map_map]
    refine List.map_congr_left fun u hu => ?_
    have := getV_of_mem hK (p := (u.node.name, (u.named []).flat)) (List.mem_map.2 ⟨u, hu, rfl⟩)
    show (u.node.name, (getV _ u.node.name).getD []) = _
    rw [this]; rfl
  rw [e]
  have e2 : ((ts.map fun u => (u.node.name, (u.named []).flat)).map fun p => nameV p.1 p.2).flatten = flatL ts := by
    rw [List.map_map]
    clear e hK hk hn hp h
    induction ts with
    | nil => rfl
    | cons t ts ih =>
      rw [List.map_cons, List.flatten_cons, ih, flatL]
      show nameV t.node.name (t.named []).flat ++ _ = _
      rw [name_back]
  rw [e2]; unfold len; rw [List.length_map]
theorem list_flat {ts : List Tr} (h : ∀ u ∈ ts, u.node.name = []) : (ts.map fun u => (u.named []).flat).flatten = flatL ts := by
  induction ts with
  | nil => rfl
  | cons t ts ih =>
    rw [List.map_cons, List.flatten_cons, ih (fun u hu => h u (List.mem_cons_of_mem _ hu)), flatL]
    have := h t List.mem_cons_self
    obtain ⟨n, ps⟩ := t
    have hn : n.name = [] := this
    congr 1
    show (Tr.mk { n with name := [] } ps).flat = _
    rw [← hn]
theorem marks5 : marksP 5 = (91, 93) := rfl
theorem marks6 : marksP 6 = (123, 125) := rfl
theorem many_node {n : Nd} (h : bareN n = ⟨n.kind, n.many, [], [], false, 0⟩) : { n with name := [] } = (⟨n.kind, n.many, [], [], false, 0⟩ : Nd) := h
theorem val_step {n : Nat} (hi : ItemsP n) (hp : PairsP n) : ValP (n + 1) := by
  intro t hz hg ln e f s i d r ha hr h0 hd hf
  obtain ⟨nd, ps⟩ := t
  rw [Tr.good] at hg
  rw [Tr.size] at hz hf
  rw [prt] at ha ⊢
  obtain ⟨f, rfl⟩ : ∃ g, f = g + 1 := ⟨f - 1, by omega⟩
  by_cases hk : nd.kind < 5
  · rw [if_pos hk] at ha ⊢
    have h3 := plain_scalar hg.1 hk
    have hps : ps = [] := len_zero.1 (by have := len_nonneg ps; omega)
    subst hps
    rw [val_scalar hg.1 hk ha hr f]
    rfl
  · rw [if_neg hk] at ha ⊢
    obtain ⟨hk56, he, hb⟩ := plain_many hg.1 hk
    rw [depthT, if_neg (by omega)] at hd
    have hflat : ((Tr.mk nd ps).named []).flat = { nd with name := [] } :: flatL ps := rfl
    rw [hflat, many_node hb, hg.2.1]
    have hdp := depthL_nonneg ps
    rcases hk56 with h5 | h6
    · rw [h5] at ha ⊢
      rw [marks5] at ha ⊢
      simp only [List.cons_append, List.append_assoc] at ha
      have hno : NoW s i 3 := by
        intro m hm0 hm3
        rcases (by omega : m = 0 ∨ m = 1 ∨ m = 2) with rfl | rfl | rfl
        · exact At.hasNo ha (by decide)
        · exact At.hasNo ha (by decide)
        · exact At.hasNo ha (by decide)
      have hby : byteAt s i = 91 := At.byte ha
      rw [valT_go f d hno, if_neg (by have := At.lt ha; omega), if_neg (by omega), if_neg (by rw [hby]; decide), if_neg (by omega), if_neg (by omega), if_pos hby]
      have ha1 := At.one ha
      cases ps with
      | nil =>
        rw [prtL] at ha1
        simp only [List.isEmpty_nil, if_true, List.nil_append] at ha1
        have hbl := At.noblank ha1 (fun y z e => by rw [← (List.cons.inj e).1]; decide)
        rw [partsT_end (by rw [hbl, At.has1 ha1]; rfl), hbl, prtL]
        show PR.ok (listV []) _ = _
        simp only [List.isEmpty_nil, if_true, List.append_nil, len_cons, len_app, len_nil]
        show PR.ok (⟨5, len ([] : List Vl), [], [], false, 0⟩ :: ([] : List Vl).flatten) _ = _
        rw [flatL]; congr 1
        omega
      | cons t ts =>
        have hgt : t.good := by have := hg.2.2.2; rw [goodL] at this; exact this.1
        obtain ⟨c, q, hc, hh⟩ := prt_head (ln := ln) (d := e + 1) hgt
        have hrn : ∀ u ∈ t :: ts, u.node.name = [] := fun u hu => (risL_mem hg.2.2.1 hu).1 h5
        rw [prtL] at ha1 ⊢
        simp only [if_true, List.nil_append, List.isEmpty_cons, Bool.false_eq_true, if_false, List.append_assoc, show ((5 : Int) == 6) = false from rfl] at ha1
        have hst : stopB (prt ln (e + 1) t ++ (prtL ln e false false ts ++ (lineP ln e ++ 93 :: r))) := by rw [hc]; exact stop_head hh
        have hbl := At.blank ha1 (lineP_blank ln (e + 1)) hst
        have ha2 := At.add ha1
        have ha3 := ha2
        rw [hc, List.cons_append] at ha3
        rw [partsT_go (by rw [hbl, At.has1 ha3]; exact beq_eq_false_iff_ne.2 (head_ne hh).1), hbl, hi t ts (by omega) hg.2.2.2 ln e f s _ d r [] ha2 h0 (by omega) (by omega)]
        show PR.ok (listV _) _ = _
        unfold listV
        rw [List.nil_append, list_flat hrn]
        simp only [if_true, List.nil_append, List.isEmpty_cons, Bool.false_eq_true, if_false, show ((5 : Int) == 6) = false from rfl, len_cons, len_app, len_nil, List.map_cons, List.length_map, List.cons_append]
        congr 1
        · congr 1; unfold len; simp
        · omega
    · rw [h6] at ha ⊢
      rw [marks6] at ha ⊢
      simp only [List.cons_append, List.append_assoc] at ha
      have hno : NoW s i 3 := by
        intro m hm0 hm3
        rcases (by omega : m = 0 ∨ m = 1 ∨ m = 2) with rfl | rfl | rfl
        · exact At.hasNo ha (by decide)
        · exact At.hasNo ha (by decide)
        · exact At.hasNo ha (by decide)
      have hby : byteAt s i = 123 := At.byte ha
      rw [valT_go f d hno, if_neg (by have := At.lt ha; omega), if_neg (by omega), if_neg (by rw [hby]; decide), if_neg (by omega), if_neg (by omega), if_neg (by omega)]
      have ha1 := At.one ha
      cases ps with
      | nil =>
        rw [prtL] at ha1
        simp only [List.isEmpty_nil, if_true, List.nil_append] at ha1
        have hbl := At.noblank ha1 (fun y z e => by rw [← (List.cons.inj e).1]; decide)
        rw [partsT_end (by rw [hbl, At.has1 ha1]; rfl), hbl, prtL]
        show PR.ok (objV []) _ = _
        rw [show objV [] = objV (foldP [] []) from rfl, obj_rise (by trivial)]
        simp only [List.isEmpty_nil, if_true, List.append_nil, len_cons, len_app, len_nil]
        congr 1
        omega
      | cons t ts =>
        have hgt : t.good := by have := hg.2.2.2; rw [goodL] at this; exact this.1
        have hru : ∀ u ∈ t :: ts, utf u.node.name = true := fun u hu => (risL_mem hg.2.2.1 hu).2
        rw [prtL] at ha1 ⊢
        simp only [if_true, List.nil_append, List.isEmpty_cons, Bool.false_eq_true, if_false, List.append_assoc, show ((6 : Int) == 6) = true from rfl] at ha1
        have hst := name_stop ln t.node (prt ln (e + 1) t ++ (prtL ln e true false ts ++ (lineP ln e ++ 125 :: r)))
        have hbl := At.blank ha1 (lineP_blank ln (e + 1)) hst
        have ha2 := At.add ha1
        have ha3 : ∃ q, At s (i + 1 + len (lineP ln (e + 1))) (34 :: q) := ⟨_, ha2⟩
        obtain ⟨q, ha3⟩ := ha3
        rw [partsT_go (by rw [hbl, At.has1 ha3]; rfl), hbl, hp t ts (by omega) hg.2.2.2 hru ln e f s _ d r [] ha2 h0 (by omega) (by omega)]
        show PR.ok (objV _) _ = _
        rw [obj_rise (by rw [← h6]; exact hg.2.2.1)]
        simp only [if_true, List.nil_append, List.isEmpty_cons, Bool.false_eq_true, if_false, show ((6 : Int) == 6) = true from rfl, len_cons, len_app, len_nil, List.cons_append]
        congr 1
        omega
theorem all_prt : ∀ n : Nat, ValP n ∧ ItemsP n ∧ PairsP n := by
  intro n
  induction n with
  | zero =>
    refine ⟨fun t hz => ?_, fun t ts hz => ?_, fun t ts hz => ?_⟩
    · have := t.size_pos; omega
    · rw [sizeL] at hz; have := t.size_pos; omega
    · rw [sizeL] at hz; have := t.size_pos; omega
  | succ n ih =>
    have hv := val_step ih.2.1 ih.2.2
    exact ⟨hv, items_step hv ih.2.1, pairs_step hv ih.2.2⟩
/-- A good value's text, wherever it stands, is read as it. -/
theorem val_prt {t : Tr} (hg : t.good) {ln : Bool} {e : Int} {f : Nat} {s : Str} {i d : Int} {r : Str} (ha : At s i (prt ln e t ++ r)) (hr : okEnd r) (h0 : 0 ≤ d) (hd : depthT t + d ≤ 128) (hf : 2 * t.size ≤ f + 1) : valT f s i d = .ok (t.named []).flat (i + len (prt ln e t)) :=
  (all_prt t.size).1 t (Nat.le_refl _) hg ln e f s i d r ha hr h0 hd hf
end Go.Eng
