/-
  THE PLAIN FORMS OF THE DOCUMENT's ANSWERS, 2: numbers and strings as louperef01 and louperef03 read them; that they are what num and quote reckon. No program in it.
  THE PLAIN FORMS OF TOKENS, 2: louperef08's token at a place is lex's of what stands from there on. No program in it.
  THE MARKS, as they lie in lex's map: a row of marks for each first byte. Over any program.
-/
import Derived.Test.YtmjpjbmeamnfpaaGreatDoorZb11
import Derived.Test.YtmjpjbmeamnfpaaGreatDoorZb4
set_option linter.unusedVariables false
set_option linter.unusedSimpArgs false
namespace Go.Eng
open Go.RowKit

theorem u8_eqn {s : Str} {p : Int} (c : UInt8) : ((byteAt s p).toNat.toUInt8 = c) ↔ byteAt s p = (c.toNat : Int) := by
  unfold byteAt
  rw [Int.toNat_natCast, ← UInt8.toNat_inj]
  simp; omega
theorem ix_nil (x : UInt8) : ¬ 0 ≤ Lib.indexByte [] x := by unfold Lib.indexByte; decide
theorem ix_cons (c x : UInt8) (l : List UInt8) : 0 ≤ Lib.indexByte (c :: l) x ↔ c = x ∨ 0 ≤ Lib.indexByte l x := by
  have hm : ∀ l : List UInt8, -1 ≤ Lib.indexByte l x := by
    intro l
    induction l with
    | nil => unfold Lib.indexByte; decide
    | cons a l ih => unfold Lib.indexByte; (repeat' split) <;> omega
  have := hm l
  rw [Lib.indexByte]
  by_cases h : c = x
  · rw [if_pos (by simpa using h)]; exact ⟨fun _ => .inl h, fun _ => Int.le_refl _⟩
  · rw [if_neg (by simpa using h)]
    by_cases h2 : Lib.indexByte l x = -1
    · rw [if_pos (by simpa using h2)]; exact ⟨fun h3 => by omega, fun h3 => h3.elim (fun h4 => absurd h4 h) (fun h4 => by omega)⟩
    · rw [if_neg (by simpa using h2)]; exact ⟨fun _ => .inr (by omega), fun _ => by omega⟩
theorem isAt_one {s : Str} {c : UInt8} {p : Int} : isAt s [c] p = true ↔ p < len s ∧ byteAt s p = (c.toNat : Int) := by
  unfold isAt
  simp only [Bool.and_eq_true, decide_eq_true_eq, ix_cons, ix_nil, or_false]
  rw [← u8_eqn c, eq_comm (a := c)]
theorem isAt_two {s : Str} {c d : UInt8} {p : Int} : isAt s [c, d] p = true ↔ p < len s ∧ (byteAt s p = (c.toNat : Int) ∨ byteAt s p = (d.toNat : Int)) := by
  unfold isAt
  simp only [Bool.and_eq_true, decide_eq_true_eq, ix_cons, ix_nil, or_false]
  rw [← u8_eqn c, ← u8_eqn d, eq_comm (a := c), eq_comm (a := d)]
/-- The places behind the sign, and behind the figures ahead of a point. -/
def wholeR (s : Str) : Int × Int × Bool :=
  let a : Int := if 0 < len s ∧ byteAt s 0 = 45 then 1 else 0
  if runTo s a = a then (a, a, false) else if byteAt s a = 48 then (a, a + 1, true) else (a, runTo s a, true)
/-- What stands behind e. -/
def powerR (s : Str) (i : Int) : Int × Str × Int :=
  if i = len s ∨ ¬ (byteAt s i = 101 ∨ byteAt s i = 69) then (0, [], i)
  else if i + 1 < len s ∧ (byteAt s (i + 1) = 43 ∨ byteAt s (i + 1) = 45) then
    (if byteAt s (i + 1) = 45 then -1 else 1, Eng.sub s (i + 1 + 1) (runTo s (i + 1 + 1)), runTo s (i + 1 + 1))
  else (1, Eng.sub s (i + 1) (runTo s (i + 1)), runTo s (i + 1))
def expR (s : Str) (fg : Str) (e : Int) (i : Int) : Nd × Int × Int :=
  let p := powerR s i
  if p.2.2 < len s ∨ (p.1 ≠ 0 ∧ p.2.1 = []) then (noNd, p.2.2, 1)
  else if 6 < len (dropZ p.2.1) then (noNd, 0, 2)
  else ((mk1 (byteAt s 0 == 45) fg (e + p.1 * decVal (dropZ p.2.1))).1, 0, (mk1 (byteAt s 0 == 45) fg (e + p.1 * decVal (dropZ p.2.1))).2)
def readR (s : Str) : Nd × Int × Int :=
  let wh := wholeR s
  if wh.2.2 = false then (noNd, wh.1, 1)
  else if wh.2.1 < len s ∧ byteAt s wh.2.1 = 46 then
    if runTo s (wh.2.1 + 1) = wh.2.1 + 1 then (noNd, runTo s (wh.2.1 + 1), 1)
    else expR s (Eng.sub s wh.1 wh.2.1 ++ Eng.sub s (wh.2.1 + 1) (runTo s (wh.2.1 + 1))) (wh.2.1 + 1 - runTo s (wh.2.1 + 1)) (runTo s (wh.2.1 + 1))
  else expR s (Eng.sub s wh.1 wh.2.1) 0 wh.2.1
theorem sub_eq_nil {α : Type} {s : List α} {i j : Int} (h0 : 0 ≤ i) (h1 : i ≤ j) (h2 : j ≤ len s) : Eng.sub s i j = [] ↔ j = i := by
  constructor
  · intro h
    have := sub_len h0 h1 h2
    rw [h, len_nil] at this; omega
  · rintro rfl; unfold Eng.sub; simp
theorem byteAt_sub {s : Str} {i j k : Int} (h0 : 0 ≤ i) (h1 : 0 ≤ k) (h2 : i + k < j) (h3 : j ≤ len s) : byteAt (Eng.sub s i j) k = byteAt s (i + k) := by
  unfold byteAt Eng.sub
  rw [List.getD_eq_getElem?_getD, List.getElem?_take, if_pos (by omega), List.getElem?_drop, ← List.getD_eq_getElem?_getD, show i.toNat + k.toNat = (i + k).toNat from by omega]
/-- Behind the figures both go on alike. -/
theorem expR_at {s fg : Str} {x b c2 side : Int} {pw : Str} (hp : powerR s b = (side, pw, c2)) (h0 : side ≠ 0) : expR s fg x b = if pw = [] ∨ c2 < len s then (noNd, c2, 1) else fin1 (byteAt s 0 == 45) fg x pw side := by
  unfold expR fin1
  rw [hp]
  dsimp only
  by_cases c3 : pw = [] ∨ c2 < len s
  · rw [if_pos c3, if_pos (by rcases c3 with c3 | c3; exact .inr ⟨h0, c3⟩; exact .inl c3)]
  · rw [if_neg c3, if_neg (by rintro (c4 | ⟨_, c4⟩); exact c3 (.inr c4); exact c3 (.inl c4))]
theorem expR_eq {s : Str} {neg : Bool} {fg : Str} {x b : Int} (hneg : neg = (byteAt s 0 == 45)) (h0 : 0 ≤ b) (h1 : b ≤ len s) :
    rest1 s neg fg x b = expR s fg x b := by
  subst hneg
  have e1 := @isAt_two s 101 69 b
  have e2 := @isAt_one s 45 (b + 1)
  have e3 := @isAt_one s 43 (b + 1)
  simp only [show ((101 : UInt8).toNat : Int) = 101 from rfl, show ((69 : UInt8).toNat : Int) = 69 from rfl, show ((45 : UInt8).toNat : Int) = 45 from rfl, show ((43 : UInt8).toNat : Int) = 43 from rfl] at e1 e2 e3
  unfold rest1
  by_cases c1 : isAt s [101, 69] b = true
  · have c1' := e1.1 c1
    have hn0 : ¬ (b = len s ∨ ¬ (byteAt s b = 101 ∨ byteAt s b = 69)) := by rintro (h | h); omega; exact h c1'.2
    rw [if_pos c1, isTo_yes c1]
    unfold exp1
    by_cases c2 : isAt s [45] (b + 1) = true
    · have c2' := e2.1 c2
      have hp : powerR s b = (-1, Eng.sub s (b + 1 + 1) (runTo s (b + 1 + 1)), runTo s (b + 1 + 1)) := by
        unfold powerR; rw [if_neg hn0, if_pos ⟨c2'.1, .inr c2'.2⟩, if_pos c2'.2]
      rw [expR_at hp (by decide), isTo_yes c2]
      simp only [c2, if_true]
    · rw [isTo_no (by simpa using c2)]
      by_cases c4 : isAt s [43] (b + 1) = true
      · have c4' := e3.1 c4
        have hp : powerR s b = (1, Eng.sub s (b + 1 + 1) (runTo s (b + 1 + 1)), runTo s (b + 1 + 1)) := by
          unfold powerR; rw [if_neg hn0, if_pos ⟨c4'.1, .inl c4'.2⟩, if_neg (by omega)]
        rw [expR_at hp (by decide), isTo_yes c4]
        simp only [c2, Bool.false_eq_true, if_false]
      · rw [isTo_no (by simpa using c4)]
        have hn : ¬ (b + 1 < len s ∧ (byteAt s (b + 1) = 43 ∨ byteAt s (b + 1) = 45)) := by
          rintro ⟨h2, h3 | h3⟩
          · exact c4 (e3.2 ⟨h2, h3⟩)
          · exact c2 (e2.2 ⟨h2, h3⟩)
        have hp : powerR s b = (1, Eng.sub s (b + 1) (runTo s (b + 1)), runTo s (b + 1)) := by
          unfold powerR; rw [if_neg hn0, if_neg hn]
        rw [expR_at hp (by decide)]
        simp only [c2, Bool.false_eq_true, if_false]
  · have hn : b = len s ∨ ¬ (byteAt s b = 101 ∨ byteAt s b = 69) := by
      by_cases h : b = len s
      · exact .inl h
      · exact .inr fun h2 => c1 (e1.2 ⟨by omega, h2⟩)
    have hp : powerR s b = (0, [], b) := by unfold powerR; rw [if_pos hn]
    rw [if_neg c1, isTo_no (by simpa using c1)]
    unfold expR fin1
    rw [hp]
    dsimp only
    by_cases c3 : b < len s
    · rw [if_pos c3, if_pos (.inl c3)]
    · rw [if_neg c3, if_neg (show ¬ (b < len s ∨ ((0 : Int) ≠ 0 ∧ ([] : Str) = [])) from by rintro (h | h); exact c3 h; exact h.1 rfl)]
      simp only [show dropZ [] = [] from rfl, len_nil, show ¬ ((6 : Int) < 0) from by decide, if_false, show decVal [] = 0 from rfl, Int.mul_zero]
theorem read1_at {s : Str} {a : Int} (ha : isTo s [45] 0 = a) : read1 s =
    if 1 < len (Eng.sub s a (runTo s a)) ∧ byteAt (Eng.sub s a (runTo s a)) 0 = 48 then (noNd, a + 1, 1)
    else if Eng.sub s a (runTo s a) = [] then (noNd, runTo s a, 1)
    else if isAt s [46] (runTo s a) then
      if Eng.sub s (isTo s [46] (runTo s a)) (runTo s (isTo s [46] (runTo s a))) = [] then (noNd, runTo s (isTo s [46] (runTo s a)), 1)
      else rest1 s (isAt s [45] 0) (Eng.sub s a (runTo s a) ++ Eng.sub s (isTo s [46] (runTo s a)) (runTo s (isTo s [46] (runTo s a)))) (-(len (Eng.sub s (isTo s [46] (runTo s a)) (runTo s (isTo s [46] (runTo s a)))))) (runTo s (isTo s [46] (runTo s a)))
    else rest1 s (isAt s [45] 0) (Eng.sub s a (runTo s a)) 0 (isTo s [46] (runTo s a)) := by subst ha; rfl
theorem readR_at {s : Str} {a b : Int} (hw : wholeR s = (a, b, true)) : readR s =
    if b < len s ∧ byteAt s b = 46 then
      if runTo s (b + 1) = b + 1 then (noNd, runTo s (b + 1), 1)
      else expR s (Eng.sub s a b ++ Eng.sub s (b + 1) (runTo s (b + 1))) (b + 1 - runTo s (b + 1)) (runTo s (b + 1))
    else expR s (Eng.sub s a b) 0 b := by
  unfold readR; rw [hw]; simp only [Bool.true_eq_false, if_false]
/-- Behind a number's first figures. -/
theorem read_rest {s : Str} {a b : Int} {neg : Bool} (hneg : neg = (byteAt s 0 == 45)) (h0 : 0 ≤ a) (h1 : a ≤ b) (h2 : b ≤ len s) :
    (if isAt s [46] b then
      if Eng.sub s (isTo s [46] b) (runTo s (isTo s [46] b)) = [] then (noNd, runTo s (isTo s [46] b), 1)
      else rest1 s neg (Eng.sub s a b ++ Eng.sub s (isTo s [46] b) (runTo s (isTo s [46] b))) (-(len (Eng.sub s (isTo s [46] b) (runTo s (isTo s [46] b))))) (runTo s (isTo s [46] b))
    else rest1 s neg (Eng.sub s a b) 0 (isTo s [46] b)) =
    if b < len s ∧ byteAt s b = 46 then
      if runTo s (b + 1) = b + 1 then (noNd, runTo s (b + 1), 1)
      else expR s (Eng.sub s a b ++ Eng.sub s (b + 1) (runTo s (b + 1))) (b + 1 - runTo s (b + 1)) (runTo s (b + 1))
    else expR s (Eng.sub s a b) 0 b := by
  have h46 := @isAt_one s 46 b
  simp only [show ((46 : UInt8).toNat : Int) = 46 from rfl] at h46
  by_cases c3 : isAt s [46] b = true
  · have c3' := h46.1 c3
    rw [if_pos c3, if_pos c3', isTo_yes c3]
    have hb2 := runTo_bd s (b + 1) (by omega) (by omega)
    have hnil2 := sub_eq_nil (s := s) (i := b + 1) (j := runTo s (b + 1)) (by omega) hb2.1 hb2.2
    by_cases c4 : runTo s (b + 1) = b + 1
    · rw [if_pos c4, if_pos (hnil2.2 c4)]
    · rw [if_neg c4, if_neg (fun h => c4 (hnil2.1 h))]
      rw [expR_eq hneg (by omega) hb2.2, sub_len (by omega) hb2.1 hb2.2]
      congr 1; omega
  · rw [if_neg c3, if_neg (fun h => c3 (h46.2 h)), isTo_no (by simpa using c3)]
    rw [expR_eq hneg (by omega) (by omega)]
theorem readR_eq (s : Str) : readR s = read1 s := by
  have h45 := @isAt_one s 45 0
  simp only [show ((45 : UInt8).toNat : Int) = 45 from rfl] at h45
  have hl := len_nonneg s
  have hneg : isAt s [45] 0 = (byteAt s 0 == 45) := by
    rw [Bool.eq_iff_iff, h45, beq_iff_eq]
    refine ⟨fun h => h.2, fun h => ⟨?_, h⟩⟩
    rcases Int.lt_or_le 0 (len s) with h2 | h2
    · exact h2
    · have : s = [] := by cases s with | nil => rfl | cons a l => rw [len_cons] at h2; have := len_nonneg l; omega
      subst this; revert h; decide
  have ha : (if 0 < len s ∧ byteAt s 0 = 45 then (1 : Int) else 0) = isTo s [45] 0 := by
    unfold isTo
    by_cases c : isAt s [45] 0 = true
    · rw [if_pos c, if_pos (h45.1 c)]; rfl
    · rw [if_neg c, if_neg (fun h => c (h45.2 h))]
  have hab := isTo_bd s [45] 0 hl
  generalize hA : isTo s [45] 0 = a at *
  have hw : wholeR s = if runTo s a = a then (a, a, false) else if byteAt s a = 48 then (a, a + 1, true) else (a, runTo s a, true) := by unfold wholeR; simp only [ha]
  have hb := runTo_bd s a hab.1 hab.2
  have hnil := sub_eq_nil hab.1 hb.1 hb.2
  have hfl := sub_len hab.1 hb.1 hb.2
  rw [read1_at hA]
  by_cases c0 : runTo s a = a
  · rw [if_pos c0] at hw
    have hs := hnil.2 c0
    rw [hs, if_neg (by rw [len_nil]; omega), if_pos rfl, c0]
    unfold readR; rw [hw]; rfl
  · rw [if_neg c0] at hw
    have hs : ¬ Eng.sub s a (runTo s a) = [] := fun h => c0 (hnil.1 h)
    have hb0 : byteAt (Eng.sub s a (runTo s a)) 0 = byteAt s a := by rw [byteAt_sub hab.1 (by omega) (by omega) hb.2, Int.add_zero]
    by_cases c1 : byteAt s a = 48
    · rw [if_pos c1] at hw
      by_cases c2 : 1 < len (Eng.sub s a (runTo s a))
      · have hfig := @runTo_fig s a (a + 1) hab.1 (by omega) (by omega)
        unfold isFig at hfig
        simp only [Bool.and_eq_true, decide_eq_true_eq] at hfig
        have hp : powerR s (a + 1) = (0, [], a + 1) := by unfold powerR; rw [if_pos (.inr (by omega))]
        rw [if_pos ⟨c2, by rw [hb0, c1]⟩, readR_at hw, if_neg (by omega)]
        unfold expR; rw [hp]; dsimp only
        rw [if_pos (.inl (by omega))]
      · have he : runTo s a = a + 1 := by omega
        rw [he] at c2 hs hb
        rw [he, if_neg (fun h => c2 h.1), if_neg hs, read_rest hneg hab.1 (by omega) (by omega), readR_at hw]
    · rw [if_neg c1] at hw
      rw [if_neg (fun h => c1 (by rw [← hb0]; exact h.2)), if_neg hs, read_rest hneg hab.1 (by omega) (by omega), readR_at hw]
theorem powerR_bd {s : Str} {i : Int} (h0 : 0 ≤ i) (h1 : i ≤ len s) : (-1 ≤ (powerR s i).1 ∧ (powerR s i).1 ≤ 1) ∧ (0 ≤ len (powerR s i).2.1 ∧ len (powerR s i).2.1 ≤ len s) ∧ (i ≤ (powerR s i).2.2 ∧ (powerR s i).2.2 ≤ len s) ∧ ∀ b ∈ (powerR s i).2.1, isFigB b = true := by
  unfold powerR
  split
  · refine ⟨by dsimp only; omega, ⟨Int.le_refl _, len_nonneg s⟩, by dsimp only; omega, by intro b hb; cases hb⟩
  · rename_i hn
    have hlt : i < len s := by
      rcases Int.lt_or_le i (len s) with h | h
      · exact h
      · exact absurd (.inl (by omega)) hn
    split
    · rename_i h2
      have hr := runTo_bd s (i + 1 + 1) (by omega) (by omega)
      refine ⟨by dsimp only; split <;> omega, sub_bd _ _ _, by dsimp only; omega, figs_run (by omega)⟩
    · have hr := runTo_bd s (i + 1) (by omega) (by omega)
      refine ⟨by dsimp only; omega, sub_bd _ _ _, by dsimp only; omega, figs_run (by omega)⟩
theorem wholeR_bd (s : Str) : 0 ≤ (wholeR s).1 ∧ (wholeR s).1 ≤ len s ∧ (wholeR s).1 ≤ (wholeR s).2.1 ∧ (wholeR s).2.1 ≤ len s ∧ ((wholeR s).2.2 = true → 0 < len s) := by
  have hl := len_nonneg s
  have key : ∀ a : Int, 0 ≤ a → a ≤ len s → (let w := if runTo s a = a then (a, a, false) else if byteAt s a = 48 then (a, a + 1, true) else (a, runTo s a, true); 0 ≤ w.1 ∧ w.1 ≤ len s ∧ w.1 ≤ w.2.1 ∧ w.2.1 ≤ len s ∧ (w.2.2 = true → 0 < len s)) := by
    intro a h0 h1
    have hr := runTo_bd s a h0 h1
    dsimp only
    split
    · exact ⟨h0, h1, Int.le_refl _, h1, fun h => by cases h⟩
    · split
      · refine ⟨h0, h1, ?_, ?_, fun _ => ?_⟩ <;> (try dsimp only) <;> omega
      · refine ⟨h0, h1, ?_, ?_, fun _ => ?_⟩ <;> (try dsimp only) <;> omega
  unfold wholeR
  exact key _ (by split <;> omega) (by split <;> omega)
/-- The place of an error; and its kind. -/
theorem read1_bd (s : Str) : 0 ≤ (read1 s).2.1 ∧ (read1 s).2.1 ≤ len s ∧ ((read1 s).2.2 = 0 ∨ (read1 s).2.2 = 1 ∨ (read1 s).2.2 = 2 ∨ (read1 s).2.2 = 4) := by
  have hmk : ∀ (neg : Bool) (fg : Str) (x : Int), (mk1 neg fg x).2 = 0 ∨ (mk1 neg fg x).2 = 2 ∨ (mk1 neg fg x).2 = 4 := by
    intro neg fg x; unfold mk1; (repeat' split) <;> simp
  have hw := wholeR_bd s
  have hl := len_nonneg s
  have hx : ∀ (fg : Str) (e i : Int), 0 ≤ i → i ≤ len s → 0 ≤ (expR s fg e i).2.1 ∧ (expR s fg e i).2.1 ≤ len s ∧ ((expR s fg e i).2.2 = 0 ∨ (expR s fg e i).2.2 = 1 ∨ (expR s fg e i).2.2 = 2 ∨ (expR s fg e i).2.2 = 4) := by
    intro fg e i h0 h1
    have hp := powerR_bd h0 h1
    unfold expR
    dsimp only
    split
    · exact ⟨by dsimp only; omega, by dsimp only; omega, .inr (.inl rfl)⟩
    · split
      · exact ⟨Int.le_refl _, hl, .inr (.inr (.inl rfl))⟩
      · refine ⟨Int.le_refl _, hl, ?_⟩
        dsimp only
        have := hmk (byteAt s 0 == 45) fg (e + (powerR s i).1 * decVal (dropZ (powerR s i).2.1))
        rcases this with h | h | h <;> rw [h] <;> simp
  rw [← readR_eq]
  unfold readR
  dsimp only
  split
  · exact ⟨by dsimp only; omega, by dsimp only; omega, .inr (.inl rfl)⟩
  · split
    · rename_i h2
      have hr := runTo_bd s ((wholeR s).2.1 + 1) (by omega) (by omega)
      split
      · exact ⟨by dsimp only; omega, by dsimp only; omega, .inr (.inl rfl)⟩
      · exact hx _ _ _ (by omega) (by omega)
    · exact hx _ _ _ (by omega) (by omega)
/-! ### Strings -/
def escS (e : Int × Int) : Str × Int := if e.2 = 0 then ([], 0) else (toStr (Lib.encodeRuneZ e.1), e.2)
/-- What stands at a place, and how many bytes it has. -/
def takenR (s : Str) (i : Int) : Str × Int := if byteAt s i = 92 then escS (escP (from' s i)) else (Eng.sub s i (i + rune s i), rune s i)
def UnqInv (f : Nat) (s : Str) (i : Int) (o : Str) : Prop := ∃ acc, o = toStr acc ∧ unqGo f s i acc = unqP s
theorem toStr_app (a b : List Int) : toStr (a ++ b) = toStr a ++ toStr b := List.map_append
theorem runeAt_low {s : Str} {i : Int} (h0 : 0 ≤ i) (h1 : i < len s) {c : Int} (hc : c < 128) : runeAt s i = c ↔ byteAt s i = c := by
  rcases rune_dec h0 h1 with ⟨_, h2, _, h3⟩ | ⟨_, _, _, _, h2, h3⟩ <;> omega
theorem runeAt_lt {s : Str} {i : Int} (h0 : 0 ≤ i) (h1 : i < len s) {c : Int} (hc : c ≤ 128) : runeAt s i < c ↔ byteAt s i < c := by
  rcases rune_dec h0 h1 with ⟨_, h2, _, h3⟩ | ⟨_, _, _, _, h2, h3⟩ <;> omega
theorem rune_none {s : Str} {i : Int} (h0 : 0 ≤ i) (h1 : i < len s) : rune s i = 0 ↔ (runeAt s i = 65533 ∧ runeLen s i = 1) := by
  rcases rune_dec h0 h1 with ⟨h2, h3, h4, _⟩ | ⟨h2, h3, h4, _, _⟩
  · exact ⟨fun _ => ⟨h3, h4⟩, fun _ => h2⟩
  · exact ⟨fun h => by omega, fun h => absurd h h4⟩
theorem UnqInv.step {f : Nat} {s o : Str} {i : Int} (h : UnqInv f s i o) (hf : (len s - i).toNat ≤ f) (h0 : 0 ≤ i) (h1 : i < len s) (h2 : ¬ byteAt s i = 34) (h3 : ¬ ((takenR s i).2 = 0 ∨ byteAt s i < 32)) :
    UnqInv (f - 1) s (i + (takenR s i).2) (o ++ (takenR s i).1) := by
  obtain ⟨acc, rfl, h⟩ := h
  rw [unqGo_eq hf h1, runeAt_from s i h0, runeLen_from s i h0, if_neg (by rw [runeAt_low h0 h1 (by decide)]; exact h2)] at h
  unfold takenR escS at *
  by_cases h4 : byteAt s i = 92
  · rw [if_pos (by rw [runeAt_low h0 h1 (by decide)]; exact h4)] at h
    rw [if_pos h4] at h3 ⊢
    by_cases h5 : (escP (from' s i)).2 = 0
    · rw [if_pos h5] at h3; exact absurd (.inl rfl) h3
    · rw [if_neg h5] at h ⊢
      exact ⟨_, (toStr_app _ _).symm, h⟩
  · rw [if_neg (by rw [runeAt_low h0 h1 (by decide)]; exact h4)] at h
    rw [if_neg h4] at h3 ⊢
    dsimp only at h3 ⊢
    rw [if_neg] at h
    · rcases rune_dec h0 h1 with ⟨h5, _⟩ | ⟨_, h5, _, h6, _⟩
      · exact absurd (.inl h5) h3
      · rw [h5] at h
        exact ⟨_, by rw [toStr_app, h6], h⟩
    · rintro (h5 | h5)
      · exact h3 (.inr ((runeAt_lt h0 h1 (by decide)).1 h5))
      · exact h3 (.inl ((rune_none h0 h1).2 h5))
theorem pre_one {s : Str} {c : UInt8} : Lib.hasPrefix s [c] = true ↔ ¬ s = [] ∧ byteAt s 0 = (c.toNat : Int) := by
  cases s with
  | nil => simp [Lib.hasPrefix]
  | cons a l =>
    have : byteAt (a :: l) 0 = (a.toNat : Int) := rfl
    rw [this]
    simp only [Lib.hasPrefix, List.isPrefixOf, List.isPrefixOf_nil_left, Bool.and_true, beq_iff_eq, reduceCtorEq, not_false_eq_true, true_and]
    rw [← UInt8.toNat_inj]; omega
/-- What an escape's letter stands for: the place of it in the row of letters. -/
def escFrom : Str := [34, 92, 47, 98, 102, 110, 114, 116]
def NotEsc (c k : Int) : Prop := ∀ j : Int, 0 ≤ j → j < k → c ≠ byteAt escFrom j
theorem NotEsc.step {c k : Int} (h : NotEsc c k) (h2 : ¬ c = byteAt escFrom k) : NotEsc c (k + 1) := by
  intro j h3 h4
  by_cases h5 : j = k
  · subst h5; exact h2
  · exact h j h3 (by omega)
/-- The number of an escape, figure by figure. -/
def hexI (c : Int) : Int := if 48 ≤ c ∧ c ≤ 57 then c - 48 else if 97 ≤ c ∧ c ≤ 102 then c - 87 else if 65 ≤ c ∧ c ≤ 70 then c - 55 else -1
theorem hexV_I (b : UInt8) : hexV b = hexI (b.toNat : Int) := by unfold hexV hexI; (repeat' split) <;> omega
theorem sub_snoc' {s : Str} {i k : Int} (h : 0 ≤ i) (h0 : i ≤ k) (h1 : k < len s) : ∃ b, Eng.sub s i (k + 1) = Eng.sub s i k ++ [b] ∧ (b.toNat : Int) = byteAt s k := by
  have h2 : k.toNat < s.length := by unfold len at h1; omega
  refine ⟨s[k.toNat], ?_, by simp [byteAt, h2]⟩
  unfold Eng.sub
  have h3 : k.toNat - i.toNat < (s.drop i.toNat).length := by rw [List.length_drop]; omega
  rw [show (k + 1).toNat - i.toNat = (k.toNat - i.toNat) + 1 from by omega, List.take_succ_eq_append_getElem h3, List.getElem_drop]
  congr 3; omega
theorem hex_step {s : Str} {i k : Int} (h : 0 ≤ i) (h0 : i ≤ k) (h1 : k < len s) (h2 : hexOk (Eng.sub s i k) = true) (h3 : 0 ≤ hexI (byteAt s k)) :
    hexOk (Eng.sub s i (k + 1)) = true ∧ hexVal (Eng.sub s i (k + 1)) = hexVal (Eng.sub s i k) * 16 + hexI (byteAt s k) := by
  obtain ⟨b, h4, h5⟩ := sub_snoc' h h0 h1
  rw [h4, ← h5, ← hexV_I]
  rw [← h5, ← hexV_I] at h3
  unfold hexOk hexVal at *
  rw [List.all_append, h2, List.foldl_append]
  simp [h3]
theorem hex_bad {s : Str} {i k j : Int} (h : 0 ≤ i) (h0 : i ≤ k) (h1 : k < j) (h2 : j ≤ len s) (h3 : hexI (byteAt s k) < 0) : hexOk (Eng.sub s i j) = false := by
  unfold hexOk
  rw [List.all_eq_false]
  have hk : k.toNat < s.length := by unfold len at h2; omega
  refine ⟨s[k.toNat], ?_, ?_⟩
  · unfold Eng.sub
    rw [List.mem_take_iff_getElem]
    refine ⟨k.toNat - i.toNat, by rw [List.length_drop]; omega, ?_⟩
    rw [List.getElem_drop]; congr 1; omega
  · rw [hexV_I]
    have : ((s[k.toNat]).toNat : Int) = byteAt s k := by simp [byteAt, hk]
    rw [this]; simp; omega
theorem hexVal_bd3 {l : Str} (h : hexOk l = true) (hl : len l ≤ 3) : 0 ≤ hexVal l ∧ hexVal l ≤ 4095 := by
  unfold hexOk at h
  have := hexVal_bd l 0 (by simpa [List.all_eq_true] using h) (by omega)
  have h2 : (16 : Int) ^ l.length ≤ 16 ^ 3 := by
    have : (16 : Nat) ^ l.length ≤ 16 ^ 3 := Nat.pow_le_pow_right (by omega) (by unfold len at hl; omega)
    exact_mod_cast this
  unfold hexVal; omega
theorem numP_at {s : Str} {i : Int} (h0 : 0 ≤ i) (h1 : i + 6 ≤ len s) (h2 : byteAt s i = 92) (h3 : byteAt s (i + 1) = 117) :
    numP (from' s i) = if hexOk (Eng.sub s (i + 2) (i + 6)) then hexVal (Eng.sub s (i + 2) (i + 6)) else -1 := by
  have e : Eng.sub (from' s i) 2 6 = Eng.sub s (i + 2) (i + 6) := by
    unfold Eng.sub from'; rw [List.drop_drop]; congr 1
    · omega
    · congr 1; omega
  unfold numP
  rw [if_neg (by rw [from_len s i h0 (by omega)]; omega), e, if_neg]
  obtain ⟨a, ha, hb⟩ := from_cons s i h0 (by omega)
  obtain ⟨c, hc, hd⟩ := from_cons s (i + 1) (by omega) (by omega)
  rw [ha, hc]
  have ea : a = 92 := by rw [← UInt8.toNat_inj]; show a.toNat = 92; omega
  have ec : c = 117 := by rw [← UInt8.toNat_inj]; show c.toNat = 117; omega
  rw [ea, ec]; simp [Lib.hasPrefix]
theorem numP_not {s : Str} {i : Int} (h0 : 0 ≤ i) (h : len s < i + 6 ∨ ¬ byteAt s i = 92 ∨ ¬ byteAt s (i + 1) = 117) : numP (from' s i) = -1 := by
  unfold numP
  by_cases h1 : len (from' s i) < 6
  · rw [if_pos h1]
  · rw [if_neg h1]
    have h2 := from_len' s i h0
    have h3 : i + 6 ≤ len s := by split at h2 <;> omega
    rw [if_pos]
    obtain ⟨a, ha, hb⟩ := from_cons s i h0 (by omega)
    obtain ⟨c, hc, hd⟩ := from_cons s (i + 1) (by omega) (by omega)
    rw [ha, hc]
    cases hp : Lib.hasPrefix (a :: c :: from' s (i + 1 + 1)) [92, 117] with
    | false => rfl
    | true =>
      exfalso
      simp [Lib.hasPrefix] at hp
      obtain ⟨rfl, rfl⟩ := hp
      rcases h with h | h | h
      · omega
      · exact h (by rw [hb]; rfl)
      · exact h (by rw [hd]; rfl)

/-! ### Strings, written -/
theorem enc_high {r : Int} (h : 128 ≤ r) : ∀ b ∈ toStr (Lib.encodeRuneZ r), 128 ≤ b.toNat := by
  have key : ∀ x ∈ Lib.encodeRuneZ r, 128 ≤ x := by
    intro x hx
    unfold Lib.encodeRuneZ at hx
    (repeat' split at hx) <;> simp at hx <;> omega
  intro b hb
  unfold toStr at hb
  obtain ⟨x, hx, rfl⟩ := List.mem_map.1 hb
  have h1 := key x hx
  have h2 := Lib.encodeRuneZ_byte r x hx
  simp; omega
theorem from_split {α : Type} (s : List α) (i j : Int) (h0 : 0 ≤ i) (h1 : i ≤ j) : from' s i = Eng.sub s i j ++ from' s j := by
  unfold from' Eng.sub
  have : s.drop j.toNat = (s.drop i.toNat).drop (j.toNat - i.toNat) := by rw [List.drop_drop]; congr 1; omega
  rw [this, List.take_append_drop]
end Go.Eng
namespace Go.Eng
open Go.RowKit

/-! ### Words -/
theorem wordFrom_iff {t : Str} {i : Int} (h0 : 0 ≤ i) : wordFrom t i = true ↔ ¬ t = [] ∧ ∀ j : Int, i ≤ j → j < len t → isWordR (byteAt t j) (j == 0) = true := by
  by_cases hlt : i < len t
  · have hc : (isLetter (byteAt t i) || i != 0 && isFig (byteAt t i)) = isWordR (byteAt t i) (i == 0) := rfl
    by_cases hw : isWordR (byteAt t i) (i == 0) = true
    · rw [← wordFrom_step t i h0 hlt (by rw [hc]; exact hw), wordFrom_iff (i := i + 1) (by omega)]
      refine and_congr_right fun _ => ⟨fun h j h1 h2 => ?_, fun h j h1 h2 => h j (by omega) h2⟩
      by_cases e : j = i
      · subst e; exact hw
      · exact h j (by omega) h2
    · rw [wordFrom_bad t i h0 hlt (by rw [hc]; exact hw)]
      exact ⟨fun h => (by cases h), fun h => absurd (h.2 i (Int.le_refl _) hlt) hw⟩
  · rw [wordFrom_end t i hlt, bne_iff_ne]
    exact Iff.intro (fun h => And.intro h (fun j h1 h2 => by omega)) (fun h => h.1)
termination_by (len t - i).toNat
theorem word6_iff {t : Str} : word6 t = true ↔ ¬ t = [] ∧ ∀ j : Int, 0 ≤ j → j < len t → isWordR (byteAt t j) (j == 0) = true := wordFrom_iff (Int.le_refl 0)
def WordAll (s : Str) (i k : Int) : Prop := ∀ j : Int, 0 ≤ j → j < k - i → isWordR (byteAt s (i + j)) (j == 0) = true
theorem WordAll.start (s : Str) (i : Int) : WordAll s i i := fun j h0 h1 => by omega
theorem word6_sub {s : Str} {i k : Int} (h0 : 0 ≤ i) (h1 : i ≤ k) (h2 : k < len s) (ha : WordAll s i k) : word6 (Eng.sub s i (k + 1)) = isWordR (byteAt s k) (k - i == 0) := by
  have hl := sub_len (s := s) (i := i) (j := k + 1) h0 (by omega) (by omega)
  rw [Bool.eq_iff_iff, word6_iff]
  constructor
  · rintro ⟨_, h⟩
    have := h (k - i) (by omega) (by omega)
    rw [byteAt_sub h0 (by omega) (by omega) (by omega), show i + (k - i) = k from by omega] at this
    exact this
  · intro h
    refine ⟨fun e => by rw [e, len_nil] at hl; omega, fun j h3 h4 => ?_⟩
    rw [byteAt_sub h0 h3 (by omega) (by omega)]
    by_cases e : j = k - i
    · subst e; rw [show i + (k - i) = k from by omega]; exact h
    · exact ha j h3 (by omega)
theorem WordAll.step {s : Str} {i k : Int} (h0 : 0 ≤ i) (h1 : i ≤ k) (h2 : k < len s) (ha : WordAll s i k) (h : word6 (Eng.sub s i (k + 1)) = true) : WordAll s i (k + 1) := by
  rw [word6_sub h0 h1 h2 ha] at h
  intro j h3 h4
  by_cases e : j = k - i
  · subst e; rw [show i + (k - i) = k from by omega]; exact h
  · exact ha j h3 (by omega)
theorem sub_from {α : Type} (s : List α) (i j : Int) (h0 : 0 ≤ i) (h1 : 0 ≤ j) : Eng.sub (from' s i) 0 j = Eng.sub s i (i + j) := by
  unfold Eng.sub from'
  simp only [Int.toNat_zero, List.drop_zero, Nat.sub_zero]
  congr 1; omega
/-! ### Numbers -/
theorem numB_fin : ∀ n : Fin 256, isNumB (UInt8.ofNat n.val) = decide ((48 ≤ n.val ∧ n.val ≤ 57) ∨ n.val = 43 ∨ n.val = 45 ∨ n.val = 46 ∨ n.val = 101 ∨ n.val = 69) := by decide +kernel
theorem numB_iff (b : UInt8) : isNumB b = true ↔ (48 ≤ b.toNat ∧ b.toNat ≤ 57) ∨ b.toNat = 43 ∨ b.toNat = 45 ∨ b.toNat = 46 ∨ b.toNat = 101 ∨ b.toNat = 69 := by
  have := numB_fin ⟨b.toNat, b.toNat_lt⟩
  simp only [UInt8.ofNat_toNat] at this
  rw [this, decide_eq_true_eq]
/-! ### Marks -/
theorem hasAt_iff {s : Str} {i : Int} {t : Str} (h0 : 0 ≤ i) (h1 : i ≤ len s) : hasAt s i t = Lib.hasPrefix (from' s i) t := by
  have hl := from_len s i h0 h1
  have ht := len_nonneg t
  rw [← Lib.hasPrefix_of_take]
  unfold hasAt
  have e : Eng.sub s i (i + len t) = (from' s i).take t.length := by
    unfold Eng.sub from'; congr 1; unfold len; omega
  rw [e]
  congr 1
  rw [Bool.eq_iff_iff, decide_eq_true_eq, decide_eq_true_eq]
  unfold len at *; omega
def NoMark (s : Str) (i k : Int) : Prop := (Eng.sub marks8 0 k).find? (fun m => Lib.hasPrefix (from' s i) m) = none
theorem NoMark.start (s : Str) (i : Int) : NoMark s i 0 := rfl
theorem NoMark.step {s : Str} {i k : Int} (h : NoMark s i k) (h0 : 0 ≤ i) (h1 : i ≤ len s) (hk0 : 0 ≤ k) (hk1 : k < 17) (h2 : hasAt s i (at' marks8 k) = false) : NoMark s i (k + 1) := by
  unfold NoMark at *
  rw [sub_succ marks8 k hk0 hk1, List.find?_append, h]
  rw [hasAt_iff h0 h1] at h2
  rw [Option.none_or, List.find?_cons, show marks8.getD k.toNat default = at' marks8 k from rfl, h2]; rfl
theorem NoMark.found {s : Str} {i k : Int} (h : NoMark s i k) (h0 : 0 ≤ i) (h1 : i ≤ len s) (hk0 : 0 ≤ k) (hk1 : k < 17) (h2 : hasAt s i (at' marks8 k) = true) : markP (from' s i) = at' marks8 k := by
  unfold NoMark at h
  rw [hasAt_iff h0 h1] at h2
  have e : marks8 = Eng.sub marks8 0 k ++ from' marks8 k := by
    have := from_split marks8 0 k (Int.le_refl _) hk0
    exact this
  have hk : k.toNat < marks8.length := by show k.toNat < 17; omega
  have e2 : from' marks8 k = at' marks8 k :: from' marks8 (k + 1) := by
    unfold from' at'
    rw [show (k + 1).toNat = k.toNat + 1 from by omega, List.drop_eq_getElem_cons hk]
    simp [hk]
  have e3 : marks8.find? (fun m => Lib.hasPrefix (from' s i) m) = some (at' marks8 k) := by
    conv => lhs; rw [e]
    rw [List.find?_append, h, e2, List.find?_cons, h2]; rfl
  unfold markP; rw [e3]; rfl
theorem NoMark.none' {s : Str} {i k : Int} (h : NoMark s i k) (hk : 17 ≤ k) : markP (from' s i) = [] := by
  unfold NoMark at h
  rw [sub_all marks8 k (by show (17 : Int) ≤ k; omega)] at h
  unfold markP; rw [h]; rfl
theorem mark_len {k : Int} (hk0 : 0 ≤ k) (hk1 : k < 17) : 1 ≤ len (at' marks8 k) ∧ len (at' marks8 k) ≤ 2 := by
  have : k = 0 ∨ k = 1 ∨ k = 2 ∨ k = 3 ∨ k = 4 ∨ k = 5 ∨ k = 6 ∨ k = 7 ∨ k = 8 ∨ k = 9 ∨ k = 10 ∨ k = 11 ∨ k = 12 ∨ k = 13 ∨ k = 14 ∨ k = 15 ∨ k = 16 := by omega
  rcases this with rfl | rfl | rfl | rfl | rfl | rfl | rfl | rfl | rfl | rfl | rfl | rfl | rfl | rfl | rfl | rfl | rfl <;> decide
section tok
variable {s : Str} {i : Int}
end tok
theorem runN_pos {s : Str} (h1 : 0 < len s) (h : byteAt s 0 = 45 ∨ isFig (byteAt s 0) = true) : 1 ≤ len (runN s) := by
  rw [runN_take]
  cases s with
  | nil => exact absurd h1 (by decide)
  | cons b l =>
    have hb : isNumB b = true := by
      rw [numB_iff]
      have e : byteAt (b :: l) 0 = (b.toNat : Int) := rfl
      rw [e] at h
      unfold isFig at h
      simp only [Bool.and_eq_true, decide_eq_true_eq] at h
      omega
    rw [List.takeWhile_cons, hb]
    simp [len]; omega
theorem tokP_bd {s : Str} (h1 : 0 < len s) : 0 ≤ (tokP s).2.1 ∧ (tokP s).2.1 ≤ len s ∧ ((tokP s).2.2 = 0 → 1 ≤ (tokP s).2.1) ∧ ((tokP s).2.2 = 0 ∨ (tokP s).2.2 = 1 ∨ (tokP s).2.2 = 2 ∨ (tokP s).2.2 = 4) := by
  have hf := from_len s 1 (by omega) (by omega)
  have hw1 := wordP_bd (from' s 1)
  have hw0 := wordP_bd s
  have hu1 := unqP_bd (from' s 1)
  have hu0 := unqP_bd s
  have hr := read1_bd (runN s)
  have hrl : len (runN s) ≤ len s := by unfold runN; exact (sub_bd _ _ _).2
  have hrl0 := len_nonneg (runN s)
  unfold tokP
  split
  · exact ⟨by dsimp only; omega, by dsimp only; omega, fun _ => by dsimp only; omega, .inl rfl⟩
  · split
    · refine ⟨by dsimp only; omega, by dsimp only; omega, fun _ => by dsimp only; omega, ?_⟩
      dsimp only; omega
    · split
      · rename_i hm
        have hp : len (markP s) ≤ len s := by
          rcases markP_mem s with h | h
          · exact absurd h hm
          · exact hasPrefix_len h.2
        have := len_pos hm
        exact ⟨by dsimp only; omega, by dsimp only; omega, fun _ => by dsimp only; omega, .inl rfl⟩
      · split
        · rename_i hn
          have := len_pos hn
          exact ⟨by dsimp only; omega, by dsimp only; omega, fun _ => by dsimp only; omega, .inl rfl⟩
        · split
          · refine ⟨by dsimp only; omega, by dsimp only; omega, fun h => by dsimp only at h ⊢; omega, ?_⟩
            dsimp only; omega
          · split
            · rename_i hd
              have hp := runN_pos h1 hd
              split
              · rename_i he
                exact ⟨by dsimp only; omega, by dsimp only; omega, fun h => absurd h he, by dsimp only; omega⟩
              · exact ⟨by dsimp only; omega, by dsimp only; omega, fun h => by dsimp only; omega, .inl rfl⟩
            · exact ⟨Int.le_refl _, by dsimp only; omega, fun h => absurd h (by decide), .inr (.inl rfl)⟩
/-! ### Texts -/
/-- A token that is not too long to be written. -/
def TkB (t : Tk) : Prop := len t.s ≤ 1048576 ∧ len t.c.s ≤ 1048576 ∧ (t.kind = 5 → -1000000 ≤ t.c.e ∧ t.c.e ≤ 1000000)
theorem qOne_len (r : Int) : 0 ≤ len (qOne r) ∧ len (qOne r) ≤ 6 := by
  have := Lib.encodeRuneZ_length r
  unfold qOne
  split
  · simp only [len_cons, len_nil]; omega
  · split
    · simp only [len_cons, len_nil]; omega
    · unfold Lib.encodeRune len; rw [List.length_map]; omega
theorem qFrom_len (s : Str) (i : Int) (h0 : 0 ≤ i) (h1 : i ≤ len s) : len (qFrom s i) ≤ 6 * (len s - i) := by
  by_cases h : i < len s
  · have hb := runeLen_bd h0 h
    have ih := qFrom_len s (i + runeLen s i) (by omega) (by omega)
    have := qOne_len (runeAt s i)
    rw [qFrom_step h0 h, len_app]; omega
  · rw [qFrom_end h, len_nil]; omega
termination_by (len s - i).toNat
decreasing_by have hb := runeLen_bd h0 h; omega
theorem quoteP_len (s : Str) : 2 ≤ len (quoteP s) ∧ len (quoteP s) ≤ 6 * len s + 2 := by
  have := qFrom_len s 0 (Int.le_refl 0) (len_nonneg s)
  have h0 := len_nonneg (qFrom s 0)
  unfold quoteP
  rw [len_app, len_cons, len_cons, len_nil]; omega
end Go.Eng
namespace Go.Eng
open Go.RowKit

def marksOf (c : Int) : List Str := marks8.filter (fun m => byteAt m 0 == c)
def MarkMap (M : Mem) (l : List KV) : Prop := ∀ c : Int, ∃ v, (kget l c).getD (.slice none 0 0) = v ∧ Sl M 1 (marksOf c).length v ((marksOf c).flatMap strC)
abbrev MG := List (KV × List Str)
def ownOf (e : TypeId) (p : KV × List Str) : HO := .own e 1 p.1.val p.2.length (p.2.flatMap strC)
def OwnL (e : TypeId) (G : MG) : List HO := G.map (ownOf e)
def rowOf : MG → Int → List Str
  | [], _ => []
  | p :: G, c => if c = p.1.key then p.2 else rowOf G c
/-- The rows hold the first k marks. -/
def MarkG (k : Int) (G : MG) : Prop := ∀ c, rowOf G c = (Eng.sub marks8 0 k).filter (fun m => byteAt m 0 == c)
theorem MarkG.start : MarkG 0 [] := fun _ => rfl
def Opened (e : TypeId) (G : MG) (c : Int) (v : Value) (xs : List Str) (R : List HO) : Prop :=
  (∃ G1 p G2, G = G1 ++ p :: G2 ∧ p.1.key = c ∧ (∀ q ∈ G1, q.1.key ≠ c) ∧ v = p.1.val ∧ xs = p.2 ∧ R = OwnL e (G1 ++ G2)) ∨
  ((∀ q ∈ G, q.1.key ≠ c) ∧ v = .slice none 0 0 ∧ xs = [] ∧ R = OwnL e G)
theorem split_key (c : Int) : ∀ G : MG, (∃ G1 p G2, G = G1 ++ p :: G2 ∧ p.1.key = c ∧ (∀ q ∈ G1, q.1.key ≠ c)) ∨ (∀ q ∈ G, q.1.key ≠ c)
  | [] => .inr fun _ h => by cases h
  | p :: G => by
    by_cases h : p.1.key = c
    · exact .inl ⟨[], p, G, rfl, h, fun _ h => by cases h⟩
    · rcases split_key c G with ⟨G1, q, G2, h1, h2, h3⟩ | h1
      · refine .inl ⟨p :: G1, q, G2, by rw [h1]; rfl, h2, fun r hr => ?_⟩
        rcases List.mem_cons.1 hr with rfl | hr
        · exact h
        · exact h3 r hr
      · refine .inr fun r hr => ?_
        rcases List.mem_cons.1 hr with rfl | hr
        · exact h
        · exact h1 r hr
theorem kget_mid {c : Int} : ∀ (G1 : MG) (p : KV × List Str) (G2 : MG), p.1.key = c → (∀ q ∈ G1, q.1.key ≠ c) → kget ((G1 ++ p :: G2).map Prod.fst) c = some p.1.val
  | [], p, G2, h, _ => by simp [kget, h]
  | q :: G1, p, G2, h, h2 => by
    have : ¬ c = q.1.key := fun e => h2 q (by simp) e.symm
    simp only [List.cons_append, List.map_cons, kget, beq_iff_eq, this, if_false]
    exact kget_mid G1 p G2 h (fun r hr => h2 r (by simp [hr]))
theorem kget_out {c : Int} : ∀ G : MG, (∀ q ∈ G, q.1.key ≠ c) → kget (G.map Prod.fst) c = none
  | [], _ => rfl
  | q :: G, h => by
    have : ¬ c = q.1.key := fun e => h q (by simp) e.symm
    simp only [List.map_cons, kget, beq_iff_eq, this, if_false]
    exact kget_out G (fun r hr => h r (by simp [hr]))
theorem kput_mid {c : Int} (v : Value) : ∀ (G1 : MG) (p : KV × List Str) (G2 : MG), p.1.key = c → (∀ q ∈ G1, q.1.key ≠ c) → kput ((G1 ++ p :: G2).map Prod.fst) c v = some ((G1.map Prod.fst) ++ ⟨c, v, p.1.born⟩ :: G2.map Prod.fst)
  | [], p, G2, h, _ => by simp [kput, h]
  | q :: G1, p, G2, h, h2 => by
    have : ¬ c = q.1.key := fun e => h2 q (by simp) e.symm
    simp only [List.cons_append, List.map_cons, kput, beq_iff_eq, this, if_false]
    have ih := kput_mid v G1 p G2 h (fun r hr => h2 r (by simp [hr]))
    rw [ih]; rfl
theorem kput_out {c : Int} (v : Value) : ∀ G : MG, (∀ q ∈ G, q.1.key ≠ c) → kput (G.map Prod.fst) c v = none
  | [], _ => rfl
  | q :: G, h => by
    have : ¬ c = q.1.key := fun e => h q (by simp) e.symm
    simp only [List.map_cons, kput, beq_iff_eq, this, if_false]
    rw [kput_out v G (fun r hr => h r (by simp [hr]))]; rfl
theorem rowOf_mid {c : Int} : ∀ (G1 : MG) (p : KV × List Str) (G2 : MG), (∀ q ∈ G1, q.1.key ≠ p.1.key) → rowOf (G1 ++ p :: G2) c = if c = p.1.key then p.2 else rowOf (G1 ++ G2) c
  | [], p, G2, _ => rfl
  | q :: G1, p, G2, h => by
    have ih := rowOf_mid (c := c) G1 p G2 (fun r hr => h r (by simp [hr]))
    have hq := h q (by simp)
    simp only [List.cons_append, rowOf]
    by_cases e : c = q.1.key
    · rw [if_pos e, if_neg (fun e2 => hq (by rw [← e, e2])), if_pos e]
    · rw [if_neg e, ih, if_neg e]
theorem rowOf_out {c : Int} : ∀ (G : MG) (p : KV × List Str), (∀ q ∈ G, q.1.key ≠ p.1.key) → rowOf (G ++ [p]) c = if c = p.1.key then p.2 else rowOf G c := by
  intro G p h
  have := rowOf_mid (c := c) G p [] h
  rw [List.append_nil] at this; exact this
theorem rowOf_none {c : Int} : ∀ G : MG, (∀ q ∈ G, q.1.key ≠ c) → rowOf G c = []
  | [], _ => rfl
  | q :: G, h => by
    rw [rowOf, if_neg (fun e => h q (by simp) e.symm)]
    exact rowOf_none G (fun r hr => h r (by simp [hr]))
theorem opened_len {e : TypeId} {G : MG} {c k : Int} {v : Value} {xs : List Str} {R : List HO} (h : Opened e G c v xs R) (hG : MarkG k G) (h0 : 0 ≤ k) : len xs ≤ 17 := by
  rcases h with ⟨G1, p, G2, rfl, h2, h3, rfl, rfl, rfl⟩ | ⟨_, _, rfl, _⟩
  · have := hG c
    rw [rowOf_mid G1 p G2 (by rw [h2]; exact h3), if_pos h2.symm] at this
    rw [this]
    have h4 := List.length_filter_le (fun m => byteAt m 0 == c) (Eng.sub marks8 0 k)
    have h5 := (sub_bd marks8 0 k).2
    have h6 : len marks8 = 17 := rfl
    unfold len at *; omega
  · decide
section
variable {w0 w : World} {M0 M : Mem} {A B C : HO} {e : TypeId} {Rs : List HO}
theorem mk_open {G : MG} (c : Int) (hS : St w0 M0 w M (A :: B :: C :: (OwnL e G ++ Rs))) : ∃ v xs R, Opened e G c v xs R ∧ (kget (G.map Prod.fst) c).getD (.slice none 0 0) = v ∧ St w0 M0 w M (A :: B :: C :: .own e 1 v xs.length (xs.flatMap strC) :: (R ++ Rs)) := by
  rcases split_key c G with ⟨G1, p, G2, h1, h2, h3⟩ | h1
  · refine ⟨_, _, _, .inl ⟨G1, p, G2, h1, h2, h3, rfl, rfl, rfl⟩, by rw [h1, kget_mid G1 p G2 h2 h3]; rfl, ?_⟩
    refine hS.perm ?_
    refine .cons _ (.cons _ (.cons _ ?_))
    subst h1
    unfold OwnL
    rw [List.map_append, List.map_append, List.map_cons, List.append_assoc, List.append_assoc, List.cons_append]
    exact List.perm_middle.symm
  · refine ⟨_, _, _, .inr ⟨h1, rfl, rfl, rfl⟩, by rw [kget_out G h1]; rfl, ?_⟩
    have := hS.ownNil e 1
    refine this.perm ?_
    exact List.perm_middle (l₁ := [A, B, C])
theorem mk_close {G : MG} {c : Int} {v : Value} {xs : List Str} {R : List HO} (clk : Nat) (h : Opened e G c v xs R) (x : Str) (v' : Value) : ∃ G', kset (G.map Prod.fst) clk c v' = G'.map Prod.fst ∧
    (∀ {w : World} {M : Mem}, St w0 M0 w M (A :: B :: C :: .own e 1 v' (xs ++ [x]).length ((xs ++ [x]).flatMap strC) :: (R ++ Rs)) → St w0 M0 w M (A :: B :: C :: (OwnL e G' ++ Rs))) ∧
    ∀ {k : Int}, 0 ≤ k → k < 17 → x = at' marks8 k → c = byteAt x 0 → MarkG k G → MarkG (k + 1) G' := by
  have hf : ∀ {k : Int}, 0 ≤ k → k < 17 → x = at' marks8 k → ∀ c', (Eng.sub marks8 0 (k + 1)).filter (fun m => byteAt m 0 == c') = (Eng.sub marks8 0 k).filter (fun m => byteAt m 0 == c') ++ if byteAt x 0 = c' then [x] else [] := by
    intro k h0 h1 hx c'
    rw [sub_succ marks8 k h0 h1, List.filter_append, show marks8.getD k.toNat default = x from hx.symm]
    congr 1
    by_cases e : byteAt x 0 = c' <;> simp [e]
  rcases h with ⟨G1, p, G2, rfl, h2, h3, rfl, rfl, rfl⟩ | ⟨h1, rfl, rfl, rfl⟩
  · refine ⟨G1 ++ (⟨c, v', p.1.born⟩, p.2 ++ [x]) :: G2, ?_, fun hS => ?_, fun h0 hk hx hc hG c' => ?_⟩
    · unfold kset; rw [kput_mid v' G1 p G2 h2 h3]; simp
    · refine hS.perm (.cons _ (.cons _ (.cons _ ?_)))
      unfold OwnL
      rw [List.map_append, List.map_append, List.map_cons, List.append_assoc, List.append_assoc, List.cons_append]
      exact List.perm_middle
    · have := hG c'
      rw [rowOf_mid G1 p G2 (by rw [h2]; exact h3)] at this
      rw [rowOf_mid G1 (⟨c, v', p.1.born⟩, p.2 ++ [x]) G2 h3, hf h0 hk hx, ← this, h2]
      dsimp only
      rw [← hc]
      by_cases e : c' = c
      · rw [if_pos e, if_pos e, if_pos e.symm]
      · rw [if_neg e, if_neg e, if_neg (fun e2 => e e2.symm), List.append_nil]
  · refine ⟨G ++ [(⟨c, v', clk⟩, [x])], ?_, fun hS => ?_, fun h0 hk hx hc hG c' => ?_⟩
    · unfold kset; rw [kput_out v' G h1]; simp
    · refine hS.perm (.cons _ (.cons _ (.cons _ ?_)))
      unfold OwnL
      rw [List.map_append, List.append_assoc]
      exact List.perm_middle
    · have := hG c'
      rw [rowOf_out G _ h1, hf h0 hk hx, ← this]
      dsimp only
      rw [← hc]
      by_cases e : c' = c
      · rw [if_pos e, if_pos e.symm, e, rowOf_none G h1]; rfl
      · rw [if_neg e, if_neg (fun e2 => e e2.symm), List.append_nil]
theorem mk_end {G : MG} (hS : St w0 M0 w M (A :: B :: C :: (OwnL e G ++ Rs))) (hG : MarkG 17 G) : MarkMap M (G.map Prod.fst) ∧ St w0 M0 w M (A :: B :: C :: Rs) := by
  refine ⟨fun c => ?_, hS.drop _ (.cons_cons _ (.cons_cons _ (.cons_cons _ (List.sublist_append_right _ _))))⟩
  have hc := hG c
  rw [sub_all marks8 17 (Int.le_refl _)] at hc
  have hm : marksOf c = rowOf G c := hc.symm
  rw [hm]
  rcases split_key c G with ⟨G1, p, G2, h1, h2, h3⟩ | h1
  · refine ⟨_, by rw [h1, kget_mid G1 p G2 h2 h3], ?_⟩
    rw [h1, rowOf_mid G1 p G2 (by rw [h2]; exact h3), if_pos h2.symm]
    have hmem : ownOf e p ∈ (A :: B :: C :: (OwnL e G ++ Rs)) := by
      rw [h1]; unfold OwnL; simp
    obtain ⟨i, hi⟩ := List.getElem?_of_mem hmem
    exact hS.sl (i := i) hi
  · refine ⟨_, by rw [kget_out G h1], ?_⟩
    rw [rowOf_none G h1]; exact Sl.nil _ 1
end
theorem find_congr {α : Type} {p q : α → Bool} : ∀ {l : List α}, (∀ x ∈ l, p x = q x) → l.find? p = l.find? q
  | [], _ => rfl
  | a :: l, h => by
    rw [List.find?_cons, List.find?_cons, h a (by simp), find_congr (fun x hx => h x (by simp [hx]))]
theorem mark_first {m : Str} (hm : m ∈ marks8) : ¬ m = [] := by
  simp only [marks8, List.mem_cons, List.not_mem_nil, or_false] at hm
  rcases hm with rfl | rfl | rfl | rfl | rfl | rfl | rfl | rfl | rfl | rfl | rfl | rfl | rfl | rfl | rfl | rfl | rfl <;> simp
theorem prefix_first {s m : Str} (h : Lib.hasPrefix s m = true) (hm : ¬ m = []) : byteAt m 0 = byteAt s 0 := by
  cases m with
  | nil => exact absurd rfl hm
  | cons a m =>
    cases s with
    | nil => simp [Lib.hasPrefix] at h
    | cons b s =>
      simp only [Lib.hasPrefix, List.isPrefixOf, Bool.and_eq_true, beq_iff_eq] at h
      rw [h.1]; rfl
theorem markP_of (s : Str) : markP s = ((marksOf (byteAt s 0)).find? (fun m => Lib.hasPrefix s m)).getD [] := by
  unfold markP marksOf
  rw [List.find?_filter]
  congr 1
  refine find_congr fun m hm => ?_
  cases hp : Lib.hasPrefix s m with
  | false => simp
  | true => simp [prefix_first hp (mark_first hm)]
def NoneTo (s : Str) (L : List Str) (k : Int) : Prop := (Eng.sub L 0 k).find? (fun m => Lib.hasPrefix s m) = none
theorem NoneTo.step {s : Str} {L : List Str} {k : Int} (h : NoneTo s L k) (h0 : 0 ≤ k) (h1 : k < len L) (h2 : Lib.hasPrefix s (at' L k) = false) : NoneTo s L (k + 1) := by
  unfold NoneTo at *
  rw [sub_succ L k h0 h1, List.find?_append, h, Option.none_or, List.find?_cons, show L.getD k.toNat default = at' L k from rfl, h2]; rfl
theorem NoneTo.found {s : Str} {L : List Str} {k : Int} (h : NoneTo s L k) (h0 : 0 ≤ k) (h1 : k < len L) (h2 : Lib.hasPrefix s (at' L k) = true) : (L.find? (fun m => Lib.hasPrefix s m)).getD [] = at' L k := by
  unfold NoneTo at h
  have e : L = Eng.sub L 0 k ++ from' L k := from_split L 0 k (Int.le_refl _) h0
  have hk : k.toNat < L.length := by unfold len at h1; omega
  have e2 : from' L k = at' L k :: from' L (k + 1) := by
    unfold from' at'
    rw [show (k + 1).toNat = k.toNat + 1 from by omega, List.drop_eq_getElem_cons hk]
    simp [hk]
  have e3 : L.find? (fun m => Lib.hasPrefix s m) = some (at' L k) := by
    conv => lhs; rw [e]
    rw [List.find?_append, h, e2, List.find?_cons, h2]; rfl
  rw [e3]; rfl
theorem NoneTo.none' {s : Str} {L : List Str} {k : Int} (h : NoneTo s L k) (hk : len L ≤ k) : (L.find? (fun m => Lib.hasPrefix s m)).getD [] = [] := by
  unfold NoneTo at h
  rw [sub_all L k hk] at h; rw [h]; rfl
end Go.Eng
