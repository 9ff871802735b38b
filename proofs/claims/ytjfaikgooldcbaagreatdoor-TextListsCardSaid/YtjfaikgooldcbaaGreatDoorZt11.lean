/-
  THE PLAIN FORMS OF THE DOCUMENT's ANSWERS, 2: numbers and strings as louperef01 and louperef03 read them; that they are what num and quote reckon. No program in it.
  THE PLAIN FORM OF text.Parse: what a text is read as. No program in it.
  THE PLAIN FORM OF text.Parse: bounds. No program in it.
  THE ENGINE, PART 17: slices of slices: an element is a slice's header; a fact beside tells what each of them holds. Over any program.
  The reference's parser: has, bad, number.
  VALUES AS TREES, and the plain form of the printer. No program in it.
  WHAT VALUES ARE RIGHT, as the document says, in plain Lean; values as trees. No program in it.
  The reference's values: List; a row of rows, as it is known.
  The reference's values: Names and Parts, with the rows that they hand over.
-/
import Derived.Test.YtjfaikgooldcbaaGreatDoorZt10
import Derived.Test.YtjfaikgooldcbaaGreatDoorZt8
import Derived.Test.YtjfaikgooldcbaaGreatDoorZt4
import Derived.Laws.BitsLemmas
import Derived.Test.YtjfaikgooldcbaaGreatDoorZt3
import Derived.Test.YtjfaikgooldcbaaGreatDoorProg
import Derived.Test.YtjfaikgooldcbaaGreatDoorZt5
import Derived.Test.YtjfaikgooldcbaaGreatDoorZt9
import Derived.Test.YtjfaikgooldcbaaGreatDoorZt6
set_option linter.unusedVariables false
set_option linter.unusedSimpArgs false
namespace Go.Eng
open Go.RowKit

theorem u8_eqn {s : Str} {p : Int} (c : UInt8) : ((byteAt s p).toNat.toUInt8 = c) ↔ byteAt s p = (c.toNat : Int) := by
  unfold byteAt
  rw [Int.toNat_natCast, ← UInt8.toNat_inj]
  simp; omega
theorem ix_nil (x : UInt8) : ¬ 0 ≤ Lib.indexByte [] x := by unfold Lib.indexByte; decide
theorem ix_cons (c x : UInt8) (l : List UInt8) : 0 ≤ Lib.indexByte (c :: l) x ↔ c = x ∨ 0 ≤ Lib.indexByte l x := by
  have hm : ∀ l : List UInt8, -1 ≤ Lib.indexByte l x := by
    intro l
    induction l with
    | nil => unfold Lib.indexByte; decide
    | cons a l ih => unfold Lib.indexByte; (repeat' split) <;> omega
  have := hm l
  rw [Lib.indexByte]
  by_cases h : c = x
  · rw [if_pos (by simpa using h)]; exact ⟨fun _ => .inl h, fun _ => Int.le_refl _⟩
  · rw [if_neg (by simpa using h)]
    by_cases h2 : Lib.indexByte l x = -1
    · rw [if_pos (by simpa using h2)]; exact ⟨fun h3 => by omega, fun h3 => h3.elim (fun h4 => absurd h4 h) (fun h4 => by omega)⟩
    · rw [if_neg (by simpa using h2)]; exact ⟨fun _ => .inr (by omega), fun _ => by omega⟩
theorem isAt_one {s : Str} {c : UInt8} {p : Int} : isAt s [c] p = true ↔ p < len s ∧ byteAt s p = (c.toNat : Int) := by
  unfold isAt
  simp only [Bool.and_eq_true, decide_eq_true_eq, ix_cons, ix_nil, or_false]
  rw [← u8_eqn c, eq_comm (a := c)]
theorem isAt_two {s : Str} {c d : UInt8} {p : Int} : isAt s [c, d] p = true ↔ p < len s ∧ (byteAt s p = (c.toNat : Int) ∨ byteAt s p = (d.toNat : Int)) := by
  unfold isAt
  simp only [Bool.and_eq_true, decide_eq_true_eq, ix_cons, ix_nil, or_false]
  rw [← u8_eqn c, ← u8_eqn d, eq_comm (a := c), eq_comm (a := d)]
/-- The places behind the sign, and behind the figures ahead of a point. -/
def wholeR (s : Str) : Int × Int × Bool :=
  let a : Int := if 0 < len s ∧ byteAt s 0 = 45 then 1 else 0
  if runTo s a = a then (a, a, false) else if byteAt s a = 48 then (a, a + 1, true) else (a, runTo s a, true)
/-- What stands behind e. -/
def powerR (s : Str) (i : Int) : Int × Str × Int :=
  if i = len s ∨ ¬ (byteAt s i = 101 ∨ byteAt s i = 69) then (0, [], i)
  else if i + 1 < len s ∧ (byteAt s (i + 1) = 43 ∨ byteAt s (i + 1) = 45) then
    (if byteAt s (i + 1) = 45 then -1 else 1, Eng.sub s (i + 1 + 1) (runTo s (i + 1 + 1)), runTo s (i + 1 + 1))
  else (1, Eng.sub s (i + 1) (runTo s (i + 1)), runTo s (i + 1))
def expR (s : Str) (fg : Str) (e : Int) (i : Int) : Nd × Int × Int :=
  let p := powerR s i
  if p.2.2 < len s ∨ (p.1 ≠ 0 ∧ p.2.1 = []) then (noNd, p.2.2, 1)
  else if 6 < len (dropZ p.2.1) then (noNd, 0, 2)
  else ((mk1 (byteAt s 0 == 45) fg (e + p.1 * decVal (dropZ p.2.1))).1, 0, (mk1 (byteAt s 0 == 45) fg (e + p.1 * decVal (dropZ p.2.1))).2)
def readR (s : Str) : Nd × Int × Int :=
  let wh := wholeR s
  if wh.2.2 = false then (noNd, wh.1, 1)
  else if wh.2.1 < len s ∧ byteAt s wh.2.1 = 46 then
    if runTo s (wh.2.1 + 1) = wh.2.1 + 1 then (noNd, runTo s (wh.2.1 + 1), 1)
    else expR s (Eng.sub s wh.1 wh.2.1 ++ Eng.sub s (wh.2.1 + 1) (runTo s (wh.2.1 + 1))) (wh.2.1 + 1 - runTo s (wh.2.1 + 1)) (runTo s (wh.2.1 + 1))
  else expR s (Eng.sub s wh.1 wh.2.1) 0 wh.2.1
theorem sub_eq_nil {α : Type} {s : List α} {i j : Int} (h0 : 0 ≤ i) (h1 : i ≤ j) (h2 : j ≤ len s) : Eng.sub s i j = [] ↔ j = i := by
  constructor
  · intro h
    have := sub_len h0 h1 h2
    rw [h, len_nil] at this; omega
  · rintro rfl; unfold Eng.sub; simp
theorem byteAt_sub {s : Str} {i j k : Int} (h0 : 0 ≤ i) (h1 : 0 ≤ k) (h2 : i + k < j) (h3 : j ≤ len s) : byteAt (Eng.sub s i j) k = byteAt s (i + k) := by
  unfold byteAt Eng.sub
  rw [List.getD_eq_getElem?_getD, List.getElem?_take, if_pos (by omega), List.getElem?_drop, ← List.getD_eq_getElem?_getD, show i.toNat + k.toNat = (i + k).toNat from by omega]
/-- Behind the figures both go on alike. -/
theorem expR_at {s fg : Str} {x b c2 side : Int} {pw : Str} (hp : powerR s b = (side, pw, c2)) (h0 : side ≠ 0) : expR s fg x b = if pw = [] ∨ c2 < len s then (noNd, c2, 1) else fin1 (byteAt s 0 == 45) fg x pw side := by
  unfold expR fin1
  rw [hp]
  dsimp only
  by_cases c3 : pw = [] ∨ c2 < len s
  · rw [if_pos c3, if_pos (by rcases c3 with c3 | c3; exact .inr ⟨h0, c3⟩; exact .inl c3)]
  · rw [if_neg c3, if_neg (by rintro (c4 | ⟨_, c4⟩); exact c3 (.inr c4); exact c3 (.inl c4))]
theorem expR_eq {s : Str} {neg : Bool} {fg : Str} {x b : Int} (hneg : neg = (byteAt s 0 == 45)) (h0 : 0 ≤ b) (h1 : b ≤ len s) :
    rest1 s neg fg x b = expR s fg x b := by
  subst hneg
  have e1 := @isAt_two s 101 69 b
  have e2 := @isAt_one s 45 (b + 1)
  have e3 := @isAt_one s 43 (b + 1)
  simp only [show ((101 : UInt8).toNat : Int) = 101 from rfl, show ((69 : UInt8).toNat : Int) = 69 from rfl, show ((45 : UInt8).toNat : Int) = 45 from rfl, show ((43 : UInt8).toNat : Int) = 43 from rfl] at e1 e2 e3
  unfold rest1
  by_cases c1 : isAt s [101, 69] b = true
  · have c1' := e1.1 c1
    have hn0 : ¬ (b = len s ∨ ¬ (byteAt s b = 101 ∨ byteAt s b = 69)) := by rintro (h | h); omega; exact h c1'.2
    rw [if_pos c1, isTo_yes c1]
    unfold exp1
    by_cases c2 : isAt s [45] (b + 1) = true
    · have c2' := e2.1 c2
      have hp : powerR s b = (-1, Eng.sub s (b + 1 + 1) (runTo s (b + 1 + 1)), runTo s (b + 1 + 1)) := by
        unfold powerR; rw [if_neg hn0, if_pos ⟨c2'.1, .inr c2'.2⟩, if_pos c2'.2]
      rw [expR_at hp (by decide), isTo_yes c2]
      simp only [c2, if_true]
    · rw [isTo_no (by simpa using c2)]
      by_cases c4 : isAt s [43] (b + 1) = true
      · have c4' := e3.1 c4
        have hp : powerR s b = (1, Eng.sub s (b + 1 + 1) (runTo s (b + 1 + 1)), runTo s (b + 1 + 1)) := by
          unfold powerR; rw [if_neg hn0, if_pos ⟨c4'.1, .inl c4'.2⟩, if_neg (by omega)]
        rw [expR_at hp (by decide), isTo_yes c4]
        simp only [c2, Bool.false_eq_true, if_false]
      · rw [isTo_no (by simpa using c4)]
        have hn : ¬ (b + 1 < len s ∧ (byteAt s (b + 1) = 43 ∨ byteAt s (b + 1) = 45)) := by
          rintro ⟨h2, h3 | h3⟩
          · exact c4 (e3.2 ⟨h2, h3⟩)
          · exact c2 (e2.2 ⟨h2, h3⟩)
        have hp : powerR s b = (1, Eng.sub s (b + 1) (runTo s (b + 1)), runTo s (b + 1)) := by
          unfold powerR; rw [if_neg hn0, if_neg hn]
        rw [expR_at hp (by decide)]
        simp only [c2, Bool.false_eq_true, if_false]
  · have hn : b = len s ∨ ¬ (byteAt s b = 101 ∨ byteAt s b = 69) := by
      by_cases h : b = len s
      · exact .inl h
      · exact .inr fun h2 => c1 (e1.2 ⟨by omega, h2⟩)
    have hp : powerR s b = (0, [], b) := by unfold powerR; rw [if_pos hn]
    rw [if_neg c1, isTo_no (by simpa using c1)]
    unfold expR fin1
    rw [hp]
    dsimp only
    by_cases c3 : b < len s
    · rw [if_pos c3, if_pos (.inl c3)]
    · rw [if_neg c3, if_neg (show ¬ (b < len s ∨ ((0 : Int) ≠ 0 ∧ ([] : Str) = [])) from by rintro (h | h); exact c3 h; exact h.1 rfl)]
      simp only [show dropZ [] = [] from rfl, len_nil, show ¬ ((6 : Int) < 0) from by decide, if_false, show decVal [] = 0 from rfl, Int.mul_zero]
theorem read1_at {s : Str} {a : Int} (ha : isTo s [45] 0 = a) : read1 s =
    if 1 < len (Eng.sub s a (runTo s a)) ∧ byteAt (Eng.sub s a (runTo s a)) 0 = 48 then (noNd, a + 1, 1)
    else if Eng.sub s a (runTo s a) = [] then (noNd, runTo s a, 1)
    else if isAt s [46] (runTo s a) then
      if Eng.sub s (isTo s [46] (runTo s a)) (runTo s (isTo s [46] (runTo s a))) = [] then (noNd, runTo s (isTo s [46] (runTo s a)), 1)
      else rest1 s (isAt s [45] 0) (Eng.sub s a (runTo s a) ++ Eng.sub s (isTo s [46] (runTo s a)) (runTo s (isTo s [46] (runTo s a)))) (-(len (Eng.sub s (isTo s [46] (runTo s a)) (runTo s (isTo s [46] (runTo s a)))))) (runTo s (isTo s [46] (runTo s a)))
    else rest1 s (isAt s [45] 0) (Eng.sub s a (runTo s a)) 0 (isTo s [46] (runTo s a)) := by subst ha; rfl
theorem readR_at {s : Str} {a b : Int} (hw : wholeR s = (a, b, true)) : readR s =
    if b < len s ∧ byteAt s b = 46 then
      if runTo s (b + 1) = b + 1 then (noNd, runTo s (b + 1), 1)
      else expR s (Eng.sub s a b ++ Eng.sub s (b + 1) (runTo s (b + 1))) (b + 1 - runTo s (b + 1)) (runTo s (b + 1))
    else expR s (Eng.sub s a b) 0 b := by
  unfold readR; rw [hw]; simp only [Bool.true_eq_false, if_false]
/-- Behind a number's first figures. -/
theorem read_rest {s : Str} {a b : Int} {neg : Bool} (hneg : neg = (byteAt s 0 == 45)) (h0 : 0 ≤ a) (h1 : a ≤ b) (h2 : b ≤ len s) :
    (if isAt s [46] b then
      if Eng.sub s (isTo s [46] b) (runTo s (isTo s [46] b)) = [] then (noNd, runTo s (isTo s [46] b), 1)
      else rest1 s neg (Eng.sub s a b ++ Eng.sub s (isTo s [46] b) (runTo s (isTo s [46] b))) (-(len (Eng.sub s (isTo s [46] b) (runTo s (isTo s [46] b))))) (runTo s (isTo s [46] b))
    else rest1 s neg (Eng.sub s a b) 0 (isTo s [46] b)) =
    if b < len s ∧ byteAt s b = 46 then
      if runTo s (b + 1) = b + 1 then (noNd, runTo s (b + 1), 1)
      else expR s (Eng.sub s a b ++ Eng.sub s (b + 1) (runTo s (b + 1))) (b + 1 - runTo s (b + 1)) (runTo s (b + 1))
    else expR s (Eng.sub s a b) 0 b := by
  have h46 := @isAt_one s 46 b
  simp only [show ((46 : UInt8).toNat : Int) = 46 from rfl] at h46
  by_cases c3 : isAt s [46] b = true
  · have c3' := h46.1 c3
    rw [if_pos c3, if_pos c3', isTo_yes c3]
    have hb2 := runTo_bd s (b + 1) (by omega) (by omega)
    have hnil2 := sub_eq_nil (s := s) (i := b + 1) (j := runTo s (b + 1)) (by omega) hb2.1 hb2.2
    by_cases c4 : runTo s (b + 1) = b + 1
    · rw [if_pos c4, if_pos (hnil2.2 c4)]
    · rw [if_neg c4, if_neg (fun h => c4 (hnil2.1 h))]
      rw [expR_eq hneg (by omega) hb2.2, sub_len (by omega) hb2.1 hb2.2]
      congr 1; omega
  · rw [if_neg c3, if_neg (fun h => c3 (h46.2 h)), isTo_no (by simpa using c3)]
    rw [expR_eq hneg (by omega) (by omega)]
theorem readR_eq (s : Str) : readR s = read1 s := by
  have h45 := @isAt_one s 45 0
  simp only [show ((45 : UInt8).toNat : Int) = 45 from rfl] at h45
  have hl := len_nonneg s
  have hneg : isAt s [45] 0 = (byteAt s 0 == 45) := by
    rw [Bool.eq_iff_iff, h45, beq_iff_eq]
    refine ⟨fun h => h.2, fun h => ⟨?_, h⟩⟩
    rcases Int.lt_or_le 0 (len s) with h2 | h2
    · exact h2
    · have : s = [] := by cases s with | nil => rfl | cons a l => rw [len_cons] at h2; have := len_nonneg l; omega
      subst this; revert h; decide
  have ha : (if 0 < len s ∧ byteAt s 0 = 45 then (1 : Int) else 0) = isTo s [45] 0 := by
    unfold isTo
    by_cases c : isAt s [45] 0 = true
    · rw [if_pos c, if_pos (h45.1 c)]; rfl
    · rw [if_neg c, if_neg (fun h => c (h45.2 h))]
  have hab := isTo_bd s [45] 0 hl
  generalize hA : isTo s [45] 0 = a at *
  have hw : wholeR s = if runTo s a = a then (a, a, false) else if byteAt s a = 48 then (a, a + 1, true) else (a, runTo s a, true) := by unfold wholeR; simp only [ha]
  have hb := runTo_bd s a hab.1 hab.2
  have hnil := sub_eq_nil hab.1 hb.1 hb.2
  have hfl := sub_len hab.1 hb.1 hb.2
  rw [read1_at hA]
  by_cases c0 : runTo s a = a
  · rw [if_pos c0] at hw
    have hs := hnil.2 c0
    rw [hs, if_neg (by rw [len_nil]; omega), if_pos rfl, c0]
    unfold readR; rw [hw]; rfl
  · rw [if_neg c0] at hw
    have hs : ¬ Eng.sub s a (runTo s a) = [] := fun h => c0 (hnil.1 h)
    have hb0 : byteAt (Eng.sub s a (runTo s a)) 0 = byteAt s a := by rw [byteAt_sub hab.1 (by omega) (by omega) hb.2, Int.add_zero]
    by_cases c1 : byteAt s a = 48
    · rw [if_pos c1] at hw
      by_cases c2 : 1 < len (Eng.sub s a (runTo s a))
      · have hfig := @runTo_fig s a (a + 1) hab.1 (by omega) (by omega)
        unfold isFig at hfig
        simp only [Bool.and_eq_true, decide_eq_true_eq] at hfig
        have hp : powerR s (a + 1) = (0, [], a + 1) := by unfold powerR; rw [if_pos (.inr (by omega))]
        rw [if_pos ⟨c2, by rw [hb0, c1]⟩, readR_at hw, if_neg (by omega)]
        unfold expR; rw [hp]; dsimp only
        rw [if_pos (.inl (by omega))]
      · have he : runTo s a = a + 1 := by omega
        rw [he] at c2 hs hb
        rw [he, if_neg (fun h => c2 h.1), if_neg hs, read_rest hneg hab.1 (by omega) (by omega), readR_at hw]
    · rw [if_neg c1] at hw
      rw [if_neg (fun h => c1 (by rw [← hb0]; exact h.2)), if_neg hs, read_rest hneg hab.1 (by omega) (by omega), readR_at hw]
theorem powerR_bd {s : Str} {i : Int} (h0 : 0 ≤ i) (h1 : i ≤ len s) : (-1 ≤ (powerR s i).1 ∧ (powerR s i).1 ≤ 1) ∧ (0 ≤ len (powerR s i).2.1 ∧ len (powerR s i).2.1 ≤ len s) ∧ (i ≤ (powerR s i).2.2 ∧ (powerR s i).2.2 ≤ len s) ∧ ∀ b ∈ (powerR s i).2.1, isFigB b = true := by
  unfold powerR
  split
  · refine ⟨by dsimp only; omega, ⟨Int.le_refl _, len_nonneg s⟩, by dsimp only; omega, by intro b hb; cases hb⟩
  · rename_i hn
    have hlt : i < len s := by
      rcases Int.lt_or_le i (len s) with h | h
      · exact h
      · exact absurd (.inl (by omega)) hn
    split
    · rename_i h2
      have hr := runTo_bd s (i + 1 + 1) (by omega) (by omega)
      refine ⟨by dsimp only; split <;> omega, sub_bd _ _ _, by dsimp only; omega, figs_run (by omega)⟩
    · have hr := runTo_bd s (i + 1) (by omega) (by omega)
      refine ⟨by dsimp only; omega, sub_bd _ _ _, by dsimp only; omega, figs_run (by omega)⟩
theorem wholeR_bd (s : Str) : 0 ≤ (wholeR s).1 ∧ (wholeR s).1 ≤ len s ∧ (wholeR s).1 ≤ (wholeR s).2.1 ∧ (wholeR s).2.1 ≤ len s ∧ ((wholeR s).2.2 = true → 0 < len s) := by
  have hl := len_nonneg s
  have key : ∀ a : Int, 0 ≤ a → a ≤ len s → (let w := if runTo s a = a then (a, a, false) else if byteAt s a = 48 then (a, a + 1, true) else (a, runTo s a, true); 0 ≤ w.1 ∧ w.1 ≤ len s ∧ w.1 ≤ w.2.1 ∧ w.2.1 ≤ len s ∧ (w.2.2 = true → 0 < len s)) := by
    intro a h0 h1
    have hr := runTo_bd s a h0 h1
    dsimp only
    split
    · exact ⟨h0, h1, Int.le_refl _, h1, fun h => by cases h⟩
    · split
      · refine ⟨h0, h1, ?_, ?_, fun _ => ?_⟩ <;> (try dsimp only) <;> omega
      · refine ⟨h0, h1, ?_, ?_, fun _ => ?_⟩ <;> (try dsimp only) <;> omega
  unfold wholeR
  exact key _ (by split <;> omega) (by split <;> omega)
/-- The place of an error; and its kind. -/
theorem read1_bd (s : Str) : 0 ≤ (read1 s).2.1 ∧ (read1 s).2.1 ≤ len s ∧ ((read1 s).2.2 = 0 ∨ (read1 s).2.2 = 1 ∨ (read1 s).2.2 = 2 ∨ (read1 s).2.2 = 4) := by
  have hmk : ∀ (neg : Bool) (fg : Str) (x : Int), (mk1 neg fg x).2 = 0 ∨ (mk1 neg fg x).2 = 2 ∨ (mk1 neg fg x).2 = 4 := by
    intro neg fg x; unfold mk1; (repeat' split) <;> simp
  have hw := wholeR_bd s
  have hl := len_nonneg s
  have hx : ∀ (fg : Str) (e i : Int), 0 ≤ i → i ≤ len s → 0 ≤ (expR s fg e i).2.1 ∧ (expR s fg e i).2.1 ≤ len s ∧ ((expR s fg e i).2.2 = 0 ∨ (expR s fg e i).2.2 = 1 ∨ (expR s fg e i).2.2 = 2 ∨ (expR s fg e i).2.2 = 4) := by
    intro fg e i h0 h1
    have hp := powerR_bd h0 h1
    unfold expR
    dsimp only
    split
    · exact ⟨by dsimp only; omega, by dsimp only; omega, .inr (.inl rfl)⟩
    · split
      · exact ⟨Int.le_refl _, hl, .inr (.inr (.inl rfl))⟩
      · refine ⟨Int.le_refl _, hl, ?_⟩
        dsimp only
        have := hmk (byteAt s 0 == 45) fg (e + (powerR s i).1 * decVal (dropZ (powerR s i).2.1))
        rcases this with h | h | h <;> rw [h] <;> simp
  rw [← readR_eq]
  unfold readR
  dsimp only
  split
  · exact ⟨by dsimp only; omega, by dsimp only; omega, .inr (.inl rfl)⟩
  · split
    · rename_i h2
      have hr := runTo_bd s ((wholeR s).2.1 + 1) (by omega) (by omega)
      split
      · exact ⟨by dsimp only; omega, by dsimp only; omega, .inr (.inl rfl)⟩
      · exact hx _ _ _ (by omega) (by omega)
    · exact hx _ _ _ (by omega) (by omega)
/-! ### Strings -/
def escS (e : Int × Int) : Str × Int := if e.2 = 0 then ([], 0) else (toStr (Lib.encodeRuneZ e.1), e.2)
/-- What stands at a place, and how many bytes it has. -/
def takenR (s : Str) (i : Int) : Str × Int := if byteAt s i = 92 then escS (escP (from' s i)) else (Eng.sub s i (i + rune s i), rune s i)
def UnqInv (f : Nat) (s : Str) (i : Int) (o : Str) : Prop := ∃ acc, o = toStr acc ∧ unqGo f s i acc = unqP s
theorem toStr_app (a b : List Int) : toStr (a ++ b) = toStr a ++ toStr b := List.map_append
theorem runeAt_low {s : Str} {i : Int} (h0 : 0 ≤ i) (h1 : i < len s) {c : Int} (hc : c < 128) : runeAt s i = c ↔ byteAt s i = c := by
  rcases rune_dec h0 h1 with ⟨_, h2, _, h3⟩ | ⟨_, _, _, _, h2, h3⟩ <;> omega
theorem runeAt_lt {s : Str} {i : Int} (h0 : 0 ≤ i) (h1 : i < len s) {c : Int} (hc : c ≤ 128) : runeAt s i < c ↔ byteAt s i < c := by
  rcases rune_dec h0 h1 with ⟨_, h2, _, h3⟩ | ⟨_, _, _, _, h2, h3⟩ <;> omega
theorem rune_none {s : Str} {i : Int} (h0 : 0 ≤ i) (h1 : i < len s) : rune s i = 0 ↔ (runeAt s i = 65533 ∧ runeLen s i = 1) := by
  rcases rune_dec h0 h1 with ⟨h2, h3, h4, _⟩ | ⟨h2, h3, h4, _, _⟩
  · exact ⟨fun _ => ⟨h3, h4⟩, fun _ => h2⟩
  · exact ⟨fun h => by omega, fun h => absurd h h4⟩
theorem UnqInv.step {f : Nat} {s o : Str} {i : Int} (h : UnqInv f s i o) (hf : (len s - i).toNat ≤ f) (h0 : 0 ≤ i) (h1 : i < len s) (h2 : ¬ byteAt s i = 34) (h3 : ¬ ((takenR s i).2 = 0 ∨ byteAt s i < 32)) :
    UnqInv (f - 1) s (i + (takenR s i).2) (o ++ (takenR s i).1) := by
  obtain ⟨acc, rfl, h⟩ := h
  rw [unqGo_eq hf h1, runeAt_from s i h0, runeLen_from s i h0, if_neg (by rw [runeAt_low h0 h1 (by decide)]; exact h2)] at h
  unfold takenR escS at *
  by_cases h4 : byteAt s i = 92
  · rw [if_pos (by rw [runeAt_low h0 h1 (by decide)]; exact h4)] at h
    rw [if_pos h4] at h3 ⊢
    by_cases h5 : (escP (from' s i)).2 = 0
    · rw [if_pos h5] at h3; exact absurd (.inl rfl) h3
    · rw [if_neg h5] at h ⊢
      exact ⟨_, (toStr_app _ _).symm, h⟩
  · rw [if_neg (by rw [runeAt_low h0 h1 (by decide)]; exact h4)] at h
    rw [if_neg h4] at h3 ⊢
    dsimp only at h3 ⊢
    rw [if_neg] at h
    · rcases rune_dec h0 h1 with ⟨h5, _⟩ | ⟨_, h5, _, h6, _⟩
      · exact absurd (.inl h5) h3
      · rw [h5] at h
        exact ⟨_, by rw [toStr_app, h6], h⟩
    · rintro (h5 | h5)
      · exact h3 (.inr ((runeAt_lt h0 h1 (by decide)).1 h5))
      · exact h3 (.inl ((rune_none h0 h1).2 h5))
theorem pre_one {s : Str} {c : UInt8} : Lib.hasPrefix s [c] = true ↔ ¬ s = [] ∧ byteAt s 0 = (c.toNat : Int) := by
  cases s with
  | nil => simp [Lib.hasPrefix]
  | cons a l =>
    have : byteAt (a :: l) 0 = (a.toNat : Int) := rfl
    rw [this]
    simp only [Lib.hasPrefix, List.isPrefixOf, List.isPrefixOf_nil_left, Bool.and_true, beq_iff_eq, reduceCtorEq, not_false_eq_true, true_and]
    rw [← UInt8.toNat_inj]; omega
/-- What an escape's letter stands for: the place of it in the row of letters. -/
def escFrom : Str := [34, 92, 47, 98, 102, 110, 114, 116]
def NotEsc (c k : Int) : Prop := ∀ j : Int, 0 ≤ j → j < k → c ≠ byteAt escFrom j
theorem NotEsc.step {c k : Int} (h : NotEsc c k) (h2 : ¬ c = byteAt escFrom k) : NotEsc c (k + 1) := by
  intro j h3 h4
  by_cases h5 : j = k
  · subst h5; exact h2
  · exact h j h3 (by omega)
/-- The number of an escape, figure by figure. -/
def hexI (c : Int) : Int := if 48 ≤ c ∧ c ≤ 57 then c - 48 else if 97 ≤ c ∧ c ≤ 102 then c - 87 else if 65 ≤ c ∧ c ≤ 70 then c - 55 else -1
theorem hexV_I (b : UInt8) : hexV b = hexI (b.toNat : Int) := by unfold hexV hexI; (repeat' split) <;> omega
theorem sub_snoc' {s : Str} {i k : Int} (h : 0 ≤ i) (h0 : i ≤ k) (h1 : k < len s) : ∃ b, Eng.sub s i (k + 1) = Eng.sub s i k ++ [b] ∧ (b.toNat : Int) = byteAt s k := by
  have h2 : k.toNat < s.length := by unfold len at h1; omega
  refine ⟨s[k.toNat], ?_, by simp [byteAt, h2]⟩
  unfold Eng.sub
  have h3 : k.toNat - i.toNat < (s.drop i.toNat).length := by rw [List.length_drop]; omega
  rw [show (k + 1).toNat - i.toNat = (k.toNat - i.toNat) + 1 from by omega, List.take_succ_eq_append_getElem h3, List.getElem_drop]
  congr 3; omega
theorem hex_step {s : Str} {i k : Int} (h : 0 ≤ i) (h0 : i ≤ k) (h1 : k < len s) (h2 : hexOk (Eng.sub s i k) = true) (h3 : 0 ≤ hexI (byteAt s k)) :
    hexOk (Eng.sub s i (k + 1)) = true ∧ hexVal (Eng.sub s i (k + 1)) = hexVal (Eng.sub s i k) * 16 + hexI (byteAt s k) := by
  obtain ⟨b, h4, h5⟩ := sub_snoc' h h0 h1
  rw [h4, ← h5, ← hexV_I]
  rw [← h5, ← hexV_I] at h3
  unfold hexOk hexVal at *
  rw [List.all_append, h2, List.foldl_append]
  simp [h3]
theorem hex_bad {s : Str} {i k j : Int} (h : 0 ≤ i) (h0 : i ≤ k) (h1 : k < j) (h2 : j ≤ len s) (h3 : hexI (byteAt s k) < 0) : hexOk (Eng.sub s i j) = false := by
  unfold hexOk
  rw [List.all_eq_false]
  have hk : k.toNat < s.length := by unfold len at h2; omega
  refine ⟨s[k.toNat], ?_, ?_⟩
  · unfold Eng.sub
    rw [List.mem_take_iff_getElem]
    refine ⟨k.toNat - i.toNat, by rw [List.length_drop]; omega, ?_⟩
    rw [List.getElem_drop]; congr 1; omega
  · rw [hexV_I]
    have : ((s[k.toNat]).toNat : Int) = byteAt s k := by simp [byteAt, hk]
    rw [this]; simp; omega
theorem hexVal_bd3 {l : Str} (h : hexOk l = true) (hl : len l ≤ 3) : 0 ≤ hexVal l ∧ hexVal l ≤ 4095 := by
  unfold hexOk at h
  have := hexVal_bd l 0 (by simpa [List.all_eq_true] using h) (by omega)
  have h2 : (16 : Int) ^ l.length ≤ 16 ^ 3 := by
    have : (16 : Nat) ^ l.length ≤ 16 ^ 3 := Nat.pow_le_pow_right (by omega) (by unfold len at hl; omega)
    exact_mod_cast this
  unfold hexVal; omega
theorem numP_at {s : Str} {i : Int} (h0 : 0 ≤ i) (h1 : i + 6 ≤ len s) (h2 : byteAt s i = 92) (h3 : byteAt s (i + 1) = 117) :
    numP (from' s i) = if hexOk (Eng.sub s (i + 2) (i + 6)) then hexVal (Eng.sub s (i + 2) (i + 6)) else -1 := by
  have e : Eng.sub (from' s i) 2 6 = Eng.sub s (i + 2) (i + 6) := by
    unfold Eng.sub from'; rw [List.drop_drop]; congr 1
    · omega
    · congr 1; omega
  unfold numP
  rw [if_neg (by rw [from_len s i h0 (by omega)]; omega), e, if_neg]
  obtain ⟨a, ha, hb⟩ := from_cons s i h0 (by omega)
  obtain ⟨c, hc, hd⟩ := from_cons s (i + 1) (by omega) (by omega)
  rw [ha, hc]
  have ea : a = 92 := by rw [← UInt8.toNat_inj]; show a.toNat = 92; omega
  have ec : c = 117 := by rw [← UInt8.toNat_inj]; show c.toNat = 117; omega
  rw [ea, ec]; simp [Lib.hasPrefix]
theorem numP_not {s : Str} {i : Int} (h0 : 0 ≤ i) (h : len s < i + 6 ∨ ¬ byteAt s i = 92 ∨ ¬ byteAt s (i + 1) = 117) : numP (from' s i) = -1 := by
  unfold numP
  by_cases h1 : len (from' s i) < 6
  · rw [if_pos h1]
  · rw [if_neg h1]
    have h2 := from_len' s i h0
    have h3 : i + 6 ≤ len s := by split at h2 <;> omega
    rw [if_pos]
    obtain ⟨a, ha, hb⟩ := from_cons s i h0 (by omega)
    obtain ⟨c, hc, hd⟩ := from_cons s (i + 1) (by omega) (by omega)
    rw [ha, hc]
    cases hp : Lib.hasPrefix (a :: c :: from' s (i + 1 + 1)) [92, 117] with
    | false => rfl
    | true =>
      exfalso
      simp [Lib.hasPrefix] at hp
      obtain ⟨rfl, rfl⟩ := hp
      rcases h with h | h | h
      · omega
      · exact h (by rw [hb]; rfl)
      · exact h (by rw [hd]; rfl)

/-! ### Strings, written -/
theorem enc_high {r : Int} (h : 128 ≤ r) : ∀ b ∈ toStr (Lib.encodeRuneZ r), 128 ≤ b.toNat := by
  have key : ∀ x ∈ Lib.encodeRuneZ r, 128 ≤ x := by
    intro x hx
    unfold Lib.encodeRuneZ at hx
    (repeat' split at hx) <;> simp at hx <;> omega
  intro b hb
  unfold toStr at hb
  obtain ⟨x, hx, rfl⟩ := List.mem_map.1 hb
  have h1 := key x hx
  have h2 := Lib.encodeRuneZ_byte r x hx
  simp; omega
theorem from_split {α : Type} (s : List α) (i j : Int) (h0 : 0 ≤ i) (h1 : i ≤ j) : from' s i = Eng.sub s i j ++ from' s j := by
  unfold from' Eng.sub
  have : s.drop j.toNat = (s.drop i.toNat).drop (j.toNat - i.toNat) := by rw [List.drop_drop]; congr 1; omega
  rw [this, List.take_append_drop]
theorem qOne_high {r : Int} (h : 128 ≤ r) : qOne r = toStr (Lib.encodeRuneZ r) := by
  unfold qOne
  rw [if_neg (by unfold letIs; simp; omega), if_neg (by omega)]; rfl
end Go.Eng
namespace Go.Eng
open Go.RowKit

/-- A value, as its nodes. -/
abbrev Vl := List Nd
def kindN (k : Int) : Nd := ⟨k, 0, [], [], false, 0⟩
def listV (l : List Vl) : Vl := ⟨5, len l, [], [], false, 0⟩ :: l.flatten
/-- A value, named. -/
def nameV (n : Str) (v : Vl) : Vl := match v with
  | [] => []
  | x :: r => { x with name := n } :: r
def laidV (l : List (Str × Vl)) : Vl := ⟨6, len l, [], [], false, 0⟩ :: (l.map fun p => nameV p.1 p.2).flatten
def getV : List (Str × Vl) → Str → Option Vl
  | [], _ => none
  | p :: l, n => if n == p.1 then some p.2 else getV l n
def putV : List (Str × Vl) → Str → Vl → List (Str × Vl)
  | [], n, v => [(n, v)]
  | p :: l, n, v => if n == p.1 then (n, v) :: l else p :: putV l n v
def sortN (l : List Str) : List Str := l.mergeSort (fun x y => decide (x ≤ y))
/-- The object of a map's pairs. -/
def objV (m : List (Str × Vl)) : Vl := laidV ((sortN (m.map (·.1))).map fun n => (n, (getV m n).getD []))
def hasW (s : Str) (i : Int) (t : Str) : Bool := Lib.hasPrefix (from' s i) t
def textT (s : Str) (i : Int) : PR Str := if (unqP (from' s i)).2.2 ≠ 0 then .er (unqP (from' s i)).2.2 (i + (unqP (from' s i)).2.1) else .ok (unqP (from' s i)).1 (i + (unqP (from' s i)).2.1)
def numT (s : Str) (i : Int) : PR Vl :=
  if (read1 (runN (from' s i))).2.2 ≠ 0 then .er (read1 (runN (from' s i))).2.2 (i + (read1 (runN (from' s i))).2.1) else .ok [(read1 (runN (from' s i))).1] (i + len (runN (from' s i)))
/-- Behind a part: the end, or a comma and more. -/
def moreT {α : Type} (s : Str) (e : Str) (r : PR α) (go : α → Int → PR α) : PR α := match r with
  | .er c p => .er c p
  | .ok x j => if hasW s (blankTo s j) e then .ok x (blankTo s j + 1) else if hasW s (blankTo s j) [44] then go x (blankTo s (blankTo s j + 1)) else .er 1 (blankTo s j)
def mapR {α β : Type} (f : α → β) : PR α → PR β
  | .er c p => .er c p
  | .ok x j => .ok (f x) j
/-- A name, a colon, a value. -/
def pairT (s : Str) (i : Int) (val : Int → PR Vl) (m : List (Str × Vl)) : PR (List (Str × Vl)) := match textT s i with
  | .er c p => .er c p
  | .ok n j => if hasW s (blankTo s j) [58] then mapR (putV m n) (val (blankTo s (blankTo s j + 1))) else .er 1 (blankTo s j)
/-- Parts, up to an end. -/
def partsT {α : Type} (s : Str) (i : Int) (e : Str) (x0 : α) (go : α → Int → PR α) : PR α :=
  if hasW s (blankTo s (i + 1)) e then .ok x0 (blankTo s (i + 1) + 1) else go x0 (blankTo s (i + 1))
mutual
def valT : Nat → Str → Int → Int → PR Vl
  | 0, _, i, _ => .er 1 i
  | f + 1, s, i, d =>
    if hasW s i [110, 117, 108, 108] then .ok [kindN 0] (i + 4)
    else if hasW s i [102, 97, 108, 115, 101] then .ok [kindN 1] (i + 5)
    else if hasW s i [116, 114, 117, 101] then .ok [kindN 2] (i + 4)
    else if i = len s then .er 1 i
    else if byteAt s i = 34 then mapR (fun x => [⟨4, 0, [], x, false, 0⟩]) (textT s i)
    else if byteAt s i = 45 ∨ isFig (byteAt s i) = true then numT s i
    else if byteAt s i ≠ 91 ∧ byteAt s i ≠ 123 then .er 1 i
    else if 128 ≤ d then .er 3 i
    else if byteAt s i = 91 then mapR listV (partsT s i [93] [] (itemsT f s d))
    else mapR objV (partsT s i [125] [] (pairsT f s d))
def itemsT : Nat → Str → Int → List Vl → Int → PR (List Vl)
  | 0, _, _, _, i => .er 1 i
  | f + 1, s, d, l, i => moreT s [93] (mapR (fun v => l ++ [v]) (valT f s i (d + 1))) (itemsT f s d)
def pairsT : Nat → Str → Int → List (Str × Vl) → Int → PR (List (Str × Vl))
  | 0, _, _, _, i => .er 1 i
  | f + 1, s, d, m, i => moreT s [125] (pairT s i (fun k => valT f s k (d + 1)) m) (pairsT f s d)
end
/-- text.Parse. -/
def parseT (s : Str) : Vl × Int × Int := match valT (2 * s.length + 2) s (blankTo s 0) 0 with
  | .er c p => ([], p, c)
  | .ok v j => if blankTo s j < len s then ([], blankTo s j, 1) else (v, 0, 0)
end Go.Eng
namespace Go.Eng
open Go.RowKit

theorem hasPrefix_le2 {s p : Str} (h : Lib.hasPrefix s p = true) : p.length ≤ s.length := by
  unfold Lib.hasPrefix at h
  exact (List.isPrefixOf_iff_prefix.1 h).length_le
theorem hasW_le {s t : Str} {i : Int} (h0 : 0 ≤ i) (h1 : i ≤ len s) (h : hasW s i t = true) : i + len t ≤ len s := by
  have h2 : t.length ≤ (from' s i).length := hasPrefix_le2 h
  have h3 := from_len s i h0 h1
  unfold len at *; omega
theorem blank_len (s : Str) (i : Int) (h0 : 0 ≤ i) (h1 : i ≤ len s) : len s - len (dropB (from' s i)) = blankTo s i := by
  have := blankTo_bd s i h0 h1
  rw [dropB_from s i h0, from_len s _ (by omega) (by omega)]; omega
theorem textT_er {s : Str} {i : Int} (h : (unqP (from' s i)).2.2 ≠ 0) : textT s i = .er (unqP (from' s i)).2.2 (i + (unqP (from' s i)).2.1) := if_pos h
theorem textT_ok {s : Str} {i : Int} (h : (unqP (from' s i)).2.2 = 0) : textT s i = .ok (unqP (from' s i)).1 (i + (unqP (from' s i)).2.1) := if_neg (by omega)
theorem numT_er {s : Str} {i : Int} (h : (read1 (runN (from' s i))).2.2 ≠ 0) : numT s i = .er (read1 (runN (from' s i))).2.2 (i + (read1 (runN (from' s i))).2.1) := if_pos h
theorem numT_ok {s : Str} {i : Int} (h : (read1 (runN (from' s i))).2.2 = 0) : numT s i = .ok [(read1 (runN (from' s i))).1] (i + len (runN (from' s i))) := if_neg (by omega)
theorem moreT_end {α : Type} {s e : Str} {x : α} {j : Int} {go : α → Int → PR α} (h : hasW s (blankTo s j) e = true) : moreT s e (.ok x j) go = .ok x (blankTo s j + 1) := if_pos h
theorem moreT_more {α : Type} {s e : Str} {x : α} {j : Int} {go : α → Int → PR α} (h : hasW s (blankTo s j) e = false) (h2 : hasW s (blankTo s j) [44] = true) : moreT s e (.ok x j) go = go x (blankTo s (blankTo s j + 1)) := by
  unfold moreT; dsimp only; rw [if_neg (by rw [h]; decide), if_pos h2]
theorem moreT_bad {α : Type} {s e : Str} {x : α} {j : Int} {go : α → Int → PR α} (h : hasW s (blankTo s j) e = false) (h2 : hasW s (blankTo s j) [44] = false) : moreT s e (.ok x j) go = .er 1 (blankTo s j) := by
  unfold moreT; dsimp only; rw [if_neg (by rw [h]; decide), if_neg (by rw [h2]; decide)]
theorem partsT_end {α : Type} {s e : Str} {i : Int} {x : α} {go : α → Int → PR α} (h : hasW s (blankTo s (i + 1)) e = true) : partsT s i e x go = .ok x (blankTo s (i + 1) + 1) := if_pos h
theorem partsT_go {α : Type} {s e : Str} {i : Int} {x : α} {go : α → Int → PR α} (h : hasW s (blankTo s (i + 1)) e = false) : partsT s i e x go = go x (blankTo s (i + 1)) := if_neg (by rw [h]; decide)
theorem pairT_txt1 {s : Str} {i : Int} {val : Int → PR Vl} {m : List (Str × Vl)} {ec p : Int} (h : textT s i = .er ec p) : pairT s i val m = .er ec p := by unfold pairT; rw [h]
theorem pairT_bad {s : Str} {i : Int} {val : Int → PR Vl} {m : List (Str × Vl)} {n : Str} {j : Int} (h : textT s i = .ok n j) (h2 : hasW s (blankTo s j) [58] = false) : pairT s i val m = .er 1 (blankTo s j) := by
  unfold pairT; rw [h]; dsimp only; rw [if_neg (by rw [h2]; decide)]
theorem pairT_val {s : Str} {i : Int} {val : Int → PR Vl} {m : List (Str × Vl)} {n : Str} {j : Int} (h : textT s i = .ok n j) (h2 : hasW s (blankTo s j) [58] = true) : pairT s i val m = mapR (putV m n) (val (blankTo s (blankTo s j + 1))) := by
  unfold pairT; rw [h]; dsimp only; rw [if_pos h2]
def wordsT : List Str := [[110, 117, 108, 108], [102, 97, 108, 115, 101], [116, 114, 117, 101]]
def NoW (s : Str) (i k : Int) : Prop := ∀ m, 0 ≤ m → m < k → hasW s i (at' wordsT m) = false
theorem NoW.step {s : Str} {i k : Int} (h : NoW s i k) (h2 : hasW s i (at' wordsT k) = false) : NoW s i (k + 1) := fun m h0 h1 => by
  by_cases hm : m = k
  · subst hm; exact h2
  · exact h m h0 (by omega)
theorem valT_word {s : Str} {i k d : Int} {f : Nat} (h0 : 0 ≤ k) (h3 : k < 3) (h : NoW s i k) (h2 : hasW s i (at' wordsT k) = true) : valT (f + 1) s i d = .ok [kindN k] (i + len (at' wordsT k)) := by
  rw [valT]
  rcases (by omega : k = 0 ∨ k = 1 ∨ k = 2) with rfl | rfl | rfl
  · rw [if_pos (show hasW s i [110, 117, 108, 108] = true from h2)]; rfl
  · rw [if_neg (by rw [show hasW s i [110, 117, 108, 108] = false from h 0 (by omega) (by omega)]; decide), if_pos (show hasW s i [102, 97, 108, 115, 101] = true from h2)]; rfl
  · rw [if_neg (by rw [show hasW s i [110, 117, 108, 108] = false from h 0 (by omega) (by omega)]; decide), if_neg (by rw [show hasW s i [102, 97, 108, 115, 101] = false from h 1 (by omega) (by omega)]; decide), if_pos (show hasW s i [116, 114, 117, 101] = true from h2)]; rfl
theorem valT_go {s : Str} {i : Int} (f : Nat) (d : Int) (h : NoW s i 3) : valT (f + 1) s i d =
    if i = len s then .er 1 i
    else if byteAt s i = 34 then mapR (fun x => [⟨4, 0, [], x, false, 0⟩]) (textT s i)
    else if byteAt s i = 45 ∨ isFig (byteAt s i) = true then numT s i
    else if byteAt s i ≠ 91 ∧ byteAt s i ≠ 123 then .er 1 i
    else if 128 ≤ d then .er 3 i
    else if byteAt s i = 91 then mapR listV (partsT s i [93] [] (itemsT f s d))
    else mapR objV (partsT s i [125] [] (pairsT f s d)) := by
  rw [valT, if_neg (by rw [show hasW s i [110, 117, 108, 108] = false from h 0 (by omega) (by omega)]; decide), if_neg (by rw [show hasW s i [102, 97, 108, 115, 101] = false from h 1 (by omega) (by omega)]; decide), if_neg (by rw [show hasW s i [116, 114, 117, 101] = false from h 2 (by omega) (by omega)]; decide)]
theorem words_len (k : Int) (h0 : 0 ≤ k) (h3 : k < 3) : 4 ≤ len (at' wordsT k) ∧ len (at' wordsT k) ≤ 5 := by
  rcases (by omega : k = 0 ∨ k = 1 ∨ k = 2) with rfl | rfl | rfl <;> decide
theorem index_fig (x : Int) (h : 0 ≤ x ∧ x ≤ 255) : (0 ≤ Lib.indexByte [48, 49, 50, 51, 52, 53, 54, 55, 56, 57] x.toNat.toUInt8) ↔ isFig x = true := by
  have key : ∀ n : Fin 256, (0 ≤ Lib.indexByte [48, 49, 50, 51, 52, 53, 54, 55, 56, 57] (n.val).toUInt8) ↔ isFig (n.val : Int) = true := by decide +kernel
  have := key ⟨x.toNat, by omega⟩
  dsimp only at this
  rw [show ((x.toNat : Nat) : Int) = x from by omega] at this
  exact this
/-- A number's run, where a figure or a minus stands, is not empty. -/
theorem runN_pos {s : Str} {i : Int} (h0 : 0 ≤ i) (h1 : i < len s) (h : byteAt s i = 45 ∨ isFig (byteAt s i) = true) : 1 ≤ len (Eng.runN (from' s i)) := by
  obtain ⟨b, h2, h3⟩ := from_cons s i h0 h1
  rw [runN_take, h2, List.takeWhile_cons, if_pos]
  · rw [len_cons]; have := len_nonneg ((from' s (i + 1)).takeWhile isNumB); omega
  · have key : ∀ n : Fin 256, ((n.val : Int) = 45 ∨ isFig (n.val : Int) = true) → isNumB (n.val).toUInt8 = true := by decide +kernel
    have hb := key ⟨b.toNat, b.toNat_lt⟩ (by rw [← h3]; exact h)
    simpa using hb
theorem numT_j {s : Str} {i : Int} {x : Vl} {j : Int} (h : numT s i = .ok x j) : len x = 1 ∧ j = i + len (Eng.runN (from' s i)) := by
  unfold numT at h
  split at h
  · cases h
  · cases h; exact ⟨rfl, rfl⟩
/-- The object of names and parts, up to the k-th. -/
def laidTo (ns : List Str) (xs : List Vl) (k : Int) : Vl := ⟨6, len xs, [], [], false, 0⟩ :: (((ns.zip xs).take k.toNat).map fun p => nameV p.1 p.2).flatten
theorem nameV_len (n : Str) (x : Vl) : len (nameV n x) = len x := by cases x <;> rfl
theorem zip_at {ns : List Str} {xs : List Vl} {k : Int} (h0 : 0 ≤ k) (h1 : k < len xs) (h2 : len ns = len xs) : (ns.zip xs)[k.toNat]? = some (at' ns k, at' xs k) := by
  unfold len at h1 h2
  have e1 : k.toNat < ns.length := by omega
  have e2 : k.toNat < xs.length := by omega
  rw [List.getElem?_zip_eq_some]
  exact ⟨by simp [at', e1], by simp [at', e2]⟩
theorem laidTo_step {ns : List Str} {xs : List Vl} {k : Int} (h0 : 0 ≤ k) (h1 : k < len xs) (h2 : len ns = len xs) : laidTo ns xs (k + 1) = laidTo ns xs k ++ nameV (at' ns k) (at' xs k) := by
  unfold laidTo
  rw [show (k + 1).toNat = k.toNat + 1 from by omega, List.take_add_one, zip_at h0 h1 h2]
  simp
theorem set_name (l x : Vl) (n : Str) (hx : x ≠ []) : (l ++ x).set (len l : Int).toNat { at' (l ++ x) (len l) with name := n } = l ++ nameV n x := by
  cases x with
  | nil => exact absurd rfl hx
  | cons y r =>
    have e : at' (l ++ y :: r) (len l) = y := by unfold at' len; simp
    rw [e]; unfold len; simp [nameV]
theorem laidTo_le : ∀ (ns : List Str) (xs : List Vl) (k : Int), len (laidTo ns xs k) ≤ 1 + len xs.flatten := by
  intro ns xs k
  unfold laidTo
  have key : ∀ (l : List (Str × Vl)), len (l.map fun p => nameV p.1 p.2).flatten = len (l.map (·.2)).flatten := by
    intro l
    induction l with
    | nil => rfl
    | cons p l ih => simp only [List.map_cons, List.flatten_cons, len_app, nameV_len, ih]
  have pre : ∀ (ns : List Str) (xs : List Vl) (j : Nat), len (((ns.zip xs).take j).map (·.2)).flatten ≤ len xs.flatten := by
    intro ns
    induction ns with
    | nil => intro xs j; simp; exact len_nonneg _
    | cons n ns ih =>
      intro xs j
      cases xs with
      | nil => simp
      | cons x xs =>
        cases j with
        | zero => simp only [List.take_zero, List.map_nil, List.flatten_nil]; exact len_nonneg _
        | succ j =>
          have := ih xs j
          simp only [List.zip_cons_cons, List.take_succ_cons, List.map_cons, List.flatten_cons, len_app]; omega
  rw [len_cons, key]
  have := pre ns xs k.toNat
  omega
/-- The first k lists, one behind the other. -/
def flatTo {α : Type} (xs : List (List α)) (k : Int) : List α := (xs.take k.toNat).flatten
theorem flatTo_step {α : Type} {xs : List (List α)} {k : Int} (h0 : 0 ≤ k) (h1 : k < len xs) : flatTo xs (k + 1) = flatTo xs k ++ at' xs k := by
  have hk : k.toNat < xs.length := by unfold len at h1; omega
  unfold flatTo at'
  rw [show (k + 1).toNat = k.toNat + 1 from by omega, List.take_add_one, List.flatten_append]
  simp [hk]
theorem flatTo_end {α : Type} {xs : List (List α)} {k : Int} (h : len xs ≤ k) : flatTo xs k = xs.flatten := by
  unfold flatTo; rw [List.take_of_length_le (by unfold len at h; omega)]
theorem flatTo_le {α : Type} (xs : List (List α)) (k : Int) : len (flatTo xs k) ≤ len xs.flatten := by
  have h : (xs.take k.toNat).flatten ++ (xs.drop k.toNat).flatten = xs.flatten := by rw [← List.flatten_append, List.take_append_drop]
  unfold flatTo
  rw [← h, len_app]; have := len_nonneg (xs.drop k.toNat).flatten; omega
theorem runN_le (s : Str) : 0 ≤ len (runN s) ∧ len (runN s) ≤ len s := by
  have := dropN_len s
  unfold runN; rw [sub_len (Int.le_refl 0) (by omega) (by omega)]; omega
end Go.Eng
namespace Go.Eng
open Go.RowKit

structure SlH where
  a : Option Addr
  n : Nat
  c : Nat
deriving Inhabited
def valI (h : SlH) : List Value := [.slice h.a h.n h.c]
theorem valI_len (h : SlH) : (valI h).length = 1 := rfl
theorem valI_one (h : SlH) : ∀ u ∈ valI h, u.oneCell' = true := by intro u hu; simp [valI] at hu; subst hu; rfl
abbrev SlH.v (h : SlH) : Value := .slice h.a h.n h.c
/-- Each header's slice holds the cells of the list beside. -/
def RowsV {α : Type} (M : Mem) (sz : Nat) (f : α → List Value) : List SlH → List (List α) → Prop
  | [], [] => True
  | h :: hs, x :: xs => Sl M sz x.length h.v (x.flatMap f) ∧ RowsV M sz f hs xs
  | _, _ => False
section
variable {α : Type} {M M' : Mem} {sz : Nat} {f : α → List Value}
theorem RowsV.mono (hm : M.le M') : ∀ {hs : List SlH} {xs : List (List α)}, RowsV M sz f hs xs → RowsV M' sz f hs xs
  | [], [], _ => trivial
  | _ :: _, _ :: _, h => ⟨h.1.mono hm, RowsV.mono hm h.2⟩
  | [], _ :: _, h => h.elim
  | _ :: _, [], h => h.elim
theorem RowsV.snoc {h : SlH} {x : List α} (hx : Sl M sz x.length h.v (x.flatMap f)) : ∀ {hs : List SlH} {xs : List (List α)}, RowsV M sz f hs xs → RowsV M sz f (hs ++ [h]) (xs ++ [x])
  | [], [], _ => ⟨hx, trivial⟩
  | _ :: _, _ :: _, h => ⟨h.1, RowsV.snoc hx h.2⟩
  | [], _ :: _, h => h.elim
  | _ :: _, [], h => h.elim
theorem RowsV.len : ∀ {hs : List SlH} {xs : List (List α)}, RowsV M sz f hs xs → hs.length = xs.length
  | [], [], _ => rfl
  | _ :: _, _ :: _, h => by simp [RowsV.len h.2]
  | [], _ :: _, h => h.elim
  | _ :: _, [], h => h.elim
theorem RowsV.get : ∀ {hs : List SlH} {xs : List (List α)} (k : Nat), RowsV M sz f hs xs → k < hs.length → Sl M sz (xs.getD k []).length (hs.getD k default).v ((xs.getD k []).flatMap f)
  | [], _, _, _, h => absurd h (Nat.not_lt_zero _)
  | _ :: _, [], _, h, _ => h.elim
  | _ :: _, _ :: _, 0, h, _ => h.1
  | _ :: _, _ :: _, k + 1, h, hk => by simpa using RowsV.get k h.2 (by simpa using hk)
end
theorem RowsV.at {α : Type} {M : Mem} {sz : Nat} {f : α → List Value} {hs : List SlH} {xs : List (List α)} {k : Int} (h : RowsV M sz f hs xs) (h0 : 0 ≤ k) (h1 : k < Eng.len hs) : Sl M sz (at' xs k).length (at' hs k).v ((at' xs k).flatMap f) :=
  by
  have := RowsV.get k.toNat h (by unfold Eng.len at h1; omega)
  exact this
/-- A slice's value is a header. -/
theorem Sl.shape {M : Mem} {sz n : Nat} {v : Value} {cs : List Value} (h : Sl M sz n v cs) : ∃ a c, v = .slice a n c := by
  obtain ⟨p, cap, hv, _⟩ := h.val; exact ⟨p, cap, hv⟩
end Go.Eng
set_option maxRecDepth 100000
namespace Go.Proofs.YtjfaikgooldcbaaGreatDoor
open Go.Eng

end Go.Proofs.YtjfaikgooldcbaaGreatDoor
set_option maxRecDepth 100000
namespace Go.Proofs.YtjfaikgooldcbaaGreatDoor
open Go.Eng

end Go.Proofs.YtjfaikgooldcbaaGreatDoor
set_option maxRecDepth 100000
namespace Go.Proofs.YtjfaikgooldcbaaGreatDoor
open Go.Eng

end Go.Proofs.YtjfaikgooldcbaaGreatDoor
set_option maxRecDepth 100000
namespace Go.Proofs.YtjfaikgooldcbaaGreatDoor
open Go.Eng

/-- What is read, as it is handed back. -/
def gotR (r : PR Vl) : Vl × Int × Int := match r with
  | .ok x j => (x, j, 0)
  | .er e p => ([], p, e)
abbrev GotC (w : World) (M : Mem) (r : PR Vl) : Ending → World → Prop := MRet w M (fun h : SlH => .agg #[h.v, i64 (gotR r).2.1, i64 (gotR r).2.2]) (fun _ => True) fun h => [(0, kn h.v 6 (gotR r).1 Nd.cells)]
theorem GotC.er {w w' : World} {M : Mem} {r : PR Vl} {e p : Int} (hM : Sat w M) (h : r = .er e p) (hw : Ext w w') : GotC w M r (.returned (.agg #[.slice none 0 0, i64 p, i64 e])) w' := by
  subst h; exact ⟨⟨none, 0, 0⟩, M, rfl, trivial, Grow.of_ext hM hw, fcons ⟨Sl.nil M 6, Nd.cells_len, trivial⟩ fnil⟩
theorem GotC.ok {w w' : World} {M M' : Mem} {r : PR Vl} {v : Value} {x : Vl} {j : Int} (h : r = .ok x j) (hg : Grow w M w' M') (hv : Sl M' 6 x.length v (x.flatMap Nd.cells)) : GotC w M r (.returned (.agg #[v, i64 j, i64 0])) w' := by
  subst h; obtain ⟨a, c, rfl⟩ := hv.shape; exact ⟨⟨a, _, c⟩, M', rfl, trivial, hg, fc 0 hv Nd.cells_len fnil⟩
end Go.Proofs.YtjfaikgooldcbaaGreatDoor
namespace Go.Eng
open Go.RowKit

/-- n times two blanks -/
def twoN : Nat → Str
  | 0 => []
  | n + 1 => 32 :: 32 :: twoN n
theorem twoN_len (n : Nat) : len (twoN n) = 2 * n := by
  induction n with
  | zero => rfl
  | succ n ih => rw [twoN, len_cons, len_cons, ih]; omega
inductive Tr where
  | mk (n : Nd) (ps : List Tr)
mutual
def Tr.flat : Tr → List Nd
  | .mk n ps => n :: flatL ps
def flatL : List Tr → List Nd
  | [] => []
  | t :: ts => t.flat ++ flatL ts
end
def Tr.node : Tr → Nd | .mk n _ => n
def Tr.parts : Tr → List Tr | .mk _ ps => ps
mutual
def Tr.ok : Tr → Prop
  | .mk n ps => (n.kind < 5 → ps = []) ∧ (5 ≤ n.kind → n.many = len ps) ∧ (len n.s ≤ 1099511627776 ∧ len n.name ≤ 1099511627776 ∧ -1000000 ≤ n.e ∧ n.e ≤ 1000000) ∧ okL ps
def okL : List Tr → Prop
  | [] => True
  | t :: ts => t.ok ∧ okL ts
end
mutual
def Tr.size : Tr → Nat
  | .mk _ ps => 1 + sizeL ps
def sizeL : List Tr → Nat
  | [] => 0
  | t :: ts => t.size + sizeL ts
end
mutual
theorem Tr.flat_len : (t : Tr) → t.flat.length = t.size
  | .mk n ps => by rw [Tr.flat, Tr.size, List.length_cons, flatL_len ps]; omega
theorem flatL_len : (l : List Tr) → (flatL l).length = sizeL l
  | [] => rfl
  | t :: ts => by rw [flatL, sizeL, List.length_append, Tr.flat_len t, flatL_len ts]
end
theorem sizeL_app (a b : List Tr) : sizeL (a ++ b) = sizeL a + sizeL b := by
  induction a with
  | nil => simp [sizeL]
  | cons x a ih => rw [List.cons_append, sizeL, sizeL, ih]; omega
theorem Tr.size_pos (t : Tr) : 1 ≤ t.size := by cases t; rw [Tr.size]; omega
theorem len_le_sizeL (l : List Tr) : len l ≤ sizeL l := by
  induction l with
  | nil => exact Int.le_refl _
  | cons t l ih => rw [len_cons, sizeL]; have := t.size_pos; omega
theorem Tr.ok_node {t : Tr} (h : t.ok) : len t.node.s ≤ 1099511627776 ∧ len t.node.name ≤ 1099511627776 := by
  cases t; rw [Tr.ok] at h; exact ⟨h.2.2.1.1, h.2.2.1.2.1⟩
def scalarP (n : Nd) : Str :=
  if n.kind = 0 then [110, 117, 108, 108] else if n.kind = 1 then [102, 97, 108, 115, 101] else if n.kind = 2 then [116, 114, 117, 101] else if n.kind = 3 then print1 n else quoteP n.s
def lineP (ln : Bool) (d : Int) : Str := if ln then 10 :: twoN d.toNat else []
def nameP (ln : Bool) (n : Nd) : Str := quoteP n.name ++ 58 :: (if ln then [32] else [])
theorem nameP_len (ln : Bool) (n : Nd) : len (quoteP n.name) + 1 ≤ len (nameP ln n) ∧ (ln = true → len (quoteP n.name) + 2 ≤ len (nameP ln n)) := by
  unfold nameP; rw [len_app, len_cons]
  cases ln
  · exact ⟨by simp only [Bool.false_eq_true, if_false, len_nil]; omega, fun h => by cases h⟩
  · exact ⟨by simp only [if_true, len_cons, len_nil]; omega, fun _ => by simp only [if_true, len_cons, len_nil]; omega⟩
def marksP (k : Int) : UInt8 × UInt8 := if k = 6 then (123, 125) else (91, 93)
mutual
def prt (ln : Bool) : Int → Tr → Str
  | d, .mk n ps => if n.kind < 5 then scalarP n else (marksP n.kind).1 :: prtL ln d (n.kind == 6) true ps ++ (if ps.isEmpty then [] else lineP ln d) ++ [(marksP n.kind).2]
def prtL (ln : Bool) : Int → Bool → Bool → List Tr → Str
  | _, _, _, [] => []
  | d, ob, f, t :: ts => (if f then [] else [44]) ++ (lineP ln (d + 1) ++ ((if ob then nameP ln t.node else []) ++ (prt ln (d + 1) t ++ prtL ln d ob false ts)))
end
/-- A tree stands at a place. -/
def SegAt (v : List Nd) (i : Int) (t : Tr) : Prop := 0 ≤ i ∧ ∃ pre post, v = pre ++ (t.flat ++ post) ∧ len pre = i
def SegL (v : List Nd) (i : Int) (l : List Tr) : Prop := 0 ≤ i ∧ ∃ pre post, v = pre ++ (flatL l ++ post) ∧ len pre = i
theorem SegAt.head {v : List Nd} {i : Int} {n : Nd} {ps : List Tr} (h : SegAt v i (.mk n ps)) : 0 ≤ i ∧ i < len v ∧ at' v i = n := by
  obtain ⟨h0, pre, post, rfl, rfl⟩ := h
  refine ⟨h0, ?_, ?_⟩
  · rw [Tr.flat]; unfold len; simp only [List.length_append, List.length_cons]; omega
  · rw [Tr.flat]; unfold at'; unfold len; simp
theorem SegAt.kids {v : List Nd} {i : Int} {n : Nd} {ps : List Tr} (h : SegAt v i (.mk n ps)) : SegL v (i + 1) ps := by
  obtain ⟨h0, pre, post, rfl, rfl⟩ := h
  exact ⟨by omega, pre ++ [n], post, by rw [Tr.flat]; simp, by unfold len; simp⟩
theorem SegL.first {v : List Nd} {i : Int} {t : Tr} {ts : List Tr} (h : SegL v i (t :: ts)) : SegAt v i t := by
  obtain ⟨h0, pre, post, rfl, rfl⟩ := h
  exact ⟨h0, pre, flatL ts ++ post, by rw [flatL]; simp, rfl⟩
theorem SegL.rest {v : List Nd} {i : Int} {t : Tr} {ts : List Tr} (h : SegL v i (t :: ts)) : SegL v (i + t.size) ts := by
  obtain ⟨h0, pre, post, rfl, rfl⟩ := h
  exact ⟨by omega, pre ++ t.flat, post, by rw [flatL]; simp, by unfold len; rw [List.length_append, Tr.flat_len]; omega⟩
theorem SegAt.top (t : Tr) : SegAt t.flat 0 t := ⟨Int.le_refl _, [], [], by simp, rfl⟩
theorem SegAt.node {v : List Nd} {i : Int} {t : Tr} (h : SegAt v i t) : 0 ≤ i ∧ i < len v ∧ at' v i = t.node := by cases t; exact h.head
theorem SegAt.size_le {v : List Nd} {i : Int} {t : Tr} (h : SegAt v i t) : i + t.size ≤ len v := by
  obtain ⟨h0, pre, post, rfl, rfl⟩ := h
  unfold len; simp only [List.length_append, Tr.flat_len]; omega
end Go.Eng
namespace Go.Eng
open Go.RowKit

/-- A node, whatever its name. -/
def bareN (n : Nd) : Nd := { n with name := [] }
def plainB (n : Nd) : Bool :=
  if n.kind = 0 ∨ n.kind = 1 ∨ n.kind = 2 then decide (bareN n = ⟨n.kind, 0, [], [], false, 0⟩)
  else if n.kind = 3 then right1 (bareN n)
  else if n.kind = 4 then utf n.s && decide (bareN n = ⟨n.kind, 0, [], n.s, false, 0⟩)
  else if n.kind = 5 ∨ n.kind = 6 then decide (0 ≤ n.many) && decide (bareN n = ⟨n.kind, n.many, [], [], false, 0⟩)
  else false
/-! ### trees -/
mutual
def Tr.wf : Tr → Prop
  | .mk n ps => n.many = len ps ∧ wfL ps
def wfL : List Tr → Prop
  | [] => True
  | t :: ts => t.wf ∧ wfL ts
end
theorem flatL_app (a b : List Tr) : flatL (a ++ b) = flatL a ++ flatL b := by
  induction a with
  | nil => simp [flatL]
  | cons x a ih => rw [List.cons_append, flatL, flatL, ih, List.append_assoc]
theorem SegL.le {v : List Nd} {i : Int} {l : List Tr} (h : SegL v i l) : i + sizeL l ≤ len v := by
  obtain ⟨h0, pre, post, rfl, rfl⟩ := h
  unfold len; simp only [List.length_append, flatL_len]; omega
theorem SegL.kids {v : List Nd} {i : Int} {n : Nd} {ps ts : List Tr} (h : SegL v i (.mk n ps :: ts)) : SegL v (i + 1) (ps ++ ts) := by
  obtain ⟨h0, pre, post, rfl, rfl⟩ := h
  exact ⟨by omega, pre ++ [n], post, by rw [flatL, Tr.flat, flatL_app]; simp, by unfold len; simp⟩
theorem SegL.one {v : List Nd} {i : Int} {t : Tr} (h : SegAt v i t) : SegL v i [t] := by
  obtain ⟨h0, pre, post, rfl, rfl⟩ := h
  exact ⟨h0, pre, post, by simp [flatL], rfl⟩
theorem SegL.skip {v : List Nd} {i : Int} {a b : List Tr} (h : SegL v i (a ++ b)) : SegL v (i + sizeL a) b := by
  obtain ⟨h0, pre, post, rfl, rfl⟩ := h
  exact ⟨by omega, pre ++ flatL a, post, by rw [flatL_app]; simp, by unfold len; rw [List.length_append, flatL_len]; omega⟩
theorem len_zero {α : Type} {v : List α} : len v = 0 ↔ v = [] := by
  cases v with
  | nil => simp [len]
  | cons a v => rw [len_cons]; have := len_nonneg v; constructor; · intro h; omega
                · intro h; cases h
/-! ### parts, names, depth -/
def Tr.named (x : Str) : Tr → Tr | .mk n ps => .mk { n with name := x } ps
theorem Tr.named_flat (x : Str) (t : Tr) : (t.named x).flat = nameV x t.flat := by cases t; rfl
theorem Tr.named_wf {x : Str} {t : Tr} (h : t.wf) : (t.named x).wf := by cases t; exact h
def kidsV (t : Tr) : List Vl := t.parts.map fun u => (u.named []).flat
def kidNs (t : Tr) : List Str := if t.node.kind = 6 then t.parts.map (·.node.name) else []
mutual
def depthT : Tr → Int
  | .mk n ps => if n.kind ≠ 5 ∧ n.kind ≠ 6 then 0 else depthL ps + 1
def depthL : List Tr → Int
  | [] => 0
  | t :: ts => max (depthT t) (depthL ts)
end
theorem depthT_named (x : Str) (t : Tr) : depthT (t.named x) = depthT t := by cases t; rfl
end Go.Eng
set_option maxRecDepth 100000
namespace Go.Proofs.YtjfaikgooldcbaaGreatDoor
open Go.Eng

/-- A row of values. -/
abbrev kr (u : Value) (rs : List SlH) (xs : List Vl) : Kn := ⟨u, 1, rs, valI, fun M => RowsV M 6 Nd.cells rs xs, fun _ _ hm h => RowsV.mono hm h⟩
theorem kr_at {M : Mem} {u : Value} {rs : List SlH} {xs : List Vl} (h : (kr u rs xs).ok M) {k : Int} (h0 : 0 ≤ k) (h1 : k < len rs) : (kn (at' rs k).v 6 (at' xs k) Nd.cells).ok M := ⟨RowsV.at h.more h0 h1, Nd.cells_len, trivial⟩
theorem kr_len {M : Mem} {u : Value} {rs : List SlH} {xs : List Vl} (h : (kr u rs xs).ok M) : len rs = len xs := by have := RowsV.len (f := Nd.cells) h.more; unfold len; omega
theorem list2_c (u : Value) (rs : List SlH) (xs : List Vl) (w : World) (M : Mem) (hM : Sat w M) (hu : (kr u rs xs).ok M) (hb : len xs.flatten ≤ 1048576) (hr : len rs ≤ 1048576) :
  Calls Tryz.prog 24 [u].toArray w (MRet w M (fun v : Value => v) (fun _ => True) fun v => [(0, kn v 6 (listV xs) Nd.cells)]) := by
 have hl := kr_len hu
 have hln := len_nonneg rs
 refine xenter ttok Tryz.func24 rfl Tryz.ntmps24 [(0, kr u rs xs)] [] [.sl 0 u] rfl (St.start hM) (fcons hu fnil) (fun B hB => ?_) rfl
 refine xlit 1 [⟨5, len rs, [], [], false, 0⟩] Nd.cells 6 38 Nd.cells_len rfl (eok rfl) (by omega) rfl (eok rfl) (fun w => by kernel_rfl) rfl fun v => ?_
 refine xloop (σ := Int × Value) (fun (k, v) => ⟨[(0, kr u rs xs), (1, kn v 6 (⟨5, len rs, [], [], false, 0⟩ :: flatTo xs k) Nd.cells)], [(1, .ho (.own 38 6 v (⟨5, len rs, [], [], false, 0⟩ :: flatTo xs k).length ((⟨5, len rs, [], [], false, 0⟩ :: flatTo xs k).flatMap Nd.cells)))], [Z 0 (.sl 0 u), Z 3 (.sl 1 v), Z 4 (I k)]⟩) (fun (k, v) => 0 ≤ k ∧ k ≤ len rs) (fun (k, v) => (len rs - k).toNat) (0, v) rfl (eok rfl) (by omega) rfl ⟨by omega, by omega⟩ ?_
 rintro ⟨k, v⟩ ⟨h0, h1⟩
 refine xbr rfl (eok rfl) (by omega) (fun hb1 => ?_) (fun hb1 => ?_) <;> simp only [zb] at hb1
 ·refine run_ok rfl (eok rfl) (by omega) ?_
  refine xknow 2 (kn (at' rs k).v 6 (at' xs k) Nd.cells) (fun w M hX => kr_at (hX.f.get (k := 0) rfl) h0 hb1) (xtag 19 2 rfl ?_)
  have hft := flatTo_step h0 (show k < len xs by omega)
  have hfl := flatTo_le xs (k + 1)
  rw [hft, len_app] at hfl
  refine xapp 64 rfl (eok rfl) (by omega) rfl (eok rfl) rfl Tryz.underlying24 Tryz.type38 rfl rfl Nd.cells_one (by rw [len_cons]; omega) fun v' => ?_
  refine xround (k + 1, v') rfl (eok rfl) (by omega) (by dsimp only; rw [hft]; rfl) ⟨by omega, by omega⟩ (by show Int.toNat _ < Int.toNat _; omega)
 ·refine xret hB rfl rfl (eok rfl) (by omega) rfl (eok rfl) fun w M hX => ⟨v, M, rfl, trivial, hX.st.done, ?_⟩
  have := hX.sl 1 rfl
  rw [flatTo_end (by omega), hl] at this
  exact fc 0 this Nd.cells_len fnil
end Go.Proofs.YtjfaikgooldcbaaGreatDoor
set_option maxRecDepth 100000
namespace Go.Proofs.YtjfaikgooldcbaaGreatDoor
open Go.Eng

end Go.Proofs.YtjfaikgooldcbaaGreatDoor
set_option maxRecDepth 100000
namespace Go.Proofs.YtjfaikgooldcbaaGreatDoor
open Go.Eng

end Go.Proofs.YtjfaikgooldcbaaGreatDoor
set_option maxRecDepth 100000
namespace Go.Proofs.YtjfaikgooldcbaaGreatDoor
open Go.Eng

/-- A row of texts that is handed over. -/
abbrev ownS (v : Value) (l : List Str) : HO := .own 9 1 v l.length (l.flatMap strC)
/-- A row of values that is handed over. -/
abbrev ownV (v : Value) (rs : List SlH) : HO := .own 24 1 v rs.length (rs.flatMap valI)
end Go.Proofs.YtjfaikgooldcbaaGreatDoor
