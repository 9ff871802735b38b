/-
  PLAIN LEAN: what the functions of the layers 1, 2, 3, 6, 7, 8 reckon, as functions on lists of bytes and records. No program in it.
-/
import Derived.Test.YthdialbnlnjgpaaGreatDoorEngF
set_option linter.unusedVariables false
set_option linter.unusedSimpArgs false
namespace Go.Eng

structure Nd where
  kind : Int
  many : Int
  name : Str
  s : Str
  neg : Bool
  e : Int
  deriving DecidableEq, Inhabited
structure Tk where
  kind : Int
  s : Str
  c : Nd
  pos : Int
  deriving DecidableEq, Inhabited
def Nd.cells (n : Nd) : List Value := [i64 n.kind, i64 n.many, str n.name, str n.s, .bool n.neg, i64 n.e]
def Tk.cells (t : Tk) : List Value := [i64 t.kind, str t.s, i64 t.c.kind, i64 t.c.many, str t.c.name, str t.c.s, .bool t.c.neg, i64 t.c.e, i64 t.pos]
abbrev ndV (n : Nd) : Value := .agg #[i64 n.kind, i64 n.many, str n.name, str n.s, .bool n.neg, i64 n.e]
abbrev tkV (t : Tk) : Value := .agg #[i64 t.kind, str t.s, i64 t.c.kind, i64 t.c.many, str t.c.name, str t.c.s, .bool t.c.neg, i64 t.c.e, i64 t.pos]
abbrev ndC (n : Nd) (r : List Value) : List Value := i64 n.kind :: i64 n.many :: str n.name :: str n.s :: .bool n.neg :: i64 n.e :: r
abbrev tkC (t : Tk) (r : List Value) : List Value := i64 t.kind :: str t.s :: i64 t.c.kind :: i64 t.c.many :: str t.c.name :: str t.c.s :: .bool t.c.neg :: i64 t.c.e :: i64 t.pos :: r
theorem Nd.cells_len (n : Nd) : (Nd.cells n).length = 6 := rfl
theorem Tk.cells_len (t : Tk) : (Tk.cells t).length = 9 := rfl
theorem Nd.cells_one (n : Nd) : ∀ u ∈ Nd.cells n, u.oneCell' = true := by intro u hu; simp [Nd.cells] at hu; rcases hu with rfl | rfl | rfl | rfl | rfl | rfl <;> rfl
theorem Tk.cells_one (t : Tk) : ∀ u ∈ Tk.cells t, u.oneCell' = true := by intro u hu; simp [Tk.cells] at hu; rcases hu with rfl | rfl | rfl | rfl | rfl | rfl | rfl | rfl | rfl <;> rfl
def noNd : Nd := ⟨0, 0, [], [], false, 0⟩
def strC (s : Str) : List Value := [str s]
theorem strC_len (s : Str) : (strC s).length = 1 := rfl
theorem strC_one (s : Str) : ∀ u ∈ strC s, u.oneCell' = true := by intro u hu; simp [strC] at hu; subst hu; rfl
def u8C (c : UInt8) : List Value := [.int .u8 c.toNat]

/-- A byte of a list, by its place, ahead of the end. -/
theorem byteAt_of_lt {s : Str} {i : Int} (h0 : 0 ≤ i) (h1 : i < len s) : ∃ h : i.toNat < s.length, byteAt s i = ((s[i.toNat].toNat : Nat) : Int) := by
  have h : i.toNat < s.length := by unfold len at h1; omega
  exact ⟨h, by simp [byteAt, h]⟩

/-! ### bytes -/
def isLetter (c : Int) : Bool := decide (97 ≤ c) && decide (c ≤ 122) || decide (65 ≤ c) && decide (c ≤ 90) || c == 95
def isFig (c : Int) : Bool := decide (48 ≤ c) && decide (c ≤ 57)
def isBlank (c : Int) : Bool := c == 32 || c == 9 || c == 10 || c == 13

theorem getByte {s : Str} {i : Int} (h0 : 0 ≤ i) (h1 : i < len s) : ∃ h : i.toNat < (ByteArray.mk ⟨s⟩).size, (((ByteArray.mk ⟨s⟩)[i.toNat]'h).toNat : Int) = byteAt s i := by
  have h : i.toNat < s.length := by unfold len at h1; omega
  exact ⟨h, by simp [byteAt, h]; rfl⟩
theorem rune_low {s : Str} {i : Int} (h0 : 0 ≤ i) (h1 : i < len s) (h2 : byteAt s i < 128) : runeAt s i = byteAt s i ∧ runeLen s i = 1 := by
  obtain ⟨h, e⟩ := getByte h0 h1
  have := decode_ascii ⟨⟨s⟩⟩ i.toNat h (by omega)
  unfold runeAt runeLen; rw [this]; exact ⟨e, rfl⟩
theorem rune_high {s : Str} {i : Int} (h0 : 0 ≤ i) (h1 : i < len s) (h2 : 128 ≤ byteAt s i) : 128 ≤ runeAt s i ∧ 1 ≤ runeLen s i := by
  obtain ⟨h, e⟩ := getByte h0 h1
  have := decode_high ⟨⟨s⟩⟩ i.toNat h (by omega)
  unfold runeAt runeLen; omega
/-- May a byte, or a rune, stand in a word? -/
def isWordR (r : Int) (first : Bool) : Bool := isLetter r || (!first && isFig r)
theorem isWordR_high {r : Int} {f : Bool} (h : 128 ≤ r) : isWordR r f = false := by
  have e1 : isLetter r = false := by
    unfold isLetter; simp only [Bool.or_eq_false_iff, Bool.and_eq_false_iff, decide_eq_false_iff_not, beq_eq_false_iff_ne]; omega
  have e2 : isFig r = false := by
    unfold isFig; simp only [Bool.and_eq_false_iff, decide_eq_false_iff_not]; omega
  simp [isWordR, e1, e2]
theorem isWordR_rune {s : Str} {i : Int} {f : Bool} (h0 : 0 ≤ i) (h1 : i < len s) : isWordR (runeAt s i) f = isWordR (byteAt s i) f ∧ (isWordR (byteAt s i) f = true → runeLen s i = 1) := by
  rcases Int.lt_or_le (byteAt s i) 128 with h | h
  · obtain ⟨e1, e2⟩ := rune_low h0 h1 h; rw [e1]; exact ⟨rfl, fun _ => e2⟩
  · obtain ⟨e1, e2⟩ := rune_high h0 h1 h
    rw [isWordR_high h, isWordR_high e1]; exact ⟨rfl, fun h => by cases h⟩
/-- The place behind the word's part that goes on at a place. -/
def wordTo (s : Str) (i : Int) : Int :=
  if h : 0 ≤ i ∧ i < len s then if isWordR (byteAt s i) (i == 0) then wordTo s (i + 1) else i else i
termination_by (len s - i).toNat
decreasing_by omega
theorem wordTo_step {s : Str} {i : Int} (h0 : 0 ≤ i) (h1 : i < len s) (h2 : isWordR (byteAt s i) (i == 0) = true) : wordTo s (i + 1) = wordTo s i := by
  conv => rhs; rw [wordTo]
  rw [dif_pos ⟨h0, h1⟩, if_pos h2]
theorem wordTo_stop {s : Str} {i : Int} (h0 : 0 ≤ i) (h1 : i < len s) (h2 : isWordR (byteAt s i) (i == 0) = false) : wordTo s i = i := by
  rw [wordTo, dif_pos ⟨h0, h1⟩, h2]; rfl
theorem wordTo_end {s : Str} {i : Int} (h1 : ¬ i < len s) : wordTo s i = i := by
  rw [wordTo, dif_neg (by omega)]
def wordP (s : Str) : Str := Eng.sub s 0 (wordTo s 0)
/-! ### 2: UTF-8 -/
def cont (s : Str) (i : Int) : Bool := decide (i < len s) && decide (128 ≤ byteAt s i) && decide (byteAt s i < 192)
def rune (s : Str) (i : Int) : Int :=
  let c := byteAt s i
  if c < 128 then 1
  else if decide (194 ≤ c) && decide (c < 224) && cont s (i + 1) then 2
  else if decide (224 ≤ c) && decide (c < 240) && cont s (i + 1) && cont s (i + 2) then
    if c == 224 && decide (byteAt s (i + 1) < 160) || c == 237 && decide (160 ≤ byteAt s (i + 1)) then 0 else 3
  else if decide (240 ≤ c) && decide (c < 245) && cont s (i + 1) && cont s (i + 2) && cont s (i + 3) then
    if c == 240 && decide (byteAt s (i + 1) < 144) || c == 244 && decide (144 ≤ byteAt s (i + 1)) then 0 else 4
  else 0
/-- From a place on: is it valid UTF-8? -/
def utfFrom (s : Str) (i : Int) : Bool :=
  if h : 0 ≤ i ∧ i < len s then
    if h2 : 0 < rune s i then utfFrom s (i + rune s i) else false
  else true
termination_by (len s - i).toNat
decreasing_by omega
def utf (s : Str) : Bool := utfFrom s 0
theorem rune_bd (s : Str) (i : Int) : 0 ≤ rune s i ∧ rune s i ≤ 4 := by
  unfold rune; dsimp only; repeat' split
  all_goals omega
theorem cont_lt {s : Str} {i : Int} (h : cont s i = true) : i < len s := by
  unfold cont at h; simp only [Bool.and_eq_true, decide_eq_true_eq] at h; exact h.1.1
theorem rune_le (s : Str) (i : Int) (h1 : i < len s) : i + rune s i ≤ len s := by
  have c1 : cont s (i + 1) = true → i + 1 < len s := cont_lt
  have c2 : cont s (i + 2) = true → i + 2 < len s := cont_lt
  have c3 : cont s (i + 3) = true → i + 3 < len s := cont_lt
  unfold rune; dsimp only; repeat' split
  all_goals first | omega | (simp_all; done) | (simp_all; omega)
theorem utfFrom_step (s : Str) (i : Int) (h0 : 0 ≤ i) (h1 : i < len s) (h2 : 0 < rune s i) : utfFrom s (i + rune s i) = utfFrom s i := by
  conv => rhs; rw [utfFrom]
  rw [dif_pos ⟨h0, h1⟩, dif_pos h2]
theorem utfFrom_bad (s : Str) (i : Int) (h0 : 0 ≤ i) (h1 : i < len s) (h2 : rune s i = 0) : utfFrom s i = false := by
  rw [utfFrom, dif_pos ⟨h0, h1⟩, dif_neg (by omega)]
theorem utfFrom_end (s : Str) (i : Int) (h1 : ¬ i < len s) : utfFrom s i = true := by
  rw [utfFrom, dif_neg (by omega)]

/-! ### 6, 7: words -/
def wordFrom (s : Str) (i : Int) : Bool :=
  if h : 0 ≤ i ∧ i < len s then
    if isLetter (byteAt s i) || i != 0 && isFig (byteAt s i) then wordFrom s (i + 1) else false
  else s != []
termination_by (len s - i).toNat
decreasing_by omega
def word6 (s : Str) : Bool := wordFrom s 0
theorem wordFrom_step (s : Str) (i : Int) (h0 : 0 ≤ i) (h1 : i < len s) (h2 : (isLetter (byteAt s i) || i != 0 && isFig (byteAt s i)) = true) : wordFrom s (i + 1) = wordFrom s i := by
  conv => rhs; rw [wordFrom]
  rw [dif_pos ⟨h0, h1⟩, if_pos h2]
theorem wordFrom_bad (s : Str) (i : Int) (h0 : 0 ≤ i) (h1 : i < len s) (h2 : ¬ (isLetter (byteAt s i) || i != 0 && isFig (byteAt s i)) = true) : wordFrom s i = false := by
  rw [wordFrom, dif_pos ⟨h0, h1⟩, if_neg h2]
theorem wordFrom_end (s : Str) (i : Int) (h1 : ¬ i < len s) : wordFrom s i = (s != []) := by
  rw [wordFrom, dif_neg (by omega)]

/-! ### 1: numbers -/
def figsFrom (s : Str) (i : Int) : Bool :=
  if h : 0 ≤ i ∧ i < len s then
    if isFig (byteAt s i) then figsFrom s (i + 1) else false
  else true
termination_by (len s - i).toNat
decreasing_by omega
def figs (s : Str) : Bool := figsFrom s 0
theorem figsFrom_step (s : Str) (i : Int) (h0 : 0 ≤ i) (h1 : i < len s) (h2 : isFig (byteAt s i) = true) : figsFrom s (i + 1) = figsFrom s i := by
  conv => rhs; rw [figsFrom]
  rw [dif_pos ⟨h0, h1⟩, if_pos h2]
theorem figsFrom_bad (s : Str) (i : Int) (h0 : 0 ≤ i) (h1 : i < len s) (h2 : ¬ isFig (byteAt s i) = true) : figsFrom s i = false := by
  rw [figsFrom, dif_pos ⟨h0, h1⟩, if_neg h2]
theorem figsFrom_end (s : Str) (i : Int) (h1 : ¬ i < len s) : figsFrom s i = true := by
  rw [figsFrom, dif_neg (by omega)]
def right1 (n : Nd) : Bool :=
  if n.kind != 3 || n.many != 0 || !(n.name == []) || !(figs n.s) || decide (100 < len n.s) || decide (n.e < -1000) || decide (1000 < n.e) || decide (1000 < len n.s + n.e) then false
  else if n.s == [] then !n.neg && n.e == 0
  else byteAt n.s 0 != 48 && byteAt n.s (len n.s - 1) != 48
/-! ### 8: tokens -/
theorem sub_succ {α : Type} [Inhabited α] (a : List α) (k : Int) (h0 : 0 ≤ k) (h1 : k < len a) : Eng.sub a 0 (k + 1) = Eng.sub a 0 k ++ [a.getD k.toNat default] := by
  have hk : k.toNat < a.length := by unfold len at h1; omega
  unfold Eng.sub
  rw [show (k + 1).toNat = k.toNat + 1 from by omega]
  simp only [Int.toNat_zero, List.drop_zero, Nat.sub_zero]
  rw [List.take_succ_eq_append_getElem hk]
  simp [hk]
theorem sub_all {α : Type} (a : List α) (k : Int) (h : len a ≤ k) : Eng.sub a 0 k = a := by
  unfold Eng.sub; unfold len at h
  simp only [Int.toNat_zero, List.drop_zero, Nat.sub_zero]
  exact List.take_of_length_le (by omega)
def marks8 : List Str := [[61, 61], [33, 61], [60, 61], [62, 61], [46], [124], [44], [58], [40], [41], [91], [93], [123], [125], [60], [62], [63]]
def isMark8 (s : Str) : Bool := marks8.contains s
def right8 (t : Tk) : Bool :=
  if t.kind == 1 then isMark8 t.s && decide (t.c = noNd)
  else if t.kind == 2 then word6 t.s && decide (t.c = noNd)
  else if t.kind == 3 || t.kind == 4 then utf t.s && decide (t.c = noNd)
  else if t.kind == 5 then t.s == [] && right1 t.c
  else false
/-- Few tokens, such as can be written. -/
def given8 (l : List Tk) : Bool := decide (len l ≤ 41) && l.all (fun t => decide (len t.s ≤ 60) && right8 t)
theorem notMark_step {l : List Str} {s : Str} {k : Int} (h : (Eng.sub l 0 k).contains s = false) (h0 : 0 ≤ k) (h1 : k < len l) (h2 : ¬ l.getD k.toNat default = s) : (Eng.sub l 0 (k + 1)).contains s = false := by
  rw [sub_succ l k h0 h1]
  rw [List.contains_eq_mem, decide_eq_false_iff_not] at *
  intro h'
  rcases List.mem_append.1 h' with h'' | h''
  · exact h h''
  · simp at h''; exact h2 (by simpa using h''.symm)
theorem mark_at {l : List Str} {s : Str} {k : Int} (h0 : 0 ≤ k) (h1 : k < len l) (h2 : l.getD k.toNat default = s) : l.contains s = true := by
  have hk : k.toNat < l.length := by unfold len at h1; omega
  rw [List.contains_eq_mem, decide_eq_true_eq, ← h2]
  simp [hk]
theorem all_step {α : Type} [Inhabited α] {l : List α} {p : α → Bool} {k : Int} (h : (Eng.sub l 0 k).all p = true) (h0 : 0 ≤ k) (h1 : k < len l) (h2 : p (l.getD k.toNat default) = true) : (Eng.sub l 0 (k + 1)).all p = true := by
  rw [sub_succ l k h0 h1, List.all_append, h]
  simpa using h2
theorem all_bad {α : Type} [Inhabited α] {l : List α} {p : α → Bool} {k : Int} (h0 : 0 ≤ k) (h1 : k < len l) (h2 : p (l.getD k.toNat default) = false) : l.all p = false := by
  have hk : k.toNat < l.length := by unfold len at h1; omega
  rw [List.all_eq_false]
  refine ⟨l[k.toNat], List.getElem_mem hk, ?_⟩
  simp [hk] at h2
  simp [h2]
theorem at'_mem {α : Type} [Inhabited α] {l : List α} {k : Int} (h0 : 0 ≤ k) (h1 : k < len l) : l.getD k.toNat default ∈ l := by
  have hk : k.toNat < l.length := by unfold len at h1; omega
  simp [hk]
theorem given_bad {l : List Tk} {k : Int} (h0 : 0 ≤ k) (h1 : k < len l) (h : (40 < k ∨ 60 < len (at' l k).s) ∨ right8 (at' l k) = false) : given8 l = false := by
  unfold given8
  rw [Bool.and_eq_false_iff]
  rcases h with (h | h) | h
  · left; rw [decide_eq_false_iff_not]; omega
  · right; refine all_bad h0 h1 ?_; rw [Bool.and_eq_false_iff]; left; rw [decide_eq_false_iff_not]; change ¬ len (at' l k).s ≤ 60; omega
  · right; refine all_bad h0 h1 ?_; rw [Bool.and_eq_false_iff]; right; exact h
def strip (p : Bool) (t : Tk) : Tk := if p then t else { t with pos := 0 }
/-- The same, with their places or without. -/
def sameTk (a b : List Tk) (p : Bool) : Bool := decide (a.map (strip p) = b.map (strip p))
def sameTo (a b : List Tk) (p : Bool) (k : Int) : Prop := (Eng.sub a 0 k).map (strip p) = (Eng.sub b 0 k).map (strip p)
theorem sameTo_step {a b : List Tk} {p : Bool} {k : Int} (h : sameTo a b p k) (h0 : 0 ≤ k) (h1 : k < len a) (h2 : k < len b) (h3 : strip p (a.getD k.toNat default) = strip p (b.getD k.toNat default)) : sameTo a b p (k + 1) := by
  unfold sameTo at *
  rw [sub_succ a k h0 h1, sub_succ b k h0 h2, List.map_append, List.map_append, h]
  simp only [List.map_cons, List.map_nil, h3]
theorem sameTk_bad {a b : List Tk} {p : Bool} {k : Int} (h0 : 0 ≤ k) (h1 : k < len a) (h2 : k < len b) (h3 : ¬ strip p (a.getD k.toNat default) = strip p (b.getD k.toNat default)) : sameTk a b p = false := by
  unfold sameTk
  rw [decide_eq_false_iff_not]
  intro h
  have l1 : k.toNat < a.length := by unfold len at h1; omega
  have l2 : k.toNat < b.length := by unfold len at h2; omega
  have := congrArg (fun l => l[k.toNat]?) h
  simp [l1, l2] at this
  apply h3
  simpa [l1, l2] using this
theorem sameTk_end {a b : List Tk} {p : Bool} {k : Int} (h : sameTo a b p k) (h1 : len a ≤ k) (h2 : len a = len b) : sameTk a b p = true := by
  unfold sameTo at h
  rw [sub_all a k h1, sub_all b k (by omega)] at h
  unfold sameTk; exact decide_eq_true h
theorem sameTk_len {a b : List Tk} {p : Bool} (h : ¬ len a = len b) : sameTk a b p = false := by
  unfold sameTk; rw [decide_eq_false_iff_not]; intro h'
  apply h
  have := congrArg List.length h'
  simp at this; unfold len; omega
end Go.Eng
