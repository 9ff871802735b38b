/-
  WHAT A TOKEN HANGS ON: the token that a text begins with is read of its own bytes, and of the one behind them; so it stays where these stay. Plain: no program in it.
  TOKENS FROM A PLACE ON, as a relation: which ones there are; or where there are none. What lex answers is read off it. Plain: no program in it.
  A NUMBER'S TEXT IS READ AS IT; what any text is read as is a right number. Plain: no program in it.
  THE PLAIN LAW OF LexBack: a text of tokens is read as these; what any text is read as, written, is read as it. No program in it.
  What a text's tokens keep to, as a parser wants it. No program in it.
  parse.Parse.
  PLACES IN A TEXT: what stands from one on. Plain: no program in it.
  BRACKETS IN BRACKETS: the tokens of such a text, and what they are parsed as. Plain: no program in it.
-/
import Derived.Test.YtmjpjbmeamnfpaaGreatDoorZa15
import Derived.Test.YtmjpjbmeamnfpaaGreatDoorZa16
import Derived.Lib.SlTrimSet
import Derived.Test.YtmjpjbmeamnfpaaGreatDoorZa19
import Derived.Lib.Join
import Derived.Test.YtmjpjbmeamnfpaaGreatDoorZa14
import Derived.Test.YtmjpjbmeamnfpaaGreatDoorZa25
import Derived.Test.YtmjpjbmeamnfpaaGreatDoorZa11
set_option linter.unusedVariables false
set_option linter.unusedSimpArgs false
namespace Go.Eng
open Go.RowKit

/-! ### Bytes of joined texts -/
theorem byteAt_l {u v : Str} {j : Int} (h0 : 0 ≤ j) (h : j < len u) : byteAt (u ++ v) j = byteAt u j := by
  unfold len at h
  unfold byteAt
  rw [List.getD_eq_getElem?_getD, List.getD_eq_getElem?_getD, List.getElem?_append_left (by omega)]
theorem byteAt_r {u v : Str} {k : Int} (h0 : 0 ≤ k) : byteAt (u ++ v) (len u + k) = byteAt v k := by
  unfold byteAt len
  rw [List.getD_eq_getElem?_getD, List.getD_eq_getElem?_getD, List.getElem?_append_right (by omega), show ((u.length : Int) + k).toNat - u.length = k.toNat from by omega]
theorem byteAt_r' {u v : Str} {k : Int} (h0 : len u ≤ k) : byteAt (u ++ v) k = byteAt v (k - len u) := by
  have := byteAt_r (u := u) (v := v) (k := k - len u) (by omega)
  rw [← this]; congr 1; omega
theorem byteAt_cons0 (a : UInt8) (l : Str) : byteAt (a :: l) 0 = (a.toNat : Int) := rfl
theorem byteAt_nil (k : Int) : byteAt [] k = 0 := by unfold byteAt; simp
theorem sub_app {u v : Str} : Eng.sub (u ++ v) 0 (len u) = u := by unfold Eng.sub len; simp
/-! ### A rune hangs on its own bytes -/
theorem rune_agr {s s' : Str} {i i' : Int} (h0 : 0 ≤ i) (h0' : 0 ≤ i') (h1 : 1 ≤ rune s i) (hl : i < len s) (hl' : i' + rune s i ≤ len s') (h : ∀ j, 0 ≤ j → j < rune s i → byteAt s' (i' + j) = byteAt s (i + j)) :
    rune s' i' = rune s i ∧ runeAt s' i' = runeAt s i ∧ runeLen s' i' = runeLen s i := by
  have hb := rune_bd s i
  have hle := rune_le s i hl
  have a0 : byteAt s' i' = byteAt s i := by have := h 0 (by omega) (by omega); rwa [Int.add_zero, Int.add_zero] at this
  have a1 : 2 ≤ rune s i → byteAt s' (i' + 1) = byteAt s (i + 1) := fun x => h 1 (by omega) (by omega)
  have a2 : 3 ≤ rune s i → byteAt s' (i' + 2) = byteAt s (i + 2) := fun x => h 2 (by omega) (by omega)
  have a3 : 4 ≤ rune s i → byteAt s' (i' + 3) = byteAt s (i + 3) := fun x => h 3 (by omega) (by omega)
  have er : rune s' i' = rune s i := by
    clear h
    generalize hk : rune s i = k at *
    unfold rune cont at hk ⊢
    dsimp only at hk ⊢
    rw [a0]
    simp only [Bool.and_eq_true, Bool.or_eq_true, decide_eq_true_eq, beq_iff_eq] at hk ⊢
    split at hk
    · rw [if_pos (by assumption)]; exact hk
    rename_i c0
    rw [if_neg c0]
    split at hk
    · rename_i c1
      subst hk
      have := a1 (by omega)
      rw [if_pos (by omega)]
    rename_i c1
    split at hk
    · rename_i c2
      have hk3 : k = 3 := by split at hk <;> omega
      have e1 := a1 (by omega)
      have e2 := a2 (by omega)
      rw [if_neg (by omega), if_pos (by omega), e1]
      exact hk
    rename_i c2
    split at hk
    · rename_i c3
      have hk4 : k = 4 := by split at hk <;> omega
      have e1 := a1 (by omega)
      have e2 := a2 (by omega)
      have e3 := a3 (by omega)
      rw [if_neg (by omega), if_neg (by omega), if_pos (by omega), e1]
      exact hk
    · omega
  refine ⟨er, ?_⟩
  have hl2 : i' < len s' := by omega
  have D := runeN_dec (s.length - i.toNat) (s.getD i.toNat 0).toNat (s.getD (i.toNat + 1) 0).toNat (s.getD (i.toNat + 2) 0).toNat (s.getD (i.toNat + 3) 0).toNat (by unfold len at *; omega) (UInt8.toNat_lt _) (UInt8.toNat_lt _) (UInt8.toNat_lt _) (UInt8.toNat_lt _)
  have D' := runeN_dec (s'.length - i'.toNat) (s'.getD i'.toNat 0).toNat (s'.getD (i'.toNat + 1) 0).toNat (s'.getD (i'.toNat + 2) 0).toNat (s'.getD (i'.toNat + 3) 0).toNat (by unfold len at *; omega) (UInt8.toNat_lt _) (UInt8.toNat_lt _) (UInt8.toNat_lt _) (UInt8.toNat_lt _)
  have r1 := rune_N h0 hl
  have r2 := rune_N h0' hl2
  have q : ∀ (t : Str) (x : Int), 0 ≤ x → runeAt t x = ((Lib.decodeN (t.length - x.toNat) (t.getD x.toNat 0).toNat (t.getD (x.toNat + 1) 0).toNat (t.getD (x.toNat + 2) 0).toNat (t.getD (x.toNat + 3) 0).toNat).1 : Nat) ∧ runeLen t x = ((Lib.decodeN (t.length - x.toNat) (t.getD x.toNat 0).toNat (t.getD (x.toNat + 1) 0).toNat (t.getD (x.toNat + 2) 0).toNat (t.getD (x.toNat + 3) 0).toNat).2 : Nat) := fun t x hx => by
    unfold runeAt runeLen; rw [decode_same t x hx, decode_from t x hx]; exact ⟨rfl, rfl⟩
  obtain ⟨q1, q2⟩ := q s i h0
  obtain ⟨q3, q4⟩ := q s' i' h0'
  rw [q1, q2, q3, q4]
  have n0 : ∀ (t : Str) (x : Int), 0 ≤ x → byteAt t x = ((t.getD x.toNat 0).toNat : Int) := fun t x hx => rfl
  have nj := fun (t : Str) (x : Int) (hx : 0 ≤ x) (j : Nat) => byteAt_nat t x hx j
  rw [n0 s i h0, n0 s' i' h0'] at a0
  have b1 : byteAt s (i + 1) = _ := nj s i h0 1
  have b2 : byteAt s (i + 2) = _ := nj s i h0 2
  have b3 : byteAt s (i + 3) = _ := nj s i h0 3
  have b1' : byteAt s' (i' + 1) = _ := nj s' i' h0' 1
  have b2' : byteAt s' (i' + 2) = _ := nj s' i' h0' 2
  have b3' : byteAt s' (i' + 3) = _ := nj s' i' h0' 3
  rw [b1, b1'] at a1
  rw [b2, b2'] at a2
  rw [b3, b3'] at a3
  unfold DecAs at D D'
  generalize (s.getD i.toNat 0).toNat = x0 at *
  generalize (s.getD (i.toNat + 1) 0).toNat = x1 at *
  generalize (s.getD (i.toNat + 2) 0).toNat = x2 at *
  generalize (s.getD (i.toNat + 3) 0).toNat = x3 at *
  generalize (s'.getD i'.toNat 0).toNat = y0 at *
  generalize (s'.getD (i'.toNat + 1) 0).toNat = y1 at *
  generalize (s'.getD (i'.toNat + 2) 0).toNat = y2 at *
  generalize (s'.getD (i'.toNat + 3) 0).toNat = y3 at *
  generalize runeN (s.length - i.toNat) x0 x1 x2 x3 = k at *
  generalize runeN (s'.length - i'.toNat) y0 y1 y2 y3 = k' at *
  generalize Lib.decodeN (s.length - i.toNat) x0 x1 x2 x3 = d at *
  generalize Lib.decodeN (s'.length - i'.toNat) y0 y1 y2 y3 = d' at *
  obtain ⟨d1, d2⟩ := d
  obtain ⟨e1, e2⟩ := d'
  clear q1 q2 q3 q4 q n0 nj b1 b2 b3 b1' b2' b3' h
  dsimp only at *
  rcases D with D | D | D | D | D <;> rcases D' with D' | D' | D' | D' | D' <;> first | (exfalso; omega) | (constructor <;> omega)

/-! ### Words, marks, numbers -/
/-- A blank, or a mark that ends a token: ( ) , : [ ] }. -/
def isSep (c : Int) : Bool := isBlank c || c == 40 || c == 41 || c == 44 || c == 58 || c == 91 || c == 93 || c == 125
/-- What may stand behind a token: nothing, a blank, a bracket, or what begins as it did. -/
def Stop (v v' : Str) : Prop := v' = [] ∨ (v' ≠ [] ∧ isSep (byteAt v' 0) = true) ∨ (v ≠ [] ∧ v' ≠ [] ∧ byteAt v' 0 = byteAt v 0)
theorem ne_len {α : Type} {l : List α} : l ≠ [] ↔ 0 < len l := ⟨fun h => len_pos h, fun h e => by rw [e, len_nil] at h; omega⟩
theorem wordTo_is {s : Str} {n : Int} (hn : n ≤ len s) (ha : ∀ j : Int, 0 ≤ j → j < n → isWordR (byteAt s j) (j == 0) = true) (hs : n < len s → isWordR (byteAt s n) (n == 0) = false) (i : Int) (h0 : 0 ≤ i) (hi : i ≤ n) : wordTo s i = n := by
  by_cases h : i < n
  · rw [← wordTo_step h0 (by omega) (ha i h0 h)]
    exact wordTo_is hn ha hs (i + 1) (by omega) (by omega)
  · have e : i = n := by omega
    subst e
    by_cases hl : i < len s
    · exact wordTo_stop h0 hl (hs hl)
    · exact wordTo_end hl
termination_by (n - i).toNat
theorem wordTo_of {s : Str} : ∀ (i : Int), 0 ≤ i → (∀ j : Int, i ≤ j → j < wordTo s i → isWordR (byteAt s j) (j == 0) = true) ∧ (i ≤ len s → wordTo s i < len s → isWordR (byteAt s (wordTo s i)) (wordTo s i == 0) = false) := by
  intro i h0
  by_cases hlt : i < len s
  · cases hw : isWordR (byteAt s i) (i == 0) with
    | true =>
      have := wordTo_of (s := s) (i + 1) (by omega)
      rw [wordTo_step h0 hlt hw] at this
      refine ⟨fun j a b => ?_, fun a b => this.2 (by omega) b⟩
      by_cases e : j = i
      · subst e; exact hw
      · exact this.1 j (by omega) b
    | false => rw [wordTo_stop h0 hlt hw]; exact ⟨fun j a b => by omega, fun _ _ => hw⟩
  · rw [wordTo_end hlt]; exact ⟨fun j a b => by omega, fun a b => by omega⟩
termination_by i => (len s - i).toNat
theorem word_nil {s : Str} (h : isLetter (byteAt s 0) = false) : wordP s = [] := by
  have e : wordTo s 0 = 0 := by
    by_cases hl : 0 < len s
    · exact wordTo_stop (by omega) hl (by unfold isWordR; rw [h]; rfl)
    · exact wordTo_end hl
  unfold wordP; rw [e]; rfl
/-- The bytes that marks begin with. -/
def isMarkB (b : UInt8) : Bool := ([61, 33, 60, 62, 46, 124, 44, 58, 40, 41, 91, 93, 123, 125, 63] : Str).contains b
theorem mark_nil {a : UInt8} {s : Str} (h : isMarkB a = false) : markP (a :: s) = [] := by
  have h' : ∀ m ∈ marks8, Lib.hasPrefix (a :: s) m = false := by
    intro m hm
    cases hp : Lib.hasPrefix (a :: s) m with
    | false => rfl
    | true =>
      exfalso
      have hf : ∀ m ∈ marks8, m ≠ [] ∧ isMarkB (m.headD 0) = true := by decide +kernel
      obtain ⟨hn, hb⟩ := hf m hm
      cases m with
      | nil => exact hn rfl
      | cons b r =>
      have hb : isMarkB b = true := hb
      have := List.isPrefixOf_iff_prefix.1 hp
      rw [List.cons_prefix_cons] at this
      rw [← this.1, hb] at h; cases h
  unfold markP
  rw [List.find?_eq_none.2 (fun m hm => by rw [h' m hm]; simp)]
  rfl
/-! ### Tokens -/
theorem isLetter_mark {a : UInt8} (h : isLetter (a.toNat : Int) = true) : isMarkB a = false := by
  have : ∀ n : Fin 256, isLetter (n.val : Int) = true → isMarkB (UInt8.ofNat n.val) = false := by decide +kernel
  have := this ⟨a.toNat, a.toNat_lt⟩ h
  simpa using this
theorem from1 (a : UInt8) (l : Str) : from' (a :: l) 1 = l := rfl
end Go.Eng
namespace Go.Eng
open Go.RowKit

/-- The tokens from a place on, but for the end's. -/
inductive Lx (s : Str) : Int → List Tk → Prop
  | done {i : Int} : 0 ≤ i → ¬ i < len s → Lx s i []
  | step {i n : Int} {t : Tk} {l : List Tk} : 0 ≤ i → i < len s → tokP (from' s i) = (t, n, 0) → Lx s (blankTo s (i + n)) l → Lx s i ({ t with pos := i } :: l)
/-- From a place on there are none: where, and why. -/
inductive LxE (s : Str) : Int → Int → Int → Prop
  | here {i n e : Int} {t : Tk} : 0 ≤ i → i < len s → tokP (from' s i) = (t, n, e) → e ≠ 0 → LxE s i (i + n) e
  | there {i n p e : Int} {t : Tk} : 0 ≤ i → i < len s → tokP (from' s i) = (t, n, 0) → LxE s (blankTo s (i + n)) p e → LxE s i p e
theorem tok_bd' {s : Str} {i n e : Int} {t : Tk} (h0 : 0 ≤ i) (h1 : i < len s) (h : tokP (from' s i) = (t, n, e)) : 0 ≤ n ∧ i + n ≤ len s ∧ (e = 0 → 1 ≤ n) ∧ (e = 0 ∨ e = 1 ∨ e = 2 ∨ e = 4) := by
  have hl := from_len s i h0 (by omega)
  have := tokP_bd (s := from' s i) (by omega)
  rw [h] at this
  dsimp only at this
  omega
theorem lex_cases {s : Str} : ∀ (f : Nat) (i : Int) (acc : List Tk), 0 ≤ i → (len s - i).toNat ≤ f →
    (∃ l, Lx s i l ∧ lexGo f s i acc = (acc ++ l ++ [endTk s], 0, 0)) ∨ (∃ p e, LxE s i p e ∧ lexGo f s i acc = ([], p, e))
  | 0, i, acc, h0, hf => .inl ⟨[], .done h0 (by omega), by unfold lexGo; simp⟩
  | f + 1, i, acc, h0, hf => by
    by_cases h1 : i < len s
    · obtain ⟨t, n, e, ht⟩ : ∃ t n e, tokP (from' s i) = (t, n, e) := ⟨_, _, _, rfl⟩
      have hb := tok_bd' h0 h1 ht
      rw [lexGo_eq hf h1, ht]
      dsimp only
      by_cases he : e = 0
      · subst he
        have hbl := blankTo_bd s (i + n) (by omega) (by omega)
        rw [if_neg (by simp)]
        rcases lex_cases (s := s) f (blankTo s (i + n)) (acc ++ [{ t with pos := i }]) (by omega) (by omega) with ⟨l, h2, h3⟩ | ⟨p, e, h2, h3⟩
        · exact .inl ⟨_, .step h0 h1 ht h2, by rw [Nat.add_sub_cancel, h3]; simp⟩
        · exact .inr ⟨p, e, .there h0 h1 ht h2, by rw [Nat.add_sub_cancel, h3]⟩
      · rw [if_pos he]
        exact .inr ⟨_, _, .here h0 h1 ht he, rfl⟩
    · exact .inl ⟨[], .done h0 h1, by rw [lexGo_end h1]; simp⟩
theorem LxE.bd {s : Str} {i p e : Int} (h : LxE s i p e) : i ≤ p ∧ p ≤ len s ∧ (e = 1 ∨ e = 2 ∨ e = 4) := by
  induction h with
  | here h0 h1 h he => have := tok_bd' h0 h1 h; omega
  | @there i n p e t h0 h1 h _ ih =>
    have hb := tok_bd' h0 h1 h
    have := blankTo_bd s (i + n) (by omega) hb.2.1
    omega
theorem Lx.go {s : Str} {i : Int} {l : List Tk} (h : Lx s i l) : ∀ (f : Nat) (acc : List Tk), (len s - i).toNat ≤ f → lexGo f s i acc = (acc ++ l ++ [endTk s], 0, 0) := by
  induction h with
  | done _ h1 => intro f acc _; rw [lexGo_end h1]; simp
  | @step i n t l h0 h1 h _ ih =>
    intro f acc hf
    have hb := tok_bd' h0 h1 h
    have hbl := blankTo_bd s (i + n) (by omega) hb.2.1
    rw [lexGo_eq hf h1, h]
    dsimp only
    rw [if_neg (by simp), ih _ _ (by omega)]
    simp
theorem LxE.go {s : Str} {i p e : Int} (h : LxE s i p e) : ∀ (f : Nat) (acc : List Tk), (len s - i).toNat ≤ f → lexGo f s i acc = ([], p, e) := by
  induction h with
  | here h0 h1 h he => intro f acc hf; rw [lexGo_eq hf h1, h]; dsimp only; rw [if_pos he]
  | @there i n p e t h0 h1 h _ ih =>
    intro f acc hf
    have hb := tok_bd' h0 h1 h
    have hbl := blankTo_bd s (i + n) (by omega) hb.2.1
    rw [lexGo_eq hf h1, h]
    dsimp only
    rw [if_neg (by simp), ih _ _ (by omega)]
theorem start_fuel (s : Str) : (len s - blankTo s 0).toNat ≤ s.length := by
  have := blankTo_bd s 0 (Int.le_refl 0) (len_nonneg s)
  unfold len at *; omega
theorem lexP_cases (s : Str) : (∃ l, Lx s (blankTo s 0) l ∧ lexP s = (l ++ [endTk s], 0, 0)) ∨ (∃ p e, LxE s (blankTo s 0) p e ∧ lexP s = ([], p, e)) := by
  have := lex_cases (s := s) s.length (blankTo s 0) [] (blankTo_bd s 0 (Int.le_refl 0) (len_nonneg s)).1 (start_fuel s)
  simp only [List.nil_append] at this
  exact this
theorem Lx.lex {s : Str} {l : List Tk} (h : Lx s (blankTo s 0) l) : lexP s = (l ++ [endTk s], 0, 0) := by
  have := h.go s.length [] (start_fuel s)
  rwa [List.nil_append] at this
theorem LxE.lex {s : Str} {p e : Int} (h : LxE s (blankTo s 0) p e) : lexP s = ([], p, e) := h.go s.length [] (start_fuel s)
theorem lexP_ok {s : Str} (h : (lexP s).2.2 = 0) : ∃ l, Lx s (blankTo s 0) l ∧ lexP s = (l ++ [endTk s], 0, 0) := by
  rcases lexP_cases s with h1 | ⟨p, e, h1, h2⟩
  · exact h1
  · rw [h2] at h; have := h1.bd; dsimp only at h; omega
theorem Lx.size {s : Str} {i : Int} {l : List Tk} (h : Lx s i l) : i ≤ len s → len l ≤ len s - i := by
  induction h with
  | done _ _ => intro x; rw [len_nil]; omega
  | @step i n t l h0 h1 h _ ih =>
    intro x
    have hb := tok_bd' h0 h1 h
    have hbl := blankTo_bd s (i + n) (by omega) hb.2.1
    have := ih hbl.2
    rw [len_cons]; omega
end Go.Eng
namespace Go.Eng
open Go.RowKit

def AllF (l : Str) : Prop := ∀ b ∈ l, isFigB b = true
theorem figs_iff {s : Str} : figs s = true ↔ AllF s := by
  rw [figs_all]
  constructor
  · intro h b hb
    obtain ⟨j, hj, e⟩ := List.getElem_of_mem hb
    have := h j hj
    rw [e] at this; exact this
  · intro h j hj; exact h _ (List.getElem_mem hj)
theorem AllF.app {a b : Str} (h : AllF a) (k : AllF b) : AllF (a ++ b) := fun x hx => by
  rcases List.mem_append.1 hx with hx | hx
  · exact h x hx
  · exact k x hx
theorem right_open {n : Nd} (h : right1 n = true) : n = ⟨3, 0, [], n.s, n.neg, n.e⟩ ∧ AllF n.s ∧ len n.s ≤ 100 ∧ -1000 ≤ n.e ∧ n.e ≤ 1000 ∧ len n.s + n.e ≤ 1000 ∧ ((n.s = [] ∧ n.neg = false ∧ n.e = 0) ∨ (n.s ≠ [] ∧ byteAt n.s 0 ≠ 48 ∧ byteAt n.s (len n.s - 1) ≠ 48)) := by
  obtain ⟨kind, many, name, s, neg, e⟩ := n
  unfold right1 at h
  dsimp only at h ⊢
  split at h
  · cases h
  rename_i hc
  simp only [Bool.or_eq_true, decide_eq_true_eq, bne_iff_ne, Bool.not_eq_true', beq_eq_false_iff_ne, not_or, ne_eq, Classical.not_not] at hc
  obtain ⟨⟨⟨⟨⟨⟨⟨c1, c2⟩, c3⟩, c4⟩, c5⟩, c6⟩, c7⟩, c8⟩ := hc
  subst c1; subst c2; subst c3
  refine ⟨rfl, figs_iff.1 (by simpa using c4), by omega, by omega, by omega, by omega, ?_⟩
  split at h
  · rename_i hs
    simp only [Bool.and_eq_true, Bool.not_eq_true', beq_iff_eq] at h hs
    exact .inl ⟨hs, h.1, h.2⟩
  · rename_i hs
    simp only [Bool.and_eq_true, bne_iff_ne, beq_iff_eq] at h hs
    exact .inr ⟨hs, h.1, h.2⟩
/-! ### What a text is read as -/
theorem mk_right {neg : Bool} {s : Str} {e : Int} (h : (mk1 neg s e).2 = 0) : right1 (mk1 neg s e).1 = true := by
  unfold mk1 at h ⊢
  by_cases c1 : figs s = true
  · rw [if_pos c1] at h ⊢
    by_cases c2 : (dropZ s == []) = true
    · rw [if_pos c2]; decide +kernel
    rw [if_neg c2] at h ⊢
    split at h
    · cases h
    rename_i c3
    rw [if_neg c3]
    split at h
    · cases h
    rename_i c4
    rw [if_neg c4]
    simp only [Bool.or_eq_true, decide_eq_true_eq] at c4
    have c2' : ¬ dropZ s = [] := by simpa using c2
    have hp := trimZ_pos s c2'
    have htn : trimZ (dropZ s) ≠ [] := ne_len.2 hp
    have hpre : ∃ r, trimZ (dropZ s) ++ r = dropZ s := by
      unfold trimZ Lib.trimRightS
      have := List.dropWhile_suffix (([48] : Str).contains ·) (l := (dropZ s).reverse)
      obtain ⟨r, hr⟩ := this
      refine ⟨r.reverse, ?_⟩
      rw [← List.reverse_append, hr, List.reverse_reverse]
    obtain ⟨r, hr⟩ := hpre
    have hF : AllF (trimZ (dropZ s)) := fun b hb => (figs_drop (figs_iff.1 c1)) b (by rw [← hr]; simp [hb])
    have hfirst : byteAt (trimZ (dropZ s)) 0 ≠ 48 := by
      rw [← byteAt_l (v := r) (Int.le_refl 0) hp, hr]
      cases hd : dropZ s with
      | nil => exact absurd hd c2'
      | cons b l =>
        have := dropZ_first hd
        intro e; rw [byteAt_cons0] at e; rw [u8_eq48.2 e] at this; cases this
    have hlast : byteAt (trimZ (dropZ s)) (len (trimZ (dropZ s)) - 1) ≠ 48 := by
      obtain ⟨b, e1, e2⟩ := last_split hp
      rw [← e2]
      intro e3
      have hb : ([48] : Str).contains b = true := u8_eq48.2 e3
      have : trimZ (dropZ s) = ((dropZ s).reverse.dropWhile (([48] : Str).contains ·)).reverse := rfl
      rw [this] at e1
      have h2 := congrArg List.reverse e1
      rw [List.reverse_reverse, List.reverse_append, List.reverse_cons, List.reverse_nil, List.nil_append, List.singleton_append] at h2
      have := dropZ_first (s := (dropZ s).reverse) (b := b) (l := (Eng.sub (trimZ (dropZ s)) 0 (len (trimZ (dropZ s)) - 1)).reverse) h2
      rw [hb] at this; cases this
    unfold right1
    dsimp only
    rw [if_neg (by
      simp only [Bool.or_eq_true, decide_eq_true_eq, bne_iff_ne, Bool.not_eq_true', beq_eq_false_iff_ne, figs_iff.2 hF]
      simp only [not_or]
      refine ⟨⟨⟨⟨⟨⟨⟨by simp, by simp⟩, by simp⟩, by simp⟩, by omega⟩, by omega⟩, by omega⟩, by omega⟩), if_neg (by simpa using htn)]
    simp [hfirst, hlast]
  · rw [if_neg c1] at h; exact absurd h (by decide)
theorem mk_err {neg : Bool} {s : Str} {e : Int} (h : AllF s) : (mk1 neg s e).2 = 0 ∨ (mk1 neg s e).2 = 2 := by
  unfold mk1
  rw [if_pos (figs_iff.2 h)]
  split
  · exact .inl rfl
  · split
    · exact .inr rfl
    · split
      · exact .inr rfl
      · exact .inl rfl
def ReadOk (r : Nd × Int × Int) : Prop := (r.2.2 = 0 → right1 r.1 = true) ∧ (r.2.2 = 0 ∨ r.2.2 = 1 ∨ r.2.2 = 2)
theorem fin_ok {neg : Bool} {fg : Str} {x : Int} {pw : Str} {side : Int} (h : AllF fg) : ReadOk (fin1 neg fg x pw side) := by
  unfold fin1
  split
  · exact ⟨fun e => absurd e (by decide), .inr (.inr rfl)⟩
  · refine ⟨fun e => mk_right e, ?_⟩
    rcases mk_err (neg := neg) (e := x + side * decVal (dropZ pw)) h with e | e
    · exact .inl e
    · exact .inr (.inr e)
theorem bad_ok (n : Nd) (p : Int) : ReadOk (n, p, 1) := ⟨fun e => absurd e (show ¬ (1 : Int) = 0 by decide), .inr (.inl rfl)⟩
theorem rest_ok {s fg : Str} {neg : Bool} {x b : Int} (h : AllF fg) : ReadOk (rest1 s neg fg x b) := by
  unfold rest1
  split
  · unfold exp1
    dsimp only
    repeat' split
    all_goals first | exact bad_ok _ _ | exact fin_ok h
  · split
    · exact bad_ok _ _
    · exact fin_ok h
theorem read_ok (s : Str) : ReadOk (read1 s) := by
  have h0 := isTo_bd s [45] 0 (len_nonneg s)
  have hr := runTo_bd s (isTo s [45] 0) (by omega) h0.2
  have h1 := isTo_bd s [46] (runTo s (isTo s [45] 0)) hr.2
  unfold read1
  dsimp only
  have hF : AllF (Eng.sub s (isTo s [45] 0) (runTo s (isTo s [45] 0))) := figs_run h0.1
  split
  · exact bad_ok _ _
  · split
    · exact bad_ok _ _
    · split
      · split
        · exact bad_ok _ _
        · exact rest_ok (hF.app (figs_run (by omega)))
      · exact rest_ok hF
end Go.Eng
namespace Go.Eng
open Go.RowKit

theorem u8_nat {x : Int} (h0 : 0 ≤ x) (h1 : x < 256) : ((UInt8.ofNat x.toNat).toNat : Int) = x := by
  rw [show (UInt8.ofNat x.toNat).toNat = x.toNat % 256 from rfl, Nat.mod_eq_of_lt (by omega)]; omega
/-! ### What a string is read as is valid -/
theorem utf_shift {a b : Str} : ∀ (j : Int), 0 ≤ j → utfFrom b j = true → utfFrom (a ++ b) (len a + j) = true
  | j, h0, h => by
    have hl := len_app a b
    have ha := len_nonneg a
    by_cases hj : j < len b
    · by_cases hr : rune b j = 0
      · rw [utfFrom_bad b j h0 hj hr] at h; cases h
      have hb := rune_bd b j
      have hle := rune_le b j hj
      rw [← utfFrom_step b j h0 hj (by omega)] at h
      have agr := rune_agr (s := b) (s' := a ++ b) (i := j) (i' := len a + j) h0 (by omega) (by omega) hj (by omega) (fun k x y => by
        rw [show len a + j + k = len a + (j + k) from by omega, byteAt_r (by omega)])
      rw [← utfFrom_step (a ++ b) (len a + j) (by omega) (by omega) (by rw [agr.1]; omega), agr.1, Int.add_assoc]
      exact utf_shift (j + rune b j) (by omega) h
    · exact utfFrom_end _ _ (by omega)
termination_by j => (len b - j).toNat
theorem utf_app {a b : Str} (hb : utf b = true) : ∀ (i : Int), 0 ≤ i → i ≤ len a → utfFrom a i = true → utfFrom (a ++ b) i = true
  | i, h0, h1, h => by
    have hl := len_app a b
    have hbn := len_nonneg b
    by_cases hi : i < len a
    · by_cases hr : rune a i = 0
      · rw [utfFrom_bad a i h0 hi hr] at h; cases h
      have hbd := rune_bd a i
      have hle := rune_le a i hi
      rw [← utfFrom_step a i h0 hi (by omega)] at h
      have agr := rune_agr (s := a) (s' := a ++ b) (i := i) (i' := i) h0 h0 (by omega) hi (by omega) (fun k x y => byteAt_l (by omega) (by omega))
      rw [← utfFrom_step (a ++ b) i h0 (by omega) (by rw [agr.1]; omega), agr.1]
      exact utf_app hb (i + rune a i) (by omega) hle h
    · have e : i = len a := by omega
      subst e
      have := utf_shift (a := a) (b := b) 0 (Int.le_refl 0) hb
      rwa [Int.add_zero] at this
termination_by i => (len a - i).toNat
theorem utf_one {s : Str} (hn : 0 < len s) (h : rune s 0 = len s) : utf s = true := by
  unfold utf
  rw [← utfFrom_step s 0 (Int.le_refl 0) hn (by omega)]
  exact utfFrom_end s (0 + rune s 0) (by omega)
theorem utf_enc (r : Int) : utf (toStr (Lib.encodeRuneZ r)) = true := by
  have b0 : ∀ (x : UInt8) (l : Str), byteAt (x :: l) 0 = (x.toNat : Int) := fun _ _ => rfl
  have b1 : ∀ (x y : UInt8) (l : Str), byteAt (x :: y :: l) (0 + 1) = (y.toNat : Int) := fun _ _ _ => rfl
  have b2 : ∀ (x y z : UInt8) (l : Str), byteAt (x :: y :: z :: l) (0 + 2) = (z.toNat : Int) := fun _ _ _ _ => rfl
  have b3 : ∀ (x y z u : UInt8) (l : Str), byteAt (x :: y :: z :: u :: l) (0 + 3) = (u.toNat : Int) := fun _ _ _ _ _ => rfl
  have l1 : ∀ (x : UInt8), len [x] = 1 := fun _ => rfl
  have l2 : ∀ (x y : UInt8), len [x, y] = 2 := fun _ _ => rfl
  have l3 : ∀ (x y z : UInt8), len [x, y, z] = 3 := fun _ _ _ => rfl
  have l4 : ∀ (x y z u : UInt8), len [x, y, z, u] = 4 := fun _ _ _ _ => rfl
  unfold Lib.encodeRuneZ
  split
  · refine utf_one (show (0 : Int) < 1 by decide) ?_
    show rune [UInt8.ofNat r.toNat] 0 = 1
    unfold rune
    rw [b0, u8_nat (by omega) (by omega)]
    dsimp only
    rw [if_pos (by omega)]
  split
  · refine utf_one (show (0 : Int) < 2 by decide) ?_
    show rune [UInt8.ofNat (192 + r / 64).toNat, UInt8.ofNat (128 + r % 64).toNat] 0 = 2
    unfold rune cont
    rw [b0, b1, l2, u8_nat (by omega) (by omega), u8_nat (by omega) (by omega)]
    dsimp only
    simp only [Bool.and_eq_true, decide_eq_true_eq]
    rw [if_neg (by omega), if_pos (by omega)]
  split
  · refine utf_one (show (0 : Int) < 3 by decide) ?_
    show rune [UInt8.ofNat (224 + r / 4096).toNat, UInt8.ofNat (128 + r / 64 % 64).toNat, UInt8.ofNat (128 + r % 64).toNat] 0 = 3
    unfold rune cont
    rw [b0, b1, b2, l3, u8_nat (by omega) (by omega), u8_nat (by omega) (by omega), u8_nat (by omega) (by omega)]
    dsimp only
    simp only [Bool.and_eq_true, Bool.or_eq_true, decide_eq_true_eq, beq_iff_eq]
    rw [if_neg (by omega), if_neg (by omega), if_pos (by omega), if_neg (by omega)]
  split
  · refine utf_one (show (0 : Int) < 4 by decide) ?_
    show rune [UInt8.ofNat (240 + r / 262144).toNat, UInt8.ofNat (128 + r / 4096 % 64).toNat, UInt8.ofNat (128 + r / 64 % 64).toNat, UInt8.ofNat (128 + r % 64).toNat] 0 = 4
    unfold rune cont
    rw [b0, b1, b2, b3, l4, u8_nat (by omega) (by omega), u8_nat (by omega) (by omega), u8_nat (by omega) (by omega), u8_nat (by omega) (by omega)]
    dsimp only
    simp only [Bool.and_eq_true, Bool.or_eq_true, decide_eq_true_eq, beq_iff_eq]
    rw [if_neg (by omega), if_neg (by omega), if_neg (by omega), if_pos (by omega), if_neg (by omega)]
  · decide +kernel
theorem utf_add {acc : List Int} (h : utf (toStr acc) = true) (r : Int) : utf (toStr (acc ++ Lib.encodeRuneZ r)) = true := by
  rw [toStr_app]
  exact utf_app (utf_enc r) 0 (Int.le_refl 0) (len_nonneg _) h
theorem utf_nil : utf [] = true := by decide +kernel
theorem unqGo_utf {s : Str} : ∀ (f : Nat) (i : Int) (acc : List Int), utf (toStr acc) = true → utf (unqGo f s i acc).1 = true
  | 0, _, _, _ => by unfold unqGo; exact utf_nil
  | f + 1, i, acc, h => by
    unfold unqGo
    split
    · split
      · exact h
      · split
        · split
          · exact utf_nil
          · exact unqGo_utf f _ _ (utf_add h _)
        · split
          · exact utf_nil
          · exact unqGo_utf f _ _ (utf_add h _)
    · exact utf_nil
theorem unq_utf (s : Str) : utf (unqP s).1 = true := by
  unfold unqP
  split
  · exact unqGo_utf _ _ _ utf_nil
  · exact utf_nil
theorem utf_low {s : Str} (h : ∀ j : Int, 0 ≤ j → j < len s → byteAt s j < 128) : ∀ i : Int, 0 ≤ i → utfFrom s i = true
  | i, h0 => by
    by_cases hi : i < len s
    · have hr : rune s i = 1 := by unfold rune; dsimp only; rw [if_pos (h i h0 hi)]
      rw [← utfFrom_step s i h0 hi (by omega), hr]
      exact utf_low h (i + 1) (by omega)
    · exact utfFrom_end _ _ hi
termination_by i => (len s - i).toNat

/-! ### What a text is read as can be written -/
theorem word_all (s : Str) : ∀ j : Int, 0 ≤ j → j < len (wordP s) → isWordR (byteAt (wordP s) j) (j == 0) = true := fun j a b => by
  have hb := wordTo_bd (s := s) (i := 0) (Int.le_refl 0) (len_nonneg s)
  rw [wordP_len] at b
  have := (wordTo_of (s := s) 0 (Int.le_refl 0)).1 j a b
  unfold wordP
  rw [byteAt_sub (Int.le_refl 0) a (by omega) hb.2, Int.zero_add]; exact this
theorem word_right {s : Str} (h : wordP s ≠ []) : word6 (wordP s) = true := word6_iff.2 ⟨h, word_all s⟩
theorem isWordR_lt {c : Int} {f : Bool} (h : isWordR c f = true) : c < 128 := by
  rcases Int.lt_or_le c 128 with x | x
  · exact x
  · rw [isWordR_high x] at h; cases h
theorem word_utf (s : Str) : utf (wordP s) = true := utf_low (fun j a b => isWordR_lt (word_all s j a b)) 0 (Int.le_refl 0)
theorem tok_right {s : Str} {t : Tk} {n : Int} (h : tokP s = (t, n, 0)) : right8 t = true := by
  have hno : (noNd = noNd) := rfl
  unfold tokP at h
  split at h
  · cases h; unfold right8; simp [word_utf]
  split at h
  · simp only [Prod.mk.injEq] at h
    rw [← h.1]; unfold right8; simp [unq_utf]
  split at h
  · rename_i hm
    cases h
    rcases markP_mem s with e | e
    · exact absurd e hm
    · unfold right8 isMark8; simp [e.1]
  split at h
  · rename_i hw
    cases h; unfold right8; simp [word_right hw]
  split at h
  · simp only [Prod.mk.injEq] at h
    rw [← h.1]; unfold right8; simp [unq_utf]
  split at h
  · split at h
    · rename_i hr
      simp only [Prod.mk.injEq] at h
      exact absurd h.2.2 hr
    · rename_i hr
      cases h
      have := (read_ok (runN s)).1 (by simpa using hr)
      unfold right8; simp [this]
  · simp at h
theorem tok_err {s : Str} {t : Tk} {n e : Int} (h : tokP s = (t, n, e)) : e = 0 ∨ e = 1 ∨ e = 2 := by
  have u1 := unqP_bd (from' s 1)
  have u2 := unqP_bd s
  have r := (read_ok (runN s)).2
  unfold tokP at h
  repeat' split at h
  all_goals (simp only [Prod.mk.injEq] at h; omega)

/-! ### A token's text is read as it -/
def Blk (r : Str) : Prop := r = [] ∨ ∃ q, r = 32 :: q
theorem Blk.stop {r : Str} (h : Blk r) (v : Str) : Stop v r := by
  rcases h with rfl | ⟨q, rfl⟩
  · exact .inl rfl
  · exact .inr (.inl ⟨by simp, rfl⟩)
theorem Lx.right8 {s : Str} {i : Int} {l : List Tk} (h : Lx s i l) : ∀ t ∈ l, Eng.right8 t = true := by
  induction h with
  | done _ _ => intro t ht; cases ht
  | @step i n t l _ _ h _ ih =>
    intro t' ht
    rcases List.mem_cons.1 ht with rfl | ht
    · have : Eng.right8 t = true := tok_right h
      exact this
    · exact ih t' ht
theorem LxE.err {s : Str} {i p e : Int} (h : LxE s i p e) : e = 1 ∨ e = 2 := by
  induction h with
  | here _ _ h he => have := tok_err h; omega
  | there _ _ _ _ ih => exact ih
/-! ### Bounds -/
theorem right_bd {t : Tk} (h : Eng.right8 t = true) (hl : len t.s ≤ 1048576) : TkB t := by
  have h0 : len t.c.s ≤ 1048576 ∧ -1000000 ≤ t.c.e ∧ t.c.e ≤ 1000000 := by
    unfold Eng.right8 at h
    have no : t.c = noNd → len t.c.s ≤ 1048576 ∧ -1000000 ≤ t.c.e ∧ t.c.e ≤ 1000000 := fun e => by rw [e]; decide
    split at h
    · simp only [Bool.and_eq_true, decide_eq_true_eq] at h; exact no h.2
    split at h
    · simp only [Bool.and_eq_true, decide_eq_true_eq] at h; exact no h.2
    split at h
    · simp only [Bool.and_eq_true, decide_eq_true_eq] at h; exact no h.2
    split at h
    · simp only [Bool.and_eq_true] at h
      obtain ⟨_, _, h1, h2, h3, _⟩ := right_open h.2
      omega
    · cases h
  exact ⟨hl, h0.1, fun _ => h0.2⟩
theorem enc_len (r : Int) : len (Lib.encodeRuneZ r) ≤ 4 := by
  unfold Lib.encodeRuneZ
  repeat' split
  all_goals (unfold len; simp)
theorem unqGo_len {s : Str} : ∀ (f : Nat) (i : Int) (acc : List Int), 0 ≤ i → i ≤ len s → len (unqGo f s i acc).1 ≤ len acc + 4 * (len s - i)
  | 0, i, acc, h0, h1 => by unfold unqGo; have := len_nonneg acc; rw [len_nil]; omega
  | f + 1, i, acc, h0, h1 => by
    have ha := len_nonneg acc
    have hn : len ([] : Str) = 0 := rfl
    have he := enc_len
    unfold unqGo
    split
    · rename_i hlt
      have hf := from_len s i h0 h1
      split
      · have : len (toStr acc) = len acc := by unfold toStr len; simp
        dsimp only; omega
      · split
        · have hb := escP_le (from' s i)
          split
          · dsimp only; omega
          · have := unqGo_len (s := s) f (i + (escP (from' s i)).2) (acc ++ Lib.encodeRuneZ (escP (from' s i)).1) (by omega) (by omega)
            have := he (escP (from' s i)).1
            rw [len_app] at *
            omega
        · split
          · dsimp only; omega
          · have hb := runeLen_bd h0 hlt
            rw [runeLen_from s i h0]
            have := unqGo_len (s := s) f (i + runeLen s i) (acc ++ Lib.encodeRuneZ (runeAt (from' s i) 0)) (by omega) (by omega)
            have := he (runeAt (from' s i) 0)
            rw [len_app] at *
            omega
    · dsimp only; omega
theorem unq_len (s : Str) : len (unqP s).1 ≤ 4 * len s := by
  have := len_nonneg s
  unfold unqP
  split
  · rename_i h
    have h1 : (1 : Int) ≤ len s := hasPrefix_len h
    have := unqGo_len (s := s) s.length 1 [] (by omega) h1
    rw [len_nil] at this; omega
  · show len ([] : Str) ≤ _
    rw [len_nil]; omega
theorem tok_len {s : Str} {t : Tk} {n : Int} (h : tokP s = (t, n, 0)) : len t.s ≤ 4 * len s + 2 := by
  have h0 := len_nonneg s
  have h1 := from_bd s 1
  have w1 := wordP_bd (from' s 1)
  have w2 := wordP_bd s
  have u1 := unq_len (from' s 1)
  have u2 := unq_len s
  have m1 : len (markP s) ≤ 2 := by
    rcases markP_mem s with e | e
    · rw [e]; decide
    · have : ∀ m ∈ marks8, len m ≤ 2 := by decide
      exact this _ e.1
  have n0 : len ([] : Str) = 0 := rfl
  unfold tokP at h
  repeat' split at h
  all_goals (simp only [Prod.mk.injEq] at h; first | (rw [← h.1]; dsimp only; omega) | (exfalso; omega))
theorem Lx.bd {s : Str} (hs : len s ≤ 100000) {i : Int} {l : List Tk} (h : Lx s i l) : (∀ t ∈ l, TkB t) ∧ (i ≤ len s → len l ≤ len s - i) := by
  induction h with
  | done _ _ => exact ⟨fun t ht => (by cases ht), fun x => by rw [len_nil]; omega⟩
  | @step i n t l h0 h1 h _ ih =>
    have hb := tok_bd' h0 h1 h
    have hbl := blankTo_bd s (i + n) (by omega) hb.2.1
    have hl := tok_len h
    have hf := from_len s i h0 (by omega)
    refine ⟨fun t' ht => ?_, fun x => ?_⟩
    · rcases List.mem_cons.1 ht with rfl | ht
      · have : TkB t := right_bd (tok_right h) (by omega)
        exact this
      · exact ih.1 t' ht
    · have := ih.2 hbl.2
      rw [len_cons]; omega
end Go.Eng
namespace Go.Eng

theorem right_num {t : Tk} (h : Eng.right8 t = true) (hk : t.kind = 5) : right1 t.c = true := by
  unfold Eng.right8 at h
  simp only [hk] at h
  simp at h
  exact h.2
theorem lexOk {s : Str} (hs : len s ≤ 100000) (h : (lexP s).2.2 = 0) : LexOk (lexP s).1 := by
  obtain ⟨l, h1, h2⟩ := lexP_ok h
  have hb := h1.bd hs
  have hr := h1.right8
  have hbl := blankTo_bd s 0 (Int.le_refl 0) (len_nonneg s)
  rw [h2]
  dsimp only
  have hll : len (l ++ [endTk s]) = len l + 1 := by rw [len_app]; rfl
  refine ⟨fun i h0 hi hk => ?_, fun t ht hk => ?_, fun t ht hk => ?_, fun t ht => ?_, ?_⟩
  · rw [hll] at hi ⊢
    rcases Int.lt_or_eq_of_le (show i ≤ len l by omega) with hl | hl
    · omega
    · exact absurd (by rw [at'_last l (endTk s) hl]; rfl) hk
  · rcases List.mem_append.1 ht with ht | ht
    · obtain ⟨_, hf, _⟩ := right_open (right_num (hr t ht) hk)
      exact hf
    · rw [List.mem_singleton.1 ht] at hk; exact absurd hk (by show ¬ (6 : Int) = 5; decide)
  · rcases List.mem_append.1 ht with ht | ht
    · have := hb.1 t ht
      exact ⟨this.2.1, by have := this.2.2 hk; omega⟩
    · rw [List.mem_singleton.1 ht] at hk; exact absurd hk (by show ¬ (6 : Int) = 5; decide)
  · rcases List.mem_append.1 ht with ht | ht
    · exact (hb.1 t ht).1
    · rw [List.mem_singleton.1 ht]; show len ([] : Str) ≤ _; decide
  · have := hb.2 hbl.2
    rw [hll]; omega
end Go.Eng
set_option maxRecDepth 100000
namespace Go.Proofs.YtmjpjbmeamnfpaaGreatDoor
open Go.Eng

abbrev resH (bx by' bz : Nat) (x y z : Value) : List HO := [.box bx [x] 23, .box by' [y] 3, .box bz [z] 26]
theorem pdef_ret {w0 wv : World} {M0 M : Mem} {Rs : List HO} (bx by' bz : Nat) (x y z : Value) (hS : St w0 M0 wv M (resH bx by' bz x y z ++ Rs)) :
    CallsD Tryz.prog 23 [.pointer (some ⟨bx, 0, none⟩), .pointer (some ⟨by', 0, none⟩), .pointer (some ⟨bz, 0, none⟩)].toArray .returning wv (fun e u' w' => e = .returned (.tuple #[]) ∧ u' = (recMode .returning).2 ∧ ∃ M', St w0 M0 w' M' (resH bx by' bz x y z ++ Rs) ∧ M.le M') := by
 refine xenterS (Hr := Rs) ttok Tryz.func23 rfl Tryz.ntmps23 rfl rfl rfl rfl (fun a w => rfl) [] [(0, .box bx [.v x] 23), (1, .box by' [.v y] 3), (2, .box bz [.v z] 26)] (.v .nilIface) [.bx 0 bx 0, .bx 1 by' 0, .bx 2 bz 0] rfl rfl hS fnil (fun B hB => ?_) rfl
 refine xpv (.tu [.ag [I 0, I 0], .v (.bool false)]) rfl (eok rfl) (by omega) rfl (fun w M hX => PV.assertsNo (opd_d (v := .v .nilIface) (E := []) rfl (eok rfl)) Tryz.underlying56 Tryz.zeroValue56) ?_
 refine xalloc 3 rfl (eok rfl) (by omega) Tryz.zeroValue56 rfl fun b3 => ?_
 refine xbr rfl (eok rfl) (by omega) (fun hb1 => ?_) (fun hb1 => ?_)
 ·cases hb1
 ·exact xendS hB rfl (eok rfl) (by omega) fun w M' hX => ⟨M', hX.sel [0, 1, 2] rfl, hX.le⟩
theorem pdef_pan {w0 wv : World} {M0 M : Mem} {Rs : List HO} (ec p : Int) (bx by' bz : Nat) (x y z : Value) (hS : St w0 M0 wv M (resH bx by' bz x y z ++ Rs)) :
    CallsD Tryz.prog 23 [.pointer (some ⟨bx, 0, none⟩), .pointer (some ⟨by', 0, none⟩), .pointer (some ⟨bz, 0, none⟩)].toArray (.panicking [wrongE 56 ec p]) wv (fun e u' w' => e = .returned (.tuple #[]) ∧ u' = (recMode (.panicking [wrongE 56 ec p])).2 ∧ ∃ M', St w0 M0 w' M' (resH bx by' bz (.slice none 0 0) (i64 p) (i64 ec) ++ Rs) ∧ M.le M') := by
 refine xenterS (Hr := Rs) ttok Tryz.func23 rfl Tryz.ntmps23 rfl rfl rfl rfl (fun a w => rfl) [] [(0, .box bx [.v x] 23), (1, .box by' [.v y] 3), (2, .box bz [.v z] 26)] (.v (.iface 56 (.agg #[i64 ec, i64 p]))) [.bx 0 bx 0, .bx 1 by' 0, .bx 2 bz 0] rfl rfl hS fnil (fun B hB => ?_) rfl
 refine xpv (.tu [.ag [I ec, I p], .v (.bool true)]) rfl (eok rfl) (by omega) rfl (fun w M hX => PV.asserts (v := .agg #[i64 ec, i64 p]) (opd_d (v := .v (.iface 56 (.agg #[i64 ec, i64 p]))) (E := []) rfl (eok rfl)) Tryz.underlying56) ?_
 refine xalloc 3 rfl (eok rfl) (by omega) Tryz.zeroValue56 rfl fun b3 => ?_
 refine xbr rfl (eok rfl) (by omega) (fun hb1 => ?_) (fun hb1 => ?_)
 ·refine xdrawO [4, 5, 6] 4 (fun _ _ _ _ _ h => h) rfl (eok rfl) (by omega) mixedK (by decide +kernel) ?_
  refine dg1 4 rfl (eok rfl) (by omega) rfl rfl ?_
  refine xstep rfl (eok rfl) (by omega) ?_
  refine dg1 5 rfl (eok rfl) (by omega) rfl rfl ?_
  refine xstep rfl (eok rfl) (by omega) ?_
  refine dg1 6 rfl (eok rfl) (by omega) rfl rfl ?_
  refine xstep rfl (eok rfl) (by omega) ?_
  refine dg0 rfl (eok rfl) (by omega) rfl rfl ?_
  exact xendS hB rfl (eok rfl) (by omega) fun w M' hX => ⟨M', hX.sel [0, 1, 2] rfl, hX.le⟩
 ·cases hb1
/-- What Parse hands back. -/
abbrev ParR (w : World) (M : Mem) (r : Fl × Int × Int) : Ending → World → Prop := MRet w M (fun h : SlH => .tuple #[h.v, i64 r.2.1, i64 r.2.2]) (fun _ => True) fun h => [(0, knT h.v r.1)]
theorem parseP_c (s : Str) (w : World) (M : Mem) (hM : Sat w M) (hg : Gl w) (hb : len s ≤ 100000) :
    Calls Tryz.prog 11 [str s].toArray w (ParR w M (parseF quoteP s)) := by
 refine xenterD (Hr := []) ttok Tryz.func11 rfl Tryz.ntmps11 [] [] [.v (str s)] rfl (St.start hM) fnil (fun B hB => ?_) rfl
 refine xalloc 0 rfl (eok rfl) (by omega) Tryz.zeroValue23 rfl fun bx => ?_
 refine xalloc 1 rfl (eok rfl) (by omega) Tryz.zeroValue3 rfl fun by' => ?_
 refine xalloc 2 rfl (eok rfl) (by omega) Tryz.zeroValue26 rfl fun bz => ?_
 refine xcallM (fun u : Value => .tu [.sl 3 u, I (lexP s).2.1, I (lexP s).2.2]) [3] (Fg := fun u => [(0, kn u 9 (lexP s).1 Tk.cells)]) (pu := fun _ => True) rfl (eok rfl) (by omega) rfl Tryz.call22 rfl rfl (eok rfl) (fun w M hX => (lexP_c M s w hX.st.sat (hg.low hX.st.low) (by omega)).mono fun e w' ⟨v, M', he, ⟨u, hv, hsl⟩, hgr⟩ => ⟨u, M', by rw [he, hv]; rfl, trivial, hgr, fc 0 hsl (fun _ => rfl) fnil⟩) (fun _ => rfl) fun v _ => ?_
 refine xbr rfl (eok rfl) (by omega) (fun hb1 => ?_) (fun hb1 => ?_) <;> simp only [zb] at hb1
 ·have e : parseF quoteP s = ([], (lexP s).2.1, (lexP s).2.2) := by unfold parseF; rw [if_pos hb1]
  rw [e] at hB
  refine xdrawO [2, 3, 4] 4 (fun _ _ _ _ _ h => h) rfl (eok rfl) (by omega) mixedK (by decide +kernel) ?_
  refine dg1 2 rfl (eok rfl) (by omega) rfl rfl ?_
  refine xstep rfl (eok rfl) (by omega) ?_
  refine dg1 3 rfl (eok rfl) (by omega) rfl rfl ?_
  refine xstep rfl (eok rfl) (by omega) ?_
  refine dg1 4 rfl (eok rfl) (by omega) rfl rfl ?_
  refine xstep rfl (eok rfl) (by omega) ?_
  refine dg0 rfl (eok rfl) (by omega) rfl rfl ?_
  exact xret hB.ends rfl rfl (eok rfl) (by omega) rfl (eok rfl) fun w M' hX => ⟨⟨none, 0, 0⟩, M', rfl, trivial, (hX.sel [] rfl).done, fcons ⟨Sl.nil M' 11, Tm.cells_len, trivial⟩ fnil⟩
 have hlx : (lexP s).2.2 = 0 := by omega
 have ok := lexOk hb hlx
 have hl1 : 0 < len (lexP s).1 := by
  obtain ⟨l, _, h2⟩ := lexP_ok hlx
  rw [h2]; dsimp only; rw [len_app]; have := len_nonneg l; show 0 < _ + (1 : Int); omega
 have ep : parseF quoteP s = parseA quoteP (lexP s).1 := by unfold parseF; rw [if_neg (fun q => q hlx)]
 rw [ep] at hB
 unfold parseA at hB
 refine xpv (.v (.func (.func 23) #[] #[.pointer (some ⟨bx, 0, none⟩), .pointer (some ⟨by', 0, none⟩), .pointer (some ⟨bz, 0, none⟩)])) rfl (eok rfl) (by omega) rfl (fun w M hX => PV.makeFunc (xs := []) (ys := [.tmp 2, .tmp 3, .tmp 4]) (vs := []) (us := [.pointer (some ⟨bx, 0, none⟩), .pointer (some ⟨by', 0, none⟩), .pointer (some ⟨bz, 0, none⟩)]) trivial ⟨opd_d (v := .bx 0 bx 0) (E := []) rfl (eok rfl), opd_d (v := .bx 1 by' 0) (E := []) rfl (eok rfl), opd_d (v := .bx 2 bz 0) (E := []) rfl (eok rfl), trivial⟩) ?_
 refine xdefer (fun _ _ _ _ h => h) (fun _ _ _ _ _ h => h) rfl (eok rfl) (by omega) rfl (eok rfl) rfl ?_
 refine xbox 4 rfl (eok rfl) (by omega) rfl rfl (eok rfl) fun b4 => ?_
 cases hr : filA quoteP (8 * (lexP s).1.length + 8) (lexP s).1 0 0 with
 | er ec p =>
  rw [hr] at hB
  refine xcallE [4] rfl (eok rfl) (by omega) rfl Tryz.call24 rfl (eok rfl) rfl (fun w M hS hF => (allW _).fil hr ⟨hS, (hF.get (k := 3) rfl).sl, hg, ok, by omega, hl1⟩ (by omega) (by omega) (by unfold len; omega) trivial) fun a w M hs hS hle => post_panic _ (hB.pan hs ?_)
  have hS2 : St _ _ w M (resH bx by' bz (.slice none 0 0) (i64 (lexP s).2.1) (i64 (lexP s).2.2) ++ []) := hS.perm (List.reverse_perm [_, _, _])
  refine leaves_one Tryz.call23 (fun h => by cases h) rfl (pdef_pan ec p bx by' bz _ _ _ hS2) fun w' ⟨M', hS', hle'⟩ => ⟨_, xresults ttok (H := [(0, .box bx [.v (.slice none 0 0)] 23), (1, .box by' [I p] 3), (2, .box bz [I ec] 26)]) (Hr := []) hS' hs rfl rfl (eok rfl), ?_⟩
  exact ⟨⟨none, 0, 0⟩, M', rfl, trivial, (hS'.drop [] (List.nil_sublist _)).done, fcons ⟨Sl.nil M' 11, Tm.cells_len, trivial⟩ fnil⟩
 | ok x j =>
  have g := (all_good ok quoteP _).fil 0 0 x j (by omega) hl1 hr
  have hlt := g.lt
  have hle := g.le
  have hfew := ok.few
  rw [hr] at hB
  dsimp only at hB
  refine xcallO [4] (fun h : SlH => .sl 5 h.v) [] (fun h => [(4, xBox b4 v j 0), (5, pvF h.v x.flat)]) rfl (eok rfl) (by omega) rfl Tryz.call24 rfl rfl (eok rfl) rfl (fun w M hS hF => (allW _).fil hr ⟨hS, (hF.get (k := 3) rfl).sl, hg, ok, by omega, hl1⟩ (by omega) (by omega) (by unfold len; omega) trivial) (fun _ => rfl) (fun _ => rfl) fun h5 _ => ?_
  refine xtell 5 rfl ?_
  refine xcallK [4] (xTk (at' (lexP s).1 j)) rfl (eok rfl) (by omega) Tryz.call25 rfl rfl (eok rfl) rfl (fun _ w M hS hF => now_c hS (hF.get (k := 3) rfl).sl (by omega) hle) rfl ?_
  refine xbr rfl (eok rfl) (by omega) (fun hb2 => ?_) (fun hb2 => ?_) <;> simp only [zb] at hb2
  ·rw [if_neg hb2] at hB
   refine xcallE [4] rfl (eok rfl) (by omega) rfl Tryz.call26 rfl (eok rfl) rfl (fun w M hS hF => failP_c 1 hS (hF.get (k := 3) rfl).sl (by omega) hle) fun a w M hs hS hle => post_panic _ (hB.pan hs ?_)
   have hS2 : St _ _ w M (resH bx by' bz h5.v (i64 (lexP s).2.1) (i64 (lexP s).2.2) ++ []) := hS.perm (List.reverse_perm [_, _, _])
   refine leaves_one Tryz.call23 (fun h => by cases h) rfl (pdef_pan 1 (at' (lexP s).1 j).pos bx by' bz _ _ _ hS2) fun w' ⟨M', hS', hle'⟩ => ⟨_, xresults ttok (H := [(0, .box bx [.v (.slice none 0 0)] 23), (1, .box by' [I (at' (lexP s).1 j).pos] 3), (2, .box bz [I 1] 26)]) (Hr := []) hS' hs rfl rfl (eok rfl), ?_⟩
   exact ⟨⟨none, 0, 0⟩, M', rfl, trivial, (hS'.drop [] (List.nil_sublist _)).done, fcons ⟨Sl.nil M' 11, Tm.cells_len, trivial⟩ fnil⟩
  ·rw [if_pos (by omega)] at hB
   refine xretD hB rfl (eok rfl) (by omega) fun a w M hs hX => leaves_one Tryz.call23 (fun h => by cases h) rfl (pdef_ret bx by' bz _ _ _ (hX.sel [0, 1, 2] rfl)) fun w' ⟨M', hS', hle'⟩ => ⟨_, xresults ttok (H := [(0, .box bx [.sl 5 h5.v] 23), (1, .box by' [I 0] 3), (2, .box bz [I 0] 26)]) (Hr := []) hS' hs rfl rfl (eok rfl), ?_⟩
   exact ⟨h5, M', rfl, trivial, (hS'.drop [] (List.nil_sublist _)).done, fcons ((hX.f.get (k := 5) rfl).mono hle') fnil⟩
end Go.Proofs.YtmjpjbmeamnfpaaGreatDoor
namespace Go.Eng
open Go.RowKit

/-- What stands from a place on. -/
def At (s : Str) (i : Int) (u : Str) : Prop := 0 ≤ i ∧ i ≤ len s ∧ from' s i = u
theorem At.add {s : Str} {i : Int} {u r : Str} (h : At s i (u ++ r)) : At s (i + len u) r := by
  obtain ⟨h0, h1, h2⟩ := h
  have hl := from_len s i h0 h1
  rw [h2, len_app] at hl
  have h3 := len_nonneg u; have h4 := len_nonneg r
  refine ⟨by omega, by omega, ?_⟩
  rw [← from_from s i (len u) h0 h3, h2]
  unfold from' len; simp
theorem At.one {s : Str} {i : Int} {c : UInt8} {r : Str} (h : At s i (c :: r)) : At s (i + 1) r := At.add (u := [c]) h
theorem At.lt {s : Str} {i : Int} {c : UInt8} {r : Str} (h : At s i (c :: r)) : i < len s := by
  have hl := from_len s i h.1 h.2.1
  rw [h.2.2, len_cons] at hl
  have := len_nonneg r; omega
theorem At.byte {s : Str} {i : Int} {c : UInt8} {r : Str} (h : At s i (c :: r)) : byteAt s i = (c.toNat : Int) := by
  obtain ⟨b, h1, h2⟩ := from_cons s i h.1 h.lt
  rw [h.2.2] at h1
  rw [h2, (List.cons.inj h1).1]
def stopB (r : Str) : Prop := ∀ c r', r = c :: r' → isBlankB c = false
theorem At.blank {s : Str} {i : Int} {b r : Str} (h : At s i (b ++ r)) (hb : ∀ c ∈ b, isBlankB c = true) (hr : stopB r) : blankTo s i = i + len b := by
  unfold blankTo
  rw [h.2.2]
  have : (b ++ r).takeWhile isBlankB = b := by
    induction b with
    | nil =>
      cases r with
      | nil => rfl
      | cons c r => rw [List.nil_append, List.takeWhile_cons, hr c r rfl]; rfl
    | cons a b ih =>
      rw [List.cons_append, List.takeWhile_cons, hb a List.mem_cons_self]
      show a :: _ = _
      have key : ∀ (b r : Str), (∀ c ∈ b, isBlankB c = true) → stopB r → (b ++ r).takeWhile isBlankB = b := by
        intro b
        induction b with
        | nil => intro r _ hr; cases r with | nil => rfl | cons c r => rw [List.nil_append, List.takeWhile_cons, hr c r rfl]; rfl
        | cons a b ih2 => intro r hb2 hr; rw [List.cons_append, List.takeWhile_cons, hb2 a List.mem_cons_self, if_pos rfl, ih2 r (fun c hc => hb2 c (List.mem_cons_of_mem _ hc)) hr]
      rw [key b r (fun c hc => hb c (List.mem_cons_of_mem _ hc)) hr]
  rw [this]
theorem At.noblank {s : Str} {i : Int} {r : Str} (h : At s i r) (hr : stopB r) : blankTo s i = i := by
  have := At.blank (b := []) h (fun c hc => by cases hc) hr
  rw [len_nil] at this; omega
end Go.Eng
namespace Go.Eng
open Go.RowKit

/-! ### tokens -/
def mkT (m : Str) (i : Int) : Tk := ⟨1, m, noNd, i⟩
def wdT (m : Str) (i : Int) : Tk := ⟨2, m, noNd, i⟩
/-- Not a letter, nor a mark of a text. -/
def quietB (r : Str) : Prop := ∀ c r', r = c :: r' → isBlankB c = false ∧ isWordR (c.toNat : Int) false = false ∧ c ≠ 34
theorem quietB.stop {r : Str} (h : quietB r) : stopB r := fun c r' e => (h c r' e).1
theorem tokP_mark {c : UInt8} (hc : c ∈ ([40, 41, 91, 93, 123, 125, 58, 44, 124] : Str)) (u : Str) : tokP (c :: u) = (⟨1, [c], noNd, 0⟩, 1, 0) := by
  have key : ∀ c ∈ ([40, 41, 91, 93, 123, 125, 58, 44, 124] : Str), (c.toNat : Int) ≠ 46 ∧ markP (c :: u) = [c] := by
    intro c hc
    simp only [List.mem_cons, List.not_mem_nil, or_false] at hc
    rcases hc with rfl | rfl | rfl | rfl | rfl | rfl | rfl | rfl | rfl <;> exact ⟨by decide, rfl⟩
  obtain ⟨h1, h2⟩ := key c hc
  unfold tokP
  rw [byteAt_cons0, if_neg (fun h => h1 h.1), if_neg (fun h => h1 h.1), h2, if_pos (by simp)]
  rfl
theorem word_none {u : Str} (h : ∀ c r, u = c :: r → isLetter (c.toNat : Int) = false) : wordP u = [] := by
  cases u with
  | nil => exact word_nil (by rw [byteAt_nil]; decide)
  | cons c r => exact word_nil (by rw [byteAt_cons0]; exact h c r rfl)
theorem tokP_dot {u : Str} (hu : quietB u) : tokP (46 :: u) = (⟨1, [46], noNd, 0⟩, 1, 0) := by
  have hw : wordP u = [] := word_none fun c r e => by
    have := (hu c r e).2.1
    unfold isWordR at this
    simp only [Bool.or_eq_false_iff] at this; exact this.1
  have hq : Lib.hasPrefix u [34] = false := by
    cases u with
    | nil => rfl
    | cons c r =>
      have := (hu c r rfl).2.2
      unfold Lib.hasPrefix
      simp [List.isPrefixOf, Ne.symm this]
  have hm : markP (46 :: u) = [46] := rfl
  unfold tokP
  rw [byteAt_cons0, from1, if_neg (fun h => h.2 hw), if_neg (fun h => by rw [hq] at h; exact absurd h.2 (by decide)), hm, if_pos (by simp)]
  rfl
theorem word_of {w u : Str} (hw : w ≠ []) (h0 : ∀ j : Int, 0 ≤ j → j < len w → isWordR (byteAt w j) (j == 0) = true) (hu : ∀ c r, u = c :: r → isWordR (c.toNat : Int) false = false) : wordP (w ++ u) = w := by
  have hl := len_pos hw
  have hlu := len_nonneg u
  have e : wordTo (w ++ u) 0 = len w := by
    refine wordTo_is (n := len w) (by rw [len_app]; omega) (fun j h1 h2 => by rw [byteAt_l h1 h2]; exact h0 j h1 h2) (fun h => ?_) 0 (Int.le_refl _) (by omega)
    rw [byteAt_r' (Int.le_refl _), Int.sub_self]
    cases u with
    | nil => rw [len_app, len_nil] at h; omega
    | cons c r => rw [byteAt_cons0]; rw [show (len w == 0) = false from by simpa using (by omega : len w ≠ 0)]; exact hu c r rfl
  unfold wordP
  rw [e, sub_app]
theorem tokP_word {c : UInt8} {w u : Str} (h0 : ∀ j : Int, 0 ≤ j → j < len (c :: w) → isWordR (byteAt (c :: w) j) (j == 0) = true) (hu : ∀ c r, u = c :: r → isWordR (c.toNat : Int) false = false) : tokP (c :: w ++ u) = (⟨2, c :: w, noNd, 0⟩, len (c :: w), 0) := by
  have hw := word_of (u := u) (List.cons_ne_nil c w) h0 hu
  have hl : isLetter (c.toNat : Int) = true := by
    have := h0 0 (Int.le_refl _) (by rw [len_cons]; have := len_nonneg w; omega)
    rw [byteAt_cons0] at this
    unfold isWordR at this; simpa using this
  have hb := isLetter_mark hl
  have hm : markP (c :: (w ++ u)) = [] := mark_nil hb
  have h46 : ¬ (c.toNat : Int) = 46 := by
    intro e
    have : c = 46 := UInt8.toNat_inj.1 (by rw [show (46 : UInt8).toNat = 46 from rfl]; omega)
    subst this; exact absurd hb (by decide)
  unfold tokP
  rw [List.cons_append, byteAt_cons0, if_neg (fun h => h46 h.1), if_neg (fun h => h46 h.1), hm, if_neg (by simp)]
  rw [← List.cons_append, hw, if_pos (by simp)]
theorem Lx.at {s : Str} {i : Int} {u r : Str} {t : Tk} {l : List Tk} (h : At s i (u ++ r)) (hu : u ≠ []) (ht : tokP (u ++ r) = (t, len u, 0)) (hl : Lx s (blankTo s (i + len u)) l) : Lx s i ({ t with pos := i } :: l) := by
  have h1 := (At.add h).2.1
  have h2 := len_pos hu
  have h3 := h.1
  refine .step (n := len u) h3 (by omega) ?_ hl
  rw [h.2.2]; exact ht
theorem Lx.mark {s : Str} {i : Int} {c : UInt8} {b r : Str} {l : List Tk} (h : At s i (c :: (b ++ r))) (hc : c ∈ ([40, 41, 91, 93, 123, 125, 58, 44, 124] : Str)) (hb : ∀ c ∈ b, isBlankB c = true) (hr : stopB r) (hl : Lx s (i + 1 + len b) l) : Lx s i (mkT [c] i :: l) := by
  have := Lx.at (u := [c]) (t := ⟨1, [c], noNd, 0⟩) h (by simp) (tokP_mark hc _) (by rw [show len [c] = 1 from rfl, At.blank (At.one h) hb hr]; exact hl)
  exact this
theorem Lx.word {s : Str} {i : Int} {c : UInt8} {w b r : Str} {l : List Tk} (h : At s i (c :: w ++ (b ++ r))) (h0 : ∀ j : Int, 0 ≤ j → j < len (c :: w) → isWordR (byteAt (c :: w) j) (j == 0) = true) (hu : ∀ c r', b ++ r = c :: r' → isWordR (c.toNat : Int) false = false) (hb : ∀ c ∈ b, isBlankB c = true) (hr : stopB r) (hl : Lx s (i + len (c :: w) + len b) l) : Lx s i (wdT (c :: w) i :: l) := by
  have := Lx.at (t := ⟨2, c :: w, noNd, 0⟩) h (by simp) (tokP_word h0 hu) (by rw [At.blank (At.add h) hb hr]; exact hl)
  exact this
theorem Lx.dot {s : Str} {i : Int} {r : Str} {l : List Tk} (h : At s i (46 :: r)) (hr : quietB r) (hl : Lx s (i + 1) l) : Lx s i (mkT [46] i :: l) := by
  have := Lx.at (u := [46]) (t := ⟨1, [46], noNd, 0⟩) h (by simp) (tokP_dot hr) (by rw [show len [(46 : UInt8)] = 1 from rfl, At.noblank (At.one h) hr.stop]; exact hl)
  exact this
/-! ### the text -/
def opnS (kd : Int) : Str := if kd = 0 then [40] else if kd = 1 then [91] else if kd = 2 then [123, 97, 58, 32] else [109, 97, 112, 40]
def shtS (kd : Int) : Str := if kd = 0 then [41] else if kd = 1 then [93] else if kd = 2 then [125] else [41]
def nestF (kd : Int) : Nat → Str
  | 0 => [46]
  | k + 1 => opnS kd ++ nestF kd k ++ shtS kd
def opnT (kd i : Int) : List Tk := if kd = 0 then [mkT [40] i] else if kd = 1 then [mkT [91] i] else if kd = 2 then [mkT [123] i, wdT [97] (i + 1), mkT [58] (i + 2)] else [wdT [109, 97, 112] i, mkT [40] (i + 3)]
def nestK (kd : Int) : Nat → Int → List Tk
  | 0, i => [mkT [46] i]
  | k + 1, i => opnT kd i ++ (nestK kd k (i + len (opnS kd)) ++ [mkT (shtS kd) (i + len (opnS kd) + len (nestF kd k))])
theorem nestF_head (kd : Int) (k : Nat) (r : Str) : ∃ c q, nestF kd k ++ r = c :: q ∧ isBlankB c = false := by
  cases k with
  | zero => exact ⟨46, r, rfl, rfl⟩
  | succ k =>
    unfold nestF opnS
    split
    · exact ⟨_, _, rfl, rfl⟩
    split
    · exact ⟨_, _, rfl, rfl⟩
    split
    · exact ⟨_, _, rfl, rfl⟩
    · exact ⟨_, _, rfl, rfl⟩
theorem nestF_stop (kd : Int) (k : Nat) (r : Str) : stopB (nestF kd k ++ r) := by
  obtain ⟨c, q, h, hb⟩ := nestF_head kd k r
  intro x y e; rw [h] at e; rw [← (List.cons.inj e).1]; exact hb
theorem sht_quiet (kd : Int) (r : Str) : quietB (shtS kd ++ r) := by
  unfold shtS
  intro c q e
  split at e
  · rw [← (List.cons.inj e).1]; decide
  split at e
  · rw [← (List.cons.inj e).1]; decide
  split at e
  · rw [← (List.cons.inj e).1]; decide
  · rw [← (List.cons.inj e).1]; decide
theorem word_a : ∀ j : Int, 0 ≤ j → j < len ([97] : Str) → isWordR (byteAt [97] j) (j == 0) = true := by
  intro j h0 h1
  have h1 : j < 1 := h1
  have : j = 0 := by omega
  subst this; rfl
theorem opn_lex {kd : Int} {s : Str} {i : Int} {r : Str} {l : List Tk} (h : At s i (opnS kd ++ r)) (hr : stopB r) (hl : Lx s (i + len (opnS kd)) l) : Lx s i (opnT kd i ++ l) := by
  unfold opnS at h hl
  unfold opnT
  split
  · rename_i e; rw [if_pos e] at h hl
    exact Lx.mark (b := []) h (by decide) (fun c hc => by cases hc) hr (by rw [len_nil, Int.add_zero]; exact hl)
  rename_i e0; rw [if_neg e0] at h hl
  split
  · rename_i e; rw [if_pos e] at h hl
    exact Lx.mark (b := []) h (by decide) (fun c hc => by cases hc) hr (by rw [len_nil, Int.add_zero]; exact hl)
  rename_i e1; rw [if_neg e1] at h hl
  split
  · rename_i e; rw [if_pos e] at h hl
    have h2 := At.one h
    have h3 := At.one h2
    refine Lx.mark (b := []) h (by decide) (fun c hc => by cases hc) (fun x y e => by rw [← (List.cons.inj e).1]; rfl) ?_
    rw [len_nil, Int.add_zero]
    refine Lx.word (c := 97) (w := []) (b := []) h2 word_a (fun x y e => by rw [← (List.cons.inj e).1]; rfl) (fun c hc => by cases hc) (fun x y e => by rw [← (List.cons.inj e).1]; rfl) ?_
    rw [len_nil, Int.add_zero, show len [(97 : UInt8)] = 1 from rfl]
    have := Lx.mark (c := 58) (b := [32]) (l := l) h3 (by decide) (by decide) hr (by rw [show i + 1 + 1 + 1 + len [(32 : UInt8)] = i + 4 from by rw [show len [(32 : UInt8)] = 1 from rfl]; omega]; exact hl)
    rw [show i + 1 + 1 = i + 2 by omega] at this ⊢; exact this
  · rename_i e; rw [if_neg e] at h hl
    have h3 : At s (i + 3) (40 :: r) := At.add (u := [109, 97, 112]) h
    refine Lx.word (c := 109) (w := [97, 112]) (b := []) h (fun j h0 h1 => ?_) (fun x y e => by rw [← (List.cons.inj e).1]; rfl) (fun c hc => by cases hc) (fun x y e => by rw [← (List.cons.inj e).1]; rfl) ?_
    · have h1 : j < 3 := h1
      rcases (by omega : j = 0 ∨ j = 1 ∨ j = 2) with rfl | rfl | rfl <;> rfl
    · rw [len_nil, Int.add_zero, show len [(109 : UInt8), 97, 112] = 3 from rfl]
      exact Lx.mark (b := []) h3 (by decide) (fun c hc => by cases hc) hr (by rw [len_nil]; rw [show i + 3 + 1 + 0 = i + 4 by omega]; exact hl)
theorem sht_lex {kd : Int} {s : Str} {i : Int} {r : Str} {l : List Tk} (h : At s i (shtS kd ++ r)) (hr : stopB r) (hl : Lx s (i + 1) l) : Lx s i (mkT (shtS kd) i :: l) := by
  unfold shtS at h ⊢
  split
  · rename_i e; rw [if_pos e] at h; exact Lx.mark (b := []) h (by decide) (fun c hc => by cases hc) hr (by rw [len_nil, Int.add_zero]; exact hl)
  rename_i e0; rw [if_neg e0] at h
  split
  · rename_i e; rw [if_pos e] at h; exact Lx.mark (b := []) h (by decide) (fun c hc => by cases hc) hr (by rw [len_nil, Int.add_zero]; exact hl)
  rename_i e1; rw [if_neg e1] at h
  split
  · rename_i e; rw [if_pos e] at h; exact Lx.mark (b := []) h (by decide) (fun c hc => by cases hc) hr (by rw [len_nil, Int.add_zero]; exact hl)
  · rename_i e; rw [if_neg e] at h; exact Lx.mark (b := []) h (by decide) (fun c hc => by cases hc) hr (by rw [len_nil, Int.add_zero]; exact hl)
theorem sht_len (kd : Int) : len (shtS kd) = 1 := by
  unfold shtS
  split
  · rfl
  split
  · rfl
  split
  · rfl
  · rfl
theorem nest_lex {kd : Int} {s : Str} : ∀ (k : Nat) {i : Int} {r : Str} {l : List Tk}, At s i (nestF kd k ++ r) → quietB r → Lx s (i + len (nestF kd k)) l → Lx s i (nestK kd k i ++ l)
  | 0, i, r, l, h, hr, hl => Lx.dot h hr hl
  | k + 1, i, r, l, h, hr, hl => by
    unfold nestF at h hl
    rw [List.append_assoc, List.append_assoc] at h
    have h2 := At.add h
    have h3 := At.add h2
    unfold nestK
    rw [List.append_assoc, List.append_assoc]
    refine opn_lex h (nestF_stop kd k _) (nest_lex k h2 (sht_quiet kd r) ?_)
    refine sht_lex h3 hr.stop ?_
    rw [len_app, len_app, sht_len] at hl
    rw [show i + len (opnS kd) + len (nestF kd k) + 1 = i + (len (opnS kd) + len (nestF kd k) + 1) by omega]; exact hl
theorem nest_tokens (kd : Int) (k : Nat) : lexP (nestF kd k) = (nestK kd k 0 ++ [endTk (nestF kd k)], 0, 0) := by
  have h0 : At (nestF kd k) 0 (nestF kd k ++ []) := ⟨Int.le_refl 0, len_nonneg _, by rw [List.append_nil]; rfl⟩
  have hb := At.noblank h0 (nestF_stop kd k [])
  have := nest_lex k (l := []) h0 (fun c r e => by cases e) (.done (by have := len_nonneg (nestF kd k); omega) (by omega))
  rw [List.append_nil] at this
  exact Lx.lex (by rw [hb]; exact this)
end Go.Eng
