/-
  TOKENS FROM A PLACE ON, as a relation: which ones there are; or where there are none. What lex answers is read off it. Plain: no program in it.
-/
import Derived.Test.YthdialbnlnjgpaaGreatDoorStab
set_option linter.unusedVariables false
set_option linter.unusedSimpArgs false
namespace Go.Eng
open Go.RowKit

/-- The tokens from a place on, but for the end's. -/
inductive Lx (s : Str) : Int → List Tk → Prop
  | done {i : Int} : 0 ≤ i → ¬ i < len s → Lx s i []
  | step {i n : Int} {t : Tk} {l : List Tk} : 0 ≤ i → i < len s → tokP (from' s i) = (t, n, 0) → Lx s (blankTo s (i + n)) l → Lx s i ({ t with pos := i } :: l)
/-- From a place on there are none: where, and why. -/
inductive LxE (s : Str) : Int → Int → Int → Prop
  | here {i n e : Int} {t : Tk} : 0 ≤ i → i < len s → tokP (from' s i) = (t, n, e) → e ≠ 0 → LxE s i (i + n) e
  | there {i n p e : Int} {t : Tk} : 0 ≤ i → i < len s → tokP (from' s i) = (t, n, 0) → LxE s (blankTo s (i + n)) p e → LxE s i p e
theorem tok_bd' {s : Str} {i n e : Int} {t : Tk} (h0 : 0 ≤ i) (h1 : i < len s) (h : tokP (from' s i) = (t, n, e)) : 0 ≤ n ∧ i + n ≤ len s ∧ (e = 0 → 1 ≤ n) ∧ (e = 0 ∨ e = 1 ∨ e = 2 ∨ e = 4) := by
  have hl := from_len s i h0 (by omega)
  have := tokP_bd (s := from' s i) (by omega)
  rw [h] at this
  dsimp only at this
  omega
theorem lex_cases {s : Str} : ∀ (f : Nat) (i : Int) (acc : List Tk), 0 ≤ i → (len s - i).toNat ≤ f →
    (∃ l, Lx s i l ∧ lexGo f s i acc = (acc ++ l ++ [endTk s], 0, 0)) ∨ (∃ p e, LxE s i p e ∧ lexGo f s i acc = ([], p, e))
  | 0, i, acc, h0, hf => .inl ⟨[], .done h0 (by omega), by unfold lexGo; simp⟩
  | f + 1, i, acc, h0, hf => by
    by_cases h1 : i < len s
    · obtain ⟨t, n, e, ht⟩ : ∃ t n e, tokP (from' s i) = (t, n, e) := ⟨_, _, _, rfl⟩
      have hb := tok_bd' h0 h1 ht
      rw [lexGo_eq hf h1, ht]
      dsimp only
      by_cases he : e = 0
      · subst he
        have hbl := blankTo_bd s (i + n) (by omega) (by omega)
        rw [if_neg (by simp)]
        rcases lex_cases (s := s) f (blankTo s (i + n)) (acc ++ [{ t with pos := i }]) (by omega) (by omega) with ⟨l, h2, h3⟩ | ⟨p, e, h2, h3⟩
        · exact .inl ⟨_, .step h0 h1 ht h2, by rw [Nat.add_sub_cancel, h3]; simp⟩
        · exact .inr ⟨p, e, .there h0 h1 ht h2, by rw [Nat.add_sub_cancel, h3]⟩
      · rw [if_pos he]
        exact .inr ⟨_, _, .here h0 h1 ht he, rfl⟩
    · exact .inl ⟨[], .done h0 h1, by rw [lexGo_end h1]; simp⟩
theorem LxE.bd {s : Str} {i p e : Int} (h : LxE s i p e) : i ≤ p ∧ p ≤ len s ∧ (e = 1 ∨ e = 2 ∨ e = 4) := by
  induction h with
  | here h0 h1 h he => have := tok_bd' h0 h1 h; omega
  | @there i n p e t h0 h1 h _ ih =>
    have hb := tok_bd' h0 h1 h
    have := blankTo_bd s (i + n) (by omega) hb.2.1
    omega
theorem Lx.go {s : Str} {i : Int} {l : List Tk} (h : Lx s i l) : ∀ (f : Nat) (acc : List Tk), (len s - i).toNat ≤ f → lexGo f s i acc = (acc ++ l ++ [endTk s], 0, 0) := by
  induction h with
  | done _ h1 => intro f acc _; rw [lexGo_end h1]; simp
  | @step i n t l h0 h1 h _ ih =>
    intro f acc hf
    have hb := tok_bd' h0 h1 h
    have hbl := blankTo_bd s (i + n) (by omega) hb.2.1
    rw [lexGo_eq hf h1, h]
    dsimp only
    rw [if_neg (by simp), ih _ _ (by omega)]
    simp
theorem LxE.go {s : Str} {i p e : Int} (h : LxE s i p e) : ∀ (f : Nat) (acc : List Tk), (len s - i).toNat ≤ f → lexGo f s i acc = ([], p, e) := by
  induction h with
  | here h0 h1 h he => intro f acc hf; rw [lexGo_eq hf h1, h]; dsimp only; rw [if_pos he]
  | @there i n p e t h0 h1 h _ ih =>
    intro f acc hf
    have hb := tok_bd' h0 h1 h
    have hbl := blankTo_bd s (i + n) (by omega) hb.2.1
    rw [lexGo_eq hf h1, h]
    dsimp only
    rw [if_neg (by simp), ih _ _ (by omega)]
theorem start_fuel (s : Str) : (len s - blankTo s 0).toNat ≤ s.length := by
  have := blankTo_bd s 0 (Int.le_refl 0) (len_nonneg s)
  unfold len at *; omega
theorem lexP_cases (s : Str) : (∃ l, Lx s (blankTo s 0) l ∧ lexP s = (l ++ [endTk s], 0, 0)) ∨ (∃ p e, LxE s (blankTo s 0) p e ∧ lexP s = ([], p, e)) := by
  have := lex_cases (s := s) s.length (blankTo s 0) [] (blankTo_bd s 0 (Int.le_refl 0) (len_nonneg s)).1 (start_fuel s)
  simp only [List.nil_append] at this
  exact this
theorem Lx.lex {s : Str} {l : List Tk} (h : Lx s (blankTo s 0) l) : lexP s = (l ++ [endTk s], 0, 0) := by
  have := h.go s.length [] (start_fuel s)
  rwa [List.nil_append] at this
theorem LxE.lex {s : Str} {p e : Int} (h : LxE s (blankTo s 0) p e) : lexP s = ([], p, e) := h.go s.length [] (start_fuel s)
theorem lexP_ok {s : Str} (h : (lexP s).2.2 = 0) : ∃ l, Lx s (blankTo s 0) l ∧ lexP s = (l ++ [endTk s], 0, 0) := by
  rcases lexP_cases s with h1 | ⟨p, e, h1, h2⟩
  · exact h1
  · rw [h2] at h; have := h1.bd; dsimp only at h; omega
theorem lexP_bad {s : Str} (h : ¬ (lexP s).2.2 = 0) : ∃ p e, LxE s (blankTo s 0) p e ∧ lexP s = ([], p, e) := by
  rcases lexP_cases s with ⟨l, h1, h2⟩ | h1
  · rw [h2] at h; exact absurd rfl h
  · exact h1

theorem Lx.size {s : Str} {i : Int} {l : List Tk} (h : Lx s i l) : i ≤ len s → len l ≤ len s - i := by
  induction h with
  | done _ _ => intro x; rw [len_nil]; omega
  | @step i n t l h0 h1 h _ ih =>
    intro x
    have hb := tok_bd' h0 h1 h
    have hbl := blankTo_bd s (i + n) (by omega) hb.2.1
    have := ih hbl.2
    rw [len_cons]; omega
theorem lexP_size (s : Str) : len (lexP s).1 ≤ len s + 1 := by
  have hb := blankTo_bd s 0 (Int.le_refl 0) (len_nonneg s)
  rcases lexP_cases s with ⟨l, h1, h2⟩ | ⟨p, e, _, h2⟩
  · have := h1.size hb.2
    rw [h2, len_app]
    show len l + 1 ≤ _
    omega
  · rw [h2]; show (0 : Int) ≤ _; have := len_nonneg s; omega
/-! ### Blanks -/
theorem blankTo_from {s : Str} {i : Int} (h0 : 0 ≤ i) : blankTo s i = i + blankTo (from' s i) 0 := by
  unfold blankTo; rw [from_zero]; omega
theorem blankTo_nil : blankTo [] 0 = 0 := rfl
theorem blankTo_cons {b : UInt8} {r : Str} (h : isBlank (b.toNat : Int) = true) : blankTo (b :: r) 0 = 1 + blankTo r 0 := by
  unfold blankTo
  rw [from_zero, from_zero, List.takeWhile_cons, show isBlankB b = true from h]
  simp [len]; omega
theorem blankTo_not {b : UInt8} {r : Str} (h : isBlank (b.toNat : Int) = false) : blankTo (b :: r) 0 = 0 := by
  unfold blankTo
  rw [from_zero, List.takeWhile_cons, show isBlankB b = false from h]
  simp [len]
/-- A token begins with no blank. -/
theorem tok_noblank {s : Str} {t : Tk} {n : Int} (h1 : 0 < len s) (h : tokP s = (t, n, 0)) : isBlank (byteAt s 0) = false := by
  cases hb : isBlank (byteAt s 0) with
  | false => rfl
  | true =>
    exfalso
    cases s with
    | nil => simp [len_nil] at h1
    | cons a l =>
      rw [byteAt_cons0] at hb
      have hf : ∀ n : Fin 256, isBlank (n.val : Int) = true → isMarkB (UInt8.ofNat n.val) = false ∧ isLetter (n.val : Int) = false ∧ ¬ (n.val : Int) = 46 ∧ ¬ (n.val : Int) = 34 ∧ ¬ ((n.val : Int) = 45 ∨ isFig (n.val : Int) = true) := by decide +kernel
      have hf' := hf ⟨a.toNat, a.toNat_lt⟩ hb
      simp only [UInt8.ofNat_toNat] at hf'
      obtain ⟨g1, g2, g3, g4, g5⟩ := hf'
      unfold tokP at h
      rw [byteAt_cons0, if_neg (fun x => g3 x.1), if_neg (fun x => g3 x.1), mark_nil g1, if_neg (fun x => x rfl), word_nil (s := a :: l) g2, if_neg (fun x => x rfl), if_neg g4, if_neg g5] at h
      simp at h
/-- Behind a token's bytes. -/
theorem tok_split {s : Str} {i n : Int} {t : Tk} (h0 : 0 ≤ i) (h1 : i < len s) (h : tokP (from' s i) = (t, n, 0)) :
    ∃ u v, from' s i = u ++ v ∧ len u = n ∧ u ≠ [] ∧ v = from' s (i + n) ∧ u = Eng.sub s i (i + n) ∧ tokP (u ++ v) = (t, len u, 0) := by
  have hb := tok_bd' h0 h1 h
  have hl := from_len s i h0 (by omega)
  have h2 := sub_from_split (s := from' s i) (n := n) (by omega) (by omega)
  rw [from_from s i n h0 (by omega), sub_from s i n h0 (by omega)] at h2
  exact ⟨_, _, h2.1, h2.2, fun e => by rw [e, len_nil] at h2; omega, rfl, rfl, by rw [← h2.1, h2.2]; exact h⟩
end Go.Eng
