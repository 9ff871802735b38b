/-
  THE PLAIN LAW OF LexJoined: two texts, with a blank between, have the tokens of both. No program in it.
-/
import Derived.Test.YthdialbnlnjgpaaGreatDoorLx
set_option linter.unusedVariables false
set_option linter.unusedSimpArgs false
namespace Go.Eng
open Go.RowKit

section joined
variable {a b : Str}
abbrev joinT (a b : Str) : Str := a ++ [32] ++ b
theorem joinT_eq : joinT a b = a ++ (32 :: b) := by simp [joinT]
theorem joinT_len : len (joinT a b) = len a + 1 + len b := by rw [joinT_eq, len_app, len_cons]; omega
theorem joinT_from {j : Int} (h : 0 ≤ j) : from' (joinT a b) (len a + 1 + j) = from' b j := by
  have e : joinT a b = (a ++ [32]) ++ b := rfl
  have hl : len (a ++ [32]) = len a + 1 := by rw [len_app]; rfl
  rw [e, ← from_from _ (len a + 1) j (by have := len_nonneg a; omega) h, ← hl, from_app]
theorem joinT_fromL {i : Int} (h0 : 0 ≤ i) (h1 : i ≤ len a) : from' (joinT a b) i = from' a i ++ (32 :: b) := by rw [joinT_eq, from_app' h0 h1]
theorem blank_right {j : Int} (h : 0 ≤ j) : blankTo (joinT a b) (len a + 1 + j) = len a + 1 + blankTo b j := by
  have := len_nonneg a
  rw [blankTo_from (by omega), joinT_from h, blankTo_from (s := b) h]; omega
theorem blank_mid : blankTo (joinT a b) (len a) = len a + 1 + blankTo b 0 := by
  rw [blankTo_from (len_nonneg a), joinT_fromL (len_nonneg a) (Int.le_refl _), show from' a (len a) = [] from from_nil a _ (Int.le_refl _), List.nil_append, blankTo_cons (by decide)]; omega
theorem blank_app (v : Str) : ∀ u : Str, blankTo (u ++ v) 0 = if blankTo u 0 < len u then blankTo u 0 else len u + blankTo v 0
  | [] => by rw [blankTo_nil, len_nil]; simp
  | x :: u => by
    rw [List.cons_append]
    have hl := len_nonneg u
    cases hx : isBlank (x.toNat : Int) with
    | true =>
      have := blank_app v u
      rw [blankTo_cons hx, blankTo_cons hx, this, len_cons]
      by_cases h : blankTo u 0 < len u
      · rw [if_pos h, if_pos (by omega)]
      · rw [if_neg h, if_neg (by omega)]; omega
    | false => rw [blankTo_not hx, blankTo_not hx, if_pos (by rw [len_cons]; omega)]
theorem blank_left {k : Int} (h0 : 0 ≤ k) (h1 : k ≤ len a) : blankTo (joinT a b) k = if blankTo a k < len a then blankTo a k else len a + 1 + blankTo b 0 := by
  have hl := from_len a k h0 h1
  rw [blankTo_from h0, joinT_fromL h0 h1, blank_app, blankTo_from (s := a) h0, blankTo_cons (by decide), hl]
  by_cases h : blankTo (from' a k) 0 < len a - k
  · rw [if_pos h, if_pos (by omega)]
  · rw [if_neg h, if_neg (by omega)]; omega
theorem tok_left {i n : Int} {t : Tk} (h0 : 0 ≤ i) (h1 : i < len a) (h : tokP (from' a i) = (t, n, 0)) : tokP (from' (joinT a b) i) = (t, n, 0) := by
  obtain ⟨u, v, e, hn, hu, _, _, ht⟩ := tok_split h0 h1 h
  rw [joinT_fromL h0 (by omega), e, List.append_assoc, ← hn]
  refine tok_stable hu ht ?_
  cases v with
  | nil => exact .inr (.inl ⟨by simp, rfl⟩)
  | cons c r => exact .inr (.inr ⟨by simp, by simp, rfl⟩)
/-- Where b's tokens begin. -/
abbrev midT (a b : Str) : Int := len a + 1 + blankTo b 0
abbrev atT (a b : Str) (i : Int) : Int := if i < len a then i else midT a b
theorem mid_bd : len a < midT a b := by
  have := blankTo_bd b 0 (Int.le_refl 0) (len_nonneg b)
  unfold midT; omega
theorem Lx.left {m : List Tk} (hm : Lx (joinT a b) (midT a b) m) {i : Int} {l : List Tk} (h : Lx a i l) : Lx (joinT a b) (atT a b i) (l ++ m) := by
  induction h with
  | done h0 h1 => unfold atT; rw [if_neg h1]; exact hm
  | @step i n t l h0 h1 h _ ih =>
    have hb := tok_bd' h0 h1 h
    have hbl := blankTo_bd a (i + n) (by omega) hb.2.1
    unfold atT
    rw [if_pos h1]
    refine .step h0 (by rw [joinT_len]; have := len_nonneg b; omega) (tok_left h0 h1 h) ?_
    rw [blank_left (by omega) hb.2.1]; exact ih
theorem LxE.left {p e : Int} (hm : LxE (joinT a b) (midT a b) p e) {i : Int} {l : List Tk} (h : Lx a i l) : LxE (joinT a b) (atT a b i) p e := by
  induction h with
  | done h0 h1 => unfold atT; rw [if_neg h1]; exact hm
  | @step i n t l h0 h1 h _ ih =>
    have hb := tok_bd' h0 h1 h
    unfold atT
    rw [if_pos h1]
    refine .there h0 (by rw [joinT_len]; have := len_nonneg b; omega) (tok_left h0 h1 h) ?_
    rw [blank_left (by omega) hb.2.1]; exact ih
def shiftT (k : Int) (t : Tk) : Tk := { t with pos := k + t.pos }
theorem Lx.right {i : Int} {l : List Tk} (h : Lx b i l) : Lx (joinT a b) (len a + 1 + i) (l.map (shiftT (len a + 1))) := by
  have ha := len_nonneg a
  induction h with
  | done h0 h1 => exact .done (by omega) (by rw [joinT_len]; omega)
  | @step i n t l h0 h1 h _ ih =>
    have hb := tok_bd' h0 h1 h
    refine Lx.step (t := t) (n := n) (by omega) (by rw [joinT_len]; omega) (by rw [joinT_from h0]; exact h) ?_
    rw [show len a + 1 + i + n = len a + 1 + (i + n) from by omega, blank_right (by omega)]; exact ih
theorem LxE.right {i p e : Int} (h : LxE b i p e) : LxE (joinT a b) (len a + 1 + i) (len a + 1 + p) e := by
  have ha := len_nonneg a
  induction h with
  | @here i n e t h0 h1 h he =>
    rw [show len a + 1 + (i + n) = len a + 1 + i + n from by omega]
    exact .here (by omega) (by rw [joinT_len]; omega) (by rw [joinT_from h0]; exact h) he
  | @there i n p e t h0 h1 h _ ih =>
    have hb := tok_bd' h0 h1 h
    refine LxE.there (t := t) (n := n) (by omega) (by rw [joinT_len]; omega) (by rw [joinT_from h0]; exact h) ?_
    rw [show len a + 1 + i + n = len a + 1 + (i + n) from by omega, blank_right (by omega)]; exact ih
theorem start_join : blankTo (joinT a b) 0 = atT a b (blankTo a 0) := by
  rw [blank_left (Int.le_refl 0) (len_nonneg a)]
theorem strip_shift (k : Int) (t : Tk) : strip false (shiftT k t) = strip false t := rfl
/-- Where both texts have tokens. -/
theorem joined_ok (ha : (lexP a).2.2 = 0) (hb : (lexP b).2.2 = 0) : (lexP (joinT a b)).2.2 = 0 ∧ sameTk (lexP (joinT a b)).1 (Eng.sub (lexP a).1 0 (len (lexP a).1 - 1) ++ (lexP b).1) false = true := by
  obtain ⟨l, h1, h2⟩ := lexP_ok ha
  obtain ⟨m, h3, h4⟩ := lexP_ok hb
  have h5 := Lx.left (Lx.right (a := a) h3) h1
  rw [← start_join] at h5
  rw [h5.lex, h2, h4]
  refine ⟨rfl, ?_⟩
  have e : Eng.sub (l ++ [endTk a]) 0 (len (l ++ [endTk a]) - 1) = l := by
    have : len (l ++ [endTk a]) - 1 = len l := by rw [len_app]; simp [len]
    rw [this]; unfold Eng.sub len; simp
  unfold sameTk
  dsimp only
  rw [e, decide_eq_true_eq]
  simp only [List.map_append, List.map_map]
  rw [show strip false ∘ shiftT (len a + 1) = strip false from funext (strip_shift _)]
  simp [strip, endTk]
/-- Where the second one has none. -/
theorem joined_bad (ha : (lexP a).2.2 = 0) (hb : ¬ (lexP b).2.2 = 0) : ¬ (lexP (joinT a b)).2.2 = 0 ∧ (lexP (joinT a b)).1 = [] := by
  obtain ⟨l, h1, h2⟩ := lexP_ok ha
  obtain ⟨p, e, h3, h4⟩ := lexP_bad hb
  have h5 := LxE.left (LxE.right (a := a) h3) h1
  rw [← start_join] at h5
  have := h3.bd
  rw [h5.lex]
  exact ⟨by dsimp only; omega, rfl⟩
end joined
end Go.Eng
