/-
  THE PLAIN LAW OF LexPlaces: from a token's place on, up to the next one's, a text is read as that token alone. No program in it.
-/
import Derived.Test.YthdialbnlnjgpaaGreatDoorLx
set_option linter.unusedVariables false
set_option linter.unusedSimpArgs false
namespace Go.Eng
open Go.RowKit

/-- From here on, up to there, a text is read as a token alone. -/
def Alone (s : Str) (t t' : Tk) : Prop :=
  0 ≤ t.pos ∧ t.pos < t'.pos ∧ t'.pos ≤ len s ∧ lexP (Eng.sub s t.pos t'.pos) = ([{ t with pos := 0 }, endTk (Eng.sub s t.pos t'.pos)], 0, 0)
theorem all_blank {l : Str} (h : ∀ b ∈ l, isBlankB b = true) : blankTo l 0 = len l := by
  unfold blankTo
  rw [from_zero, takeWhile_self h]; omega
theorem blank_run {s : Str} {k : Int} (h0 : 0 ≤ k) : Eng.sub s k (blankTo s k) = (from' s k).takeWhile isBlankB := by
  have h := List.takeWhile_prefix isBlankB (l := from' s k)
  rw [List.prefix_iff_eq_take.1 h]
  unfold Eng.sub blankTo len
  rw [show (k + ((List.takeWhile isBlankB (from' s k)).length : Int)).toNat - k.toNat = (List.takeWhile isBlankB (from' s k)).length from by omega]
  rfl
theorem mem_takeWhile {p : UInt8 → Bool} : ∀ {l : Str}, ∀ b ∈ l.takeWhile p, p b = true := takeWhile_all
theorem alone_at {s : Str} {i n : Int} {t t' : Tk} (h0 : 0 ≤ i) (h1 : i < len s) (h : tokP (from' s i) = (t, n, 0)) (hp : t'.pos = blankTo s (i + n)) : Alone s { t with pos := i } t' := by
  have hb := tok_bd' h0 h1 h
  have hbl := blankTo_bd s (i + n) (by omega) hb.2.1
  refine ⟨h0, by show i < t'.pos; omega, by omega, ?_⟩
  show lexP (Eng.sub s i t'.pos) = ([{ t with pos := 0 }, endTk (Eng.sub s i t'.pos)], 0, 0)
  rw [hp]
  obtain ⟨u, v, e, hn, hu, hv, hus, ht⟩ := tok_split h0 h1 h
  have hw : ∀ b ∈ Eng.sub s (i + n) (blankTo s (i + n)), isBlankB b = true := by rw [blank_run (by omega)]; exact mem_takeWhile
  have hcut : Eng.sub s i (blankTo s (i + n)) = u ++ Eng.sub s (i + n) (blankTo s (i + n)) := by
    rw [hus]
    unfold Eng.sub
    have e1 : s.drop (i + n).toNat = (s.drop i.toNat).drop n.toNat := by rw [List.drop_drop]; congr 1; omega
    rw [e1, show (blankTo s (i + n)).toNat - i.toNat = n.toNat + ((blankTo s (i + n)).toNat - (i + n).toNat) from by omega, show (i + n).toNat - i.toNat = n.toNat from by omega, List.take_add]
  rw [hcut]
  generalize Eng.sub s (i + n) (blankTo s (i + n)) = w at hw
  have hst : tokP (u ++ w) = (t, len u, 0) := by
    refine tok_stable hu ht ?_
    cases w with
    | nil => exact .inl rfl
    | cons c r => exact .inr (.inl ⟨by simp, hw c (by simp)⟩)
  have hlu : 0 < len u := ne_len.1 hu
  have hlw := len_nonneg w
  have hpos : 0 < len (u ++ w) := by rw [len_app]; omega
  have hnb := tok_noblank hpos hst
  have hz : blankTo (u ++ w) 0 = 0 := blankTo_stop (Int.le_refl 0) hpos hnb
  have hend : blankTo (u ++ w) (0 + len u) = len (u ++ w) := by
    rw [Int.zero_add, blankTo_from (by omega), from_app, all_blank hw, len_app]
  have hL : Lx (u ++ w) (blankTo (u ++ w) 0) [{ t with pos := 0 }] := by
    rw [hz]
    exact .step (Int.le_refl 0) hpos hst (by rw [hend]; exact .done (len_nonneg _) (by omega))
  exact hL.lex
theorem head_pos {s : Str} {i : Int} {l : List Tk} (h : Lx s i l) (hi : i ≤ len s) : ∃ t r, l ++ [endTk s] = t :: r ∧ t.pos = i := by
  cases h with
  | done h0 h1 => exact ⟨endTk s, [], rfl, by show len s = i; omega⟩
  | step h0 h1 h2 h3 => exact ⟨_, _, rfl, rfl⟩
/-- Each token but the last. -/
theorem Lx.alone {s : Str} {i : Int} {l : List Tk} (h : Lx s i l) : ∀ k : Nat, k < l.length → Alone s ((l ++ [endTk s]).getD k default) ((l ++ [endTk s]).getD (k + 1) default) := by
  induction h with
  | done h0 h1 => intro k hk; simp at hk
  | @step i n t l h0 h1 h hl ih =>
    intro k hk
    cases k with
    | zero =>
      have hb := tok_bd' h0 h1 h
      have hbl := blankTo_bd s (i + n) (by omega) hb.2.1
      obtain ⟨t', r, e, hp⟩ := head_pos hl hbl.2
      rw [List.cons_append, e]
      exact alone_at h0 h1 h hp
    | succ k =>
      rw [List.cons_append, List.getD_cons_succ, List.getD_cons_succ]
      exact ih k (by simpa using hk)
theorem places {s : Str} (h : (lexP s).2.2 = 0) : 0 < len (lexP s).1 ∧ (at' (lexP s).1 (len (lexP s).1 - 1)).kind = 6 ∧ (at' (lexP s).1 (len (lexP s).1 - 1)).pos = len s ∧
    ∀ k : Int, 0 ≤ k → k + 1 < len (lexP s).1 → Alone s (at' (lexP s).1 k) (at' (lexP s).1 (k + 1)) := by
  obtain ⟨l, h1, h2⟩ := lexP_ok h
  rw [h2]
  dsimp only
  have hl : len (l ++ [endTk s]) = len l + 1 := by rw [len_app]; rfl
  have := len_nonneg l
  have e : at' (l ++ [endTk s]) (len (l ++ [endTk s]) - 1) = endTk s := by
    rw [hl]; unfold at' len
    rw [show ((l.length : Int) + 1 - 1).toNat = l.length from by omega]; simp
  rw [e]
  refine ⟨by omega, rfl, rfl, fun k hk hk1 => ?_⟩
  have := h1.alone k.toNat (by unfold len at *; omega)
  unfold at'
  rw [show (k + 1).toNat = k.toNat + 1 from by omega]
  exact this
theorem sub_one {α : Type} [Inhabited α] {l : List α} {k : Int} (h0 : 0 ≤ k) (h1 : k < len l) : Eng.sub l k (k + 1) = [at' l k] := by
  have hl : k.toNat < l.length := by unfold len at h1; omega
  unfold Eng.sub at'
  rw [show (k + 1).toNat - k.toNat = 1 from by omega, List.drop_eq_getElem_cons hl, List.take_succ_cons, List.take_zero, List.getD_eq_getElem?_getD, List.getElem?_eq_getElem hl]
  rfl
theorem alone_facts {s : Str} {l : List Tk} {k : Int} (h : Alone s (at' l k) (at' l (k + 1))) (h0 : 0 ≤ k) (h1 : k < len l) :
    (lexP (Eng.sub s (at' l k).pos (at' l (k + 1)).pos)).2.2 = 0 ∧ len (lexP (Eng.sub s (at' l k).pos (at' l (k + 1)).pos)).1 = 2 ∧
    sameTk (Eng.sub (lexP (Eng.sub s (at' l k).pos (at' l (k + 1)).pos)).1 0 1) (Eng.sub l k (k + 1)) false = true ∧ (at' (lexP (Eng.sub s (at' l k).pos (at' l (k + 1)).pos)).1 0).pos = 0 := by
  rw [h.2.2.2, sub_one h0 h1]
  refine ⟨rfl, rfl, ?_, rfl⟩
  unfold sameTk
  rw [decide_eq_true_eq]; rfl
/-- A text that has no tokens. -/
theorem places_bad {s : Str} (h : ¬ (lexP s).2.2 = 0) : (lexP s).1 = [] := by
  obtain ⟨p, e, _, h2⟩ := lexP_bad h
  rw [h2]
end Go.Eng
