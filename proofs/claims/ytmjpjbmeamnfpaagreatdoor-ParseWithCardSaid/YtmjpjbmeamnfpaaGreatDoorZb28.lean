/-
  THE PLAIN LAW OF LexJoined: two texts, with a blank between, have the tokens of both. No program in it.
  The tokens of a text within a longer one: bytes ahead, bytes behind. No program in it.
  ParseWith, plainly: what a text is parsed as within "with_entries(..)", within "to_entries | map(..) | from_entries", and between blanks. No program in it.
  louperef07.Same; ParseWith.
  The closed facts of the row, one by one: each in a declaration of its own (the kernel's memory).
-/
import Derived.Test.YtmjpjbmeamnfpaaGreatDoorZb26
import Derived.Test.YtmjpjbmeamnfpaaGreatDoorZb27
import Derived.Test.YtmjpjbmeamnfpaaGreatDoorZb5
import Derived.JoinedCond
set_option linter.unusedVariables false
set_option linter.unusedSimpArgs false
namespace Go.Eng
open Go.RowKit

section joined
variable {a b : Str}
abbrev joinT (a b : Str) : Str := a ++ [32] ++ b
theorem joinT_eq : joinT a b = a ++ (32 :: b) := by simp [joinT]
theorem joinT_len : len (joinT a b) = len a + 1 + len b := by rw [joinT_eq, len_app, len_cons]; omega
theorem joinT_from {j : Int} (h : 0 ≤ j) : from' (joinT a b) (len a + 1 + j) = from' b j := by
  have e : joinT a b = (a ++ [32]) ++ b := rfl
  have hl : len (a ++ [32]) = len a + 1 := by rw [len_app]; rfl
  rw [e, ← from_from _ (len a + 1) j (by have := len_nonneg a; omega) h, ← hl, from_app]
theorem joinT_fromL {i : Int} (h0 : 0 ≤ i) (h1 : i ≤ len a) : from' (joinT a b) i = from' a i ++ (32 :: b) := by rw [joinT_eq, from_app' h0 h1]
theorem blank_right {j : Int} (h : 0 ≤ j) : blankTo (joinT a b) (len a + 1 + j) = len a + 1 + blankTo b j := by
  have := len_nonneg a
  rw [blankTo_from (by omega), joinT_from h, blankTo_from (s := b) h]; omega
theorem blank_app (v : Str) : ∀ u : Str, blankTo (u ++ v) 0 = if blankTo u 0 < len u then blankTo u 0 else len u + blankTo v 0
  | [] => by rw [blankTo_nil, len_nil]; simp
  | x :: u => by
    rw [List.cons_append]
    have hl := len_nonneg u
    cases hx : isBlank (x.toNat : Int) with
    | true =>
      have := blank_app v u
      rw [blankTo_cons hx, blankTo_cons hx, this, len_cons]
      by_cases h : blankTo u 0 < len u
      · rw [if_pos h, if_pos (by omega)]
      · rw [if_neg h, if_neg (by omega)]; omega
    | false => rw [blankTo_not hx, blankTo_not hx, if_pos (by rw [len_cons]; omega)]
theorem blank_left {k : Int} (h0 : 0 ≤ k) (h1 : k ≤ len a) : blankTo (joinT a b) k = if blankTo a k < len a then blankTo a k else len a + 1 + blankTo b 0 := by
  have hl := from_len a k h0 h1
  rw [blankTo_from h0, joinT_fromL h0 h1, blank_app, blankTo_from (s := a) h0, blankTo_cons (by decide), hl]
  by_cases h : blankTo (from' a k) 0 < len a - k
  · rw [if_pos h, if_pos (by omega)]
  · rw [if_neg h, if_neg (by omega)]; omega
theorem tok_left {i n : Int} {t : Tk} (h0 : 0 ≤ i) (h1 : i < len a) (h : tokP (from' a i) = (t, n, 0)) : tokP (from' (joinT a b) i) = (t, n, 0) := by
  obtain ⟨u, v, e, hn, hu, _, _, ht⟩ := tok_split h0 h1 h
  rw [joinT_fromL h0 (by omega), e, List.append_assoc, ← hn]
  refine tok_stable hu ht ?_
  cases v with
  | nil => exact .inr (.inl ⟨by simp, rfl⟩)
  | cons c r => exact .inr (.inr ⟨by simp, by simp, rfl⟩)
/-- Where b's tokens begin. -/
abbrev midT (a b : Str) : Int := len a + 1 + blankTo b 0
abbrev atT (a b : Str) (i : Int) : Int := if i < len a then i else midT a b
theorem Lx.left {m : List Tk} (hm : Lx (joinT a b) (midT a b) m) {i : Int} {l : List Tk} (h : Lx a i l) : Lx (joinT a b) (atT a b i) (l ++ m) := by
  induction h with
  | done h0 h1 => unfold atT; rw [if_neg h1]; exact hm
  | @step i n t l h0 h1 h _ ih =>
    have hb := tok_bd' h0 h1 h
    have hbl := blankTo_bd a (i + n) (by omega) hb.2.1
    unfold atT
    rw [if_pos h1]
    refine .step h0 (by rw [joinT_len]; have := len_nonneg b; omega) (tok_left h0 h1 h) ?_
    rw [blank_left (by omega) hb.2.1]; exact ih
theorem LxE.left {p e : Int} (hm : LxE (joinT a b) (midT a b) p e) {i : Int} {l : List Tk} (h : Lx a i l) : LxE (joinT a b) (atT a b i) p e := by
  induction h with
  | done h0 h1 => unfold atT; rw [if_neg h1]; exact hm
  | @step i n t l h0 h1 h _ ih =>
    have hb := tok_bd' h0 h1 h
    unfold atT
    rw [if_pos h1]
    refine .there h0 (by rw [joinT_len]; have := len_nonneg b; omega) (tok_left h0 h1 h) ?_
    rw [blank_left (by omega) hb.2.1]; exact ih
def shiftT (k : Int) (t : Tk) : Tk := { t with pos := k + t.pos }
theorem Lx.right {i : Int} {l : List Tk} (h : Lx b i l) : Lx (joinT a b) (len a + 1 + i) (l.map (shiftT (len a + 1))) := by
  have ha := len_nonneg a
  induction h with
  | done h0 h1 => exact .done (by omega) (by rw [joinT_len]; omega)
  | @step i n t l h0 h1 h _ ih =>
    have hb := tok_bd' h0 h1 h
    refine Lx.step (t := t) (n := n) (by omega) (by rw [joinT_len]; omega) (by rw [joinT_from h0]; exact h) ?_
    rw [show len a + 1 + i + n = len a + 1 + (i + n) from by omega, blank_right (by omega)]; exact ih
theorem LxE.right {i p e : Int} (h : LxE b i p e) : LxE (joinT a b) (len a + 1 + i) (len a + 1 + p) e := by
  have ha := len_nonneg a
  induction h with
  | @here i n e t h0 h1 h he =>
    rw [show len a + 1 + (i + n) = len a + 1 + i + n from by omega]
    exact .here (by omega) (by rw [joinT_len]; omega) (by rw [joinT_from h0]; exact h) he
  | @there i n p e t h0 h1 h _ ih =>
    have hb := tok_bd' h0 h1 h
    refine LxE.there (t := t) (n := n) (by omega) (by rw [joinT_len]; omega) (by rw [joinT_from h0]; exact h) ?_
    rw [show len a + 1 + i + n = len a + 1 + (i + n) from by omega, blank_right (by omega)]; exact ih
end joined
end Go.Eng
namespace Go.Eng

section mid
variable {p s q : Str}
abbrev midW (p s q : Str) : Str := p ++ (s ++ q)
theorem midW_len : len (midW p s q) = len p + len s + len q := by rw [len_app, len_app]; omega
theorem midW_from {i : Int} (h0 : 0 ≤ i) (h1 : i ≤ len s) : from' (midW p s q) (len p + i) = from' s i ++ q := by
  rw [← from_from _ (len p) i (len_nonneg p) h0, from_app, from_app' h0 h1]
/-- Where what stands behind begins. -/
abbrev endW (p s q : Str) : Int := blankTo (midW p s q) (len p + len s)
theorem endW_is : endW p s q = len p + len s + blankTo q 0 := by
  have hp := len_nonneg p; have hs := len_nonneg s
  unfold endW
  rw [blankTo_from (by omega), midW_from hs (Int.le_refl _), show from' s (len s) = [] from from_nil s _ (Int.le_refl _), List.nil_append]
theorem midW_blank {k : Int} (h0 : 0 ≤ k) (h1 : k ≤ len s) : blankTo (midW p s q) (len p + k) = if blankTo s k < len s then len p + blankTo s k else endW p s q := by
  have hp := len_nonneg p
  have hl := from_len s k h0 h1
  rw [endW_is, blankTo_from (by omega), midW_from h0 h1, blank_app, blankTo_from (s := s) h0, hl]
  by_cases h : blankTo (from' s k) 0 < len s - k
  · rw [if_pos h, if_pos (by omega)]; omega
  · rw [if_neg h, if_neg (by omega)]; omega
theorem midW_tok (hq : q = [] ∨ isSep (byteAt q 0) = true) {i n : Int} {t : Tk} (h0 : 0 ≤ i) (h1 : i < len s) (h : tokP (from' s i) = (t, n, 0)) : tokP (from' (midW p s q) (len p + i)) = (t, n, 0) := by
  obtain ⟨u, v, e, hn, hu, _, _, ht⟩ := tok_split h0 h1 h
  rw [midW_from h0 (by omega), e, List.append_assoc, ← hn]
  refine tok_stable hu ht ?_
  cases v with
  | nil =>
    rcases hq with rfl | hq
    · exact .inl rfl
    · cases q with
      | nil => exact .inl rfl
      | cons c r => exact .inr (.inl ⟨by simp, hq⟩)
  | cons c r => exact .inr (.inr ⟨by simp, by simp, rfl⟩)
theorem Lx.mid (hq : q = [] ∨ isSep (byteAt q 0) = true) {m : List Tk} (hm : Lx (midW p s q) (endW p s q) m) {i : Int} {l : List Tk} (h : Lx s i l) : Lx (midW p s q) (if i < len s then len p + i else endW p s q) (l.map (shiftT (len p)) ++ m) := by
  have hp := len_nonneg p
  induction h with
  | done h0 h1 => rw [if_neg h1]; exact hm
  | @step i n t l h0 h1 h _ ih =>
    have hb := tok_bd' h0 h1 h
    rw [if_pos h1]
    refine Lx.step (t := t) (n := n) (by omega) (by rw [midW_len]; have := len_nonneg q; omega) (midW_tok hq h0 h1 h) ?_
    rw [show len p + i + n = len p + (i + n) from by omega, midW_blank (by omega) hb.2.1]; exact ih
/-- The tokens behind bytes that are ahead. -/
theorem Lx.midS (hq : q = [] ∨ isSep (byteAt q 0) = true) {m : List Tk} (hm : Lx (midW p s q) (endW p s q) m) {l : List Tk} (h : Lx s (blankTo s 0) l) : Lx (midW p s q) (blankTo (midW p s q) (len p)) (l.map (shiftT (len p)) ++ m) := by
  have := Lx.mid hq hm h
  have e := midW_blank (p := p) (s := s) (q := q) (k := 0) (Int.le_refl 0) (len_nonneg s)
  rw [Int.add_zero] at e
  rw [e]; exact this
end mid
end Go.Eng
namespace Go.Eng

/-! ### What errors there are -/
def Er {α : Type} (r : PR α) : Prop := ∀ c p, r = .er c p → c ≠ 0
theorem Er.ok {α : Type} {x : α} {j : Int} : Er (.ok x j) := fun c p e => by cases e
theorem Er.fail {α : Type} {l : List Tk} {i e : Int} (he : e ≠ 0) : Er (failA l i e : PR α) := fun c p h => by cases h; exact he
theorem Er.bind {α β : Type} {r : PR α} {k : α → Int → PR β} (h : Er r) (hk : ∀ x j, Er (k x j)) : Er (r.bind k) := by
  cases r with
  | er c p => exact fun c' p' e => by cases e; exact h c p rfl
  | ok x j => exact hk x j
theorem Er.need {l : List Tk} {i : Int} {m : Str} : Er (needA l i m) := by unfold needA; split; exact .ok; exact .fail (by decide)
theorem Er.op {l : List Tk} {d i : Int} {m : Str} : Er (openA l d i m) := by unfold openA; split; exact .fail (by decide); exact .need
theorem Er.call {α : Type} {l : List Tk} {d i : Int} {X : Int → PR α} (h : ∀ j, Er (X j)) : Er (callA l d i X) := Er.op.bind fun _ j => (h j).bind fun _ _ => Er.need.bind fun _ _ => .ok
theorem Er.whole {l : List Tk} {i : Int} : Er (wholeA l i) := by unfold wholeA; split; exact .fail (by decide); split; exact .fail (by decide); exact .ok
theorem Er.suf {l : List Tk} {i : Int} : Er (sufA l i) := by
  unfold sufA; split
  · exact .ok
  · refine Er.whole.bind fun _ _ => ?_
    split
    · exact Er.need.bind fun _ _ => .ok
    · exact Er.need.bind fun _ _ => .ok
theorem Er.sufs {l : List Tk} : ∀ (f : Nat) (xs : List Tf) (i : Int), Er (sufsA f l xs i)
  | 0, _, _ => .fail (by decide)
  | f + 1, xs, i => by
    unfold sufsA; split
    · exact Er.suf.bind fun _ _ => Er.sufs f _ _
    · exact .ok
theorem Er.steps {l : List Tk} {dot : Bool} : ∀ (f : Nat) (xs : List Sp) (i : Int), Er (stepsA dot f l xs i)
  | 0, _, _ => .fail (by decide)
  | f + 1, xs, i => by
    unfold stepsA; split
    · split
      · exact .fail (by decide)
      · split
        · exact Er.whole.bind fun _ _ => Er.need.bind fun _ _ => Er.steps f _ _
        · exact Er.steps f _ _
    · exact .ok
theorem Er.path {l : List Tk} {i : Int} {q : Str → Str} : Er (pathA q l i) := by
  unfold pathA; split
  · exact (Er.steps _ _ _).bind fun _ _ => .ok
  · split
    · exact .fail (by decide)
    · exact (Er.steps _ _ _).bind fun _ _ => .ok
theorem Er.lit {l : List Tk} {i : Int} : Er (litA l i) := by
  unfold litA; split
  · exact .ok
  · split
    · exact .ok
    · split
      · exact .ok
      · exact .fail (by decide)
theorem Er.cmp {l : List Tk} {i : Int} {q : Str → Str} : Er (cmpA q l i) := by
  unfold cmpA
  refine Er.path.bind fun _ _ => ?_
  split
  · exact Er.lit.bind fun _ _ => .ok
  · exact .fail (by decide)
structure AllE (l : List Tk) (q : Str → Str) (f : Nat) : Prop where
  fil : ∀ d i, Er (filA q f l d i)
  pip : ∀ d xs i, Er (pipA q f l d xs i)
  pos : ∀ d i, Er (posA q f l d i)
  pri : ∀ d i, Er (priA q f l d i)
  wor : ∀ d i, Er (worA q f l d i)
  obs : ∀ d xs i, Er (obsA q f l d xs i)
  lis : ∀ d xs i, Er (lisA q f l d xs i)
  eit : ∀ d i, Er (eitA q f l d i)
  eis : ∀ d x i, Er (eisA q f l d x i)
  bot : ∀ d i, Er (botA q f l d i)
  bos : ∀ d x i, Er (bosA q f l d x i)
  sin : ∀ d i, Er (sinA q f l d i)
theorem all_er (l : List Tk) (q : Str → Str) : ∀ f, AllE l q f
  | 0 => ⟨fun _ _ => .fail (by decide), fun _ _ _ => .fail (by decide), fun _ _ => .fail (by decide), fun _ _ => .fail (by decide), fun _ _ => .fail (by decide), fun _ _ _ => .fail (by decide), fun _ _ _ => .fail (by decide), fun _ _ => .fail (by decide), fun _ _ _ => .fail (by decide), fun _ _ => .fail (by decide), fun _ _ _ => .fail (by decide), fun _ _ => .fail (by decide)⟩
  | f + 1 => by
    have ih := all_er l q f
    constructor
    · intro d i; unfold filA; exact (ih.pos _ _).bind fun _ _ => ih.pip _ _ _
    · intro d xs i; unfold pipA; split
      · exact (ih.pos _ _).bind fun _ _ => ih.pip _ _ _
      · exact .ok
    · intro d i; unfold posA; exact (ih.pri _ _).bind fun _ _ => Er.sufs _ _ _
    · intro d i; unfold priA; split
      · exact .ok
      · split
        · exact .ok
        · split
          · exact ih.wor _ _
          · split
            · exact Er.op.bind fun _ _ => ih.obs _ _ _
            · split
              · exact Er.op.bind fun _ _ => ih.lis _ _ _
              · exact Er.call fun j => ih.fil _ _
    · intro d i; unfold worA; split
      · exact .ok
      · split
        · exact Er.call fun j => Er.path.bind fun _ _ => .ok
        · split
          · exact (Er.call fun j => ih.fil _ _).bind fun _ _ => .ok
          · split
            · exact (Er.call fun j => ih.fil _ _).bind fun _ _ => .ok
            · split
              · exact (Er.call fun j => ih.fil _ _).bind fun _ _ => .ok
              · split
                · exact (Er.call fun j => ih.eit _ _).bind fun _ _ => .ok
                · exact .fail (by decide)
    · intro d xs i; unfold obsA; split
      · exact .ok
      · refine Er.bind (by split; exact .ok; exact .need) fun _ j => ?_
        split
        · exact .fail (by decide)
        · exact Er.need.bind fun _ _ => (ih.pos _ _).bind fun _ _ => ih.obs _ _ _
    · intro d xs i; unfold lisA; split
      · exact .ok
      · exact Er.bind (by split; exact .ok; exact .need) fun _ j => (ih.pos _ _).bind fun _ _ => ih.lis _ _ _
    · intro d i; unfold eitA; exact (ih.bot _ _).bind fun _ _ => ih.eis _ _ _
    · intro d x i; unfold eisA; split
      · exact (ih.bot _ _).bind fun _ _ => ih.eis _ _ _
      · exact .ok
    · intro d i; unfold botA; exact (ih.sin _ _).bind fun _ _ => ih.bos _ _ _
    · intro d x i; unfold bosA; split
      · exact (ih.sin _ _).bind fun _ _ => ih.bos _ _ _
      · exact .ok
    · intro d i; unfold sinA; split
      · exact .cmp
      · refine Er.op.bind fun _ _ => (ih.eit _ _).bind fun x k => Er.bind ?_ fun _ _ => Er.need.bind fun _ _ => .ok
        split
        · split
          · exact .ok
          · exact .fail (by decide)
        · exact .ok

/-! ### Tokens of a text, and the end's -/
theorem tokP_kind {s : Str} {t : Tk} {n : Int} (h : tokP s = (t, n, 0)) : t.kind ≠ 6 := by
  unfold tokP at h
  repeat' split at h
  all_goals simp only [Prod.mk.injEq] at h
  all_goals obtain ⟨h1, h2, h3⟩ := h
  all_goals subst h1
  all_goals first | (simp; done) | (simp [noTk]; done)
theorem Lx.kind {s : Str} {i : Int} {l : List Tk} (h : Lx s i l) : ∀ t ∈ l, t.kind ≠ 6 := by
  induction h with
  | done => intro t ht; cases ht
  | step _ _ ht _ ih =>
    intro t hm
    rcases List.mem_cons.1 hm with rfl | hm
    · have h6 := tokP_kind ht; exact h6
    · exact ih t hm
theorem parse_zero {q : Str → Str} {s : Str} (hs : len s ≤ 100000) (h : (parseF q s).2.2 = 0) :
    ∃ l x, Lx s (blankTo s 0) l ∧ lexP s = (l ++ [endTk s], 0, 0) ∧ LexOk (l ++ [endTk s]) ∧ filA q (8 * (l ++ [endTk s]).length + 8) (l ++ [endTk s]) 0 0 = .ok x (len l) ∧ parseF q s = (x.flat, 0, 0) := by
  have hz : (lexP s).2.2 = 0 := by
    rcases Classical.em ((lexP s).2.2 = 0) with hz | hz
    · exact hz
    · unfold parseF at h; rw [if_pos hz] at h; exact h
  obtain ⟨l, hx, he⟩ := lexP_ok hz
  have hk := lexOk hs hz
  rw [he] at hk
  dsimp only at hk
  have e1 : parseF q s = parseA q (l ++ [endTk s]) := by unfold parseF; rw [he]; simp
  have hle : len (l ++ [endTk s]) = len l + 1 := by rw [len_app]; rfl
  have hl0 := len_nonneg l
  rw [e1] at h ⊢
  unfold parseA at h ⊢
  cases hr : filA q (8 * (l ++ [endTk s]).length + 8) (l ++ [endTk s]) 0 0 with
  | er c p => rw [hr] at h; exact absurd h ((all_er _ q _).fil _ _ _ _ hr)
  | ok x j =>
    rw [hr] at h
    dsimp only at h
    by_cases h6 : (at' (l ++ [endTk s]) j).kind = 6
    · have g := (all_good hk q _).fil 0 0 x j (Int.le_refl 0) (by omega) hr
      have hlt := g.lt; have hgl := g.le
      have hj : j = len l := by
        rcases Int.lt_or_le j (len l) with h2 | h2
        · exfalso; rw [at'_left _ _ (by omega) h2] at h6; exact hx.kind _ (at_mem (by omega) h2) h6
        · omega
      subst hj
      exact ⟨l, x, hx, he, hk, hr, by dsimp only; rw [if_pos h6]⟩
    · rw [if_neg h6] at h; exact absurd h (by show ¬ (1 : Int) = 0; decide)
theorem parse_err {q : Str → Str} {s : Str} (h : (parseF q s).2.2 ≠ 0) : (parseF q s).1 = [] := by
  unfold parseF at h ⊢
  split
  · rfl
  · rename_i hz
    rw [if_neg hz] at h
    unfold parseA at h ⊢
    split
    · rfl
    · rename_i x j hr
      rw [hr] at h
      dsimp only at h
      split
      · rename_i h6; rw [if_pos h6] at h; exact absurd rfl h
      · rfl
theorem at'_right {α : Type} [Inhabited α] (A B : List α) {i : Int} (h0 : 0 ≤ i) : at' (A ++ B) (i + len A) = at' B i := by
  have hA : (i + len A).toNat = i.toNat + A.length := by unfold len; omega
  unfold at'
  rw [List.getD_eq_getElem?_getD, List.getD_eq_getElem?_getD, hA, List.getElem?_append_right (by omega), Nat.add_sub_cancel]
theorem Vw.self (l : List Tk) : Vw l l 0 := ⟨fun i _ _ _ => by rw [Int.add_zero]; exact ⟨rfl, rfl, rfl⟩, fun i _ _ h => .inl (by rw [Int.add_zero]; exact h), Nat.le_refl _⟩
theorem view_of {l A r : List Tk} {e t : Tk} {k : Int} (he : e.kind = 6) (hk : ∀ t ∈ l, t.kind ≠ 6) (ht : t.kind = 6 ∨ t.kind = 1 ∧ t.s = [41]) : Vw (l ++ [e]) (A ++ (l.map (shiftT k) ++ t :: r)) (len A) := by
  have hlm : len (l.map (shiftT k)) = len l := by unfold len; rw [List.length_map]
  have hle : len (l ++ [e]) = len l + 1 := by rw [len_app]; rfl
  have hend : at' (l ++ [e]) (len l) = e := at'_last l e rfl
  refine ⟨fun i h0 h1 h6 => ?_, fun i h0 h1 h6 => ?_, ?_⟩
  · have hi : i < len l := by
      rcases Int.lt_or_le i (len l) with h | h
      · exact h
      · have : i = len l := by omega
        subst this; rw [hend] at h6; exact absurd he h6
    rw [at'_right _ _ h0, at'_left _ _ h0 (by rw [hlm]; exact hi), at'_map _ _ h0 hi, at'_left _ _ h0 hi]
    exact ⟨rfl, rfl, rfl⟩
  · have hi : i = len l := by
      rcases Int.lt_or_le i (len l) with h | h
      · rw [at'_left _ _ h0 h] at h6; exact absurd h6 (hk _ (at_mem h0 h))
      · omega
    rw [at'_right _ _ h0, hi]
    have := at'_right (l.map (shiftT k)) (t :: r) (i := 0) (Int.le_refl 0)
    rw [Int.zero_add, hlm] at this
    rw [this]; exact ht
  · simp; omega

/-! ### What stands around it -/
theorem sufs_no {l : List Tk} {j : Int} {t : Tk} {r : List Tk} (h : TA l j (t :: r)) (h3 : t.kind ≠ 3) (h9 : (t.kind == 1 && t.s == [91]) = false) (xs : List Tf) : sufsA l.length l xs j = .ok (pipedF xs) j := by
  have hl := h.lt
  have h0 := h.1
  obtain ⟨n, hn⟩ : ∃ n, l.length = n + 1 := ⟨l.length - 1, by unfold len at hl; omega⟩
  rw [hn, sufsA, h.at, h.isM, if_neg (by rw [h9]; intro h; rcases h with h | h; exact h3 h; cases h)]
theorem pos_no {q : Str → Str} {f : Nat} {l : List Tk} {d i j : Int} {x : Tf} {t t2 : Tk} {u r : List Tk} (hx : priA q f l d i = .ok x j) (h2 : TA l j (t2 :: r)) (h3 : t2.kind ≠ 3) (h9 : (t2.kind == 1 && t2.s == [91]) = false) : posA q (f + 1) l d i = .ok x j := by
  rw [posA, hx]
  show sufsA l.length l (if isM l i [46] && isM l j [91] then [] else [x]) j = _
  rw [h2.isM, h9, Bool.and_false, if_neg (by decide), sufs_no h2 h3 h9]; rfl
abbrev withT (x : Tf) : Tf := pipedF [.mk (tmF 10) [], .mk (tmF 5) [x], .mk (tmF 11) []]
theorem w1_parse {q : Str → Str} {L B : List Tk} {p0 p1 p2 n : Int} {e : Tk} (h : TA L 0 (wdT sWith p0 :: mkT [40] p1 :: B)) (h2 : TA L (n + 2) (mkT [41] p2 :: e :: [])) (he : e.kind = 6) (f : Nat) :
    (∀ x, filA q f L 1 2 = .ok x (n + 2) → filA q (f + 4) L 0 0 = .ok (withT x) (n + 3)) ∧ (∀ p, filA q f L 1 2 = .er 3 p → filA q (f + 4) L 0 0 = .er 3 p) := by
  have hA1 := h.one
  have e1 : priA q (f + 2) L 0 0 = (callA L 0 (0 + 1) (filA q f L 1)).bind fun x j => .ok (withT x) j := by
    rw [priA, h.isM, h.isM, h.isM, h.at]
    show worA q (f + 1) L 0 0 = _
    rw [worA, h.at]; rfl
  have he6 : stopT e := .inl he
  have h3 := h2.one
  refine ⟨fun x hx => ?_, fun p hx => ?_⟩
  · have hc := ncall_ok (d := 0) (X := filA q f L 1) hA1 (by decide) hx h2
    have hp : priA q (f + 2) L 0 0 = .ok (withT x) (n + 2 + 1) := by rw [e1, hc]; rfl
    rw [show n + 3 = n + 2 + 1 from by omega]
    exact fil_pos (pos_of h hp h3 he6) h3 he6
  · have hc := ncall_er (d := 0) (X := filA q f L 1) hA1 (by decide) hx
    exact fil_er (pos_er (by rw [e1, hc]; rfl))
theorem w2_parse {q : Str → Str} {L B : List Tk} {p0 p1 p2 p3 p4 p5 p6 n : Int} {e : Tk} (h : TA L 0 (wdT sToE p0 :: mkT [124] p1 :: wdT sMap p2 :: mkT [40] p3 :: B)) (h2 : TA L (n + 4) (mkT [41] p4 :: mkT [124] p5 :: wdT sFromE p6 :: e :: [])) (he : e.kind = 6) (f : Nat) :
    (∀ x, filA q (f + 1) L 1 4 = .ok x (n + 4) → filA q (f + 6) L 0 0 = .ok (withT x) (n + 7)) ∧ (∀ p, filA q (f + 1) L 1 4 = .er 3 p → filA q (f + 6) L 0 0 = .er 3 p) := by
  have a1 := h.one
  have a2 := a1.one
  have a3 := a2.one
  have b1 := h2.one
  have b2 := b1.one
  have b3 := b2.one
  have he6 : stopT e := .inl he
  have t0 : priA q (f + 4) L 0 0 = .ok (.mk (tmF 10) []) (0 + 1) := by
    rw [priA, h.isM, h.isM, h.isM, h.at]
    show worA q (f + 3) L 0 0 = _
    rw [worA, h.at]; rfl
  have s0 : posA q (f + 5) L 0 0 = .ok (.mk (tmF 10) []) (0 + 1) := pos_no (u := []) (t := default) t0 a1 (by show (1 : Int) ≠ 3; decide) rfl
  have t1 : priA q (f + 3) L 0 (0 + 1 + 1) = (callA L 0 (0 + 1 + 1 + 1) (filA q (f + 1) L 1)).bind fun x j => .ok (.mk (tmF 5) [x]) j := by
    rw [priA, a2.isM, a2.isM, a2.isM, a2.at]
    show worA q (f + 2) L 0 (0 + 1 + 1) = _
    rw [worA, a2.at]; rfl
  have r0 : filA q (f + 6) L 0 0 = (posA q (f + 4) L 0 (0 + 1 + 1)).bind fun x j => pipA q (f + 4) L 0 [.mk (tmF 10) [], x] j := by
    rw [filA, s0]
    show pipA q (f + 5) L 0 [.mk (tmF 10) []] (0 + 1) = _
    rw [pipA, a1.isM]; rfl
  refine ⟨fun x hx => ?_, fun p hx => ?_⟩
  · have hc := ncall_ok (d := 0) (X := filA q (f + 1) L 1) a3 (by decide) hx h2
    have hp : priA q (f + 3) L 0 (0 + 1 + 1) = .ok (.mk (tmF 5) [x]) (n + 4 + 1) := by rw [t1, hc]; rfl
    have s1 := pos_no (u := []) (t := default) hp b1 (by show (1 : Int) ≠ 3; decide) rfl
    have t2 : priA q (f + 2) L 0 (n + 4 + 1 + 1) = .ok (.mk (tmF 11) []) (n + 4 + 1 + 1 + 1) := by
      rw [priA, b2.isM, b2.isM, b2.isM, b2.at]
      show worA q (f + 1) L 0 (n + 4 + 1 + 1) = _
      rw [worA, b2.at]; rfl
    have s2 := pos_of b2 t2 b3 he6
    rw [r0, s1]
    show pipA q (f + 4) L 0 [.mk (tmF 10) [], .mk (tmF 5) [x]] (n + 4 + 1) = _
    rw [pipA, b1.isM, if_pos (show ((mkT [124] p5).kind == 1 && (mkT [124] p5).s == [124]) = true from rfl), s2]
    show pipA q (f + 3) L 0 [.mk (tmF 10) [], .mk (tmF 5) [x], .mk (tmF 11) []] (n + 4 + 1 + 1 + 1) = _
    rw [pipA, b3.isM, he6.no.2.2, show n + 7 = n + 4 + 1 + 1 + 1 from by omega]; rfl
  · have hc := ncall_er (d := 0) (X := filA q (f + 1) L 1) a3 (by decide) hx
    rw [r0, pos_er (by rw [t1, hc]; rfl)]; rfl
/-! ### The three texts -/
abbrev pW1 : Str := [119, 105, 116, 104, 95, 101, 110, 116, 114, 105, 101, 115, 40]
abbrev pW2 : Str := [116, 111, 95, 101, 110, 116, 114, 105, 101, 115, 32, 124, 32, 109, 97, 112, 40]
abbrev qW2 : Str := [41, 32, 124, 32, 102, 114, 111, 109, 95, 101, 110, 116, 114, 105, 101, 115]
theorem endW_at {p s q : Str} (hq : blankTo q 0 = 0) : At (midW p s q) (endW p s q) q := by
  have h1 := len_nonneg p; have h2 := len_nonneg s; have h3 := len_nonneg q
  rw [endW_is, hq, Int.add_zero]
  refine ⟨by omega, by rw [midW_len]; omega, ?_⟩
  rw [midW_from h2 (Int.le_refl _), show from' s (len s) = [] from from_nil s _ (Int.le_refl _), List.nil_append]
theorem with_law {q : Str → Str} {s : Str} (hs : len s ≤ 1000) (h : (parseF q s).2.2 = 0) :
    parseF q (midW [9] s [10, 32]) = ((parseF q s).1, 0, 0) ∧ ((∃ y, parseF q (midW pW1 s [41]) = (y, 0, 0) ∧ parseF q (midW pW2 s qW2) = (y, 0, 0)) ∨ (∃ a b, parseF q (midW pW1 s [41]) = ([], a, 3) ∧ parseF q (midW pW2 s qW2) = ([], b, 3))) := by
  obtain ⟨l, x, hx, he, hk, hr, hp⟩ := parse_zero (by omega) h
  have hkd := hx.kind
  have hle : len (l ++ [endTk s]) = len l + 1 := by rw [len_app]; rfl
  have hl0 := len_nonneg l
  -- the text between blanks
  have l3 : lexP (midW [9] s [10, 32]) = ([] ++ (l.map (shiftT 1) ++ endTk (midW [9] s [10, 32]) :: []), 0, 0) := by
    have h1 : Lx (midW [9] s [10, 32]) (endW [9] s [10, 32]) [] := .done (by rw [endW_is]; have := len_nonneg s; show (0 : Int) ≤ 1 + len s + 2; omega) (by rw [endW_is, midW_len]; show ¬ (1 + len s + 2 : Int) < 1 + len s + 2; omega)
    have h2 := Lx.midS (p := [9]) (.inr rfl) h1 hx
    have h3 : Lx (midW [9] s [10, 32]) (blankTo (midW [9] s [10, 32]) 0) (l.map (shiftT 1) ++ []) := by
      have e : blankTo (midW [9] s [10, 32]) 0 = blankTo (midW [9] s [10, 32]) (len ([9] : Str)) := by
        rw [blankTo_from (s := midW [9] s [10, 32]) (i := len ([9] : Str)) (by decide), midW, from_app]
        exact blankTo_cons (by decide)
      rw [e]; exact h2
    have h4 := h3.lex
    rw [List.append_nil] at h4
    rw [h4]; rfl
  -- with_entries
  have l1 : lexP (midW pW1 s [41]) = ([wdT sWith 0, mkT [40] 12] ++ (l.map (shiftT 13) ++ mkT [41] (endW pW1 s [41]) :: endTk (midW pW1 s [41]) :: []), 0, 0) := by
    have ha := endW_at (p := pW1) (s := s) (q := [41]) (blankTo_not (by decide))
    have h1 : Lx (midW pW1 s [41]) (endW pW1 s [41]) [mkT [41] (endW pW1 s [41])] :=
      Lx.mark (b := []) (r := []) ha (by decide) (fun c hc => by cases hc) (fun c r e => by cases e) (.done (by have := ha.1; show 0 ≤ endW pW1 s [41] + 1 + 0; omega) (by rw [endW_is, midW_len, blankTo_not (by decide)]; show ¬ (_ + 0 + 1 + 0 : Int) < _ + 1; omega))
    have h2 := Lx.midS (p := pW1) (.inr rfl) h1 hx
    have h3 : Lx (midW pW1 s [41]) 12 (mkT [40] 12 :: (l.map (shiftT 13) ++ [mkT [41] (endW pW1 s [41])])) :=
      Lx.step (t := ⟨1, [40], noNd, 0⟩) (n := 1) (by decide) (by rw [midW_len]; have := len_nonneg s; show (12 : Int) < 13 + len s + 1; omega) (tokP_mark (by decide) _) h2
    have h4 : Lx (midW pW1 s [41]) 0 (wdT sWith 0 :: mkT [40] 12 :: (l.map (shiftT 13) ++ [mkT [41] (endW pW1 s [41])])) :=
      Lx.word (c := 119) (w := [105, 116, 104, 95, 101, 110, 116, 114, 105, 101, 115]) (b := []) (r := 40 :: (s ++ [41])) ⟨Int.le_refl 0, len_nonneg _, rfl⟩ (word6_iff.1 (by decide +kernel)).2 (fun c r' e => by cases e; decide) (fun c hc => by cases hc) (fun c r' e => by cases e; rfl) h3
    have h5 := Lx.lex (s := midW pW1 s [41]) h4
    rw [h5]; simp
  -- to_entries | map | from_entries
  have l2 : lexP (midW pW2 s qW2) = ([wdT sToE 0, mkT [124] 11, wdT sMap 13, mkT [40] 16] ++ (l.map (shiftT 17) ++ mkT [41] (endW pW2 s qW2) :: mkT [124] (endW pW2 s qW2 + 2) :: wdT sFromE (endW pW2 s qW2 + 4) :: endTk (midW pW2 s qW2) :: []), 0, 0) := by
    have hE : endW pW2 s qW2 = 17 + len s := by rw [endW_is, blankTo_not (by decide)]; show (17 + len s + 0 : Int) = _; omega
    have hW : len (midW pW2 s qW2) = 33 + len s := by rw [midW_len]; show (17 + len s + 16 : Int) = _; omega
    have hs0 := len_nonneg s
    have a1 : At (midW pW2 s qW2) (endW pW2 s qW2) qW2 := endW_at (blankTo_not (by decide))
    have a2 : At (midW pW2 s qW2) (endW pW2 s qW2 + 2) (124 :: ([32] ++ [102, 114, 111, 109, 95, 101, 110, 116, 114, 105, 101, 115])) := At.add (u := [41, 32]) a1
    have a3 : At (midW pW2 s qW2) (endW pW2 s qW2 + 4) (102 :: [114, 111, 109, 95, 101, 110, 116, 114, 105, 101, 115] ++ ([] ++ [])) := At.add (u := [41, 32, 124, 32]) a1
    have b3 : Lx (midW pW2 s qW2) (endW pW2 s qW2 + 4) [wdT sFromE (endW pW2 s qW2 + 4)] :=
      Lx.word (c := 102) (w := [114, 111, 109, 95, 101, 110, 116, 114, 105, 101, 115]) (b := []) (r := []) a3 (word6_iff.1 (by decide +kernel)).2 (fun c r' e => by cases e) (fun c hc => by cases hc) (fun c r' e => by cases e) (.done (by rw [hE]; show (0 : Int) ≤ 17 + len s + 4 + 12 + 0; omega) (by rw [hE, hW]; show ¬ (17 + len s + 4 + 12 + 0 : Int) < 33 + len s; omega))
    have b2 : Lx (midW pW2 s qW2) (endW pW2 s qW2 + 2) [mkT [124] (endW pW2 s qW2 + 2), wdT sFromE (endW pW2 s qW2 + 4)] :=
      Lx.mark (b := [32]) (r := [102, 114, 111, 109, 95, 101, 110, 116, 114, 105, 101, 115]) a2 (by decide) (fun c hc => by rw [List.mem_singleton] at hc; subst hc; rfl) (fun c r e => by cases e; rfl) (by rw [show endW pW2 s qW2 + 2 + 1 + len ([32] : Str) = endW pW2 s qW2 + 4 from by show _ + 2 + 1 + (1 : Int) = _; omega]; exact b3)
    have b1 : Lx (midW pW2 s qW2) (endW pW2 s qW2) [mkT [41] (endW pW2 s qW2), mkT [124] (endW pW2 s qW2 + 2), wdT sFromE (endW pW2 s qW2 + 4)] :=
      Lx.mark (b := [32]) (r := [124, 32, 102, 114, 111, 109, 95, 101, 110, 116, 114, 105, 101, 115]) a1 (by decide) (fun c hc => by rw [List.mem_singleton] at hc; subst hc; rfl) (fun c r e => by cases e; rfl) (by rw [show endW pW2 s qW2 + 1 + len ([32] : Str) = endW pW2 s qW2 + 2 from by show _ + 1 + (1 : Int) = _; omega]; exact b2)
    have h2 := Lx.midS (p := pW2) (.inr rfl) b1 hx
    have h3 : Lx (midW pW2 s qW2) 16 (mkT [40] 16 :: (l.map (shiftT 17) ++ [mkT [41] (endW pW2 s qW2), mkT [124] (endW pW2 s qW2 + 2), wdT sFromE (endW pW2 s qW2 + 4)])) :=
      Lx.step (t := ⟨1, [40], noNd, 0⟩) (n := 1) (by decide) (by rw [hW]; omega) (tokP_mark (by decide) _) h2
    have h4 := Lx.word (s := midW pW2 s qW2) (i := 13) (c := 109) (w := [97, 112]) (b := []) (r := 40 :: (s ++ qW2)) ⟨by decide, by rw [hW]; omega, rfl⟩ (word6_iff.1 (by decide +kernel)).2 (fun c r' e => by cases e; decide) (fun c hc => by cases hc) (fun c r' e => by cases e; rfl) h3
    have h5 := Lx.mark (s := midW pW2 s qW2) (i := 11) (c := 124) (b := [32]) (r := 109 :: 97 :: 112 :: 40 :: (s ++ qW2)) ⟨by decide, by rw [hW]; omega, rfl⟩ (by decide) (fun c hc => by rw [List.mem_singleton] at hc; subst hc; rfl) (fun c r e => by cases e; rfl) h4
    have h6 := Lx.word (s := midW pW2 s qW2) (i := 0) (c := 116) (w := [111, 95, 101, 110, 116, 114, 105, 101, 115]) (b := [32]) (r := 124 :: 32 :: 109 :: 97 :: 112 :: 40 :: (s ++ qW2)) ⟨by decide, by rw [hW]; omega, rfl⟩ (word6_iff.1 (by decide +kernel)).2 (fun c r' e => by cases e; decide) (fun c hc => by rw [List.mem_singleton] at hc; subst hc; rfl) (fun c r' e => by cases e; rfl) h5
    have h7 := Lx.lex (s := midW pW2 s qW2) h6
    rw [h7]; simp; exact ⟨rfl, rfl⟩
  -- what they are parsed as
  have hn0 : (0 : Int) < len (l ++ [endTk s]) := by omega
  have atE : ∀ (A r : List Tk) (t : Tk) (k : Int), TA (A ++ (l.map (shiftT k) ++ t :: r)) (len l + len A) (t :: r) := fun A r t k => by
    have h1 : TA (A ++ (l.map (shiftT k) ++ t :: r)) 0 (A ++ (l.map (shiftT k) ++ t :: r)) := ⟨Int.le_refl 0, rfl⟩
    have h2 := (TA.add h1).add
    have h3 : len (l.map (shiftT k)) = len l := by unfold len; rw [List.length_map]
    rw [h3, show 0 + len A + len l = len l + len A from by omega] at h2
    exact h2
  have v3 := view_of (l := l) (A := []) (r := []) (e := endTk s) (t := endTk (midW [9] s [10, 32])) (k := 1) rfl hkd (.inl rfl)
  have v1 := view_of (l := l) (A := [wdT sWith 0, mkT [40] 12]) (r := [endTk (midW pW1 s [41])]) (e := endTk s) (t := mkT [41] (endW pW1 s [41])) (k := 13) rfl hkd (.inr ⟨rfl, rfl⟩)
  have v2 := view_of (l := l) (A := [wdT sToE 0, mkT [124] 11, wdT sMap 13, mkT [40] 16]) (r := [mkT [124] (endW pW2 s qW2 + 2), wdT sFromE (endW pW2 s qW2 + 4), endTk (midW pW2 s qW2)]) (e := endTk s) (t := mkT [41] (endW pW2 s qW2)) (k := 17) rfl hkd (.inr ⟨rfl, rfl⟩)
  refine (fun (g3 : parseF q (midW [9] s [10, 32]) = (x.flat, 0, 0)) (g12 : (∃ y, parseF q (midW pW1 s [41]) = (y, 0, 0) ∧ parseF q (midW pW2 s qW2) = (y, 0, 0)) ∨ (∃ a b, parseF q (midW pW1 s [41]) = ([], a, 3) ∧ parseF q (midW pW2 s qW2) = ([], b, 3))) => ?_) ?_ ?_
  · exact ⟨by rw [g3, hp], g12⟩
  · generalize hL : ([] ++ (l.map (shiftT 1) ++ endTk (midW [9] s [10, 32]) :: []) : List Tk) = L at *
    have hm := ((all_sim hk v3 false q _).fil (8 * L.length + 8) 0 0 0 (by have := v3.few; omega) (fun _ => rfl) (Int.le_refl 0) hn0).1 x (len l) hr
    have hend := atE [] [] (endTk (midW [9] s [10, 32])) 1
    rw [hL] at hend
    rcases hm with hm | ⟨hm, _⟩
    · have hm : filA q (8 * L.length + 8) L 0 0 = .ok x (len l + len ([] : List Tk)) := hm
      unfold parseF
      rw [l3]
      show parseA q L = _
      unfold parseA
      rw [hm]
      dsimp only
      rw [hend.at, if_pos (show (endTk (midW [9] s [10, 32])).kind = 6 from rfl)]
    · cases hm
  · have hS := ((all_sim hk (Vw.self _) true q _).fil (8 * (l ++ [endTk s]).length + 8) 0 1 0 (Nat.le_refl _) (fun h => by cases h) (Int.le_refl 0) hn0).1 x (len l) hr
    have c1 := atE [wdT sWith 0, mkT [40] 12] [endTk (midW pW1 s [41])] (mkT [41] (endW pW1 s [41])) 13
    have c2 := atE [wdT sToE 0, mkT [124] 11, wdT sMap 13, mkT [40] 16] [mkT [124] (endW pW2 s qW2 + 2), wdT sFromE (endW pW2 s qW2 + 4), endTk (midW pW2 s qW2)] (mkT [41] (endW pW2 s qW2)) 17
    have n1 : ([wdT sWith 0, mkT [40] 12] ++ (l.map (shiftT 13) ++ mkT [41] (endW pW1 s [41]) :: endTk (midW pW1 s [41]) :: []) : List Tk).length = (l ++ [endTk s]).length + 3 := by simp
    have n2 : ([wdT sToE 0, mkT [124] 11, wdT sMap 13, mkT [40] 16] ++ (l.map (shiftT 17) ++ mkT [41] (endW pW2 s qW2) :: mkT [124] (endW pW2 s qW2 + 2) :: wdT sFromE (endW pW2 s qW2 + 4) :: endTk (midW pW2 s qW2) :: []) : List Tk).length = (l ++ [endTk s]).length + 7 := by simp
    have w1 := w1_parse (q := q) (L := [wdT sWith 0, mkT [40] 12] ++ (l.map (shiftT 13) ++ mkT [41] (endW pW1 s [41]) :: endTk (midW pW1 s [41]) :: [])) (n := len l) (B := l.map (shiftT 13) ++ mkT [41] (endW pW1 s [41]) :: endTk (midW pW1 s [41]) :: []) ⟨Int.le_refl 0, rfl⟩ c1 rfl (8 * (l ++ [endTk s]).length + 28)
    have w2 := w2_parse (q := q) (L := [wdT sToE 0, mkT [124] 11, wdT sMap 13, mkT [40] 16] ++ (l.map (shiftT 17) ++ mkT [41] (endW pW2 s qW2) :: mkT [124] (endW pW2 s qW2 + 2) :: wdT sFromE (endW pW2 s qW2 + 4) :: endTk (midW pW2 s qW2) :: [])) (n := len l) (B := l.map (shiftT 17) ++ mkT [41] (endW pW2 s qW2) :: mkT [124] (endW pW2 s qW2 + 2) :: wdT sFromE (endW pW2 s qW2 + 4) :: endTk (midW pW2 s qW2) :: []) ⟨Int.le_refl 0, rfl⟩ c2 rfl (8 * (l ++ [endTk s]).length + 58)
    have m1 := (all_sim hk v1 false q (8 * (l ++ [endTk s]).length + 8)).fil (8 * (l ++ [endTk s]).length + 28) 1 1 0 (by omega) (fun _ => rfl) (Int.le_refl 0) hn0
    have m2 := (all_sim hk v2 false q (8 * (l ++ [endTk s]).length + 8)).fil (8 * (l ++ [endTk s]).length + 58 + 1) 1 1 0 (by omega) (fun _ => rfl) (Int.le_refl 0) hn0
    have d1 := c1.one
    have d2 := c2.one.one.one
    have p1 : parseF q (midW pW1 s [41]) = parseA q ([wdT sWith 0, mkT [40] 12] ++ (l.map (shiftT 13) ++ mkT [41] (endW pW1 s [41]) :: endTk (midW pW1 s [41]) :: [])) := by unfold parseF; rw [l1]; rfl
    have p2 : parseF q (midW pW2 s qW2) = parseA q ([wdT sToE 0, mkT [124] 11, wdT sMap 13, mkT [40] 16] ++ (l.map (shiftT 17) ++ mkT [41] (endW pW2 s qW2) :: mkT [124] (endW pW2 s qW2 + 2) :: wdT sFromE (endW pW2 s qW2 + 4) :: endTk (midW pW2 s qW2) :: [])) := by unfold parseF; rw [l2]; rfl
    rw [p1, p2]
    unfold parseA
    rw [n1, n2, show 8 * ((l ++ [endTk s]).length + 3) + 8 = 8 * (l ++ [endTk s]).length + 28 + 4 from by omega, show 8 * ((l ++ [endTk s]).length + 7) + 8 = 8 * (l ++ [endTk s]).length + 58 + 6 from by omega]
    rcases hS with hS | ⟨_, p, hS⟩
    · left
      have hS : filA q (8 * (l ++ [endTk s]).length + 8) (l ++ [endTk s]) 1 0 = .ok x (len l) := by rw [Int.add_zero] at hS; exact hS
      rcases m1.1 x (len l) hS with k1 | ⟨k1, _⟩
      · rcases m2.1 x (len l) hS with k2 | ⟨k2, _⟩
        · refine ⟨(withT x).flat, ?_, ?_⟩
          · rw [w1.1 x k1]
            dsimp only
            rw [show len l + 3 = len l + len [wdT sWith 0, mkT [40] 12] + 1 from by show len l + 3 = len l + 2 + 1; omega, d1.at, if_pos (show (endTk (midW pW1 s [41])).kind = 6 from rfl)]
          · rw [w2.1 x k2]
            dsimp only
            rw [show len l + 7 = len l + len [wdT sToE 0, mkT [124] 11, wdT sMap 13, mkT [40] 16] + 1 + 1 + 1 from by show len l + 7 = len l + 4 + 1 + 1 + 1; omega, d2.at, if_pos (show (endTk (midW pW2 s qW2)).kind = 6 from rfl)]
        · cases k2
      · cases k1
    · right
      have hS : filA q (8 * (l ++ [endTk s]).length + 8) (l ++ [endTk s]) 1 0 = .er 3 p := by rw [Int.add_zero] at hS; exact hS
      obtain ⟨a, k1⟩ := m1.2 rfl p hS
      obtain ⟨b, k2⟩ := m2.2 rfl p hS
      exact ⟨a, b, by rw [w1.2 a k1], by rw [w2.2 b k2]⟩
end Go.Eng
set_option maxRecDepth 100000
namespace Go.Proofs.YtmjpjbmeamnfpaaGreatDoor
open Go.Eng

theorem sub_snoc {α : Type} [Inhabited α] (a : List α) {k : Int} (h0 : 0 ≤ k) (h1 : k < len a) : Eng.sub a 0 (k + 1) = Eng.sub a 0 k ++ [at' a k] := sub_succ a k h0 h1
theorem sameF_c (M : Mem) (a b : Fl) (va vb : Value) (w : World) (hM : Sat w M) (ha : Sl M 11 a.length va (a.flatMap Tm.cells)) (hb : Sl M 11 b.length vb (b.flatMap Tm.cells)) :
    Calls Tryz.prog 13 [va, vb].toArray w fun e w' => e = .returned (.bool (decide (a = b))) ∧ Ext w w' := by
 have hla : len a ≤ 9223372036854775807 := ha.le
 refine xenter (Hr := []) ttok Tryz.func13 rfl Tryz.ntmps13 [(0, knT va a), (1, knT vb b)] [] [.sl 0 va, .sl 1 vb] rfl (St.start hM) (fc 0 ha Tm.cells_len (fc 1 hb Tm.cells_len fnil)) (fun B hB => ?_) rfl
 refine xbr rfl (eok rfl) (by omega) (fun hb1 => ?_) (fun hb1 => ?_) <;> simp only [zb] at hb1
 ·exact xret hB rfl rfl (eok rfl) (by omega) rfl (eok rfl) fun w M hX => ⟨by rw [decide_eq_false (fun e => hb1 (by rw [e]))]; rfl, hX.st.low⟩
 refine xloop (fun k : Int => ⟨[(0, knT va a), (1, knT vb b)], [], [Z 0 (.sl 0 va), Z 1 (.sl 1 vb), Z 5 (I k)]⟩) (fun k => 0 ≤ k ∧ k ≤ len a ∧ Eng.sub a 0 k = Eng.sub b 0 k) (fun k => (len a - k).toNat) 0 rfl (eok rfl) (by omega) rfl ⟨by omega, by have := len_nonneg a; omega, rfl⟩ ?_
 rintro k ⟨hk0, hk1, hke⟩
 refine xbr rfl (eok rfl) (by omega) (fun hb2 => ?_) (fun hb2 => ?_) <;> simp only [zb] at hb2
 ·have hkb : k < len b := by omega
  refine xdrawO [8] 2 (fun _ _ _ _ _ h => h) rfl (eok rfl) (by omega) mixedK (by decide +kernel) ?_
  refine dg1 8 rfl (eok rfl) (by omega) rfl rfl ?_
  refine xpv (.v (.bool (!decide (at' a k = at' b k)))) rfl (eok rfl) (by omega) rfl (fun w M hX => PV.bin (opd_d (v := xTm (at' a k)) rfl (eok rfl)) (opd_d (v := xTm (at' b k)) rfl (eok rfl)) (fun _ w _ => neTm _ _ _ _ w)) ?_
  refine xstep rfl (eok rfl) (by omega) ?_
  refine dg0 rfl (eok rfl) (by omega) rfl rfl ?_
  refine xbr rfl (eok rfl) (by omega) (fun hb3 => ?_) (fun hb3 => ?_)
  ·have hne : ¬ at' a k = at' b k := by simpa [zb] using hb3
   exact xret hB rfl rfl (eok rfl) (by omega) rfl (eok rfl) fun w M hX => ⟨by rw [decide_eq_false (fun e => hne (by rw [e]))]; rfl, hX.st.low⟩
  ·have heq : at' a k = at' b k := by simpa [zb] using hb3
   exact xround (k + 1) rfl (eok rfl) (by omega) rfl ⟨by omega, by omega, by rw [sub_snoc a hk0 hb2, sub_snoc b hk0 hkb, hke, heq]⟩ (by show Int.toNat _ < Int.toNat _; omega)
 ·have hab : a = b := by rw [sub_all a k (by omega), sub_all b k (by omega)] at hke; exact hke
  exact xret hB rfl rfl (eok rfl) (by omega) rfl (eok rfl) fun w M hX => ⟨by rw [decide_eq_true hab]; rfl, hX.st.low⟩
theorem sameT7_c {x y : Fl} (h : x = y) (M : Mem) (va vb : Value) (w : World) (hM : Sat w M) (ha : Sl M 11 x.length va (x.flatMap Tm.cells)) (hb : Sl M 11 y.length vb (y.flatMap Tm.cells)) :
    Calls Tryz.prog 13 [va, vb].toArray w fun e w' => e = .returned (.bool true) ∧ Ext w w' :=
 (sameF_c M x y va vb w hM ha hb).mono fun e w' q => by rw [decide_eq_true h] at q; exact q
abbrev litD : Str := [46, 97, 46, 98, 91, 48, 93, 91, 49, 58, 93, 46, 34, 99, 32, 100, 34]
abbrev litK : Str := [46, 97, 32, 124, 32, 46, 98, 32, 124, 32, 46, 91, 48, 93, 32, 124, 32, 46, 91, 49, 58, 93, 32, 124, 32, 46, 34, 99, 32, 100, 34]
theorem litD_is : parseF quoteP litD = ((parseF quoteP litD).1, 0, 0) := by decide +kernel
theorem litK_is : parseF quoteP litK = ((parseF quoteP litD).1, 0, 0) := by decide +kernel
abbrev txt1 (s : Str) : Str := pW1 ++ s ++ [41]
abbrev txt2 (s : Str) : Str := pW2 ++ s ++ qW2
abbrev txt3 (s : Str) : Str := [9] ++ s ++ [10, 32]
theorem parseWith_c (s : Str) (w : World) (hg : Gl w) :
    Calls Tryz.prog 5 [str s].toArray w fun e w' => e = .returned (.bool true) ∧ Ext w w' := by
 have hs0 := len_nonneg s
 have q1 : len pW1 = 13 := rfl
 have q2 : len pW2 = 17 := rfl
 have q3 : len qW2 = 16 := rfl
 refine xenter ttok Tryz.func5 rfl Tryz.ntmps5 [] [] [.v (str s)] rfl (st0 w) fnil (fun B hB => ?_) rfl
 refine xbr rfl (eok rfl) (by omega) (fun hb1 => ?_) (fun hb1 => ?_) <;> simp only [zb] at hb1
 ·refine xcall rfl (eok rfl) (by omega) Tryz.call10 rfl rfl (eok rfl) (fun _ w M hX => alive9_c w (hg.low hX.st.low)) rfl ?_
  exact xret hB rfl rfl (eok rfl) (by omega) rfl (eok rfl) fun w M hX => ⟨rfl, hX.st.low⟩
 have h90 : len s ≤ 100000 := by omega
 have h91 : len (txt1 s) ≤ 100000 := by show len (pW1 ++ s ++ [41]) ≤ _; rw [len_app, len_app, show len [(41 : UInt8)] = 1 from rfl]; omega
 have h92 : len (txt2 s) ≤ 100000 := by show len (pW2 ++ s ++ qW2) ≤ _; rw [len_app, len_app]; omega
 have h93 : len (txt3 s) ≤ 100000 := by show len ([9] ++ s ++ [10, 32]) ≤ _; simp only [len_app, len_cons, len_nil]; omega
 by_cases h0 : (parseF quoteP s).2.2 = 0
 ·obtain ⟨e3, e12⟩ := with_law (q := quoteP) (s := s) (by omega) h0
  have e0 : parseF quoteP s = ((parseF quoteP s).1, (parseF quoteP s).2.1, 0) := by rw [← h0]
  have f3 : parseF quoteP (txt3 s) = ((parseF quoteP s).1, 0, 0) := by rw [show txt3 s = midW [9] s [10, 32] from by simp [txt3, midW]]; exact e3
  have g1 : txt1 s = midW pW1 s [41] := by simp [txt1, midW]
  have g2 : txt2 s = midW pW2 s qW2 := by simp [txt2, midW]
  rw [← g1, ← g2] at e12
  obtain ⟨y, a, b, e, f1, f2⟩ : ∃ y a b e, parseF quoteP (txt1 s) = (y, a, e) ∧ parseF quoteP (txt2 s) = (y, b, e) := by
   rcases e12 with ⟨y, f1, f2⟩ | ⟨a, b, f1, f2⟩
   ·exact ⟨y, 0, 0, 0, f1, f2⟩
   ·exact ⟨[], a, b, 3, f1, f2⟩
  refine xcallM (fun h : SlH => .tu [.sl 3 h.v, I (parseF quoteP s).2.1, I 0]) [3] rfl (eok rfl) (by omega) rfl Tryz.call11 rfl rfl (eok rfl) (fun w M hX => by have := parseP_c s w M hX.st.sat (hg.low hX.st.low) h90; rw [e0] at this; exact this) (fun _ => rfl) fun h3 _ => ?_
  refine xcallM (fun h : SlH => .tu [.sl 4 h.v, I a, I e]) [4] rfl (eok rfl) (by first | omega | (simp only [len_app]; show _; simp [len] at *; omega)) rfl Tryz.call11 rfl rfl (eok rfl) (fun w M hX => by have := parseP_c (txt1 s) w M hX.st.sat (hg.low hX.st.low) h91; rw [f1] at this; exact this) (fun _ => rfl) fun h4 _ => ?_
  refine xcallM (fun h : SlH => .tu [.sl 5 h.v, I b, I e]) [5] rfl (eok rfl) (by first | omega | (simp only [len_app]; show _; simp [len] at *; omega)) rfl Tryz.call11 rfl rfl (eok rfl) (fun w M hX => by have := parseP_c (txt2 s) w M hX.st.sat (hg.low hX.st.low) h92; rw [f2] at this; exact this) (fun _ => rfl) fun h5 _ => ?_
  refine xcallM (fun h : SlH => .tu [.sl 6 h.v, I 0, I 0]) [6] rfl (eok rfl) (by first | omega | (simp only [len_app]; show _; simp [len] at *; omega)) rfl Tryz.call11 rfl rfl (eok rfl) (fun w M hX => by have := parseP_c (txt3 s) w M hX.st.sat (hg.low hX.st.low) h93; rw [f3] at this; exact this) (fun _ => rfl) fun h6 _ => ?_
  refine xcallM (fun h : SlH => .tu [.sl 7 h.v, I 0, I 0]) [7] rfl (eok rfl) (by omega) rfl Tryz.call11 rfl rfl (eok rfl) (fun w M hX => by have := parseP_c litD w M hX.st.sat (hg.low hX.st.low) (by decide); rw [litD_is] at this; exact this) (fun _ => rfl) fun h7 _ => ?_
  refine xcallM (fun h : SlH => .tu [.sl 8 h.v, I 0, I 0]) [8] rfl (eok rfl) (by omega) rfl Tryz.call11 rfl rfl (eok rfl) (fun w M hX => by have := parseP_c litK w M hX.st.sat (hg.low hX.st.low) (by decide); rw [litK_is] at this; exact this) (fun _ => rfl) fun h8 _ => ?_
  refine xcall rfl (eok rfl) (by omega) Tryz.call13 rfl rfl (eok rfl) (fun _ w M hX => sameT7_c (rfl) M h7.v h8.v w hX.st.sat (hX.sl 7 rfl) (hX.sl 8 rfl)) rfl ?_
  refine xbr rfl (eok rfl) (by omega) (fun hb3 => ?_) (fun hb3 => ?_)
  ·cases hb3
  refine xbr rfl (eok rfl) (by omega) (fun hb4 => ?_) (fun hb4 => ?_)
  ·cases hb4
  refine xcall rfl (eok rfl) (by omega) Tryz.call10 rfl rfl (eok rfl) (fun _ w M hX => alive9_c w (hg.low hX.st.low)) rfl ?_
  refine xcall rfl (eok rfl) (by omega) Tryz.call13 rfl rfl (eok rfl) (fun _ w M hX => sameT7_c (rfl) M h4.v h5.v w hX.st.sat (hX.sl 4 rfl) (hX.sl 5 rfl)) rfl ?_
  refine xcall rfl (eok rfl) (by omega) Tryz.call13 rfl rfl (eok rfl) (fun _ w M hX => sameT7_c (rfl) M h6.v h3.v w hX.st.sat (hX.sl 6 rfl) (hX.sl 3 rfl)) rfl ?_
  exact xret hB rfl rfl (eok rfl) (by omega) rfl (eok rfl) fun w M hX => ⟨by show Ending.returned (.bool _) = _; simp, hX.st.low⟩
 ·skip
  refine xcallM (fun h : SlH => .tu [.sl 3 h.v, I (parseF quoteP s).2.1, I (parseF quoteP s).2.2]) [3] rfl (eok rfl) (by omega) rfl Tryz.call11 rfl rfl (eok rfl) (fun w M hX => parseP_c s w M hX.st.sat (hg.low hX.st.low) h90) (fun _ => rfl) fun h3 _ => ?_
  refine xcallM (fun h : SlH => .tu [.sl 4 h.v, I (parseF quoteP (txt1 s)).2.1, I (parseF quoteP (txt1 s)).2.2]) [4] rfl (eok rfl) (by first | omega | (simp only [len_app]; show _; simp [len] at *; omega)) rfl Tryz.call11 rfl rfl (eok rfl) (fun w M hX => parseP_c (txt1 s) w M hX.st.sat (hg.low hX.st.low) h91) (fun _ => rfl) fun h4 _ => ?_
  refine xcallM (fun h : SlH => .tu [.sl 5 h.v, I (parseF quoteP (txt2 s)).2.1, I (parseF quoteP (txt2 s)).2.2]) [5] rfl (eok rfl) (by first | omega | (simp only [len_app]; show _; simp [len] at *; omega)) rfl Tryz.call11 rfl rfl (eok rfl) (fun w M hX => parseP_c (txt2 s) w M hX.st.sat (hg.low hX.st.low) h92) (fun _ => rfl) fun h5 _ => ?_
  refine xcallM (fun h : SlH => .tu [.sl 6 h.v, I (parseF quoteP (txt3 s)).2.1, I (parseF quoteP (txt3 s)).2.2]) [6] rfl (eok rfl) (by first | omega | (simp only [len_app]; show _; simp [len] at *; omega)) rfl Tryz.call11 rfl rfl (eok rfl) (fun w M hX => parseP_c (txt3 s) w M hX.st.sat (hg.low hX.st.low) h93) (fun _ => rfl) fun h6 _ => ?_
  refine xcallM (fun h : SlH => .tu [.sl 7 h.v, I 0, I 0]) [7] rfl (eok rfl) (by omega) rfl Tryz.call11 rfl rfl (eok rfl) (fun w M hX => by have := parseP_c litD w M hX.st.sat (hg.low hX.st.low) (by decide); rw [litD_is] at this; exact this) (fun _ => rfl) fun h7 _ => ?_
  refine xcallM (fun h : SlH => .tu [.sl 8 h.v, I 0, I 0]) [8] rfl (eok rfl) (by omega) rfl Tryz.call11 rfl rfl (eok rfl) (fun w M hX => by have := parseP_c litK w M hX.st.sat (hg.low hX.st.low) (by decide); rw [litK_is] at this; exact this) (fun _ => rfl) fun h8 _ => ?_
  refine xcall rfl (eok rfl) (by omega) Tryz.call13 rfl rfl (eok rfl) (fun _ w M hX => sameT7_c (rfl) M h7.v h8.v w hX.st.sat (hX.sl 7 rfl) (hX.sl 8 rfl)) rfl ?_
  refine xbr rfl (eok rfl) (by omega) (fun hb3 => ?_) (fun hb3 => ?_)
  ·cases hb3
  refine xbr rfl (eok rfl) (by omega) (fun hb4 => ?_) (fun hb4 => ?_) <;> simp only [zb] at hb4
  ·refine xcall rfl (eok rfl) (by omega) Tryz.call10 rfl rfl (eok rfl) (fun _ w M hX => alive9_c w (hg.low hX.st.low)) rfl ?_
   refine xret hB rfl rfl (eok rfl) (by omega) rfl (eok rfl) fun w M hX => ⟨?_, hX.st.low⟩
   show Ending.returned (.bool (true && (len (parseF quoteP s).1 == 0))) = _
   rw [parse_err h0]; rfl
  ·exact (h0 (by omega)).elim
end Go.Proofs.YtmjpjbmeamnfpaaGreatDoor
set_option maxRecDepth 100000
namespace Go.Proofs.YtmjpjbmeamnfpaaGreatDoor.parseWith
open Go.ChangeShapes Go.WideShapes Go.ChangeAt Go.RowKit Go.Eng
noncomputable abbrev jP := Tryz.prog
noncomputable abbrev jf : FuncId := 5
noncomputable abbrev jfn := Tryz.f5
noncomputable abbrev js := Rows.parseWithSpec
noncomputable abbrev jc := Rows.parseWithRow
theorem jk0 : jc.wf (OpenSpec.ofChange js) = true := by kernel_rfl
theorem jk1 : laidOutB jP = true := by kernel_rfl
theorem jk2 : mapsRowed jP = true := by kernel_rfl
theorem jk3 : jfn.params.all (jP.readableRec ·) = true := by kernel_rfl
theorem jk4 : namedTie jP jc.named js.vars = true := by kernel_rfl
theorem jk5 : (jc.stops == []) = true := by kernel_rfl
theorem jk6 : (jP.stops == []) = true := by kernel_rfl
theorem jk7 : (jc.knobs == []) = true := by kernel_rfl
theorem jk8 : (jP.stopKnobs == []) = true := by kernel_rfl
theorem jk9 : (jc.inPlace == jP.inPlace jf) = true := by kernel_rfl
theorem jk10 : (jc.unfollowed == jP.unfollowed jf) = true := by kernel_rfl
theorem jk11 : (jc.recurses == jP.recurses jf) = true := by kernel_rfl
theorem jk12 : (jc.named == jP.varsNamed jf) = true := by kernel_rfl
theorem jk13 : (jc.maps == (jfn.params.toList ++ js.plain.varTypes jP).any (jP.mapsRec ·)) = true := by kernel_rfl
theorem jk14 : (jc.ifaces == (jfn.params.toList ++ js.plain.varTypes jP).any (jP.ifacesRec ·)) = true := by kernel_rfl
theorem jk15 : (jc.mapsOut == jP.mapsAmong jfn.resultTypes.toList) = true := by kernel_rfl
theorem jk16 : (jc.loops == (jfn.params.toList ++ js.plain.varTypes jP).any (jP.loopsFrom ·)) = true := by kernel_rfl
theorem jk17 : (jc.wideKeys == (jfn.params.toList ++ js.plain.varTypes jP ++ jfn.resultTypes.toList).any (jP.wideKeysFrom ·)) = true := by kernel_rfl
theorem jk18 : js.vars.all (jP.varReadable ·) = true := by kernel_rfl
theorem jk19 : jfn.resultTypes.all (fun t => jP.readableRec t && decide (t < jP.types.size)) = true := by kernel_rfl
theorem jk20 : (jc.ifacesOut == jfn.resultTypes.toList.any (jP.ifacesRec ·)) = true := by kernel_rfl
theorem jk21 : (jc.loopsOut == jfn.resultTypes.toList.any (jP.loopsFrom ·)) = true := by kernel_rfl
theorem jk22 : (jc.plainKeys == jP.plainKeys) = true := by kernel_rfl
theorem jk23 : jc.shortTexts.isNone = true := by kernel_rfl
theorem jk24 : jP.stopsHeard = true := by kernel_rfl
theorem jk25 : jP.mayEnter = true := by kernel_rfl
theorem jk26 : (jc.lifted == jP.liftsFinal) = true := by kernel_rfl
theorem jk27 : (jP.make == some jc.make) = true := by kernel_rfl
theorem jk28 : (jc.kinds == (if jc.domain.isEmpty then [] else jfn.params.toList.map fun t => match jP.underlying t with | some (.int k) => some k | _ => none)) = true := by kernel_rfl
theorem jk29 : (jc.pinned == jc.pinnedBy) = true := by kernel_rfl
theorem jk30 : (jc.veiled == (jfn.params.toList ++ js.plain.varTypes jP ++ jfn.resultTypes.toList).any (jP.veiledRec ·)) = true := by kernel_rfl
theorem jk31 : jc.veiledFits jP jfn.params.toList (jfn.params.toList ++ js.plain.varTypes jP ++ jfn.resultTypes.toList) = true := by kernel_rfl
theorem and_t {a b : Bool} (h : a = true) (h2 : b = true) : (a && b) = true := by rw [h, h2]; rfl
theorem joined : joinedFacts jP jf jfn js jc = true := (and_t (and_t (and_t (and_t (and_t (and_t (and_t (and_t (and_t (and_t (and_t (and_t (and_t (and_t (and_t (and_t (and_t (and_t (and_t (and_t (and_t (and_t (and_t (and_t (and_t (and_t (and_t (and_t (and_t (and_t (and_t jk0 jk1) jk2) jk3) jk4) jk5) jk6) jk7) jk8) jk9) jk10) jk11) jk12) jk13) jk14) jk15) jk16) jk17) jk18) jk19) jk20) jk21) jk22) jk23) jk24) jk25) jk26) jk27) jk28) jk29) jk30) jk31)
end Go.Proofs.YtmjpjbmeamnfpaaGreatDoor.parseWith
