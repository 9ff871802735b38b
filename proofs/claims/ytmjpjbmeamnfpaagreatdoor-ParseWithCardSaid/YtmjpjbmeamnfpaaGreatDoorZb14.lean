/-
  What filters' twins keep to: places rise, and stay within the tokens; what is read is small, without a name. No program in it.
-/
import Derived.Test.YtmjpjbmeamnfpaaGreatDoorZb13
import Derived.Test.YtmjpjbmeamnfpaaGreatDoorZb10
import Derived.Test.YtmjpjbmeamnfpaaGreatDoorZb4
import Derived.Laws.BitsLemmas
import Derived.Test.YtmjpjbmeamnfpaaGreatDoorZb3
import Derived.Test.YtmjpjbmeamnfpaaGreatDoorProg
import Derived.Test.YtmjpjbmeamnfpaaGreatDoorZb5
import Derived.Tactics
import Derived.Tactics2
import Derived.Defers
import Derived.Laws.Pointers
import Derived.Laws.LoneSync
import Derived.RegionTactic
import Derived.RegionCalls
import Derived.ChangeAlike
set_option linter.unusedVariables false
set_option linter.unusedSimpArgs false
namespace Go.Eng

/-- Tokens as a text has them: the last one is the end's. -/
structure LexOk (l : List Tk) : Prop where
  last : ∀ i, 0 ≤ i → i < len l → (at' l i).kind ≠ 6 → i + 1 < len l
  figs : ∀ t ∈ l, t.kind = 5 → ∀ b ∈ t.c.s, isFigB b = true
  num : ∀ t ∈ l, t.kind = 5 → len t.c.s ≤ 1048576 ∧ t.c.e ≤ 1000000000
  bd : ∀ t ∈ l, len t.s ≤ 1048576
  few : len l ≤ 1048576
theorem bind_ok {α β : Type} {r : PR α} {k : α → Int → PR β} {y : β} {m : Int} (h : r.bind k = .ok y m) : ∃ x j, r = .ok x j ∧ k x j = .ok y m := by
  cases r with
  | er c p => cases h
  | ok x j => exact ⟨x, j, rfl, h⟩
theorem failA_no {α : Type} {l : List Tk} {i e : Int} {x : α} {j : Int} (h : failA l i e = .ok x j) : False := by cases h
section
variable {l : List Tk} (hl : LexOk l) {i : Int} (h0 : 0 ≤ i) (h1 : i < len l)
include hl h0 h1
theorem isM_lt {m : Str} (h : isM l i m = true) : i + 1 < len l := hl.last i h0 h1 fun e => by
  unfold isM at h; rw [e] at h; simp at h
theorem kind_lt {k : Int} (h : (at' l i).kind = k) (hk : k ≠ 6) : i + 1 < len l := hl.last i h0 h1 fun e => hk (by rw [← h, e])
theorem need_ok {m : Str} {u : Unit} {j : Int} (h : needA l i m = .ok u j) : j = i + 1 ∧ j < len l ∧ isM l i m = true := by
  unfold needA at h
  split at h
  · rename_i hm; cases h; exact ⟨rfl, isM_lt hl h0 h1 hm, hm⟩
  · exact (failA_no h).elim
theorem open_ok {d : Int} {m : Str} {u : Unit} {j : Int} (h : openA l d i m = .ok u j) : j = i + 1 ∧ j < len l ∧ d < 64 ∧ isM l i m = true := by
  unfold openA at h
  split at h
  · exact (failA_no h).elim
  · rename_i hd
    obtain ⟨h2, h3, h4⟩ := need_ok hl h0 h1 h
    refine ⟨h2, h3, ?_, h4⟩
    rw [h4] at hd; simp at hd; exact hd
theorem call_ok {α : Type} {d : Int} {X : Int → PR α} {x : α} {m : Int} (h : callA l d i X = .ok x m) : i + 1 < len l ∧ d < 64 ∧ ∃ k, X (i + 1) = .ok x k ∧ (0 ≤ k → k < len l → m = k + 1 ∧ m < len l) := by
  unfold callA at h
  obtain ⟨u, j, h2, h3⟩ := bind_ok h
  obtain ⟨rfl, h4, h5, _⟩ := open_ok hl h0 h1 h2
  obtain ⟨y, k, h6, h7⟩ := bind_ok h3
  obtain ⟨v, m', h8, h9⟩ := bind_ok h7
  cases h9
  exact ⟨h4, h5, k, h6, fun k0 k1 => by obtain ⟨e, h10, _⟩ := need_ok hl k0 k1 h8; exact ⟨e, h10⟩⟩
theorem whole_ok {x : Int} {j : Int} (h : wholeA l i = .ok x j) : j = i + 1 ∧ j < len l ∧ x ≤ 1000000 ∧ (at' l i).kind = 5 := by
  unfold wholeA at h
  split at h
  · exact (failA_no h).elim
  · rename_i hc
    split at h
    · exact (failA_no h).elim
    · cases h
      have h5 : (at' l i).kind = 5 := Decidable.byContradiction fun e => hc (.inl e)
      exact ⟨rfl, kind_lt hl h0 h1 h5 (by decide), by omega, h5⟩
/-- What is handed back. -/
structure GoodR (l : List Tk) (i : Int) (x : Tf) (j : Int) : Prop where
  lt : i < j
  le : j < len l
  pipe : PipeOk x
  name : x.t.name = []
  size : len x.flat ≤ 4 * (j - i)
omit hl h0 h1 in
theorem Tf.flat_leaf (t : Tm) : len (Tf.mk t []).flat = 1 := by rw [Tf.flat_mk]; rfl
omit hl h0 h1 in
theorem GoodR.leaf {t : Tm} {j : Int} (ho : t.op ≠ 4) (hn : t.name = []) (h2 : i < j) (h3 : j < len l) : GoodR l i (.mk t []) j := ⟨h2, h3, .no ho, hn, by rw [Tf.flat_leaf]; omega⟩
theorem suf_ok {x : Tf} {j : Int} (hk : (at' l i).kind = 3 ∨ isM l i [91] = true) (h : sufA l i = .ok x j) : GoodR l i x j ∧ len x.flat = 1 := by
  unfold sufA at h
  split at h
  · rename_i h3
    cases h
    exact ⟨.leaf (by show (1 : Int) ≠ 4; decide) rfl (by omega) (kind_lt hl h0 h1 h3 (by decide)), Tf.flat_leaf _⟩
  · rename_i h3
    have hm := hk.resolve_left h3
    have h4 := isM_lt hl h0 h1 hm
    obtain ⟨n, k, h5, h6⟩ := bind_ok h
    obtain ⟨rfl, h7, _, _⟩ := whole_ok hl (by omega) h4 h5
    split at h6
    · rename_i h8
      have h9 := isM_lt hl (by omega) h7 h8
      obtain ⟨u, m, h10, h11⟩ := bind_ok h6
      cases h11
      obtain ⟨rfl, h12, _⟩ := need_ok hl (by omega) h9 h10
      exact ⟨.leaf (by show (3 : Int) ≠ 4; decide) rfl (by omega) h12, Tf.flat_leaf _⟩
    · obtain ⟨u, m, h10, h11⟩ := bind_ok h6
      cases h11
      obtain ⟨rfl, h12, _⟩ := need_ok hl (by omega) h7 h10
      exact ⟨.leaf (by show (2 : Int) ≠ 4; decide) rfl (by omega) h12, Tf.flat_leaf _⟩
/-- Filters that are going to be piped. -/
structure GoodL (xs : List Tf) (i i0 : Int) : Prop where
  pipe : ∀ x ∈ xs, PipeOk x ∧ x.t.name = []
  size : len (flatF xs) + len xs ≤ 4 * (i - i0) + 1
omit hl h0 h1 in
theorem GoodL.piped {xs : List Tf} {i0 : Int} (h : GoodL xs i i0) (hn : xs ≠ []) (h2 : i0 < i) (h3 : i < len l) : GoodR l i0 (pipedF xs) i := by
  obtain ⟨h4, h5⟩ := pipedF_ok hn h.pipe
  have h6 := (pipedF_len hn fun x hx => (h.pipe x hx).1).2
  exact ⟨h2, h3, h4, h5, by have := h.size; omega⟩
omit hl h0 h1 in
theorem flatF_snoc (xs : List Tf) (x : Tf) : len (flatF (xs ++ [x])) = len (flatF xs) + len x.flat := by
  rw [flatF_app, len_app]; show _ + len (x.flat ++ []) = _; rw [List.append_nil]
omit hl h0 h1 in
theorem GoodL.snoc {xs : List Tf} {i0 j : Int} {x : Tf} (h : GoodL xs i i0) (hx : PipeOk x) (hn : x.t.name = []) (hs : len x.flat + 1 ≤ 4 * (j - i)) : GoodL (xs ++ [x]) j i0 :=
  ⟨fun y hy => by
    rcases List.mem_append.1 hy with hy | hy
    · exact h.pipe y hy
    · rw [List.mem_singleton] at hy; subst hy; exact ⟨hx, hn⟩, by rw [flatF_snoc, len_app]; have := h.size; show _ + (len xs + 1) ≤ _; omega⟩
omit h0 h1 in
theorem sufs_ok {i0 : Int} : ∀ (f : Nat) (xs : List Tf) (i : Int) {x : Tf} {j : Int}, 0 ≤ i → i < len l → i0 < i → GoodL xs i i0 → (xs = [] → (at' l i).kind = 3 ∨ isM l i [91] = true) → sufsA f l xs i = .ok x j → GoodR l i0 x j
  | 0, xs, i, x, j, _, _, _, _, _, h => (failA_no h).elim
  | f + 1, xs, i, x, j, h0, h1, hi, hg, hx, h => by
    unfold sufsA at h
    split at h
    · rename_i hc
      obtain ⟨y, k, h2, h3⟩ := bind_ok h
      obtain ⟨h4, h5⟩ := suf_ok hl h0 h1 hc h2
      exact sufs_ok f (xs ++ [y]) k (by have := h4.lt; omega) h4.le (by have := h4.lt; omega) (hg.snoc h4.pipe h4.name (by have := h4.lt; omega)) (by simp) h3
    · rename_i hc
      cases h
      exact hg.piped (fun e => hc (hx e)) hi h1
/-- A path's steps. -/
def StepsOk (xs : List Sp) : Prop := len xs ≤ 20 ∧ ∀ s ∈ xs, len s.name ≤ 1048576 ∧ (s.part = true → 0 ≤ s.n ∧ s.n ≤ 1000000)
omit hl h0 h1 in
theorem whole_pos {l : List Tk} (hl : LexOk l) {i : Int} (h0 : 0 ≤ i) (h1 : i < len l) (h5 : (at' l i).kind = 5) : 0 ≤ wholeN (at' l i) := by
  have h2 := hl.figs _ (at_mem h0 h1) h5
  have key : ∀ (s : Str) (n : Int), (∀ b ∈ s, isFigB b = true) → 0 ≤ n → 0 ≤ s.foldl (fun n c => 10 * n + ((c.toNat : Int) - 48)) n := by
    intro s
    induction s with
    | nil => intro n _ h; exact h
    | cons a s ih =>
      intro n h hn
      have ha := h a (by simp)
      unfold isFigB isFig at ha
      simp only [Bool.and_eq_true, decide_eq_true_eq] at ha
      exact ih _ (fun b hb => h b (by simp [hb])) (show (0 : Int) ≤ 10 * n + ((a.toNat : Int) - 48) by omega)
  unfold wholeN figsN
  refine key _ 0 (fun b hb => ?_) (by omega)
  rcases List.mem_append.1 hb with hb | hb
  · exact h2 b hb
  · rw [(List.mem_replicate.1 hb).2]; decide
omit hl h0 h1 in
theorem wholeA_pos {l : List Tk} (hl : LexOk l) {i : Int} (h0 : 0 ≤ i) (h1 : i < len l) {n j : Int} (h2 : wholeA l i = .ok n j) : 0 ≤ n := by
  have h7 := (whole_ok hl h0 h1 h2).2.2.2
  unfold wholeA at h2
  split at h2
  · exact (failA_no h2).elim
  · split at h2
    · exact (failA_no h2).elim
    · cases h2; exact whole_pos hl h0 h1 h7
omit h0 h1 in
theorem steps_ok {dot : Bool} : ∀ (f : Nat) (xs : List Sp) (i : Int) {ys : List Sp} {j : Int}, 0 ≤ i → i < len l → StepsOk xs → stepsA dot f l xs i = .ok ys j → i ≤ j ∧ j < len l ∧ StepsOk ys
  | 0, xs, i, ys, j, _, _, _, h => (failA_no h).elim
  | f + 1, xs, i, ys, j, h0, h1, hg, h => by
    unfold stepsA at h
    split at h
    · rename_i hc
      split at h
      · exact (failA_no h).elim
      · rename_i h20
        have h21 : len xs < 20 := by have := hg.1; omega
        split at h
        · rename_i hk
          have h4 := kind_lt hl h0 h1 hk (by decide)
          obtain ⟨n, k, h2, h3⟩ := bind_ok h
          obtain ⟨rfl, h5, h6, h7⟩ := whole_ok hl (by omega) h4 h2
          obtain ⟨u, m, h8, h9⟩ := bind_ok h3
          obtain ⟨rfl, h10, _⟩ := need_ok hl (by omega) h5 h8
          have hn : 0 ≤ n := by
            unfold wholeA at h2
            split at h2
            · exact (failA_no h2).elim
            · split at h2
              · exact (failA_no h2).elim
              · cases h2; exact whole_pos hl (by omega) h4 h7
          obtain ⟨k1, k2, k3⟩ := steps_ok f _ _ (by omega) h10 ⟨by rw [len_app]; show len xs + 1 ≤ 20; omega, fun s hs => by
            rcases List.mem_append.1 hs with hs | hs
            · exact hg.2 s hs
            · rw [List.mem_singleton] at hs; subst hs; exact ⟨(by show len ([] : Str) ≤ 1048576; decide), fun _ => ⟨hn, h6⟩⟩⟩ h9
          exact ⟨by omega, k2, k3⟩
        · rename_i hk
          have h4 : i + 1 < len l := by
            rcases hc with hm | ⟨hm, _⟩
            · exact isM_lt hl h0 h1 hm
            · exact kind_lt hl h0 h1 hm (by decide)
          obtain ⟨k1, k2, k3⟩ := steps_ok f _ _ (by omega) h4 ⟨by rw [len_app]; show len xs + 1 ≤ 20; omega, fun s hs => by
            rcases List.mem_append.1 hs with hs | hs
            · exact hg.2 s hs
            · rw [List.mem_singleton] at hs; subst hs; exact ⟨hl.bd _ (at_mem h0 h1), fun e => by cases e⟩⟩ h
          exact ⟨by omega, k2, k3⟩
    · cases h; exact ⟨Int.le_refl _, h1, hg⟩
omit hl h0 h1 in
theorem StepsOk.nil : StepsOk [] := ⟨by decide, fun s hs => by cases hs⟩
theorem path_ok {q : Str → Str} {s : Str} {j : Int} (h : pathA q l i = .ok s j) : i ≤ j ∧ j < len l := by
  unfold pathA at h
  split at h
  · rename_i hm
    have h2 := isM_lt hl h0 h1 hm
    obtain ⟨xs, k, h3, h4⟩ := bind_ok h
    cases h4
    obtain ⟨k1, k2, _⟩ := steps_ok hl _ _ _ (by omega) h2 .nil h3
    exact ⟨by omega, k2⟩
  · split at h
    · exact (failA_no h).elim
    · obtain ⟨xs, k, h3, h4⟩ := bind_ok h
      cases h4
      obtain ⟨k1, k2, _⟩ := steps_ok hl _ _ _ h0 h1 .nil h3
      exact ⟨k1, k2⟩
theorem lit_ok {c : Nd} {j : Int} (h : litA l i = .ok c j) : j = i + 1 ∧ j < len l := by
  unfold litA at h
  split at h
  · rename_i hk; cases h; exact ⟨rfl, kind_lt hl h0 h1 hk (by decide)⟩
  · split at h
    · rename_i hk; cases h; exact ⟨rfl, kind_lt hl h0 h1 hk (by decide)⟩
    · split at h
      · rename_i hk; cases h; exact ⟨rfl, kind_lt hl h0 h1 hk.1 (by decide)⟩
      · exact (failA_no h).elim
theorem cmp_ok {q : Str → Str} {x : Tf} {j : Int} (h : cmpA q l i = .ok x j) : GoodR l i x j := by
  unfold cmpA at h
  obtain ⟨s, k, h2, h3⟩ := bind_ok h
  obtain ⟨h4, h5⟩ := path_ok hl h0 h1 h2
  split at h3
  · rename_i hk
    have h6 := kind_lt hl (by omega) h5 hk.1 (by decide)
    obtain ⟨c, m, h7, h8⟩ := bind_ok h3
    cases h8
    obtain ⟨rfl, h9⟩ := lit_ok hl (by omega) h6 h7
    exact .leaf (by show (16 : Int) ≠ 4; decide) rfl (by omega) h9
  · exact (failA_no h3).elim
end
section
variable {l : List Tk} (hl : LexOk l) (q : Str → Str)
/-- A list of parts, within brackets. -/
structure GoodP (xs : List Tf) (i i0 : Int) : Prop where
  size : len (flatF xs) ≤ 4 * (i - i0)
theorem GoodP.snoc {xs : List Tf} {i i0 j : Int} {x : Tf} (h : GoodP xs i i0) (hs : len x.flat ≤ 4 * (j - i)) : GoodP (xs ++ [x]) j i0 := ⟨by rw [flatF_snoc]; have := h.size; omega⟩
theorem Tf.flat_mk_len (t : Tm) (xs : List Tf) : len (Tf.mk t xs).flat = 1 + len (flatF xs) := by rw [Tf.flat_cons, len_cons]; show len (flatF xs) + 1 = _; omega
theorem flatF_one (x : Tf) : len (flatF [x]) = len x.flat := by show len (x.flat ++ []) = _; rw [List.append_nil]
theorem flatF_two (x y : Tf) : len (flatF [x, y]) = len x.flat + len y.flat := by show len (x.flat ++ (y.flat ++ [])) = _; rw [List.append_nil, len_app]
structure AllG (l : List Tk) (q : Str → Str) (f : Nat) : Prop where
  fil : ∀ d i x j, 0 ≤ i → i < len l → filA q f l d i = .ok x j → GoodR l i x j
  pip : ∀ d xs i i0 x j, 0 ≤ i → i < len l → i0 < i → xs ≠ [] → GoodL xs i i0 → pipA q f l d xs i = .ok x j → GoodR l i0 x j
  pos : ∀ d i x j, 0 ≤ i → i < len l → posA q f l d i = .ok x j → GoodR l i x j
  pri : ∀ d i x j, 0 ≤ i → i < len l → priA q f l d i = .ok x j → GoodR l i x j
  wor : ∀ d i x j, 0 ≤ i → i < len l → (at' l i).kind = 2 → worA q f l d i = .ok x j → GoodR l i x j
  obs : ∀ d xs i i0 x j, 0 ≤ i → i < len l → i0 < i → GoodP xs i (i0 + 1) → obsA q f l d xs i = .ok x j → GoodR l i0 x j
  lis : ∀ d xs i i0 x j, 0 ≤ i → i < len l → i0 < i → GoodP xs i (i0 + 1) → lisA q f l d xs i = .ok x j → GoodR l i0 x j
  eit : ∀ d i x j, 0 ≤ i → i < len l → eitA q f l d i = .ok x j → GoodR l i x j
  eis : ∀ d x i i0 y j, 0 ≤ i → i < len l → GoodR l i0 x i → eisA q f l d x i = .ok y j → GoodR l i0 y j
  bot : ∀ d i x j, 0 ≤ i → i < len l → botA q f l d i = .ok x j → GoodR l i x j
  bos : ∀ d x i i0 y j, 0 ≤ i → i < len l → GoodR l i0 x i → bosA q f l d x i = .ok y j → GoodR l i0 y j
  sin : ∀ d i x j, 0 ≤ i → i < len l → sinA q f l d i = .ok x j → GoodR l i x j
include hl in
theorem all_good : ∀ f, AllG l q f
  | 0 => ⟨fun _ _ _ _ _ _ h => (failA_no h).elim, fun _ _ _ _ _ _ _ _ _ _ _ h => (failA_no h).elim, fun _ _ _ _ _ _ h => (failA_no h).elim, fun _ _ _ _ _ _ h => (failA_no h).elim, fun _ _ _ _ _ _ _ h => (failA_no h).elim, fun _ _ _ _ _ _ _ _ _ _ h => (failA_no h).elim,
      fun _ _ _ _ _ _ _ _ _ _ h => (failA_no h).elim, fun _ _ _ _ _ _ h => (failA_no h).elim, fun _ _ _ _ _ _ _ _ _ h => (failA_no h).elim, fun _ _ _ _ _ _ h => (failA_no h).elim, fun _ _ _ _ _ _ _ _ _ h => (failA_no h).elim, fun _ _ _ _ _ _ h => (failA_no h).elim⟩
  | f + 1 => by
    have ih := all_good f
    constructor
    · intro d i x j h0 h1 h
      unfold filA at h
      obtain ⟨y, k, h2, h3⟩ := bind_ok h
      have g := ih.pos d i y k h0 h1 h2
      exact ih.pip d [y] k i x j (by have := g.lt; omega) g.le g.lt (by simp) ⟨fun z hz => by rw [List.mem_singleton] at hz; subst hz; exact ⟨g.pipe, g.name⟩, by rw [flatF_one]; have := g.size; show _ + 1 ≤ _; omega⟩ h3
    · intro d xs i i0 x j h0 h1 hi hn hg h
      unfold pipA at h
      split at h
      · rename_i hm
        have h4 := isM_lt hl h0 h1 hm
        obtain ⟨y, k, h2, h3⟩ := bind_ok h
        have g := ih.pos d (i + 1) y k (by omega) h4 h2
        exact ih.pip d (xs ++ [y]) k i0 x j (by have := g.lt; omega) g.le (by have := g.lt; omega) (by simp) (hg.snoc g.pipe g.name (by have := g.size; have := g.lt; omega)) h3
      · cases h; exact hg.piped hn hi h1
    · intro d i x j h0 h1 h
      unfold posA at h
      obtain ⟨y, k, h2, h3⟩ := bind_ok h
      have g := ih.pri d i y k h0 h1 h2
      have hk := g.lt
      split at h3
      · rename_i hc
        rw [Bool.and_eq_true] at hc
        exact sufs_ok hl _ [] k (by omega) g.le hk ⟨fun z hz => (by cases hz), (by show (0 : Int) + 0 ≤ _; omega)⟩ (fun _ => .inr hc.2) h3
      · exact sufs_ok hl _ [y] k (by omega) g.le hk ⟨fun z hz => by rw [List.mem_singleton] at hz; subst hz; exact ⟨g.pipe, g.name⟩, by rw [flatF_one]; have := g.size; show _ + 1 ≤ _; omega⟩ (fun e => by cases e) h3
    · intro d i x j h0 h1 h
      unfold priA at h
      split at h
      · rename_i hm; cases h; exact .leaf (by show (0 : Int) ≠ 4; decide) rfl (by omega) (isM_lt hl h0 h1 hm)
      · split at h
        · rename_i hk; cases h; exact .leaf (by show (1 : Int) ≠ 4; decide) rfl (by omega) (kind_lt hl h0 h1 hk (by decide))
        · split at h
          · rename_i hk; exact ih.wor d i x j h0 h1 hk h
          · split at h
            · obtain ⟨u, k, h2, h3⟩ := bind_ok h
              obtain ⟨rfl, h4, _⟩ := open_ok hl h0 h1 h2
              exact ih.obs (d + 1) [] (i + 1) i x j (by omega) h4 (by omega) ⟨by show (0 : Int) ≤ _; omega⟩ h3
            · split at h
              · obtain ⟨u, k, h2, h3⟩ := bind_ok h
                obtain ⟨rfl, h4, _⟩ := open_ok hl h0 h1 h2
                exact ih.lis (d + 1) [] (i + 1) i x j (by omega) h4 (by omega) ⟨by show (0 : Int) ≤ _; omega⟩ h3
              · obtain ⟨h4, _, k, h2, h3⟩ := call_ok hl h0 h1 h
                have g := ih.fil (d + 1) (i + 1) x k (by omega) h4 h2
                have := g.lt
                obtain ⟨rfl, h5⟩ := h3 (by omega) g.le
                exact ⟨by omega, h5, g.pipe, g.name, by have := g.size; omega⟩
    · intro d i x j h0 h1 hk2 h
      have h2 := kind_lt hl h0 h1 hk2 (by decide)
      unfold worA at h
      split at h
      · rename_i o ho
        cases h
        refine .leaf ?_ rfl (by omega) h2
        show o ≠ 4
        unfold plainOps at ho
        split at ho
        · cases ho; decide
        · split at ho
          · cases ho; decide
          · split at ho
            · cases ho; decide
            · cases ho
      · split at h
        · rename_i o ho
          obtain ⟨h4, _, k, h5, h3⟩ := call_ok hl (by omega) h2 h
          obtain ⟨s, m, h6, h7⟩ := bind_ok h5
          cases h7
          obtain ⟨h8, h9⟩ := path_ok hl (by omega) h4 h6
          obtain ⟨rfl, h10⟩ := h3 (by omega) h9
          refine .leaf ?_ rfl (by omega) h10
          show o ≠ 4
          unfold pathOps at ho
          split at ho
          · cases ho; decide
          · split at ho
            · cases ho; decide
            · split at ho
              · cases ho; decide
              · cases ho
        · have key : ∀ (X : Int → PR Tf) (y : Tf) (m : Int), (∀ z k, X (i + 1 + 1) = .ok z k → GoodR l (i + 1 + 1) z k) → callA l d (i + 1) X = .ok y m → i + 1 + 1 < m - 1 ∧ m < len l ∧ PipeOk y ∧ y.t.name = [] ∧ len y.flat ≤ 4 * (m - 1 - (i + 1 + 1)) := by
            intro X y m hX hc
            by_cases h11 : i + 1 + 1 < len l
            · obtain ⟨h4, _, k, h5, h3⟩ := call_ok hl (by omega) h2 hc
              have g := hX y k h5
              have := g.lt
              obtain ⟨rfl, h12⟩ := h3 (by omega) g.le
              exact ⟨by omega, h12, g.pipe, g.name, by have := g.size; omega⟩
            · obtain ⟨h4, _⟩ := call_ok hl (by omega) h2 hc
              omega
          have wrap : ∀ (o : Int) (y : Tf) (m : Int), o ≠ 4 → (i + 1 + 1 < m - 1 ∧ m < len l ∧ PipeOk y ∧ y.t.name = [] ∧ len y.flat ≤ 4 * (m - 1 - (i + 1 + 1))) → GoodR l i (.mk (tmF o) [y]) m := fun o y m ho ⟨a1, a2, a3, a4, a5⟩ => ⟨by omega, a2, .no ho, rfl, by rw [Tf.flat_mk_len, flatF_one]; omega⟩
          have hin : i + 1 + 1 < len l ∨ ¬ i + 1 + 1 < len l := by omega
          split at h
          · obtain ⟨y, m, h3, h4⟩ := bind_ok h
            cases h4
            exact wrap 5 y _ (by decide) (key _ y _ (fun z k hz => by
              rcases hin with hin | hin
              · exact ih.fil (d + 1) _ z k (by omega) hin hz
              · obtain ⟨h4, _⟩ := call_ok hl (by omega) h2 h3; omega) h3)
          · split at h
            · obtain ⟨y, m, h3, h4⟩ := bind_ok h
              cases h4
              exact wrap 6 y _ (by decide) (key _ y _ (fun z k hz => by
                rcases hin with hin | hin
                · exact ih.fil (d + 1) _ z k (by omega) hin hz
                · obtain ⟨h4, _⟩ := call_ok hl (by omega) h2 h3; omega) h3)
            · split at h
              · obtain ⟨y, m, h3, h4⟩ := bind_ok h
                cases h4
                obtain ⟨a1, a2, a3, a4, a5⟩ := key _ y _ (fun z k hz => by
                  rcases hin with hin | hin
                  · exact ih.fil (d + 1) _ z k (by omega) hin hz
                  · obtain ⟨h4, _⟩ := call_ok hl (by omega) h2 h3; omega) h3
                have hgl : ∀ z ∈ [Tf.mk (tmF 10) [], Tf.mk (tmF 5) [y], Tf.mk (tmF 11) []], PipeOk z ∧ z.t.name = [] := by
                  intro z hz
                  rcases List.mem_cons.1 hz with rfl | hz
                  · exact ⟨.no (by show (10 : Int) ≠ 4; decide), rfl⟩
                  · rcases List.mem_cons.1 hz with rfl | hz
                    · exact ⟨.no (by show (5 : Int) ≠ 4; decide), rfl⟩
                    · rw [List.mem_singleton] at hz; subst hz; exact ⟨.no (by show (11 : Int) ≠ 4; decide), rfl⟩
                obtain ⟨b1, b2⟩ := pipedF_ok (List.cons_ne_nil _ _) hgl
                have b3 := (pipedF_len (List.cons_ne_nil _ _) fun z hz => (hgl z hz).1).2
                have b4 : len (flatF [Tf.mk (tmF 10) [], Tf.mk (tmF 5) [y], Tf.mk (tmF 11) []]) = 3 + len y.flat := by
                  show len ((Tf.mk (tmF 10) []).flat ++ ((Tf.mk (tmF 5) [y]).flat ++ ((Tf.mk (tmF 11) []).flat ++ []))) = _
                  rw [len_app, len_app, len_app, Tf.flat_leaf, Tf.flat_leaf, Tf.flat_mk_len, flatF_one]
                  show _ + (_ + (1 + 0)) = _; omega
                refine ⟨by omega, a2, b1, b2, ?_⟩
                rw [b4] at b3
                have b5 : len [Tf.mk (tmF 10) [], Tf.mk (tmF 5) [y], Tf.mk (tmF 11) []] = 3 := rfl
                omega
              · split at h
                · obtain ⟨y, m, h3, h4⟩ := bind_ok h
                  cases h4
                  exact wrap 7 y _ (by decide) (key _ y _ (fun z k hz => by
                    rcases hin with hin | hin
                    · exact ih.eit (d + 1) _ z k (by omega) hin hz
                    · obtain ⟨h4, _⟩ := call_ok hl (by omega) h2 h3; omega) h3)
                · exact (failA_no h).elim
    · intro d xs i i0 x j h0 h1 hi hg h
      unfold obsA at h
      split at h
      · rename_i hm
        cases h
        exact ⟨by omega, isM_lt hl h0 h1 hm, .no (by show (8 : Int) ≠ 4; decide), rfl, by rw [Tf.flat_mk_len]; have := hg.size; omega⟩
      · obtain ⟨u, k, h2, h3⟩ := bind_ok h
        have hk : i ≤ k ∧ k < len l := by
          split at h2
          · cases h2; exact ⟨Int.le_refl _, h1⟩
          · obtain ⟨rfl, h4, _⟩ := need_ok hl h0 h1 h2; exact ⟨by omega, h4⟩
        split at h3
        · exact (failA_no h3).elim
        · rename_i hc
          have h4 : k + 1 < len l := hl.last k (by omega) hk.2 fun e => hc (.inl ⟨by rw [e]; decide, by rw [e]; decide⟩)
          obtain ⟨v, m, h5, h6⟩ := bind_ok h3
          obtain ⟨rfl, h7, _⟩ := need_ok hl (by omega) h4 h5
          obtain ⟨y, n, h8, h9⟩ := bind_ok h6
          have g := ih.pos d _ y n (by omega) h7 h8
          have := g.lt
          exact ih.obs d _ n i0 x j (by omega) g.le (by omega) (hg.snoc (by rw [Tf.named_len]; have := g.size; omega)) h9
    · intro d xs i i0 x j h0 h1 hi hg h
      unfold lisA at h
      split at h
      · rename_i hm
        cases h
        exact ⟨by omega, isM_lt hl h0 h1 hm, .no (by show (9 : Int) ≠ 4; decide), rfl, by rw [Tf.flat_mk_len]; have := hg.size; omega⟩
      · obtain ⟨u, k, h2, h3⟩ := bind_ok h
        have hk : i ≤ k ∧ k < len l := by
          split at h2
          · cases h2; exact ⟨Int.le_refl _, h1⟩
          · obtain ⟨rfl, h4, _⟩ := need_ok hl h0 h1 h2; exact ⟨by omega, h4⟩
        obtain ⟨y, n, h8, h9⟩ := bind_ok h3
        have g := ih.pos d _ y n (by omega) hk.2 h8
        have := g.lt
        exact ih.lis d _ n i0 x j (by omega) g.le (by omega) (hg.snoc (by have := g.size; omega)) h9
    · intro d i x j h0 h1 h
      unfold eitA at h
      obtain ⟨y, k, h2, h3⟩ := bind_ok h
      have g := ih.bot d i y k h0 h1 h2
      exact ih.eis d y k i x j (by have := g.lt; omega) g.le g h3
    · intro d x i i0 y j h0 h1 hg h
      unfold eisA at h
      split at h
      · rename_i hm
        have h4 : i + 1 < len l := hl.last i h0 h1 fun e => by unfold isWd at hm; rw [e] at hm; simp at hm
        obtain ⟨z, k, h2, h3⟩ := bind_ok h
        have g := ih.bot d (i + 1) z k (by omega) h4 h2
        have h5 := g.lt
        have h6 := hg.lt
        refine ih.eis d _ k i0 y j (by omega) g.le ⟨by omega, g.le, .no (by show (18 : Int) ≠ 4; decide), rfl, ?_⟩ h3
        rw [Tf.flat_mk_len, flatF_two]; have := g.size; have := hg.size; omega
      · cases h; exact hg
    · intro d i x j h0 h1 h
      unfold botA at h
      obtain ⟨y, k, h2, h3⟩ := bind_ok h
      have g := ih.sin d i y k h0 h1 h2
      exact ih.bos d y k i x j (by have := g.lt; omega) g.le g h3
    · intro d x i i0 y j h0 h1 hg h
      unfold bosA at h
      split at h
      · rename_i hm
        have h4 : i + 1 < len l := hl.last i h0 h1 fun e => by unfold isWd at hm; rw [e] at hm; simp at hm
        obtain ⟨z, k, h2, h3⟩ := bind_ok h
        have g := ih.sin d (i + 1) z k (by omega) h4 h2
        have h5 := g.lt
        have h6 := hg.lt
        refine ih.bos d _ k i0 y j (by omega) g.le ⟨by omega, g.le, .no (by show (17 : Int) ≠ 4; decide), rfl, ?_⟩ h3
        rw [Tf.flat_mk_len, flatF_two]; have := g.size; have := hg.size; omega
      · cases h; exact hg
    · intro d i x j h0 h1 h
      unfold sinA at h
      split at h
      · exact cmp_ok hl h0 h1 h
      · obtain ⟨u, k, h2, h3⟩ := bind_ok h
        obtain ⟨rfl, h4, _⟩ := open_ok hl h0 h1 h2
        obtain ⟨y, m, h5, h6⟩ := bind_ok h3
        have g := ih.eit (d + 1) (i + 1) y m (by omega) h4 h5
        have h7 := g.lt
        obtain ⟨z, n, h8, h9⟩ := bind_ok h6
        obtain ⟨v, o, h10, h11⟩ := bind_ok h9
        cases h11
        have hz : GoodR l (i + 1) x n := by
          split at h8
          · rename_i hm
            have h12 := isM_lt hl (by omega) g.le hm
            split at h8
            · rename_i hw
              have h13 : m + 1 + 1 < len l := hl.last _ (by omega) h12 fun e => by unfold isWd at hw; rw [e] at hw; simp at hw
              cases h8
              exact ⟨by omega, by omega, .no (by show (19 : Int) ≠ 4; decide), rfl, by rw [Tf.flat_mk_len, flatF_one]; have := g.size; omega⟩
            · exact (failA_no h8).elim
          · cases h8; exact g
        have h14 := hz.lt
        obtain ⟨rfl, h15, _⟩ := need_ok hl (by omega) hz.le h10
        exact ⟨by omega, h15, hz.pipe, hz.name, by have := hz.size; omega⟩
end
/-! ### Whole numbers -/
theorem figsN_eq (s : Str) : figsN s = decVal s := by
  unfold figsN decVal
  congr 1
  funext n b
  omega
theorem atoi_figs7 {l : Str} (h : ∀ b ∈ l, isFigB b = true) (hl : len l ≤ 7) : Lib.atoiAll ([48] ++ l) = .ok (decVal l) ∧ 0 ≤ decVal l ∧ decVal l < 10000000 := by
  have h1 := decVal_bd l 0 h (by omega)
  have h2 : (10 : Int) ^ l.length ≤ 10 ^ 7 := by
    have : (10 : Nat) ^ l.length ≤ 10 ^ 7 := Nat.pow_le_pow_right (by omega) (by unfold len at hl; omega)
    exact_mod_cast this
  have h3 := parse_figs l 0 h (by
    have : (10 : Nat) ^ l.length ≤ 10 ^ 7 := Nat.pow_le_pow_right (by omega) (by unfold len at hl; omega)
    omega)
  have h4 : 0 ≤ decVal l ∧ decVal l < 10000000 := by unfold decVal; omega
  refine ⟨?_, h4⟩
  show Lib.atoiAll (48 :: l) = _
  have hm : Lib.parseMag (48 :: l) = .ok (decVal l).toNat := by
    unfold Lib.parseMag
    rw [if_neg (by simp), Lib.parseUint10, if_pos (by decide), if_neg (by decide), if_neg (by decide)]
    exact h3
  unfold Lib.atoiAll
  dsimp only
  rw [if_neg (by decide : ¬ ((48 : UInt8).toNat = 43 ∨ (48 : UInt8).toNat = 45)), hm]
  dsimp only
  rw [if_neg (by omega), if_neg (by intro hh; exact absurd hh.1 (by decide)), if_neg (by decide)]
  congr 1; omega
theorem whole_atoi {l : List Tk} (hl : LexOk l) {i : Int} (h0 : 0 ≤ i) (h1 : i < len l) (h5 : (at' l i).kind = 5) (he : 0 ≤ (at' l i).c.e) (hs : len (at' l i).c.s + (at' l i).c.e ≤ 7) :
    Lib.atoiAll (([48] ++ (at' l i).c.s) ++ List.replicate (at' l i).c.e.toNat 48) = .ok (wholeN (at' l i)) ∧ 0 ≤ wholeN (at' l i) ∧ wholeN (at' l i) < 10000000 := by
  unfold wholeN
  rw [figsN_eq, List.append_assoc]
  refine atoi_figs7 (fun b hb => ?_) (by rw [len_app]; unfold len at *; rw [List.length_replicate]; omega)
  rcases List.mem_append.1 hb with hb | hb
  · exact hl.figs _ (at_mem h0 h1) h5 b hb
  · rw [(List.mem_replicate.1 hb).2]; decide
end Go.Eng
set_option maxRecDepth 100000
namespace Go.Proofs.YtmjpjbmeamnfpaaGreatDoor
open Go.Eng

/- loupe/lex.isWord -/
theorem isWord_c (r : Int) (f : Bool) (w : World)  :
  Calls Tryz.prog 108 [(.int .i32 r), (.bool f)].toArray w fun e w' => e = .returned (.bool (isWordR r f)) ∧ w' = w := by
 refine CW.enter1 Tryz.func108 rfl Tryz.ntmps108 (Nat.le_of_ble_eq_true rfl) fun Q hE => ?_
 refine CW.weaken [0, 1] (L' := [Y 0 (.int .i32 r), Y 1 (.bool f)]) ?_ rfl
 refine CW.sr (RL.u (.assign .c) rfl (RL.nil (CW.id (CW.sr ?_))))
 refine RL.m rfl rfl (RL.u (.geq (.t rfl) .c) rfl (RL.m rfl rfl (RL.v (.pos rfl rfl) (.move (.t rfl)) rfl (RL.v (.pos rfl rfl) (.leq (.g rfl (fun h => h)) .c) rfl (RL.u (.and (.t rfl) (.g rfl (fun h => h))) rfl ?_)))))
 refine RL.m rfl rfl (RL.v (.neg rfl rfl) (.move (.t rfl)) rfl (RL.v (.neg rfl rfl) (.geq (.g rfl (fun h => h)) .c) rfl (RL.v (.neg rfl rfl) (.move (.g rfl (fun h => h))) rfl (RL.v (.posG rfl rfl) (.move (.t rfl)) rfl (RL.v (.posG rfl rfl) (.leq (.g rfl (fun h => h)) .c) rfl ?_)))))
 refine RL.v (.neg rfl rfl) (.and (.g rfl (fun h => h)) (.g rfl (fun h => h))) rfl (RL.u (.or (.t rfl) (.g rfl (fun h => h))) rfl (RL.m rfl rfl (RL.v (.neg rfl rfl) (.move (.t rfl)) rfl (RL.v (.neg rfl rfl) (.eql (.g rfl (fun h => h)) .c) rfl (RL.u (.or (.t rfl) (.g rfl (fun h => h))) rfl ?_)))))
 refine RL.a rfl rfl (RL.nil (CW.id ?_))
 refine CW.sr (RL.m rfl rfl (RL.m rfl rfl (RL.v (.neg rfl rfl) (.move (.t rfl)) rfl (RL.v (.neg rfl rfl) (.not (.g rfl (fun h => h))) rfl (RL.v (.neg rfl rfl) (.move (.g rfl (fun h => h))) rfl (RL.v (.posG rfl rfl) (.move (.t rfl)) rfl (RL.v (.posG rfl rfl) (.geq (.g rfl (fun h => h)) .c) rfl (RL.v (.neg rfl rfl) (.and (.g rfl (fun h => h)) (.g rfl (fun h => h))) rfl (RL.v (.neg rfl rfl) (.move (.g rfl (fun h => h))) rfl (RL.v (.posG rfl rfl) (.move (.t rfl)) rfl (RL.v (.posG rfl rfl) (.leq (.g rfl (fun h => h)) .c) rfl (RL.v (.neg rfl rfl) (.and (.g rfl (fun h => h)) (.g rfl (fun h => h))) rfl (RL.u (.or (.t rfl) (.g rfl (fun h => h))) rfl (RL.a rfl rfl (RL.nil (CW.id ?_))))))))))))))))
 refine CW.ret (hE.r1 rfl rfl ?_)
 exact ⟨by simp only [isWordR, isLetter, isFig, Bool.and_assoc], rfl⟩

/- loupe/lex.word -/
theorem word_c (s : Str) (w : World) (hb : len s ≤ 9223372036854775807) :
  Calls Tryz.prog 76 [(str s)].toArray w fun e w' => e = .returned (str (wordP s)) ∧ Ext w w' := by
 refine CW.enter1 Tryz.func76 rfl Tryz.ntmps76 (Nat.le_of_ble_eq_true rfl) fun Q hE => ?_
 have := len_nonneg s
 have hS : St w nM w nM [] := St.start ⟨fun _ _ _ h => by cases h⟩
 refine CW.weaken [0] (L' := [Y 0 (str s)]) ?_ rfl
 refine CW.sr (RL.u (.assign .c) rfl (RL.nil (CW.id (CW.seq ?_))))
 refine CW.sr (RL.m rfl rfl ?_)
 refine RL.rangeS (s := s) hS (.t rfl) Tryz.underlying9 rfl (fun w1 b2 hS3 => ?_)
 replace hS3 : St w nM w1 nM [.raw b2 (.stringIter ⟨⟨s⟩⟩ ((0 : Int)).toNat)] := hS3
 refine RL.nil (CW.id (CW.block ?_))
 refine CW.loop (σ := Int) (fun p => [Y 0 (str s), Y 6 (.pointer (some ⟨b2, 0, none⟩))]) (fun p wl => St w nM wl nM [.raw b2 (.stringIter ⟨⟨s⟩⟩ ((p : Int)).toNat)] ∧ 0 ≤ p ∧ p ≤ len s ∧ wordTo s p = wordTo s 0) (fun p => (len s - p).toNat) 0 [0, 6] rfl ?_ ?_
 ·refine ⟨hS3, ?_⟩; exact ⟨by omega, by omega, rfl⟩
 ·rintro p wl ⟨hS4, hp0, hp1, hpF⟩
  refine CW.sr ?_
  refine RL.nextS (s := s) (p := p) hS4 (i := 0) rfl (.t rfl) (by omega) rfl (fun hlt w5 hS6 => ?_) (fun hge => ?_)
  ·replace hS6 : St w nM w5 nM [.raw b2 (.stringIter ⟨⟨s⟩⟩ ((p + runeLen s p : Int)).toNat)] := hS6
   refine RL.u (.ex (.t rfl) rfl) rfl (RL.nil (CW.id ?_))
   refine CW.seq (CW.cond rfl (fun _ => ?_) (fun h => by cases h))
   refine CW.skip (CW.id (CW.block (CW.sr (RL.u (.ex (.t rfl) rfl) rfl (RL.u (.ex (.t rfl) rfl) rfl (RL.a rfl rfl (RL.a rfl rfl (RL.nil (CW.id ?_)))))))))
   refine CW.sr (RL.m rfl rfl (RL.m rfl rfl (RL.u (.eql (.t rfl) .c) rfl ?_)))
   refine RL.callS .none Tryz.call108 (.cons (.t rfl) (.cons (.t rfl) .nil)) (fun _ => (isWord_c (runeAt s p) (p == 0) _)) rfl ?_
   refine RL.u (.not (.t rfl)) rfl ?_
   refine RL.nil (CW.at [Y 0 (str s), Y 3 (i64 p), Y 6 (.pointer (some ⟨b2, 0, none⟩)), Y 15 (.bool (!(isWordR (runeAt s p) (p == 0))))] rfl ?_)
   refine CW.cond rfl ?_ ?_ <;> intro hb2 <;> try simp only [zb] at hb2
   ·have hw := isWordR_rune (f := p == 0) hp0 hlt
    refine CW.sr (RL.m rfl rfl (RL.m rfl rfl (RL.u (.slSh (.t rfl) (.t rfl) Tryz.underlying9 (fun _ => by omega)) rfl (RL.a rfl rfl (RL.nil (CW.id (CW.ret (hE.r1 rfl rfl ?_))))))))
    exact ⟨by rw [wordP, ← hpF, wordTo_stop hp0 hlt (by rw [← hw.1]; exact hb2)], hS6.low⟩
   ·have hw := isWordR_rune (f := p == 0) hp0 hlt
    have hl1 : runeLen s p = 1 := hw.2 (by rw [← hw.1]; exact hb2)
    refine CW.skip fun a hs => Exists.intro (p + runeLen s p) ⟨hs.keep [0, 6], ?_, ?_⟩
    ·refine ⟨hS6, ?_⟩
     exact ⟨by omega, by omega, by rw [← hpF, hl1, wordTo_step hp0 hlt (by rw [← hw.1]; exact hb2)]⟩
    ·show Int.toNat _ < Int.toNat _; omega
  ·refine RL.u (.ex (.t rfl) rfl) rfl (RL.nil (CW.id ?_))
   refine CW.seq (CW.cond rfl (fun h => by cases h) (fun _ => (CW.exit (CW.at [Y 0 (str s)] rfl (CW.sr ?_)))))
   refine RL.m rfl rfl (RL.a rfl rfl (RL.nil (CW.id ?_)))
   refine CW.ret (hE.r1 rfl rfl ?_)
   exact ⟨by rw [wordP, ← hpF, wordTo_end hge, sub_all _ _ (by omega)], hS4.low⟩

end Go.Proofs.YtmjpjbmeamnfpaaGreatDoor
set_option maxRecDepth 100000
namespace Go.Proofs.YtmjpjbmeamnfpaaGreatDoor
open Go.Eng

theorem once_disable (w : World) : (callFunc 264 #[]).run Tryz.prog w = .ok (.value (.tuple #[])) w := run_call_mark0 Tryz.func264 (by kernel_rfl) (by kernel_rfl) (by kernel_rfl) .disable (by kernel_rfl) w
theorem once_enable (w : World) : (callFunc 266 #[]).run Tryz.prog w = .ok (.value (.tuple #[])) w := run_call_mark0 Tryz.func266 (by kernel_rfl) (by kernel_rfl) (by kernel_rfl) .enable (by kernel_rfl) w
theorem once_acquire (a : Addr) (w : World) : (callFunc 267 #[.pointer (some a)]).run Tryz.prog w = .ok (.value (.tuple #[])) w := run_call_marked Tryz.func267 (by kernel_rfl) (by kernel_rfl) (by kernel_rfl) .acquire (by kernel_rfl) a w
theorem once_release (a : Addr) (w : World) : (callFunc 269 #[.pointer (some a)]).run Tryz.prog w = .ok (.value (.tuple #[])) w := run_call_marked Tryz.func269 (by kernel_rfl) (by kernel_rfl) (by kernel_rfl) .releaseMerge (by kernel_rfl) a w
theorem store_deferred (a : Addr) (x : Value) (u : FrameMode) (w : World) (hc : w.cell? a = some x) (hz : w.frozen? a = false) :
    CallsD Tryz.prog 202 #[.pointer (some a), .bool true] u w fun e u' w' => u' = u ∧ (e = .returned (.tuple #[]) ∧ w' = w.drew.setCell a (.int .u32 1)) := by
  have hc' : w.drew.cell? a = some x := by go_simp
  have hz' : w.drew.frozen? a = false := by go_simp
  have hst := run_call_store (P := Tryz.prog) Tryz.func239 (by kernel_rfl) (by kernel_rfl) (by kernel_rfl) (by kernel_rfl) (k := .u32) (y := 1) hc' hz'
  go_enter_d Tryz.func202, Tryz.ntmps202
  go_wp2
  go_region_calls
  all_goals (go_end0; exact ⟨rfl, rfl⟩)
theorem unlock_deferred (a : Addr) (u : FrameMode) (w : World) (hc : w.cell? a = some (.int .i32 1)) (hz : w.frozen? a = false) :
    CallsD Tryz.prog 201 #[.pointer (some a)] u w fun e u' w' => u' = u ∧ (e = .returned (.tuple #[]) ∧ w' = w.setCell a (.int .i32 0)) := by
  have hd := once_disable
  have he := once_enable
  have hr := once_release
  have hadd := run_call_add (P := Tryz.prog) Tryz.func270 (by kernel_rfl) (by kernel_rfl) (by kernel_rfl) .i32 (by kernel_rfl) (y := -1) (s := 0) hc hz (by simp [go_sem]; rfl)
  have hcv := run_convert_to_unsafe (P := Tryz.prog) (src := 297) (dst := 237) Tryz.underlying297 Tryz.underlying237 (by kernel_rfl) hc
  go_enter_d Tryz.func201, Tryz.ntmps201
  go_wp2
  go_end0
  go_wp2
  go_end0
  exact ⟨rfl, rfl⟩
theorem lock_free (a : Addr) (w : World) (hc : w.cell? a = some (.int .i32 0)) (hz : w.frozen? a = false) :
    Calls Tryz.prog 200 #[.pointer (some a)] w fun e w' => e = .returned (.tuple #[]) ∧ w' = w.setCell a (.int .i32 1) := by
  have hd := once_disable
  have he := once_enable
  have ha := once_acquire
  have hcas := run_call_cas_hit (P := Tryz.prog) Tryz.func265 (by kernel_rfl) (by kernel_rfl) (by kernel_rfl) .i32 (by kernel_rfl) (y := 1) hc hz
  have hc' : (w.setCell a (.int .i32 1)).cell? a = some (.int .i32 1) := World.cell?_setCell_same w a _ hc
  have hcv := run_convert_to_unsafe (P := Tryz.prog) (src := 297) (dst := 237) Tryz.underlying297 Tryz.underlying237 (by kernel_rfl) hc'
  go_enter Tryz.func200, Tryz.ntmps200
  go_wp2
  first | go_end0 | (simp only [Exit.inBlock, Exit.then]; refine bodyPost_ret (results_none rfl _ _ _) rfl ?_) | refine bodyPost_ret (results_none rfl _ _ _) rfl ?_
  go_wp2
  go_end0
  exact ⟨rfl, rfl⟩

set_option maxHeartbeats 1600000 in
/-- The slow road, not yet done and the lock free: what the function leaves, marked as done. -/
theorem slow_c (g : Nat) (fv : Array Value) (b : Nat) (w : World) (R : World → Prop) (cg : ∀ args w, (callFunc g args).run Tryz.prog w = .ok (.enter g args) w)
    (h0 : w.cell? ⟨b, 0, none⟩ = some (.int .u32 0)) (h1 : w.cell? ⟨b, 1, none⟩ = some (.int .i32 0)) (f1 : w.frozen? ⟨b, 1, none⟩ = false)
    (hclo : Calls Tryz.prog g fv (w.setCell ⟨b, 1, none⟩ (.int .i32 1)) fun e w' => e = .returned (.tuple #[]) ∧ w'.cell? ⟨b, 0, none⟩ = some (.int .u32 0) ∧ w'.frozen? ⟨b, 0, none⟩ = false ∧ w'.cell? ⟨b, 1, none⟩ = some (.int .i32 1) ∧ w'.frozen? ⟨b, 1, none⟩ = false ∧ R w') :
    Calls Tryz.prog 152 #[.pointer (some ⟨b, 0, none⟩), .func (.func g) #[] fv] w fun e w' => e = .returned (.tuple #[]) ∧ ∃ w1, R w1 ∧ w1.cell? ⟨b, 0, none⟩ = some (.int .u32 0) ∧ w1.frozen? ⟨b, 0, none⟩ = false ∧ w1.cell? ⟨b, 1, none⟩ = some (.int .i32 1) ∧ w1.frozen? ⟨b, 1, none⟩ = false ∧ w' = (w1.drew.setCell ⟨b, 0, none⟩ (.int .u32 1)).setCell ⟨b, 1, none⟩ (.int .i32 0) := by
  have hl := run_call_load (P := Tryz.prog) Tryz.func199 (by kernel_rfl) (by kernel_rfl) (by kernel_rfl) .u32 (by kernel_rfl) (w := w.setCell ⟨b, 1, none⟩ (.int .i32 1)) (a := ⟨b, 0, none⟩) (x := 0) ((World.cell?_setCell_other _ ⟨b, 1, none⟩ ⟨b, 0, none⟩ _ (by simp)).trans h0)
  have hnot : ∀ (x : Bool) (w : World), (Op.unary .not (.bool x)).run Tryz.prog w = .ok (.bool (!x)) w := fun _ _ => rfl
  go_enter_defers Tryz.func152, Tryz.ntmps152
  go_wp2_with (first | (go_at_call 200; refine (lock_free ⟨b, 1, none⟩ _ (by go_simp) (by go_simp)).mono ?_; rintro e w' ⟨rfl, rfl⟩) | (go_at_call 151; go_in))
  refine hclo.mono ?_
  rintro e w' ⟨rfl, c0, z0, c1, z1, hR⟩
  rename_i hk
  refine hk _ _ ?_
  go_wp2
  refine leaves_cons (f := 202) (args := #[.pointer (some ⟨b, 0, none⟩), .bool true]) (by simp) (by simp [go_sem]) ?_
  refine (store_deferred ⟨b, 0, none⟩ (.int .u32 0) .returning _ c0 z0).mono ?_
  rintro e u' w'' ⟨rfl, rfl, rfl⟩
  refine leaves_cons (f := 201) (args := #[.pointer (some ⟨b, 1, none⟩)]) (by simp [settle]) (by simp [go_sem]) ?_
  refine (unlock_deferred ⟨b, 1, none⟩ _ _ ?_ (by simp [z1])).mono ?_
  · refine (World.cell?_setCell_other _ ⟨b, 0, none⟩ ⟨b, 1, none⟩ _ (by simp)).trans ?_
    rw [World.cell?_drew]; exact c1
  rintro e u' w'' ⟨rfl, rfl, rfl⟩
  have hfin : (Ending.returned (.tuple #[]) = Ending.returned (.tuple #[])) ∧ ∃ w1, R w1 ∧ w1.cell? ⟨b, 0, none⟩ = some (.int .u32 0) ∧ w1.frozen? ⟨b, 0, none⟩ = false ∧ w1.cell? ⟨b, 1, none⟩ = some (.int .i32 1) ∧ w1.frozen? ⟨b, 1, none⟩ = false ∧ (w'.drew.setCell ⟨b, 0, none⟩ (.int .u32 1)).setCell ⟨b, 1, none⟩ (.int .i32 0) = (w1.drew.setCell ⟨b, 0, none⟩ (.int .u32 1)).setCell ⟨b, 1, none⟩ (.int .i32 0) := ⟨rfl, w', hR, c0, z0, c1, z1, rfl⟩
  simpa [Leaves, settle, results, Tryz.results152] using hfin

set_option maxHeartbeats 1600000 in
theorem do_first (g : Nat) (fv : Array Value) (b : Nat) (w : World) (R : World → Prop) (cg : ∀ args w, (callFunc g args).run Tryz.prog w = .ok (.enter g args) w)
    (h0 : w.cell? ⟨b, 0, none⟩ = some (.int .u32 0)) (h1 : w.cell? ⟨b, 1, none⟩ = some (.int .i32 0)) (f1 : w.frozen? ⟨b, 1, none⟩ = false)
    (hclo : Calls Tryz.prog g fv (w.setCell ⟨b, 1, none⟩ (.int .i32 1)) fun e w' => e = .returned (.tuple #[]) ∧ w'.cell? ⟨b, 0, none⟩ = some (.int .u32 0) ∧ w'.frozen? ⟨b, 0, none⟩ = false ∧ w'.cell? ⟨b, 1, none⟩ = some (.int .i32 1) ∧ w'.frozen? ⟨b, 1, none⟩ = false ∧ R w') :
    Calls Tryz.prog 113 #[.pointer (some ⟨b, 0, none⟩), .func (.func g) #[] fv] w fun e w' => e = .returned (.tuple #[]) ∧ ∃ w1, R w1 ∧ w1.cell? ⟨b, 0, none⟩ = some (.int .u32 0) ∧ w1.frozen? ⟨b, 0, none⟩ = false ∧ w1.cell? ⟨b, 1, none⟩ = some (.int .i32 1) ∧ w1.frozen? ⟨b, 1, none⟩ = false ∧ w' = (w1.drew.setCell ⟨b, 0, none⟩ (.int .u32 1)).setCell ⟨b, 1, none⟩ (.int .i32 0) := by
  have hl := run_call_load (P := Tryz.prog) Tryz.func199 (by kernel_rfl) (by kernel_rfl) (by kernel_rfl) .u32 (by kernel_rfl) h0
  have hnot : ∀ (x : Bool) (w : World), (Op.unary .not (.bool x)).run Tryz.prog w = .ok (.bool (!x)) w := fun _ _ => rfl
  go_enter Tryz.func113, Tryz.ntmps113
  go_wp2_with (first | (go_at_call 152; refine (slow_c g fv b _ R cg h0 h1 f1 hclo).mono ?_; rintro e w' ⟨rfl, hw⟩) | (go_at_call 151; go_in))
  go_end0
  exact ⟨rfl, hw⟩
theorem do_done (a : Addr) (d : Int) (hd : ¬ d = 0) (fv : Value) (w : World) (h0 : w.cell? a = some (.int .u32 d)) :
    Calls Tryz.prog 113 #[.pointer (some a), fv] w fun e w' => e = .returned (.tuple #[]) ∧ w' = w := by
  have hl := run_call_load (P := Tryz.prog) Tryz.func199 (by kernel_rfl) (by kernel_rfl) (by kernel_rfl) .u32 (by kernel_rfl) h0
  have hnot : ∀ (x : Bool) (w : World), (Op.unary .not (.bool x)).run Tryz.prog w = .ok (.bool (!x)) w := fun _ _ => rfl
  have hd' : (d != 0) = true := by simp [hd]
  go_enter Tryz.func113, Tryz.ntmps113
  go_wp2
  go_end0
  exact ⟨rfl, rfl⟩

end Go.Proofs.YtmjpjbmeamnfpaaGreatDoor
