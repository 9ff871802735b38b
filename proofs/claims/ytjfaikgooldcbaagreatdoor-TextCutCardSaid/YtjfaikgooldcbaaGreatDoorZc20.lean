/-
  WHAT VALUES ARE RIGHT, as the document says, in plain Lean; values as trees. No program in it.
  THE ENGINE, PART 13: a part of a slice that is read. Over any program.
-/
import Derived.Test.YtjfaikgooldcbaaGreatDoorZc18
import Derived.Test.YtjfaikgooldcbaaGreatDoorZc8
import Derived.Test.YtjfaikgooldcbaaGreatDoorZc5
import Derived.Laws.BitsLemmas
import Derived.Test.YtjfaikgooldcbaaGreatDoorZc3
import Derived.Test.YtjfaikgooldcbaaGreatDoorProg
set_option linter.unusedVariables false
set_option linter.unusedSimpArgs false
namespace Go.Eng
open Go.RowKit

/-- A node, whatever its name. -/
def bareN (n : Nd) : Nd := { n with name := [] }
def plainB (n : Nd) : Bool :=
  if n.kind = 0 ∨ n.kind = 1 ∨ n.kind = 2 then decide (bareN n = ⟨n.kind, 0, [], [], false, 0⟩)
  else if n.kind = 3 then right1 (bareN n)
  else if n.kind = 4 then utf n.s && decide (bareN n = ⟨n.kind, 0, [], n.s, false, 0⟩)
  else if n.kind = 5 ∨ n.kind = 6 then decide (0 ≤ n.many) && decide (bareN n = ⟨n.kind, n.many, [], [], false, 0⟩)
  else false
/-- The place behind so many values; below 0: there is none. -/
def nextF : Nat → Vl → Int → Int → Int
  | 0, _, _, _ => -1
  | f + 1, v, op, i => if op ≤ 0 then i else if len v ≤ i ∨ (at' v i).many < 0 ∨ len v < (at' v i).many then -1 else nextF f v (op - 1 + (at' v i).many) (i + 1)
def nextV (v : Vl) (i : Int) : Int := nextF (v.length + 2) v 1 i
def risF : Nat → Vl → Int → Int → Int → Bool
  | 0, _, _, _, _ => true
  | f + 1, v, a, k, i =>
    if ((at' v a).kind = 5 ∧ (at' v i).name ≠ []) ∨ utf (at' v i).name = false then false
    else if (at' v a).kind = 6 ∧ k + 1 < (at' v a).many ∧ Op.bytesLess (at' v i).name (at' v (nextV v i)).name = false then false
    else risF f v a (k + 1) (nextV v i)
def risB (v : Vl) (a : Int) : Bool := risF (at' v a).many.toNat v a 0 (a + 1)
/-- From a place on, are all nodes right? -/
def allF : Nat → Vl → Int → Bool
  | 0, _, _ => true
  | f + 1, v, i => if len v ≤ i then true else if plainB (at' v i) = false ∨ risB v i = false then false else allF f v (i + 1)
def rightB (v : Vl) : Bool := if v = [] ∨ (at' v 0).name ≠ [] ∨ nextV v 0 ≠ len v then false else allF (v.length + 1) v 0
/-! ### trees -/
mutual
def Tr.wf : Tr → Prop
  | .mk n ps => n.many = len ps ∧ wfL ps
def wfL : List Tr → Prop
  | [] => True
  | t :: ts => t.wf ∧ wfL ts
end
theorem wfL_app {a b : List Tr} : wfL (a ++ b) ↔ wfL a ∧ wfL b := by
  induction a with
  | nil => simp [wfL]
  | cons x a ih => rw [List.cons_append, wfL, wfL, ih, and_assoc]
theorem flatL_app (a b : List Tr) : flatL (a ++ b) = flatL a ++ flatL b := by
  induction a with
  | nil => simp [flatL]
  | cons x a ih => rw [List.cons_append, flatL, flatL, ih, List.append_assoc]
theorem SegL.le {v : List Nd} {i : Int} {l : List Tr} (h : SegL v i l) : i + sizeL l ≤ len v := by
  obtain ⟨h0, pre, post, rfl, rfl⟩ := h
  unfold len; simp only [List.length_append, flatL_len]; omega
theorem SegL.kids {v : List Nd} {i : Int} {n : Nd} {ps ts : List Tr} (h : SegL v i (.mk n ps :: ts)) : SegL v (i + 1) (ps ++ ts) := by
  obtain ⟨h0, pre, post, rfl, rfl⟩ := h
  exact ⟨by omega, pre ++ [n], post, by rw [flatL, Tr.flat, flatL_app]; simp, by unfold len; simp⟩
theorem SegL.one {v : List Nd} {i : Int} {t : Tr} (h : SegAt v i t) : SegL v i [t] := by
  obtain ⟨h0, pre, post, rfl, rfl⟩ := h
  exact ⟨h0, pre, post, by simp [flatL], rfl⟩
theorem SegL.skip {v : List Nd} {i : Int} {a b : List Tr} (h : SegL v i (a ++ b)) : SegL v (i + sizeL a) b := by
  obtain ⟨h0, pre, post, rfl, rfl⟩ := h
  exact ⟨by omega, pre ++ flatL a, post, by rw [flatL_app]; simp, by unfold len; rw [List.length_append, flatL_len]; omega⟩
theorem nextF_done {f : Nat} {v : Vl} {op i : Int} (h : op ≤ 0) : nextF (f + 1) v op i = i := by rw [nextF, if_pos h]
theorem nextF_seg {v : Vl} : ∀ (n : Nat) (ts : List Tr) (f : Nat) (op i : Int), sizeL ts = n → wfL ts → SegL v i ts → 0 ≤ op → nextF (f + n) v (op + len ts) i = nextF f v op (i + n) := by
  intro n
  induction n with
  | zero =>
    intro ts f op i hn hw hs ho
    cases ts with
    | nil => simp [len]
    | cons t ts => rw [sizeL] at hn; have := t.size_pos; omega
  | succ n ih =>
    intro ts f op i hn hw hs ho
    cases ts with
    | nil => rw [sizeL] at hn; omega
    | cons t ts =>
      obtain ⟨n0, ps⟩ := t
      have h1 := hs.first.head
      have hle := hs.le
      rw [wfL, Tr.wf] at hw
      have hps := len_le_sizeL ps
      have hp0 := len_nonneg ps
      have hk := hs.kids
      rw [sizeL, Tr.size] at hn hle
      rw [show f + (n + 1) = (f + n) + 1 by omega, nextF, if_neg (by rw [len_cons]; have := len_nonneg ts; omega), h1.2.2, if_neg (by omega), hw.1.1]
      have := ih (ps ++ ts) f op (i + 1) (by rw [sizeL_app]; omega) (wfL_app.2 ⟨hw.1.2, hw.2⟩) hk ho
      rw [len_app] at this
      rw [len_cons, show op + (len ts + 1) - 1 + len ps = op + (len ps + len ts) by omega, this]
      congr 1; omega
theorem nextV_seg {v : Vl} {i : Int} {t : Tr} (h : SegAt v i t) (hw : t.wf) : nextV v i = i + t.size := by
  have hs := SegL.one h
  have hle := hs.le
  have := h.1
  have hsz : sizeL [t] = t.size := by simp [sizeL]
  obtain ⟨f, hf⟩ : ∃ f, v.length + 2 = (f + 1) + t.size := ⟨v.length + 1 - t.size, by unfold len at hle; omega⟩
  unfold nextV
  rw [hf]
  have := nextF_seg t.size [t] (f + 1) 0 i hsz ⟨hw, trivial⟩ hs (by omega)
  rw [show (0 : Int) + len [t] = 1 from rfl] at this
  rw [this, nextF_done (by omega)]
theorem seg_next {v : Vl} : ∀ (f : Nat) (op i j : Int), nextF f v op i = j → j ≠ -1 → 0 ≤ i → i ≤ len v → 0 ≤ op → ∃ ts, len ts = op ∧ wfL ts ∧ SegL v i ts ∧ j = i + sizeL ts
  | 0, op, i, j, h, hj, _, _, _ => by rw [nextF] at h; omega
  | f + 1, op, i, j, h, hj, h0, h1, ho => by
    rw [nextF] at h
    split at h
    · refine ⟨[], by rw [len_nil]; omega, trivial, ⟨h0, v.take i.toNat, v.drop i.toNat, by simp [flatL], by unfold len at *; rw [List.length_take]; omega⟩, by simp [sizeL]; omega⟩
    · split at h
      · omega
      · rename_i hb
        have hlt : i < len v := by omega
        obtain ⟨ts, e1, e2, e3, e4⟩ := seg_next f _ _ j h hj (by omega) (by omega) (by omega)
        have hmn : (at' v i).many.toNat ≤ ts.length := by unfold len at e1; omega
        refine ⟨.mk (at' v i) (ts.take (at' v i).many.toNat) :: ts.drop (at' v i).many.toNat, ?_, ?_, ?_, ?_⟩
        · rw [len_cons]; unfold len at *; rw [List.length_drop]; omega
        · have := List.take_append_drop (at' v i).many.toNat ts
          rw [← this, wfL_app] at e2
          rw [wfL, Tr.wf]
          exact ⟨⟨by unfold len; rw [List.length_take]; omega, e2.1⟩, e2.2⟩
        · obtain ⟨_, pre, post, hv, hp⟩ := e3
          refine ⟨h0, v.take i.toNat, post, ?_, by unfold len at *; rw [List.length_take]; omega⟩
          rw [flatL, Tr.flat, List.cons_append, ← flatL_app, List.take_append_drop]
          have hpre : pre = v.take (i.toNat + 1) := by
            have : pre = v.take pre.length := by rw [hv]; simp
            rw [this]; congr 1; unfold len at hp; omega
          have hi : i.toNat < v.length := by unfold len at hlt; omega
          have h4 : v.take (i.toNat + 1) = v.take i.toNat ++ [at' v i] := by
            rw [List.take_add_one, List.getElem?_eq_getElem hi]; simp [at', List.getD_eq_getElem?_getD, hi]
          rw [hpre, h4] at hv
          calc v = (v.take i.toNat ++ [at' v i]) ++ (flatL ts ++ post) := hv
            _ = _ := by simp
        · rw [e4, sizeL, Tr.size]
          have := sizeL_app (ts.take (at' v i).many.toNat) (ts.drop (at' v i).many.toNat)
          rw [List.take_append_drop] at this
          omega
/-- What has its place behind it is a tree. -/
theorem tree_of_next {v : Vl} (h : nextV v 0 = len v) (hne : v ≠ []) : ∃ t : Tr, t.wf ∧ v = t.flat := by
  have hl := len_nonneg v
  obtain ⟨ts, e1, e2, e3, e4⟩ := seg_next _ _ _ _ h (by omega) (Int.le_refl _) hl (by omega)
  cases ts with
  | nil => rw [len_nil] at e1; omega
  | cons t ts =>
    cases ts with
    | cons u us => rw [len_cons, len_cons] at e1; have := len_nonneg us; omega
    | nil =>
      refine ⟨t, e2.1, ?_⟩
      obtain ⟨_, pre, post, hv, hp⟩ := e3
      have h1 : pre = [] := List.eq_nil_of_length_eq_zero (by unfold len at hp; omega)
      have h2 : post = [] := by
        refine List.eq_nil_of_length_eq_zero ?_
        have := congrArg List.length hv
        simp only [List.length_append, flatL_len] at this
        unfold len at e4; omega
      rw [hv, h1, h2]; simp [flatL]
/-- At each place of a tree stands one. -/
theorem seg_at {v : Vl} : ∀ (n : Nat) (ts : List Tr) (i0 i : Int), sizeL ts = n → wfL ts → SegL v i0 ts → i0 ≤ i → i < i0 + n → ∃ t, SegAt v i t ∧ t.wf := by
  intro n
  induction n with
  | zero => intro ts i0 i hn _ _ h1 h2; omega
  | succ n ih =>
    intro ts i0 i hn hw hs h1 h2
    cases ts with
    | nil => rw [sizeL] at hn; omega
    | cons t ts =>
      rcases Int.lt_or_eq_of_le h1 with hlt | rfl
      · obtain ⟨n0, ps⟩ := t
        rw [wfL, Tr.wf] at hw
        rw [sizeL, Tr.size] at hn
        exact ih (ps ++ ts) (i0 + 1) i (by rw [sizeL_app]; omega) (wfL_app.2 ⟨hw.1.2, hw.2⟩) hs.kids (by omega) (by omega)
      · exact ⟨t, hs.first, hw.1⟩
theorem wf_kids {v : Vl} {a : Int} {t : Tr} (ht : SegAt v a t) (hw : t.wf) : (∃ us, len us = (at' v a).many - 0 ∧ wfL us ∧ SegL v (a + 1) us) ∧ 0 ≤ (at' v a).many ∧ (at' v a).many ≤ len v := by
  obtain ⟨n0, ps⟩ := t
  rw [Tr.wf] at hw
  have h3 := ht.kids.le
  have := len_le_sizeL ps
  have := len_nonneg ps
  have h0 := ht.1
  rw [ht.head.2.2]
  exact ⟨⟨ps, by omega, hw.2, ht.kids⟩, by omega, by omega⟩
theorem seg_to {v : Vl} {i : Int} {us : List Tr} (hs : SegL v i us) (h : 0 < len us) : 0 ≤ i ∧ i < len v := by
  cases us with
  | nil => rw [len_nil] at h; omega
  | cons u us => have := hs.first.node; exact ⟨this.1, this.2.1⟩
theorem ris_n2 {p q : Prop} {b : Bool} (h : (¬ p ∨ q) ∧ b = true) : ¬ ((p ∧ ¬ q) ∨ b = false) := by
  rintro (⟨h1, h2⟩ | h1)
  · exact h.1.elim (fun h3 => h3 h1) h2
  · rw [h.2] at h1; cases h1
theorem ris_p3 {p q : Prop} {b : Bool} (h : (p ∧ q) ∧ b = false) : p ∧ q ∧ b = false := ⟨h.1.1, h.1.2, h.2⟩
theorem ris_n3 {p : Prop} {x y : Int} {b : Bool} (h : (¬ p ∨ y ≤ x) ∨ b = true) : ¬ (p ∧ x < y ∧ b = false) := by
  rintro ⟨h1, h2, h3⟩
  rcases h with (h | h) | h
  · exact h h1
  · omega
  · rw [h] at h3; cases h3
theorem Tr.seg_at {t : Tr} (hw : t.wf) {i : Int} (h0 : 0 ≤ i) (h1 : i < len t.flat) : ∃ u, SegAt t.flat i u ∧ u.wf :=
  Eng.seg_at t.size [t] 0 i (by simp [sizeL]) ⟨hw, trivial⟩ (SegL.one (SegAt.top t)) h0 (by unfold len at h1; rw [Tr.flat_len] at h1; omega)
theorem len_zero {α : Type} {v : List α} : len v = 0 ↔ v = [] := by
  cases v with
  | nil => simp [len]
  | cons a v => rw [len_cons]; have := len_nonneg v; constructor; · intro h; omega
                · intro h; cases h
theorem right_p {v : Vl} (h : (len v = 0 ∨ ¬ (at' v 0).name = []) ∨ ¬ nextV v 0 = len v) : v = [] ∨ (at' v 0).name ≠ [] ∨ nextV v 0 ≠ len v := by
  rcases h with (h | h) | h
  · exact .inl (len_zero.1 h)
  · exact .inr (.inl h)
  · exact .inr (.inr h)
theorem right_n {v : Vl} (h : (¬ len v = 0 ∧ (at' v 0).name = []) ∧ nextV v 0 = len v) : ¬ (v = [] ∨ (at' v 0).name ≠ [] ∨ nextV v 0 ≠ len v) := by
  rintro (h1 | h1 | h1)
  · exact h.1.1 (len_zero.2 h1)
  · exact h1 h.1.2
  · exact h1 h.2
theorem right_t {v : Vl} (h : (¬ len v = 0 ∧ (at' v 0).name = []) ∧ nextV v 0 = len v) : ∃ t : Tr, t.wf ∧ v = t.flat := tree_of_next h.2 (fun e => h.1.1 (len_zero.2 e))
theorem all_p {a b : Bool} (h : a = false ∨ b = false) : a = false ∨ b = false := h
theorem all_n {a b : Bool} (h : a = true ∧ b = true) : ¬ (a = false ∨ b = false) := by
  rw [h.1, h.2]; rintro (h | h) <;> cases h
/-! ### parts, names, depth -/
def Tr.named (x : Str) : Tr → Tr | .mk n ps => .mk { n with name := x } ps
theorem Tr.named_flat (x : Str) (t : Tr) : (t.named x).flat = nameV x t.flat := by cases t; rfl
theorem Tr.named_wf {x : Str} {t : Tr} (h : t.wf) : (t.named x).wf := by cases t; exact h
theorem Tr.named_size (x : Str) (t : Tr) : (t.named x).size = t.size := by cases t; rfl
def kidsV (t : Tr) : List Vl := t.parts.map fun u => (u.named []).flat
def kidNs (t : Tr) : List Str := if t.node.kind = 6 then t.parts.map (·.node.name) else []
mutual
def depthT : Tr → Int
  | .mk n ps => if n.kind ≠ 5 ∧ n.kind ≠ 6 then 0 else depthL ps + 1
def depthL : List Tr → Int
  | [] => 0
  | t :: ts => max (depthT t) (depthL ts)
end
theorem depthT_named (x : Str) (t : Tr) : depthT (t.named x) = depthT t := by cases t; rfl
theorem depthL_app (a b : List Tr) : depthL (a ++ b) = max (depthL a) (depthL b) := by
  induction a with
  | nil =>
    have : 0 ≤ depthL b := by
      cases b with
      | nil => exact Int.le_refl _
      | cons t ts =>
        suffices h : ∀ l : List Tr, 0 ≤ depthL l from h _
        intro l; induction l with
        | nil => exact Int.le_refl _
        | cons t l ih => rw [depthL]; omega
    rw [List.nil_append, depthL]; omega
  | cons t a ih => rw [List.cons_append, depthL, depthL, ih]; omega
theorem depthL_nonneg : ∀ l : List Tr, 0 ≤ depthL l
  | [] => Int.le_refl _
  | t :: l => by rw [depthL]; have := depthL_nonneg l; omega
theorem depthT_le : ∀ (n : Nat) (t : Tr), t.size = n → 0 ≤ depthT t ∧ depthT t ≤ t.size := by
  intro n
  induction n using Nat.strongRecOn with
  | _ n ih =>
    intro t hn
    obtain ⟨nd, ps⟩ := t
    have key : ∀ l : List Tr, sizeL l < n → depthL l ≤ sizeL l := by
      intro l
      induction l with
      | nil => intro _; exact Int.le_refl _
      | cons t l ihl =>
        intro hl
        rw [sizeL] at hl
        have h1 := ih t.size (by omega) t rfl
        have h2 := ihl (by omega)
        have := t.size_pos
        rw [depthL, sizeL]; omega
    rw [Tr.size] at hn
    have h1 := key ps (by omega)
    have h0 := depthL_nonneg ps
    rw [depthT, Tr.size]
    split <;> omega
theorem own_eq {x : Vl} (h : x ≠ []) : (([] : List Nd) ++ x).set (0 : Int).toNat { at' (([] : List Nd) ++ x) 0 with name := [] } = nameV [] x := by
  cases x with
  | nil => exact absurd rfl h
  | cons a x => rfl
theorem seg_sub {v : Vl} {i : Int} {t : Tr} (h : SegAt v i t) : Eng.sub v i (i + t.size) = t.flat := by
  obtain ⟨h0, pre, post, rfl, rfl⟩ := h
  unfold Eng.sub len
  have : (Int.toNat ((pre.length : Int) + t.size)) - (Int.toNat (pre.length : Int)) = t.flat.length := by rw [Tr.flat_len]; omega
  simp only [Int.toNat_natCast] at *
  rw [List.drop_left, this, List.take_left]
theorem Tr.flat_ne (t : Tr) : t.flat ≠ [] := by cases t; rw [Tr.flat]; intro h; cases h
theorem Tr.seg_kids {t : Tr} : SegL t.flat 1 t.parts := by
  obtain ⟨n, ps⟩ := t
  exact (SegAt.top (.mk n ps)).kids
theorem Tr.at0 (t : Tr) : at' t.flat 0 = t.node := (SegAt.top t).node.2.2
theorem Tr.many_eq {t : Tr} (h : t.wf) : t.node.many = len t.parts := by cases t; exact h.1
theorem Tr.parts_wf {t : Tr} (h : t.wf) : wfL t.parts := by cases t; exact h.2
theorem Tr.size_eq (t : Tr) : t.size = 1 + sizeL t.parts := by cases t; rfl
/-- The first so many parts. -/
def kidsTo (t : Tr) (k : Int) : List Vl := (kidsV t).take k.toNat
theorem kidsTo_len {t : Tr} {k : Int} (h0 : 0 ≤ k) (h1 : k ≤ len t.parts) : ((kidsTo t k).length : Int) = k := by
  unfold kidsTo kidsV; rw [List.length_take, List.length_map]; unfold len at h1; omega
theorem kidsTo_end {t : Tr} {k : Int} (h1 : len t.parts ≤ k) : kidsTo t k = kidsV t := by
  unfold kidsTo; rw [List.take_of_length_le]; unfold kidsV; rw [List.length_map]; unfold len at h1; omega
theorem wfL_drop {l : List Tr} (h : wfL l) (n : Nat) : wfL (l.drop n) := by
  have := List.take_append_drop n l
  rw [← this, wfL_app] at h; exact h.2
/-- The next part. -/
theorem kid_step {t : Tr} (hw : t.wf) {k i : Int} (h0 : 0 ≤ k) (h1 : k < len t.parts) (hs : SegL t.flat i (t.parts.drop k.toNat)) :
    ∃ u, u.wf ∧ SegAt t.flat i u ∧ nextV t.flat i = i + u.size ∧ SegL t.flat (i + u.size) (t.parts.drop (k + 1).toNat) ∧ kidsTo t (k + 1) = kidsTo t k ++ [nameV [] (Eng.sub t.flat i (nextV t.flat i))] ∧ nameV [] (Eng.sub t.flat i (nextV t.flat i)) = (u.named []).flat ∧ u ∈ t.parts ∧ t.parts[k.toNat]? = some u := by
  have hk : k.toNat < t.parts.length := by unfold len at h1; omega
  have e : t.parts.drop k.toNat = t.parts[k.toNat] :: t.parts.drop (k + 1).toNat := by
    rw [show (k + 1).toNat = k.toNat + 1 by omega]; exact List.drop_eq_getElem_cons hk
  have hwd := wfL_drop (Tr.parts_wf hw) k.toNat
  rw [e] at hs hwd
  have hn := nextV_seg hs.first hwd.1
  have he : nameV [] (Eng.sub t.flat i (nextV t.flat i)) = ((t.parts[k.toNat]).named []).flat := by rw [hn, seg_sub hs.first, Tr.named_flat]
  refine ⟨t.parts[k.toNat], hwd.1, hs.first, hn, hs.rest, ?_, he, List.getElem_mem hk, List.getElem?_eq_getElem hk⟩
  rw [he]
  unfold kidsTo kidsV
  rw [show (k + 1).toNat = k.toNat + 1 by omega, List.take_add_one, List.getElem?_map, List.getElem?_eq_getElem hk]; rfl
def namesTo (t : Tr) (k : Int) : List Str := (t.parts.map (·.node.name)).take k.toNat
theorem namesTo_step {t : Tr} {k : Int} {u : Tr} (h0 : 0 ≤ k) (h : t.parts[k.toNat]? = some u) : namesTo t (k + 1) = namesTo t k ++ [u.node.name] := by
  unfold namesTo
  rw [show (k + 1).toNat = k.toNat + 1 by omega, List.take_add_one, List.getElem?_map, h]; rfl
theorem namesTo_end {t : Tr} {k : Int} (h1 : len t.parts ≤ k) (h6 : t.node.kind = 6) : namesTo t k = kidNs t := by
  unfold namesTo kidNs; rw [if_pos h6, List.take_of_length_le]; rw [List.length_map]; unfold len at h1; omega
theorem namesTo_len {t : Tr} {k : Int} (h0 : 0 ≤ k) (h1 : k ≤ len t.parts) : len (namesTo t k) = k := by
  unfold namesTo len; rw [List.length_take, List.length_map]; unfold len at h1; omega
theorem namesTo_no {t : Tr} {k : Int} (h1 : k = 0) (h6 : ¬ t.node.kind = 6) : namesTo t k = kidNs t := by
  subst h1; unfold namesTo kidNs; rw [if_neg h6]; rfl
def depTo (t : Tr) (k : Int) : Int := depthL (t.parts.take k.toNat)
theorem depTo_step {t : Tr} {k : Int} {u : Tr} (h0 : 0 ≤ k) (h : t.parts[k.toNat]? = some u) : depTo t (k + 1) = max (depTo t k) (depthT (u.named [])) := by
  unfold depTo
  have hu := depthT_le _ u rfl
  rw [show (k + 1).toNat = k.toNat + 1 by omega, List.take_add_one, h, depthL_app]
  show max _ (depthL [u]) = _
  rw [depthL, depthL, depthT_named]; omega
theorem depTo_end {t : Tr} {k : Int} (h1 : len t.parts ≤ k) : depTo t k = depthL t.parts := by
  unfold depTo; rw [List.take_of_length_le]; unfold len at h1; omega
theorem depTo_nonneg (t : Tr) (k : Int) : 0 ≤ depTo t k := depthL_nonneg _
theorem depthL_le : ∀ l : List Tr, depthL l ≤ sizeL l
  | [] => Int.le_refl _
  | t :: l => by rw [depthL, sizeL]; have := depthL_le l; have := depthT_le _ t rfl; omega
theorem sizeL_take (l : List Tr) (n : Nat) : sizeL (l.take n) ≤ sizeL l := by
  have := sizeL_app (l.take n) (l.drop n); rw [List.take_append_drop] at this; omega
theorem depTo_le (t : Tr) (k : Int) : depTo t k ≤ t.size := by
  unfold depTo; have h1 := depthL_le (t.parts.take k.toNat); have h2 := sizeL_take t.parts k.toNat; rw [Tr.size_eq]; omega
theorem depthT_no {t : Tr} (h : t.node.kind ≠ 5 ∧ t.node.kind ≠ 6) : depthT t = 0 := by obtain ⟨n, ps⟩ := t; rw [depthT]; exact if_pos h
theorem depthT_yes {t : Tr} (h : ¬ (t.node.kind ≠ 5 ∧ t.node.kind ≠ 6)) : depthT t = depthL t.parts + 1 := by obtain ⟨n, ps⟩ := t; rw [depthT]; exact if_neg h
theorem sizeL_mem {u : Tr} : ∀ {l : List Tr}, u ∈ l → u.size ≤ sizeL l
  | t :: l, h => by
    rw [sizeL]
    rcases List.mem_cons.1 h with rfl | h
    · omega
    · have := sizeL_mem h; omega
theorem kidsV_at {t : Tr} {k : Int} (h0 : 0 ≤ k) (h1 : k < len t.parts) (hw : t.wf) : ∃ u, at' (kidsV t) k = (u.named []).flat ∧ t.parts[k.toNat]? = some u ∧ u.wf ∧ u.size < t.size := by
  have hk : k.toNat < t.parts.length := by unfold len at h1; omega
  refine ⟨t.parts[k.toNat], ?_, List.getElem?_eq_getElem hk, ?_, ?_⟩
  · unfold kidsV at'; rw [List.getD_eq_getElem?_getD, List.getElem?_map, List.getElem?_eq_getElem hk]; rfl
  · have := wfL_drop (Tr.parts_wf hw) k.toNat
    rw [List.drop_eq_getElem_cons hk] at this; exact this.1
  · have := sizeL_mem (List.getElem_mem hk); rw [Tr.size_eq t]; omega
theorem kidsV_len (t : Tr) : len (kidsV t) = len t.parts := by unfold kidsV len; rw [List.length_map]
end Go.Eng
set_option maxRecDepth 100000
namespace Go.Proofs.YtjfaikgooldcbaaGreatDoor
open Go.Eng

/- loupe/louperef02.Next -/
theorem next_c (M : Mem) (v : Vl) (vv : Value) (i : Int) (w : World) (hM : Sat w M) (hv : Sl M 6 v.length vv (v.flatMap Nd.cells)) (hvb : len v ≤ 1048576) (h0 : 0 ≤ i) :
  Calls Tryz.prog 34 [vv, (i64 i)].toArray w fun e w' => e = .returned (i64 (nextV v i)) ∧ Ext w w' := by
 refine CW.enter1 Tryz.func34 rfl Tryz.ntmps34 (Nat.le_of_ble_eq_true rfl) fun Q hE => ?_
 have hvn := len_nonneg v
 have hS : St w M w M [] := St.start hM
 refine CW.weaken [0, 1] (L' := [Y 0 vv, Y 1 (i64 i)]) ?_ rfl
 refine CW.sr (RL.u (.assign .c) rfl (RL.nil (CW.id (CW.sr ?_))))
 refine RL.u (.assign .c) rfl (RL.nil (CW.id ?_))
 refine CW.seq (CW.block ?_)
 refine CW.loop (σ := Nat × Int × Int) (fun (f1, op, k) => [Y 0 vv, Y 1 (i64 k), Y 5 (i64 op)]) (fun (f1, op, k) wl => St w M wl M [] ∧ Sl M 6 v.length vv (v.flatMap Nd.cells) ∧ nextF f1 v op k = nextV v i ∧ f1 + (k - i) = len v + 2 ∧ 0 ≤ op ∧ op ≤ 1 + (k - i) * 1048576 ∧ i ≤ k ∧ (k ≤ len v ∨ k = i)) (fun (f1, op, k) => f1) ((v.length + 2, 1, i)) [0, 1, 5] rfl ?_ ?_
 ·refine ⟨hS, hv, ?_⟩; exact ⟨rfl, by unfold len; omega, by omega, by omega, by omega, Or.inr rfl⟩
 ·rintro ⟨f1, op, k⟩ wl ⟨hS1, hv, hF, hf, ho0, ho1, hik, hkl⟩
  have hf1 : 1 ≤ f1 := by omega
  obtain ⟨f, rfl⟩ : ∃ f, f1 = f + 1 := ⟨f1 - 1, by omega⟩
  refine CW.seq (CW.sr (RL.m rfl rfl (RL.u (.gtr (.t rfl) .c) rfl (RL.nil (CW.id ?_)))))
  refine CW.cond rfl ?_ ?_ <;> intro hb1 <;> try simp only [zb] at hb1
  ·refine CW.skip (CW.id (CW.block (CW.seq (CW.sr ?_))))
   refine RL.m rfl rfl (RL.m rfl rfl (RL.u (.lenT hv (.t rfl) ⟨_, Tryz.underlying24⟩) rfl (RL.u (.geq (.t rfl) (.t rfl)) rfl (RL.m rfl rfl (RL.v (.neg rfl rfl) (.move (.t rfl)) rfl ?_)))))
   refine RL.v (.neg rfl rfl) (.move (.t rfl)) rfl (RL.v (.neg rfl rfl) (.idxT hv (.g rfl (fun h => h)) (.g rfl (fun h => h)) Tryz.underlying24 Tryz.sizeOf38 (fun hW => by simp only [zb] at hW; omega)) rfl (RL.v (.neg rfl rfl) (.fldA (q := ⟨sb vv, so vv + (k : Int).toNat * 6 + 1, none⟩) (.g rfl (fun h => h)) (fun w => by kernel_rfl)) rfl (RL.v (.neg rfl rfl) (.loadE1 (f := Nd.cells) (i := k) (j := 1) (u := (i64 ((at' v k).many))) hS1 extEq hv Nd.cells_len (.g rfl (fun h => h)) Tryz.isAgg3 (fun hW => by simp only [zb] at hW; omega) rfl rfl) rfl (RL.v (.neg rfl rfl) (.lss (.g rfl (fun h => h)) .c) rfl (RL.u (.or (.t rfl) (.g rfl (fun h => h))) rfl ?_)))))
   refine RL.m rfl rfl (RL.v (.neg rfl rfl) (.move (.t rfl)) rfl (RL.v (.neg rfl rfl) (.move (.t rfl)) rfl (RL.v (.neg rfl rfl) (.idxT hv (.g rfl (fun h => h)) (.g rfl (fun h => h)) Tryz.underlying24 Tryz.sizeOf38 (fun hW => by simp only [zb] at hW; omega)) rfl (RL.v (.neg rfl rfl) (.fldA (q := ⟨sb vv, so vv + (k : Int).toNat * 6 + 1, none⟩) (.g rfl (fun h => h)) (fun w => by kernel_rfl)) rfl (RL.v (.neg rfl rfl) (.loadE1 (f := Nd.cells) (i := k) (j := 1) (u := (i64 ((at' v k).many))) hS1 extEq hv Nd.cells_len (.g rfl (fun h => h)) Tryz.isAgg3 (fun hW => by simp only [zb] at hW; omega) rfl rfl) rfl ?_)))))
   refine RL.v (.neg rfl rfl) (.move (.t rfl)) rfl (RL.v (.neg rfl rfl) (.lenT hv (.g rfl (fun h => h)) ⟨_, Tryz.underlying24⟩) rfl (RL.v (.neg rfl rfl) (.gtr (.g rfl (fun h => h)) (.g rfl (fun h => h))) rfl (RL.u (.or (.t rfl) (.g rfl (fun h => h))) rfl (RL.nil (CW.id ?_)))))
   refine CW.cond rfl ?_ ?_ <;> intro hb2 <;> try simp only [zb] at hb2
   ·refine CW.sr (RL.u (.assign .c) rfl (RL.nil (CW.id (CW.ret (hE.r1 rfl rfl ?_)))))
    exact ⟨by rw [← hF, nextF, if_neg (by omega), if_pos (by omega)], hS1.low⟩
   ·refine CW.skip (CW.id (CW.sr (RL.m rfl rfl (RL.u (.sub (.t rfl) .c (fun _ => by omega)) rfl (RL.m rfl rfl (RL.m rfl rfl (RL.u (.idxT hv (.t rfl) (.t rfl) Tryz.underlying24 Tryz.sizeOf38 (fun _ => by omega)) rfl (RL.u (.fldA (q := ⟨sb vv, so vv + (k : Int).toNat * 6 + 1, none⟩) (.t rfl) (fun w => by kernel_rfl)) rfl (RL.u (.loadE1 (f := Nd.cells) (i := k) (j := 1) (u := (i64 ((at' v k).many))) hS1 extEq hv Nd.cells_len (.t rfl) Tryz.isAgg3 (fun _ => by omega) rfl rfl) rfl (RL.u (.add (.t rfl) (.t rfl) (fun _ => by omega)) rfl (RL.a rfl rfl (RL.nil (CW.id ?_)))))))))))))
    refine CW.region (RL.m rfl rfl (RL.u (.add (.t rfl) .c (fun _ => by omega)) rfl (RL.a rfl rfl ?_)))
    refine RL.nil fun a hs => Exists.intro ((f, (op - 1) + ((at' v k).many), k + 1)) ⟨hs.keep [0, 1, 5], ?_, ?_⟩
    ·refine ⟨hS1, hv, ?_⟩
     exact ⟨by rw [← hF, nextF, if_neg (by omega), if_neg (by omega)], by omega, by omega, by omega, by omega, Or.inl (by omega)⟩
    ·show f < f + 1; omega
  ·refine CW.exit (CW.at [Y 1 (i64 k)] rfl ?_)
   refine CW.sr (RL.m rfl rfl (RL.a rfl rfl (RL.nil (CW.id (CW.ret (hE.r1 rfl rfl ?_))))))
   exact ⟨by rw [← hF, nextF, if_pos (by omega)], hS1.low⟩

/- loupe/louperef02.plain -/
theorem plain_c (n : Nd) (w : World) (hn : len n.s ≤ 1099511627776) :
  Calls Tryz.prog 35 [(ndV n)].toArray w fun e w' => e = .returned (.bool (plainB n)) ∧ Ext w w' := by
 refine CW.enter1 Tryz.func35 rfl Tryz.ntmps35 (Nat.le_of_ble_eq_true rfl) fun Q hE => ?_
 have hS : St w nM w nM [] := St.start ⟨fun _ _ _ h => by cases h⟩
 refine CW.weaken [0] (L' := [Y 0 (ndV n)]) ?_ rfl
 refine CW.sr ?_
 refine RL.box (v := (ndV n)) hS (.t rfl) rfl (fun w1 b2 hS3 => ?_)
 refine RL.u (.assign .c) rfl (RL.nil (CW.id ?_))
 refine CW.sr (RL.u (.fldA (q := ⟨b2, 2, none⟩) (.t rfl) (fun w => by kernel_rfl)) rfl ?_)
 refine RL.st (v := (str [])) hS3 (i := 0) rfl (.t rfl) .c Tryz.sizeOf9 rfl rfl rfl rfl rfl (fun w4 hS5 => (RL.nil (CW.id ?_)))
 refine CW.seq (CW.sr (RL.u (.fldA (q := ⟨b2, 0, none⟩) (.t rfl) (fun w => by kernel_rfl)) rfl (RL.u (.loadB1 (v := (i64 n.kind)) hS5 extEq (i := 0) rfl (.t rfl) Tryz.isAgg3 rfl) rfl (RL.nil (CW.id ?_)))))
 refine CW.block ?_
 refine CW.mid (σ := Bool) (fun c1 => [Y 1 (.pointer (some ⟨b2, 0, none⟩)), Y 5 (i64 n.kind), Y 6 (.bool c1)]) (fun c1 wm6 => St w nM wm6 nM [.box b2 [(i64 n.kind), (i64 n.many), (str []), (str n.s), (.bool n.neg), (i64 n.e)] 38] ∧ c1 = decide (n.kind = 0 ∨ n.kind = 1 ∨ n.kind = 2)) ?_ ?_
 ·refine CW.sr (RL.u (.eql (.t rfl) .c) rfl (RL.a rfl rfl (RL.nil (CW.id ?_))))
  refine CW.cond rfl ?_ ?_ <;> intro hb1 <;> try simp only [zb] at hb1
  ·exact CW.skip fun a hs => ⟨n.kind == 0, hs.keep [1, 5, 6], hS5, by rw [Bool.eq_iff_iff, beq_iff_eq, decide_eq_true_eq]; omega⟩
  ·refine CW.sr (RL.u (.eql (.t rfl) .c) rfl (RL.a rfl rfl (RL.nil (CW.id ?_))))
   refine CW.cond rfl ?_ ?_ <;> intro hb2 <;> try simp only [zb] at hb2
   ·exact CW.skip fun a hs => ⟨n.kind == 1, hs.keep [1, 5, 6], hS5, by rw [Bool.eq_iff_iff, beq_iff_eq, decide_eq_true_eq]; omega⟩
   ·refine CW.region (RL.u (.eql (.t rfl) .c) rfl (RL.a rfl rfl ?_))
    exact RL.nil fun a hs => ⟨n.kind == 2, hs.keep [1, 5, 6], hS5, by rw [Bool.eq_iff_iff, beq_iff_eq, decide_eq_true_eq]; omega⟩
 ·rintro c1 wm6 ⟨hS7, hc1⟩
  refine CW.cond rfl ?_ ?_ <;> intro hb3 <;> try simp only [zb] at hb3
  ·refine CW.sr (RL.u (.loadBN (vs := [(i64 n.kind), (i64 n.many), (str []), (str n.s), (.bool n.neg), (i64 n.e)]) hS7 extEq (i := 0) rfl (.t rfl) Tryz.isAgg38 Tryz.sizeOf38 rfl rfl) rfl (RL.u (.fldA (q := ⟨b2, 0, none⟩) (.t rfl) (fun w => by kernel_rfl)) rfl (RL.u (.loadB1 (v := (i64 n.kind)) hS7 extEq (i := 0) rfl (.t rfl) Tryz.isAgg3 rfl) rfl (RL.u (.build (vs := [(0, (i64 n.kind))]) (v := (.agg #[(i64 n.kind), (i64 0), (str []), (str []), (.bool false), (i64 0)])) (.cons (.t rfl) .nil) (fun w => by kernel_rfl)) rfl (RL.u (.bin (v := .bool ((decide ((⟨n.kind, n.many, [], n.s, n.neg, n.e⟩ : Nd) = ⟨n.kind, 0, [], [], false, 0⟩)))) (.t rfl) (.t rfl) (fun _ w _ => eqNd _ _ (⟨n.kind, n.many, [], n.s, n.neg, n.e⟩) (⟨n.kind, 0, [], [], false, 0⟩) w)) rfl (RL.a rfl rfl (RL.nil (CW.id (CW.ret (hE.r1 rfl rfl ?_))))))))))
   clear hE
   refine ⟨congrArg (fun x => Ending.returned (.bool x)) ?_, hS7.low⟩
   unfold plainB; (try dsimp only); (repeat' split)
   all_goals first | rfl | (exfalso; simp only [zb] at *; omega) | (exfalso; simp_all; done) | (exfalso; simp_all; omega)
  ·refine CW.sr (RL.u (.eql (.t rfl) .c) rfl (RL.a rfl rfl (RL.nil (CW.id ?_))))
   refine CW.cond rfl ?_ ?_ <;> intro hb4 <;> try simp only [zb] at hb4
   ·refine CW.sr (RL.u (.loadBN (vs := [(i64 n.kind), (i64 n.many), (str []), (str n.s), (.bool n.neg), (i64 n.e)]) hS7 extEq (i := 0) rfl (.t rfl) Tryz.isAgg38 Tryz.sizeOf38 rfl rfl) rfl ?_)
    refine RL.callE hS7 .none Tryz.call61 (.cons (.t rfl) .nil) (fun _ => (right1_c (⟨n.kind, n.many, [], n.s, n.neg, n.e⟩) _ (by first | omega | (dsimp only; omega)))) rfl (fun w8 hS9 => ?_)
    refine RL.a rfl rfl ?_
    refine RL.nil (CW.at [Y 2 (.bool (right1 (⟨n.kind, n.many, [], n.s, n.neg, n.e⟩)))] rfl (CW.ret (hE.r1 rfl rfl ?_)))
    clear hE
    refine ⟨congrArg (fun x => Ending.returned (.bool x)) ?_, hS9.low⟩
    unfold plainB; (try dsimp only); (repeat' split)
    all_goals first | rfl | (exfalso; simp only [zb] at *; omega) | (exfalso; simp_all; done) | (exfalso; simp_all; omega)
   ·refine CW.sr (RL.u (.eql (.t rfl) .c) rfl (RL.a rfl rfl (RL.nil (CW.id ?_))))
    refine CW.cond rfl ?_ ?_ <;> intro hb5 <;> try simp only [zb] at hb5
    ·refine CW.sr (RL.u (.fldA (q := ⟨b2, 3, none⟩) (.t rfl) (fun w => by kernel_rfl)) rfl (RL.u (.loadB1 (v := (str n.s)) hS7 extEq (i := 0) rfl (.t rfl) Tryz.isAgg9 rfl) rfl ?_))
     refine RL.callS .none Tryz.call38 (.cons (.t rfl) .nil) (fun _ => (utf_c n.s _ (by omega))) rfl ?_
     refine RL.m rfl rfl (RL.v (.pos rfl rfl) (.loadBN (vs := [(i64 n.kind), (i64 n.many), (str []), (str n.s), (.bool n.neg), (i64 n.e)]) hS7 extEq (i := 0) rfl (.t rfl) Tryz.isAgg38 Tryz.sizeOf38 rfl rfl) rfl (RL.v (.pos rfl rfl) (.fldA (q := ⟨b2, 0, none⟩) (.t rfl) (fun w => by kernel_rfl)) rfl (RL.v (.pos rfl rfl) (.loadB1 (v := (i64 n.kind)) hS7 extEq (i := 0) rfl (.g rfl (fun h => h)) Tryz.isAgg3 rfl) rfl (RL.v (.pos rfl rfl) (.fldA (q := ⟨b2, 3, none⟩) (.t rfl) (fun w => by kernel_rfl)) rfl (RL.v (.pos rfl rfl) (.loadB1 (v := (str n.s)) hS7 extEq (i := 0) rfl (.g rfl (fun h => h)) Tryz.isAgg9 rfl) rfl ?_)))))
     refine RL.v (.pos rfl rfl) (.build (vs := [(0, (i64 n.kind)), (3, (str n.s))]) (v := (.agg #[(i64 n.kind), (i64 0), (str []), (str n.s), (.bool false), (i64 0)])) (.cons (.g rfl (fun h => h)) (.cons (.g rfl (fun h => h)) .nil)) (fun w => by kernel_rfl)) rfl (RL.v (.pos rfl rfl) (.bin (v := .bool ((decide ((⟨n.kind, n.many, [], n.s, n.neg, n.e⟩ : Nd) = ⟨n.kind, 0, [], n.s, false, 0⟩)))) (.g rfl (fun h => h)) (.g rfl (fun h => h)) (fun _ w _ => eqNd _ _ (⟨n.kind, n.many, [], n.s, n.neg, n.e⟩) (⟨n.kind, 0, [], n.s, false, 0⟩) w)) rfl (RL.u (.and (.t rfl) (.g rfl (fun h => h))) rfl (RL.a rfl rfl ?_)))
     refine RL.nil (CW.at [Y 2 (.bool ((utf n.s) && ((decide ((⟨n.kind, n.many, [], n.s, n.neg, n.e⟩ : Nd) = ⟨n.kind, 0, [], n.s, false, 0⟩)))))] rfl (CW.ret (hE.r1 rfl rfl ?_)))
     clear hE
     refine ⟨congrArg (fun x => Ending.returned (.bool x)) ?_, hS7.low⟩
     unfold plainB; (try dsimp only); (repeat' split)
     all_goals first | rfl | (exfalso; simp only [zb] at *; omega) | (exfalso; simp_all; done) | (exfalso; simp_all; omega)
    ·refine CW.mid (σ := Bool) (fun c2 => [Y 1 (.pointer (some ⟨b2, 0, none⟩)), Y 33 (.bool c2)]) (fun c2 wm10 => St w nM wm10 nM [.box b2 [(i64 n.kind), (i64 n.many), (str []), (str n.s), (.bool n.neg), (i64 n.e)] 38] ∧ c2 = decide (n.kind = 5 ∨ n.kind = 6)) ?_ ?_
     ·refine CW.sr (RL.u (.eql (.t rfl) .c) rfl (RL.a rfl rfl (RL.nil (CW.id ?_))))
      refine CW.cond rfl ?_ ?_ <;> intro hb6 <;> try simp only [zb] at hb6
      ·exact CW.skip fun a hs => ⟨n.kind == 5, hs.keep [1, 33], hS7, by rw [Bool.eq_iff_iff, beq_iff_eq, decide_eq_true_eq]; omega⟩
      ·refine CW.region (RL.u (.eql (.t rfl) .c) rfl (RL.a rfl rfl ?_))
       exact RL.nil fun a hs => ⟨n.kind == 6, hs.keep [1, 33], hS7, by rw [Bool.eq_iff_iff, beq_iff_eq, decide_eq_true_eq]; omega⟩
     ·rintro c2 wm10 ⟨hS11, hc2⟩
      refine CW.cond rfl ?_ ?_ <;> intro hb7 <;> try simp only [zb] at hb7
      ·refine CW.sr (RL.u (.fldA (q := ⟨b2, 1, none⟩) (.t rfl) (fun w => by kernel_rfl)) rfl (RL.u (.loadB1 (v := (i64 n.many)) hS11 extEq (i := 0) rfl (.t rfl) Tryz.isAgg3 rfl) rfl (RL.u (.geq (.t rfl) .c) rfl (RL.m rfl rfl (RL.v (.pos rfl rfl) (.loadBN (vs := [(i64 n.kind), (i64 n.many), (str []), (str n.s), (.bool n.neg), (i64 n.e)]) hS11 extEq (i := 0) rfl (.t rfl) Tryz.isAgg38 Tryz.sizeOf38 rfl rfl) rfl (RL.v (.pos rfl rfl) (.fldA (q := ⟨b2, 0, none⟩) (.t rfl) (fun w => by kernel_rfl)) rfl (RL.v (.pos rfl rfl) (.loadB1 (v := (i64 n.kind)) hS11 extEq (i := 0) rfl (.g rfl (fun h => h)) Tryz.isAgg3 rfl) rfl (RL.v (.pos rfl rfl) (.fldA (q := ⟨b2, 1, none⟩) (.t rfl) (fun w => by kernel_rfl)) rfl (RL.v (.pos rfl rfl) (.loadB1 (v := (i64 n.many)) hS11 extEq (i := 0) rfl (.g rfl (fun h => h)) Tryz.isAgg3 rfl) rfl (RL.v (.pos rfl rfl) (.build (vs := [(0, (i64 n.kind)), (1, (i64 n.many))]) (v := (.agg #[(i64 n.kind), (i64 n.many), (str []), (str []), (.bool false), (i64 0)])) (.cons (.g rfl (fun h => h)) (.cons (.g rfl (fun h => h)) .nil)) (fun w => by kernel_rfl)) rfl (RL.v (.pos rfl rfl) (.bin (v := .bool ((decide ((⟨n.kind, n.many, [], n.s, n.neg, n.e⟩ : Nd) = ⟨n.kind, n.many, [], [], false, 0⟩)))) (.g rfl (fun h => h)) (.g rfl (fun h => h)) (fun _ w _ => eqNd _ _ (⟨n.kind, n.many, [], n.s, n.neg, n.e⟩) (⟨n.kind, n.many, [], [], false, 0⟩) w)) rfl (RL.u (.and (.t rfl) (.g rfl (fun h => h))) rfl (RL.a rfl rfl (RL.nil (CW.id ?_)))))))))))))))
       refine CW.ret (hE.r1 rfl rfl ?_)
       clear hE
       refine ⟨congrArg (fun x => Ending.returned (.bool x)) ?_, hS11.low⟩
       unfold plainB; (try dsimp only); (repeat' split)
       all_goals first | rfl | (exfalso; simp only [zb] at *; omega) | (exfalso; simp_all; done) | (exfalso; simp_all; omega)
      ·refine CW.skip (CW.id (CW.sr (RL.u (.assign .c) rfl (RL.nil (CW.id ?_)))))
       refine CW.ret (hE.r1 rfl rfl ?_)
       clear hE
       refine ⟨congrArg (fun x => Ending.returned (.bool x)) ?_, hS11.low⟩
       unfold plainB; (try dsimp only); (repeat' split)
       all_goals first | rfl | (exfalso; simp only [zb] at *; omega) | (exfalso; simp_all; done) | (exfalso; simp_all; omega)

/- loupe/louperef02.rising -/
theorem rising_c (M : Mem) (v : Vl) (vv : Value) (z : Int) (t : Tr) (w : World) (hM : Sat w M) (hv : Sl M 6 v.length vv (v.flatMap Nd.cells)) (hvb : len v ≤ 1048576) (hl : ∀ n ∈ v, len n.s ≤ 1099511627776 ∧ len n.name ≤ 1099511627776) (ht : SegAt v z t) (hw : t.wf) :
  Calls Tryz.prog 36 [vv, (i64 z)].toArray w fun e w' => e = .returned (.bool (risB v z)) ∧ Ext w w' := by
 refine CW.enter1 Tryz.func36 rfl Tryz.ntmps36 (Nat.le_of_ble_eq_true rfl) fun Q hE => ?_
 have hta := ht.node
 obtain ⟨hkids, hmn, hmx⟩ := wf_kids ht hw
 have hS : St w M w M [] := St.start hM
 refine CW.weaken [0, 1] (L' := [Y 0 vv, Y 1 (i64 z)]) ?_ rfl
 refine CW.sr (RL.u (.assign .c) rfl (RL.nil (CW.id (CW.sr ?_))))
 refine RL.m rfl rfl (RL.u (.add (.t rfl) .c (fun _ => by omega)) rfl (RL.a rfl rfl (RL.nil (CW.id ?_))))
 refine CW.seq (CW.sr (RL.u (.assign .c) rfl (RL.nil (CW.id ?_))))
 refine CW.block ?_
 refine CW.loop (σ := Nat × Int × Int) (fun (f, k, i) => [Y 0 vv, Y 1 (i64 z), Y 5 (i64 i), Y 6 (i64 k)]) (fun (f, k, i) wl => St w M wl M [] ∧ Sl M 6 v.length vv (v.flatMap Nd.cells) ∧ risF f v z k i = risB v z ∧ f = ((at' v z).many - k).toNat ∧ 0 ≤ k ∧ k ≤ (at' v z).many ∧ (∃ us, len us = (at' v z).many - k ∧ wfL us ∧ SegL v i us)) (fun (f, k, i) => ((at' v z).many - k).toNat) ((((at' v z).many).toNat, 0, z + 1)) [0, 1, 5, 6] rfl ?_ ?_
 ·refine ⟨hS, hv, ?_⟩; exact ⟨rfl, by omega, by omega, by omega, hkids⟩
 ·rintro ⟨f, k, i⟩ wl ⟨hS1, hv, hF, hf, hk0, hk1, us, hul, huw, hus⟩
  refine CW.seq (CW.sr (RL.m rfl rfl (RL.m rfl rfl (RL.m rfl rfl (RL.u (.idxT hv (.t rfl) (.t rfl) Tryz.underlying24 Tryz.sizeOf38 (fun _ => by omega)) rfl (RL.u (.fldA (q := ⟨sb vv, so vv + (z : Int).toNat * 6 + 1, none⟩) (.t rfl) (fun w => by kernel_rfl)) rfl (RL.u (.loadE1 (f := Nd.cells) (i := z) (j := 1) (u := (i64 ((at' v z).many))) hS1 extEq hv Nd.cells_len (.t rfl) Tryz.isAgg3 (fun _ => by omega) rfl rfl) rfl (RL.u (.lss (.t rfl) (.t rfl)) rfl (RL.nil (CW.id ?_))))))))))
  refine CW.cond rfl ?_ ?_ <;> intro hb1 <;> try simp only [zb] at hb1
  ·obtain ⟨u, us2, rfl⟩ : ∃ u us2, us = u :: us2 := by cases us with | nil => (rw [len_nil] at hul; omega) | cons u us2 => exact ⟨u, us2, rfl⟩
   have hi := hus.first.node
   have hnx := nextV_seg hus.first huw.1
   rw [len_cons] at hul
   have hto : k + 1 < (at' v z).many → 0 ≤ nextV v i ∧ nextV v i < len v := fun h => by rw [hnx]; exact seg_to hus.rest (by omega)
   have hln : len (at' v i).s ≤ 1099511627776 ∧ len (at' v i).name ≤ 1099511627776 := hl _ (at'_mem hi.1 hi.2.1)
   obtain ⟨f, rfl⟩ : ∃ g, f = g + 1 := ⟨f - 1, by omega⟩
   refine CW.skip (CW.id (CW.seq (CW.block (CW.seq ?_))))
   refine CW.sr (RL.m rfl rfl (RL.m rfl rfl (RL.u (.idxT hv (.t rfl) (.t rfl) Tryz.underlying24 Tryz.sizeOf38 (fun _ => by omega)) rfl (RL.u (.fldA (q := ⟨sb vv, so vv + (z : Int).toNat * 6, none⟩) (.t rfl) (fun w => by kernel_rfl)) rfl (RL.u (.loadE1 (f := Nd.cells) (i := z) (j := 0) (u := (i64 ((at' v z).kind))) hS1 extEq hv Nd.cells_len (.t rfl) Tryz.isAgg3 (fun _ => by omega) rfl rfl) rfl (RL.u (.eql (.t rfl) .c) rfl (RL.m rfl rfl (RL.v (.pos rfl rfl) (.move (.t rfl)) rfl (RL.v (.pos rfl rfl) (.move (.t rfl)) rfl (RL.v (.pos rfl rfl) (.idxT hv (.g rfl (fun h => h)) (.g rfl (fun h => h)) Tryz.underlying24 Tryz.sizeOf38 (fun hW => by simp only [zb] at hW; omega)) rfl (RL.v (.pos rfl rfl) (.fldA (q := ⟨sb vv, so vv + (i : Int).toNat * 6 + 2, none⟩) (.g rfl (fun h => h)) (fun w => by kernel_rfl)) rfl (RL.v (.pos rfl rfl) (.loadE1 (f := Nd.cells) (i := i) (j := 2) (u := (str ((at' v i).name))) hS1 extEq hv Nd.cells_len (.g rfl (fun h => h)) Tryz.isAgg9 (fun hW => by simp only [zb] at hW; omega) rfl rfl) rfl (RL.v (.pos rfl rfl) (.sneq (.g rfl (fun h => h)) .c) rfl (RL.u (.and (.t rfl) (.g rfl (fun h => h))) rfl (RL.m rfl rfl (RL.v (.neg rfl rfl) (.move (.t rfl)) rfl (RL.v (.neg rfl rfl) (.move (.t rfl)) rfl (RL.v (.neg rfl rfl) (.idxT hv (.g rfl (fun h => h)) (.g rfl (fun h => h)) Tryz.underlying24 Tryz.sizeOf38 (fun hW => by simp only [zb] at hW; omega)) rfl ?_))))))))))))))))))
   refine RL.v (.neg rfl rfl) (.fldA (q := ⟨sb vv, so vv + (i : Int).toNat * 6 + 2, none⟩) (.g rfl (fun h => h)) (fun w => by kernel_rfl)) rfl (RL.v (.neg rfl rfl) (.loadE1 (f := Nd.cells) (i := i) (j := 2) (u := (str ((at' v i).name))) hS1 extEq hv Nd.cells_len (.g rfl (fun h => h)) Tryz.isAgg9 (fun hW => by simp only [zb] at hW; omega) rfl rfl) rfl ?_)
   refine RL.callS (.neg rfl rfl) Tryz.call38 (.cons (.g rfl (fun h => h)) .nil) (fun hW => by simp only [zb] at hW; exact (utf_c ((at' v i).name) _ (by omega))) rfl ?_
   refine RL.v (.neg rfl rfl) (.not (.g rfl (fun h => h))) rfl (RL.u (.or (.t rfl) (.g rfl (fun h => h))) rfl ?_)
   refine RL.nil (CW.at [Y 0 vv, Y 1 (i64 z), Y 5 (i64 i), Y 6 (i64 k), Y 41 (.bool (((((at' v z).kind) == 5) && (!(((at' v i).name) == []))) || (!(utf ((at' v i).name)))))] rfl ?_)
   refine CW.cond rfl ?_ ?_ <;> intro hb2 <;> try simp only [zb] at hb2
   ·refine CW.sr (RL.u (.assign .c) rfl (RL.nil (CW.id (CW.ret (hE.r1 rfl rfl ?_)))))
    exact ⟨by rw [← hF, risF, if_pos (by simpa using hb2)], hS1.low⟩
   ·refine CW.skip (CW.id (CW.sr (RL.m rfl rfl (RL.m rfl rfl ?_))))
    refine RL.callE hS1 .none Tryz.call34 (.cons (.t rfl) (.cons (.t rfl) .nil)) (fun _ => (next_c M v vv i _ hS1.sat hv (by omega) (by omega))) rfl (fun w2 hS3 => ?_)
    refine RL.a rfl rfl ?_
    refine RL.nil (CW.at [Y 0 vv, Y 1 (i64 z), Y 5 (i64 i), Y 6 (i64 k), Y 7 (i64 (nextV v i))] rfl (CW.seq (CW.seq ?_)))
    refine CW.regionD hS3 tryz_mixed (by decide +kernel) ?_
    refine RQ.v .none (.move (.t rfl)) rfl ?_
    refine RQ.v .none (.move (.t rfl)) rfl ?_
    refine RQ.v .none (.idxT hv (.t rfl) (.t rfl) Tryz.underlying24 Tryz.sizeOf38 (fun _ => by omega)) rfl ?_
    refine RQ.v .none (.fldA (q := ⟨sb vv, so vv + (z : Int).toNat * 6, none⟩) (.t rfl) (fun w => by kernel_rfl)) rfl ?_
    refine RQ.v .none (.loadE1 (f := Nd.cells) (i := z) (j := 0) (u := (i64 ((at' v z).kind))) hS3 (fun _ h => h) hv Nd.cells_len (.t rfl) Tryz.isAgg3 (fun _ => by omega) rfl rfl) rfl ?_
    refine RQ.v .none (.eql (.t rfl) .c) rfl ?_
    refine RQ.v .none (.move (.t rfl)) rfl ?_
    refine RQ.v (.pos rfl rfl) (.move (.t rfl)) rfl ?_
    refine RQ.v (.pos rfl rfl) (.add (.g rfl (fun h => h)) .c (fun hW => by simp only [zb] at hW; omega)) rfl ?_
    refine RQ.v (.pos rfl rfl) (.move (.t rfl)) rfl ?_
    refine RQ.v (.pos rfl rfl) (.move (.t rfl)) rfl ?_
    refine RQ.v (.pos rfl rfl) (.idxT hv (.g rfl (fun h => h)) (.g rfl (fun h => h)) Tryz.underlying24 Tryz.sizeOf38 (fun hW => by simp only [zb] at hW; omega)) rfl ?_
    refine RQ.v (.pos rfl rfl) (.fldA (q := ⟨sb vv, so vv + (z : Int).toNat * 6 + 1, none⟩) (.g rfl (fun h => h)) (fun w => by kernel_rfl)) rfl ?_
    refine RQ.v (.pos rfl rfl) (.loadE1 (f := Nd.cells) (i := z) (j := 1) (u := (i64 ((at' v z).many))) hS3 (fun _ h => h) hv Nd.cells_len (.g rfl (fun h => h)) Tryz.isAgg3 (fun hW => by simp only [zb] at hW; omega) rfl rfl) rfl ?_
    refine RQ.v (.pos rfl rfl) (.lss (.g rfl (fun h => h)) (.g rfl (fun h => h))) rfl ?_
    refine RQ.v .none (.and (.t rfl) (.g rfl (fun h => h))) rfl ?_
    refine RQ.v .none (.move (.t rfl)) rfl ?_
    refine RQ.v (.pos rfl rfl) (.move (.t rfl)) rfl ?_
    refine RQ.v (.pos rfl rfl) (.move (.t rfl)) rfl ?_
    refine RQ.v (.pos rfl rfl) (.idxT hv (.g rfl (fun h => h)) (.g rfl (fun h => h)) Tryz.underlying24 Tryz.sizeOf38 (fun hW => by simp only [zb] at hW; omega)) rfl ?_
    refine RQ.v (.pos rfl rfl) (.fldA (q := ⟨sb vv, so vv + (i : Int).toNat * 6 + 2, none⟩) (.g rfl (fun h => h)) (fun w => by kernel_rfl)) rfl ?_
    refine RQ.v (.pos rfl rfl) (.loadE1 (f := Nd.cells) (i := i) (j := 2) (u := (str ((at' v i).name))) hS3 (fun _ h => h) hv Nd.cells_len (.g rfl (fun h => h)) Tryz.isAgg9 (fun hW => by simp only [zb] at hW; omega) rfl rfl) rfl ?_
    refine RQ.v (.pos rfl rfl) (.move (.t rfl)) rfl ?_
    refine RQ.v (.pos rfl rfl) (.move (.t rfl)) rfl ?_
    refine RQ.v (.pos rfl rfl) (.idxT hv (.g rfl (fun h => h)) (.g rfl (fun h => h)) Tryz.underlying24 Tryz.sizeOf38 (fun hW => by simp only [zb] at hW; omega)) rfl ?_
    refine RQ.v (.pos rfl rfl) (.fldA (q := ⟨sb vv, so vv + (nextV v i : Int).toNat * 6 + 2, none⟩) (.g rfl (fun h => h)) (fun w => by kernel_rfl)) rfl ?_
    refine RQ.v (.pos rfl rfl) (.loadE1 (f := Nd.cells) (i := nextV v i) (j := 2) (u := (str ((at' v (nextV v i)).name))) hS3 (fun _ h => h) hv Nd.cells_len (.g rfl (fun h => h)) Tryz.isAgg9 (fun hW => by simp only [zb] at hW; omega) rfl rfl) rfl ?_
    refine RQ.v (.pos rfl rfl) (.sgeq (.g rfl (fun h => h)) (.g rfl (fun h => h))) rfl ?_
    refine RQ.v .none (.and (.t rfl) (.g rfl (fun h => h))) rfl ?_
    refine RQ.nil (fun a hs w4 hS5 => CW.at [Y 0 vv, Y 1 (i64 z), Y 6 (i64 k), Y 7 (i64 (nextV v i)), Y 73 (.bool (((((at' v z).kind) == 6) && (decide ((k + 1) < ((at' v z).many)))) && (!Op.bytesLess ((at' v i).name) ((at' v (nextV v i)).name))))] rfl ?_ a hs)
    refine CW.cond rfl ?_ ?_ <;> intro hb3 <;> try simp only [zb] at hb3
    ·refine CW.sr (RL.u (.assign .c) rfl (RL.nil (CW.id (CW.ret (hE.r1 rfl rfl ?_)))))
     exact ⟨by rw [← hF, risF, if_neg (ris_n2 (by simpa using hb2)), if_pos (ris_p3 (by simpa using hb3))], hS5.low⟩
    ·refine CW.skip (CW.id ?_)
     refine CW.region (RL.m rfl rfl (RL.a rfl rfl (RL.nil (CW.id ?_))))
     refine CW.region (RL.m rfl rfl (RL.u (.add (.t rfl) .c (fun _ => by omega)) rfl (RL.a rfl rfl ?_)))
     refine RL.nil fun a hs => Exists.intro ((f, k + 1, nextV v i)) ⟨hs.keep [0, 1, 5, 6], ?_, ?_⟩
     ·refine ⟨hS5, hv, ?_⟩
      exact ⟨by rw [← hF, risF, if_neg (ris_n2 (by simpa using hb2)), if_neg (ris_n3 (by simpa using hb3))], by omega, by omega, by omega, us2, by omega, huw.2, by rw [hnx]; exact hus.rest⟩
     ·show Int.toNat _ < Int.toNat _; omega
  ·refine CW.exit (CW.at [] rfl ?_)
   refine CW.sr (RL.u (.assign .c) rfl (RL.nil (CW.id (CW.ret (hE.r1 rfl rfl ?_)))))
   exact ⟨by rw [← hF, show f = 0 by omega]; rfl, hS1.low⟩

/- loupe/louperef02.Right -/
theorem right2_c (M : Mem) (v : Vl) (vv : Value) (w : World) (hM : Sat w M) (hv : Sl M 6 v.length vv (v.flatMap Nd.cells)) (hvb : len v ≤ 1048576) (hl : ∀ n ∈ v, len n.s ≤ 1099511627776 ∧ len n.name ≤ 1099511627776) :
  Calls Tryz.prog 19 [vv].toArray w fun e w' => e = .returned (.bool (rightB v)) ∧ Ext w w' := by
 refine CW.enter1 Tryz.func19 rfl Tryz.ntmps19 (Nat.le_of_ble_eq_true rfl) fun Q hE => ?_
 have hvn := len_nonneg v
 have hS : St w M w M [] := St.start hM
 refine CW.weaken [0] (L' := [Y 0 vv]) ?_ rfl
 refine CW.sr (RL.u (.assign .c) rfl (RL.nil (CW.id (CW.seq ?_))))
 refine CW.sr (RL.m rfl rfl (RL.u (.lenT hv (.t rfl) ⟨_, Tryz.underlying24⟩) rfl (RL.u (.eql (.t rfl) .c) rfl (RL.m rfl rfl (RL.v (.neg rfl rfl) (.move (.t rfl)) rfl (RL.v (.neg rfl rfl) (.idxT hv (.g rfl (fun h => h)) .c Tryz.underlying24 Tryz.sizeOf38 (fun hW => by simp only [zb] at hW; omega)) rfl (RL.v (.neg rfl rfl) (.fldA (q := ⟨sb vv, so vv + (0 : Int).toNat * 6 + 2, none⟩) (.g rfl (fun h => h)) (fun w => by kernel_rfl)) rfl (RL.v (.neg rfl rfl) (.loadE1 (f := Nd.cells) (i := 0) (j := 2) (u := (str ((at' v 0).name))) hS extEq hv Nd.cells_len (.g rfl (fun h => h)) Tryz.isAgg9 (fun hW => by simp only [zb] at hW; omega) rfl rfl) rfl (RL.v (.neg rfl rfl) (.sneq (.g rfl (fun h => h)) .c) rfl (RL.u (.or (.t rfl) (.g rfl (fun h => h))) rfl (RL.m rfl rfl (RL.v (.neg rfl rfl) (.move (.t rfl)) rfl ?_))))))))))))
 refine RL.callE hS (.neg rfl rfl) Tryz.call34 (.cons (.g rfl (fun h => h)) (.cons .c .nil)) (fun hW => by simp only [zb] at hW; exact (next_c M v vv 0 _ hS.sat hv (by omega) (by omega))) rfl (fun w1 hS2 => ?_)
 refine RL.v (.neg rfl rfl) (.move (.t rfl)) rfl (RL.v (.neg rfl rfl) (.lenT hv (.g rfl (fun h => h)) ⟨_, Tryz.underlying24⟩) rfl (RL.v (.neg rfl rfl) (.neq (.g rfl (fun h => h)) (.g rfl (fun h => h))) rfl (RL.u (.or (.t rfl) (.g rfl (fun h => h))) rfl ?_)))
 refine RL.nil (CW.at [Y 0 vv, Y 20 (.bool ((((len v) == 0) || (!(((at' v 0).name) == []))) || ((nextV v 0) != (len v))))] rfl ?_)
 refine CW.cond rfl ?_ ?_ <;> intro hb1 <;> try simp only [zb] at hb1
 ·refine CW.sr (RL.u (.assign .c) rfl (RL.nil (CW.id (CW.ret (hE.r1 rfl rfl ?_)))))
  exact ⟨by unfold rightB; rw [if_pos (right_p hb1)], hS2.low⟩
 ·obtain ⟨t, hw, hvt⟩ := right_t hb1
  refine CW.skip (CW.id (CW.seq (CW.sr (RL.u (.assign .c) rfl (RL.nil (CW.id ?_))))))
  refine CW.block ?_
  refine CW.loop (σ := Nat × Int) (fun (f, k) => [Y 0 vv, Y 3 (i64 k)]) (fun (f, k) wl => St w M wl M [] ∧ Sl M 6 v.length vv (v.flatMap Nd.cells) ∧ allF f v k = rightB v ∧ 0 ≤ k ∧ k ≤ len v ∧ len v + 1 ≤ f + k) (fun (f, k) => (len v - k).toNat) ((v.length + 1, 0)) [0, 3] rfl ?_ ?_
  ·refine ⟨hS2, hv, ?_⟩; exact ⟨by unfold rightB; rw [if_neg (right_n hb1)], by omega, by omega, by unfold len; omega⟩
  ·rintro ⟨f, k⟩ wl ⟨hS3, hv, hF, hk0, hk1, hf⟩
   obtain ⟨f, rfl⟩ : ∃ g, f = g + 1 := ⟨f - 1, by omega⟩
   refine CW.seq (CW.sr (RL.m rfl rfl (RL.m rfl rfl (RL.u (.lenT hv (.t rfl) ⟨_, Tryz.underlying24⟩) rfl (RL.u (.lss (.t rfl) (.t rfl)) rfl (RL.nil (CW.id ?_)))))))
   refine CW.cond rfl ?_ ?_ <;> intro hb2 <;> try simp only [zb] at hb2
   ·obtain ⟨u, hu, huw⟩ : ∃ u, SegAt v k u ∧ u.wf := by rw [hvt]; exact Tr.seg_at hw hk0 (by rw [← hvt]; exact hb2)
    have hln : len (at' v k).s ≤ 1099511627776 ∧ len (at' v k).name ≤ 1099511627776 := hl _ (at'_mem hk0 hb2)
    have hln1 := hln.1
    refine CW.skip (CW.id (CW.seq (CW.block (CW.sr ?_))))
    refine RL.m rfl rfl (RL.m rfl rfl (RL.u (.idxT hv (.t rfl) (.t rfl) Tryz.underlying24 Tryz.sizeOf38 (fun _ => by omega)) rfl (RL.u (.loadEN (f := Nd.cells) (i := k) hS3 extEq hv Nd.cells_len (.t rfl) Tryz.isAgg38 Tryz.sizeOf38 (fun _ => by omega)) rfl ?_)))
    refine RL.callE hS3 .none Tryz.call35 (.cons (.t rfl) .nil) (fun _ => (plain_c (at' v k) _ (by omega))) rfl (fun w4 hS5 => ?_)
    refine RL.u (.not (.t rfl)) rfl (RL.m rfl rfl (RL.v (.neg rfl rfl) (.move (.t rfl)) rfl (RL.v (.neg rfl rfl) (.move (.t rfl)) rfl ?_)))
    refine RL.callE hS5 (.neg rfl rfl) Tryz.call36 (.cons (.g rfl (fun h => h)) (.cons (.g rfl (fun h => h)) .nil)) (fun hW => by simp only [zb] at hW; exact (rising_c M v vv k u _ hS5.sat hv (by omega) hl hu huw)) rfl (fun w6 hS7 => ?_)
    refine RL.v (.neg rfl rfl) (.not (.g rfl (fun h => h))) rfl (RL.u (.or (.t rfl) (.g rfl (fun h => h))) rfl ?_)
    refine RL.nil (CW.at [Y 0 vv, Y 3 (i64 k), Y 38 (.bool ((!(plainB (at' v k))) || (!(risB v k))))] rfl ?_)
    refine CW.cond rfl ?_ ?_ <;> intro hb3 <;> try simp only [zb] at hb3
    ·refine CW.sr (RL.u (.assign .c) rfl (RL.nil (CW.id (CW.ret (hE.r1 rfl rfl ?_)))))
     exact ⟨by rw [← hF, allF, if_neg (by omega), if_pos (all_p (by simpa using hb3))], hS7.low⟩
    ·refine CW.skip (CW.id ?_)
     refine CW.region (RL.m rfl rfl (RL.u (.add (.t rfl) .c (fun _ => by omega)) rfl (RL.a rfl rfl ?_)))
     refine RL.nil fun a hs => Exists.intro ((f, k + 1)) ⟨hs.keep [0, 3], ?_, ?_⟩
     ·refine ⟨hS7, hv, ?_⟩
      exact ⟨by rw [← hF, allF, if_neg (by omega), if_neg (all_n (by simpa using hb3))], by omega, by omega, by omega⟩
     ·show Int.toNat _ < Int.toNat _; omega
   ·refine CW.exit (CW.at [] rfl ?_)
    refine CW.sr (RL.u (.assign .c) rfl (RL.nil (CW.id (CW.ret (hE.r1 rfl rfl ?_)))))
    exact ⟨by rw [← hF, allF, if_pos (by omega)], hS3.low⟩

end Go.Proofs.YtjfaikgooldcbaaGreatDoor
namespace Go.Eng
open Go.RowKit

theorem sub_flat {α : Type} (f : α → List Value) (sz : Nat) (hf : ∀ x, (f x).length = sz) (l : List α) (a b j : Nat) (hab : a ≤ b) (hb : b ≤ l.length) (hj : j < (b - a) * sz) :
    (l.flatMap f)[a * sz + j]? = (((l.drop a).take (b - a)).flatMap f)[j]? := by
  have e : l = l.take a ++ ((l.drop a).take (b - a) ++ (l.drop a).drop (b - a)) := by rw [List.take_append_drop, List.take_append_drop]
  have e2 : l.flatMap f = (l.take a).flatMap f ++ (((l.drop a).take (b - a)).flatMap f ++ ((l.drop a).drop (b - a)).flatMap f) := by
    conv => lhs; rw [e]
    rw [List.flatMap_append, List.flatMap_append]
  have h1 : ((l.take a).flatMap f).length = a * sz := by rw [flat_len f sz hf, List.length_take, Nat.min_eq_left (by omega)]
  have h2 : (((l.drop a).take (b - a)).flatMap f).length = (b - a) * sz := by rw [flat_len f sz hf, List.length_take, List.length_drop, Nat.min_eq_left (by omega)]
  rw [e2, List.getElem?_append_right (by omega), h1, show a * sz + j - a * sz = j from by omega, List.getElem?_append_left (by omega)]
theorem sl_part {α : Type} {f : α → List Value} {M : Mem} {sz : Nat} {v : Value} {l : List α} (h : Sl M sz l.length v (l.flatMap f)) (hf : ∀ x, (f x).length = sz) {a b : Int} (h0 : 0 ≤ a) (h1 : a ≤ b) (h2 : b ≤ len l) :
    ∃ p cap, v = .slice p l.length cap ∧ l.length ≤ cap ∧ Sl M sz (Eng.sub l a b).length (sliced p a.toNat b.toNat cap sz) ((Eng.sub l a b).flatMap f) := by
  obtain ⟨p, cap, hv, hc, hm, hp⟩ := h.val
  refine ⟨p, cap, hv, hc, ?_⟩
  unfold len at h2
  have hl : (Eng.sub l a b).length = b.toNat - a.toNat := by unfold Eng.sub; rw [List.length_take, List.length_drop]; omega
  refine ⟨by rw [flat_len f sz hf], _, _, by unfold sliced; rw [hl], by rw [hl]; omega, by omega, fun hn => ?_⟩
  rw [hl] at hn
  obtain ⟨b0, o, hpe, hcell⟩ := hp (by omega)
  refine ⟨b0, o + a.toNat * sz, by rw [if_neg (by omega), hpe, Option.map_some, add_none], fun j hj => ?_⟩
  rw [flat_len f sz hf, hl] at hj
  have hlen : a.toNat * sz + j < (l.flatMap f).length := by
    rw [flat_len f sz hf]
    have := Nat.mul_le_mul_right sz (show a.toNat + (b.toNat - a.toNat) ≤ l.length by omega)
    rw [Nat.add_mul] at this; omega
  rw [Nat.add_assoc, hcell _ hlen]
  exact sub_flat f sz hf l a.toNat b.toNat j (by omega) (by omega) hj
section sl
variable {P : Program} {α : Type} {f : α → List Value} {M : Mem} {sz : Nat} {v : Value} {l : List α} {t e : TypeId}
theorem elem_of (ht : P.underlying t = some (.slice e)) : P.elem t = e := by unfold Program.elem; rw [ht]
theorem slSl_b (h : Sl M sz l.length v (l.flatMap f)) (hf : ∀ x, (f x).length = sz) (ht : P.underlying t = some (.slice e)) (hs : ∀ w, (sizeOf e).run P w = .ok sz w) (a b : Int) (hr : 0 ≤ a ∧ a ≤ b ∧ b ≤ len l) :
    ∃ v', Sl M sz (Eng.sub l a b).length v' ((Eng.sub l a b).flatMap f) ∧ ∀ (k k' : IntKind) w, (Instr.sliceAt t v (some (.int k a)) (some (.int k' b)) none).run P w = .ok v' w := by
  obtain ⟨h0, h1, h2⟩ := hr
  obtain ⟨p, cap, hv, hc, hS⟩ := sl_part h hf h0 h1 h2
  have ht' : P.underlying t = some (.slice (P.elem t)) := by rw [elem_of ht]; exact ht
  refine ⟨_, hS, fun k k' w => ?_⟩
  rw [hv, run_sliceAt_slice w t _ _ _ _ ht', run_slice_lh w t p _ cap ht' k k' a b h0 h1 (by unfold len at h2; omega), elem_of ht, hs]
  rfl
theorem slSl_h (h : Sl M sz l.length v (l.flatMap f)) (hf : ∀ x, (f x).length = sz) (ht : P.underlying t = some (.slice e)) (hs : ∀ w, (sizeOf e).run P w = .ok sz w) (a b : Int) (hr : 0 ≤ a ∧ a ≤ b ∧ b ≤ len l) (ha : a = 0 := by rfl) :
    ∃ v', Sl M sz (Eng.sub l a b).length v' ((Eng.sub l a b).flatMap f) ∧ ∀ (k' : IntKind) w, (Instr.sliceAt t v none (some (.int k' b)) none).run P w = .ok v' w := by
  subst ha
  obtain ⟨h0, h1, h2⟩ := hr
  obtain ⟨p, cap, hv, hc, hS⟩ := sl_part h hf h0 h1 h2
  have ht' : P.underlying t = some (.slice (P.elem t)) := by rw [elem_of ht]; exact ht
  refine ⟨_, hS, fun k' w => ?_⟩
  rw [hv, run_sliceAt_slice w t _ _ _ _ ht', run_slice_h w t p _ cap ht' k' b h1 (by unfold len at h2; omega), elem_of ht, hs]
  rfl
theorem slSl_l (h : Sl M sz l.length v (l.flatMap f)) (hf : ∀ x, (f x).length = sz) (ht : P.underlying t = some (.slice e)) (hs : ∀ w, (sizeOf e).run P w = .ok sz w) (a b : Int) (hr : 0 ≤ a ∧ a ≤ b ∧ b ≤ len l) (hb : b = len l := by rfl) :
    ∃ v', Sl M sz (Eng.sub l a b).length v' ((Eng.sub l a b).flatMap f) ∧ ∀ (k : IntKind) w, (Instr.sliceAt t v (some (.int k a)) none none).run P w = .ok v' w := by
  subst hb
  obtain ⟨h0, h1, h2⟩ := hr
  obtain ⟨p, cap, hv, hc, hS⟩ := sl_part h hf h0 h1 h2
  have ht' : P.underlying t = some (.slice (P.elem t)) := by rw [elem_of ht]; exact ht
  refine ⟨_, hS, fun k w => ?_⟩
  rw [hv, run_sliceAt_slice w t _ _ _ _ ht', run_slice_l w t p _ cap ht' k a h0 h1, elem_of ht, hs]
  rfl
variable {C : World → Prop} {L : Env} {W : Bool} {d : Option Tmp} {ty : TypeId} {ps : String} {af : Array Edge} {gd : Option (Nat × Bool)} {x y z : Operand} {v' : Value} {k k' : IntKind} {a b : Int}
theorem PV.slRb (hx : Opd L W x v) (hy : Opd L W y (.int k a)) (hz : Opd L W z (.int k' b)) (hr : ∀ (k k' : IntKind) w, (Instr.sliceAt t v (some (.int k a)) (some (.int k' b)) none).run P w = .ok v' w) : PV P C L W ⟨d, .slice t x (some y) (some z) none, ty, ps, af, gd⟩ v' := by
  intro ac N hs hW w _
  simp only [execOp, hx ac N hs hW, Option.map_some, Option.map_none, hy ac N hs hW, hz ac N hs hW]
  rw [Sem.run_bind, hr]; rfl
theorem PV.slRh (hx : Opd L W x v) (hz : Opd L W z (.int k' b)) (hr : ∀ (k' : IntKind) w, (Instr.sliceAt t v none (some (.int k' b)) none).run P w = .ok v' w) : PV P C L W ⟨d, .slice t x none (some z) none, ty, ps, af, gd⟩ v' := by
  intro ac N hs hW w _
  simp only [execOp, hx ac N hs hW, Option.map_some, Option.map_none, hz ac N hs hW]
  rw [Sem.run_bind, hr]; rfl
theorem PV.slRl (hx : Opd L W x v) (hy : Opd L W y (.int k a)) (hr : ∀ (k : IntKind) w, (Instr.sliceAt t v (some (.int k a)) none none).run P w = .ok v' w) : PV P C L W ⟨d, .slice t x (some y) none none, ty, ps, af, gd⟩ v' := by
  intro ac N hs hW w _
  simp only [execOp, hx ac N hs hW, Option.map_some, Option.map_none, hy ac N hs hW]
  rw [Sem.run_bind, hr]; rfl
end sl
end Go.Eng
