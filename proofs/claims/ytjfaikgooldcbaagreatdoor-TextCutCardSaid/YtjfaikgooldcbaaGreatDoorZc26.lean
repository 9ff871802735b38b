/-
  A VALUE'S TEXT IS READ AS IT: plain. No program in it.
  Lists in lists: plain. No program in it.
-/
import Derived.Test.YtjfaikgooldcbaaGreatDoorZc21
import Derived.Test.YtjfaikgooldcbaaGreatDoorZc25
import Derived.Test.YtjfaikgooldcbaaGreatDoorZc15
import Derived.Sort.Walk0
import Derived.Test.YtjfaikgooldcbaaGreatDoorZc5
import Derived.Laws.BitsLemmas
import Derived.Test.YtjfaikgooldcbaaGreatDoorZc3
import Derived.Test.YtjfaikgooldcbaaGreatDoorProg
import Derived.Test.YtjfaikgooldcbaaGreatDoorZc19
set_option linter.unusedVariables false
set_option linter.unusedSimpArgs false
namespace Go.Eng
open Go.RowKit

/-- What stands from a place on. -/
def At (s : Str) (i : Int) (u : Str) : Prop := 0 ≤ i ∧ i ≤ len s ∧ from' s i = u
theorem At.add {s : Str} {i : Int} {u r : Str} (h : At s i (u ++ r)) : At s (i + len u) r := by
  obtain ⟨h0, h1, h2⟩ := h
  have hl := from_len s i h0 h1
  rw [h2, len_app] at hl
  have h3 := len_nonneg u; have h4 := len_nonneg r
  refine ⟨by omega, by omega, ?_⟩
  rw [← from_from s i (len u) h0 h3, h2]
  unfold from' len; simp
theorem At.one {s : Str} {i : Int} {c : UInt8} {r : Str} (h : At s i (c :: r)) : At s (i + 1) r := At.add (u := [c]) h
theorem At.lt {s : Str} {i : Int} {c : UInt8} {r : Str} (h : At s i (c :: r)) : i < len s := by
  have hl := from_len s i h.1 h.2.1
  rw [h.2.2, len_cons] at hl
  have := len_nonneg r; omega
theorem At.byte {s : Str} {i : Int} {c : UInt8} {r : Str} (h : At s i (c :: r)) : byteAt s i = (c.toNat : Int) := by
  obtain ⟨b, h1, h2⟩ := from_cons s i h.1 h.lt
  rw [h.2.2] at h1
  rw [h2, (List.cons.inj h1).1]
theorem At.has1 {s : Str} {i : Int} {c x : UInt8} {r : Str} (h : At s i (c :: r)) : hasW s i [x] = (x == c) := by
  unfold hasW Lib.hasPrefix
  rw [h.2.2]
  simp [List.isPrefixOf]
theorem At.hasNo {s : Str} {i : Int} {c x : UInt8} {r t : Str} (h : At s i (c :: r)) (hx : x ≠ c) : hasW s i (x :: t) = false := by
  unfold hasW Lib.hasPrefix
  rw [h.2.2]
  simp [List.isPrefixOf, hx]
theorem At.hasYes {s : Str} {i : Int} {t r : Str} (h : At s i (t ++ r)) : hasW s i t = true := by
  unfold hasW Lib.hasPrefix
  rw [h.2.2, List.isPrefixOf_iff_prefix]
  exact List.prefix_append t r
theorem At.nil_has {s : Str} {i : Int} {x : UInt8} {t : Str} (h : At s i []) : hasW s i (x :: t) = false := by
  unfold hasW Lib.hasPrefix
  rw [h.2.2]; rfl
def stopB (r : Str) : Prop := ∀ c r', r = c :: r' → isBlankB c = false
theorem At.blank {s : Str} {i : Int} {b r : Str} (h : At s i (b ++ r)) (hb : ∀ c ∈ b, isBlankB c = true) (hr : stopB r) : blankTo s i = i + len b := by
  unfold blankTo
  rw [h.2.2]
  have : (b ++ r).takeWhile isBlankB = b := by
    induction b with
    | nil =>
      cases r with
      | nil => rfl
      | cons c r => rw [List.nil_append, List.takeWhile_cons, hr c r rfl]; rfl
    | cons a b ih =>
      rw [List.cons_append, List.takeWhile_cons, hb a List.mem_cons_self]
      show a :: _ = _
      have key : ∀ (b r : Str), (∀ c ∈ b, isBlankB c = true) → stopB r → (b ++ r).takeWhile isBlankB = b := by
        intro b
        induction b with
        | nil => intro r _ hr; cases r with | nil => rfl | cons c r => rw [List.nil_append, List.takeWhile_cons, hr c r rfl]; rfl
        | cons a b ih2 => intro r hb2 hr; rw [List.cons_append, List.takeWhile_cons, hb2 a List.mem_cons_self, if_pos rfl, ih2 r (fun c hc => hb2 c (List.mem_cons_of_mem _ hc)) hr]
      rw [key b r (fun c hc => hb c (List.mem_cons_of_mem _ hc)) hr]
  rw [this]
theorem At.noblank {s : Str} {i : Int} {r : Str} (h : At s i r) (hr : stopB r) : blankTo s i = i := by
  have := At.blank (b := []) h (fun c hc => by cases hc) hr
  rw [len_nil] at this; omega
theorem lineP_blank (ln : Bool) (d : Int) : ∀ c ∈ lineP ln d, isBlankB c = true := by
  have key : ∀ n, ∀ c ∈ twoN n, isBlankB c = true := by
    intro n
    induction n with
    | zero => intro c hc; cases hc
    | succ n ih =>
      intro c hc
      rw [twoN] at hc
      rcases List.mem_cons.1 hc with rfl | hc
      · decide
      rcases List.mem_cons.1 hc with rfl | hc
      · decide
      · exact ih c hc
  intro c hc
  unfold lineP at hc
  split at hc
  · rcases List.mem_cons.1 hc with rfl | hc
    · decide
    · exact key _ c hc
  · cases hc
/-- A byte with which a value's text may begin. -/
def headB (c : UInt8) : Bool := !isBlankB c && c != 93 && c != 125 && c != 44
def okEnd (r : Str) : Prop := ∀ c r', r = c :: r' → isNumB c = false
theorem fig_head : ∀ n : Fin 256, isFigB (n.val).toUInt8 = true → headB (n.val).toUInt8 = true ∧ isNumB (n.val).toUInt8 = true ∧ isFig (n.val : Int) = true ∧ n.val ≠ 110 ∧ n.val ≠ 102 ∧ n.val ≠ 116 ∧ n.val ≠ 34 := by decide +kernel
theorem fig_head' {c : UInt8} (h : isFigB c = true) : headB c = true ∧ isNumB c = true ∧ isFig (c.toNat : Int) = true ∧ c ≠ 110 ∧ c ≠ 102 ∧ c ≠ 116 ∧ c ≠ 34 := by
  have e : (c.toNat).toUInt8 = c := by simp
  have := fig_head ⟨c.toNat, c.toNat_lt⟩ (by simpa using h)
  dsimp only at this
  rw [e] at this
  refine ⟨this.1, this.2.1, this.2.2.1, ?_, ?_, ?_, ?_⟩
  · intro hc; subst hc; exact absurd rfl this.2.2.2.1
  · intro hc; subst hc; exact absurd rfl this.2.2.2.2.1
  · intro hc; subst hc; exact absurd rfl this.2.2.2.2.2.1
  · intro hc; subst hc; exact absurd rfl this.2.2.2.2.2.2
theorem print1_bare (n : Nd) : print1 (bareN n) = print1 n := rfl
/-- A right number's text: how it begins. -/
theorem print1_head {n : Nd} (h : right1 (bareN n) = true) : ∃ c r, print1 n = c :: r ∧ headB c = true ∧ (c = 45 ∨ isFigB c = true) := by
  obtain ⟨g, r, hr, hg⟩ := (print_form h).2.1
  rw [print1_bare] at hr
  unfold sgn at hr
  split at hr
  · exact ⟨45, g :: r, by rw [hr]; rfl, by decide, .inl rfl⟩
  · exact ⟨g, r, by rw [hr]; rfl, (fig_head' hg).1, .inr hg⟩
theorem scalar_head {n : Nd} (h : plainB n = true) (hk : n.kind < 5) : ∃ c r, scalarP n = c :: r ∧ headB c = true := by
  unfold scalarP
  split
  · exact ⟨_, _, rfl, by decide⟩
  split
  · exact ⟨_, _, rfl, by decide⟩
  split
  · exact ⟨_, _, rfl, by decide⟩
  split
  · rename_i h0 h1 h2 h3
    unfold plainB at h
    rw [if_neg (by omega), if_pos h3] at h
    obtain ⟨c, r, h4, h5, _⟩ := print1_head h
    exact ⟨c, r, h4, h5⟩
  · exact ⟨34, _, rfl, by decide⟩
theorem prt_head {ln : Bool} {d : Int} {t : Tr} (h : t.good) : ∃ c r, prt ln d t = c :: r ∧ headB c = true := by
  obtain ⟨n, ps⟩ := t
  rw [Tr.good] at h
  rw [prt]
  split
  · rename_i hk; exact scalar_head h.1 hk
  · refine ⟨_, _, rfl, ?_⟩
    unfold marksP; split <;> decide
theorem head_blank {c : UInt8} (h : headB c = true) : isBlankB c = false := by unfold headB at h; simp only [Bool.and_eq_true, Bool.not_eq_true'] at h; exact h.1.1.1
theorem head_ne {c : UInt8} (h : headB c = true) : (93 : UInt8) ≠ c ∧ (125 : UInt8) ≠ c ∧ (44 : UInt8) ≠ c := by
  unfold headB at h; simp only [Bool.and_eq_true, bne_iff_ne] at h
  exact ⟨fun e => h.1.1.2 e.symm, fun e => h.1.2 e.symm, fun e => h.2 e.symm⟩
theorem stop_head {c : UInt8} {r : Str} (h : headB c = true) : stopB (c :: r) := fun x y e => by rw [← (List.cons.inj e).1]; exact head_blank h
/-- A scalar's text is read as it. -/
theorem val_scalar {n : Nd} (h : plainB n = true) (hk : n.kind < 5) {s : Str} {i d : Int} {r : Str} (ha : At s i (scalarP n ++ r)) (hr : okEnd r) (f : Nat) : valT (f + 1) s i d = .ok [bareN n] (i + len (scalarP n)) := by
  have hp := h
  unfold plainB at h
  unfold scalarP at ha ⊢
  have w0 : ∀ {x : Str}, At s i (110 :: x) → True := fun _ => trivial
  split at ha
  · rename_i hk0
    rw [if_pos (by omega), decide_eq_true_eq] at h
    rw [if_pos hk0, h, hk0, valT, if_pos (At.hasYes ha)]; rfl
  split at ha
  · rename_i h0 hk1
    rw [if_pos (by omega), decide_eq_true_eq] at h
    rw [if_neg h0, if_pos hk1, h, hk1, valT, if_neg (by rw [At.hasNo ha (by decide)]; decide), if_pos (At.hasYes ha)]; rfl
  split at ha
  · rename_i h0 h1 hk2
    rw [if_pos (by omega), decide_eq_true_eq] at h
    rw [if_neg h0, if_neg h1, if_pos hk2, h, hk2, valT, if_neg (by rw [At.hasNo ha (by decide)]; decide), if_neg (by rw [At.hasNo ha (by decide)]; decide), if_pos (At.hasYes ha)]; rfl
  split at ha
  · rename_i h0 h1 h2 h3
    rw [if_neg (by omega), if_pos h3] at h
    rw [if_neg h0, if_neg h1, if_neg h2, if_pos h3]
    obtain ⟨c, q, hc, hh, hcf⟩ := print1_head h
    have ha2 := ha
    rw [hc, List.cons_append] at ha2
    have hcn : c ≠ 110 ∧ c ≠ 102 ∧ c ≠ 116 ∧ c ≠ 34 := by
      rcases hcf with rfl | hf
      · decide
      · exact (fig_head' hf).2.2.2
    have hno : NoW s i 3 := by
      intro m hm0 hm3
      rcases (by omega : m = 0 ∨ m = 1 ∨ m = 2) with rfl | rfl | rfl
      · exact At.hasNo ha2 (fun e => hcn.1 e.symm)
      · exact At.hasNo ha2 (fun e => hcn.2.1 e.symm)
      · exact At.hasNo ha2 (fun e => hcn.2.2.1 e.symm)
    have hby := At.byte ha2
    have h34 : ¬ byteAt s i = 34 := by
      rw [hby]; intro e
      exact hcn.2.2.2 (UInt8.toNat_inj.1 (by have : c.toNat = 34 := by omega
                                             rw [this]; rfl))
    have hnum : byteAt s i = 45 ∨ isFig (byteAt s i) = true := by
      rw [hby]
      rcases hcf with rfl | hf
      · exact .inl rfl
      · exact .inr (fig_head' hf).2.2.1
    rw [valT_go f d hno, if_neg (by have := At.lt ha2; omega), if_neg h34, if_pos hnum]
    have hpf := print_form h
    rw [print1_bare] at hpf
    have hrun : runN (from' s i) = print1 n := by
      rw [runN_take, ha.2.2]
      have key : ∀ (u r : Str), (∀ b ∈ u, isNumB b = true) → okEnd r → (u ++ r).takeWhile isNumB = u := by
        intro u
        induction u with
        | nil => intro r _ hr; cases r with | nil => rfl | cons c r => rw [List.nil_append, List.takeWhile_cons, hr c r rfl]; rfl
        | cons a u ih => intro r hu hr; rw [List.cons_append, List.takeWhile_cons, hu a List.mem_cons_self, if_pos rfl, ih r (fun b hb => hu b (List.mem_cons_of_mem _ hb)) hr]
      exact key _ _ hpf.2.2 hr
    rw [numT_ok (by rw [hrun, hpf.1]), hrun, hpf.1]
  · rename_i h0 h1 h2 h3
    have h4 : n.kind = 4 := by have := plain_kind hp; omega
    rw [if_neg (by omega), if_neg h3, if_pos h4] at h
    simp only [Bool.and_eq_true, decide_eq_true_eq] at h
    rw [if_neg h0, if_neg h1, if_neg h2, if_neg h3]
    have ha2 : At s i (34 :: (qFrom n.s 0 ++ [34] ++ r)) := ha
    have hno : NoW s i 3 := by
      intro m hm0 hm3
      rcases (by omega : m = 0 ∨ m = 1 ∨ m = 2) with rfl | rfl | rfl
      · exact At.hasNo ha2 (by decide)
      · exact At.hasNo ha2 (by decide)
      · exact At.hasNo ha2 (by decide)
    rw [valT_go f d hno, if_neg (by have := At.lt ha2; omega), if_pos (show byteAt s i = 34 from At.byte ha2)]
    have hu : unqP (from' s i) = (n.s, len (quoteP n.s), 0) := by rw [ha.2.2]; exact unq_quote h.1 r
    rw [textT_ok (by rw [hu]), hu]
    show PR.ok [_] _ = _
    rw [h.2, h4]
/-! ### lists and objects -/
def foldP (m : List (Str × Vl)) (ts : List Tr) : List (Str × Vl) := ts.foldl (fun m u => putV m u.node.name (u.named []).flat) m
/-- Behind the parts. -/
def tailT (ln : Bool) (e : Int) (c : UInt8) (r : Str) : Str := lineP ln e ++ c :: r
def ValP (n : Nat) : Prop := ∀ (t : Tr), t.size ≤ n → t.good → ∀ (ln : Bool) (e : Int) (f : Nat) (s : Str) (i d : Int) (r : Str), At s i (prt ln e t ++ r) → okEnd r → 0 ≤ d → depthT t + d ≤ 128 → 2 * t.size ≤ f + 1 → valT f s i d = .ok (t.named []).flat (i + len (prt ln e t))
def ItemsP (n : Nat) : Prop := ∀ (t : Tr) (ts : List Tr), sizeL (t :: ts) ≤ n → goodL (t :: ts) → ∀ (ln : Bool) (e : Int) (f : Nat) (s : Str) (i d : Int) (r : Str) (l : List Vl), At s i (prt ln (e + 1) t ++ (prtL ln e false false ts ++ tailT ln e 93 r)) → 0 ≤ d → depthL (t :: ts) + (d + 1) ≤ 128 → 2 * sizeL (t :: ts) ≤ f →
  itemsT f s d l i = .ok (l ++ (t :: ts).map fun u => (u.named []).flat) (i + len (prt ln (e + 1) t) + len (prtL ln e false false ts) + len (lineP ln e) + 1)
def PairsP (n : Nat) : Prop := ∀ (t : Tr) (ts : List Tr), sizeL (t :: ts) ≤ n → goodL (t :: ts) → (∀ u ∈ t :: ts, utf u.node.name = true) → ∀ (ln : Bool) (e : Int) (f : Nat) (s : Str) (i d : Int) (r : Str) (m : List (Str × Vl)), At s i (nameP ln t.node ++ (prt ln (e + 1) t ++ (prtL ln e true false ts ++ tailT ln e 125 r))) → 0 ≤ d → depthL (t :: ts) + (d + 1) ≤ 128 → 2 * sizeL (t :: ts) ≤ f →
  pairsT f s d m i = .ok (foldP m (t :: ts)) (i + len (nameP ln t.node) + len (prt ln (e + 1) t) + len (prtL ln e true false ts) + len (lineP ln e) + 1)
theorem line_end (ln : Bool) (d : Int) (c : UInt8) (r : Str) (hc : isNumB c = false) : okEnd (lineP ln d ++ c :: r) := by
  intro x y e
  unfold lineP at e
  split at e
  · rw [List.cons_append] at e; rw [← (List.cons.inj e).1]; decide
  · rw [List.nil_append] at e; rw [← (List.cons.inj e).1]; exact hc
theorem prtL_end (ln : Bool) (d : Int) (ob : Bool) (ts : List Tr) (c : UInt8) (r : Str) (hc : isNumB c = false) : okEnd (prtL ln d ob false ts ++ tailT ln d c r) := by
  cases ts with
  | nil => rw [prtL, List.nil_append]; exact line_end ln d c r hc
  | cons t ts =>
    intro x y e
    rw [prtL] at e
    simp only [Bool.false_eq_true, if_false, List.cons_append, List.nil_append] at e
    rw [← (List.cons.inj e).1]; decide
/-- What stands behind a part: the end, or a comma and the next one. -/
theorem more_end {α : Type} {ln : Bool} {e : Int} {c : UInt8} {r s : Str} {j : Int} {x : α} {go : α → Int → PR α} (h : At s j (tailT ln e c r)) (hc : isBlankB c = false) : moreT s [c] (.ok x j) go = .ok x (j + len (lineP ln e) + 1) := by
  have hb := At.blank (b := lineP ln e) h (lineP_blank ln e) (fun y z e => by rw [← (List.cons.inj e).1]; exact hc)
  have h2 := At.add (u := lineP ln e) h
  rw [moreT_end (by rw [hb, At.has1 h2]; simp), hb]
theorem more_more {α : Type} {c : UInt8} {u q s : Str} {j : Int} {x : α} {go : α → Int → PR α} (h : At s j (44 :: (u ++ q))) (hc : c ≠ 44) (hu : ∀ c ∈ u, isBlankB c = true) (hq : stopB q) : moreT s [c] (.ok x j) go = go x (j + 1 + len u) := by
  have hb := At.noblank h (fun y z e => by rw [← (List.cons.inj e).1]; decide)
  have h2 := At.one h
  have hb2 := At.blank h2 hu hq
  rw [moreT_more (by rw [hb, At.has1 h]; simp [hc]) (by rw [hb, At.has1 h]; simp), hb, hb2]
theorem items_step {n : Nat} (hv : ValP (n + 1)) (hi : ItemsP n) : ItemsP (n + 1) := by
  intro t ts hz hg ln e f s i d r l ha h0 hd hf
  have hts := t.size_pos
  rw [sizeL] at hz hf
  rw [goodL] at hg
  rw [depthL] at hd
  obtain ⟨f, rfl⟩ : ∃ g, f = g + 1 := ⟨f - 1, by omega⟩
  have hval := hv t (by omega) hg.1 ln (e + 1) f s i (d + 1) _ ha (prtL_end ln e false ts 93 r (by decide)) (by omega) (by omega) (by omega)
  have ha2 := At.add ha
  rw [itemsT, hval]
  show moreT s [93] (.ok (l ++ [(t.named []).flat]) _) _ = _
  cases ts with
  | nil =>
    rw [prtL, List.nil_append] at ha2
    rw [more_end ha2 (by decide), prtL, len_nil]
    congr 1; omega
  | cons u us =>
    have hgu : u.good := by rw [goodL] at hg; exact hg.2.1
    obtain ⟨c, q, hc, hh⟩ := prt_head (ln := ln) (d := e + 1) hgu
    rw [prtL] at ha2
    simp only [Bool.false_eq_true, if_false, List.cons_append, List.nil_append, List.append_assoc] at ha2
    have hq : stopB (prt ln (e + 1) u ++ (prtL ln e false false us ++ tailT ln e 93 r)) := by rw [hc]; exact stop_head hh
    rw [more_more ha2 (by decide) (lineP_blank ln (e + 1)) hq]
    have ha3 := At.add (At.one ha2)
    rw [hi u us (by omega) hg.2 ln e f s _ d r _ ha3 h0 (by omega) (by omega), prtL]
    simp only [Bool.false_eq_true, if_false, List.cons_append, List.nil_append, len_cons, len_app, List.map_cons, List.append_assoc]
    congr 1; omega
theorem colon_blank (ln : Bool) : ∀ c ∈ (if ln = true then [32] else ([] : Str)), isBlankB c = true := by
  intro c hc
  split at hc
  · simp only [List.mem_singleton] at hc; subst hc; decide
  · cases hc
theorem name_stop (ln : Bool) (nd : Nd) (q : Str) : stopB (nameP ln nd ++ q) := by
  intro y z e
  have h : ∃ w, nameP ln nd ++ q = 34 :: w := ⟨_, rfl⟩
  obtain ⟨w, hw⟩ := h
  rw [hw] at e
  rw [← (List.cons.inj e).1]; decide
theorem name_at {ln : Bool} {nd : Nd} {q s : Str} {i : Int} (h : At s i (nameP ln nd ++ q)) (hu : utf nd.name = true) (hq : stopB q) {val : Int → PR Vl} {m : List (Str × Vl)} : pairT s i val m = mapR (putV m nd.name) (val (i + len (nameP ln nd))) := by
  unfold nameP at h ⊢
  rw [List.append_assoc] at h
  have ht : textT s i = .ok nd.name (i + len (quoteP nd.name)) := by
    have hun : unqP (from' s i) = (nd.name, len (quoteP nd.name), 0) := by rw [h.2.2]; exact unq_quote hu _
    rw [textT_ok (by rw [hun]), hun]
  have h2 := At.add h
  rw [List.cons_append] at h2
  have hb := At.noblank h2 (fun y z e => by rw [← (List.cons.inj e).1]; decide)
  have h3 := At.one h2
  have hb3 : blankTo s (i + len (quoteP nd.name) + 1) = i + len (quoteP nd.name) + 1 + len (if ln = true then [32] else ([] : Str)) := At.blank h3 (colon_blank ln) hq
  rw [pairT_val ht (by rw [hb, At.has1 h2]; rfl), hb, hb3, len_app, len_cons]
  congr 2; omega
theorem pairs_step {n : Nat} (hv : ValP (n + 1)) (hi : PairsP n) : PairsP (n + 1) := by
  intro t ts hz hg hu ln e f s i d r m ha h0 hd hf
  have hts := t.size_pos
  rw [sizeL] at hz hf
  rw [goodL] at hg
  rw [depthL] at hd
  obtain ⟨f, rfl⟩ : ∃ g, f = g + 1 := ⟨f - 1, by omega⟩
  obtain ⟨c0, q0, hc0, hh0⟩ := prt_head (ln := ln) (d := e + 1) hg.1
  have ha1 := At.add ha
  have hval := hv t (by omega) hg.1 ln (e + 1) f s _ (d + 1) _ ha1 (prtL_end ln e true ts 125 r (by decide)) (by omega) (by omega) (by omega)
  have ha2 := At.add ha1
  rw [pairsT, name_at ha (hu t List.mem_cons_self) (by rw [hc0]; exact stop_head hh0), hval]
  show moreT s [125] (.ok (putV m t.node.name (t.named []).flat) _) _ = _
  cases ts with
  | nil =>
    rw [prtL, List.nil_append] at ha2
    rw [more_end ha2 (by decide), prtL, len_nil]
    show PR.ok (putV m t.node.name (t.named []).flat) _ = PR.ok (putV m t.node.name (t.named []).flat) _
    congr 1; omega
  | cons u us =>
    rw [prtL] at ha2
    simp only [Bool.false_eq_true, if_false, if_true, List.cons_append, List.nil_append, List.append_assoc] at ha2
    have hq := name_stop ln u.node (prt ln (e + 1) u ++ (prtL ln e true false us ++ tailT ln e 125 r))
    rw [more_more ha2 (by decide) (lineP_blank ln (e + 1)) hq]
    have ha3 := At.add (At.one ha2)
    rw [hi u us (by omega) hg.2 (fun w hw => hu w (List.mem_cons_of_mem _ hw)) ln e f s _ d r _ ha3 h0 (by omega) (by omega), prtL]
    simp only [Bool.false_eq_true, if_false, if_true, List.cons_append, List.nil_append, len_cons, len_app]
    show PR.ok (foldP (putV m t.node.name (t.named []).flat) (u :: us)) _ = PR.ok (foldP (putV m t.node.name (t.named []).flat) (u :: us)) _
    congr 1; omega
/-! ### an object's pairs -/
theorem foldP_app (ts : List Tr) : ∀ m : List (Str × Vl), (∀ u ∈ ts, u.node.name ∉ m.map (·.1)) → (ts.map (·.node.name)).Nodup → foldP m ts = m ++ ts.map fun u => (u.node.name, (u.named []).flat) := by
  induction ts with
  | nil => intro m _ _; simp [foldP]
  | cons t ts ih =>
    intro m hm hn
    rw [List.map_cons, List.nodup_cons] at hn
    show foldP (putV m t.node.name (t.named []).flat) ts = _
    rw [putV_new (hm t List.mem_cons_self), ih]
    · simp
    · intro u hu
      rw [List.map_append]
      intro hx
      rcases List.mem_append.1 hx with hx | hx
      · exact hm u (List.mem_cons_of_mem _ hu) hx
      · simp only [List.map_cons, List.map_nil, List.mem_singleton] at hx
        exact hn.1 (List.mem_map.2 ⟨u, hu, hx⟩)
    · exact hn.2
theorem rise_lt : ∀ {ts : List Tr} {t : Tr}, risL 6 (t :: ts) → ∀ u ∈ ts, t.node.name < u.node.name
  | [], _, _, u, hu => by cases hu
  | w :: ws, t, h, u, hu => by
    rw [risL] at h
    have h1 := h.2.1 w ws rfl rfl
    rw [Go.Proofs.bytesLess_eq, decide_eq_true_eq] at h1
    rcases List.mem_cons.1 hu with rfl | hu
    · exact h1
    · exact List.lt_trans h1 (rise_lt h.2.2 u hu)
theorem rise_pair : ∀ {ts : List Tr}, risL 6 ts → (ts.map (·.node.name)).Pairwise (· < ·)
  | [], _ => List.Pairwise.nil
  | t :: ts, h => by
    rw [List.map_cons, List.pairwise_cons]
    refine ⟨fun x hx => ?_, rise_pair (by rw [risL] at h; exact h.2.2)⟩
    obtain ⟨u, hu, rfl⟩ := List.mem_map.1 hx
    exact rise_lt h u hu
theorem sortN_rise {l : List Str} (h : l.Pairwise (· < ·)) : sortN l = l := by
  unfold sortN
  refine List.Perm.eq_of_pairwise (le := fun x y => decide (x ≤ y) = true) (fun x y _ _ h1 h2 => ?_) (List.pairwise_mergeSort str_trans str_total _) (h.imp fun h1 => ?_) (List.mergeSort_perm _ _)
  · simp only [decide_eq_true_eq] at h1 h2; exact List.le_antisymm h1 h2
  · simp only [decide_eq_true_eq]; exact List.le_of_lt h1
theorem name_back (u : Tr) : nameV u.node.name (u.named []).flat = u.flat := by obtain ⟨n, ps⟩ := u; rfl
theorem obj_rise {ts : List Tr} (h : risL 6 ts) : objV (foldP [] ts) = ⟨6, len ts, [], [], false, 0⟩ :: flatL ts := by
  have hp := rise_pair h
  have hn : (ts.map (·.node.name)).Nodup := hp.imp fun h1 e => by subst e; exact List.lt_irrefl _ h1
  rw [foldP_app ts [] (fun u _ h => by cases h) hn, List.nil_append]
  have hk : (ts.map fun u => (u.node.name, (u.named []).flat)).map (·.1) = ts.map (·.node.name) := by rw [List.map_map]; rfl
  have hK : KeysOK (ts.map fun u => (u.node.name, (u.named []).flat)) := by unfold KeysOK; rw [hk]; exact hn
  unfold objV laidV
  rw [hk, sortN_rise hp]
  have e : ((ts.map (·.node.name)).map fun n => (n, (getV (ts.map fun u => (u.node.name, (u.named []).flat)) n).getD [])) = ts.map fun u => (u.node.name, (u.named []).flat) := by
    rw [List.map_map]
    refine List.map_congr_left fun u hu => ?_
    have := getV_of_mem hK (p := (u.node.name, (u.named []).flat)) (List.mem_map.2 ⟨u, hu, rfl⟩)
    show (u.node.name, (getV _ u.node.name).getD []) = _
    rw [this]; rfl
  rw [e]
  have e2 : ((ts.map fun u => (u.node.name, (u.named []).flat)).map fun p => nameV p.1 p.2).flatten = flatL ts := by
    rw [List.map_map]
    clear e hK hk hn hp h
    induction ts with
    | nil => rfl
    | cons t ts ih =>
      rw [List.map_cons, List.flatten_cons, ih, flatL]
      show nameV t.node.name (t.named []).flat ++ _ = _
      rw [name_back]
  rw [e2]; unfold len; rw [List.length_map]
theorem list_flat {ts : List Tr} (h : ∀ u ∈ ts, u.node.name = []) : (ts.map fun u => (u.named []).flat).flatten = flatL ts := by
  induction ts with
  | nil => rfl
  | cons t ts ih =>
    rw [List.map_cons, List.flatten_cons, ih (fun u hu => h u (List.mem_cons_of_mem _ hu)), flatL]
    have := h t List.mem_cons_self
    obtain ⟨n, ps⟩ := t
    have hn : n.name = [] := this
    congr 1
    show (Tr.mk { n with name := [] } ps).flat = _
    rw [← hn]
theorem marks5 : marksP 5 = (91, 93) := rfl
theorem marks6 : marksP 6 = (123, 125) := rfl
theorem many_node {n : Nd} (h : bareN n = ⟨n.kind, n.many, [], [], false, 0⟩) : { n with name := [] } = (⟨n.kind, n.many, [], [], false, 0⟩ : Nd) := h
theorem val_step {n : Nat} (hi : ItemsP n) (hp : PairsP n) : ValP (n + 1) := by
  intro t hz hg ln e f s i d r ha hr h0 hd hf
  obtain ⟨nd, ps⟩ := t
  rw [Tr.good] at hg
  rw [Tr.size] at hz hf
  rw [prt] at ha ⊢
  obtain ⟨f, rfl⟩ : ∃ g, f = g + 1 := ⟨f - 1, by omega⟩
  by_cases hk : nd.kind < 5
  · rw [if_pos hk] at ha ⊢
    have h3 := plain_scalar hg.1 hk
    have hps : ps = [] := len_zero.1 (by have := len_nonneg ps; omega)
    subst hps
    rw [val_scalar hg.1 hk ha hr f]
    rfl
  · rw [if_neg hk] at ha ⊢
    obtain ⟨hk56, he, hb⟩ := plain_many hg.1 hk
    rw [depthT, if_neg (by omega)] at hd
    have hflat : ((Tr.mk nd ps).named []).flat = { nd with name := [] } :: flatL ps := rfl
    rw [hflat, many_node hb, hg.2.1]
    have hdp := depthL_nonneg ps
    rcases hk56 with h5 | h6
    · rw [h5] at ha ⊢
      rw [marks5] at ha ⊢
      simp only [List.cons_append, List.append_assoc] at ha
      have hno : NoW s i 3 := by
        intro m hm0 hm3
        rcases (by omega : m = 0 ∨ m = 1 ∨ m = 2) with rfl | rfl | rfl
        · exact At.hasNo ha (by decide)
        · exact At.hasNo ha (by decide)
        · exact At.hasNo ha (by decide)
      have hby : byteAt s i = 91 := At.byte ha
      rw [valT_go f d hno, if_neg (by have := At.lt ha; omega), if_neg (by omega), if_neg (by rw [hby]; decide), if_neg (by omega), if_neg (by omega), if_pos hby]
      have ha1 := At.one ha
      cases ps with
      | nil =>
        rw [prtL] at ha1
        simp only [List.isEmpty_nil, if_true, List.nil_append] at ha1
        have hbl := At.noblank ha1 (fun y z e => by rw [← (List.cons.inj e).1]; decide)
        rw [partsT_end (by rw [hbl, At.has1 ha1]; rfl), hbl, prtL]
        show PR.ok (listV []) _ = _
        simp only [List.isEmpty_nil, if_true, List.append_nil, len_cons, len_app, len_nil]
        show PR.ok (⟨5, len ([] : List Vl), [], [], false, 0⟩ :: ([] : List Vl).flatten) _ = _
        rw [flatL]; congr 1
        omega
      | cons t ts =>
        have hgt : t.good := by have := hg.2.2.2; rw [goodL] at this; exact this.1
        obtain ⟨c, q, hc, hh⟩ := prt_head (ln := ln) (d := e + 1) hgt
        have hrn : ∀ u ∈ t :: ts, u.node.name = [] := fun u hu => (risL_mem hg.2.2.1 hu).1 h5
        rw [prtL] at ha1 ⊢
        simp only [if_true, List.nil_append, List.isEmpty_cons, Bool.false_eq_true, if_false, List.append_assoc, show ((5 : Int) == 6) = false from rfl] at ha1
        have hst : stopB (prt ln (e + 1) t ++ (prtL ln e false false ts ++ (lineP ln e ++ 93 :: r))) := by rw [hc]; exact stop_head hh
        have hbl := At.blank ha1 (lineP_blank ln (e + 1)) hst
        have ha2 := At.add ha1
        have ha3 := ha2
        rw [hc, List.cons_append] at ha3
        rw [partsT_go (by rw [hbl, At.has1 ha3]; exact beq_eq_false_iff_ne.2 (head_ne hh).1), hbl, hi t ts (by omega) hg.2.2.2 ln e f s _ d r [] ha2 h0 (by omega) (by omega)]
        show PR.ok (listV _) _ = _
        unfold listV
        rw [List.nil_append, list_flat hrn]
        simp only [if_true, List.nil_append, List.isEmpty_cons, Bool.false_eq_true, if_false, show ((5 : Int) == 6) = false from rfl, len_cons, len_app, len_nil, List.map_cons, List.length_map, List.cons_append]
        congr 1
        · congr 1; unfold len; simp
        · omega
    · rw [h6] at ha ⊢
      rw [marks6] at ha ⊢
      simp only [List.cons_append, List.append_assoc] at ha
      have hno : NoW s i 3 := by
        intro m hm0 hm3
        rcases (by omega : m = 0 ∨ m = 1 ∨ m = 2) with rfl | rfl | rfl
        · exact At.hasNo ha (by decide)
        · exact At.hasNo ha (by decide)
        · exact At.hasNo ha (by decide)
      have hby : byteAt s i = 123 := At.byte ha
      rw [valT_go f d hno, if_neg (by have := At.lt ha; omega), if_neg (by omega), if_neg (by rw [hby]; decide), if_neg (by omega), if_neg (by omega), if_neg (by omega)]
      have ha1 := At.one ha
      cases ps with
      | nil =>
        rw [prtL] at ha1
        simp only [List.isEmpty_nil, if_true, List.nil_append] at ha1
        have hbl := At.noblank ha1 (fun y z e => by rw [← (List.cons.inj e).1]; decide)
        rw [partsT_end (by rw [hbl, At.has1 ha1]; rfl), hbl, prtL]
        show PR.ok (objV []) _ = _
        rw [show objV [] = objV (foldP [] []) from rfl, obj_rise (by trivial)]
        simp only [List.isEmpty_nil, if_true, List.append_nil, len_cons, len_app, len_nil]
        congr 1
        omega
      | cons t ts =>
        have hgt : t.good := by have := hg.2.2.2; rw [goodL] at this; exact this.1
        have hru : ∀ u ∈ t :: ts, utf u.node.name = true := fun u hu => (risL_mem hg.2.2.1 hu).2
        rw [prtL] at ha1 ⊢
        simp only [if_true, List.nil_append, List.isEmpty_cons, Bool.false_eq_true, if_false, List.append_assoc, show ((6 : Int) == 6) = true from rfl] at ha1
        have hst := name_stop ln t.node (prt ln (e + 1) t ++ (prtL ln e true false ts ++ (lineP ln e ++ 125 :: r)))
        have hbl := At.blank ha1 (lineP_blank ln (e + 1)) hst
        have ha2 := At.add ha1
        have ha3 : ∃ q, At s (i + 1 + len (lineP ln (e + 1))) (34 :: q) := ⟨_, ha2⟩
        obtain ⟨q, ha3⟩ := ha3
        rw [partsT_go (by rw [hbl, At.has1 ha3]; rfl), hbl, hp t ts (by omega) hg.2.2.2 hru ln e f s _ d r [] ha2 h0 (by omega) (by omega)]
        show PR.ok (objV _) _ = _
        rw [obj_rise (by rw [← h6]; exact hg.2.2.1)]
        simp only [if_true, List.nil_append, List.isEmpty_cons, Bool.false_eq_true, if_false, show ((6 : Int) == 6) = true from rfl, len_cons, len_app, len_nil, List.cons_append]
        congr 1
        omega
theorem all_prt : ∀ n : Nat, ValP n ∧ ItemsP n ∧ PairsP n := by
  intro n
  induction n with
  | zero =>
    refine ⟨fun t hz => ?_, fun t ts hz => ?_, fun t ts hz => ?_⟩
    · have := t.size_pos; omega
    · rw [sizeL] at hz; have := t.size_pos; omega
    · rw [sizeL] at hz; have := t.size_pos; omega
  | succ n ih =>
    have hv := val_step ih.2.1 ih.2.2
    exact ⟨hv, items_step hv ih.2.1, pairs_step hv ih.2.2⟩
/-- A good value's text, wherever it stands, is read as it. -/
theorem val_prt {t : Tr} (hg : t.good) {ln : Bool} {e : Int} {f : Nat} {s : Str} {i d : Int} {r : Str} (ha : At s i (prt ln e t ++ r)) (hr : okEnd r) (h0 : 0 ≤ d) (hd : depthT t + d ≤ 128) (hf : 2 * t.size ≤ f + 1) : valT f s i d = .ok (t.named []).flat (i + len (prt ln e t)) :=
  (all_prt t.size).1 t (Nat.le_refl _) hg ln e f s i d r ha hr h0 hd hf
end Go.Eng
namespace Go.Eng
open Go.RowKit

/-- A text of a good value, blanks around it, is read as it. -/
theorem parse_prt {t : Tr} (hg : t.good) {ln : Bool} {b1 b2 : Str} (h1 : ∀ c ∈ b1, isBlankB c = true) (h2 : ∀ c ∈ b2, isBlankB c = true) (hd : depthT t ≤ 128) (hz : t.size ≤ len (prt ln 0 t)) : parseT (b1 ++ (prt ln 0 t ++ b2)) = ((t.named []).flat, 0, 0) := by
  have ha : At (b1 ++ (prt ln 0 t ++ b2)) 0 (b1 ++ (prt ln 0 t ++ b2)) := ⟨Int.le_refl _, len_nonneg _, rfl⟩
  obtain ⟨c, q, hc, hh⟩ := prt_head (ln := ln) (d := 0) hg
  have hb := At.blank ha h1 (by rw [hc]; exact stop_head hh)
  have ha2 := At.add ha
  have hnum : okEnd b2 := by
    intro x y e
    have hx := h2 x (by rw [e]; exact List.mem_cons_self)
    have key : ∀ n : Fin 256, isBlankB (n.val).toUInt8 = true → isNumB (n.val).toUInt8 = false := by decide +kernel
    have := key ⟨x.toNat, x.toNat_lt⟩
    simpa using this (by simpa using hx)
  have hl : (2 * (b1 ++ (prt ln 0 t ++ b2)).length + 2 : Int) = 2 * (len b1 + (len (prt ln 0 t) + len b2)) + 2 := by unfold len; simp only [List.length_append]; omega
  have hb1 := len_nonneg b1; have hb2 := len_nonneg b2
  have hv := val_prt hg (f := 2 * (b1 ++ (prt ln 0 t ++ b2)).length + 2) ha2 hnum (Int.le_refl 0) (by omega) (by omega)
  unfold parseT
  rw [hb, hv]
  dsimp only
  have ha3 := At.add ha2
  have ha4 : At (b1 ++ (prt ln 0 t ++ b2)) (0 + len b1 + len (prt ln 0 t)) (b2 ++ []) := by rw [List.append_nil]; exact ha3
  rw [At.blank ha4 h2 (fun x y e => by cases e), if_neg]
  simp only [len_app]; omega
theorem parse_self {t : Tr} (hg : t.good) (hn : t.node.name = []) {ln : Bool} (hd : depthT t ≤ 128) (hz : t.size ≤ len (prt ln 0 t)) : parseT (prt ln 0 t) = (t.flat, 0, 0) := by
  have := parse_prt hg (ln := ln) (b1 := []) (b2 := []) (fun c h => by cases h) (fun c h => by cases h) hd hz
  rw [List.nil_append, List.append_nil] at this
  rw [this]
  obtain ⟨n, ps⟩ := t
  have hn : n.name = [] := hn
  show ((Tr.mk { n with name := [] } ps).flat, _, _) = _
  rw [← hn]
mutual
theorem prt_flat0 : (d : Int) → (t : Tr) → prt false d t = prt false 0 t
  | d, .mk n ps => by rw [prt, prt, prtL_flat0 d, prtL_flat0 0]; rfl
theorem prtL_flat0 : (d : Int) → (ob f : Bool) → (ts : List Tr) → prtL false d ob f ts = prtL false 0 ob f ts
  | d, ob, f, [] => by rw [prtL, prtL]
  | d, ob, f, t :: ts => by rw [prtL, prtL, prt_flat0 (d + 1) t, prt_flat0 (0 + 1) t, prtL_flat0 d ob false ts]; rfl
end
def nestT : Nat → Tr → Tr
  | 0, t => t
  | n + 1, t => .mk ⟨5, 1, [], [], false, 0⟩ [nestT n t]
def nestS (k : Nat) (x : Str) : Str := List.replicate k 91 ++ (x ++ List.replicate k 93)
theorem nestS_succ (k : Nat) (x : Str) : nestS (k + 1) x = ([91] ++ nestS k x) ++ [93] := by
  unfold nestS
  rw [List.replicate_succ, List.replicate_succ']
  simp
theorem nestS_len (k : Nat) (x : Str) : len (nestS k x) = 2 * k + len x := by unfold nestS len; simp only [List.length_append, List.length_replicate]; omega
theorem nest_good {t : Tr} (h : t.good) (hn : t.node.name = []) : ∀ k, (nestT k t).good ∧ (nestT k t).node.name = []
  | 0 => ⟨h, hn⟩
  | k + 1 => by
    have ih := nest_good h hn k
    refine ⟨?_, rfl⟩
    show (Tr.mk ⟨5, 1, [], [], false, 0⟩ [nestT k t]).good
    rw [Tr.good]
    refine ⟨by decide, rfl, ?_, ?_⟩
    · rw [risL]
      exact ⟨⟨fun _ => ih.2, by rw [ih.2]; decide +kernel⟩, fun u us e => (by cases e), trivial⟩
    · rw [goodL]; exact ⟨ih.1, trivial⟩
theorem nest_prt {t : Tr} : ∀ k, prt false 0 (nestT k t) = nestS k (prt false 0 t)
  | 0 => by unfold nestS; simp [nestT]
  | k + 1 => by
    have ih := nest_prt (t := t) k
    show prt false 0 (Tr.mk ⟨5, 1, [], [], false, 0⟩ [nestT k t]) = _
    rw [prt, if_neg (by decide), prtL, prtL]
    have h1 : prt false (0 + 1) (nestT k t) = prt false 0 (nestT k t) := by
      have key : (d : Int) → (t : Tr) → prt false d t = prt false 0 t := fun d t => prt_flat0 d t
      exact key _ _
    rw [h1, ih, nestS_succ]
    simp [marksP, lineP]
theorem nest_size {t : Tr} : ∀ k, (nestT k t).size = k + t.size
  | 0 => by simp [nestT]
  | k + 1 => by show (Tr.mk _ [nestT k t]).size = _; rw [Tr.size, sizeL, sizeL, nest_size k]; omega
theorem nest_depth {t : Tr} : ∀ k, depthT (nestT k t) = k + depthT t
  | 0 => by simp [nestT]
  | k + 1 => by
    have h := depthT_le _ (nestT k t) rfl
    show depthT (Tr.mk ⟨5, 1, [], [], false, 0⟩ [nestT k t]) = _
    rw [depthT, if_neg (by decide), depthL, depthL]
    have ih := nest_depth (t := t) k
    push_cast; omega
/-- What goes wrong in a list's first part goes wrong in the list. -/
theorem nest_er {f : Nat} {s : Str} {i d : Int} {u : Str} {ec p : Int} (ha : At s i (91 :: u)) (h0 : 0 ≤ d) (hd : d < 128) (hf : 2 ≤ f) (hu : ∃ c q, u = c :: q ∧ headB c = true) (hv : valT (f - 2) s (i + 1) (d + 1) = .er ec p) : valT f s i d = .er ec p := by
  obtain ⟨f, rfl⟩ : ∃ g, f = (g + 1) + 1 := ⟨f - 2, by omega⟩
  have hno : NoW s i 3 := by
    intro m hm0 hm3
    rcases (by omega : m = 0 ∨ m = 1 ∨ m = 2) with rfl | rfl | rfl
    · exact At.hasNo ha (by decide)
    · exact At.hasNo ha (by decide)
    · exact At.hasNo ha (by decide)
  have hby : byteAt s i = 91 := At.byte ha
  rw [valT_go (f + 1) d hno, if_neg (by have := At.lt ha; omega), if_neg (by omega), if_neg (by rw [hby]; decide), if_neg (by omega), if_neg (by omega), if_pos hby]
  have ha1 := At.one ha
  obtain ⟨c, q, rfl, hh⟩ := hu
  have hbl := At.noblank ha1 (stop_head hh)
  rw [partsT_go (by rw [hbl, At.has1 ha1]; exact beq_eq_false_iff_ne.2 (head_ne hh).1), hbl, itemsT]
  have hv : valT f s (i + 1) (d + 1) = .er ec p := hv
  rw [hv]; rfl
/-- Too deep: where it is told. -/
theorem deep_er : ∀ (m : Nat) (f : Nat) (s : Str) (i d : Int) (c : UInt8) (r : Str), At s i (List.replicate m 91 ++ c :: r) → (c = 91 ∨ c = 123) → 0 ≤ d → d + m = 128 → 2 * m + 1 ≤ f → valT f s i d = .er 3 (i + m)
  | 0, f, s, i, d, c, r, ha, hc, h0, hd, hf => by
    obtain ⟨f, rfl⟩ : ∃ g, f = g + 1 := ⟨f - 1, by omega⟩
    have ha : At s i (c :: r) := ha
    have hcn : c ≠ 110 ∧ c ≠ 102 ∧ c ≠ 116 := by rcases hc with rfl | rfl <;> decide
    have hno : NoW s i 3 := by
      intro m hm0 hm3
      rcases (by omega : m = 0 ∨ m = 1 ∨ m = 2) with rfl | rfl | rfl
      · exact At.hasNo ha (fun e => hcn.1 e.symm)
      · exact At.hasNo ha (fun e => hcn.2.1 e.symm)
      · exact At.hasNo ha (fun e => hcn.2.2 e.symm)
    have hby := At.byte ha
    rcases hc with rfl | rfl
    · have hby : byteAt s i = 91 := hby
      rw [valT_go f d hno, if_neg (by have := At.lt ha; omega), if_neg (by omega), if_neg (by rw [hby]; decide), if_neg (by omega), if_pos (by omega)]
      congr 1; omega
    · have hby : byteAt s i = 123 := hby
      rw [valT_go f d hno, if_neg (by have := At.lt ha; omega), if_neg (by omega), if_neg (by rw [hby]; decide), if_neg (by omega), if_pos (by omega)]
      congr 1; omega
  | m + 1, f, s, i, d, c, r, ha, hc, h0, hd, hf => by
    rw [List.replicate_succ, List.cons_append] at ha
    have ih := deep_er m (f - 2) s (i + 1) (d + 1) c r (At.one ha) hc (by omega) (by omega) (by omega)
    rw [nest_er ha h0 (by omega) (by omega) (by cases m with
      | zero => exact ⟨c, r, rfl, by rcases hc with rfl | rfl <;> decide⟩
      | succ m => exact ⟨91, _, rfl, by decide⟩) ih]
    congr 1; push_cast; omega
theorem nest_ers {ec p : Int} : ∀ (m : Nat) {f : Nat} {s : Str} {i d : Int} {u : Str}, At s i (List.replicate m 91 ++ u) → 0 ≤ d → d + m ≤ 128 → 2 * m ≤ f → (∃ c q, u = c :: q ∧ headB c = true) → valT (f - 2 * m) s (i + m) (d + m) = .er ec p → valT f s i d = .er ec p
  | 0, f, s, i, d, u, _, _, _, _, _, hv => by simpa using hv
  | m + 1, f, s, i, d, u, ha, h0, hd, hf, hu, hv => by
    rw [List.replicate_succ, List.cons_append] at ha
    refine nest_er ha h0 (by omega) (by omega) ?_ ?_
    · cases m with
      | zero => exact hu
      | succ m => exact ⟨91, _, rfl, by decide⟩
    · refine nest_ers m (At.one ha) (by omega) (by omega) (by omega) hu ?_
      rw [show f - 2 - 2 * m = f - 2 * (m + 1) by omega, show i + 1 + (m : Int) = i + (m + 1 : Nat) by push_cast; omega, show d + 1 + (m : Int) = d + (m + 1 : Nat) by push_cast; omega]
      exact hv
abbrev sNull : Str := [110, 117, 108, 108]
abbrev sObj : Str := [123, 125]
abbrev sObjA : Str := [123, 34, 97, 34, 58, 91, 93, 125]
def inX (s : Str) : Str := if s ≠ sNull ∧ s ≠ sObj ∧ s ≠ sObjA then [49] else s
def moreX (x : Str) : Int := if x = sObjA then 2 else if x = sObj then 1 else 0
def whereX (k : Int) (x : Str) : Int := if k = 127 ∧ moreX x = 2 then k + 5 else 128
def treeX (x : Str) : Tr := if x = sNull then .mk ⟨0, 0, [], [], false, 0⟩ [] else if x = sObj then .mk ⟨6, 0, [], [], false, 0⟩ [] else if x = sObjA then .mk ⟨6, 1, [], [], false, 0⟩ [.mk ⟨5, 0, [97], [], false, 0⟩ []] else .mk ⟨3, 0, [], [49], false, 0⟩ []
theorem inX_cases (s : Str) : inX s = sNull ∨ inX s = sObj ∨ inX s = sObjA ∨ inX s = [49] := by
  unfold inX
  split
  · exact .inr (.inr (.inr rfl))
  · rename_i h
    rcases Classical.em (s = sNull) with h1 | h1
    · exact .inl h1
    rcases Classical.em (s = sObj) with h2 | h2
    · exact .inr (.inl h2)
    rcases Classical.em (s = sObjA) with h3 | h3
    · exact .inr (.inr (.inl h3))
    · exact absurd ⟨h1, h2, h3⟩ h
theorem treeX_all {x : Str} (h : x = sNull ∨ x = sObj ∨ x = sObjA ∨ x = [49]) : (treeX x).good ∧ (treeX x).node.name = [] ∧ prt false 0 (treeX x) = x ∧ depthT (treeX x) = moreX x ∧ (treeX x).size ≤ len x := by
  have g0 : ∀ n : Nd, plainB n = true → n.many = 0 → (Tr.mk n []).good := fun n h1 h2 => by rw [Tr.good]; exact ⟨h1, by rw [h2]; rfl, trivial, trivial⟩
  rcases h with rfl | rfl | rfl | rfl
  · exact ⟨g0 _ (by decide +kernel) rfl, rfl, by decide +kernel, by decide +kernel, by decide +kernel⟩
  · exact ⟨g0 _ (by decide +kernel) rfl, rfl, by decide +kernel, by decide +kernel, by decide +kernel⟩
  · refine ⟨?_, rfl, by decide +kernel, by decide +kernel, by decide +kernel⟩
    show (Tr.mk ⟨6, 1, [], [], false, 0⟩ [.mk ⟨5, 0, [97], [], false, 0⟩ []]).good
    rw [Tr.good]
    refine ⟨by decide +kernel, rfl, ?_, ?_⟩
    · rw [risL]; exact ⟨⟨fun h => absurd h (by decide), by decide +kernel⟩, fun u us e => (by cases e), trivial⟩
    · rw [goodL]; exact ⟨g0 _ (by decide +kernel) rfl, trivial⟩
  · exact ⟨g0 _ (by decide +kernel) rfl, rfl, by decide +kernel, by decide +kernel, by decide +kernel⟩
theorem deep_ok {k : Nat} {x : Str} (h : x = sNull ∨ x = sObj ∨ x = sObjA ∨ x = [49]) (hk : k + moreX x ≤ 128) : parseT (nestS k x) = ((nestT k (treeX x)).flat, 0, 0) := by
  obtain ⟨h1, h2, h3, h4, h5⟩ := treeX_all h
  have hg := nest_good h1 h2 k
  have hp : nestS k x = prt false 0 (nestT k (treeX x)) := by rw [nest_prt, h3]
  rw [hp]
  refine parse_self hg.1 hg.2 (by rw [nest_depth, h4]; omega) ?_
  rw [← hp, nestS_len, nest_size]; push_cast; omega
theorem parse_er {s : Str} {c : UInt8} {q : Str} {ec p : Int} (hs : s = c :: q) (hh : headB c = true) (hv : valT (2 * s.length + 2) s 0 0 = .er ec p) : parseT s = ([], p, ec) := by
  have ha : At s 0 (c :: q) := ⟨Int.le_refl _, len_nonneg _, hs⟩
  unfold parseT
  rw [At.noblank ha (stop_head hh), hv]
set_option maxRecDepth 100000 in
theorem deep_no {k : Nat} {x : Str} (h : x = sNull ∨ x = sObj ∨ x = sObjA ∨ x = [49]) (hk : 128 < k + moreX x) : parseT (nestS k x) = ([], whereX k x, 3) := by
  have hm : moreX x = 0 ∨ (moreX x = 1 ∧ x = sObj) ∨ (moreX x = 2 ∧ x = sObjA) := by
    rcases h with rfl | rfl | rfl | rfl
    · exact .inl (by decide +kernel)
    · exact .inr (.inl ⟨by decide +kernel, rfl⟩)
    · exact .inr (.inr ⟨by decide +kernel, rfl⟩)
    · exact .inl (by decide +kernel)
  have hne : ∃ q, nestS k x = 91 :: q := by
    obtain ⟨k', rfl⟩ : ∃ j, k = j + 1 := ⟨k - 1, by omega⟩
    exact ⟨_, by unfold nestS; rw [List.replicate_succ]; rfl⟩
  obtain ⟨q, hq⟩ := hne
  have hln : len (nestS k x) = 2 * k + len x := nestS_len k x
  have ha : At (nestS k x) 0 (nestS k x) := ⟨Int.le_refl _, len_nonneg _, rfl⟩
  have hf : 2 * k ≤ (nestS k x).length := by have := len_nonneg x; unfold len at hln this; omega
  refine parse_er hq (by decide) ?_
  by_cases h127 : k = 127 ∧ moreX x = 2
  · obtain ⟨rfl, h2⟩ := h127
    have hx : x = sObjA := by rcases hm with h3 | h3 | h3 <;> first | omega | exact h3.2
    have hw : whereX ((127 : Nat) : Int) x = 132 := by unfold whereX; rw [if_pos ⟨rfl, h2⟩]; rfl
    rw [hw]
    refine nest_ers 127 (u := x ++ List.replicate 127 93) ha (Int.le_refl 0) (by decide) (by omega) ⟨123, [34, 97, 34, 58, 91, 93, 125] ++ List.replicate 127 93, by rw [hx]; rfl, by decide⟩ ?_
    have ha2 : At (nestS 127 x) (0 + ((127 : Nat) : Int)) (x ++ List.replicate 127 93) := by
      have := At.add (u := List.replicate 127 91) ha
      rw [show len (List.replicate 127 (91 : UInt8)) = 127 by unfold len; rw [List.length_replicate]; rfl] at this
      exact this
    rw [hx] at ha2 hf ⊢
    have ha3 : At (nestS 127 sObjA) (0 + ((127 : Nat) : Int)) (123 :: (nameP false ⟨5, 0, [97], [], false, 0⟩ ++ ([91, 93, 125] ++ List.replicate 127 93))) := by
      have e : nameP false ⟨5, 0, [97], [], false, 0⟩ = [34, 97, 34, 58] := by decide +kernel
      rw [e]; exact ha2
    obtain ⟨g, hg⟩ : ∃ g, 2 * (nestS 127 sObjA).length + 2 - 2 * 127 = g + 1 + 1 + 1 := ⟨2 * (nestS 127 sObjA).length + 2 - 2 * 127 - 3, by omega⟩
    rw [hg]
    have hno : NoW (nestS 127 sObjA) (0 + ((127 : Nat) : Int)) 3 := by
      intro m hm0 hm3
      rcases (by omega : m = 0 ∨ m = 1 ∨ m = 2) with rfl | rfl | rfl
      · exact At.hasNo ha3 (by decide)
      · exact At.hasNo ha3 (by decide)
      · exact At.hasNo ha3 (by decide)
    have hby : byteAt (nestS 127 sObjA) (0 + ((127 : Nat) : Int)) = 123 := At.byte ha3
    rw [valT_go _ _ hno, if_neg (by have := At.lt ha3; omega), if_neg (by omega), if_neg (by rw [hby]; decide), if_neg (by omega), if_neg (by decide), if_neg (by omega)]
    have ha4 := At.one ha3
    have hst := name_stop false ⟨5, 0, [97], [], false, 0⟩ ([91, 93, 125] ++ List.replicate 127 93)
    have hbl := At.noblank ha4 hst
    have ha5 : ∃ q, At (nestS 127 sObjA) (0 + ((127 : Nat) : Int) + 1) (34 :: q) := ⟨_, ha4⟩
    obtain ⟨q5, ha5⟩ := ha5
    have ha6 := At.add ha4
    have hd := deep_er 0 (g + 1) _ _ 128 91 ([93, 125] ++ List.replicate 127 93) ha6 (.inl rfl) (by decide) (by decide) (by omega)
    rw [partsT_go (by rw [hbl, At.has1 ha5]; rfl), hbl, pairsT, name_at ha4 (by decide +kernel) (fun y z e => by rw [← (List.cons.inj e).1]; decide)]
    have e127 : (0 : Int) + ((127 : Nat) : Int) + 1 = 128 := rfl
    rw [show valT (g + 1) (nestS 127 sObjA) (0 + ((127 : Nat) : Int) + 1 + len (nameP false ⟨5, 0, [97], [], false, 0⟩)) (0 + ((127 : Nat) : Int) + 1) = _ from hd]
    show PR.er 3 _ = PR.er 3 132
    rw [show len (nameP false ⟨5, 0, [97], [], false, 0⟩) = 4 by decide +kernel]
    rfl
  · have hw : whereX (k : Int) x = 128 := by unfold whereX; rw [if_neg (by intro h; exact h127 ⟨by omega, h.2⟩)]
    rw [hw]
    have hk2 : 128 ≤ k := by omega
    have hrep : List.replicate k (91 : UInt8) = List.replicate 128 91 ++ List.replicate (k - 128) 91 := by rw [List.replicate_append_replicate]; congr 1; omega
    have key : ∃ c r, At (nestS k x) 0 (List.replicate 128 91 ++ c :: r) ∧ (c = 91 ∨ c = 123) := by
      by_cases h128 : k = 128
      · subst h128
        rcases hm with h3 | ⟨_, h3⟩ | ⟨_, h3⟩
        · omega
        · refine ⟨123, [125] ++ List.replicate 128 93, ?_, .inr rfl⟩
          have := ha; rw [h3] at this ⊢; exact this
        · refine ⟨123, [34, 97, 34, 58, 91, 93, 125] ++ List.replicate 128 93, ?_, .inr rfl⟩
          have := ha; rw [h3] at this ⊢; exact this
      · obtain ⟨j, hj⟩ : ∃ j, k - 128 = j + 1 := ⟨k - 129, by omega⟩
        refine ⟨91, List.replicate j 91 ++ (x ++ List.replicate k 93), ?_, .inl rfl⟩
        have e : nestS k x = List.replicate 128 91 ++ 91 :: (List.replicate j 91 ++ (x ++ List.replicate k 93)) := by
          unfold nestS; rw [hrep, hj, List.replicate_succ (n := j), List.append_assoc, List.cons_append]
        rw [← e]; exact ha
    obtain ⟨c, r, hc1, hc2⟩ := key
    have := deep_er 128 (2 * (nestS k x).length + 2) (nestS k x) 0 0 c r hc1 hc2 (Int.le_refl 0) (by decide) (by omega)
    exact this
end Go.Eng
set_option maxRecDepth 100000
namespace Go.Proofs.YtjfaikgooldcbaaGreatDoor
open Go.Eng

theorem depthE_c (M : Mem) (t : Tr) (vv : Value) (w : World) (hM : Sat w M) (hv : Sl M 6 t.flat.length vv (t.flat.flatMap Nd.cells)) (hb : len t.flat ≤ 1048576) (hw : t.wf) : Calls Tryz.prog 20 [vv].toArray w fun e w' => e = .returned (i64 (depthT t)) ∧ Ext w w' :=
  (depth_all _ t rfl vv (St.start hM) hv hb hw).mono fun e w' ⟨u, he, M', hu, hS, _⟩ => ⟨by rw [he, hu], hS.low⟩
theorem in_p {s : Str} (h : (¬ s = sNull ∧ ¬ s = sObj) ∧ ¬ s = sObjA) : s ≠ sNull ∧ s ≠ sObj ∧ s ≠ sObjA := ⟨h.1.1, h.1.2, h.2⟩
theorem in_n {s : Str} (h : (s = sNull ∨ s = sObj) ∨ s = sObjA) : ¬ (s ≠ sNull ∧ s ≠ sObj ∧ s ≠ sObjA) := by
  rintro ⟨h1, h2, h3⟩
  rcases h with (h | h) | h
  · exact h1 h
  · exact h2 h
  · exact h3 h
theorem nest_lens {x : Str} (h : x = sNull ∨ x = sObj ∨ x = sObjA ∨ x = [49]) : ∀ k, ∀ n ∈ (nestT k (treeX x)).flat, len n.s ≤ 1099511627776 ∧ len n.name ≤ 1099511627776
  | 0 => by
    show ∀ n ∈ (treeX x).flat, _
    rcases h with rfl | rfl | rfl | rfl <;> decide +kernel
  | k + 1 => by
    show ∀ n ∈ (Tr.mk ⟨5, 1, [], [], false, 0⟩ [nestT k (treeX x)]).flat, _
    rw [Tr.flat, flatL, flatL, List.append_nil]
    intro n hn
    rcases List.mem_cons.1 hn with rfl | hn
    · decide
    · exact nest_lens h k n hn
/- loupe/loupelaw04.TextDeep -/
theorem textDeep_c (n : Int) (s : Str) (w : World) (hg : Gl w) (hn : 0 ≤ n ∧ n ≤ 255) :
  Calls Tryz.prog 7 [(.int .u8 n), (str s)].toArray w fun e w' => e = .returned (.bool true) ∧ Ext w w' := by
 refine CW.enter1 Tryz.func7 rfl Tryz.ntmps7 (Nat.le_of_ble_eq_true rfl) fun Q hE => ?_
 have hS : St w nM w nM [] := St.start ⟨fun _ _ _ h => by cases h⟩
 refine CW.weaken [0, 1] (L' := [Y 0 (.int .u8 n), Y 1 (str s)]) ?_ rfl
 refine CW.sr (RL.u (.assign .c) rfl (RL.nil (CW.id (CW.sr ?_))))
 refine RL.m rfl rfl (RL.u (.remK (r := n % 200) (.t rfl) .c (fun _ => by omega) (fun _ => by exact Int.tmod_eq_emod_of_nonneg hn.1)) rfl (RL.u (.cvtK (r := n % 200) (.t rfl) Tryz.underlying5 Tryz.underlying3 (fun _ => by exact Eng.wrap_i64 (by omega))) rfl (RL.a rfl rfl (RL.nil (CW.id ?_)))))
 refine CW.mid (σ := Str) (fun x => [Y 1 (str x), Y 5 (i64 (n % 200))]) (fun x wm1 => St w nM wm1 nM [] ∧ x = inX s) ?_ ?_
 ·refine CW.sr (RL.m rfl rfl (RL.u (.sneq (.t rfl) .c) rfl (RL.m rfl rfl (RL.v (.pos rfl rfl) (.move (.t rfl)) rfl (RL.v (.pos rfl rfl) (.sneq (.g rfl (fun h => h)) .c) rfl (RL.u (.and (.t rfl) (.g rfl (fun h => h))) rfl (RL.m rfl rfl (RL.v (.pos rfl rfl) (.move (.t rfl)) rfl (RL.v (.pos rfl rfl) (.sneq (.g rfl (fun h => h)) .c) rfl (RL.u (.and (.t rfl) (.g rfl (fun h => h))) rfl (RL.nil (CW.id ?_))))))))))))
  refine CW.cond rfl ?_ ?_ <;> intro hb1 <;> try simp only [zb] at hb1
  ·refine CW.region (RL.u (.assign .c) rfl ?_)
   exact RL.nil fun a hs => ⟨[49], hs.keep [1, 5], hS, by unfold inX; rw [if_pos (in_p (by simpa using hb1))]⟩
  ·exact CW.skip fun a hs => ⟨s, hs.keep [1, 5], hS, by unfold inX; rw [if_neg (in_n (by simpa using hb1))]⟩
 ·rintro x wm1 ⟨hS2, hx⟩
  have hxc := inX_cases s
  rw [← hx] at hxc
  refine CW.sr (RL.u (.assign .c) rfl (RL.nil (CW.id ?_)))
  refine CW.mid (σ := Int) (fun q1 => [Y 1 (str x), Y 5 (i64 (n % 200)), Y 6 (i64 q1)]) (fun q1 wm3 => St w nM wm3 nM [] ∧ q1 = (if x = sObj then 1 else 0)) ?_ ?_
  ·refine CW.sr (RL.m rfl rfl (RL.u (.seql (.t rfl) .c) rfl (RL.nil (CW.id ?_))))
   refine CW.cond rfl ?_ ?_ <;> intro hb2 <;> try simp only [zb] at hb2
   ·refine CW.region (RL.u (.assign .c) rfl ?_)
    exact RL.nil fun a hs => ⟨1, hs.keep [1, 5, 6], hS2, by rw [if_pos hb2]⟩
   ·exact CW.skip fun a hs => ⟨0, hs.keep [1, 5, 6], hS2, by rw [if_neg hb2]⟩
  ·rintro q1 wm3 ⟨hS4, hq1⟩
   refine CW.mid (σ := Int) (fun q => [Y 1 (str x), Y 5 (i64 (n % 200)), Y 6 (i64 q)]) (fun q wm5 => St w nM wm5 nM [] ∧ q = moreX x) ?_ ?_
   ·refine CW.sr (RL.m rfl rfl (RL.u (.seql (.t rfl) .c) rfl (RL.nil (CW.id ?_))))
    refine CW.cond rfl ?_ ?_ <;> intro hb3 <;> try simp only [zb] at hb3
    ·refine CW.region (RL.u (.assign .c) rfl ?_)
     exact RL.nil fun a hs => ⟨2, hs.keep [1, 5, 6], hS4, by unfold moreX; rw [if_pos hb3]⟩
    ·exact CW.skip fun a hs => ⟨q1, hs.keep [1, 5, 6], hS4, by unfold moreX; rw [if_neg hb3]; exact hq1⟩
   ·rintro q wm5 ⟨hS6, hq⟩
    have hq2 : 0 ≤ q ∧ q ≤ 2 := by rw [hq]; unfold moreX; split; omega; split <;> omega
    have hx8 : len x ≤ 8 := by rcases hxc with h | h | h | h <;> rw [h] <;> decide
    refine CW.sr (RL.m rfl rfl (RL.a rfl rfl (RL.nil (CW.id (CW.seq ?_)))))
    refine CW.sr (RL.u (.assign .c) rfl (RL.nil (CW.id (CW.block ?_))))
    refine CW.loop (σ := Int × Str) (fun (j, o) => [Y 5 (i64 (n % 200)), Y 6 (i64 q), Y 7 (str o), Y 8 (i64 j)]) (fun (j, o) wl => St w nM wl nM [] ∧ 0 ≤ j ∧ j ≤ n % 200 ∧ o = nestS j.toNat x) (fun (j, o) => (n % 200 - j).toNat) ((0, x)) [5, 6, 7, 8] rfl ?_ ?_
    ·refine ⟨hS6, ?_⟩; exact ⟨by omega, by omega, by unfold nestS; simp⟩
    ·rintro ⟨j, o⟩ wl ⟨hS7, hj0, hj1, ho⟩
     have hlo : len o = 2 * j.toNat + len x := by rw [ho]; exact nestS_len _ _
     have hlx := len_nonneg x
     refine CW.seq (CW.sr (RL.m rfl rfl (RL.m rfl rfl (RL.u (.lss (.t rfl) (.t rfl)) rfl (RL.nil (CW.id ?_))))))
     refine CW.cond rfl ?_ ?_ <;> intro hb4 <;> try simp only [zb] at hb4
     ·refine CW.skip (CW.id (CW.seq (CW.block ?_)))
      refine CW.region (RL.m rfl rfl (RL.u (.sadd .c (.t rfl) (fun _ => by first | omega | (simp only [len_app, len_cons, len_nil]; omega))) rfl (RL.u (.sadd (.t rfl) .c (fun _ => by first | omega | (simp only [len_app, len_cons, len_nil]; omega))) rfl (RL.a rfl rfl (RL.nil (CW.id ?_))))))
      refine CW.region (RL.m rfl rfl (RL.u (.add (.t rfl) .c (fun _ => by omega)) rfl (RL.a rfl rfl ?_)))
      refine RL.nil fun a hs => Exists.intro ((j + 1, ([91] ++ o) ++ [93])) ⟨hs.keep [5, 6, 7, 8], ?_, ?_⟩
      ·refine ⟨hS7, ?_⟩
       exact ⟨by omega, by omega, by rw [ho, show (j + 1).toNat = j.toNat + 1 by omega, nestS_succ]⟩
      ·show Int.toNat _ < Int.toNat _; omega
     ·refine CW.exit (CW.at [Y 5 (i64 (n % 200)), Y 6 (i64 q), Y 7 (str o)] rfl ?_)
      refine CW.sr (RL.m rfl rfl ?_)
      refine RL.callP Tryz.call11 (.cons (.t rfl) .nil) (parse_lit (Rs := []) o ((parseT o)) hS7 hg (by omega) rfl) rfl ?_
      rintro v11 w12 ⟨a8, c9, M13, rfl, hsl_v11, hS14, hle15⟩
      replace hsl_v11 : Sl M13 6 ((parseT o).1).length (.slice a8 ((parseT o).1).length c9) (((parseT o).1).flatMap Nd.cells) := hsl_v11
      refine RL.m rfl rfl (RL.u (.ex (.t rfl) rfl) rfl (RL.u (.ex (.t rfl) rfl) rfl (RL.u (.ex (.t rfl) rfl) rfl (RL.a rfl rfl (RL.a rfl rfl ?_)))))
      refine RL.a rfl rfl ?_
      refine RL.nil (CW.at [Y 5 (i64 (n % 200)), Y 6 (i64 q), Y 9 (.slice a8 ((parseT o).1).length c9), Y 10 (i64 ((parseT o).2.1)), Y 11 (i64 ((parseT o).2.2))] rfl (CW.seq (CW.sr (RL.m rfl rfl (RL.m rfl rfl (RL.u (.add (.t rfl) (.t rfl) (fun _ => by omega)) rfl (RL.u (.leq (.t rfl) .c) rfl (RL.nil (CW.id ?_)))))))))
      refine CW.cond rfl ?_ ?_ <;> intro hb5 <;> try simp only [zb] at hb5
      ·have hkx : (((n % 200).toNat : Nat) : Int) = n % 200 := by omega
       have hoe : o = nestS (n % 200).toNat x := by rw [ho, show j = n % 200 by omega]
       have hd0 := deep_ok (k := (n % 200).toNat) hxc (by omega)
       rw [← hoe] at hd0
       have hd1 : (parseT o).1 = (nestT (n % 200).toNat (treeX x)).flat := by rw [hd0]
       have hta := treeX_all hxc
       have hgt := nest_good hta.1 hta.2.1 (n % 200).toNat
       have hvl : len (parseT o).1 ≤ 1048576 := by rw [hd1]; unfold len; rw [Tr.flat_len, nest_size]; have := hta.2.2.2.2; push_cast; omega
       have hln : ∀ m ∈ (parseT o).1, len m.s ≤ 1099511627776 ∧ len m.name ≤ 1099511627776 := by rw [hd1]; exact nest_lens hxc _
       refine CW.sr ?_
       refine RL.callE hS14 .none Tryz.call10 .nil (fun _ => (alive4_c _ (hg.low hS14.low))) rfl (fun w16 hS17 => ?_)
       refine RL.m rfl rfl (RL.v (.pos rfl rfl) (.move (.t rfl)) rfl (RL.v (.pos rfl rfl) (.eql (.g rfl (fun h => h)) .c) rfl (RL.u (.and (.t rfl) (.g rfl (fun h => h))) rfl (RL.m rfl rfl (RL.v (.pos rfl rfl) (.move (.t rfl)) rfl ?_)))))
       refine RL.callE hS17 (.pos rfl rfl) Tryz.call19 (.cons (.g rfl (fun h => h)) .nil) (fun hW => by simp only [zb] at hW; exact (right2_c M13 ((parseT o).1) (.slice a8 ((parseT o).1).length c9) _ hS17.sat hsl_v11 (by omega) (by assumption))) rfl (fun w18 hS19 => ?_)
       refine RL.u (.and (.t rfl) (.g rfl (fun h => h))) rfl (RL.m rfl rfl (RL.v (.pos rfl rfl) (.move (.t rfl)) rfl ?_))
       refine RL.callE hS19 (.pos rfl rfl) Tryz.call20 (.cons (.g rfl (fun h => h)) .nil) (fun hW => by simp only [zb] at hW; exact (depthE_c M13 (nestT (n % 200).toNat (treeX x)) (.slice a8 ((parseT o).1).length c9) _ hS19.sat (by rw [← hd1]; exact hsl_v11) (by rw [← hd1]; omega) (Tr.good_wf hgt.1))) rfl (fun w20 hS21 => ?_)
       refine RL.v (.pos rfl rfl) (.move (.t rfl)) rfl (RL.v (.pos rfl rfl) (.move (.t rfl)) rfl (RL.v (.pos rfl rfl) (.add (.g rfl (fun h => h)) (.g rfl (fun h => h)) (fun hW => by simp only [zb] at hW; first | omega | (simp only [len_app, len_cons, len_nil]; omega))) rfl (RL.v (.pos rfl rfl) (.eql (.g rfl (fun h => h)) (.g rfl (fun h => h))) rfl (RL.u (.and (.t rfl) (.g rfl (fun h => h))) rfl (RL.a rfl rfl ?_)))))
       refine RL.nil (CW.at [Y 4 (.bool (((true && (((parseT o).2.2) == 0)) && (rightB ((parseT o).1))) && ((depthT (nestT (n % 200).toNat (treeX x))) == ((n % 200) + q))))] rfl (CW.ret (hE.r1 rfl rfl ?_)))
       have he0 : (parseT o).2.2 = 0 := by rw [hd0]
       have hrb : rightB (parseT o).1 = true := by rw [hd1]; exact good_right hgt.1 hgt.2
       have hdp : depthT (nestT (n % 200).toNat (treeX x)) = n % 200 + q := by rw [nest_depth, hta.2.2.2.1, hkx, hq]
       exact ⟨by rw [he0, hrb, hdp]; simp, hS21.low⟩
      ·have hkx : (((n % 200).toNat : Nat) : Int) = n % 200 := by omega
       have hoe : o = nestS (n % 200).toNat x := by rw [ho, show j = n % 200 by omega]
       have hd0 := deep_no (k := (n % 200).toNat) hxc (by omega)
       rw [← hoe] at hd0
       refine CW.skip (CW.id (CW.sr (RL.u (.assign .c) rfl (RL.nil (CW.id ?_)))))
       refine CW.seq (CW.sr (RL.m rfl rfl (RL.u (.eql (.t rfl) .c) rfl (RL.m rfl rfl (RL.v (.pos rfl rfl) (.move (.t rfl)) rfl (RL.v (.pos rfl rfl) (.eql (.g rfl (fun h => h)) .c) rfl (RL.u (.and (.t rfl) (.g rfl (fun h => h))) rfl (RL.nil (CW.id ?_)))))))))
       refine CW.cond rfl ?_ ?_ <;> intro hb6 <;> try simp only [zb] at hb6
       ·refine CW.region (RL.m rfl rfl (RL.u (.add (.t rfl) .c (fun _ => by omega)) rfl (RL.a rfl rfl (RL.nil (CW.id (CW.sr ?_))))))
        refine RL.callE hS14 .none Tryz.call10 .nil (fun _ => (alive4_c _ (hg.low hS14.low))) rfl (fun w22 hS23 => ?_)
        refine RL.m rfl rfl (RL.v (.pos rfl rfl) (.move (.t rfl)) rfl (RL.v (.pos rfl rfl) (.eql (.g rfl (fun h => h)) .c) rfl (RL.u (.and (.t rfl) (.g rfl (fun h => h))) rfl (RL.m rfl rfl (RL.v (.pos rfl rfl) (.move (.t rfl)) rfl ?_)))))
        refine RL.v (.pos rfl rfl) (.move (.t rfl)) rfl (RL.v (.pos rfl rfl) (.eql (.g rfl (fun h => h)) (.g rfl (fun h => h))) rfl (RL.u (.and (.t rfl) (.g rfl (fun h => h))) rfl (RL.m rfl rfl (RL.v (.pos rfl rfl) (.move (.t rfl)) rfl (RL.v (.pos rfl rfl) (.lenT hsl_v11 (.g rfl (fun h => h)) ⟨_, Tryz.underlying24⟩) rfl ?_)))))
        refine RL.v (.pos rfl rfl) (.eql (.g rfl (fun h => h)) .c) rfl (RL.u (.and (.t rfl) (.g rfl (fun h => h))) rfl (RL.a rfl rfl ?_))
        refine RL.nil (CW.at [Y 4 (.bool (((true && (((parseT o).2.2) == 3)) && (((parseT o).2.1) == ((n % 200) + 5))) && ((len ((parseT o).1)) == 0)))] rfl (CW.ret (hE.r1 rfl rfl ?_)))
        have hw : whereX (((n % 200).toNat : Nat) : Int) x = n % 200 + 5 := by unfold whereX; rw [if_pos ⟨by omega, by rw [← hq]; exact hb6.2⟩, hkx]
        exact ⟨by rw [hd0, hw]; simp [len_nil], hS23.low⟩
       ·refine CW.skip (CW.id (CW.sr ?_))
        refine RL.callE hS14 .none Tryz.call10 .nil (fun _ => (alive4_c _ (hg.low hS14.low))) rfl (fun w24 hS25 => ?_)
        refine RL.m rfl rfl (RL.v (.pos rfl rfl) (.move (.t rfl)) rfl (RL.v (.pos rfl rfl) (.eql (.g rfl (fun h => h)) .c) rfl (RL.u (.and (.t rfl) (.g rfl (fun h => h))) rfl (RL.m rfl rfl (RL.v (.pos rfl rfl) (.move (.t rfl)) rfl ?_)))))
        refine RL.v (.pos rfl rfl) (.move (.t rfl)) rfl (RL.v (.pos rfl rfl) (.eql (.g rfl (fun h => h)) (.g rfl (fun h => h))) rfl (RL.u (.and (.t rfl) (.g rfl (fun h => h))) rfl (RL.m rfl rfl (RL.v (.pos rfl rfl) (.move (.t rfl)) rfl (RL.v (.pos rfl rfl) (.lenT hsl_v11 (.g rfl (fun h => h)) ⟨_, Tryz.underlying24⟩) rfl ?_)))))
        refine RL.v (.pos rfl rfl) (.eql (.g rfl (fun h => h)) .c) rfl (RL.u (.and (.t rfl) (.g rfl (fun h => h))) rfl (RL.a rfl rfl ?_))
        refine RL.nil (CW.at [Y 4 (.bool (((true && (((parseT o).2.2) == 3)) && (((parseT o).2.1) == 128)) && ((len ((parseT o).1)) == 0)))] rfl (CW.ret (hE.r1 rfl rfl ?_)))
        have hw : whereX (((n % 200).toNat : Nat) : Int) x = 128 := by unfold whereX; rw [if_neg (by rw [← hq]; omega)]
        exact ⟨by rw [hd0, hw]; simp [len_nil], hS25.low⟩

end Go.Proofs.YtjfaikgooldcbaaGreatDoor
