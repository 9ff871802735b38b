/-
  A TEXT THAT IS CUT OFF is none: plain. No program in it.
-/
import Derived.Test.YtjfaikgooldcbaaGreatDoorZc26
import Derived.Test.YtjfaikgooldcbaaGreatDoorZc27
import Derived.Test.YtjfaikgooldcbaaGreatDoorZc5
import Derived.Laws.BitsLemmas
import Derived.Test.YtjfaikgooldcbaaGreatDoorZc3
import Derived.Test.YtjfaikgooldcbaaGreatDoorProg
set_option linter.unusedVariables false
set_option linter.unusedSimpArgs false
namespace Go.Eng
open Go.RowKit

def ErR {α : Type} (r : PR α) : Prop := ∃ p, r = .er 1 p
/-- An error, or something up to the text's end. -/
def CutR {α : Type} (s : Str) (r : PR α) : Prop := ErR r ∨ ∃ x, r = .ok x (len s)
theorem ErR.map {α β : Type} {f : α → β} {r : PR α} (h : ErR r) : ErR (mapR f r) := by obtain ⟨p, rfl⟩ := h; exact ⟨p, rfl⟩
theorem CutR.map {α β : Type} {f : α → β} {s : Str} {r : PR α} (h : CutR s r) : CutR s (mapR f r) := by
  rcases h with h | ⟨x, rfl⟩
  · exact .inl h.map
  · exact .inr ⟨f x, rfl⟩
theorem blank_end (s : Str) : blankTo s (len s) = len s := by
  have := blankTo_bd s (len s) (len_nonneg s) (Int.le_refl _); omega
theorem has_end (s : Str) (c : UInt8) : hasW s (len s) [c] = false := by
  cases h : hasW s (len s) [c] with
  | false => rfl
  | true => have := hasW_le (len_nonneg s) (Int.le_refl _) h; rw [len_cons, len_nil] at this; omega
theorem CutR.more {α : Type} {s : Str} {c : UInt8} {r : PR α} {go : α → Int → PR α} (h : CutR s r) : ErR (moreT s [c] r go) := by
  rcases h with ⟨p, rfl⟩ | ⟨x, rfl⟩
  · exact ⟨p, rfl⟩
  · exact ⟨_, moreT_bad (by rw [blank_end]; exact has_end s c) (by rw [blank_end]; exact has_end s 44)⟩
theorem At.all {s : Str} {i : Int} (h : At s i []) : i = len s := by
  have := from_len s i h.1 h.2.1
  rw [h.2.2, len_nil] at this; omega
theorem At.end_ {s : Str} {i : Int} {u : Str} (h : At s i u) : i + len u = len s := by
  have := from_len s i h.1 h.2.1
  rw [h.2.2] at this; omega
theorem val_end {s : Str} {i d : Int} (h : At s i []) : ∀ f, ErR (valT f s i d)
  | 0 => ⟨i, by rw [valT]⟩
  | f + 1 => ⟨i, by rw [valT, if_neg (by rw [At.nil_has h]; decide), if_neg (by rw [At.nil_has h]; decide), if_neg (by rw [At.nil_has h]; decide), if_pos h.all]⟩
theorem text_end {s : Str} {i : Int} (h : At s i []) : ErR (textT s i) := by
  have hu : (unqP (from' s i)).2.2 = 1 := by rw [h.2.2]; decide +kernel
  exact ⟨_, by rw [textT_er (by omega), hu]⟩
theorem items_end {s : Str} {i d : Int} {l : List Vl} (h : At s i []) : ∀ f, ErR (itemsT f s d l i)
  | 0 => ⟨i, by rw [itemsT]⟩
  | f + 1 => by rw [itemsT]; exact CutR.more (.inl (val_end h f).map)
theorem pairs_end {s : Str} {i d : Int} {m : List (Str × Vl)} (h : At s i []) : ∀ f, ErR (pairsT f s d m i)
  | 0 => ⟨i, by rw [pairsT]⟩
  | f + 1 => by
    obtain ⟨p, hp⟩ := text_end h
    rw [pairsT]; exact CutR.more (.inl ⟨p, pairT_txt1 hp⟩)
/-! ### scalars -/
theorem unq_cut {x u r : Str} (hx : utf x = true) (h : u ++ r = quoteP x) (hr : r ≠ []) : (unqP u).2.2 = 1 := by
  have hb := unqP_bd u
  rcases hb.2.2.2 with h0 | h0
  · exfalso
    have hsp := sub_from_split (s := u) (n := (unqP u).2.1) hb.1 hb.2.1
    have h1 : unqP (Eng.sub u 0 (unqP u).2.1 ++ from' u (unqP u).2.1) = ((unqP u).1, len (Eng.sub u 0 (unqP u).2.1), 0) := by
      rw [← hsp.1, hsp.2, ← h0]
    have h2 := unq_agr (v' := from' u (unqP u).2.1 ++ r) h1
    rw [← List.append_assoc, ← hsp.1, h] at h2
    have h3 := unq_quote hx []
    rw [List.append_nil, h2] at h3
    have h4 : len (Eng.sub u 0 (unqP u).2.1) = len (quoteP x) := congrArg (fun z => z.2.1) h3
    rw [hsp.2, ← h, len_app] at h4
    have := ne_len.1 hr
    omega
  · exact h0
theorem text_cut {x u r s : Str} {i : Int} (ha : At s i u) (hx : utf x = true) (h : u ++ r = quoteP x) (hr : r ≠ []) : ErR (textT s i) := by
  have hu : (unqP (from' s i)).2.2 = 1 := by rw [ha.2.2]; exact unq_cut hx h hr
  exact ⟨_, by rw [textT_er (by omega), hu]⟩
theorem no_words {s : Str} {i : Int} {c : UInt8} {u : Str} (h : At s i (c :: u)) (hc : c ≠ 110 ∧ c ≠ 102 ∧ c ≠ 116) : NoW s i 3 := by
  intro m hm0 hm3
  rcases (by omega : m = 0 ∨ m = 1 ∨ m = 2) with rfl | rfl | rfl
  · exact At.hasNo h (fun e => hc.1 e.symm)
  · exact At.hasNo h (fun e => hc.2.1 e.symm)
  · exact At.hasNo h (fun e => hc.2.2 e.symm)
theorem word_cut {s : Str} {i : Int} {u r w : Str} (h : At s i u) (hw : u ++ r = w) (hr : r ≠ []) : hasW s i w = false := by
  cases hh : hasW s i w with
  | false => rfl
  | true =>
    unfold hasW at hh
    have := hasPrefix_le2 hh
    rw [h.2.2, ← hw, List.length_append] at this
    have := ne_len.1 hr
    unfold len at this; omega
/-- A word, cut off. -/
theorem val_word {s : Str} {i d : Int} {c : UInt8} {u r w : Str} (h : At s i (c :: u)) (hw : c :: u ++ r = w) (hr : r ≠ []) (hc : (c = 110 ∧ w = [110, 117, 108, 108]) ∨ (c = 102 ∧ w = [102, 97, 108, 115, 101]) ∨ (c = 116 ∧ w = [116, 114, 117, 101])) (f : Nat) : ErR (valT f s i d) := by
  cases f with
  | zero => exact ⟨i, by rw [valT]⟩
  | succ f =>
    have hno : NoW s i 3 := by
      have hcut := word_cut h hw hr
      intro m hm0 hm3
      rcases (by omega : m = 0 ∨ m = 1 ∨ m = 2) with rfl | rfl | rfl
      · rcases hc with ⟨_, rfl⟩ | ⟨rfl, _⟩ | ⟨rfl, _⟩
        · exact hcut
        · exact At.hasNo h (by decide)
        · exact At.hasNo h (by decide)
      · rcases hc with ⟨rfl, _⟩ | ⟨_, rfl⟩ | ⟨rfl, _⟩
        · exact At.hasNo h (by decide)
        · exact hcut
        · exact At.hasNo h (by decide)
      · rcases hc with ⟨rfl, _⟩ | ⟨rfl, _⟩ | ⟨_, rfl⟩
        · exact At.hasNo h (by decide)
        · exact At.hasNo h (by decide)
        · exact hcut
    have hby := At.byte h
    have hlt := At.lt h
    refine ⟨i, ?_⟩
    rcases hc with ⟨rfl, _⟩ | ⟨rfl, _⟩ | ⟨rfl, _⟩
    · have hby : byteAt s i = 110 := hby
      rw [valT_go f d hno, if_neg (by omega), if_neg (by omega), if_neg (by rw [hby]; decide), if_pos (by omega)]
    · have hby : byteAt s i = 102 := hby
      rw [valT_go f d hno, if_neg (by omega), if_neg (by omega), if_neg (by rw [hby]; decide), if_pos (by omega)]
    · have hby : byteAt s i = 116 := hby
      rw [valT_go f d hno, if_neg (by omega), if_neg (by omega), if_neg (by rw [hby]; decide), if_pos (by omega)]
theorem take_all {p : UInt8 → Bool} {l : Str} (h : ∀ b ∈ l, p b = true) : l.takeWhile p = l := by
  induction l with
  | nil => rfl
  | cons a l ih => rw [List.takeWhile_cons, if_pos (h a List.mem_cons_self), ih fun b hb => h b (List.mem_cons_of_mem _ hb)]
theorem scalar_cut {n : Nd} (hp : plainB n = true) (hk : n.kind < 5) {s : Str} {i d : Int} {c : UInt8} {u r : Str} (h : At s i (c :: u)) (hu : c :: u ++ r = scalarP n) (hr : r ≠ []) (f : Nat) : CutR s (valT (f + 1) s i d) ∧ (n.kind ≠ 3 → ErR (valT (f + 1) s i d)) := by
  have hk0 := plain_kind hp
  have key : ErR (valT (f + 1) s i d) → CutR s (valT (f + 1) s i d) ∧ (n.kind ≠ 3 → ErR (valT (f + 1) s i d)) := fun h => ⟨.inl h, fun _ => h⟩
  unfold scalarP at hu
  split at hu
  · exact key (val_word h hu hr (.inl ⟨(List.cons.inj hu).1, rfl⟩) _)
  split at hu
  · exact key (val_word h hu hr (.inr (.inl ⟨(List.cons.inj hu).1, rfl⟩)) _)
  split at hu
  · exact key (val_word h hu hr (.inr (.inr ⟨(List.cons.inj hu).1, rfl⟩)) _)
  split at hu
  · rename_i h0 h1 h2 h3
    refine ⟨?_, fun h4 => absurd h3 h4⟩
    have hr1 := hp
    unfold plainB at hr1
    rw [if_neg (by omega), if_pos h3] at hr1
    obtain ⟨c', q, hc, hh, hcf⟩ := print1_head hr1
    obtain ⟨rfl, hq⟩ := List.cons.inj (show c :: (u ++ r) = c' :: q from hu.trans hc)
    have hcn : c ≠ 110 ∧ c ≠ 102 ∧ c ≠ 116 ∧ c ≠ 34 := by
      rcases hcf with rfl | hf
      · decide
      · exact (fig_head' hf).2.2.2
    have hno := no_words h ⟨hcn.1, hcn.2.1, hcn.2.2.1⟩
    have hby := At.byte h
    have h34 : ¬ byteAt s i = 34 := by
      rw [hby]; intro e
      exact hcn.2.2.2 (UInt8.toNat_inj.1 (by have : c.toNat = 34 := by omega
                                             rw [this]; rfl))
    have hnum : byteAt s i = 45 ∨ isFig (byteAt s i) = true := by
      rw [hby]
      rcases hcf with rfl | hf
      · exact .inl rfl
      · exact .inr (fig_head' hf).2.2.1
    rw [valT_go f d hno, if_neg (by have := At.lt h; omega), if_neg h34, if_pos hnum]
    have hpf := (print_form hr1).2.2
    rw [print1_bare] at hpf
    have hrun : runN (from' s i) = c :: u := by
      rw [runN_take, h.2.2]
      exact take_all fun b hb => hpf b (by rw [← hu]; exact List.mem_append.2 (.inl hb))
    have hrd := num_cut hr1 (u := c :: u) (r := r) (by rw [print1_bare]; exact hu)
    have hro := (read_ok (c :: u)).2
    unfold Rd at hrd
    rcases hro with h5 | h5 | h5
    · exact .inr ⟨_, by rw [numT_ok (by rw [hrun]; exact h5), hrun, h.end_]⟩
    · exact .inl ⟨_, by rw [numT_er (by rw [hrun]; omega), hrun, h5]⟩
    · exact absurd h5 hrd
  · rename_i h0 h1 h2 h3
    have h4 : n.kind = 4 := by omega
    have hc : c = 34 := by unfold quoteP at hu; exact (List.cons.inj (show c :: (u ++ r) = 34 :: _ from hu)).1
    subst hc
    have hno := no_words h (by decide)
    obtain ⟨p, hp2⟩ := text_cut h (plain_utf hp h4) hu hr
    refine key ⟨p, ?_⟩
    rw [valT_go f d hno, if_neg (by have := At.lt h; omega), if_pos (show byteAt s i = 34 from At.byte h), hp2]; rfl
/-! ### lists and objects -/
theorem prtL_more (ob : Bool) (t : Tr) (ts : List Tr) : prtL false 0 ob false (t :: ts) = 44 :: ((if ob then nameP false t.node else []) ++ (prt false 0 t ++ prtL false 0 ob false ts)) := by
  rw [prtL, prt_flat0 (0 + 1)]; rfl
theorem prtL_first (ob : Bool) (t : Tr) (ts : List Tr) : prtL false 0 ob true (t :: ts) = (if ob then nameP false t.node else []) ++ (prt false 0 t ++ prtL false 0 ob false ts) := by
  rw [prtL, prt_flat0 (0 + 1)]; rfl
/-- What stands from a part on. -/
def restT (ob : Bool) (e : UInt8) (t : Tr) (ts : List Tr) : Str := prt false 0 t ++ (prtL false 0 ob false ts ++ [e])
theorem restT_head {ob : Bool} {e : UInt8} {t : Tr} {ts : List Tr} (hg : t.good) : ∃ c r, restT ob e t ts = c :: r ∧ headB c = true := by
  obtain ⟨c, r, h, hh⟩ := prt_head (ln := false) (d := 0) hg
  exact ⟨c, _, by unfold restT; rw [h]; rfl, hh⟩
theorem stop_pre {a b : Str} (h : stopB (a ++ b)) : stopB a := fun c r e => h c (r ++ b) (by rw [e]; rfl)
theorem end_pre {a b : Str} (h : okEnd (a ++ b)) : okEnd a := fun c r e => h c (r ++ b) (by rw [e]; rfl)
def ValC (n : Nat) : Prop := ∀ (t : Tr), t.size ≤ n → t.good → ∀ (f : Nat) (s : Str) (i d : Int) (u r : Str), At s i u → u ++ r = prt false 0 t → 0 ≤ d → depthT t + d ≤ 128 → 2 * t.size ≤ f + 1 → CutR s (valT f s i d) ∧ (r ≠ [] → t.node.kind ≠ 3 → ErR (valT f s i d))
def ItemsC (n : Nat) : Prop := ∀ (t : Tr) (ts : List Tr), sizeL (t :: ts) ≤ n → goodL (t :: ts) → ∀ (f : Nat) (s : Str) (i d : Int) (u r : Str) (l : List Vl), At s i u → u ++ r = restT false 93 t ts → r ≠ [] → 0 ≤ d → depthL (t :: ts) + (d + 1) ≤ 128 → 2 * sizeL (t :: ts) ≤ f → ErR (itemsT f s d l i)
def PairsC (n : Nat) : Prop := ∀ (t : Tr) (ts : List Tr), sizeL (t :: ts) ≤ n → goodL (t :: ts) → (∀ u ∈ t :: ts, utf u.node.name = true) → ∀ (f : Nat) (s : Str) (i d : Int) (u r : Str) (m : List (Str × Vl)), At s i u → u ++ r = nameP false t.node ++ restT true 125 t ts → r ≠ [] → 0 ≤ d → depthL (t :: ts) + (d + 1) ≤ 128 → 2 * sizeL (t :: ts) ≤ f → ErR (pairsT f s d m i)
/-- A part, and what stands behind it. -/
theorem part_cut {α : Type} {n : Nat} (hv : ValC n) {ob : Bool} {e : UInt8} (he : e ≠ 44 ∧ isNumB e = false) {t : Tr} {ts : List Tr} (hz : t.size ≤ n) (hg : goodL (t :: ts)) {f : Nat} {s : Str} {i d : Int} {u r : Str} (ha : At s i u) (hu : u ++ r = restT ob e t ts) (hr : r ≠ []) (h0 : 0 ≤ d) (hd : depthT t + d ≤ 128) (hf : 2 * t.size ≤ f + 1) {F : Vl → α} {go : α → Int → PR α}
    (hgo : ∀ t2 ts2 x j y, ts = t2 :: ts2 → At s j y → y ++ r = (if ob then nameP false t2.node else []) ++ restT ob e t2 ts2 → ErR (go x j)) : ErR (moreT s [e] (mapR F (valT f s i d)) go) := by
  rw [goodL] at hg
  unfold restT at hu
  rcases List.append_eq_append_iff.1 hu with ⟨a, h1, rfl⟩ | ⟨c, rfl, h2⟩
  · exact ((hv t hz hg.1 f s i d u a ha h1.symm h0 hd hf).1.map).more
  · have hend : okEnd (prtL false 0 ob false ts ++ [e]) := prtL_end false 0 ob ts e [] he.2
    rw [h2] at hend
    have hval := val_prt hg.1 (ln := false) (e := 0) ha (end_pre hend) h0 hd hf
    have ha2 := At.add ha
    rw [hval]
    show ErR (moreT s [e] (.ok (F _) _) go)
    cases c with
    | nil => rw [ha2.all]; exact CutR.more (.inr ⟨_, rfl⟩)
    | cons x y =>
      cases ts with
      | nil =>
        rw [prtL] at h2
        have h3 : y ++ r = [] := (List.cons.inj (show e :: [] = x :: (y ++ r) from h2)).2.symm
        exact absurd (List.append_eq_nil_iff.1 h3).2 hr
      | cons t2 ts2 =>
        rw [prtL_more] at h2
        obtain ⟨h3, h4⟩ := List.cons.inj (show (44 : UInt8) :: _ = x :: (y ++ r) from h2)
        subst h3
        have h5 : y ++ r = (if ob then nameP false t2.node else []) ++ restT ob e t2 ts2 := by rw [← h4]; unfold restT; simp
        have hg2 : t2.good := by have := hg.2; rw [goodL] at this; exact this.1
        have hst : stopB ((if ob then nameP false t2.node else []) ++ restT ob e t2 ts2) := by
          cases ob with
          | true => exact name_stop false t2.node _
          | false => obtain ⟨c, q, hc, hh⟩ := restT_head (ob := false) (e := e) (ts := ts2) hg2; rw [hc]; exact stop_head hh
        rw [← h5] at hst
        have ha3 : At s (i + len (prt false 0 t)) (44 :: ([] ++ y)) := ha2
        rw [more_more ha3 he.1 (fun c hc => by cases hc) (stop_pre hst), len_nil, Int.add_zero]
        exact hgo t2 ts2 _ _ y rfl (At.one ha2) h5
theorem itemsC_step {n : Nat} (hv : ValC (n + 1)) (hi : ItemsC n) : ItemsC (n + 1) := by
  intro t ts hz hg f s i d u r l ha hu hr h0 hd hf
  have hts := t.size_pos
  rw [sizeL] at hz hf
  rw [depthL] at hd
  obtain ⟨f, rfl⟩ : ∃ g, f = g + 1 := ⟨f - 1, by omega⟩
  rw [itemsT]
  refine part_cut hv (by decide) (by omega) hg ha hu hr (by omega) (by omega) (by omega) fun t2 ts2 x j y e h1 h2 => ?_
  subst e
  rw [goodL] at hg
  exact hi t2 ts2 (by omega) hg.2 f s j d y r x h1 h2 hr h0 (by omega) (by omega)
theorem pairsC_step {n : Nat} (hv : ValC (n + 1)) (hi : PairsC n) : PairsC (n + 1) := by
  intro t ts hz hg hutf f s i d u r m ha hu hr h0 hd hf
  have hts := t.size_pos
  rw [sizeL] at hz hf
  rw [depthL] at hd
  obtain ⟨f, rfl⟩ : ∃ g, f = g + 1 := ⟨f - 1, by omega⟩
  rw [pairsT]
  have hx := hutf t List.mem_cons_self
  have hgt : t.good := by have := hg; rw [goodL] at this; exact this.1
  rcases List.append_eq_append_iff.1 hu with ⟨a, h1, h2⟩ | ⟨c, rfl, h2⟩
  · -- within the name
    by_cases han : a = []
    · subst han
      rw [List.append_nil] at h1
      subst h1
      have ha2 : At s i (nameP false t.node ++ []) := by rw [List.append_nil]; exact ha
      rw [name_at ha2 hx (fun y z e => by cases e)]
      exact CutR.more (.inl (val_end (At.add ha2) f).map)
    · unfold nameP at h1
      rcases List.append_eq_append_iff.1 h1 with ⟨b, h3, h4⟩ | ⟨b, h3, h4⟩
      · -- u = quoteP ++ b
        cases b with
        | nil =>
          rw [List.append_nil] at h3
          have ha2 : At s i (quoteP t.node.name ++ []) := by rw [List.append_nil, ← h3]; exact ha
          have hun : unqP (from' s i) = (t.node.name, len (quoteP t.node.name), 0) := by rw [ha2.2.2]; exact unq_quote hx []
          have ht : textT s i = .ok t.node.name (i + len (quoteP t.node.name)) := by rw [textT_ok (by rw [hun]), hun]
          have he := (At.add ha2).all
          exact CutR.more (.inl ⟨_, pairT_bad ht (by rw [he, blank_end]; exact has_end s 58)⟩)
        | cons x b =>
          have h5 : b ++ a = [] := (List.cons.inj (show (58 : UInt8) :: [] = x :: (b ++ a) from h4)).2.symm
          exact absurd (List.append_eq_nil_iff.1 h5).2 han
      · by_cases hb : b = []
        · subst hb
          rw [List.append_nil] at h3
          have ha2 : At s i (quoteP t.node.name ++ []) := by rw [List.append_nil, h3]; exact ha
          have hun : unqP (from' s i) = (t.node.name, len (quoteP t.node.name), 0) := by rw [ha2.2.2]; exact unq_quote hx []
          have ht : textT s i = .ok t.node.name (i + len (quoteP t.node.name)) := by rw [textT_ok (by rw [hun]), hun]
          have he := (At.add ha2).all
          exact CutR.more (.inl ⟨_, pairT_bad ht (by rw [he, blank_end]; exact has_end s 58)⟩)
        · obtain ⟨p, hp⟩ := text_cut ha hx h3.symm hb
          exact CutR.more (.inl ⟨p, pairT_txt1 hp⟩)
  · have hst : stopB c := by
      obtain ⟨c1, q, hc, hh⟩ := restT_head (ob := true) (e := 125) (ts := ts) hgt
      have : stopB (restT true 125 t ts) := by rw [hc]; exact stop_head hh
      rw [h2] at this
      exact stop_pre this
    rw [name_at ha hx hst]
    refine part_cut hv (by decide) (by omega) hg (At.add ha) h2.symm hr (by omega) (by omega) (by omega) fun t2 ts2 x j y e h3 h4 => ?_
    subst e
    rw [goodL] at hg
    exact hi t2 ts2 (by omega) hg.2 (fun w hw => hutf w (List.mem_cons_of_mem _ hw)) f s j d y r x h3 h4 hr h0 (by omega) (by omega)
theorem valC_step {n : Nat} (hi : ItemsC n) (hp : PairsC n) : ValC (n + 1) := by
  intro t hz hg f s i d u r ha hu h0 hd hf
  by_cases hr : r = []
  · subst hr
    rw [List.append_nil] at hu
    subst hu
    have hv := val_prt hg (ln := false) (e := 0) (r := []) (by rw [List.append_nil]; exact ha) (fun c q e => by cases e) h0 hd hf
    exact ⟨.inr ⟨_, by rw [hv, ha.end_]⟩, fun h => absurd rfl h⟩
  suffices h : CutR s (valT f s i d) ∧ (t.node.kind ≠ 3 → ErR (valT f s i d)) from ⟨h.1, fun _ => h.2⟩
  cases u with
  | nil => exact ⟨.inl (val_end ha f), fun _ => val_end ha f⟩
  | cons c u =>
    obtain ⟨nd, ps⟩ := t
    rw [Tr.good] at hg
    rw [Tr.size] at hz hf
    obtain ⟨f, rfl⟩ : ∃ g, f = g + 1 := ⟨f - 1, by omega⟩
    rw [prt] at hu
    by_cases hk : nd.kind < 5
    · rw [if_pos hk] at hu
      exact scalar_cut hg.1 hk ha hu hr f
    · rw [if_neg hk] at hu
      obtain ⟨hk56, _, _⟩ := plain_many hg.1 hk
      rw [depthT, if_neg (by omega)] at hd
      have hdp := depthL_nonneg ps
      suffices h : ErR (valT (f + 1) s i d) from ⟨.inl h, fun _ => h⟩
      have ha1 := At.one ha
      rcases hk56 with h5 | h6
      · rw [h5, marks5] at hu
        simp only [List.cons_append, List.append_assoc] at hu
        obtain ⟨hc0, hu'⟩ := List.cons.inj hu
        subst hc0
        clear hu
        have hno := no_words ha (by decide)
        have hby : byteAt s i = 91 := At.byte ha
        rw [valT_go f d hno, if_neg (by have := At.lt ha; omega), if_neg (by omega), if_neg (by rw [hby]; decide), if_neg (by omega), if_neg (by omega), if_pos hby]
        refine ErR.map ?_
        cases u with
        | nil => rw [partsT_go (by rw [ha1.all, blank_end]; exact has_end s 93), ha1.all, blank_end]; exact items_end (by rw [← ha1.all]; exact ha1) f
        | cons c2 u2 =>
          cases ps with
          | nil =>
            rw [prtL] at hu'
            have h7 : u2 ++ r = [] := (List.cons.inj (show c2 :: (u2 ++ r) = 93 :: [] from hu')).2
            exact absurd (List.append_eq_nil_iff.1 h7).2 hr
          | cons t ts =>
            have hgt : t.good := by have := hg.2.2.2; rw [goodL] at this; exact this.1
            rw [prtL_first] at hu'
            have hu2 : (c2 :: u2) ++ r = restT false 93 t ts := by rw [show (c2 :: u2) ++ r = _ from hu']; unfold restT lineP; simp
            obtain ⟨c3, q, hc, hh⟩ := restT_head (ob := false) (e := 93) (ts := ts) hgt
            have hce : c2 = c3 := (List.cons.inj (hu2.trans hc)).1
            subst hce
            have hbl := At.noblank ha1 (stop_head hh)
            rw [partsT_go (by rw [hbl, At.has1 ha1]; exact beq_eq_false_iff_ne.2 (head_ne hh).1), hbl]
            exact hi t ts (by omega) hg.2.2.2 f s _ d _ r [] ha1 hu2 hr h0 (by omega) (by omega)
      · rw [h6, marks6] at hu
        simp only [List.cons_append, List.append_assoc] at hu
        obtain ⟨hc0, hu'⟩ := List.cons.inj hu
        subst hc0
        clear hu
        have hno := no_words ha (by decide)
        have hby : byteAt s i = 123 := At.byte ha
        rw [valT_go f d hno, if_neg (by have := At.lt ha; omega), if_neg (by omega), if_neg (by rw [hby]; decide), if_neg (by omega), if_neg (by omega), if_neg (by omega)]
        refine ErR.map ?_
        cases u with
        | nil => rw [partsT_go (by rw [ha1.all, blank_end]; exact has_end s 125), ha1.all, blank_end]; exact pairs_end (by rw [← ha1.all]; exact ha1) f
        | cons c2 u2 =>
          cases ps with
          | nil =>
            rw [prtL] at hu'
            have h7 : u2 ++ r = [] := (List.cons.inj (show c2 :: (u2 ++ r) = 125 :: [] from hu')).2
            exact absurd (List.append_eq_nil_iff.1 h7).2 hr
          | cons t ts =>
            have hru : ∀ u ∈ t :: ts, utf u.node.name = true := fun u hu => (risL_mem hg.2.2.1 hu).2
            rw [show ((6 : Int) == 6) = true from rfl, prtL_first] at hu'
            have hu2 : (c2 :: u2) ++ r = nameP false t.node ++ restT true 125 t ts := by rw [show (c2 :: u2) ++ r = _ from hu']; unfold restT lineP; simp
            have hce : c2 = 34 := (List.cons.inj (show c2 :: (u2 ++ r) = 34 :: _ from hu2)).1
            subst hce
            have hbl := At.noblank ha1 (fun y z e => by rw [← (List.cons.inj e).1]; decide)
            rw [partsT_go (by rw [hbl, At.has1 ha1]; rfl), hbl]
            exact hp t ts (by omega) hg.2.2.2 hru f s _ d _ r [] ha1 hu2 hr h0 (by omega) (by omega)
theorem all_cut : ∀ n : Nat, ValC n ∧ ItemsC n ∧ PairsC n := by
  intro n
  induction n with
  | zero =>
    refine ⟨fun t hz => ?_, fun t ts hz => ?_, fun t ts hz => ?_⟩
    · have := t.size_pos; omega
    · rw [sizeL] at hz; have := t.size_pos; omega
    · rw [sizeL] at hz; have := t.size_pos; omega
  | succ n ih =>
    have hv := valC_step ih.2.1 ih.2.2
    exact ⟨hv, itemsC_step hv ih.2.1, pairsC_step hv ih.2.2⟩
/-! ### with less fuel: the same, or an error -/
def FuR {α : Type} (r r' : PR α) : Prop := r = r' ∨ ErR r
theorem FuR.map {α β : Type} {f : α → β} {r r' : PR α} (h : FuR r r') : FuR (mapR f r) (mapR f r') := by
  rcases h with rfl | h
  · exact .inl rfl
  · exact .inr h.map
theorem FuR.more {α : Type} {s e : Str} {r r' : PR α} {go go' : α → Int → PR α} (h : FuR r r') (hg : ∀ x j, FuR (go x j) (go' x j)) : FuR (moreT s e r go) (moreT s e r' go') := by
  rcases h with rfl | ⟨p, rfl⟩
  · cases r with
    | er c p => exact .inl rfl
    | ok x j =>
      unfold moreT
      dsimp only
      split
      · exact .inl rfl
      · split
        · exact hg _ _
        · exact .inl rfl
  · exact .inr ⟨p, rfl⟩
theorem FuR.parts {α : Type} {s e : Str} {i : Int} {x : α} {go go' : α → Int → PR α} (hg : ∀ x j, FuR (go x j) (go' x j)) : FuR (partsT s i e x go) (partsT s i e x go') := by
  unfold partsT
  split
  · exact .inl rfl
  · exact hg _ _
theorem FuR.pair {s : Str} {i : Int} {v v' : Int → PR Vl} {m : List (Str × Vl)} (hg : ∀ k, FuR (v k) (v' k)) : FuR (pairT s i v m) (pairT s i v' m) := by
  unfold pairT
  cases textT s i with
  | er c p => exact .inl rfl
  | ok n j =>
    dsimp only
    split
    · exact (hg _).map
    · exact .inl rfl
theorem fuel_step : ∀ f : Nat, (∀ s i d, FuR (valT f s i d) (valT (f + 1) s i d)) ∧ (∀ s d l i, FuR (itemsT f s d l i) (itemsT (f + 1) s d l i)) ∧ (∀ s d m i, FuR (pairsT f s d m i) (pairsT (f + 1) s d m i)) := by
  intro f
  induction f with
  | zero => exact ⟨fun s i d => .inr ⟨i, by rw [valT]⟩, fun s d l i => .inr ⟨i, by rw [itemsT]⟩, fun s d l i => .inr ⟨i, by rw [pairsT]⟩⟩
  | succ f ih =>
    refine ⟨fun s i d => ?_, fun s d l i => ?_, fun s d m i => ?_⟩
    · rw [valT, valT]
      repeat' split
      all_goals first
        | exact .inl rfl
        | exact (FuR.parts fun x j => ih.2.1 s d x j).map
        | exact (FuR.parts fun x j => ih.2.2 s d x j).map
    · rw [itemsT, itemsT]
      exact (ih.1 s i (d + 1)).map.more fun x j => ih.2.1 s d x j
    · rw [pairsT, pairsT]
      exact (FuR.pair fun k => ih.1 s k (d + 1)).more fun x j => ih.2.2 s d x j
theorem fuel_add (f : Nat) (s : Str) (i d : Int) : ∀ k : Nat, FuR (valT f s i d) (valT (f + k) s i d)
  | 0 => .inl rfl
  | k + 1 => by
    rcases fuel_add f s i d k with h | h
    · rw [h]; exact (fuel_step (f + k)).1 s i d
    · exact .inr h
/-- A list's or an object's text that is cut off is none. -/
theorem parse_cut {t : Tr} (hg : t.good) (hk : 5 ≤ t.node.kind) {u r : Str} (hu : u ++ r = prt false 0 t) (hr : r ≠ []) (hd : depthT t ≤ 128) : ∃ p, parseT u = ([], p, 1) := by
  have ha : At u 0 u := ⟨Int.le_refl _, len_nonneg u, rfl⟩
  obtain ⟨c, q, hc, hh⟩ := prt_head (ln := false) (d := 0) hg
  have hst : stopB (u ++ r) := by rw [hu, hc]; exact stop_head hh
  have hb : blankTo u 0 = 0 := At.noblank ha (stop_pre hst)
  have he : ErR (valT (2 * u.length + 2) u 0 0) := by
    rcases fuel_add (2 * u.length + 2) u 0 0 (2 * t.size) with h | h
    · rw [h]; exact ((all_cut t.size).1 t (Nat.le_refl _) hg _ u 0 0 u r ha hu (Int.le_refl _) (by omega) (by omega)).2 hr (by omega)
    · exact h
  obtain ⟨p, hp⟩ := he
  exact ⟨p, by unfold parseT; rw [hb, hp]⟩
theorem prt_two {t : Tr} (h : ¬ t.node.kind < 5) : 2 ≤ len (prt false 0 t) := by
  obtain ⟨n, ps⟩ := t
  have h : ¬ n.kind < 5 := h
  rw [prt, if_neg h, len_app, List.cons_append, len_cons, len_app, len_cons, len_nil]
  have := len_nonneg (prtL false 0 (n.kind == 6) true ps)
  split
  · rw [len_nil]; omega
  · have := len_nonneg (lineP false 0); omega
/-- Of a value's text, and one more behind it, none is read. -/
theorem parse_more {t : Tr} (hg : t.good) {w : Str} (hw : stopB w) (hwn : w ≠ []) (hd : depthT t ≤ 128) (hz : t.size ≤ len (prt false 0 t)) : parseT (prt false 0 t ++ [32] ++ w) = ([], len (prt false 0 t) + 1, 1) := by
  have ha : At (prt false 0 t ++ [32] ++ w) 0 (prt false 0 t ++ (32 :: w)) := ⟨Int.le_refl _, len_nonneg _, by show prt false 0 t ++ [32] ++ w = _; simp⟩
  obtain ⟨c, q, hc, hh⟩ := prt_head (ln := false) (d := 0) hg
  have hb : blankTo (prt false 0 t ++ [32] ++ w) 0 = 0 := At.noblank ha (by rw [hc]; exact stop_head hh)
  have hl : len (prt false 0 t ++ [32] ++ w) = len (prt false 0 t) + 1 + len w := by rw [len_app, len_app]; rfl
  have hwl := ne_len.1 hwn
  have hv := val_prt hg (ln := false) (e := 0) (f := 2 * (prt false 0 t ++ [32] ++ w).length + 2) ha (fun y z e => by rw [← (List.cons.inj e).1]; decide) (Int.le_refl 0) (by omega) (by unfold len at hl hz; omega)
  have ha2 : At (prt false 0 t ++ [32] ++ w) (0 + len (prt false 0 t)) ([32] ++ w) := At.add ha
  have hb2 := At.blank ha2 (fun c hc => by simp only [List.mem_singleton] at hc; subst hc; decide) hw
  unfold parseT
  rw [hb, hv]
  dsimp only
  rw [hb2, show len ([32] : Str) = 1 from rfl, if_pos (by omega)]
  congr 2; omega
end Go.Eng
set_option maxRecDepth 100000
namespace Go.Proofs.YtjfaikgooldcbaaGreatDoor
open Go.Eng

/- loupe/loupelaw04.TextCut -/
theorem textCut_c (M : Mem) (v x : Vl) (vv xv : Value) (n : Int) (w : World) (hM : Sat w M) (hv : Sl M 6 v.length vv (v.flatMap Nd.cells)) (hx : Sl M 6 x.length xv (x.flatMap Nd.cells)) (hg : Gl w) (hn : 0 ≤ n ∧ n ≤ 65535) :
  Calls Tryz.prog 8 [vv, (.int .u16 n), xv].toArray w fun e w' => e = .returned (.bool true) ∧ Ext w w' := by
 refine CW.enter1 Tryz.func8 rfl Tryz.ntmps8 (Nat.le_of_ble_eq_true rfl) fun Q hE => ?_
 have hfv : fewB v 60 = true → 0 < len v := fun h => by obtain ⟨_, _, h⟩ := few_yes h; obtain ⟨t, h, _⟩ := right_good h; rw [h]; unfold len; rw [Tr.flat_len]; have := t.size_pos; omega
 have hS : St w M w M [] := St.start hM
 refine CW.weaken [0, 1, 2] (L' := [Y 0 vv, Y 1 (.int .u16 n), Y 2 xv]) ?_ rfl
 refine CW.sr (RL.u (.assign .c) rfl (RL.nil (CW.id (CW.seq ?_))))
 refine CW.sr (RL.m rfl rfl ?_)
 refine RL.callE hS .none Tryz.call14 (.cons (.t rfl) (.cons .c .nil)) (fun _ => (few_c M v vv 60 _ hS.sat hv (by omega))) rfl (fun w1 hS2 => ?_)
 refine RL.u (.not (.t rfl)) rfl (RL.m rfl rfl (RL.v (.neg rfl rfl) (.move (.t rfl)) rfl ?_))
 refine RL.callE hS2 (.neg rfl rfl) Tryz.call14 (.cons (.g rfl (fun h => h)) (.cons .c .nil)) (fun hW => by simp only [zb] at hW; exact (few_c M x xv 60 _ hS2.sat hx (by omega))) rfl (fun w3 hS4 => ?_)
 refine RL.v (.neg rfl rfl) (.not (.g rfl (fun h => h))) rfl (RL.u (.or (.t rfl) (.g rfl (fun h => h))) rfl (RL.m rfl rfl (RL.v (.neg rfl rfl) (.move (.t rfl)) rfl (RL.v (.neg rfl rfl) (.idxT hv (.g rfl (fun h => h)) .c Tryz.underlying24 Tryz.sizeOf38 (fun hW => by simp only [zb] at hW; first | omega | (have := hfv hW.1; omega) | (simp only [len_app, len_cons, len_nil]; omega))) rfl (RL.v (.neg rfl rfl) (.fldA (q := ⟨sb vv, so vv + (0 : Int).toNat * 6, none⟩) (.g rfl (fun h => h)) (fun w => by kernel_rfl)) rfl ?_)))))
 refine RL.v (.neg rfl rfl) (.loadE1 (f := Nd.cells) (i := 0) (j := 0) (u := (i64 ((at' v 0).kind))) hS4 extEq hv Nd.cells_len (.g rfl (fun h => h)) Tryz.isAgg3 (fun hW => by simp only [zb] at hW; first | omega | (have := hfv hW.1; omega) | (simp only [len_app, len_cons, len_nil]; omega)) rfl rfl) rfl (RL.v (.neg rfl rfl) (.lss (.g rfl (fun h => h)) .c) rfl (RL.u (.or (.t rfl) (.g rfl (fun h => h))) rfl ?_))
 refine RL.nil (CW.at [Y 0 vv, Y 1 (.int .u16 n), Y 2 xv, Y 29 (.bool (((!(fewB v 60)) || (!(fewB x 60))) || (decide (((at' v 0).kind) < 5))))] rfl ?_)
 refine CW.cond rfl ?_ ?_ <;> intro hb1 <;> try simp only [zb] at hb1
 ·refine CW.sr ?_
  refine RL.callE hS4 .none Tryz.call10 .nil (fun _ => (alive4_c _ (hg.low hS4.low))) rfl (fun w5 hS6 => ?_)
  refine RL.a rfl rfl ?_
  refine RL.nil (CW.at [Y 6 (.bool true)] rfl (CW.ret (hE.r1 rfl rfl ?_)))
  exact ⟨rfl, hS6.low⟩
 ·obtain ⟨hf_t, hs200, hr_t⟩ := few_yes (by simpa using hb1.1.1)
  obtain ⟨t, hvt, hg_t, htn⟩ := right_good hr_t
  have hz_t : (t.size : Int) ≤ 60 := by unfold len at hf_t; rw [hvt, Tr.flat_len] at hf_t; exact hf_t
  rw [hvt] at hs200
  have hd_t := depthT_le _ t rfl
  have hp_t := parse_self_ok hg_t htn hs200 (by decide) (by omega) (by omega)
  obtain ⟨hf_t2, hs2, hr_t2⟩ := few_yes (by simpa using hb1.1.2)
  obtain ⟨t2, hxt, hg_t2, htn2⟩ := right_good hr_t2
  have hz_t2 : (t2.size : Int) ≤ 60 := by unfold len at hf_t2; rw [hxt, Tr.flat_len] at hf_t2; exact hf_t2
  rw [hxt] at hs2
  have hd_t2 := depthT_le _ t2 rfl
  have hp_t2 := parse_self_ok hg_t2 htn2 hs2 (by decide) (by omega) (by omega)
  have hb_t : len (prt false 0 t) ≤ 1000000000 := by have := prt_bd (ln := false) (d := 0) hg_t (hs200.mono (by decide)) (Int.le_refl _) (by omega); omega
  have hb_t2 : len (prt false 0 t2) ≤ 1000000000 := by have := prt_bd (ln := false) (d := 0) hg_t2 (hs2.mono (by decide)) (Int.le_refl _) (by omega); omega
  have hk5 : ¬ t.node.kind < 5 := by have := hb1.2; rw [hvt, Tr.at0] at this; omega
  have hl2 := prt_two hk5
  have hlx := len_nonneg (prt false 0 t2)
  refine CW.skip (CW.id (CW.sr (RL.m rfl rfl ?_)))
  refine RL.callE hS4 .none Tryz.call15 (.cons (.t rfl) .nil) (fun _ => (compact_c M t vv _ hS4.sat (by rw [← hvt]; exact hv) (Tr.good_ok hg_t (shortV.mono (by omega) hs200)) (hg.low hS4.low) (by omega) (Int.le_trans (hp_t false).2.1 (by decide)) (hp_t false).2.2)) rfl (fun w7 hS8 => ?_)
  refine RL.a rfl rfl ?_
  refine RL.nil (CW.at [Y 1 (.int .u16 n), Y 2 xv, Y 7 (str (prt false 0 t))] rfl (CW.seq (CW.sr (RL.m rfl rfl (RL.u (.lenS (.t rfl) Tryz.underlying9) rfl (RL.u (.lss (.t rfl) .c) rfl (RL.nil (CW.id ?_))))))))
  refine CW.cond rfl ?_ ?_ <;> intro hb2 <;> try simp only [zb] at hb2
  ·refine CW.sr (RL.u (.assign .c) rfl (RL.nil (CW.id (CW.ret (hE.r1 rfl rfl ?_)))))
   omega
  ·have hrm : 0 ≤ n % len (prt false 0 t) ∧ n % len (prt false 0 t) < len (prt false 0 t) := ⟨Int.emod_nonneg _ (by omega), Int.emod_lt_of_pos _ (by omega)⟩
   obtain ⟨hsp, hsl⟩ := sub_from_split (s := prt false 0 t) (n := n % len (prt false 0 t)) (by omega) (by omega)
   have hfl := from_len (prt false 0 t) (n % len (prt false 0 t)) (by omega) (by omega)
   obtain ⟨p0, hp0⟩ := parse_cut hg_t (by omega) hsp.symm (ne_len.2 (by omega)) (by omega)
   have hpg := (parse_good (Eng.sub (prt false 0 t) 0 (n % len (prt false 0 t)))).2 (by rw [hp0]; exact (show (1 : Int) ≠ 0 by decide))
   rw [hp0] at hpg
   have hpg2 : p0 ≤ len (Eng.sub (prt false 0 t) 0 (n % len (prt false 0 t))) := hpg.2.2
   obtain ⟨hc2, hq2, hhc, hhd⟩ := prt_head (ln := false) (d := 0) hg_t2
   have hpm := parse_more hg_t (w := prt false 0 t2) (by rw [hhc]; exact stop_head hhd) (hp_t2 false).2.2 (by omega) (prt_bd (ln := false) (d := 0) hg_t (hs200.mono (by decide)) (Int.le_refl _) (by omega)).1
   refine CW.skip (CW.id (CW.sr (RL.m rfl rfl (RL.m rfl rfl (RL.u (.cvtK (r := n) (.t rfl) Tryz.underlying41 Tryz.underlying3 (fun _ => by exact Eng.wrap_i64 (by omega))) rfl (RL.m rfl rfl (RL.u (.lenS (.t rfl) Tryz.underlying9) rfl (RL.u (.rem (.t rfl) (.t rfl) (fun _ => by omega)) rfl (RL.u (.slSh (.t rfl) (.t rfl) Tryz.underlying9 (fun _ => by omega)) rfl (RL.a rfl rfl (RL.nil (CW.id ?_))))))))))))
   refine CW.sr (RL.m rfl rfl ?_)
   refine RL.callP Tryz.call11 (.cons (.t rfl) .nil) (parse_lit (Rs := []) (Eng.sub (prt false 0 t) 0 (n % (len (prt false 0 t)))) ((([] : Vl), p0, 1)) hS8 hg (by omega) hp0) rfl ?_
   rintro v12 w13 ⟨a9, c10, M14, rfl, hsl_v12, hS15, hle16⟩
   replace hv := hv.mono hle16
   replace hx := hx.mono hle16
   replace hsl_v12 : Sl M14 6 (([] : Vl)).length (.slice a9 (([] : Vl)).length c10) ((([] : Vl)).flatMap Nd.cells) := hsl_v12
   refine RL.m rfl rfl (RL.u (.ex (.t rfl) rfl) rfl (RL.u (.ex (.t rfl) rfl) rfl (RL.u (.ex (.t rfl) rfl) rfl (RL.a rfl rfl (RL.a rfl rfl ?_)))))
   refine RL.a rfl rfl ?_
   refine RL.nil (CW.at [Y 2 xv, Y 7 (str (prt false 0 t)), Y 8 (str (Eng.sub (prt false 0 t) 0 (n % (len (prt false 0 t))))), Y 10 (i64 p0), Y 11 (i64 1)] rfl (CW.sr (RL.m rfl rfl (RL.u (.sadd (.t rfl) .c (fun _ => by first | omega | (have := hfv hW.1; omega) | (simp only [len_app, len_cons, len_nil]; omega))) rfl (RL.m rfl rfl ?_)))))
   refine RL.callE hS15 .none Tryz.call15 (.cons (.t rfl) .nil) (fun _ => (compact_c M14 t2 xv _ hS15.sat (by rw [← hxt]; exact hx) (Tr.good_ok hg_t2 (shortV.mono (by omega) hs2)) (hg.low hS15.low) (by omega) (Int.le_trans (hp_t2 false).2.1 (by decide)) (hp_t2 false).2.2)) rfl (fun w17 hS18 => ?_)
   refine RL.u (.sadd (.t rfl) (.t rfl) (fun _ => by first | omega | (have := hfv hW.1; omega) | (simp only [len_app, len_cons, len_nil]; omega))) rfl ?_
   refine RL.callP Tryz.call11 (.cons (.t rfl) .nil) (parse_lit (Rs := []) (((prt false 0 t) ++ [32]) ++ (prt false 0 t2)) ((([] : Vl), len (prt false 0 t) + 1, 1)) hS18 hg (by simp only [len_app, len_cons, len_nil]; omega) hpm) rfl ?_
   rintro v22 w23 ⟨a19, c20, M24, rfl, hsl_v22, hS25, hle26⟩
   replace hv := hv.mono hle26
   replace hx := hx.mono hle26
   replace hsl_v12 := hsl_v12.mono hle26
   replace hsl_v22 : Sl M24 6 (([] : Vl)).length (.slice a19 (([] : Vl)).length c20) ((([] : Vl)).flatMap Nd.cells) := hsl_v22
   refine RL.m rfl rfl (RL.u (.ex (.t rfl) rfl) rfl (RL.u (.ex (.t rfl) rfl) rfl (RL.u (.ex (.t rfl) rfl) rfl (RL.a rfl rfl (RL.a rfl rfl ?_)))))
   refine RL.a rfl rfl ?_
   refine RL.nil (CW.at [Y 7 (str (prt false 0 t)), Y 8 (str (Eng.sub (prt false 0 t) 0 (n % (len (prt false 0 t))))), Y 10 (i64 p0), Y 11 (i64 1), Y 13 (i64 (len (prt false 0 t) + 1)), Y 14 (i64 1)] rfl (CW.sr ?_))
   refine RL.callE hS25 .none Tryz.call10 .nil (fun _ => (alive4_c _ (hg.low hS25.low))) rfl (fun w27 hS28 => ?_)
   refine RL.m rfl rfl (RL.v (.pos rfl rfl) (.move (.t rfl)) rfl (RL.v (.pos rfl rfl) (.eql (.g rfl (fun h => h)) .c) rfl (RL.u (.and (.t rfl) (.g rfl (fun h => h))) rfl (RL.m rfl rfl (RL.v (.pos rfl rfl) (.move (.t rfl)) rfl ?_)))))
   refine RL.v (.pos rfl rfl) (.move (.t rfl)) rfl (RL.v (.pos rfl rfl) (.lenS (.g rfl (fun h => h)) Tryz.underlying9) rfl (RL.v (.pos rfl rfl) (.leq (.g rfl (fun h => h)) (.g rfl (fun h => h))) rfl (RL.u (.and (.t rfl) (.g rfl (fun h => h))) rfl (RL.m rfl rfl (RL.v (.pos rfl rfl) (.move (.t rfl)) rfl ?_)))))
   refine RL.v (.pos rfl rfl) (.eql (.g rfl (fun h => h)) .c) rfl (RL.u (.and (.t rfl) (.g rfl (fun h => h))) rfl (RL.m rfl rfl (RL.v (.pos rfl rfl) (.move (.t rfl)) rfl (RL.v (.pos rfl rfl) (.move (.t rfl)) rfl (RL.v (.pos rfl rfl) (.lenS (.g rfl (fun h => h)) Tryz.underlying9) rfl ?_)))))
   refine RL.v (.pos rfl rfl) (.add (.g rfl (fun h => h)) .c (fun hW => by simp only [zb] at hW; first | omega | (have := hfv hW.1; omega) | (simp only [len_app, len_cons, len_nil]; omega))) rfl (RL.v (.pos rfl rfl) (.eql (.g rfl (fun h => h)) (.g rfl (fun h => h))) rfl (RL.u (.and (.t rfl) (.g rfl (fun h => h))) rfl (RL.a rfl rfl ?_)))
   refine RL.nil (CW.at [Y 6 (.bool ((((true && (1 == 1)) && (decide (p0 ≤ (len (Eng.sub (prt false 0 t) 0 (n % (len (prt false 0 t)))))))) && (1 == 1)) && ((len (prt false 0 t) + 1) == ((len (prt false 0 t)) + 1))))] rfl (CW.ret (hE.r1 rfl rfl ?_)))
   exact ⟨by simp [hpg2], hS28.low⟩

end Go.Proofs.YtjfaikgooldcbaaGreatDoor
