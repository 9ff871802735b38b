/-
  WHAT IS READ IS RIGHT, and not too deep: plain. No program in it.
  The smallest that is left, one behind the other: the names in order. No program in it.
  The reference's values: Object, of names that differ and are valid.
  Objects without a name, and with one. No program in it.
  The reference's values: Without, With.
-/
import Derived.Test.YtjfaikgooldcbaaGreatDoorZs15
set_option linter.unusedVariables false
set_option linter.unusedSimpArgs false
namespace Go.Eng
open Go.RowKit

/-- A good value, no deeper than so, its texts no longer than so. -/
def GoodV (q D : Int) (x : Vl) : Prop := ∃ t : Tr, x = t.flat ∧ t.good ∧ t.node.name = [] ∧ depthT t ≤ D ∧ shortV q t.flat
/-- A tree no deeper than so, its texts no longer than so. -/
def GoodU (q D : Int) (u : Tr) : Prop := u.good ∧ depthT u ≤ D ∧ shortV q u.flat
/-- What was read: such a value, no greater than so; or an error and where. -/
def POk {α : Type} (P : α → Prop) (sz : α → Int) (c : Int) (s : Str) : PR α → Prop
  | .ok x j => P x ∧ sz x + c ≤ j ∧ 0 ≤ j ∧ j ≤ len s
  | .er k p => k ≠ 0 ∧ 0 ≤ p ∧ p ≤ len s
theorem goodL_of {q D : Int} : ∀ {ts : List Tr}, (∀ u ∈ ts, GoodU q D u) → goodL ts
  | [], _ => trivial
  | t :: ts, h => by rw [goodL]; exact ⟨(h t List.mem_cons_self).1, goodL_of fun u hu => h u (List.mem_cons_of_mem _ hu)⟩
theorem depthL_of {q D : Int} (h0 : 0 ≤ D) : ∀ {ts : List Tr}, (∀ u ∈ ts, GoodU q D u) → depthL ts ≤ D
  | [], _ => h0
  | t :: ts, h => by rw [depthL]; have h1 := (h t List.mem_cons_self).2.1; have h2 := depthL_of h0 fun u hu => h u (List.mem_cons_of_mem _ hu); omega
theorem shortL_of {q D : Int} : ∀ {ts : List Tr}, (∀ u ∈ ts, GoodU q D u) → shortV q (flatL ts)
  | [], _ => fun n hn => by cases hn
  | t :: ts, h => fun n hn => by
    rw [flatL] at hn
    rcases List.mem_append.1 hn with hn | hn
    · exact (h t List.mem_cons_self).2.2 n hn
    · exact shortL_of (fun u hu => h u (List.mem_cons_of_mem _ hu)) n hn
/-- A node of parts over good ones. -/
theorem many_good {q D k : Int} {ts : List Tr} (hq : 0 ≤ q) (h0 : 0 ≤ D) (hk : k = 5 ∨ k = 6) (h : ∀ u ∈ ts, GoodU q D u) (hr : risL k ts) : GoodV q (D + 1) (⟨k, len ts, [], [], false, 0⟩ :: flatL ts) := by
  have hl := len_nonneg ts
  refine ⟨.mk ⟨k, len ts, [], [], false, 0⟩ ts, by rw [Tr.flat], ?_, rfl, ?_, ?_⟩
  · rw [Tr.good]
    refine ⟨?_, rfl, hr, goodL_of h⟩
    unfold plainB bareN
    rw [if_neg (by dsimp only; omega), if_neg (by dsimp only; omega), if_neg (by dsimp only; omega), if_pos hk]
    simp only [Bool.and_eq_true, decide_eq_true_eq]
    exact ⟨hl, trivial⟩
  · rw [depthT]
    have := depthL_of h0 h
    split <;> omega
  · rw [Tr.flat]
    intro n hn
    rcases List.mem_cons.1 hn with rfl | hn
    · exact ⟨hq, hq⟩
    · exact shortL_of h n hn
theorem trees_of {q D : Int} : ∀ {l : List Vl}, (∀ x ∈ l, GoodV q D x) → ∃ ts : List Tr, l.flatten = flatL ts ∧ len l = len ts ∧ (∀ u ∈ ts, GoodU q D u) ∧ risL 5 ts
  | [], _ => ⟨[], rfl, rfl, fun u hu => (by cases hu), trivial⟩
  | x :: l, h => by
    obtain ⟨t, rfl, h1, h2, h3, h4⟩ := h x List.mem_cons_self
    obtain ⟨ts, e1, e2, e3, e4⟩ := trees_of fun y hy => h y (List.mem_cons_of_mem _ hy)
    refine ⟨t :: ts, by rw [List.flatten_cons, flatL, e1], by rw [len_cons, len_cons, e2], fun u hu => ?_, ?_⟩
    · rcases List.mem_cons.1 hu with rfl | hu
      · exact ⟨h1, h3, h4⟩
      · exact e3 u hu
    · rw [risL]
      exact ⟨⟨fun _ => h2, by rw [h2]; exact utf_nil⟩, fun u us _ h6 => absurd h6 (by decide), e4⟩
theorem list_goodV {q D : Int} (hq : 0 ≤ q) (h0 : 0 ≤ D) {l : List Vl} (h : ∀ x ∈ l, GoodV q D x) : GoodV q (D + 1) (listV l) := by
  obtain ⟨ts, e1, e2, e3, e4⟩ := trees_of h
  unfold listV
  rw [e1, e2]
  exact many_good hq h0 (.inl rfl) e3 e4
/-- Pairs of good names and good values. -/
def PairG (q D : Int) (p : Str × Vl) : Prop := utf p.1 = true ∧ len p.1 ≤ q ∧ GoodV q D p.2
theorem named_trees {q D : Int} : ∀ {l : List (Str × Vl)}, (∀ p ∈ l, PairG q D p) → (l.map (·.1)).Pairwise (· < ·) → ∃ ts : List Tr, (l.map fun p => nameV p.1 p.2).flatten = flatL ts ∧ ts.map (·.node.name) = l.map (·.1) ∧ (∀ u ∈ ts, GoodU q D u) ∧ risL 6 ts
  | [], _, _ => ⟨[], rfl, rfl, fun u hu => (by cases hu), trivial⟩
  | p :: l, h, hp => by
    obtain ⟨hu, hl, t, ht, h1, h2, h3, h4⟩ := h p List.mem_cons_self
    rw [List.map_cons, List.pairwise_cons] at hp
    obtain ⟨ts, e1, e2, e3, e4⟩ := named_trees (fun y hy => h y (List.mem_cons_of_mem _ hy)) hp.2
    have hn : (t.named p.1).node.name = p.1 := by cases t; rfl
    refine ⟨t.named p.1 :: ts, ?_, ?_, fun u hu => ?_, ?_⟩
    · rw [List.map_cons, List.flatten_cons, flatL, e1, ht, Tr.named_flat]
    · rw [List.map_cons, List.map_cons, e2, hn]
    · rcases List.mem_cons.1 hu with rfl | hu
      · refine ⟨Tr.named_good h1, by rw [depthT_named]; exact h3, ?_⟩
        obtain ⟨n, ps⟩ := t
        intro m hm
        rw [Tr.named, Tr.flat] at hm
        rcases List.mem_cons.1 hm with rfl | hm
        · exact ⟨(h4 n (by rw [Tr.flat]; exact List.mem_cons_self)).1, hl⟩
        · exact h4 m (by rw [Tr.flat]; exact List.mem_cons_of_mem _ hm)
      · exact e3 u hu
    · rw [risL, hn]
      refine ⟨⟨fun h5 => absurd h5 (by decide), hu⟩, fun u us e _ => ?_, e4⟩
      have hm : u.node.name ∈ l.map (·.1) := by rw [← e2, e]; exact List.mem_cons_self
      rw [Go.Proofs.bytesLess_eq, decide_eq_true_eq]
      exact hp.1 _ hm
theorem sortN_lt {l : List Str} (h : l.Nodup) : (sortN l).Pairwise (· < ·) := by
  have h1 : (sortN l).Pairwise (fun x y => decide (x ≤ y) = true) := List.pairwise_mergeSort str_trans str_total l
  have h2 : (sortN l).Nodup := (List.mergeSort_perm l _).nodup_iff.2 h
  refine (h1.and h2).imp fun {a b} h3 => ?_
  have h4 := h3.1
  rw [decide_eq_true_eq] at h4
  rcases Classical.em (a < b) with h5 | h5
  · exact h5
  · exact absurd (List.le_antisymm h4 (List.not_lt.1 h5)) h3.2
def MapG (q D : Int) (m : List (Str × Vl)) : Prop := KeysOK m ∧ ∀ p ∈ m, PairG q D p
theorem MapG.nil {q D : Int} : MapG q D [] := ⟨by unfold KeysOK; exact List.nodup_nil, fun x hx => by cases hx⟩
theorem obj_goodV {q D : Int} (hq : 0 ≤ q) (h0 : 0 ≤ D) {m : List (Str × Vl)} (h : MapG q D m) : GoodV q (D + 1) (objV m) := by
  have hk : ((sortN (m.map (·.1))).map fun n => (n, (getV m n).getD [])).map (·.1) = sortN (m.map (·.1)) := by rw [List.map_map]; exact List.map_id _
  obtain ⟨ts, e1, e2, e3, e4⟩ := named_trees (q := q) (D := D) (l := (sortN (m.map (·.1))).map fun n => (n, (getV m n).getD [])) (fun p hp => by
    obtain ⟨n, hn, rfl⟩ := List.mem_map.1 hp
    obtain ⟨x, h1, h2⟩ := getV_in (sortN_mem.1 hn)
    have := h.2 _ h2
    rw [h1]; exact this) (by rw [hk]; exact sortN_lt h.1)
  unfold objV laidV
  rw [e1]
  have e5 : len ((sortN (m.map (·.1))).map fun n => (n, (getV m n).getD [])) = len ts := by
    have := congrArg List.length e2
    rw [List.length_map, List.length_map] at this
    unfold len; omega
  rw [e5]
  exact many_good hq h0 (.inr rfl) e3 e4
theorem MapG.put {q D : Int} {m : List (Str × Vl)} {n : Str} {x : Vl} (h : MapG q D m) (hp : PairG q D (n, x)) : MapG q D (putV m n x) := by
  refine ⟨h.1.put n x, ?_⟩
  have key : ∀ {m : List (Str × Vl)}, (∀ p ∈ m, PairG q D p) → ∀ p ∈ putV m n x, PairG q D p := by
    intro m
    induction m with
    | nil => intro _ p hm; simp only [putV, List.mem_singleton] at hm; subst hm; exact hp
    | cons a m ih =>
      intro hm p hpm
      unfold putV at hpm
      split at hpm
      · rcases List.mem_cons.1 hpm with rfl | hpm
        · exact hp
        · exact hm p (List.mem_cons_of_mem _ hpm)
      · rcases List.mem_cons.1 hpm with rfl | hpm
        · exact hm _ List.mem_cons_self
        · exact ih (fun p h => hm p (List.mem_cons_of_mem _ h)) p hpm
  exact key h.2
theorem POk.mapR {α β : Type} {P : α → Prop} {Q : β → Prop} {sz : α → Int} {sz' : β → Int} {c c' : Int} {f : α → β} {s : Str} {r : PR α} (h : POk P sz c s r) (hf : ∀ x, P x → Q (f x) ∧ sz' (f x) + c' ≤ sz x + c) : POk Q sz' c' s (mapR f r) := by
  cases r with
  | ok x j => have := hf x h.1; exact ⟨this.1, by have := h.2.1; omega, h.2.2⟩
  | er c p => exact h
theorem POk.more {α : Type} {P : α → Prop} {sz : α → Int} {c : Int} {s : Str} {e : UInt8} {r : PR α} {go : α → Int → PR α} (h : POk P sz c s r) (hg : ∀ x k, P x → sz x + c ≤ k → 0 ≤ k → k ≤ len s → POk P sz c s (go x k)) : POk P sz c s (moreT s [e] r go) := by
  cases r with
  | er c p => exact h
  | ok x j =>
    obtain ⟨h1, h4, h2, h3⟩ := h
    have hb := blankTo_bd s j h2 h3
    unfold moreT
    dsimp only
    split
    · rename_i hw
      have := hasW_le (by omega) hb.2 hw
      rw [len_cons, len_nil] at this
      exact ⟨h1, by omega, by omega, by omega⟩
    · split
      · rename_i hw
        have := hasW_le (by omega) hb.2 hw
        rw [len_cons, len_nil] at this
        have hb2 := blankTo_bd s (blankTo s j + 1) (by omega) (by omega)
        exact hg x _ h1 (by omega) (by omega) hb2.2
      · exact ⟨by decide, by omega, hb.2⟩
theorem POk.parts {α : Type} {P : α → Prop} {sz : α → Int} {c : Int} {s : Str} {i : Int} {e : UInt8} {x0 : α} {go : α → Int → PR α} (h0 : 0 ≤ i) (h1 : i < len s) (hx : P x0) (hz : sz x0 + c ≤ i + 1) (hg : ∀ k, i + 1 ≤ k → k ≤ len s → POk P sz c s (go x0 k)) : POk P sz c s (partsT s i [e] x0 go) := by
  have hb := blankTo_bd s (i + 1) (by omega) (by omega)
  unfold partsT
  split
  · rename_i hw
    have := hasW_le (by omega) hb.2 hw
    rw [len_cons, len_nil] at this
    exact ⟨hx, by omega, by omega, by omega⟩
  · exact hg _ (by omega) hb.2
theorem text_ok {s : Str} {i : Int} (h0 : 0 ≤ i) (h1 : i ≤ len s) : POk (fun x => utf x = true ∧ len x ≤ 4 * len s + 100) (fun _ => 2) i s (textT s i) := by
  have hl := from_len s i h0 h1
  have hb := unqP_bd (from' s i)
  have hn := unq_len (from' s i)
  unfold textT
  split
  · rename_i h; exact ⟨h, by omega, by omega⟩
  · rename_i h
    have := hb.2.2.1 (by omega)
    exact ⟨⟨unq_utf _, by omega⟩, by show (2 : Int) + i ≤ _; omega, by omega, by omega⟩
theorem num_ok {s : Str} {i D : Int} (h0 : 0 ≤ i) (h1 : i < len s) (h2 : byteAt s i = 45 ∨ isFig (byteAt s i) = true) (hD : 0 ≤ D) : POk (GoodV (4 * len s + 100) D) len i s (numT s i) := by
  have hl := from_len s i h0 (by omega)
  have hr := runN_le (from' s i)
  have hp := runN_pos h0 h1 h2
  have hb := read1_bd (runN (from' s i))
  have hk := read_ok (runN (from' s i))
  have hs := len_nonneg s
  unfold numT
  split
  · rename_i h; exact ⟨h, by omega, by omega⟩
  · rename_i h
    have h3 := hk.1 (Classical.not_not.1 h)
    have h4 := right_open h3
    generalize (read1 (runN (from' s i))).1 = n at h3 h4
    have hkd : n.kind = 3 := by rw [h4.1]
    have hnm : n.name = [] := by rw [h4.1]
    have hmn : n.many = 0 := by rw [h4.1]
    refine ⟨⟨.mk n [], by rw [Tr.flat, flatL], ?_, hnm, ?_, ?_⟩, by rw [len_cons, len_nil]; omega, by omega, by omega⟩
    · rw [Tr.good]
      refine ⟨?_, hmn, trivial, trivial⟩
      unfold plainB
      rw [if_neg (by omega), if_pos hkd]
      have : bareN n = n := by unfold bareN; rw [← hnm]
      rw [this]; exact h3
    · rw [depthT, if_pos (by omega)]; exact hD
    · rw [Tr.flat, flatL]
      intro m hm
      rw [List.mem_singleton] at hm
      subst hm
      rw [hnm, len_nil]
      exact ⟨by have := h4.2.2.1; omega, by omega⟩
theorem one_good {q D : Int} {n : Nd} (h : plainB n = true) (hk : n.kind < 5) (hn : n.name = []) (hm : n.many = 0) (hq : 0 ≤ q) (hs : len n.s ≤ q) (hD : 0 ≤ D) : GoodV q D [n] := by
  refine ⟨.mk n [], by rw [Tr.flat, flatL], ?_, hn, ?_, ?_⟩
  · rw [Tr.good]; exact ⟨h, hm, trivial, trivial⟩
  · rw [depthT, if_pos (by omega)]; exact hD
  · rw [Tr.flat, flatL]
    intro m hm
    rw [List.mem_singleton] at hm
    subst hm
    rw [hn, len_nil]; exact ⟨hs, hq⟩
theorem pair_ok {s : Str} {i c D : Int} {val : Int → PR Vl} {m : List (Str × Vl)} (h0 : 0 ≤ i) (h1 : i ≤ len s) (hc : mapN m + c ≤ i) (hv : ∀ k, i ≤ k → k ≤ len s → POk (GoodV (4 * len s + 100) D) len k s (val k)) (hm : MapG (4 * len s + 100) D m) : POk (MapG (4 * len s + 100) D) mapN c s (pairT s i val m) := by
  have ht := text_ok h0 h1
  unfold pairT
  generalize textT s i = r at ht
  cases r with
  | er c p => exact ht
  | ok n j =>
    obtain ⟨h2, h5, h3, h4⟩ := ht
    have h5 : 2 + i ≤ j := h5
    have hb := blankTo_bd s j h3 h4
    dsimp only
    split
    · rename_i hw
      have := hasW_le (by omega) hb.2 hw
      rw [len_cons, len_nil] at this
      have hb2 := blankTo_bd s (blankTo s j + 1) (by omega) (by omega)
      exact (hv _ (by omega) hb2.2).mapR fun x hx => ⟨hm.put ⟨h2.1, h2.2, hx⟩, by have := (putV_n n x m).1; omega⟩
    · exact ⟨by decide, by omega, hb.2⟩
theorem val_ok {s : Str} : ∀ f : Nat, (∀ i d, 0 ≤ i → i ≤ len s → 0 ≤ d → d ≤ 128 → POk (GoodV (4 * len s + 100) (128 - d)) len i s (valT f s i d)) ∧
    (∀ i d l c, 0 ≤ i → i ≤ len s → 0 ≤ d → d < 128 → (∀ x ∈ l, GoodV (4 * len s + 100) (128 - (d + 1)) x) → len l.flatten + c ≤ i → POk (fun l : List Vl => ∀ x ∈ l, GoodV (4 * len s + 100) (128 - (d + 1)) x) (fun l => len l.flatten) c s (itemsT f s d l i)) ∧
    (∀ i d m c, 0 ≤ i → i ≤ len s → 0 ≤ d → d < 128 → MapG (4 * len s + 100) (128 - (d + 1)) m → mapN m + c ≤ i → POk (MapG (4 * len s + 100) (128 - (d + 1))) mapN c s (pairsT f s d m i)) := by
  have hs := len_nonneg s
  intro f
  induction f with
  | zero =>
    refine ⟨fun i d h0 h1 _ _ => ?_, fun i d l c h0 h1 _ _ _ _ => ?_, fun i d m c h0 h1 _ _ _ _ => ?_⟩
    · rw [valT]; exact ⟨by decide, h0, h1⟩
    · rw [itemsT]; exact ⟨by decide, h0, h1⟩
    · rw [pairsT]; exact ⟨by decide, h0, h1⟩
  | succ f ih =>
    refine ⟨fun i d h0 h1 h2 h3 => ?_, fun i d l c h0 h1 h2 h3 hl hc => ?_, fun i d m c h0 h1 h2 h3 hm hc => ?_⟩
    · have hw : ∀ k : Int, k = 0 ∨ k = 1 ∨ k = 2 → GoodV (4 * len s + 100) (128 - d) [kindN k] := fun k hk => by
        refine one_good ?_ (by show k < 5; omega) rfl rfl (by omega) (by show len ([] : Str) ≤ _; rw [len_nil]; omega) (by omega)
        rcases hk with rfl | rfl | rfl <;> decide
      have l1 : ∀ n : Nd, len [n] = 1 := fun n => rfl
      rw [valT]
      split
      · rename_i hh; have := hasW_le h0 h1 hh; exact ⟨hw 0 (.inl rfl), by rw [l1]; omega, by omega, this⟩
      split
      · rename_i hh; have := hasW_le h0 h1 hh; exact ⟨hw 1 (.inr (.inl rfl)), by rw [l1]; omega, by omega, this⟩
      split
      · rename_i hh; have := hasW_le h0 h1 hh; exact ⟨hw 2 (.inr (.inr rfl)), by rw [l1]; omega, by omega, this⟩
      split
      · exact ⟨by decide, h0, h1⟩
      split
      · refine (text_ok h0 h1).mapR fun x hx => ⟨one_good ?_ (by show (4 : Int) < 5; decide) rfl rfl (by omega) hx.2 (by omega), by rw [l1]; omega⟩
        show plainB ⟨4, 0, [], x, false, 0⟩ = true
        unfold plainB bareN
        rw [if_neg (by dsimp only; omega), if_neg (by dsimp only; omega), if_pos rfl, hx.1]
        simp
      split
      · exact num_ok h0 (by omega) (by assumption) (by omega)
      split
      · exact ⟨by decide, h0, h1⟩
      split
      · exact ⟨by decide, h0, h1⟩
      have e : (128 - d : Int) = 128 - (d + 1) + 1 := by omega
      rename_i hd
      have hd : d < 128 := by omega
      rw [e]
      split
      · exact (POk.parts h0 (by omega) (P := fun l : List Vl => ∀ x ∈ l, GoodV (4 * len s + 100) (128 - (d + 1)) x) (sz := fun l => len l.flatten) (c := i + 1) (fun x hx => by cases hx) (by show len ([] : List Nd) + (i + 1) ≤ i + 1; rw [len_nil]; omega) fun k k0 k1 => ih.2.1 k d [] (i + 1) (by omega) k1 h2 hd (fun x hx => by cases hx) (by show len ([] : List Nd) + (i + 1) ≤ k; rw [len_nil]; omega)).mapR fun l hl => ⟨list_goodV (by omega) (by omega) hl, by show len (listV l) + i ≤ len l.flatten + (i + 1); unfold listV; rw [len_cons]; omega⟩
      · exact (POk.parts h0 (by omega) (P := MapG (4 * len s + 100) (128 - (d + 1))) (sz := mapN) (c := i + 1) MapG.nil (by show len ([] : List Nd) + (i + 1) ≤ i + 1; rw [len_nil]; omega) fun k k0 k1 => ih.2.2 k d [] (i + 1) (by omega) k1 h2 hd MapG.nil (by show len ([] : List Nd) + (i + 1) ≤ k; rw [len_nil]; omega)).mapR fun l hl => ⟨obj_goodV (by omega) (by omega) hl, by have := objV_le hl.1; omega⟩
    · rw [itemsT]
      refine POk.more ?_ fun x k hx hz k0 k1 => ih.2.1 k d x c k0 k1 h2 h3 hx hz
      refine (ih.1 i (d + 1) h0 h1 (by omega) (by omega)).mapR fun v hv => ⟨fun x hx => ?_, ?_⟩
      · rcases List.mem_append.1 hx with hx | hx
        · exact hl x hx
        · rw [List.mem_singleton] at hx; subst hx; exact hv
      · show len (l ++ [v]).flatten + c ≤ len v + i
        rw [List.flatten_append, len_app]
        simp only [List.flatten_cons, List.flatten_nil, List.append_nil]; omega
    · rw [pairsT]
      refine POk.more ?_ fun x k hx hz k0 k1 => ih.2.2 k d x c k0 k1 h2 h3 hx hz
      exact pair_ok h0 h1 hc (fun k k0 k1 => ih.1 k (d + 1) (by omega) k1 (by omega) (by omega)) hm
end Go.Eng
namespace Go.Eng

theorem at_mem {α : Type} [Inhabited α] {l : List α} {k : Int} (h0 : 0 ≤ k) (h1 : k < len l) : at' l k ∈ l := at'_mem h0 h1
theorem mem_at {α : Type} [Inhabited α] {l : List α} {x : α} (h : x ∈ l) : ∃ i : Int, 0 ≤ i ∧ i < len l ∧ at' l i = x := by
  obtain ⟨i, hi, e⟩ := List.getElem_of_mem h
  refine ⟨i, by omega, by unfold len; omega, ?_⟩
  obtain ⟨hlt, e2⟩ := at'_eq l (i := i) (by omega) (by unfold len; omega)
  rw [e2]; simpa using e
theorem at_inj {α : Type} [Inhabited α] {l : List α} (hn : l.Nodup) {i j : Int} (hi0 : 0 ≤ i) (hi : i < len l) (hj0 : 0 ≤ j) (hj : j < len l) (h : at' l i = at' l j) : i = j := by
  obtain ⟨h1, e1⟩ := at'_eq l hi0 hi
  obtain ⟨h2, e2⟩ := at'_eq l hj0 hj
  rw [e1, e2] at h
  have := (List.getElem_inj hn).1 h
  omega
theorem subA_snoc {α : Type} [Inhabited α] {l : List α} {k : Int} (h0 : 0 ≤ k) (h1 : k < len l) : Eng.sub l 0 (k + 1) = Eng.sub l 0 k ++ [at' l k] := by
  obtain ⟨hlt, e⟩ := at'_eq l h0 h1
  unfold Eng.sub
  rw [e, show (k + 1).toNat - (0 : Int).toNat = k.toNat + 1 by omega, show k.toNat - (0 : Int).toNat = k.toNat by omega]
  simp only [Int.toNat_zero, List.drop_zero]
  rw [List.take_add_one, List.getElem?_eq_getElem hlt]; rfl
theorem subA_all {α : Type} {l : List α} {k : Int} (h : len l ≤ k) : Eng.sub l 0 k = l := by
  unfold Eng.sub len at *
  simp only [Int.toNat_zero, List.drop_zero, Nat.sub_zero]
  exact List.take_of_length_le (by omega)
theorem subA_at {α : Type} [Inhabited α] {l : List α} {k i : Int} (h0 : 0 ≤ i) (h1 : i < k) (hk : k ≤ len l) : at' (Eng.sub l 0 k) i = at' l i := by
  unfold at' Eng.sub
  simp only [Int.toNat_zero, List.drop_zero, Nat.sub_zero, List.getD]
  rw [List.getElem?_take, if_pos (by omega)]
theorem mem_sub {α : Type} [Inhabited α] {l : List α} {k : Int} (hk : k ≤ len l) {x : α} (h : x ∈ Eng.sub l 0 k) : ∃ i : Int, 0 ≤ i ∧ i < k ∧ at' l i = x := by
  unfold Eng.sub at h
  simp only [Int.toNat_zero, List.drop_zero, Nat.sub_zero] at h
  obtain ⟨i, hi, e⟩ := List.getElem_of_mem h
  rw [List.length_take] at hi
  refine ⟨i, by omega, by omega, ?_⟩
  obtain ⟨hlt, e2⟩ := at'_eq l (i := i) (by omega) (by unfold len at *; omega)
  rw [e2, ← e]; simp
theorem sub_mem {α : Type} [Inhabited α] {l : List α} {k i : Int} (h0 : 0 ≤ i) (h1 : i < k) (hk : k ≤ len l) : at' l i ∈ Eng.sub l 0 k := by
  obtain ⟨hlt, e⟩ := at'_eq l h0 (by omega)
  unfold Eng.sub
  simp only [Int.toNat_zero, List.drop_zero, Nat.sub_zero]
  rw [e]
  exact List.mem_take_iff_getElem.2 ⟨i.toNat, by omega, rfl⟩
/-- The best one so far of those that are not done. -/
def BestOK (ns : List Str) (dn : List Bool) (i best : Int) : Prop := (best = -1 ∧ ∀ q, 0 ≤ q → q < i → at' dn q = true) ∨ (0 ≤ best ∧ best < i ∧ at' dn best = false ∧ ∀ q, 0 ≤ q → q < i → at' dn q = false → ¬ at' ns q < at' ns best)
theorem BestOK.yes {ns : List Str} {dn : List Bool} {i best : Int} (h : BestOK ns dn i best) (h0 : 0 ≤ i) (hd : at' dn i = false) (hc : best < 0 ∨ at' ns i < at' ns best) : BestOK ns dn (i + 1) i := by
  refine .inr ⟨h0, by omega, hd, fun q hq0 hq hqd => ?_⟩
  by_cases hqi : q = i
  · subst hqi; exact List.lt_irrefl _
  · rcases h with ⟨_, h2⟩ | ⟨h1, _, _, h2⟩
    · rw [h2 q hq0 (by omega)] at hqd; cases hqd
    · have h3 := h2 q hq0 (by omega) hqd
      have h4 := hc.resolve_left (by omega)
      exact fun h5 => h3 (List.lt_trans h5 h4)
theorem BestOK.no {ns : List Str} {dn : List Bool} {i best : Int} (h : BestOK ns dn i best) (hc : at' dn i = true ∨ (0 ≤ best ∧ ¬ at' ns i < at' ns best)) : BestOK ns dn (i + 1) best := by
  rcases h with ⟨h1, h2⟩ | ⟨h1, h2, h3, h4⟩
  · refine .inl ⟨h1, fun q hq0 hq => ?_⟩
    by_cases hqi : q = i
    · subst hqi; exact hc.resolve_right (fun h => by omega)
    · exact h2 q hq0 (by omega)
  · refine .inr ⟨h1, by omega, h3, fun q hq0 hq hqd => ?_⟩
    by_cases hqi : q = i
    · subst hqi
      rcases hc with hc | hc
      · rw [hc] at hqd; cases hqd
      · exact hc.2
    · exact h4 q hq0 (by omega) hqd
/-- Done are those that stand already. -/
def DoneOK (ns : List Str) (dn : List Bool) (j : Int) : Prop := len dn = len ns ∧ ∀ i, 0 ≤ i → i < len ns → (at' dn i = true ↔ at' ns i ∈ Eng.sub (sortN ns) 0 j)
theorem DoneOK.start (ns : List Str) : DoneOK ns (List.replicate (len ns).toNat false) 0 := by
  refine ⟨by unfold len; simp, fun i h0 h1 => ?_⟩
  have e : at' (List.replicate (len ns).toNat false) i = false := by unfold at'; simp [List.getD, List.getElem?_replicate]; split <;> rfl
  rw [e]
  simp [Eng.sub]
theorem DoneOK.best {ns : List Str} {dn : List Bool} {j best : Int} (hn : ns.Nodup) (h : DoneOK ns dn j) (h0 : 0 ≤ j) (hj : j < len ns) (hb : BestOK ns dn (len ns) best) : 0 ≤ best ∧ best < len ns ∧ at' ns best = at' (sortN ns) j := by
  have hsl := sortN_len ns
  have hsn : (sortN ns).Nodup := (List.mergeSort_perm ns _).nodup_iff.2 hn
  have hjm : at' (sortN ns) j ∈ ns := sortN_mem.1 (at_mem h0 (by omega))
  obtain ⟨i, hi0, hi, hie⟩ := mem_at hjm
  have hnot : ∀ q, j ≤ q → q < len ns → at' (sortN ns) q ∉ Eng.sub (sortN ns) 0 j := fun q hq hq1 hm => by
    obtain ⟨p, hp0, hp, hpe⟩ := mem_sub (by omega) hm
    have := at_inj hsn hp0 (by omega) (by omega) (by omega) hpe
    omega
  have hid : at' dn i = false := by
    cases hd : at' dn i with
    | false => rfl
    | true => have := (h.2 i hi0 hi).1 hd; rw [hie] at this; exact absurd this (hnot j (Int.le_refl _) hj)
  rcases hb with ⟨h1, h2⟩ | ⟨h1, h2, h3, h4⟩
  · rw [h2 i hi0 hi] at hid; cases hid
  · refine ⟨h1, h2, ?_⟩
    have h5 := h4 i hi0 hi hid
    rw [hie] at h5
    obtain ⟨q, hq0, hq, hqe⟩ := mem_at (sortN_mem.2 (at_mem h1 h2))
    rw [← hqe] at h5 ⊢
    by_cases hqj : q < j
    · have : at' dn best = true := (h.2 best h1 h2).2 (by rw [← hqe]; exact sub_mem hq0 hqj (by omega))
      rw [this] at h3; cases h3
    · by_cases he : q = j
      · rw [he]
      · obtain ⟨ha, ea⟩ := at'_eq (sortN ns) h0 (by omega)
        obtain ⟨hc, ec⟩ := at'_eq (sortN ns) hq0 hq
        have hlt := List.pairwise_iff_getElem.1 (sortN_lt hn) j.toNat q.toNat ha hc (by omega)
        rw [ea, ec] at h5
        exact absurd hlt h5
theorem DoneOK.step {ns : List Str} {dn : List Bool} {j best : Int} (hn : ns.Nodup) (h : DoneOK ns dn j) (h0 : 0 ≤ j) (hj : j < len ns) (hb : 0 ≤ best ∧ best < len ns ∧ at' ns best = at' (sortN ns) j) : DoneOK ns (dn.set best.toNat true) (j + 1) := by
  have hsl := sortN_len ns
  refine ⟨by unfold len; rw [List.length_set]; exact h.1, fun i hi0 hi => ?_⟩
  rw [subA_snoc h0 (by omega), List.mem_append, List.mem_singleton, ← hb.2.2]
  have hd := h.2 i hi0 hi
  have hdl : i.toNat < dn.length := by have := h.1; unfold len at *; omega
  by_cases hib : i = best
  · subst hib
    have : at' (dn.set i.toNat true) i = true := by unfold at'; simp [List.getD, hdl]
    rw [this]; simp
  · have : at' (dn.set best.toNat true) i = at' dn i := by
      unfold at'; simp only [List.getD]; rw [List.getElem?_set_ne (by omega)]
    rw [this, hd]
    refine ⟨.inl, fun hx => hx.resolve_right fun e => hib (at_inj hn hi0 hi hb.1 hb.2.1 e)⟩
theorem zip_get {ns : List Str} {xs : List Vl} (hn : ns.Nodup) (hl : len ns = len xs) {b : Int} (h0 : 0 ≤ b) (h1 : b < len ns) : (getV (ns.zip xs) (at' ns b)).getD [] = at' xs b := by
  have hk : KeysOK (ns.zip xs) := by unfold KeysOK; rw [zip_keys hl]; exact hn
  have hz := zip_at (ns := ns) (xs := xs) h0 (by omega) hl
  have := getV_of_mem hk (List.mem_of_getElem? hz)
  rw [this]; rfl
theorem partsL_get {l : List Str} {m : List (Str × Vl)} {i : Int} (h0 : 0 ≤ i) (h1 : i < len l) : at' (partsL l m) i = (getV m (at' l i)).getD [] := by
  obtain ⟨hlt, e⟩ := at'_eq l h0 h1
  rw [e]
  unfold at' partsL
  simp [List.getD, hlt]
theorem partsL_snoc (l : List Str) (n : Str) (m : List (Str × Vl)) : partsL (l ++ [n]) m = partsL l m ++ [(getV m n).getD []] := by unfold partsL; simp
end Go.Eng
set_option maxRecDepth 100000
namespace Go.Proofs.YtjfaikgooldcbaaGreatDoor
open Go.Eng

def bolC (b : Bool) : List Value := [.bool b]
theorem bolC_len (b : Bool) : (bolC b).length = 1 := rfl
theorem sameE {f : FuncId} {vs : Array Value} {v : Value} {w : World} (h : Calls Tryz.prog f vs w fun e w' => e = .returned v ∧ w' = w) : Calls Tryz.prog f vs w fun e w' => e = .returned v ∧ Ext w w' := h.mono fun e w' ⟨h1, h2⟩ => ⟨h1, h2 ▸ Ext.refl _⟩
theorem object_c (a b : Value) (ns : List Str) (rs : List SlH) (xs : List Vl) (w : World) (M : Mem) (hM : Sat w M) (ha : Sl M 1 ns.length a (ns.flatMap strC)) (hu : (kr b rs xs).ok M) (hl : len ns = len xs) (hne : ∀ x ∈ xs, x ≠ []) (hb : len xs.flatten ≤ 1048576) (hr : len rs ≤ 1048576)
  (hnd : ns.Nodup) (hut : ∀ n ∈ ns, utf n = true ∧ len n ≤ 4398046511104) :
  Calls Tryz.prog 23 [a, b].toArray w (MRet w M (fun v : Value => .tuple #[v, i64 0]) (fun _ => True) fun v => [(0, kn v 6 (objV (ns.zip xs)) Nd.cells)]) := by
 have hlr := kr_len hu
 have hln := len_nonneg ns
 have hsl := sortN_len ns
 have hkz : (ns.zip xs).map (·.1) = ns := zip_keys hl
 refine xenter ttok Tryz.func23 rfl Tryz.ntmps23 [(0, kn a 1 ns strC), (1, kr b rs xs)] [] [.sl 0 a, .sl 1 b] rfl (St.start hM) (fc 0 ha strC_len (fcons hu fnil)) (fun B hB => ?_) rfl
 refine xbr rfl (eok rfl) (by omega) (fun hb1 => ?_) (fun hb1 => ?_) <;> simp only [zb] at hb1
 ·exfalso; omega
 refine xlit 2 [] strC 1 9 strC_len rfl (eok rfl) (by omega) rfl (eok rfl) (fun w => by kernel_rfl) rfl fun v2 => ?_
 refine xlit 3 [] valI 1 24 valI_len rfl (eok rfl) (by omega) rfl (eok rfl) (fun w => by kernel_rfl) rfl fun v3 => ?_
 refine xmake 4 false bolC bolC_len rfl (eok rfl) (by omega) rfl (eok rfl) Tryz.underlying74 Tryz.type4 rfl rfl (by omega) (by omega) (by show (1 : Int) * len ns ≤ _; omega) (by omega) fun v4 l4 hl4 => ?_
 refine run_ok rfl (eok rfl) (by omega) (xknow 7 (kr v3 [] (partsL (Eng.sub (sortN ns) 0 0) (ns.zip xs))) (fun w M hX => ⟨hX.sl 3 rfl, valI_len, trivial⟩) ?_)
 refine xloop (σ := Int × Value × Value × List SlH × List Bool) (fun (j, v2, v3, hs, dn) => ⟨[(0, kn a 1 ns strC), (1, kr b rs xs), (2, kn v2 1 (Eng.sub (sortN ns) 0 j) strC), (3, kn v3 1 hs valI), (7, kr v3 hs (partsL (Eng.sub (sortN ns) 0 j) (ns.zip xs)))], [(2, .ho (ownS v2 (Eng.sub (sortN ns) 0 j))), (3, .ho (ownV v3 hs)), (4, .pv 4 (kn v4 1 dn bolC) bolC_len)], [Z 0 (.sl 0 a), Z 1 (.sl 1 b), Z 6 (.sl 2 v2), Z 7 (.sl 3 v3), Z 8 (.sl 4 v4)]⟩)
   (fun (j, v2, v3, hs, dn) => 0 ≤ j ∧ j ≤ len ns ∧ DoneOK ns dn j ∧ len hs = j) (fun (j, v2, v3, hs, dn) => (len ns - j).toNat) (0, v2, v3, [], l4) rfl (eok rfl) (by omega) rfl ⟨by omega, by omega, by rw [hl4]; exact DoneOK.start ns, rfl⟩ ?_
 rintro ⟨j, v2, v3, hs, dn⟩ ⟨hj0, hj1, hD, hhs⟩
 have hsj : len (Eng.sub (sortN ns) 0 j) = j := by rw [sub_len (by omega) hj0 (by omega)]; omega
 have hdl := hD.1
 refine xbr rfl (eok rfl) (by omega) (fun hb2 => ?_) (fun hb2 => ?_) <;> simp only [zb] at hb2
 ·refine xloop (σ := Int × Int) (fun (i, best) => ⟨[(0, kn a 1 ns strC), (1, kr b rs xs), (2, kn v2 1 (Eng.sub (sortN ns) 0 j) strC), (3, kn v3 1 hs valI), (7, kr v3 hs (partsL (Eng.sub (sortN ns) 0 j) (ns.zip xs)))], [(2, .ho (ownS v2 (Eng.sub (sortN ns) 0 j))), (3, .ho (ownV v3 hs)), (4, .pv 4 (kn v4 1 dn bolC) bolC_len)], [Z 0 (.sl 0 a), Z 1 (.sl 1 b), Z 6 (.sl 2 v2), Z 7 (.sl 3 v3), Z 8 (.sl 4 v4), Z 9 (I best), Z 10 (I i)]⟩)
    (fun (i, best) => 0 ≤ i ∧ i ≤ len ns ∧ BestOK ns dn i best) (fun (i, best) => (len ns - i).toNat) (0, -1) rfl (eok rfl) (by omega) rfl ⟨by omega, by omega, .inl ⟨rfl, fun q h0 h1 => by omega⟩⟩ ?_
  rintro ⟨i, best⟩ ⟨hi0, hi1, hBe⟩
  have hbi : -1 ≤ best ∧ best < len ns := by rcases hBe with ⟨h1, _⟩ | ⟨h1, h2, _⟩ <;> omega
  refine xbr rfl (eok rfl) (by omega) (fun hb3 => ?_) (fun hb3 => ?_) <;> simp only [zb] at hb3
  ·refine xdraw rfl (eok rfl) (by omega) tryz_mixed (by decide +kernel) (xqend rfl (eok rfl) (by simp only [zb] <;> omega) ?_)
   refine xbr rfl (eok rfl) (by omega) (fun hb4 => ?_) (fun hb4 => ?_) <;> rw [Go.Proofs.bytesLess_eq] at hb4 <;> simp only [zb] at hb4
   ·exact xround (i + 1, i) rfl (eok rfl) (by omega) rfl ⟨by omega, by omega, hBe.yes hi0 hb4.1 hb4.2⟩ (by show Int.toNat _ < Int.toNat _; omega)
   ·exact xround (i + 1, best) rfl (eok rfl) (by omega) rfl ⟨by omega, by omega, hBe.no (hb4.imp id fun h => ⟨by omega, h.2⟩)⟩ (by show Int.toNat _ < Int.toNat _; omega)
  ·have hie : i = len ns := by omega
   subst hie
   rw [hsj] at hb2
   obtain ⟨h5, h6, h7⟩ := hD.best hnd hj0 hb2 hBe
   obtain ⟨h8, h9⟩ := hut _ (at_mem h5 h6)
   refine xdraw rfl (eok rfl) (by omega) tryz_mixed (by decide +kernel) ?_
   refine xqcall rfl (eok rfl) (by simp only [zb] <;> omega) Tryz.call38 rfl rfl (eok rfl) (fun _ w M hX => sameE (utf_c (at' ns best) w (by omega))) rfl ?_
   refine xqend rfl (eok rfl) (by simp only [zb] <;> omega) ?_
   refine xbr rfl (eok rfl) (by omega) (fun hb4 => ?_) (fun hb4 => ?_) <;> simp only [zb] at hb4
   ·exfalso
    rw [h8] at hb4
    obtain ⟨h10, h11⟩ := hb4.resolve_left (by decide)
    rw [hsj] at h10 h11
    rw [subA_at (by omega) (by omega) (by omega), h7] at h11
    have := at_inj ((List.mergeSort_perm ns _).nodup_iff.2 hnd) (by omega) (by have := sortN_len ns; unfold sortN at this; omega) (by omega) (by have := sortN_len ns; unfold sortN at this; omega) h11
    omega
   ·refine xset true rfl (eok rfl) (by omega) rfl (eok rfl) rfl Tryz.sizeOf4 rfl rfl rfl (by omega) fun dn' hdn => ?_
    have hss := subA_snoc (l := sortN ns) hj0 (by omega)
    have hzg := zip_get hnd hl h5 h6
    refine xlit 5 [at' ns best] strC 1 9 strC_len rfl (eok rfl) (by omega) rfl (eok rfl) (fun w => by kernel_rfl) rfl fun v5 => ?_
    refine xapp 16 rfl (eok rfl) (by omega) rfl (eok rfl) rfl Tryz.underlying46 Tryz.type9 rfl rfl strC_one (by rw [hsj]; simp only [len_cons, len_nil]; omega) fun v2' => ?_
    refine xlit 6 [at' rs best] valI 1 24 valI_len rfl (eok rfl) (by omega) rfl (eok rfl) (fun w => by kernel_rfl) rfl fun v6 => ?_
    refine xapp 24 rfl (eok rfl) (by omega) rfl (eok rfl) rfl Tryz.underlying47 Tryz.type24 rfl rfl valI_one (by rw [hhs]; simp only [len_cons, len_nil]; omega) fun v3' => ?_
    refine run_ok rfl (eok rfl) (by omega) (xknow 7 (kr v3' (hs ++ [at' rs best]) (partsL (Eng.sub (sortN ns) 0 (j + 1)) (ns.zip xs))) (fun w M hX => ⟨hX.sl 3 rfl, valI_len, by rw [hss, ← h7, partsL_snoc, hzg]; exact RowsV.snoc (kr_at (hX.f.get (k := 1) rfl) h5 (by omega)).sl (hX.f.get (k := 7) rfl).more⟩) ?_)
    exact xround (j + 1, v2', v3', hs ++ [at' rs best], dn') rfl (eok rfl) (by omega) (by dsimp only; rw [hss, ← h7]; rfl) ⟨by omega, by omega, by rw [hdn]; exact hD.step hnd hj0 hb2 ⟨h5, h6, h7⟩, by rw [len_app, hhs]; rfl⟩ (by show Int.toNat _ < Int.toNat _; omega)
 ·rw [hsj] at hb2
  have hje : j = len ns := by omega
  subst hje
  have hpl : len (partsL (sortN ns) (ns.zip xs)).flatten = len xs.flatten := by
   have := partsL_len (m := ns.zip xs) (by unfold KeysOK; rw [hkz]; exact hnd)
   rw [hkz, zip_vals hl] at this; exact this
  have hpn : ∀ x ∈ partsL (sortN ns) (ns.zip xs), x ≠ [] := by
   intro x hx
   obtain ⟨n, hn, rfl⟩ := List.mem_map.1 hx
   obtain ⟨i, hi0, hi, hie⟩ := mem_at (sortN_mem.1 hn)
   rw [← hie, zip_get hnd hl hi0 hi]
   exact hne _ (at_mem hi0 (by omega))
  have hlo := laid_obj (ns.zip xs)
  rw [hkz] at hlo
  refine xcallM (fun v => .sl 8 v) [8] rfl (eok rfl) (by omega) rfl Tryz.call39 rfl rfl (eok rfl) (fun w M hX => named_c v2 v3 (sortN ns) hs (partsL (sortN ns) (ns.zip xs)) w M hX.st.sat (by have := hX.sl 2 rfl; rw [subA_all (by omega)] at this; exact this) (by have := hX.f.get (k := 7) rfl; rw [subA_all (by omega)] at this; exact this) (by rw [hsl]; unfold partsL len; rw [List.length_map]; exact hsl.symm) hpn (by omega) (by omega)) (fun _ => rfl) fun v _ => ?_
  exact xret hB rfl rfl (eok rfl) (by omega) rfl (eok rfl) fun w M hX => ⟨v, M, rfl, trivial, hX.st.done, fc 0 (by have := hX.sl 8 rfl; rw [hlo] at this; exact this) Nd.cells_len fnil⟩
end Go.Proofs.YtjfaikgooldcbaaGreatDoor
namespace Go.Eng

/-- It is a value's nodes. -/
def WfV (x : Vl) : Prop := ∃ t : Tr, x = t.flat ∧ t.wf ∧ t.node.name = []
theorem WfV.ne {x : Vl} (h : WfV x) : x ≠ [] := by
  obtain ⟨t, rfl, _⟩ := h; cases t; rw [Tr.flat]; exact List.cons_ne_nil _ _
theorem named_back {t : Tr} (h : t.node.name = []) (n : Str) : ((t.named n).named []).flat = t.flat := by
  obtain ⟨nd, ps⟩ := t
  have h' : nd.name = [] := h
  simp only [Tr.named, Tr.flat]
  congr 1
  cases nd; simp_all
theorem pair_trees : ∀ {l : List (Str × Vl)}, (∀ p ∈ l, WfV p.2) → ∃ ts : List Tr, (l.map fun p => nameV p.1 p.2).flatten = flatL ts ∧ ts.map (·.node.name) = l.map (·.1) ∧ (ts.map fun u => (u.named []).flat) = l.map (·.2) ∧ wfL ts
  | [], _ => ⟨[], rfl, rfl, rfl, trivial⟩
  | p :: l, h => by
    obtain ⟨t, ht, h1, h2⟩ := h p List.mem_cons_self
    obtain ⟨ts, e1, e2, e3, e4⟩ := pair_trees (fun y hy => h y (List.mem_cons_of_mem _ hy))
    have hn : (t.named p.1).node.name = p.1 := by cases t; rfl
    refine ⟨t.named p.1 :: ts, ?_, ?_, ?_, Tr.named_wf h1, e4⟩
    · rw [List.map_cons, List.flatten_cons, flatL, e1, ht, Tr.named_flat]
    · rw [List.map_cons, List.map_cons, e2, hn]
    · rw [List.map_cons, List.map_cons, e3, named_back h2, ht]
abbrev keysV (m : List (Str × Vl)) : List Str := m.map (·.1)
def MapW (m : List (Str × Vl)) : Prop := KeysOK m ∧ ∀ p ∈ m, WfV p.2
theorem obj_tree {m : List (Str × Vl)} (h : MapW m) : ∃ t : Tr, t.flat = objV m ∧ t.wf ∧ t.node.name = [] ∧ kidNs t = sortN (keysV m) ∧ kidsV t = partsL (sortN (keysV m)) m := by
  have hl1 : ((sortN (keysV m)).map fun n => (n, (getV m n).getD [])).map (·.1) = sortN (keysV m) := by rw [List.map_map]; exact List.map_id _
  have hl2 : ((sortN (keysV m)).map fun n => (n, (getV m n).getD [])).map (·.2) = partsL (sortN (keysV m)) m := by rw [List.map_map]; rfl
  obtain ⟨ts, e1, e2, e3, e4⟩ := pair_trees (l := (sortN (keysV m)).map fun n => (n, (getV m n).getD [])) (fun p hp => by
    obtain ⟨n, hn, rfl⟩ := List.mem_map.1 hp
    obtain ⟨x, h1, h2⟩ := getV_in (sortN_mem.1 hn)
    have := h.2 _ h2
    rw [h1]; exact this)
  have e5 : len ((sortN (keysV m)).map fun n => (n, (getV m n).getD [])) = len ts := by
    have := congrArg List.length e2
    rw [List.length_map, List.length_map] at this
    unfold len; omega
  refine ⟨.mk ⟨6, len ts, [], [], false, 0⟩ ts, ?_, ⟨rfl, e4⟩, rfl, ?_, ?_⟩
  · unfold objV laidV
    rw [Tr.flat, e1, ← e5]
  · unfold kidNs; show (if (6 : Int) = 6 then ts.map (·.node.name) else []) = _; rw [if_pos rfl, e2, hl1]
  · show (ts.map fun u => (u.named []).flat) = _; rw [e3, hl2]
theorem MapW.obj {m : List (Str × Vl)} (h : MapW m) : WfV (objV m) := by
  obtain ⟨t, h1, h2, h3, _⟩ := obj_tree h; exact ⟨t, h1.symm, h2, h3⟩
theorem putV_mem {m : List (Str × Vl)} {n : Str} {x : Vl} {p : Str × Vl} (h : p ∈ putV m n x) : p ∈ m ∨ p = (n, x) := by
  induction m with
  | nil => right; simpa [putV] using h
  | cons q m ih =>
    unfold putV at h
    split at h
    · rcases List.mem_cons.1 h with h | h
      · exact .inr h
      · exact .inl (List.mem_cons_of_mem _ h)
    · rcases List.mem_cons.1 h with h | h
      · exact .inl (h ▸ List.mem_cons_self)
      · exact (ih h).imp (List.mem_cons_of_mem _) id
theorem MapW.put {m : List (Str × Vl)} (h : MapW m) {n : Str} {x : Vl} (hx : WfV x) : MapW (putV m n x) := ⟨h.1.put n x, fun p hp => (putV_mem hp).elim (h.2 p) fun e => e ▸ hx⟩
/-- Without a name. -/
def delV (m : List (Str × Vl)) (n : Str) : List (Str × Vl) := m.filter fun p => !(p.1 == n)
theorem delV_keys (m : List (Str × Vl)) (n : Str) : keysV (delV m n) = (keysV m).filter fun k => !(k == n) := by
  unfold delV keysV
  rw [List.filter_map]; rfl
theorem sortN_sorted {l : List Str} (h : l.Pairwise (fun x y => decide (x ≤ y) = true)) : sortN l = l := List.mergeSort_of_pairwise h
theorem sortN_filter (l : List Str) (p : Str → Bool) : sortN (l.filter p) = (sortN l).filter p := by
  have h1 : (sortN l).Pairwise (fun x y => decide (x ≤ y) = true) := List.pairwise_mergeSort str_trans str_total l
  rw [← sortN_sorted (h1.filter p)]
  exact sortN_perm ((List.mergeSort_perm l _).symm.filter p)
theorem MapW.del {m : List (Str × Vl)} (h : MapW m) (n : Str) : MapW (delV m n) := ⟨by unfold KeysOK; show (keysV (delV m n)).Nodup; rw [delV_keys]; exact h.1.filter _, fun p hp => h.2 p (List.mem_filter.1 hp).1⟩
theorem getV_del {m : List (Str × Vl)} {n k : Str} (h : ¬ k = n) : getV (delV m n) k = getV m k := by
  unfold delV
  induction m with
  | nil => rfl
  | cons p m ih =>
    rw [List.filter_cons]
    by_cases hp : p.1 = n
    · have : (!(p.1 == n)) = false := by simp [hp]
      rw [this]
      have hk : (k == p.1) = false := by rw [hp]; simpa using h
      simp only [Bool.false_eq_true, if_false, getV, hk]; exact ih
    · have : (!(p.1 == n)) = true := by simp [hp]
      rw [this]
      simp only [if_true, getV, ih]
theorem partsL_del (m : List (Str × Vl)) (n : Str) (l : List Str) : partsL (l.filter fun k => !(k == n)) (delV m n) = partsL (l.filter fun k => !(k == n)) m := by
  unfold partsL
  refine List.map_congr_left fun k hk => ?_
  have := (List.mem_filter.1 hk).2
  rw [getV_del (by simpa using this)]
theorem put_perm {m : List (Str × Vl)} (h : KeysOK m) (n : Str) (x : Vl) : (delV m n ++ [(n, x)]).Perm (putV m n x) := by
  unfold delV
  induction m with
  | nil => exact .refl _
  | cons p m ih =>
    have hk : KeysOK m := (List.nodup_cons.1 h).2
    have hn := (List.nodup_cons.1 h).1
    unfold putV
    by_cases hp : n = p.1
    · rw [if_pos (by simpa using hp), List.filter_cons, if_neg (by simp [hp])]
      have : (m.filter fun q => !(q.1 == n)) = m := List.filter_eq_self.2 fun q hq => by
        have : q.1 ≠ n := fun e => hn (by show p.1 ∈ _; rw [← hp, ← e]; exact List.mem_map_of_mem (f := fun x : Str × Vl => x.1) hq)
        simp [this]
      rw [this]
      exact List.perm_append_singleton _ _
    · rw [if_neg (by simpa using hp), List.filter_cons, if_pos (by simpa using fun e => hp e.symm)]
      exact (ih hk).cons p
theorem zip_parts (l : List Str) (m : List (Str × Vl)) : l.zip (partsL l m) = l.map fun k => (k, (getV m k).getD []) := by
  unfold partsL
  induction l with
  | nil => rfl
  | cons a l ih => simp [ih]
theorem back_map {m : List (Str × Vl)} (h : KeysOK m) : ((keysV m).map fun k => (k, (getV m k).getD [])) = m := by
  unfold keysV
  rw [List.map_map]
  conv => rhs; rw [← List.map_id m]
  refine List.map_congr_left fun p hp => ?_
  simp only [Function.comp, getV_of_mem h hp, Option.getD_some, id]
theorem flat_names : ∀ l : List (Str × Vl), len (l.map fun p => nameV p.1 p.2).flatten = len (l.map (·.2)).flatten
  | [] => rfl
  | p :: l => by rw [List.map_cons, List.map_cons, List.flatten_cons, List.flatten_cons, len_app, len_app, flat_names l, nameV_len]
theorem mapN_le : ∀ {m : List (Str × Vl)}, (∀ p ∈ m, p.2 ≠ []) → len m ≤ mapN m
  | [], _ => Int.le_refl _
  | p :: m, h => by
    have := mapN_le (m := m) fun q hq => h q (List.mem_cons_of_mem _ hq)
    have h2 := len_pos (h p List.mem_cons_self)
    unfold mapN at *
    rw [List.map_cons, List.flatten_cons, len_app, len_cons]; omega
theorem objV_len {m : List (Str × Vl)} (h : MapW m) : len (objV m) = 1 + mapN m ∧ len m ≤ mapN m := by
  refine ⟨?_, mapN_le fun p hp => (h.2 p hp).ne⟩
  have h1 := partsL_len h.1
  have e : ((sortN (keysV m)).map fun n => (n, (getV m n).getD [])).map (·.2) = partsL (sortN (keysV m)) m := by rw [List.map_map]; rfl
  unfold objV laidV
  rw [len_cons, flat_names, e, h1]; unfold mapN; omega
theorem delV_n : ∀ (m : List (Str × Vl)) (n : Str), mapN (delV m n) ≤ mapN m
  | [], _ => Int.le_refl _
  | p :: m, n => by
    have := delV_n m n
    unfold delV mapN at *
    have h2 := len_nonneg p.2
    rw [List.filter_cons]
    split
    · rw [List.map_cons, List.map_cons, List.flatten_cons, List.flatten_cons, len_app, len_app]; omega
    · rw [List.map_cons, List.flatten_cons, len_app]; omega
/-- What is put together anew is the object with it. -/
theorem with_eq {m : List (Str × Vl)} (h : MapW m) (n : Str) (x : Vl) : objV ((sortN (keysV (delV m n)) ++ [n]).zip (partsL (sortN (keysV (delV m n))) (delV m n) ++ [x])) = objV (putV m n x) := by
  refine objV_perm ?_ (h.1.put n x)
  have hd := h.del n
  rw [List.zip_append (by unfold partsL; rw [List.length_map]), zip_parts]
  refine List.Perm.trans (List.Perm.append_right _ ?_) (put_perm h.1 n x)
  refine ((List.mergeSort_perm (keysV (delV m n)) _).map _).trans ?_
  rw [back_map hd.1]
theorem with_new {m : List (Str × Vl)} (h : MapW m) (n : Str) : (sortN (keysV (delV m n)) ++ [n]).Nodup := by
  have hd := (h.del n).1
  have h1 : (sortN (keysV (delV m n))).Nodup := (List.mergeSort_perm _ _).nodup_iff.2 hd
  rw [List.nodup_append]
  refine ⟨h1, by simp, fun a ha b hb e => ?_⟩
  rw [List.mem_singleton] at hb
  subst hb; subst e
  have := sortN_mem.1 ha
  rw [delV_keys] at this
  simpa using (List.mem_filter.1 this).2
end Go.Eng
set_option maxRecDepth 100000
namespace Go.Proofs.YtjfaikgooldcbaaGreatDoor
open Go.Eng

theorem without_c (m : List (Str × Vl)) (n : Str) (vv : Value) (w : World) (M : Mem) (hM : Sat w M) (hv : Sl M 6 (objV m).length vv ((objV m).flatMap Nd.cells)) (hm : MapW m) (hb : len (objV m) ≤ 1000000) :
  Calls Tryz.prog 112 [vv, str n].toArray w (MRet w M (fun v : Value => v) (fun _ => True) fun v => [(0, kn v 6 (objV (delV m n)) Nd.cells)]) := by
 obtain ⟨t, ht, hw, hn0, hkn, hkv⟩ := obj_tree hm
 obtain ⟨hol, hml⟩ := objV_len hm
 have hsl := sortN_len (keysV m)
 have hkl : len (keysV m) = len m := by unfold keysV len; rw [List.length_map]
 have hm0 := len_nonneg m
 have hpl : len (partsL (sortN (keysV m)) m) = len m := by unfold partsL len; rw [List.length_map]; unfold len at hsl hkl; omega
 refine xenter ttok Tryz.func112 rfl Tryz.ntmps112 [(0, kn vv 6 (objV m) Nd.cells)] [] [.sl 0 vv, .v (str n)] rfl (St.start hM) (fc 0 hv Nd.cells_len fnil) (fun B hB => ?_) rfl
 refine xcallO [] (fun v : Value => .sl 1 v) [1] (fun v => [(1, .ho (ownS v (sortN (keysV m))))]) rfl (eok rfl) (by omega) rfl Tryz.call58 rfl rfl (eok rfl) rfl (fun w M hS hF => by have := names2o_c t vv hS (by rw [ht]; exact (hF.get (k := 0) rfl).sl) (by rw [ht]; omega) hw; rw [hkn] at this; exact this) (fun _ => rfl) (fun _ => rfl) fun v1 _ => ?_
 refine xcallO [] (fun g : Value × List SlH => .sl 2 g.1) [2, 6] (fun g => [(2, .ho (ownV g.1 g.2))]) rfl (eok rfl) (by omega) rfl Tryz.call37 rfl rfl (eok rfl) rfl (fun w M hS hF => by have := parts2o_c t vv hS (by rw [ht]; exact (hF.get (k := 0) rfl).sl) (by rw [ht]; omega) hw; rw [hkv] at this; exact this) (fun _ => rfl) (fun _ => rfl) fun g hg => ?_
 obtain ⟨v2, rs⟩ := g
 have hrl : len rs = len m := by rw [← hpl]; exact hg
 refine xlit 3 [] strC 1 9 strC_len rfl (eok rfl) (by omega) rfl (eok rfl) (fun w => by kernel_rfl) rfl fun v3 => ?_
 refine xlit 4 [] valI 1 24 valI_len rfl (eok rfl) (by omega) rfl (eok rfl) (fun w => by kernel_rfl) rfl fun v4 => ?_
 refine run_ok rfl (eok rfl) (by omega) (xknow 7 (kr v4 [] (partsL [] m)) (fun w M hX => ⟨hX.sl 4 rfl, valI_len, trivial⟩) ?_)
 refine xloop (σ := Int × Value × Value × List SlH) (fun (i, v3, v4, hs) => ⟨[(1, kn v1 1 (sortN (keysV m)) strC), (2, kn v2 1 rs valI), (6, kr v2 rs (partsL (sortN (keysV m)) m)), (3, kn v3 1 ((Eng.sub (sortN (keysV m)) 0 i).filter fun k => !(k == n)) strC), (4, kn v4 1 hs valI), (7, kr v4 hs (partsL ((Eng.sub (sortN (keysV m)) 0 i).filter fun k => !(k == n)) m))], [(3, .ho (ownS v3 ((Eng.sub (sortN (keysV m)) 0 i).filter fun k => !(k == n)))), (4, .ho (ownV v4 hs))], [Z 1 (.v (str n)), Z 5 (.sl 1 v1), Z 6 (.sl 2 v2), Z 7 (.sl 3 v3), Z 8 (.sl 4 v4), Z 9 (I i)]⟩)
   (fun (i, v3, v4, hs) => 0 ≤ i ∧ i ≤ len m ∧ len hs ≤ i ∧ len ((Eng.sub (sortN (keysV m)) 0 i).filter fun k => !(k == n)) ≤ i) (fun (i, v3, v4, hs) => (len m - i).toNat) (0, v3, v4, []) rfl (eok rfl) (by omega) rfl ⟨by omega, by omega, Int.le_refl _, Int.le_refl _⟩ ?_
 rintro ⟨i, v3, v4, hs⟩ ⟨hi0, hi1, hh, hf⟩
 refine xbr rfl (eok rfl) (by omega) (fun hb1 => ?_) (fun hb1 => ?_) <;> simp only [zb] at hb1
 ·have hss := subA_snoc (l := sortN (keysV m)) hi0 (by omega)
  have hat := partsL_at (sn := sortN (keysV m)) (m := m) hi0 (by omega)
  refine xbr rfl (eok rfl) (by omega) (fun hb2 => ?_) (fun hb2 => ?_) <;> simp only [zb] at hb2
  ·have hfs : ((Eng.sub (sortN (keysV m)) 0 (i + 1)).filter fun k => !(k == n)) = ((Eng.sub (sortN (keysV m)) 0 i).filter fun k => !(k == n)) ++ [at' (sortN (keysV m)) i] := by rw [hss, List.filter_append, List.filter_cons, if_pos (by simpa using hb2), List.filter_nil]
   refine xlit 8 [at' (sortN (keysV m)) i] strC 1 9 strC_len rfl (eok rfl) (by omega) rfl (eok rfl) (fun w => by kernel_rfl) rfl fun v8 => ?_
   refine xapp 16 rfl (eok rfl) (by omega) rfl (eok rfl) rfl Tryz.underlying46 Tryz.type9 rfl rfl strC_one (by simp only [len_cons, len_nil]; omega) fun v3' => ?_
   refine xlit 9 [at' rs i] valI 1 24 valI_len rfl (eok rfl) (by omega) rfl (eok rfl) (fun w => by kernel_rfl) rfl fun v9 => ?_
   refine xapp 24 rfl (eok rfl) (by omega) rfl (eok rfl) rfl Tryz.underlying47 Tryz.type24 rfl rfl valI_one (by simp only [len_cons, len_nil]; omega) fun v4' => ?_
   have hpa : at' (partsL (sortN (keysV m)) m) i = (getV m (at' (sortN (keysV m)) i)).getD [] := partsL_get hi0 (by omega)
   refine run_ok rfl (eok rfl) (by omega) (xknow 7 (kr v4' (hs ++ [at' rs i]) (partsL ((Eng.sub (sortN (keysV m)) 0 (i + 1)).filter fun k => !(k == n)) m)) (fun w M hX => ⟨hX.sl 4 rfl, valI_len, by rw [hfs, partsL_snoc, ← hpa]; exact RowsV.snoc (kr_at (hX.f.get (k := 6) rfl) hi0 (by omega)).sl (hX.f.get (k := 7) rfl).more⟩) ?_)
   exact xround (i + 1, v3', v4', hs ++ [at' rs i]) rfl (eok rfl) (by omega) (by dsimp only; rw [hfs]; rfl) ⟨by omega, by omega, by rw [len_app]; simp only [len_cons, len_nil]; omega, by rw [hfs, len_app]; simp only [len_cons, len_nil]; omega⟩ (by show Int.toNat _ < Int.toNat _; omega)
  ·have hfs : ((Eng.sub (sortN (keysV m)) 0 (i + 1)).filter fun k => !(k == n)) = ((Eng.sub (sortN (keysV m)) 0 i).filter fun k => !(k == n)) := by rw [hss, List.filter_append, List.filter_cons, if_neg (by simpa using hb2), List.filter_nil, List.append_nil]
   exact xround (i + 1, v3, v4, hs) rfl (eok rfl) (by omega) (by dsimp only; rw [hfs]; rfl) ⟨by omega, by omega, by omega, by rw [hfs]; omega⟩ (by show Int.toNat _ < Int.toNat _; omega)
 ·have hie : Eng.sub (sortN (keysV m)) 0 i = sortN (keysV m) := subA_all (by omega)
  have hlo := laid_obj (delV m n)
  have hks : sortN (keysV (delV m n)) = (sortN (keysV m)).filter fun k => !(k == n) := by rw [delV_keys, sortN_filter]
  rw [show (delV m n).map (·.1) = keysV (delV m n) from rfl, hks, partsL_del] at hlo
  have hdm := hm.del n
  have hfl : len (partsL ((sortN (keysV m)).filter fun k => !(k == n)) m).flatten ≤ mapN m := by
   have h1 := partsL_len hdm.1
   rw [show (delV m n).map (·.1) = keysV (delV m n) from rfl, hks, partsL_del] at h1
   rw [h1]
   exact delV_n m n
  have hne : ∀ x ∈ partsL ((sortN (keysV m)).filter fun k => !(k == n)) m, x ≠ [] := by
   intro x hx
   obtain ⟨k, hk, rfl⟩ := List.mem_map.1 hx
   obtain ⟨y, h1, h2⟩ := getV_in (sortN_mem.1 (List.mem_filter.1 hk).1)
   rw [h1]; exact (hm.2 _ h2).ne
  refine xcallM (fun v => .sl 8 v) [8] rfl (eok rfl) (by omega) rfl Tryz.call39 rfl rfl (eok rfl) (fun w M hX => named_c v3 v4 _ hs (partsL ((sortN (keysV m)).filter fun k => !(k == n)) m) w M hX.st.sat (by have := hX.sl 3 rfl; rw [hie] at this; exact this) (by have := hX.f.get (k := 7) rfl; rw [hie] at this; exact this) (by unfold partsL len; rw [List.length_map]) hne (by omega) (by omega)) (fun _ => rfl) fun v _ => ?_
  exact xret hB rfl rfl (eok rfl) (by omega) rfl (eok rfl) fun w M hX => ⟨v, M, rfl, trivial, hX.st.done, fc 0 (by have := hX.sl 8 rfl; rw [hlo] at this; exact this) Nd.cells_len fnil⟩
theorem with_c (m : List (Str × Vl)) (n : Str) (x : Vl) (vv vx : Value) (w : World) (M : Mem) (hM : Sat w M) (hv : Sl M 6 (objV m).length vv ((objV m).flatMap Nd.cells)) (hx : Sl M 6 x.length vx (x.flatMap Nd.cells)) (hm : MapW m) (hwx : WfV x) (hb : len (objV m) + len x ≤ 1000000) (hk : ∀ k ∈ keysV m, utf k = true ∧ len k ≤ 4398046511104) (hn : utf n = true ∧ len n ≤ 4398046511104) :
  Calls Tryz.prog 79 [vv, str n, vx].toArray w (MRet w M (fun v : Value => v) (fun _ => True) fun v => [(0, kn v 6 (objV (putV m n x)) Nd.cells)]) := by
 obtain ⟨ax, cx, rfl⟩ := hx.shape
 have hdm := hm.del n
 obtain ⟨t, ht, hw, hn0, hkn, hkv⟩ := obj_tree hdm
 obtain ⟨hol, hml⟩ := objV_len hdm
 obtain ⟨hol0, hml0⟩ := objV_len hm
 have hdn := delV_n m n
 have hsl := sortN_len (keysV (delV m n))
 have hkl : len (keysV (delV m n)) = len (delV m n) := by unfold keysV len; rw [List.length_map]
 have hm0 := len_nonneg (delV m n)
 have hx0 := len_nonneg x
 have hpl : len (partsL (sortN (keysV (delV m n))) (delV m n)) = len (delV m n) := by unfold partsL len; rw [List.length_map]; unfold len at hsl hkl; omega
 have hpf := partsL_len hdm.1
 refine xenter ttok Tryz.func79 rfl Tryz.ntmps79 [(0, kn vv 6 (objV m) Nd.cells), (1, kn (SlH.mk ax x.length cx).v 6 x Nd.cells)] [] [.sl 0 vv, .v (str n), .sl 1 (SlH.mk ax x.length cx).v] rfl (St.start hM) (fc 0 hv Nd.cells_len (fc 1 hx Nd.cells_len fnil)) (fun B hB => ?_) rfl
 refine xcallM (fun v => .sl 2 v) [2] rfl (eok rfl) (by omega) rfl Tryz.call112 rfl rfl (eok rfl) (fun w M hX => without_c m n vv w M hX.st.sat (hX.sl 0 rfl) hm (by omega)) (fun _ => rfl) fun v2 _ => ?_
 refine xcallO [] (fun v : Value => .sl 3 v) [3] (fun v => [(3, .ho (ownS v (sortN (keysV (delV m n)))))]) rfl (eok rfl) (by omega) rfl Tryz.call58 rfl rfl (eok rfl) rfl (fun w M hS hF => by have := names2o_c t v2 hS (by rw [ht]; exact (hF.get (k := 2) rfl).sl) (by rw [ht]; omega) hw; rw [hkn] at this; exact this) (fun _ => rfl) (fun _ => rfl) fun v3 _ => ?_
 refine xlit 8 [n] strC 1 9 strC_len rfl (eok rfl) (by omega) rfl (eok rfl) (fun w => by kernel_rfl) rfl fun v8 => ?_
 refine xapp 16 rfl (eok rfl) (by omega) rfl (eok rfl) rfl Tryz.underlying46 Tryz.type9 rfl rfl strC_one (by simp only [len_cons, len_nil]; omega) fun v3' => ?_
 refine xcallO [] (fun g : Value × List SlH => .sl 4 g.1) [4, 6] (fun g => [(4, .ho (ownV g.1 g.2))]) rfl (eok rfl) (by omega) rfl Tryz.call37 rfl rfl (eok rfl) rfl (fun w M hS hF => by have := parts2o_c t v2 hS (by rw [ht]; exact (hF.get (k := 2) rfl).sl) (by rw [ht]; omega) hw; rw [hkv] at this; exact this) (fun _ => rfl) (fun _ => rfl) fun g hg => ?_
 obtain ⟨v4, rs⟩ := g
 have hrl : len rs = len (delV m n) := by rw [← hpl]; exact hg
 refine xlit 9 [SlH.mk ax x.length cx] valI 1 24 valI_len rfl (eok rfl) (by omega) rfl (eok rfl) (fun w => by kernel_rfl) rfl fun v9 => ?_
 refine xapp 24 rfl (eok rfl) (by omega) rfl (eok rfl) rfl Tryz.underlying47 Tryz.type24 rfl rfl valI_one (by simp only [len_cons, len_nil]; omega) fun v4' => ?_
 refine run_ok rfl (eok rfl) (by omega) ?_
 have hnew := with_new hm n
 refine xcallM (fun v => .tu [.sl 7 v, I 0]) [7] rfl (eok rfl) (by omega) rfl Tryz.call23 rfl rfl (eok rfl) (fun w M hX => object_c v3' v4' _ (rs ++ [SlH.mk ax x.length cx]) (partsL (sortN (keysV (delV m n))) (delV m n) ++ [x]) w M hX.st.sat (hX.sl 3 rfl) ⟨hX.sl 4 rfl, valI_len, RowsV.snoc (hX.sl 1 rfl) (hX.f.get (k := 6) rfl).more⟩ (by rw [len_app, len_app]; simp only [len_cons, len_nil]; omega) ?_ (by rw [List.flatten_append, len_app, hpf]; simp only [List.flatten_cons, List.flatten_nil, List.append_nil]; unfold mapN at *; omega) (by rw [len_app]; simp only [len_cons, len_nil]; omega) hnew ?_) (fun _ => rfl) fun v7 _ => ?_
 ·intro y hy
  rcases List.mem_append.1 hy with hy | hy
  ·obtain ⟨k, hk2, rfl⟩ := List.mem_map.1 hy
   obtain ⟨z, h1, h2⟩ := getV_in (sortN_mem.1 hk2)
   rw [h1]; exact (hdm.2 _ h2).ne
  ·rw [List.mem_singleton.1 hy]; exact hwx.ne
 ·intro k hk2
  rcases List.mem_append.1 hk2 with hk2 | hk2
  ·have := sortN_mem.1 hk2
   rw [delV_keys] at this
   exact hk k (List.mem_filter.1 this).1
  ·rw [List.mem_singleton.1 hk2]; exact hn
 ·have hwe := with_eq hm n x
  exact xret hB rfl rfl (eok rfl) (by omega) rfl (eok rfl) fun w M hX => ⟨v7, M, rfl, trivial, hX.st.done, fc 0 (by have := hX.sl 7 rfl; rw [hwe] at this; exact this) Nd.cells_len fnil⟩
end Go.Proofs.YtjfaikgooldcbaaGreatDoor
