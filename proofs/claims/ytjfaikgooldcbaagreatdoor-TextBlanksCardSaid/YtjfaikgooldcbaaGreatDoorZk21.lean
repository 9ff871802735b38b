/-
  WHAT IS READ IS RIGHT, and not too deep: plain. No program in it.
  A text without its blanks: plain. No program in it.
-/
import Derived.Test.YtjfaikgooldcbaaGreatDoorZk20
import Derived.Test.YtjfaikgooldcbaaGreatDoorZk4
import Derived.Laws.BitsLemmas
import Derived.Test.YtjfaikgooldcbaaGreatDoorZk3
import Derived.Test.YtjfaikgooldcbaaGreatDoorProg
import Derived.Test.YtjfaikgooldcbaaGreatDoorZk15
import Derived.Test.YtjfaikgooldcbaaGreatDoorZk19
set_option linter.unusedVariables false
set_option linter.unusedSimpArgs false
namespace Go.Eng
open Go.RowKit

/-- A good value, no deeper than so, its texts no longer than so. -/
def GoodV (q D : Int) (x : Vl) : Prop := ∃ t : Tr, x = t.flat ∧ t.good ∧ t.node.name = [] ∧ depthT t ≤ D ∧ shortV q t.flat
/-- A tree no deeper than so, its texts no longer than so. -/
def GoodU (q D : Int) (u : Tr) : Prop := u.good ∧ depthT u ≤ D ∧ shortV q u.flat
/-- What was read: such a value, no greater than so; or an error and where. -/
def POk {α : Type} (P : α → Prop) (sz : α → Int) (c : Int) (s : Str) : PR α → Prop
  | .ok x j => P x ∧ sz x + c ≤ j ∧ 0 ≤ j ∧ j ≤ len s
  | .er k p => k ≠ 0 ∧ 0 ≤ p ∧ p ≤ len s
theorem goodL_of {q D : Int} : ∀ {ts : List Tr}, (∀ u ∈ ts, GoodU q D u) → goodL ts
  | [], _ => trivial
  | t :: ts, h => by rw [goodL]; exact ⟨(h t List.mem_cons_self).1, goodL_of fun u hu => h u (List.mem_cons_of_mem _ hu)⟩
theorem depthL_of {q D : Int} (h0 : 0 ≤ D) : ∀ {ts : List Tr}, (∀ u ∈ ts, GoodU q D u) → depthL ts ≤ D
  | [], _ => h0
  | t :: ts, h => by rw [depthL]; have h1 := (h t List.mem_cons_self).2.1; have h2 := depthL_of h0 fun u hu => h u (List.mem_cons_of_mem _ hu); omega
theorem shortL_of {q D : Int} : ∀ {ts : List Tr}, (∀ u ∈ ts, GoodU q D u) → shortV q (flatL ts)
  | [], _ => fun n hn => by cases hn
  | t :: ts, h => fun n hn => by
    rw [flatL] at hn
    rcases List.mem_append.1 hn with hn | hn
    · exact (h t List.mem_cons_self).2.2 n hn
    · exact shortL_of (fun u hu => h u (List.mem_cons_of_mem _ hu)) n hn
/-- A node of parts over good ones. -/
theorem many_good {q D k : Int} {ts : List Tr} (hq : 0 ≤ q) (h0 : 0 ≤ D) (hk : k = 5 ∨ k = 6) (h : ∀ u ∈ ts, GoodU q D u) (hr : risL k ts) : GoodV q (D + 1) (⟨k, len ts, [], [], false, 0⟩ :: flatL ts) := by
  have hl := len_nonneg ts
  refine ⟨.mk ⟨k, len ts, [], [], false, 0⟩ ts, by rw [Tr.flat], ?_, rfl, ?_, ?_⟩
  · rw [Tr.good]
    refine ⟨?_, rfl, hr, goodL_of h⟩
    unfold plainB bareN
    rw [if_neg (by dsimp only; omega), if_neg (by dsimp only; omega), if_neg (by dsimp only; omega), if_pos hk]
    simp only [Bool.and_eq_true, decide_eq_true_eq]
    exact ⟨hl, trivial⟩
  · rw [depthT]
    have := depthL_of h0 h
    split <;> omega
  · rw [Tr.flat]
    intro n hn
    rcases List.mem_cons.1 hn with rfl | hn
    · exact ⟨hq, hq⟩
    · exact shortL_of h n hn
theorem trees_of {q D : Int} : ∀ {l : List Vl}, (∀ x ∈ l, GoodV q D x) → ∃ ts : List Tr, l.flatten = flatL ts ∧ len l = len ts ∧ (∀ u ∈ ts, GoodU q D u) ∧ risL 5 ts
  | [], _ => ⟨[], rfl, rfl, fun u hu => (by cases hu), trivial⟩
  | x :: l, h => by
    obtain ⟨t, rfl, h1, h2, h3, h4⟩ := h x List.mem_cons_self
    obtain ⟨ts, e1, e2, e3, e4⟩ := trees_of fun y hy => h y (List.mem_cons_of_mem _ hy)
    refine ⟨t :: ts, by rw [List.flatten_cons, flatL, e1], by rw [len_cons, len_cons, e2], fun u hu => ?_, ?_⟩
    · rcases List.mem_cons.1 hu with rfl | hu
      · exact ⟨h1, h3, h4⟩
      · exact e3 u hu
    · rw [risL]
      exact ⟨⟨fun _ => h2, by rw [h2]; exact utf_nil⟩, fun u us _ h6 => absurd h6 (by decide), e4⟩
theorem list_goodV {q D : Int} (hq : 0 ≤ q) (h0 : 0 ≤ D) {l : List Vl} (h : ∀ x ∈ l, GoodV q D x) : GoodV q (D + 1) (listV l) := by
  obtain ⟨ts, e1, e2, e3, e4⟩ := trees_of h
  unfold listV
  rw [e1, e2]
  exact many_good hq h0 (.inl rfl) e3 e4
/-- Pairs of good names and good values. -/
def PairG (q D : Int) (p : Str × Vl) : Prop := utf p.1 = true ∧ len p.1 ≤ q ∧ GoodV q D p.2
theorem named_trees {q D : Int} : ∀ {l : List (Str × Vl)}, (∀ p ∈ l, PairG q D p) → (l.map (·.1)).Pairwise (· < ·) → ∃ ts : List Tr, (l.map fun p => nameV p.1 p.2).flatten = flatL ts ∧ ts.map (·.node.name) = l.map (·.1) ∧ (∀ u ∈ ts, GoodU q D u) ∧ risL 6 ts
  | [], _, _ => ⟨[], rfl, rfl, fun u hu => (by cases hu), trivial⟩
  | p :: l, h, hp => by
    obtain ⟨hu, hl, t, ht, h1, h2, h3, h4⟩ := h p List.mem_cons_self
    rw [List.map_cons, List.pairwise_cons] at hp
    obtain ⟨ts, e1, e2, e3, e4⟩ := named_trees (fun y hy => h y (List.mem_cons_of_mem _ hy)) hp.2
    have hn : (t.named p.1).node.name = p.1 := by cases t; rfl
    refine ⟨t.named p.1 :: ts, ?_, ?_, fun u hu => ?_, ?_⟩
    · rw [List.map_cons, List.flatten_cons, flatL, e1, ht, Tr.named_flat]
    · rw [List.map_cons, List.map_cons, e2, hn]
    · rcases List.mem_cons.1 hu with rfl | hu
      · refine ⟨Tr.named_good h1, by rw [depthT_named]; exact h3, ?_⟩
        obtain ⟨n, ps⟩ := t
        intro m hm
        rw [Tr.named, Tr.flat] at hm
        rcases List.mem_cons.1 hm with rfl | hm
        · exact ⟨(h4 n (by rw [Tr.flat]; exact List.mem_cons_self)).1, hl⟩
        · exact h4 m (by rw [Tr.flat]; exact List.mem_cons_of_mem _ hm)
      · exact e3 u hu
    · rw [risL, hn]
      refine ⟨⟨fun h5 => absurd h5 (by decide), hu⟩, fun u us e _ => ?_, e4⟩
      have hm : u.node.name ∈ l.map (·.1) := by rw [← e2, e]; exact List.mem_cons_self
      rw [Go.Proofs.bytesLess_eq, decide_eq_true_eq]
      exact hp.1 _ hm
theorem sortN_lt {l : List Str} (h : l.Nodup) : (sortN l).Pairwise (· < ·) := by
  have h1 : (sortN l).Pairwise (fun x y => decide (x ≤ y) = true) := List.pairwise_mergeSort str_trans str_total l
  have h2 : (sortN l).Nodup := (List.mergeSort_perm l _).nodup_iff.2 h
  refine (h1.and h2).imp fun {a b} h3 => ?_
  have h4 := h3.1
  rw [decide_eq_true_eq] at h4
  rcases Classical.em (a < b) with h5 | h5
  · exact h5
  · exact absurd (List.le_antisymm h4 (List.not_lt.1 h5)) h3.2
def MapG (q D : Int) (m : List (Str × Vl)) : Prop := KeysOK m ∧ ∀ p ∈ m, PairG q D p
theorem MapG.nil {q D : Int} : MapG q D [] := ⟨by unfold KeysOK; exact List.nodup_nil, fun x hx => by cases hx⟩
theorem obj_goodV {q D : Int} (hq : 0 ≤ q) (h0 : 0 ≤ D) {m : List (Str × Vl)} (h : MapG q D m) : GoodV q (D + 1) (objV m) := by
  have hk : ((sortN (m.map (·.1))).map fun n => (n, (getV m n).getD [])).map (·.1) = sortN (m.map (·.1)) := by rw [List.map_map]; exact List.map_id _
  obtain ⟨ts, e1, e2, e3, e4⟩ := named_trees (q := q) (D := D) (l := (sortN (m.map (·.1))).map fun n => (n, (getV m n).getD [])) (fun p hp => by
    obtain ⟨n, hn, rfl⟩ := List.mem_map.1 hp
    obtain ⟨x, h1, h2⟩ := getV_in (sortN_mem.1 hn)
    have := h.2 _ h2
    rw [h1]; exact this) (by rw [hk]; exact sortN_lt h.1)
  unfold objV laidV
  rw [e1]
  have e5 : len ((sortN (m.map (·.1))).map fun n => (n, (getV m n).getD [])) = len ts := by
    have := congrArg List.length e2
    rw [List.length_map, List.length_map] at this
    unfold len; omega
  rw [e5]
  exact many_good hq h0 (.inr rfl) e3 e4
theorem MapG.put {q D : Int} {m : List (Str × Vl)} {n : Str} {x : Vl} (h : MapG q D m) (hp : PairG q D (n, x)) : MapG q D (putV m n x) := by
  refine ⟨h.1.put n x, ?_⟩
  have key : ∀ {m : List (Str × Vl)}, (∀ p ∈ m, PairG q D p) → ∀ p ∈ putV m n x, PairG q D p := by
    intro m
    induction m with
    | nil => intro _ p hm; simp only [putV, List.mem_singleton] at hm; subst hm; exact hp
    | cons a m ih =>
      intro hm p hpm
      unfold putV at hpm
      split at hpm
      · rcases List.mem_cons.1 hpm with rfl | hpm
        · exact hp
        · exact hm p (List.mem_cons_of_mem _ hpm)
      · rcases List.mem_cons.1 hpm with rfl | hpm
        · exact hm _ List.mem_cons_self
        · exact ih (fun p h => hm p (List.mem_cons_of_mem _ h)) p hpm
  exact key h.2
theorem POk.mapR {α β : Type} {P : α → Prop} {Q : β → Prop} {sz : α → Int} {sz' : β → Int} {c c' : Int} {f : α → β} {s : Str} {r : PR α} (h : POk P sz c s r) (hf : ∀ x, P x → Q (f x) ∧ sz' (f x) + c' ≤ sz x + c) : POk Q sz' c' s (mapR f r) := by
  cases r with
  | ok x j => have := hf x h.1; exact ⟨this.1, by have := h.2.1; omega, h.2.2⟩
  | er c p => exact h
theorem POk.more {α : Type} {P : α → Prop} {sz : α → Int} {c : Int} {s : Str} {e : UInt8} {r : PR α} {go : α → Int → PR α} (h : POk P sz c s r) (hg : ∀ x k, P x → sz x + c ≤ k → 0 ≤ k → k ≤ len s → POk P sz c s (go x k)) : POk P sz c s (moreT s [e] r go) := by
  cases r with
  | er c p => exact h
  | ok x j =>
    obtain ⟨h1, h4, h2, h3⟩ := h
    have hb := blankTo_bd s j h2 h3
    unfold moreT
    dsimp only
    split
    · rename_i hw
      have := hasW_le (by omega) hb.2 hw
      rw [len_cons, len_nil] at this
      exact ⟨h1, by omega, by omega, by omega⟩
    · split
      · rename_i hw
        have := hasW_le (by omega) hb.2 hw
        rw [len_cons, len_nil] at this
        have hb2 := blankTo_bd s (blankTo s j + 1) (by omega) (by omega)
        exact hg x _ h1 (by omega) (by omega) hb2.2
      · exact ⟨by decide, by omega, hb.2⟩
theorem POk.parts {α : Type} {P : α → Prop} {sz : α → Int} {c : Int} {s : Str} {i : Int} {e : UInt8} {x0 : α} {go : α → Int → PR α} (h0 : 0 ≤ i) (h1 : i < len s) (hx : P x0) (hz : sz x0 + c ≤ i + 1) (hg : ∀ k, i + 1 ≤ k → k ≤ len s → POk P sz c s (go x0 k)) : POk P sz c s (partsT s i [e] x0 go) := by
  have hb := blankTo_bd s (i + 1) (by omega) (by omega)
  unfold partsT
  split
  · rename_i hw
    have := hasW_le (by omega) hb.2 hw
    rw [len_cons, len_nil] at this
    exact ⟨hx, by omega, by omega, by omega⟩
  · exact hg _ (by omega) hb.2
theorem text_ok {s : Str} {i : Int} (h0 : 0 ≤ i) (h1 : i ≤ len s) : POk (fun x => utf x = true ∧ len x ≤ 4 * len s + 100) (fun _ => 2) i s (textT s i) := by
  have hl := from_len s i h0 h1
  have hb := unqP_bd (from' s i)
  have hn := unq_len (from' s i)
  unfold textT
  split
  · rename_i h; exact ⟨h, by omega, by omega⟩
  · rename_i h
    have := hb.2.2.1 (by omega)
    exact ⟨⟨unq_utf _, by omega⟩, by show (2 : Int) + i ≤ _; omega, by omega, by omega⟩
theorem num_ok {s : Str} {i D : Int} (h0 : 0 ≤ i) (h1 : i < len s) (h2 : byteAt s i = 45 ∨ isFig (byteAt s i) = true) (hD : 0 ≤ D) : POk (GoodV (4 * len s + 100) D) len i s (numT s i) := by
  have hl := from_len s i h0 (by omega)
  have hr := runN_le (from' s i)
  have hp := runN_pos h0 h1 h2
  have hb := read1_bd (runN (from' s i))
  have hk := read_ok (runN (from' s i))
  have hs := len_nonneg s
  unfold numT
  split
  · rename_i h; exact ⟨h, by omega, by omega⟩
  · rename_i h
    have h3 := hk.1 (Classical.not_not.1 h)
    have h4 := right_open h3
    generalize (read1 (runN (from' s i))).1 = n at h3 h4
    have hkd : n.kind = 3 := by rw [h4.1]
    have hnm : n.name = [] := by rw [h4.1]
    have hmn : n.many = 0 := by rw [h4.1]
    refine ⟨⟨.mk n [], by rw [Tr.flat, flatL], ?_, hnm, ?_, ?_⟩, by rw [len_cons, len_nil]; omega, by omega, by omega⟩
    · rw [Tr.good]
      refine ⟨?_, hmn, trivial, trivial⟩
      unfold plainB
      rw [if_neg (by omega), if_pos hkd]
      have : bareN n = n := by unfold bareN; rw [← hnm]
      rw [this]; exact h3
    · rw [depthT, if_pos (by omega)]; exact hD
    · rw [Tr.flat, flatL]
      intro m hm
      rw [List.mem_singleton] at hm
      subst hm
      rw [hnm, len_nil]
      exact ⟨by have := h4.2.2.1; omega, by omega⟩
theorem one_good {q D : Int} {n : Nd} (h : plainB n = true) (hk : n.kind < 5) (hn : n.name = []) (hm : n.many = 0) (hq : 0 ≤ q) (hs : len n.s ≤ q) (hD : 0 ≤ D) : GoodV q D [n] := by
  refine ⟨.mk n [], by rw [Tr.flat, flatL], ?_, hn, ?_, ?_⟩
  · rw [Tr.good]; exact ⟨h, hm, trivial, trivial⟩
  · rw [depthT, if_pos (by omega)]; exact hD
  · rw [Tr.flat, flatL]
    intro m hm
    rw [List.mem_singleton] at hm
    subst hm
    rw [hn, len_nil]; exact ⟨hs, hq⟩
theorem pair_ok {s : Str} {i c D : Int} {val : Int → PR Vl} {m : List (Str × Vl)} (h0 : 0 ≤ i) (h1 : i ≤ len s) (hc : mapN m + c ≤ i) (hv : ∀ k, i ≤ k → k ≤ len s → POk (GoodV (4 * len s + 100) D) len k s (val k)) (hm : MapG (4 * len s + 100) D m) : POk (MapG (4 * len s + 100) D) mapN c s (pairT s i val m) := by
  have ht := text_ok h0 h1
  unfold pairT
  generalize textT s i = r at ht
  cases r with
  | er c p => exact ht
  | ok n j =>
    obtain ⟨h2, h5, h3, h4⟩ := ht
    have h5 : 2 + i ≤ j := h5
    have hb := blankTo_bd s j h3 h4
    dsimp only
    split
    · rename_i hw
      have := hasW_le (by omega) hb.2 hw
      rw [len_cons, len_nil] at this
      have hb2 := blankTo_bd s (blankTo s j + 1) (by omega) (by omega)
      exact (hv _ (by omega) hb2.2).mapR fun x hx => ⟨hm.put ⟨h2.1, h2.2, hx⟩, by have := (putV_n n x m).1; omega⟩
    · exact ⟨by decide, by omega, hb.2⟩
theorem val_ok {s : Str} : ∀ f : Nat, (∀ i d, 0 ≤ i → i ≤ len s → 0 ≤ d → d ≤ 128 → POk (GoodV (4 * len s + 100) (128 - d)) len i s (valT f s i d)) ∧
    (∀ i d l c, 0 ≤ i → i ≤ len s → 0 ≤ d → d < 128 → (∀ x ∈ l, GoodV (4 * len s + 100) (128 - (d + 1)) x) → len l.flatten + c ≤ i → POk (fun l : List Vl => ∀ x ∈ l, GoodV (4 * len s + 100) (128 - (d + 1)) x) (fun l => len l.flatten) c s (itemsT f s d l i)) ∧
    (∀ i d m c, 0 ≤ i → i ≤ len s → 0 ≤ d → d < 128 → MapG (4 * len s + 100) (128 - (d + 1)) m → mapN m + c ≤ i → POk (MapG (4 * len s + 100) (128 - (d + 1))) mapN c s (pairsT f s d m i)) := by
  have hs := len_nonneg s
  intro f
  induction f with
  | zero =>
    refine ⟨fun i d h0 h1 _ _ => ?_, fun i d l c h0 h1 _ _ _ _ => ?_, fun i d m c h0 h1 _ _ _ _ => ?_⟩
    · rw [valT]; exact ⟨by decide, h0, h1⟩
    · rw [itemsT]; exact ⟨by decide, h0, h1⟩
    · rw [pairsT]; exact ⟨by decide, h0, h1⟩
  | succ f ih =>
    refine ⟨fun i d h0 h1 h2 h3 => ?_, fun i d l c h0 h1 h2 h3 hl hc => ?_, fun i d m c h0 h1 h2 h3 hm hc => ?_⟩
    · have hw : ∀ k : Int, k = 0 ∨ k = 1 ∨ k = 2 → GoodV (4 * len s + 100) (128 - d) [kindN k] := fun k hk => by
        refine one_good ?_ (by show k < 5; omega) rfl rfl (by omega) (by show len ([] : Str) ≤ _; rw [len_nil]; omega) (by omega)
        rcases hk with rfl | rfl | rfl <;> decide
      have l1 : ∀ n : Nd, len [n] = 1 := fun n => rfl
      rw [valT]
      split
      · rename_i hh; have := hasW_le h0 h1 hh; exact ⟨hw 0 (.inl rfl), by rw [l1]; omega, by omega, this⟩
      split
      · rename_i hh; have := hasW_le h0 h1 hh; exact ⟨hw 1 (.inr (.inl rfl)), by rw [l1]; omega, by omega, this⟩
      split
      · rename_i hh; have := hasW_le h0 h1 hh; exact ⟨hw 2 (.inr (.inr rfl)), by rw [l1]; omega, by omega, this⟩
      split
      · exact ⟨by decide, h0, h1⟩
      split
      · refine (text_ok h0 h1).mapR fun x hx => ⟨one_good ?_ (by show (4 : Int) < 5; decide) rfl rfl (by omega) hx.2 (by omega), by rw [l1]; omega⟩
        show plainB ⟨4, 0, [], x, false, 0⟩ = true
        unfold plainB bareN
        rw [if_neg (by dsimp only; omega), if_neg (by dsimp only; omega), if_pos rfl, hx.1]
        simp
      split
      · exact num_ok h0 (by omega) (by assumption) (by omega)
      split
      · exact ⟨by decide, h0, h1⟩
      split
      · exact ⟨by decide, h0, h1⟩
      have e : (128 - d : Int) = 128 - (d + 1) + 1 := by omega
      rename_i hd
      have hd : d < 128 := by omega
      rw [e]
      split
      · exact (POk.parts h0 (by omega) (P := fun l : List Vl => ∀ x ∈ l, GoodV (4 * len s + 100) (128 - (d + 1)) x) (sz := fun l => len l.flatten) (c := i + 1) (fun x hx => by cases hx) (by show len ([] : List Nd) + (i + 1) ≤ i + 1; rw [len_nil]; omega) fun k k0 k1 => ih.2.1 k d [] (i + 1) (by omega) k1 h2 hd (fun x hx => by cases hx) (by show len ([] : List Nd) + (i + 1) ≤ k; rw [len_nil]; omega)).mapR fun l hl => ⟨list_goodV (by omega) (by omega) hl, by show len (listV l) + i ≤ len l.flatten + (i + 1); unfold listV; rw [len_cons]; omega⟩
      · exact (POk.parts h0 (by omega) (P := MapG (4 * len s + 100) (128 - (d + 1))) (sz := mapN) (c := i + 1) MapG.nil (by show len ([] : List Nd) + (i + 1) ≤ i + 1; rw [len_nil]; omega) fun k k0 k1 => ih.2.2 k d [] (i + 1) (by omega) k1 h2 hd MapG.nil (by show len ([] : List Nd) + (i + 1) ≤ k; rw [len_nil]; omega)).mapR fun l hl => ⟨obj_goodV (by omega) (by omega) hl, by have := objV_le hl.1; omega⟩
    · rw [itemsT]
      refine POk.more ?_ fun x k hx hz k0 k1 => ih.2.1 k d x c k0 k1 h2 h3 hx hz
      refine (ih.1 i (d + 1) h0 h1 (by omega) (by omega)).mapR fun v hv => ⟨fun x hx => ?_, ?_⟩
      · rcases List.mem_append.1 hx with hx | hx
        · exact hl x hx
        · rw [List.mem_singleton] at hx; subst hx; exact hv
      · show len (l ++ [v]).flatten + c ≤ len v + i
        rw [List.flatten_append, len_app]
        simp only [List.flatten_cons, List.flatten_nil, List.append_nil]; omega
    · rw [pairsT]
      refine POk.more ?_ fun x k hx hz k0 k1 => ih.2.2 k d x c k0 k1 h2 h3 hx hz
      exact pair_ok h0 h1 hc (fun k k0 k1 => ih.1 k (d + 1) (by omega) k1 (by omega) (by omega)) hm
/-- What a text is read as: a good value, or an error within the text. -/
theorem parse_good (s : Str) : ((parseT s).2.2 = 0 → GoodV (4 * len s + 100) 128 (parseT s).1 ∧ len (parseT s).1 ≤ len s) ∧ ((parseT s).2.2 ≠ 0 → (parseT s).1 = [] ∧ 0 ≤ (parseT s).2.1 ∧ (parseT s).2.1 ≤ len s) := by
  have hs := len_nonneg s
  have hb := blankTo_bd s 0 (Int.le_refl 0) hs
  have hv := (val_ok (s := s) (2 * s.length + 2)).1 (blankTo s 0) 0 (by omega) hb.2 (by omega) (by omega)
  unfold parseT
  generalize valT (2 * s.length + 2) s (blankTo s 0) 0 = r at hv
  cases r with
  | er c p => exact ⟨fun h => absurd h hv.1, fun _ => ⟨rfl, hv.2⟩⟩
  | ok v j =>
    have hb2 := blankTo_bd s j hv.2.2.1 hv.2.2.2
    have h1 := hv.2.1
    have h2 := hv.2.2.1
    dsimp only
    split
    · exact ⟨fun h => absurd (show (1 : Int) = 0 from h) (by decide), fun _ => ⟨rfl, (by omega : 0 ≤ blankTo s j), hb2.2⟩⟩
    · exact ⟨fun _ => ⟨hv.1, (by omega : len v ≤ len s)⟩, fun h => absurd rfl h⟩
end Go.Eng
set_option maxRecDepth 100000
namespace Go.Proofs.YtjfaikgooldcbaaGreatDoor
open Go.Eng

theorem parse_self_ok {t : Tr} {q : Int} (hg : t.good) (hn : t.node.name = []) (hs : shortV q t.flat) (hq : q ≤ 100000) (hd : depthT t ≤ 128) (hz : t.size ≤ 1000) (ln : Bool) : parseT (prt ln 0 t) = (t.flat, 0, 0) ∧ len (prt ln 0 t) ≤ 1099511627776 ∧ prt ln 0 t ≠ [] := by
  have hb := prt_bd (ln := ln) (d := 0) hg (hs.mono hq) (Int.le_refl _) (by omega)
  exact ⟨parse_self hg hn hd hb.1, by omega, prt_ne hg (hs.mono hq) (by omega)⟩
/- loupe/loupelaw04.TextBack -/
theorem textBack_c (M : Mem) (v : Vl) (vv : Value) (s : Str) (w : World) (hM : Sat w M) (hv : Sl M 6 v.length vv (v.flatMap Nd.cells)) (hg : Gl w) :
  Calls Tryz.prog 5 [vv, (str s)].toArray w fun e w' => e = .returned (.bool true) ∧ Ext w w' := by
 refine CW.enter1 Tryz.func5 rfl Tryz.ntmps5 (Nat.le_of_ble_eq_true rfl) fun Q hE => ?_
 obtain ⟨w0, at0, e0, hps0⟩ : ∃ x a e, parseT s = (x, a, e) := ⟨_, _, _, rfl⟩
 have hpg := parse_good s
 rw [hps0] at hpg
 have hpg1 : e0 = 0 → GoodV (4 * len s + 100) 128 w0 ∧ len w0 ≤ len s := hpg.1
 have hpg2 : ¬ e0 = 0 → w0 = [] ∧ 0 ≤ at0 ∧ at0 ≤ len s := hpg.2
 have hsl := len_nonneg s
 have hS : St w M w M [] := St.start hM
 refine CW.weaken [0, 1] (L' := [Y 0 vv, Y 1 (str s)]) ?_ rfl
 refine CW.sr (RL.u (.assign .c) rfl (RL.nil (CW.id (CW.seq ?_))))
 refine CW.sr (RL.m rfl rfl ?_)
 refine RL.callE hS .none Tryz.call14 (.cons (.t rfl) (.cons .c .nil)) (fun _ => (few_c M v vv 60 _ hS.sat hv (by omega))) rfl (fun w1 hS2 => ?_)
 refine RL.u (.not (.t rfl)) rfl (RL.m rfl rfl (RL.v (.neg rfl rfl) (.move (.t rfl)) rfl (RL.v (.neg rfl rfl) (.lenS (.g rfl (fun h => h)) Tryz.underlying9) rfl (RL.v (.neg rfl rfl) (.gtr (.g rfl (fun h => h)) .c) rfl (RL.u (.or (.t rfl) (.g rfl (fun h => h))) rfl ?_)))))
 refine RL.nil (CW.at [Y 0 vv, Y 1 (str s), Y 24 (.bool ((!(fewB v 60)) || (decide (600 < (len s)))))] rfl ?_)
 refine CW.cond rfl ?_ ?_ <;> intro hb1 <;> try simp only [zb] at hb1
 ·refine CW.sr ?_
  refine RL.callE hS2 .none Tryz.call10 .nil (fun _ => (alive4_c _ (hg.low hS2.low))) rfl (fun w3 hS4 => ?_)
  refine RL.a rfl rfl ?_
  refine RL.nil (CW.at [Y 4 (.bool true)] rfl (CW.ret (hE.r1 rfl rfl ?_)))
  exact ⟨rfl, hS4.low⟩
 ·obtain ⟨hf1, hs200, hrt⟩ := few_yes (by simpa using hb1.1)
  obtain ⟨t, hvt, hg_t, htn⟩ := right_good hrt
  have htz : (t.size : Int) ≤ 60 := by unfold len at hf1; rw [hvt, Tr.flat_len] at hf1; exact hf1
  rw [hvt] at hs200
  have hdt := depthT_le _ t rfl
  have hp_t := parse_self_ok hg_t htn hs200 (by decide) (by omega) (by omega)
  refine CW.skip (CW.id (CW.sr (RL.m rfl rfl ?_)))
  refine RL.callE hS2 .none Tryz.call15 (.cons (.t rfl) .nil) (fun _ => (compact_c M t vv _ hS2.sat (by rw [← hvt]; exact hv) (Tr.good_ok hg_t (shortV.mono (by omega) hs200)) (hg.low hS2.low) (by omega) (Int.le_trans (hp_t false).2.1 (by decide)) (hp_t false).2.2)) rfl (fun w5 hS6 => ?_)
  refine RL.callP Tryz.call11 (.cons (.t rfl) .nil) (parse_lit (Rs := []) (prt false 0 t) ((t.flat, 0, 0)) hS6 hg (hp_t false).2.1 (hp_t false).1) rfl ?_
  rintro v10 w11 ⟨a7, c8, M12, rfl, hsl_v10, hS13, hle14⟩
  replace hv := hv.mono hle14
  replace hsl_v10 : Sl M12 6 t.flat.length (.slice a7 t.flat.length c8) (t.flat.flatMap Nd.cells) := hsl_v10
  refine RL.m rfl rfl (RL.u (.ex (.t rfl) rfl) rfl (RL.u (.ex (.t rfl) rfl) rfl (RL.u (.ex (.t rfl) rfl) rfl (RL.a rfl rfl (RL.a rfl rfl ?_)))))
  refine RL.a rfl rfl ?_
  refine RL.nil (CW.at [Y 0 vv, Y 1 (str s), Y 5 (.slice a7 t.flat.length c8), Y 7 (i64 0)] rfl (CW.sr (RL.m rfl rfl ?_)))
  refine RL.callE hS13 .none Tryz.call17 (.cons (.t rfl) .nil) (fun _ => (indent_c M12 t vv _ hS13.sat (by rw [← hvt]; exact hv) (Tr.good_ok hg_t (shortV.mono (by omega) hs200)) (hg.low hS13.low) (by omega) (Int.le_trans (hp_t true).2.1 (by decide)) (hp_t true).2.2)) rfl (fun w15 hS16 => ?_)
  refine RL.callP Tryz.call11 (.cons (.t rfl) .nil) (parse_lit (Rs := []) (prt true 0 t) ((t.flat, 0, 0)) hS16 hg (hp_t true).2.1 (hp_t true).1) rfl ?_
  rintro v20 w21 ⟨a17, c18, M22, rfl, hsl_v20, hS23, hle24⟩
  replace hv := hv.mono hle24
  replace hsl_v10 := hsl_v10.mono hle24
  replace hsl_v20 : Sl M22 6 t.flat.length (.slice a17 t.flat.length c18) (t.flat.flatMap Nd.cells) := hsl_v20
  refine RL.m rfl rfl (RL.u (.ex (.t rfl) rfl) rfl (RL.u (.ex (.t rfl) rfl) rfl (RL.u (.ex (.t rfl) rfl) rfl (RL.a rfl rfl (RL.a rfl rfl ?_)))))
  refine RL.a rfl rfl ?_
  refine RL.nil (CW.at [Y 0 vv, Y 1 (str s), Y 5 (.slice a7 t.flat.length c8), Y 7 (i64 0), Y 8 (.slice a17 t.flat.length c18), Y 10 (i64 0)] rfl (CW.seq (CW.sr (RL.m rfl rfl (RL.u (.neq (.t rfl) .c) rfl (RL.m rfl rfl (RL.v (.neg rfl rfl) (.move (.t rfl)) rfl (RL.v (.neg rfl rfl) (.neq (.g rfl (fun h => h)) .c) rfl (RL.u (.or (.t rfl) (.g rfl (fun h => h))) rfl ?_)))))))))
  refine RL.m rfl rfl (RL.v (.neg rfl rfl) (.move (.t rfl)) rfl (RL.v (.neg rfl rfl) (.move (.t rfl)) rfl ?_))
  refine RL.callE hS23 (.neg rfl rfl) Tryz.call13 (.cons (.g rfl (fun h => h)) (.cons (.g rfl (fun h => h)) .nil)) (fun hW => by simp only [zb] at hW; exact (same2_c M22 t.flat v (.slice a7 t.flat.length c8) vv _ hS23.sat hsl_v10 hv)) rfl (fun w25 hS26 => ?_)
  refine RL.v (.neg rfl rfl) (.not (.g rfl (fun h => h))) rfl (RL.u (.or (.t rfl) (.g rfl (fun h => h))) rfl (RL.m rfl rfl (RL.v (.neg rfl rfl) (.move (.t rfl)) rfl (RL.v (.neg rfl rfl) (.move (.t rfl)) rfl ?_))))
  refine RL.callE hS26 (.neg rfl rfl) Tryz.call13 (.cons (.g rfl (fun h => h)) (.cons (.g rfl (fun h => h)) .nil)) (fun hW => by simp only [zb] at hW; exact (same2_c M22 t.flat v (.slice a17 t.flat.length c18) vv _ hS26.sat hsl_v20 hv)) rfl (fun w27 hS28 => ?_)
  refine RL.v (.neg rfl rfl) (.not (.g rfl (fun h => h))) rfl (RL.u (.or (.t rfl) (.g rfl (fun h => h))) rfl ?_)
  refine RL.nil (CW.at [Y 1 (str s), Y 57 (.bool ((((0 != 0) || (0 != 0)) || (!(sameV t.flat v))) || (!(sameV t.flat v))))] rfl ?_)
  refine CW.cond rfl ?_ ?_ <;> intro hb2 <;> try simp only [zb] at hb2
  ·refine CW.sr (RL.u (.assign .c) rfl (RL.nil (CW.id (CW.ret (hE.r1 rfl rfl ?_)))))
   exact absurd hb2 (by rw [hvt]; simp [sameV_self])
  ·refine CW.skip (CW.id (CW.sr (RL.m rfl rfl ?_)))
   refine RL.callP Tryz.call11 (.cons (.t rfl) .nil) (parse_lit (Rs := []) s ((w0, at0, e0)) hS28 hg (by omega) hps0) rfl ?_
   rintro v32 w33 ⟨a29, c30, M34, rfl, hsl_v32, hS35, hle36⟩
   replace hv := hv.mono hle36
   replace hsl_v10 := hsl_v10.mono hle36
   replace hsl_v20 := hsl_v20.mono hle36
   replace hsl_v32 : Sl M34 6 w0.length (.slice a29 w0.length c30) (w0.flatMap Nd.cells) := hsl_v32
   refine RL.m rfl rfl (RL.u (.ex (.t rfl) rfl) rfl (RL.u (.ex (.t rfl) rfl) rfl (RL.u (.ex (.t rfl) rfl) rfl (RL.a rfl rfl (RL.a rfl rfl ?_)))))
   refine RL.a rfl rfl ?_
   refine RL.nil (CW.at [Y 1 (str s), Y 11 (.slice a29 w0.length c30), Y 12 (i64 at0), Y 13 (i64 e0)] rfl (CW.seq (CW.sr (RL.m rfl rfl (RL.u (.neq (.t rfl) .c) rfl (RL.nil (CW.id ?_)))))))
   refine CW.cond rfl ?_ ?_ <;> intro hb3 <;> try simp only [zb] at hb3
   ·have hq2 := hpg2 (by simpa using hb3)
    refine CW.sr ?_
    refine RL.callE hS35 .none Tryz.call10 .nil (fun _ => (alive4_c _ (hg.low hS35.low))) rfl (fun w37 hS38 => ?_)
    refine RL.m rfl rfl (RL.v (.pos rfl rfl) (.move (.t rfl)) rfl (RL.v (.pos rfl rfl) (.lenT hsl_v32 (.g rfl (fun h => h)) ⟨_, Tryz.underlying24⟩) rfl (RL.v (.pos rfl rfl) (.eql (.g rfl (fun h => h)) .c) rfl (RL.u (.and (.t rfl) (.g rfl (fun h => h))) rfl (RL.m rfl rfl ?_)))))
    refine RL.v (.pos rfl rfl) (.move (.t rfl)) rfl (RL.v (.pos rfl rfl) (.geq (.g rfl (fun h => h)) .c) rfl (RL.u (.and (.t rfl) (.g rfl (fun h => h))) rfl (RL.m rfl rfl (RL.v (.pos rfl rfl) (.move (.t rfl)) rfl (RL.v (.pos rfl rfl) (.move (.t rfl)) rfl ?_)))))
    refine RL.v (.pos rfl rfl) (.lenS (.g rfl (fun h => h)) Tryz.underlying9) rfl (RL.v (.pos rfl rfl) (.leq (.g rfl (fun h => h)) (.g rfl (fun h => h))) rfl (RL.u (.and (.t rfl) (.g rfl (fun h => h))) rfl (RL.a rfl rfl ?_)))
    refine RL.nil (CW.at [Y 4 (.bool (((true && ((len w0) == 0)) && (decide (0 ≤ at0))) && (decide (at0 ≤ (len s)))))] rfl (CW.ret (hE.r1 rfl rfl ?_)))
    exact ⟨by simp [hq2, len_nil], hS38.low⟩
   ·obtain ⟨⟨t2, hw0, hg_t2, hn2, hd2, hsh2⟩, hwl⟩ := hpg1 (by simpa using hb3)
    have hz2 : (t2.size : Int) ≤ 600 := by unfold len at hwl; rw [hw0, Tr.flat_len] at hwl; unfold len at hb1; omega
    have hp_t2 := parse_self_ok hg_t2 hn2 hsh2 (by omega) hd2 (by omega)
    have hln : ∀ n ∈ w0, len n.s ≤ 1099511627776 ∧ len n.name ≤ 1099511627776 := fun n hn => by rw [hw0] at hn; have := hsh2 n hn; omega
    refine CW.skip (CW.id (CW.sr (RL.m rfl rfl ?_)))
    refine RL.callE hS35 .none Tryz.call15 (.cons (.t rfl) .nil) (fun _ => (compact_c M34 t2 (.slice a29 w0.length c30) _ hS35.sat (by rw [← hw0]; exact hsl_v32) (Tr.good_ok hg_t2 (shortV.mono (by omega) hsh2)) (hg.low hS35.low) (by omega) (Int.le_trans (hp_t2 false).2.1 (by decide)) (hp_t2 false).2.2)) rfl (fun w39 hS40 => ?_)
    refine RL.callP Tryz.call11 (.cons (.t rfl) .nil) (parse_lit (Rs := []) (prt false 0 t2) ((t2.flat, 0, 0)) hS40 hg (hp_t2 false).2.1 (hp_t2 false).1) rfl ?_
    rintro v44 w45 ⟨a41, c42, M46, rfl, hsl_v44, hS47, hle48⟩
    replace hv := hv.mono hle48
    replace hsl_v10 := hsl_v10.mono hle48
    replace hsl_v20 := hsl_v20.mono hle48
    replace hsl_v32 := hsl_v32.mono hle48
    replace hsl_v44 : Sl M46 6 t2.flat.length (.slice a41 t2.flat.length c42) (t2.flat.flatMap Nd.cells) := hsl_v44
    refine RL.m rfl rfl (RL.u (.ex (.t rfl) rfl) rfl (RL.u (.ex (.t rfl) rfl) rfl (RL.u (.ex (.t rfl) rfl) rfl (RL.a rfl rfl (RL.a rfl rfl ?_)))))
    refine RL.a rfl rfl ?_
    refine RL.nil (CW.at [Y 11 (.slice a29 w0.length c30), Y 14 (.slice a41 t2.flat.length c42), Y 16 (i64 0)] rfl (CW.sr ?_))
    refine RL.callE hS47 .none Tryz.call10 .nil (fun _ => (alive4_c _ (hg.low hS47.low))) rfl (fun w49 hS50 => ?_)
    refine RL.m rfl rfl (RL.v (.pos rfl rfl) (.move (.t rfl)) rfl ?_)
    refine RL.callE hS50 (.pos rfl rfl) Tryz.call19 (.cons (.g rfl (fun h => h)) .nil) (fun hW => by simp only [zb] at hW; exact (right2_c M46 w0 (.slice a29 w0.length c30) _ hS50.sat hsl_v32 (by omega) (by assumption))) rfl (fun w51 hS52 => ?_)
    refine RL.u (.and (.t rfl) (.g rfl (fun h => h))) rfl (RL.m rfl rfl (RL.v (.pos rfl rfl) (.move (.t rfl)) rfl ?_))
    refine RL.callE hS52 (.pos rfl rfl) Tryz.call20 (.cons (.g rfl (fun h => h)) .nil) (fun hW => by simp only [zb] at hW; exact (depthE_c M46 t2 (.slice a29 w0.length c30) _ hS52.sat (by rw [← hw0]; exact hsl_v32) (by rw [← hw0]; omega) (Tr.good_wf hg_t2))) rfl (fun w53 hS54 => ?_)
    refine RL.v (.pos rfl rfl) (.leq (.g rfl (fun h => h)) .c) rfl (RL.u (.and (.t rfl) (.g rfl (fun h => h))) rfl (RL.m rfl rfl (RL.v (.pos rfl rfl) (.move (.t rfl)) rfl (RL.v (.pos rfl rfl) (.eql (.g rfl (fun h => h)) .c) rfl (RL.u (.and (.t rfl) (.g rfl (fun h => h))) rfl ?_)))))
    refine RL.m rfl rfl (RL.v (.pos rfl rfl) (.move (.t rfl)) rfl (RL.v (.pos rfl rfl) (.move (.t rfl)) rfl ?_))
    refine RL.callE hS54 (.pos rfl rfl) Tryz.call13 (.cons (.g rfl (fun h => h)) (.cons (.g rfl (fun h => h)) .nil)) (fun hW => by simp only [zb] at hW; exact (same2_c M46 t2.flat w0 (.slice a41 t2.flat.length c42) (.slice a29 w0.length c30) _ hS54.sat hsl_v44 hsl_v32)) rfl (fun w55 hS56 => ?_)
    refine RL.u (.and (.t rfl) (.g rfl (fun h => h))) rfl (RL.a rfl rfl ?_)
    refine RL.nil (CW.at [Y 4 (.bool ((((true && (rightB w0)) && (decide ((depthT t2) ≤ 128))) && (0 == 0)) && (sameV t2.flat w0)))] rfl (CW.ret (hE.r1 rfl rfl ?_)))
    exact ⟨by rw [hw0]; simp [sameV_self, good_right hg_t2 hn2, hd2], hS56.low⟩

end Go.Proofs.YtjfaikgooldcbaaGreatDoor
namespace Go.Eng
open Go.RowKit

def okB (c : UInt8) : Bool := c != 32 && c != 10
/-- A text without blanks and lines' ends. -/
def bareP (s : Str) : Str := s.filter okB
theorem bareP_app (a b : Str) : bareP (a ++ b) = bareP a ++ bareP b := List.filter_append ..
theorem bareP_self {s : Str} : bareP s = s ↔ ∀ b ∈ s, okB b = true := List.filter_eq_self
theorem bareP_nil : bareP [] = [] := rfl
theorem bareP_one {c : UInt8} (h : okB c = true) (s : Str) : bareP (c :: s) = c :: bareP s := by unfold bareP; rw [List.filter_cons, if_pos h]
theorem bareP_no {c : UInt8} (h : okB c = false) (s : Str) : bareP (c :: s) = bareP s := by unfold bareP; rw [List.filter_cons, if_neg (by rw [h]; decide)]
theorem bare_two : ∀ n, bareP (twoN n) = []
  | 0 => rfl
  | n + 1 => by rw [twoN, bareP_no (by decide), bareP_no (by decide), bare_two n]
theorem bare_line (d : Int) : bareP (lineP true d) = [] := by
  unfold lineP; rw [if_pos rfl, bareP_no (by decide), bare_two]
theorem wr_bare : ∀ n : Fin 256, okB (UInt8.ofNat n.val) = true → (wrB (UInt8.ofNat n.val)).all okB = true := by decide +kernel
theorem wr_bare' {b : UInt8} (h : okB b = true) : ∀ c ∈ wrB b, okB c = true := by
  have e : UInt8.ofNat b.toNat = b := by simp
  have := wr_bare ⟨b.toNat, b.toNat_lt⟩ (by rw [e]; exact h)
  rw [e] at this
  exact fun c hc => List.all_eq_true.1 this c hc
theorem bare_quote {s : Str} (hu : utf s = true) (h : bareP s = s) : bareP (quoteP s) = quoteP s := by
  rw [quote_eq hu]
  refine bareP_self.2 fun b hb => ?_
  unfold quoteR at hb
  simp only [List.mem_cons, List.mem_append, List.mem_flatMap, List.mem_singleton, List.not_mem_nil, or_false] at hb
  have h2 := bareP_self.1 h
  have h34 : okB 34 = true := by decide
  rcases hb with hb | hb
  all_goals first
    | (subst hb; exact h34)
    | (rcases hb with hb | hb; all_goals first | (subst hb; exact h34) | (obtain ⟨x, hx, hb⟩ := hb; exact wr_bare' (h2 x hx) b hb))
    | (obtain ⟨x, hx, hb⟩ := hb; exact wr_bare' (h2 x hx) b hb)
theorem num_bare : ∀ n : Fin 256, isNumB (UInt8.ofNat n.val) = true → okB (UInt8.ofNat n.val) = true := by decide +kernel
theorem bare_scalar {n : Nd} (hp : plainB n = true) (hk : n.kind < 5) (h : bareP n.s = n.s) : bareP (scalarP n) = scalarP n := by
  unfold scalarP
  split
  · decide
  split
  · decide
  split
  · decide
  split
  · rename_i h0 h1 h2 h3
    have hr := hp
    unfold plainB at hr
    rw [if_neg (by omega), if_pos h3] at hr
    have hf := (print_form hr).2.2
    rw [print1_bare] at hf
    refine bareP_self.2 fun b hb => ?_
    have e : UInt8.ofNat b.toNat = b := by simp
    have := num_bare ⟨b.toNat, b.toNat_lt⟩ (by rw [e]; exact hf b hb)
    rw [e] at this; exact this
  · have h4 : n.kind = 4 := by have := plain_kind hp; omega
    exact bare_quote (plain_utf hp h4) h
/-- No text has blanks. -/
def bareV (v : Vl) : Prop := ∀ n ∈ v, bareP n.s = n.s ∧ bareP n.name = n.name
theorem bare_name {n : Nd} (hu : utf n.name = true) (h : bareP n.name = n.name) : bareP (nameP true n) = nameP false n := by
  unfold nameP
  rw [bareP_app, bare_quote hu h]; rfl
mutual
theorem bare_prt : (d : Int) → (t : Tr) → t.good → bareV t.flat → bareP (prt true d t) = prt false 0 t
  | d, .mk n ps, hg, hb => by
    rw [Tr.good] at hg
    rw [Tr.flat] at hb
    rw [prt, prt]
    split
    · rename_i hk
      exact bare_scalar hg.1 hk (hb n List.mem_cons_self).1
    · have hm : okB (marksP n.kind).1 = true ∧ okB (marksP n.kind).2 = true := by unfold marksP; split <;> decide
      have ih := bare_prtL d (n.kind == 6) true ps hg.2.2.2 (fun u hu => (risL_mem hg.2.2.1 hu).2) (fun m hm => hb m (List.mem_cons_of_mem _ hm))
      rw [List.cons_append, List.cons_append, bareP_one hm.1, bareP_app, bareP_app, ih, bareP_one hm.2, bareP_nil, List.cons_append, List.cons_append]
      congr 3
      split
      · rfl
      · rw [bare_line]; rfl
theorem bare_prtL : (d : Int) → (ob f : Bool) → (ts : List Tr) → goodL ts → (∀ u ∈ ts, utf u.node.name = true) → bareV (flatL ts) → bareP (prtL true d ob f ts) = prtL false 0 ob f ts
  | d, ob, f, [], _, _, _ => by rw [prtL, prtL]; rfl
  | d, ob, f, t :: ts, hg, hu, hb => by
    rw [goodL] at hg
    rw [flatL] at hb
    have h1 := bare_prt (d + 1) t hg.1 (fun n hn => hb n (List.mem_append.2 (.inl hn)))
    have h2 := bare_prtL d ob false ts hg.2 (fun u h => hu u (List.mem_cons_of_mem _ h)) (fun n hn => hb n (List.mem_append.2 (.inr hn)))
    have h3 : bareP (nameP true t.node) = nameP false t.node := bare_name (hu t List.mem_cons_self) (hb t.node (List.mem_append.2 (.inl (by obtain ⟨n, ps⟩ := t; rw [Tr.flat]; exact List.mem_cons_self)))).2
    rw [prtL, prtL, bareP_app, bareP_app, bareP_app, bareP_app, bare_line, h1, h2, prt_flat0 (0 + 1) t]
    cases f <;> cases ob
    · rfl
    · simp only [if_true, h3]; rfl
    · rfl
    · simp only [if_true, h3]; rfl
end
/-- Blanks ahead and behind are nothing. -/
theorem parse_blank {t : Tr} (hg : t.good) (hn : t.node.name = []) {o b1 b2 : Str} (ho : o = b1 ++ prt false 0 t ++ b2) (h1 : ∀ c ∈ b1, isBlankB c = true) (h2 : ∀ c ∈ b2, isBlankB c = true) (hd : depthT t ≤ 128) (hz : t.size ≤ len (prt false 0 t)) : parseT o = (t.flat, 0, 0) := by
  rw [ho, List.append_assoc, parse_prt hg (ln := false) h1 h2 hd hz]
  obtain ⟨n, ps⟩ := t
  have hn : n.name = [] := hn
  show ((Tr.mk { n with name := [] } ps).flat, _, _) = _
  rw [← hn]
theorem bare_all {v : Vl} {k : Int} (h : ∀ j, 0 ≤ j → j < k → bareP (at' v j).s = (at' v j).s ∧ bareP (at' v j).name = (at' v j).name) (hk : len v ≤ k) : bareV v := by
  intro n hn
  obtain ⟨j, hj, e⟩ := List.getElem_of_mem hn
  have := h (j : Int) (by omega) (by unfold len at hk; omega)
  rw [show at' v (j : Int) = n from by unfold at'; simp [List.getD_eq_getElem?_getD, hj, e]] at this
  exact this
abbrev blanks4 : Str := [32, 9, 10, 13]
theorem blank4 {j : Int} (h0 : 0 ≤ j) (h1 : j < 4) : ∀ c ∈ Eng.sub blanks4 j (j + 1), isBlankB c = true := by
  rcases (by omega : j = 0 ∨ j = 1 ∨ j = 2 ∨ j = 3) with rfl | rfl | rfl | rfl <;> decide
theorem blank_app {a b : Str} (ha : ∀ c ∈ a, isBlankB c = true) (hb : ∀ c ∈ b, isBlankB c = true) : ∀ c ∈ a ++ b, isBlankB c = true := fun c hc => (List.mem_append.1 hc).elim (ha c) (hb c)
theorem okB_iff {b : UInt8} : okB b = true ↔ (b.toNat : Int) ≠ 32 ∧ (b.toNat : Int) ≠ 10 := by
  have key : ∀ n : Fin 256, okB (UInt8.ofNat n.val) = true ↔ ((n.val : Int) ≠ 32 ∧ (n.val : Int) ≠ 10) := by decide +kernel
  have := key ⟨b.toNat, b.toNat_lt⟩
  rw [show UInt8.ofNat b.toNat = b by simp] at this
  exact this
theorem bare_step {s : Str} {k : Int} {lo : List Int} (h0 : 0 ≤ k) (h1 : k < len s) (h : toStr lo = bareP (Eng.sub s 0 k)) : (byteAt s k ≠ 32 ∧ byteAt s k ≠ 10 → toStr (lo ++ [byteAt s k]) = bareP (Eng.sub s 0 (k + 1))) ∧ (byteAt s k = 32 ∨ byteAt s k = 10 → toStr lo = bareP (Eng.sub s 0 (k + 1))) := by
  obtain ⟨b, h2, h3⟩ := sub_snoc' (Int.le_refl 0) h0 h1
  rw [h2, bareP_app]
  refine ⟨fun h4 => ?_, fun h4 => ?_⟩
  · rw [bareP_one (okB_iff.2 (by rw [h3]; exact h4)), bareP_nil, toStr_app, h, ← h3]
    unfold toStr; simp
  · rw [bareP_no (by cases hb : okB b with
      | false => rfl
      | true => have := okB_iff.1 hb; rw [h3] at this; omega), bareP_nil, List.append_nil, h]
end Go.Eng
set_option maxRecDepth 100000
namespace Go.Proofs.YtjfaikgooldcbaaGreatDoor
open Go.Eng

/- loupe/loupelaw04.bare -/
theorem bare_c (s : Str) (w : World) (hb : len s ≤ 1099511627776) :
  Calls Tryz.prog 21 [(str s)].toArray w fun e w' => e = .returned (str (bareP s)) ∧ Ext w w' := by
 refine CW.enter1 Tryz.func21 rfl Tryz.ntmps21 (Nat.le_of_ble_eq_true rfl) fun Q hE => ?_
 have hsn := len_nonneg s
 have hS : St w nM w nM [] := St.start ⟨fun _ _ _ h => by cases h⟩
 refine CW.weaken [0] (L' := [Y 0 (str s)]) ?_ rfl
 refine CW.sr (RL.u (.assign .c) rfl (RL.nil (CW.id (CW.sr ?_))))
 refine RL.buildSlice (n := 0) (sz := 1) (e := 5) (vs := []) (cs := []) hS .nil rfl rfl (fun w => by kernel_rfl) rfl (fun v1 w2 M3 hS4 hle5 => ?_)
 refine RL.a rfl rfl (RL.nil (CW.id ?_))
 refine CW.seq (CW.sr (RL.u (.assign .c) rfl (RL.nil (CW.id ?_))))
 refine CW.block ?_
 refine CW.loop (σ := Int × List Int × Value × Mem) (fun (k, o, vo, Ml) => [Y 0 (str s), Y 3 vo, Y 4 (i64 k)]) (fun (k, o, vo, Ml) wl => St w nM wl Ml [.own 5 1 vo o.length (o.flatMap u8I)] ∧ 0 ≤ k ∧ k ≤ len s ∧ toStr o = bareP (Eng.sub s 0 k) ∧ len o ≤ k) (fun (k, o, vo, Ml) => (len s - k).toNat) ((0, [], v1, M3)) [0, 3, 4] rfl ?_ ?_
 ·refine ⟨hS4, ?_⟩; exact ⟨by omega, by omega, rfl, by decide⟩
 ·rintro ⟨k, o, vo, Ml⟩ wl ⟨hS6, hk0, hk1, hF, hlen⟩
  have hst := fun h : k < len s => bare_step hk0 h hF
  have hby := byteAt_bd s k
  refine CW.seq (CW.sr (RL.m rfl rfl (RL.m rfl rfl (RL.u (.lenS (.t rfl) Tryz.underlying9) rfl (RL.u (.lss (.t rfl) (.t rfl)) rfl (RL.nil (CW.id ?_)))))))
  refine CW.cond rfl ?_ ?_ <;> intro hb1 <;> try simp only [zb] at hb1
  ·refine CW.skip (CW.id (CW.seq (CW.block (CW.sr ?_))))
   refine RL.m rfl rfl (RL.m rfl rfl (RL.u (.idxS (.t rfl) (.t rfl) Tryz.underlying9 (fun _ => by omega)) rfl (RL.u (.neq (.t rfl) .c) rfl (RL.m rfl rfl (RL.v (.pos rfl rfl) (.move (.t rfl)) rfl ?_)))))
   refine RL.v (.pos rfl rfl) (.move (.t rfl)) rfl (RL.v (.pos rfl rfl) (.idxS (.g rfl (fun h => h)) (.g rfl (fun h => h)) Tryz.underlying9 (fun hW => by simp only [zb] at hW; first | omega | (simp only [len_app, len_cons, len_nil] at *; omega))) rfl (RL.v (.pos rfl rfl) (.neq (.g rfl (fun h => h)) .c) rfl (RL.u (.and (.t rfl) (.g rfl (fun h => h))) rfl (RL.nil (CW.id ?_)))))
   refine CW.cond rfl ?_ ?_ <;> intro hb2 <;> try simp only [zb] at hb2
   ·refine CW.region (RL.m rfl rfl (RL.m rfl rfl (RL.m rfl rfl (RL.u (.idxS (.t rfl) (.t rfl) Tryz.underlying9 (fun _ => by omega)) rfl ?_))))
    refine RL.buildSlice (n := 1) (sz := 1) (e := 5) (vs := [(0, (.int .u8 (byteAt s k)))]) (cs := [(.int .u8 (byteAt s k))]) hS6 (.cons (.t rfl) .nil) rfl rfl (fun w => by kernel_rfl) rfl (fun v7 w8 M9 hS10 hle11 => ?_)
    refine RL.append1 (f := u8I) (l := o) (y := byteAt s k) hS10 (k := 1) rfl (.t rfl) (.t rfl) (hS10.sl (i := 0) rfl) Tryz.underlying63 Tryz.type5 rfl rfl rfl u8I_one (by' := 1) rfl rfl (by omega) rfl (Hs' := fun v' => [.own 5 1 v7 (([byteAt s k] : List Int)).length ((([byteAt s k] : List Int)).flatMap u8I), .own 5 1 v' (o ++ [byteAt s k]).length ((o ++ [byteAt s k]).flatMap u8I)]) (fun _ => rfl) (fun v12 w13 M14 hS15 hle16 => ?_)
    replace hS15 := hS15.erase 0 rfl
    refine RL.a rfl rfl (RL.nil (CW.id ?_))
    refine CW.region (RL.m rfl rfl (RL.u (.add (.t rfl) .c (fun _ => by omega)) rfl (RL.a rfl rfl ?_)))
    refine RL.nil fun a hs => Exists.intro ((k + 1, o ++ [byteAt s k], v12, M14)) ⟨hs.keep [0, 3, 4], ?_, ?_⟩
    ·refine ⟨hS15, ?_⟩
     exact ⟨by omega, by omega, (hst (by omega)).1 (by simpa using hb2), by simp only [len_app, len_cons, len_nil]; omega⟩
    ·show Int.toNat _ < Int.toNat _; omega
   ·refine CW.skip (CW.id ?_)
    refine CW.region (RL.m rfl rfl (RL.u (.add (.t rfl) .c (fun _ => by omega)) rfl (RL.a rfl rfl ?_)))
    refine RL.nil fun a hs => Exists.intro ((k + 1, o, vo, Ml)) ⟨hs.keep [0, 3, 4], ?_, ?_⟩
    ·refine ⟨hS6, ?_⟩
     exact ⟨by omega, by omega, (hst (by omega)).2 (by omega), by omega⟩
    ·show Int.toNat _ < Int.toNat _; omega
  ·refine CW.exit (CW.at [Y 3 vo] rfl ?_)
   refine CW.sr (RL.m rfl rfl (RL.u (.b2s hS6 extEq (hS6.sl (i := 0) rfl) (.t rfl) Tryz.underlying63 Tryz.underlying5 Tryz.underlying9) rfl (RL.a rfl rfl (RL.nil (CW.id (CW.ret (hE.r1 rfl rfl ?_)))))))
   exact ⟨by rw [hF, sub_all s k (by omega)], hS6.low⟩

end Go.Proofs.YtjfaikgooldcbaaGreatDoor
set_option maxRecDepth 100000
namespace Go.Proofs.YtjfaikgooldcbaaGreatDoor
open Go.Eng

/- loupe/loupelaw04.TextBlanks -/
theorem textBlanks_c (M : Mem) (v : Vl) (vv : Value) (n0 n1 : Int) (w : World) (hM : Sat w M) (hv : Sl M 6 v.length vv (v.flatMap Nd.cells)) (hg : Gl w) (hn0 : 0 ≤ n0 ∧ n0 ≤ 255) (hn1 : 0 ≤ n1 ∧ n1 ≤ 255) :
  Calls Tryz.prog 6 [vv, (.agg #[(.int .u8 n0), (.int .u8 n1)])].toArray w fun e w' => e = .returned (.bool true) ∧ Ext w w' := by
 refine CW.enter1 Tryz.func6 rfl Tryz.ntmps6 (Nat.le_of_ble_eq_true rfl) fun Q hE => ?_
 have hl4 : len ([32, 9, 10, 13] : Str) = 4 := rfl
 have hS : St w M w M [] := St.start hM
 refine CW.weaken [0, 1] (L' := [Y 0 vv, Y 1 (.agg #[(.int .u8 n0), (.int .u8 n1)])]) ?_ rfl
 refine CW.sr ?_
 refine RL.box (v := (.agg #[(.int .u8 n0), (.int .u8 n1)])) hS (.t rfl) rfl (fun w1 b2 hS3 => ?_)
 refine RL.u (.assign .c) rfl (RL.nil (CW.id ?_))
 refine CW.seq (CW.sr (RL.m rfl rfl ?_))
 refine RL.callE hS3 .none Tryz.call14 (.cons (.t rfl) (.cons .c .nil)) (fun _ => (few_c M v vv 60 _ hS3.sat hv (by omega))) rfl (fun w4 hS5 => ?_)
 refine RL.u (.not (.t rfl)) rfl ?_
 refine RL.nil (CW.at [Y 0 vv, Y 3 (.pointer (some ⟨b2, 0, none⟩)), Y 15 (.bool (!(fewB v 60)))] rfl ?_)
 refine CW.cond rfl ?_ ?_ <;> intro hb1 <;> try simp only [zb] at hb1
 ·refine CW.sr ?_
  refine RL.callE hS5 .none Tryz.call10 .nil (fun _ => (alive4_c _ (hg.low hS5.low))) rfl (fun w6 hS7 => ?_)
  refine RL.a rfl rfl ?_
  refine RL.nil (CW.at [Y 4 (.bool true)] rfl (CW.ret (hE.r1 rfl rfl ?_)))
  exact ⟨rfl, hS7.low⟩
 ·obtain ⟨hf1, hs200, hrt⟩ := few_yes (by simpa using hb1)
  obtain ⟨t, hvt, hg_t, htn⟩ := right_good hrt
  have htz : (t.size : Int) ≤ 60 := by unfold len at hf1; rw [hvt, Tr.flat_len] at hf1; exact hf1
  rw [hvt] at hs200
  have hdt := depthT_le _ t rfl
  have hp_t := parse_self_ok hg_t htn hs200 (by decide) (by omega) (by omega)
  have hpb0 : len (prt false 0 t) ≤ 1000000000 := by have := prt_bd (ln := false) (d := 0) hg_t (hs200.mono (by decide)) (Int.le_refl _) (by omega); omega
  have hpb1 := (hp_t true).2.1
  have hpl := len_nonneg (prt false 0 t)
  refine CW.skip (CW.id (CW.sr (RL.u (.assign .c) rfl (RL.nil (CW.id ?_)))))
  refine CW.sr (RL.m rfl rfl ?_)
  refine RL.callE hS5 .none Tryz.call15 (.cons (.t rfl) .nil) (fun _ => (compact_c M t vv _ hS5.sat (by rw [← hvt]; exact hv) (Tr.good_ok hg_t (shortV.mono (by omega) hs200)) (hg.low hS5.low) (by omega) (Int.le_trans (hp_t false).2.1 (by decide)) (hp_t false).2.2)) rfl (fun w8 hS9 => ?_)
  refine RL.a rfl rfl ?_
  refine RL.nil (CW.at [Y 0 vv, Y 3 (.pointer (some ⟨b2, 0, none⟩)), Y 5 (str [32, 9, 10, 13]), Y 6 (str (prt false 0 t))] rfl (CW.seq (CW.sr (RL.u (.assign .c) rfl (RL.nil (CW.id ?_))))))
  refine CW.block ?_
  refine CW.loop (σ := Int × Str) (fun (j, o) => [Y 0 vv, Y 3 (.pointer (some ⟨b2, 0, none⟩)), Y 5 (str [32, 9, 10, 13]), Y 6 (str o), Y 7 (i64 j)]) (fun (j, o) wl => St w M wl M [.box b2 [(.int .u8 n0), (.int .u8 n1)] 35] ∧ Sl M 6 v.length vv (v.flatMap Nd.cells) ∧ 0 ≤ j ∧ j ≤ n0 % 6 ∧ (∃ b, o = b ++ prt false 0 t ∧ len b = j ∧ ∀ x ∈ b, isBlankB x = true)) (fun (j, o) => (n0 % 6 - j).toNat) ((0, prt false 0 t)) [0, 3, 5, 6, 7] rfl ?_ ?_
  ·refine ⟨hS9, hv, ?_⟩; exact ⟨by omega, by omega, [], by simp, rfl, fun x hx => by cases hx⟩
  ·rintro ⟨j, o⟩ wl ⟨hS10, hv, hj0, hj1, b, ho, hbl, hbb⟩
   have hbs : len (Eng.sub ([32, 9, 10, 13] : Str) (j % 4) (j % 4 + 1)) = 1 := by rw [sub_len (by omega) (by omega) (by show j % 4 + 1 ≤ 4; omega)]; omega
   have hol : len o = j + len (prt false 0 t) := by rw [ho, len_app]; omega
   refine CW.seq (CW.sr (RL.m rfl rfl (RL.u (.idxA 0 (.t rfl) .c Tryz.underlying35 Tryz.sizeOf5 (fun _ => rfl) rfl) rfl (RL.u (.loadB1 (v := (.int .u8 n0)) hS10 extEq (i := 0) rfl (.t rfl) Tryz.isAgg5 rfl) rfl (RL.u (.remK (r := n0 % 6) (.t rfl) .c (fun _ => by omega) (fun _ => by first | exact Int.tmod_eq_emod_of_nonneg hn0.1 | exact Int.tmod_eq_emod_of_nonneg hn1.1 | exact Int.tmod_eq_emod_of_nonneg (by omega))) rfl (RL.u (.cvtK (r := n0 % 6) (.t rfl) Tryz.underlying5 Tryz.underlying3 (fun _ => by exact Eng.wrap_i64 (by omega))) rfl (RL.u (.lss (.t rfl) (.t rfl)) rfl (RL.nil (CW.id ?_)))))))))
   refine CW.cond rfl ?_ ?_ <;> intro hb2 <;> try simp only [zb] at hb2
   ·refine CW.skip (CW.id (CW.seq (CW.block ?_)))
    refine CW.region (RL.m rfl rfl (RL.m rfl rfl (RL.u (.rem (.t rfl) .c (fun _ => by omega)) rfl (RL.m rfl rfl (RL.u (.rem (.t rfl) .c (fun _ => by omega)) rfl (RL.u (.add (.t rfl) .c (fun _ => by omega)) rfl (RL.u (.slS (.t rfl) (.t rfl) (.t rfl) Tryz.underlying9 (fun _ => by omega)) rfl (RL.m rfl rfl (RL.u (.sadd (.t rfl) (.t rfl) (fun _ => by omega)) rfl (RL.a rfl rfl (RL.nil (CW.id ?_))))))))))))
    refine CW.region (RL.m rfl rfl (RL.u (.add (.t rfl) .c (fun _ => by omega)) rfl (RL.a rfl rfl ?_)))
    refine RL.nil fun a hs => Exists.intro ((j + 1, (Eng.sub [32, 9, 10, 13] (j % 4) ((j % 4) + 1)) ++ o)) ⟨hs.keep [0, 3, 5, 6, 7], ?_, ?_⟩
    ·refine ⟨hS10, hv, ?_⟩
     exact ⟨by omega, by omega, Eng.sub ([32, 9, 10, 13] : Str) (j % 4) (j % 4 + 1) ++ b, by rw [ho, List.append_assoc], by rw [len_app]; omega, blank_app (blank4 (by omega) (by omega)) hbb⟩
    ·show Int.toNat _ < Int.toNat _; omega
   ·refine CW.exit (CW.at [Y 0 vv, Y 3 (.pointer (some ⟨b2, 0, none⟩)), Y 5 (str [32, 9, 10, 13]), Y 6 (str o)] rfl ?_)
    refine CW.seq (CW.sr (RL.u (.assign .c) rfl (RL.nil (CW.id ?_))))
    refine CW.block ?_
    refine CW.loop (σ := Int × Str) (fun (j2, o2) => [Y 0 vv, Y 3 (.pointer (some ⟨b2, 0, none⟩)), Y 5 (str [32, 9, 10, 13]), Y 6 (str o2), Y 8 (i64 j2)]) (fun (j2, o2) wl => St w M wl M [.box b2 [(.int .u8 n0), (.int .u8 n1)] 35] ∧ Sl M 6 v.length vv (v.flatMap Nd.cells) ∧ 0 ≤ j2 ∧ j2 ≤ n1 % 6 ∧ (∃ c, o2 = o ++ c ∧ len c = j2 ∧ ∀ x ∈ c, isBlankB x = true)) (fun (j2, o2) => (n1 % 6 - j2).toNat) ((0, o)) [0, 3, 5, 6, 8] rfl ?_ ?_
    ·refine ⟨hS10, hv, ?_⟩; exact ⟨by omega, by omega, [], by simp, rfl, fun x hx => by cases hx⟩
    ·rintro ⟨j2, o2⟩ wl ⟨hS11, hv, gj0, gj1, c, ho2, gbl, gbb⟩
     have gbs : len (Eng.sub ([32, 9, 10, 13] : Str) (j2 % 4) (j2 % 4 + 1)) = 1 := by rw [sub_len (by omega) (by omega) (by show j2 % 4 + 1 ≤ 4; omega)]; omega
     have gol : len o2 = len o + j2 := by rw [ho2, len_app]; omega
     refine CW.seq (CW.sr (RL.m rfl rfl (RL.u (.idxA 1 (.t rfl) .c Tryz.underlying35 Tryz.sizeOf5 (fun _ => rfl) rfl) rfl (RL.u (.loadB1 (v := (.int .u8 n1)) hS11 extEq (i := 0) rfl (.t rfl) Tryz.isAgg5 rfl) rfl (RL.u (.remK (r := n1 % 6) (.t rfl) .c (fun _ => by omega) (fun _ => by first | exact Int.tmod_eq_emod_of_nonneg hn0.1 | exact Int.tmod_eq_emod_of_nonneg hn1.1 | exact Int.tmod_eq_emod_of_nonneg (by omega))) rfl (RL.u (.cvtK (r := n1 % 6) (.t rfl) Tryz.underlying5 Tryz.underlying3 (fun _ => by exact Eng.wrap_i64 (by omega))) rfl (RL.u (.lss (.t rfl) (.t rfl)) rfl (RL.nil (CW.id ?_)))))))))
     refine CW.cond rfl ?_ ?_ <;> intro hb3 <;> try simp only [zb] at hb3
     ·refine CW.skip (CW.id (CW.seq (CW.block ?_)))
      refine CW.region (RL.m rfl rfl (RL.m rfl rfl (RL.m rfl rfl (RL.u (.rem (.t rfl) .c (fun _ => by omega)) rfl (RL.m rfl rfl (RL.u (.rem (.t rfl) .c (fun _ => by omega)) rfl (RL.u (.add (.t rfl) .c (fun _ => by omega)) rfl (RL.u (.slS (.t rfl) (.t rfl) (.t rfl) Tryz.underlying9 (fun _ => by omega)) rfl (RL.u (.sadd (.t rfl) (.t rfl) (fun _ => by omega)) rfl (RL.a rfl rfl (RL.nil (CW.id ?_))))))))))))
      refine CW.region (RL.m rfl rfl (RL.u (.add (.t rfl) .c (fun _ => by omega)) rfl (RL.a rfl rfl ?_)))
      refine RL.nil fun a hs => Exists.intro ((j2 + 1, o2 ++ (Eng.sub [32, 9, 10, 13] (j2 % 4) ((j2 % 4) + 1)))) ⟨hs.keep [0, 3, 5, 6, 8], ?_, ?_⟩
      ·refine ⟨hS11, hv, ?_⟩
       exact ⟨by omega, by omega, c ++ Eng.sub ([32, 9, 10, 13] : Str) (j2 % 4) (j2 % 4 + 1), by rw [ho2, List.append_assoc], by rw [len_app]; omega, blank_app gbb (blank4 (by omega) (by omega))⟩
      ·show Int.toNat _ < Int.toNat _; omega
     ·have hpo : parseT o2 = (t.flat, 0, 0) := parse_blank hg_t htn (by rw [ho2, ho]) hbb gbb (by omega) (prt_bd (ln := false) (d := 0) hg_t (hs200.mono (by decide)) (Int.le_refl _) (by omega)).1
      refine CW.exit (CW.at [Y 0 vv, Y 6 (str o2)] rfl ?_)
      refine CW.sr (RL.m rfl rfl ?_)
      refine RL.callP Tryz.call11 (.cons (.t rfl) .nil) (parse_lit (Rs := [.box b2 [(.int .u8 n0), (.int .u8 n1)] 35]) o2 ((t.flat, 0, 0)) hS11 hg (by omega) hpo) rfl ?_
      rintro v15 w16 ⟨a12, c13, M17, rfl, hsl_v15, hS18, hle19⟩
      replace hv := hv.mono hle19
      replace hsl_v15 : Sl M17 6 t.flat.length (.slice a12 t.flat.length c13) (t.flat.flatMap Nd.cells) := hsl_v15
      refine RL.m rfl rfl (RL.u (.ex (.t rfl) rfl) rfl (RL.u (.ex (.t rfl) rfl) rfl (RL.u (.ex (.t rfl) rfl) rfl (RL.a rfl rfl (RL.a rfl rfl ?_)))))
      refine RL.a rfl rfl ?_
      refine RL.nil (CW.at [Y 0 vv, Y 9 (.slice a12 t.flat.length c13), Y 11 (i64 0)] rfl (CW.seq (CW.sr (RL.u (.assign .c) rfl (RL.nil (CW.id ?_))))))
      refine CW.block ?_
      refine CW.loop (σ := Int) (fun k => [Y 0 vv, Y 9 (.slice a12 t.flat.length c13), Y 11 (i64 0), Y 12 (i64 k)]) (fun k wl => St w M wl M17 [.box b2 [(.int .u8 n0), (.int .u8 n1)] 35] ∧ Sl M17 6 v.length vv (v.flatMap Nd.cells) ∧ Sl M17 6 t.flat.length (.slice a12 t.flat.length c13) (t.flat.flatMap Nd.cells) ∧ 0 ≤ k ∧ k ≤ len v ∧ (∀ j, 0 ≤ j → j < k → bareP (at' v j).s = (at' v j).s ∧ bareP (at' v j).name = (at' v j).name)) (fun k => (len v - k).toNat) 0 [0, 9, 11, 12] rfl ?_ ?_
      ·refine ⟨hS18, hv, hsl_v15, ?_⟩; exact ⟨by omega, len_nonneg v, fun j h1 h2 => by omega⟩
      ·rintro k wl ⟨hS20, hv, hsl_v15, hk0, hk1, hkb⟩
       refine CW.seq (CW.sr (RL.m rfl rfl (RL.m rfl rfl (RL.u (.lenT hv (.t rfl) ⟨_, Tryz.underlying24⟩) rfl (RL.u (.lss (.t rfl) (.t rfl)) rfl (RL.nil (CW.id ?_)))))))
       refine CW.cond rfl ?_ ?_ <;> intro hb4 <;> try simp only [zb] at hb4
       ·have hln : len (at' v k).s ≤ 200 ∧ len (at' v k).name ≤ 200 := by have := hs200 _ (by rw [← hvt]; exact at'_mem hk0 (by omega)); exact this
        refine CW.skip (CW.id (CW.seq (CW.block (CW.seq ?_))))
        refine CW.regionD hS20 tryz_mixed (by decide +kernel) ?_
        refine RQ.v .none (.move (.t rfl)) rfl ?_
        refine RQ.v .none (.move (.t rfl)) rfl ?_
        refine RQ.v .none (.idxT hv (.t rfl) (.t rfl) Tryz.underlying24 Tryz.sizeOf38 (fun _ => by omega)) rfl ?_
        refine RQ.v .none (.fldA (q := ⟨sb vv, so vv + (k : Int).toNat * 6 + 3, none⟩) (.t rfl) (fun w => by kernel_rfl)) rfl ?_
        refine RQ.v .none (.loadE1 (f := Nd.cells) (i := k) (j := 3) (u := (str ((at' v k).s))) hS20 (fun _ h => h) hv Nd.cells_len (.t rfl) Tryz.isAgg9 (fun _ => by omega) rfl rfl) rfl ?_
        refine RQ.call .none Tryz.call21 (.cons (.t rfl) .nil) (fun _ => (fun w2 hw2 => ((bare_c ((at' v k).s) _ (by omega))).mono (fun e w3 h3 => ⟨h3.1, Ext.trans hw2 h3.2⟩))) rfl ?_
        refine RQ.v .none (.move (.t rfl)) rfl ?_
        refine RQ.v .none (.move (.t rfl)) rfl ?_
        refine RQ.v .none (.idxT hv (.t rfl) (.t rfl) Tryz.underlying24 Tryz.sizeOf38 (fun _ => by omega)) rfl ?_
        refine RQ.v .none (.fldA (q := ⟨sb vv, so vv + (k : Int).toNat * 6 + 3, none⟩) (.t rfl) (fun w => by kernel_rfl)) rfl ?_
        refine RQ.v .none (.loadE1 (f := Nd.cells) (i := k) (j := 3) (u := (str ((at' v k).s))) hS20 (fun _ h => h) hv Nd.cells_len (.t rfl) Tryz.isAgg9 (fun _ => by omega) rfl rfl) rfl ?_
        refine RQ.v .none (.sneq (.t rfl) (.t rfl)) rfl ?_
        refine RQ.v .none (.move (.t rfl)) rfl ?_
        refine RQ.v (.neg rfl rfl) (.move (.t rfl)) rfl ?_
        refine RQ.v (.neg rfl rfl) (.move (.t rfl)) rfl ?_
        refine RQ.v (.neg rfl rfl) (.idxT hv (.g rfl (fun h => h)) (.g rfl (fun h => h)) Tryz.underlying24 Tryz.sizeOf38 (fun hW => by simp only [zb] at hW; omega)) rfl ?_
        refine RQ.v (.neg rfl rfl) (.fldA (q := ⟨sb vv, so vv + (k : Int).toNat * 6 + 2, none⟩) (.g rfl (fun h => h)) (fun w => by kernel_rfl)) rfl ?_
        refine RQ.v (.neg rfl rfl) (.loadE1 (f := Nd.cells) (i := k) (j := 2) (u := (str ((at' v k).name))) hS20 (fun _ h => h) hv Nd.cells_len (.g rfl (fun h => h)) Tryz.isAgg9 (fun hW => by simp only [zb] at hW; omega) rfl rfl) rfl ?_
        refine RQ.call (.neg rfl rfl) Tryz.call21 (.cons (.g rfl (fun h => h)) .nil) (fun hW => by simp only [zb] at hW; exact (fun w2 hw2 => ((bare_c ((at' v k).name) _ (by omega))).mono (fun e w3 h3 => ⟨h3.1, Ext.trans hw2 h3.2⟩))) rfl ?_
        refine RQ.v (.neg rfl rfl) (.move (.t rfl)) rfl ?_
        refine RQ.v (.neg rfl rfl) (.move (.t rfl)) rfl ?_
        refine RQ.v (.neg rfl rfl) (.idxT hv (.g rfl (fun h => h)) (.g rfl (fun h => h)) Tryz.underlying24 Tryz.sizeOf38 (fun hW => by simp only [zb] at hW; omega)) rfl ?_
        refine RQ.v (.neg rfl rfl) (.fldA (q := ⟨sb vv, so vv + (k : Int).toNat * 6 + 2, none⟩) (.g rfl (fun h => h)) (fun w => by kernel_rfl)) rfl ?_
        refine RQ.v (.neg rfl rfl) (.loadE1 (f := Nd.cells) (i := k) (j := 2) (u := (str ((at' v k).name))) hS20 (fun _ h => h) hv Nd.cells_len (.g rfl (fun h => h)) Tryz.isAgg9 (fun hW => by simp only [zb] at hW; omega) rfl rfl) rfl ?_
        refine RQ.v (.neg rfl rfl) (.sneq (.g rfl (fun h => h)) (.g rfl (fun h => h))) rfl ?_
        refine RQ.v .none (.or (.t rfl) (.g rfl (fun h => h))) rfl ?_
        refine RQ.nil (fun a hs w21 hS22 => CW.at [Y 0 vv, Y 9 (.slice a12 t.flat.length c13), Y 11 (i64 0), Y 12 (i64 k), Y 90 (.bool ((!((bareP ((at' v k).s)) == ((at' v k).s))) || (!((bareP ((at' v k).name)) == ((at' v k).name)))))] rfl ?_ a hs)
        refine CW.cond rfl ?_ ?_ <;> intro hb5 <;> try simp only [zb] at hb5
        ·refine CW.sr ?_
         refine RL.callE hS22 .none Tryz.call10 .nil (fun _ => (alive4_c _ (hg.low hS22.low))) rfl (fun w23 hS24 => ?_)
         refine RL.m rfl rfl (RL.v (.pos rfl rfl) (.move (.t rfl)) rfl (RL.v (.pos rfl rfl) (.eql (.g rfl (fun h => h)) .c) rfl (RL.u (.and (.t rfl) (.g rfl (fun h => h))) rfl (RL.m rfl rfl (RL.v (.pos rfl rfl) (.move (.t rfl)) rfl ?_)))))
         refine RL.v (.pos rfl rfl) (.move (.t rfl)) rfl ?_
         refine RL.callE hS24 (.pos rfl rfl) Tryz.call13 (.cons (.g rfl (fun h => h)) (.cons (.g rfl (fun h => h)) .nil)) (fun hW => by simp only [zb] at hW; exact (same2_c M17 t.flat v (.slice a12 t.flat.length c13) vv _ hS24.sat hsl_v15 hv)) rfl (fun w25 hS26 => ?_)
         refine RL.u (.and (.t rfl) (.g rfl (fun h => h))) rfl (RL.a rfl rfl ?_)
         refine RL.nil (CW.at [Y 4 (.bool ((true && (0 == 0)) && (sameV t.flat v)))] rfl (CW.ret (hE.r1 rfl rfl ?_)))
         exact ⟨by rw [hvt]; simp [sameV_self], hS26.low⟩
        ·refine CW.skip (CW.id ?_)
         refine CW.region (RL.m rfl rfl (RL.u (.add (.t rfl) .c (fun _ => by omega)) rfl (RL.a rfl rfl ?_)))
         refine RL.nil fun a hs => Exists.intro (k + 1) ⟨hs.keep [0, 9, 11, 12], ?_, ?_⟩
         ·refine ⟨hS22, hv, hsl_v15, ?_⟩
          exact ⟨by omega, by omega, fun j h1 h2 => by rcases Int.lt_or_eq_of_le (show j ≤ k by omega) with h3 | rfl; exact hkb j h1 h3; simpa using hb5⟩
         ·show Int.toNat _ < Int.toNat _; omega
       ·refine CW.exit (CW.at [Y 0 vv, Y 9 (.slice a12 t.flat.length c13), Y 11 (i64 0)] rfl ?_)
        refine CW.sr ?_
        refine RL.callE hS20 .none Tryz.call10 .nil (fun _ => (alive4_c _ (hg.low hS20.low))) rfl (fun w27 hS28 => ?_)
        refine RL.m rfl rfl (RL.v (.pos rfl rfl) (.move (.t rfl)) rfl (RL.v (.pos rfl rfl) (.eql (.g rfl (fun h => h)) .c) rfl (RL.u (.and (.t rfl) (.g rfl (fun h => h))) rfl (RL.m rfl rfl (RL.v (.pos rfl rfl) (.move (.t rfl)) rfl ?_)))))
        refine RL.v (.pos rfl rfl) (.move (.t rfl)) rfl ?_
        refine RL.callE hS28 (.pos rfl rfl) Tryz.call13 (.cons (.g rfl (fun h => h)) (.cons (.g rfl (fun h => h)) .nil)) (fun hW => by simp only [zb] at hW; exact (same2_c M17 t.flat v (.slice a12 t.flat.length c13) vv _ hS28.sat hsl_v15 hv)) rfl (fun w29 hS30 => ?_)
        refine RL.u (.and (.t rfl) (.g rfl (fun h => h))) rfl (RL.m rfl rfl (RL.v (.pos rfl rfl) (.move (.t rfl)) rfl ?_))
        refine RL.callE hS30 (.pos rfl rfl) Tryz.call17 (.cons (.g rfl (fun h => h)) .nil) (fun hW => by simp only [zb] at hW; exact (indent_c M17 t vv _ hS30.sat (by rw [← hvt]; exact hv) (Tr.good_ok hg_t (shortV.mono (by omega) hs200)) (hg.low hS30.low) (by omega) (Int.le_trans (hp_t true).2.1 (by decide)) (hp_t true).2.2)) rfl (fun w31 hS32 => ?_)
        refine RL.callE hS32 (.pos rfl rfl) Tryz.call21 (.cons (.g rfl (fun h => h)) .nil) (fun hW => by simp only [zb] at hW; exact (bare_c (prt true 0 t) _ (by omega))) rfl (fun w33 hS34 => ?_)
        refine RL.v (.pos rfl rfl) (.move (.t rfl)) rfl ?_
        refine RL.callE hS34 (.pos rfl rfl) Tryz.call15 (.cons (.g rfl (fun h => h)) .nil) (fun hW => by simp only [zb] at hW; exact (compact_c M17 t vv _ hS34.sat (by rw [← hvt]; exact hv) (Tr.good_ok hg_t (shortV.mono (by omega) hs200)) (hg.low hS34.low) (by omega) (Int.le_trans (hp_t false).2.1 (by decide)) (hp_t false).2.2)) rfl (fun w35 hS36 => ?_)
        refine RL.v (.pos rfl rfl) (.seql (.g rfl (fun h => h)) (.g rfl (fun h => h))) rfl (RL.u (.and (.t rfl) (.g rfl (fun h => h))) rfl (RL.a rfl rfl ?_))
        refine RL.nil (CW.at [Y 4 (.bool (((true && (0 == 0)) && (sameV t.flat v)) && ((bareP (prt true 0 t)) == (prt false 0 t))))] rfl (CW.ret (hE.r1 rfl rfl ?_)))
        have hbv := bare_all hkb (by omega)
        rw [hvt] at hbv
        exact ⟨by rw [hvt, bare_prt 0 t hg_t hbv]; simp [sameV_self], hS36.low⟩

end Go.Proofs.YtjfaikgooldcbaaGreatDoor
