/-
  WHAT IS READ IS RIGHT, and not too deep: plain. No program in it.
  A NUMBER'S TEXT, CUT OFF, is none, or a number: it is never one of too many figures. Plain: no program in it.
  A quoted text is read of its own bytes. Plain: no program in it.
-/
import Derived.Test.YtjfaikgooldcbaaGreatDoorZc26
import Derived.Test.YtjfaikgooldcbaaGreatDoorZc5
import Derived.Laws.BitsLemmas
import Derived.Test.YtjfaikgooldcbaaGreatDoorZc3
import Derived.Test.YtjfaikgooldcbaaGreatDoorProg
import Derived.Test.YtjfaikgooldcbaaGreatDoorZc19
import Derived.Test.YtjfaikgooldcbaaGreatDoorZc24
import Derived.Test.YtjfaikgooldcbaaGreatDoorZc25
set_option linter.unusedVariables false
set_option linter.unusedSimpArgs false
namespace Go.Eng
open Go.RowKit

/-- A good value, no deeper than so, its texts no longer than so. -/
def GoodV (q D : Int) (x : Vl) : Prop := ∃ t : Tr, x = t.flat ∧ t.good ∧ t.node.name = [] ∧ depthT t ≤ D ∧ shortV q t.flat
/-- A tree no deeper than so, its texts no longer than so. -/
def GoodU (q D : Int) (u : Tr) : Prop := u.good ∧ depthT u ≤ D ∧ shortV q u.flat
/-- What was read: such a value, no greater than so; or an error and where. -/
def POk {α : Type} (P : α → Prop) (sz : α → Int) (c : Int) (s : Str) : PR α → Prop
  | .ok x j => P x ∧ sz x + c ≤ j ∧ 0 ≤ j ∧ j ≤ len s
  | .er k p => k ≠ 0 ∧ 0 ≤ p ∧ p ≤ len s
theorem goodL_of {q D : Int} : ∀ {ts : List Tr}, (∀ u ∈ ts, GoodU q D u) → goodL ts
  | [], _ => trivial
  | t :: ts, h => by rw [goodL]; exact ⟨(h t List.mem_cons_self).1, goodL_of fun u hu => h u (List.mem_cons_of_mem _ hu)⟩
theorem depthL_of {q D : Int} (h0 : 0 ≤ D) : ∀ {ts : List Tr}, (∀ u ∈ ts, GoodU q D u) → depthL ts ≤ D
  | [], _ => h0
  | t :: ts, h => by rw [depthL]; have h1 := (h t List.mem_cons_self).2.1; have h2 := depthL_of h0 fun u hu => h u (List.mem_cons_of_mem _ hu); omega
theorem shortL_of {q D : Int} : ∀ {ts : List Tr}, (∀ u ∈ ts, GoodU q D u) → shortV q (flatL ts)
  | [], _ => fun n hn => by cases hn
  | t :: ts, h => fun n hn => by
    rw [flatL] at hn
    rcases List.mem_append.1 hn with hn | hn
    · exact (h t List.mem_cons_self).2.2 n hn
    · exact shortL_of (fun u hu => h u (List.mem_cons_of_mem _ hu)) n hn
/-- A node of parts over good ones. -/
theorem many_good {q D k : Int} {ts : List Tr} (hq : 0 ≤ q) (h0 : 0 ≤ D) (hk : k = 5 ∨ k = 6) (h : ∀ u ∈ ts, GoodU q D u) (hr : risL k ts) : GoodV q (D + 1) (⟨k, len ts, [], [], false, 0⟩ :: flatL ts) := by
  have hl := len_nonneg ts
  refine ⟨.mk ⟨k, len ts, [], [], false, 0⟩ ts, by rw [Tr.flat], ?_, rfl, ?_, ?_⟩
  · rw [Tr.good]
    refine ⟨?_, rfl, hr, goodL_of h⟩
    unfold plainB bareN
    rw [if_neg (by dsimp only; omega), if_neg (by dsimp only; omega), if_neg (by dsimp only; omega), if_pos hk]
    simp only [Bool.and_eq_true, decide_eq_true_eq]
    exact ⟨hl, trivial⟩
  · rw [depthT]
    have := depthL_of h0 h
    split <;> omega
  · rw [Tr.flat]
    intro n hn
    rcases List.mem_cons.1 hn with rfl | hn
    · exact ⟨hq, hq⟩
    · exact shortL_of h n hn
theorem trees_of {q D : Int} : ∀ {l : List Vl}, (∀ x ∈ l, GoodV q D x) → ∃ ts : List Tr, l.flatten = flatL ts ∧ len l = len ts ∧ (∀ u ∈ ts, GoodU q D u) ∧ risL 5 ts
  | [], _ => ⟨[], rfl, rfl, fun u hu => (by cases hu), trivial⟩
  | x :: l, h => by
    obtain ⟨t, rfl, h1, h2, h3, h4⟩ := h x List.mem_cons_self
    obtain ⟨ts, e1, e2, e3, e4⟩ := trees_of fun y hy => h y (List.mem_cons_of_mem _ hy)
    refine ⟨t :: ts, by rw [List.flatten_cons, flatL, e1], by rw [len_cons, len_cons, e2], fun u hu => ?_, ?_⟩
    · rcases List.mem_cons.1 hu with rfl | hu
      · exact ⟨h1, h3, h4⟩
      · exact e3 u hu
    · rw [risL]
      exact ⟨⟨fun _ => h2, by rw [h2]; exact utf_nil⟩, fun u us _ h6 => absurd h6 (by decide), e4⟩
theorem list_goodV {q D : Int} (hq : 0 ≤ q) (h0 : 0 ≤ D) {l : List Vl} (h : ∀ x ∈ l, GoodV q D x) : GoodV q (D + 1) (listV l) := by
  obtain ⟨ts, e1, e2, e3, e4⟩ := trees_of h
  unfold listV
  rw [e1, e2]
  exact many_good hq h0 (.inl rfl) e3 e4
/-- Pairs of good names and good values. -/
def PairG (q D : Int) (p : Str × Vl) : Prop := utf p.1 = true ∧ len p.1 ≤ q ∧ GoodV q D p.2
theorem named_trees {q D : Int} : ∀ {l : List (Str × Vl)}, (∀ p ∈ l, PairG q D p) → (l.map (·.1)).Pairwise (· < ·) → ∃ ts : List Tr, (l.map fun p => nameV p.1 p.2).flatten = flatL ts ∧ ts.map (·.node.name) = l.map (·.1) ∧ (∀ u ∈ ts, GoodU q D u) ∧ risL 6 ts
  | [], _, _ => ⟨[], rfl, rfl, fun u hu => (by cases hu), trivial⟩
  | p :: l, h, hp => by
    obtain ⟨hu, hl, t, ht, h1, h2, h3, h4⟩ := h p List.mem_cons_self
    rw [List.map_cons, List.pairwise_cons] at hp
    obtain ⟨ts, e1, e2, e3, e4⟩ := named_trees (fun y hy => h y (List.mem_cons_of_mem _ hy)) hp.2
    have hn : (t.named p.1).node.name = p.1 := by cases t; rfl
    refine ⟨t.named p.1 :: ts, ?_, ?_, fun u hu => ?_, ?_⟩
    · rw [List.map_cons, List.flatten_cons, flatL, e1, ht, Tr.named_flat]
    · rw [List.map_cons, List.map_cons, e2, hn]
    · rcases List.mem_cons.1 hu with rfl | hu
      · refine ⟨Tr.named_good h1, by rw [depthT_named]; exact h3, ?_⟩
        obtain ⟨n, ps⟩ := t
        intro m hm
        rw [Tr.named, Tr.flat] at hm
        rcases List.mem_cons.1 hm with rfl | hm
        · exact ⟨(h4 n (by rw [Tr.flat]; exact List.mem_cons_self)).1, hl⟩
        · exact h4 m (by rw [Tr.flat]; exact List.mem_cons_of_mem _ hm)
      · exact e3 u hu
    · rw [risL, hn]
      refine ⟨⟨fun h5 => absurd h5 (by decide), hu⟩, fun u us e _ => ?_, e4⟩
      have hm : u.node.name ∈ l.map (·.1) := by rw [← e2, e]; exact List.mem_cons_self
      rw [Go.Proofs.bytesLess_eq, decide_eq_true_eq]
      exact hp.1 _ hm
theorem sortN_lt {l : List Str} (h : l.Nodup) : (sortN l).Pairwise (· < ·) := by
  have h1 : (sortN l).Pairwise (fun x y => decide (x ≤ y) = true) := List.pairwise_mergeSort str_trans str_total l
  have h2 : (sortN l).Nodup := (List.mergeSort_perm l _).nodup_iff.2 h
  refine (h1.and h2).imp fun {a b} h3 => ?_
  have h4 := h3.1
  rw [decide_eq_true_eq] at h4
  rcases Classical.em (a < b) with h5 | h5
  · exact h5
  · exact absurd (List.le_antisymm h4 (List.not_lt.1 h5)) h3.2
def MapG (q D : Int) (m : List (Str × Vl)) : Prop := KeysOK m ∧ ∀ p ∈ m, PairG q D p
theorem MapG.nil {q D : Int} : MapG q D [] := ⟨by unfold KeysOK; exact List.nodup_nil, fun x hx => by cases hx⟩
theorem obj_goodV {q D : Int} (hq : 0 ≤ q) (h0 : 0 ≤ D) {m : List (Str × Vl)} (h : MapG q D m) : GoodV q (D + 1) (objV m) := by
  have hk : ((sortN (m.map (·.1))).map fun n => (n, (getV m n).getD [])).map (·.1) = sortN (m.map (·.1)) := by rw [List.map_map]; exact List.map_id _
  obtain ⟨ts, e1, e2, e3, e4⟩ := named_trees (q := q) (D := D) (l := (sortN (m.map (·.1))).map fun n => (n, (getV m n).getD [])) (fun p hp => by
    obtain ⟨n, hn, rfl⟩ := List.mem_map.1 hp
    obtain ⟨x, h1, h2⟩ := getV_in (sortN_mem.1 hn)
    have := h.2 _ h2
    rw [h1]; exact this) (by rw [hk]; exact sortN_lt h.1)
  unfold objV laidV
  rw [e1]
  have e5 : len ((sortN (m.map (·.1))).map fun n => (n, (getV m n).getD [])) = len ts := by
    have := congrArg List.length e2
    rw [List.length_map, List.length_map] at this
    unfold len; omega
  rw [e5]
  exact many_good hq h0 (.inr rfl) e3 e4
theorem MapG.put {q D : Int} {m : List (Str × Vl)} {n : Str} {x : Vl} (h : MapG q D m) (hp : PairG q D (n, x)) : MapG q D (putV m n x) := by
  refine ⟨h.1.put n x, ?_⟩
  have key : ∀ {m : List (Str × Vl)}, (∀ p ∈ m, PairG q D p) → ∀ p ∈ putV m n x, PairG q D p := by
    intro m
    induction m with
    | nil => intro _ p hm; simp only [putV, List.mem_singleton] at hm; subst hm; exact hp
    | cons a m ih =>
      intro hm p hpm
      unfold putV at hpm
      split at hpm
      · rcases List.mem_cons.1 hpm with rfl | hpm
        · exact hp
        · exact hm p (List.mem_cons_of_mem _ hpm)
      · rcases List.mem_cons.1 hpm with rfl | hpm
        · exact hm _ List.mem_cons_self
        · exact ih (fun p h => hm p (List.mem_cons_of_mem _ h)) p hpm
  exact key h.2
theorem POk.mapR {α β : Type} {P : α → Prop} {Q : β → Prop} {sz : α → Int} {sz' : β → Int} {c c' : Int} {f : α → β} {s : Str} {r : PR α} (h : POk P sz c s r) (hf : ∀ x, P x → Q (f x) ∧ sz' (f x) + c' ≤ sz x + c) : POk Q sz' c' s (mapR f r) := by
  cases r with
  | ok x j => have := hf x h.1; exact ⟨this.1, by have := h.2.1; omega, h.2.2⟩
  | er c p => exact h
theorem POk.more {α : Type} {P : α → Prop} {sz : α → Int} {c : Int} {s : Str} {e : UInt8} {r : PR α} {go : α → Int → PR α} (h : POk P sz c s r) (hg : ∀ x k, P x → sz x + c ≤ k → 0 ≤ k → k ≤ len s → POk P sz c s (go x k)) : POk P sz c s (moreT s [e] r go) := by
  cases r with
  | er c p => exact h
  | ok x j =>
    obtain ⟨h1, h4, h2, h3⟩ := h
    have hb := blankTo_bd s j h2 h3
    unfold moreT
    dsimp only
    split
    · rename_i hw
      have := hasW_le (by omega) hb.2 hw
      rw [len_cons, len_nil] at this
      exact ⟨h1, by omega, by omega, by omega⟩
    · split
      · rename_i hw
        have := hasW_le (by omega) hb.2 hw
        rw [len_cons, len_nil] at this
        have hb2 := blankTo_bd s (blankTo s j + 1) (by omega) (by omega)
        exact hg x _ h1 (by omega) (by omega) hb2.2
      · exact ⟨by decide, by omega, hb.2⟩
theorem POk.parts {α : Type} {P : α → Prop} {sz : α → Int} {c : Int} {s : Str} {i : Int} {e : UInt8} {x0 : α} {go : α → Int → PR α} (h0 : 0 ≤ i) (h1 : i < len s) (hx : P x0) (hz : sz x0 + c ≤ i + 1) (hg : ∀ k, i + 1 ≤ k → k ≤ len s → POk P sz c s (go x0 k)) : POk P sz c s (partsT s i [e] x0 go) := by
  have hb := blankTo_bd s (i + 1) (by omega) (by omega)
  unfold partsT
  split
  · rename_i hw
    have := hasW_le (by omega) hb.2 hw
    rw [len_cons, len_nil] at this
    exact ⟨hx, by omega, by omega, by omega⟩
  · exact hg _ (by omega) hb.2
theorem text_ok {s : Str} {i : Int} (h0 : 0 ≤ i) (h1 : i ≤ len s) : POk (fun x => utf x = true ∧ len x ≤ 4 * len s + 100) (fun _ => 2) i s (textT s i) := by
  have hl := from_len s i h0 h1
  have hb := unqP_bd (from' s i)
  have hn := unq_len (from' s i)
  unfold textT
  split
  · rename_i h; exact ⟨h, by omega, by omega⟩
  · rename_i h
    have := hb.2.2.1 (by omega)
    exact ⟨⟨unq_utf _, by omega⟩, by show (2 : Int) + i ≤ _; omega, by omega, by omega⟩
theorem num_ok {s : Str} {i D : Int} (h0 : 0 ≤ i) (h1 : i < len s) (h2 : byteAt s i = 45 ∨ isFig (byteAt s i) = true) (hD : 0 ≤ D) : POk (GoodV (4 * len s + 100) D) len i s (numT s i) := by
  have hl := from_len s i h0 (by omega)
  have hr := runN_le (from' s i)
  have hp := runN_pos h0 h1 h2
  have hb := read1_bd (runN (from' s i))
  have hk := read_ok (runN (from' s i))
  have hs := len_nonneg s
  unfold numT
  split
  · rename_i h; exact ⟨h, by omega, by omega⟩
  · rename_i h
    have h3 := hk.1 (Classical.not_not.1 h)
    have h4 := right_open h3
    generalize (read1 (runN (from' s i))).1 = n at h3 h4
    have hkd : n.kind = 3 := by rw [h4.1]
    have hnm : n.name = [] := by rw [h4.1]
    have hmn : n.many = 0 := by rw [h4.1]
    refine ⟨⟨.mk n [], by rw [Tr.flat, flatL], ?_, hnm, ?_, ?_⟩, by rw [len_cons, len_nil]; omega, by omega, by omega⟩
    · rw [Tr.good]
      refine ⟨?_, hmn, trivial, trivial⟩
      unfold plainB
      rw [if_neg (by omega), if_pos hkd]
      have : bareN n = n := by unfold bareN; rw [← hnm]
      rw [this]; exact h3
    · rw [depthT, if_pos (by omega)]; exact hD
    · rw [Tr.flat, flatL]
      intro m hm
      rw [List.mem_singleton] at hm
      subst hm
      rw [hnm, len_nil]
      exact ⟨by have := h4.2.2.1; omega, by omega⟩
theorem one_good {q D : Int} {n : Nd} (h : plainB n = true) (hk : n.kind < 5) (hn : n.name = []) (hm : n.many = 0) (hq : 0 ≤ q) (hs : len n.s ≤ q) (hD : 0 ≤ D) : GoodV q D [n] := by
  refine ⟨.mk n [], by rw [Tr.flat, flatL], ?_, hn, ?_, ?_⟩
  · rw [Tr.good]; exact ⟨h, hm, trivial, trivial⟩
  · rw [depthT, if_pos (by omega)]; exact hD
  · rw [Tr.flat, flatL]
    intro m hm
    rw [List.mem_singleton] at hm
    subst hm
    rw [hn, len_nil]; exact ⟨hs, hq⟩
theorem pair_ok {s : Str} {i c D : Int} {val : Int → PR Vl} {m : List (Str × Vl)} (h0 : 0 ≤ i) (h1 : i ≤ len s) (hc : mapN m + c ≤ i) (hv : ∀ k, i ≤ k → k ≤ len s → POk (GoodV (4 * len s + 100) D) len k s (val k)) (hm : MapG (4 * len s + 100) D m) : POk (MapG (4 * len s + 100) D) mapN c s (pairT s i val m) := by
  have ht := text_ok h0 h1
  unfold pairT
  generalize textT s i = r at ht
  cases r with
  | er c p => exact ht
  | ok n j =>
    obtain ⟨h2, h5, h3, h4⟩ := ht
    have h5 : 2 + i ≤ j := h5
    have hb := blankTo_bd s j h3 h4
    dsimp only
    split
    · rename_i hw
      have := hasW_le (by omega) hb.2 hw
      rw [len_cons, len_nil] at this
      have hb2 := blankTo_bd s (blankTo s j + 1) (by omega) (by omega)
      exact (hv _ (by omega) hb2.2).mapR fun x hx => ⟨hm.put ⟨h2.1, h2.2, hx⟩, by have := (putV_n n x m).1; omega⟩
    · exact ⟨by decide, by omega, hb.2⟩
theorem val_ok {s : Str} : ∀ f : Nat, (∀ i d, 0 ≤ i → i ≤ len s → 0 ≤ d → d ≤ 128 → POk (GoodV (4 * len s + 100) (128 - d)) len i s (valT f s i d)) ∧
    (∀ i d l c, 0 ≤ i → i ≤ len s → 0 ≤ d → d < 128 → (∀ x ∈ l, GoodV (4 * len s + 100) (128 - (d + 1)) x) → len l.flatten + c ≤ i → POk (fun l : List Vl => ∀ x ∈ l, GoodV (4 * len s + 100) (128 - (d + 1)) x) (fun l => len l.flatten) c s (itemsT f s d l i)) ∧
    (∀ i d m c, 0 ≤ i → i ≤ len s → 0 ≤ d → d < 128 → MapG (4 * len s + 100) (128 - (d + 1)) m → mapN m + c ≤ i → POk (MapG (4 * len s + 100) (128 - (d + 1))) mapN c s (pairsT f s d m i)) := by
  have hs := len_nonneg s
  intro f
  induction f with
  | zero =>
    refine ⟨fun i d h0 h1 _ _ => ?_, fun i d l c h0 h1 _ _ _ _ => ?_, fun i d m c h0 h1 _ _ _ _ => ?_⟩
    · rw [valT]; exact ⟨by decide, h0, h1⟩
    · rw [itemsT]; exact ⟨by decide, h0, h1⟩
    · rw [pairsT]; exact ⟨by decide, h0, h1⟩
  | succ f ih =>
    refine ⟨fun i d h0 h1 h2 h3 => ?_, fun i d l c h0 h1 h2 h3 hl hc => ?_, fun i d m c h0 h1 h2 h3 hm hc => ?_⟩
    · have hw : ∀ k : Int, k = 0 ∨ k = 1 ∨ k = 2 → GoodV (4 * len s + 100) (128 - d) [kindN k] := fun k hk => by
        refine one_good ?_ (by show k < 5; omega) rfl rfl (by omega) (by show len ([] : Str) ≤ _; rw [len_nil]; omega) (by omega)
        rcases hk with rfl | rfl | rfl <;> decide
      have l1 : ∀ n : Nd, len [n] = 1 := fun n => rfl
      rw [valT]
      split
      · rename_i hh; have := hasW_le h0 h1 hh; exact ⟨hw 0 (.inl rfl), by rw [l1]; omega, by omega, this⟩
      split
      · rename_i hh; have := hasW_le h0 h1 hh; exact ⟨hw 1 (.inr (.inl rfl)), by rw [l1]; omega, by omega, this⟩
      split
      · rename_i hh; have := hasW_le h0 h1 hh; exact ⟨hw 2 (.inr (.inr rfl)), by rw [l1]; omega, by omega, this⟩
      split
      · exact ⟨by decide, h0, h1⟩
      split
      · refine (text_ok h0 h1).mapR fun x hx => ⟨one_good ?_ (by show (4 : Int) < 5; decide) rfl rfl (by omega) hx.2 (by omega), by rw [l1]; omega⟩
        show plainB ⟨4, 0, [], x, false, 0⟩ = true
        unfold plainB bareN
        rw [if_neg (by dsimp only; omega), if_neg (by dsimp only; omega), if_pos rfl, hx.1]
        simp
      split
      · exact num_ok h0 (by omega) (by assumption) (by omega)
      split
      · exact ⟨by decide, h0, h1⟩
      split
      · exact ⟨by decide, h0, h1⟩
      have e : (128 - d : Int) = 128 - (d + 1) + 1 := by omega
      rename_i hd
      have hd : d < 128 := by omega
      rw [e]
      split
      · exact (POk.parts h0 (by omega) (P := fun l : List Vl => ∀ x ∈ l, GoodV (4 * len s + 100) (128 - (d + 1)) x) (sz := fun l => len l.flatten) (c := i + 1) (fun x hx => by cases hx) (by show len ([] : List Nd) + (i + 1) ≤ i + 1; rw [len_nil]; omega) fun k k0 k1 => ih.2.1 k d [] (i + 1) (by omega) k1 h2 hd (fun x hx => by cases hx) (by show len ([] : List Nd) + (i + 1) ≤ k; rw [len_nil]; omega)).mapR fun l hl => ⟨list_goodV (by omega) (by omega) hl, by show len (listV l) + i ≤ len l.flatten + (i + 1); unfold listV; rw [len_cons]; omega⟩
      · exact (POk.parts h0 (by omega) (P := MapG (4 * len s + 100) (128 - (d + 1))) (sz := mapN) (c := i + 1) MapG.nil (by show len ([] : List Nd) + (i + 1) ≤ i + 1; rw [len_nil]; omega) fun k k0 k1 => ih.2.2 k d [] (i + 1) (by omega) k1 h2 hd MapG.nil (by show len ([] : List Nd) + (i + 1) ≤ k; rw [len_nil]; omega)).mapR fun l hl => ⟨obj_goodV (by omega) (by omega) hl, by have := objV_le hl.1; omega⟩
    · rw [itemsT]
      refine POk.more ?_ fun x k hx hz k0 k1 => ih.2.1 k d x c k0 k1 h2 h3 hx hz
      refine (ih.1 i (d + 1) h0 h1 (by omega) (by omega)).mapR fun v hv => ⟨fun x hx => ?_, ?_⟩
      · rcases List.mem_append.1 hx with hx | hx
        · exact hl x hx
        · rw [List.mem_singleton] at hx; subst hx; exact hv
      · show len (l ++ [v]).flatten + c ≤ len v + i
        rw [List.flatten_append, len_app]
        simp only [List.flatten_cons, List.flatten_nil, List.append_nil]; omega
    · rw [pairsT]
      refine POk.more ?_ fun x k hx hz k0 k1 => ih.2.2 k d x c k0 k1 h2 h3 hx hz
      exact pair_ok h0 h1 hc (fun k k0 k1 => ih.1 k (d + 1) (by omega) k1 (by omega) (by omega)) hm
/-- What a text is read as: a good value, or an error within the text. -/
theorem parse_good (s : Str) : ((parseT s).2.2 = 0 → GoodV (4 * len s + 100) 128 (parseT s).1 ∧ len (parseT s).1 ≤ len s) ∧ ((parseT s).2.2 ≠ 0 → (parseT s).1 = [] ∧ 0 ≤ (parseT s).2.1 ∧ (parseT s).2.1 ≤ len s) := by
  have hs := len_nonneg s
  have hb := blankTo_bd s 0 (Int.le_refl 0) hs
  have hv := (val_ok (s := s) (2 * s.length + 2)).1 (blankTo s 0) 0 (by omega) hb.2 (by omega) (by omega)
  unfold parseT
  generalize valT (2 * s.length + 2) s (blankTo s 0) 0 = r at hv
  cases r with
  | er c p => exact ⟨fun h => absurd h hv.1, fun _ => ⟨rfl, hv.2⟩⟩
  | ok v j =>
    have hb2 := blankTo_bd s j hv.2.2.1 hv.2.2.2
    have h1 := hv.2.1
    have h2 := hv.2.2.1
    dsimp only
    split
    · exact ⟨fun h => absurd (show (1 : Int) = 0 from h) (by decide), fun _ => ⟨rfl, (by omega : 0 ≤ blankTo s j), hb2.2⟩⟩
    · exact ⟨fun _ => ⟨hv.1, (by omega : len v ≤ len s)⟩, fun h => absurd rfl h⟩
end Go.Eng
set_option maxRecDepth 100000
namespace Go.Proofs.YtjfaikgooldcbaaGreatDoor
open Go.Eng

theorem parse_self_ok {t : Tr} {q : Int} (hg : t.good) (hn : t.node.name = []) (hs : shortV q t.flat) (hq : q ≤ 100000) (hd : depthT t ≤ 128) (hz : t.size ≤ 1000) (ln : Bool) : parseT (prt ln 0 t) = (t.flat, 0, 0) ∧ len (prt ln 0 t) ≤ 1099511627776 ∧ prt ln 0 t ≠ [] := by
  have hb := prt_bd (ln := ln) (d := 0) hg (hs.mono hq) (Int.le_refl _) (by omega)
  exact ⟨parse_self hg hn hd hb.1, by omega, prt_ne hg (hs.mono hq) (by omega)⟩
/- loupe/loupelaw04.TextBack -/
theorem textBack_c (M : Mem) (v : Vl) (vv : Value) (s : Str) (w : World) (hM : Sat w M) (hv : Sl M 6 v.length vv (v.flatMap Nd.cells)) (hg : Gl w) :
  Calls Tryz.prog 5 [vv, (str s)].toArray w fun e w' => e = .returned (.bool true) ∧ Ext w w' := by
 refine CW.enter1 Tryz.func5 rfl Tryz.ntmps5 (Nat.le_of_ble_eq_true rfl) fun Q hE => ?_
 obtain ⟨w0, at0, e0, hps0⟩ : ∃ x a e, parseT s = (x, a, e) := ⟨_, _, _, rfl⟩
 have hpg := parse_good s
 rw [hps0] at hpg
 have hpg1 : e0 = 0 → GoodV (4 * len s + 100) 128 w0 ∧ len w0 ≤ len s := hpg.1
 have hpg2 : ¬ e0 = 0 → w0 = [] ∧ 0 ≤ at0 ∧ at0 ≤ len s := hpg.2
 have hsl := len_nonneg s
 have hS : St w M w M [] := St.start hM
 refine CW.weaken [0, 1] (L' := [Y 0 vv, Y 1 (str s)]) ?_ rfl
 refine CW.sr (RL.u (.assign .c) rfl (RL.nil (CW.id (CW.seq ?_))))
 refine CW.sr (RL.m rfl rfl ?_)
 refine RL.callE hS .none Tryz.call14 (.cons (.t rfl) (.cons .c .nil)) (fun _ => (few_c M v vv 60 _ hS.sat hv (by omega))) rfl (fun w1 hS2 => ?_)
 refine RL.u (.not (.t rfl)) rfl (RL.m rfl rfl (RL.v (.neg rfl rfl) (.move (.t rfl)) rfl (RL.v (.neg rfl rfl) (.lenS (.g rfl (fun h => h)) Tryz.underlying9) rfl (RL.v (.neg rfl rfl) (.gtr (.g rfl (fun h => h)) .c) rfl (RL.u (.or (.t rfl) (.g rfl (fun h => h))) rfl ?_)))))
 refine RL.nil (CW.at [Y 0 vv, Y 1 (str s), Y 24 (.bool ((!(fewB v 60)) || (decide (600 < (len s)))))] rfl ?_)
 refine CW.cond rfl ?_ ?_ <;> intro hb1 <;> try simp only [zb] at hb1
 ·refine CW.sr ?_
  refine RL.callE hS2 .none Tryz.call10 .nil (fun _ => (alive4_c _ (hg.low hS2.low))) rfl (fun w3 hS4 => ?_)
  refine RL.a rfl rfl ?_
  refine RL.nil (CW.at [Y 4 (.bool true)] rfl (CW.ret (hE.r1 rfl rfl ?_)))
  exact ⟨rfl, hS4.low⟩
 ·obtain ⟨hf1, hs200, hrt⟩ := few_yes (by simpa using hb1.1)
  obtain ⟨t, hvt, hg_t, htn⟩ := right_good hrt
  have htz : (t.size : Int) ≤ 60 := by unfold len at hf1; rw [hvt, Tr.flat_len] at hf1; exact hf1
  rw [hvt] at hs200
  have hdt := depthT_le _ t rfl
  have hp_t := parse_self_ok hg_t htn hs200 (by decide) (by omega) (by omega)
  refine CW.skip (CW.id (CW.sr (RL.m rfl rfl ?_)))
  refine RL.callE hS2 .none Tryz.call15 (.cons (.t rfl) .nil) (fun _ => (compact_c M t vv _ hS2.sat (by rw [← hvt]; exact hv) (Tr.good_ok hg_t (shortV.mono (by omega) hs200)) (hg.low hS2.low) (by omega) (Int.le_trans (hp_t false).2.1 (by decide)) (hp_t false).2.2)) rfl (fun w5 hS6 => ?_)
  refine RL.callP Tryz.call11 (.cons (.t rfl) .nil) (parse_lit (Rs := []) (prt false 0 t) ((t.flat, 0, 0)) hS6 hg (hp_t false).2.1 (hp_t false).1) rfl ?_
  rintro v10 w11 ⟨a7, c8, M12, rfl, hsl_v10, hS13, hle14⟩
  replace hv := hv.mono hle14
  replace hsl_v10 : Sl M12 6 t.flat.length (.slice a7 t.flat.length c8) (t.flat.flatMap Nd.cells) := hsl_v10
  refine RL.m rfl rfl (RL.u (.ex (.t rfl) rfl) rfl (RL.u (.ex (.t rfl) rfl) rfl (RL.u (.ex (.t rfl) rfl) rfl (RL.a rfl rfl (RL.a rfl rfl ?_)))))
  refine RL.a rfl rfl ?_
  refine RL.nil (CW.at [Y 0 vv, Y 1 (str s), Y 5 (.slice a7 t.flat.length c8), Y 7 (i64 0)] rfl (CW.sr (RL.m rfl rfl ?_)))
  refine RL.callE hS13 .none Tryz.call17 (.cons (.t rfl) .nil) (fun _ => (indent_c M12 t vv _ hS13.sat (by rw [← hvt]; exact hv) (Tr.good_ok hg_t (shortV.mono (by omega) hs200)) (hg.low hS13.low) (by omega) (Int.le_trans (hp_t true).2.1 (by decide)) (hp_t true).2.2)) rfl (fun w15 hS16 => ?_)
  refine RL.callP Tryz.call11 (.cons (.t rfl) .nil) (parse_lit (Rs := []) (prt true 0 t) ((t.flat, 0, 0)) hS16 hg (hp_t true).2.1 (hp_t true).1) rfl ?_
  rintro v20 w21 ⟨a17, c18, M22, rfl, hsl_v20, hS23, hle24⟩
  replace hv := hv.mono hle24
  replace hsl_v10 := hsl_v10.mono hle24
  replace hsl_v20 : Sl M22 6 t.flat.length (.slice a17 t.flat.length c18) (t.flat.flatMap Nd.cells) := hsl_v20
  refine RL.m rfl rfl (RL.u (.ex (.t rfl) rfl) rfl (RL.u (.ex (.t rfl) rfl) rfl (RL.u (.ex (.t rfl) rfl) rfl (RL.a rfl rfl (RL.a rfl rfl ?_)))))
  refine RL.a rfl rfl ?_
  refine RL.nil (CW.at [Y 0 vv, Y 1 (str s), Y 5 (.slice a7 t.flat.length c8), Y 7 (i64 0), Y 8 (.slice a17 t.flat.length c18), Y 10 (i64 0)] rfl (CW.seq (CW.sr (RL.m rfl rfl (RL.u (.neq (.t rfl) .c) rfl (RL.m rfl rfl (RL.v (.neg rfl rfl) (.move (.t rfl)) rfl (RL.v (.neg rfl rfl) (.neq (.g rfl (fun h => h)) .c) rfl (RL.u (.or (.t rfl) (.g rfl (fun h => h))) rfl ?_)))))))))
  refine RL.m rfl rfl (RL.v (.neg rfl rfl) (.move (.t rfl)) rfl (RL.v (.neg rfl rfl) (.move (.t rfl)) rfl ?_))
  refine RL.callE hS23 (.neg rfl rfl) Tryz.call13 (.cons (.g rfl (fun h => h)) (.cons (.g rfl (fun h => h)) .nil)) (fun hW => by simp only [zb] at hW; exact (same2_c M22 t.flat v (.slice a7 t.flat.length c8) vv _ hS23.sat hsl_v10 hv)) rfl (fun w25 hS26 => ?_)
  refine RL.v (.neg rfl rfl) (.not (.g rfl (fun h => h))) rfl (RL.u (.or (.t rfl) (.g rfl (fun h => h))) rfl (RL.m rfl rfl (RL.v (.neg rfl rfl) (.move (.t rfl)) rfl (RL.v (.neg rfl rfl) (.move (.t rfl)) rfl ?_))))
  refine RL.callE hS26 (.neg rfl rfl) Tryz.call13 (.cons (.g rfl (fun h => h)) (.cons (.g rfl (fun h => h)) .nil)) (fun hW => by simp only [zb] at hW; exact (same2_c M22 t.flat v (.slice a17 t.flat.length c18) vv _ hS26.sat hsl_v20 hv)) rfl (fun w27 hS28 => ?_)
  refine RL.v (.neg rfl rfl) (.not (.g rfl (fun h => h))) rfl (RL.u (.or (.t rfl) (.g rfl (fun h => h))) rfl ?_)
  refine RL.nil (CW.at [Y 1 (str s), Y 57 (.bool ((((0 != 0) || (0 != 0)) || (!(sameV t.flat v))) || (!(sameV t.flat v))))] rfl ?_)
  refine CW.cond rfl ?_ ?_ <;> intro hb2 <;> try simp only [zb] at hb2
  ·refine CW.sr (RL.u (.assign .c) rfl (RL.nil (CW.id (CW.ret (hE.r1 rfl rfl ?_)))))
   exact absurd hb2 (by rw [hvt]; simp [sameV_self])
  ·refine CW.skip (CW.id (CW.sr (RL.m rfl rfl ?_)))
   refine RL.callP Tryz.call11 (.cons (.t rfl) .nil) (parse_lit (Rs := []) s ((w0, at0, e0)) hS28 hg (by omega) hps0) rfl ?_
   rintro v32 w33 ⟨a29, c30, M34, rfl, hsl_v32, hS35, hle36⟩
   replace hv := hv.mono hle36
   replace hsl_v10 := hsl_v10.mono hle36
   replace hsl_v20 := hsl_v20.mono hle36
   replace hsl_v32 : Sl M34 6 w0.length (.slice a29 w0.length c30) (w0.flatMap Nd.cells) := hsl_v32
   refine RL.m rfl rfl (RL.u (.ex (.t rfl) rfl) rfl (RL.u (.ex (.t rfl) rfl) rfl (RL.u (.ex (.t rfl) rfl) rfl (RL.a rfl rfl (RL.a rfl rfl ?_)))))
   refine RL.a rfl rfl ?_
   refine RL.nil (CW.at [Y 1 (str s), Y 11 (.slice a29 w0.length c30), Y 12 (i64 at0), Y 13 (i64 e0)] rfl (CW.seq (CW.sr (RL.m rfl rfl (RL.u (.neq (.t rfl) .c) rfl (RL.nil (CW.id ?_)))))))
   refine CW.cond rfl ?_ ?_ <;> intro hb3 <;> try simp only [zb] at hb3
   ·have hq2 := hpg2 (by simpa using hb3)
    refine CW.sr ?_
    refine RL.callE hS35 .none Tryz.call10 .nil (fun _ => (alive4_c _ (hg.low hS35.low))) rfl (fun w37 hS38 => ?_)
    refine RL.m rfl rfl (RL.v (.pos rfl rfl) (.move (.t rfl)) rfl (RL.v (.pos rfl rfl) (.lenT hsl_v32 (.g rfl (fun h => h)) ⟨_, Tryz.underlying24⟩) rfl (RL.v (.pos rfl rfl) (.eql (.g rfl (fun h => h)) .c) rfl (RL.u (.and (.t rfl) (.g rfl (fun h => h))) rfl (RL.m rfl rfl ?_)))))
    refine RL.v (.pos rfl rfl) (.move (.t rfl)) rfl (RL.v (.pos rfl rfl) (.geq (.g rfl (fun h => h)) .c) rfl (RL.u (.and (.t rfl) (.g rfl (fun h => h))) rfl (RL.m rfl rfl (RL.v (.pos rfl rfl) (.move (.t rfl)) rfl (RL.v (.pos rfl rfl) (.move (.t rfl)) rfl ?_)))))
    refine RL.v (.pos rfl rfl) (.lenS (.g rfl (fun h => h)) Tryz.underlying9) rfl (RL.v (.pos rfl rfl) (.leq (.g rfl (fun h => h)) (.g rfl (fun h => h))) rfl (RL.u (.and (.t rfl) (.g rfl (fun h => h))) rfl (RL.a rfl rfl ?_)))
    refine RL.nil (CW.at [Y 4 (.bool (((true && ((len w0) == 0)) && (decide (0 ≤ at0))) && (decide (at0 ≤ (len s)))))] rfl (CW.ret (hE.r1 rfl rfl ?_)))
    exact ⟨by simp [hq2, len_nil], hS38.low⟩
   ·obtain ⟨⟨t2, hw0, hg_t2, hn2, hd2, hsh2⟩, hwl⟩ := hpg1 (by simpa using hb3)
    have hz2 : (t2.size : Int) ≤ 600 := by unfold len at hwl; rw [hw0, Tr.flat_len] at hwl; unfold len at hb1; omega
    have hp_t2 := parse_self_ok hg_t2 hn2 hsh2 (by omega) hd2 (by omega)
    have hln : ∀ n ∈ w0, len n.s ≤ 1099511627776 ∧ len n.name ≤ 1099511627776 := fun n hn => by rw [hw0] at hn; have := hsh2 n hn; omega
    refine CW.skip (CW.id (CW.sr (RL.m rfl rfl ?_)))
    refine RL.callE hS35 .none Tryz.call15 (.cons (.t rfl) .nil) (fun _ => (compact_c M34 t2 (.slice a29 w0.length c30) _ hS35.sat (by rw [← hw0]; exact hsl_v32) (Tr.good_ok hg_t2 (shortV.mono (by omega) hsh2)) (hg.low hS35.low) (by omega) (Int.le_trans (hp_t2 false).2.1 (by decide)) (hp_t2 false).2.2)) rfl (fun w39 hS40 => ?_)
    refine RL.callP Tryz.call11 (.cons (.t rfl) .nil) (parse_lit (Rs := []) (prt false 0 t2) ((t2.flat, 0, 0)) hS40 hg (hp_t2 false).2.1 (hp_t2 false).1) rfl ?_
    rintro v44 w45 ⟨a41, c42, M46, rfl, hsl_v44, hS47, hle48⟩
    replace hv := hv.mono hle48
    replace hsl_v10 := hsl_v10.mono hle48
    replace hsl_v20 := hsl_v20.mono hle48
    replace hsl_v32 := hsl_v32.mono hle48
    replace hsl_v44 : Sl M46 6 t2.flat.length (.slice a41 t2.flat.length c42) (t2.flat.flatMap Nd.cells) := hsl_v44
    refine RL.m rfl rfl (RL.u (.ex (.t rfl) rfl) rfl (RL.u (.ex (.t rfl) rfl) rfl (RL.u (.ex (.t rfl) rfl) rfl (RL.a rfl rfl (RL.a rfl rfl ?_)))))
    refine RL.a rfl rfl ?_
    refine RL.nil (CW.at [Y 11 (.slice a29 w0.length c30), Y 14 (.slice a41 t2.flat.length c42), Y 16 (i64 0)] rfl (CW.sr ?_))
    refine RL.callE hS47 .none Tryz.call10 .nil (fun _ => (alive4_c _ (hg.low hS47.low))) rfl (fun w49 hS50 => ?_)
    refine RL.m rfl rfl (RL.v (.pos rfl rfl) (.move (.t rfl)) rfl ?_)
    refine RL.callE hS50 (.pos rfl rfl) Tryz.call19 (.cons (.g rfl (fun h => h)) .nil) (fun hW => by simp only [zb] at hW; exact (right2_c M46 w0 (.slice a29 w0.length c30) _ hS50.sat hsl_v32 (by omega) (by assumption))) rfl (fun w51 hS52 => ?_)
    refine RL.u (.and (.t rfl) (.g rfl (fun h => h))) rfl (RL.m rfl rfl (RL.v (.pos rfl rfl) (.move (.t rfl)) rfl ?_))
    refine RL.callE hS52 (.pos rfl rfl) Tryz.call20 (.cons (.g rfl (fun h => h)) .nil) (fun hW => by simp only [zb] at hW; exact (depthE_c M46 t2 (.slice a29 w0.length c30) _ hS52.sat (by rw [← hw0]; exact hsl_v32) (by rw [← hw0]; omega) (Tr.good_wf hg_t2))) rfl (fun w53 hS54 => ?_)
    refine RL.v (.pos rfl rfl) (.leq (.g rfl (fun h => h)) .c) rfl (RL.u (.and (.t rfl) (.g rfl (fun h => h))) rfl (RL.m rfl rfl (RL.v (.pos rfl rfl) (.move (.t rfl)) rfl (RL.v (.pos rfl rfl) (.eql (.g rfl (fun h => h)) .c) rfl (RL.u (.and (.t rfl) (.g rfl (fun h => h))) rfl ?_)))))
    refine RL.m rfl rfl (RL.v (.pos rfl rfl) (.move (.t rfl)) rfl (RL.v (.pos rfl rfl) (.move (.t rfl)) rfl ?_))
    refine RL.callE hS54 (.pos rfl rfl) Tryz.call13 (.cons (.g rfl (fun h => h)) (.cons (.g rfl (fun h => h)) .nil)) (fun hW => by simp only [zb] at hW; exact (same2_c M46 t2.flat w0 (.slice a41 t2.flat.length c42) (.slice a29 w0.length c30) _ hS54.sat hsl_v44 hsl_v32)) rfl (fun w55 hS56 => ?_)
    refine RL.u (.and (.t rfl) (.g rfl (fun h => h))) rfl (RL.a rfl rfl ?_)
    refine RL.nil (CW.at [Y 4 (.bool ((((true && (rightB w0)) && (decide ((depthT t2) ≤ 128))) && (0 == 0)) && (sameV t2.flat w0)))] rfl (CW.ret (hE.r1 rfl rfl ?_)))
    exact ⟨by rw [hw0]; simp [sameV_self, good_right hg_t2 hn2, hd2], hS56.low⟩

end Go.Proofs.YtjfaikgooldcbaaGreatDoor
namespace Go.Eng
open Go.RowKit

def Rd (u : Str) : Prop := (read1 u).2.2 ≠ 2
theorem mk_small {neg : Bool} {fg : Str} {x : Int} (hf : AllF fg) (h1 : len fg ≤ 100) (h2 : -1000 ≤ x) (h3 : x + len fg ≤ 1000) : (mk1 neg fg x).2 = 0 := by
  have a := dropZ_len fg
  have b := trimZ_len (dropZ fg)
  have c := len_nonneg (trimZ (dropZ fg))
  unfold mk1
  rw [if_pos (figs_iff.2 hf)]
  split
  · rfl
  · rw [if_neg (by simp only [Bool.or_eq_true, decide_eq_true_eq]; omega), if_neg (by simp only [Bool.or_eq_true, decide_eq_true_eq]; omega)]
theorem fin_small {neg : Bool} {fg pw : Str} {x sd : Int} (hf : AllF fg) (h1 : len fg ≤ 100) (h6 : len (dropZ pw) ≤ 6) (h2 : -1000 ≤ x + sd * decVal (dropZ pw)) (h3 : x + sd * decVal (dropZ pw) + len fg ≤ 1000) : (fin1 neg fg x pw sd).2.2 ≠ 2 := by
  unfold fin1
  rw [if_neg (by omega)]
  show (mk1 neg fg _).2 ≠ 2
  rw [mk_small hf h1 h2 h3]; decide
theorem fin_small0 {neg : Bool} {fg : Str} {x : Int} (hf : AllF fg) (h1 : len fg ≤ 100) (h2 : -1000 ≤ x) (h3 : x + len fg ≤ 1000) : (fin1 neg fg x [] 1).2.2 ≠ 2 := by
  refine fin_small hf h1 (by decide) ?_ ?_
  · show -1000 ≤ x + 1 * 0; omega
  · show x + 1 * 0 + len fg ≤ 1000; omega
/-! ### the power's figures, cut off -/
theorem decGo_ge : ∀ (b : Str) (n : Int), AllF b → 0 ≤ n → n ≤ b.foldl (fun n b => n * 10 + ((b.toNat : Int) - 48)) n
  | [], n, _, _ => Int.le_refl _
  | c :: b, n, h, h0 => by
    have hc := h c (by simp)
    unfold isFigB isFig at hc
    simp only [Bool.and_eq_true, decide_eq_true_eq] at hc
    have := decGo_ge b (n * 10 + ((c.toNat : Int) - 48)) (fun x hx => h x (List.mem_cons_of_mem _ hx)) (by omega)
    rw [List.foldl_cons]; omega
theorem decVal_drop : ∀ s : Str, decVal (dropZ s) = decVal s
  | [] => rfl
  | c :: s => by
    by_cases h : (([48] : Str).contains c) = true
    · rw [dropZ_cons h, decVal_drop s]
      have : c = 48 := by simpa using h
      subst this
      rfl
    · unfold dropZ; rw [List.dropWhile_cons, if_neg h]
theorem dropZ_pre : ∀ a b : Str, len (dropZ a) ≤ len (dropZ (a ++ b))
  | [], b => by have := len_nonneg (dropZ b); exact this
  | c :: a, b => by
    by_cases h : (([48] : Str).contains c) = true
    · rw [List.cons_append, dropZ_cons h, dropZ_cons h]; exact dropZ_pre a b
    · have e : ∀ l : Str, dropZ (c :: l) = c :: l := fun l => by unfold dropZ; rw [List.dropWhile_cons, if_neg h]
      rw [List.cons_append, e, e, len_cons, len_cons, len_app]; have := len_nonneg b; omega
theorem pow_cut {a b : Str} (h : AllF (a ++ b)) : len (dropZ a) ≤ len (dropZ (a ++ b)) ∧ 0 ≤ decVal (dropZ a) ∧ decVal (dropZ a) ≤ decVal (dropZ (a ++ b)) := by
  have ha : AllF a := fun x hx => h x (List.mem_append.2 (.inl hx))
  have hb : AllF b := fun x hx => h x (List.mem_append.2 (.inr hx))
  have h0 : 0 ≤ decVal a := decGo_ge a 0 ha (Int.le_refl _)
  refine ⟨dropZ_pre a b, ?_, ?_⟩
  · rw [decVal_drop]; exact h0
  · rw [decVal_drop, decVal_drop]
    unfold decVal at h0 ⊢
    rw [List.foldl_append]
    exact decGo_ge b _ hb h0
/-! ### what is not finished -/
theorem run_end {s : Str} {i : Int} (h : from' s i = []) : runTo s i = i ∧ Eng.sub s i i = [] := by
  refine ⟨by unfold runTo; rw [h]; show i + 0 = i; omega, by unfold Eng.sub; simp⟩
theorem rd_point {w : Str} {neg : Bool} (hw : AllF w) (hn : w ≠ []) (hz : ¬ (1 < len w ∧ byteAt w 0 = 48)) : Rd (sgn neg ++ (w ++ [46])) := by
  obtain ⟨b, h0, h1, h2⟩ := read_whole (neg := neg) (w := w) (r := [46]) rfl hw hn (.inr ⟨46, [], rfl, by decide⟩) hz
  obtain ⟨e1, e2⟩ := at_yes h0 h1
  have hf : from' (sgn neg ++ (w ++ [46])) (b + 1) = [] := by rw [← from_from _ b 1 h0 (by omega), h1]; rfl
  obtain ⟨r1, r2⟩ := run_end hf
  unfold Rd
  rw [h2, e1, if_pos rfl, e2, r1, if_pos r2]
  show (1 : Int) ≠ 2
  decide
theorem rd_pow {w : Str} {neg g : Bool} (hw : AllF w) (hn : w ≠ []) (hz : ¬ (1 < len w ∧ byteAt w 0 = 48)) : Rd (sgn neg ++ (w ++ 101 :: sgn g)) := by
  obtain ⟨b, h0, h1, h2⟩ := read_whole (neg := neg) (w := w) (r := 101 :: sgn g) rfl hw hn (.inr ⟨101, _, rfl, by decide⟩) hz
  obtain ⟨e1, e2⟩ := at_not (c := 46) h0 h1 (by decide)
  have hby := byte_of_from h0 h1
  generalize sgn neg ++ (w ++ 101 :: sgn g) = s at *
  have e3 : isAt s [101, 69] b = true := isAt_two.2 ⟨hby.1, .inl hby.2⟩
  have hf : from' s (b + 1) = sgn g := by rw [← from_from s b 1 h0 (by omega), h1]; rfl
  have hl := len_of_from h0 h1 (by simp)
  rw [len_cons] at hl
  unfold Rd
  rw [h2, e1, e2, if_neg (by simp)]
  unfold rest1
  rw [e3, if_pos rfl, isTo_yes e3]
  unfold exp1
  dsimp only
  cases g with
  | true =>
    obtain ⟨g1, g2⟩ := at_yes (q := []) (i := b + 1) (by omega) hf
    have hf2 : from' s (b + 1 + 1) = [] := by rw [← from_from s (b + 1) 1 (by omega) (by omega), hf]; rfl
    obtain ⟨r1, r2⟩ := run_end hf2
    rw [g1, if_pos rfl, g2, r1, if_pos (.inl r2)]
    show (1 : Int) ≠ 2
    decide
  | false =>
    have hf : from' s (b + 1) = [] := hf
    have hle : len s ≤ b + 1 := by rw [hl]; show b + (0 + 1) ≤ b + 1; omega
    obtain ⟨g1, g2⟩ := at_end (c := [45]) hle
    obtain ⟨g3, g4⟩ := at_end (c := [43]) hle
    obtain ⟨r1, r2⟩ := run_end hf
    rw [g1, g2, g4]
    simp only [Bool.false_eq_true, if_false]
    rw [r1, if_pos (.inl r2)]
    show (1 : Int) ≠ 2
    decide
/-! ### a number's text -/
theorem AllF.left {a b : Str} (h : AllF (a ++ b)) : AllF a := fun x hx => h x (List.mem_append.2 (.inl hx))
theorem hz_left {a b : Str} (h : ¬ (1 < len (a ++ b) ∧ byteAt (a ++ b) 0 = 48)) : ¬ (1 < len a ∧ byteAt a 0 = 48) := by
  rintro ⟨h1, h2⟩
  refine h ⟨by rw [len_app]; have := len_nonneg b; omega, by rw [byteAt_l (Int.le_refl 0) (by omega)]; exact h2⟩
/-- How a number's text goes on behind its first figures. -/
def TailN (w t : Str) : Prop := (t = [] ∧ len w ≤ 100) ∨ (∃ p, t = 46 :: p ∧ AllF p ∧ len w + len p ≤ 100) ∨
  (∃ g q, t = 101 :: (sgn g ++ q) ∧ AllF q ∧ len w ≤ 100 ∧ len (dropZ q) ≤ 6 ∧ -1000 ≤ (if g then -1 else 1) * decVal (dropZ q) ∧ (if g then -1 else 1) * decVal (dropZ q) + len w ≤ 1000)
theorem TailN.len {w t : Str} (h : TailN w t) : len w ≤ 100 := by
  rcases h with h | ⟨p, _, _, h⟩ | ⟨g, q, _, _, h, _⟩
  · exact h.2
  · have := len_nonneg p; omega
  · exact h
theorem rd_int {w : Str} {neg : Bool} (hw : AllF w) (hn : w ≠ []) (hz : ¬ (1 < len w ∧ byteAt w 0 = 48)) (hl : len w ≤ 100) : Rd (sgn neg ++ w) := by
  unfold Rd
  rw [read_int rfl hw hn hz]
  have := len_nonneg w
  exact fin_small0 hw hl (by omega) (by omega)
theorem cut_sgn {neg : Bool} {u r X : Str} (h : u ++ r = sgn neg ++ X) : u = [] ∨ ∃ u', u = sgn neg ++ u' ∧ u' ++ r = X := by
  cases neg with
  | false => exact .inr ⟨u, rfl, h⟩
  | true =>
    cases u with
    | nil => exact .inl rfl
    | cons c u =>
      have h : c :: (u ++ r) = 45 :: X := h
      obtain ⟨rfl, h2⟩ := List.cons.inj h
      exact .inr ⟨u, rfl, h2⟩
theorem rd_nil : Rd [] := by unfold Rd; decide +kernel
theorem rd_sgn (neg : Bool) : Rd (sgn neg) := by unfold Rd; cases neg <;> decide +kernel
theorem rd_tail {neg : Bool} {w t u r : Str} (hw : AllF w) (hn : w ≠ []) (hz : ¬ (1 < len w ∧ byteAt w 0 = 48)) (ht : TailN w t) (h : u ++ r = sgn neg ++ (w ++ t)) : Rd u := by
  have hl := ht.len
  rcases cut_sgn h with rfl | ⟨u, rfl, h'⟩
  · exact rd_nil
  clear h
  rcases List.append_eq_append_iff.1 h' with ⟨a, rfl, h2⟩ | ⟨c, rfl, h2⟩
  · by_cases hu : u = []
    · subst hu; rw [List.append_nil]; exact rd_sgn neg
    · exact rd_int hw.left hu (hz_left hz) (by rw [len_app] at hl; have := len_nonneg a; omega)
  · cases c with
    | nil => rw [List.append_nil]; exact rd_int hw hn hz hl
    | cons x c =>
      rcases ht with ⟨rfl, _⟩ | ⟨p, rfl, hp, hl2⟩ | ⟨g, q, rfl, hq, _, h6, h7, h8⟩
      · cases h2
      · rw [List.cons_append] at h2
        obtain ⟨rfl, h3⟩ := List.cons.inj h2
        subst h3
        by_cases hc : c = []
        · subst hc; exact rd_point hw hn hz
        · unfold Rd
          rw [read_frac rfl hw hn hz hp.left hc]
          rw [len_app] at hl2
          have h4 := len_nonneg r; have h5 := len_nonneg w; have h6 := len_nonneg c
          refine fin_small0 (hw.app hp.left) (by rw [len_app]; omega) (by omega) (by rw [len_app]; omega)
      · rw [List.cons_append] at h2
        obtain ⟨rfl, h3⟩ := List.cons.inj h2
        rcases cut_sgn h3.symm with rfl | ⟨q1, rfl, h4⟩
        · exact rd_pow (g := false) hw hn hz
        · subst h4
          by_cases hc : q1 = []
          · subst hc; rw [List.append_nil]; exact rd_pow hw hn hz
          · unfold Rd
            rw [read_exp rfl hw hn hz hq.left hc]
            obtain ⟨k1, k2, k3⟩ := pow_cut hq
            have h5 := len_nonneg w
            cases g with
            | true =>
              simp only [if_true] at h7 h8 ⊢
              exact fin_small hw hl (by omega) (by omega) (by omega)
            | false =>
              simp only [Bool.false_eq_true, if_false] at h7 h8 ⊢
              exact fin_small hw hl (by omega) (by omega) (by omega)
theorem num_cut {n : Nd} (h : right1 n = true) {u r : Str} (hu : u ++ r = print1 n) : Rd u := by
  obtain ⟨he, hf, h1, h2, h3, h4, h5⟩ := right_open h
  generalize hs : n.s = s at *
  generalize hneg : n.neg = neg at *
  generalize hee : n.e = e at *
  subst he
  rcases h5 with ⟨e1, e2, e3⟩ | ⟨hn, hb, hl⟩
  · subst e1; subst e2; subst e3
    exact rd_tail (neg := false) (w := [48]) (t := []) (show ∀ b ∈ ([48] : Str), isFigB b = true by decide) (by decide) (by decide) (.inl ⟨rfl, by decide⟩) (hu.trans (by decide +kernel))
  have hp := ne_len.1 hn
  unfold print1 at hu
  dsimp only at hu
  rw [if_neg (by simpa using hn), show (if neg then ([45] : Str) else []) = sgn neg from rfl] at hu
  by_cases c1 : (decide (0 ≤ e) && decide (len s + e ≤ 20)) = true
  · rw [if_pos c1] at hu
    simp only [Bool.and_eq_true, decide_eq_true_eq] at c1
    have hbz : byteAt (s ++ zeros e) 0 ≠ 48 := by rw [byteAt_l (Int.le_refl 0) hp]; exact hb
    have hz := zeros_len e c1.1
    exact rd_tail (neg := neg) (w := s ++ zeros e) (t := []) (hf.app (AllF.zeros e)) (by simp [hn]) (fun x => hbz x.2) (.inl ⟨rfl, by rw [len_app]; omega⟩) (by rw [hu]; simp)
  rw [if_neg c1] at hu
  by_cases c2 : (decide (e < 0) && decide (-20 ≤ e)) = true
  · rw [if_pos c2] at hu
    simp only [Bool.and_eq_true, decide_eq_true_eq] at c2
    have hz := zeros_len' (1 - e - len s)
    have hz2 : 0 ≤ 1 - e - len s → len (zeros (1 - e - len s)) = 1 - e - len s := fun x => zeros_len _ x
    have hz3 : 1 - e - len s ≤ 0 → zeros (1 - e - len s) = [] := fun x => zeros_neg x
    have hfS : AllF (zeros (1 - e - len s) ++ s) := (AllF.zeros _).app hf
    have hlS : len (zeros (1 - e - len s) ++ s) = len (zeros (1 - e - len s)) + len s := len_app _ _
    have hb1 : 1 - e - len s ≤ 0 → byteAt (zeros (1 - e - len s) ++ s) 0 ≠ 48 := fun x => by rw [hz3 x]; exact hb
    generalize zeros (1 - e - len s) ++ s = S at *
    obtain ⟨hsp1, hsp2⟩ := sub_from_split (s := S) (n := len S + e) (by omega) (by omega)
    have hlf := from_len S (len S + e) (by omega) (by omega)
    have hfw : AllF (Eng.sub S 0 (len S + e)) := fun b hb => hfS b (by rw [hsp1]; simp [hb])
    have hfp : AllF (from' S (len S + e)) := fun b hb => hfS b (by rw [hsp1]; simp [hb])
    have hwn : Eng.sub S 0 (len S + e) ≠ [] := ne_len.2 (by omega)
    have hzz : ¬ (1 < len (Eng.sub S 0 (len S + e)) ∧ byteAt (Eng.sub S 0 (len S + e)) 0 = 48) := by
      rintro ⟨x1, x2⟩
      by_cases hpd : 0 ≤ 1 - e - len s
      · have := hz2 hpd; omega
      · refine hb1 (by omega) ?_
        rw [byteAt_sub (Int.le_refl 0) (Int.le_refl 0) (by omega) (by omega)] at x2
        exact x2
    exact rd_tail (neg := neg) (w := Eng.sub S 0 (len S + e)) (t := 46 :: from' S (len S + e)) hfw hwn hzz (.inr (.inl ⟨_, rfl, hfp, by omega⟩)) (by rw [hu]; simp)
  rw [if_neg c2] at hu
  obtain ⟨p, hi, hfp, hpn, hl6, hv⟩ := itoa_open (e := e) (by omega) (by omega)
  exact rd_tail (neg := neg) (w := s) (t := 101 :: (sgn (decide (e < 0)) ++ p)) hf hn (fun x => hb x.2) (.inr (.inr ⟨_, _, rfl, hfp, h1, hl6, by rw [hv]; omega, by rw [hv]; omega⟩)) (by rw [hu, hi]; simp)
end Go.Eng
namespace Go.Eng
open Go.RowKit

theorem unqGo_agr {s s' : Str} {n : Int} (hn' : n ≤ len s') (ha : ∀ j, 0 ≤ j → j < n → byteAt s' j = byteAt s j) : ∀ (f f' : Nat) (i : Int) (acc : List Int) (x : Str), 0 ≤ i → i ≤ len s → unqGo f s i acc = (x, n, 0) → (len s' - i).toNat ≤ f' → unqGo f' s' i acc = (x, n, 0)
  | 0, _, _, _, _, _, _, h, _ => by unfold unqGo at h; simp at h
  | f + 1, f', i, acc, x, h0, hi, h, hf => by
    have hb := unqGo_bd (f := f + 1) (s := s) (i := i) (acc := acc) h0 hi
    rw [h] at hb
    dsimp only at hb
    have hin : i < n := hb.2.2.1 rfl
    have hl : i < len s := by omega
    have hl' : i < len s' := by omega
    rw [unqGo_eq hf hl']
    unfold unqGo at h
    rw [if_pos hl] at h
    have hby : byteAt s' i = byteAt s i := ha i h0 hin
    rw [runeAt_from s i h0, runeLen_from s i h0] at h
    rw [runeAt_from s' i h0, runeLen_from s' i h0]
    have low : ∀ c : Int, c < 128 → (runeAt s' i = c ↔ runeAt s i = c) := fun c hc => by rw [runeAt_low h0 hl hc, runeAt_low h0 hl' hc, hby]
    by_cases c1 : runeAt s i = 34
    · rw [if_pos c1] at h; rw [if_pos ((low 34 (by omega)).2 c1)]; exact h
    rw [if_neg c1] at h
    rw [if_neg (fun e => c1 ((low 34 (by omega)).1 e))]
    by_cases c2 : runeAt s i = 92
    · rw [if_pos c2] at h; rw [if_pos ((low 92 (by omega)).2 c2)]
      by_cases c3 : (escP (from' s i)).2 = 0
      · rw [if_pos c3] at h; simp at h
      rw [if_neg c3] at h
      have hfl := from_len s i h0 hi
      have hfl' := from_len s' i h0 (by omega)
      have he := escP_le (from' s i)
      have hb2 := unqGo_bd (f := f) (s := s) (i := i + (escP (from' s i)).2) (acc := acc ++ Lib.encodeRuneZ (escP (from' s i)).1) (by omega) (by omega)
      rw [h] at hb2
      dsimp only at hb2
      have := hb2.2.2.1 rfl
      have e : escP (from' s' i) = escP (from' s i) := esc_agr c3 (by omega) (fun j a b => by rw [byteAt_from _ _ _ h0 a, byteAt_from _ _ _ h0 a]; exact ha _ (by omega) (by omega))
      rw [e, if_neg c3]
      exact unqGo_agr hn' ha f (f' - 1) _ _ x (by omega) (by omega) h (by omega)
    · rw [if_neg c2] at h
      rw [if_neg (fun e => c2 ((low 92 (by omega)).1 e))]
      by_cases c3 : runeAt s i < 32 ∨ (runeAt s i = 65533 ∧ runeLen s i = 1)
      · rw [if_pos c3] at h; simp at h
      rw [if_neg c3] at h
      have hr := runeLen_bd h0 hl
      have hv : rune s i ≠ 0 := fun e => c3 (.inr ((rune_none h0 hl).1 e))
      have hrb := rune_bd s i
      have hre : runeLen s i = rune s i := by rcases rune_dec h0 hl with d | d <;> omega
      have hb2 := unqGo_bd (f := f) (s := s) (i := i + runeLen s i) (acc := acc ++ Lib.encodeRuneZ (runeAt s i)) (by omega) (by omega)
      rw [h] at hb2
      dsimp only at hb2
      have := hb2.2.2.1 rfl
      obtain ⟨_, e2, e3⟩ := rune_agr (s := s) (s' := s') (i := i) (i' := i) h0 h0 (by omega) hl (by omega) (fun j a b => ha _ (by omega) (by omega))
      rw [e2, e3, if_neg c3]
      exact unqGo_agr hn' ha f (f' - 1) _ _ x (by omega) (by omega) h (by omega)
theorem unq_agr {u v v' : Str} {x : Str} (h : unqP (u ++ v) = (x, len u, 0)) : unqP (u ++ v') = (x, len u, 0) := by
  have hb := unqP_bd (u ++ v)
  rw [h] at hb
  dsimp only at hb
  have h2 : 2 ≤ len u := hb.2.2.1 rfl
  have ha : ∀ j, 0 ≤ j → j < len u → byteAt (u ++ v') j = byteAt (u ++ v) j := fun j a b => by rw [byteAt_l a b, byteAt_l a b]
  have hv := len_app u v
  have hv' := len_app u v'
  have p1 := len_nonneg v
  have p2 := len_nonneg v'
  have hne : ∀ w : Str, ¬ u ++ w = [] := fun w e => by have := congrArg len e; rw [len_app, len_nil] at this; have := len_nonneg w; omega
  unfold unqP at h ⊢
  by_cases c : Lib.hasPrefix (u ++ v) [34] = true
  · rw [if_pos c] at h
    rw [if_pos (pre_one.2 ⟨hne v', by rw [ha 0 (by omega) (by omega)]; exact (pre_one.1 c).2⟩)]
    exact unqGo_agr (n := len u) (by omega) ha _ _ 1 [] x (by omega) (by omega) h (by unfold len; omega)
  · rw [if_neg c] at h; simp at h
end Go.Eng
