/-
  What val.Object does with a map: plain laws. No program in it.
  THE ENGINE, PART 18: private rows: a row that is appended to, and written into, before anyone is told of it. Over any program.
-/
import Derived.Test.YtjfaikgooldcbaaGreatDoorZc14
import Derived.Lib.ValidLaws
import Derived.Test.YtjfaikgooldcbaaGreatDoorZc5
import Derived.Laws.BitsLemmas
import Derived.Test.YtjfaikgooldcbaaGreatDoorZc3
import Derived.Test.YtjfaikgooldcbaaGreatDoorProg
set_option linter.unusedVariables false
set_option linter.unusedSimpArgs false
namespace Go.Eng
open Go.RowKit

theorem dec_from (s : Str) (i : Int) (h0 : 0 ≤ i) : ((Lib.decodeL (from' s i)).1 : Int) = runeAt s i ∧ ((Lib.decodeL (from' s i)).2 : Int) = runeLen s i := by
  have h : Lib.decodeL (from' s i) = Utf8.decode ⟨⟨s⟩⟩ i.toNat := (decode_same s i h0).symm
  rw [h]; exact ⟨rfl, rfl⟩
theorem validD_from (s : Str) : ∀ (n : Nat) (i : Int), 0 ≤ i → (len s - i).toNat ≤ n → utfFrom s i = true → Lib.validD (from' s i) = true := by
  intro n
  induction n with
  | zero =>
    intro i h0 hn _
    have : from' s i = [] := by unfold from'; exact List.drop_eq_nil_of_le (by unfold len at hn; omega)
    rw [this]; rfl
  | succ n ih =>
    intro i h0 hn hu
    by_cases h1 : i < len s
    · have hne : from' s i ≠ [] := by
        intro e
        have : (from' s i).length = 0 := by rw [e]; rfl
        unfold from' at this; rw [List.length_drop] at this; unfold len at h1; omega
      unfold utfFrom at hu
      rw [dif_pos ⟨h0, h1⟩] at hu
      obtain ⟨d1, d2⟩ := dec_from s i h0
      rcases rune_dec h0 h1 with ⟨hr, _⟩ | ⟨hr, hl, hno, _⟩
      · rw [dif_neg (by omega)] at hu; cases hu
      · rw [dif_pos (by omega)] at hu
        rw [Lib.validD_step _ hne, if_neg (by intro h; exact hno ⟨by omega, by omega⟩)]
        have e : (from' s i).drop (Lib.decodeL (from' s i)).2 = from' s (i + rune s i) := by
          rw [← from_from s i (rune s i) h0 (by omega)]
          show _ = (from' s i).drop (rune s i).toNat
          rw [show (Lib.decodeL (from' s i)).2 = (rune s i).toNat by omega]
        rw [e]
        exact ih _ (by omega) (by omega) hu
    · have : from' s i = [] := by unfold from'; exact List.drop_eq_nil_of_le (by unfold len at h1; omega)
      rw [this]; rfl
theorem validD_utf {s : Str} (h : utf s = true) : Lib.validD s = true := by
  have := validD_from s (len s - 0).toNat 0 (by omega) (Nat.le_refl _) h
  simpa [from'] using this
/-- All keys are valid and not too long, all values are some. -/
def UtfK (m : List (Str × Vl)) : Prop := ∀ p ∈ m, utf p.1 = true ∧ len p.1 ≤ 4398046511104 ∧ p.2 ≠ []
theorem UtfK.put {n : Str} {x : Vl} (hn : utf n = true ∧ len n ≤ 4398046511104 ∧ x ≠ []) : ∀ {m : List (Str × Vl)}, UtfK m → UtfK (putV m n x)
  | [], _ => by intro p hp; simp [putV] at hp; subst hp; exact hn
  | q :: m, h => by
    intro p hp
    unfold putV at hp
    split at hp
    · rcases List.mem_cons.1 hp with rfl | hp
      · exact hn
      · exact h p (List.mem_cons_of_mem _ hp)
    · rcases List.mem_cons.1 hp with rfl | hp
      · exact h _ List.mem_cons_self
      · exact UtfK.put hn (fun p hp => h p (List.mem_cons_of_mem _ hp)) p hp
theorem pairT_utfk {s : Str} {i : Int} {val : Int → PR Vl} {m x : List (Str × Vl)} {j : Int} (hb : len s ≤ 1099511627776) (hv : ∀ k x j, val k = .ok x j → x ≠ []) (hk : UtfK m) (h : pairT s i val m = .ok x j) : UtfK x := by
  unfold pairT at h
  split at h
  · cases h
  · rename_i n q ht
    have hn : utf n = true ∧ len n ≤ 4398046511104 := by
      unfold textT at ht
      split at ht
      · cases ht
      · cases ht
        have h1 := unq_len (from' s i)
        have h2 : len (from' s i) ≤ len s := by unfold from' len; rw [List.length_drop]; omega
        exact ⟨unq_utf _, by omega⟩
    split at h
    · unfold mapR at h
      split at h
      · cases h
      · rename_i hval
        cases h; exact UtfK.put ⟨hn.1, hn.2, hv _ _ _ hval⟩ hk
    · cases h
theorem mapR_ok {α β : Type} {f : α → β} {r : PR α} {y : β} {j : Int} (h : mapR f r = .ok y j) : ∃ x, r = .ok x j ∧ y = f x := by
  cases r with
  | er c p => cases h
  | ok x k => cases h; exact ⟨x, rfl, rfl⟩
theorem valT_ne {f : Nat} {s : Str} {i d : Int} {x : Vl} {j : Int} (h : valT f s i d = .ok x j) : x ≠ [] := by
  cases f with
  | zero => rw [valT] at h; cases h
  | succ f =>
    rw [valT] at h
    repeat' split at h
    all_goals first
      | (cases h; done)
      | (cases h; intro e; cases e)
      | (unfold numT at h; split at h <;> cases h; intro e; cases e)
      | (obtain ⟨y, _, rfl⟩ := mapR_ok h; intro e; cases e)
theorem MapV.get {M : Mem} {n : Str} {x : Vl} : ∀ {l : List SV} {m : List (Str × Vl)}, MapV M l m → getV m n = some x → ∃ h : SlH, sget l n = some h.v ∧ Sl M 6 x.length h.v (x.flatMap Nd.cells)
  | [], [], _, h => by cases h
  | [], _ :: _, h, _ => h.elim
  | _ :: _, [], h, _ => h.elim
  | p :: l, q :: m, ⟨h1, ⟨h, h2, h3⟩, h4⟩, hg => by
    unfold getV at hg
    unfold sget
    by_cases hk : (n == q.1) = true
    · rw [if_pos hk] at hg; cases hg
      rw [if_pos (by rw [h1]; exact hk)]
      exact ⟨h, by rw [h2], h3⟩
    · rw [if_neg hk] at hg
      rw [if_neg (by rw [h1]; exact hk)]
      exact MapV.get h4 hg
theorem MapV.none {M : Mem} {n : Str} : ∀ {l : List SV} {m : List (Str × Vl)}, MapV M l m → n ∉ m.map (·.1) → sget l n = none
  | [], [], _, _ => rfl
  | [], _ :: _, h, _ => h.elim
  | _ :: _, [], h, _ => h.elim
  | p :: l, q :: m, ⟨h1, _, h4⟩, hg => by
    simp only [List.map_cons, List.mem_cons, not_or] at hg
    unfold sget
    rw [if_neg (by rw [h1]; simpa using hg.1)]
    exact MapV.none h4 hg.2
/-- The first so many pairs. -/
def zipT (ns : List Str) (xs : List Vl) (k : Int) : List (Str × Vl) := (ns.zip xs).take k.toNat
theorem zipT_step {ns : List Str} {xs : List Vl} {k : Int} (h0 : 0 ≤ k) (h1 : k < len ns) (h2 : len ns = len xs) : zipT ns xs (k + 1) = zipT ns xs k ++ [(at' ns k, at' xs k)] := by
  unfold zipT
  rw [show (k + 1).toNat = k.toNat + 1 by omega, List.take_add_one]
  congr 1
  have e1 : k.toNat < ns.length := by unfold len at h1; omega
  have e2 : k.toNat < xs.length := by unfold len at h1 h2; omega
  rw [List.getElem?_eq_getElem (by rw [List.length_zip]; omega)]
  simp [at', List.getD_eq_getElem?_getD, e1, e2]
theorem zipT_keys {ns : List Str} {xs : List Vl} (k : Int) (h2 : len ns = len xs) : (zipT ns xs k).map (·.1) = ns.take k.toNat := by
  unfold zipT
  rw [List.map_take, show (ns.zip xs).map (·.1) = ns from by have := List.map_fst_zip (l₁ := ns) (l₂ := xs) (by unfold len at h2; omega); exact this]
theorem zipT_new {ns : List Str} {xs : List Vl} {k : Int} (h0 : 0 ≤ k) (h1 : k < len ns) (h2 : len ns = len xs) (hnd : ns.Nodup) : at' ns k ∉ (zipT ns xs k).map (·.1) := by
  rw [zipT_keys k h2]
  intro hm
  have e1 : k.toNat < ns.length := by unfold len at h1; omega
  obtain ⟨j, hj, he⟩ := List.getElem_of_mem hm
  rw [List.length_take] at hj
  rw [List.getElem_take] at he
  have he2 : at' ns k = ns[k.toNat] := by simp [at', List.getD_eq_getElem?_getD, e1]
  rw [he2] at he
  have := (List.getElem_inj (h₀ := by omega) (h₁ := e1) hnd).1 he
  omega
theorem putV_new {n : Str} {x : Vl} : ∀ {m : List (Str × Vl)}, n ∉ m.map (·.1) → putV m n x = m ++ [(n, x)]
  | [], _ => rfl
  | q :: m, h => by
    simp only [List.map_cons, List.mem_cons, not_or] at h
    unfold putV
    rw [if_neg (by simpa using h.1), putV_new h.2]; rfl
theorem zipT_end {ns : List Str} {xs : List Vl} {k : Int} (h : len ns ≤ k) : zipT ns xs k = ns.zip xs := by
  unfold zipT; rw [List.take_of_length_le]; rw [List.length_zip]; unfold len at h; omega
theorem zip_keys {ns : List Str} {xs : List Vl} (h2 : len ns = len xs) : (ns.zip xs).map (·.1) = ns := List.map_fst_zip (l₁ := ns) (l₂ := xs) (by unfold len at h2; omega)
/-- The parts of the sorted names. -/
def partsL (sn : List Str) (m : List (Str × Vl)) : List Vl := sn.map fun n => (getV m n).getD []
theorem partsL_at {sn : List Str} {m : List (Str × Vl)} {k : Int} (h0 : 0 ≤ k) (h1 : k < len sn) : partsL (Eng.sub sn 0 (k + 1)) m = partsL (Eng.sub sn 0 k) m ++ [(getV m (at' sn k)).getD []] := by
  have e1 : k.toNat < sn.length := by unfold len at h1; omega
  unfold partsL Eng.sub
  rw [show (k + 1).toNat = k.toNat + 1 by omega]
  simp only [Int.toNat_zero, List.drop_zero, Nat.sub_zero]
  rw [List.take_add_one, List.getElem?_eq_getElem e1, List.map_append]
  simp [at', List.getD_eq_getElem?_getD, e1]
theorem partsL_sub {sn : List Str} {m : List (Str × Vl)} {k : Int} (h0 : 0 ≤ k) (h1 : k ≤ len sn) : ((partsL (Eng.sub sn 0 k) m).length : Int) = k := by
  unfold partsL Eng.sub; unfold len at h1
  simp only [List.length_map, Int.toNat_zero, List.drop_zero, Nat.sub_zero, List.length_take]; omega
theorem getV_in {m : List (Str × Vl)} {n : Str} (h : n ∈ m.map (·.1)) : ∃ x, getV m n = some x ∧ (n, x) ∈ m := by
  induction m with
  | nil => cases h
  | cons q m ih =>
    unfold getV
    by_cases hk : n = q.1
    · exact ⟨q.2, by rw [if_pos (by simpa using hk)], by rw [hk]; exact List.mem_cons_self⟩
    · rw [if_neg (by simpa using hk)]
      simp only [List.map_cons, List.mem_cons] at h
      obtain ⟨x, h1, h2⟩ := ih (h.resolve_left hk)
      exact ⟨x, h1, List.mem_cons_of_mem _ h2⟩
theorem sortN_mem {ns : List Str} {n : Str} : n ∈ sortN ns ↔ n ∈ ns := (List.mergeSort_perm ns _).mem_iff
theorem sortN_len (ns : List Str) : len (sortN ns) = len ns := by unfold len sortN; rw [List.length_mergeSort]
theorem partsL_keys {m : List (Str × Vl)} (hk : KeysOK m) : partsL (m.map (·.1)) m = m.map (·.2) := by
  unfold partsL
  rw [List.map_map]
  exact List.map_congr_left fun p hp => by show (getV m p.1).getD [] = p.2; rw [getV_of_mem hk hp]; rfl
theorem partsL_len {m : List (Str × Vl)} (hk : KeysOK m) : len (partsL (sortN (m.map (·.1))) m).flatten = len (m.map (·.2)).flatten := by
  rw [← partsL_keys hk]
  unfold len partsL sortN
  rw [List.Perm.length_eq (List.Perm.flatten ((List.mergeSort_perm (m.map (·.1)) _).map _))]
theorem laid_obj (m : List (Str × Vl)) : laidTo (sortN (m.map (·.1))) (partsL (sortN (m.map (·.1))) m) (len (partsL (sortN (m.map (·.1))) m)) = objV m := by
  unfold laidTo objV laidV
  have e : (sortN (m.map (·.1))).zip (partsL (sortN (m.map (·.1))) m) = (sortN (m.map (·.1))).map fun n => (n, (getV m n).getD []) := by
    unfold partsL
    generalize sortN (m.map (·.1)) = l
    induction l with
    | nil => rfl
    | cons a l ih => simp only [List.map_cons, List.zip_cons_cons, ih]
  rw [e, List.take_of_length_le (by unfold len partsL; simp)]
  congr 2
  unfold len partsL; simp
theorem zip_vals {ns : List Str} {xs : List Vl} (h2 : len ns = len xs) : (ns.zip xs).map (·.2) = xs := List.map_snd_zip (l₁ := ns) (l₂ := xs) (by unfold len at h2; omega)
/-! ### a map ranged over -/
theorem MapV.keys {M : Mem} : ∀ {l : List SV} {m : List (Str × Vl)}, MapV M l m → l.map (·.key) = m.map (·.1)
  | [], [], _ => rfl
  | [], _ :: _, h => h.elim
  | _ :: _, [], h => h.elim
  | p :: l, q :: m, ⟨h1, _, h4⟩ => by simp only [List.map_cons, h1, MapV.keys h4]
/-- What has been visited. -/
def VisS (l : List SV) (m : List (Str × Vl)) (seen : Array Nat) (ns : List Str) (xs : List Vl) : Prop :=
  ∃ vs : List SV, seen.toList = vs.map (·.born) ∧ (∀ p ∈ vs, p ∈ l) ∧ vs.map (·.key) = ns ∧ ns.length = xs.length ∧ (∀ p ∈ ns.zip xs, p ∈ m) ∧ ns.Nodup
theorem VisS.start (l : List SV) (m : List (Str × Vl)) : VisS l m #[] [] [] := ⟨[], rfl, fun _ h => (by cases h), rfl, rfl, fun _ h => (by cases h), List.nodup_nil⟩
theorem inj_of_nodup {α β : Type} {f : α → β} : ∀ {l : List α} {p q : α}, (l.map f).Nodup → p ∈ l → q ∈ l → f p = f q → p = q
  | [], _, _, _, h, _, _ => by cases h
  | a :: l, p, q, hn, hp, hq, he => by
    rw [List.map_cons, List.nodup_cons] at hn
    rcases List.mem_cons.1 hp with h1 | h1
    · rcases List.mem_cons.1 hq with h2 | h2
      · rw [h1, h2]
      · exact absurd (List.mem_map.2 ⟨q, h2, by rw [← he, h1]⟩) hn.1
    · rcases List.mem_cons.1 hq with h2 | h2
      · exact absurd (List.mem_map.2 ⟨p, h1, by rw [he, h2]⟩) hn.1
      · exact inj_of_nodup hn.2 h1 h2 he
theorem nodup_of_map {α β : Type} {f : α → β} : ∀ {l : List α}, (l.map f).Nodup → l.Nodup
  | [], _ => List.nodup_nil
  | a :: l, h => by
    rw [List.map_cons, List.nodup_cons] at h
    exact List.nodup_cons.2 ⟨fun ha => h.1 (List.mem_map.2 ⟨a, ha, rfl⟩), nodup_of_map h.2⟩
theorem sub_length {α : Type} : ∀ {l m : List α}, l.Nodup → (∀ p ∈ l, p ∈ m) → l.length ≤ m.length
  | [], _, _, _ => Nat.zero_le _
  | a :: l, m, hn, h => by
    obtain ⟨s, t, rfl⟩ := List.append_of_mem (h a List.mem_cons_self)
    rw [List.nodup_cons] at hn
    have := sub_length (m := s ++ t) hn.2 (fun p hp => by
      have h1 := h p (List.mem_cons_of_mem _ hp)
      rcases List.mem_append.1 h1 with h1 | h1
      · exact List.mem_append.2 (.inl h1)
      · rcases List.mem_cons.1 h1 with rfl | h1
        · exact absurd hp hn.1
        · exact List.mem_append.2 (.inr h1))
    simp only [List.length_append, List.length_cons] at *; omega
theorem VisS.step {M : Mem} {l : List SV} {m : List (Str × Vl)} {seen : Array Nat} {ns : List Str} {xs : List Vl} {p : SV} {x : Vl} (h : VisS l m seen ns xs) (hm : MapV M l m) (hk : KeysOK m) (hp : p ∈ l) (hns : ¬ seen.contains p.born = true) (hx : (p.key, x) ∈ m) :
    VisS l m (seen.push p.born) (ns ++ [p.key]) (xs ++ [x]) := by
  obtain ⟨vs, h1, h2, h3, h4, h5, h6⟩ := h
  have hkl : (l.map (·.key)).Nodup := by rw [hm.keys]; exact hk
  refine ⟨vs ++ [p], by simp [h1], fun q hq => ?_, by simp [h3], by simp [h4], ?_, ?_⟩
  · rcases List.mem_append.1 hq with hq | hq
    · exact h2 q hq
    · simp only [List.mem_singleton] at hq; subst hq; exact hp
  · intro q hq
    rw [List.zip_append h4] at hq
    rcases List.mem_append.1 hq with hq | hq
    · exact h5 q hq
    · simp at hq; subst hq; exact hx
  · rw [List.nodup_append]
    refine ⟨h6, by simp, fun a ha b hb => ?_⟩
    simp only [List.mem_singleton] at hb; subst hb
    intro e; subst e
    rw [← h3] at ha
    obtain ⟨q, hq, he⟩ := List.mem_map.1 ha
    have := inj_of_nodup hkl (h2 q hq) hp he
    subst this
    apply hns
    rw [Array.contains_iff_mem, Array.mem_def, h1]
    exact List.mem_map.2 ⟨q, hq, rfl⟩
theorem VisS.done {M : Mem} {l : List SV} {c : Nat} {m : List (Str × Vl)} {seen : Array Nat} {ns : List Str} {xs : List Vl} (h : VisS l m seen ns xs) (hm : MapV M l m) (hk : KeysOK m) (hb : BornOK l c) (hall : ∀ p ∈ l, seen.contains p.born = true) : (ns.zip xs).Perm m := by
  obtain ⟨vs, h1, h2, h3, h4, h5, h6⟩ := h
  have hsub : ∀ p ∈ l, p ∈ vs := by
    intro p hp
    have := hall p hp
    rw [Array.contains_iff_mem, Array.mem_def, h1] at this
    obtain ⟨q, hq, he⟩ := List.mem_map.1 this
    have := inj_of_nodup hb.2 (h2 q hq) hp he
    subst this; exact hq
  have hkl : (l.map (·.key)).Nodup := by rw [hm.keys]; exact hk
  have hln : l.Nodup := nodup_of_map hkl
  have hvn : vs.Nodup := nodup_of_map (f := (·.key)) (by rw [h3]; exact h6)
  have e1 : l.length ≤ vs.length := sub_length hln hsub
  have e2 : vs.length ≤ l.length := sub_length hvn h2
  have e3 : ns.length = vs.length := by rw [← h3, List.length_map]
  have e4 : m.length = l.length := by have := congrArg List.length hm.keys; simpa using this.symm
  have hz : (ns.zip xs).map (·.1) = ns := List.map_fst_zip (l₁ := ns) (l₂ := xs) (by omega)
  exact perm_of_sub (by rw [hz]; exact h6) h5 (by rw [List.length_zip]; omega)
theorem VisS.le {M : Mem} {l : List SV} {m : List (Str × Vl)} {seen : Array Nat} {ns : List Str} {xs : List Vl} (h : VisS l m seen ns xs) : ns.length ≤ m.length := by
  obtain ⟨vs, h1, h2, h3, h4, h5, h6⟩ := h
  have hz : (ns.zip xs).map (·.1) = ns := List.map_fst_zip (l₁ := ns) (l₂ := xs) (by omega)
  have := sub_length (l := ns.zip xs) (m := m) (nodup_of_map (f := (·.1)) (by rw [hz]; exact h6)) h5
  rw [List.length_zip] at this; omega
theorem VisS.eq {l : List SV} {m : List (Str × Vl)} {seen : Array Nat} {ns : List Str} {xs : List Vl} (h : VisS l m seen ns xs) : ns.length = xs.length := by
  obtain ⟨vs, h1, h2, h3, h4, h5, h6⟩ := h; exact h4
theorem objV_le {m : List (Str × Vl)} (hk : KeysOK m) : len (objV m) ≤ 1 + mapN m := by
  rw [← laid_obj m]
  have h1 := laidTo_le (sortN (m.map (·.1))) (partsL (sortN (m.map (·.1))) m) (len (partsL (sortN (m.map (·.1))) m))
  rw [partsL_len hk] at h1
  exact h1
/-- All have been visited: what val.Object asks. -/
theorem VisS.all {M : Mem} {l : List SV} {c : Nat} {m : List (Str × Vl)} {seen : Array Nat} {ns : List Str} {xs : List Vl} (h : VisS l m seen ns xs) (hm : MapV M l m) (hk : KeysOK m) (hu : UtfK m) (hb : BornOK l c) (hall : ∀ p ∈ l, seen.contains p.born = true) :
    len ns = len xs ∧ len ns = len m ∧ ns.Nodup ∧ (∀ n ∈ ns, utf n = true) ∧ (∀ n ∈ ns, len n ≤ 4398046511104) ∧ (∀ x ∈ xs, x ≠ []) ∧ len xs.flatten = mapN m ∧ objV (ns.zip xs) = objV m := by
  have hp := h.done hm hk hb hall
  obtain ⟨vs, h1, h2, h3, h4, h5, h6⟩ := h
  have hz : (ns.zip xs).map (·.1) = ns := List.map_fst_zip (l₁ := ns) (l₂ := xs) (by omega)
  have hz2 : (ns.zip xs).map (·.2) = xs := List.map_snd_zip (l₁ := ns) (l₂ := xs) (by omega)
  have hl := hp.length_eq
  rw [List.length_zip] at hl
  have hn : ∀ n ∈ ns, utf n = true ∧ len n ≤ 4398046511104 := fun n hn => by
    rw [← hz] at hn
    obtain ⟨q, hq, rfl⟩ := List.mem_map.1 hn
    exact ⟨(hu q (h5 q hq)).1, (hu q (h5 q hq)).2.1⟩
  refine ⟨by unfold len; omega, by unfold len; omega, h6, fun n h => (hn n h).1, fun n h => (hn n h).2, fun x hx => ?_, ?_, objV_perm hp hk⟩
  · rw [← hz2] at hx
    obtain ⟨q, hq, rfl⟩ := List.mem_map.1 hx
    exact (hu q (h5 q hq)).2.2
  · unfold mapN len
    rw [← (List.Perm.flatten (hp.map (·.2))).length_eq, hz2]
end Go.Eng
set_option maxRecDepth 100000
namespace Go.Proofs.YtjfaikgooldcbaaGreatDoor
open Go.Eng

def ObjI (pb b2 b3 bm mb : Nat) (d i0 : Int) (mp : List (Str × Vl)) (j : Int) (M : Mem) (Hs : List HO) : Prop := (len mp ≤ j ∧ mapN mp + 1 ≤ j - i0) ∧ KeysOK mp ∧ UtfK mp ∧ ∃ l c, MapV M l mp ∧ BornOK l c ∧ Hs = [.box b2 [.pointer (some ⟨pb, 0, none⟩)] 53, .box b3 [i64 d] 3, .box bm [.map (some mb)] 106, .raw mb (smobj l c)]
theorem obj_part {w : World} {M0 : Mem} {Rs : List HO} (s : Str) (pb b2 b3 bm mb : Nat) (d i0 : Int) (hb : len s ≤ 1099511627776) (hg : Gl w) (hd : 0 ≤ d ∧ d ≤ 900) (f : Nat) (hval : ValOK w M0 s pb f) :
    PartOK w M0 Rs s pb 75 [.pointer (some ⟨b2, 0, none⟩), .pointer (some ⟨b3, 0, none⟩), .pointer (some ⟨bm, 0, none⟩)] (ObjI pb b2 b3 bm mb d i0) (fun f m i => pairT s i (fun k => valT f s k (d + 1)) m) f := by
  intro mp i wv M Hs hI h0 h1 hf hS
  obtain ⟨hlx, hk, hu, l, c, hmap, hbo, rfl⟩ := hI
  have hkx : ∀ x j, pairT s i (fun k => valT f s k (d + 1)) mp = .ok x j → KeysOK x ∧ UtfK x := fun x j h => ⟨pairT_keys hk h, pairT_utfk hb (fun _ _ _ h => valT_ne h) hu h⟩
  refine (objpart_c (Rs := Rs) s i d i0 pb b2 b3 bm mb l c mp f hS hmap hbo hlx h0 h1 hb hg hd hf hval).mono fun e w' h => ?_
  show PPost w M0 M Rs 51 _ (pairT s i (fun k => valT f s k (d + 1)) mp) e w'
  revert h hkx
  generalize pairT s i (fun k => valT f s k (d + 1)) mp = r
  intro hkx h
  cases r with
  | ok x j => obtain ⟨v', M', he, ⟨h2, h3, h4, l2, c2, hm2, hb2, hS2⟩, hle⟩ := h; exact ⟨v', M', he, ⟨by omega, h3, _, ⟨h4, (hkx _ _ rfl).1, (hkx _ _ rfl).2, l2, c2, hm2, hb2, rfl⟩, hS2⟩, hle⟩
  | er ec p => exact h
theorem obj_parts {w wv : World} {M0 M : Mem} {Rs : List HO} (s : Str) (i d : Int) (pb b2 b3 bm mb : Nat) (Fu : Nat) (hS : St w M0 wv M (.box pb [str s, i64 (i)] 55 :: .box b2 [.pointer (some ⟨pb, 0, none⟩)] 53 :: .box b3 [i64 d] 3 :: .box bm [.map (some mb)] 106 :: .raw mb (smobj [] 0) :: Rs)) (h0 : 0 ≤ i) (h1 : i < len s) (hb : len s ≤ 1099511627776) (hg : Gl w) (hd : 0 ≤ d ∧ d ≤ 900) (hf : 2 * (len s - i) ≤ Fu) (hval : ∀ f, f < Fu → ValOK w M0 s pb f) :
    Calls Tryz.prog 72 [.pointer (some ⟨pb, 0, none⟩), str [125], (.func (.func 75) #[] #[.pointer (some ⟨b2, 0, none⟩), .pointer (some ⟨b3, 0, none⟩), .pointer (some ⟨bm, 0, none⟩)])].toArray wv (PPost w M0 M Rs 51 (fun x j v M' w' => i + 2 ≤ j ∧ j ≤ len s ∧ (len x ≤ j ∧ mapN x + 1 ≤ j - i) ∧ KeysOK x ∧ UtfK x ∧ ∃ l2 c2, MapV M' l2 x ∧ BornOK l2 c2 ∧ St w M0 w' M' (.box pb [str s, i64 (j)] 55 :: .box b2 [.pointer (some ⟨pb, 0, none⟩)] 53 :: .box b3 [i64 d] 3 :: .box bm [.map (some mb)] 106 :: .raw mb (smobj l2 c2) :: Rs)) (partsT s i [125] [] (pairsT Fu s d))) := by
  refine (parts_c (Rs := Rs) s [125] i pb 75 [.pointer (some ⟨b2, 0, none⟩), .pointer (some ⟨b3, 0, none⟩), .pointer (some ⟨bm, 0, none⟩)] (ObjI pb b2 b3 bm mb d i) (fun f m i => pairT s i (fun k => valT f s k (d + 1)) m) (fun f => pairsT f s d) [] Fu _ hS ⟨⟨by simp only [len_nil]; omega, by unfold mapN; simp only [List.map_nil, List.flatten_nil, len_nil]; omega⟩, List.nodup_nil, (fun p hp => by cases hp), [], 0, trivial, ⟨fun p hp => (by cases hp), List.nodup_nil⟩, rfl⟩ ?_ Tryz.call75 (fun f x i => by rw [pairsT]) (fun f hf => obj_part s pb b2 b3 bm mb d i hb hg hd f (hval f hf)) rfl hf h0 h1 hb).mono fun e w' h => ?_
  · rintro x M Hs j j2 hj ⟨⟨h1, h2⟩, h3⟩; exact ⟨⟨by omega, by omega⟩, h3⟩
  · revert h
    show PPost _ _ _ _ _ _ _ _ _ → PPost _ _ _ _ _ _ _ _ _
    generalize partsT s i [125] [] (pairsT Fu s d) = r
    intro h
    cases r with
    | ok x j => obtain ⟨v', M', he, ⟨h2, h3, _, ⟨h4, hk, hu, l2, c2, hm2, hb2, rfl⟩, hS2⟩, hle⟩ := h; exact ⟨v', M', he, ⟨h2, h3, h4, hk, hu, l2, c2, hm2, hb2, hS2⟩, hle⟩
    | er ec p => exact h
end Go.Proofs.YtjfaikgooldcbaaGreatDoor
namespace Go.Eng
open Go.RowKit

section st
variable {w0 w : World} {M0 M : Mem} {Hs : List HO}
theorem St.newPriv (h : St w0 M0 w M Hs) (e : TypeId) (sz n : Nat) (xs : List Value) (hl : xs.length = n * sz) (hm : n ≤ maxLen) :
    St w0 M0 (w.alloc (.cells xs.toArray e)) M (.priv e sz (.slice (some ⟨w.heap.size, 0, none⟩) n n) n xs :: Hs) := by
  have h1 := h.ext (Ext.alloc w (.cells xs.toArray e))
  refine ⟨h1.low, h1.sat, h1.old, fun x hx => ?_, List.pairwise_cons.2 ⟨fun y hy b hb => ?_, h.apart⟩⟩
  · rcases List.mem_cons.1 hx with rfl | hx
    · refine ⟨⟨hl, .inr ⟨w.heap.size, n, xs.toArray, rfl, h.size, heap_alloc_new _ _, Nat.le_refl _, hm, by simpa using hl, by rw [← hl]; simp⟩⟩, fun b hb o => ?_⟩
      simp only [Value.ownBlock, Option.some.injEq] at hb; subst hb
      exact h.none_of_new (Nat.le_refl _) o
    · exact h1.ok x hx
  · simp only [HO.blk, Value.ownBlock, Option.some.injEq] at hb; subst hb
    intro hy'
    have := (HO.ok.lt (h.ok y hy) hy').2
    omega
theorem St.privNil (h : St w0 M0 w M Hs) (e : TypeId) (sz : Nat) : St w0 M0 w M (.priv e sz (.slice none 0 0) 0 [] :: Hs) :=
  ⟨h.low, h.sat, h.old, fun x hx => by
    rcases List.mem_cons.1 hx with rfl | hx
    · exact ⟨World.ownsRow_nil w _ e sz, fun b hb => (by cases hb)⟩
    · exact h.ok x hx, List.pairwise_cons.2 ⟨fun y hy b hb => (by cases hb), h.apart⟩⟩
/-- Now it is told of. -/
theorem St.show (h : St w0 M0 w M Hs) {k : Nat} {e : TypeId} {sz n : Nat} {v : Value} {xs : List Value} (hk : Hs[k]? = some (.priv e sz v n xs)) :
    ∃ M', St w0 M0 w M' (Hs.set k (.own e sz v n xs)) ∧ M.le M' := by
  obtain ⟨hown, hmem⟩ := h.obj hk
  let M' : Mem := fun b o => if v.ownBlock = some b then xs[o]? else M b o
  have hne : ∀ b, v.ownBlock ≠ some b → ∀ o, M' b o = M b o := fun b hb o => if_neg hb
  have heq : ∀ b, v.ownBlock = some b → ∀ o, M' b o = xs[o]? := fun b hb o => if_pos hb
  refine ⟨M', ?_, fun b o u hu => ?_⟩
  · refine h.write hk (Below.refl _ _) ⟨fun b o u hu => ?_⟩ (fun b o hb => hne b (fun e => by have := (World.ownsRow.lt hown b e).1; omega) o) (fun _ _ _ => rfl) (fun b _ hb o => hne b hb o) ⟨hown, fun b hb => ⟨fun o _ => heq b hb o, fun o ho => by rw [heq b hb o]; exact List.getElem?_eq_none ho⟩⟩ (fun _ hb => .inl hb)
    by_cases hb : v.ownBlock = some b
    · rw [heq b hb] at hu
      have := hown.cells hb o u hu
      rwa [add_none, Nat.zero_add] at this
    · rw [hne b hb] at hu; exact h.sat.cell b o u hu
  · by_cases hb : v.ownBlock = some b
    · rw [hmem b hb o] at hu; cases hu
    · rw [hne b hb, hu]
/-- .. as it were told of: for what is only read. -/
theorem St.told (h : St w0 M0 w M Hs) {k : Nat} {e : TypeId} {sz n : Nat} {v : Value} {xs : List Value} (hk : Hs[k]? = some (.priv e sz v n xs)) : St w0 M0 w (h.show hk).choose (Hs.set k (.own e sz v n xs)) := (h.show hk).choose_spec.1
/-- Append, to a private row. -/
theorem St.appendP {P : Program} (h : St w0 M0 w M Hs) {k : Nat} {t ty e : TypeId} {i : TypeInfo} {z : Value} {sz n m : Nat} {v x : Value} {xs news : List Value} (hk : Hs[k]? = some (.priv e sz v n xs)) (hx : Sl M sz m x news)
    (ht : P.underlying t = some (.slice e)) (hi : P.info? e = some i) (hz : i.zero = some z) (hsize : i.size = sz) (hzs : z.cells.size = sz) (h1 : ∀ u ∈ news, u.oneCell' = true)
    (h63 : n + m ≤ maxLen) (hbytes : (n + m) * i.bytes ≤ 140737488355328) :
    ∃ v' w', (Builtin.append_ #[t, t] ty #[v, x]).run P w = .ok v' w' ∧ St w0 M0 w' M (Hs.set k (.priv e sz v' (n + m) (xs ++ news))) := by
  obtain ⟨hown, hmem⟩ := h.obj hk
  obtain ⟨p, cap, rfl, hnc, _, hp⟩ := hx.val
  have hx' : ∃ p' c, (Value.slice p m cap) = .slice p' m c ∧ (0 < m → ∃ a, p' = some a ∧ ∀ j u, news[j]? = some u → w.cell? (a.add j) = some u) := by
    refine ⟨p, cap, rfl, fun hm => ?_⟩
    obtain ⟨b, o, hp', hc⟩ := hp hm
    refine ⟨_, hp', fun j u hu => ?_⟩
    rw [add_none]
    refine h.sat.cell _ _ _ ?_
    rw [hc j (List.getElem?_eq_some_iff.1 hu).1, hu]
  obtain ⟨v', w', hr, hown', hlow, hheap, hpre, hblk⟩ := run_append_mine (P := P) w w0.heap.size t ty e i z sz ht hi hz hsize hzs v n xs hown _ m news hx.len hx' h1 h63 hbytes h.size
  have hnone : ∀ b, v'.ownBlock = some b → ∀ o, M b o = none := fun b hb o => by
    rcases hblk with h2 | ⟨b', h2, h3⟩
    · exact hmem b (by rw [← h2]; exact hb) o
    · rw [hb] at h2; cases h2; exact h.none_of_new h3 o
  refine ⟨v', w', hr, h.write hk hlow ⟨fun b o u hu => ?_⟩ (fun _ _ _ => rfl) (fun b hb hne => hheap b hb hne) (fun _ _ _ _ => rfl) ⟨hown', hnone⟩ (fun b hb => ?_)⟩
  · have hlt := h.sat.lt hu
    have hne : v.ownBlock ≠ some b := fun e => by rw [hmem b e o] at hu; cases hu
    have := h.sat.cell b o u hu
    simp only [World.cell?, hheap b hlt hne] at this ⊢; exact this
  · rcases hblk with h2 | ⟨b', h2, h3⟩
    · exact .inl (by show v.ownBlock = some b; rw [← h2]; exact hb)
    · have hb' : v'.ownBlock = some b := hb
      rw [hb'] at h2; cases h2; exact .inr h3
/-- Cells written into a private row. -/
theorem St.writeP {P : Program} (h : St w0 M0 w M Hs) {k : Nat} {e : TypeId} {sz n : Nat} {v : Value} {xs us : List Value} {o : Nat} (hk : Hs[k]? = some (.priv e sz v n xs)) (ho : o + us.length ≤ xs.length) (hu : 0 < us.length) (h1 : ∀ u ∈ us, u.oneCell' = true) :
    ∃ w', (storeCells ⟨sb v, so v + o, none⟩ us 0).run P w = .ok () w' ∧ St w0 M0 w' M (Hs.set k (.priv e sz v n (splice xs o us))) := by
  obtain ⟨⟨hl, hv⟩, hmem⟩ := h.obj hk
  rcases hv with ⟨rfl, rfl⟩ | ⟨g, cap, cur, rfl, hg, hh, hnc, hcm, hcs, htk⟩
  · rw [Nat.zero_mul] at hl; omega
  · have hxl : xs.length ≤ cur.size := by rw [← htk, List.length_take]; simp; omega
    have hst := run_storeCells_at P g o e us 0 cur w hh (by omega) h1
    refine ⟨_, by simpa [sb, so] using hst, ?_⟩
    have hlt : g < w.heap.size := by
      rcases Nat.lt_or_ge g w.heap.size with h' | h'
      · exact h'
      · simp [Array.getElem?_eq_none h'] at hh
    refine h.write hk (below_setRow _ hg) ⟨fun b' o' u hu' => ?_⟩ (fun _ _ _ => rfl) (fun b _ hb => heap_setRow_ne _ _ _ _ (fun e => hb (by rw [e]; rfl))) (fun _ _ _ _ => rfl) ⟨⟨?_, .inr ⟨g, cap, _, rfl, hg, heap_setRow_self _ _ _ _ _ _ hh, hnc, hcm, ?_, ?_⟩⟩, fun b hb o' => hmem b hb o'⟩ (fun _ hb => .inl hb)
    · have hne : b' ≠ g := fun e => by subst e; rw [hmem b' rfl o'] at hu'; cases hu'
      have := h.sat.cell b' o' u hu'
      simp only [World.cell?, heap_setRow_ne _ _ _ _ hne] at this ⊢
      exact this
    · unfold splice; simp only [List.length_append, List.length_take, List.length_drop]; omega
    · simp only [List.size_toArray, List.length_append, List.length_take, List.length_drop, Array.length_toList]; omega
    · unfold splice
      simp only [Nat.add_zero]
      have hA : (List.take o cur.toList).length = o := by rw [List.length_take, Array.length_toList]; omega
      rw [← htk, List.take_take, List.drop_take, Nat.min_eq_left (by omega : o ≤ n * sz)]
      simp only [List.append_assoc]
      rw [List.take_append, List.take_append, hA, List.take_take, Nat.min_eq_right (by omega : o ≤ n * sz), List.take_of_length_le (l := us) (by omega), Nat.sub_sub]
end st
section rl
variable {P : Program} {ops : Array Oper} {Q : Exit → Act → World → Prop} {N : Nat} {rest : List Oper} {L : Env} {w0 w : World} {M0 M : Mem} {Hs : List HO} {d : Nat} {ty : TypeId} {ps : String} {af : Array Edge}
/-- A slice's literal, told of to no one. -/
theorem RL.buildSliceP {t e : TypeId} {n sz : Nat} {xs : List (Nat × Operand)} {vs : List (Nat × Value)} {cs : List Value} (hS : St w0 M0 w M Hs) (hx : Parts L true xs vs) (hl : cs.length = n * sz) (hm : Nat.ble n 9223372036854775807 = true)
    (hr : ∀ w, (Instr.buildSlice t n vs.toArray).run P w = .ok (.slice (some ⟨w.heap.size, 0, none⟩) n n) (w.alloc (.cells cs.toArray e))) (hd : Nat.blt d N = true)
    (h : ∀ v w', St w0 M0 w' M (.priv e sz v n cs :: Hs) → RL P ops Q N rest ((d, true, v) :: L) w') : RL P ops Q N (⟨some d, .buildSlice t n xs.toArray, ty, ps, af, none⟩ :: rest) L w := by
  intro a hs
  refine wpList_plain rfl fun K hK => ?_
  have e1 : xs.toArray.map (fun p => (p.1, a.eval p.2)) = vs.toArray := by rw [List.map_toArray, Parts.map hs rfl xs vs hx]
  have key : (execOp a.eval ⟨some d, .buildSlice t n xs.toArray, ty, ps, af, none⟩).run P w = .ok (.value (.slice (some ⟨w.heap.size, 0, none⟩) n n)) (w.alloc (.cells cs.toArray e)) := by
    simp only [execOp, e1]; rw [Sem.run_bind, hr w]; rfl
  simp only [Oper.wp, key, Oper.upon_value]
  exact hK _ _ (h _ _ (hS.newPriv e sz n cs hl (by have := Nat.le_of_ble_eq_true hm; simp only [maxLen]; omega)) _ (hs.put hd true _))
theorem RL.appendLP {α : Type} {f : α → List Value} {l m : List α} {t e : TypeId} {s x : Operand} {i : TypeInfo} {z : Value} {k sz by' : Nat} {v vx : Value} (hS : St w0 M0 w M Hs) (hk : Hs[k]? = some (.priv e sz v l.length (l.flatMap f))) (hs : Opd L true s v) (hx : Opd L true x vx) (hsl : Sl M sz m.length vx (m.flatMap f))
    (ht : P.underlying t = some (.slice e)) (hi : P.info? e = some i) (hz : i.zero = some z) (hsize : i.size = sz) (hzs : z.cells.size = sz) (h1 : ∀ x, ∀ u ∈ f x, u.oneCell' = true) (hby : i.bytes = by') (hb0 : Nat.blt 0 by' = true)
    (hb : (len l + len m) * by' ≤ 140737488355328) (hd : Nat.blt d N = true) {Hs' : Value → List HO} (hHs : ∀ v', Hs.set k (.priv e sz v' (l ++ m).length ((l ++ m).flatMap f)) = Hs' v')
    (h : ∀ v' w', St w0 M0 w' M (Hs' v') → RL P ops Q N rest ((d, true, v') :: L) w') : RL P ops Q N (⟨some d, .call ⟨.builtin .append, #[s, x], #[t, t]⟩, ty, ps, af, none⟩ :: rest) L w := by
  subst hby
  have hb0' : 0 < i.bytes := by simpa [Nat.blt_eq] using hb0
  unfold len at hb
  intro a hsl'
  refine wpList_plain rfl fun K hK => ?_
  have hb2 : (l.length + m.length) * i.bytes ≤ 140737488355328 := by
    rw [← Int.natCast_add, ← Int.natCast_mul] at hb
    generalize (l.length + m.length) * i.bytes = q at hb ⊢
    omega
  have hle : (l.length + m.length) * 1 ≤ (l.length + m.length) * i.bytes := Nat.mul_le_mul_left _ hb0'
  obtain ⟨v', w', hr, hS'⟩ := hS.appendP (P := P) (ty := ty) hk hsl ht hi hz hsize hzs (fun u hu => by obtain ⟨y, _, hy⟩ := List.mem_flatMap.1 hu; exact h1 y u hy) (by simp only [maxLen]; omega) hb2
  have key : (execOp a.eval ⟨some d, .call ⟨.builtin .append, #[s, x], #[t, t]⟩, ty, ps, af, none⟩).run P w = .ok (.value v') w' := by
    simp only [execOp, resolve, invoke, builtin, Sem.run_bind, Sem.run_pure, Result.andThen_ok, List.map_toArray, List.map_cons, List.map_nil, hs a N hsl' rfl, hx a N hsl' rfl, hr]
  simp only [Oper.wp, key, Oper.upon_value]
  exact hK _ _ (h _ _ (by rw [← hHs v', List.length_append, List.flatMap_append]; exact hS') _ (hsl'.put hd true _))
/-- A store into a private row. -/
theorem RL.storeP {t e : TypeId} {x y : Operand} {k sz n m o : Nat} {v u : Value} {xs xs' : List Value} (hS : St w0 M0 w M Hs) (hk : Hs[k]? = some (.priv e sz v n xs)) (hx : Opd L true x (.pointer (some ⟨sb v, so v + o, none⟩))) (hy : Opd L true y u) (hs : ∀ w, (sizeOf t).run P w = .ok m w)
    (hn : u.cells.toList.length = m) (hm0 : Nat.blt 0 m = true) (hfit : o + m ≤ xs.length) (h1 : (u.cells.toList.all (·.oneCell')) = true) (hxs : splice xs o u.cells.toList = xs') {Hs' : List HO} (hHs : Hs.set k (.priv e sz v n xs') = Hs')
    (h : ∀ w', St w0 M0 w' M Hs' → RL P ops Q N rest L w') : RL P ops Q N (⟨none, .store t x y, ty, ps, af, none⟩ :: rest) L w := by
  intro a hsl
  refine wpList_plain rfl fun K hK => ?_
  obtain ⟨w', hst, hS'⟩ := hS.writeP (P := P) (us := u.cells.toList) (o := o) hk (by omega) (by rw [hn]; simpa [Nat.blt_eq] using hm0) (List.all_eq_true.1 h1)
  have hn' : u.cells.size = m := by rw [← hn]; simp
  have key : (Instr.storeAt t (.pointer (some ⟨sb v, so v + o, none⟩)) u).run P w = .ok () w' := by
    simp only [Instr.storeAt, Instr.sureAddr, storeVar, Sem.run_bind, Sem.run_pure, Result.andThen_ok, hs, hn', ne_eq, not_true_eq_false, if_false, hst]
  have key2 : (execOp a.eval ⟨none, .store t x y, ty, ps, af, none⟩).run P w = .ok .skip w' := by
    simp only [execOp, hx a N hsl rfl, hy a N hsl rfl]; rw [Sem.run_bind, key]; rfl
  simp only [Oper.wp, key2, Oper.upon_skip]
  exact hK _ _ (h _ (by rw [← hHs, ← hxs]; exact hS') _ hsl)
end rl
/-- One thing of a list written in part. -/
theorem splice_set {α : Type} [Inhabited α] {f : α → List Value} {sz : Nat} (hf : ∀ x, (f x).length = sz) (l : List α) (i : Nat) (y : α) (off : Nat) (us : List Value) (hi : i < l.length) (hy : splice (f (l.getD i default)) off us = f y) (hoff : off + us.length ≤ sz) :
    splice (l.flatMap f) (i * sz + off) us = (l.set i y).flatMap f := by
  induction l generalizing i with
  | nil => simp at hi
  | cons x l ih =>
    cases i with
    | zero =>
      have hy' : splice (f x) off us = f y := by simpa using hy
      have hx := hf x
      simp only [List.set_cons_zero, List.flatMap_cons, Nat.zero_mul, Nat.zero_add]
      rw [← hy']
      unfold splice
      rw [List.take_append_of_le_length (by omega), List.drop_append_of_le_length (by omega)]
      simp
    | succ i =>
      have h2 := ih i (by simpa using hi) (by simpa using hy)
      have hx := hf x
      simp only [List.set_cons_succ, List.flatMap_cons]
      rw [← h2]
      unfold splice
      have e1 : (i + 1) * sz + off = (f x).length + (i * sz + off) := by rw [hx, Nat.succ_mul]; omega
      rw [e1, List.take_append, List.drop_append, List.take_of_length_le (by omega), show (f x).length + (i * sz + off) - (f x).length = i * sz + off from by omega, List.drop_eq_nil_of_le (by omega), show (f x).length + (i * sz + off) + us.length - (f x).length = i * sz + off + us.length from by omega]
      simp
end Go.Eng
set_option maxRecDepth 100000
namespace Go.Proofs.YtjfaikgooldcbaaGreatDoor
open Go.Eng

/- loupe/val.laid -/
theorem laid_c {w wv : World} {M0 M : Mem} {Rs : List HO} (ns : List Str) (rs : List SlH) (xs : List Vl) (vn va : Value) (hS : St w M0 wv M Rs) (hn : Sl M 1 ns.length vn (ns.flatMap strC)) (ha : Sl M 1 rs.length va (rs.flatMap valI)) (hrow : RowsV M 6 Nd.cells rs xs) (hnl : len ns = len rs) (hne : ∀ x ∈ xs, x ≠ []) (hbd : len xs.flatten ≤ 1099511627776) :
  Calls Tryz.prog 106 [vn, va].toArray wv fun e w' => ∃ u, e = .returned u ∧ ∃ a c M', u = .slice a (laidTo ns xs (len xs)).length c ∧ Sl M' 6 (laidTo ns xs (len xs)).length u ((laidTo ns xs (len xs)).flatMap Nd.cells) ∧ St w M0 w' M' Rs ∧ M.le M' := by
 refine CW.enter1 Tryz.func106 rfl Tryz.ntmps106 (Nat.le_of_ble_eq_true rfl) fun Q hE => ?_
 have hrl : len rs = len xs := by unfold len; rw [hrow.len]
 have hle9 : len rs ≤ 9223372036854775807 := ha.le
 have hn0 := len_nonneg rs
 refine CW.weaken [0, 1] (L' := [Y 0 vn, Y 1 va]) ?_ rfl
 refine CW.sr ?_
 have hS1 := hS.ownNil 38 6
 refine RL.u (.assign .c) rfl (RL.nil (CW.id ?_))
 refine CW.sr (RL.m rfl rfl (RL.u (.lenT ha (.t rfl) ⟨_, Tryz.underlying47⟩) rfl (RL.u (.build (vs := [(0, (i64 6)), (1, (i64 (len rs)))]) (v := (.agg #[(i64 6), (i64 (len rs)), (str []), (str []), (.bool false), (i64 0)])) (.cons .c (.cons (.t rfl) .nil)) (fun w => by kernel_rfl)) rfl ?_)))
 refine RL.buildSliceP (n := 1) (sz := 6) (e := 38) (vs := [(0, (.agg #[(i64 6), (i64 (len rs)), (str []), (str []), (.bool false), (i64 0)]))]) (cs := [(i64 6), (i64 (len rs)), (str []), (str []), (.bool false), (i64 0)]) hS1 (.cons (.t rfl) .nil) rfl rfl (fun w => by kernel_rfl) rfl (fun v2 w3 hS4 => ?_)
 refine RL.a rfl rfl (RL.nil (CW.id ?_))
 refine CW.seq (CW.sr (RL.m rfl rfl (RL.u (.lenT ha (.t rfl) ⟨_, Tryz.underlying47⟩) rfl (RL.u (.move .c) rfl (RL.nil (CW.id ?_))))))
 refine CW.block ?_
 refine CW.loop (σ := Int × Value × List Nd) (fun (k, vl, ll) => [Y 0 vn, Y 5 vl, Y 13 va, Y 14 (i64 (len rs)), Y 15 (i64 k)]) (fun (k, vl, ll) wl => St w M0 wl M (.priv 38 6 vl ll.length (ll.flatMap Nd.cells) :: .own 38 6 (.slice none 0 0) (([] : List Nd)).length ((([] : List Nd)).flatMap Nd.cells) :: Rs) ∧ Sl M 1 ns.length vn (ns.flatMap strC) ∧ Sl M 1 rs.length va (rs.flatMap valI) ∧ RowsV M 6 Nd.cells rs xs ∧ 0 ≤ k ∧ k ≤ len rs ∧ ll = laidTo ns xs k) (fun (k, vl, ll) => (len rs - k).toNat) ((0, v2, ([⟨6, len rs, [], [], false, 0⟩] : List Nd))) [0, 5, 13, 14, 15] rfl ?_ ?_
 ·refine ⟨hS4, hn, ha, hrow, ?_⟩; exact ⟨by omega, by omega, by rw [hrl]; rfl⟩
 ·rintro ⟨k, vl, ll⟩ wl ⟨hS5, hn, ha, hrow, hk0, hk1, hll⟩
  have hrk := fun h : k < len rs => hrow.at hk0 h
  refine CW.sr (RL.u (.lss (.t rfl) (.t rfl)) rfl (RL.nil (CW.id (CW.seq ?_))))
  refine CW.cond rfl ?_ ?_ <;> intro hb1 <;> try simp only [zb] at hb1
  ·replace hrk := hrk hb1
   have hxn : at' xs k ≠ [] := hne _ (at'_mem hk0 (by omega))
   have hxp : 1 ≤ len (at' xs k) := by cases hx : at' xs k with | nil => exact absurd hx hxn | cons y r => (rw [len_cons]; have := len_nonneg r; omega)
   have hl0 := len_nonneg ll
   have hl1 := laidTo_le ns xs (k + 1)
   rw [laidTo_step hk0 (by omega) (by omega), ← hll, len_app, nameV_len] at hl1
   refine CW.skip (CW.id (CW.seq (CW.block (CW.sr ?_))))
   refine RL.m rfl rfl (RL.u (.idxT ha (.t rfl) (.t rfl) Tryz.underlying47 Tryz.sizeOf24 (fun _ => by omega)) rfl (RL.u (.loadE1 (f := valI) (i := k) (j := 0) (u := ((at' rs k).v)) hS5 extEq ha valI_len (.t rfl) Tryz.isAgg24 (fun _ => by omega) rfl rfl) rfl (RL.a rfl rfl (RL.a rfl rfl (RL.nil (CW.id ?_))))))
   refine CW.sr (RL.m rfl rfl (RL.u (.lenT ((hS5.told (k := 0) rfl).sl (i := 0) rfl) (.t rfl) ⟨_, Tryz.underlying24⟩) rfl (RL.a rfl rfl (RL.nil (CW.id (CW.sr ?_))))))
   refine RL.m rfl rfl (RL.m rfl rfl ?_)
   refine RL.appendLP (f := Nd.cells) (l := ll) (m := at' xs k) hS5 (k := 0) rfl (.t rfl) (.t rfl) hrk Tryz.underlying24 Tryz.type38 rfl rfl rfl Nd.cells_one (by' := 64) rfl rfl (by omega) rfl (Hs' := fun v' => (.priv 38 6 v' (ll ++ at' xs k).length ((ll ++ at' xs k).flatMap Nd.cells) :: .own 38 6 (.slice none 0 0) (([] : List Nd)).length ((([] : List Nd)).flatMap Nd.cells) :: Rs)) (fun _ => rfl) (fun v6 w7 hS8 => ?_)
   refine RL.a rfl rfl (RL.nil (CW.id ?_))
   refine CW.region (RL.m rfl rfl (RL.m rfl rfl (RL.m rfl rfl (RL.m rfl rfl (RL.u (.idxT hn (.t rfl) (.t rfl) Tryz.underlying46 Tryz.sizeOf9 (fun _ => by first | omega | (simp only [len_app, len_cons, len_nil]; omega) | (simp only [len_app, len_cons, len_nil] at *; omega))) rfl (RL.u (.loadE1 (f := strC) (i := k) (j := 0) (u := (str (at' ns k))) hS8 extEq hn strC_len (.t rfl) Tryz.isAgg9 (fun _ => by first | omega | (simp only [len_app, len_cons, len_nil]; omega) | (simp only [len_app, len_cons, len_nil] at *; omega)) rfl rfl) rfl (RL.u (.idxT ((hS8.told (k := 0) rfl).sl (i := 0) rfl) (.t rfl) (.t rfl) Tryz.underlying24 Tryz.sizeOf38 (fun _ => by first | omega | (simp only [len_app, len_cons, len_nil]; omega) | (simp only [len_app, len_cons, len_nil] at *; omega))) rfl (RL.u (.fldA (q := ⟨sb v6, so v6 + (len ll : Int).toNat * 6 + 2, none⟩) (.t rfl) (fun w => by kernel_rfl)) rfl ?_))))))))
   refine RL.storeP (o := (len ll : Int).toNat * 6 + 2) (xs' := ((ll ++ at' xs k).set (len ll : Int).toNat { at' (ll ++ at' xs k) (len ll) with name := at' ns k }).flatMap Nd.cells) (Hs' := (.priv 38 6 v6 ((ll ++ at' xs k).set (len ll : Int).toNat { at' (ll ++ at' xs k) (len ll) with name := at' ns k }).length (((ll ++ at' xs k).set (len ll : Int).toNat { at' (ll ++ at' xs k) (len ll) with name := at' ns k }).flatMap Nd.cells) :: .own 38 6 (.slice none 0 0) (([] : List Nd)).length ((([] : List Nd)).flatMap Nd.cells) :: Rs)) hS8 (k := 0) rfl (.t rfl) (.t rfl) Tryz.sizeOf9 rfl rfl (by rw [flat_len Nd.cells 6 Nd.cells_len]; simp only [List.length_append]; unfold len at *; omega) rfl (splice_set (f := Nd.cells) (sz := 6) Nd.cells_len (ll ++ at' xs k) (len ll : Int).toNat { at' (ll ++ at' xs k) (len ll) with name := at' ns k } 2 [(str (at' ns k))] (by simp only [List.length_append]; unfold len at *; omega) rfl (Nat.le_of_ble_eq_true rfl)) (by rw [List.length_set]; rfl) (fun w9 hS10 => (RL.nil (CW.id ?_)))
   refine CW.region (RL.u (.add (.t rfl) .c (fun _ => by omega)) rfl (RL.m rfl rfl ?_))
   refine RL.nil fun a hs => Exists.intro ((k + 1, v6, (ll ++ at' xs k).set (len ll : Int).toNat { at' (ll ++ at' xs k) (len ll) with name := at' ns k })) ⟨hs.keep [0, 5, 13, 14, 15], ?_, ?_⟩
   ·refine ⟨hS10, hn, ha, hrow, ?_⟩
    exact ⟨by omega, by omega, by rw [set_name _ _ _ hxn, hll, laidTo_step hk0 (by omega) (by omega)]⟩
   ·show Int.toNat _ < Int.toNat _; omega
  ·refine CW.exit (CW.at [Y 5 vl] rfl ?_)
   refine CW.sr (RL.m rfl rfl (RL.a rfl rfl (RL.nil (CW.id (CW.ret (hE.r1 rfl rfl ?_))))))
   obtain ⟨M12, hS11, hle13⟩ := hS5.show (k := 0) rfl
   have hslr := (hS11.sl (i := 0) rfl)
   replace hS11 := (hS11.erase 1 rfl).erase 0 rfl
   obtain ⟨az, cz, hz⟩ := Sl.shape hslr
   have hke : k = len xs := by omega
   subst hke
   subst hll
   exact ⟨_, rfl, az, cz, M12, hz, hslr, hS11, hle13⟩

end Go.Proofs.YtjfaikgooldcbaaGreatDoor
