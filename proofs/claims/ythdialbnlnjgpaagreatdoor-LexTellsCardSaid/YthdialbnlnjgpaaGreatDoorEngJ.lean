/-
  THE ENGINE, PART 10: regions whose operations come in any order, each looked at once: of every operation a fact of what it hands back, said of any state in which the facts of those that it stands behind hold. Over any program.
-/
import Derived.Test.YthdialbnlnjgpaaGreatDoorEngI
set_option linter.unusedVariables false
set_option linter.unusedSimpArgs false
namespace Go.Eng
open Go.RowKit

def Sub (E LL : Env) : Prop := ∀ t x, look E t = some x → look LL t = some x
theorem Sub.nil {LL : Env} : Sub [] LL := fun _ _ h => by cases h
theorem Sub.refl {LL : Env} : Sub LL LL := fun _ _ h => h
theorem Sub.cons {E LL : Env} {t : Nat} {g : Bool} {v : Value} (h : look LL t = some (g, v)) (k : Sub E LL) : Sub ((t, g, v) :: E) LL := by
  intro t' x hx
  by_cases e : t = t'
  · subst e; rw [look_cons_eq] at hx; rw [h, hx]
  · rw [look_cons_ne e] at hx; exact k t' x hx
theorem slots_sub {N : Nat} {E LL : Env} {R : Act → Prop} (h : Sub E LL) (k : ∀ a, Slots a N E → R a) : ∀ a, Slots a N LL → R a :=
  fun a hs => k a ⟨hs.size, hs.dfr, fun t g v ht => hs.val t g v (h t (g, v) ht)⟩

structure Fact where
  holds : Mem → Bool → Value → Prop
  mono : ∀ {M M' : Mem} {g : Bool} {v : Value}, M.le M' → holds M g v → holds M' g v
def Fact.is (W : Bool) (x : Value) : Fact := ⟨fun _ g v => g = W ∧ v = x, fun _ h => h⟩
def Fact.sl (sz n : Nat) (cs : List Value) : Fact := ⟨fun M g v => g = true ∧ Sl M sz n v cs, fun h k => ⟨k.1, k.2.mono h⟩⟩
def Fact.any : Fact := ⟨fun _ _ _ => True, fun _ h => h⟩
def factAt (Fs : List Fact) (k : Nat) : Fact := (Fs[k]?).getD .any
def bindsOf (o : Oper) : List Nat := (o.after.toList.filter (fun e => Region.binds .any e)).map (·.on)
def dstOf (l : List Oper) (j : Nat) : Option Tmp := (l[j]?).bind (·.dst)
def keysOf (L : Env) : List Nat := L.map (·.1)
/-- Each operation stands behind earlier ones alone; each writes a slot of its own, which no other one, and nothing around, has. -/
def chkF (l : List Oper) (ks : List Nat) : Bool :=
  (List.range l.length).all (fun i => ((l[i]?).map (fun o => (bindsOf o).all (fun j => Nat.blt j i))).getD false) &&
  (List.range l.length).all (fun i => (List.range l.length).all (fun j => Nat.beq i j || (match dstOf l i, dstOf l j with | some a, some b => !(Nat.beq a b) | _, _ => true))) &&
  (List.range l.length).all (fun i => (match dstOf l i with | some a => ks.all (fun t => !(Nat.beq t a)) | none => true))
abbrev Dep (Fs : List Fact) (l : List Oper) (LL : Env) (M1 : Mem) (j : Nat) : Prop :=
  match dstOf l j with
  | some d => ∃ g v, look LL d = some (g, v) ∧ (factAt Fs j).holds M1 g v
  | none => True
abbrev AfterF (Fs : List Fact) (k : Nat) (o : Oper) (LL LL' : Env) (M2 : Mem) : Prop :=
  match o.dst with
  | some d => ∃ g v, LL' = (d, g, v) :: LL ∧ (factAt Fs k).holds M2 g v
  | none => LL' = LL
def OpOK (P : Program) (Q : Exit → Act → World → Prop) (N : Nat) (w0 : World) (M0 M : Mem) (Hs : List HO) (Fs : List Fact) (l : List Oper) (L : Env) (k : Nat) (o : Oper) : Prop :=
  ∀ LL w1 M1, M.le M1 → St w0 M0 w1 M1 Hs → Sub L LL → (∀ j ∈ bindsOf o, Dep Fs l LL M1 j) →
    RL P l.toArray (Qn (fun a' w' => ∃ LL' M2, M1.le M2 ∧ St w0 M0 w' M2 Hs ∧ Slots a' N LL' ∧ AfterF Fs k o LL LL' M2) Q) N [o] LL w1
def OpsOK (f : Nat → Oper → Prop) : Nat → List Oper → Prop
  | _, [] => True
  | k, o :: r => f k o ∧ OpsOK f (k + 1) r
theorem OpsOK.nil {f : Nat → Oper → Prop} {k : Nat} : OpsOK f k [] := trivial
theorem OpsOK.cons {f : Nat → Oper → Prop} {k : Nat} {o : Oper} {r : List Oper} (h : f k o) (h2 : OpsOK f (k + 1) r) : OpsOK f k (o :: r) := ⟨h, h2⟩
theorem OpsOK.get {f : Nat → Oper → Prop} : ∀ {r : List Oper} {k i : Nat} {o : Oper}, OpsOK f k r → r[i]? = some o → f (k + i) o
  | [], _, _, _, _, h => by simp at h
  | x :: r, k, 0, o, h, hi => by simp at hi; subst hi; exact h.1
  | x :: r, k, i + 1, o, h, hi => by
    have := OpsOK.get h.2 (show r[i]? = some o by simpa using hi)
    rw [show k + (i + 1) = k + 1 + i from by omega]; exact this
theorem putF {P : Program} {ops : Array Oper} {Q : Exit → Act → World → Prop} {a : Act} {w : World} {i : Nat} {o : Oper} (ho : ops[i]? = some o) {K K' : Act → World → Prop} (h : wpList P ops (Qn K Q) [o] a w) (hk : ∀ a w, K a w → K' a w) : wpOp P ops Q i K' a w := by
  unfold wpOp
  rw [ho]
  unfold wpList at h
  dsimp only
  split
  · rename_i hw
    rw [if_pos hw] at h
    rcases h with h | ⟨h1, h2⟩
    · exact .inl (Oper.wp_mono (fun a w hh => hk a w hh) (upon_qn _ h))
    · exact .inr ⟨h1, h2⟩
  · rename_i hw
    rw [if_neg hw] at h
    exact hk _ _ h
theorem CW.regionF {P : Program} {Q : Exit → Act → World → Prop} {N : Nat} {L : Env} {w0 w : World} {M0 M : Mem} {Hs : List HO} {id : Nat} {l : List Oper} (Fs : List Fact) (hS : St w0 M0 w M Hs) (hm : P.follows .mixedOrders = true) (ks : List Nat) (hks : keysOf L = ks) (hB : chkF l ks = true)
    (hop : OpsOK (OpOK P Q N w0 M0 M Hs Fs l L) 0 l)
    (hcont : ∀ w' M1 LL, M.le M1 → St w0 M0 w' M1 Hs → Sub L LL → (∀ j, j < l.length → Dep Fs l LL M1 j) → ∀ a, Slots a N LL → Q .normal a w') : CW P (.region id l.toArray true) Q N L w := by
  intro a hs
  refine wp_region_any hm ?_
  subst hks
  unfold chkF at hB
  simp only [Bool.and_eq_true] at hB
  obtain ⟨⟨hac, hdd⟩, hbd⟩ := hB
  have acyc : ∀ i o, l[i]? = some o → ∀ j ∈ bindsOf o, j < i := by
    intro i o ho j hj
    have hlt : i < l.length := (List.getElem?_eq_some_iff.1 ho).1
    have := List.all_eq_true.1 hac i (List.mem_range.2 hlt)
    rw [ho] at this
    simp only [Option.map_some, Option.getD_some] at this
    exact Nat.le_of_ble_eq_true (List.all_eq_true.1 this j hj)
  have dist : ∀ i j a b, dstOf l i = some a → dstOf l j = some b → i ≠ j → a ≠ b := by
    intro i j a b hi hj hij
    have h1 : i < l.length := by
      rcases Nat.lt_or_ge i l.length with h | h
      · exact h
      · simp [dstOf, h] at hi
    have h2 : j < l.length := by
      rcases Nat.lt_or_ge j l.length with h | h
      · exact h
      · simp [dstOf, h] at hj
    have := List.all_eq_true.1 (List.all_eq_true.1 hdd i (List.mem_range.2 h1)) j (List.mem_range.2 h2)
    rw [hi, hj] at this
    simp only [Bool.or_eq_true, Bool.not_eq_true'] at this
    rcases this with h | h
    · exact absurd (Nat.eq_of_beq_eq_true h) hij
    · intro e; subst e; simp at h
  have base : ∀ i a x, dstOf l i = some a → look L a = some x → False := by
    intro i a x hi hx
    have h1 : i < l.length := by
      rcases Nat.lt_or_ge i l.length with h | h
      · exact h
      · simp [dstOf, h] at hi
    have := List.all_eq_true.1 hbd i (List.mem_range.2 h1)
    rw [hi] at this
    have key : ∀ (L : Env), (keysOf L).all (fun t => !(Nat.beq t a)) = true → look L a = none := by
      intro L
      induction L with
      | nil => intro _; rfl
      | cons y L ih =>
        obtain ⟨t, g, v⟩ := y
        intro h
        simp only [keysOf, List.map_cons, List.all_cons, Bool.and_eq_true, Bool.not_eq_true'] at h
        have hne : t ≠ a := by intro e; subst e; simp at h
        rw [look_cons_ne hne]; exact ih h.2
    rw [key L this] at hx; cases hx
  -- the state, along any order
  let Inv : Array Bool → Act → World → Prop := fun listed a w' => ∃ LL M1, M.le M1 ∧ St w0 M0 w' M1 Hs ∧ Sub L LL ∧ Slots a N LL ∧ ∀ j, listed.getD j false = true → Dep Fs l LL M1 j
  have hend : ∀ listed a w', Inv listed a w' → listed.size = l.length → Region.ready .any l.toArray listed = [] → Q .normal a w' := by
    rintro listed a w' ⟨LL, M1, h1, h2, h3, h4, h5⟩ hsz hr
    have all : ∀ i, i < l.length → listed.getD i true = true := by
      intro i
      induction i using Nat.strongRecOn with
      | _ i ih =>
        intro hi
        cases hli : listed.getD i true with
        | true => rfl
        | false =>
          exfalso
          have : i ∈ Region.ready .any l.toArray listed := by
            unfold Region.ready
            refine List.mem_filter.2 ⟨List.mem_range.2 (by simpa using hi), ?_⟩
            have ho : l.toArray[i]? = some l[i] := by simp [hi]
            rw [hli, ho]
            simp only [Bool.not_false, Bool.true_and, Option.map_some, Option.getD_some]
            rw [Array.all_eq_true_iff_forall_mem]
            intro e he
            by_cases hb : Region.binds .any e = true
            · have hlt := acyc i l[i] (by simp [hi]) e.on (List.mem_map.2 ⟨e, List.mem_filter.2 ⟨by simpa using he, hb⟩, rfl⟩)
              have := ih e.on hlt (by omega)
              have hs' : e.on < listed.size := by omega
              simp [Array.getD, hs'] at this ⊢
              right; exact this
            · simp [hb]
          rw [hr] at this; cases this
    refine hcont w' M1 LL h1 h2 h3 (fun j hj => h5 j ?_) a h4
    have := all j hj
    have hs' : j < listed.size := by omega
    simpa [Array.getD, hs'] using this
  let cnt : Array Bool → Nat := fun b => (b.toList.filter (fun x => !x)).length
  have cset : ∀ (b : Array Bool) (i : Nat), i < b.size → b.getD i true = false → cnt (b.setIfInBounds i true) + 1 ≤ cnt b := by
    intro b i hi hb
    have key : ∀ (m : List Bool) (i : Nat), m[i]? = some false → ((m.set i true).filter (fun x => !x)).length + 1 = (m.filter (fun x => !x)).length := by
      intro m
      induction m with
      | nil => intro i h; simp at h
      | cons x m ih =>
        intro i h
        cases i with
        | zero => simp at h; subst h; simp
        | succ i =>
          have := ih i (by simpa using h)
          cases x <;> simp [List.set_cons_succ, List.filter_cons] <;> omega
    have hb' : b.toList[i]? = some false := by
      simp [Array.getD, hi] at hb
      simp [hi, hb]
    have := key b.toList i hb'
    simp only [cnt, Array.toList_setIfInBounds]
    omega
  have main : ∀ fuel listed a w', Inv listed a w' → listed.size = l.length → cnt listed ≤ fuel → wpAny P .any l.toArray Q fuel listed a w' := by
    intro fuel
    induction fuel with
    | zero =>
      intro listed a w' hI hsz hc
      have hr : Region.ready .any l.toArray listed = [] := by
        refine List.eq_nil_iff_forall_not_mem.2 fun i hi => ?_
        unfold Region.ready at hi
        have h2 := (List.mem_filter.1 hi).2
        have h1 := List.mem_range.1 (List.mem_filter.1 hi).1
        simp only [Bool.and_eq_true, Bool.not_eq_true'] at h2
        have := cset listed i (by simp at h1; omega) h2.1
        omega
      exact ⟨hr, hend listed a w' hI hsz hr⟩
    | succ fuel ih =>
      intro listed a w' hI hsz hc
      refine ⟨fun hr => hend listed a w' hI hsz hr, fun i hi => ?_⟩
      unfold Region.ready at hi
      have h2 := (List.mem_filter.1 hi).2
      have h1 : i < l.length := by simpa using List.mem_range.1 (List.mem_filter.1 hi).1
      have ho : l.toArray[i]? = some l[i] := by simp [h1]
      have ho' : l[i]? = some l[i] := by simp [h1]
      rw [ho] at h2
      simp only [Bool.and_eq_true, Bool.not_eq_true', Option.map_some, Option.getD_some] at h2
      obtain ⟨LL, M1, g1, g2, g3, g4, g5⟩ := hI
      have hdep : ∀ j ∈ bindsOf l[i], Dep Fs l LL M1 j := by
        intro j hj
        obtain ⟨e, he, rfl⟩ := List.mem_map.1 hj
        have he' := List.mem_filter.1 he
        have := (Array.all_eq_true_iff_forall_mem.1 h2.2) e (by simpa using he'.1)
        rw [he'.2] at this
        exact g5 _ (by simpa using this)
      have hk := OpsOK.get hop ho'
      rw [Nat.zero_add] at hk
      refine putF (K := fun a' w' => ∃ LL' M2, M1.le M2 ∧ St w0 M0 w' M2 Hs ∧ Slots a' N LL' ∧ AfterF Fs i l[i] LL LL' M2) ho (hk LL w' M1 g1 g2 g3 hdep a g4) ?_
      rintro a' w'' ⟨LL', M2, k1, k2, k3, k4⟩
      refine ih _ a' w'' ⟨LL', M2, g1.trans k1, k2, ?_, k3, ?_⟩ (by simp [hsz]) (by have := cset listed i (by omega) h2.1; omega)
      · intro t x ht
        unfold AfterF at k4
        cases hd : (l[i]).dst with
        | none => rw [hd] at k4; subst k4; exact g3 t x ht
        | some d =>
          rw [hd] at k4
          obtain ⟨g, v, rfl, _⟩ := k4
          have hne : d ≠ t := by
            intro e; subst e
            exact base i d x (by simp [dstOf, h1, hd]) ht
          rw [look_cons_ne hne]; exact g3 t x ht
      · intro j hj
        by_cases hji : j = i
        · subst hji
          unfold Dep
          unfold AfterF at k4
          cases hd : (l[j]).dst with
          | none => simp [dstOf, h1, hd]
          | some d =>
            rw [hd] at k4
            obtain ⟨g, v, rfl, hv⟩ := k4
            simp only [dstOf, ho', Option.bind_some, hd]
            exact ⟨g, v, look_cons_eq _ _ _ _, hv⟩
        · have hj' : listed.getD j false = true := by
            rw [Array.getD_eq_getD_getElem?, Array.getElem?_setIfInBounds_ne (Ne.symm hji), ← Array.getD_eq_getD_getElem?] at hj
            exact hj
          have hold := g5 j hj'
          unfold Dep at hold ⊢
          cases hdj : dstOf l j with
          | none => trivial
          | some dj =>
            rw [hdj] at hold
            obtain ⟨g, v, hl, hv⟩ := hold
            dsimp only
            refine ⟨g, v, ?_, (factAt Fs j).mono k1 hv⟩
            unfold AfterF at k4
            cases hd : (l[i]).dst with
            | none => rw [hd] at k4; subst k4; exact hl
            | some d =>
              rw [hd] at k4
              obtain ⟨g', v', rfl, _⟩ := k4
              have hne : d ≠ dj := dist i j d dj (by simp [dstOf, h1, hd]) hdj (Ne.symm hji)
              rw [look_cons_ne hne]; exact hl
  refine main _ _ a _ ⟨L, M, Mem.le.refl _, hS.ext (Ext.drew w), Sub.refl, hs, ?_⟩ (by simp) ?_
  · intro j hj
    exfalso
    rcases Nat.lt_or_ge j l.length with h | h
    · simp [Array.getD, h] at hj
    · simp [Array.getD, h] at hj
  · have : cnt (Array.replicate l.toArray.size false) ≤ l.toArray.size := by
      simp only [cnt, Array.toList_replicate]
      have := List.length_filter_le (fun x : Bool => !x) (List.replicate l.toArray.size false)
      simp
    simpa using this
end Go.Eng
