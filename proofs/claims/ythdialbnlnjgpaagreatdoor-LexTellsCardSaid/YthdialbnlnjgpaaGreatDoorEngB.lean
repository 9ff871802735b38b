/-
  THE ENGINE, PART 2: memory. 'Mem': what is read and never written again, as a part of the world; 'St': a call's own memory beside it: boxes and rows that it appends to; what each operation does to both. Over any program.
-/
import Derived.Test.YthdialbnlnjgpaaGreatDoorEng
set_option linter.unusedVariables false
set_option linter.unusedSimpArgs false
namespace Go.Eng
open Go.RowKit

abbrev Mem := Nat → Nat → Option Value
abbrev Ext (w w' : World) : Prop := Below w.heap.size w w'
theorem Ext.refl (w : World) : Ext w w := Below.refl _ _
theorem Ext.trans {a b c : World} (h : Ext a b) (k : Ext b c) : Ext a c := Below.trans h (Below.mono k h.size)
theorem Ext.alloc (w : World) (o : Obj) : Ext w (w.alloc o) := (Below.refl _ _).alloc (Nat.le_refl _) o
theorem Ext.drew (w : World) : Ext w w.drew := (Below.refl _ _).drew
theorem lt_of_cell {w : World} {b o : Nat} {v : Value} (h : w.cell? ⟨b, o, none⟩ = some v) : b < w.heap.size := by
  rcases Nat.lt_or_ge b w.heap.size with h' | h'
  · exact h'
  · simp [World.cell?, h'] at h
structure Sat (w : World) (M : Mem) : Prop where
  cell : ∀ b o v, M b o = some v → w.cell? ⟨b, o, none⟩ = some v
theorem Sat.lt {w : World} {M : Mem} (h : Sat w M) {b o : Nat} {v : Value} (hv : M b o = some v) : b < w.heap.size := lt_of_cell (h.cell b o v hv)
theorem Sat.ext {w w' : World} {M : Mem} (h : Sat w M) (e : Ext w w') : Sat w' M :=
  ⟨fun b o v hv => (e.cell (p := ⟨b, o, none⟩) (h.lt hv)).trans (h.cell b o v hv)⟩
/-- What a callee leaves: all that was there as it was; what is read, and more. -/
structure Grow (w : World) (M : Mem) (w' : World) (M' : Mem) : Prop where
  ext : Ext w w'
  sat : Sat w' M'
  old : ∀ b o, b < w.heap.size → M' b o = M b o
def Mem.le (M M' : Mem) : Prop := ∀ b o v, M b o = some v → M' b o = some v
theorem Mem.le.refl (M : Mem) : M.le M := fun _ _ _ h => h
theorem Mem.le.trans {M N K : Mem} (h : M.le N) (k : N.le K) : M.le K := fun b o v hv => k b o v (h b o v hv)
theorem Grow.le {w w' : World} {M M' : Mem} (g : Grow w M w' M') (hs : Sat w M) : M.le M' := fun b o v h => (g.old b o (hs.lt h)).trans h
theorem Grow.of_ext {w w' : World} {M : Mem} (hs : Sat w M) (e : Ext w w') : Grow w M w' M := ⟨e, hs.ext e, fun _ _ _ => rfl⟩
theorem Grow.trans {w w' w'' : World} {M M' M'' : Mem} (g : Grow w M w' M') (k : Grow w' M' w'' M'') : Grow w M w'' M'' :=
  ⟨g.ext.trans k.ext, k.sat, fun b o hb => (k.old b o (Nat.lt_of_lt_of_le hb g.ext.size)).trans (g.old b o hb)⟩

/-! ### A call's own memory -/
inductive HO where
  | box (b : Nat) (cs : List Value) (t : TypeId)
  | own (e : TypeId) (sz : Nat) (v : Value) (n : Nat) (xs : List Value)
  | raw (b : Nat) (o : Obj)
def HO.blk : HO → Option Nat
  | .box b _ _ => some b
  | .own _ _ v _ _ => v.ownBlock
  | .raw b _ => some b
def HO.ok (base : Nat) (w : World) (M : Mem) : HO → Prop
  | .box b cs t => base ≤ b ∧ w.heap[b]? = some (.cells cs.toArray t (0, 0)) ∧ ∀ o, M b o = none
  | .own e sz v n xs => w.ownsRow base e sz v n xs ∧ ∀ b, v.ownBlock = some b → (∀ o, o < xs.length → M b o = xs[o]?) ∧ (∀ o, xs.length ≤ o → M b o = none)
  | .raw b o => base ≤ b ∧ w.heap[b]? = some o ∧ ∀ o', M b o' = none
structure St (w0 : World) (M0 : Mem) (w : World) (M : Mem) (Hs : List HO) : Prop where
  low : Below w0.heap.size w0 w
  sat : Sat w M
  old : ∀ b o, b < w0.heap.size → M b o = M0 b o
  ok : ∀ x ∈ Hs, x.ok w0.heap.size w M
  apart : Hs.Pairwise (fun x y => ∀ b, x.blk = some b → y.blk ≠ some b)

theorem ownsRow_heap {w w' : World} {base : Nat} {e : TypeId} {sz n : Nat} {v : Value} {xs : List Value} (h : w.ownsRow base e sz v n xs) (hb : ∀ b, v.ownBlock = some b → w'.heap[b]? = w.heap[b]?) : w'.ownsRow base e sz v n xs := by
  obtain ⟨h1, h2⟩ := h
  refine ⟨h1, ?_⟩
  rcases h2 with h2 | ⟨g, cap, cur, hv, hg, hh, r⟩
  · exact .inl h2
  · exact .inr ⟨g, cap, cur, hv, hg, by rw [hb g (by rw [hv]; rfl)]; exact hh, r⟩
theorem HO.ok_heap {base : Nat} {w w' : World} {M M' : Mem} {x : HO} (h : x.ok base w M) (hb : ∀ b, x.blk = some b → w'.heap[b]? = w.heap[b]?) (hm : ∀ b, x.blk = some b → ∀ o, M' b o = M b o) : x.ok base w' M' := by
  cases x with
  | box b cs t => exact ⟨h.1, (hb b rfl).trans h.2.1, fun o => (hm b rfl o).trans (h.2.2 o)⟩
  | own e sz v n xs => exact ⟨ownsRow_heap h.1 hb, fun b hv => ⟨fun o ho => (hm b hv o).trans ((h.2 b hv).1 o ho), fun o ho => (hm b hv o).trans ((h.2 b hv).2 o ho)⟩⟩
  | raw b o => exact ⟨h.1, (hb b rfl).trans h.2.1, fun o => (hm b rfl o).trans (h.2.2 o)⟩
theorem HO.ok.lt {base : Nat} {w : World} {M : Mem} {x : HO} (h : x.ok base w M) {b : Nat} (hb : x.blk = some b) : base ≤ b ∧ b < w.heap.size := by
  cases x with
  | box b' cs t =>
    simp only [HO.blk, Option.some.injEq] at hb; subst hb
    refine ⟨h.1, ?_⟩
    rcases Nat.lt_or_ge b' w.heap.size with h' | h'
    · exact h'
    · have := h.2.1; simp [h'] at this
  | own e sz v n xs => exact World.ownsRow.lt h.1 b hb
  | raw b' o =>
    simp only [HO.blk, Option.some.injEq] at hb; subst hb
    refine ⟨h.1, ?_⟩
    rcases Nat.lt_or_ge b' w.heap.size with h' | h'
    · exact h'
    · have := h.2.1; simp [h'] at this

theorem cons_erase_perm {α : Type} : ∀ (l : List α) (i : Nat) (h : i < l.length), (l[i] :: l.eraseIdx i).Perm l
  | [], _, h => by simp at h
  | x :: l, 0, _ => by simp
  | x :: l, i + 1, h => by
    simp only [List.getElem_cons_succ, List.eraseIdx_cons_succ]
    exact (List.Perm.swap x _ _).trans ((cons_erase_perm l i (by simpa using h)).cons x)
section st
variable {w0 w w' : World} {M0 M M' : Mem} {Hs : List HO}
theorem St.start (hs : Sat w M) : St w M w M [] := ⟨Below.refl _ _, hs, fun _ _ _ => rfl, fun _ h => (List.not_mem_nil h).elim, .nil⟩
theorem St.size (h : St w0 M0 w M Hs) : w0.heap.size ≤ w.heap.size := h.low.size
theorem St.ext (h : St w0 M0 w M Hs) (e : Ext w w') : St w0 M0 w' M Hs :=
  ⟨h.low.trans (e.mono h.size), h.sat.ext e, h.old, fun x hx => HO.ok_heap (h.ok x hx) (fun _ hb => e.block _ (HO.ok.lt (h.ok x hx) hb).2) (fun _ _ _ => rfl), h.apart⟩
theorem St.grow (h : St w0 M0 w M Hs) (g : Grow w M w' M') : St w0 M0 w' M' Hs :=
  ⟨h.low.trans (g.ext.mono h.size), g.sat, fun b o hb => (g.old b o (Nat.lt_of_lt_of_le hb h.size)).trans (h.old b o hb), fun x hx => HO.ok_heap (h.ok x hx) (fun _ hb => g.ext.block _ (HO.ok.lt (h.ok x hx) hb).2) (fun _ hb o => g.old _ o (HO.ok.lt (h.ok x hx) hb).2), h.apart⟩
/-- At the end: what the caller sees. -/
theorem St.done (h : St w0 M0 w M Hs) : Grow w0 M0 w M := ⟨h.low, h.sat, h.old⟩
theorem St.obj (h : St w0 M0 w M Hs) {i : Nat} {x : HO} (hi : Hs[i]? = some x) : x.ok w0.heap.size w M := h.ok x (List.mem_of_getElem? hi)
theorem St.none_of_new (h : St w0 M0 w M Hs) {b : Nat} (hb : w.heap.size ≤ b) (o : Nat) : M b o = none := by
  cases e : M b o with
  | none => rfl
  | some v => have := h.sat.lt e; omega
theorem heap_alloc_new (w : World) (o : Obj) : (w.alloc o).heap[w.heap.size]? = some o := by
  show (w.heap.push o)[w.heap.size]? = some o
  simp
theorem St.newBox (h : St w0 M0 w M Hs) (cs : List Value) (t : TypeId) : St w0 M0 (w.alloc (.cells cs.toArray t)) M (.box w.heap.size cs t :: Hs) := by
  have h1 := h.ext (Ext.alloc w (.cells cs.toArray t))
  refine ⟨h1.low, h1.sat, h1.old, fun x hx => ?_, List.pairwise_cons.2 ⟨fun y hy b hb => ?_, h.apart⟩⟩
  · rcases List.mem_cons.1 hx with rfl | hx
    · exact ⟨h.size, heap_alloc_new _ _, fun o => h.none_of_new (Nat.le_refl _) o⟩
    · exact h1.ok x hx
  · simp only [HO.blk, Option.some.injEq] at hb; subst hb
    intro hy'
    have := (HO.ok.lt (h.ok y hy) hy').2
    omega
theorem heap_setRow_self (w : World) (g : Nat) (cs old : Array Value) (t : TypeId) (fz : Nat × Nat) (h : w.heap[g]? = some (.cells old t fz)) : (w.setRow g cs).heap[g]? = some (.cells cs t fz) := by
  simp [World.setRow, Array.getElem?_modify, h]
theorem heap_setRow_ne (w : World) (g k : Nat) (cs : Array Value) (h : k ≠ g) : (w.setRow g cs).heap[k]? = w.heap[k]? := by
  simp only [World.setRow, Array.getElem?_modify]
  rw [if_neg (by omega)]
theorem size_setRow (w : World) (g : Nat) (cs : Array Value) : (w.setRow g cs).heap.size = w.heap.size := by simp [World.setRow]
theorem below_setRow {B : Nat} {w : World} {g : Nat} (cs : Array Value) (hg : B ≤ g) : Below B w (w.setRow g cs) :=
  ⟨rfl, rfl, rfl, by rw [size_setRow]; exact Nat.le_refl _, fun k hk => heap_setRow_ne _ _ _ _ (by omega)⟩
theorem apart_at {Hs : List HO} (h : Hs.Pairwise (fun x y => ∀ b, x.blk = some b → y.blk ≠ some b)) {i j : Nat} {x y : HO} (hi : Hs[i]? = some x) (hj : Hs[j]? = some y) (hij : i ≠ j) : ∀ b, x.blk = some b → y.blk ≠ some b := by
  rw [List.pairwise_iff_getElem] at h
  have hi' := List.getElem?_eq_some_iff.1 hi
  have hj' := List.getElem?_eq_some_iff.1 hj
  obtain ⟨li, ei⟩ := hi'
  obtain ⟨lj, ej⟩ := hj'
  rcases Nat.lt_or_gt_of_ne hij with hlt | hlt
  · have := h i j li lj hlt; rw [ei, ej] at this; exact this
  · have := h j i lj li hlt; rw [ei, ej] at this
    intro b hb hb'; exact this b hb' hb
/-- One object is written: all else as it was. -/
theorem St.write (h : St w0 M0 w M Hs) {i : Nat} {x x' : HO} (hi : Hs[i]? = some x) (hw : Below w0.heap.size w w') (hsat : Sat w' M') (hold : ∀ b o, b < w0.heap.size → M' b o = M b o)
    (hheap : ∀ b, b < w.heap.size → x.blk ≠ some b → w'.heap[b]? = w.heap[b]?) (hmem : ∀ b, b < w.heap.size → x.blk ≠ some b → ∀ o, M' b o = M b o)
    (hx' : x'.ok w0.heap.size w' M') (hblk : ∀ b, x'.blk = some b → x.blk = some b ∨ w.heap.size ≤ b) : St w0 M0 w' M' (Hs.set i x') := by
  have hlt : i < Hs.length := (List.getElem?_eq_some_iff.1 hi).1
  have hother : ∀ j y, (Hs.set i x')[j]? = some y → j ≠ i → Hs[j]? = some y := fun j y hj hne => by
    rwa [List.getElem?_set_ne (Ne.symm hne)] at hj
  have hself : (Hs.set i x')[i]? = some x' := by simp [hlt]
  refine ⟨h.low.trans hw, hsat, fun b o hb => (hold b o hb).trans (h.old b o hb), fun y hy => ?_, ?_⟩
  · obtain ⟨j, hj⟩ := List.getElem?_of_mem hy
    by_cases hji : j = i
    · subst hji; rw [hself] at hj; cases hj; exact hx'
    · have hj' := hother j y hj hji
      have hap := apart_at h.apart hj' hi hji
      have hyok := h.obj hj'
      exact HO.ok_heap hyok (fun b hb => hheap b (HO.ok.lt hyok hb).2 (fun hx => hap b hb hx)) (fun b hb o => hmem b (HO.ok.lt hyok hb).2 (fun hx => hap b hb hx) o)
  · rw [List.pairwise_iff_getElem]
    intro j k lj lk hjk b hbj hbk
    have ej : (Hs.set i x')[j]? = some (Hs.set i x')[j] := List.getElem?_eq_getElem lj
    have ek : (Hs.set i x')[k]? = some (Hs.set i x')[k] := List.getElem?_eq_getElem lk
    by_cases h1 : j = i
    · subst h1
      have ek' := hother k _ ek (by omega)
      have e1 : (Hs.set j x')[j] = x' := by simp
      rw [e1] at hbj
      rcases hblk b hbj with h2 | h2
      · exact apart_at h.apart hi ek' (by omega) b h2 hbk
      · have := (HO.ok.lt (h.obj ek') hbk).2; omega
    · have ej' := hother j _ ej h1
      by_cases h2 : k = i
      · subst h2
        have e1 : (Hs.set k x')[k] = x' := by simp
        rw [e1] at hbk
        rcases hblk b hbk with h3 | h3
        · exact apart_at h.apart ej' hi h1 b hbj h3
        · have := (HO.ok.lt (h.obj ej') hbj).2; omega
      · exact apart_at h.apart ej' (hother k _ ek h2) (by omega) b hbj hbk
/-- A box is written. -/
theorem St.setBox (h : St w0 M0 w M Hs) {i b : Nat} {cs : List Value} {t : TypeId} (hi : Hs[i]? = some (.box b cs t)) (cs' : List Value) : St w0 M0 (w.setRow b cs'.toArray) M (Hs.set i (.box b cs' t)) := by
  obtain ⟨h1, h2, h3⟩ := h.obj hi
  have hlt := (HO.ok.lt (h.obj hi) rfl).2
  refine h.write hi (below_setRow _ h1) ⟨fun b' o v hv => ?_⟩ (fun _ _ _ => rfl) (fun k _ hk => heap_setRow_ne _ _ _ _ (fun e => hk (by rw [e]; rfl))) (fun _ _ _ _ => rfl) ⟨h1, heap_setRow_self _ _ _ _ _ _ h2, h3⟩ (fun _ hb => .inl hb)
  have hne : b' ≠ b := fun e => by rw [e, h3 o] at hv; cases hv
  have := h.sat.cell b' o v hv
  simp only [World.cell?, heap_setRow_ne _ _ _ _ hne] at this ⊢
  exact this
/-- Objects that are no longer asked about. -/
theorem St.drop (h : St w0 M0 w M Hs) (Hs' : List HO) (hsub : Hs'.Sublist Hs) : St w0 M0 w M Hs' := ⟨h.low, h.sat, h.old, fun x hx => h.ok x (hsub.subset hx), h.apart.sublist hsub⟩
/-- An object of any kind: new; in another state. -/
theorem St.newRaw (h : St w0 M0 w M Hs) (o : Obj) : St w0 M0 (w.alloc o) M (.raw w.heap.size o :: Hs) := by
  have h1 := h.ext (Ext.alloc w o)
  refine ⟨h1.low, h1.sat, h1.old, fun x hx => ?_, List.pairwise_cons.2 ⟨fun y hy b hb => ?_, h.apart⟩⟩
  · rcases List.mem_cons.1 hx with rfl | hx
    · exact ⟨h.size, heap_alloc_new _ _, fun o => h.none_of_new (Nat.le_refl _) o⟩
    · exact h1.ok x hx
  · simp only [HO.blk, Option.some.injEq] at hb; subst hb
    intro hy'
    have := (HO.ok.lt (h.ok y hy) hy').2
    omega
def setObjAt (w : World) (b : Nat) (o : Obj) : World := { w with heap := w.heap.setIfInBounds b o }
theorem St.setRaw (h : St w0 M0 w M Hs) {i b : Nat} {o : Obj} (hi : Hs[i]? = some (.raw b o)) (o' : Obj) : St w0 M0 (setObjAt w b o') M (Hs.set i (.raw b o')) := by
  obtain ⟨h1, h2, h3⟩ := h.obj hi
  have hlt := (HO.ok.lt (h.obj hi) rfl).2
  have hne : ∀ k, k ≠ b → (setObjAt w b o').heap[k]? = w.heap[k]? := fun k hk => by simp [setObjAt, Array.getElem?_setIfInBounds_ne (Ne.symm hk)]
  refine h.write hi ⟨rfl, rfl, rfl, by simp [setObjAt], fun k hk => hne k (by omega)⟩ ⟨fun b' o v hv => ?_⟩ (fun _ _ _ => rfl) (fun k _ hk => hne k (fun e => hk (by rw [e]; rfl))) (fun _ _ _ _ => rfl) ⟨h1, by simp [setObjAt, hlt], h3⟩ (fun _ hb => .inl hb)
  have hb : b' ≠ b := fun e => by rw [e, h3 o] at hv; cases hv
  have := h.sat.cell b' o v hv
  simp only [World.cell?, hne b' hb] at this ⊢
  exact this
theorem St.perm (h : St w0 M0 w M Hs) {Hs' : List HO} (hp : Hs'.Perm Hs) : St w0 M0 w M Hs' :=
  ⟨h.low, h.sat, h.old, fun x hx => h.ok x (hp.mem_iff.1 hx), (hp.pairwise_iff (fun {x y} hxy b hb hb' => hxy b hb' hb)).2 h.apart⟩
theorem St.front (h : St w0 M0 w M Hs) (i : Nat) {x : HO} {Hs' : List HO} (hi : Hs[i]? = some x) (he : x :: Hs.eraseIdx i = Hs') : St w0 M0 w M Hs' := by
  subst he
  obtain ⟨hl, e⟩ := List.getElem?_eq_some_iff.1 hi
  subst e
  exact h.perm (cons_erase_perm Hs i hl)
theorem St.erase (h : St w0 M0 w M Hs) (i : Nat) {Hs' : List HO} (he : Hs.eraseIdx i = Hs') : St w0 M0 w M Hs' := h.drop Hs' (he ▸ List.eraseIdx_sublist _ _)
end st
end Go.Eng
