import Derived.Test.YthdialbnlnjgpaaGreatDoorEngL
import Derived.Laws.BitsLemmas
import Derived.Test.YthdialbnlnjgpaaGreatDoorPure
import Derived.Test.YthdialbnlnjgpaaGreatDoorProg
import Derived.Test.YthdialbnlnjgpaaGreatDoorL1
set_option linter.unusedVariables false
set_option linter.unusedSimpArgs false
namespace Go.Proofs.YthdialbnlnjgpaaGreatDoor
open Go.Eng

theorem setCell_list {w : World} {b : Nat} {cs : List Value} {t : TypeId} (i : Nat) (x : Value) (h : w.heap[b]? = some (.cells cs.toArray t (0, 0))) : w.setCell ⟨b, i, none⟩ x = w.setRow b (cs.set i x).toArray := by
  unfold World.setCell World.setRow
  congr 1
  apply Array.ext_getElem?
  intro k
  by_cases hk : b = k
  · subst hk; simp [Array.getElem?_modify, h]
  · simp [Array.getElem?_modify, hk]
theorem cell_list {w : World} {b : Nat} {cs : List Value} {t : TypeId} (h : w.heap[b]? = some (.cells cs.toArray t (0, 0))) (i : Nat) : w.cell? ⟨b, i, none⟩ = cs[i]? := by simp [World.cell?, h]
theorem frozen_list {w : World} {b : Nat} {cs : List Value} {t : TypeId} (h : w.heap[b]? = some (.cells cs.toArray t (0, 0))) (i : Nat) : w.frozen? ⟨b, i, none⟩ = false := by simp [World.frozen?, h]
/-- The marks: not laid yet; or laid. -/
def MarkOk (M : Mem) (cs : List Value) (X : HO) : Prop :=
  (cs = [.int .u32 0, .int .i32 0, .int .u32 0, .map none] ∧ X = .own 9 1 (.slice none 0 0) 0 []) ∨
  ∃ mb l c, cs = [.int .u32 1, .int .i32 0, .int .u32 0, .map (some mb)] ∧ X = .raw mb (mobj .u8 l c) ∧ MarkMap M l
theorem MarkMap.mono {M M' : Mem} {l : List KV} (h : MarkMap M l) (hm : M.le M') : MarkMap M' l := fun c => by obtain ⟨v, h1, h2⟩ := h c; exact ⟨v, h1, h2.mono hm⟩
theorem MarkOk.mono {M M' : Mem} {cs : List Value} {X : HO} (h : MarkOk M cs X) (hm : M.le M') : MarkOk M' cs X := h.imp id fun ⟨mb, l, c, h1, h2, h3⟩ => ⟨mb, l, c, h1, h2, MarkMap.mono h3 hm⟩
theorem do_c {w wv : World} {M0 M : Mem} {Rs : List HO} (pb b : Nat) (cs : List Value) (X : HO) (hS : St w M0 wv M (.box pb [.pointer (some ⟨b, 0, none⟩)] 72 :: .box b cs 51 :: X :: Rs)) (hm : MarkOk M cs X) (hg : Gl w) :
    Calls Tryz.prog 59 [.pointer (some ⟨b, 0, none⟩), .func (.func 60) #[] #[.pointer (some ⟨pb, 0, none⟩)]].toArray wv fun e w' => ∃ v, e = .returned v ∧ ∃ mb l c M', v = .tuple #[] ∧ MarkMap M' l ∧ St w M0 w' M' (.box pb [.pointer (some ⟨b, 0, none⟩)] 72 :: .box b [.int .u32 1, .int .i32 0, .int .u32 0, .map (some mb)] 51 :: .raw mb (mobj .u8 l c) :: Rs) ∧ M.le M' := by
  rcases hm with ⟨rfl, rfl⟩ | ⟨mb, l, c, rfl, rfl, hM⟩
  · have hb := (hS.obj (i := 1) rfl).2.1
    have hS1 : St w M0 (wv.setCell ⟨b, 1, none⟩ (.int .i32 1)) M (.box pb [.pointer (some ⟨b, 0, none⟩)] 72 :: .box b [.int .u32 0, .int .i32 1, .int .u32 0, .map none] 51 :: .own 9 1 (.slice none 0 0) 0 [] :: Rs) := by
      rw [setCell_list 1 _ hb]; exact hS.setBox (i := 1) rfl _
    have hS2 := hS1.erase 2 (Hs' := .box pb [.pointer (some ⟨b, 0, none⟩)] 72 :: .box b [.int .u32 0, .int .i32 1, .int .u32 0, .map none] 51 :: Rs) rfl
    refine (do_first 60 #[.pointer (some ⟨pb, 0, none⟩)] b wv (fun w1 => ∃ mb l c M', MarkMap M' l ∧ St w M0 w1 M' (.raw mb (mobj .u8 l c) :: .box pb [.pointer (some ⟨b, 0, none⟩)] 72 :: .box b [.int .u32 0, .int .i32 1, .int .u32 0, .map (some mb)] 51 :: Rs) ∧ M.le M') Tryz.call60 (by rw [cell_list hb]; rfl) (by rw [cell_list hb]; rfl) (frozen_list hb 1) ?_).mono ?_
    · refine (marks1_c pb b hS2 hg).mono ?_
      rintro e w' ⟨v, rfl, mb, l, c, M', rfl, h1, h2, h3⟩
      have hb' := (h2.obj (i := 2) rfl).2.1
      exact ⟨rfl, by rw [cell_list hb']; rfl, frozen_list hb' 0, by rw [cell_list hb']; rfl, frozen_list hb' 1, mb, l, c, M', h1, h2, h3⟩
    · rintro e w' ⟨rfl, w1, ⟨mb, l, c, M', h1, h2, h3⟩, _, _, _, _, rfl⟩
      refine ⟨_, rfl, mb, l, c, M', rfl, h1, ?_, h3⟩
      have h4 := h2.ext (Ext.drew w1)
      have hb4 := (h4.obj (i := 2) rfl).2.1
      rw [setCell_list 0 _ hb4]
      have h5 : St w M0 (w1.drew.setRow b [.int .u32 1, .int .i32 1, .int .u32 0, .map (some mb)].toArray) M' (.raw mb (mobj .u8 l c) :: .box pb [.pointer (some ⟨b, 0, none⟩)] 72 :: .box b [.int .u32 1, .int .i32 1, .int .u32 0, .map (some mb)] 51 :: Rs) := h4.setBox (i := 2) rfl _
      have hb5 := (h5.obj (i := 2) rfl).2.1
      show St w M0 ((w1.drew.setRow b [.int .u32 1, .int .i32 1, .int .u32 0, .map (some mb)].toArray).setCell ⟨b, 1, none⟩ (.int .i32 0)) M' _
      rw [setCell_list 1 _ hb5]
      have h6 : St w M0 ((w1.drew.setRow b [.int .u32 1, .int .i32 1, .int .u32 0, .map (some mb)].toArray).setRow b [.int .u32 1, .int .i32 0, .int .u32 0, .map (some mb)].toArray) M' (.raw mb (mobj .u8 l c) :: .box pb [.pointer (some ⟨b, 0, none⟩)] 72 :: .box b [.int .u32 1, .int .i32 0, .int .u32 0, .map (some mb)] 51 :: Rs) := h5.setBox (i := 2) rfl _
      exact (h6.front 1 rfl rfl).front 2 rfl rfl |>.front 1 rfl rfl
  · have hb := (hS.obj (i := 1) rfl).2.1
    refine (do_done ⟨b, 0, none⟩ 1 (by decide) _ wv (by rw [cell_list hb]; rfl)).mono ?_
    rintro e w' ⟨rfl, rfl⟩
    exact ⟨_, rfl, mb, l, c, M, rfl, hM, hS, Mem.le.refl _⟩
end Go.Proofs.YthdialbnlnjgpaaGreatDoor
