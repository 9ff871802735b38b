/-
  Lists in lists: plain. No program in it.
-/
import Derived.Test.YtjfaikgooldcbaaGreatDoorZd21
import Derived.Test.YtjfaikgooldcbaaGreatDoorZd4
import Derived.Laws.BitsLemmas
import Derived.Test.YtjfaikgooldcbaaGreatDoorZd3
import Derived.Test.YtjfaikgooldcbaaGreatDoorProg
import Derived.Test.YtjfaikgooldcbaaGreatDoorZd18
import Derived.Test.YtjfaikgooldcbaaGreatDoorZd20
set_option linter.unusedVariables false
set_option linter.unusedSimpArgs false
namespace Go.Eng
open Go.RowKit

/-- A text of a good value, blanks around it, is read as it. -/
theorem parse_prt {t : Tr} (hg : t.good) {ln : Bool} {b1 b2 : Str} (h1 : ∀ c ∈ b1, isBlankB c = true) (h2 : ∀ c ∈ b2, isBlankB c = true) (hd : depthT t ≤ 128) (hz : t.size ≤ len (prt ln 0 t)) : parseT (b1 ++ (prt ln 0 t ++ b2)) = ((t.named []).flat, 0, 0) := by
  have ha : At (b1 ++ (prt ln 0 t ++ b2)) 0 (b1 ++ (prt ln 0 t ++ b2)) := ⟨Int.le_refl _, len_nonneg _, rfl⟩
  obtain ⟨c, q, hc, hh⟩ := prt_head (ln := ln) (d := 0) hg
  have hb := At.blank ha h1 (by rw [hc]; exact stop_head hh)
  have ha2 := At.add ha
  have hnum : okEnd b2 := by
    intro x y e
    have hx := h2 x (by rw [e]; exact List.mem_cons_self)
    have key : ∀ n : Fin 256, isBlankB (n.val).toUInt8 = true → isNumB (n.val).toUInt8 = false := by decide +kernel
    have := key ⟨x.toNat, x.toNat_lt⟩
    simpa using this (by simpa using hx)
  have hl : (2 * (b1 ++ (prt ln 0 t ++ b2)).length + 2 : Int) = 2 * (len b1 + (len (prt ln 0 t) + len b2)) + 2 := by unfold len; simp only [List.length_append]; omega
  have hb1 := len_nonneg b1; have hb2 := len_nonneg b2
  have hv := val_prt hg (f := 2 * (b1 ++ (prt ln 0 t ++ b2)).length + 2) ha2 hnum (Int.le_refl 0) (by omega) (by omega)
  unfold parseT
  rw [hb, hv]
  dsimp only
  have ha3 := At.add ha2
  have ha4 : At (b1 ++ (prt ln 0 t ++ b2)) (0 + len b1 + len (prt ln 0 t)) (b2 ++ []) := by rw [List.append_nil]; exact ha3
  rw [At.blank ha4 h2 (fun x y e => by cases e), if_neg]
  simp only [len_app]; omega
theorem parse_self {t : Tr} (hg : t.good) (hn : t.node.name = []) {ln : Bool} (hd : depthT t ≤ 128) (hz : t.size ≤ len (prt ln 0 t)) : parseT (prt ln 0 t) = (t.flat, 0, 0) := by
  have := parse_prt hg (ln := ln) (b1 := []) (b2 := []) (fun c h => by cases h) (fun c h => by cases h) hd hz
  rw [List.nil_append, List.append_nil] at this
  rw [this]
  obtain ⟨n, ps⟩ := t
  have hn : n.name = [] := hn
  show ((Tr.mk { n with name := [] } ps).flat, _, _) = _
  rw [← hn]
mutual
theorem prt_flat0 : (d : Int) → (t : Tr) → prt false d t = prt false 0 t
  | d, .mk n ps => by rw [prt, prt, prtL_flat0 d, prtL_flat0 0]; rfl
theorem prtL_flat0 : (d : Int) → (ob f : Bool) → (ts : List Tr) → prtL false d ob f ts = prtL false 0 ob f ts
  | d, ob, f, [] => by rw [prtL, prtL]
  | d, ob, f, t :: ts => by rw [prtL, prtL, prt_flat0 (d + 1) t, prt_flat0 (0 + 1) t, prtL_flat0 d ob false ts]; rfl
end
def nestT : Nat → Tr → Tr
  | 0, t => t
  | n + 1, t => .mk ⟨5, 1, [], [], false, 0⟩ [nestT n t]
def nestS (k : Nat) (x : Str) : Str := List.replicate k 91 ++ (x ++ List.replicate k 93)
theorem nestS_succ (k : Nat) (x : Str) : nestS (k + 1) x = ([91] ++ nestS k x) ++ [93] := by
  unfold nestS
  rw [List.replicate_succ, List.replicate_succ']
  simp
theorem nestS_len (k : Nat) (x : Str) : len (nestS k x) = 2 * k + len x := by unfold nestS len; simp only [List.length_append, List.length_replicate]; omega
theorem nest_good {t : Tr} (h : t.good) (hn : t.node.name = []) : ∀ k, (nestT k t).good ∧ (nestT k t).node.name = []
  | 0 => ⟨h, hn⟩
  | k + 1 => by
    have ih := nest_good h hn k
    refine ⟨?_, rfl⟩
    show (Tr.mk ⟨5, 1, [], [], false, 0⟩ [nestT k t]).good
    rw [Tr.good]
    refine ⟨by decide, rfl, ?_, ?_⟩
    · rw [risL]
      exact ⟨⟨fun _ => ih.2, by rw [ih.2]; decide +kernel⟩, fun u us e => (by cases e), trivial⟩
    · rw [goodL]; exact ⟨ih.1, trivial⟩
theorem nest_prt {t : Tr} : ∀ k, prt false 0 (nestT k t) = nestS k (prt false 0 t)
  | 0 => by unfold nestS; simp [nestT]
  | k + 1 => by
    have ih := nest_prt (t := t) k
    show prt false 0 (Tr.mk ⟨5, 1, [], [], false, 0⟩ [nestT k t]) = _
    rw [prt, if_neg (by decide), prtL, prtL]
    have h1 : prt false (0 + 1) (nestT k t) = prt false 0 (nestT k t) := by
      have key : (d : Int) → (t : Tr) → prt false d t = prt false 0 t := fun d t => prt_flat0 d t
      exact key _ _
    rw [h1, ih, nestS_succ]
    simp [marksP, lineP]
theorem nest_size {t : Tr} : ∀ k, (nestT k t).size = k + t.size
  | 0 => by simp [nestT]
  | k + 1 => by show (Tr.mk _ [nestT k t]).size = _; rw [Tr.size, sizeL, sizeL, nest_size k]; omega
theorem nest_depth {t : Tr} : ∀ k, depthT (nestT k t) = k + depthT t
  | 0 => by simp [nestT]
  | k + 1 => by
    have h := depthT_le _ (nestT k t) rfl
    show depthT (Tr.mk ⟨5, 1, [], [], false, 0⟩ [nestT k t]) = _
    rw [depthT, if_neg (by decide), depthL, depthL]
    have ih := nest_depth (t := t) k
    push_cast; omega
/-- What goes wrong in a list's first part goes wrong in the list. -/
theorem nest_er {f : Nat} {s : Str} {i d : Int} {u : Str} {ec p : Int} (ha : At s i (91 :: u)) (h0 : 0 ≤ d) (hd : d < 128) (hf : 2 ≤ f) (hu : ∃ c q, u = c :: q ∧ headB c = true) (hv : valT (f - 2) s (i + 1) (d + 1) = .er ec p) : valT f s i d = .er ec p := by
  obtain ⟨f, rfl⟩ : ∃ g, f = (g + 1) + 1 := ⟨f - 2, by omega⟩
  have hno : NoW s i 3 := by
    intro m hm0 hm3
    rcases (by omega : m = 0 ∨ m = 1 ∨ m = 2) with rfl | rfl | rfl
    · exact At.hasNo ha (by decide)
    · exact At.hasNo ha (by decide)
    · exact At.hasNo ha (by decide)
  have hby : byteAt s i = 91 := At.byte ha
  rw [valT_go (f + 1) d hno, if_neg (by have := At.lt ha; omega), if_neg (by omega), if_neg (by rw [hby]; decide), if_neg (by omega), if_neg (by omega), if_pos hby]
  have ha1 := At.one ha
  obtain ⟨c, q, rfl, hh⟩ := hu
  have hbl := At.noblank ha1 (stop_head hh)
  rw [partsT_go (by rw [hbl, At.has1 ha1]; exact beq_eq_false_iff_ne.2 (head_ne hh).1), hbl, itemsT]
  have hv : valT f s (i + 1) (d + 1) = .er ec p := hv
  rw [hv]; rfl
/-- Too deep: where it is told. -/
theorem deep_er : ∀ (m : Nat) (f : Nat) (s : Str) (i d : Int) (c : UInt8) (r : Str), At s i (List.replicate m 91 ++ c :: r) → (c = 91 ∨ c = 123) → 0 ≤ d → d + m = 128 → 2 * m + 1 ≤ f → valT f s i d = .er 3 (i + m)
  | 0, f, s, i, d, c, r, ha, hc, h0, hd, hf => by
    obtain ⟨f, rfl⟩ : ∃ g, f = g + 1 := ⟨f - 1, by omega⟩
    have ha : At s i (c :: r) := ha
    have hcn : c ≠ 110 ∧ c ≠ 102 ∧ c ≠ 116 := by rcases hc with rfl | rfl <;> decide
    have hno : NoW s i 3 := by
      intro m hm0 hm3
      rcases (by omega : m = 0 ∨ m = 1 ∨ m = 2) with rfl | rfl | rfl
      · exact At.hasNo ha (fun e => hcn.1 e.symm)
      · exact At.hasNo ha (fun e => hcn.2.1 e.symm)
      · exact At.hasNo ha (fun e => hcn.2.2 e.symm)
    have hby := At.byte ha
    rcases hc with rfl | rfl
    · have hby : byteAt s i = 91 := hby
      rw [valT_go f d hno, if_neg (by have := At.lt ha; omega), if_neg (by omega), if_neg (by rw [hby]; decide), if_neg (by omega), if_pos (by omega)]
      congr 1; omega
    · have hby : byteAt s i = 123 := hby
      rw [valT_go f d hno, if_neg (by have := At.lt ha; omega), if_neg (by omega), if_neg (by rw [hby]; decide), if_neg (by omega), if_pos (by omega)]
      congr 1; omega
  | m + 1, f, s, i, d, c, r, ha, hc, h0, hd, hf => by
    rw [List.replicate_succ, List.cons_append] at ha
    have ih := deep_er m (f - 2) s (i + 1) (d + 1) c r (At.one ha) hc (by omega) (by omega) (by omega)
    rw [nest_er ha h0 (by omega) (by omega) (by cases m with
      | zero => exact ⟨c, r, rfl, by rcases hc with rfl | rfl <;> decide⟩
      | succ m => exact ⟨91, _, rfl, by decide⟩) ih]
    congr 1; push_cast; omega
theorem nest_ers {ec p : Int} : ∀ (m : Nat) {f : Nat} {s : Str} {i d : Int} {u : Str}, At s i (List.replicate m 91 ++ u) → 0 ≤ d → d + m ≤ 128 → 2 * m ≤ f → (∃ c q, u = c :: q ∧ headB c = true) → valT (f - 2 * m) s (i + m) (d + m) = .er ec p → valT f s i d = .er ec p
  | 0, f, s, i, d, u, _, _, _, _, _, hv => by simpa using hv
  | m + 1, f, s, i, d, u, ha, h0, hd, hf, hu, hv => by
    rw [List.replicate_succ, List.cons_append] at ha
    refine nest_er ha h0 (by omega) (by omega) ?_ ?_
    · cases m with
      | zero => exact hu
      | succ m => exact ⟨91, _, rfl, by decide⟩
    · refine nest_ers m (At.one ha) (by omega) (by omega) (by omega) hu ?_
      rw [show f - 2 - 2 * m = f - 2 * (m + 1) by omega, show i + 1 + (m : Int) = i + (m + 1 : Nat) by push_cast; omega, show d + 1 + (m : Int) = d + (m + 1 : Nat) by push_cast; omega]
      exact hv
abbrev sNull : Str := [110, 117, 108, 108]
abbrev sObj : Str := [123, 125]
abbrev sObjA : Str := [123, 34, 97, 34, 58, 91, 93, 125]
def inX (s : Str) : Str := if s ≠ sNull ∧ s ≠ sObj ∧ s ≠ sObjA then [49] else s
def moreX (x : Str) : Int := if x = sObjA then 2 else if x = sObj then 1 else 0
def whereX (k : Int) (x : Str) : Int := if k = 127 ∧ moreX x = 2 then k + 5 else 128
def treeX (x : Str) : Tr := if x = sNull then .mk ⟨0, 0, [], [], false, 0⟩ [] else if x = sObj then .mk ⟨6, 0, [], [], false, 0⟩ [] else if x = sObjA then .mk ⟨6, 1, [], [], false, 0⟩ [.mk ⟨5, 0, [97], [], false, 0⟩ []] else .mk ⟨3, 0, [], [49], false, 0⟩ []
theorem inX_cases (s : Str) : inX s = sNull ∨ inX s = sObj ∨ inX s = sObjA ∨ inX s = [49] := by
  unfold inX
  split
  · exact .inr (.inr (.inr rfl))
  · rename_i h
    rcases Classical.em (s = sNull) with h1 | h1
    · exact .inl h1
    rcases Classical.em (s = sObj) with h2 | h2
    · exact .inr (.inl h2)
    rcases Classical.em (s = sObjA) with h3 | h3
    · exact .inr (.inr (.inl h3))
    · exact absurd ⟨h1, h2, h3⟩ h
theorem treeX_all {x : Str} (h : x = sNull ∨ x = sObj ∨ x = sObjA ∨ x = [49]) : (treeX x).good ∧ (treeX x).node.name = [] ∧ prt false 0 (treeX x) = x ∧ depthT (treeX x) = moreX x ∧ (treeX x).size ≤ len x := by
  have g0 : ∀ n : Nd, plainB n = true → n.many = 0 → (Tr.mk n []).good := fun n h1 h2 => by rw [Tr.good]; exact ⟨h1, by rw [h2]; rfl, trivial, trivial⟩
  rcases h with rfl | rfl | rfl | rfl
  · exact ⟨g0 _ (by decide +kernel) rfl, rfl, by decide +kernel, by decide +kernel, by decide +kernel⟩
  · exact ⟨g0 _ (by decide +kernel) rfl, rfl, by decide +kernel, by decide +kernel, by decide +kernel⟩
  · refine ⟨?_, rfl, by decide +kernel, by decide +kernel, by decide +kernel⟩
    show (Tr.mk ⟨6, 1, [], [], false, 0⟩ [.mk ⟨5, 0, [97], [], false, 0⟩ []]).good
    rw [Tr.good]
    refine ⟨by decide +kernel, rfl, ?_, ?_⟩
    · rw [risL]; exact ⟨⟨fun h => absurd h (by decide), by decide +kernel⟩, fun u us e => (by cases e), trivial⟩
    · rw [goodL]; exact ⟨g0 _ (by decide +kernel) rfl, trivial⟩
  · exact ⟨g0 _ (by decide +kernel) rfl, rfl, by decide +kernel, by decide +kernel, by decide +kernel⟩
theorem deep_ok {k : Nat} {x : Str} (h : x = sNull ∨ x = sObj ∨ x = sObjA ∨ x = [49]) (hk : k + moreX x ≤ 128) : parseT (nestS k x) = ((nestT k (treeX x)).flat, 0, 0) := by
  obtain ⟨h1, h2, h3, h4, h5⟩ := treeX_all h
  have hg := nest_good h1 h2 k
  have hp : nestS k x = prt false 0 (nestT k (treeX x)) := by rw [nest_prt, h3]
  rw [hp]
  refine parse_self hg.1 hg.2 (by rw [nest_depth, h4]; omega) ?_
  rw [← hp, nestS_len, nest_size]; push_cast; omega
theorem parse_er {s : Str} {c : UInt8} {q : Str} {ec p : Int} (hs : s = c :: q) (hh : headB c = true) (hv : valT (2 * s.length + 2) s 0 0 = .er ec p) : parseT s = ([], p, ec) := by
  have ha : At s 0 (c :: q) := ⟨Int.le_refl _, len_nonneg _, hs⟩
  unfold parseT
  rw [At.noblank ha (stop_head hh), hv]
set_option maxRecDepth 100000 in
theorem deep_no {k : Nat} {x : Str} (h : x = sNull ∨ x = sObj ∨ x = sObjA ∨ x = [49]) (hk : 128 < k + moreX x) : parseT (nestS k x) = ([], whereX k x, 3) := by
  have hm : moreX x = 0 ∨ (moreX x = 1 ∧ x = sObj) ∨ (moreX x = 2 ∧ x = sObjA) := by
    rcases h with rfl | rfl | rfl | rfl
    · exact .inl (by decide +kernel)
    · exact .inr (.inl ⟨by decide +kernel, rfl⟩)
    · exact .inr (.inr ⟨by decide +kernel, rfl⟩)
    · exact .inl (by decide +kernel)
  have hne : ∃ q, nestS k x = 91 :: q := by
    obtain ⟨k', rfl⟩ : ∃ j, k = j + 1 := ⟨k - 1, by omega⟩
    exact ⟨_, by unfold nestS; rw [List.replicate_succ]; rfl⟩
  obtain ⟨q, hq⟩ := hne
  have hln : len (nestS k x) = 2 * k + len x := nestS_len k x
  have ha : At (nestS k x) 0 (nestS k x) := ⟨Int.le_refl _, len_nonneg _, rfl⟩
  have hf : 2 * k ≤ (nestS k x).length := by have := len_nonneg x; unfold len at hln this; omega
  refine parse_er hq (by decide) ?_
  by_cases h127 : k = 127 ∧ moreX x = 2
  · obtain ⟨rfl, h2⟩ := h127
    have hx : x = sObjA := by rcases hm with h3 | h3 | h3 <;> first | omega | exact h3.2
    have hw : whereX ((127 : Nat) : Int) x = 132 := by unfold whereX; rw [if_pos ⟨rfl, h2⟩]; rfl
    rw [hw]
    refine nest_ers 127 (u := x ++ List.replicate 127 93) ha (Int.le_refl 0) (by decide) (by omega) ⟨123, [34, 97, 34, 58, 91, 93, 125] ++ List.replicate 127 93, by rw [hx]; rfl, by decide⟩ ?_
    have ha2 : At (nestS 127 x) (0 + ((127 : Nat) : Int)) (x ++ List.replicate 127 93) := by
      have := At.add (u := List.replicate 127 91) ha
      rw [show len (List.replicate 127 (91 : UInt8)) = 127 by unfold len; rw [List.length_replicate]; rfl] at this
      exact this
    rw [hx] at ha2 hf ⊢
    have ha3 : At (nestS 127 sObjA) (0 + ((127 : Nat) : Int)) (123 :: (nameP false ⟨5, 0, [97], [], false, 0⟩ ++ ([91, 93, 125] ++ List.replicate 127 93))) := by
      have e : nameP false ⟨5, 0, [97], [], false, 0⟩ = [34, 97, 34, 58] := by decide +kernel
      rw [e]; exact ha2
    obtain ⟨g, hg⟩ : ∃ g, 2 * (nestS 127 sObjA).length + 2 - 2 * 127 = g + 1 + 1 + 1 := ⟨2 * (nestS 127 sObjA).length + 2 - 2 * 127 - 3, by omega⟩
    rw [hg]
    have hno : NoW (nestS 127 sObjA) (0 + ((127 : Nat) : Int)) 3 := by
      intro m hm0 hm3
      rcases (by omega : m = 0 ∨ m = 1 ∨ m = 2) with rfl | rfl | rfl
      · exact At.hasNo ha3 (by decide)
      · exact At.hasNo ha3 (by decide)
      · exact At.hasNo ha3 (by decide)
    have hby : byteAt (nestS 127 sObjA) (0 + ((127 : Nat) : Int)) = 123 := At.byte ha3
    rw [valT_go _ _ hno, if_neg (by have := At.lt ha3; omega), if_neg (by omega), if_neg (by rw [hby]; decide), if_neg (by omega), if_neg (by decide), if_neg (by omega)]
    have ha4 := At.one ha3
    have hst := name_stop false ⟨5, 0, [97], [], false, 0⟩ ([91, 93, 125] ++ List.replicate 127 93)
    have hbl := At.noblank ha4 hst
    have ha5 : ∃ q, At (nestS 127 sObjA) (0 + ((127 : Nat) : Int) + 1) (34 :: q) := ⟨_, ha4⟩
    obtain ⟨q5, ha5⟩ := ha5
    have ha6 := At.add ha4
    have hd := deep_er 0 (g + 1) _ _ 128 91 ([93, 125] ++ List.replicate 127 93) ha6 (.inl rfl) (by decide) (by decide) (by omega)
    rw [partsT_go (by rw [hbl, At.has1 ha5]; rfl), hbl, pairsT, name_at ha4 (by decide +kernel) (fun y z e => by rw [← (List.cons.inj e).1]; decide)]
    have e127 : (0 : Int) + ((127 : Nat) : Int) + 1 = 128 := rfl
    rw [show valT (g + 1) (nestS 127 sObjA) (0 + ((127 : Nat) : Int) + 1 + len (nameP false ⟨5, 0, [97], [], false, 0⟩)) (0 + ((127 : Nat) : Int) + 1) = _ from hd]
    show PR.er 3 _ = PR.er 3 132
    rw [show len (nameP false ⟨5, 0, [97], [], false, 0⟩) = 4 by decide +kernel]
    rfl
  · have hw : whereX (k : Int) x = 128 := by unfold whereX; rw [if_neg (by intro h; exact h127 ⟨by omega, h.2⟩)]
    rw [hw]
    have hk2 : 128 ≤ k := by omega
    have hrep : List.replicate k (91 : UInt8) = List.replicate 128 91 ++ List.replicate (k - 128) 91 := by rw [List.replicate_append_replicate]; congr 1; omega
    have key : ∃ c r, At (nestS k x) 0 (List.replicate 128 91 ++ c :: r) ∧ (c = 91 ∨ c = 123) := by
      by_cases h128 : k = 128
      · subst h128
        rcases hm with h3 | ⟨_, h3⟩ | ⟨_, h3⟩
        · omega
        · refine ⟨123, [125] ++ List.replicate 128 93, ?_, .inr rfl⟩
          have := ha; rw [h3] at this ⊢; exact this
        · refine ⟨123, [34, 97, 34, 58, 91, 93, 125] ++ List.replicate 128 93, ?_, .inr rfl⟩
          have := ha; rw [h3] at this ⊢; exact this
      · obtain ⟨j, hj⟩ : ∃ j, k - 128 = j + 1 := ⟨k - 129, by omega⟩
        refine ⟨91, List.replicate j 91 ++ (x ++ List.replicate k 93), ?_, .inl rfl⟩
        have e : nestS k x = List.replicate 128 91 ++ 91 :: (List.replicate j 91 ++ (x ++ List.replicate k 93)) := by
          unfold nestS; rw [hrep, hj, List.replicate_succ (n := j), List.append_assoc, List.cons_append]
        rw [← e]; exact ha
    obtain ⟨c, r, hc1, hc2⟩ := key
    have := deep_er 128 (2 * (nestS k x).length + 2) (nestS k x) 0 0 c r hc1 hc2 (Int.le_refl 0) (by decide) (by omega)
    exact this
end Go.Eng
namespace Go.Proofs.YtjfaikgooldcbaaGreatDoor
open Go.Eng

theorem depthE_c (M : Mem) (t : Tr) (vv : Value) (w : World) (hM : Sat w M) (hv : Sl M 6 t.flat.length vv (t.flat.flatMap Nd.cells)) (hb : len t.flat ≤ 1048576) (hw : t.wf) : Calls Tryz.prog 20 [vv].toArray w fun e w' => e = .returned (i64 (depthT t)) ∧ Ext w w' :=
  (depth_all _ t rfl vv (St.start hM) hv hb hw).mono fun e w' ⟨u, he, M', hu, hS, _⟩ => ⟨by rw [he, hu], hS.low⟩
theorem in_p {s : Str} (h : (¬ s = sNull ∧ ¬ s = sObj) ∧ ¬ s = sObjA) : s ≠ sNull ∧ s ≠ sObj ∧ s ≠ sObjA := ⟨h.1.1, h.1.2, h.2⟩
theorem in_n {s : Str} (h : (s = sNull ∨ s = sObj) ∨ s = sObjA) : ¬ (s ≠ sNull ∧ s ≠ sObj ∧ s ≠ sObjA) := by
  rintro ⟨h1, h2, h3⟩
  rcases h with (h | h) | h
  · exact h1 h
  · exact h2 h
  · exact h3 h
theorem nest_lens {x : Str} (h : x = sNull ∨ x = sObj ∨ x = sObjA ∨ x = [49]) : ∀ k, ∀ n ∈ (nestT k (treeX x)).flat, len n.s ≤ 1099511627776 ∧ len n.name ≤ 1099511627776
  | 0 => by
    show ∀ n ∈ (treeX x).flat, _
    rcases h with rfl | rfl | rfl | rfl <;> decide +kernel
  | k + 1 => by
    show ∀ n ∈ (Tr.mk ⟨5, 1, [], [], false, 0⟩ [nestT k (treeX x)]).flat, _
    rw [Tr.flat, flatL, flatL, List.append_nil]
    intro n hn
    rcases List.mem_cons.1 hn with rfl | hn
    · decide
    · exact nest_lens h k n hn
/- loupe/loupelaw04.TextDeep -/
set_option maxRecDepth 100000 in
theorem textDeep_c (n : Int) (s : Str) (w : World) (hg : Gl w) (hn : 0 ≤ n ∧ n ≤ 255) :
  Calls Tryz.prog 7 [(.int .u8 n), (str s)].toArray w fun e w' => e = .returned (.bool true) ∧ Ext w w' := by
 refine CW.enter1 Tryz.func7 rfl Tryz.ntmps7 (Nat.le_of_ble_eq_true rfl) fun Q hE => ?_
 have hS : St w (fun _ _ => none) w (fun _ _ => none) [] := St.start ⟨fun _ _ _ h => by cases h⟩
 refine CW.weaken [0, 1] (L' := [Y 0 (.int .u8 n), Y 1 (str s)]) ?_ rfl
 refine CW.sr ?_
 refine RL.u (.assign .c) rfl ?_
 refine RL.nil (CW.id ?_)
 refine CW.sr ?_
 refine RL.m rfl rfl (RL.u (.remK (r := n % 200) (.t rfl) .c (fun _ => by first | omega | (simp only [len_app, len_cons, len_nil]; omega)) (fun _ => by exact Int.tmod_eq_emod_of_nonneg hn.1)) rfl (RL.u (.cvtK (r := n % 200) (.t rfl) Tryz.underlying5 Tryz.underlying3 (fun _ => by exact Eng.wrap_i64 (by omega))) rfl (RL.a rfl rfl ?_)))
 refine RL.nil (CW.id ?_)
 refine CW.mid (σ := Str) (fun x => [Y 1 (str x), Y 5 (i64 (n % 200))]) (fun x wm1 => St w (fun _ _ => none) wm1 (fun _ _ => none) [] ∧ x = inX s) ?_ ?_
 ·refine CW.sr ?_
  refine RL.m rfl rfl (RL.u (.sneq (.t rfl) .c) rfl (RL.m rfl rfl (RL.v (.pos rfl rfl) (.move (.t rfl)) rfl (RL.v (.pos rfl rfl) (.sneq (.g rfl (fun h => h)) .c) rfl (RL.u (.and (.t rfl) (.g rfl (fun h => h))) rfl ?_)))))
  refine RL.m rfl rfl (RL.v (.pos rfl rfl) (.move (.t rfl)) rfl (RL.v (.pos rfl rfl) (.sneq (.g rfl (fun h => h)) .c) rfl (RL.u (.and (.t rfl) (.g rfl (fun h => h))) rfl ?_)))
  refine RL.nil (CW.id ?_)
  refine CW.cond rfl (fun hb1 => ?_) (fun hb1 => ?_)
  ·try simp only [zb] at hb1
   refine CW.region ?_
   refine RL.u (.assign .c) rfl ?_
   exact RL.nil fun a hs => ⟨[49], hs.keep [1, 5], hS, by unfold inX; rw [if_pos (in_p (by simpa using hb1))]⟩
  ·try simp only [zb] at hb1
   exact CW.skip fun a hs => ⟨s, hs.keep [1, 5], hS, by unfold inX; rw [if_neg (in_n (by simpa using hb1))]⟩
 ·rintro x wm1 ⟨hS2, hx⟩
  have hxc := inX_cases s
  rw [← hx] at hxc
  refine CW.sr ?_
  refine RL.u (.assign .c) rfl ?_
  refine RL.nil (CW.id ?_)
  refine CW.mid (σ := Int) (fun q1 => [Y 1 (str x), Y 5 (i64 (n % 200)), Y 6 (i64 q1)]) (fun q1 wm3 => St w (fun _ _ => none) wm3 (fun _ _ => none) [] ∧ q1 = (if x = sObj then 1 else 0)) ?_ ?_
  ·refine CW.sr ?_
   refine RL.m rfl rfl (RL.u (.seql (.t rfl) .c) rfl ?_)
   refine RL.nil (CW.id ?_)
   refine CW.cond rfl (fun hb2 => ?_) (fun hb2 => ?_)
   ·try simp only [zb] at hb2
    refine CW.region ?_
    refine RL.u (.assign .c) rfl ?_
    exact RL.nil fun a hs => ⟨1, hs.keep [1, 5, 6], hS2, by rw [if_pos hb2]⟩
   ·try simp only [zb] at hb2
    exact CW.skip fun a hs => ⟨0, hs.keep [1, 5, 6], hS2, by rw [if_neg hb2]⟩
  ·rintro q1 wm3 ⟨hS4, hq1⟩
   refine CW.mid (σ := Int) (fun q => [Y 1 (str x), Y 5 (i64 (n % 200)), Y 6 (i64 q)]) (fun q wm5 => St w (fun _ _ => none) wm5 (fun _ _ => none) [] ∧ q = moreX x) ?_ ?_
   ·refine CW.sr ?_
    refine RL.m rfl rfl (RL.u (.seql (.t rfl) .c) rfl ?_)
    refine RL.nil (CW.id ?_)
    refine CW.cond rfl (fun hb3 => ?_) (fun hb3 => ?_)
    ·try simp only [zb] at hb3
     refine CW.region ?_
     refine RL.u (.assign .c) rfl ?_
     exact RL.nil fun a hs => ⟨2, hs.keep [1, 5, 6], hS4, by unfold moreX; rw [if_pos hb3]⟩
    ·try simp only [zb] at hb3
     exact CW.skip fun a hs => ⟨q1, hs.keep [1, 5, 6], hS4, by unfold moreX; rw [if_neg hb3]; exact hq1⟩
   ·rintro q wm5 ⟨hS6, hq⟩
    have hq2 : 0 ≤ q ∧ q ≤ 2 := by rw [hq]; unfold moreX; split; omega; split <;> omega
    have hx8 : len x ≤ 8 := by rcases hxc with h | h | h | h <;> rw [h] <;> decide
    refine CW.sr ?_
    refine RL.m rfl rfl (RL.a rfl rfl ?_)
    refine RL.nil (CW.id ?_)
    refine CW.seq ?_
    refine CW.sr ?_
    refine RL.u (.assign .c) rfl ?_
    refine RL.nil (CW.id ?_)
    refine CW.block ?_
    refine CW.loop (σ := Int × Str) (fun (j, o) => [Y 5 (i64 (n % 200)), Y 6 (i64 q), Y 7 (str o), Y 8 (i64 j)]) (fun (j, o) wl => St w (fun _ _ => none) wl (fun _ _ => none) [] ∧ 0 ≤ j ∧ j ≤ n % 200 ∧ o = nestS j.toNat x) (fun (j, o) => (n % 200 - j).toNat) ((0, x)) [5, 6, 7, 8] rfl ?_ ?_
    ·refine ⟨hS6, ?_⟩; exact ⟨by omega, by omega, by unfold nestS; simp⟩
    ·rintro ⟨j, o⟩ wl ⟨hS7, hj0, hj1, ho⟩
     have hlo : len o = 2 * j.toNat + len x := by rw [ho]; exact nestS_len _ _
     have hlx := len_nonneg x
     refine CW.seq ?_
     refine CW.sr ?_
     refine RL.m rfl rfl (RL.m rfl rfl (RL.u (.lss (.t rfl) (.t rfl)) rfl ?_))
     refine RL.nil (CW.id ?_)
     refine CW.cond rfl (fun hb4 => ?_) (fun hb4 => ?_)
     ·try simp only [zb] at hb4
      refine CW.skip (CW.id ?_)
      refine CW.seq ?_
      refine CW.block ?_
      refine CW.region ?_
      refine RL.m rfl rfl (RL.u (.sadd .c (.t rfl) (fun _ => by first | omega | (simp only [len_app, len_cons, len_nil]; omega))) rfl (RL.u (.sadd (.t rfl) .c (fun _ => by first | omega | (simp only [len_app, len_cons, len_nil]; omega))) rfl (RL.a rfl rfl ?_)))
      refine RL.nil (CW.id ?_)
      refine CW.region ?_
      refine RL.m rfl rfl (RL.u (.add (.t rfl) .c (fun _ => by first | omega | (simp only [len_app, len_cons, len_nil]; omega))) rfl (RL.a rfl rfl ?_))
      refine RL.nil fun a hs => Exists.intro ((j + 1, ([91] ++ o) ++ [93])) ⟨hs.keep [5, 6, 7, 8], ?_, ?_⟩
      ·refine ⟨hS7, ?_⟩
       exact ⟨by omega, by omega, by rw [ho, show (j + 1).toNat = j.toNat + 1 by omega, nestS_succ]⟩
      ·show Int.toNat _ < Int.toNat _; omega
     ·try simp only [zb] at hb4
      refine CW.exit (CW.at [Y 5 (i64 (n % 200)), Y 6 (i64 q), Y 7 (str o)] rfl ?_)
      refine CW.sr ?_
      refine RL.m rfl rfl ?_
      refine RL.callP Tryz.call11 (.cons (.t rfl) .nil) (parse_lit (Rs := []) o ((parseT o)) hS7 hg (by omega) rfl) rfl ?_
      rintro v11 w12 ⟨a8, c9, M13, rfl, hsl_v11, hS14, hle15⟩
      replace hS14 : St w (fun _ _ => none) w12 M13 [] := hS14
      replace hsl_v11 : Sl M13 6 ((parseT o).1).length (.slice a8 ((parseT o).1).length c9) (((parseT o).1).flatMap Nd.cells) := hsl_v11
      refine RL.m rfl rfl (RL.u (.ex (.t rfl) rfl) rfl (RL.u (.ex (.t rfl) rfl) rfl (RL.u (.ex (.t rfl) rfl) rfl (RL.a rfl rfl (RL.a rfl rfl ?_)))))
      refine RL.a rfl rfl ?_
      refine RL.nil (CW.at [Y 5 (i64 (n % 200)), Y 6 (i64 q), Y 9 (.slice a8 ((parseT o).1).length c9), Y 10 (i64 ((parseT o).2.1)), Y 11 (i64 ((parseT o).2.2))] rfl ?_)
      refine CW.seq ?_
      refine CW.sr ?_
      refine RL.m rfl rfl (RL.m rfl rfl (RL.u (.add (.t rfl) (.t rfl) (fun _ => by first | omega | (simp only [len_app, len_cons, len_nil]; omega))) rfl (RL.u (.leq (.t rfl) .c) rfl ?_)))
      refine RL.nil (CW.id ?_)
      refine CW.cond rfl (fun hb5 => ?_) (fun hb5 => ?_)
      ·try simp only [zb] at hb5
       have hkx : (((n % 200).toNat : Nat) : Int) = n % 200 := by omega
       have hoe : o = nestS (n % 200).toNat x := by rw [ho, show j = n % 200 by omega]
       have hd0 := deep_ok (k := (n % 200).toNat) hxc (by omega)
       rw [← hoe] at hd0
       have hd1 : (parseT o).1 = (nestT (n % 200).toNat (treeX x)).flat := by rw [hd0]
       have hta := treeX_all hxc
       have hgt := nest_good hta.1 hta.2.1 (n % 200).toNat
       have hvl : len (parseT o).1 ≤ 1048576 := by rw [hd1]; unfold len; rw [Tr.flat_len, nest_size]; have := hta.2.2.2.2; push_cast; omega
       have hln : ∀ m ∈ (parseT o).1, len m.s ≤ 1099511627776 ∧ len m.name ≤ 1099511627776 := by rw [hd1]; exact nest_lens hxc _
       refine CW.sr ?_
       refine RL.callE hS14 .none Tryz.call10 .nil (fun _ => (alive4_c _ (hg.low hS14.low))) rfl (fun w16 hS17 => ?_)
       refine RL.m rfl rfl (RL.v (.pos rfl rfl) (.move (.t rfl)) rfl (RL.v (.pos rfl rfl) (.eql (.g rfl (fun h => h)) .c) rfl (RL.u (.and (.t rfl) (.g rfl (fun h => h))) rfl (RL.m rfl rfl (RL.v (.pos rfl rfl) (.move (.t rfl)) rfl ?_)))))
       refine RL.callE hS17 (.pos rfl rfl) Tryz.call19 (.cons (.g rfl (fun h => h)) .nil) (fun hW => by simp only [zb] at hW; exact (right2_c M13 ((parseT o).1) (.slice a8 ((parseT o).1).length c9) _ hS17.sat hsl_v11 (by first | omega | assumption) (by assumption))) rfl (fun w18 hS19 => ?_)
       refine RL.u (.and (.t rfl) (.g rfl (fun h => h))) rfl (RL.m rfl rfl (RL.v (.pos rfl rfl) (.move (.t rfl)) rfl ?_))
       refine RL.callE hS19 (.pos rfl rfl) Tryz.call20 (.cons (.g rfl (fun h => h)) .nil) (fun hW => by simp only [zb] at hW; exact (depthE_c M13 (nestT (n % 200).toNat (treeX x)) (.slice a8 ((parseT o).1).length c9) _ hS19.sat (by rw [← hd1]; exact hsl_v11) (by rw [← hd1]; omega) (Tr.good_wf hgt.1))) rfl (fun w20 hS21 => ?_)
       refine RL.v (.pos rfl rfl) (.move (.t rfl)) rfl (RL.v (.pos rfl rfl) (.move (.t rfl)) rfl (RL.v (.pos rfl rfl) (.add (.g rfl (fun h => h)) (.g rfl (fun h => h)) (fun hW => by simp only [zb] at hW; first | omega | (simp only [len_app, len_cons, len_nil]; omega))) rfl (RL.v (.pos rfl rfl) (.eql (.g rfl (fun h => h)) (.g rfl (fun h => h))) rfl (RL.u (.and (.t rfl) (.g rfl (fun h => h))) rfl (RL.a rfl rfl ?_)))))
       refine RL.nil (CW.at [Y 4 (.bool (((true && (((parseT o).2.2) == 0)) && (rightB ((parseT o).1))) && ((depthT (nestT (n % 200).toNat (treeX x))) == ((n % 200) + q))))] rfl ?_)
       refine CW.ret (hE.r1 rfl rfl ?_)
       have he0 : (parseT o).2.2 = 0 := by rw [hd0]
       have hrb : rightB (parseT o).1 = true := by rw [hd1]; exact good_right hgt.1 hgt.2
       have hdp : depthT (nestT (n % 200).toNat (treeX x)) = n % 200 + q := by rw [nest_depth, hta.2.2.2.1, hkx, hq]
       exact ⟨by rw [he0, hrb, hdp]; simp, hS21.low⟩
      ·try simp only [zb] at hb5
       have hkx : (((n % 200).toNat : Nat) : Int) = n % 200 := by omega
       have hoe : o = nestS (n % 200).toNat x := by rw [ho, show j = n % 200 by omega]
       have hd0 := deep_no (k := (n % 200).toNat) hxc (by omega)
       rw [← hoe] at hd0
       refine CW.skip (CW.id ?_)
       refine CW.sr ?_
       refine RL.u (.assign .c) rfl ?_
       refine RL.nil (CW.id ?_)
       refine CW.seq ?_
       refine CW.sr ?_
       refine RL.m rfl rfl (RL.u (.eql (.t rfl) .c) rfl (RL.m rfl rfl (RL.v (.pos rfl rfl) (.move (.t rfl)) rfl (RL.v (.pos rfl rfl) (.eql (.g rfl (fun h => h)) .c) rfl (RL.u (.and (.t rfl) (.g rfl (fun h => h))) rfl ?_)))))
       refine RL.nil (CW.id ?_)
       refine CW.cond rfl (fun hb6 => ?_) (fun hb6 => ?_)
       ·try simp only [zb] at hb6
        refine CW.region ?_
        refine RL.m rfl rfl (RL.u (.add (.t rfl) .c (fun _ => by first | omega | (simp only [len_app, len_cons, len_nil]; omega))) rfl (RL.a rfl rfl ?_))
        refine RL.nil (CW.id ?_)
        refine CW.sr ?_
        refine RL.callE hS14 .none Tryz.call10 .nil (fun _ => (alive4_c _ (hg.low hS14.low))) rfl (fun w22 hS23 => ?_)
        refine RL.m rfl rfl (RL.v (.pos rfl rfl) (.move (.t rfl)) rfl (RL.v (.pos rfl rfl) (.eql (.g rfl (fun h => h)) .c) rfl (RL.u (.and (.t rfl) (.g rfl (fun h => h))) rfl (RL.m rfl rfl (RL.v (.pos rfl rfl) (.move (.t rfl)) rfl ?_)))))
        refine RL.v (.pos rfl rfl) (.move (.t rfl)) rfl (RL.v (.pos rfl rfl) (.eql (.g rfl (fun h => h)) (.g rfl (fun h => h))) rfl (RL.u (.and (.t rfl) (.g rfl (fun h => h))) rfl (RL.m rfl rfl (RL.v (.pos rfl rfl) (.move (.t rfl)) rfl (RL.v (.pos rfl rfl) (.lenT hsl_v11 (.g rfl (fun h => h)) ⟨_, Tryz.underlying24⟩) rfl ?_)))))
        refine RL.v (.pos rfl rfl) (.eql (.g rfl (fun h => h)) .c) rfl (RL.u (.and (.t rfl) (.g rfl (fun h => h))) rfl (RL.a rfl rfl ?_))
        refine RL.nil (CW.at [Y 4 (.bool (((true && (((parseT o).2.2) == 3)) && (((parseT o).2.1) == ((n % 200) + 5))) && ((len ((parseT o).1)) == 0)))] rfl ?_)
        refine CW.ret (hE.r1 rfl rfl ?_)
        have hw : whereX (((n % 200).toNat : Nat) : Int) x = n % 200 + 5 := by unfold whereX; rw [if_pos ⟨by omega, by rw [← hq]; exact hb6.2⟩, hkx]
        exact ⟨by rw [hd0, hw]; simp [len_nil], hS23.low⟩
       ·try simp only [zb] at hb6
        refine CW.skip (CW.id ?_)
        refine CW.sr ?_
        refine RL.callE hS14 .none Tryz.call10 .nil (fun _ => (alive4_c _ (hg.low hS14.low))) rfl (fun w24 hS25 => ?_)
        refine RL.m rfl rfl (RL.v (.pos rfl rfl) (.move (.t rfl)) rfl (RL.v (.pos rfl rfl) (.eql (.g rfl (fun h => h)) .c) rfl (RL.u (.and (.t rfl) (.g rfl (fun h => h))) rfl (RL.m rfl rfl (RL.v (.pos rfl rfl) (.move (.t rfl)) rfl ?_)))))
        refine RL.v (.pos rfl rfl) (.move (.t rfl)) rfl (RL.v (.pos rfl rfl) (.eql (.g rfl (fun h => h)) (.g rfl (fun h => h))) rfl (RL.u (.and (.t rfl) (.g rfl (fun h => h))) rfl (RL.m rfl rfl (RL.v (.pos rfl rfl) (.move (.t rfl)) rfl (RL.v (.pos rfl rfl) (.lenT hsl_v11 (.g rfl (fun h => h)) ⟨_, Tryz.underlying24⟩) rfl ?_)))))
        refine RL.v (.pos rfl rfl) (.eql (.g rfl (fun h => h)) .c) rfl (RL.u (.and (.t rfl) (.g rfl (fun h => h))) rfl (RL.a rfl rfl ?_))
        refine RL.nil (CW.at [Y 4 (.bool (((true && (((parseT o).2.2) == 3)) && (((parseT o).2.1) == 128)) && ((len ((parseT o).1)) == 0)))] rfl ?_)
        refine CW.ret (hE.r1 rfl rfl ?_)
        have hw : whereX (((n % 200).toNat : Nat) : Int) x = 128 := by unfold whereX; rw [if_neg (by rw [← hq]; omega)]
        exact ⟨by rw [hd0, hw]; simp [len_nil], hS25.low⟩

end Go.Proofs.YtjfaikgooldcbaaGreatDoor
