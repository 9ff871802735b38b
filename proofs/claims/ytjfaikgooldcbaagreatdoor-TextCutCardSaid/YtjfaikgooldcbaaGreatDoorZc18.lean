/-
  VALUES AS TREES, and the plain form of the printer. No program in it.
  A strings.Builder that is embedded at the head of a box of three cells (text.printer): copyCheck, String; strings.Repeat of two blanks.
-/
import Derived.Test.YtjfaikgooldcbaaGreatDoorZc8
import Derived.Test.YtjfaikgooldcbaaGreatDoorZc7
import Derived.Test.YtjfaikgooldcbaaGreatDoorZc10
import Derived.Test.YtjfaikgooldcbaaGreatDoorZc5
import Derived.Laws.BitsLemmas
import Derived.Test.YtjfaikgooldcbaaGreatDoorZc3
import Derived.Test.YtjfaikgooldcbaaGreatDoorProg
import Derived.Test.YtjfaikgooldcbaaGreatDoorZc11
import Derived.Test.YtjfaikgooldcbaaGreatDoorZc12
set_option linter.unusedVariables false
set_option linter.unusedSimpArgs false
namespace Go.Eng
open Go.RowKit

/-- n times two blanks -/
def twoN : Nat → Str
  | 0 => []
  | n + 1 => 32 :: 32 :: twoN n
theorem twoN_len (n : Nat) : len (twoN n) = 2 * n := by
  induction n with
  | zero => rfl
  | succ n ih => rw [twoN, len_cons, len_cons, ih]; omega
inductive Tr where
  | mk (n : Nd) (ps : List Tr)
mutual
def Tr.flat : Tr → List Nd
  | .mk n ps => n :: flatL ps
def flatL : List Tr → List Nd
  | [] => []
  | t :: ts => t.flat ++ flatL ts
end
def Tr.node : Tr → Nd | .mk n _ => n
def Tr.parts : Tr → List Tr | .mk _ ps => ps
mutual
def Tr.ok : Tr → Prop
  | .mk n ps => (n.kind < 5 → ps = []) ∧ (5 ≤ n.kind → n.many = len ps) ∧ (len n.s ≤ 1099511627776 ∧ len n.name ≤ 1099511627776 ∧ -1000000 ≤ n.e ∧ n.e ≤ 1000000) ∧ okL ps
def okL : List Tr → Prop
  | [] => True
  | t :: ts => t.ok ∧ okL ts
end
mutual
def Tr.size : Tr → Nat
  | .mk _ ps => 1 + sizeL ps
def sizeL : List Tr → Nat
  | [] => 0
  | t :: ts => t.size + sizeL ts
end
mutual
theorem Tr.flat_len : (t : Tr) → t.flat.length = t.size
  | .mk n ps => by rw [Tr.flat, Tr.size, List.length_cons, flatL_len ps]; omega
theorem flatL_len : (l : List Tr) → (flatL l).length = sizeL l
  | [] => rfl
  | t :: ts => by rw [flatL, sizeL, List.length_append, Tr.flat_len t, flatL_len ts]
end
theorem sizeL_app (a b : List Tr) : sizeL (a ++ b) = sizeL a + sizeL b := by
  induction a with
  | nil => simp [sizeL]
  | cons x a ih => rw [List.cons_append, sizeL, sizeL, ih]; omega
theorem Tr.size_pos (t : Tr) : 1 ≤ t.size := by cases t; rw [Tr.size]; omega
theorem len_le_sizeL (l : List Tr) : len l ≤ sizeL l := by
  induction l with
  | nil => exact Int.le_refl _
  | cons t l ih => rw [len_cons, sizeL]; have := t.size_pos; omega
theorem Tr.ok_node {t : Tr} (h : t.ok) : len t.node.s ≤ 1099511627776 ∧ len t.node.name ≤ 1099511627776 := by
  cases t; rw [Tr.ok] at h; exact ⟨h.2.2.1.1, h.2.2.1.2.1⟩
def scalarP (n : Nd) : Str :=
  if n.kind = 0 then [110, 117, 108, 108] else if n.kind = 1 then [102, 97, 108, 115, 101] else if n.kind = 2 then [116, 114, 117, 101] else if n.kind = 3 then print1 n else quoteP n.s
def lineP (ln : Bool) (d : Int) : Str := if ln then 10 :: twoN d.toNat else []
def nameP (ln : Bool) (n : Nd) : Str := quoteP n.name ++ 58 :: (if ln then [32] else [])
theorem nameP_len (ln : Bool) (n : Nd) : len (quoteP n.name) + 1 ≤ len (nameP ln n) ∧ (ln = true → len (quoteP n.name) + 2 ≤ len (nameP ln n)) := by
  unfold nameP; rw [len_app, len_cons]
  cases ln
  · exact ⟨by simp only [Bool.false_eq_true, if_false, len_nil]; omega, fun h => by cases h⟩
  · exact ⟨by simp only [if_true, len_cons, len_nil]; omega, fun _ => by simp only [if_true, len_cons, len_nil]; omega⟩
def marksP (k : Int) : UInt8 × UInt8 := if k = 6 then (123, 125) else (91, 93)
mutual
def prt (ln : Bool) : Int → Tr → Str
  | d, .mk n ps => if n.kind < 5 then scalarP n else (marksP n.kind).1 :: prtL ln d (n.kind == 6) true ps ++ (if ps.isEmpty then [] else lineP ln d) ++ [(marksP n.kind).2]
def prtL (ln : Bool) : Int → Bool → Bool → List Tr → Str
  | _, _, _, [] => []
  | d, ob, f, t :: ts => (if f then [] else [44]) ++ (lineP ln (d + 1) ++ ((if ob then nameP ln t.node else []) ++ (prt ln (d + 1) t ++ prtL ln d ob false ts)))
end
/-- A tree stands at a place. -/
def SegAt (v : List Nd) (i : Int) (t : Tr) : Prop := 0 ≤ i ∧ ∃ pre post, v = pre ++ (t.flat ++ post) ∧ len pre = i
def SegL (v : List Nd) (i : Int) (l : List Tr) : Prop := 0 ≤ i ∧ ∃ pre post, v = pre ++ (flatL l ++ post) ∧ len pre = i
theorem SegAt.head {v : List Nd} {i : Int} {n : Nd} {ps : List Tr} (h : SegAt v i (.mk n ps)) : 0 ≤ i ∧ i < len v ∧ at' v i = n := by
  obtain ⟨h0, pre, post, rfl, rfl⟩ := h
  refine ⟨h0, ?_, ?_⟩
  · rw [Tr.flat]; unfold len; simp only [List.length_append, List.length_cons]; omega
  · rw [Tr.flat]; unfold at'; unfold len; simp
theorem SegAt.kids {v : List Nd} {i : Int} {n : Nd} {ps : List Tr} (h : SegAt v i (.mk n ps)) : SegL v (i + 1) ps := by
  obtain ⟨h0, pre, post, rfl, rfl⟩ := h
  exact ⟨by omega, pre ++ [n], post, by rw [Tr.flat]; simp, by unfold len; simp⟩
theorem SegL.first {v : List Nd} {i : Int} {t : Tr} {ts : List Tr} (h : SegL v i (t :: ts)) : SegAt v i t := by
  obtain ⟨h0, pre, post, rfl, rfl⟩ := h
  exact ⟨h0, pre, flatL ts ++ post, by rw [flatL]; simp, rfl⟩
theorem SegL.rest {v : List Nd} {i : Int} {t : Tr} {ts : List Tr} (h : SegL v i (t :: ts)) : SegL v (i + t.size) ts := by
  obtain ⟨h0, pre, post, rfl, rfl⟩ := h
  exact ⟨by omega, pre ++ t.flat, post, by rw [flatL]; simp, by unfold len; rw [List.length_append, Tr.flat_len]; omega⟩
theorem SegAt.top (t : Tr) : SegAt t.flat 0 t := ⟨Int.le_refl _, [], [], by simp, rfl⟩
theorem SegAt.node {v : List Nd} {i : Int} {t : Tr} (h : SegAt v i t) : 0 ≤ i ∧ i < len v ∧ at' v i = t.node := by cases t; exact h.head
theorem SegAt.size_le {v : List Nd} {i : Int} {t : Tr} (h : SegAt v i t) : i + t.size ≤ len v := by
  obtain ⟨h0, pre, post, rfl, rfl⟩ := h
  unfold len; simp only [List.length_append, Tr.flat_len]; omega
end Go.Eng
namespace Go.Proofs.YtjfaikgooldcbaaGreatDoor
open Go.Eng Go.RowKit

abbrev tP := 67
set_option maxHeartbeats 1000000 in
set_option maxRecDepth 100000 in
theorem copyE_fresh (b : Nat) (w : World) (h0 : w.cell? ⟨b, 0, none⟩ = some (.pointer none)) (hsh : w.shape? b = some (tP, 3)) (hfz : w.frozen? ⟨b, 0, none⟩ = false) :
    Calls Tryz.prog 81 #[.pointer (some ⟨b, 0, none⟩)] w fun e w' => e = .returned (.tuple #[]) ∧ w' = w.setCell ⟨b, 0, none⟩ (.pointer (some ⟨b, 0, none⟩)) := by
  obtain ⟨j, hj, hjs⟩ := Option.map_eq_some_iff.1 (show (Tryz.prog.info? 65).map (·.size) = some 2 by kernel_rfl)
  have mixed : Tryz.prog.follows .mixedOrders = true := by kernel_rfl
  have u82 := fun w => run_underlying (P := Tryz.prog) (w := w) Tryz.underlying62
  go_enter Tryz.func81, Tryz.ntmps81
  go_wp2
  rw [Lib.run_to_unsafe w ⟨b, 0, none⟩ Tryz.underlying62 Tryz.underlying137 hj (by rw [hjs]; decide) hsh (Nat.zero_lt_succ 2)]
  simp only [Result.andThen]
  rw [Oper.upon_value]
  go_wp2
  rw [run_callFunc_extern Tryz.func114 (by kernel_rfl) (by kernel_rfl) (by kernel_rfl) (e := Extern.AbiNoEscape.same) (by kernel_rfl)]
  rw [Lib.run_noEscape]
  simp only [Result.andThen]
  rw [Oper.upon_value]
  go_wp2
  rw [Lib.run_from_unsafe w ⟨b, 0, none⟩ Tryz.underlying137 Tryz.underlying62 hj hsh (by kernel_rfl)]
  simp only [Result.andThen]
  rw [Oper.upon_value]
  go_wp2
  go_end0
  exact ⟨rfl, rfl⟩
theorem setCell_row3 {w : World} {b : Nat} {a v y x : Value} {t : TypeId} (h : w.heap[b]? = some (.cells #[a, v, y] t (0, 0))) : w.setCell ⟨b, 0, none⟩ x = w.setRow b #[x, v, y] := by
  unfold World.setCell World.setRow
  congr 1
  apply Array.ext_getElem?
  intro i
  by_cases hi : b = i
  · subst hi; simp [Array.getElem?_modify, h]
  · simp [Array.getElem?_modify, hi]
theorem copyE_c {w wv : World} {M0 M : Mem} {Rs : List HO} (b : Nat) (a v y : Value) (hS : St w M0 wv M (.box b [a, v, y] tP :: Rs)) (ha : a = .pointer none ∨ a = selfP b) :
    Calls Tryz.prog 81 [.pointer (some ⟨b, 0, none⟩)].toArray wv fun e w' => ∃ u, e = .returned u ∧ St w M0 w' M (.box b [selfP b, v, y] tP :: Rs) := by
  have hb := (hS.obj (i := 0) rfl).2.1
  rcases ha with rfl | rfl
  · refine (copyE_fresh b wv (by simp [World.cell?, hb]) (by simp [World.shape?, hb]) (by simp [World.frozen?, hb])).mono fun e w' ⟨he, hw⟩ => ⟨_, he, ?_⟩
    rw [hw, setCell_row3 hb]
    exact hS.setBox (i := 0) rfl [selfP b, v, y]
  · exact (copy_used b wv (by simp [World.cell?, hb, selfP])).mono fun e w' ⟨he, hw⟩ => ⟨_, he, hw ▸ hS⟩
set_option maxHeartbeats 4000000 in
set_option maxRecDepth 100000 in
theorem stringE_c {w wv : World} {M0 M : Mem} {Rs : List HO} (b : Nat) (a v y : Value) (bs : Str) (l : List Int) (hS : St w M0 wv M (.box b [a, v, y] tP :: .own 5 1 v l.length (l.flatMap u8I) :: Rs)) (hl : l = ints bs) (h0 : bs ≠ []) :
    Calls Tryz.prog 32 [.pointer (some ⟨b, 0, none⟩)].toArray wv fun e w' => ∃ v, e = .returned v ∧ v = str bs ∧ Ext w w' := by
  subst hl
  have hb := hS.obj (i := 0) rfl
  have hown := (hS.obj (i := 1) rfl).1
  have hbk := hb.2.1
  have e1 : (ints bs).flatMap u8I = Lib.byteCells bs := by rw [flat_u8I]; unfold ints; rw [List.map_map]; rfl
  have e2 : (ints bs).length = bs.length := by unfold ints; rw [List.length_map]
  rw [e1, e2] at hown
  have hl0 : bs.length ≠ 0 := by simpa using h0
  obtain ⟨g, cap, cur, rfl, hbg, hg, hnc, hcm, hcs, htake⟩ : ∃ g cap cur, v = .slice (some ⟨g, 0, none⟩) bs.length cap ∧ w.heap.size ≤ g ∧ wv.heap[g]? = some (.cells cur 5 (0, 0)) ∧ bs.length ≤ cap ∧ cap ≤ maxLen ∧ cur.size = cap * 1 ∧ cur.toList.take (bs.length * 1) = Lib.byteCells bs := by
    rcases hown.2 with ⟨_, hz⟩ | ⟨g, cap, cur, hv, r⟩
    · exact absurd hz hl0
    · exact ⟨g, cap, cur, hv, r⟩
  have c1 : wv.drew.cell? ⟨b, 1, none⟩ = some (.slice (some ⟨g, 0, none⟩) bs.length cap) := by
    have : wv.drew.heap[b]? = some (.cells #[a, .slice (some ⟨g, 0, none⟩) bs.length cap, y] tP (0, 0)) := hbk
    rw [Lib.cell_of_heap this]; rfl
  have hSD : (Builtin.unsafeSliceData_ #[63] 91 #[.slice (some ⟨g, 0, none⟩) bs.length cap]).run Tryz.prog wv.drew = .ok (.pointer (some ⟨g, 0, none⟩)) wv.drew :=
    Lib.run_unsafeSliceData_row _ _ _ _ _ _ (by omega)
  have hUS : (Builtin.unsafeString_ #[91, 3] 9 #[.pointer (some ⟨g, 0, none⟩), .int .i64 bs.length]).run Tryz.prog wv.drew = .ok (.string ⟨bs.toArray⟩) (wv.drew.freeze ⟨g, 0, none⟩ bs.length) := by
    refine Lib.run_unsafeString_row wv.drew 91 3 9 5 Tryz.underlying91 (by kernel_rfl) g cur.size (by have hg' : wv.drew.heap[g]? = some (.cells cur 5 (0, 0)) := hg; simp [World.shape?, hg']) bs h0 (by omega) (by unfold maxLen at hcm; omega) ?_
    intro j x hx
    have := hown.cells (g := g) rfl j (.int .u8 x.toNat) (by simp [Lib.byteCells, hx])
    exact this
  have mixed : Tryz.prog.follows .mixedOrders = true := by kernel_rfl
  have ub := fun w => run_underlying (P := Tryz.prog) (w := w) Tryz.underlying65
  have up := fun w => run_underlying (P := Tryz.prog) (w := w) Tryz.underlying62
  have us := fun w => run_underlying (P := Tryz.prog) (w := w) Tryz.underlying63
  have ui := fun w => run_underlying (P := Tryz.prog) (w := w) Tryz.underlying3
  have uu := fun w => run_underlying (P := Tryz.prog) (w := w) Tryz.underlying9
  have uq := fun w => run_underlying (P := Tryz.prog) (w := w) Tryz.underlying91
  go_enter Tryz.func32, Tryz.ntmps32
  go_wp2
  go_region_o
  all_goals (go_wp2; go_ret; exact ⟨_, rfl, rfl, hS.low.trans (Lib.below_freeze (Below.drew (Below.refl w.heap.size wv)) (p := ⟨g, 0, none⟩) hbg _)⟩)
theorem repeatL_two (n : Nat) : Lib.repeatL [32, 32] n = twoN n := by
  induction n with
  | zero => rfl
  | succ n ih => rw [Lib.repeatL, ih]; rfl
theorem repeat2_c (n : Int) (w : World) (h0 : 0 ≤ n) (h1 : n ≤ 1099511627776) :
    Calls Tryz.prog 82 [str [32, 32], i64 n].toArray w fun e w' => e = .returned (str (twoN n.toNat)) ∧ Ext w w' := by
  by_cases ha : n = 0
  · subst ha; exact (Tryz.strings_Repeat_zero ⟨⟨[32, 32]⟩⟩ w).mono fun e w' ⟨he, hw⟩ => ⟨he, hw ▸ Ext.refl _⟩
  · by_cases hb : n = 1
    · subst hb; exact (Tryz.strings_Repeat_one ⟨⟨[32, 32]⟩⟩ w).mono fun e w' ⟨he, hw⟩ => ⟨he, hw ▸ Ext.refl _⟩
    · have := Tryz.strings_Repeat_main ⟨⟨[32, 32]⟩⟩ n.toNat w (by omega) (by omega) (by show 2 * _ ≤ _; omega) (by show 0 < 2; omega)
      rw [show ((n.toNat : Nat) : Int) = n from by omega] at this
      refine this.mono fun e w' ⟨he, hw⟩ => ⟨?_, hw⟩
      rw [he]; show Ending.returned (str (Lib.repeatL [32, 32] n.toNat)) = _; rw [repeatL_two]
end Go.Proofs.YtjfaikgooldcbaaGreatDoor
set_option maxRecDepth 100000
namespace Go.Proofs.YtjfaikgooldcbaaGreatDoor
open Go.Eng

/- (*strings.Builder).WriteString -/
theorem writeStringE_c {w wv : World} {M0 M : Mem} {Rs : List HO} (b : Nat) (a : Value) (l : List Int) (ln : Bool) (s : Str) (v : Value) (hS : St w M0 wv M (.box b [a, v, (.bool ln)] 67 :: .own 5 1 v l.length (l.flatMap u8I) :: Rs)) (ha : a = .pointer none ∨ a = selfP b) (hl : len l ≤ 35184372088832) (hc : len s ≤ 35184372088832) :
  Calls Tryz.prog 54 [(.pointer (some ⟨b, 0, none⟩)), (str s)].toArray wv fun e w' => ∃ u, e = .returned u ∧ ∃ v' M', St w M0 w' M' (.box b [selfP b, v', .bool ln] 67 :: .own 5 1 v' (l ++ ints s).length ((l ++ ints s).flatMap u8I) :: Rs) ∧ M.le M' := by
 refine CW.enter1 Tryz.func54 rfl Tryz.ntmps54 (Nat.le_of_ble_eq_true rfl) fun Q hE => ?_
 have := len_nonneg l
 refine CW.weaken [0, 1] (L' := [Y 0 (.pointer (some ⟨b, 0, none⟩)), Y 1 (str s)]) ?_ rfl
 refine CW.sr (RL.u (.assign .c) rfl (RL.u (.assign .c) rfl (RL.nil (CW.id (CW.sr ?_)))))
 refine RL.m rfl rfl ?_
 replace hS := hS.front 0 rfl rfl
 refine RL.callP Tryz.call81 (.cons (.t rfl) .nil) (copyE_c (Rs := (.own 5 1 v l.length (l.flatMap u8I) :: Rs)) b a v (.bool ln) hS (by first | assumption | exact Or.inr rfl | exact Or.inl rfl)) rfl ?_
 rintro v1 w2 hS4
 refine RL.nil (CW.at [Y 0 (.pointer (some ⟨b, 0, none⟩)), Y 1 (str s)] rfl (CW.sr (RL.m rfl rfl (RL.m rfl rfl (RL.u (.nilP (.t rfl)) rfl (RL.u (.fldA (q := ⟨b, 1, none⟩) (.t rfl) (fun w => by kernel_rfl)) rfl (RL.u (.loadB1 (v := v) hS4 extEq (i := 0) rfl (.t rfl) Tryz.isAgg63 rfl) rfl (RL.m rfl rfl ?_))))))))
 refine RL.appendS (l := l) (s := s) hS4 (k := 1) rfl (.t rfl) (.t rfl) Tryz.underlying63 Tryz.underlying9 Tryz.type5 rfl rfl rfl (by omega) rfl (Hs' := fun v' => (.box b [(selfP b), v, (.bool ln)] 67 :: .own 5 1 v' (l ++ ints s).length ((l ++ ints s).flatMap u8I) :: Rs)) (fun _ => rfl) (fun v6 w7 M8 hS9 hle10 => ?_)
 refine RL.u (.nilP (.t rfl)) rfl (RL.u (.fldA (q := ⟨b, 1, none⟩) (.t rfl) (fun w => by kernel_rfl)) rfl ?_)
 refine RL.storeS (v := v6) hS9 (hS9.sl (i := 1) rfl) (i := 0) rfl (.t rfl) (.t rfl) Tryz.sizeOf63 rfl (cs' := [(selfP b), v6, (.bool ln)]) rfl (Hs' := (.box b [(selfP b), v6, (.bool ln)] 67 :: .own 5 1 v6 (l ++ ints s).length ((l ++ ints s).flatMap u8I) :: Rs)) rfl (fun w11 hS12 => (RL.nil (CW.id ?_)))
 refine CW.sr (RL.m rfl rfl (RL.u (.lenS (.t rfl) Tryz.underlying9) rfl (RL.a rfl rfl (RL.u (.assign .c) rfl (RL.nil (CW.id (CW.ret (hE.r2 rfl rfl rfl ?_))))))))
 exact ⟨_, rfl, _, M8, hS12, hle10⟩

/- (*loupe/text.printer).line -/
theorem line_c {w wv : World} {M0 M : Mem} {Rs : List HO} (b : Nat) (l : List Int) (ln : Bool) (d : Int) (v : Value) (hS : St w M0 wv M (.box b [(selfP b), v, (.bool ln)] 67 :: .own 5 1 v l.length (l.flatMap u8I) :: Rs)) (h0 : 0 ≤ d ∧ d ≤ 1000000) (hl : len l ≤ 17592186044416) :
  Calls Tryz.prog 55 [(.pointer (some ⟨b, 0, none⟩)), (i64 d)].toArray wv fun e w' => ∃ u, e = .returned u ∧ ∃ v' M', St w M0 w' M' (.box b [selfP b, v', .bool ln] 67 :: .own 5 1 v' (l ++ ints (lineP ln d)).length ((l ++ ints (lineP ln d)).flatMap u8I) :: Rs) ∧ M.le M' := by
 refine CW.enter1 Tryz.func55 rfl Tryz.ntmps55 (Nat.le_of_ble_eq_true rfl) fun Q hE => ?_
 have := len_nonneg l
 have htw := twoN_len d.toNat
 refine CW.weaken [0, 1] (L' := [Y 0 (.pointer (some ⟨b, 0, none⟩)), Y 1 (i64 d)]) ?_ rfl
 refine CW.sr (RL.m rfl rfl (RL.u (.nilP (.t rfl)) rfl (RL.u (.fldA (q := ⟨b, 2, none⟩) (.t rfl) (fun w => by kernel_rfl)) rfl (RL.u (.loadB1 (v := (.bool ln)) hS extEq (i := 0) rfl (.t rfl) Tryz.isAgg4 rfl) rfl (RL.nil (CW.id ?_))))))
 refine CW.cond rfl ?_ ?_ <;> intro hb1 <;> try simp only [zb] at hb1
 ·refine CW.sr (RL.m rfl rfl (RL.u (.nilP (.t rfl)) rfl (RL.u (.fldA (q := ⟨b, 0, none⟩) (.t rfl) (fun w => by kernel_rfl)) rfl ?_)))
  replace hS := (hS.front 1 rfl rfl).front 1 rfl rfl
  refine RL.callP Tryz.call54 (.cons (.t rfl) (.cons .c .nil)) (writeStringE_c (Rs := Rs) b ((selfP b)) l ln [10] v hS (by first | exact Or.inr rfl | exact Or.inl rfl | assumption) (by first | omega | (simp only [len_app, len_cons, len_nil, ints_len]; omega) | (simp only [len_app, len_cons, len_nil, ints_len] at *; omega)) (by first | omega | (simp only [len_cons, len_nil]; omega) | decide | assumption)) rfl ?_
  rintro v2 w3 ⟨vb1, M4, hS5, hle6⟩
  refine RL.nil (CW.at [Y 0 (.pointer (some ⟨b, 0, none⟩)), Y 1 (i64 d)] rfl (CW.weaken [0, 1] (L' := [Y 0 (.pointer (some ⟨b, 0, none⟩)), Y 1 (i64 d)]) ?_ rfl))
  replace hS5 := (hS5.front 1 rfl rfl).front 1 rfl rfl
  refine CW.regionG (HsQ := [.box b [(selfP b), vb1, (.bool ln)] 67, .own 5 1 vb1 (l ++ ints [10]).length ((l ++ ints [10]).flatMap u8I)]) 5 [.is true (.pointer (some ⟨b, 0, none⟩)), .is true (.pointer (some ⟨b, 0, none⟩)), .is true (.pointer (some ⟨b, 0, none⟩)), .is true (i64 d), .is true (str (twoN ((d : Int)).toNat)), .any] [] Rs [none, none, none, none, none] hS5 tryz_mixed [0, 1] rfl (by decide +kernel) (by decide +kernel) rfl rfl (by decide +kernel) (by decide +kernel) [] rfl (by decide +kernel) (.cons ?_ (.cons ?_ (.cons ?_ (.cons ?_ (.cons ?_ (.cons ?_ (.nil)))))))
  ·intro LL w7 M8 X hle10 hS9 hK hD
   refine RL.u (.move (.t (hK _ _ rfl))) rfl ?_
   exact RL.nil (RA.next fun a hs => ⟨_, _, Mem.le.refl _, hS9, hs, _, _, rfl, rfl, rfl⟩)
  ·intro LL w11 M12 X hle14 hS13 hK hD
   obtain ⟨g12, v12, hl12, rfl, rfl⟩ := hD 0 (by decide +kernel)
   refine RL.u (.nilP (.t hl12)) rfl ?_
   exact RL.nil (RA.next fun a hs => ⟨_, _, Mem.le.refl _, hS13, hs, _, _, rfl, rfl, rfl⟩)
  ·intro LL w15 M16 X hle18 hS17 hK hD
   obtain ⟨g13, v13, hl13, rfl, rfl⟩ := hD 1 (by decide +kernel)
   refine RL.u (.fldA (q := ⟨b, 0, none⟩) (.t hl13) (fun w => by kernel_rfl)) rfl ?_
   exact RL.nil (RA.next fun a hs => ⟨_, _, Mem.le.refl _, hS17, hs, _, _, rfl, rfl, rfl⟩)
  ·intro LL w19 M20 X hle22 hS21 hK hD
   refine RL.u (.move (.t (hK _ _ rfl))) rfl ?_
   exact RL.nil (RA.next fun a hs => ⟨_, _, Mem.le.refl _, hS21, hs, _, _, rfl, rfl, rfl⟩)
  ·intro LL w23 M24 X hle26 hS25 hK hD
   obtain ⟨g15, v15, hl15, rfl, rfl⟩ := hD 3 (by decide +kernel)
   refine RL.callE hS25 .none Tryz.call82 (.cons .c (.cons (.t hl15) .nil)) (fun _ => (repeat2_c d _ (by omega) (by omega))) rfl (fun w27 hS28 => ?_)
   exact RL.nil (RA.next fun a hs => ⟨_, _, Mem.le.refl _, hS28, hs, _, _, rfl, rfl, rfl⟩)
  ·intro LL w29 M30 X hle32 hS31 hK hD hX
   obtain rfl : Rs = X := Eq.symm hX
   obtain ⟨g14, v14, hl14, rfl, rfl⟩ := hD 2 (by decide)
   obtain ⟨g16, v16, hl16, rfl, rfl⟩ := hD 4 (by decide)
   replace hS31 := (hS31.front 1 rfl rfl).front 1 rfl rfl
   refine RL.callP Tryz.call54 (.cons (.t hl14) (.cons (.t hl16) .nil)) (writeStringE_c (Rs := Rs) b ((selfP b)) (l ++ ints [10]) ln (twoN ((d : Int)).toNat) vb1 hS31 (by first | exact Or.inr rfl | exact Or.inl rfl | assumption) (by first | omega | (simp only [len_app, len_cons, len_nil, ints_len]; omega) | (simp only [len_app, len_cons, len_nil, ints_len] at *; omega)) (by first | omega | (simp only [len_cons, len_nil]; omega) | decide | assumption)) rfl ?_
   rintro v34 w35 ⟨vb33, M36, hS37, hle38⟩
   refine RL.nil (slots_sub (E := [Y 0 (.pointer (some ⟨b, 0, none⟩)), Y 1 (i64 d)]) (.cons (hK _ _ rfl) (.cons (hK _ _ rfl) .nil)) ?_)
   refine  (hE.e0 rfl ?_)
   refine ⟨_, rfl, vb33, M36, ?_, ((hle6.trans hle32).trans hle38)⟩
   have hq : l ++ ints (lineP ln d) = (l ++ ints [10]) ++ ints (twoN ((d : Int)).toNat) := by
    simp [lineP, hb1, ints, twoN]
   rw [hq]; exact hS37
 ·refine CW.skip (hE.e0 rfl ?_)
  refine ⟨_, rfl, v, M, ?_, (Mem.le.refl _)⟩
  have hq : l ++ ints (lineP ln d) = l := by
   simp [lineP, hb1, ints, twoN]
  rw [hq]; exact hS

/- (*loupe/text.printer).scalar -/
theorem scalar_c {w wv : World} {M0 M : Mem} {Rs : List HO} (b : Nat) (a : Value) (l : List Int) (ln : Bool) (n : Nd) (v : Value) (hS : St w M0 wv M (.box b [a, v, (.bool ln)] 67 :: .own 5 1 v l.length (l.flatMap u8I) :: Rs)) (ha : a = .pointer none ∨ a = selfP b) (hl : len l ≤ 35184372088832) (hn : len n.s ≤ 1099511627776) (hx : -1000000 ≤ n.e ∧ n.e ≤ 1000000) (hg : Gl w) (hp : len (scalarP n) ≤ 35184372088832) :
  Calls Tryz.prog 53 [(.pointer (some ⟨b, 0, none⟩)), (ndV n)].toArray wv fun e w' => ∃ u, e = .returned u ∧ ∃ v' M', St w M0 w' M' (.box b [selfP b, v', .bool ln] 67 :: .own 5 1 v' (l ++ ints (scalarP n)).length ((l ++ ints (scalarP n)).flatMap u8I) :: Rs) ∧ M.le M' := by
 refine CW.enter1 Tryz.func53 rfl Tryz.ntmps53 (Nat.le_of_ble_eq_true rfl) fun Q hE => ?_
 refine CW.weaken [0, 1] (L' := [Y 0 (.pointer (some ⟨b, 0, none⟩)), Y 1 (ndV n)]) ?_ rfl
 refine CW.sr ?_
 refine RL.box (v := (ndV n)) hS (.t rfl) rfl (fun w1 b2 hS3 => (RL.nil (CW.id ?_)))
 refine CW.sr (RL.u (.fldA (q := ⟨b2, 0, none⟩) (.t rfl) (fun w => by kernel_rfl)) rfl (RL.u (.loadB1 (v := (i64 n.kind)) hS3 extEq (i := 0) rfl (.t rfl) Tryz.isAgg3 rfl) rfl (RL.nil (CW.id (CW.block ?_)))))
 refine CW.sr (RL.u (.eql (.t rfl) .c) rfl (RL.a rfl rfl (RL.nil (CW.id ?_))))
 refine CW.cond rfl ?_ ?_ <;> intro hb1 <;> try simp only [zb] at hb1
 ·refine CW.region (RL.m rfl rfl (RL.u (.nilP (.t rfl)) rfl (RL.u (.fldA (q := ⟨b, 0, none⟩) (.t rfl) (fun w => by kernel_rfl)) rfl ?_)))
  replace hS3 := (hS3.front 2 rfl rfl).front 2 rfl rfl
  refine RL.callP Tryz.call54 (.cons (.t rfl) (.cons .c .nil)) (writeStringE_c (Rs := (.box b2 (ndC n []) 38 :: Rs)) b a l ln [110, 117, 108, 108] v hS3 (by first | exact Or.inr rfl | exact Or.inl rfl | assumption) (by first | omega | (simp only [len_app, len_cons, len_nil, ints_len]; omega) | (simp only [len_app, len_cons, len_nil, ints_len] at *; omega)) (by first | omega | (simp only [len_cons, len_nil]; omega) | decide | assumption)) rfl ?_
  rintro v5 w6 ⟨vb4, M7, hS8, hle9⟩
  replace hS8 := hS8.erase 2 rfl
  refine RL.nil (hE.e0 rfl ?_)
  clear hE
  refine ⟨_, rfl, vb4, M7, ?_, hle9⟩
  have hq : scalarP n = [110, 117, 108, 108] := by
   unfold scalarP; simp_all
  rw [hq]; exact hS8
 ·refine CW.sr (RL.u (.eql (.t rfl) .c) rfl (RL.a rfl rfl (RL.nil (CW.at [Y 0 (.pointer (some ⟨b, 0, none⟩)), Y 3 (.pointer (some ⟨b2, 0, none⟩)), Y 5 (i64 n.kind), Y 19 (.bool (n.kind == 1))] rfl ?_))))
  refine CW.cond rfl ?_ ?_ <;> intro hb2 <;> try simp only [zb] at hb2
  ·refine CW.region (RL.m rfl rfl (RL.u (.nilP (.t rfl)) rfl (RL.u (.fldA (q := ⟨b, 0, none⟩) (.t rfl) (fun w => by kernel_rfl)) rfl ?_)))
   replace hS3 := (hS3.front 2 rfl rfl).front 2 rfl rfl
   refine RL.callP Tryz.call54 (.cons (.t rfl) (.cons .c .nil)) (writeStringE_c (Rs := (.box b2 (ndC n []) 38 :: Rs)) b a l ln [102, 97, 108, 115, 101] v hS3 (by first | exact Or.inr rfl | exact Or.inl rfl | assumption) (by first | omega | (simp only [len_app, len_cons, len_nil, ints_len]; omega) | (simp only [len_app, len_cons, len_nil, ints_len] at *; omega)) (by first | omega | (simp only [len_cons, len_nil]; omega) | decide | assumption)) rfl ?_
   rintro v11 w12 ⟨vb10, M13, hS14, hle15⟩
   replace hS14 := hS14.erase 2 rfl
   refine RL.nil (hE.e0 rfl ?_)
   clear hE
   refine ⟨_, rfl, vb10, M13, ?_, hle15⟩
   have hq : scalarP n = [102, 97, 108, 115, 101] := by
    unfold scalarP; simp_all
   rw [hq]; exact hS14
  ·refine CW.sr (RL.u (.eql (.t rfl) .c) rfl (RL.a rfl rfl (RL.nil (CW.at [Y 0 (.pointer (some ⟨b, 0, none⟩)), Y 3 (.pointer (some ⟨b2, 0, none⟩)), Y 5 (i64 n.kind), Y 25 (.bool (n.kind == 2))] rfl ?_))))
   refine CW.cond rfl ?_ ?_ <;> intro hb3 <;> try simp only [zb] at hb3
   ·refine CW.region (RL.m rfl rfl (RL.u (.nilP (.t rfl)) rfl (RL.u (.fldA (q := ⟨b, 0, none⟩) (.t rfl) (fun w => by kernel_rfl)) rfl ?_)))
    replace hS3 := (hS3.front 2 rfl rfl).front 2 rfl rfl
    refine RL.callP Tryz.call54 (.cons (.t rfl) (.cons .c .nil)) (writeStringE_c (Rs := (.box b2 (ndC n []) 38 :: Rs)) b a l ln [116, 114, 117, 101] v hS3 (by first | exact Or.inr rfl | exact Or.inl rfl | assumption) (by first | omega | (simp only [len_app, len_cons, len_nil, ints_len]; omega) | (simp only [len_app, len_cons, len_nil, ints_len] at *; omega)) (by first | omega | (simp only [len_cons, len_nil]; omega) | decide | assumption)) rfl ?_
    rintro v17 w18 ⟨vb16, M19, hS20, hle21⟩
    replace hS20 := hS20.erase 2 rfl
    refine RL.nil (hE.e0 rfl ?_)
    clear hE
    refine ⟨_, rfl, vb16, M19, ?_, hle21⟩
    have hq : scalarP n = [116, 114, 117, 101] := by
     unfold scalarP; simp_all
    rw [hq]; exact hS20
   ·refine CW.sr (RL.u (.eql (.t rfl) .c) rfl (RL.a rfl rfl (RL.nil (CW.at [Y 0 (.pointer (some ⟨b, 0, none⟩)), Y 3 (.pointer (some ⟨b2, 0, none⟩)), Y 31 (.bool (n.kind == 3))] rfl ?_))))
    refine CW.cond rfl ?_ ?_ <;> intro hb4 <;> try simp only [zb] at hb4
    ·have hp2 : len (print1 n) ≤ 35184372088832 := by simpa [scalarP, hb4] using hp
     refine CW.weaken [0, 3] (L' := [Y 0 (.pointer (some ⟨b, 0, none⟩)), Y 3 (.pointer (some ⟨b2, 0, none⟩))]) ?_ rfl
     replace hS3 := (hS3.front 2 rfl rfl).front 2 rfl rfl
     replace hS3 := hS3.front 2 rfl rfl
     refine CW.regionG (HsQ := [.box b2 (ndC n []) 38, .box b [a, v, (.bool ln)] 67, .own 5 1 v l.length (l.flatMap u8I)]) 5 [.is true (.pointer (some ⟨b, 0, none⟩)), .is true (.pointer (some ⟨b, 0, none⟩)), .is true (.pointer (some ⟨b, 0, none⟩)), .is true (ndV n), .is true (str (print1 n)), .any] [] Rs [none, none, none, none, none] hS3 tryz_mixed [0, 3] rfl (by decide +kernel) (by decide +kernel) rfl rfl (by decide +kernel) (by decide +kernel) [] rfl (by decide +kernel) (.cons ?_ (.cons ?_ (.cons ?_ (.cons ?_ (.cons ?_ (.cons ?_ (.nil)))))))
     ·intro LL w22 M23 X hle25 hS24 hK hD
      refine RL.u (.move (.t (hK _ _ rfl))) rfl ?_
      exact RL.nil (RA.next fun a hs => ⟨_, _, Mem.le.refl _, hS24, hs, _, _, rfl, rfl, rfl⟩)
     ·intro LL w26 M27 X hle29 hS28 hK hD
      obtain ⟨g33, v33, hl33, rfl, rfl⟩ := hD 0 (by decide +kernel)
      refine RL.u (.nilP (.t hl33)) rfl ?_
      exact RL.nil (RA.next fun a hs => ⟨_, _, Mem.le.refl _, hS28, hs, _, _, rfl, rfl, rfl⟩)
     ·intro LL w30 M31 X hle33 hS32 hK hD
      obtain ⟨g34, v34, hl34, rfl, rfl⟩ := hD 1 (by decide +kernel)
      refine RL.u (.fldA (q := ⟨b, 0, none⟩) (.t hl34) (fun w => by kernel_rfl)) rfl ?_
      exact RL.nil (RA.next fun a hs => ⟨_, _, Mem.le.refl _, hS32, hs, _, _, rfl, rfl, rfl⟩)
     ·intro LL w34 M35 X hle37 hS36 hK hD
      refine RL.u (.loadBN (vs := (ndC n [])) hS36 extEq (i := 0) rfl (.t (hK _ _ rfl)) Tryz.isAgg38 Tryz.sizeOf38 rfl rfl) rfl ?_
      exact RL.nil (RA.next fun a hs => ⟨_, _, Mem.le.refl _, hS36, hs, _, _, rfl, rfl, rfl⟩)
     ·intro LL w38 M39 X hle41 hS40 hK hD
      obtain ⟨g36, v36, hl36, rfl, rfl⟩ := hD 3 (by decide +kernel)
      refine RL.callE hS40 .none Tryz.call80 (.cons (.t hl36) .nil) (fun _ => (print_c n _ (hg.low hS40.low) (by omega) (by omega))) rfl (fun w42 hS43 => ?_)
      exact RL.nil (RA.next fun a hs => ⟨_, _, Mem.le.refl _, hS43, hs, _, _, rfl, rfl, rfl⟩)
     ·intro LL w44 M45 X hle47 hS46 hK hD hX
      obtain rfl : Rs = X := Eq.symm hX
      obtain ⟨g35, v35, hl35, rfl, rfl⟩ := hD 2 (by decide)
      obtain ⟨g37, v37, hl37, rfl, rfl⟩ := hD 4 (by decide)
      replace hS46 := (hS46.front 2 rfl rfl).front 2 rfl rfl
      refine RL.callP Tryz.call54 (.cons (.t hl35) (.cons (.t hl37) .nil)) (writeStringE_c (Rs := (.box b2 (ndC n []) 38 :: Rs)) b a l ln (print1 n) v hS46 (by first | exact Or.inr rfl | exact Or.inl rfl | assumption) (by omega) (by omega)) rfl ?_
      rintro v49 w50 ⟨vb48, M51, hS52, hle53⟩
      refine RL.nil (slots_sub (E := [Y 0 (.pointer (some ⟨b, 0, none⟩)), Y 3 (.pointer (some ⟨b2, 0, none⟩))]) (.cons (hK _ _ rfl) (.cons (hK _ _ rfl) .nil)) ?_)
      replace hS52 := hS52.erase 2 rfl
      refine  (hE.e0 rfl ?_)
      clear hE
      refine ⟨_, rfl, vb48, M51, ?_, (hle47.trans hle53)⟩
      have hq : scalarP n = print1 n := by
       unfold scalarP; simp_all
      rw [hq]; exact hS52
    ·have hp2 : len (quoteP n.s) ≤ 35184372088832 := by simpa [scalarP, hb1, hb2, hb3, hb4] using hp
     refine CW.weaken [0, 3] (L' := [Y 0 (.pointer (some ⟨b, 0, none⟩)), Y 3 (.pointer (some ⟨b2, 0, none⟩))]) ?_ rfl
     replace hS3 := (hS3.front 2 rfl rfl).front 2 rfl rfl
     replace hS3 := hS3.front 2 rfl rfl
     refine CW.regionG (HsQ := [.box b2 (ndC n []) 38, .box b [a, v, (.bool ln)] 67, .own 5 1 v l.length (l.flatMap u8I)]) 6 [.is true (.pointer (some ⟨b, 0, none⟩)), .is true (.pointer (some ⟨b, 0, none⟩)), .is true (.pointer (some ⟨b, 0, none⟩)), .is true (.pointer (some ⟨b2, 3, none⟩)), .is true (str n.s), .is true (str (quoteP n.s)), .any] [] Rs [none, none, none, none, none, none] hS3 tryz_mixed [0, 3] rfl (by decide +kernel) (by decide +kernel) rfl rfl (by decide +kernel) (by decide +kernel) [] rfl (by decide +kernel) (.cons ?_ (.cons ?_ (.cons ?_ (.cons ?_ (.cons ?_ (.cons ?_ (.cons ?_ (.nil))))))))
     ·intro LL w54 M55 X hle57 hS56 hK hD
      refine RL.u (.move (.t (hK _ _ rfl))) rfl ?_
      exact RL.nil (RA.next fun a hs => ⟨_, _, Mem.le.refl _, hS56, hs, _, _, rfl, rfl, rfl⟩)
     ·intro LL w58 M59 X hle61 hS60 hK hD
      obtain ⟨g6, v6, hl6, rfl, rfl⟩ := hD 0 (by decide +kernel)
      refine RL.u (.nilP (.t hl6)) rfl ?_
      exact RL.nil (RA.next fun a hs => ⟨_, _, Mem.le.refl _, hS60, hs, _, _, rfl, rfl, rfl⟩)
     ·intro LL w62 M63 X hle65 hS64 hK hD
      obtain ⟨g7, v7, hl7, rfl, rfl⟩ := hD 1 (by decide +kernel)
      refine RL.u (.fldA (q := ⟨b, 0, none⟩) (.t hl7) (fun w => by kernel_rfl)) rfl ?_
      exact RL.nil (RA.next fun a hs => ⟨_, _, Mem.le.refl _, hS64, hs, _, _, rfl, rfl, rfl⟩)
     ·intro LL w66 M67 X hle69 hS68 hK hD
      refine RL.u (.fldA (q := ⟨b2, 3, none⟩) (.t (hK _ _ rfl)) (fun w => by kernel_rfl)) rfl ?_
      exact RL.nil (RA.next fun a hs => ⟨_, _, Mem.le.refl _, hS68, hs, _, _, rfl, rfl, rfl⟩)
     ·intro LL w70 M71 X hle73 hS72 hK hD
      obtain ⟨g9, v9, hl9, rfl, rfl⟩ := hD 3 (by decide +kernel)
      refine RL.u (.loadB1 (v := (str n.s)) hS72 extEq (i := 0) rfl (.t hl9) Tryz.isAgg9 rfl) rfl ?_
      exact RL.nil (RA.next fun a hs => ⟨_, _, Mem.le.refl _, hS72, hs, _, _, rfl, rfl, rfl⟩)
     ·intro LL w74 M75 X hle77 hS76 hK hD
      obtain ⟨g10, v10, hl10, rfl, rfl⟩ := hD 4 (by decide +kernel)
      refine RL.callE hS76 .none Tryz.call56 (.cons (.t hl10) .nil) (fun _ => (quote_c n.s _ (hg.low hS76.low) (by omega))) rfl (fun w78 hS79 => ?_)
      exact RL.nil (RA.next fun a hs => ⟨_, _, Mem.le.refl _, hS79, hs, _, _, rfl, rfl, rfl⟩)
     ·intro LL w80 M81 X hle83 hS82 hK hD hX
      obtain rfl : Rs = X := Eq.symm hX
      obtain ⟨g8, v8, hl8, rfl, rfl⟩ := hD 2 (by decide)
      obtain ⟨g11, v11, hl11, rfl, rfl⟩ := hD 5 (by decide)
      replace hS82 := (hS82.front 2 rfl rfl).front 2 rfl rfl
      refine RL.callP Tryz.call54 (.cons (.t hl8) (.cons (.t hl11) .nil)) (writeStringE_c (Rs := (.box b2 (ndC n []) 38 :: Rs)) b a l ln (quoteP n.s) v hS82 (by first | exact Or.inr rfl | exact Or.inl rfl | assumption) (by omega) (by omega)) rfl ?_
      rintro v85 w86 ⟨vb84, M87, hS88, hle89⟩
      refine RL.nil (slots_sub (E := [Y 0 (.pointer (some ⟨b, 0, none⟩)), Y 3 (.pointer (some ⟨b2, 0, none⟩))]) (.cons (hK _ _ rfl) (.cons (hK _ _ rfl) .nil)) ?_)
      replace hS88 := hS88.erase 2 rfl
      refine  (hE.e0 rfl ?_)
      clear hE
      refine ⟨_, rfl, vb84, M87, ?_, (hle83.trans hle89)⟩
      have hq : scalarP n = quoteP n.s := by
       unfold scalarP; simp_all
      rw [hq]; exact hS88

end Go.Proofs.YtjfaikgooldcbaaGreatDoor
