import Derived.Test.YthdialbnlnjgpaaGreatDoorEngL
import Derived.Laws.BitsLemmas
import Derived.Test.YthdialbnlnjgpaaGreatDoorPure
import Derived.Test.YthdialbnlnjgpaaGreatDoorProg
import Derived.Test.YthdialbnlnjgpaaGreatDoorR7
set_option linter.unusedVariables false
set_option linter.unusedSimpArgs false
namespace Go.Proofs.YthdialbnlnjgpaaGreatDoor
open Go.Eng

/- loupe/louperef08.Lex -/
set_option maxRecDepth 100000 in
theorem lexR_c (M : Mem) (s : Str) (w : World) (hM : Sat w M) (hb : len s ≤ 1099511627776) :
  Calls Tryz.prog 10 [(str s)].toArray w fun e w' => ∃ v M', e = .returned v ∧ (∃ u, v = .tuple #[u, i64 (lexP s).2.1, i64 (lexP s).2.2] ∧ Sl M' 9 (lexP s).1.length u ((lexP s).1.flatMap Tk.cells)) ∧ Grow w M w' M' := by
 refine CW.enter Tryz.func10 rfl Tryz.ntmps10 (Nat.le_of_ble_eq_true rfl) ?_
 have := len_nonneg s
 have hbt := blankTo_bd s 0 (Int.le_refl 0) this
 have hS : St w M w M [] := St.start hM
 refine CW.weaken [0] (L' := [Y 0 (str s)]) ?_ rfl
 refine CW.sr ?_
 have hS1 := hS.ownNil 33 9
 replace hS1 : St w M w M [.own 33 9 (.slice none 0 0) (([] : List Tk)).length ((([] : List Tk)).flatMap Tk.cells)] := hS1
 refine RL.u (.assign .c) rfl (RL.u (.assign .c) rfl (RL.u (.assign .c) rfl ?_))
 refine RL.nil (CW.at [Y 0 (str s)] rfl ?_)
 refine CW.sr ?_
 refine RL.buildSlice (n := 0) (sz := 9) (e := 33) (vs := []) (cs := []) hS1 .nil rfl rfl (fun w => by kernel_rfl) rfl (fun v2 w3 M4 hS5 hle6 => ?_)
 replace hS5 : St w M w3 M4 [.own 33 9 (v2) (([] : List Tk)).length ((([] : List Tk)).flatMap Tk.cells), .own 33 9 (.slice none 0 0) (([] : List Tk)).length ((([] : List Tk)).flatMap Tk.cells)] := hS5
 refine RL.a rfl rfl ?_
 refine RL.nil (CW.at [Y 0 (str s), Y 5 (v2)] rfl ?_)
 refine CW.sr ?_
 refine RL.m rfl rfl ?_
 refine RL.callS .none Tryz.call17 (.cons (.t rfl) (.cons .c .nil)) (fun _ => (blank_c (s) (0) _ (by omega) (by omega) (by omega))) rfl ?_
 refine RL.a rfl rfl ?_
 refine RL.nil (CW.at [Y 0 (str s), Y 5 (v2), Y 6 (i64 (blankTo (s) (0)))] rfl ?_)
 refine CW.seq ?_
 refine CW.block ?_
 refine CW.loop (σ := Nat × Int × List Tk × Value × Mem) (fun (f, i, acc, va, Ml) => [Y 0 (str s), Y 5 (va), Y 6 (i64 i)]) (fun (f, i, acc, va, Ml) wl => St w M wl Ml [.own 33 9 (va) (acc).length ((acc).flatMap Tk.cells), .own 33 9 (.slice none 0 0) (([] : List Tk)).length ((([] : List Tk)).flatMap Tk.cells)] ∧ 0 ≤ i ∧ i ≤ len s ∧ lexGo f s i acc = lexP s ∧ (len s - i).toNat ≤ f ∧ len acc ≤ i) (fun (f, i, acc, va, Ml) => (len s - i).toNat) ((s.length, blankTo s 0, [], v2, M4)) [0, 5, 6] rfl ?_ ?_
 ·refine ⟨hS5, ?_⟩; exact ⟨by omega, by omega, rfl, by unfold len; omega, by rw [len_nil]; omega⟩
 ·rintro ⟨f, i, acc, va, Ml⟩ wl ⟨hS7, h0, h1, hF, hf, hacc⟩
  refine CW.seq ?_
  refine CW.sr ?_
  refine RL.m rfl rfl (RL.m rfl rfl (RL.u (.lenS (.t rfl) Tryz.underlying9) rfl (RL.u (.lss (.t rfl) (.t rfl)) rfl ?_)))
  refine RL.nil (CW.at [Y 0 (str s), Y 5 (va), Y 6 (i64 i), Y 14 (.bool (decide ((i) < (len (s)))))] rfl ?_)
  refine CW.cond rfl (fun hb1 => ?_) (fun hb1 => ?_)
  ·try simp only [zb] at hb1
   refine CW.skip (CW.at [Y 0 (str s), Y 5 (va), Y 6 (i64 i)] rfl ?_)
   refine CW.block ?_
   refine CW.sr ?_
   refine RL.m rfl rfl (RL.m rfl rfl ?_)
   refine RL.callE hS7 .none Tryz.call18 (.cons (.t rfl) (.cons (.t rfl) .nil)) (fun _ => (token8_c (s) (i) _ (by omega) (by omega) (by omega))) rfl (fun w8 hS9 => ?_)
   refine RL.alloc hS9 Tryz.zeroValue57 rfl (fun w10 b11 hS12 => ?_)
   replace hS12 : St w M w10 Ml [.box b11 [(i64 0), (str []), (i64 0), (i64 0), (str []), (str []), (.bool false), (i64 0), (i64 0), (i64 0), (i64 0)] 57, .own 33 9 (va) (acc).length ((acc).flatMap Tk.cells), .own 33 9 (.slice none 0 0) (([] : List Tk)).length ((([] : List Tk)).flatMap Tk.cells)] := hS12
   refine RL.st hS12 (i := 0) rfl (.t rfl) (.t rfl) Tryz.sizeOf57 rfl rfl rfl (Hs' := [.box b11 (tkC ((gotOf (tokP (from' (s) (i))) (i)).1) ((i64 ((gotOf (tokP (from' (s) (i))) (i)).2.1)) :: ((i64 ((gotOf (tokP (from' (s) (i))) (i)).2.2)) :: []))) 57, .own 33 9 (va) (acc).length ((acc).flatMap Tk.cells), .own 33 9 (.slice none 0 0) (([] : List Tk)).length ((([] : List Tk)).flatMap Tk.cells)]) rfl rfl (fun w13 hS14 => ?_)
   refine RL.nil (CW.at [Y 0 (str s), Y 5 (va), Y 7 (.pointer (some ⟨b11, 0, none⟩))] rfl ?_)
   refine CW.seq ?_
   refine CW.sr ?_
   refine RL.u (.fldA (q := ⟨b11, 10, none⟩) (.t rfl) (fun w => by kernel_rfl)) rfl (RL.u (.loadB1 (v := (i64 ((gotOf (tokP (from' (s) (i))) (i)).2.2))) hS14 extEq (i := 0) rfl (.t rfl) Tryz.isAgg24 rfl) rfl (RL.u (.neq (.t rfl) .c) rfl ?_))
   refine RL.nil (CW.at [Y 0 (str s), Y 5 (va), Y 7 (.pointer (some ⟨b11, 0, none⟩)), Y 20 (.bool (((gotOf (tokP (from' (s) (i))) (i)).2.2) != (0)))] rfl ?_)
   refine CW.cond rfl (fun hb2 => ?_) (fun hb2 => ?_)
   ·try simp only [zb] at hb2
    refine CW.seq ?_
    refine CW.regionD hS14 tryz_mixed (by decide +kernel) ?_
    refine RQ.v .none (.fldA (q := ⟨b11, 9, none⟩) (.t rfl) (fun w => by kernel_rfl)) rfl ?_
    refine RQ.v .none (.loadB1 (v := (i64 ((gotOf (tokP (from' (s) (i))) (i)).2.1))) hS14 (fun _ h => h) (i := 0) rfl (.t rfl) Tryz.isAgg3 rfl) rfl ?_
    refine RQ.v .none (.fldA (q := ⟨b11, 10, none⟩) (.t rfl) (fun w => by kernel_rfl)) rfl ?_
    refine RQ.v .none (.loadB1 (v := (i64 ((gotOf (tokP (from' (s) (i))) (i)).2.2))) hS14 (fun _ h => h) (i := 0) rfl (.t rfl) Tryz.isAgg24 rfl) rfl ?_
    refine RQ.v .none (.assign .c) rfl ?_
    refine RQ.v .none (.assign (.t rfl)) rfl ?_
    refine RQ.v .none (.assign (.t rfl)) rfl ?_
    refine RQ.nil (fun a hs w15 hS16 => CW.at [Y 2 (.slice none 0 0), Y 3 (i64 ((gotOf (tokP (from' (s) (i))) (i)).2.1)), Y 4 (i64 ((gotOf (tokP (from' (s) (i))) (i)).2.2))] rfl ?_ a hs)
    refine CW.ret (ret3 (P := Tryz.prog) (fn := Tryz.f10) (R := fun e w' => ∃ v M', e = .returned v ∧ (∃ u, v = .tuple #[u, i64 (lexP s).2.1, i64 (lexP s).2.2] ∧ Sl M' 9 (lexP s).1.length u ((lexP s).1.flatMap Tk.cells)) ∧ Grow w M w' M') rfl rfl rfl rfl ?_)
    have hq : lexP s = ([], (gotOf (tokP (from' s i)) i).2.1, (gotOf (tokP (from' s i)) i).2.2) := by rw [← hF, lexGo_err hf hb1 hb2]
    exact ⟨_, _, rfl, ⟨_, by rw [hq], by rw [hq]; exact Sl.nil _ 9⟩, hS16.done⟩
   ·try simp only [zb] at hb2
    have hgb := gotOf_bd (s := s) (i := i) h0 hb1
    have hgb2 := hgb.2.2 hb2
    have hbb := blankTo_bd s (gotOf (tokP (from' s i)) i).2.1 (by omega) (by omega)
    refine CW.skip (CW.at [Y 0 (str s), Y 5 (va), Y 7 (.pointer (some ⟨b11, 0, none⟩))] rfl ?_)
    refine CW.sr ?_
    refine RL.m rfl rfl (RL.u (.fldA (q := ⟨b11, 0, none⟩) (.t rfl) (fun w => by kernel_rfl)) rfl (RL.u (.loadBN (vs := (tkC ((gotOf (tokP (from' (s) (i))) (i)).1) [])) hS14 extEq (i := 0) rfl (.t rfl) Tryz.isAgg33 Tryz.sizeOf33 rfl rfl) rfl ?_))
    refine RL.buildSlice (n := 1) (sz := 9) (e := 33) (vs := [(0, (tkV ((gotOf (tokP (from' (s) (i))) (i)).1)))]) (cs := [(i64 (((gotOf (tokP (from' (s) (i))) (i)).1).kind)), (str (((gotOf (tokP (from' (s) (i))) (i)).1).s)), (i64 (((gotOf (tokP (from' (s) (i))) (i)).1).c.kind)), (i64 (((gotOf (tokP (from' (s) (i))) (i)).1).c.many)), (str (((gotOf (tokP (from' (s) (i))) (i)).1).c.name)), (str (((gotOf (tokP (from' (s) (i))) (i)).1).c.s)), (.bool (((gotOf (tokP (from' (s) (i))) (i)).1).c.neg)), (i64 (((gotOf (tokP (from' (s) (i))) (i)).1).c.e)), (i64 (((gotOf (tokP (from' (s) (i))) (i)).1).pos))]) hS14 (.cons (.t rfl) .nil) rfl rfl (fun w => by kernel_rfl) rfl (fun v17 w18 M19 hS20 hle21 => ?_)
    replace hS20 : St w M w18 M19 [.own 33 9 (v17) (([(gotOf (tokP (from' (s) (i))) (i)).1] : List Tk)).length ((([(gotOf (tokP (from' (s) (i))) (i)).1] : List Tk)).flatMap Tk.cells), .box b11 (tkC ((gotOf (tokP (from' (s) (i))) (i)).1) ((i64 ((gotOf (tokP (from' (s) (i))) (i)).2.1)) :: ((i64 ((gotOf (tokP (from' (s) (i))) (i)).2.2)) :: []))) 57, .own 33 9 (va) (acc).length ((acc).flatMap Tk.cells), .own 33 9 (.slice none 0 0) (([] : List Tk)).length ((([] : List Tk)).flatMap Tk.cells)] := hS20
    refine RL.append1 (f := Tk.cells) (l := acc) (y := (gotOf (tokP (from' (s) (i))) (i)).1) hS20 (k := 2) rfl (.t rfl) (.t rfl) (hS20.sl (i := 0) rfl) Tryz.underlying23 Tryz.type33 rfl rfl rfl Tk.cells_one (by' := 96) rfl rfl (by omega) rfl (Hs' := fun v' => [.own 33 9 (v17) (([(gotOf (tokP (from' (s) (i))) (i)).1] : List Tk)).length ((([(gotOf (tokP (from' (s) (i))) (i)).1] : List Tk)).flatMap Tk.cells), .box b11 (tkC ((gotOf (tokP (from' (s) (i))) (i)).1) ((i64 ((gotOf (tokP (from' (s) (i))) (i)).2.1)) :: ((i64 ((gotOf (tokP (from' (s) (i))) (i)).2.2)) :: []))) 57, .own 33 9 (v') (acc ++ [(gotOf (tokP (from' (s) (i))) (i)).1]).length ((acc ++ [(gotOf (tokP (from' (s) (i))) (i)).1]).flatMap Tk.cells), .own 33 9 (.slice none 0 0) (([] : List Tk)).length ((([] : List Tk)).flatMap Tk.cells)]) (fun _ => rfl) (fun v22 w23 M24 hS25 hle26 => ?_)
    replace hS25 : St w M w23 M24 [.box b11 (tkC ((gotOf (tokP (from' (s) (i))) (i)).1) ((i64 ((gotOf (tokP (from' (s) (i))) (i)).2.1)) :: ((i64 ((gotOf (tokP (from' (s) (i))) (i)).2.2)) :: []))) 57, .own 33 9 (v22) (acc ++ [(gotOf (tokP (from' (s) (i))) (i)).1]).length ((acc ++ [(gotOf (tokP (from' (s) (i))) (i)).1]).flatMap Tk.cells), .own 33 9 (.slice none 0 0) (([] : List Tk)).length ((([] : List Tk)).flatMap Tk.cells)] := hS25.erase 0 rfl
    refine RL.a rfl rfl ?_
    refine RL.nil (CW.at [Y 0 (str s), Y 5 (v22), Y 7 (.pointer (some ⟨b11, 0, none⟩))] rfl ?_)
    refine CW.region ?_
    refine RL.m rfl rfl (RL.u (.fldA (q := ⟨b11, 9, none⟩) (.t rfl) (fun w => by kernel_rfl)) rfl (RL.u (.loadB1 (v := (i64 ((gotOf (tokP (from' (s) (i))) (i)).2.1))) hS25 extEq (i := 0) rfl (.t rfl) Tryz.isAgg3 rfl) rfl ?_))
    refine RL.callS .none Tryz.call17 (.cons (.t rfl) (.cons (.t rfl) .nil)) (fun _ => (blank_c (s) ((gotOf (tokP (from' (s) (i))) (i)).2.1) _ (by omega) (by omega) (by omega))) rfl ?_
    refine RL.a rfl rfl ?_
    replace hS25 : St w M w23 M24 [.own 33 9 (v22) (acc ++ [(gotOf (tokP (from' (s) (i))) (i)).1]).length ((acc ++ [(gotOf (tokP (from' (s) (i))) (i)).1]).flatMap Tk.cells), .own 33 9 (.slice none 0 0) (([] : List Tk)).length ((([] : List Tk)).flatMap Tk.cells)] := hS25.erase 0 rfl
    refine RL.nil fun a hs => Exists.intro ((f - 1, blankTo (s) ((gotOf (tokP (from' (s) (i))) (i)).2.1), acc ++ [(gotOf (tokP (from' (s) (i))) (i)).1], v22, M24)) ⟨hs.keep [0, 5, 6], ?_, ?_⟩
    ·refine ⟨hS25, ?_⟩
     exact ⟨by omega, by omega, by rw [lexGo_ok hf hb1 hb2, hF], by omega, by rw [len_app, len_cons, len_nil]; omega⟩
    ·show Int.toNat _ < Int.toNat _; omega
  ·try simp only [zb] at hb1
   refine CW.exit (CW.at [Y 0 (str s), Y 5 (va)] rfl ?_)
   refine CW.sr ?_
   refine RL.m rfl rfl (RL.m rfl rfl (RL.u (.lenS (.t rfl) Tryz.underlying9) rfl (RL.u (.build (vs := [(0, (i64 6)), (3, (i64 (len (s))))]) (v := (.agg #[(i64 6), (str []), (i64 0), (i64 0), (str []), (str []), (.bool false), (i64 0), (i64 (len (s)))])) (.cons .c (.cons (.t rfl) .nil)) (fun w => by kernel_rfl)) rfl ?_)))
   refine RL.buildSlice (n := 1) (sz := 9) (e := 33) (vs := [(0, (.agg #[(i64 6), (str []), (i64 0), (i64 0), (str []), (str []), (.bool false), (i64 0), (i64 (len (s)))]))]) (cs := [(i64 6), (str []), (i64 0), (i64 0), (str []), (str []), (.bool false), (i64 0), (i64 (len (s)))]) hS7 (.cons (.t rfl) .nil) rfl rfl (fun w => by kernel_rfl) rfl (fun v27 w28 M29 hS30 hle31 => ?_)
   replace hS30 : St w M w28 M29 [.own 33 9 (v27) (([(⟨6, [], ⟨0, 0, [], [], false, 0⟩, len (s)⟩ : Tk)] : List Tk)).length ((([(⟨6, [], ⟨0, 0, [], [], false, 0⟩, len (s)⟩ : Tk)] : List Tk)).flatMap Tk.cells), .own 33 9 (va) (acc).length ((acc).flatMap Tk.cells), .own 33 9 (.slice none 0 0) (([] : List Tk)).length ((([] : List Tk)).flatMap Tk.cells)] := hS30
   refine RL.append1 (f := Tk.cells) (l := acc) (y := (⟨6, [], ⟨0, 0, [], [], false, 0⟩, len (s)⟩ : Tk)) hS30 (k := 1) rfl (.t rfl) (.t rfl) (hS30.sl (i := 0) rfl) Tryz.underlying23 Tryz.type33 rfl rfl rfl Tk.cells_one (by' := 96) rfl rfl (by omega) rfl (Hs' := fun v' => [.own 33 9 (v27) (([(⟨6, [], ⟨0, 0, [], [], false, 0⟩, len (s)⟩ : Tk)] : List Tk)).length ((([(⟨6, [], ⟨0, 0, [], [], false, 0⟩, len (s)⟩ : Tk)] : List Tk)).flatMap Tk.cells), .own 33 9 (v') (acc ++ [(⟨6, [], ⟨0, 0, [], [], false, 0⟩, len (s)⟩ : Tk)]).length ((acc ++ [(⟨6, [], ⟨0, 0, [], [], false, 0⟩, len (s)⟩ : Tk)]).flatMap Tk.cells), .own 33 9 (.slice none 0 0) (([] : List Tk)).length ((([] : List Tk)).flatMap Tk.cells)]) (fun _ => rfl) (fun v32 w33 M34 hS35 hle36 => ?_)
   replace hS35 : St w M w33 M34 [.own 33 9 (v32) (acc ++ [(⟨6, [], ⟨0, 0, [], [], false, 0⟩, len (s)⟩ : Tk)]).length ((acc ++ [(⟨6, [], ⟨0, 0, [], [], false, 0⟩, len (s)⟩ : Tk)]).flatMap Tk.cells), .own 33 9 (.slice none 0 0) (([] : List Tk)).length ((([] : List Tk)).flatMap Tk.cells)] := hS35.erase 0 rfl
   refine RL.a rfl rfl (RL.u (.assign .c) rfl (RL.u (.assign .c) rfl ?_))
   refine RL.nil (CW.at [Y 2 (v32), Y 3 (i64 0), Y 4 (i64 0)] rfl ?_)
   refine CW.ret (ret3 (P := Tryz.prog) (fn := Tryz.f10) (R := fun e w' => ∃ v M', e = .returned v ∧ (∃ u, v = .tuple #[u, i64 (lexP s).2.1, i64 (lexP s).2.2] ∧ Sl M' 9 (lexP s).1.length u ((lexP s).1.flatMap Tk.cells)) ∧ Grow w M w' M') rfl rfl rfl rfl ?_)
   have hq : lexP s = (acc ++ [endTk s], 0, 0) := by rw [← hF, lexGo_end hb1]
   exact ⟨_, _, rfl, ⟨_, by rw [hq], by rw [hq]; exact hS35.sl (i := 0) rfl⟩, hS35.done⟩

end Go.Proofs.YthdialbnlnjgpaaGreatDoor
