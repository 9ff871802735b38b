import Derived.Test.YthdialbnlnjgpaaGreatDoorEngL
import Derived.Laws.BitsLemmas
import Derived.Test.YthdialbnlnjgpaaGreatDoorPure
import Derived.Test.YthdialbnlnjgpaaGreatDoorProg
import Derived.Test.YthdialbnlnjgpaaGreatDoorAl
import Derived.Test.YthdialbnlnjgpaaGreatDoorRT
import Derived.Test.YthdialbnlnjgpaaGreatDoorR2
import Derived.Test.YthdialbnlnjgpaaGreatDoorTexts
set_option linter.unusedVariables false
set_option linter.unusedSimpArgs false
namespace Go.Proofs.YthdialbnlnjgpaaGreatDoor
open Go.Eng

/- loupe/loupelaw08.LexTexts -/
set_option maxRecDepth 100000 in
theorem lexTexts_c (M : Mem) (l : List Tk) (v : Value) (w : World) (hM : Sat w M) (hl : Sl M 9 l.length v (l.flatMap Tk.cells)) (hg : Gl w) (hb : ∀ t ∈ l, len t.s ≤ 9223372036854775807 ∧ len t.c.s ≤ 9223372036854775807) :
  Calls Tryz.prog 4 [(v)].toArray w fun e w' => e = .returned (.bool true) ∧ Ext w w' := by
 refine CW.enter Tryz.func4 rfl Tryz.ntmps4 (Nat.le_of_ble_eq_true rfl) ?_
 have := len_nonneg l
 have hS : St w M w M [] := St.start hM
 refine CW.weaken [0] (L' := [Y 0 (v)]) ?_ rfl
 refine CW.sr ?_
 refine RL.u (.assign .c) rfl ?_
 refine RL.nil (CW.at [Y 0 (v)] rfl ?_)
 refine CW.seq ?_
 refine CW.sr ?_
 refine RL.m rfl rfl ?_
 refine RL.callE hS .none Tryz.call12 (.cons (.t rfl) .nil) (fun _ => (given8_c M (l) (v) _ hS.sat hl (by first | assumption | omega))) rfl (fun w1 hS2 => ?_)
 refine RL.u (.not (.t rfl)) rfl ?_
 refine RL.nil (CW.at [Y 0 (v), Y 6 (.bool (!(given8 (l))))] rfl ?_)
 refine CW.cond rfl (fun hb1 => ?_) (fun hb1 => ?_)
 ·try simp only [zb] at hb1
  refine CW.sr ?_
  refine RL.callE hS2 .none Tryz.call8 .nil (fun _ => (alive_c _ (hg.low hS2.low))) rfl (fun w3 hS4 => ?_)
  refine RL.a rfl rfl ?_
  refine RL.nil (CW.at [Y 2 (.bool true)] rfl ?_)
  refine CW.ret (ret1 (P := Tryz.prog) (fn := Tryz.f4) (R := fun e w' => e = .returned (.bool true) ∧ Ext w w') rfl rfl ?_)
  exact ⟨rfl, hS4.low⟩
 ·try simp only [zb] at hb1
  have hgo := given_all hb1
  have hl41 := hgo.1
  have hbt := hgo.2.2
  have hbt2 : ∀ t ∈ (([] : List Tk) ++ l ++ [(⟨6, [], ⟨0, 0, [], [], false, 0⟩, 0⟩ : Tk)]), TkB t := fun t ht => (List.mem_append.1 ht).elim (hbt t) (fun h => by rw [List.mem_singleton.1 h]; decide)
  have hl42 : len (([] : List Tk) ++ l ++ [(⟨6, [], ⟨0, 0, [], [], false, 0⟩, 0⟩ : Tk)]) ≤ 1048576 := by simp only [len_app, len_cons, len_nil]; omega
  have ht1 := text_eq hgo.2.1
  have ht2 : textP (([] : List Tk) ++ l ++ [(⟨6, [], ⟨0, 0, [], [], false, 0⟩, 0⟩ : Tk)]) = textP l := text_end l _ rfl
  refine CW.skip (CW.at [Y 0 (v)] rfl ?_)
  refine CW.sr ?_
  refine RL.buildSlice (n := 0) (sz := 9) (e := 33) (vs := []) (cs := []) hS2 .nil rfl rfl (fun w => by kernel_rfl) rfl (fun v5 w6 M7 hS8 hle9 => ?_)
  replace hS8 : St w M w6 M7 [.own 33 9 (v5) (([] : List Tk)).length ((([] : List Tk)).flatMap Tk.cells)] := hS8
  replace hl := hl.mono hle9
  refine RL.m rfl rfl ?_
  refine RL.appendL (f := Tk.cells) (l := ([] : List Tk)) (m := l) hS8 (k := 0) rfl (.t rfl) (.t rfl) hl Tryz.underlying23 Tryz.type33 rfl rfl rfl Tk.cells_one (by' := 96) rfl rfl (by first | omega | (simp only [len_app, len_cons, len_nil]; omega)) rfl (Hs' := fun v' => [.own 33 9 (v') (([] : List Tk) ++ l).length ((([] : List Tk) ++ l).flatMap Tk.cells)]) (fun _ => rfl) (fun v10 w11 M12 hS13 hle14 => ?_)
  replace hS13 : St w M w11 M12 [.own 33 9 (v10) (([] : List Tk) ++ l).length ((([] : List Tk) ++ l).flatMap Tk.cells)] := hS13
  replace hl := hl.mono hle14
  refine RL.u (.build (vs := [(0, (i64 6))]) (v := (.agg #[(i64 6), (str []), (i64 0), (i64 0), (str []), (str []), (.bool false), (i64 0), (i64 0)])) (.cons .c .nil) (fun w => by kernel_rfl)) rfl ?_
  refine RL.buildSlice (n := 1) (sz := 9) (e := 33) (vs := [(0, (.agg #[(i64 6), (str []), (i64 0), (i64 0), (str []), (str []), (.bool false), (i64 0), (i64 0)]))]) (cs := [(i64 6), (str []), (i64 0), (i64 0), (str []), (str []), (.bool false), (i64 0), (i64 0)]) hS13 (.cons (.t rfl) .nil) rfl rfl (fun w => by kernel_rfl) rfl (fun v15 w16 M17 hS18 hle19 => ?_)
  replace hS18 : St w M w16 M17 [.own 33 9 (v15) (([(⟨6, [], ⟨0, 0, [], [], false, 0⟩, 0⟩ : Tk)] : List Tk)).length ((([(⟨6, [], ⟨0, 0, [], [], false, 0⟩, 0⟩ : Tk)] : List Tk)).flatMap Tk.cells), .own 33 9 (v10) (([] : List Tk) ++ l).length ((([] : List Tk) ++ l).flatMap Tk.cells)] := hS18
  replace hl := hl.mono hle19
  refine RL.append1 (f := Tk.cells) (l := ([] : List Tk) ++ l) (y := (⟨6, [], ⟨0, 0, [], [], false, 0⟩, 0⟩ : Tk)) hS18 (k := 1) rfl (.t rfl) (.t rfl) (hS18.sl (i := 0) rfl) Tryz.underlying23 Tryz.type33 rfl rfl rfl Tk.cells_one (by' := 96) rfl rfl (by first | omega | (simp only [len_app, len_cons, len_nil]; omega)) rfl (Hs' := fun v' => [.own 33 9 (v15) (([(⟨6, [], ⟨0, 0, [], [], false, 0⟩, 0⟩ : Tk)] : List Tk)).length ((([(⟨6, [], ⟨0, 0, [], [], false, 0⟩, 0⟩ : Tk)] : List Tk)).flatMap Tk.cells), .own 33 9 (v') (([] : List Tk) ++ l ++ [(⟨6, [], ⟨0, 0, [], [], false, 0⟩, 0⟩ : Tk)]).length ((([] : List Tk) ++ l ++ [(⟨6, [], ⟨0, 0, [], [], false, 0⟩, 0⟩ : Tk)]).flatMap Tk.cells)]) (fun _ => rfl) (fun v20 w21 M22 hS23 hle24 => ?_)
  replace hS23 : St w M w21 M22 [.own 33 9 (v20) (([] : List Tk) ++ l ++ [(⟨6, [], ⟨0, 0, [], [], false, 0⟩, 0⟩ : Tk)]).length ((([] : List Tk) ++ l ++ [(⟨6, [], ⟨0, 0, [], [], false, 0⟩, 0⟩ : Tk)]).flatMap Tk.cells)] := hS23.erase 0 rfl
  replace hl := hl.mono hle24
  refine RL.a rfl rfl ?_
  refine RL.nil (CW.at [Y 0 (v), Y 3 (v20)] rfl ?_)
  refine CW.sr ?_
  refine RL.callE hS23 .none Tryz.call8 .nil (fun _ => (alive_c _ (hg.low hS23.low))) rfl (fun w25 hS26 => ?_)
  refine RL.m rfl rfl (RL.v (.pos rfl rfl) (.move (.t rfl)) rfl ?_)
  refine RL.callE hS26 (.pos rfl rfl) Tryz.call13 (.cons (.g rfl (fun h => h)) .nil) (fun hW => by simp only [zb] at hW; exact (textP_c M22 (l) (v) _ hS26.sat hl (hg.low hS26.low) (by assumption) (by first | assumption | omega))) rfl (fun w27 hS28 => ?_)
  refine RL.v (.pos rfl rfl) (.move (.t rfl)) rfl ?_
  refine RL.callE hS28 (.pos rfl rfl) Tryz.call14 (.cons (.g rfl (fun h => h)) .nil) (fun hW => by simp only [zb] at hW; exact (text8R_c M22 (l) (v) _ hS28.sat hl (by assumption) (by first | assumption | omega))) rfl (fun w29 hS30 => ?_)
  refine RL.v (.pos rfl rfl) (.seql (.g rfl (fun h => h)) (.g rfl (fun h => h))) rfl (RL.u (.and (.t rfl) (.g rfl (fun h => h))) rfl (RL.m rfl rfl (RL.v (.pos rfl rfl) (.move (.t rfl)) rfl ?_)))
  refine RL.callE hS30 (.pos rfl rfl) Tryz.call13 (.cons (.g rfl (fun h => h)) .nil) (fun hW => by simp only [zb] at hW; exact (textP_c M22 (([] : List Tk) ++ l ++ [(⟨6, [], ⟨0, 0, [], [], false, 0⟩, 0⟩ : Tk)]) (v20) _ hS30.sat (hS30.sl (i := 0) rfl) (hg.low hS30.low) (by assumption) (by first | assumption | omega))) rfl (fun w31 hS32 => ?_)
  refine RL.v (.pos rfl rfl) (.move (.t rfl)) rfl ?_
  refine RL.callE hS32 (.pos rfl rfl) Tryz.call13 (.cons (.g rfl (fun h => h)) .nil) (fun hW => by simp only [zb] at hW; exact (textP_c M22 (l) (v) _ hS32.sat hl (hg.low hS32.low) (by assumption) (by first | assumption | omega))) rfl (fun w33 hS34 => ?_)
  refine RL.v (.pos rfl rfl) (.seql (.g rfl (fun h => h)) (.g rfl (fun h => h))) rfl (RL.u (.and (.t rfl) (.g rfl (fun h => h))) rfl (RL.a rfl rfl ?_))
  refine RL.nil (CW.at [Y 2 (.bool (((true) && ((textP (l)) == (textR (l)))) && ((textP (([] : List Tk) ++ l ++ [(⟨6, [], ⟨0, 0, [], [], false, 0⟩, 0⟩ : Tk)])) == (textP (l)))))] rfl ?_)
  refine CW.ret (ret1 (P := Tryz.prog) (fn := Tryz.f4) (R := fun e w' => e = .returned (.bool true) ∧ Ext w w') rfl rfl ?_)
  exact ⟨by rw [ht2, ← ht1]; simp, hS34.low⟩

end Go.Proofs.YthdialbnlnjgpaaGreatDoor
