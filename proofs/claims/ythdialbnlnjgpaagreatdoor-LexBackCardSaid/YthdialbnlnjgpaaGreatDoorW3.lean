import Derived.Test.YthdialbnlnjgpaaGreatDoorEngL
import Derived.Laws.BitsLemmas
import Derived.Test.YthdialbnlnjgpaaGreatDoorPure
import Derived.Test.YthdialbnlnjgpaaGreatDoorProg
import Derived.Test.YthdialbnlnjgpaaGreatDoorAl
import Derived.Test.YthdialbnlnjgpaaGreatDoorR2
import Derived.Test.YthdialbnlnjgpaaGreatDoorBack
set_option linter.unusedVariables false
set_option linter.unusedSimpArgs false
namespace Go.Proofs.YthdialbnlnjgpaaGreatDoor
open Go.Eng

/- loupe/loupelaw08.LexBack -/
set_option maxRecDepth 100000 in
theorem lexBack_c (M : Mem) (l : List Tk) (v : Value) (s : Str) (w : World) (hM : Sat w M) (hl : Sl M 9 l.length v (l.flatMap Tk.cells)) (hg : Gl w) (hb : ∀ t ∈ l, len t.s ≤ 9223372036854775807 ∧ len t.c.s ≤ 9223372036854775807) :
  Calls Tryz.prog 5 [(v), (str s)].toArray w fun e w' => e = .returned (.bool true) ∧ Ext w w' := by
 refine CW.enter Tryz.func5 rfl Tryz.ntmps5 (Nat.le_of_ble_eq_true rfl) ?_
 have := len_nonneg l
 have := len_nonneg s
 have hS : St w M w M [] := St.start hM
 refine CW.weaken [0, 1] (L' := [Y 0 (v), Y 1 (str s)]) ?_ rfl
 refine CW.sr ?_
 refine RL.u (.assign .c) rfl ?_
 refine RL.nil (CW.at [Y 0 (v), Y 1 (str s)] rfl ?_)
 refine CW.seq ?_
 refine CW.sr ?_
 refine RL.m rfl rfl ?_
 refine RL.callE hS .none Tryz.call12 (.cons (.t rfl) .nil) (fun _ => (given8_c M (l) (v) _ hS.sat hl (by first | assumption | omega))) rfl (fun w1 hS2 => ?_)
 refine RL.u (.not (.t rfl)) rfl (RL.m rfl rfl (RL.v (.neg rfl rfl) (.move (.t rfl)) rfl (RL.v (.neg rfl rfl) (.lenS (.g rfl (fun h => h)) Tryz.underlying9) rfl (RL.v (.neg rfl rfl) (.gtr (.g rfl (fun h => h)) .c) rfl (RL.u (.or (.t rfl) (.g rfl (fun h => h))) rfl ?_)))))
 refine RL.nil (CW.at [Y 0 (v), Y 1 (str s), Y 22 (.bool ((!(given8 (l))) || (decide ((400) < (len (s))))))] rfl ?_)
 refine CW.cond rfl (fun hb1 => ?_) (fun hb1 => ?_)
 ·try simp only [zb] at hb1
  refine CW.sr ?_
  refine RL.callE hS2 .none Tryz.call8 .nil (fun _ => (alive_c _ (hg.low hS2.low))) rfl (fun w3 hS4 => ?_)
  refine RL.a rfl rfl ?_
  refine RL.nil (CW.at [Y 4 (.bool true)] rfl ?_)
  refine CW.ret (ret1 (P := Tryz.prog) (fn := Tryz.f5) (R := fun e w' => e = .returned (.bool true) ∧ Ext w w') rfl rfl ?_)
  exact ⟨rfl, hS4.low⟩
 ·try simp only [zb] at hb1
  have hgo := given_open hb1.1
  have hl41 := hgo.1
  have hbt := hgo.2.2
  have htl := textP_len hbt
  have htl2 : len (textP l) ≤ 1099511627776 := by omega
  have hbk := back_text hgo.2.1
  have hbk2 : sameTk (lexP (textP l)).1 (([] : List Tk) ++ l ++ [(⟨6, [], ⟨0, 0, [], [], false, 0⟩, 0⟩ : Tk)]) false = true := hbk.2
  have hly := lexed_bd (s := s) (by omega)
  have hbt2 := hly.1
  have hly2 := hly.2
  have hty := textP_len hbt2
  have hty2 : len (textP (lexP s).1) ≤ 1099511627776 := by omega
  refine CW.skip (CW.at [Y 0 (v), Y 1 (str s)] rfl ?_)
  refine CW.sr ?_
  refine RL.buildSlice (n := 0) (sz := 9) (e := 33) (vs := []) (cs := []) hS2 .nil rfl rfl (fun w => by kernel_rfl) rfl (fun v5 w6 M7 hS8 hle9 => ?_)
  replace hS8 : St w M w6 M7 [.own 33 9 (v5) (([] : List Tk)).length ((([] : List Tk)).flatMap Tk.cells)] := hS8
  replace hl := hl.mono hle9
  refine RL.m rfl rfl ?_
  refine RL.appendL (f := Tk.cells) (l := ([] : List Tk)) (m := l) hS8 (k := 0) rfl (.t rfl) (.t rfl) hl Tryz.underlying23 Tryz.type33 rfl rfl rfl Tk.cells_one (by' := 96) rfl rfl (by first | omega | (simp only [len_app, len_cons, len_nil]; omega)) rfl (Hs' := fun v' => [.own 33 9 (v') (([] : List Tk) ++ l).length ((([] : List Tk) ++ l).flatMap Tk.cells)]) (fun _ => rfl) (fun v10 w11 M12 hS13 hle14 => ?_)
  replace hS13 : St w M w11 M12 [.own 33 9 (v10) (([] : List Tk) ++ l).length ((([] : List Tk) ++ l).flatMap Tk.cells)] := hS13
  replace hl := hl.mono hle14
  refine RL.u (.build (vs := [(0, (i64 6))]) (v := (.agg #[(i64 6), (str []), (i64 0), (i64 0), (str []), (str []), (.bool false), (i64 0), (i64 0)])) (.cons .c .nil) (fun w => by kernel_rfl)) rfl ?_
  refine RL.buildSlice (n := 1) (sz := 9) (e := 33) (vs := [(0, (.agg #[(i64 6), (str []), (i64 0), (i64 0), (str []), (str []), (.bool false), (i64 0), (i64 0)]))]) (cs := [(i64 6), (str []), (i64 0), (i64 0), (str []), (str []), (.bool false), (i64 0), (i64 0)]) hS13 (.cons (.t rfl) .nil) rfl rfl (fun w => by kernel_rfl) rfl (fun v15 w16 M17 hS18 hle19 => ?_)
  replace hS18 : St w M w16 M17 [.own 33 9 (v15) (([(⟨6, [], ⟨0, 0, [], [], false, 0⟩, 0⟩ : Tk)] : List Tk)).length ((([(⟨6, [], ⟨0, 0, [], [], false, 0⟩, 0⟩ : Tk)] : List Tk)).flatMap Tk.cells), .own 33 9 (v10) (([] : List Tk) ++ l).length ((([] : List Tk) ++ l).flatMap Tk.cells)] := hS18
  replace hl := hl.mono hle19
  refine RL.append1 (f := Tk.cells) (l := ([] : List Tk) ++ l) (y := (⟨6, [], ⟨0, 0, [], [], false, 0⟩, 0⟩ : Tk)) hS18 (k := 1) rfl (.t rfl) (.t rfl) (hS18.sl (i := 0) rfl) Tryz.underlying23 Tryz.type33 rfl rfl rfl Tk.cells_one (by' := 96) rfl rfl (by first | omega | (simp only [len_app, len_cons, len_nil]; omega)) rfl (Hs' := fun v' => [.own 33 9 (v15) (([(⟨6, [], ⟨0, 0, [], [], false, 0⟩, 0⟩ : Tk)] : List Tk)).length ((([(⟨6, [], ⟨0, 0, [], [], false, 0⟩, 0⟩ : Tk)] : List Tk)).flatMap Tk.cells), .own 33 9 (v') (([] : List Tk) ++ l ++ [(⟨6, [], ⟨0, 0, [], [], false, 0⟩, 0⟩ : Tk)]).length ((([] : List Tk) ++ l ++ [(⟨6, [], ⟨0, 0, [], [], false, 0⟩, 0⟩ : Tk)]).flatMap Tk.cells)]) (fun _ => rfl) (fun v20 w21 M22 hS23 hle24 => ?_)
  replace hS23 : St w M w21 M22 [.own 33 9 (v20) (([] : List Tk) ++ l ++ [(⟨6, [], ⟨0, 0, [], [], false, 0⟩, 0⟩ : Tk)]).length ((([] : List Tk) ++ l ++ [(⟨6, [], ⟨0, 0, [], [], false, 0⟩, 0⟩ : Tk)]).flatMap Tk.cells)] := hS23.erase 0 rfl
  replace hl := hl.mono hle24
  refine RL.a rfl rfl ?_
  refine RL.nil (CW.at [Y 0 (v), Y 1 (str s), Y 5 (v20)] rfl ?_)
  refine CW.sr ?_
  refine RL.m rfl rfl ?_
  refine RL.callE hS23 .none Tryz.call13 (.cons (.t rfl) .nil) (fun _ => (textP_c M22 (l) (v) _ hS23.sat hl (hg.low hS23.low) (by assumption) (by first | assumption | omega))) rfl (fun w25 hS26 => ?_)
  refine RL.callM hS26 Tryz.call9 (.cons (.t rfl) .nil) ((lexP_c M22 (textP (l)) _ hS26.sat (hg.low hS26.low) (by first | assumption | omega | decide))) rfl ?_
  rintro v28 w29 M30 hS31 hle32 ⟨u27, rfl, hsl_u27⟩
  replace hl := hl.mono hle32
  refine RL.m rfl rfl (RL.u (.ex (.t rfl) rfl) rfl (RL.u (.ex (.t rfl) rfl) rfl (RL.u (.ex (.t rfl) rfl) rfl (RL.a rfl rfl (RL.a rfl rfl ?_)))))
  refine RL.a rfl rfl ?_
  refine RL.nil (CW.at [Y 1 (str s), Y 5 (v20), Y 6 (u27), Y 8 (i64 ((lexP (textP (l))).2.2))] rfl ?_)
  refine CW.seq ?_
  refine CW.sr ?_
  refine RL.m rfl rfl (RL.u (.neq (.t rfl) .c) rfl (RL.m rfl rfl (RL.v (.neg rfl rfl) (.move (.t rfl)) rfl (RL.v (.neg rfl rfl) (.move (.t rfl)) rfl ?_))))
  refine RL.callE hS31 (.neg rfl rfl) Tryz.call11 (.cons (.g rfl (fun h => h)) (.cons (.g rfl (fun h => h)) (.cons .c .nil))) (fun hW => by simp only [zb] at hW; exact (same8_c M30 ((lexP (textP (l))).1) (([] : List Tk) ++ l ++ [(⟨6, [], ⟨0, 0, [], [], false, 0⟩, 0⟩ : Tk)]) (false) (u27) (v20) _ hS31.sat hsl_u27 (hS31.sl (i := 0) rfl))) rfl (fun w34 hS35 => ?_)
  refine RL.v (.neg rfl rfl) (.not (.g rfl (fun h => h))) rfl (RL.u (.or (.t rfl) (.g rfl (fun h => h))) rfl ?_)
  refine RL.nil (CW.at [Y 1 (str s), Y 44 (.bool ((((lexP (textP (l))).2.2) != (0)) || (!(sameTk ((lexP (textP (l))).1) (([] : List Tk) ++ l ++ [(⟨6, [], ⟨0, 0, [], [], false, 0⟩, 0⟩ : Tk)]) (false)))))] rfl ?_)
  refine CW.cond rfl (fun hb2 => ?_) (fun hb2 => ?_)
  ·try simp only [zb] at hb2
   exact absurd hb2 (by rw [hbk.1, hbk2]; simp)
  ·try simp only [zb] at hb2
   refine CW.skip (CW.at [Y 1 (str s)] rfl ?_)
   refine CW.sr ?_
   refine RL.m rfl rfl ?_
   refine RL.callM hS35 Tryz.call9 (.cons (.t rfl) .nil) ((lexP_c M30 (s) _ hS35.sat (hg.low hS35.low) (by first | assumption | omega | decide))) rfl ?_
   rintro v37 w38 M39 hS40 hle41 ⟨u36, rfl, hsl_u36⟩
   replace hl := hl.mono hle41
   replace hsl_u27 := hsl_u27.mono hle41
   refine RL.m rfl rfl (RL.u (.ex (.t rfl) rfl) rfl (RL.u (.ex (.t rfl) rfl) rfl (RL.u (.ex (.t rfl) rfl) rfl (RL.a rfl rfl (RL.a rfl rfl ?_)))))
   refine RL.a rfl rfl ?_
   refine RL.nil (CW.at [Y 1 (str s), Y 9 (u36), Y 10 (i64 ((lexP (s)).2.1)), Y 11 (i64 ((lexP (s)).2.2))] rfl ?_)
   refine CW.seq ?_
   refine CW.sr ?_
   refine RL.m rfl rfl (RL.u (.neq (.t rfl) .c) rfl ?_)
   refine RL.nil (CW.at [Y 1 (str s), Y 9 (u36), Y 10 (i64 ((lexP (s)).2.1)), Y 11 (i64 ((lexP (s)).2.2)), Y 52 (.bool (((lexP (s)).2.2) != (0)))] rfl ?_)
   refine CW.cond rfl (fun hb3 => ?_) (fun hb3 => ?_)
   ·try simp only [zb] at hb3
    have hbb := back_bad hb3
    refine CW.sr ?_
    refine RL.callE hS40 .none Tryz.call8 .nil (fun _ => (alive_c _ (hg.low hS40.low))) rfl (fun w43 hS44 => ?_)
    refine RL.m rfl rfl (RL.v (.pos rfl rfl) (.move (.t rfl)) rfl (RL.v (.pos rfl rfl) (.lenT hsl_u36 (.g rfl (fun h => h)) ⟨_, Tryz.underlying23⟩) rfl (RL.v (.pos rfl rfl) (.eql (.g rfl (fun h => h)) .c) rfl (RL.u (.and (.t rfl) (.g rfl (fun h => h))) rfl (RL.m rfl rfl ?_)))))
    refine RL.v (.pos rfl rfl) (.move (.t rfl)) rfl (RL.v (.pos rfl rfl) (.geq (.g rfl (fun h => h)) .c) rfl (RL.u (.and (.t rfl) (.g rfl (fun h => h))) rfl (RL.m rfl rfl (RL.v (.pos rfl rfl) (.move (.t rfl)) rfl (RL.v (.pos rfl rfl) (.move (.t rfl)) rfl ?_)))))
    refine RL.v (.pos rfl rfl) (.lenS (.g rfl (fun h => h)) Tryz.underlying9) rfl (RL.v (.pos rfl rfl) (.leq (.g rfl (fun h => h)) (.g rfl (fun h => h))) rfl (RL.u (.and (.t rfl) (.g rfl (fun h => h))) rfl (RL.m rfl rfl (RL.v (.pos rfl rfl) (.move (.t rfl)) rfl (RL.v (.pos rfl rfl) (.eql (.g rfl (fun h => h)) .c) rfl ?_)))))
    refine RL.v (.pos rfl rfl) (.move (.g rfl (fun h => h))) rfl (RL.v (.negG rfl rfl) (.move (.t rfl)) rfl (RL.v (.negG rfl rfl) (.eql (.g rfl (fun h => h)) .c) rfl (RL.v (.pos rfl rfl) (.or (.g rfl (fun h => h)) (.g rfl (fun h => h))) rfl (RL.u (.and (.t rfl) (.g rfl (fun h => h))) rfl (RL.a rfl rfl ?_)))))
    refine RL.nil (CW.at [Y 4 (.bool (((((true) && ((len ((lexP (s)).1)) == (0))) && (decide ((0) ≤ ((lexP (s)).2.1)))) && (decide (((lexP (s)).2.1) ≤ (len (s))))) && ((((lexP (s)).2.2) == (1)) || (((lexP (s)).2.2) == (2)))))] rfl ?_)
    refine CW.ret (ret1 (P := Tryz.prog) (fn := Tryz.f5) (R := fun e w' => e = .returned (.bool true) ∧ Ext w w') rfl rfl ?_)
    exact ⟨by rw [hbb.1]; rcases hbb.2.2.2 with e | e <;> simp [e, len_nil, hbb.2.1, hbb.2.2.1], hS44.low⟩
   ·try simp only [zb] at hb3
    have hbl := back_lexed hb3
    refine CW.skip (CW.at [Y 9 (u36)] rfl ?_)
    refine CW.sr ?_
    refine RL.m rfl rfl ?_
    refine RL.callE hS40 .none Tryz.call13 (.cons (.t rfl) .nil) (fun _ => (textP_c M39 ((lexP (s)).1) (u36) _ hS40.sat hsl_u36 (hg.low hS40.low) (by assumption) (by first | assumption | omega))) rfl (fun w45 hS46 => ?_)
    refine RL.callM hS46 Tryz.call9 (.cons (.t rfl) .nil) ((lexP_c M39 (textP ((lexP (s)).1)) _ hS46.sat (hg.low hS46.low) (by first | assumption | omega | decide))) rfl ?_
    rintro v48 w49 M50 hS51 hle52 ⟨u47, rfl, hsl_u47⟩
    replace hl := hl.mono hle52
    replace hsl_u27 := hsl_u27.mono hle52
    replace hsl_u36 := hsl_u36.mono hle52
    refine RL.m rfl rfl (RL.u (.ex (.t rfl) rfl) rfl (RL.u (.ex (.t rfl) rfl) rfl (RL.u (.ex (.t rfl) rfl) rfl (RL.a rfl rfl (RL.a rfl rfl ?_)))))
    refine RL.a rfl rfl ?_
    refine RL.nil (CW.at [Y 9 (u36), Y 12 (u47), Y 14 (i64 ((lexP (textP ((lexP (s)).1))).2.2))] rfl ?_)
    refine CW.sr ?_
    refine RL.callE hS51 .none Tryz.call8 .nil (fun _ => (alive_c _ (hg.low hS51.low))) rfl (fun w54 hS55 => ?_)
    refine RL.m rfl rfl (RL.v (.pos rfl rfl) (.move (.t rfl)) rfl (RL.v (.pos rfl rfl) (.eql (.g rfl (fun h => h)) .c) rfl (RL.u (.and (.t rfl) (.g rfl (fun h => h))) rfl (RL.m rfl rfl (RL.v (.pos rfl rfl) (.move (.t rfl)) rfl ?_)))))
    refine RL.v (.pos rfl rfl) (.move (.t rfl)) rfl ?_
    refine RL.callE hS55 (.pos rfl rfl) Tryz.call11 (.cons (.g rfl (fun h => h)) (.cons (.g rfl (fun h => h)) (.cons .c .nil))) (fun hW => by simp only [zb] at hW; exact (same8_c M50 ((lexP (s)).1) ((lexP (textP ((lexP (s)).1))).1) (false) (u36) (u47) _ hS55.sat hsl_u36 hsl_u47)) rfl (fun w56 hS57 => ?_)
    refine RL.u (.and (.t rfl) (.g rfl (fun h => h))) rfl (RL.a rfl rfl ?_)
    refine RL.nil (CW.at [Y 4 (.bool (((true) && (((lexP (textP ((lexP (s)).1))).2.2) == (0))) && (sameTk ((lexP (s)).1) ((lexP (textP ((lexP (s)).1))).1) (false))))] rfl ?_)
    refine CW.ret (ret1 (P := Tryz.prog) (fn := Tryz.f5) (R := fun e w' => e = .returned (.bool true) ∧ Ext w w') rfl rfl ?_)
    exact ⟨by rw [hbl.1, hbl.2]; rfl, hS57.low⟩

end Go.Proofs.YthdialbnlnjgpaaGreatDoor
