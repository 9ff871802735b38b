import Derived.Test.YthdialbnlnjgpaaGreatDoorEngL
import Derived.Laws.BitsLemmas
import Derived.Test.YthdialbnlnjgpaaGreatDoorPure
import Derived.Test.YthdialbnlnjgpaaGreatDoorProg
import Derived.Test.YthdialbnlnjgpaaGreatDoorAl
import Derived.Test.YthdialbnlnjgpaaGreatDoorR2
import Derived.Test.YthdialbnlnjgpaaGreatDoorJoined
import Derived.Test.YthdialbnlnjgpaaGreatDoorEngM
set_option linter.unusedVariables false
set_option linter.unusedSimpArgs false
namespace Go.Proofs.YthdialbnlnjgpaaGreatDoor
open Go.Eng

/- loupe/loupelaw08.LexJoined -/
set_option maxRecDepth 100000 in
theorem lexJoined_c (a b : Str) (w : World) (hg : Gl w) (hla : len a ≤ 140737488355328) (hlb : len b ≤ 140737488355328) :
  Calls Tryz.prog 7 [(str a), (str b)].toArray w fun e w' => e = .returned (.bool true) ∧ Ext w w' := by
 refine CW.enter Tryz.func7 rfl Tryz.ntmps7 (Nat.le_of_ble_eq_true rfl) ?_
 have := len_nonneg a
 have := len_nonneg b
 have hlz := lexP_size a
 have hlz2 := lexP_size b
 have hS : St w (fun _ _ => none) w (fun _ _ => none) [] := St.start ⟨fun _ _ _ h => by cases h⟩
 refine CW.weaken [0, 1] (L' := [Y 0 (str a), Y 1 (str b)]) ?_ rfl
 refine CW.sr ?_
 refine RL.u (.assign .c) rfl ?_
 refine RL.nil (CW.at [Y 0 (str a), Y 1 (str b)] rfl ?_)
 refine CW.seq ?_
 refine CW.sr ?_
 refine RL.m rfl rfl (RL.u (.lenS (.t rfl) Tryz.underlying9) rfl (RL.m rfl rfl (RL.u (.lenS (.t rfl) Tryz.underlying9) rfl (RL.u (.add (.t rfl) (.t rfl) (fun _ => by first | omega | (simp only [len_app, len_cons, len_nil]; omega))) rfl (RL.u (.gtr (.t rfl) .c) rfl ?_)))))
 refine RL.nil (CW.at [Y 0 (str a), Y 1 (str b), Y 20 (.bool (decide ((400) < ((len (a)) + (len (b))))))] rfl ?_)
 refine CW.cond rfl (fun hb1 => ?_) (fun hb1 => ?_)
 ·try simp only [zb] at hb1
  refine CW.sr ?_
  refine RL.callE hS .none Tryz.call8 .nil (fun _ => (alive_c _ (hg.low hS.low))) rfl (fun w1 hS2 => ?_)
  refine RL.a rfl rfl ?_
  refine RL.nil (CW.at [Y 4 (.bool true)] rfl ?_)
  refine CW.ret (ret1 (P := Tryz.prog) (fn := Tryz.f7) (R := fun e w' => e = .returned (.bool true) ∧ Ext w w') rfl rfl ?_)
  exact ⟨rfl, hS2.low⟩
 ·try simp only [zb] at hb1
  have hz : len (a ++ [32] ++ b) ≤ 1099511627776 := by simp only [len_app, len_cons, len_nil]; omega
  refine CW.skip (CW.at [Y 0 (str a), Y 1 (str b)] rfl ?_)
  refine CW.sr ?_
  refine RL.m rfl rfl ?_
  refine RL.callM hS Tryz.call9 (.cons (.t rfl) .nil) ((lexP_c (fun _ _ => none) (a) _ hS.sat (hg.low hS.low) (by first | assumption | omega | decide))) rfl ?_
  rintro v4 w5 M6 hS7 hle8 ⟨u3, rfl, hsl_u3⟩
  refine RL.m rfl rfl (RL.u (.ex (.t rfl) rfl) rfl (RL.u (.ex (.t rfl) rfl) rfl (RL.u (.ex (.t rfl) rfl) rfl (RL.a rfl rfl (RL.a rfl rfl ?_)))))
  refine RL.a rfl rfl ?_
  refine RL.nil (CW.at [Y 0 (str a), Y 1 (str b), Y 5 (u3), Y 7 (i64 ((lexP (a)).2.2))] rfl ?_)
  refine CW.sr ?_
  refine RL.m rfl rfl ?_
  refine RL.callM hS7 Tryz.call9 (.cons (.t rfl) .nil) ((lexP_c M6 (b) _ hS7.sat (hg.low hS7.low) (by first | assumption | omega | decide))) rfl ?_
  rintro v11 w12 M13 hS14 hle15 ⟨u10, rfl, hsl_u10⟩
  replace hsl_u3 := hsl_u3.mono hle15
  refine RL.m rfl rfl (RL.u (.ex (.t rfl) rfl) rfl (RL.u (.ex (.t rfl) rfl) rfl (RL.u (.ex (.t rfl) rfl) rfl (RL.a rfl rfl (RL.a rfl rfl ?_)))))
  refine RL.a rfl rfl ?_
  refine RL.nil (CW.at [Y 0 (str a), Y 1 (str b), Y 5 (u3), Y 7 (i64 ((lexP (a)).2.2)), Y 8 (u10), Y 10 (i64 ((lexP (b)).2.2))] rfl ?_)
  refine CW.sr ?_
  refine RL.m rfl rfl (RL.u (.sadd (.t rfl) .c (fun _ => by first | omega | (simp only [len_app, len_cons, len_nil]; omega))) rfl (RL.m rfl rfl (RL.u (.sadd (.t rfl) (.t rfl) (fun _ => by first | omega | (simp only [len_app, len_cons, len_nil]; omega))) rfl ?_)))
  refine RL.callM hS14 Tryz.call9 (.cons (.t rfl) .nil) ((lexP_c M13 (((a) ++ ([32])) ++ (b)) _ hS14.sat (hg.low hS14.low) (by first | assumption | omega | decide))) rfl ?_
  rintro v18 w19 M20 hS21 hle22 ⟨u17, rfl, hsl_u17⟩
  replace hsl_u3 := hsl_u3.mono hle22
  replace hsl_u10 := hsl_u10.mono hle22
  refine RL.m rfl rfl (RL.u (.ex (.t rfl) rfl) rfl (RL.u (.ex (.t rfl) rfl) rfl (RL.u (.ex (.t rfl) rfl) rfl (RL.a rfl rfl (RL.a rfl rfl ?_)))))
  refine RL.a rfl rfl ?_
  refine RL.nil (CW.at [Y 5 (u3), Y 7 (i64 ((lexP (a)).2.2)), Y 8 (u10), Y 10 (i64 ((lexP (b)).2.2)), Y 11 (u17), Y 13 (i64 ((lexP (((a) ++ ([32])) ++ (b))).2.2))] rfl ?_)
  refine CW.seq ?_
  refine CW.sr ?_
  refine RL.m rfl rfl (RL.u (.neq (.t rfl) .c) rfl ?_)
  refine RL.nil (CW.at [Y 5 (u3), Y 8 (u10), Y 10 (i64 ((lexP (b)).2.2)), Y 11 (u17), Y 13 (i64 ((lexP (((a) ++ ([32])) ++ (b))).2.2)), Y 44 (.bool (((lexP (a)).2.2) != (0)))] rfl ?_)
  refine CW.cond rfl (fun hb2 => ?_) (fun hb2 => ?_)
  ·try simp only [zb] at hb2
   refine CW.sr ?_
   refine RL.callE hS21 .none Tryz.call8 .nil (fun _ => (alive_c _ (hg.low hS21.low))) rfl (fun w24 hS25 => ?_)
   refine RL.a rfl rfl ?_
   refine RL.nil (CW.at [Y 4 (.bool true)] rfl ?_)
   refine CW.ret (ret1 (P := Tryz.prog) (fn := Tryz.f7) (R := fun e w' => e = .returned (.bool true) ∧ Ext w w') rfl rfl ?_)
   exact ⟨rfl, hS25.low⟩
  ·try simp only [zb] at hb2
   have hpa : 0 < len (lexP a).1 := by obtain ⟨l, _, h⟩ := lexP_ok hb2; rw [h, len_app]; have := len_nonneg l; show 0 < len l + 1; omega
   refine CW.skip (CW.at [Y 5 (u3), Y 8 (u10), Y 10 (i64 ((lexP (b)).2.2)), Y 11 (u17), Y 13 (i64 ((lexP (((a) ++ ([32])) ++ (b))).2.2))] rfl ?_)
   refine CW.seq ?_
   refine CW.sr ?_
   refine RL.m rfl rfl (RL.u (.neq (.t rfl) .c) rfl (RL.m rfl rfl (RL.v (.neg rfl rfl) (.move (.t rfl)) rfl (RL.v (.neg rfl rfl) (.lenT hsl_u3 (.g rfl (fun h => h)) ⟨_, Tryz.underlying23⟩) rfl (RL.v (.neg rfl rfl) (.eql (.g rfl (fun h => h)) .c) rfl ?_)))))
   refine RL.u (.or (.t rfl) (.g rfl (fun h => h))) rfl ?_
   refine RL.nil (CW.at [Y 5 (u3), Y 8 (u10), Y 11 (u17), Y 13 (i64 ((lexP (((a) ++ ([32])) ++ (b))).2.2)), Y 52 (.bool ((((lexP (b)).2.2) != (0)) || ((len ((lexP (a)).1)) == (0))))] rfl ?_)
   refine CW.cond rfl (fun hb3 => ?_) (fun hb3 => ?_)
   ·try simp only [zb] at hb3
    have hJ := joined_bad hb2 (by rcases hb3 with h | h; exact h; omega)
    refine CW.sr ?_
    refine RL.callE hS21 .none Tryz.call8 .nil (fun _ => (alive_c _ (hg.low hS21.low))) rfl (fun w26 hS27 => ?_)
    refine RL.m rfl rfl (RL.v (.pos rfl rfl) (.move (.t rfl)) rfl (RL.v (.pos rfl rfl) (.neq (.g rfl (fun h => h)) .c) rfl (RL.u (.and (.t rfl) (.g rfl (fun h => h))) rfl (RL.m rfl rfl (RL.v (.pos rfl rfl) (.move (.t rfl)) rfl ?_)))))
    refine RL.v (.pos rfl rfl) (.lenT hsl_u17 (.g rfl (fun h => h)) ⟨_, Tryz.underlying23⟩) rfl (RL.v (.pos rfl rfl) (.eql (.g rfl (fun h => h)) .c) rfl (RL.u (.and (.t rfl) (.g rfl (fun h => h))) rfl (RL.a rfl rfl ?_)))
    refine RL.nil (CW.at [Y 4 (.bool (((true) && (((lexP (((a) ++ ([32])) ++ (b))).2.2) != (0))) && ((len ((lexP (((a) ++ ([32])) ++ (b))).1)) == (0))))] rfl ?_)
    refine CW.ret (ret1 (P := Tryz.prog) (fn := Tryz.f7) (R := fun e w' => e = .returned (.bool true) ∧ Ext w w') rfl rfl ?_)
    exact ⟨by rw [hJ.2, show ((lexP (a ++ [32] ++ b)).2.2 != 0) = true from bne_iff_ne.2 hJ.1]; rfl, hS27.low⟩
   ·try simp only [zb] at hb3
    have hsb := sub_bd (lexP a).1 0 (len (lexP a).1 - 1)
    have hJ := joined_ok hb2 hb3.1
    have hJ2 : sameTk (lexP (a ++ [32] ++ b)).1 (([] : List Tk) ++ Eng.sub (lexP a).1 0 (len (lexP a).1 - 1) ++ (lexP b).1) false = true := hJ.2
    refine CW.skip (CW.at [Y 5 (u3), Y 8 (u10), Y 11 (u17), Y 13 (i64 ((lexP (((a) ++ ([32])) ++ (b))).2.2))] rfl ?_)
    refine CW.sr ?_
    refine RL.buildSlice (n := 0) (sz := 9) (e := 33) (vs := []) (cs := []) hS21 .nil rfl rfl (fun w => by kernel_rfl) rfl (fun v28 w29 M30 hS31 hle32 => ?_)
    replace hS31 : St w (fun _ _ => none) w29 M30 [.own 33 9 (v28) (([] : List Tk)).length ((([] : List Tk)).flatMap Tk.cells)] := hS31
    replace hsl_u3 := hsl_u3.mono hle32
    replace hsl_u10 := hsl_u10.mono hle32
    replace hsl_u17 := hsl_u17.mono hle32
    refine RL.m rfl rfl (RL.m rfl rfl (RL.u (.lenT hsl_u3 (.t rfl) ⟨_, Tryz.underlying23⟩) rfl (RL.u (.sub (.t rfl) .c (fun _ => by first | omega | (simp only [len_app, len_cons, len_nil]; omega))) rfl ?_)))
    obtain ⟨vs33, hs34, hrun⟩ := slSl_h (P := Tryz.prog) hsl_u3 Tk.cells_len Tryz.underlying23 Tryz.sizeOf33 (0) ((len ((lexP (a)).1)) - (1)) (by first | omega | (simp only [len_app, len_cons, len_nil]; omega))
    refine RL.u (.slRh (.t rfl) (.t rfl) hrun) rfl ?_
    clear hrun
    refine RL.appendL (f := Tk.cells) (l := ([] : List Tk)) (m := Eng.sub ((lexP (a)).1) (0) ((len ((lexP (a)).1)) - (1))) hS31 (k := 0) rfl (.t rfl) (.t rfl) hs34 Tryz.underlying23 Tryz.type33 rfl rfl rfl Tk.cells_one (by' := 96) rfl rfl (by first | omega | (simp only [len_app, len_cons, len_nil]; omega)) rfl (Hs' := fun v' => [.own 33 9 (v') (([] : List Tk) ++ Eng.sub ((lexP (a)).1) (0) ((len ((lexP (a)).1)) - (1))).length ((([] : List Tk) ++ Eng.sub ((lexP (a)).1) (0) ((len ((lexP (a)).1)) - (1))).flatMap Tk.cells)]) (fun _ => rfl) (fun v35 w36 M37 hS38 hle39 => ?_)
    replace hS38 : St w (fun _ _ => none) w36 M37 [.own 33 9 (v35) (([] : List Tk) ++ Eng.sub ((lexP (a)).1) (0) ((len ((lexP (a)).1)) - (1))).length ((([] : List Tk) ++ Eng.sub ((lexP (a)).1) (0) ((len ((lexP (a)).1)) - (1))).flatMap Tk.cells)] := hS38
    replace hsl_u3 := hsl_u3.mono hle39
    replace hsl_u10 := hsl_u10.mono hle39
    replace hsl_u17 := hsl_u17.mono hle39
    replace hs34 := hs34.mono hle39
    refine RL.m rfl rfl ?_
    refine RL.appendL (f := Tk.cells) (l := ([] : List Tk) ++ Eng.sub ((lexP (a)).1) (0) ((len ((lexP (a)).1)) - (1))) (m := (lexP (b)).1) hS38 (k := 0) rfl (.t rfl) (.t rfl) hsl_u10 Tryz.underlying23 Tryz.type33 rfl rfl rfl Tk.cells_one (by' := 96) rfl rfl (by first | omega | (simp only [len_app, len_cons, len_nil]; omega)) rfl (Hs' := fun v' => [.own 33 9 (v') (([] : List Tk) ++ Eng.sub ((lexP (a)).1) (0) ((len ((lexP (a)).1)) - (1)) ++ (lexP (b)).1).length ((([] : List Tk) ++ Eng.sub ((lexP (a)).1) (0) ((len ((lexP (a)).1)) - (1)) ++ (lexP (b)).1).flatMap Tk.cells)]) (fun _ => rfl) (fun v40 w41 M42 hS43 hle44 => ?_)
    replace hS43 : St w (fun _ _ => none) w41 M42 [.own 33 9 (v40) (([] : List Tk) ++ Eng.sub ((lexP (a)).1) (0) ((len ((lexP (a)).1)) - (1)) ++ (lexP (b)).1).length ((([] : List Tk) ++ Eng.sub ((lexP (a)).1) (0) ((len ((lexP (a)).1)) - (1)) ++ (lexP (b)).1).flatMap Tk.cells)] := hS43
    replace hsl_u3 := hsl_u3.mono hle44
    replace hsl_u10 := hsl_u10.mono hle44
    replace hsl_u17 := hsl_u17.mono hle44
    replace hs34 := hs34.mono hle44
    refine RL.a rfl rfl ?_
    refine RL.nil (CW.at [Y 11 (u17), Y 13 (i64 ((lexP (((a) ++ ([32])) ++ (b))).2.2)), Y 14 (v40)] rfl ?_)
    refine CW.sr ?_
    refine RL.callE hS43 .none Tryz.call8 .nil (fun _ => (alive_c _ (hg.low hS43.low))) rfl (fun w45 hS46 => ?_)
    refine RL.m rfl rfl (RL.v (.pos rfl rfl) (.move (.t rfl)) rfl (RL.v (.pos rfl rfl) (.eql (.g rfl (fun h => h)) .c) rfl (RL.u (.and (.t rfl) (.g rfl (fun h => h))) rfl (RL.m rfl rfl (RL.v (.pos rfl rfl) (.move (.t rfl)) rfl ?_)))))
    refine RL.v (.pos rfl rfl) (.move (.t rfl)) rfl ?_
    refine RL.callE hS46 (.pos rfl rfl) Tryz.call11 (.cons (.g rfl (fun h => h)) (.cons (.g rfl (fun h => h)) (.cons .c .nil))) (fun hW => by simp only [zb] at hW; exact (same8_c M42 ((lexP (((a) ++ ([32])) ++ (b))).1) (([] : List Tk) ++ Eng.sub ((lexP (a)).1) (0) ((len ((lexP (a)).1)) - (1)) ++ (lexP (b)).1) (false) (u17) (v40) _ hS46.sat hsl_u17 (hS46.sl (i := 0) rfl))) rfl (fun w47 hS48 => ?_)
    refine RL.u (.and (.t rfl) (.g rfl (fun h => h))) rfl (RL.a rfl rfl ?_)
    refine RL.nil (CW.at [Y 4 (.bool (((true) && (((lexP (((a) ++ ([32])) ++ (b))).2.2) == (0))) && (sameTk ((lexP (((a) ++ ([32])) ++ (b))).1) (([] : List Tk) ++ Eng.sub ((lexP (a)).1) (0) ((len ((lexP (a)).1)) - (1)) ++ (lexP (b)).1) (false))))] rfl ?_)
    refine CW.ret (ret1 (P := Tryz.prog) (fn := Tryz.f7) (R := fun e w' => e = .returned (.bool true) ∧ Ext w w') rfl rfl ?_)
    exact ⟨by rw [hJ.1, hJ2]; rfl, hS48.low⟩

end Go.Proofs.YthdialbnlnjgpaaGreatDoor
