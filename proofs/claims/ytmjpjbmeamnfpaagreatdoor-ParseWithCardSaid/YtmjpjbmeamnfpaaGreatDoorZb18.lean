/-
  NUMBERS IN BASE 16, the library's way, against the figures of Quote and Refs. No program in sight.
-/
import Derived.Test.YtmjpjbmeamnfpaaGreatDoorZb4
import Derived.Laws.BitsLemmas
import Derived.Test.YtmjpjbmeamnfpaaGreatDoorZb3
import Derived.Test.YtmjpjbmeamnfpaaGreatDoorProg
import Derived.Test.YtmjpjbmeamnfpaaGreatDoorZb17
import Derived.Test.YtmjpjbmeamnfpaaGreatDoorZb15
import Derived.Laws.BitsAllLaws
set_option linter.unusedVariables false
set_option linter.unusedSimpArgs false
set_option maxRecDepth 100000
namespace Go.Proofs.YtmjpjbmeamnfpaaGreatDoor
open Go.Eng

abbrev encZ (r : Int) : List Int := Lib.encodeRuneZ r
/- unicode/utf8.appendRuneNonASCII -/
theorem appendRuneN_c {w wv : World} {M0 M : Mem} {Rs : List HO} (l : List Int) (r : Int) (v : Value) (hS : St w M0 wv M (.own 5 1 v l.length (l.flatMap u8I) :: Rs)) (hl : len l ≤ 70368744177664) (hr : 128 ≤ r ∧ r ≤ 1114111) :
  Calls Tryz.prog 198 [v, (.int .i32 r)].toArray wv fun e w' => ∃ v, e = .returned v ∧ ∃ M', St w M0 w' M' (.own 5 1 v (l ++ encZ r).length ((l ++ encZ r).flatMap u8I) :: Rs) ∧ M.le M' := by
 refine CW.enter1 Tryz.func198 rfl Tryz.ntmps198 (Nat.le_of_ble_eq_true rfl) fun Q hE => ?_
 have := len_nonneg l
 refine CW.weaken [0, 1] (L' := [Y 0 v, Y 1 (.int .i32 r)]) ?_ rfl
 refine CW.sr ?_
 have hS1 := hS.ownNil 5 1
 refine RL.u (.assign .c) rfl (RL.nil (CW.id ?_))
 refine CW.sr (RL.m rfl rfl (RL.u (.cvtK (r := r) (.t rfl) Tryz.underlying21 Tryz.underlying93 (fun _ => by exact Eng.wrap_u32 (by omega))) rfl (RL.a rfl rfl (RL.nil (CW.id (CW.block ?_))))))
 refine CW.sr (RL.m rfl rfl (RL.u (.leq (.t rfl) .c) rfl (RL.a rfl rfl (RL.nil (CW.id ?_)))))
 refine CW.cond rfl ?_ ?_ <;> intro hb1 <;> try simp only [zb] at hb1
 ·refine CW.sr (RL.m rfl rfl (RL.m rfl rfl (RL.u (.bin (v := .int .i32 (r / 64)) (.t rfl) .c (fun _ w _ => by simp [go_sem, binOp])) rfl (RL.u (.cvtK (r := (r / 64) % 256) (.t rfl) Tryz.underlying21 Tryz.underlying5 (fun _ => IntKind.wrap_u8 _)) rfl (RL.u (.bin (v := .int .u8 (192 + ((r / 64) % 256))) .c (.t rfl) (fun hW w _ => by simp [go_sem, binOp]; first | exact u8_or192 _ (by omega) (by omega) | (have hB := u8_or192 _ (by omega) (by omega); omega))) rfl (RL.m rfl rfl (RL.u (.cvtK (r := r % 256) (.t rfl) Tryz.underlying21 Tryz.underlying5 (fun _ => IntKind.wrap_u8 _)) rfl (RL.u (.bin (v := .int .u8 ((r % 256) % 64)) (.t rfl) .c (fun hW w _ => by simp [go_sem, binOp]; first | exact u8_and63 (r % 256) (by omega) (by omega) | (have hB := u8_and63 (r % 256) (by omega) (by omega); omega))) rfl (RL.u (.bin (v := .int .u8 (128 + ((r % 256) % 64))) .c (.t rfl) (fun hW w _ => by simp [go_sem, binOp]; first | exact u8_or128 _ (by omega) (by omega) | (have hB := u8_or128 _ (by omega) (by omega); omega))) rfl ?_)))))))))
  refine RL.buildSlice (n := 2) (sz := 1) (e := 5) (vs := [(0, (.int .u8 (192 + ((r / 64) % 256)))), (1, (.int .u8 (128 + ((r % 256) % 64))))]) (cs := [(.int .u8 (192 + ((r / 64) % 256))), (.int .u8 (128 + ((r % 256) % 64)))]) hS1 (.cons (.t rfl) (.cons (.t rfl) .nil)) rfl rfl (fun w => by kernel_rfl) rfl (fun v2 w3 M4 hS5 hle6 => ?_)
  refine RL.appendL (f := u8I) (l := l) (m := ([192 + ((r / 64) % 256), 128 + ((r % 256) % 64)] : List Int)) hS5 (k := 2) rfl (.t rfl) (.t rfl) (hS5.sl (i := 0) rfl) Tryz.underlying110 Tryz.type5 rfl rfl rfl u8I_one (by' := 1) rfl rfl (by simp only [len_app, len_cons, len_nil]; omega) rfl (Hs' := fun v' => (.own 5 1 v2 (([192 + ((r / 64) % 256), 128 + ((r % 256) % 64)] : List Int)).length ((([192 + ((r / 64) % 256), 128 + ((r % 256) % 64)] : List Int)).flatMap u8I) :: .own 5 1 (.slice none 0 0) (([] : List Int)).length ((([] : List Int)).flatMap u8I) :: .own 5 1 v' (l ++ ([192 + ((r / 64) % 256), 128 + ((r % 256) % 64)] : List Int)).length ((l ++ ([192 + ((r / 64) % 256), 128 + ((r % 256) % 64)] : List Int)).flatMap u8I) :: Rs)) (fun _ => rfl) (fun v7 w8 M9 hS10 hle11 => ?_)
  refine RL.a rfl rfl (RL.nil (CW.id ?_))
  refine CW.ret (hE.r1 rfl rfl ?_)
  replace hS10 := (hS10.erase 1 rfl).erase 0 rfl
  refine ⟨_, rfl, M9, ?_, (hle6.trans hle11)⟩
  have he : encZ r = ([192 + ((r / 64) % 256), 128 + ((r % 256) % 64)] : List Int) := by
   refine (show encZ r = _ from Lib.encodeRuneZ_two (by omega) (by omega)).trans ?_
   first | rfl | (simp only [List.cons.injEq, and_true]; omega)
  rw [he]; exact hS10
 ·refine CW.seq (CW.sr (RL.m rfl rfl (RL.u (.lss (.t rfl) .c) rfl (RL.a rfl rfl (RL.nil (CW.id ?_))))))
  refine CW.cond rfl ?_ ?_ <;> intro hb2 <;> try simp only [zb] at hb2
  ·refine CW.skip (CW.id ?_)
   refine CW.cond rfl ?_ ?_ <;> intro hb3 <;> try simp only [zb] at hb3
   ·refine CW.sr (RL.m rfl rfl (RL.m rfl rfl (RL.u (.bin (v := .int .i32 (r / 4096)) (.t rfl) .c (fun _ w _ => by simp [go_sem, binOp])) rfl (RL.u (.cvtK (r := (r / 4096) % 256) (.t rfl) Tryz.underlying21 Tryz.underlying5 (fun _ => IntKind.wrap_u8 _)) rfl (RL.u (.bin (v := .int .u8 (224 + ((r / 4096) % 256))) .c (.t rfl) (fun hW w _ => by simp [go_sem, binOp]; first | exact u8_or224 _ (by omega) (by omega) | (have hB := u8_or224 _ (by omega) (by omega); omega))) rfl (RL.m rfl rfl (RL.u (.bin (v := .int .i32 (r / 64)) (.t rfl) .c (fun _ w _ => by simp [go_sem, binOp])) rfl (RL.u (.cvtK (r := (r / 64) % 256) (.t rfl) Tryz.underlying21 Tryz.underlying5 (fun _ => IntKind.wrap_u8 _)) rfl (RL.u (.bin (v := .int .u8 (((r / 64) % 256) % 64)) (.t rfl) .c (fun hW w _ => by simp [go_sem, binOp]; first | exact u8_and63 ((r / 64) % 256) (by omega) (by omega) | (have hB := u8_and63 ((r / 64) % 256) (by omega) (by omega); omega))) rfl (RL.u (.bin (v := .int .u8 (128 + (((r / 64) % 256) % 64))) .c (.t rfl) (fun hW w _ => by simp [go_sem, binOp]; first | exact u8_or128 _ (by omega) (by omega) | (have hB := u8_or128 _ (by omega) (by omega); omega))) rfl (RL.m rfl rfl (RL.u (.cvtK (r := r % 256) (.t rfl) Tryz.underlying21 Tryz.underlying5 (fun _ => IntKind.wrap_u8 _)) rfl (RL.u (.bin (v := .int .u8 ((r % 256) % 64)) (.t rfl) .c (fun hW w _ => by simp [go_sem, binOp]; first | exact u8_and63 (r % 256) (by omega) (by omega) | (have hB := u8_and63 (r % 256) (by omega) (by omega); omega))) rfl (RL.u (.bin (v := .int .u8 (128 + ((r % 256) % 64))) .c (.t rfl) (fun hW w _ => by simp [go_sem, binOp]; first | exact u8_or128 _ (by omega) (by omega) | (have hB := u8_or128 _ (by omega) (by omega); omega))) rfl ?_))))))))))))))
    refine RL.buildSlice (n := 3) (sz := 1) (e := 5) (vs := [(0, (.int .u8 (224 + ((r / 4096) % 256)))), (1, (.int .u8 (128 + (((r / 64) % 256) % 64)))), (2, (.int .u8 (128 + ((r % 256) % 64))))]) (cs := [(.int .u8 (224 + ((r / 4096) % 256))), (.int .u8 (128 + (((r / 64) % 256) % 64))), (.int .u8 (128 + ((r % 256) % 64)))]) hS1 (.cons (.t rfl) (.cons (.t rfl) (.cons (.t rfl) .nil))) rfl rfl (fun w => by kernel_rfl) rfl (fun v12 w13 M14 hS15 hle16 => ?_)
    refine RL.appendL (f := u8I) (l := l) (m := ([224 + ((r / 4096) % 256), 128 + (((r / 64) % 256) % 64), 128 + ((r % 256) % 64)] : List Int)) hS15 (k := 2) rfl (.t rfl) (.t rfl) (hS15.sl (i := 0) rfl) Tryz.underlying110 Tryz.type5 rfl rfl rfl u8I_one (by' := 1) rfl rfl (by simp only [len_app, len_cons, len_nil]; omega) rfl (Hs' := fun v' => (.own 5 1 v12 (([224 + ((r / 4096) % 256), 128 + (((r / 64) % 256) % 64), 128 + ((r % 256) % 64)] : List Int)).length ((([224 + ((r / 4096) % 256), 128 + (((r / 64) % 256) % 64), 128 + ((r % 256) % 64)] : List Int)).flatMap u8I) :: .own 5 1 (.slice none 0 0) (([] : List Int)).length ((([] : List Int)).flatMap u8I) :: .own 5 1 v' (l ++ ([224 + ((r / 4096) % 256), 128 + (((r / 64) % 256) % 64), 128 + ((r % 256) % 64)] : List Int)).length ((l ++ ([224 + ((r / 4096) % 256), 128 + (((r / 64) % 256) % 64), 128 + ((r % 256) % 64)] : List Int)).flatMap u8I) :: Rs)) (fun _ => rfl) (fun v17 w18 M19 hS20 hle21 => ?_)
    refine RL.a rfl rfl (RL.nil (CW.id ?_))
    refine CW.ret (hE.r1 rfl rfl ?_)
    replace hS20 := (hS20.erase 1 rfl).erase 0 rfl
    refine ⟨_, rfl, M19, ?_, (hle16.trans hle21)⟩
    have he : encZ r = ([224 + ((r / 4096) % 256), 128 + (((r / 64) % 256) % 64), 128 + ((r % 256) % 64)] : List Int) := by
     refine (show encZ r = _ from Lib.encodeRuneZ_three (by omega)).trans ?_
     first | rfl | (simp only [List.cons.injEq, and_true]; omega)
    rw [he]; exact hS20
   ·refine CW.sr (RL.m rfl rfl (RL.u (.gtr (.t rfl) .c) rfl (RL.m rfl rfl (RL.v (.pos rfl rfl) (.move (.t rfl)) rfl (RL.v (.pos rfl rfl) (.leq (.g rfl (fun h => h)) .c) rfl (RL.u (.and (.t rfl) (.g rfl (fun h => h))) rfl (RL.a rfl rfl (RL.nil (CW.id ?_)))))))))
    refine CW.cond rfl ?_ ?_ <;> intro hb4 <;> try simp only [zb] at hb4
    ·refine CW.sr (RL.m rfl rfl (RL.m rfl rfl (RL.u (.bin (v := .int .i32 (r / 262144)) (.t rfl) .c (fun _ w _ => by simp [go_sem, binOp])) rfl (RL.u (.cvtK (r := (r / 262144) % 256) (.t rfl) Tryz.underlying21 Tryz.underlying5 (fun _ => IntKind.wrap_u8 _)) rfl (RL.u (.bin (v := .int .u8 (240 + ((r / 262144) % 256))) .c (.t rfl) (fun hW w _ => by simp [go_sem, binOp]; first | exact u8_or240 _ (by omega) (by omega) | (have hB := u8_or240 _ (by omega) (by omega); omega))) rfl (RL.m rfl rfl (RL.u (.bin (v := .int .i32 (r / 4096)) (.t rfl) .c (fun _ w _ => by simp [go_sem, binOp])) rfl (RL.u (.cvtK (r := (r / 4096) % 256) (.t rfl) Tryz.underlying21 Tryz.underlying5 (fun _ => IntKind.wrap_u8 _)) rfl (RL.u (.bin (v := .int .u8 (((r / 4096) % 256) % 64)) (.t rfl) .c (fun hW w _ => by simp [go_sem, binOp]; first | exact u8_and63 ((r / 4096) % 256) (by omega) (by omega) | (have hB := u8_and63 ((r / 4096) % 256) (by omega) (by omega); omega))) rfl (RL.u (.bin (v := .int .u8 (128 + (((r / 4096) % 256) % 64))) .c (.t rfl) (fun hW w _ => by simp [go_sem, binOp]; first | exact u8_or128 _ (by omega) (by omega) | (have hB := u8_or128 _ (by omega) (by omega); omega))) rfl (RL.m rfl rfl (RL.u (.bin (v := .int .i32 (r / 64)) (.t rfl) .c (fun _ w _ => by simp [go_sem, binOp])) rfl (RL.u (.cvtK (r := (r / 64) % 256) (.t rfl) Tryz.underlying21 Tryz.underlying5 (fun _ => IntKind.wrap_u8 _)) rfl (RL.u (.bin (v := .int .u8 (((r / 64) % 256) % 64)) (.t rfl) .c (fun hW w _ => by simp [go_sem, binOp]; first | exact u8_and63 ((r / 64) % 256) (by omega) (by omega) | (have hB := u8_and63 ((r / 64) % 256) (by omega) (by omega); omega))) rfl (RL.u (.bin (v := .int .u8 (128 + (((r / 64) % 256) % 64))) .c (.t rfl) (fun hW w _ => by simp [go_sem, binOp]; first | exact u8_or128 _ (by omega) (by omega) | (have hB := u8_or128 _ (by omega) (by omega); omega))) rfl (RL.m rfl rfl (RL.u (.cvtK (r := r % 256) (.t rfl) Tryz.underlying21 Tryz.underlying5 (fun _ => IntKind.wrap_u8 _)) rfl (RL.u (.bin (v := .int .u8 ((r % 256) % 64)) (.t rfl) .c (fun hW w _ => by simp [go_sem, binOp]; first | exact u8_and63 (r % 256) (by omega) (by omega) | (have hB := u8_and63 (r % 256) (by omega) (by omega); omega))) rfl ?_))))))))))))))))))
     refine RL.u (.bin (v := .int .u8 (128 + ((r % 256) % 64))) .c (.t rfl) (fun hW w _ => by simp [go_sem, binOp]; first | exact u8_or128 _ (by omega) (by omega) | (have hB := u8_or128 _ (by omega) (by omega); omega))) rfl ?_
     refine RL.buildSlice (n := 4) (sz := 1) (e := 5) (vs := [(0, (.int .u8 (240 + ((r / 262144) % 256)))), (1, (.int .u8 (128 + (((r / 4096) % 256) % 64)))), (2, (.int .u8 (128 + (((r / 64) % 256) % 64)))), (3, (.int .u8 (128 + ((r % 256) % 64))))]) (cs := [(.int .u8 (240 + ((r / 262144) % 256))), (.int .u8 (128 + (((r / 4096) % 256) % 64))), (.int .u8 (128 + (((r / 64) % 256) % 64))), (.int .u8 (128 + ((r % 256) % 64)))]) hS1 (.cons (.t rfl) (.cons (.t rfl) (.cons (.t rfl) (.cons (.t rfl) .nil)))) rfl rfl (fun w => by kernel_rfl) rfl (fun v22 w23 M24 hS25 hle26 => ?_)
     refine RL.appendL (f := u8I) (l := l) (m := ([240 + ((r / 262144) % 256), 128 + (((r / 4096) % 256) % 64), 128 + (((r / 64) % 256) % 64), 128 + ((r % 256) % 64)] : List Int)) hS25 (k := 2) rfl (.t rfl) (.t rfl) (hS25.sl (i := 0) rfl) Tryz.underlying110 Tryz.type5 rfl rfl rfl u8I_one (by' := 1) rfl rfl (by simp only [len_app, len_cons, len_nil]; omega) rfl (Hs' := fun v' => (.own 5 1 v22 (([240 + ((r / 262144) % 256), 128 + (((r / 4096) % 256) % 64), 128 + (((r / 64) % 256) % 64), 128 + ((r % 256) % 64)] : List Int)).length ((([240 + ((r / 262144) % 256), 128 + (((r / 4096) % 256) % 64), 128 + (((r / 64) % 256) % 64), 128 + ((r % 256) % 64)] : List Int)).flatMap u8I) :: .own 5 1 (.slice none 0 0) (([] : List Int)).length ((([] : List Int)).flatMap u8I) :: .own 5 1 v' (l ++ ([240 + ((r / 262144) % 256), 128 + (((r / 4096) % 256) % 64), 128 + (((r / 64) % 256) % 64), 128 + ((r % 256) % 64)] : List Int)).length ((l ++ ([240 + ((r / 262144) % 256), 128 + (((r / 4096) % 256) % 64), 128 + (((r / 64) % 256) % 64), 128 + ((r % 256) % 64)] : List Int)).flatMap u8I) :: Rs)) (fun _ => rfl) (fun v27 w28 M29 hS30 hle31 => ?_)
     refine RL.a rfl rfl (RL.nil (CW.id ?_))
     refine CW.ret (hE.r1 rfl rfl ?_)
     replace hS30 := (hS30.erase 1 rfl).erase 0 rfl
     exfalso; omega
    ·refine CW.sr (RL.m rfl rfl ?_)
     refine RL.buildSlice (n := 3) (sz := 1) (e := 5) (vs := [(0, (.int .u8 239)), (1, (.int .u8 191)), (2, (.int .u8 189))]) (cs := [(.int .u8 239), (.int .u8 191), (.int .u8 189)]) hS1 (.cons .c (.cons .c (.cons .c .nil))) rfl rfl (fun w => by kernel_rfl) rfl (fun v32 w33 M34 hS35 hle36 => ?_)
     refine RL.appendL (f := u8I) (l := l) (m := ([239, 191, 189] : List Int)) hS35 (k := 2) rfl (.t rfl) (.t rfl) (hS35.sl (i := 0) rfl) Tryz.underlying110 Tryz.type5 rfl rfl rfl u8I_one (by' := 1) rfl rfl (by simp only [len_app, len_cons, len_nil]; omega) rfl (Hs' := fun v' => (.own 5 1 v32 (([239, 191, 189] : List Int)).length ((([239, 191, 189] : List Int)).flatMap u8I) :: .own 5 1 (.slice none 0 0) (([] : List Int)).length ((([] : List Int)).flatMap u8I) :: .own 5 1 v' (l ++ ([239, 191, 189] : List Int)).length ((l ++ ([239, 191, 189] : List Int)).flatMap u8I) :: Rs)) (fun _ => rfl) (fun v37 w38 M39 hS40 hle41 => ?_)
     refine RL.a rfl rfl (RL.nil (CW.id ?_))
     refine CW.ret (hE.r1 rfl rfl ?_)
     replace hS40 := (hS40.erase 1 rfl).erase 0 rfl
     exfalso; omega
  ·refine CW.region (RL.m rfl rfl (RL.u (.lss .c (.t rfl)) rfl (RL.m rfl rfl (RL.v (.pos rfl rfl) (.move (.t rfl)) rfl (RL.v (.pos rfl rfl) (.leq (.g rfl (fun h => h)) .c) rfl (RL.u (.and (.t rfl) (.g rfl (fun h => h))) rfl (RL.a rfl rfl (RL.nil (CW.id ?_)))))))))
   refine CW.cond rfl ?_ ?_ <;> intro hb5 <;> try simp only [zb] at hb5
   ·refine CW.sr (RL.m rfl rfl (RL.m rfl rfl (RL.u (.bin (v := .int .i32 (r / 4096)) (.t rfl) .c (fun _ w _ => by simp [go_sem, binOp])) rfl (RL.u (.cvtK (r := (r / 4096) % 256) (.t rfl) Tryz.underlying21 Tryz.underlying5 (fun _ => IntKind.wrap_u8 _)) rfl (RL.u (.bin (v := .int .u8 (224 + ((r / 4096) % 256))) .c (.t rfl) (fun hW w _ => by simp [go_sem, binOp]; first | exact u8_or224 _ (by omega) (by omega) | (have hB := u8_or224 _ (by omega) (by omega); omega))) rfl (RL.m rfl rfl (RL.u (.bin (v := .int .i32 (r / 64)) (.t rfl) .c (fun _ w _ => by simp [go_sem, binOp])) rfl (RL.u (.cvtK (r := (r / 64) % 256) (.t rfl) Tryz.underlying21 Tryz.underlying5 (fun _ => IntKind.wrap_u8 _)) rfl (RL.u (.bin (v := .int .u8 (((r / 64) % 256) % 64)) (.t rfl) .c (fun hW w _ => by simp [go_sem, binOp]; first | exact u8_and63 ((r / 64) % 256) (by omega) (by omega) | (have hB := u8_and63 ((r / 64) % 256) (by omega) (by omega); omega))) rfl (RL.u (.bin (v := .int .u8 (128 + (((r / 64) % 256) % 64))) .c (.t rfl) (fun hW w _ => by simp [go_sem, binOp]; first | exact u8_or128 _ (by omega) (by omega) | (have hB := u8_or128 _ (by omega) (by omega); omega))) rfl (RL.m rfl rfl (RL.u (.cvtK (r := r % 256) (.t rfl) Tryz.underlying21 Tryz.underlying5 (fun _ => IntKind.wrap_u8 _)) rfl (RL.u (.bin (v := .int .u8 ((r % 256) % 64)) (.t rfl) .c (fun hW w _ => by simp [go_sem, binOp]; first | exact u8_and63 (r % 256) (by omega) (by omega) | (have hB := u8_and63 (r % 256) (by omega) (by omega); omega))) rfl (RL.u (.bin (v := .int .u8 (128 + ((r % 256) % 64))) .c (.t rfl) (fun hW w _ => by simp [go_sem, binOp]; first | exact u8_or128 _ (by omega) (by omega) | (have hB := u8_or128 _ (by omega) (by omega); omega))) rfl ?_))))))))))))))
    refine RL.buildSlice (n := 3) (sz := 1) (e := 5) (vs := [(0, (.int .u8 (224 + ((r / 4096) % 256)))), (1, (.int .u8 (128 + (((r / 64) % 256) % 64)))), (2, (.int .u8 (128 + ((r % 256) % 64))))]) (cs := [(.int .u8 (224 + ((r / 4096) % 256))), (.int .u8 (128 + (((r / 64) % 256) % 64))), (.int .u8 (128 + ((r % 256) % 64)))]) hS1 (.cons (.t rfl) (.cons (.t rfl) (.cons (.t rfl) .nil))) rfl rfl (fun w => by kernel_rfl) rfl (fun v42 w43 M44 hS45 hle46 => ?_)
    refine RL.appendL (f := u8I) (l := l) (m := ([224 + ((r / 4096) % 256), 128 + (((r / 64) % 256) % 64), 128 + ((r % 256) % 64)] : List Int)) hS45 (k := 2) rfl (.t rfl) (.t rfl) (hS45.sl (i := 0) rfl) Tryz.underlying110 Tryz.type5 rfl rfl rfl u8I_one (by' := 1) rfl rfl (by simp only [len_app, len_cons, len_nil]; omega) rfl (Hs' := fun v' => (.own 5 1 v42 (([224 + ((r / 4096) % 256), 128 + (((r / 64) % 256) % 64), 128 + ((r % 256) % 64)] : List Int)).length ((([224 + ((r / 4096) % 256), 128 + (((r / 64) % 256) % 64), 128 + ((r % 256) % 64)] : List Int)).flatMap u8I) :: .own 5 1 (.slice none 0 0) (([] : List Int)).length ((([] : List Int)).flatMap u8I) :: .own 5 1 v' (l ++ ([224 + ((r / 4096) % 256), 128 + (((r / 64) % 256) % 64), 128 + ((r % 256) % 64)] : List Int)).length ((l ++ ([224 + ((r / 4096) % 256), 128 + (((r / 64) % 256) % 64), 128 + ((r % 256) % 64)] : List Int)).flatMap u8I) :: Rs)) (fun _ => rfl) (fun v47 w48 M49 hS50 hle51 => ?_)
    refine RL.a rfl rfl (RL.nil (CW.id ?_))
    refine CW.ret (hE.r1 rfl rfl ?_)
    replace hS50 := (hS50.erase 1 rfl).erase 0 rfl
    refine ⟨_, rfl, M49, ?_, (hle46.trans hle51)⟩
    have he : encZ r = ([224 + ((r / 4096) % 256), 128 + (((r / 64) % 256) % 64), 128 + ((r % 256) % 64)] : List Int) := by
     refine (show encZ r = _ from Lib.encodeRuneZ_three (by omega)).trans ?_
     first | rfl | (simp only [List.cons.injEq, and_true]; omega)
    rw [he]; exact hS50
   ·refine CW.sr (RL.m rfl rfl (RL.u (.gtr (.t rfl) .c) rfl (RL.m rfl rfl (RL.v (.pos rfl rfl) (.move (.t rfl)) rfl (RL.v (.pos rfl rfl) (.leq (.g rfl (fun h => h)) .c) rfl (RL.u (.and (.t rfl) (.g rfl (fun h => h))) rfl (RL.a rfl rfl (RL.nil (CW.id ?_)))))))))
    refine CW.cond rfl ?_ ?_ <;> intro hb6 <;> try simp only [zb] at hb6
    ·refine CW.sr (RL.m rfl rfl (RL.m rfl rfl (RL.u (.bin (v := .int .i32 (r / 262144)) (.t rfl) .c (fun _ w _ => by simp [go_sem, binOp])) rfl (RL.u (.cvtK (r := (r / 262144) % 256) (.t rfl) Tryz.underlying21 Tryz.underlying5 (fun _ => IntKind.wrap_u8 _)) rfl (RL.u (.bin (v := .int .u8 (240 + ((r / 262144) % 256))) .c (.t rfl) (fun hW w _ => by simp [go_sem, binOp]; first | exact u8_or240 _ (by omega) (by omega) | (have hB := u8_or240 _ (by omega) (by omega); omega))) rfl (RL.m rfl rfl (RL.u (.bin (v := .int .i32 (r / 4096)) (.t rfl) .c (fun _ w _ => by simp [go_sem, binOp])) rfl (RL.u (.cvtK (r := (r / 4096) % 256) (.t rfl) Tryz.underlying21 Tryz.underlying5 (fun _ => IntKind.wrap_u8 _)) rfl (RL.u (.bin (v := .int .u8 (((r / 4096) % 256) % 64)) (.t rfl) .c (fun hW w _ => by simp [go_sem, binOp]; first | exact u8_and63 ((r / 4096) % 256) (by omega) (by omega) | (have hB := u8_and63 ((r / 4096) % 256) (by omega) (by omega); omega))) rfl (RL.u (.bin (v := .int .u8 (128 + (((r / 4096) % 256) % 64))) .c (.t rfl) (fun hW w _ => by simp [go_sem, binOp]; first | exact u8_or128 _ (by omega) (by omega) | (have hB := u8_or128 _ (by omega) (by omega); omega))) rfl (RL.m rfl rfl (RL.u (.bin (v := .int .i32 (r / 64)) (.t rfl) .c (fun _ w _ => by simp [go_sem, binOp])) rfl (RL.u (.cvtK (r := (r / 64) % 256) (.t rfl) Tryz.underlying21 Tryz.underlying5 (fun _ => IntKind.wrap_u8 _)) rfl (RL.u (.bin (v := .int .u8 (((r / 64) % 256) % 64)) (.t rfl) .c (fun hW w _ => by simp [go_sem, binOp]; first | exact u8_and63 ((r / 64) % 256) (by omega) (by omega) | (have hB := u8_and63 ((r / 64) % 256) (by omega) (by omega); omega))) rfl (RL.u (.bin (v := .int .u8 (128 + (((r / 64) % 256) % 64))) .c (.t rfl) (fun hW w _ => by simp [go_sem, binOp]; first | exact u8_or128 _ (by omega) (by omega) | (have hB := u8_or128 _ (by omega) (by omega); omega))) rfl (RL.m rfl rfl (RL.u (.cvtK (r := r % 256) (.t rfl) Tryz.underlying21 Tryz.underlying5 (fun _ => IntKind.wrap_u8 _)) rfl (RL.u (.bin (v := .int .u8 ((r % 256) % 64)) (.t rfl) .c (fun hW w _ => by simp [go_sem, binOp]; first | exact u8_and63 (r % 256) (by omega) (by omega) | (have hB := u8_and63 (r % 256) (by omega) (by omega); omega))) rfl ?_))))))))))))))))))
     refine RL.u (.bin (v := .int .u8 (128 + ((r % 256) % 64))) .c (.t rfl) (fun hW w _ => by simp [go_sem, binOp]; first | exact u8_or128 _ (by omega) (by omega) | (have hB := u8_or128 _ (by omega) (by omega); omega))) rfl ?_
     refine RL.buildSlice (n := 4) (sz := 1) (e := 5) (vs := [(0, (.int .u8 (240 + ((r / 262144) % 256)))), (1, (.int .u8 (128 + (((r / 4096) % 256) % 64)))), (2, (.int .u8 (128 + (((r / 64) % 256) % 64)))), (3, (.int .u8 (128 + ((r % 256) % 64))))]) (cs := [(.int .u8 (240 + ((r / 262144) % 256))), (.int .u8 (128 + (((r / 4096) % 256) % 64))), (.int .u8 (128 + (((r / 64) % 256) % 64))), (.int .u8 (128 + ((r % 256) % 64)))]) hS1 (.cons (.t rfl) (.cons (.t rfl) (.cons (.t rfl) (.cons (.t rfl) .nil)))) rfl rfl (fun w => by kernel_rfl) rfl (fun v52 w53 M54 hS55 hle56 => ?_)
     refine RL.appendL (f := u8I) (l := l) (m := ([240 + ((r / 262144) % 256), 128 + (((r / 4096) % 256) % 64), 128 + (((r / 64) % 256) % 64), 128 + ((r % 256) % 64)] : List Int)) hS55 (k := 2) rfl (.t rfl) (.t rfl) (hS55.sl (i := 0) rfl) Tryz.underlying110 Tryz.type5 rfl rfl rfl u8I_one (by' := 1) rfl rfl (by simp only [len_app, len_cons, len_nil]; omega) rfl (Hs' := fun v' => (.own 5 1 v52 (([240 + ((r / 262144) % 256), 128 + (((r / 4096) % 256) % 64), 128 + (((r / 64) % 256) % 64), 128 + ((r % 256) % 64)] : List Int)).length ((([240 + ((r / 262144) % 256), 128 + (((r / 4096) % 256) % 64), 128 + (((r / 64) % 256) % 64), 128 + ((r % 256) % 64)] : List Int)).flatMap u8I) :: .own 5 1 (.slice none 0 0) (([] : List Int)).length ((([] : List Int)).flatMap u8I) :: .own 5 1 v' (l ++ ([240 + ((r / 262144) % 256), 128 + (((r / 4096) % 256) % 64), 128 + (((r / 64) % 256) % 64), 128 + ((r % 256) % 64)] : List Int)).length ((l ++ ([240 + ((r / 262144) % 256), 128 + (((r / 4096) % 256) % 64), 128 + (((r / 64) % 256) % 64), 128 + ((r % 256) % 64)] : List Int)).flatMap u8I) :: Rs)) (fun _ => rfl) (fun v57 w58 M59 hS60 hle61 => ?_)
     refine RL.a rfl rfl ?_
     refine RL.nil (CW.at [Y 4 v57] rfl (CW.ret (hE.r1 rfl rfl ?_)))
     replace hS60 := (hS60.erase 1 rfl).erase 0 rfl
     refine ⟨_, rfl, M59, ?_, (hle56.trans hle61)⟩
     have he : encZ r = ([240 + ((r / 262144) % 256), 128 + (((r / 4096) % 256) % 64), 128 + (((r / 64) % 256) % 64), 128 + ((r % 256) % 64)] : List Int) := by
      refine (show encZ r = _ from Lib.encodeRuneZ_four (by omega) (by omega)).trans ?_
      first | rfl | (simp only [List.cons.injEq, and_true]; omega)
     rw [he]; exact hS60
    ·refine CW.sr (RL.m rfl rfl ?_)
     refine RL.buildSlice (n := 3) (sz := 1) (e := 5) (vs := [(0, (.int .u8 239)), (1, (.int .u8 191)), (2, (.int .u8 189))]) (cs := [(.int .u8 239), (.int .u8 191), (.int .u8 189)]) hS1 (.cons .c (.cons .c (.cons .c .nil))) rfl rfl (fun w => by kernel_rfl) rfl (fun v62 w63 M64 hS65 hle66 => ?_)
     refine RL.appendL (f := u8I) (l := l) (m := ([239, 191, 189] : List Int)) hS65 (k := 2) rfl (.t rfl) (.t rfl) (hS65.sl (i := 0) rfl) Tryz.underlying110 Tryz.type5 rfl rfl rfl u8I_one (by' := 1) rfl rfl (by simp only [len_app, len_cons, len_nil]; omega) rfl (Hs' := fun v' => (.own 5 1 v62 (([239, 191, 189] : List Int)).length ((([239, 191, 189] : List Int)).flatMap u8I) :: .own 5 1 (.slice none 0 0) (([] : List Int)).length ((([] : List Int)).flatMap u8I) :: .own 5 1 v' (l ++ ([239, 191, 189] : List Int)).length ((l ++ ([239, 191, 189] : List Int)).flatMap u8I) :: Rs)) (fun _ => rfl) (fun v67 w68 M69 hS70 hle71 => ?_)
     refine RL.a rfl rfl (RL.nil (CW.id ?_))
     refine CW.ret (hE.r1 rfl rfl ?_)
     replace hS70 := (hS70.erase 1 rfl).erase 0 rfl
     refine ⟨_, rfl, M69, ?_, (hle66.trans hle71)⟩
     have he : encZ r = ([239, 191, 189] : List Int) := by
      refine (show encZ r = _ from Lib.encodeRuneZ_bad (by omega)).trans ?_
      first | rfl | (simp only [List.cons.injEq, and_true]; omega)
     rw [he]; exact hS70

/- unicode/utf8.AppendRune -/
theorem appendRune_c {w wv : World} {M0 M : Mem} {Rs : List HO} (l : List Int) (r : Int) (v : Value) (hS : St w M0 wv M (.own 5 1 v l.length (l.flatMap u8I) :: Rs)) (hl : len l ≤ 70368744177664) (hr : 0 ≤ r ∧ r ≤ 1114111) :
  Calls Tryz.prog 150 [v, (.int .i32 r)].toArray wv fun e w' => ∃ v, e = .returned v ∧ ∃ M', St w M0 w' M' (.own 5 1 v (l ++ encZ r).length ((l ++ encZ r).flatMap u8I) :: Rs) ∧ M.le M' := by
 refine CW.enter1 Tryz.func150 rfl Tryz.ntmps150 (Nat.le_of_ble_eq_true rfl) fun Q hE => ?_
 have := len_nonneg l
 refine CW.weaken [0, 1] (L' := [Y 0 v, Y 1 (.int .i32 r)]) ?_ rfl
 refine CW.sr ?_
 have hS1 := hS.ownNil 5 1
 refine RL.u (.assign .c) rfl (RL.nil (CW.id ?_))
 refine CW.seq (CW.sr (RL.m rfl rfl (RL.u (.cvtK (r := r) (.t rfl) Tryz.underlying21 Tryz.underlying93 (fun _ => by exact Eng.wrap_u32 (by omega))) rfl (RL.u (.leq (.t rfl) .c) rfl (RL.nil (CW.id ?_))))))
 refine CW.cond rfl ?_ ?_ <;> intro hb1 <;> try simp only [zb] at hb1
 ·refine CW.sr (RL.m rfl rfl (RL.m rfl rfl (RL.u (.cvtK (r := r) (.t rfl) Tryz.underlying21 Tryz.underlying5 (fun _ => by exact Eng.wrap_u8 (by omega))) rfl ?_)))
  refine RL.buildSlice (n := 1) (sz := 1) (e := 5) (vs := [(0, (.int .u8 r))]) (cs := [(.int .u8 r)]) hS1 (.cons (.t rfl) .nil) rfl rfl (fun w => by kernel_rfl) rfl (fun v2 w3 M4 hS5 hle6 => ?_)
  refine RL.append1 (f := u8I) (l := l) (y := r) hS5 (k := 2) rfl (.t rfl) (.t rfl) (hS5.sl (i := 0) rfl) Tryz.underlying110 Tryz.type5 rfl rfl rfl u8I_one (by' := 1) rfl rfl (by omega) rfl (Hs' := fun v' => (.own 5 1 v2 (([r] : List Int)).length ((([r] : List Int)).flatMap u8I) :: .own 5 1 (.slice none 0 0) (([] : List Int)).length ((([] : List Int)).flatMap u8I) :: .own 5 1 v' (l ++ [r]).length ((l ++ [r]).flatMap u8I) :: Rs)) (fun _ => rfl) (fun v7 w8 M9 hS10 hle11 => ?_)
  replace hS10 := hS10.erase 0 rfl
  refine RL.a rfl rfl (RL.nil (CW.id ?_))
  refine CW.ret (hE.r1 rfl rfl ?_)
  replace hS10 := hS10.erase 0 rfl
  refine ⟨_, rfl, M9, ?_, (hle6.trans hle11)⟩
  have he : encZ r = [r] := by
   refine (show encZ r = _ from Lib.encodeRuneZ_one (by omega) (by omega)).trans ?_
   first | rfl | (simp only [List.cons.injEq, and_true]; omega)
  rw [he]; exact hS10
 ·refine CW.skip (CW.id (CW.sr (RL.m rfl rfl (RL.m rfl rfl ?_))))
  replace hS1 := hS1.front 1 rfl rfl
  refine RL.callP Tryz.call198 (.cons (.t rfl) (.cons (.t rfl) .nil)) (appendRuneN_c (Rs := (.own 5 1 (.slice none 0 0) (([] : List Int)).length ((([] : List Int)).flatMap u8I) :: Rs)) l r v hS1 (by first | assumption | omega) (by omega)) rfl ?_
  rintro v12 w13 ⟨M14, hS15, hle16⟩
  refine RL.a rfl rfl ?_
  refine RL.nil (CW.at [Y 4 v12] rfl (CW.ret (hE.r1 rfl rfl ?_)))
  replace hS15 := hS15.erase 1 rfl
  exact ⟨_, rfl, M14, hS15, hle16⟩

theorem setCell_row {w : World} {b : Nat} {a v x : Value} {t : TypeId} (h : w.heap[b]? = some (.cells #[a, v] t (0, 0))) : w.setCell ⟨b, 0, none⟩ x = w.setRow b #[x, v] := by
  unfold World.setCell World.setRow
  congr 1
  apply Array.ext_getElem?
  intro i
  by_cases hi : b = i
  · subst hi; simp [Array.getElem?_modify, h]
  · simp [Array.getElem?_modify, hi]
def selfP (b : Nat) : Value := .pointer (some ⟨b, 0, none⟩)
theorem copy_c {w wv : World} {M0 M : Mem} {Rs : List HO} (b : Nat) (a v : Value) (hS : St w M0 wv M (.box b [a, v] tB :: Rs)) (ha : a = .pointer none ∨ a = selfP b) :
    Calls Tryz.prog 149 [.pointer (some ⟨b, 0, none⟩)].toArray wv fun e w' => ∃ u, e = .returned u ∧ St w M0 w' M (.box b [selfP b, v] tB :: Rs) := by
  have hb := (hS.obj (i := 0) rfl).2.1
  rcases ha with rfl | rfl
  · refine (copy_fresh b wv (by simp [World.cell?, hb]) (by simp [World.shape?, hb]) (by simp [World.frozen?, hb])).mono fun e w' ⟨he, hw⟩ => ⟨_, he, ?_⟩
    rw [hw, setCell_row hb]
    exact hS.setBox (i := 0) rfl [selfP b, v]
  · exact (copy_used b wv (by simp [World.cell?, hb, selfP])).mono fun e w' ⟨he, hw⟩ => ⟨_, he, hw ▸ hS⟩
/- (*strings.Builder).WriteByte -/
theorem writeByte_c {w wv : World} {M0 M : Mem} {Rs : List HO} (b : Nat) (a : Value) (l : List Int) (c : Int) (v : Value) (hS : St w M0 wv M (.box b [a, v] 163 :: .own 5 1 v l.length (l.flatMap u8I) :: Rs)) (ha : a = .pointer none ∨ a = selfP b) (hl : len l ≤ 35184372088832) (hc : 0 ≤ c ∧ c ≤ 255) :
  Calls Tryz.prog 282 [(.pointer (some ⟨b, 0, none⟩)), (.int .u8 c)].toArray wv fun e w' => ∃ u, e = .returned u ∧ ∃ v' M', u = .nilIface ∧ St w M0 w' M' (.box b [selfP b, v'] 163 :: .own 5 1 v' (l ++ [c]).length ((l ++ [c]).flatMap u8I) :: Rs) ∧ M.le M' := by
 refine CW.enter1 Tryz.func282 rfl Tryz.ntmps282 (Nat.le_of_ble_eq_true rfl) fun Q hE => ?_
 have := len_nonneg l
 refine CW.weaken [0, 1] (L' := [Y 0 (.pointer (some ⟨b, 0, none⟩)), Y 1 (.int .u8 c)]) ?_ rfl
 refine CW.sr (RL.u (.assign .c) rfl (RL.nil (CW.id (CW.sr ?_))))
 refine RL.m rfl rfl ?_
 replace hS := hS.front 0 rfl rfl
 refine RL.callP Tryz.call149 (.cons (.t rfl) .nil) (copy_c (Rs := (.own 5 1 v l.length (l.flatMap u8I) :: Rs)) b a v hS (by first | assumption | exact Or.inr rfl | exact Or.inl rfl)) rfl ?_
 rintro v1 w2 hS4
 refine RL.nil (CW.at [Y 0 (.pointer (some ⟨b, 0, none⟩)), Y 1 (.int .u8 c)] rfl (CW.sr (RL.m rfl rfl (RL.m rfl rfl (RL.u (.nilP (.t rfl)) rfl (RL.u (.fldA (q := ⟨b, 1, none⟩) (.t rfl) (fun w => by kernel_rfl)) rfl (RL.u (.loadB1 (v := v) hS4 extEq (i := 0) rfl (.t rfl) Tryz.isAgg110 rfl) rfl (RL.m rfl rfl ?_))))))))
 refine RL.buildSlice (n := 1) (sz := 1) (e := 5) (vs := [(0, (.int .u8 c))]) (cs := [(.int .u8 c)]) hS4 (.cons (.t rfl) .nil) rfl rfl (fun w => by kernel_rfl) rfl (fun v6 w7 M8 hS9 hle10 => ?_)
 refine RL.append1 (f := u8I) (l := l) (y := c) hS9 (k := 2) rfl (.t rfl) (.t rfl) (hS9.sl (i := 0) rfl) Tryz.underlying110 Tryz.type5 rfl rfl rfl u8I_one (by' := 1) rfl rfl (by omega) rfl (Hs' := fun v' => (.own 5 1 v6 (([c] : List Int)).length ((([c] : List Int)).flatMap u8I) :: .box b [(selfP b), v] 163 :: .own 5 1 v' (l ++ [c]).length ((l ++ [c]).flatMap u8I) :: Rs)) (fun _ => rfl) (fun v11 w12 M13 hS14 hle15 => ?_)
 replace hS14 := hS14.erase 0 rfl
 refine RL.u (.nilP (.t rfl)) rfl (RL.u (.fldA (q := ⟨b, 1, none⟩) (.t rfl) (fun w => by kernel_rfl)) rfl ?_)
 refine RL.storeS (v := v11) hS14 (hS14.sl (i := 1) rfl) (i := 0) rfl (.t rfl) (.t rfl) Tryz.sizeOf110 rfl (cs' := [(selfP b), v11]) rfl (Hs' := (.box b [(selfP b), v11] 163 :: .own 5 1 v11 (l ++ [c]).length ((l ++ [c]).flatMap u8I) :: Rs)) rfl (fun w16 hS17 => (RL.nil (CW.id ?_)))
 refine CW.sr (RL.u (.assign .c) rfl (RL.nil (CW.id (CW.ret (hE.r1 rfl rfl ?_)))))
 exact ⟨_, rfl, _, M13, rfl, hS17, (hle10.trans hle15)⟩

/- (*strings.Builder).WriteString -/
theorem writeString_c {w wv : World} {M0 M : Mem} {Rs : List HO} (b : Nat) (a : Value) (l : List Int) (s : Str) (v : Value) (hS : St w M0 wv M (.box b [a, v] 163 :: .own 5 1 v l.length (l.flatMap u8I) :: Rs)) (ha : a = .pointer none ∨ a = selfP b) (hl : len l ≤ 35184372088832) (hc : len s ≤ 35184372088832) :
  Calls Tryz.prog 218 [(.pointer (some ⟨b, 0, none⟩)), (str s)].toArray wv fun e w' => ∃ u, e = .returned u ∧ ∃ v' M', u = .tuple #[i64 (len s), .nilIface] ∧ St w M0 w' M' (.box b [selfP b, v'] 163 :: .own 5 1 v' (l ++ ints s).length ((l ++ ints s).flatMap u8I) :: Rs) ∧ M.le M' := by
 refine CW.enter1 Tryz.func218 rfl Tryz.ntmps218 (Nat.le_of_ble_eq_true rfl) fun Q hE => ?_
 have := len_nonneg l
 refine CW.weaken [0, 1] (L' := [Y 0 (.pointer (some ⟨b, 0, none⟩)), Y 1 (str s)]) ?_ rfl
 refine CW.sr (RL.u (.assign .c) rfl (RL.u (.assign .c) rfl (RL.nil (CW.id (CW.sr ?_)))))
 refine RL.m rfl rfl ?_
 replace hS := hS.front 0 rfl rfl
 refine RL.callP Tryz.call149 (.cons (.t rfl) .nil) (copy_c (Rs := (.own 5 1 v l.length (l.flatMap u8I) :: Rs)) b a v hS (by first | assumption | exact Or.inr rfl | exact Or.inl rfl)) rfl ?_
 rintro v1 w2 hS4
 refine RL.nil (CW.at [Y 0 (.pointer (some ⟨b, 0, none⟩)), Y 1 (str s)] rfl (CW.sr (RL.m rfl rfl (RL.m rfl rfl (RL.u (.nilP (.t rfl)) rfl (RL.u (.fldA (q := ⟨b, 1, none⟩) (.t rfl) (fun w => by kernel_rfl)) rfl (RL.u (.loadB1 (v := v) hS4 extEq (i := 0) rfl (.t rfl) Tryz.isAgg110 rfl) rfl (RL.m rfl rfl ?_))))))))
 refine RL.appendS (l := l) (s := s) hS4 (k := 1) rfl (.t rfl) (.t rfl) Tryz.underlying110 Tryz.underlying9 Tryz.type5 rfl rfl rfl (by omega) rfl (Hs' := fun v' => (.box b [(selfP b), v] 163 :: .own 5 1 v' (l ++ ints s).length ((l ++ ints s).flatMap u8I) :: Rs)) (fun _ => rfl) (fun v6 w7 M8 hS9 hle10 => ?_)
 refine RL.u (.nilP (.t rfl)) rfl (RL.u (.fldA (q := ⟨b, 1, none⟩) (.t rfl) (fun w => by kernel_rfl)) rfl ?_)
 refine RL.storeS (v := v6) hS9 (hS9.sl (i := 1) rfl) (i := 0) rfl (.t rfl) (.t rfl) Tryz.sizeOf110 rfl (cs' := [(selfP b), v6]) rfl (Hs' := (.box b [(selfP b), v6] 163 :: .own 5 1 v6 (l ++ ints s).length ((l ++ ints s).flatMap u8I) :: Rs)) rfl (fun w11 hS12 => (RL.nil (CW.id ?_)))
 refine CW.sr (RL.m rfl rfl (RL.u (.lenS (.t rfl) Tryz.underlying9) rfl (RL.a rfl rfl (RL.u (.assign .c) rfl (RL.nil (CW.id (CW.ret (hE.r2 rfl rfl rfl ?_))))))))
 exact ⟨_, rfl, _, M8, rfl, hS12, hle10⟩

/- (*strings.Builder).WriteRune -/
theorem writeRune_c {w wv : World} {M0 M : Mem} {Rs : List HO} (b : Nat) (a : Value) (l : List Int) (r : Int) (v : Value) (hS : St w M0 wv M (.box b [a, v] 163 :: .own 5 1 v l.length (l.flatMap u8I) :: Rs)) (ha : a = .pointer none ∨ a = selfP b) (hl : len l ≤ 35184372088832) (hc : 0 ≤ r ∧ r ≤ 1114111) :
  Calls Tryz.prog 112 [(.pointer (some ⟨b, 0, none⟩)), (.int .i32 r)].toArray wv fun e w' => ∃ u, e = .returned u ∧ ∃ v' M', u = .tuple #[i64 (len (encZ r)), .nilIface] ∧ St w M0 w' M' (.box b [selfP b, v'] 163 :: .own 5 1 v' (l ++ encZ r).length ((l ++ encZ r).flatMap u8I) :: Rs) ∧ M.le M' := by
 refine CW.enter1 Tryz.func112 rfl Tryz.ntmps112 (Nat.le_of_ble_eq_true rfl) fun Q hE => ?_
 have := len_nonneg l
 have hz := Lib.encodeRuneZ_length r
 have hz2 : 1 ≤ len (encZ r) ∧ len (encZ r) ≤ 4 := by unfold len encZ; omega
 refine CW.weaken [0, 1] (L' := [Y 0 (.pointer (some ⟨b, 0, none⟩)), Y 1 (.int .i32 r)]) ?_ rfl
 refine CW.sr (RL.u (.assign .c) rfl (RL.u (.assign .c) rfl (RL.nil (CW.id (CW.sr ?_)))))
 refine RL.m rfl rfl ?_
 replace hS := hS.front 0 rfl rfl
 refine RL.callP Tryz.call149 (.cons (.t rfl) .nil) (copy_c (Rs := (.own 5 1 v l.length (l.flatMap u8I) :: Rs)) b a v hS (by first | assumption | exact Or.inr rfl | exact Or.inl rfl)) rfl ?_
 rintro v1 w2 hS4
 refine RL.nil (CW.at [Y 0 (.pointer (some ⟨b, 0, none⟩)), Y 1 (.int .i32 r)] rfl (CW.sr (RL.m rfl rfl (RL.u (.nilP (.t rfl)) rfl (RL.u (.fldA (q := ⟨b, 1, none⟩) (.t rfl) (fun w => by kernel_rfl)) rfl (RL.u (.loadB1 (v := v) hS4 extEq (i := 0) rfl (.t rfl) Tryz.isAgg110 rfl) rfl (RL.u (.lenT (hS4.sl (i := 1) rfl) (.t rfl) ⟨_, Tryz.underlying110⟩) rfl (RL.a rfl rfl (RL.nil (CW.id ?_))))))))))
 refine CW.sr (RL.m rfl rfl (RL.m rfl rfl (RL.u (.nilP (.t rfl)) rfl (RL.u (.fldA (q := ⟨b, 1, none⟩) (.t rfl) (fun w => by kernel_rfl)) rfl (RL.u (.loadB1 (v := v) hS4 extEq (i := 0) rfl (.t rfl) Tryz.isAgg110 rfl) rfl (RL.m rfl rfl ?_))))))
 replace hS4 := hS4.front 1 rfl rfl
 refine RL.callP Tryz.call150 (.cons (.t rfl) (.cons (.t rfl) .nil)) (appendRune_c (Rs := (.box b [(selfP b), v] 163 :: Rs)) l r v hS4 (by first | assumption | omega) (by omega)) rfl ?_
 rintro v6 w7 ⟨M8, hS9, hle10⟩
 refine RL.u (.nilP (.t rfl)) rfl (RL.u (.fldA (q := ⟨b, 1, none⟩) (.t rfl) (fun w => by kernel_rfl)) rfl ?_)
 refine RL.storeS (v := v6) hS9 (hS9.sl (i := 0) rfl) (i := 1) rfl (.t rfl) (.t rfl) Tryz.sizeOf110 rfl (cs' := [(selfP b), v6]) rfl (Hs' := (.own 5 1 v6 (l ++ encZ r).length ((l ++ encZ r).flatMap u8I) :: .box b [(selfP b), v6] 163 :: Rs)) rfl (fun w11 hS12 => ?_)
 refine RL.nil (CW.at [Y 0 (.pointer (some ⟨b, 0, none⟩)), Y 6 (i64 (len l))] rfl (CW.sr (RL.m rfl rfl (RL.u (.nilP (.t rfl)) rfl (RL.u (.fldA (q := ⟨b, 1, none⟩) (.t rfl) (fun w => by kernel_rfl)) rfl (RL.u (.loadB1 (v := v6) hS12 extEq (i := 1) rfl (.t rfl) Tryz.isAgg110 rfl) rfl (RL.u (.lenT (hS12.sl (i := 0) rfl) (.t rfl) ⟨_, Tryz.underlying110⟩) rfl (RL.m rfl rfl (RL.u (.sub (.t rfl) (.t rfl) (fun _ => by first | omega | (simp only [len_app, len_cons, len_nil]; omega))) rfl (RL.a rfl rfl (RL.u (.assign .c) rfl (RL.nil (CW.id ?_)))))))))))))
 refine CW.ret (hE.r2 rfl rfl rfl ?_)
 replace hS12 := (hS12.front 0 rfl rfl).front 1 rfl rfl
 exact ⟨_, rfl, _, M8, by rw [len_app, show len l + len (encZ r) - len l = len (encZ r) from by omega], hS12, hle10⟩

end Go.Proofs.YtmjpjbmeamnfpaaGreatDoor
namespace Go.Proofs.YtmjpjbmeamnfpaaGreatDoor
open Go.Eng

def lowV (c : Int) : Int := ((c.toNat ||| 32 : Nat) : Int)
theorem low_or {c : Int} (h0 : 0 ≤ c) (h1 : c ≤ 255) : bits .or .u8 c 32 = lowV c := u8_or c 32 h0 (by omega) (by decide) (by decide)
def lowChk (c : Int) : Bool :=
  decide (lowV c ≤ 255) && (decide (48 ≤ c ∧ c ≤ 57) || (if 97 ≤ lowV c ∧ lowV c ≤ 122 then (if lowV c ≤ 102 then decide (hexI c = lowV c - 87) else decide (hexI c = -1)) else decide (hexI c = -1)))
theorem low_all : (List.range 256).all (fun n => lowChk (n : Int)) = true := by decide +kernel
theorem low_facts {c : Int} (h0 : 0 ≤ c) (h1 : c ≤ 255) : (0 ≤ lowV c ∧ lowV c ≤ 255) ∧ (97 ≤ lowV c → lowV c ≤ 122 → ¬ (48 ≤ c ∧ c ≤ 57) → (lowV c ≤ 102 → hexI c = lowV c - 87) ∧ (102 < lowV c → hexI c = -1)) ∧
    (¬ (97 ≤ lowV c ∧ lowV c ≤ 122) → ¬ (48 ≤ c ∧ c ≤ 57) → hexI c = -1) := by
  have h := List.all_eq_true.1 low_all c.toNat (List.mem_range.2 (by omega))
  rw [show ((c.toNat : Nat) : Int) = c from by omega] at h
  have hz : 0 ≤ lowV c := by unfold lowV; omega
  unfold lowChk at h
  simp only [Bool.and_eq_true, Bool.or_eq_true, decide_eq_true_eq] at h
  generalize lowV c = y at *
  generalize hexI c = z at *
  refine ⟨⟨hz, h.1⟩, fun h2 h3 h4 => ?_, fun h2 h4 => ?_⟩
  · rcases h.2 with h5 | h5
    · exact absurd h5 h4
    · rw [if_pos ⟨h2, h3⟩] at h5
      constructor
      · intro h6; rw [if_pos h6] at h5; simpa using h5
      · intro h6; rw [if_neg (by omega)] at h5; simpa using h5
  · rcases h.2 with h5 | h5
    · exact absurd h5 h4
    · rw [if_neg h2] at h5; simpa using h5
theorem hex_fig {c : Int} (h : 48 ≤ c ∧ c ≤ 57) : hexI c = c - 48 := by unfold hexI; rw [if_pos h]
theorem ints_at {s : Str} {k : Int} (h0 : 0 ≤ k) (h1 : k < len s) : at' (ints s) k = byteAt s k := by
  have h : k.toNat < s.length := by unfold len at h1; omega
  simp [at', ints, byteAt, h]
abbrev digs : Str := [48, 49, 50, 51, 52, 53, 54, 55, 56, 57, 97, 98, 99, 100, 101, 102, 103, 104, 105, 106, 107, 108, 109, 110, 111, 112, 113, 114, 115, 116, 117, 118, 119, 120, 121, 122]
theorem digs_all : ∀ n : Nat, n < 16 → byteAt digs (n : Int) = hexD (n : Int) := by decide +kernel
theorem digs_at {n : Int} (h0 : 0 ≤ n) (h1 : n < 16) : byteAt digs n = hexD n := by
  have := digs_all n.toNat (by omega)
  rwa [show ((n.toNat : Nat) : Int) = n from by omega] at this
theorem u64_and15 (x : Int) (h0 : 0 ≤ x) (h1 : x < 18446744073709551616) : bits .and .u64 x 15 = x % 16 := by
  rw [u64_and x 15 h0 h1 (by decide) (by decide)]
  have h : x.toNat &&& 15 = x.toNat % 16 := Nat.and_two_pow_sub_one_eq_mod x.toNat 4
  show ((x.toNat &&& (15 : Nat) : Nat) : Int) = _
  rw [h]; omega
theorem hex_bd {l : Str} {k : Int} (hl : len l = 4) (h0 : 0 ≤ k) (h1 : k < 4) (h : hexOk (Eng.sub l 0 k) = true) : 0 ≤ hexVal (Eng.sub l 0 k) ∧ hexVal (Eng.sub l 0 k) ≤ 4095 :=
  hexVal_bd3 h (by rw [sub_len (by omega) (by omega) (by omega)]; omega)
end Go.Proofs.YtmjpjbmeamnfpaaGreatDoor
