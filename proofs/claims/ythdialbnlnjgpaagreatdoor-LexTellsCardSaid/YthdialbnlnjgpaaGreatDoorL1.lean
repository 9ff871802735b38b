import Derived.Test.YthdialbnlnjgpaaGreatDoorEngL
import Derived.Laws.BitsLemmas
import Derived.Test.YthdialbnlnjgpaaGreatDoorPure
import Derived.Test.YthdialbnlnjgpaaGreatDoorProg
import Derived.Test.YthdialbnlnjgpaaGreatDoorOn
import Derived.Test.YthdialbnlnjgpaaGreatDoorMark
set_option linter.unusedVariables false
set_option linter.unusedSimpArgs false
namespace Go.Proofs.YthdialbnlnjgpaaGreatDoor
open Go.Eng

theorem fields_marks : Lib.fields [61, 61, 32, 33, 61, 32, 60, 61, 32, 62, 61, 32, 46, 32, 124, 32, 44, 32, 58, 32, 40, 32, 41, 32, 91, 32, 93, 32, 123, 32, 125, 32, 60, 32, 62, 32, 63] = marks8 := by decide +kernel
theorem fields8_c (M : Mem) (w : World) (hM : Sat w M) (hg : Gl w) : Calls Tryz.prog 61 [str [61, 61, 32, 33, 61, 32, 60, 61, 32, 62, 61, 32, 46, 32, 124, 32, 44, 32, 58, 32, 40, 32, 41, 32, 91, 32, 93, 32, 123, 32, 125, 32, 60, 32, 62, 32, 63]].toArray w fun e w' => ∃ v M', e = .returned v ∧ Sl M' 1 marks8.length v (marks8.flatMap strC) ∧ Grow w M w' M' := by
  have := fields_c M [61, 61, 32, 33, 61, 32, 60, 61, 32, 62, 61, 32, 46, 32, 124, 32, 44, 32, 58, 32, 40, 32, 41, 32, 91, 32, 93, 32, 123, 32, 125, 32, 60, 32, 62, 32, 63] w hM hg (by decide) (cut_low8 (by decide)) (by rw [fields_marks]; decide)
  rw [fields_marks] at this
  exact this
/- (*loupe/lex.marks).at$1 -/
set_option maxRecDepth 100000 in
theorem marks1_c {w wv : World} {M0 M : Mem} {Rs : List HO} (pb b : Nat) (hS : St w M0 wv M (.box pb [(.pointer (some ⟨b, 0, none⟩))] 72 :: .box b [(.int .u32 0), (.int .i32 1), (.int .u32 0), (.map none)] 51 :: Rs)) (hg : Gl w) :
  Calls Tryz.prog 60 [(.pointer (some ⟨pb, 0, none⟩))].toArray wv fun e w' => ∃ v, e = .returned v ∧ ∃ mb l c M', v = .tuple #[] ∧ MarkMap M' l ∧ St w M0 w' M' (.raw mb (mobj .u8 l c) :: .box pb [.pointer (some ⟨b, 0, none⟩)] 72 :: .box b [.int .u32 0, .int .i32 1, .int .u32 0, .map (some mb)] 51 :: Rs) ∧ M.le M' := by
 refine CW.enter Tryz.func60 rfl Tryz.ntmps60 (Nat.le_of_ble_eq_true rfl) ?_
 have hm17 : len marks8 = 17 := rfl
 refine CW.weaken [0] (L' := [Y 0 (.pointer (some ⟨pb, 0, none⟩))]) ?_ rfl
 refine CW.sr ?_
 refine RL.u (.loadB1 (v := (.pointer (some ⟨b, 0, none⟩))) hS extEq (i := 0) rfl (.t rfl) Tryz.isAgg72 rfl) rfl ?_
 refine RL.makeMap .u8 hS rfl (fun w1 b2 hS3 => ?_)
 replace hS3 : St w M0 w1 M (.raw b2 (mobj .u8 [] 0) :: .box pb [(.pointer (some ⟨b, 0, none⟩))] 72 :: .box b [(.int .u32 0), (.int .i32 1), (.int .u32 0), (.map none)] 51 :: Rs) := hS3
 refine RL.u (.nilP (.t rfl)) rfl (RL.u (.fldA (q := ⟨b, 3, none⟩) (.t rfl) (fun w => by kernel_rfl)) rfl ?_)
 refine RL.st hS3 (i := 2) rfl (.t rfl) (.t rfl) Tryz.sizeOf49 rfl rfl rfl (Hs' := (.raw b2 (mobj .u8 [] 0) :: .box pb [(.pointer (some ⟨b, 0, none⟩))] 72 :: .box b [(.int .u32 0), (.int .i32 1), (.int .u32 0), (.map (some b2))] 51 :: Rs)) rfl rfl (fun w4 hS5 => ?_)
 refine RL.nil (CW.at [Y 0 (.pointer (some ⟨pb, 0, none⟩))] rfl ?_)
 refine CW.sr ?_
 refine RL.callM hS5 Tryz.call61 (.cons .c .nil) ((fields8_c M _ hS5.sat (hg.low hS5.low))) rfl ?_
 rintro v6 w7 M8 hS9 hle10 hsl_v6
 refine RL.u (.lenT hsl_v6 (.t rfl) ⟨_, Tryz.underlying60⟩) rfl (RL.u (.move .c) rfl ?_)
 refine RL.nil (CW.at [Y 0 (.pointer (some ⟨pb, 0, none⟩)), Y 7 (v6), Y 8 (i64 (len (marks8))), Y 9 (i64 0)] rfl ?_)
 refine CW.block ?_
 refine CW.loop (σ := Int × MG × Nat × Mem) (fun (k, G, clk, Ml) => [Y 0 (.pointer (some ⟨pb, 0, none⟩)), Y 7 (v6), Y 8 (i64 (len (marks8))), Y 9 (i64 k)]) (fun (k, G, clk, Ml) wl => St w M0 wl Ml (.raw b2 (mobj .u8 (G.map Prod.fst) clk) :: .box pb [(.pointer (some ⟨b, 0, none⟩))] 72 :: .box b [(.int .u32 0), (.int .i32 1), (.int .u32 0), (.map (some b2))] 51 :: (OwnL 9 G ++ Rs)) ∧ Sl Ml 1 (marks8).length (v6) ((marks8).flatMap strC) ∧ 0 ≤ k ∧ k ≤ 17 ∧ MarkG k G ∧ M.le Ml) (fun (k, G, clk, Ml) => (17 - k).toNat) ((0, [], 0, M8)) [0, 7, 8, 9] rfl ?_ ?_
 ·refine ⟨hS9, hsl_v6, ?_⟩; exact ⟨by omega, by omega, MarkG.start, hle10⟩
 ·rintro ⟨k, G, clk, Ml⟩ wl ⟨hS12, hsl_v6, h0, h1, hG, hMl⟩
  have hml := fun h => mark_len h0 (k := k) h
  refine CW.sr ?_
  refine RL.u (.lss (.t rfl) (.t rfl)) rfl ?_
  refine RL.nil (CW.at [Y 0 (.pointer (some ⟨pb, 0, none⟩)), Y 7 (v6), Y 8 (i64 (len (marks8))), Y 9 (i64 k), Y 10 (.bool (decide ((k) < (len (marks8)))))] rfl ?_)
  refine CW.seq ?_
  refine CW.cond rfl (fun hb1 => ?_) (fun hb1 => ?_)
  ·try simp only [zb] at hb1
   refine CW.skip (CW.at [Y 0 (.pointer (some ⟨pb, 0, none⟩)), Y 7 (v6), Y 8 (i64 (len (marks8))), Y 9 (i64 k)] rfl ?_)
   refine CW.seq ?_
   refine CW.block ?_
   refine CW.sr ?_
   refine RL.u (.idxT hsl_v6 (.t rfl) (.t rfl) Tryz.underlying60 Tryz.sizeOf9 (fun _ => by first | omega)) rfl (RL.u (.loadE1 (f := strC) (i := k) (j := 0) (u := (str (at' (marks8) (k)))) hS12 extEq hsl_v6 strC_len (.t rfl) Tryz.isAgg9 (fun _ => by first | omega) rfl rfl) rfl (RL.a rfl rfl ?_))
   refine RL.nil (CW.at [Y 0 (.pointer (some ⟨pb, 0, none⟩)), Y 2 (str (at' (marks8) (k))), Y 7 (v6), Y 8 (i64 (len (marks8))), Y 9 (i64 k)] rfl ?_)
   obtain ⟨vx13, xs14, R15, hO16, hget17, hS18⟩ := mk_open (byteAt (at' (marks8) (k)) 0) hS12
   replace hS18 : St w M0 wl Ml (.raw b2 (mobj .u8 (G.map Prod.fst) clk) :: .box pb [(.pointer (some ⟨b, 0, none⟩))] 72 :: .box b [(.int .u32 0), (.int .i32 1), (.int .u32 0), (.map (some b2))] 51 :: .own 9 1 (vx13) (xs14).length ((xs14).flatMap strC) :: (R15 ++ Rs)) := hS18
   have hxl := opened_len hO16 hG h0
   refine CW.weaken [0, 2, 7, 8, 9] (L' := [Y 0 (.pointer (some ⟨pb, 0, none⟩)), Y 2 (str (at' (marks8) (k))), Y 7 (v6), Y 8 (i64 (len (marks8))), Y 9 (i64 k)]) ?_ rfl
   replace hS18 : St w M0 wl Ml (.box b [(.int .u32 0), (.int .i32 1), (.int .u32 0), (.map (some b2))] 51 :: .raw b2 (mobj .u8 (G.map Prod.fst) clk) :: .box pb [(.pointer (some ⟨b, 0, none⟩))] 72 :: .own 9 1 (vx13) (xs14).length ((xs14).flatMap strC) :: (R15 ++ Rs)) := hS18.front 2 rfl rfl
   replace hS18 : St w M0 wl Ml (.box pb [(.pointer (some ⟨b, 0, none⟩))] 72 :: .box b [(.int .u32 0), (.int .i32 1), (.int .u32 0), (.map (some b2))] 51 :: .raw b2 (mobj .u8 (G.map Prod.fst) clk) :: .own 9 1 (vx13) (xs14).length ((xs14).flatMap strC) :: (R15 ++ Rs)) := hS18.front 2 rfl rfl
   replace hS18 : St w M0 wl Ml (.raw b2 (mobj .u8 (G.map Prod.fst) clk) :: .box pb [(.pointer (some ⟨b, 0, none⟩))] 72 :: .box b [(.int .u32 0), (.int .i32 1), (.int .u32 0), (.map (some b2))] 51 :: .own 9 1 (vx13) (xs14).length ((xs14).flatMap strC) :: (R15 ++ Rs)) := hS18.front 2 rfl rfl
   refine CW.regionG (HsQ := [.raw b2 (mobj .u8 (G.map Prod.fst) clk), .box pb [(.pointer (some ⟨b, 0, none⟩))] 72, .box b [(.int .u32 0), (.int .i32 1), (.int .u32 0), (.map (some b2))] 51]) 16 [.is (true) (.pointer (some ⟨b, 0, none⟩)), .is (true) (.pointer (some ⟨b, 0, none⟩)), .is (true) (.pointer (some ⟨b, 3, none⟩)), .is (true) (.map (some b2)), .is (true) (str (at' (marks8) (k))), .is (true) (.int .u8 (byteAt (at' (marks8) (k)) (0))), .is (true) (.pointer (some ⟨b, 0, none⟩)), .is (true) (.pointer (some ⟨b, 0, none⟩)), .is (true) (.pointer (some ⟨b, 3, none⟩)), .is (true) (.map (some b2)), .is (true) (str (at' (marks8) (k))), .is (true) (.int .u8 (byteAt (at' (marks8) (k)) (0))), .is (true) (vx13), .is (true) (str (at' (marks8) (k))), .any, .any, .any] [(27, fun vz => (.own 9 1 (vz) (([at' (marks8) (k)] : List Str)).length ((([at' (marks8) (k)] : List Str)).flatMap strC) :: .own 9 1 (vx13) (xs14).length ((xs14).flatMap strC) :: (R15 ++ Rs))), (28, fun vz => (.own 9 1 (vz) (xs14 ++ [at' (marks8) (k)]).length ((xs14 ++ [at' (marks8) (k)]).flatMap strC) :: (R15 ++ Rs)))] (.own 9 1 (vx13) (xs14).length ((xs14).flatMap strC) :: (R15 ++ Rs)) [none, none, none, none, none, none, none, none, none, none, none, none, none, none, some 0, some 1] hS18 tryz_mixed [0, 2, 7, 8, 9] rfl (by decide +kernel) (by decide +kernel) rfl rfl (by decide +kernel) (by decide +kernel) [27, 28] rfl (by decide +kernel) (.cons ?_ (.cons ?_ (.cons ?_ (.cons ?_ (.cons ?_ (.cons ?_ (.cons ?_ (.cons ?_ (.cons ?_ (.cons ?_ (.cons ?_ (.cons ?_ (.cons ?_ (.cons ?_ (.cons ?_ (.cons ?_ (.cons ?_ (.nil))))))))))))))))))
   ·intro LL w19 M20 X hle22 hS21 hK hD
    replace hsl_v6 := hsl_v6.mono hle22
    replace hS21 : St w M0 w19 M20 (.raw b2 (mobj .u8 (G.map Prod.fst) clk) :: .box pb [(.pointer (some ⟨b, 0, none⟩))] 72 :: .box b [(.int .u32 0), (.int .i32 1), (.int .u32 0), (.map (some b2))] 51 :: X) := hS21
    refine RL.u (.loadB1 (v := (.pointer (some ⟨b, 0, none⟩))) hS21 extEq (i := 1) rfl (.t (hK _ _ rfl)) Tryz.isAgg72 rfl) rfl ?_
    exact RL.nil (RA.next fun a hs => ⟨_, _, Mem.le.refl _, hS21, hs, _, _, rfl, rfl, rfl⟩)
   ·intro LL w23 M24 X hle26 hS25 hK hD
    replace hsl_v6 := hsl_v6.mono hle26
    replace hS25 : St w M0 w23 M24 (.raw b2 (mobj .u8 (G.map Prod.fst) clk) :: .box pb [(.pointer (some ⟨b, 0, none⟩))] 72 :: .box b [(.int .u32 0), (.int .i32 1), (.int .u32 0), (.map (some b2))] 51 :: X) := hS25
    obtain ⟨g13, v13, hl13, rfl, rfl⟩ := hD 0 (by decide +kernel)
    refine RL.u (.nilP (.t hl13)) rfl ?_
    exact RL.nil (RA.next fun a hs => ⟨_, _, Mem.le.refl _, hS25, hs, _, _, rfl, rfl, rfl⟩)
   ·intro LL w27 M28 X hle30 hS29 hK hD
    replace hsl_v6 := hsl_v6.mono hle30
    replace hS29 : St w M0 w27 M28 (.raw b2 (mobj .u8 (G.map Prod.fst) clk) :: .box pb [(.pointer (some ⟨b, 0, none⟩))] 72 :: .box b [(.int .u32 0), (.int .i32 1), (.int .u32 0), (.map (some b2))] 51 :: X) := hS29
    obtain ⟨g14, v14, hl14, rfl, rfl⟩ := hD 1 (by decide +kernel)
    refine RL.u (.fldA (q := ⟨b, 3, none⟩) (.t hl14) (fun w => by kernel_rfl)) rfl ?_
    exact RL.nil (RA.next fun a hs => ⟨_, _, Mem.le.refl _, hS29, hs, _, _, rfl, rfl, rfl⟩)
   ·intro LL w31 M32 X hle34 hS33 hK hD
    replace hsl_v6 := hsl_v6.mono hle34
    replace hS33 : St w M0 w31 M32 (.raw b2 (mobj .u8 (G.map Prod.fst) clk) :: .box pb [(.pointer (some ⟨b, 0, none⟩))] 72 :: .box b [(.int .u32 0), (.int .i32 1), (.int .u32 0), (.map (some b2))] 51 :: X) := hS33
    obtain ⟨g15, v15, hl15, rfl, rfl⟩ := hD 2 (by decide +kernel)
    refine RL.u (.loadB1 (v := (.map (some b2))) hS33 extEq (i := 2) rfl (.t hl15) Tryz.isAgg49 rfl) rfl ?_
    exact RL.nil (RA.next fun a hs => ⟨_, _, Mem.le.refl _, hS33, hs, _, _, rfl, rfl, rfl⟩)
   ·intro LL w35 M36 X hle38 hS37 hK hD
    replace hsl_v6 := hsl_v6.mono hle38
    replace hS37 : St w M0 w35 M36 (.raw b2 (mobj .u8 (G.map Prod.fst) clk) :: .box pb [(.pointer (some ⟨b, 0, none⟩))] 72 :: .box b [(.int .u32 0), (.int .i32 1), (.int .u32 0), (.map (some b2))] 51 :: X) := hS37
    refine RL.u (.move (.t (hK _ _ rfl))) rfl ?_
    exact RL.nil (RA.next fun a hs => ⟨_, _, Mem.le.refl _, hS37, hs, _, _, rfl, rfl, rfl⟩)
   ·intro LL w39 M40 X hle42 hS41 hK hD
    replace hsl_v6 := hsl_v6.mono hle42
    replace hS41 : St w M0 w39 M40 (.raw b2 (mobj .u8 (G.map Prod.fst) clk) :: .box pb [(.pointer (some ⟨b, 0, none⟩))] 72 :: .box b [(.int .u32 0), (.int .i32 1), (.int .u32 0), (.map (some b2))] 51 :: X) := hS41
    obtain ⟨g17, v17, hl17, rfl, rfl⟩ := hD 4 (by decide +kernel)
    refine RL.u (.idxS (.t hl17) .c Tryz.underlying9 (fun _ => by first | omega)) rfl ?_
    exact RL.nil (RA.next fun a hs => ⟨_, _, Mem.le.refl _, hS41, hs, _, _, rfl, rfl, rfl⟩)
   ·intro LL w43 M44 X hle46 hS45 hK hD
    replace hsl_v6 := hsl_v6.mono hle46
    replace hS45 : St w M0 w43 M44 (.raw b2 (mobj .u8 (G.map Prod.fst) clk) :: .box pb [(.pointer (some ⟨b, 0, none⟩))] 72 :: .box b [(.int .u32 0), (.int .i32 1), (.int .u32 0), (.map (some b2))] 51 :: X) := hS45
    refine RL.u (.loadB1 (v := (.pointer (some ⟨b, 0, none⟩))) hS45 extEq (i := 1) rfl (.t (hK _ _ rfl)) Tryz.isAgg72 rfl) rfl ?_
    exact RL.nil (RA.next fun a hs => ⟨_, _, Mem.le.refl _, hS45, hs, _, _, rfl, rfl, rfl⟩)
   ·intro LL w47 M48 X hle50 hS49 hK hD
    replace hsl_v6 := hsl_v6.mono hle50
    replace hS49 : St w M0 w47 M48 (.raw b2 (mobj .u8 (G.map Prod.fst) clk) :: .box pb [(.pointer (some ⟨b, 0, none⟩))] 72 :: .box b [(.int .u32 0), (.int .i32 1), (.int .u32 0), (.map (some b2))] 51 :: X) := hS49
    obtain ⟨g19, v19, hl19, rfl, rfl⟩ := hD 6 (by decide +kernel)
    refine RL.u (.nilP (.t hl19)) rfl ?_
    exact RL.nil (RA.next fun a hs => ⟨_, _, Mem.le.refl _, hS49, hs, _, _, rfl, rfl, rfl⟩)
   ·intro LL w51 M52 X hle54 hS53 hK hD
    replace hsl_v6 := hsl_v6.mono hle54
    replace hS53 : St w M0 w51 M52 (.raw b2 (mobj .u8 (G.map Prod.fst) clk) :: .box pb [(.pointer (some ⟨b, 0, none⟩))] 72 :: .box b [(.int .u32 0), (.int .i32 1), (.int .u32 0), (.map (some b2))] 51 :: X) := hS53
    obtain ⟨g20, v20, hl20, rfl, rfl⟩ := hD 7 (by decide +kernel)
    refine RL.u (.fldA (q := ⟨b, 3, none⟩) (.t hl20) (fun w => by kernel_rfl)) rfl ?_
    exact RL.nil (RA.next fun a hs => ⟨_, _, Mem.le.refl _, hS53, hs, _, _, rfl, rfl, rfl⟩)
   ·intro LL w55 M56 X hle58 hS57 hK hD
    replace hsl_v6 := hsl_v6.mono hle58
    replace hS57 : St w M0 w55 M56 (.raw b2 (mobj .u8 (G.map Prod.fst) clk) :: .box pb [(.pointer (some ⟨b, 0, none⟩))] 72 :: .box b [(.int .u32 0), (.int .i32 1), (.int .u32 0), (.map (some b2))] 51 :: X) := hS57
    obtain ⟨g21, v21, hl21, rfl, rfl⟩ := hD 8 (by decide +kernel)
    refine RL.u (.loadB1 (v := (.map (some b2))) hS57 extEq (i := 2) rfl (.t hl21) Tryz.isAgg49 rfl) rfl ?_
    exact RL.nil (RA.next fun a hs => ⟨_, _, Mem.le.refl _, hS57, hs, _, _, rfl, rfl, rfl⟩)
   ·intro LL w59 M60 X hle62 hS61 hK hD
    replace hsl_v6 := hsl_v6.mono hle62
    replace hS61 : St w M0 w59 M60 (.raw b2 (mobj .u8 (G.map Prod.fst) clk) :: .box pb [(.pointer (some ⟨b, 0, none⟩))] 72 :: .box b [(.int .u32 0), (.int .i32 1), (.int .u32 0), (.map (some b2))] 51 :: X) := hS61
    refine RL.u (.move (.t (hK _ _ rfl))) rfl ?_
    exact RL.nil (RA.next fun a hs => ⟨_, _, Mem.le.refl _, hS61, hs, _, _, rfl, rfl, rfl⟩)
   ·intro LL w63 M64 X hle66 hS65 hK hD
    replace hsl_v6 := hsl_v6.mono hle66
    replace hS65 : St w M0 w63 M64 (.raw b2 (mobj .u8 (G.map Prod.fst) clk) :: .box pb [(.pointer (some ⟨b, 0, none⟩))] 72 :: .box b [(.int .u32 0), (.int .i32 1), (.int .u32 0), (.map (some b2))] 51 :: X) := hS65
    obtain ⟨g23, v23, hl23, rfl, rfl⟩ := hD 10 (by decide +kernel)
    refine RL.u (.idxS (.t hl23) .c Tryz.underlying9 (fun _ => by first | omega)) rfl ?_
    exact RL.nil (RA.next fun a hs => ⟨_, _, Mem.le.refl _, hS65, hs, _, _, rfl, rfl, rfl⟩)
   ·intro LL w67 M68 X hle70 hS69 hK hD
    replace hsl_v6 := hsl_v6.mono hle70
    replace hS69 : St w M0 w67 M68 (.raw b2 (mobj .u8 (G.map Prod.fst) clk) :: .box pb [(.pointer (some ⟨b, 0, none⟩))] 72 :: .box b [(.int .u32 0), (.int .i32 1), (.int .u32 0), (.map (some b2))] 51 :: X) := hS69
    obtain ⟨g22, v22, hl22, rfl, rfl⟩ := hD 9 (by decide +kernel)
    obtain ⟨g24, v24, hl24, rfl, rfl⟩ := hD 11 (by decide +kernel)
    refine RL.u (.lookup (k := .u8) (v := (vx13)) hS69 extEq (i := 0) rfl (.t hl22) (.t hl24) Tryz.underlying49 Tryz.underlying5 Tryz.zeroValue60 hget17) rfl ?_
    exact RL.nil (RA.next fun a hs => ⟨_, _, Mem.le.refl _, hS69, hs, _, _, rfl, rfl, rfl⟩)
   ·intro LL w71 M72 X hle74 hS73 hK hD
    replace hsl_v6 := hsl_v6.mono hle74
    replace hS73 : St w M0 w71 M72 (.raw b2 (mobj .u8 (G.map Prod.fst) clk) :: .box pb [(.pointer (some ⟨b, 0, none⟩))] 72 :: .box b [(.int .u32 0), (.int .i32 1), (.int .u32 0), (.map (some b2))] 51 :: X) := hS73
    refine RL.u (.move (.t (hK _ _ rfl))) rfl ?_
    exact RL.nil (RA.next fun a hs => ⟨_, _, Mem.le.refl _, hS73, hs, _, _, rfl, rfl, rfl⟩)
   ·intro LL w75 M76 X hle78 hS77 hK hD hX
    replace hsl_v6 := hsl_v6.mono hle78
    obtain rfl : X = (.own 9 1 (vx13) (xs14).length ((xs14).flatMap strC) :: (R15 ++ Rs)) := hX
    replace hS77 : St w M0 w75 M76 (.raw b2 (mobj .u8 (G.map Prod.fst) clk) :: .box pb [(.pointer (some ⟨b, 0, none⟩))] 72 :: .box b [(.int .u32 0), (.int .i32 1), (.int .u32 0), (.map (some b2))] 51 :: .own 9 1 (vx13) (xs14).length ((xs14).flatMap strC) :: (R15 ++ Rs)) := hS77
    obtain ⟨g26, v26, hl26, rfl, rfl⟩ := hD 13 (by decide +kernel)
    refine RL.buildSlice (n := 1) (sz := 1) (e := 9) (vs := [(0, (str (at' (marks8) (k))))]) (cs := [(str (at' (marks8) (k)))]) hS77 (.cons (.t hl26) .nil) rfl rfl (fun w => by kernel_rfl) rfl (fun v79 w80 M81 hS82 hle83 => ?_)
    replace hS82 : St w M0 w80 M81 (.own 9 1 (v79) (([at' (marks8) (k)] : List Str)).length ((([at' (marks8) (k)] : List Str)).flatMap strC) :: .raw b2 (mobj .u8 (G.map Prod.fst) clk) :: .box pb [(.pointer (some ⟨b, 0, none⟩))] 72 :: .box b [(.int .u32 0), (.int .i32 1), (.int .u32 0), (.map (some b2))] 51 :: .own 9 1 (vx13) (xs14).length ((xs14).flatMap strC) :: (R15 ++ Rs)) := hS82
    replace hsl_v6 := hsl_v6.mono hle83
    replace hS82 : St w M0 w80 M81 (.box b [(.int .u32 0), (.int .i32 1), (.int .u32 0), (.map (some b2))] 51 :: .own 9 1 (v79) (([at' (marks8) (k)] : List Str)).length ((([at' (marks8) (k)] : List Str)).flatMap strC) :: .raw b2 (mobj .u8 (G.map Prod.fst) clk) :: .box pb [(.pointer (some ⟨b, 0, none⟩))] 72 :: .own 9 1 (vx13) (xs14).length ((xs14).flatMap strC) :: (R15 ++ Rs)) := hS82.front 3 rfl rfl
    replace hS82 : St w M0 w80 M81 (.box pb [(.pointer (some ⟨b, 0, none⟩))] 72 :: .box b [(.int .u32 0), (.int .i32 1), (.int .u32 0), (.map (some b2))] 51 :: .own 9 1 (v79) (([at' (marks8) (k)] : List Str)).length ((([at' (marks8) (k)] : List Str)).flatMap strC) :: .raw b2 (mobj .u8 (G.map Prod.fst) clk) :: .own 9 1 (vx13) (xs14).length ((xs14).flatMap strC) :: (R15 ++ Rs)) := hS82.front 3 rfl rfl
    replace hS82 : St w M0 w80 M81 (.raw b2 (mobj .u8 (G.map Prod.fst) clk) :: .box pb [(.pointer (some ⟨b, 0, none⟩))] 72 :: .box b [(.int .u32 0), (.int .i32 1), (.int .u32 0), (.map (some b2))] 51 :: .own 9 1 (v79) (([at' (marks8) (k)] : List Str)).length ((([at' (marks8) (k)] : List Str)).flatMap strC) :: .own 9 1 (vx13) (xs14).length ((xs14).flatMap strC) :: (R15 ++ Rs)) := hS82.front 3 rfl rfl
    exact RL.nil (RA.next fun a hs => ⟨_, _, (.own 9 1 (v79) (([at' (marks8) (k)] : List Str)).length ((([at' (marks8) (k)] : List Str)).flatMap strC) :: .own 9 1 (vx13) (xs14).length ((xs14).flatMap strC) :: (R15 ++ Rs)), hle83, hS82, hs, ⟨_, _, rfl, trivial⟩, ⟨_, rfl, rfl⟩⟩)
   ·intro LL w84 M85 X hle87 hS86 hK hD hX
    replace hsl_v6 := hsl_v6.mono hle87
    obtain ⟨vx88, hl27, rfl⟩ := hX
    replace hS86 : St w M0 w84 M85 (.raw b2 (mobj .u8 (G.map Prod.fst) clk) :: .box pb [(.pointer (some ⟨b, 0, none⟩))] 72 :: .box b [(.int .u32 0), (.int .i32 1), (.int .u32 0), (.map (some b2))] 51 :: .own 9 1 (vx88) (([at' (marks8) (k)] : List Str)).length ((([at' (marks8) (k)] : List Str)).flatMap strC) :: .own 9 1 (vx13) (xs14).length ((xs14).flatMap strC) :: (R15 ++ Rs)) := hS86
    obtain ⟨g25, v25, hl25, rfl, rfl⟩ := hD 12 (by decide +kernel)
    refine RL.append1 (f := strC) (l := xs14) (y := at' (marks8) (k)) hS86 (k := 4) rfl (.t hl25) (.t hl27) (hS86.sl (i := 3) rfl) Tryz.underlying60 Tryz.type9 rfl rfl rfl strC_one (by' := 16) rfl rfl (by first | omega) rfl (Hs' := fun v' => (.raw b2 (mobj .u8 (G.map Prod.fst) clk) :: .box pb [(.pointer (some ⟨b, 0, none⟩))] 72 :: .box b [(.int .u32 0), (.int .i32 1), (.int .u32 0), (.map (some b2))] 51 :: .own 9 1 (vx88) (([at' (marks8) (k)] : List Str)).length ((([at' (marks8) (k)] : List Str)).flatMap strC) :: .own 9 1 (v') (xs14 ++ [at' (marks8) (k)]).length ((xs14 ++ [at' (marks8) (k)]).flatMap strC) :: (R15 ++ Rs))) (fun _ => rfl) (fun v89 w90 M91 hS92 hle93 => ?_)
    replace hS92 : St w M0 w90 M91 (.raw b2 (mobj .u8 (G.map Prod.fst) clk) :: .box pb [(.pointer (some ⟨b, 0, none⟩))] 72 :: .box b [(.int .u32 0), (.int .i32 1), (.int .u32 0), (.map (some b2))] 51 :: .own 9 1 (v89) (xs14 ++ [at' (marks8) (k)]).length ((xs14 ++ [at' (marks8) (k)]).flatMap strC) :: (R15 ++ Rs)) := hS92.erase 3 rfl
    replace hsl_v6 := hsl_v6.mono hle93
    replace hS92 : St w M0 w90 M91 (.box b [(.int .u32 0), (.int .i32 1), (.int .u32 0), (.map (some b2))] 51 :: .raw b2 (mobj .u8 (G.map Prod.fst) clk) :: .box pb [(.pointer (some ⟨b, 0, none⟩))] 72 :: .own 9 1 (v89) (xs14 ++ [at' (marks8) (k)]).length ((xs14 ++ [at' (marks8) (k)]).flatMap strC) :: (R15 ++ Rs)) := hS92.front 2 rfl rfl
    replace hS92 : St w M0 w90 M91 (.box pb [(.pointer (some ⟨b, 0, none⟩))] 72 :: .box b [(.int .u32 0), (.int .i32 1), (.int .u32 0), (.map (some b2))] 51 :: .raw b2 (mobj .u8 (G.map Prod.fst) clk) :: .own 9 1 (v89) (xs14 ++ [at' (marks8) (k)]).length ((xs14 ++ [at' (marks8) (k)]).flatMap strC) :: (R15 ++ Rs)) := hS92.front 2 rfl rfl
    replace hS92 : St w M0 w90 M91 (.raw b2 (mobj .u8 (G.map Prod.fst) clk) :: .box pb [(.pointer (some ⟨b, 0, none⟩))] 72 :: .box b [(.int .u32 0), (.int .i32 1), (.int .u32 0), (.map (some b2))] 51 :: .own 9 1 (v89) (xs14 ++ [at' (marks8) (k)]).length ((xs14 ++ [at' (marks8) (k)]).flatMap strC) :: (R15 ++ Rs)) := hS92.front 2 rfl rfl
    exact RL.nil (RA.next fun a hs => ⟨_, _, (.own 9 1 (v89) (xs14 ++ [at' (marks8) (k)]).length ((xs14 ++ [at' (marks8) (k)]).flatMap strC) :: (R15 ++ Rs)), hle93, hS92, hs, ⟨_, _, rfl, trivial⟩, ⟨_, rfl, rfl⟩⟩)
   ·intro LL w94 M95 X hle97 hS96 hK hD hX
    replace hsl_v6 := hsl_v6.mono hle97
    obtain ⟨vx98, hl28, rfl⟩ := hX
    replace hS96 : St w M0 w94 M95 (.raw b2 (mobj .u8 (G.map Prod.fst) clk) :: .box pb [(.pointer (some ⟨b, 0, none⟩))] 72 :: .box b [(.int .u32 0), (.int .i32 1), (.int .u32 0), (.map (some b2))] 51 :: .own 9 1 (vx98) (xs14 ++ [at' (marks8) (k)]).length ((xs14 ++ [at' (marks8) (k)]).flatMap strC) :: (R15 ++ Rs)) := hS96
    obtain ⟨g16, v16, hl16, rfl, rfl⟩ := hD 3 (by decide)
    obtain ⟨g18, v18, hl18, rfl, rfl⟩ := hD 5 (by decide)
    refine RL.mapUpd (v := (vx98)) hS96 (i := 0) rfl (.t hl16) (.t hl18) (.t hl28) Tryz.underlying49 Tryz.underlying5 (l' := (kset (G.map Prod.fst) clk (byteAt (at' (marks8) (k)) (0)) (vx98))) rfl (c' := (kclk (G.map Prod.fst) clk (byteAt (at' (marks8) (k)) (0)) (vx98))) rfl (Hs' := (.raw b2 (mobj .u8 (kset (G.map Prod.fst) clk (byteAt (at' (marks8) (k)) (0)) (vx98)) (kclk (G.map Prod.fst) clk (byteAt (at' (marks8) (k)) (0)) (vx98))) :: .box pb [(.pointer (some ⟨b, 0, none⟩))] 72 :: .box b [(.int .u32 0), (.int .i32 1), (.int .u32 0), (.map (some b2))] 51 :: .own 9 1 (vx98) (xs14 ++ [at' (marks8) (k)]).length ((xs14 ++ [at' (marks8) (k)]).flatMap strC) :: (R15 ++ Rs))) rfl (fun w99 hS100 => ?_)
    refine RL.nil (slots_sub (E := [Y 0 (.pointer (some ⟨pb, 0, none⟩)), Y 2 (str (at' (marks8) (k))), Y 7 (v6), Y 8 (i64 (len (marks8))), Y 9 (i64 k)]) (.cons (hK _ _ rfl) (.cons (hK _ _ rfl) (.cons (hK _ _ rfl) (.cons (hK _ _ rfl) (.cons (hK _ _ rfl) .nil))))) ?_)
    refine (CW.at [Y 0 (.pointer (some ⟨pb, 0, none⟩)), Y 7 (v6), Y 8 (i64 (len (marks8))), Y 9 (i64 k)] rfl ?_)
    refine CW.region ?_
    refine RL.u (.add (.t rfl) .c (fun _ => by first | omega)) rfl (RL.m rfl rfl ?_)
    replace hS100 : St w M0 w99 M95 (.box b [(.int .u32 0), (.int .i32 1), (.int .u32 0), (.map (some b2))] 51 :: .raw b2 (mobj .u8 (kset (G.map Prod.fst) clk (byteAt (at' (marks8) (k)) (0)) (vx98)) (kclk (G.map Prod.fst) clk (byteAt (at' (marks8) (k)) (0)) (vx98))) :: .box pb [(.pointer (some ⟨b, 0, none⟩))] 72 :: .own 9 1 (vx98) (xs14 ++ [at' (marks8) (k)]).length ((xs14 ++ [at' (marks8) (k)]).flatMap strC) :: (R15 ++ Rs)) := hS100.front 2 rfl rfl
    replace hS100 : St w M0 w99 M95 (.box pb [(.pointer (some ⟨b, 0, none⟩))] 72 :: .box b [(.int .u32 0), (.int .i32 1), (.int .u32 0), (.map (some b2))] 51 :: .raw b2 (mobj .u8 (kset (G.map Prod.fst) clk (byteAt (at' (marks8) (k)) (0)) (vx98)) (kclk (G.map Prod.fst) clk (byteAt (at' (marks8) (k)) (0)) (vx98))) :: .own 9 1 (vx98) (xs14 ++ [at' (marks8) (k)]).length ((xs14 ++ [at' (marks8) (k)]).flatMap strC) :: (R15 ++ Rs)) := hS100.front 2 rfl rfl
    replace hS100 : St w M0 w99 M95 (.raw b2 (mobj .u8 (kset (G.map Prod.fst) clk (byteAt (at' (marks8) (k)) (0)) (vx98)) (kclk (G.map Prod.fst) clk (byteAt (at' (marks8) (k)) (0)) (vx98))) :: .box pb [(.pointer (some ⟨b, 0, none⟩))] 72 :: .box b [(.int .u32 0), (.int .i32 1), (.int .u32 0), (.map (some b2))] 51 :: .own 9 1 (vx98) (xs14 ++ [at' (marks8) (k)]).length ((xs14 ++ [at' (marks8) (k)]).flatMap strC) :: (R15 ++ Rs)) := hS100.front 2 rfl rfl
    obtain ⟨G102, hG1, hG2, hG3⟩ := mk_close (w0 := w) (M0 := M0) (A := .raw b2 (mobj .u8 (kset (G.map Prod.fst) clk (byteAt (at' (marks8) (k)) (0)) (vx98)) (kclk (G.map Prod.fst) clk (byteAt (at' (marks8) (k)) (0)) (vx98)))) (B := .box pb [(.pointer (some ⟨b, 0, none⟩))] 72) (C := .box b [(.int .u32 0), (.int .i32 1), (.int .u32 0), (.map (some b2))] 51) (Rs := Rs) clk hO16 (at' (marks8) (k)) vx98
    have hS101 := hG2 hS100
    rw [hG1] at hS101
    refine RL.nil fun a hs => Exists.intro ((k + 1, G102, (kclk (G.map Prod.fst) clk (byteAt (at' (marks8) (k)) (0)) (vx98)), M95)) ⟨hs.keep [0, 7, 8, 9], ?_, ?_⟩
    ·refine ⟨hS101, hsl_v6, ?_⟩
     exact ⟨by omega, by omega, hG3 h0 (by omega) rfl rfl hG, (hMl.trans hle97)⟩
    ·show Int.toNat _ < Int.toNat _; omega
  ·try simp only [zb] at hb1
   obtain ⟨hMM, hS103⟩ := mk_end hS12 (by rw [show (17 : Int) = k from by omega]; exact hG)
   replace hS103 : St w M0 wl Ml (.box b [(.int .u32 0), (.int .i32 1), (.int .u32 0), (.map (some b2))] 51 :: .raw b2 (mobj .u8 (G.map Prod.fst) clk) :: .box pb [(.pointer (some ⟨b, 0, none⟩))] 72 :: Rs) := hS103.front 2 rfl rfl
   replace hS103 : St w M0 wl Ml (.box pb [(.pointer (some ⟨b, 0, none⟩))] 72 :: .box b [(.int .u32 0), (.int .i32 1), (.int .u32 0), (.map (some b2))] 51 :: .raw b2 (mobj .u8 (G.map Prod.fst) clk) :: Rs) := hS103.front 2 rfl rfl
   replace hS103 : St w M0 wl Ml (.raw b2 (mobj .u8 (G.map Prod.fst) clk) :: .box pb [(.pointer (some ⟨b, 0, none⟩))] 72 :: .box b [(.int .u32 0), (.int .i32 1), (.int .u32 0), (.map (some b2))] 51 :: Rs) := hS103.front 2 rfl rfl
   refine CW.exit (end0 (P := Tryz.prog) (fn := Tryz.f60) (R := fun e w' => ∃ v, e = .returned v ∧ ∃ mb l c M', v = .tuple #[] ∧ MarkMap M' l ∧ St w M0 w' M' (.raw mb (mobj .u8 l c) :: .box pb [.pointer (some ⟨b, 0, none⟩)] 72 :: .box b [.int .u32 0, .int .i32 1, .int .u32 0, .map (some mb)] 51 :: Rs) ∧ M.le M') rfl ?_)
   exact ⟨_, rfl, _, _, _, Ml, rfl, hMM, hS103, (hMl)⟩

end Go.Proofs.YthdialbnlnjgpaaGreatDoor
