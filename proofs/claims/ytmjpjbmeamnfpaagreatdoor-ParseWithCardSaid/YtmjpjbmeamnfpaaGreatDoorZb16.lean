/-
  PLAIN LEAN: strings.TrimFunc of figures leaves nothing just where all bytes are figures. No program in it.
-/
import Derived.Test.YtmjpjbmeamnfpaaGreatDoorZb4
import Derived.Laws.BitsLemmas
import Derived.Test.YtmjpjbmeamnfpaaGreatDoorZb3
import Derived.Test.YtmjpjbmeamnfpaaGreatDoorProg
import Derived.Test.YtmjpjbmeamnfpaaGreatDoorZb14
import Derived.Test.YtmjpjbmeamnfpaaGreatDoorZb15
import Derived.Test.YtmjpjbmeamnfpaaGreatDoorZb10
import Derived.Shelf.GgClosure.StringsTrimFunc
set_option linter.unusedVariables false
set_option linter.unusedSimpArgs false
set_option maxRecDepth 100000
namespace Go.Proofs.YtmjpjbmeamnfpaaGreatDoor
open Go.Eng

theorem fields_marks : Lib.fields [61, 61, 32, 33, 61, 32, 60, 61, 32, 62, 61, 32, 46, 32, 124, 32, 44, 32, 58, 32, 40, 32, 41, 32, 91, 32, 93, 32, 123, 32, 125, 32, 60, 32, 62, 32, 63] = marks8 := by decide +kernel
theorem fields8_c (M : Mem) (w : World) (hM : Sat w M) (hg : Gl w) : Calls Tryz.prog 115 [str [61, 61, 32, 33, 61, 32, 60, 61, 32, 62, 61, 32, 46, 32, 124, 32, 44, 32, 58, 32, 40, 32, 41, 32, 91, 32, 93, 32, 123, 32, 125, 32, 60, 32, 62, 32, 63]].toArray w fun e w' => ∃ v M', e = .returned v ∧ Sl M' 1 marks8.length v (marks8.flatMap strC) ∧ Grow w M w' M' := by
  have := fields_c M [61, 61, 32, 33, 61, 32, 60, 61, 32, 62, 61, 32, 46, 32, 124, 32, 44, 32, 58, 32, 40, 32, 41, 32, 91, 32, 93, 32, 123, 32, 125, 32, 60, 32, 62, 32, 63] w hM hg (by decide) (cut_low8 (by decide)) (by rw [fields_marks]; decide)
  rw [fields_marks] at this
  exact this
/- (*loupe/lex.marks).at$1 -/
theorem marks1_c {w wv : World} {M0 M : Mem} {Rs : List HO} (pb b : Nat) (hS : St w M0 wv M (.box pb [(.pointer (some ⟨b, 0, none⟩))] 131 :: .box b [(.int .u32 0), (.int .i32 1), (.int .u32 0), (.map none)] 104 :: Rs)) (hg : Gl w) :
  Calls Tryz.prog 114 [(.pointer (some ⟨pb, 0, none⟩))].toArray wv fun e w' => ∃ v, e = .returned v ∧ ∃ mb l c M', v = .tuple #[] ∧ MarkMap M' l ∧ St w M0 w' M' (.raw mb (mobj .u8 l c) :: .box pb [.pointer (some ⟨b, 0, none⟩)] 131 :: .box b [.int .u32 0, .int .i32 1, .int .u32 0, .map (some mb)] 104 :: Rs) ∧ M.le M' := by
 refine CW.enter1 Tryz.func114 rfl Tryz.ntmps114 (Nat.le_of_ble_eq_true rfl) fun Q hE => ?_
 have hm17 : len marks8 = 17 := rfl
 refine CW.weaken [0] (L' := [Y 0 (.pointer (some ⟨pb, 0, none⟩))]) ?_ rfl
 refine CW.sr (RL.u (.loadB1 (v := (.pointer (some ⟨b, 0, none⟩))) hS extEq (i := 0) rfl (.t rfl) Tryz.isAgg131 rfl) rfl ?_)
 refine RL.makeMap .u8 hS rfl (fun w1 b2 hS3 => ?_)
 replace hS3 : St w M0 w1 M (.raw b2 (mobj .u8 [] 0) :: .box pb [(.pointer (some ⟨b, 0, none⟩))] 131 :: .box b [(.int .u32 0), (.int .i32 1), (.int .u32 0), (.map none)] 104 :: Rs) := hS3
 refine RL.u (.nilP (.t rfl)) rfl (RL.u (.fldA (q := ⟨b, 3, none⟩) (.t rfl) (fun w => by kernel_rfl)) rfl ?_)
 refine RL.st hS3 (i := 2) rfl (.t rfl) (.t rfl) Tryz.sizeOf102 rfl rfl rfl rfl rfl (fun w4 hS5 => (RL.nil (CW.id ?_)))
 refine CW.sr ?_
 refine RL.callM hS5 Tryz.call115 (.cons .c .nil) ((fields8_c M _ hS5.sat (hg.low hS5.low))) rfl ?_
 rintro v6 w7 M8 hS9 hle10 hsl_v6
 refine RL.u (.lenT hsl_v6 (.t rfl) ⟨_, Tryz.underlying32⟩) rfl (RL.u (.move .c) rfl ?_)
 refine RL.nil (CW.at [Y 0 (.pointer (some ⟨pb, 0, none⟩)), Y 7 v6, Y 8 (i64 (len marks8)), Y 9 (i64 0)] rfl (CW.block ?_))
 refine CW.loop (σ := Int × MG × Nat × Mem) (fun (k, G, clk, Ml) => [Y 0 (.pointer (some ⟨pb, 0, none⟩)), Y 7 v6, Y 8 (i64 (len marks8)), Y 9 (i64 k)]) (fun (k, G, clk, Ml) wl => St w M0 wl Ml (.raw b2 (mobj .u8 (G.map Prod.fst) clk) :: .box pb [(.pointer (some ⟨b, 0, none⟩))] 131 :: .box b [(.int .u32 0), (.int .i32 1), (.int .u32 0), (.map (some b2))] 104 :: (OwnL 9 G ++ Rs)) ∧ Sl Ml 1 marks8.length v6 (marks8.flatMap strC) ∧ 0 ≤ k ∧ k ≤ 17 ∧ MarkG k G ∧ M.le Ml) (fun (k, G, clk, Ml) => (17 - k).toNat) ((0, [], 0, M8)) [0, 7, 8, 9] rfl ?_ ?_
 ·refine ⟨hS9, hsl_v6, ?_⟩; exact ⟨by omega, by omega, MarkG.start, hle10⟩
 ·rintro ⟨k, G, clk, Ml⟩ wl ⟨hS12, hsl_v6, h0, h1, hG, hMl⟩
  have hml := fun h => mark_len h0 (k := k) h
  refine CW.sr (RL.u (.lss (.t rfl) (.t rfl)) rfl (RL.nil (CW.id (CW.seq ?_))))
  refine CW.cond rfl ?_ ?_ <;> intro hb1 <;> try simp only [zb] at hb1
  ·refine CW.skip (CW.id (CW.seq (CW.block (CW.sr ?_))))
   refine RL.u (.idxT hsl_v6 (.t rfl) (.t rfl) Tryz.underlying32 Tryz.sizeOf9 (fun _ => by first | omega)) rfl (RL.u (.loadE1 (f := strC) (i := k) (j := 0) (u := (str (at' marks8 k))) hS12 extEq hsl_v6 strC_len (.t rfl) Tryz.isAgg9 (fun _ => by first | omega) rfl rfl) rfl (RL.a rfl rfl (RL.nil (CW.id ?_))))
   obtain ⟨vx13, xs14, R15, hO16, hget17, hS18⟩ := mk_open (byteAt (at' marks8 k) 0) hS12
   replace hS18 : St w M0 wl Ml (.raw b2 (mobj .u8 (G.map Prod.fst) clk) :: .box pb [(.pointer (some ⟨b, 0, none⟩))] 131 :: .box b [(.int .u32 0), (.int .i32 1), (.int .u32 0), (.map (some b2))] 104 :: .own 9 1 vx13 xs14.length (xs14.flatMap strC) :: (R15 ++ Rs)) := hS18
   have hxl := opened_len hO16 hG h0
   refine CW.weaken [0, 2, 7, 8, 9] (L' := [Y 0 (.pointer (some ⟨pb, 0, none⟩)), Y 2 (str (at' marks8 k)), Y 7 v6, Y 8 (i64 (len marks8)), Y 9 (i64 k)]) ?_ rfl
   replace hS18 : St w M0 wl Ml (.box pb [(.pointer (some ⟨b, 0, none⟩))] 131 :: .box b [(.int .u32 0), (.int .i32 1), (.int .u32 0), (.map (some b2))] 104 :: .raw b2 (mobj .u8 (G.map Prod.fst) clk) :: .own 9 1 vx13 xs14.length (xs14.flatMap strC) :: (R15 ++ Rs)) := (hS18.front 2 rfl rfl).front 2 rfl rfl
   replace hS18 : St w M0 wl Ml (.raw b2 (mobj .u8 (G.map Prod.fst) clk) :: .box pb [(.pointer (some ⟨b, 0, none⟩))] 131 :: .box b [(.int .u32 0), (.int .i32 1), (.int .u32 0), (.map (some b2))] 104 :: .own 9 1 vx13 xs14.length (xs14.flatMap strC) :: (R15 ++ Rs)) := hS18.front 2 rfl rfl
   refine CW.regionG (HsQ := [.raw b2 (mobj .u8 (G.map Prod.fst) clk), .box pb [(.pointer (some ⟨b, 0, none⟩))] 131, .box b [(.int .u32 0), (.int .i32 1), (.int .u32 0), (.map (some b2))] 104]) 16 [.is true (.pointer (some ⟨b, 0, none⟩)), .is true (.pointer (some ⟨b, 0, none⟩)), .is true (.pointer (some ⟨b, 3, none⟩)), .is true (.map (some b2)), .is true (str (at' marks8 k)), .is true (.int .u8 (byteAt (at' marks8 k) 0)), .is true (.pointer (some ⟨b, 0, none⟩)), .is true (.pointer (some ⟨b, 0, none⟩)), .is true (.pointer (some ⟨b, 3, none⟩)), .is true (.map (some b2)), .is true (str (at' marks8 k)), .is true (.int .u8 (byteAt (at' marks8 k) 0)), .is true vx13, .is true (str (at' marks8 k)), .any, .any, .any] [(27, .eq fun vz => (.own 9 1 vz (([at' marks8 k] : List Str)).length ((([at' marks8 k] : List Str)).flatMap strC) :: .own 9 1 vx13 xs14.length (xs14.flatMap strC) :: (R15 ++ Rs))), (28, .eq fun vz => (.own 9 1 vz (xs14 ++ [at' marks8 k]).length ((xs14 ++ [at' marks8 k]).flatMap strC) :: (R15 ++ Rs)))] (.own 9 1 vx13 xs14.length (xs14.flatMap strC) :: (R15 ++ Rs)) [none, none, none, none, none, none, none, none, none, none, none, none, none, none, some 0, some 1] hS18 tryz_mixed [0, 2, 7, 8, 9] rfl (by decide +kernel) (by decide +kernel) rfl rfl (by decide +kernel) (by decide +kernel) [27, 28] rfl (by decide +kernel) (.cons ?_ (.cons ?_ (.cons ?_ (.cons ?_ (.cons ?_ (.cons ?_ (.cons ?_ (.cons ?_ (.cons ?_ (.cons ?_ (.cons ?_ (.cons ?_ (.cons ?_ (.cons ?_ (.cons ?_ (.cons ?_ (.cons ?_ (.nil))))))))))))))))))
   ·intro LL w19 M20 X hle22 hS21 hK hD
    replace hsl_v6 := hsl_v6.mono hle22
    replace hS21 : St w M0 w19 M20 (.raw b2 (mobj .u8 (G.map Prod.fst) clk) :: .box pb [(.pointer (some ⟨b, 0, none⟩))] 131 :: .box b [(.int .u32 0), (.int .i32 1), (.int .u32 0), (.map (some b2))] 104 :: X) := hS21
    refine RL.u (.loadB1 (v := (.pointer (some ⟨b, 0, none⟩))) hS21 extEq (i := 1) rfl (.t (hK _ _ rfl)) Tryz.isAgg131 rfl) rfl ?_
    exact RL.nil (RA.next fun a hs => ⟨_, _, Mem.le.refl _, hS21, hs, _, _, rfl, rfl, rfl⟩)
   ·intro LL w23 M24 X hle26 hS25 hK hD
    replace hsl_v6 := hsl_v6.mono hle26
    replace hS25 : St w M0 w23 M24 (.raw b2 (mobj .u8 (G.map Prod.fst) clk) :: .box pb [(.pointer (some ⟨b, 0, none⟩))] 131 :: .box b [(.int .u32 0), (.int .i32 1), (.int .u32 0), (.map (some b2))] 104 :: X) := hS25
    obtain ⟨g13, v13, hl13, rfl, rfl⟩ := hD 0 (by decide +kernel)
    refine RL.u (.nilP (.t hl13)) rfl ?_
    exact RL.nil (RA.next fun a hs => ⟨_, _, Mem.le.refl _, hS25, hs, _, _, rfl, rfl, rfl⟩)
   ·intro LL w27 M28 X hle30 hS29 hK hD
    replace hsl_v6 := hsl_v6.mono hle30
    replace hS29 : St w M0 w27 M28 (.raw b2 (mobj .u8 (G.map Prod.fst) clk) :: .box pb [(.pointer (some ⟨b, 0, none⟩))] 131 :: .box b [(.int .u32 0), (.int .i32 1), (.int .u32 0), (.map (some b2))] 104 :: X) := hS29
    obtain ⟨g14, v14, hl14, rfl, rfl⟩ := hD 1 (by decide +kernel)
    refine RL.u (.fldA (q := ⟨b, 3, none⟩) (.t hl14) (fun w => by kernel_rfl)) rfl ?_
    exact RL.nil (RA.next fun a hs => ⟨_, _, Mem.le.refl _, hS29, hs, _, _, rfl, rfl, rfl⟩)
   ·intro LL w31 M32 X hle34 hS33 hK hD
    replace hsl_v6 := hsl_v6.mono hle34
    replace hS33 : St w M0 w31 M32 (.raw b2 (mobj .u8 (G.map Prod.fst) clk) :: .box pb [(.pointer (some ⟨b, 0, none⟩))] 131 :: .box b [(.int .u32 0), (.int .i32 1), (.int .u32 0), (.map (some b2))] 104 :: X) := hS33
    obtain ⟨g15, v15, hl15, rfl, rfl⟩ := hD 2 (by decide +kernel)
    refine RL.u (.loadB1 (v := (.map (some b2))) hS33 extEq (i := 2) rfl (.t hl15) Tryz.isAgg102 rfl) rfl ?_
    exact RL.nil (RA.next fun a hs => ⟨_, _, Mem.le.refl _, hS33, hs, _, _, rfl, rfl, rfl⟩)
   ·intro LL w35 M36 X hle38 hS37 hK hD
    replace hsl_v6 := hsl_v6.mono hle38
    replace hS37 : St w M0 w35 M36 (.raw b2 (mobj .u8 (G.map Prod.fst) clk) :: .box pb [(.pointer (some ⟨b, 0, none⟩))] 131 :: .box b [(.int .u32 0), (.int .i32 1), (.int .u32 0), (.map (some b2))] 104 :: X) := hS37
    refine RL.u (.move (.t (hK _ _ rfl))) rfl ?_
    exact RL.nil (RA.next fun a hs => ⟨_, _, Mem.le.refl _, hS37, hs, _, _, rfl, rfl, rfl⟩)
   ·intro LL w39 M40 X hle42 hS41 hK hD
    replace hsl_v6 := hsl_v6.mono hle42
    replace hS41 : St w M0 w39 M40 (.raw b2 (mobj .u8 (G.map Prod.fst) clk) :: .box pb [(.pointer (some ⟨b, 0, none⟩))] 131 :: .box b [(.int .u32 0), (.int .i32 1), (.int .u32 0), (.map (some b2))] 104 :: X) := hS41
    obtain ⟨g17, v17, hl17, rfl, rfl⟩ := hD 4 (by decide +kernel)
    refine RL.u (.idxS (.t hl17) .c Tryz.underlying9 (fun _ => by first | omega)) rfl ?_
    exact RL.nil (RA.next fun a hs => ⟨_, _, Mem.le.refl _, hS41, hs, _, _, rfl, rfl, rfl⟩)
   ·intro LL w43 M44 X hle46 hS45 hK hD
    replace hsl_v6 := hsl_v6.mono hle46
    replace hS45 : St w M0 w43 M44 (.raw b2 (mobj .u8 (G.map Prod.fst) clk) :: .box pb [(.pointer (some ⟨b, 0, none⟩))] 131 :: .box b [(.int .u32 0), (.int .i32 1), (.int .u32 0), (.map (some b2))] 104 :: X) := hS45
    refine RL.u (.loadB1 (v := (.pointer (some ⟨b, 0, none⟩))) hS45 extEq (i := 1) rfl (.t (hK _ _ rfl)) Tryz.isAgg131 rfl) rfl ?_
    exact RL.nil (RA.next fun a hs => ⟨_, _, Mem.le.refl _, hS45, hs, _, _, rfl, rfl, rfl⟩)
   ·intro LL w47 M48 X hle50 hS49 hK hD
    replace hsl_v6 := hsl_v6.mono hle50
    replace hS49 : St w M0 w47 M48 (.raw b2 (mobj .u8 (G.map Prod.fst) clk) :: .box pb [(.pointer (some ⟨b, 0, none⟩))] 131 :: .box b [(.int .u32 0), (.int .i32 1), (.int .u32 0), (.map (some b2))] 104 :: X) := hS49
    obtain ⟨g19, v19, hl19, rfl, rfl⟩ := hD 6 (by decide +kernel)
    refine RL.u (.nilP (.t hl19)) rfl ?_
    exact RL.nil (RA.next fun a hs => ⟨_, _, Mem.le.refl _, hS49, hs, _, _, rfl, rfl, rfl⟩)
   ·intro LL w51 M52 X hle54 hS53 hK hD
    replace hsl_v6 := hsl_v6.mono hle54
    replace hS53 : St w M0 w51 M52 (.raw b2 (mobj .u8 (G.map Prod.fst) clk) :: .box pb [(.pointer (some ⟨b, 0, none⟩))] 131 :: .box b [(.int .u32 0), (.int .i32 1), (.int .u32 0), (.map (some b2))] 104 :: X) := hS53
    obtain ⟨g20, v20, hl20, rfl, rfl⟩ := hD 7 (by decide +kernel)
    refine RL.u (.fldA (q := ⟨b, 3, none⟩) (.t hl20) (fun w => by kernel_rfl)) rfl ?_
    exact RL.nil (RA.next fun a hs => ⟨_, _, Mem.le.refl _, hS53, hs, _, _, rfl, rfl, rfl⟩)
   ·intro LL w55 M56 X hle58 hS57 hK hD
    replace hsl_v6 := hsl_v6.mono hle58
    replace hS57 : St w M0 w55 M56 (.raw b2 (mobj .u8 (G.map Prod.fst) clk) :: .box pb [(.pointer (some ⟨b, 0, none⟩))] 131 :: .box b [(.int .u32 0), (.int .i32 1), (.int .u32 0), (.map (some b2))] 104 :: X) := hS57
    obtain ⟨g21, v21, hl21, rfl, rfl⟩ := hD 8 (by decide +kernel)
    refine RL.u (.loadB1 (v := (.map (some b2))) hS57 extEq (i := 2) rfl (.t hl21) Tryz.isAgg102 rfl) rfl ?_
    exact RL.nil (RA.next fun a hs => ⟨_, _, Mem.le.refl _, hS57, hs, _, _, rfl, rfl, rfl⟩)
   ·intro LL w59 M60 X hle62 hS61 hK hD
    replace hsl_v6 := hsl_v6.mono hle62
    replace hS61 : St w M0 w59 M60 (.raw b2 (mobj .u8 (G.map Prod.fst) clk) :: .box pb [(.pointer (some ⟨b, 0, none⟩))] 131 :: .box b [(.int .u32 0), (.int .i32 1), (.int .u32 0), (.map (some b2))] 104 :: X) := hS61
    refine RL.u (.move (.t (hK _ _ rfl))) rfl ?_
    exact RL.nil (RA.next fun a hs => ⟨_, _, Mem.le.refl _, hS61, hs, _, _, rfl, rfl, rfl⟩)
   ·intro LL w63 M64 X hle66 hS65 hK hD
    replace hsl_v6 := hsl_v6.mono hle66
    replace hS65 : St w M0 w63 M64 (.raw b2 (mobj .u8 (G.map Prod.fst) clk) :: .box pb [(.pointer (some ⟨b, 0, none⟩))] 131 :: .box b [(.int .u32 0), (.int .i32 1), (.int .u32 0), (.map (some b2))] 104 :: X) := hS65
    obtain ⟨g23, v23, hl23, rfl, rfl⟩ := hD 10 (by decide +kernel)
    refine RL.u (.idxS (.t hl23) .c Tryz.underlying9 (fun _ => by first | omega)) rfl ?_
    exact RL.nil (RA.next fun a hs => ⟨_, _, Mem.le.refl _, hS65, hs, _, _, rfl, rfl, rfl⟩)
   ·intro LL w67 M68 X hle70 hS69 hK hD
    replace hsl_v6 := hsl_v6.mono hle70
    replace hS69 : St w M0 w67 M68 (.raw b2 (mobj .u8 (G.map Prod.fst) clk) :: .box pb [(.pointer (some ⟨b, 0, none⟩))] 131 :: .box b [(.int .u32 0), (.int .i32 1), (.int .u32 0), (.map (some b2))] 104 :: X) := hS69
    obtain ⟨g22, v22, hl22, rfl, rfl⟩ := hD 9 (by decide +kernel)
    obtain ⟨g24, v24, hl24, rfl, rfl⟩ := hD 11 (by decide +kernel)
    refine RL.u (.lookup (k := .u8) (v := vx13) hS69 extEq (i := 0) rfl (.t hl22) (.t hl24) Tryz.underlying102 Tryz.underlying5 Tryz.zeroValue32 hget17) rfl ?_
    exact RL.nil (RA.next fun a hs => ⟨_, _, Mem.le.refl _, hS69, hs, _, _, rfl, rfl, rfl⟩)
   ·intro LL w71 M72 X hle74 hS73 hK hD
    replace hsl_v6 := hsl_v6.mono hle74
    replace hS73 : St w M0 w71 M72 (.raw b2 (mobj .u8 (G.map Prod.fst) clk) :: .box pb [(.pointer (some ⟨b, 0, none⟩))] 131 :: .box b [(.int .u32 0), (.int .i32 1), (.int .u32 0), (.map (some b2))] 104 :: X) := hS73
    refine RL.u (.move (.t (hK _ _ rfl))) rfl ?_
    exact RL.nil (RA.next fun a hs => ⟨_, _, Mem.le.refl _, hS73, hs, _, _, rfl, rfl, rfl⟩)
   ·intro LL w75 M76 X hle78 hS77 hK hD hX
    replace hsl_v6 := hsl_v6.mono hle78
    obtain rfl : (.own 9 1 vx13 xs14.length (xs14.flatMap strC) :: (R15 ++ Rs)) = X := Eq.symm hX
    replace hS77 : St w M0 w75 M76 (.raw b2 (mobj .u8 (G.map Prod.fst) clk) :: .box pb [(.pointer (some ⟨b, 0, none⟩))] 131 :: .box b [(.int .u32 0), (.int .i32 1), (.int .u32 0), (.map (some b2))] 104 :: .own 9 1 vx13 xs14.length (xs14.flatMap strC) :: (R15 ++ Rs)) := hS77
    obtain ⟨g26, v26, hl26, rfl, rfl⟩ := hD 13 (by decide +kernel)
    refine RL.buildSlice (n := 1) (sz := 1) (e := 9) (vs := [(0, (str (at' marks8 k)))]) (cs := [(str (at' marks8 k))]) hS77 (.cons (.t hl26) .nil) rfl rfl (fun w => by kernel_rfl) rfl (fun v79 w80 M81 hS82 hle83 => ?_)
    replace hS82 : St w M0 w80 M81 (.own 9 1 v79 (([at' marks8 k] : List Str)).length ((([at' marks8 k] : List Str)).flatMap strC) :: .raw b2 (mobj .u8 (G.map Prod.fst) clk) :: .box pb [(.pointer (some ⟨b, 0, none⟩))] 131 :: .box b [(.int .u32 0), (.int .i32 1), (.int .u32 0), (.map (some b2))] 104 :: .own 9 1 vx13 xs14.length (xs14.flatMap strC) :: (R15 ++ Rs)) := hS82
    replace hsl_v6 := hsl_v6.mono hle83
    replace hS82 : St w M0 w80 M81 (.box pb [(.pointer (some ⟨b, 0, none⟩))] 131 :: .box b [(.int .u32 0), (.int .i32 1), (.int .u32 0), (.map (some b2))] 104 :: .own 9 1 v79 (([at' marks8 k] : List Str)).length ((([at' marks8 k] : List Str)).flatMap strC) :: .raw b2 (mobj .u8 (G.map Prod.fst) clk) :: .own 9 1 vx13 xs14.length (xs14.flatMap strC) :: (R15 ++ Rs)) := (hS82.front 3 rfl rfl).front 3 rfl rfl
    replace hS82 : St w M0 w80 M81 (.raw b2 (mobj .u8 (G.map Prod.fst) clk) :: .box pb [(.pointer (some ⟨b, 0, none⟩))] 131 :: .box b [(.int .u32 0), (.int .i32 1), (.int .u32 0), (.map (some b2))] 104 :: .own 9 1 v79 (([at' marks8 k] : List Str)).length ((([at' marks8 k] : List Str)).flatMap strC) :: .own 9 1 vx13 xs14.length (xs14.flatMap strC) :: (R15 ++ Rs)) := hS82.front 3 rfl rfl
    exact RL.nil (RA.next fun a hs => ⟨_, _, (.own 9 1 v79 (([at' marks8 k] : List Str)).length ((([at' marks8 k] : List Str)).flatMap strC) :: .own 9 1 vx13 xs14.length (xs14.flatMap strC) :: (R15 ++ Rs)), hle83, hS82, hs, ⟨_, _, rfl, trivial⟩, ⟨_, rfl, rfl⟩⟩)
   ·intro LL w84 M85 X hle87 hS86 hK hD hX
    replace hsl_v6 := hsl_v6.mono hle87
    obtain ⟨vx88, hl27, rfl⟩ := hX
    replace hS86 : St w M0 w84 M85 (.raw b2 (mobj .u8 (G.map Prod.fst) clk) :: .box pb [(.pointer (some ⟨b, 0, none⟩))] 131 :: .box b [(.int .u32 0), (.int .i32 1), (.int .u32 0), (.map (some b2))] 104 :: .own 9 1 vx88 (([at' marks8 k] : List Str)).length ((([at' marks8 k] : List Str)).flatMap strC) :: .own 9 1 vx13 xs14.length (xs14.flatMap strC) :: (R15 ++ Rs)) := hS86
    obtain ⟨g25, v25, hl25, rfl, hv25⟩ := hD 12 (by decide +kernel)
    subst v25
    refine RL.append1 (f := strC) (l := xs14) (y := at' marks8 k) hS86 (k := 4) rfl (.t hl25) (.t hl27) (hS86.sl (i := 3) rfl) Tryz.underlying32 Tryz.type9 rfl rfl rfl strC_one (by' := 16) rfl rfl (by first | omega) rfl (Hs' := fun v' => (.raw b2 (mobj .u8 (G.map Prod.fst) clk) :: .box pb [(.pointer (some ⟨b, 0, none⟩))] 131 :: .box b [(.int .u32 0), (.int .i32 1), (.int .u32 0), (.map (some b2))] 104 :: .own 9 1 vx88 (([at' marks8 k] : List Str)).length ((([at' marks8 k] : List Str)).flatMap strC) :: .own 9 1 v' (xs14 ++ [at' marks8 k]).length ((xs14 ++ [at' marks8 k]).flatMap strC) :: (R15 ++ Rs))) (fun _ => rfl) (fun v89 w90 M91 hS92 hle93 => ?_)
    replace hS92 := hS92.erase 3 rfl
    replace hsl_v6 := hsl_v6.mono hle93
    replace hS92 : St w M0 w90 M91 (.box pb [(.pointer (some ⟨b, 0, none⟩))] 131 :: .box b [(.int .u32 0), (.int .i32 1), (.int .u32 0), (.map (some b2))] 104 :: .raw b2 (mobj .u8 (G.map Prod.fst) clk) :: .own 9 1 v89 (xs14 ++ [at' marks8 k]).length ((xs14 ++ [at' marks8 k]).flatMap strC) :: (R15 ++ Rs)) := (hS92.front 2 rfl rfl).front 2 rfl rfl
    replace hS92 : St w M0 w90 M91 (.raw b2 (mobj .u8 (G.map Prod.fst) clk) :: .box pb [(.pointer (some ⟨b, 0, none⟩))] 131 :: .box b [(.int .u32 0), (.int .i32 1), (.int .u32 0), (.map (some b2))] 104 :: .own 9 1 v89 (xs14 ++ [at' marks8 k]).length ((xs14 ++ [at' marks8 k]).flatMap strC) :: (R15 ++ Rs)) := hS92.front 2 rfl rfl
    exact RL.nil (RA.next fun a hs => ⟨_, _, (.own 9 1 v89 (xs14 ++ [at' marks8 k]).length ((xs14 ++ [at' marks8 k]).flatMap strC) :: (R15 ++ Rs)), hle93, hS92, hs, ⟨_, _, rfl, trivial⟩, ⟨_, rfl, rfl⟩⟩)
   ·intro LL w94 M95 X hle97 hS96 hK hD hX
    replace hsl_v6 := hsl_v6.mono hle97
    obtain ⟨vx98, hl28, rfl⟩ := hX
    replace hS96 : St w M0 w94 M95 (.raw b2 (mobj .u8 (G.map Prod.fst) clk) :: .box pb [(.pointer (some ⟨b, 0, none⟩))] 131 :: .box b [(.int .u32 0), (.int .i32 1), (.int .u32 0), (.map (some b2))] 104 :: .own 9 1 vx98 (xs14 ++ [at' marks8 k]).length ((xs14 ++ [at' marks8 k]).flatMap strC) :: (R15 ++ Rs)) := hS96
    obtain ⟨g16, v16, hl16, rfl, rfl⟩ := hD 3 (by decide)
    obtain ⟨g18, v18, hl18, rfl, rfl⟩ := hD 5 (by decide)
    refine RL.mapUpd (v := vx98) hS96 (i := 0) rfl (.t hl16) (.t hl18) (.t hl28) Tryz.underlying102 Tryz.underlying5 (l' := (kset (G.map Prod.fst) clk (byteAt (at' marks8 k) 0) vx98)) rfl (c' := (kclk (G.map Prod.fst) clk (byteAt (at' marks8 k) 0) vx98)) rfl (Hs' := (.raw b2 (mobj .u8 (kset (G.map Prod.fst) clk (byteAt (at' marks8 k) 0) vx98) (kclk (G.map Prod.fst) clk (byteAt (at' marks8 k) 0) vx98)) :: .box pb [(.pointer (some ⟨b, 0, none⟩))] 131 :: .box b [(.int .u32 0), (.int .i32 1), (.int .u32 0), (.map (some b2))] 104 :: .own 9 1 vx98 (xs14 ++ [at' marks8 k]).length ((xs14 ++ [at' marks8 k]).flatMap strC) :: (R15 ++ Rs))) rfl (fun w99 hS100 => ?_)
    refine RL.nil (slots_sub (E := [Y 0 (.pointer (some ⟨pb, 0, none⟩)), Y 2 (str (at' marks8 k)), Y 7 v6, Y 8 (i64 (len marks8)), Y 9 (i64 k)]) (.cons (hK _ _ rfl) (.cons (hK _ _ rfl) (.cons (hK _ _ rfl) (.cons (hK _ _ rfl) (.cons (hK _ _ rfl) .nil))))) ?_)
    refine (CW.at [Y 0 (.pointer (some ⟨pb, 0, none⟩)), Y 7 v6, Y 8 (i64 (len marks8)), Y 9 (i64 k)] rfl ?_)
    refine CW.region (RL.u (.add (.t rfl) .c (fun _ => by first | omega)) rfl (RL.m rfl rfl ?_))
    replace hS100 : St w M0 w99 M95 (.box pb [(.pointer (some ⟨b, 0, none⟩))] 131 :: .box b [(.int .u32 0), (.int .i32 1), (.int .u32 0), (.map (some b2))] 104 :: .raw b2 (mobj .u8 (kset (G.map Prod.fst) clk (byteAt (at' marks8 k) 0) vx98) (kclk (G.map Prod.fst) clk (byteAt (at' marks8 k) 0) vx98)) :: .own 9 1 vx98 (xs14 ++ [at' marks8 k]).length ((xs14 ++ [at' marks8 k]).flatMap strC) :: (R15 ++ Rs)) := (hS100.front 2 rfl rfl).front 2 rfl rfl
    replace hS100 : St w M0 w99 M95 (.raw b2 (mobj .u8 (kset (G.map Prod.fst) clk (byteAt (at' marks8 k) 0) vx98) (kclk (G.map Prod.fst) clk (byteAt (at' marks8 k) 0) vx98)) :: .box pb [(.pointer (some ⟨b, 0, none⟩))] 131 :: .box b [(.int .u32 0), (.int .i32 1), (.int .u32 0), (.map (some b2))] 104 :: .own 9 1 vx98 (xs14 ++ [at' marks8 k]).length ((xs14 ++ [at' marks8 k]).flatMap strC) :: (R15 ++ Rs)) := hS100.front 2 rfl rfl
    obtain ⟨G102, hG1, hG2, hG3⟩ := mk_close (w0 := w) (M0 := M0) (A := .raw b2 (mobj .u8 (kset (G.map Prod.fst) clk (byteAt (at' marks8 k) 0) vx98) (kclk (G.map Prod.fst) clk (byteAt (at' marks8 k) 0) vx98))) (B := .box pb [(.pointer (some ⟨b, 0, none⟩))] 131) (C := .box b [(.int .u32 0), (.int .i32 1), (.int .u32 0), (.map (some b2))] 104) (Rs := Rs) clk hO16 (at' marks8 k) vx98
    have hS101 := hG2 hS100
    rw [hG1] at hS101
    refine RL.nil fun a hs => Exists.intro ((k + 1, G102, (kclk (G.map Prod.fst) clk (byteAt (at' marks8 k) 0) vx98), M95)) ⟨hs.keep [0, 7, 8, 9], ?_, ?_⟩
    ·refine ⟨hS101, hsl_v6, ?_⟩
     exact ⟨by omega, by omega, hG3 h0 (by omega) rfl rfl hG, (hMl.trans hle97)⟩
    ·show Int.toNat _ < Int.toNat _; omega
  ·obtain ⟨hMM, hS103⟩ := mk_end hS12 (by rw [show (17 : Int) = k from by omega]; exact hG)
   replace hS103 : St w M0 wl Ml (.box pb [(.pointer (some ⟨b, 0, none⟩))] 131 :: .box b [(.int .u32 0), (.int .i32 1), (.int .u32 0), (.map (some b2))] 104 :: .raw b2 (mobj .u8 (G.map Prod.fst) clk) :: Rs) := (hS103.front 2 rfl rfl).front 2 rfl rfl
   replace hS103 : St w M0 wl Ml (.raw b2 (mobj .u8 (G.map Prod.fst) clk) :: .box pb [(.pointer (some ⟨b, 0, none⟩))] 131 :: .box b [(.int .u32 0), (.int .i32 1), (.int .u32 0), (.map (some b2))] 104 :: Rs) := hS103.front 2 rfl rfl
   refine CW.exit (hE.e0 rfl ?_)
   exact ⟨_, rfl, _, _, _, Ml, rfl, hMM, hS103, hMl⟩

end Go.Proofs.YtmjpjbmeamnfpaaGreatDoor
set_option maxRecDepth 100000
namespace Go.Proofs.YtmjpjbmeamnfpaaGreatDoor
open Go.Eng

theorem setCell_list {w : World} {b : Nat} {cs : List Value} {t : TypeId} (i : Nat) (x : Value) (h : w.heap[b]? = some (.cells cs.toArray t (0, 0))) : w.setCell ⟨b, i, none⟩ x = w.setRow b (cs.set i x).toArray := by
  unfold World.setCell World.setRow
  congr 1
  apply Array.ext_getElem?
  intro k
  by_cases hk : b = k
  · subst hk; simp [Array.getElem?_modify, h]
  · simp [Array.getElem?_modify, hk]
theorem cell_list {w : World} {b : Nat} {cs : List Value} {t : TypeId} (h : w.heap[b]? = some (.cells cs.toArray t (0, 0))) (i : Nat) : w.cell? ⟨b, i, none⟩ = cs[i]? := by simp [World.cell?, h]
theorem frozen_list {w : World} {b : Nat} {cs : List Value} {t : TypeId} (h : w.heap[b]? = some (.cells cs.toArray t (0, 0))) (i : Nat) : w.frozen? ⟨b, i, none⟩ = false := by simp [World.frozen?, h]
/-- The marks: not laid yet; or laid. -/
def MarkOk (M : Mem) (cs : List Value) (X : HO) : Prop :=
  (cs = [.int .u32 0, .int .i32 0, .int .u32 0, .map none] ∧ X = .own 9 1 (.slice none 0 0) 0 []) ∨
  ∃ mb l c, cs = [.int .u32 1, .int .i32 0, .int .u32 0, .map (some mb)] ∧ X = .raw mb (mobj .u8 l c) ∧ MarkMap M l
theorem MarkMap.mono {M M' : Mem} {l : List KV} (h : MarkMap M l) (hm : M.le M') : MarkMap M' l := fun c => by obtain ⟨v, h1, h2⟩ := h c; exact ⟨v, h1, h2.mono hm⟩
theorem MarkOk.mono {M M' : Mem} {cs : List Value} {X : HO} (h : MarkOk M cs X) (hm : M.le M') : MarkOk M' cs X := h.imp id fun ⟨mb, l, c, h1, h2, h3⟩ => ⟨mb, l, c, h1, h2, MarkMap.mono h3 hm⟩
theorem do_c {w wv : World} {M0 M : Mem} {Rs : List HO} (pb b : Nat) (cs : List Value) (X : HO) (hS : St w M0 wv M (.box pb [.pointer (some ⟨b, 0, none⟩)] 131 :: .box b cs 104 :: X :: Rs)) (hm : MarkOk M cs X) (hg : Gl w) :
    Calls Tryz.prog 113 [.pointer (some ⟨b, 0, none⟩), .func (.func 114) #[] #[.pointer (some ⟨pb, 0, none⟩)]].toArray wv fun e w' => ∃ v, e = .returned v ∧ ∃ mb l c M', v = .tuple #[] ∧ MarkMap M' l ∧ St w M0 w' M' (.box pb [.pointer (some ⟨b, 0, none⟩)] 131 :: .box b [.int .u32 1, .int .i32 0, .int .u32 0, .map (some mb)] 104 :: .raw mb (mobj .u8 l c) :: Rs) ∧ M.le M' := by
  rcases hm with ⟨rfl, rfl⟩ | ⟨mb, l, c, rfl, rfl, hM⟩
  · have hb := (hS.obj (i := 1) rfl).2.1
    have hS1 : St w M0 (wv.setCell ⟨b, 1, none⟩ (.int .i32 1)) M (.box pb [.pointer (some ⟨b, 0, none⟩)] 131 :: .box b [.int .u32 0, .int .i32 1, .int .u32 0, .map none] 104 :: .own 9 1 (.slice none 0 0) 0 [] :: Rs) := by
      rw [setCell_list 1 _ hb]; exact hS.setBox (i := 1) rfl _
    have hS2 := hS1.erase 2 (Hs' := .box pb [.pointer (some ⟨b, 0, none⟩)] 131 :: .box b [.int .u32 0, .int .i32 1, .int .u32 0, .map none] 104 :: Rs) rfl
    refine (do_first 114 #[.pointer (some ⟨pb, 0, none⟩)] b wv (fun w1 => ∃ mb l c M', MarkMap M' l ∧ St w M0 w1 M' (.raw mb (mobj .u8 l c) :: .box pb [.pointer (some ⟨b, 0, none⟩)] 131 :: .box b [.int .u32 0, .int .i32 1, .int .u32 0, .map (some mb)] 104 :: Rs) ∧ M.le M') Tryz.call114 (by rw [cell_list hb]; rfl) (by rw [cell_list hb]; rfl) (frozen_list hb 1) ?_).mono ?_
    · refine (marks1_c pb b hS2 hg).mono ?_
      rintro e w' ⟨v, rfl, mb, l, c, M', rfl, h1, h2, h3⟩
      have hb' := (h2.obj (i := 2) rfl).2.1
      exact ⟨rfl, by rw [cell_list hb']; rfl, frozen_list hb' 0, by rw [cell_list hb']; rfl, frozen_list hb' 1, mb, l, c, M', h1, h2, h3⟩
    · rintro e w' ⟨rfl, w1, ⟨mb, l, c, M', h1, h2, h3⟩, _, _, _, _, rfl⟩
      refine ⟨_, rfl, mb, l, c, M', rfl, h1, ?_, h3⟩
      have h4 := h2.ext (Ext.drew w1)
      have hb4 := (h4.obj (i := 2) rfl).2.1
      rw [setCell_list 0 _ hb4]
      have h5 : St w M0 (w1.drew.setRow b [.int .u32 1, .int .i32 1, .int .u32 0, .map (some mb)].toArray) M' (.raw mb (mobj .u8 l c) :: .box pb [.pointer (some ⟨b, 0, none⟩)] 131 :: .box b [.int .u32 1, .int .i32 1, .int .u32 0, .map (some mb)] 104 :: Rs) := h4.setBox (i := 2) rfl _
      have hb5 := (h5.obj (i := 2) rfl).2.1
      show St w M0 ((w1.drew.setRow b [.int .u32 1, .int .i32 1, .int .u32 0, .map (some mb)].toArray).setCell ⟨b, 1, none⟩ (.int .i32 0)) M' _
      rw [setCell_list 1 _ hb5]
      have h6 : St w M0 ((w1.drew.setRow b [.int .u32 1, .int .i32 1, .int .u32 0, .map (some mb)].toArray).setRow b [.int .u32 1, .int .i32 0, .int .u32 0, .map (some mb)].toArray) M' (.raw mb (mobj .u8 l c) :: .box pb [.pointer (some ⟨b, 0, none⟩)] 131 :: .box b [.int .u32 1, .int .i32 0, .int .u32 0, .map (some mb)] 104 :: Rs) := h5.setBox (i := 2) rfl _
      exact (h6.front 1 rfl rfl).front 2 rfl rfl |>.front 1 rfl rfl
  · have hb := (hS.obj (i := 1) rfl).2.1
    refine (do_done ⟨b, 0, none⟩ 1 (by decide) _ wv (by rw [cell_list hb]; rfl)).mono ?_
    rintro e w' ⟨rfl, rfl⟩
    exact ⟨_, rfl, mb, l, c, M, rfl, hM, hS, Mem.le.refl _⟩
end Go.Proofs.YtmjpjbmeamnfpaaGreatDoor
set_option maxRecDepth 100000
namespace Go.Proofs.YtmjpjbmeamnfpaaGreatDoor
open Go.Eng

/- (*loupe/lex.marks).at -/
theorem at_c {w wv : World} {M0 M : Mem} {Rs : List HO} (b : Nat) (cs : List Value) (X : HO) (s : Str) (hS : St w M0 wv M (.box b cs 104 :: X :: Rs)) (hm : MarkOk M cs X) (hg : Gl w) (h0 : 0 < len s) (hb : len s ≤ 1099511627776) :
  Calls Tryz.prog 79 [(.pointer (some ⟨b, 0, none⟩)), (str s)].toArray wv fun e w' => ∃ v, e = .returned v ∧ ∃ cs' X' M', v = str (markP s) ∧ MarkOk M' cs' X' ∧ St w M0 w' M' (.box b cs' 104 :: X' :: Rs) ∧ M.le M' := by
 refine CW.enter1 Tryz.func79 rfl Tryz.ntmps79 (Nat.le_of_ble_eq_true rfl) fun Q hE => ?_
 refine CW.weaken [0, 1] (L' := [Y 0 (.pointer (some ⟨b, 0, none⟩)), Y 1 (str s)]) ?_ rfl
 refine CW.sr ?_
 refine RL.box (v := (.pointer (some ⟨b, 0, none⟩))) hS (.t rfl) rfl (fun w1 b2 hS3 => ?_)
 refine RL.u (.assign .c) rfl (RL.nil (CW.id ?_))
 refine CW.sr (RL.u (.loadB1 (v := (.pointer (some ⟨b, 0, none⟩))) hS3 extEq (i := 0) rfl (.t rfl) Tryz.isAgg131 rfl) rfl (RL.u (.nilP (.t rfl)) rfl (RL.u (.fldA (q := ⟨b, 0, none⟩) (.t rfl) (fun w => by kernel_rfl)) rfl (RL.u (.makeFunc .nil (.cons (.t rfl) .nil)) rfl ?_))))
 replace hS3 : St w M0 w1 M (.box b cs 104 :: X :: .box b2 [(.pointer (some ⟨b, 0, none⟩))] 131 :: Rs) := (hS3.front 2 rfl rfl).front 2 rfl rfl
 replace hS3 : St w M0 w1 M (.box b2 [(.pointer (some ⟨b, 0, none⟩))] 131 :: .box b cs 104 :: X :: Rs) := hS3.front 2 rfl rfl
 refine RL.callP Tryz.call113 (.cons (.t rfl) (.cons (.t rfl) .nil)) (do_c (Rs := Rs) b2 b cs X hS3 (by assumption) hg) rfl ?_
 rintro v7 w8 ⟨mb4, ml5, mc6, M9, rfl, hMM_mb4, hS10, hle11⟩
 replace hS10 : St w M0 w8 M9 (.box b2 [(.pointer (some ⟨b, 0, none⟩))] 131 :: .box b [(.int .u32 1), (.int .i32 0), (.int .u32 0), (.map (some mb4))] 104 :: .raw mb4 (mobj .u8 ml5 mc6) :: Rs) := hS10
 refine RL.nil (CW.at [Y 1 (str s), Y 2 (.pointer (some ⟨b2, 0, none⟩))] rfl (CW.seq (CW.seq ?_)))
 refine CW.regionD hS10 tryz_mixed (by decide +kernel) ?_
 refine RQ.v .none (.loadB1 (v := (.pointer (some ⟨b, 0, none⟩))) hS10 (fun _ h => h) (i := 0) rfl (.t rfl) Tryz.isAgg131 rfl) rfl ?_
 refine RQ.v .none (.nilP (.t rfl)) rfl ?_
 refine RQ.v .none (.fldA (q := ⟨b, 3, none⟩) (.t rfl) (fun w => by kernel_rfl)) rfl ?_
 refine RQ.v .none (.loadB1 (v := (.map (some mb4))) hS10 (fun _ h => h) (i := 1) rfl (.t rfl) Tryz.isAgg102 rfl) rfl ?_
 refine RQ.v .none (.move (.t rfl)) rfl ?_
 refine RQ.v .none (.idxS (.t rfl) .c Tryz.underlying9 (fun _ => by omega)) rfl ?_
 obtain ⟨mv, hmv, hmsl⟩ := hMM_mb4 (byteAt s 0)
 refine RQ.v .none (.lookup (k := .u8) (v := mv) hS10 (fun _ h => h) (i := 2) rfl (.t rfl) (.t rfl) Tryz.underlying102 Tryz.underlying5 Tryz.zeroValue32 hmv) rfl ?_
 refine RQ.v .none (.lenT hmsl (.t rfl) ⟨_, Tryz.underlying32⟩) rfl ?_
 refine RQ.v .none (.move .c) rfl ?_
 refine RQ.nil (fun a hs w12 hS13 => CW.at [Y 1 (str s), Y 18 mv, Y 19 (i64 (len (marksOf (byteAt s 0)))), Y 20 (i64 0)] rfl ?_ a hs)
 refine CW.block ?_
 refine CW.loop (σ := Int) (fun k => [Y 1 (str s), Y 18 mv, Y 19 (i64 (len (marksOf (byteAt s 0)))), Y 20 (i64 k)]) (fun k wl => St w M0 wl M9 (.box b2 [(.pointer (some ⟨b, 0, none⟩))] 131 :: .box b [(.int .u32 1), (.int .i32 0), (.int .u32 0), (.map (some mb4))] 104 :: .raw mb4 (mobj .u8 ml5 mc6) :: Rs) ∧ 0 ≤ k ∧ k ≤ len (marksOf (byteAt s 0)) ∧ NoneTo s (marksOf (byteAt s 0)) k) (fun k => (len (marksOf (byteAt s 0)) - k).toNat) 0 [1, 18, 19, 20] rfl ?_ ?_
 ·refine ⟨hS13, ?_⟩; exact ⟨by omega, len_nonneg _, rfl⟩
 ·rintro k wl ⟨hS14, hk0, hk1, hN⟩
  have hll := hmsl.le
  change len (marksOf (byteAt s 0)) ≤ 9223372036854775807 at hll
  refine CW.sr (RL.u (.lss (.t rfl) (.t rfl)) rfl (RL.nil (CW.id (CW.seq ?_))))
  refine CW.cond rfl ?_ ?_ <;> intro hb1 <;> try simp only [zb] at hb1
  ·refine CW.skip (CW.id (CW.seq (CW.block (CW.sr ?_))))
   refine RL.u (.idxT hmsl (.t rfl) (.t rfl) Tryz.underlying32 Tryz.sizeOf9 (fun _ => by omega)) rfl (RL.u (.loadE1 (f := strC) (i := k) (j := 0) (u := (str (at' (marksOf (byteAt s 0)) k))) hS14 extEq hmsl strC_len (.t rfl) Tryz.isAgg9 (fun _ => by omega) rfl rfl) rfl (RL.a rfl rfl (RL.nil (CW.id ?_))))
   refine CW.sr (RL.m rfl rfl (RL.m rfl rfl ?_))
   refine RL.callS .none Tryz.call77 (.cons (.t rfl) (.cons (.t rfl) .nil)) (fun _ => (hasPrefix_c s (at' (marksOf (byteAt s 0)) k) _)) rfl ?_
   refine RL.nil (CW.at [Y 1 (str s), Y 6 (str (at' (marksOf (byteAt s 0)) k)), Y 18 mv, Y 19 (i64 (len (marksOf (byteAt s 0)))), Y 20 (i64 k), Y 26 (.bool (Lib.hasPrefix s (at' (marksOf (byteAt s 0)) k)))] rfl ?_)
   refine CW.cond rfl ?_ ?_ <;> intro hb2 <;> try simp only [zb] at hb2
   ·refine CW.sr (RL.m rfl rfl (RL.a rfl rfl (RL.nil (CW.id (CW.ret (hE.r1 rfl rfl ?_))))))
    replace hS14 : St w M0 wl M9 (.raw mb4 (mobj .u8 ml5 mc6) :: .box b [(.int .u32 1), (.int .i32 0), (.int .u32 0), (.map (some mb4))] 104 :: Rs) := (hS14.erase 0 rfl).front 1 rfl rfl
    replace hS14 : St w M0 wl M9 (.box b [(.int .u32 1), (.int .i32 0), (.int .u32 0), (.map (some mb4))] 104 :: .raw mb4 (mobj .u8 ml5 mc6) :: Rs) := hS14.front 1 rfl rfl
    have hq : markP s = at' (marksOf (byteAt s 0)) k := by rw [markP_of, hN.found hk0 hb1 hb2]
    exact ⟨_, rfl, _, _, _, by rw [hq], .inr ⟨_, _, _, rfl, rfl, hMM_mb4⟩, hS14, hle11⟩
   ·refine CW.skip (CW.id ?_)
    refine CW.region (RL.u (.add (.t rfl) .c (fun _ => by omega)) rfl (RL.m rfl rfl ?_))
    refine RL.nil fun a hs => Exists.intro (k + 1) ⟨hs.keep [1, 18, 19, 20], ?_, ?_⟩
    ·refine ⟨hS14, ?_⟩
     exact ⟨by omega, by omega, hN.step hk0 hb1 (by simpa using hb2)⟩
    ·show Int.toNat _ < Int.toNat _; omega
  ·refine CW.exit (CW.at [] rfl ?_)
   refine CW.sr (RL.u (.assign .c) rfl (RL.nil (CW.id (CW.ret (hE.r1 rfl rfl ?_)))))
   replace hS14 : St w M0 wl M9 (.raw mb4 (mobj .u8 ml5 mc6) :: .box b [(.int .u32 1), (.int .i32 0), (.int .u32 0), (.map (some mb4))] 104 :: Rs) := (hS14.erase 0 rfl).front 1 rfl rfl
   replace hS14 : St w M0 wl M9 (.box b [(.int .u32 1), (.int .i32 0), (.int .u32 0), (.map (some mb4))] 104 :: .raw mb4 (mobj .u8 ml5 mc6) :: Rs) := hS14.front 1 rfl rfl
   have hq : markP s = [] := by rw [markP_of, hN.none' (by omega)]
   exact ⟨_, rfl, _, _, _, by rw [hq], .inr ⟨_, _, _, rfl, rfl, hMM_mb4⟩, hS14, hle11⟩

end Go.Proofs.YtmjpjbmeamnfpaaGreatDoor
namespace Go.Eng
open Go.RowKit

def figP (x : Nat) : Bool := isFig (x : Int)
theorem figP_iff (x : Nat) : figP x = true ↔ 48 ≤ x ∧ x ≤ 57 := by unfold figP isFig; simp; omega
theorem figP_not (x : Nat) : figP x = false ↔ ¬ (48 ≤ x ∧ x ≤ 57) := by rw [← figP_iff]; simp
theorem dec_fig {s : Str} {i : Nat} (h : i < s.length) (hf : figP (s[i]).toNat = true) : Utf8.decode ⟨⟨s⟩⟩ i = ((s[i]).toNat, 1) := by
  have := decode_ascii ⟨⟨s⟩⟩ i h (by have := (figP_iff _).1 hf; show (s[i]).toNat < 128; omega)
  exact this
theorem dec_not {s : Str} {i : Nat} (h : i < s.length) (hf : figP (s[i]).toNat = false) : figP (Utf8.decode ⟨⟨s⟩⟩ i).1 = false := by
  rcases Nat.lt_or_ge (s[i]).toNat 128 with hl | hl
  · have := decode_ascii ⟨⟨s⟩⟩ i h hl
    rw [this]; exact hf
  · have := decode_high ⟨⟨s⟩⟩ i h hl
    rw [figP_not]; omega
theorem idx_find (s : Str) : ∀ (f pos : Nat), s.length ≤ pos + f → (∀ (j : Nat) (h : j < s.length), pos ≤ j → figP (s[j]).toNat = true) → Lib.idxFuncFrom figP false ⟨⟨s⟩⟩ f pos = -1
  | 0, _, _, _ => rfl
  | f + 1, pos, hl, ha => by
    unfold Lib.idxFuncFrom
    by_cases h : pos < s.length
    · rw [if_pos (show pos < (ByteArray.mk ⟨s⟩).size from h), dec_fig h (ha pos h (Nat.le_refl _)), if_neg (by rw [ha pos h (Nat.le_refl _)]; simp)]
      exact idx_find s f (pos + 1) (by omega) (fun j hj hp => ha j hj (by omega))
    · rw [if_neg (show ¬ pos < (ByteArray.mk ⟨s⟩).size from h)]
theorem idx_found (s : Str) : ∀ (f pos : Nat), s.length ≤ pos + f → (∃ (j : Nat) (h : j < s.length), pos ≤ j ∧ figP (s[j]).toNat = false) → ∃ (i : Nat) (h : i < s.length), Lib.idxFuncFrom figP false ⟨⟨s⟩⟩ f pos = (i : Int) ∧ figP (s[i]).toNat = false
  | 0, pos, hl, ⟨j, hj, hp, _⟩ => by omega
  | f + 1, pos, hl, ⟨j, hj, hp, hn⟩ => by
    unfold Lib.idxFuncFrom
    have h : pos < s.length := by omega
    rw [if_pos (show pos < (ByteArray.mk ⟨s⟩).size from h)]
    cases hf : figP (s[pos]).toNat with
    | true =>
      rw [dec_fig h hf, if_neg (by rw [hf]; simp)]
      have hne : pos ≠ j := by intro e; subst e; rw [hf] at hn; cases hn
      exact idx_found s f (pos + 1) (by omega) ⟨j, hj, by omega, hn⟩
    | false =>
      rw [if_pos (dec_not h hf)]
      exact ⟨pos, h, rfl, hf⟩
theorem last_found (t : Str) (h0 : ∃ h : 0 < t.length, figP (t[0]).toNat = false) : ∀ (f i : Nat), 0 < i → i ≤ t.length → i ≤ f → 0 ≤ Lib.lastIdxFuncFrom figP false ⟨⟨t⟩⟩ f i
  | 0, i, hi, _, hf => by omega
  | f + 1, i, hi, hl, hf => by
    obtain ⟨hz, hn⟩ := h0
    unfold Lib.lastIdxFuncFrom
    rw [if_pos hi]
    show 0 ≤ if figP (Lib.decodeLastL (t.take i)).1 = false then _ else _
    split
    · omega
    · rename_i hp
      have hp' : figP (Lib.decodeLastL (t.take i)).1 = true := by simpa using hp
      have hb := (figP_iff _).1 hp'
      have hlen : (t.take i).length = i := by rw [List.length_take]; omega
      have hw : Lib.decodeLastL (t.take i) = ((t[i - 1]'(by omega)).toNat, 1) := by
        have hne : ¬ t.take i = [] := by intro e; rw [e] at hlen; simp at hlen; omega
        have hg : (t.take i).getD ((t.take i).length - 1) 0 = t[i - 1]'(by omega) := by
          rw [hlen, List.getD_eq_getElem?_getD, List.getElem?_take, if_pos (by omega)]
          simp [show i - 1 < t.length from by omega]
        unfold Lib.decodeLastL at hb ⊢
        rw [if_neg hne, hg] at hb ⊢
        by_cases hc : (t[i - 1]'(by omega)).toNat < 128
        · rw [if_pos hc]
        · exfalso
          rw [if_neg hc] at hb
          dsimp only at hb
          split at hb
          · rename_i hls
            have hsl : Lib.lastStart (t.take i) < (t.take i).length := by
              rcases Nat.lt_or_ge (Lib.lastStart (t.take i)) (t.take i).length with h | h
              · exact h
              · exfalso
                have e0 : (t.take i).drop (Lib.lastStart (t.take i)) = [] := by rw [List.drop_eq_nil_iff]; exact h
                rw [e0] at hb
                have : (Lib.decodeL []).1 = 0 := by decide
                omega
            -- the rune that begins there is one byte below 128: then it is the last one
            have hd : Utf8.decode ⟨⟨(t.take i).drop (Lib.lastStart (t.take i))⟩⟩ 0 = Lib.decodeL ((t.take i).drop (Lib.lastStart (t.take i))) := rfl
            have hdl : 0 < ((t.take i).drop (Lib.lastStart (t.take i))).length := by rw [List.length_drop]; omega
            have hlow : (((t.take i).drop (Lib.lastStart (t.take i)))[0]).toNat < 128 := by
              rcases Nat.lt_or_ge (((t.take i).drop (Lib.lastStart (t.take i)))[0]).toNat 128 with h | h
              · exact h
              · have := decode_high ⟨⟨(t.take i).drop (Lib.lastStart (t.take i))⟩⟩ 0 hdl h
                rw [hd] at this; omega
            have hda := decode_ascii ⟨⟨(t.take i).drop (Lib.lastStart (t.take i))⟩⟩ 0 hdl hlow
            rw [hd] at hda
            rw [hda] at hls
            have e1 : Lib.lastStart (t.take i) = i - 1 := by rw [hlen] at hls; simp only at hls; omega
            apply hc
            have e2 : ((t.take i).drop (Lib.lastStart (t.take i)))[0] = t[i - 1]'(by omega) := by
              rw [List.getElem_drop, List.getElem_take]; first | done | congr 1 | (congr 1; omega)
            rw [← e2]; exact hlow
          · have : Utf8.runeError = 65533 := rfl
            simp only [this] at hb; omega
      rw [hw]
      by_cases hi1 : i = 1
      · exfalso
        subst hi1
        rw [hw] at hp'
        have : figP (t[0]).toNat = true := hp'
        rw [hn] at this; cases this
      · exact last_found t ⟨hz, hn⟩ f (i - 1) (by omega) (by omega) (by omega)
theorem figs_all {s : Str} : figs s = true ↔ ∀ (j : Nat) (h : j < s.length), figP (s[j]).toNat = true := by
  have key : ∀ (k : Nat) (i : Int), 0 ≤ i → (len s - i).toNat ≤ k → (figsFrom s i = true ↔ ∀ (j : Nat) (h : j < s.length), i ≤ (j : Int) → figP (s[j]).toNat = true) := by
    intro k
    induction k with
    | zero =>
      intro i h0 hk
      rw [figsFrom_end s i (by omega)]
      exact ⟨fun _ j h hj => by unfold len at hk; omega, fun _ => rfl⟩
    | succ k ih =>
      intro i h0 hk
      by_cases hlt : i < len s
      · obtain ⟨hh, he⟩ := byteAt_of_lt h0 hlt
        by_cases hf : isFig (byteAt s i) = true
        · rw [← figsFrom_step s i h0 hlt hf, ih (i + 1) (by omega) (by omega)]
          constructor
          · intro h j hj hij
            by_cases e : (j : Int) = i
            · have e' : j = i.toNat := by omega
              subst e'
              unfold figP; rw [← he]; exact hf
            · exact h j hj (by omega)
          · intro h j hj hij; exact h j hj (by omega)
        · rw [figsFrom_bad s i h0 hlt hf]
          constructor
          · intro h; cases h
          · intro h
            have := h i.toNat hh (by omega)
            unfold figP at this
            rw [← he] at this
            exact absurd this hf
      · rw [figsFrom_end s i hlt]
        exact ⟨fun _ j h hj => by unfold len at hlt; omega, fun _ => rfl⟩
  have := key (len s - 0).toNat 0 (Int.le_refl 0) (Nat.le_refl _)
  unfold figs
  rw [this]
  exact ⟨fun h j hj => h j hj (by omega), fun h j hj _ => h j hj⟩
theorem ext_mk (l : Str) (i j : Nat) : (ByteArray.mk ⟨l⟩).extract i j = ByteArray.mk ⟨(l.drop i).take (j - i)⟩ := by
  have := ByteArray.extract_mk l i j
  rw [this]
theorem trimF_figs (s : Str) : ((Lib.trimF figP ⟨⟨s⟩⟩).data.toList == []) = figs s := by
  rw [Bool.eq_iff_iff, beq_iff_eq]
  have hsz : (ByteArray.mk ⟨s⟩).size = s.length := rfl
  by_cases ha : ∀ (j : Nat) (h : j < s.length), figP (s[j]).toNat = true
  · refine ⟨fun _ => figs_all.2 ha, fun _ => ?_⟩
    have hi : Lib.idxFunc figP false ⟨⟨s⟩⟩ = -1 := idx_find s s.length 0 (by omega) (fun j h _ => ha j h)
    unfold Lib.trimF Lib.trimLeftF
    rw [if_pos hi]
    unfold Lib.trimRightF
    rw [ext_mk []]; simp
  · have hex : ∃ (j : Nat) (h : j < s.length), 0 ≤ j ∧ figP (s[j]).toNat = false := by
      apply Classical.byContradiction
      intro hc
      apply ha
      intro j h
      cases hf : figP (s[j]).toNat with
      | true => rfl
      | false => exact absurd ⟨j, h, Nat.zero_le _, hf⟩ hc
    obtain ⟨i, hi, he, hn⟩ := idx_found s s.length 0 (by omega) hex
    refine ⟨fun h => ?_, fun h => absurd (figs_all.1 h) ha⟩
    exfalso
    have hi' : Lib.idxFunc figP false ⟨⟨s⟩⟩ = (i : Int) := he
    have ht : Lib.trimLeftF figP ⟨⟨s⟩⟩ = ⟨⟨s.drop i⟩⟩ := by
      unfold Lib.trimLeftF
      rw [hi', if_neg (by omega), hsz, Int.toNat_natCast, ext_mk, List.take_of_length_le (by rw [List.length_drop]; omega)]
    unfold Lib.trimF at h
    rw [ht] at h
    have hpos : 0 < (s.drop i).length := by rw [List.length_drop]; omega
    have h0 : ∃ h : 0 < (s.drop i).length, figP ((s.drop i)[0]).toNat = false := ⟨hpos, by rw [List.getElem_drop]; exact hn⟩
    have hlast : 0 ≤ Lib.lastIdxFunc figP false ⟨⟨s.drop i⟩⟩ := last_found (s.drop i) h0 (s.drop i).length (s.drop i).length hpos (Nat.le_refl _) (Nat.le_refl _)
    have hend : 1 ≤ Lib.rightEndF figP ⟨⟨s.drop i⟩⟩ := by
      unfold Lib.rightEndF
      rw [if_pos hlast]
      by_cases hz : (Lib.lastIdxFunc figP false ⟨⟨s.drop i⟩⟩).toNat = 0
      · rw [hz]
        have e : (ByteArray.mk ⟨s.drop i⟩).extract 0 (ByteArray.mk ⟨s.drop i⟩).size = ⟨⟨s.drop i⟩⟩ := by
          rw [ext_mk]
          have : List.take ((s.drop i).length - 0) (List.drop 0 (s.drop i)) = s.drop i := by rw [List.drop_zero, Nat.sub_zero, List.take_length]
          exact congrArg (fun l => (⟨⟨l⟩⟩ : ByteArray)) this
        rw [e]
        unfold Lib.decodeGoB
        have hs2 : (ByteArray.mk ⟨s.drop i⟩).size = (s.drop i).length := rfl
        rw [if_neg (by rw [hs2]; omega)]
        have := Lib.decode_width_pos ⟨⟨s.drop i⟩⟩ 0 (by rw [hs2]; exact hpos)
        omega
      · omega
    unfold Lib.trimRightF at h
    rw [ext_mk] at h
    have h2 : (List.take (Lib.rightEndF figP ⟨⟨s.drop i⟩⟩ - 0) (List.drop 0 (s.drop i))) = [] := h
    rw [List.drop_zero, Nat.sub_zero, List.take_eq_nil_iff] at h2
    rcases h2 with h2 | h2
    · omega
    · rw [h2] at hpos; simp at hpos
end Go.Eng
