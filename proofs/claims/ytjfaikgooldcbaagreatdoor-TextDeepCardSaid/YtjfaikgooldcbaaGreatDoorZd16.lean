/-

-/
import Derived.Test.YtjfaikgooldcbaaGreatDoorZd4
import Derived.Laws.BitsLemmas
import Derived.Test.YtjfaikgooldcbaaGreatDoorZd3
import Derived.Test.YtjfaikgooldcbaaGreatDoorProg
import Derived.Test.YtjfaikgooldcbaaGreatDoorZd14
import Derived.Test.YtjfaikgooldcbaaGreatDoorZd15
import Derived.Test.YtjfaikgooldcbaaGreatDoorZd5
set_option linter.unusedVariables false
set_option linter.unusedSimpArgs false
namespace Go.Proofs.YtjfaikgooldcbaaGreatDoor
open Go.Eng

/- (*loupe/text.parser).object -/
set_option maxRecDepth 100000 in
theorem objectp_c {w wv : World} {M0 M : Mem} {Rs : List HO} (s : Str) (i d : Int) (pb : Nat) (Fu : Nat) (hS : St w M0 wv M (.box pb [(str s), (i64 i)] 55 :: Rs)) (h0 : 0 ≤ i) (h1 : i < len s) (hb : len s ≤ 1099511627776) (hg : Gl w) (hd : 0 ≤ d ∧ d ≤ 900) (hf : 2 * (len s - i) ≤ Fu) (hval : ∀ f, f < Fu → ValOK w M0 s pb f) :
  Calls Tryz.prog 46 [(.pointer (some ⟨pb, 0, none⟩)), (i64 d)].toArray wv fun e w' => PPost w M0 M Rs 51 (fun x j v M' w' => ∃ a c, v = .slice a x.length c ∧ i + 1 ≤ j ∧ j ≤ len s ∧ len x ≤ j - i ∧ Sl M' 6 x.length (.slice a x.length c) (x.flatMap Nd.cells) ∧ St w M0 w' M' (.box pb [str s, i64 j] 55 :: Rs)) (mapR objV (partsT s i [125] [] (pairsT Fu s d))) e w' := by
 refine CW.enter1 Tryz.func46 rfl Tryz.ntmps46 (Nat.le_of_ble_eq_true rfl) fun Q hE => ?_
 refine CW.weaken [0, 1] (L' := [Y 0 (.pointer (some ⟨pb, 0, none⟩)), Y 1 (i64 d)]) ?_ rfl
 refine CW.sr ?_
 refine RL.box (v := (.pointer (some ⟨pb, 0, none⟩))) hS (.t rfl) rfl (fun w1 b2 hS3 => ?_)
 refine RL.box (v := (i64 d)) hS3 (.t rfl) rfl (fun w4 b5 hS6 => ?_)
 have hS7 := hS6.ownNil 38 6
 replace hS7 : St w M0 w4 M (.own 38 6 (.slice none 0 0) (([] : List Nd)).length ((([] : List Nd)).flatMap Nd.cells) :: .box b5 [(i64 d)] 3 :: .box b2 [(.pointer (some ⟨pb, 0, none⟩))] 53 :: .box pb [(str s), (i64 i)] 55 :: Rs) := hS7
 refine RL.u (.assign .c) rfl ?_
 refine RL.nil (CW.id ?_)
 refine CW.sr ?_
 refine RL.smakeMap hS7 rfl (fun w8 b9 hS10 => ?_)
 replace hS10 : St w M0 w8 M (.raw b9 (smobj [] 0) :: .own 38 6 (.slice none 0 0) (([] : List Nd)).length ((([] : List Nd)).flatMap Nd.cells) :: .box b5 [(i64 d)] 3 :: .box b2 [(.pointer (some ⟨pb, 0, none⟩))] 53 :: .box pb [(str s), (i64 i)] 55 :: Rs) := hS10
 refine RL.alloc hS10 Tryz.zeroValue106 rfl (fun w11 b12 hS13 => ?_)
 refine RL.st hS13 (i := 0) rfl (.t rfl) (.t rfl) Tryz.sizeOf106 rfl rfl rfl rfl rfl (fun w14 hS15 => ?_)
 refine RL.nil (CW.id ?_)
 refine CW.sr ?_
 refine RL.u (.loadB1 (v := (.pointer (some ⟨pb, 0, none⟩))) hS15 extEq (i := 4) rfl (.t rfl) Tryz.isAgg53 rfl) rfl (RL.u (.makeFunc .nil (.cons (.t rfl) (.cons (.t rfl) (.cons (.t rfl) .nil)))) rfl ?_)
 replace hS15 : St w M0 w14 M (.raw b9 (smobj [] 0) :: .box b12 [(.map (some b9))] 106 :: .own 38 6 (.slice none 0 0) (([] : List Nd)).length ((([] : List Nd)).flatMap Nd.cells) :: .box b5 [(i64 d)] 3 :: .box b2 [(.pointer (some ⟨pb, 0, none⟩))] 53 :: .box pb [(str s), (i64 i)] 55 :: Rs) := hS15.front 1 rfl rfl
 replace hS15 : St w M0 w14 M (.box b12 [(.map (some b9))] 106 :: .raw b9 (smobj [] 0) :: .own 38 6 (.slice none 0 0) (([] : List Nd)).length ((([] : List Nd)).flatMap Nd.cells) :: .box b5 [(i64 d)] 3 :: .box b2 [(.pointer (some ⟨pb, 0, none⟩))] 53 :: .box pb [(str s), (i64 i)] 55 :: Rs) := hS15.front 1 rfl rfl
 replace hS15 : St w M0 w14 M (.box b5 [(i64 d)] 3 :: .box b12 [(.map (some b9))] 106 :: .raw b9 (smobj [] 0) :: .own 38 6 (.slice none 0 0) (([] : List Nd)).length ((([] : List Nd)).flatMap Nd.cells) :: .box b2 [(.pointer (some ⟨pb, 0, none⟩))] 53 :: .box pb [(str s), (i64 i)] 55 :: Rs) := hS15.front 3 rfl rfl
 replace hS15 : St w M0 w14 M (.box b2 [(.pointer (some ⟨pb, 0, none⟩))] 53 :: .box b5 [(i64 d)] 3 :: .box b12 [(.map (some b9))] 106 :: .raw b9 (smobj [] 0) :: .own 38 6 (.slice none 0 0) (([] : List Nd)).length ((([] : List Nd)).flatMap Nd.cells) :: .box pb [(str s), (i64 i)] 55 :: Rs) := hS15.front 4 rfl rfl
 replace hS15 : St w M0 w14 M (.box pb [(str s), (i64 i)] 55 :: .box b2 [(.pointer (some ⟨pb, 0, none⟩))] 53 :: .box b5 [(i64 d)] 3 :: .box b12 [(.map (some b9))] 106 :: .raw b9 (smobj [] 0) :: .own 38 6 (.slice none 0 0) (([] : List Nd)).length ((([] : List Nd)).flatMap Nd.cells) :: Rs) := hS15.front 5 rfl rfl
 refine RL.callR Tryz.call72 (.cons (.t rfl) (.cons .c (.cons (.t rfl) .nil))) (obj_parts (Rs := (.own 38 6 (.slice none 0 0) (([] : List Nd)).length ((([] : List Nd)).flatMap Nd.cells) :: Rs)) s i d pb b2 b5 b12 b9 Fu hS15 h0 h1 hb hg hd hf hval) rfl (fun ec p M25 w26 hr29 hS27 hle28 => ?_) (fun x16 j17 v18 M20 w19 hr21 hF24 hle23 => ?_)
 ·replace hS27 := hS27.drop Rs (List.sublist_append_right [_] _)
  exact hE.p (PPost.er (show mapR _ _ = _ from by rw [hr29]; rfl) hS27 hle28)
 obtain ⟨hF24a, hF24b, ⟨hF24c, hF24d⟩, hk, hut, l2, c2, hmap, hbo, hS22⟩ := hF24
 refine RL.nil (CW.at [Y 5 (.pointer (some ⟨b12, 0, none⟩))] rfl ?_)
 refine CW.sr ?_
 have hS30 := hS22.ownNil 9 1
 replace hS30 : St w M0 w19 M20 (.own 9 1 (.slice none 0 0) (([] : List Str)).length ((([] : List Str)).flatMap strC) :: .box pb [(str s), (i64 j17)] 55 :: .box b2 [(.pointer (some ⟨pb, 0, none⟩))] 53 :: .box b5 [(i64 d)] 3 :: .box b12 [(.map (some b9))] 106 :: .raw b9 (smobj l2 c2) :: .own 38 6 (.slice none 0 0) (([] : List Nd)).length ((([] : List Nd)).flatMap Nd.cells) :: Rs) := hS30
 refine RL.u (.assign .c) rfl ?_
 refine RL.nil (CW.id ?_)
 refine CW.sr ?_
 have hS31 := hS30.ownNil 24 1
 replace hS31 : St w M0 w19 M20 (.own 24 1 (.slice none 0 0) (([] : List SlH)).length ((([] : List SlH)).flatMap valI) :: .own 9 1 (.slice none 0 0) (([] : List Str)).length ((([] : List Str)).flatMap strC) :: .box pb [(str s), (i64 j17)] 55 :: .box b2 [(.pointer (some ⟨pb, 0, none⟩))] 53 :: .box b5 [(i64 d)] 3 :: .box b12 [(.map (some b9))] 106 :: .raw b9 (smobj l2 c2) :: .own 38 6 (.slice none 0 0) (([] : List Nd)).length ((([] : List Nd)).flatMap Nd.cells) :: Rs) := hS31
 refine RL.u (.assign .c) rfl ?_
 refine RL.nil (CW.id ?_)
 refine CW.seq ?_
 refine CW.sr ?_
 refine RL.u (.loadB1 (v := (.map (some b9))) hS31 extEq (i := 5) rfl (.t rfl) Tryz.isAgg106 rfl) rfl ?_
 refine RL.srangeM hS31 (i := 6) rfl (.t rfl) Tryz.underlying106 rfl (fun w32 b33 hS34 => ?_)
 replace hS34 : St w M0 w32 M20 (.raw b33 (.mapIter (some b9) c2 #[] c2) :: .own 24 1 (.slice none 0 0) (([] : List SlH)).length ((([] : List SlH)).flatMap valI) :: .own 9 1 (.slice none 0 0) (([] : List Str)).length ((([] : List Str)).flatMap strC) :: .box pb [(str s), (i64 j17)] 55 :: .box b2 [(.pointer (some ⟨pb, 0, none⟩))] 53 :: .box b5 [(i64 d)] 3 :: .box b12 [(.map (some b9))] 106 :: .raw b9 (smobj l2 c2) :: .own 38 6 (.slice none 0 0) (([] : List Nd)).length ((([] : List Nd)).flatMap Nd.cells) :: Rs) := hS34
 refine RL.nil (CW.id ?_)
 refine CW.block ?_
 refine CW.loop (σ := List Str × List Vl × Value × Value × List SlH × Array Nat × Mem) (fun (ns, xs, v6, v7, rs, sn, Ml) => [Y 6 v6, Y 7 v7, Y 17 (.pointer (some ⟨b33, 0, none⟩))]) (fun (ns, xs, v6, v7, rs, sn, Ml) wl => St w M0 wl Ml (.raw b33 (.mapIter (some b9) c2 sn c2) :: .own 24 1 v7 rs.length (rs.flatMap valI) :: .own 9 1 v6 ns.length (ns.flatMap strC) :: .box pb [(str s), (i64 j17)] 55 :: .box b2 [(.pointer (some ⟨pb, 0, none⟩))] 53 :: .box b5 [(i64 d)] 3 :: .box b12 [(.map (some b9))] 106 :: .raw b9 (smobj l2 c2) :: .own 38 6 (.slice none 0 0) (([] : List Nd)).length ((([] : List Nd)).flatMap Nd.cells) :: Rs) ∧ MapV Ml l2 x16 ∧ VisS l2 x16 sn ns xs ∧ RowsV Ml 6 Nd.cells rs xs ∧ M.le Ml) (fun (ns, xs, v6, v7, rs, sn, Ml) => x16.length - ns.length) (([], [], .slice none 0 0, .slice none 0 0, ([] : List SlH), #[], M20)) [6, 7, 17] rfl ?_ ?_
 ·refine ⟨hS34, hmap, ?_⟩; exact ⟨VisS.start _ _, trivial, hle23⟩
 ·rintro ⟨ns, xs, v6, v7, rs, sn, Ml⟩ wl ⟨hS35, hmap, hvs, hro, hle0⟩
  have hvn : len ns ≤ 1099511627776 := by have := hvs.le (M := Ml); unfold len at *; omega
  have hrn : len rs = len ns := by unfold len; rw [hro.len, hvs.eq]
  refine CW.sr ?_
  refine RL.snextM hS35 (i := 7) (j := 0) rfl rfl (.t rfl) hbo.1 (Nat.le_refl _) rfl (fun p38 hp39 hns40 w36 hS37 => ?_) (fun hall => ?_)
  ·obtain ⟨pk41, ph42, pb43, px44, rfl, hm45, hsl46⟩ := hmap.mem hp39
   replace hS37 : St w M0 w36 Ml (.raw b33 (.mapIter (some b9) c2 (sn.push pb43) c2) :: .own 24 1 v7 rs.length (rs.flatMap valI) :: .own 9 1 v6 ns.length (ns.flatMap strC) :: .box pb [(str s), (i64 j17)] 55 :: .box b2 [(.pointer (some ⟨pb, 0, none⟩))] 53 :: .box b5 [(i64 d)] 3 :: .box b12 [(.map (some b9))] 106 :: .raw b9 (smobj l2 c2) :: .own 38 6 (.slice none 0 0) (([] : List Nd)).length ((([] : List Nd)).flatMap Nd.cells) :: Rs) := hS37
   refine RL.u (.ex (.t rfl) rfl) rfl ?_
   refine RL.nil (CW.id ?_)
   refine CW.seq ?_
   refine CW.cond rfl (fun _ => ?_) (fun h => by cases h)
   refine CW.skip (CW.id ?_)
   refine CW.block ?_
   refine CW.sr ?_
   refine RL.u (.sentry hS37 extEq (i := 7) (j := 0) rfl rfl (.t rfl) hp39 hbo.2) rfl (RL.u (.ex (.t rfl) rfl) rfl (RL.u (.ex (.t rfl) rfl) rfl (RL.a rfl rfl (RL.a rfl rfl ?_))))
   refine RL.nil (CW.id ?_)
   refine CW.region ?_
   refine RL.m rfl rfl (RL.m rfl rfl ?_)
   refine RL.buildSlice (n := 1) (sz := 1) (e := 9) (vs := [(0, (str pk41))]) (cs := [(str pk41)]) hS37 (.cons (.t rfl) .nil) rfl rfl (fun w => by kernel_rfl) rfl (fun v47 w48 M49 hS50 hle51 => ?_)
   replace hS50 : St w M0 w48 M49 (.own 9 1 v47 (([pk41] : List Str)).length ((([pk41] : List Str)).flatMap strC) :: .raw b33 (.mapIter (some b9) c2 (sn.push pb43) c2) :: .own 24 1 v7 rs.length (rs.flatMap valI) :: .own 9 1 v6 ns.length (ns.flatMap strC) :: .box pb [(str s), (i64 j17)] 55 :: .box b2 [(.pointer (some ⟨pb, 0, none⟩))] 53 :: .box b5 [(i64 d)] 3 :: .box b12 [(.map (some b9))] 106 :: .raw b9 (smobj l2 c2) :: .own 38 6 (.slice none 0 0) (([] : List Nd)).length ((([] : List Nd)).flatMap Nd.cells) :: Rs) := hS50
   replace hmap := hmap.mono hle51
   replace hsl46 := hsl46.mono hle51
   refine RL.append1 (f := strC) (l := ns) (y := pk41) hS50 (k := 3) rfl (.t rfl) (.t rfl) (hS50.sl (i := 0) rfl) Tryz.underlying46 Tryz.type9 rfl rfl rfl strC_one (by' := 16) rfl rfl (by omega) rfl (Hs' := fun v' => (.own 9 1 v47 (([pk41] : List Str)).length ((([pk41] : List Str)).flatMap strC) :: .raw b33 (.mapIter (some b9) c2 (sn.push pb43) c2) :: .own 24 1 v7 rs.length (rs.flatMap valI) :: .own 9 1 v' (ns ++ [pk41]).length ((ns ++ [pk41]).flatMap strC) :: .box pb [(str s), (i64 j17)] 55 :: .box b2 [(.pointer (some ⟨pb, 0, none⟩))] 53 :: .box b5 [(i64 d)] 3 :: .box b12 [(.map (some b9))] 106 :: .raw b9 (smobj l2 c2) :: .own 38 6 (.slice none 0 0) (([] : List Nd)).length ((([] : List Nd)).flatMap Nd.cells) :: Rs)) (fun _ => rfl) (fun v52 w53 M54 hS55 hle56 => ?_)
   replace hS55 := hS55.erase 0 rfl
   replace hmap := hmap.mono hle56
   replace hsl46 := hsl46.mono hle56
   refine RL.m rfl rfl (RL.m rfl rfl ?_)
   refine RL.buildSlice (n := 1) (sz := 1) (e := 24) (vs := [(0, ph42.v)]) (cs := [ph42.v]) hS55 (.cons (.t rfl) .nil) rfl rfl (fun w => by kernel_rfl) rfl (fun v57 w58 M59 hS60 hle61 => ?_)
   replace hS60 : St w M0 w58 M59 (.own 24 1 v57 (([ph42] : List SlH)).length ((([ph42] : List SlH)).flatMap valI) :: .raw b33 (.mapIter (some b9) c2 (sn.push pb43) c2) :: .own 24 1 v7 rs.length (rs.flatMap valI) :: .own 9 1 v52 (ns ++ [pk41]).length ((ns ++ [pk41]).flatMap strC) :: .box pb [(str s), (i64 j17)] 55 :: .box b2 [(.pointer (some ⟨pb, 0, none⟩))] 53 :: .box b5 [(i64 d)] 3 :: .box b12 [(.map (some b9))] 106 :: .raw b9 (smobj l2 c2) :: .own 38 6 (.slice none 0 0) (([] : List Nd)).length ((([] : List Nd)).flatMap Nd.cells) :: Rs) := hS60
   replace hmap := hmap.mono hle61
   replace hsl46 := hsl46.mono hle61
   refine RL.append1 (f := valI) (l := rs) (y := ph42) hS60 (k := 2) rfl (.t rfl) (.t rfl) (hS60.sl (i := 0) rfl) Tryz.underlying47 Tryz.type24 rfl rfl rfl valI_one (by' := 24) rfl rfl (by omega) rfl (Hs' := fun v' => (.own 24 1 v57 (([ph42] : List SlH)).length ((([ph42] : List SlH)).flatMap valI) :: .raw b33 (.mapIter (some b9) c2 (sn.push pb43) c2) :: .own 24 1 v' (rs ++ [ph42]).length ((rs ++ [ph42]).flatMap valI) :: .own 9 1 v52 (ns ++ [pk41]).length ((ns ++ [pk41]).flatMap strC) :: .box pb [(str s), (i64 j17)] 55 :: .box b2 [(.pointer (some ⟨pb, 0, none⟩))] 53 :: .box b5 [(i64 d)] 3 :: .box b12 [(.map (some b9))] 106 :: .raw b9 (smobj l2 c2) :: .own 38 6 (.slice none 0 0) (([] : List Nd)).length ((([] : List Nd)).flatMap Nd.cells) :: Rs)) (fun _ => rfl) (fun v62 w63 M64 hS65 hle66 => ?_)
   replace hS65 := hS65.erase 0 rfl
   replace hmap := hmap.mono hle66
   replace hsl46 := hsl46.mono hle66
   refine RL.a rfl rfl (RL.a rfl rfl ?_)
   refine RL.nil fun a hs => Exists.intro ((ns ++ [pk41], xs ++ [px44], v52, v62, rs ++ [ph42], sn.push pb43, M64)) ⟨hs.keep [6, 7, 17], ?_, ?_⟩
   ·refine ⟨hS65, hmap, ?_⟩
    exact ⟨hvs.step hmap hk hp39 hns40 hm45, RowsV.snoc hsl46 (hro.mono ((((hle51.trans hle56).trans hle61).trans hle66))), ((((hle0.trans hle51).trans hle56).trans hle61).trans hle66)⟩
   ·have hvl := (hvs.step hmap hk hp39 hns40 hm45).le (M := Ml); simp only [List.length_append, List.length_cons, List.length_nil] at *; omega
  ·obtain ⟨hal1, hal2, hal3, hal4, hal5, hal6, hal7, hal8⟩ := hvs.all hmap hk hut hbo hall
   refine RL.u (.ex (.t rfl) rfl) rfl ?_
   refine RL.nil (CW.id ?_)
   refine CW.seq ?_
   refine CW.cond rfl (fun h => by cases h) (fun _ => ?_)
   refine CW.exit (CW.at [Y 6 v6, Y 7 v7] rfl ?_)
   refine CW.sr ?_
   refine RL.m rfl rfl (RL.m rfl rfl ?_)
   refine RL.callP Tryz.call76 (.cons (.t rfl) (.cons (.t rfl) .nil)) (vobject_c (Rs := (.raw b33 (.mapIter (some b9) c2 sn c2) :: .own 24 1 v7 rs.length (rs.flatMap valI) :: .own 9 1 v6 ns.length (ns.flatMap strC) :: .box pb [(str s), (i64 j17)] 55 :: .box b2 [(.pointer (some ⟨pb, 0, none⟩))] 53 :: .box b5 [(i64 d)] 3 :: .box b12 [(.map (some b9))] 106 :: .raw b9 (smobj l2 c2) :: .own 38 6 (.slice none 0 0) (([] : List Nd)).length ((([] : List Nd)).flatMap Nd.cells) :: Rs)) ns rs xs v6 v7 hS35 (hS35.sl (i := 2) rfl) (hS35.sl (i := 1) rfl) hro (by omega) hg hal3 hal4 hal5 (by omega) hal6 (by omega)) rfl ?_
   rintro v69 w70 ⟨a67, c68, M71, rfl, hsl_o, hS72, hle73⟩
   replace hS72 : St w M0 w70 M71 (.raw b33 (.mapIter (some b9) c2 sn c2) :: .own 24 1 v7 rs.length (rs.flatMap valI) :: .own 9 1 v6 ns.length (ns.flatMap strC) :: .box pb [(str s), (i64 j17)] 55 :: .box b2 [(.pointer (some ⟨pb, 0, none⟩))] 53 :: .box b5 [(i64 d)] 3 :: .box b12 [(.map (some b9))] 106 :: .raw b9 (smobj l2 c2) :: .own 38 6 (.slice none 0 0) (([] : List Nd)).length ((([] : List Nd)).flatMap Nd.cells) :: Rs) := hS72
   replace hmap := hmap.mono hle73
   refine RL.m rfl rfl (RL.u (.ex (.t rfl) rfl) rfl (RL.u (.ex (.t rfl) rfl) rfl (RL.a rfl rfl (RL.a rfl rfl ?_))))
   refine RL.nil (CW.at [Y 10 (.slice a67 (objV (ns.zip xs)).length c68)] rfl ?_)
   refine CW.sr ?_
   refine RL.m rfl rfl (RL.a rfl rfl ?_)
   refine RL.nil (CW.id ?_)
   refine CW.ret (hE.r1 rfl rfl ?_)
   have hslr := hsl_o
   replace hS72 : St w M0 w70 M71 (.raw b33 (.mapIter (some b9) c2 sn c2) :: .own 24 1 v7 rs.length (rs.flatMap valI) :: .own 9 1 v6 ns.length (ns.flatMap strC) :: .box pb [(str s), (i64 j17)] 55 :: .box b2 [(.pointer (some ⟨pb, 0, none⟩))] 53 :: .box b5 [(i64 d)] 3 :: .box b12 [((.map (some b9)))] 106 :: .raw b9 (smobj l2 c2) :: Rs) := hS72.erase 8 rfl
   replace hS72 : St w M0 w70 M71 (.raw b33 (.mapIter (some b9) c2 sn c2) :: .own 24 1 v7 rs.length (rs.flatMap valI) :: .own 9 1 v6 ns.length (ns.flatMap strC) :: .box pb [(str s), (i64 j17)] 55 :: .box b2 [(.pointer (some ⟨pb, 0, none⟩))] 53 :: .box b5 [(i64 d)] 3 :: .box b12 [((.map (some b9)))] 106 :: Rs) := hS72.erase 7 rfl
   replace hS72 : St w M0 w70 M71 (.raw b33 (.mapIter (some b9) c2 sn c2) :: .own 24 1 v7 rs.length (rs.flatMap valI) :: .own 9 1 v6 ns.length (ns.flatMap strC) :: .box pb [(str s), (i64 j17)] 55 :: .box b2 [(.pointer (some ⟨pb, 0, none⟩))] 53 :: .box b5 [(i64 d)] 3 :: Rs) := hS72.erase 6 rfl
   replace hS72 : St w M0 w70 M71 (.raw b33 (.mapIter (some b9) c2 sn c2) :: .own 24 1 v7 rs.length (rs.flatMap valI) :: .own 9 1 v6 ns.length (ns.flatMap strC) :: .box pb [(str s), (i64 j17)] 55 :: .box b2 [(.pointer (some ⟨pb, 0, none⟩))] 53 :: Rs) := hS72.erase 5 rfl
   replace hS72 : St w M0 w70 M71 (.raw b33 (.mapIter (some b9) c2 sn c2) :: .own 24 1 v7 rs.length (rs.flatMap valI) :: .own 9 1 v6 ns.length (ns.flatMap strC) :: .box pb [(str s), (i64 j17)] 55 :: Rs) := hS72.erase 4 rfl
   replace hS72 : St w M0 w70 M71 (.raw b33 (.mapIter (some b9) c2 sn c2) :: .own 24 1 v7 rs.length (rs.flatMap valI) :: .box pb [(str s), (i64 j17)] 55 :: Rs) := hS72.erase 2 rfl
   replace hS72 : St w M0 w70 M71 (.raw b33 (.mapIter (some b9) c2 sn c2) :: .box pb [(str s), (i64 j17)] 55 :: Rs) := hS72.erase 1 rfl
   replace hS72 : St w M0 w70 M71 (.box pb [(str s), (i64 j17)] 55 :: Rs) := hS72.erase 0 rfl
   have hole := objV_le hk
   rw [hal8] at hslr
   exact PPost.ok (show mapR _ _ = _ from by rw [hr21]; rfl) ⟨_, _, by rw [hal8], by omega, by omega, by omega, hslr, hS72⟩ (hle0.trans hle73)

end Go.Proofs.YtjfaikgooldcbaaGreatDoor
namespace Go.Proofs.YtjfaikgooldcbaaGreatDoor
open Go.Eng

theorem obj_ok {w : World} {M0 : Mem} (s : Str) (pb Fu : Nat) (hg : Gl w) (hb : len s ≤ 1099511627776) (hval : ∀ f, f < Fu → ValOK w M0 s pb f) : ObjOK w M0 s pb Fu :=
  fun i d hS h0 h1 hd hf => objectp_c s i d pb Fu hS h0 h1 hb hg hd hf hval
/-- value, at every fuel. -/
theorem val_all {w : World} {M0 : Mem} (s : Str) (pb : Nat) (hg : Gl w) (hb : len s ≤ 1099511627776) : ∀ f, ValOK w M0 s pb f := by
  intro f
  induction f using Nat.strongRecOn with
  | _ f ih =>
    cases f with
    | zero => intro Rs wv M i d hS h0 h1 hd0 hd1 hf; omega
    | succ f =>
      intro Rs wv M i d hS h0 h1 hd0 hd1 hf
      exact value_c s i d pb f hS h0 h1 hb hg ⟨hd0, hd1⟩ (by omega) (fun f2 h => ih f2 (by omega)) (obj_ok s pb f hg hb fun f2 h => ih f2 (by omega))
end Go.Proofs.YtjfaikgooldcbaaGreatDoor
namespace Go.Proofs.YtjfaikgooldcbaaGreatDoor
open Go.Eng

set_option maxRecDepth 100000 in
theorem pdefer_ret {w wv : World} {M0 M : Mem} {Rs : List HO} (bx by_ bz : Nat) (x y z : Value) (hS : St w M0 wv M (.box bx [x] 24 :: .box by_ [y] 3 :: .box bz [z] 25 :: Rs)) :
  CallsD Tryz.prog 25 [.pointer (some ⟨bx, 0, none⟩), .pointer (some ⟨by_, 0, none⟩), .pointer (some ⟨bz, 0, none⟩)].toArray (.returning) wv (fun e u' w' => e = .returned (.tuple #[]) ∧ u' = (recMode (.returning)).2 ∧ St w M0 w' M (.box bx [x] 24 :: .box by_ [y] 3 :: .box bz [z] 25 :: Rs)) := by
 refine enterS (S := fun w' => St w M0 w' M (.box bx [x] 24 :: .box by_ [y] 3 :: .box bz [z] 25 :: Rs)) Tryz.func25 rfl Tryz.ntmps25 (Nat.le_of_ble_eq_true rfl) rfl rfl rfl rfl (fun a w => rfl) fun K Q hK hQ => ?_
 have hend : ∀ {L : Env} {w' : World}, St w M0 w' M (.box bx [x] 24 :: .box by_ [y] 3 :: .box bz [z] 25 :: Rs) → ∀ a, Slots a 15 L → Q .normal a w' := fun h a hs => hQ a _ hs.dfr h
 refine RL.u (.assertsNo (.t rfl) Tryz.underlying51 Tryz.zeroValue51) rfl (RL.m rfl rfl (RL.u (.ex (.t rfl) rfl) rfl (RL.u (.ex (.t rfl) rfl) rfl ?_)))
 refine RL.alloc hS Tryz.zeroValue51 rfl (fun w1 b2 hS3 => ?_)
 refine RL.st hS3 (i := 0) rfl (.t rfl) (.t rfl) Tryz.sizeOf51 rfl rfl rfl rfl rfl (fun w4 hS5 => ?_)
 refine RL.a rfl rfl ?_
 refine RL.nil fun a hs => hK a _ (CW.id ?_ a hs)
 refine CW.sr ?_
 refine RL.m rfl rfl ?_
 refine RL.nil (CW.id ?_)
 refine CW.cond rfl (fun h => by cases h) (fun _ => ?_)
 replace hS5 : St w M0 w4 M (.box bx [x] 24 :: .box by_ [y] 3 :: .box bz [z] 25 :: Rs) := hS5.erase 0 rfl
 refine CW.skip (hend ?_)
 exact hS5

set_option maxRecDepth 100000 in
theorem pdefer_pan {w wv : World} {M0 M : Mem} {Rs : List HO} (ec p : Int) (bx by_ bz : Nat) (x y z : Value) (hS : St w M0 wv M (.box bx [x] 24 :: .box by_ [y] 3 :: .box bz [z] 25 :: Rs)) :
  CallsD Tryz.prog 25 [.pointer (some ⟨bx, 0, none⟩), .pointer (some ⟨by_, 0, none⟩), .pointer (some ⟨bz, 0, none⟩)].toArray (.panicking [wrongE 51 ec p]) wv (fun e u' w' => e = .returned (.tuple #[]) ∧ u' = (recMode (.panicking [wrongE 51 ec p])).2 ∧ St w M0 w' M (.box bx [.slice none 0 0] 24 :: .box by_ [i64 p] 3 :: .box bz [i64 ec] 25 :: Rs)) := by
 refine enterS (S := fun w' => St w M0 w' M (.box bx [.slice none 0 0] 24 :: .box by_ [i64 p] 3 :: .box bz [i64 ec] 25 :: Rs)) Tryz.func25 rfl Tryz.ntmps25 (Nat.le_of_ble_eq_true rfl) rfl rfl rfl rfl (fun a w => rfl) fun K Q hK hQ => ?_
 have hend : ∀ {L : Env} {w' : World}, St w M0 w' M (.box bx [.slice none 0 0] 24 :: .box by_ [i64 p] 3 :: .box bz [i64 ec] 25 :: Rs) → ∀ a, Slots a 15 L → Q .normal a w' := fun h a hs => hQ a _ hs.dfr h
 refine RL.u (.asserts (.t rfl) Tryz.underlying51) rfl (RL.m rfl rfl (RL.u (.ex (.t rfl) rfl) rfl (RL.u (.ex (.t rfl) rfl) rfl ?_)))
 refine RL.alloc hS Tryz.zeroValue51 rfl (fun w1 b2 hS3 => ?_)
 refine RL.st hS3 (i := 0) rfl (.t rfl) (.t rfl) Tryz.sizeOf51 rfl rfl rfl rfl rfl (fun w4 hS5 => ?_)
 refine RL.a rfl rfl ?_
 refine RL.nil fun a hs => hK a _ (CW.id ?_ a hs)
 refine CW.sr ?_
 refine RL.m rfl rfl ?_
 refine RL.nil (CW.id ?_)
 refine CW.cond rfl (fun _ => ?_) (fun h => by cases h)
 refine CW.regionA hS5 tryz_mixed (fun w6 hS7 => ?_)
 refine RA.three (i := 0) (j := 2) (k := 4) (by decide +kernel) ?_ ?_ ?_
 ·skip
  refine RL.u (.fldA (q := ⟨b2, 1, none⟩) (.t rfl) (fun w => by kernel_rfl)) rfl ?_
  refine RL.nil (RA.next ?_)
  refine RA.three (i := 1) (j := 2) (k := 4) (by decide +kernel) ?_ ?_ ?_
  ·skip
   refine RL.u (.loadB1 (v := (i64 p)) hS7 extEq (i := 0) rfl (.t rfl) Tryz.isAgg3 rfl) rfl ?_
   refine RL.nil (RA.next ?_)
   refine RA.two (i := 2) (j := 4) (by decide +kernel) ?_ ?_
   ·skip
    refine RL.u (.fldA (q := ⟨b2, 0, none⟩) (.t rfl) (fun w => by kernel_rfl)) rfl ?_
    refine RL.nil (RA.next ?_)
    refine RA.two (i := 3) (j := 4) (by decide +kernel) ?_ ?_
    ·skip
     refine RL.u (.loadB1 (v := (i64 ec)) hS7 extEq (i := 0) rfl (.t rfl) Tryz.isAgg25 rfl) rfl ?_
     refine RL.nil (RA.next ?_)
     refine RA.one (i := 4) (by decide +kernel) ?_
     skip
     refine RL.st (v := (.slice none 0 0)) hS7 (i := 1) rfl (.t rfl) .c Tryz.sizeOf24 rfl rfl rfl rfl rfl (fun w8 hS9 => ?_)
     refine RL.nil (RA.next ?_)
     refine RA.one (i := 5) (by decide +kernel) ?_
     skip
     refine RL.st hS9 (i := 2) rfl (.t rfl) (.t rfl) Tryz.sizeOf3 rfl rfl rfl rfl rfl (fun w10 hS11 => ?_)
     refine RL.nil (RA.next ?_)
     refine RA.one (i := 6) (by decide +kernel) ?_
     skip
     refine RL.st hS11 (i := 3) rfl (.t rfl) (.t rfl) Tryz.sizeOf25 rfl rfl rfl rfl rfl (fun w12 hS13 => ?_)
     refine RL.nil (RA.next ?_)
     refine RA.nil (by decide +kernel) ?_
     replace hS13 : St w M0 w12 M (.box bx [(.slice none 0 0)] 24 :: .box by_ [(i64 p)] 3 :: .box bz [(i64 ec)] 25 :: Rs) := hS13.erase 0 rfl
     refine  (hend ?_)
     exact hS13
    ·skip
     refine RL.st (v := (.slice none 0 0)) hS7 (i := 1) rfl (.t rfl) .c Tryz.sizeOf24 rfl rfl rfl rfl rfl (fun w14 hS15 => ?_)
     refine RL.nil (RA.next ?_)
     refine RA.two (i := 3) (j := 5) (by decide +kernel) ?_ ?_
     ·skip
      refine RL.u (.loadB1 (v := (i64 ec)) hS15 extEq (i := 0) rfl (.t rfl) Tryz.isAgg25 rfl) rfl ?_
      refine RL.nil (RA.next ?_)
      refine RA.one (i := 5) (by decide +kernel) ?_
      skip
      refine RL.st hS15 (i := 2) rfl (.t rfl) (.t rfl) Tryz.sizeOf3 rfl rfl rfl rfl rfl (fun w16 hS17 => ?_)
      refine RL.nil (RA.next ?_)
      refine RA.one (i := 6) (by decide +kernel) ?_
      skip
      refine RL.st hS17 (i := 3) rfl (.t rfl) (.t rfl) Tryz.sizeOf25 rfl rfl rfl rfl rfl (fun w18 hS19 => ?_)
      refine RL.nil (RA.next ?_)
      refine RA.nil (by decide +kernel) ?_
      replace hS19 : St w M0 w18 M (.box bx [(.slice none 0 0)] 24 :: .box by_ [(i64 p)] 3 :: .box bz [(i64 ec)] 25 :: Rs) := hS19.erase 0 rfl
      refine  (hend ?_)
      exact hS19
     ·skip
      refine RL.st hS15 (i := 2) rfl (.t rfl) (.t rfl) Tryz.sizeOf3 rfl rfl rfl rfl rfl (fun w20 hS21 => ?_)
      refine RL.nil (RA.next ?_)
      refine RA.one (i := 3) (by decide +kernel) ?_
      skip
      refine RL.u (.loadB1 (v := (i64 ec)) hS21 extEq (i := 0) rfl (.t rfl) Tryz.isAgg25 rfl) rfl ?_
      refine RL.nil (RA.next ?_)
      refine RA.one (i := 6) (by decide +kernel) ?_
      skip
      refine RL.st hS21 (i := 3) rfl (.t rfl) (.t rfl) Tryz.sizeOf25 rfl rfl rfl rfl rfl (fun w22 hS23 => ?_)
      refine RL.nil (RA.next ?_)
      refine RA.nil (by decide +kernel) ?_
      replace hS23 : St w M0 w22 M (.box bx [(.slice none 0 0)] 24 :: .box by_ [(i64 p)] 3 :: .box bz [(i64 ec)] 25 :: Rs) := hS23.erase 0 rfl
      refine  (hend ?_)
      exact hS23
   ·skip
    refine RL.st (v := (.slice none 0 0)) hS7 (i := 1) rfl (.t rfl) .c Tryz.sizeOf24 rfl rfl rfl rfl rfl (fun w24 hS25 => ?_)
    refine RL.nil (RA.next ?_)
    refine RA.two (i := 2) (j := 5) (by decide +kernel) ?_ ?_
    ·skip
     refine RL.u (.fldA (q := ⟨b2, 0, none⟩) (.t rfl) (fun w => by kernel_rfl)) rfl ?_
     refine RL.nil (RA.next ?_)
     refine RA.two (i := 3) (j := 5) (by decide +kernel) ?_ ?_
     ·skip
      refine RL.u (.loadB1 (v := (i64 ec)) hS25 extEq (i := 0) rfl (.t rfl) Tryz.isAgg25 rfl) rfl ?_
      refine RL.nil (RA.next ?_)
      refine RA.one (i := 5) (by decide +kernel) ?_
      skip
      refine RL.st hS25 (i := 2) rfl (.t rfl) (.t rfl) Tryz.sizeOf3 rfl rfl rfl rfl rfl (fun w26 hS27 => ?_)
      refine RL.nil (RA.next ?_)
      refine RA.one (i := 6) (by decide +kernel) ?_
      skip
      refine RL.st hS27 (i := 3) rfl (.t rfl) (.t rfl) Tryz.sizeOf25 rfl rfl rfl rfl rfl (fun w28 hS29 => ?_)
      refine RL.nil (RA.next ?_)
      refine RA.nil (by decide +kernel) ?_
      replace hS29 : St w M0 w28 M (.box bx [(.slice none 0 0)] 24 :: .box by_ [(i64 p)] 3 :: .box bz [(i64 ec)] 25 :: Rs) := hS29.erase 0 rfl
      refine  (hend ?_)
      exact hS29
     ·skip
      refine RL.st hS25 (i := 2) rfl (.t rfl) (.t rfl) Tryz.sizeOf3 rfl rfl rfl rfl rfl (fun w30 hS31 => ?_)
      refine RL.nil (RA.next ?_)
      refine RA.one (i := 3) (by decide +kernel) ?_
      skip
      refine RL.u (.loadB1 (v := (i64 ec)) hS31 extEq (i := 0) rfl (.t rfl) Tryz.isAgg25 rfl) rfl ?_
      refine RL.nil (RA.next ?_)
      refine RA.one (i := 6) (by decide +kernel) ?_
      skip
      refine RL.st hS31 (i := 3) rfl (.t rfl) (.t rfl) Tryz.sizeOf25 rfl rfl rfl rfl rfl (fun w32 hS33 => ?_)
      refine RL.nil (RA.next ?_)
      refine RA.nil (by decide +kernel) ?_
      replace hS33 : St w M0 w32 M (.box bx [(.slice none 0 0)] 24 :: .box by_ [(i64 p)] 3 :: .box bz [(i64 ec)] 25 :: Rs) := hS33.erase 0 rfl
      refine  (hend ?_)
      exact hS33
    ·skip
     refine RL.st hS25 (i := 2) rfl (.t rfl) (.t rfl) Tryz.sizeOf3 rfl rfl rfl rfl rfl (fun w34 hS35 => ?_)
     refine RL.nil (RA.next ?_)
     refine RA.one (i := 2) (by decide +kernel) ?_
     skip
     refine RL.u (.fldA (q := ⟨b2, 0, none⟩) (.t rfl) (fun w => by kernel_rfl)) rfl ?_
     refine RL.nil (RA.next ?_)
     refine RA.one (i := 3) (by decide +kernel) ?_
     skip
     refine RL.u (.loadB1 (v := (i64 ec)) hS35 extEq (i := 0) rfl (.t rfl) Tryz.isAgg25 rfl) rfl ?_
     refine RL.nil (RA.next ?_)
     refine RA.one (i := 6) (by decide +kernel) ?_
     skip
     refine RL.st hS35 (i := 3) rfl (.t rfl) (.t rfl) Tryz.sizeOf25 rfl rfl rfl rfl rfl (fun w36 hS37 => ?_)
     refine RL.nil (RA.next ?_)
     refine RA.nil (by decide +kernel) ?_
     replace hS37 : St w M0 w36 M (.box bx [(.slice none 0 0)] 24 :: .box by_ [(i64 p)] 3 :: .box bz [(i64 ec)] 25 :: Rs) := hS37.erase 0 rfl
     refine  (hend ?_)
     exact hS37
  ·skip
   refine RL.u (.fldA (q := ⟨b2, 0, none⟩) (.t rfl) (fun w => by kernel_rfl)) rfl ?_
   refine RL.nil (RA.next ?_)
   refine RA.three (i := 1) (j := 3) (k := 4) (by decide +kernel) ?_ ?_ ?_
   ·skip
    refine RL.u (.loadB1 (v := (i64 p)) hS7 extEq (i := 0) rfl (.t rfl) Tryz.isAgg3 rfl) rfl ?_
    refine RL.nil (RA.next ?_)
    refine RA.two (i := 3) (j := 4) (by decide +kernel) ?_ ?_
    ·skip
     refine RL.u (.loadB1 (v := (i64 ec)) hS7 extEq (i := 0) rfl (.t rfl) Tryz.isAgg25 rfl) rfl ?_
     refine RL.nil (RA.next ?_)
     refine RA.one (i := 4) (by decide +kernel) ?_
     skip
     refine RL.st (v := (.slice none 0 0)) hS7 (i := 1) rfl (.t rfl) .c Tryz.sizeOf24 rfl rfl rfl rfl rfl (fun w38 hS39 => ?_)
     refine RL.nil (RA.next ?_)
     refine RA.one (i := 5) (by decide +kernel) ?_
     skip
     refine RL.st hS39 (i := 2) rfl (.t rfl) (.t rfl) Tryz.sizeOf3 rfl rfl rfl rfl rfl (fun w40 hS41 => ?_)
     refine RL.nil (RA.next ?_)
     refine RA.one (i := 6) (by decide +kernel) ?_
     skip
     refine RL.st hS41 (i := 3) rfl (.t rfl) (.t rfl) Tryz.sizeOf25 rfl rfl rfl rfl rfl (fun w42 hS43 => ?_)
     refine RL.nil (RA.next ?_)
     refine RA.nil (by decide +kernel) ?_
     replace hS43 : St w M0 w42 M (.box bx [(.slice none 0 0)] 24 :: .box by_ [(i64 p)] 3 :: .box bz [(i64 ec)] 25 :: Rs) := hS43.erase 0 rfl
     refine  (hend ?_)
     exact hS43
    ·skip
     refine RL.st (v := (.slice none 0 0)) hS7 (i := 1) rfl (.t rfl) .c Tryz.sizeOf24 rfl rfl rfl rfl rfl (fun w44 hS45 => ?_)
     refine RL.nil (RA.next ?_)
     refine RA.two (i := 3) (j := 5) (by decide +kernel) ?_ ?_
     ·skip
      refine RL.u (.loadB1 (v := (i64 ec)) hS45 extEq (i := 0) rfl (.t rfl) Tryz.isAgg25 rfl) rfl ?_
      refine RL.nil (RA.next ?_)
      refine RA.one (i := 5) (by decide +kernel) ?_
      skip
      refine RL.st hS45 (i := 2) rfl (.t rfl) (.t rfl) Tryz.sizeOf3 rfl rfl rfl rfl rfl (fun w46 hS47 => ?_)
      refine RL.nil (RA.next ?_)
      refine RA.one (i := 6) (by decide +kernel) ?_
      skip
      refine RL.st hS47 (i := 3) rfl (.t rfl) (.t rfl) Tryz.sizeOf25 rfl rfl rfl rfl rfl (fun w48 hS49 => ?_)
      refine RL.nil (RA.next ?_)
      refine RA.nil (by decide +kernel) ?_
      replace hS49 : St w M0 w48 M (.box bx [(.slice none 0 0)] 24 :: .box by_ [(i64 p)] 3 :: .box bz [(i64 ec)] 25 :: Rs) := hS49.erase 0 rfl
      refine  (hend ?_)
      exact hS49
     ·skip
      refine RL.st hS45 (i := 2) rfl (.t rfl) (.t rfl) Tryz.sizeOf3 rfl rfl rfl rfl rfl (fun w50 hS51 => ?_)
      refine RL.nil (RA.next ?_)
      refine RA.one (i := 3) (by decide +kernel) ?_
      skip
      refine RL.u (.loadB1 (v := (i64 ec)) hS51 extEq (i := 0) rfl (.t rfl) Tryz.isAgg25 rfl) rfl ?_
      refine RL.nil (RA.next ?_)
      refine RA.one (i := 6) (by decide +kernel) ?_
      skip
      refine RL.st hS51 (i := 3) rfl (.t rfl) (.t rfl) Tryz.sizeOf25 rfl rfl rfl rfl rfl (fun w52 hS53 => ?_)
      refine RL.nil (RA.next ?_)
      refine RA.nil (by decide +kernel) ?_
      replace hS53 : St w M0 w52 M (.box bx [(.slice none 0 0)] 24 :: .box by_ [(i64 p)] 3 :: .box bz [(i64 ec)] 25 :: Rs) := hS53.erase 0 rfl
      refine  (hend ?_)
      exact hS53
   ·skip
    refine RL.u (.loadB1 (v := (i64 ec)) hS7 extEq (i := 0) rfl (.t rfl) Tryz.isAgg25 rfl) rfl ?_
    refine RL.nil (RA.next ?_)
    refine RA.two (i := 1) (j := 4) (by decide +kernel) ?_ ?_
    ·skip
     refine RL.u (.loadB1 (v := (i64 p)) hS7 extEq (i := 0) rfl (.t rfl) Tryz.isAgg3 rfl) rfl ?_
     refine RL.nil (RA.next ?_)
     refine RA.one (i := 4) (by decide +kernel) ?_
     skip
     refine RL.st (v := (.slice none 0 0)) hS7 (i := 1) rfl (.t rfl) .c Tryz.sizeOf24 rfl rfl rfl rfl rfl (fun w54 hS55 => ?_)
     refine RL.nil (RA.next ?_)
     refine RA.one (i := 5) (by decide +kernel) ?_
     skip
     refine RL.st hS55 (i := 2) rfl (.t rfl) (.t rfl) Tryz.sizeOf3 rfl rfl rfl rfl rfl (fun w56 hS57 => ?_)
     refine RL.nil (RA.next ?_)
     refine RA.one (i := 6) (by decide +kernel) ?_
     skip
     refine RL.st hS57 (i := 3) rfl (.t rfl) (.t rfl) Tryz.sizeOf25 rfl rfl rfl rfl rfl (fun w58 hS59 => ?_)
     refine RL.nil (RA.next ?_)
     refine RA.nil (by decide +kernel) ?_
     replace hS59 : St w M0 w58 M (.box bx [(.slice none 0 0)] 24 :: .box by_ [(i64 p)] 3 :: .box bz [(i64 ec)] 25 :: Rs) := hS59.erase 0 rfl
     refine  (hend ?_)
     exact hS59
    ·skip
     refine RL.st (v := (.slice none 0 0)) hS7 (i := 1) rfl (.t rfl) .c Tryz.sizeOf24 rfl rfl rfl rfl rfl (fun w60 hS61 => ?_)
     refine RL.nil (RA.next ?_)
     refine RA.one (i := 1) (by decide +kernel) ?_
     skip
     refine RL.u (.loadB1 (v := (i64 p)) hS61 extEq (i := 0) rfl (.t rfl) Tryz.isAgg3 rfl) rfl ?_
     refine RL.nil (RA.next ?_)
     refine RA.one (i := 5) (by decide +kernel) ?_
     skip
     refine RL.st hS61 (i := 2) rfl (.t rfl) (.t rfl) Tryz.sizeOf3 rfl rfl rfl rfl rfl (fun w62 hS63 => ?_)
     refine RL.nil (RA.next ?_)
     refine RA.one (i := 6) (by decide +kernel) ?_
     skip
     refine RL.st hS63 (i := 3) rfl (.t rfl) (.t rfl) Tryz.sizeOf25 rfl rfl rfl rfl rfl (fun w64 hS65 => ?_)
     refine RL.nil (RA.next ?_)
     refine RA.nil (by decide +kernel) ?_
     replace hS65 : St w M0 w64 M (.box bx [(.slice none 0 0)] 24 :: .box by_ [(i64 p)] 3 :: .box bz [(i64 ec)] 25 :: Rs) := hS65.erase 0 rfl
     refine  (hend ?_)
     exact hS65
   ·skip
    refine RL.st (v := (.slice none 0 0)) hS7 (i := 1) rfl (.t rfl) .c Tryz.sizeOf24 rfl rfl rfl rfl rfl (fun w66 hS67 => ?_)
    refine RL.nil (RA.next ?_)
    refine RA.two (i := 1) (j := 3) (by decide +kernel) ?_ ?_
    ·skip
     refine RL.u (.loadB1 (v := (i64 p)) hS67 extEq (i := 0) rfl (.t rfl) Tryz.isAgg3 rfl) rfl ?_
     refine RL.nil (RA.next ?_)
     refine RA.two (i := 3) (j := 5) (by decide +kernel) ?_ ?_
     ·skip
      refine RL.u (.loadB1 (v := (i64 ec)) hS67 extEq (i := 0) rfl (.t rfl) Tryz.isAgg25 rfl) rfl ?_
      refine RL.nil (RA.next ?_)
      refine RA.one (i := 5) (by decide +kernel) ?_
      skip
      refine RL.st hS67 (i := 2) rfl (.t rfl) (.t rfl) Tryz.sizeOf3 rfl rfl rfl rfl rfl (fun w68 hS69 => ?_)
      refine RL.nil (RA.next ?_)
      refine RA.one (i := 6) (by decide +kernel) ?_
      skip
      refine RL.st hS69 (i := 3) rfl (.t rfl) (.t rfl) Tryz.sizeOf25 rfl rfl rfl rfl rfl (fun w70 hS71 => ?_)
      refine RL.nil (RA.next ?_)
      refine RA.nil (by decide +kernel) ?_
      replace hS71 : St w M0 w70 M (.box bx [(.slice none 0 0)] 24 :: .box by_ [(i64 p)] 3 :: .box bz [(i64 ec)] 25 :: Rs) := hS71.erase 0 rfl
      refine  (hend ?_)
      exact hS71
     ·skip
      refine RL.st hS67 (i := 2) rfl (.t rfl) (.t rfl) Tryz.sizeOf3 rfl rfl rfl rfl rfl (fun w72 hS73 => ?_)
      refine RL.nil (RA.next ?_)
      refine RA.one (i := 3) (by decide +kernel) ?_
      skip
      refine RL.u (.loadB1 (v := (i64 ec)) hS73 extEq (i := 0) rfl (.t rfl) Tryz.isAgg25 rfl) rfl ?_
      refine RL.nil (RA.next ?_)
      refine RA.one (i := 6) (by decide +kernel) ?_
      skip
      refine RL.st hS73 (i := 3) rfl (.t rfl) (.t rfl) Tryz.sizeOf25 rfl rfl rfl rfl rfl (fun w74 hS75 => ?_)
      refine RL.nil (RA.next ?_)
      refine RA.nil (by decide +kernel) ?_
      replace hS75 : St w M0 w74 M (.box bx [(.slice none 0 0)] 24 :: .box by_ [(i64 p)] 3 :: .box bz [(i64 ec)] 25 :: Rs) := hS75.erase 0 rfl
      refine  (hend ?_)
      exact hS75
    ·skip
     refine RL.u (.loadB1 (v := (i64 ec)) hS67 extEq (i := 0) rfl (.t rfl) Tryz.isAgg25 rfl) rfl ?_
     refine RL.nil (RA.next ?_)
     refine RA.one (i := 1) (by decide +kernel) ?_
     skip
     refine RL.u (.loadB1 (v := (i64 p)) hS67 extEq (i := 0) rfl (.t rfl) Tryz.isAgg3 rfl) rfl ?_
     refine RL.nil (RA.next ?_)
     refine RA.one (i := 5) (by decide +kernel) ?_
     skip
     refine RL.st hS67 (i := 2) rfl (.t rfl) (.t rfl) Tryz.sizeOf3 rfl rfl rfl rfl rfl (fun w76 hS77 => ?_)
     refine RL.nil (RA.next ?_)
     refine RA.one (i := 6) (by decide +kernel) ?_
     skip
     refine RL.st hS77 (i := 3) rfl (.t rfl) (.t rfl) Tryz.sizeOf25 rfl rfl rfl rfl rfl (fun w78 hS79 => ?_)
     refine RL.nil (RA.next ?_)
     refine RA.nil (by decide +kernel) ?_
     replace hS79 : St w M0 w78 M (.box bx [(.slice none 0 0)] 24 :: .box by_ [(i64 p)] 3 :: .box bz [(i64 ec)] 25 :: Rs) := hS79.erase 0 rfl
     refine  (hend ?_)
     exact hS79
  ·skip
   refine RL.st (v := (.slice none 0 0)) hS7 (i := 1) rfl (.t rfl) .c Tryz.sizeOf24 rfl rfl rfl rfl rfl (fun w80 hS81 => ?_)
   refine RL.nil (RA.next ?_)
   refine RA.two (i := 1) (j := 2) (by decide +kernel) ?_ ?_
   ·skip
    refine RL.u (.loadB1 (v := (i64 p)) hS81 extEq (i := 0) rfl (.t rfl) Tryz.isAgg3 rfl) rfl ?_
    refine RL.nil (RA.next ?_)
    refine RA.two (i := 2) (j := 5) (by decide +kernel) ?_ ?_
    ·skip
     refine RL.u (.fldA (q := ⟨b2, 0, none⟩) (.t rfl) (fun w => by kernel_rfl)) rfl ?_
     refine RL.nil (RA.next ?_)
     refine RA.two (i := 3) (j := 5) (by decide +kernel) ?_ ?_
     ·skip
      refine RL.u (.loadB1 (v := (i64 ec)) hS81 extEq (i := 0) rfl (.t rfl) Tryz.isAgg25 rfl) rfl ?_
      refine RL.nil (RA.next ?_)
      refine RA.one (i := 5) (by decide +kernel) ?_
      skip
      refine RL.st hS81 (i := 2) rfl (.t rfl) (.t rfl) Tryz.sizeOf3 rfl rfl rfl rfl rfl (fun w82 hS83 => ?_)
      refine RL.nil (RA.next ?_)
      refine RA.one (i := 6) (by decide +kernel) ?_
      skip
      refine RL.st hS83 (i := 3) rfl (.t rfl) (.t rfl) Tryz.sizeOf25 rfl rfl rfl rfl rfl (fun w84 hS85 => ?_)
      refine RL.nil (RA.next ?_)
      refine RA.nil (by decide +kernel) ?_
      replace hS85 : St w M0 w84 M (.box bx [(.slice none 0 0)] 24 :: .box by_ [(i64 p)] 3 :: .box bz [(i64 ec)] 25 :: Rs) := hS85.erase 0 rfl
      refine  (hend ?_)
      exact hS85
     ·skip
      refine RL.st hS81 (i := 2) rfl (.t rfl) (.t rfl) Tryz.sizeOf3 rfl rfl rfl rfl rfl (fun w86 hS87 => ?_)
      refine RL.nil (RA.next ?_)
      refine RA.one (i := 3) (by decide +kernel) ?_
      skip
      refine RL.u (.loadB1 (v := (i64 ec)) hS87 extEq (i := 0) rfl (.t rfl) Tryz.isAgg25 rfl) rfl ?_
      refine RL.nil (RA.next ?_)
      refine RA.one (i := 6) (by decide +kernel) ?_
      skip
      refine RL.st hS87 (i := 3) rfl (.t rfl) (.t rfl) Tryz.sizeOf25 rfl rfl rfl rfl rfl (fun w88 hS89 => ?_)
      refine RL.nil (RA.next ?_)
      refine RA.nil (by decide +kernel) ?_
      replace hS89 : St w M0 w88 M (.box bx [(.slice none 0 0)] 24 :: .box by_ [(i64 p)] 3 :: .box bz [(i64 ec)] 25 :: Rs) := hS89.erase 0 rfl
      refine  (hend ?_)
      exact hS89
    ·skip
     refine RL.st hS81 (i := 2) rfl (.t rfl) (.t rfl) Tryz.sizeOf3 rfl rfl rfl rfl rfl (fun w90 hS91 => ?_)
     refine RL.nil (RA.next ?_)
     refine RA.one (i := 2) (by decide +kernel) ?_
     skip
     refine RL.u (.fldA (q := ⟨b2, 0, none⟩) (.t rfl) (fun w => by kernel_rfl)) rfl ?_
     refine RL.nil (RA.next ?_)
     refine RA.one (i := 3) (by decide +kernel) ?_
     skip
     refine RL.u (.loadB1 (v := (i64 ec)) hS91 extEq (i := 0) rfl (.t rfl) Tryz.isAgg25 rfl) rfl ?_
     refine RL.nil (RA.next ?_)
     refine RA.one (i := 6) (by decide +kernel) ?_
     skip
     refine RL.st hS91 (i := 3) rfl (.t rfl) (.t rfl) Tryz.sizeOf25 rfl rfl rfl rfl rfl (fun w92 hS93 => ?_)
     refine RL.nil (RA.next ?_)
     refine RA.nil (by decide +kernel) ?_
     replace hS93 : St w M0 w92 M (.box bx [(.slice none 0 0)] 24 :: .box by_ [(i64 p)] 3 :: .box bz [(i64 ec)] 25 :: Rs) := hS93.erase 0 rfl
     refine  (hend ?_)
     exact hS93
   ·skip
    refine RL.u (.fldA (q := ⟨b2, 0, none⟩) (.t rfl) (fun w => by kernel_rfl)) rfl ?_
    refine RL.nil (RA.next ?_)
    refine RA.two (i := 1) (j := 3) (by decide +kernel) ?_ ?_
    ·skip
     refine RL.u (.loadB1 (v := (i64 p)) hS81 extEq (i := 0) rfl (.t rfl) Tryz.isAgg3 rfl) rfl ?_
     refine RL.nil (RA.next ?_)
     refine RA.two (i := 3) (j := 5) (by decide +kernel) ?_ ?_
     ·skip
      refine RL.u (.loadB1 (v := (i64 ec)) hS81 extEq (i := 0) rfl (.t rfl) Tryz.isAgg25 rfl) rfl ?_
      refine RL.nil (RA.next ?_)
      refine RA.one (i := 5) (by decide +kernel) ?_
      skip
      refine RL.st hS81 (i := 2) rfl (.t rfl) (.t rfl) Tryz.sizeOf3 rfl rfl rfl rfl rfl (fun w94 hS95 => ?_)
      refine RL.nil (RA.next ?_)
      refine RA.one (i := 6) (by decide +kernel) ?_
      skip
      refine RL.st hS95 (i := 3) rfl (.t rfl) (.t rfl) Tryz.sizeOf25 rfl rfl rfl rfl rfl (fun w96 hS97 => ?_)
      refine RL.nil (RA.next ?_)
      refine RA.nil (by decide +kernel) ?_
      replace hS97 : St w M0 w96 M (.box bx [(.slice none 0 0)] 24 :: .box by_ [(i64 p)] 3 :: .box bz [(i64 ec)] 25 :: Rs) := hS97.erase 0 rfl
      refine  (hend ?_)
      exact hS97
     ·skip
      refine RL.st hS81 (i := 2) rfl (.t rfl) (.t rfl) Tryz.sizeOf3 rfl rfl rfl rfl rfl (fun w98 hS99 => ?_)
      refine RL.nil (RA.next ?_)
      refine RA.one (i := 3) (by decide +kernel) ?_
      skip
      refine RL.u (.loadB1 (v := (i64 ec)) hS99 extEq (i := 0) rfl (.t rfl) Tryz.isAgg25 rfl) rfl ?_
      refine RL.nil (RA.next ?_)
      refine RA.one (i := 6) (by decide +kernel) ?_
      skip
      refine RL.st hS99 (i := 3) rfl (.t rfl) (.t rfl) Tryz.sizeOf25 rfl rfl rfl rfl rfl (fun w100 hS101 => ?_)
      refine RL.nil (RA.next ?_)
      refine RA.nil (by decide +kernel) ?_
      replace hS101 : St w M0 w100 M (.box bx [(.slice none 0 0)] 24 :: .box by_ [(i64 p)] 3 :: .box bz [(i64 ec)] 25 :: Rs) := hS101.erase 0 rfl
      refine  (hend ?_)
      exact hS101
    ·skip
     refine RL.u (.loadB1 (v := (i64 ec)) hS81 extEq (i := 0) rfl (.t rfl) Tryz.isAgg25 rfl) rfl ?_
     refine RL.nil (RA.next ?_)
     refine RA.one (i := 1) (by decide +kernel) ?_
     skip
     refine RL.u (.loadB1 (v := (i64 p)) hS81 extEq (i := 0) rfl (.t rfl) Tryz.isAgg3 rfl) rfl ?_
     refine RL.nil (RA.next ?_)
     refine RA.one (i := 5) (by decide +kernel) ?_
     skip
     refine RL.st hS81 (i := 2) rfl (.t rfl) (.t rfl) Tryz.sizeOf3 rfl rfl rfl rfl rfl (fun w102 hS103 => ?_)
     refine RL.nil (RA.next ?_)
     refine RA.one (i := 6) (by decide +kernel) ?_
     skip
     refine RL.st hS103 (i := 3) rfl (.t rfl) (.t rfl) Tryz.sizeOf25 rfl rfl rfl rfl rfl (fun w104 hS105 => ?_)
     refine RL.nil (RA.next ?_)
     refine RA.nil (by decide +kernel) ?_
     replace hS105 : St w M0 w104 M (.box bx [(.slice none 0 0)] 24 :: .box by_ [(i64 p)] 3 :: .box bz [(i64 ec)] 25 :: Rs) := hS105.erase 0 rfl
     refine  (hend ?_)
     exact hS105
 ·skip
  refine RL.u (.fldA (q := ⟨b2, 0, none⟩) (.t rfl) (fun w => by kernel_rfl)) rfl ?_
  refine RL.nil (RA.next ?_)
  refine RA.three (i := 0) (j := 3) (k := 4) (by decide +kernel) ?_ ?_ ?_
  ·skip
   refine RL.u (.fldA (q := ⟨b2, 1, none⟩) (.t rfl) (fun w => by kernel_rfl)) rfl ?_
   refine RL.nil (RA.next ?_)
   refine RA.three (i := 1) (j := 3) (k := 4) (by decide +kernel) ?_ ?_ ?_
   ·skip
    refine RL.u (.loadB1 (v := (i64 p)) hS7 extEq (i := 0) rfl (.t rfl) Tryz.isAgg3 rfl) rfl ?_
    refine RL.nil (RA.next ?_)
    refine RA.two (i := 3) (j := 4) (by decide +kernel) ?_ ?_
    ·skip
     refine RL.u (.loadB1 (v := (i64 ec)) hS7 extEq (i := 0) rfl (.t rfl) Tryz.isAgg25 rfl) rfl ?_
     refine RL.nil (RA.next ?_)
     refine RA.one (i := 4) (by decide +kernel) ?_
     skip
     refine RL.st (v := (.slice none 0 0)) hS7 (i := 1) rfl (.t rfl) .c Tryz.sizeOf24 rfl rfl rfl rfl rfl (fun w106 hS107 => ?_)
     refine RL.nil (RA.next ?_)
     refine RA.one (i := 5) (by decide +kernel) ?_
     skip
     refine RL.st hS107 (i := 2) rfl (.t rfl) (.t rfl) Tryz.sizeOf3 rfl rfl rfl rfl rfl (fun w108 hS109 => ?_)
     refine RL.nil (RA.next ?_)
     refine RA.one (i := 6) (by decide +kernel) ?_
     skip
     refine RL.st hS109 (i := 3) rfl (.t rfl) (.t rfl) Tryz.sizeOf25 rfl rfl rfl rfl rfl (fun w110 hS111 => ?_)
     refine RL.nil (RA.next ?_)
     refine RA.nil (by decide +kernel) ?_
     replace hS111 : St w M0 w110 M (.box bx [(.slice none 0 0)] 24 :: .box by_ [(i64 p)] 3 :: .box bz [(i64 ec)] 25 :: Rs) := hS111.erase 0 rfl
     refine  (hend ?_)
     exact hS111
    ·skip
     refine RL.st (v := (.slice none 0 0)) hS7 (i := 1) rfl (.t rfl) .c Tryz.sizeOf24 rfl rfl rfl rfl rfl (fun w112 hS113 => ?_)
     refine RL.nil (RA.next ?_)
     refine RA.two (i := 3) (j := 5) (by decide +kernel) ?_ ?_
     ·skip
      refine RL.u (.loadB1 (v := (i64 ec)) hS113 extEq (i := 0) rfl (.t rfl) Tryz.isAgg25 rfl) rfl ?_
      refine RL.nil (RA.next ?_)
      refine RA.one (i := 5) (by decide +kernel) ?_
      skip
      refine RL.st hS113 (i := 2) rfl (.t rfl) (.t rfl) Tryz.sizeOf3 rfl rfl rfl rfl rfl (fun w114 hS115 => ?_)
      refine RL.nil (RA.next ?_)
      refine RA.one (i := 6) (by decide +kernel) ?_
      skip
      refine RL.st hS115 (i := 3) rfl (.t rfl) (.t rfl) Tryz.sizeOf25 rfl rfl rfl rfl rfl (fun w116 hS117 => ?_)
      refine RL.nil (RA.next ?_)
      refine RA.nil (by decide +kernel) ?_
      replace hS117 : St w M0 w116 M (.box bx [(.slice none 0 0)] 24 :: .box by_ [(i64 p)] 3 :: .box bz [(i64 ec)] 25 :: Rs) := hS117.erase 0 rfl
      refine  (hend ?_)
      exact hS117
     ·skip
      refine RL.st hS113 (i := 2) rfl (.t rfl) (.t rfl) Tryz.sizeOf3 rfl rfl rfl rfl rfl (fun w118 hS119 => ?_)
      refine RL.nil (RA.next ?_)
      refine RA.one (i := 3) (by decide +kernel) ?_
      skip
      refine RL.u (.loadB1 (v := (i64 ec)) hS119 extEq (i := 0) rfl (.t rfl) Tryz.isAgg25 rfl) rfl ?_
      refine RL.nil (RA.next ?_)
      refine RA.one (i := 6) (by decide +kernel) ?_
      skip
      refine RL.st hS119 (i := 3) rfl (.t rfl) (.t rfl) Tryz.sizeOf25 rfl rfl rfl rfl rfl (fun w120 hS121 => ?_)
      refine RL.nil (RA.next ?_)
      refine RA.nil (by decide +kernel) ?_
      replace hS121 : St w M0 w120 M (.box bx [(.slice none 0 0)] 24 :: .box by_ [(i64 p)] 3 :: .box bz [(i64 ec)] 25 :: Rs) := hS121.erase 0 rfl
      refine  (hend ?_)
      exact hS121
   ·skip
    refine RL.u (.loadB1 (v := (i64 ec)) hS7 extEq (i := 0) rfl (.t rfl) Tryz.isAgg25 rfl) rfl ?_
    refine RL.nil (RA.next ?_)
    refine RA.two (i := 1) (j := 4) (by decide +kernel) ?_ ?_
    ·skip
     refine RL.u (.loadB1 (v := (i64 p)) hS7 extEq (i := 0) rfl (.t rfl) Tryz.isAgg3 rfl) rfl ?_
     refine RL.nil (RA.next ?_)
     refine RA.one (i := 4) (by decide +kernel) ?_
     skip
     refine RL.st (v := (.slice none 0 0)) hS7 (i := 1) rfl (.t rfl) .c Tryz.sizeOf24 rfl rfl rfl rfl rfl (fun w122 hS123 => ?_)
     refine RL.nil (RA.next ?_)
     refine RA.one (i := 5) (by decide +kernel) ?_
     skip
     refine RL.st hS123 (i := 2) rfl (.t rfl) (.t rfl) Tryz.sizeOf3 rfl rfl rfl rfl rfl (fun w124 hS125 => ?_)
     refine RL.nil (RA.next ?_)
     refine RA.one (i := 6) (by decide +kernel) ?_
     skip
     refine RL.st hS125 (i := 3) rfl (.t rfl) (.t rfl) Tryz.sizeOf25 rfl rfl rfl rfl rfl (fun w126 hS127 => ?_)
     refine RL.nil (RA.next ?_)
     refine RA.nil (by decide +kernel) ?_
     replace hS127 : St w M0 w126 M (.box bx [(.slice none 0 0)] 24 :: .box by_ [(i64 p)] 3 :: .box bz [(i64 ec)] 25 :: Rs) := hS127.erase 0 rfl
     refine  (hend ?_)
     exact hS127
    ·skip
     refine RL.st (v := (.slice none 0 0)) hS7 (i := 1) rfl (.t rfl) .c Tryz.sizeOf24 rfl rfl rfl rfl rfl (fun w128 hS129 => ?_)
     refine RL.nil (RA.next ?_)
     refine RA.one (i := 1) (by decide +kernel) ?_
     skip
     refine RL.u (.loadB1 (v := (i64 p)) hS129 extEq (i := 0) rfl (.t rfl) Tryz.isAgg3 rfl) rfl ?_
     refine RL.nil (RA.next ?_)
     refine RA.one (i := 5) (by decide +kernel) ?_
     skip
     refine RL.st hS129 (i := 2) rfl (.t rfl) (.t rfl) Tryz.sizeOf3 rfl rfl rfl rfl rfl (fun w130 hS131 => ?_)
     refine RL.nil (RA.next ?_)
     refine RA.one (i := 6) (by decide +kernel) ?_
     skip
     refine RL.st hS131 (i := 3) rfl (.t rfl) (.t rfl) Tryz.sizeOf25 rfl rfl rfl rfl rfl (fun w132 hS133 => ?_)
     refine RL.nil (RA.next ?_)
     refine RA.nil (by decide +kernel) ?_
     replace hS133 : St w M0 w132 M (.box bx [(.slice none 0 0)] 24 :: .box by_ [(i64 p)] 3 :: .box bz [(i64 ec)] 25 :: Rs) := hS133.erase 0 rfl
     refine  (hend ?_)
     exact hS133
   ·skip
    refine RL.st (v := (.slice none 0 0)) hS7 (i := 1) rfl (.t rfl) .c Tryz.sizeOf24 rfl rfl rfl rfl rfl (fun w134 hS135 => ?_)
    refine RL.nil (RA.next ?_)
    refine RA.two (i := 1) (j := 3) (by decide +kernel) ?_ ?_
    ·skip
     refine RL.u (.loadB1 (v := (i64 p)) hS135 extEq (i := 0) rfl (.t rfl) Tryz.isAgg3 rfl) rfl ?_
     refine RL.nil (RA.next ?_)
     refine RA.two (i := 3) (j := 5) (by decide +kernel) ?_ ?_
     ·skip
      refine RL.u (.loadB1 (v := (i64 ec)) hS135 extEq (i := 0) rfl (.t rfl) Tryz.isAgg25 rfl) rfl ?_
      refine RL.nil (RA.next ?_)
      refine RA.one (i := 5) (by decide +kernel) ?_
      skip
      refine RL.st hS135 (i := 2) rfl (.t rfl) (.t rfl) Tryz.sizeOf3 rfl rfl rfl rfl rfl (fun w136 hS137 => ?_)
      refine RL.nil (RA.next ?_)
      refine RA.one (i := 6) (by decide +kernel) ?_
      skip
      refine RL.st hS137 (i := 3) rfl (.t rfl) (.t rfl) Tryz.sizeOf25 rfl rfl rfl rfl rfl (fun w138 hS139 => ?_)
      refine RL.nil (RA.next ?_)
      refine RA.nil (by decide +kernel) ?_
      replace hS139 : St w M0 w138 M (.box bx [(.slice none 0 0)] 24 :: .box by_ [(i64 p)] 3 :: .box bz [(i64 ec)] 25 :: Rs) := hS139.erase 0 rfl
      refine  (hend ?_)
      exact hS139
     ·skip
      refine RL.st hS135 (i := 2) rfl (.t rfl) (.t rfl) Tryz.sizeOf3 rfl rfl rfl rfl rfl (fun w140 hS141 => ?_)
      refine RL.nil (RA.next ?_)
      refine RA.one (i := 3) (by decide +kernel) ?_
      skip
      refine RL.u (.loadB1 (v := (i64 ec)) hS141 extEq (i := 0) rfl (.t rfl) Tryz.isAgg25 rfl) rfl ?_
      refine RL.nil (RA.next ?_)
      refine RA.one (i := 6) (by decide +kernel) ?_
      skip
      refine RL.st hS141 (i := 3) rfl (.t rfl) (.t rfl) Tryz.sizeOf25 rfl rfl rfl rfl rfl (fun w142 hS143 => ?_)
      refine RL.nil (RA.next ?_)
      refine RA.nil (by decide +kernel) ?_
      replace hS143 : St w M0 w142 M (.box bx [(.slice none 0 0)] 24 :: .box by_ [(i64 p)] 3 :: .box bz [(i64 ec)] 25 :: Rs) := hS143.erase 0 rfl
      refine  (hend ?_)
      exact hS143
    ·skip
     refine RL.u (.loadB1 (v := (i64 ec)) hS135 extEq (i := 0) rfl (.t rfl) Tryz.isAgg25 rfl) rfl ?_
     refine RL.nil (RA.next ?_)
     refine RA.one (i := 1) (by decide +kernel) ?_
     skip
     refine RL.u (.loadB1 (v := (i64 p)) hS135 extEq (i := 0) rfl (.t rfl) Tryz.isAgg3 rfl) rfl ?_
     refine RL.nil (RA.next ?_)
     refine RA.one (i := 5) (by decide +kernel) ?_
     skip
     refine RL.st hS135 (i := 2) rfl (.t rfl) (.t rfl) Tryz.sizeOf3 rfl rfl rfl rfl rfl (fun w144 hS145 => ?_)
     refine RL.nil (RA.next ?_)
     refine RA.one (i := 6) (by decide +kernel) ?_
     skip
     refine RL.st hS145 (i := 3) rfl (.t rfl) (.t rfl) Tryz.sizeOf25 rfl rfl rfl rfl rfl (fun w146 hS147 => ?_)
     refine RL.nil (RA.next ?_)
     refine RA.nil (by decide +kernel) ?_
     replace hS147 : St w M0 w146 M (.box bx [(.slice none 0 0)] 24 :: .box by_ [(i64 p)] 3 :: .box bz [(i64 ec)] 25 :: Rs) := hS147.erase 0 rfl
     refine  (hend ?_)
     exact hS147
  ·skip
   refine RL.u (.loadB1 (v := (i64 ec)) hS7 extEq (i := 0) rfl (.t rfl) Tryz.isAgg25 rfl) rfl ?_
   refine RL.nil (RA.next ?_)
   refine RA.two (i := 0) (j := 4) (by decide +kernel) ?_ ?_
   ·skip
    refine RL.u (.fldA (q := ⟨b2, 1, none⟩) (.t rfl) (fun w => by kernel_rfl)) rfl ?_
    refine RL.nil (RA.next ?_)
    refine RA.two (i := 1) (j := 4) (by decide +kernel) ?_ ?_
    ·skip
     refine RL.u (.loadB1 (v := (i64 p)) hS7 extEq (i := 0) rfl (.t rfl) Tryz.isAgg3 rfl) rfl ?_
     refine RL.nil (RA.next ?_)
     refine RA.one (i := 4) (by decide +kernel) ?_
     skip
     refine RL.st (v := (.slice none 0 0)) hS7 (i := 1) rfl (.t rfl) .c Tryz.sizeOf24 rfl rfl rfl rfl rfl (fun w148 hS149 => ?_)
     refine RL.nil (RA.next ?_)
     refine RA.one (i := 5) (by decide +kernel) ?_
     skip
     refine RL.st hS149 (i := 2) rfl (.t rfl) (.t rfl) Tryz.sizeOf3 rfl rfl rfl rfl rfl (fun w150 hS151 => ?_)
     refine RL.nil (RA.next ?_)
     refine RA.one (i := 6) (by decide +kernel) ?_
     skip
     refine RL.st hS151 (i := 3) rfl (.t rfl) (.t rfl) Tryz.sizeOf25 rfl rfl rfl rfl rfl (fun w152 hS153 => ?_)
     refine RL.nil (RA.next ?_)
     refine RA.nil (by decide +kernel) ?_
     replace hS153 : St w M0 w152 M (.box bx [(.slice none 0 0)] 24 :: .box by_ [(i64 p)] 3 :: .box bz [(i64 ec)] 25 :: Rs) := hS153.erase 0 rfl
     refine  (hend ?_)
     exact hS153
    ·skip
     refine RL.st (v := (.slice none 0 0)) hS7 (i := 1) rfl (.t rfl) .c Tryz.sizeOf24 rfl rfl rfl rfl rfl (fun w154 hS155 => ?_)
     refine RL.nil (RA.next ?_)
     refine RA.one (i := 1) (by decide +kernel) ?_
     skip
     refine RL.u (.loadB1 (v := (i64 p)) hS155 extEq (i := 0) rfl (.t rfl) Tryz.isAgg3 rfl) rfl ?_
     refine RL.nil (RA.next ?_)
     refine RA.one (i := 5) (by decide +kernel) ?_
     skip
     refine RL.st hS155 (i := 2) rfl (.t rfl) (.t rfl) Tryz.sizeOf3 rfl rfl rfl rfl rfl (fun w156 hS157 => ?_)
     refine RL.nil (RA.next ?_)
     refine RA.one (i := 6) (by decide +kernel) ?_
     skip
     refine RL.st hS157 (i := 3) rfl (.t rfl) (.t rfl) Tryz.sizeOf25 rfl rfl rfl rfl rfl (fun w158 hS159 => ?_)
     refine RL.nil (RA.next ?_)
     refine RA.nil (by decide +kernel) ?_
     replace hS159 : St w M0 w158 M (.box bx [(.slice none 0 0)] 24 :: .box by_ [(i64 p)] 3 :: .box bz [(i64 ec)] 25 :: Rs) := hS159.erase 0 rfl
     refine  (hend ?_)
     exact hS159
   ·skip
    refine RL.st (v := (.slice none 0 0)) hS7 (i := 1) rfl (.t rfl) .c Tryz.sizeOf24 rfl rfl rfl rfl rfl (fun w160 hS161 => ?_)
    refine RL.nil (RA.next ?_)
    refine RA.one (i := 0) (by decide +kernel) ?_
    skip
    refine RL.u (.fldA (q := ⟨b2, 1, none⟩) (.t rfl) (fun w => by kernel_rfl)) rfl ?_
    refine RL.nil (RA.next ?_)
    refine RA.one (i := 1) (by decide +kernel) ?_
    skip
    refine RL.u (.loadB1 (v := (i64 p)) hS161 extEq (i := 0) rfl (.t rfl) Tryz.isAgg3 rfl) rfl ?_
    refine RL.nil (RA.next ?_)
    refine RA.one (i := 5) (by decide +kernel) ?_
    skip
    refine RL.st hS161 (i := 2) rfl (.t rfl) (.t rfl) Tryz.sizeOf3 rfl rfl rfl rfl rfl (fun w162 hS163 => ?_)
    refine RL.nil (RA.next ?_)
    refine RA.one (i := 6) (by decide +kernel) ?_
    skip
    refine RL.st hS163 (i := 3) rfl (.t rfl) (.t rfl) Tryz.sizeOf25 rfl rfl rfl rfl rfl (fun w164 hS165 => ?_)
    refine RL.nil (RA.next ?_)
    refine RA.nil (by decide +kernel) ?_
    replace hS165 : St w M0 w164 M (.box bx [(.slice none 0 0)] 24 :: .box by_ [(i64 p)] 3 :: .box bz [(i64 ec)] 25 :: Rs) := hS165.erase 0 rfl
    refine  (hend ?_)
    exact hS165
  ·skip
   refine RL.st (v := (.slice none 0 0)) hS7 (i := 1) rfl (.t rfl) .c Tryz.sizeOf24 rfl rfl rfl rfl rfl (fun w166 hS167 => ?_)
   refine RL.nil (RA.next ?_)
   refine RA.two (i := 0) (j := 3) (by decide +kernel) ?_ ?_
   ·skip
    refine RL.u (.fldA (q := ⟨b2, 1, none⟩) (.t rfl) (fun w => by kernel_rfl)) rfl ?_
    refine RL.nil (RA.next ?_)
    refine RA.two (i := 1) (j := 3) (by decide +kernel) ?_ ?_
    ·skip
     refine RL.u (.loadB1 (v := (i64 p)) hS167 extEq (i := 0) rfl (.t rfl) Tryz.isAgg3 rfl) rfl ?_
     refine RL.nil (RA.next ?_)
     refine RA.two (i := 3) (j := 5) (by decide +kernel) ?_ ?_
     ·skip
      refine RL.u (.loadB1 (v := (i64 ec)) hS167 extEq (i := 0) rfl (.t rfl) Tryz.isAgg25 rfl) rfl ?_
      refine RL.nil (RA.next ?_)
      refine RA.one (i := 5) (by decide +kernel) ?_
      skip
      refine RL.st hS167 (i := 2) rfl (.t rfl) (.t rfl) Tryz.sizeOf3 rfl rfl rfl rfl rfl (fun w168 hS169 => ?_)
      refine RL.nil (RA.next ?_)
      refine RA.one (i := 6) (by decide +kernel) ?_
      skip
      refine RL.st hS169 (i := 3) rfl (.t rfl) (.t rfl) Tryz.sizeOf25 rfl rfl rfl rfl rfl (fun w170 hS171 => ?_)
      refine RL.nil (RA.next ?_)
      refine RA.nil (by decide +kernel) ?_
      replace hS171 : St w M0 w170 M (.box bx [(.slice none 0 0)] 24 :: .box by_ [(i64 p)] 3 :: .box bz [(i64 ec)] 25 :: Rs) := hS171.erase 0 rfl
      refine  (hend ?_)
      exact hS171
     ·skip
      refine RL.st hS167 (i := 2) rfl (.t rfl) (.t rfl) Tryz.sizeOf3 rfl rfl rfl rfl rfl (fun w172 hS173 => ?_)
      refine RL.nil (RA.next ?_)
      refine RA.one (i := 3) (by decide +kernel) ?_
      skip
      refine RL.u (.loadB1 (v := (i64 ec)) hS173 extEq (i := 0) rfl (.t rfl) Tryz.isAgg25 rfl) rfl ?_
      refine RL.nil (RA.next ?_)
      refine RA.one (i := 6) (by decide +kernel) ?_
      skip
      refine RL.st hS173 (i := 3) rfl (.t rfl) (.t rfl) Tryz.sizeOf25 rfl rfl rfl rfl rfl (fun w174 hS175 => ?_)
      refine RL.nil (RA.next ?_)
      refine RA.nil (by decide +kernel) ?_
      replace hS175 : St w M0 w174 M (.box bx [(.slice none 0 0)] 24 :: .box by_ [(i64 p)] 3 :: .box bz [(i64 ec)] 25 :: Rs) := hS175.erase 0 rfl
      refine  (hend ?_)
      exact hS175
    ·skip
     refine RL.u (.loadB1 (v := (i64 ec)) hS167 extEq (i := 0) rfl (.t rfl) Tryz.isAgg25 rfl) rfl ?_
     refine RL.nil (RA.next ?_)
     refine RA.one (i := 1) (by decide +kernel) ?_
     skip
     refine RL.u (.loadB1 (v := (i64 p)) hS167 extEq (i := 0) rfl (.t rfl) Tryz.isAgg3 rfl) rfl ?_
     refine RL.nil (RA.next ?_)
     refine RA.one (i := 5) (by decide +kernel) ?_
     skip
     refine RL.st hS167 (i := 2) rfl (.t rfl) (.t rfl) Tryz.sizeOf3 rfl rfl rfl rfl rfl (fun w176 hS177 => ?_)
     refine RL.nil (RA.next ?_)
     refine RA.one (i := 6) (by decide +kernel) ?_
     skip
     refine RL.st hS177 (i := 3) rfl (.t rfl) (.t rfl) Tryz.sizeOf25 rfl rfl rfl rfl rfl (fun w178 hS179 => ?_)
     refine RL.nil (RA.next ?_)
     refine RA.nil (by decide +kernel) ?_
     replace hS179 : St w M0 w178 M (.box bx [(.slice none 0 0)] 24 :: .box by_ [(i64 p)] 3 :: .box bz [(i64 ec)] 25 :: Rs) := hS179.erase 0 rfl
     refine  (hend ?_)
     exact hS179
   ·skip
    refine RL.u (.loadB1 (v := (i64 ec)) hS167 extEq (i := 0) rfl (.t rfl) Tryz.isAgg25 rfl) rfl ?_
    refine RL.nil (RA.next ?_)
    refine RA.one (i := 0) (by decide +kernel) ?_
    skip
    refine RL.u (.fldA (q := ⟨b2, 1, none⟩) (.t rfl) (fun w => by kernel_rfl)) rfl ?_
    refine RL.nil (RA.next ?_)
    refine RA.one (i := 1) (by decide +kernel) ?_
    skip
    refine RL.u (.loadB1 (v := (i64 p)) hS167 extEq (i := 0) rfl (.t rfl) Tryz.isAgg3 rfl) rfl ?_
    refine RL.nil (RA.next ?_)
    refine RA.one (i := 5) (by decide +kernel) ?_
    skip
    refine RL.st hS167 (i := 2) rfl (.t rfl) (.t rfl) Tryz.sizeOf3 rfl rfl rfl rfl rfl (fun w180 hS181 => ?_)
    refine RL.nil (RA.next ?_)
    refine RA.one (i := 6) (by decide +kernel) ?_
    skip
    refine RL.st hS181 (i := 3) rfl (.t rfl) (.t rfl) Tryz.sizeOf25 rfl rfl rfl rfl rfl (fun w182 hS183 => ?_)
    refine RL.nil (RA.next ?_)
    refine RA.nil (by decide +kernel) ?_
    replace hS183 : St w M0 w182 M (.box bx [(.slice none 0 0)] 24 :: .box by_ [(i64 p)] 3 :: .box bz [(i64 ec)] 25 :: Rs) := hS183.erase 0 rfl
    refine  (hend ?_)
    exact hS183
 ·skip
  refine RL.st (v := (.slice none 0 0)) hS7 (i := 1) rfl (.t rfl) .c Tryz.sizeOf24 rfl rfl rfl rfl rfl (fun w184 hS185 => ?_)
  refine RL.nil (RA.next ?_)
  refine RA.two (i := 0) (j := 2) (by decide +kernel) ?_ ?_
  ·skip
   refine RL.u (.fldA (q := ⟨b2, 1, none⟩) (.t rfl) (fun w => by kernel_rfl)) rfl ?_
   refine RL.nil (RA.next ?_)
   refine RA.two (i := 1) (j := 2) (by decide +kernel) ?_ ?_
   ·skip
    refine RL.u (.loadB1 (v := (i64 p)) hS185 extEq (i := 0) rfl (.t rfl) Tryz.isAgg3 rfl) rfl ?_
    refine RL.nil (RA.next ?_)
    refine RA.two (i := 2) (j := 5) (by decide +kernel) ?_ ?_
    ·skip
     refine RL.u (.fldA (q := ⟨b2, 0, none⟩) (.t rfl) (fun w => by kernel_rfl)) rfl ?_
     refine RL.nil (RA.next ?_)
     refine RA.two (i := 3) (j := 5) (by decide +kernel) ?_ ?_
     ·skip
      refine RL.u (.loadB1 (v := (i64 ec)) hS185 extEq (i := 0) rfl (.t rfl) Tryz.isAgg25 rfl) rfl ?_
      refine RL.nil (RA.next ?_)
      refine RA.one (i := 5) (by decide +kernel) ?_
      skip
      refine RL.st hS185 (i := 2) rfl (.t rfl) (.t rfl) Tryz.sizeOf3 rfl rfl rfl rfl rfl (fun w186 hS187 => ?_)
      refine RL.nil (RA.next ?_)
      refine RA.one (i := 6) (by decide +kernel) ?_
      skip
      refine RL.st hS187 (i := 3) rfl (.t rfl) (.t rfl) Tryz.sizeOf25 rfl rfl rfl rfl rfl (fun w188 hS189 => ?_)
      refine RL.nil (RA.next ?_)
      refine RA.nil (by decide +kernel) ?_
      replace hS189 : St w M0 w188 M (.box bx [(.slice none 0 0)] 24 :: .box by_ [(i64 p)] 3 :: .box bz [(i64 ec)] 25 :: Rs) := hS189.erase 0 rfl
      refine  (hend ?_)
      exact hS189
     ·skip
      refine RL.st hS185 (i := 2) rfl (.t rfl) (.t rfl) Tryz.sizeOf3 rfl rfl rfl rfl rfl (fun w190 hS191 => ?_)
      refine RL.nil (RA.next ?_)
      refine RA.one (i := 3) (by decide +kernel) ?_
      skip
      refine RL.u (.loadB1 (v := (i64 ec)) hS191 extEq (i := 0) rfl (.t rfl) Tryz.isAgg25 rfl) rfl ?_
      refine RL.nil (RA.next ?_)
      refine RA.one (i := 6) (by decide +kernel) ?_
      skip
      refine RL.st hS191 (i := 3) rfl (.t rfl) (.t rfl) Tryz.sizeOf25 rfl rfl rfl rfl rfl (fun w192 hS193 => ?_)
      refine RL.nil (RA.next ?_)
      refine RA.nil (by decide +kernel) ?_
      replace hS193 : St w M0 w192 M (.box bx [(.slice none 0 0)] 24 :: .box by_ [(i64 p)] 3 :: .box bz [(i64 ec)] 25 :: Rs) := hS193.erase 0 rfl
      refine  (hend ?_)
      exact hS193
    ·skip
     refine RL.st hS185 (i := 2) rfl (.t rfl) (.t rfl) Tryz.sizeOf3 rfl rfl rfl rfl rfl (fun w194 hS195 => ?_)
     refine RL.nil (RA.next ?_)
     refine RA.one (i := 2) (by decide +kernel) ?_
     skip
     refine RL.u (.fldA (q := ⟨b2, 0, none⟩) (.t rfl) (fun w => by kernel_rfl)) rfl ?_
     refine RL.nil (RA.next ?_)
     refine RA.one (i := 3) (by decide +kernel) ?_
     skip
     refine RL.u (.loadB1 (v := (i64 ec)) hS195 extEq (i := 0) rfl (.t rfl) Tryz.isAgg25 rfl) rfl ?_
     refine RL.nil (RA.next ?_)
     refine RA.one (i := 6) (by decide +kernel) ?_
     skip
     refine RL.st hS195 (i := 3) rfl (.t rfl) (.t rfl) Tryz.sizeOf25 rfl rfl rfl rfl rfl (fun w196 hS197 => ?_)
     refine RL.nil (RA.next ?_)
     refine RA.nil (by decide +kernel) ?_
     replace hS197 : St w M0 w196 M (.box bx [(.slice none 0 0)] 24 :: .box by_ [(i64 p)] 3 :: .box bz [(i64 ec)] 25 :: Rs) := hS197.erase 0 rfl
     refine  (hend ?_)
     exact hS197
   ·skip
    refine RL.u (.fldA (q := ⟨b2, 0, none⟩) (.t rfl) (fun w => by kernel_rfl)) rfl ?_
    refine RL.nil (RA.next ?_)
    refine RA.two (i := 1) (j := 3) (by decide +kernel) ?_ ?_
    ·skip
     refine RL.u (.loadB1 (v := (i64 p)) hS185 extEq (i := 0) rfl (.t rfl) Tryz.isAgg3 rfl) rfl ?_
     refine RL.nil (RA.next ?_)
     refine RA.two (i := 3) (j := 5) (by decide +kernel) ?_ ?_
     ·skip
      refine RL.u (.loadB1 (v := (i64 ec)) hS185 extEq (i := 0) rfl (.t rfl) Tryz.isAgg25 rfl) rfl ?_
      refine RL.nil (RA.next ?_)
      refine RA.one (i := 5) (by decide +kernel) ?_
      skip
      refine RL.st hS185 (i := 2) rfl (.t rfl) (.t rfl) Tryz.sizeOf3 rfl rfl rfl rfl rfl (fun w198 hS199 => ?_)
      refine RL.nil (RA.next ?_)
      refine RA.one (i := 6) (by decide +kernel) ?_
      skip
      refine RL.st hS199 (i := 3) rfl (.t rfl) (.t rfl) Tryz.sizeOf25 rfl rfl rfl rfl rfl (fun w200 hS201 => ?_)
      refine RL.nil (RA.next ?_)
      refine RA.nil (by decide +kernel) ?_
      replace hS201 : St w M0 w200 M (.box bx [(.slice none 0 0)] 24 :: .box by_ [(i64 p)] 3 :: .box bz [(i64 ec)] 25 :: Rs) := hS201.erase 0 rfl
      refine  (hend ?_)
      exact hS201
     ·skip
      refine RL.st hS185 (i := 2) rfl (.t rfl) (.t rfl) Tryz.sizeOf3 rfl rfl rfl rfl rfl (fun w202 hS203 => ?_)
      refine RL.nil (RA.next ?_)
      refine RA.one (i := 3) (by decide +kernel) ?_
      skip
      refine RL.u (.loadB1 (v := (i64 ec)) hS203 extEq (i := 0) rfl (.t rfl) Tryz.isAgg25 rfl) rfl ?_
      refine RL.nil (RA.next ?_)
      refine RA.one (i := 6) (by decide +kernel) ?_
      skip
      refine RL.st hS203 (i := 3) rfl (.t rfl) (.t rfl) Tryz.sizeOf25 rfl rfl rfl rfl rfl (fun w204 hS205 => ?_)
      refine RL.nil (RA.next ?_)
      refine RA.nil (by decide +kernel) ?_
      replace hS205 : St w M0 w204 M (.box bx [(.slice none 0 0)] 24 :: .box by_ [(i64 p)] 3 :: .box bz [(i64 ec)] 25 :: Rs) := hS205.erase 0 rfl
      refine  (hend ?_)
      exact hS205
    ·skip
     refine RL.u (.loadB1 (v := (i64 ec)) hS185 extEq (i := 0) rfl (.t rfl) Tryz.isAgg25 rfl) rfl ?_
     refine RL.nil (RA.next ?_)
     refine RA.one (i := 1) (by decide +kernel) ?_
     skip
     refine RL.u (.loadB1 (v := (i64 p)) hS185 extEq (i := 0) rfl (.t rfl) Tryz.isAgg3 rfl) rfl ?_
     refine RL.nil (RA.next ?_)
     refine RA.one (i := 5) (by decide +kernel) ?_
     skip
     refine RL.st hS185 (i := 2) rfl (.t rfl) (.t rfl) Tryz.sizeOf3 rfl rfl rfl rfl rfl (fun w206 hS207 => ?_)
     refine RL.nil (RA.next ?_)
     refine RA.one (i := 6) (by decide +kernel) ?_
     skip
     refine RL.st hS207 (i := 3) rfl (.t rfl) (.t rfl) Tryz.sizeOf25 rfl rfl rfl rfl rfl (fun w208 hS209 => ?_)
     refine RL.nil (RA.next ?_)
     refine RA.nil (by decide +kernel) ?_
     replace hS209 : St w M0 w208 M (.box bx [(.slice none 0 0)] 24 :: .box by_ [(i64 p)] 3 :: .box bz [(i64 ec)] 25 :: Rs) := hS209.erase 0 rfl
     refine  (hend ?_)
     exact hS209
  ·skip
   refine RL.u (.fldA (q := ⟨b2, 0, none⟩) (.t rfl) (fun w => by kernel_rfl)) rfl ?_
   refine RL.nil (RA.next ?_)
   refine RA.two (i := 0) (j := 3) (by decide +kernel) ?_ ?_
   ·skip
    refine RL.u (.fldA (q := ⟨b2, 1, none⟩) (.t rfl) (fun w => by kernel_rfl)) rfl ?_
    refine RL.nil (RA.next ?_)
    refine RA.two (i := 1) (j := 3) (by decide +kernel) ?_ ?_
    ·skip
     refine RL.u (.loadB1 (v := (i64 p)) hS185 extEq (i := 0) rfl (.t rfl) Tryz.isAgg3 rfl) rfl ?_
     refine RL.nil (RA.next ?_)
     refine RA.two (i := 3) (j := 5) (by decide +kernel) ?_ ?_
     ·skip
      refine RL.u (.loadB1 (v := (i64 ec)) hS185 extEq (i := 0) rfl (.t rfl) Tryz.isAgg25 rfl) rfl ?_
      refine RL.nil (RA.next ?_)
      refine RA.one (i := 5) (by decide +kernel) ?_
      skip
      refine RL.st hS185 (i := 2) rfl (.t rfl) (.t rfl) Tryz.sizeOf3 rfl rfl rfl rfl rfl (fun w210 hS211 => ?_)
      refine RL.nil (RA.next ?_)
      refine RA.one (i := 6) (by decide +kernel) ?_
      skip
      refine RL.st hS211 (i := 3) rfl (.t rfl) (.t rfl) Tryz.sizeOf25 rfl rfl rfl rfl rfl (fun w212 hS213 => ?_)
      refine RL.nil (RA.next ?_)
      refine RA.nil (by decide +kernel) ?_
      replace hS213 : St w M0 w212 M (.box bx [(.slice none 0 0)] 24 :: .box by_ [(i64 p)] 3 :: .box bz [(i64 ec)] 25 :: Rs) := hS213.erase 0 rfl
      refine  (hend ?_)
      exact hS213
     ·skip
      refine RL.st hS185 (i := 2) rfl (.t rfl) (.t rfl) Tryz.sizeOf3 rfl rfl rfl rfl rfl (fun w214 hS215 => ?_)
      refine RL.nil (RA.next ?_)
      refine RA.one (i := 3) (by decide +kernel) ?_
      skip
      refine RL.u (.loadB1 (v := (i64 ec)) hS215 extEq (i := 0) rfl (.t rfl) Tryz.isAgg25 rfl) rfl ?_
      refine RL.nil (RA.next ?_)
      refine RA.one (i := 6) (by decide +kernel) ?_
      skip
      refine RL.st hS215 (i := 3) rfl (.t rfl) (.t rfl) Tryz.sizeOf25 rfl rfl rfl rfl rfl (fun w216 hS217 => ?_)
      refine RL.nil (RA.next ?_)
      refine RA.nil (by decide +kernel) ?_
      replace hS217 : St w M0 w216 M (.box bx [(.slice none 0 0)] 24 :: .box by_ [(i64 p)] 3 :: .box bz [(i64 ec)] 25 :: Rs) := hS217.erase 0 rfl
      refine  (hend ?_)
      exact hS217
    ·skip
     refine RL.u (.loadB1 (v := (i64 ec)) hS185 extEq (i := 0) rfl (.t rfl) Tryz.isAgg25 rfl) rfl ?_
     refine RL.nil (RA.next ?_)
     refine RA.one (i := 1) (by decide +kernel) ?_
     skip
     refine RL.u (.loadB1 (v := (i64 p)) hS185 extEq (i := 0) rfl (.t rfl) Tryz.isAgg3 rfl) rfl ?_
     refine RL.nil (RA.next ?_)
     refine RA.one (i := 5) (by decide +kernel) ?_
     skip
     refine RL.st hS185 (i := 2) rfl (.t rfl) (.t rfl) Tryz.sizeOf3 rfl rfl rfl rfl rfl (fun w218 hS219 => ?_)
     refine RL.nil (RA.next ?_)
     refine RA.one (i := 6) (by decide +kernel) ?_
     skip
     refine RL.st hS219 (i := 3) rfl (.t rfl) (.t rfl) Tryz.sizeOf25 rfl rfl rfl rfl rfl (fun w220 hS221 => ?_)
     refine RL.nil (RA.next ?_)
     refine RA.nil (by decide +kernel) ?_
     replace hS221 : St w M0 w220 M (.box bx [(.slice none 0 0)] 24 :: .box by_ [(i64 p)] 3 :: .box bz [(i64 ec)] 25 :: Rs) := hS221.erase 0 rfl
     refine  (hend ?_)
     exact hS221
   ·skip
    refine RL.u (.loadB1 (v := (i64 ec)) hS185 extEq (i := 0) rfl (.t rfl) Tryz.isAgg25 rfl) rfl ?_
    refine RL.nil (RA.next ?_)
    refine RA.one (i := 0) (by decide +kernel) ?_
    skip
    refine RL.u (.fldA (q := ⟨b2, 1, none⟩) (.t rfl) (fun w => by kernel_rfl)) rfl ?_
    refine RL.nil (RA.next ?_)
    refine RA.one (i := 1) (by decide +kernel) ?_
    skip
    refine RL.u (.loadB1 (v := (i64 p)) hS185 extEq (i := 0) rfl (.t rfl) Tryz.isAgg3 rfl) rfl ?_
    refine RL.nil (RA.next ?_)
    refine RA.one (i := 5) (by decide +kernel) ?_
    skip
    refine RL.st hS185 (i := 2) rfl (.t rfl) (.t rfl) Tryz.sizeOf3 rfl rfl rfl rfl rfl (fun w222 hS223 => ?_)
    refine RL.nil (RA.next ?_)
    refine RA.one (i := 6) (by decide +kernel) ?_
    skip
    refine RL.st hS223 (i := 3) rfl (.t rfl) (.t rfl) Tryz.sizeOf25 rfl rfl rfl rfl rfl (fun w224 hS225 => ?_)
    refine RL.nil (RA.next ?_)
    refine RA.nil (by decide +kernel) ?_
    replace hS225 : St w M0 w224 M (.box bx [(.slice none 0 0)] 24 :: .box by_ [(i64 p)] 3 :: .box bz [(i64 ec)] 25 :: Rs) := hS225.erase 0 rfl
    refine  (hend ?_)
    exact hS225

end Go.Proofs.YtjfaikgooldcbaaGreatDoor
