/-

-/
import Derived.Test.YtjfaikgooldcbaaGreatDoorZc5
import Derived.Laws.BitsLemmas
import Derived.Test.YtjfaikgooldcbaaGreatDoorZc3
import Derived.Test.YtjfaikgooldcbaaGreatDoorProg
import Derived.Test.YtjfaikgooldcbaaGreatDoorZc15
import Derived.Test.YtjfaikgooldcbaaGreatDoorZc16
import Derived.Test.YtjfaikgooldcbaaGreatDoorZc6
set_option linter.unusedVariables false
set_option linter.unusedSimpArgs false
set_option maxRecDepth 100000
namespace Go.Proofs.YtjfaikgooldcbaaGreatDoor
open Go.Eng

/- (*loupe/text.parser).object -/
theorem objectp_c {w wv : World} {M0 M : Mem} {Rs : List HO} (s : Str) (i d : Int) (pb : Nat) (Fu : Nat) (hS : St w M0 wv M (.box pb [(str s), (i64 i)] 55 :: Rs)) (h0 : 0 ≤ i) (h1 : i < len s) (hb : len s ≤ 1099511627776) (hg : Gl w) (hd : 0 ≤ d ∧ d ≤ 900) (hf : 2 * (len s - i) ≤ Fu) (hval : ∀ f, f < Fu → ValOK w M0 s pb f) :
  Calls Tryz.prog 46 [(.pointer (some ⟨pb, 0, none⟩)), (i64 d)].toArray wv fun e w' => PPost w M0 M Rs 51 (fun x j v M' w' => ∃ a c, v = .slice a x.length c ∧ i + 1 ≤ j ∧ j ≤ len s ∧ len x ≤ j - i ∧ Sl M' 6 x.length (.slice a x.length c) (x.flatMap Nd.cells) ∧ St w M0 w' M' (.box pb [str s, i64 j] 55 :: Rs)) (mapR objV (partsT s i [125] [] (pairsT Fu s d))) e w' := by
 refine CW.enter1 Tryz.func46 rfl Tryz.ntmps46 (Nat.le_of_ble_eq_true rfl) fun Q hE => ?_
 refine CW.weaken [0, 1] (L' := [Y 0 (.pointer (some ⟨pb, 0, none⟩)), Y 1 (i64 d)]) ?_ rfl
 refine CW.sr ?_
 refine RL.box (v := (.pointer (some ⟨pb, 0, none⟩))) hS (.t rfl) rfl (fun w1 b2 hS3 => ?_)
 refine RL.box (v := (i64 d)) hS3 (.t rfl) rfl (fun w4 b5 hS6 => ?_)
 have hS7 := hS6.ownNil 38 6
 refine RL.u (.assign .c) rfl (RL.nil (CW.id ?_))
 refine CW.sr ?_
 refine RL.smakeMap hS7 rfl (fun w8 b9 hS10 => ?_)
 refine RL.alloc hS10 Tryz.zeroValue106 rfl (fun w11 b12 hS13 => ?_)
 refine RL.st hS13 (i := 0) rfl (.t rfl) (.t rfl) Tryz.sizeOf106 rfl rfl rfl rfl rfl (fun w14 hS15 => (RL.nil (CW.id ?_)))
 refine CW.sr (RL.u (.loadB1 (v := (.pointer (some ⟨pb, 0, none⟩))) hS15 extEq (i := 4) rfl (.t rfl) Tryz.isAgg53 rfl) rfl (RL.u (.makeFunc .nil (.cons (.t rfl) (.cons (.t rfl) (.cons (.t rfl) .nil)))) rfl ?_))
 replace hS15 := (hS15.front 1 rfl rfl).front 1 rfl rfl
 replace hS15 := (hS15.front 3 rfl rfl).front 4 rfl rfl
 replace hS15 := hS15.front 5 rfl rfl
 refine RL.callR Tryz.call72 (.cons (.t rfl) (.cons .c (.cons (.t rfl) .nil))) (obj_parts (Rs := (.own 38 6 (.slice none 0 0) (([] : List Nd)).length ((([] : List Nd)).flatMap Nd.cells) :: Rs)) s i d pb b2 b5 b12 b9 Fu hS15 h0 h1 hb hg hd hf hval) rfl (fun ec p M25 w26 hr29 hS27 hle28 => ?_) (fun x16 j17 v18 M20 w19 hr21 hF24 hle23 => ?_)
 ·replace hS27 := hS27.drop Rs (List.sublist_append_right [_] _)
  exact hE.p (PPost.er (show mapR _ _ = _ from by rw [hr29]; rfl) hS27 hle28)
 obtain ⟨hF24a, hF24b, ⟨hF24c, hF24d⟩, hk, hut, l2, c2, hmap, hbo, hS22⟩ := hF24
 refine RL.nil (CW.at [Y 5 (.pointer (some ⟨b12, 0, none⟩))] rfl (CW.sr ?_))
 have hS30 := hS22.ownNil 9 1
 refine RL.u (.assign .c) rfl (RL.nil (CW.id ?_))
 refine CW.sr ?_
 have hS31 := hS30.ownNil 24 1
 refine RL.u (.assign .c) rfl (RL.nil (CW.id ?_))
 refine CW.seq (CW.sr (RL.u (.loadB1 (v := (.map (some b9))) hS31 extEq (i := 5) rfl (.t rfl) Tryz.isAgg106 rfl) rfl ?_))
 refine RL.srangeM hS31 (i := 6) rfl (.t rfl) Tryz.underlying106 rfl (fun w32 b33 hS34 => ?_)
 refine RL.nil (CW.id (CW.block ?_))
 refine CW.loop (σ := List Str × List Vl × Value × Value × List SlH × Array Nat × Mem) (fun (ns, xs, v6, v7, rs, sn, Ml) => [Y 6 v6, Y 7 v7, Y 17 (.pointer (some ⟨b33, 0, none⟩))]) (fun (ns, xs, v6, v7, rs, sn, Ml) wl => St w M0 wl Ml (.raw b33 (.mapIter (some b9) c2 sn c2) :: .own 24 1 v7 rs.length (rs.flatMap valI) :: .own 9 1 v6 ns.length (ns.flatMap strC) :: .box pb [(str s), (i64 j17)] 55 :: .box b2 [(.pointer (some ⟨pb, 0, none⟩))] 53 :: .box b5 [(i64 d)] 3 :: .box b12 [(.map (some b9))] 106 :: .raw b9 (smobj l2 c2) :: .own 38 6 (.slice none 0 0) (([] : List Nd)).length ((([] : List Nd)).flatMap Nd.cells) :: Rs) ∧ MapV Ml l2 x16 ∧ VisS l2 x16 sn ns xs ∧ RowsV Ml 6 Nd.cells rs xs ∧ M.le Ml) (fun (ns, xs, v6, v7, rs, sn, Ml) => x16.length - ns.length) (([], [], .slice none 0 0, .slice none 0 0, ([] : List SlH), #[], M20)) [6, 7, 17] rfl ?_ ?_
 ·refine ⟨hS34, hmap, ?_⟩; exact ⟨VisS.start _ _, trivial, hle23⟩
 ·rintro ⟨ns, xs, v6, v7, rs, sn, Ml⟩ wl ⟨hS35, hmap, hvs, hro, hle0⟩
  have hvn : len ns ≤ 1099511627776 := by have := hvs.le (M := Ml); unfold len at *; omega
  have hrn : len rs = len ns := by unfold len; rw [hro.len, hvs.eq]
  refine CW.sr ?_
  refine RL.snextM hS35 (i := 7) (j := 0) rfl rfl (.t rfl) hbo.1 (Nat.le_refl _) rfl (fun p38 hp39 hns40 w36 hS37 => ?_) (fun hall => ?_)
  ·obtain ⟨pk41, ph42, pb43, px44, rfl, hm45, hsl46⟩ := hmap.mem hp39
   refine RL.u (.ex (.t rfl) rfl) rfl (RL.nil (CW.id ?_))
   refine CW.seq (CW.cond rfl (fun _ => ?_) (fun h => by cases h))
   refine CW.skip (CW.id (CW.block (CW.sr (RL.u (.sentry hS37 extEq (i := 7) (j := 0) rfl rfl (.t rfl) hp39 hbo.2) rfl (RL.u (.ex (.t rfl) rfl) rfl (RL.u (.ex (.t rfl) rfl) rfl (RL.a rfl rfl (RL.a rfl rfl (RL.nil (CW.id ?_))))))))))
   refine CW.region (RL.m rfl rfl (RL.m rfl rfl ?_))
   refine RL.buildSlice (n := 1) (sz := 1) (e := 9) (vs := [(0, (str pk41))]) (cs := [(str pk41)]) hS37 (.cons (.t rfl) .nil) rfl rfl (fun w => by kernel_rfl) rfl (fun v47 w48 M49 hS50 hle51 => ?_)
   replace hmap := hmap.mono hle51
   replace hsl46 := hsl46.mono hle51
   refine RL.append1 (f := strC) (l := ns) (y := pk41) hS50 (k := 3) rfl (.t rfl) (.t rfl) (hS50.sl (i := 0) rfl) Tryz.underlying46 Tryz.type9 rfl rfl rfl strC_one (by' := 16) rfl rfl (by omega) rfl (Hs' := fun v' => (.own 9 1 v47 (([pk41] : List Str)).length ((([pk41] : List Str)).flatMap strC) :: .raw b33 (.mapIter (some b9) c2 (sn.push pb43) c2) :: .own 24 1 v7 rs.length (rs.flatMap valI) :: .own 9 1 v' (ns ++ [pk41]).length ((ns ++ [pk41]).flatMap strC) :: .box pb [(str s), (i64 j17)] 55 :: .box b2 [(.pointer (some ⟨pb, 0, none⟩))] 53 :: .box b5 [(i64 d)] 3 :: .box b12 [(.map (some b9))] 106 :: .raw b9 (smobj l2 c2) :: .own 38 6 (.slice none 0 0) (([] : List Nd)).length ((([] : List Nd)).flatMap Nd.cells) :: Rs)) (fun _ => rfl) (fun v52 w53 M54 hS55 hle56 => ?_)
   replace hS55 := hS55.erase 0 rfl
   replace hmap := hmap.mono hle56
   replace hsl46 := hsl46.mono hle56
   refine RL.m rfl rfl (RL.m rfl rfl ?_)
   refine RL.buildSlice (n := 1) (sz := 1) (e := 24) (vs := [(0, ph42.v)]) (cs := [ph42.v]) hS55 (.cons (.t rfl) .nil) rfl rfl (fun w => by kernel_rfl) rfl (fun v57 w58 M59 hS60 hle61 => ?_)
   replace hmap := hmap.mono hle61
   replace hsl46 := hsl46.mono hle61
   refine RL.append1 (f := valI) (l := rs) (y := ph42) hS60 (k := 2) rfl (.t rfl) (.t rfl) (hS60.sl (i := 0) rfl) Tryz.underlying47 Tryz.type24 rfl rfl rfl valI_one (by' := 24) rfl rfl (by omega) rfl (Hs' := fun v' => (.own 24 1 v57 (([ph42] : List SlH)).length ((([ph42] : List SlH)).flatMap valI) :: .raw b33 (.mapIter (some b9) c2 (sn.push pb43) c2) :: .own 24 1 v' (rs ++ [ph42]).length ((rs ++ [ph42]).flatMap valI) :: .own 9 1 v52 (ns ++ [pk41]).length ((ns ++ [pk41]).flatMap strC) :: .box pb [(str s), (i64 j17)] 55 :: .box b2 [(.pointer (some ⟨pb, 0, none⟩))] 53 :: .box b5 [(i64 d)] 3 :: .box b12 [(.map (some b9))] 106 :: .raw b9 (smobj l2 c2) :: .own 38 6 (.slice none 0 0) (([] : List Nd)).length ((([] : List Nd)).flatMap Nd.cells) :: Rs)) (fun _ => rfl) (fun v62 w63 M64 hS65 hle66 => ?_)
   replace hS65 := hS65.erase 0 rfl
   replace hmap := hmap.mono hle66
   replace hsl46 := hsl46.mono hle66
   refine RL.a rfl rfl (RL.a rfl rfl ?_)
   refine RL.nil fun a hs => Exists.intro ((ns ++ [pk41], xs ++ [px44], v52, v62, rs ++ [ph42], sn.push pb43, M64)) ⟨hs.keep [6, 7, 17], ?_, ?_⟩
   ·refine ⟨hS65, hmap, ?_⟩
    exact ⟨hvs.step hmap hk hp39 hns40 hm45, RowsV.snoc hsl46 (hro.mono ((((hle51.trans hle56).trans hle61).trans hle66))), ((((hle0.trans hle51).trans hle56).trans hle61).trans hle66)⟩
   ·have hvl := (hvs.step hmap hk hp39 hns40 hm45).le (M := Ml); simp only [List.length_append, List.length_cons, List.length_nil] at *; omega
  ·obtain ⟨hal1, hal2, hal3, hal4, hal5, hal6, hal7, hal8⟩ := hvs.all hmap hk hut hbo hall
   refine RL.u (.ex (.t rfl) rfl) rfl (RL.nil (CW.id ?_))
   refine CW.seq (CW.cond rfl (fun h => by cases h) (fun _ => (CW.exit (CW.at [Y 6 v6, Y 7 v7] rfl (CW.sr ?_)))))
   refine RL.m rfl rfl (RL.m rfl rfl ?_)
   refine RL.callP Tryz.call76 (.cons (.t rfl) (.cons (.t rfl) .nil)) (vobject_c (Rs := (.raw b33 (.mapIter (some b9) c2 sn c2) :: .own 24 1 v7 rs.length (rs.flatMap valI) :: .own 9 1 v6 ns.length (ns.flatMap strC) :: .box pb [(str s), (i64 j17)] 55 :: .box b2 [(.pointer (some ⟨pb, 0, none⟩))] 53 :: .box b5 [(i64 d)] 3 :: .box b12 [(.map (some b9))] 106 :: .raw b9 (smobj l2 c2) :: .own 38 6 (.slice none 0 0) (([] : List Nd)).length ((([] : List Nd)).flatMap Nd.cells) :: Rs)) ns rs xs v6 v7 hS35 (hS35.sl (i := 2) rfl) (hS35.sl (i := 1) rfl) hro (by omega) hg hal3 hal4 hal5 (by omega) hal6 (by omega)) rfl ?_
   rintro v69 w70 ⟨a67, c68, M71, rfl, hsl_o, hS72, hle73⟩
   replace hmap := hmap.mono hle73
   refine RL.m rfl rfl (RL.u (.ex (.t rfl) rfl) rfl (RL.u (.ex (.t rfl) rfl) rfl (RL.a rfl rfl (RL.a rfl rfl ?_))))
   refine RL.nil (CW.at [Y 10 (.slice a67 (objV (ns.zip xs)).length c68)] rfl (CW.sr (RL.m rfl rfl (RL.a rfl rfl (RL.nil (CW.id ?_))))))
   refine CW.ret (hE.r1 rfl rfl ?_)
   have hslr := hsl_o
   replace hS72 := (hS72.erase 8 rfl).erase 7 rfl
   replace hS72 := (hS72.erase 6 rfl).erase 5 rfl
   replace hS72 := (hS72.erase 4 rfl).erase 2 rfl
   replace hS72 := (hS72.erase 1 rfl).erase 0 rfl
   have hole := objV_le hk
   rw [hal8] at hslr
   exact PPost.ok (show mapR _ _ = _ from by rw [hr21]; rfl) ⟨_, _, by rw [hal8], by omega, by omega, by omega, hslr, hS72⟩ (hle0.trans hle73)

end Go.Proofs.YtjfaikgooldcbaaGreatDoor
set_option maxRecDepth 100000
namespace Go.Proofs.YtjfaikgooldcbaaGreatDoor
open Go.Eng

theorem obj_ok {w : World} {M0 : Mem} (s : Str) (pb Fu : Nat) (hg : Gl w) (hb : len s ≤ 1099511627776) (hval : ∀ f, f < Fu → ValOK w M0 s pb f) : ObjOK w M0 s pb Fu :=
  fun i d hS h0 h1 hd hf => objectp_c s i d pb Fu hS h0 h1 hb hg hd hf hval
/-- value, at every fuel. -/
theorem val_all {w : World} {M0 : Mem} (s : Str) (pb : Nat) (hg : Gl w) (hb : len s ≤ 1099511627776) : ∀ f, ValOK w M0 s pb f := by
  intro f
  induction f using Nat.strongRecOn with
  | _ f ih =>
    cases f with
    | zero => intro Rs wv M i d hS h0 h1 hd0 hd1 hf; omega
    | succ f =>
      intro Rs wv M i d hS h0 h1 hd0 hd1 hf
      exact value_c s i d pb f hS h0 h1 hb hg ⟨hd0, hd1⟩ (by omega) (fun f2 h => ih f2 (by omega)) (obj_ok s pb f hg hb fun f2 h => ih f2 (by omega))
end Go.Proofs.YtjfaikgooldcbaaGreatDoor
set_option maxRecDepth 100000
namespace Go.Proofs.YtjfaikgooldcbaaGreatDoor
open Go.Eng

theorem pdefer_ret {w wv : World} {M0 M : Mem} {Rs : List HO} (bx by_ bz : Nat) (x y z : Value) (hS : St w M0 wv M (.box bx [x] 24 :: .box by_ [y] 3 :: .box bz [z] 25 :: Rs)) :
  CallsD Tryz.prog 25 [.pointer (some ⟨bx, 0, none⟩), .pointer (some ⟨by_, 0, none⟩), .pointer (some ⟨bz, 0, none⟩)].toArray (.returning) wv (fun e u' w' => e = .returned (.tuple #[]) ∧ u' = (recMode (.returning)).2 ∧ St w M0 w' M (.box bx [x] 24 :: .box by_ [y] 3 :: .box bz [z] 25 :: Rs)) := by
 refine enterS (S := fun w' => St w M0 w' M (.box bx [x] 24 :: .box by_ [y] 3 :: .box bz [z] 25 :: Rs)) Tryz.func25 rfl Tryz.ntmps25 (Nat.le_of_ble_eq_true rfl) rfl rfl rfl rfl (fun a w => rfl) fun K Q hK hQ => ?_
 have hend : ∀ {L : Env} {w' : World}, St w M0 w' M (.box bx [x] 24 :: .box by_ [y] 3 :: .box bz [z] 25 :: Rs) → ∀ a, Slots a 15 L → Q .normal a w' := fun h a hs => hQ a _ hs.dfr h
 refine RL.u (.assertsNo (.t rfl) Tryz.underlying51 Tryz.zeroValue51) rfl (RL.m rfl rfl (RL.u (.ex (.t rfl) rfl) rfl (RL.u (.ex (.t rfl) rfl) rfl ?_)))
 refine RL.alloc hS Tryz.zeroValue51 rfl (fun w1 b2 hS3 => ?_)
 refine RL.st hS3 (i := 0) rfl (.t rfl) (.t rfl) Tryz.sizeOf51 rfl rfl rfl rfl rfl (fun w4 hS5 => ?_)
 refine RL.a rfl rfl ?_
 refine RL.nil fun a hs => hK a _ (CW.id ?_ a hs)
 refine CW.sr (RL.m rfl rfl (RL.nil (CW.id (CW.cond rfl (fun h => by cases h) (fun _ => ?_)))))
 replace hS5 := hS5.erase 0 rfl
 refine CW.skip (hend ?_)
 exact hS5

theorem pdefer_pan {w wv : World} {M0 M : Mem} {Rs : List HO} (ec p : Int) (bx by_ bz : Nat) (x y z : Value) (hS : St w M0 wv M (.box bx [x] 24 :: .box by_ [y] 3 :: .box bz [z] 25 :: Rs)) :
  CallsD Tryz.prog 25 [.pointer (some ⟨bx, 0, none⟩), .pointer (some ⟨by_, 0, none⟩), .pointer (some ⟨bz, 0, none⟩)].toArray (.panicking [wrongE 51 ec p]) wv (fun e u' w' => e = .returned (.tuple #[]) ∧ u' = (recMode (.panicking [wrongE 51 ec p])).2 ∧ St w M0 w' M (.box bx [.slice none 0 0] 24 :: .box by_ [i64 p] 3 :: .box bz [i64 ec] 25 :: Rs)) := by
 refine enterS (S := fun w' => St w M0 w' M (.box bx [.slice none 0 0] 24 :: .box by_ [i64 p] 3 :: .box bz [i64 ec] 25 :: Rs)) Tryz.func25 rfl Tryz.ntmps25 (Nat.le_of_ble_eq_true rfl) rfl rfl rfl rfl (fun a w => rfl) fun K Q hK hQ => ?_
 have hend : ∀ {L : Env} {w' : World}, St w M0 w' M (.box bx [.slice none 0 0] 24 :: .box by_ [i64 p] 3 :: .box bz [i64 ec] 25 :: Rs) → ∀ a, Slots a 15 L → Q .normal a w' := fun h a hs => hQ a _ hs.dfr h
 refine RL.u (.asserts (.t rfl) Tryz.underlying51) rfl (RL.m rfl rfl (RL.u (.ex (.t rfl) rfl) rfl (RL.u (.ex (.t rfl) rfl) rfl ?_)))
 refine RL.alloc hS Tryz.zeroValue51 rfl (fun w1 b2 hS3 => ?_)
 refine RL.st hS3 (i := 0) rfl (.t rfl) (.t rfl) Tryz.sizeOf51 rfl rfl rfl rfl rfl (fun w4 hS5 => ?_)
 refine RL.a rfl rfl ?_
 refine RL.nil fun a hs => hK a _ (CW.id ?_ a hs)
 refine CW.sr (RL.m rfl rfl (RL.nil (CW.id (CW.cond rfl (fun _ => ?_) (fun h => by cases h)))))
 refine CW.regionA hS5 tryz_mixed (fun w6 hS7 => (RA.three (i := 0) (j := 2) (k := 4) (by decide +kernel) ?_ ?_ ?_))
 ·refine RL.u (.fldA (q := ⟨b2, 1, none⟩) (.t rfl) (fun w => by kernel_rfl)) rfl (RL.nil (RA.next (RA.three (i := 1) (j := 2) (k := 4) (by decide +kernel) ?_ ?_ ?_)))
  ·refine RL.u (.loadB1 (v := (i64 p)) hS7 extEq (i := 0) rfl (.t rfl) Tryz.isAgg3 rfl) rfl (RL.nil (RA.next (RA.two (i := 2) (j := 4) (by decide +kernel) ?_ ?_)))
   ·refine RL.u (.fldA (q := ⟨b2, 0, none⟩) (.t rfl) (fun w => by kernel_rfl)) rfl (RL.nil (RA.next (RA.two (i := 3) (j := 4) (by decide +kernel) ?_ ?_)))
    ·refine RL.u (.loadB1 (v := (i64 ec)) hS7 extEq (i := 0) rfl (.t rfl) Tryz.isAgg25 rfl) rfl (RL.nil (RA.next (RA.one (i := 4) (by decide +kernel) ?_)))
     refine RL.st (v := (.slice none 0 0)) hS7 (i := 1) rfl (.t rfl) .c Tryz.sizeOf24 rfl rfl rfl rfl rfl (fun w8 hS9 => (RL.nil (RA.next (RA.one (i := 5) (by decide +kernel) ?_))))
     refine RL.st hS9 (i := 2) rfl (.t rfl) (.t rfl) Tryz.sizeOf3 rfl rfl rfl rfl rfl (fun w10 hS11 => (RL.nil (RA.next (RA.one (i := 6) (by decide +kernel) ?_))))
     refine RL.st hS11 (i := 3) rfl (.t rfl) (.t rfl) Tryz.sizeOf25 rfl rfl rfl rfl rfl (fun w12 hS13 => (RL.nil (RA.next (RA.nil (by decide +kernel) ?_))))
     exact hend (hS13.erase 0 rfl)
    ·refine RL.st (v := (.slice none 0 0)) hS7 (i := 1) rfl (.t rfl) .c Tryz.sizeOf24 rfl rfl rfl rfl rfl (fun w14 hS15 => (RL.nil (RA.next (RA.two (i := 3) (j := 5) (by decide +kernel) ?_ ?_))))
     ·refine RL.u (.loadB1 (v := (i64 ec)) hS15 extEq (i := 0) rfl (.t rfl) Tryz.isAgg25 rfl) rfl (RL.nil (RA.next (RA.one (i := 5) (by decide +kernel) ?_)))
      refine RL.st hS15 (i := 2) rfl (.t rfl) (.t rfl) Tryz.sizeOf3 rfl rfl rfl rfl rfl (fun w16 hS17 => (RL.nil (RA.next (RA.one (i := 6) (by decide +kernel) ?_))))
      refine RL.st hS17 (i := 3) rfl (.t rfl) (.t rfl) Tryz.sizeOf25 rfl rfl rfl rfl rfl (fun w18 hS19 => (RL.nil (RA.next (RA.nil (by decide +kernel) ?_))))
      exact hend (hS19.erase 0 rfl)
     ·refine RL.st hS15 (i := 2) rfl (.t rfl) (.t rfl) Tryz.sizeOf3 rfl rfl rfl rfl rfl (fun w20 hS21 => (RL.nil (RA.next (RA.one (i := 3) (by decide +kernel) ?_))))
      refine RL.u (.loadB1 (v := (i64 ec)) hS21 extEq (i := 0) rfl (.t rfl) Tryz.isAgg25 rfl) rfl (RL.nil (RA.next (RA.one (i := 6) (by decide +kernel) ?_)))
      refine RL.st hS21 (i := 3) rfl (.t rfl) (.t rfl) Tryz.sizeOf25 rfl rfl rfl rfl rfl (fun w22 hS23 => (RL.nil (RA.next (RA.nil (by decide +kernel) ?_))))
      exact hend (hS23.erase 0 rfl)
   ·refine RL.st (v := (.slice none 0 0)) hS7 (i := 1) rfl (.t rfl) .c Tryz.sizeOf24 rfl rfl rfl rfl rfl (fun w24 hS25 => (RL.nil (RA.next (RA.two (i := 2) (j := 5) (by decide +kernel) ?_ ?_))))
    ·refine RL.u (.fldA (q := ⟨b2, 0, none⟩) (.t rfl) (fun w => by kernel_rfl)) rfl (RL.nil (RA.next (RA.two (i := 3) (j := 5) (by decide +kernel) ?_ ?_)))
     ·refine RL.u (.loadB1 (v := (i64 ec)) hS25 extEq (i := 0) rfl (.t rfl) Tryz.isAgg25 rfl) rfl (RL.nil (RA.next (RA.one (i := 5) (by decide +kernel) ?_)))
      refine RL.st hS25 (i := 2) rfl (.t rfl) (.t rfl) Tryz.sizeOf3 rfl rfl rfl rfl rfl (fun w26 hS27 => (RL.nil (RA.next (RA.one (i := 6) (by decide +kernel) ?_))))
      refine RL.st hS27 (i := 3) rfl (.t rfl) (.t rfl) Tryz.sizeOf25 rfl rfl rfl rfl rfl (fun w28 hS29 => (RL.nil (RA.next (RA.nil (by decide +kernel) ?_))))
      exact hend (hS29.erase 0 rfl)
     ·refine RL.st hS25 (i := 2) rfl (.t rfl) (.t rfl) Tryz.sizeOf3 rfl rfl rfl rfl rfl (fun w30 hS31 => (RL.nil (RA.next (RA.one (i := 3) (by decide +kernel) ?_))))
      refine RL.u (.loadB1 (v := (i64 ec)) hS31 extEq (i := 0) rfl (.t rfl) Tryz.isAgg25 rfl) rfl (RL.nil (RA.next (RA.one (i := 6) (by decide +kernel) ?_)))
      refine RL.st hS31 (i := 3) rfl (.t rfl) (.t rfl) Tryz.sizeOf25 rfl rfl rfl rfl rfl (fun w32 hS33 => (RL.nil (RA.next (RA.nil (by decide +kernel) ?_))))
      exact hend (hS33.erase 0 rfl)
    ·refine RL.st hS25 (i := 2) rfl (.t rfl) (.t rfl) Tryz.sizeOf3 rfl rfl rfl rfl rfl (fun w34 hS35 => (RL.nil (RA.next (RA.one (i := 2) (by decide +kernel) ?_))))
     refine RL.u (.fldA (q := ⟨b2, 0, none⟩) (.t rfl) (fun w => by kernel_rfl)) rfl (RL.nil (RA.next (RA.one (i := 3) (by decide +kernel) ?_)))
     refine RL.u (.loadB1 (v := (i64 ec)) hS35 extEq (i := 0) rfl (.t rfl) Tryz.isAgg25 rfl) rfl (RL.nil (RA.next (RA.one (i := 6) (by decide +kernel) ?_)))
     refine RL.st hS35 (i := 3) rfl (.t rfl) (.t rfl) Tryz.sizeOf25 rfl rfl rfl rfl rfl (fun w36 hS37 => (RL.nil (RA.next (RA.nil (by decide +kernel) ?_))))
     exact hend (hS37.erase 0 rfl)
  ·refine RL.u (.fldA (q := ⟨b2, 0, none⟩) (.t rfl) (fun w => by kernel_rfl)) rfl (RL.nil (RA.next (RA.three (i := 1) (j := 3) (k := 4) (by decide +kernel) ?_ ?_ ?_)))
   ·refine RL.u (.loadB1 (v := (i64 p)) hS7 extEq (i := 0) rfl (.t rfl) Tryz.isAgg3 rfl) rfl (RL.nil (RA.next (RA.two (i := 3) (j := 4) (by decide +kernel) ?_ ?_)))
    ·refine RL.u (.loadB1 (v := (i64 ec)) hS7 extEq (i := 0) rfl (.t rfl) Tryz.isAgg25 rfl) rfl (RL.nil (RA.next (RA.one (i := 4) (by decide +kernel) ?_)))
     refine RL.st (v := (.slice none 0 0)) hS7 (i := 1) rfl (.t rfl) .c Tryz.sizeOf24 rfl rfl rfl rfl rfl (fun w38 hS39 => (RL.nil (RA.next (RA.one (i := 5) (by decide +kernel) ?_))))
     refine RL.st hS39 (i := 2) rfl (.t rfl) (.t rfl) Tryz.sizeOf3 rfl rfl rfl rfl rfl (fun w40 hS41 => (RL.nil (RA.next (RA.one (i := 6) (by decide +kernel) ?_))))
     refine RL.st hS41 (i := 3) rfl (.t rfl) (.t rfl) Tryz.sizeOf25 rfl rfl rfl rfl rfl (fun w42 hS43 => (RL.nil (RA.next (RA.nil (by decide +kernel) ?_))))
     exact hend (hS43.erase 0 rfl)
    ·refine RL.st (v := (.slice none 0 0)) hS7 (i := 1) rfl (.t rfl) .c Tryz.sizeOf24 rfl rfl rfl rfl rfl (fun w44 hS45 => (RL.nil (RA.next (RA.two (i := 3) (j := 5) (by decide +kernel) ?_ ?_))))
     ·refine RL.u (.loadB1 (v := (i64 ec)) hS45 extEq (i := 0) rfl (.t rfl) Tryz.isAgg25 rfl) rfl (RL.nil (RA.next (RA.one (i := 5) (by decide +kernel) ?_)))
      refine RL.st hS45 (i := 2) rfl (.t rfl) (.t rfl) Tryz.sizeOf3 rfl rfl rfl rfl rfl (fun w46 hS47 => (RL.nil (RA.next (RA.one (i := 6) (by decide +kernel) ?_))))
      refine RL.st hS47 (i := 3) rfl (.t rfl) (.t rfl) Tryz.sizeOf25 rfl rfl rfl rfl rfl (fun w48 hS49 => (RL.nil (RA.next (RA.nil (by decide +kernel) ?_))))
      exact hend (hS49.erase 0 rfl)
     ·refine RL.st hS45 (i := 2) rfl (.t rfl) (.t rfl) Tryz.sizeOf3 rfl rfl rfl rfl rfl (fun w50 hS51 => (RL.nil (RA.next (RA.one (i := 3) (by decide +kernel) ?_))))
      refine RL.u (.loadB1 (v := (i64 ec)) hS51 extEq (i := 0) rfl (.t rfl) Tryz.isAgg25 rfl) rfl (RL.nil (RA.next (RA.one (i := 6) (by decide +kernel) ?_)))
      refine RL.st hS51 (i := 3) rfl (.t rfl) (.t rfl) Tryz.sizeOf25 rfl rfl rfl rfl rfl (fun w52 hS53 => (RL.nil (RA.next (RA.nil (by decide +kernel) ?_))))
      exact hend (hS53.erase 0 rfl)
   ·refine RL.u (.loadB1 (v := (i64 ec)) hS7 extEq (i := 0) rfl (.t rfl) Tryz.isAgg25 rfl) rfl (RL.nil (RA.next (RA.two (i := 1) (j := 4) (by decide +kernel) ?_ ?_)))
    ·refine RL.u (.loadB1 (v := (i64 p)) hS7 extEq (i := 0) rfl (.t rfl) Tryz.isAgg3 rfl) rfl (RL.nil (RA.next (RA.one (i := 4) (by decide +kernel) ?_)))
     refine RL.st (v := (.slice none 0 0)) hS7 (i := 1) rfl (.t rfl) .c Tryz.sizeOf24 rfl rfl rfl rfl rfl (fun w54 hS55 => (RL.nil (RA.next (RA.one (i := 5) (by decide +kernel) ?_))))
     refine RL.st hS55 (i := 2) rfl (.t rfl) (.t rfl) Tryz.sizeOf3 rfl rfl rfl rfl rfl (fun w56 hS57 => (RL.nil (RA.next (RA.one (i := 6) (by decide +kernel) ?_))))
     refine RL.st hS57 (i := 3) rfl (.t rfl) (.t rfl) Tryz.sizeOf25 rfl rfl rfl rfl rfl (fun w58 hS59 => (RL.nil (RA.next (RA.nil (by decide +kernel) ?_))))
     exact hend (hS59.erase 0 rfl)
    ·refine RL.st (v := (.slice none 0 0)) hS7 (i := 1) rfl (.t rfl) .c Tryz.sizeOf24 rfl rfl rfl rfl rfl (fun w60 hS61 => (RL.nil (RA.next (RA.one (i := 1) (by decide +kernel) ?_))))
     refine RL.u (.loadB1 (v := (i64 p)) hS61 extEq (i := 0) rfl (.t rfl) Tryz.isAgg3 rfl) rfl (RL.nil (RA.next (RA.one (i := 5) (by decide +kernel) ?_)))
     refine RL.st hS61 (i := 2) rfl (.t rfl) (.t rfl) Tryz.sizeOf3 rfl rfl rfl rfl rfl (fun w62 hS63 => (RL.nil (RA.next (RA.one (i := 6) (by decide +kernel) ?_))))
     refine RL.st hS63 (i := 3) rfl (.t rfl) (.t rfl) Tryz.sizeOf25 rfl rfl rfl rfl rfl (fun w64 hS65 => (RL.nil (RA.next (RA.nil (by decide +kernel) ?_))))
     exact hend (hS65.erase 0 rfl)
   ·refine RL.st (v := (.slice none 0 0)) hS7 (i := 1) rfl (.t rfl) .c Tryz.sizeOf24 rfl rfl rfl rfl rfl (fun w66 hS67 => (RL.nil (RA.next (RA.two (i := 1) (j := 3) (by decide +kernel) ?_ ?_))))
    ·refine RL.u (.loadB1 (v := (i64 p)) hS67 extEq (i := 0) rfl (.t rfl) Tryz.isAgg3 rfl) rfl (RL.nil (RA.next (RA.two (i := 3) (j := 5) (by decide +kernel) ?_ ?_)))
     ·refine RL.u (.loadB1 (v := (i64 ec)) hS67 extEq (i := 0) rfl (.t rfl) Tryz.isAgg25 rfl) rfl (RL.nil (RA.next (RA.one (i := 5) (by decide +kernel) ?_)))
      refine RL.st hS67 (i := 2) rfl (.t rfl) (.t rfl) Tryz.sizeOf3 rfl rfl rfl rfl rfl (fun w68 hS69 => (RL.nil (RA.next (RA.one (i := 6) (by decide +kernel) ?_))))
      refine RL.st hS69 (i := 3) rfl (.t rfl) (.t rfl) Tryz.sizeOf25 rfl rfl rfl rfl rfl (fun w70 hS71 => (RL.nil (RA.next (RA.nil (by decide +kernel) ?_))))
      exact hend (hS71.erase 0 rfl)
     ·refine RL.st hS67 (i := 2) rfl (.t rfl) (.t rfl) Tryz.sizeOf3 rfl rfl rfl rfl rfl (fun w72 hS73 => (RL.nil (RA.next (RA.one (i := 3) (by decide +kernel) ?_))))
      refine RL.u (.loadB1 (v := (i64 ec)) hS73 extEq (i := 0) rfl (.t rfl) Tryz.isAgg25 rfl) rfl (RL.nil (RA.next (RA.one (i := 6) (by decide +kernel) ?_)))
      refine RL.st hS73 (i := 3) rfl (.t rfl) (.t rfl) Tryz.sizeOf25 rfl rfl rfl rfl rfl (fun w74 hS75 => (RL.nil (RA.next (RA.nil (by decide +kernel) ?_))))
      exact hend (hS75.erase 0 rfl)
    ·refine RL.u (.loadB1 (v := (i64 ec)) hS67 extEq (i := 0) rfl (.t rfl) Tryz.isAgg25 rfl) rfl (RL.nil (RA.next (RA.one (i := 1) (by decide +kernel) ?_)))
     refine RL.u (.loadB1 (v := (i64 p)) hS67 extEq (i := 0) rfl (.t rfl) Tryz.isAgg3 rfl) rfl (RL.nil (RA.next (RA.one (i := 5) (by decide +kernel) ?_)))
     refine RL.st hS67 (i := 2) rfl (.t rfl) (.t rfl) Tryz.sizeOf3 rfl rfl rfl rfl rfl (fun w76 hS77 => (RL.nil (RA.next (RA.one (i := 6) (by decide +kernel) ?_))))
     refine RL.st hS77 (i := 3) rfl (.t rfl) (.t rfl) Tryz.sizeOf25 rfl rfl rfl rfl rfl (fun w78 hS79 => (RL.nil (RA.next (RA.nil (by decide +kernel) ?_))))
     exact hend (hS79.erase 0 rfl)
  ·refine RL.st (v := (.slice none 0 0)) hS7 (i := 1) rfl (.t rfl) .c Tryz.sizeOf24 rfl rfl rfl rfl rfl (fun w80 hS81 => (RL.nil (RA.next (RA.two (i := 1) (j := 2) (by decide +kernel) ?_ ?_))))
   ·refine RL.u (.loadB1 (v := (i64 p)) hS81 extEq (i := 0) rfl (.t rfl) Tryz.isAgg3 rfl) rfl (RL.nil (RA.next (RA.two (i := 2) (j := 5) (by decide +kernel) ?_ ?_)))
    ·refine RL.u (.fldA (q := ⟨b2, 0, none⟩) (.t rfl) (fun w => by kernel_rfl)) rfl (RL.nil (RA.next (RA.two (i := 3) (j := 5) (by decide +kernel) ?_ ?_)))
     ·refine RL.u (.loadB1 (v := (i64 ec)) hS81 extEq (i := 0) rfl (.t rfl) Tryz.isAgg25 rfl) rfl (RL.nil (RA.next (RA.one (i := 5) (by decide +kernel) ?_)))
      refine RL.st hS81 (i := 2) rfl (.t rfl) (.t rfl) Tryz.sizeOf3 rfl rfl rfl rfl rfl (fun w82 hS83 => (RL.nil (RA.next (RA.one (i := 6) (by decide +kernel) ?_))))
      refine RL.st hS83 (i := 3) rfl (.t rfl) (.t rfl) Tryz.sizeOf25 rfl rfl rfl rfl rfl (fun w84 hS85 => (RL.nil (RA.next (RA.nil (by decide +kernel) ?_))))
      exact hend (hS85.erase 0 rfl)
     ·refine RL.st hS81 (i := 2) rfl (.t rfl) (.t rfl) Tryz.sizeOf3 rfl rfl rfl rfl rfl (fun w86 hS87 => (RL.nil (RA.next (RA.one (i := 3) (by decide +kernel) ?_))))
      refine RL.u (.loadB1 (v := (i64 ec)) hS87 extEq (i := 0) rfl (.t rfl) Tryz.isAgg25 rfl) rfl (RL.nil (RA.next (RA.one (i := 6) (by decide +kernel) ?_)))
      refine RL.st hS87 (i := 3) rfl (.t rfl) (.t rfl) Tryz.sizeOf25 rfl rfl rfl rfl rfl (fun w88 hS89 => (RL.nil (RA.next (RA.nil (by decide +kernel) ?_))))
      exact hend (hS89.erase 0 rfl)
    ·refine RL.st hS81 (i := 2) rfl (.t rfl) (.t rfl) Tryz.sizeOf3 rfl rfl rfl rfl rfl (fun w90 hS91 => (RL.nil (RA.next (RA.one (i := 2) (by decide +kernel) ?_))))
     refine RL.u (.fldA (q := ⟨b2, 0, none⟩) (.t rfl) (fun w => by kernel_rfl)) rfl (RL.nil (RA.next (RA.one (i := 3) (by decide +kernel) ?_)))
     refine RL.u (.loadB1 (v := (i64 ec)) hS91 extEq (i := 0) rfl (.t rfl) Tryz.isAgg25 rfl) rfl (RL.nil (RA.next (RA.one (i := 6) (by decide +kernel) ?_)))
     refine RL.st hS91 (i := 3) rfl (.t rfl) (.t rfl) Tryz.sizeOf25 rfl rfl rfl rfl rfl (fun w92 hS93 => (RL.nil (RA.next (RA.nil (by decide +kernel) ?_))))
     exact hend (hS93.erase 0 rfl)
   ·refine RL.u (.fldA (q := ⟨b2, 0, none⟩) (.t rfl) (fun w => by kernel_rfl)) rfl (RL.nil (RA.next (RA.two (i := 1) (j := 3) (by decide +kernel) ?_ ?_)))
    ·refine RL.u (.loadB1 (v := (i64 p)) hS81 extEq (i := 0) rfl (.t rfl) Tryz.isAgg3 rfl) rfl (RL.nil (RA.next (RA.two (i := 3) (j := 5) (by decide +kernel) ?_ ?_)))
     ·refine RL.u (.loadB1 (v := (i64 ec)) hS81 extEq (i := 0) rfl (.t rfl) Tryz.isAgg25 rfl) rfl (RL.nil (RA.next (RA.one (i := 5) (by decide +kernel) ?_)))
      refine RL.st hS81 (i := 2) rfl (.t rfl) (.t rfl) Tryz.sizeOf3 rfl rfl rfl rfl rfl (fun w94 hS95 => (RL.nil (RA.next (RA.one (i := 6) (by decide +kernel) ?_))))
      refine RL.st hS95 (i := 3) rfl (.t rfl) (.t rfl) Tryz.sizeOf25 rfl rfl rfl rfl rfl (fun w96 hS97 => (RL.nil (RA.next (RA.nil (by decide +kernel) ?_))))
      exact hend (hS97.erase 0 rfl)
     ·refine RL.st hS81 (i := 2) rfl (.t rfl) (.t rfl) Tryz.sizeOf3 rfl rfl rfl rfl rfl (fun w98 hS99 => (RL.nil (RA.next (RA.one (i := 3) (by decide +kernel) ?_))))
      refine RL.u (.loadB1 (v := (i64 ec)) hS99 extEq (i := 0) rfl (.t rfl) Tryz.isAgg25 rfl) rfl (RL.nil (RA.next (RA.one (i := 6) (by decide +kernel) ?_)))
      refine RL.st hS99 (i := 3) rfl (.t rfl) (.t rfl) Tryz.sizeOf25 rfl rfl rfl rfl rfl (fun w100 hS101 => (RL.nil (RA.next (RA.nil (by decide +kernel) ?_))))
      exact hend (hS101.erase 0 rfl)
    ·refine RL.u (.loadB1 (v := (i64 ec)) hS81 extEq (i := 0) rfl (.t rfl) Tryz.isAgg25 rfl) rfl (RL.nil (RA.next (RA.one (i := 1) (by decide +kernel) ?_)))
     refine RL.u (.loadB1 (v := (i64 p)) hS81 extEq (i := 0) rfl (.t rfl) Tryz.isAgg3 rfl) rfl (RL.nil (RA.next (RA.one (i := 5) (by decide +kernel) ?_)))
     refine RL.st hS81 (i := 2) rfl (.t rfl) (.t rfl) Tryz.sizeOf3 rfl rfl rfl rfl rfl (fun w102 hS103 => (RL.nil (RA.next (RA.one (i := 6) (by decide +kernel) ?_))))
     refine RL.st hS103 (i := 3) rfl (.t rfl) (.t rfl) Tryz.sizeOf25 rfl rfl rfl rfl rfl (fun w104 hS105 => (RL.nil (RA.next (RA.nil (by decide +kernel) ?_))))
     exact hend (hS105.erase 0 rfl)
 ·refine RL.u (.fldA (q := ⟨b2, 0, none⟩) (.t rfl) (fun w => by kernel_rfl)) rfl (RL.nil (RA.next (RA.three (i := 0) (j := 3) (k := 4) (by decide +kernel) ?_ ?_ ?_)))
  ·refine RL.u (.fldA (q := ⟨b2, 1, none⟩) (.t rfl) (fun w => by kernel_rfl)) rfl (RL.nil (RA.next (RA.three (i := 1) (j := 3) (k := 4) (by decide +kernel) ?_ ?_ ?_)))
   ·refine RL.u (.loadB1 (v := (i64 p)) hS7 extEq (i := 0) rfl (.t rfl) Tryz.isAgg3 rfl) rfl (RL.nil (RA.next (RA.two (i := 3) (j := 4) (by decide +kernel) ?_ ?_)))
    ·refine RL.u (.loadB1 (v := (i64 ec)) hS7 extEq (i := 0) rfl (.t rfl) Tryz.isAgg25 rfl) rfl (RL.nil (RA.next (RA.one (i := 4) (by decide +kernel) ?_)))
     refine RL.st (v := (.slice none 0 0)) hS7 (i := 1) rfl (.t rfl) .c Tryz.sizeOf24 rfl rfl rfl rfl rfl (fun w106 hS107 => (RL.nil (RA.next (RA.one (i := 5) (by decide +kernel) ?_))))
     refine RL.st hS107 (i := 2) rfl (.t rfl) (.t rfl) Tryz.sizeOf3 rfl rfl rfl rfl rfl (fun w108 hS109 => (RL.nil (RA.next (RA.one (i := 6) (by decide +kernel) ?_))))
     refine RL.st hS109 (i := 3) rfl (.t rfl) (.t rfl) Tryz.sizeOf25 rfl rfl rfl rfl rfl (fun w110 hS111 => (RL.nil (RA.next (RA.nil (by decide +kernel) ?_))))
     exact hend (hS111.erase 0 rfl)
    ·refine RL.st (v := (.slice none 0 0)) hS7 (i := 1) rfl (.t rfl) .c Tryz.sizeOf24 rfl rfl rfl rfl rfl (fun w112 hS113 => (RL.nil (RA.next (RA.two (i := 3) (j := 5) (by decide +kernel) ?_ ?_))))
     ·refine RL.u (.loadB1 (v := (i64 ec)) hS113 extEq (i := 0) rfl (.t rfl) Tryz.isAgg25 rfl) rfl (RL.nil (RA.next (RA.one (i := 5) (by decide +kernel) ?_)))
      refine RL.st hS113 (i := 2) rfl (.t rfl) (.t rfl) Tryz.sizeOf3 rfl rfl rfl rfl rfl (fun w114 hS115 => (RL.nil (RA.next (RA.one (i := 6) (by decide +kernel) ?_))))
      refine RL.st hS115 (i := 3) rfl (.t rfl) (.t rfl) Tryz.sizeOf25 rfl rfl rfl rfl rfl (fun w116 hS117 => (RL.nil (RA.next (RA.nil (by decide +kernel) ?_))))
      exact hend (hS117.erase 0 rfl)
     ·refine RL.st hS113 (i := 2) rfl (.t rfl) (.t rfl) Tryz.sizeOf3 rfl rfl rfl rfl rfl (fun w118 hS119 => (RL.nil (RA.next (RA.one (i := 3) (by decide +kernel) ?_))))
      refine RL.u (.loadB1 (v := (i64 ec)) hS119 extEq (i := 0) rfl (.t rfl) Tryz.isAgg25 rfl) rfl (RL.nil (RA.next (RA.one (i := 6) (by decide +kernel) ?_)))
      refine RL.st hS119 (i := 3) rfl (.t rfl) (.t rfl) Tryz.sizeOf25 rfl rfl rfl rfl rfl (fun w120 hS121 => (RL.nil (RA.next (RA.nil (by decide +kernel) ?_))))
      exact hend (hS121.erase 0 rfl)
   ·refine RL.u (.loadB1 (v := (i64 ec)) hS7 extEq (i := 0) rfl (.t rfl) Tryz.isAgg25 rfl) rfl (RL.nil (RA.next (RA.two (i := 1) (j := 4) (by decide +kernel) ?_ ?_)))
    ·refine RL.u (.loadB1 (v := (i64 p)) hS7 extEq (i := 0) rfl (.t rfl) Tryz.isAgg3 rfl) rfl (RL.nil (RA.next (RA.one (i := 4) (by decide +kernel) ?_)))
     refine RL.st (v := (.slice none 0 0)) hS7 (i := 1) rfl (.t rfl) .c Tryz.sizeOf24 rfl rfl rfl rfl rfl (fun w122 hS123 => (RL.nil (RA.next (RA.one (i := 5) (by decide +kernel) ?_))))
     refine RL.st hS123 (i := 2) rfl (.t rfl) (.t rfl) Tryz.sizeOf3 rfl rfl rfl rfl rfl (fun w124 hS125 => (RL.nil (RA.next (RA.one (i := 6) (by decide +kernel) ?_))))
     refine RL.st hS125 (i := 3) rfl (.t rfl) (.t rfl) Tryz.sizeOf25 rfl rfl rfl rfl rfl (fun w126 hS127 => (RL.nil (RA.next (RA.nil (by decide +kernel) ?_))))
     exact hend (hS127.erase 0 rfl)
    ·refine RL.st (v := (.slice none 0 0)) hS7 (i := 1) rfl (.t rfl) .c Tryz.sizeOf24 rfl rfl rfl rfl rfl (fun w128 hS129 => (RL.nil (RA.next (RA.one (i := 1) (by decide +kernel) ?_))))
     refine RL.u (.loadB1 (v := (i64 p)) hS129 extEq (i := 0) rfl (.t rfl) Tryz.isAgg3 rfl) rfl (RL.nil (RA.next (RA.one (i := 5) (by decide +kernel) ?_)))
     refine RL.st hS129 (i := 2) rfl (.t rfl) (.t rfl) Tryz.sizeOf3 rfl rfl rfl rfl rfl (fun w130 hS131 => (RL.nil (RA.next (RA.one (i := 6) (by decide +kernel) ?_))))
     refine RL.st hS131 (i := 3) rfl (.t rfl) (.t rfl) Tryz.sizeOf25 rfl rfl rfl rfl rfl (fun w132 hS133 => (RL.nil (RA.next (RA.nil (by decide +kernel) ?_))))
     exact hend (hS133.erase 0 rfl)
   ·refine RL.st (v := (.slice none 0 0)) hS7 (i := 1) rfl (.t rfl) .c Tryz.sizeOf24 rfl rfl rfl rfl rfl (fun w134 hS135 => (RL.nil (RA.next (RA.two (i := 1) (j := 3) (by decide +kernel) ?_ ?_))))
    ·refine RL.u (.loadB1 (v := (i64 p)) hS135 extEq (i := 0) rfl (.t rfl) Tryz.isAgg3 rfl) rfl (RL.nil (RA.next (RA.two (i := 3) (j := 5) (by decide +kernel) ?_ ?_)))
     ·refine RL.u (.loadB1 (v := (i64 ec)) hS135 extEq (i := 0) rfl (.t rfl) Tryz.isAgg25 rfl) rfl (RL.nil (RA.next (RA.one (i := 5) (by decide +kernel) ?_)))
      refine RL.st hS135 (i := 2) rfl (.t rfl) (.t rfl) Tryz.sizeOf3 rfl rfl rfl rfl rfl (fun w136 hS137 => (RL.nil (RA.next (RA.one (i := 6) (by decide +kernel) ?_))))
      refine RL.st hS137 (i := 3) rfl (.t rfl) (.t rfl) Tryz.sizeOf25 rfl rfl rfl rfl rfl (fun w138 hS139 => (RL.nil (RA.next (RA.nil (by decide +kernel) ?_))))
      exact hend (hS139.erase 0 rfl)
     ·refine RL.st hS135 (i := 2) rfl (.t rfl) (.t rfl) Tryz.sizeOf3 rfl rfl rfl rfl rfl (fun w140 hS141 => (RL.nil (RA.next (RA.one (i := 3) (by decide +kernel) ?_))))
      refine RL.u (.loadB1 (v := (i64 ec)) hS141 extEq (i := 0) rfl (.t rfl) Tryz.isAgg25 rfl) rfl (RL.nil (RA.next (RA.one (i := 6) (by decide +kernel) ?_)))
      refine RL.st hS141 (i := 3) rfl (.t rfl) (.t rfl) Tryz.sizeOf25 rfl rfl rfl rfl rfl (fun w142 hS143 => (RL.nil (RA.next (RA.nil (by decide +kernel) ?_))))
      exact hend (hS143.erase 0 rfl)
    ·refine RL.u (.loadB1 (v := (i64 ec)) hS135 extEq (i := 0) rfl (.t rfl) Tryz.isAgg25 rfl) rfl (RL.nil (RA.next (RA.one (i := 1) (by decide +kernel) ?_)))
     refine RL.u (.loadB1 (v := (i64 p)) hS135 extEq (i := 0) rfl (.t rfl) Tryz.isAgg3 rfl) rfl (RL.nil (RA.next (RA.one (i := 5) (by decide +kernel) ?_)))
     refine RL.st hS135 (i := 2) rfl (.t rfl) (.t rfl) Tryz.sizeOf3 rfl rfl rfl rfl rfl (fun w144 hS145 => (RL.nil (RA.next (RA.one (i := 6) (by decide +kernel) ?_))))
     refine RL.st hS145 (i := 3) rfl (.t rfl) (.t rfl) Tryz.sizeOf25 rfl rfl rfl rfl rfl (fun w146 hS147 => (RL.nil (RA.next (RA.nil (by decide +kernel) ?_))))
     exact hend (hS147.erase 0 rfl)
  ·refine RL.u (.loadB1 (v := (i64 ec)) hS7 extEq (i := 0) rfl (.t rfl) Tryz.isAgg25 rfl) rfl (RL.nil (RA.next (RA.two (i := 0) (j := 4) (by decide +kernel) ?_ ?_)))
   ·refine RL.u (.fldA (q := ⟨b2, 1, none⟩) (.t rfl) (fun w => by kernel_rfl)) rfl (RL.nil (RA.next (RA.two (i := 1) (j := 4) (by decide +kernel) ?_ ?_)))
    ·refine RL.u (.loadB1 (v := (i64 p)) hS7 extEq (i := 0) rfl (.t rfl) Tryz.isAgg3 rfl) rfl (RL.nil (RA.next (RA.one (i := 4) (by decide +kernel) ?_)))
     refine RL.st (v := (.slice none 0 0)) hS7 (i := 1) rfl (.t rfl) .c Tryz.sizeOf24 rfl rfl rfl rfl rfl (fun w148 hS149 => (RL.nil (RA.next (RA.one (i := 5) (by decide +kernel) ?_))))
     refine RL.st hS149 (i := 2) rfl (.t rfl) (.t rfl) Tryz.sizeOf3 rfl rfl rfl rfl rfl (fun w150 hS151 => (RL.nil (RA.next (RA.one (i := 6) (by decide +kernel) ?_))))
     refine RL.st hS151 (i := 3) rfl (.t rfl) (.t rfl) Tryz.sizeOf25 rfl rfl rfl rfl rfl (fun w152 hS153 => (RL.nil (RA.next (RA.nil (by decide +kernel) ?_))))
     exact hend (hS153.erase 0 rfl)
    ·refine RL.st (v := (.slice none 0 0)) hS7 (i := 1) rfl (.t rfl) .c Tryz.sizeOf24 rfl rfl rfl rfl rfl (fun w154 hS155 => (RL.nil (RA.next (RA.one (i := 1) (by decide +kernel) ?_))))
     refine RL.u (.loadB1 (v := (i64 p)) hS155 extEq (i := 0) rfl (.t rfl) Tryz.isAgg3 rfl) rfl (RL.nil (RA.next (RA.one (i := 5) (by decide +kernel) ?_)))
     refine RL.st hS155 (i := 2) rfl (.t rfl) (.t rfl) Tryz.sizeOf3 rfl rfl rfl rfl rfl (fun w156 hS157 => (RL.nil (RA.next (RA.one (i := 6) (by decide +kernel) ?_))))
     refine RL.st hS157 (i := 3) rfl (.t rfl) (.t rfl) Tryz.sizeOf25 rfl rfl rfl rfl rfl (fun w158 hS159 => (RL.nil (RA.next (RA.nil (by decide +kernel) ?_))))
     exact hend (hS159.erase 0 rfl)
   ·refine RL.st (v := (.slice none 0 0)) hS7 (i := 1) rfl (.t rfl) .c Tryz.sizeOf24 rfl rfl rfl rfl rfl (fun w160 hS161 => (RL.nil (RA.next (RA.one (i := 0) (by decide +kernel) ?_))))
    refine RL.u (.fldA (q := ⟨b2, 1, none⟩) (.t rfl) (fun w => by kernel_rfl)) rfl (RL.nil (RA.next (RA.one (i := 1) (by decide +kernel) ?_)))
    refine RL.u (.loadB1 (v := (i64 p)) hS161 extEq (i := 0) rfl (.t rfl) Tryz.isAgg3 rfl) rfl (RL.nil (RA.next (RA.one (i := 5) (by decide +kernel) ?_)))
    refine RL.st hS161 (i := 2) rfl (.t rfl) (.t rfl) Tryz.sizeOf3 rfl rfl rfl rfl rfl (fun w162 hS163 => (RL.nil (RA.next (RA.one (i := 6) (by decide +kernel) ?_))))
    refine RL.st hS163 (i := 3) rfl (.t rfl) (.t rfl) Tryz.sizeOf25 rfl rfl rfl rfl rfl (fun w164 hS165 => (RL.nil (RA.next (RA.nil (by decide +kernel) ?_))))
    exact hend (hS165.erase 0 rfl)
  ·refine RL.st (v := (.slice none 0 0)) hS7 (i := 1) rfl (.t rfl) .c Tryz.sizeOf24 rfl rfl rfl rfl rfl (fun w166 hS167 => (RL.nil (RA.next (RA.two (i := 0) (j := 3) (by decide +kernel) ?_ ?_))))
   ·refine RL.u (.fldA (q := ⟨b2, 1, none⟩) (.t rfl) (fun w => by kernel_rfl)) rfl (RL.nil (RA.next (RA.two (i := 1) (j := 3) (by decide +kernel) ?_ ?_)))
    ·refine RL.u (.loadB1 (v := (i64 p)) hS167 extEq (i := 0) rfl (.t rfl) Tryz.isAgg3 rfl) rfl (RL.nil (RA.next (RA.two (i := 3) (j := 5) (by decide +kernel) ?_ ?_)))
     ·refine RL.u (.loadB1 (v := (i64 ec)) hS167 extEq (i := 0) rfl (.t rfl) Tryz.isAgg25 rfl) rfl (RL.nil (RA.next (RA.one (i := 5) (by decide +kernel) ?_)))
      refine RL.st hS167 (i := 2) rfl (.t rfl) (.t rfl) Tryz.sizeOf3 rfl rfl rfl rfl rfl (fun w168 hS169 => (RL.nil (RA.next (RA.one (i := 6) (by decide +kernel) ?_))))
      refine RL.st hS169 (i := 3) rfl (.t rfl) (.t rfl) Tryz.sizeOf25 rfl rfl rfl rfl rfl (fun w170 hS171 => (RL.nil (RA.next (RA.nil (by decide +kernel) ?_))))
      exact hend (hS171.erase 0 rfl)
     ·refine RL.st hS167 (i := 2) rfl (.t rfl) (.t rfl) Tryz.sizeOf3 rfl rfl rfl rfl rfl (fun w172 hS173 => (RL.nil (RA.next (RA.one (i := 3) (by decide +kernel) ?_))))
      refine RL.u (.loadB1 (v := (i64 ec)) hS173 extEq (i := 0) rfl (.t rfl) Tryz.isAgg25 rfl) rfl (RL.nil (RA.next (RA.one (i := 6) (by decide +kernel) ?_)))
      refine RL.st hS173 (i := 3) rfl (.t rfl) (.t rfl) Tryz.sizeOf25 rfl rfl rfl rfl rfl (fun w174 hS175 => (RL.nil (RA.next (RA.nil (by decide +kernel) ?_))))
      exact hend (hS175.erase 0 rfl)
    ·refine RL.u (.loadB1 (v := (i64 ec)) hS167 extEq (i := 0) rfl (.t rfl) Tryz.isAgg25 rfl) rfl (RL.nil (RA.next (RA.one (i := 1) (by decide +kernel) ?_)))
     refine RL.u (.loadB1 (v := (i64 p)) hS167 extEq (i := 0) rfl (.t rfl) Tryz.isAgg3 rfl) rfl (RL.nil (RA.next (RA.one (i := 5) (by decide +kernel) ?_)))
     refine RL.st hS167 (i := 2) rfl (.t rfl) (.t rfl) Tryz.sizeOf3 rfl rfl rfl rfl rfl (fun w176 hS177 => (RL.nil (RA.next (RA.one (i := 6) (by decide +kernel) ?_))))
     refine RL.st hS177 (i := 3) rfl (.t rfl) (.t rfl) Tryz.sizeOf25 rfl rfl rfl rfl rfl (fun w178 hS179 => (RL.nil (RA.next (RA.nil (by decide +kernel) ?_))))
     exact hend (hS179.erase 0 rfl)
   ·refine RL.u (.loadB1 (v := (i64 ec)) hS167 extEq (i := 0) rfl (.t rfl) Tryz.isAgg25 rfl) rfl (RL.nil (RA.next (RA.one (i := 0) (by decide +kernel) ?_)))
    refine RL.u (.fldA (q := ⟨b2, 1, none⟩) (.t rfl) (fun w => by kernel_rfl)) rfl (RL.nil (RA.next (RA.one (i := 1) (by decide +kernel) ?_)))
    refine RL.u (.loadB1 (v := (i64 p)) hS167 extEq (i := 0) rfl (.t rfl) Tryz.isAgg3 rfl) rfl (RL.nil (RA.next (RA.one (i := 5) (by decide +kernel) ?_)))
    refine RL.st hS167 (i := 2) rfl (.t rfl) (.t rfl) Tryz.sizeOf3 rfl rfl rfl rfl rfl (fun w180 hS181 => (RL.nil (RA.next (RA.one (i := 6) (by decide +kernel) ?_))))
    refine RL.st hS181 (i := 3) rfl (.t rfl) (.t rfl) Tryz.sizeOf25 rfl rfl rfl rfl rfl (fun w182 hS183 => (RL.nil (RA.next (RA.nil (by decide +kernel) ?_))))
    exact hend (hS183.erase 0 rfl)
 ·refine RL.st (v := (.slice none 0 0)) hS7 (i := 1) rfl (.t rfl) .c Tryz.sizeOf24 rfl rfl rfl rfl rfl (fun w184 hS185 => (RL.nil (RA.next (RA.two (i := 0) (j := 2) (by decide +kernel) ?_ ?_))))
  ·refine RL.u (.fldA (q := ⟨b2, 1, none⟩) (.t rfl) (fun w => by kernel_rfl)) rfl (RL.nil (RA.next (RA.two (i := 1) (j := 2) (by decide +kernel) ?_ ?_)))
   ·refine RL.u (.loadB1 (v := (i64 p)) hS185 extEq (i := 0) rfl (.t rfl) Tryz.isAgg3 rfl) rfl (RL.nil (RA.next (RA.two (i := 2) (j := 5) (by decide +kernel) ?_ ?_)))
    ·refine RL.u (.fldA (q := ⟨b2, 0, none⟩) (.t rfl) (fun w => by kernel_rfl)) rfl (RL.nil (RA.next (RA.two (i := 3) (j := 5) (by decide +kernel) ?_ ?_)))
     ·refine RL.u (.loadB1 (v := (i64 ec)) hS185 extEq (i := 0) rfl (.t rfl) Tryz.isAgg25 rfl) rfl (RL.nil (RA.next (RA.one (i := 5) (by decide +kernel) ?_)))
      refine RL.st hS185 (i := 2) rfl (.t rfl) (.t rfl) Tryz.sizeOf3 rfl rfl rfl rfl rfl (fun w186 hS187 => (RL.nil (RA.next (RA.one (i := 6) (by decide +kernel) ?_))))
      refine RL.st hS187 (i := 3) rfl (.t rfl) (.t rfl) Tryz.sizeOf25 rfl rfl rfl rfl rfl (fun w188 hS189 => (RL.nil (RA.next (RA.nil (by decide +kernel) ?_))))
      exact hend (hS189.erase 0 rfl)
     ·refine RL.st hS185 (i := 2) rfl (.t rfl) (.t rfl) Tryz.sizeOf3 rfl rfl rfl rfl rfl (fun w190 hS191 => (RL.nil (RA.next (RA.one (i := 3) (by decide +kernel) ?_))))
      refine RL.u (.loadB1 (v := (i64 ec)) hS191 extEq (i := 0) rfl (.t rfl) Tryz.isAgg25 rfl) rfl (RL.nil (RA.next (RA.one (i := 6) (by decide +kernel) ?_)))
      refine RL.st hS191 (i := 3) rfl (.t rfl) (.t rfl) Tryz.sizeOf25 rfl rfl rfl rfl rfl (fun w192 hS193 => (RL.nil (RA.next (RA.nil (by decide +kernel) ?_))))
      exact hend (hS193.erase 0 rfl)
    ·refine RL.st hS185 (i := 2) rfl (.t rfl) (.t rfl) Tryz.sizeOf3 rfl rfl rfl rfl rfl (fun w194 hS195 => (RL.nil (RA.next (RA.one (i := 2) (by decide +kernel) ?_))))
     refine RL.u (.fldA (q := ⟨b2, 0, none⟩) (.t rfl) (fun w => by kernel_rfl)) rfl (RL.nil (RA.next (RA.one (i := 3) (by decide +kernel) ?_)))
     refine RL.u (.loadB1 (v := (i64 ec)) hS195 extEq (i := 0) rfl (.t rfl) Tryz.isAgg25 rfl) rfl (RL.nil (RA.next (RA.one (i := 6) (by decide +kernel) ?_)))
     refine RL.st hS195 (i := 3) rfl (.t rfl) (.t rfl) Tryz.sizeOf25 rfl rfl rfl rfl rfl (fun w196 hS197 => (RL.nil (RA.next (RA.nil (by decide +kernel) ?_))))
     exact hend (hS197.erase 0 rfl)
   ·refine RL.u (.fldA (q := ⟨b2, 0, none⟩) (.t rfl) (fun w => by kernel_rfl)) rfl (RL.nil (RA.next (RA.two (i := 1) (j := 3) (by decide +kernel) ?_ ?_)))
    ·refine RL.u (.loadB1 (v := (i64 p)) hS185 extEq (i := 0) rfl (.t rfl) Tryz.isAgg3 rfl) rfl (RL.nil (RA.next (RA.two (i := 3) (j := 5) (by decide +kernel) ?_ ?_)))
     ·refine RL.u (.loadB1 (v := (i64 ec)) hS185 extEq (i := 0) rfl (.t rfl) Tryz.isAgg25 rfl) rfl (RL.nil (RA.next (RA.one (i := 5) (by decide +kernel) ?_)))
      refine RL.st hS185 (i := 2) rfl (.t rfl) (.t rfl) Tryz.sizeOf3 rfl rfl rfl rfl rfl (fun w198 hS199 => (RL.nil (RA.next (RA.one (i := 6) (by decide +kernel) ?_))))
      refine RL.st hS199 (i := 3) rfl (.t rfl) (.t rfl) Tryz.sizeOf25 rfl rfl rfl rfl rfl (fun w200 hS201 => (RL.nil (RA.next (RA.nil (by decide +kernel) ?_))))
      exact hend (hS201.erase 0 rfl)
     ·refine RL.st hS185 (i := 2) rfl (.t rfl) (.t rfl) Tryz.sizeOf3 rfl rfl rfl rfl rfl (fun w202 hS203 => (RL.nil (RA.next (RA.one (i := 3) (by decide +kernel) ?_))))
      refine RL.u (.loadB1 (v := (i64 ec)) hS203 extEq (i := 0) rfl (.t rfl) Tryz.isAgg25 rfl) rfl (RL.nil (RA.next (RA.one (i := 6) (by decide +kernel) ?_)))
      refine RL.st hS203 (i := 3) rfl (.t rfl) (.t rfl) Tryz.sizeOf25 rfl rfl rfl rfl rfl (fun w204 hS205 => (RL.nil (RA.next (RA.nil (by decide +kernel) ?_))))
      exact hend (hS205.erase 0 rfl)
    ·refine RL.u (.loadB1 (v := (i64 ec)) hS185 extEq (i := 0) rfl (.t rfl) Tryz.isAgg25 rfl) rfl (RL.nil (RA.next (RA.one (i := 1) (by decide +kernel) ?_)))
     refine RL.u (.loadB1 (v := (i64 p)) hS185 extEq (i := 0) rfl (.t rfl) Tryz.isAgg3 rfl) rfl (RL.nil (RA.next (RA.one (i := 5) (by decide +kernel) ?_)))
     refine RL.st hS185 (i := 2) rfl (.t rfl) (.t rfl) Tryz.sizeOf3 rfl rfl rfl rfl rfl (fun w206 hS207 => (RL.nil (RA.next (RA.one (i := 6) (by decide +kernel) ?_))))
     refine RL.st hS207 (i := 3) rfl (.t rfl) (.t rfl) Tryz.sizeOf25 rfl rfl rfl rfl rfl (fun w208 hS209 => (RL.nil (RA.next (RA.nil (by decide +kernel) ?_))))
     exact hend (hS209.erase 0 rfl)
  ·refine RL.u (.fldA (q := ⟨b2, 0, none⟩) (.t rfl) (fun w => by kernel_rfl)) rfl (RL.nil (RA.next (RA.two (i := 0) (j := 3) (by decide +kernel) ?_ ?_)))
   ·refine RL.u (.fldA (q := ⟨b2, 1, none⟩) (.t rfl) (fun w => by kernel_rfl)) rfl (RL.nil (RA.next (RA.two (i := 1) (j := 3) (by decide +kernel) ?_ ?_)))
    ·refine RL.u (.loadB1 (v := (i64 p)) hS185 extEq (i := 0) rfl (.t rfl) Tryz.isAgg3 rfl) rfl (RL.nil (RA.next (RA.two (i := 3) (j := 5) (by decide +kernel) ?_ ?_)))
     ·refine RL.u (.loadB1 (v := (i64 ec)) hS185 extEq (i := 0) rfl (.t rfl) Tryz.isAgg25 rfl) rfl (RL.nil (RA.next (RA.one (i := 5) (by decide +kernel) ?_)))
      refine RL.st hS185 (i := 2) rfl (.t rfl) (.t rfl) Tryz.sizeOf3 rfl rfl rfl rfl rfl (fun w210 hS211 => (RL.nil (RA.next (RA.one (i := 6) (by decide +kernel) ?_))))
      refine RL.st hS211 (i := 3) rfl (.t rfl) (.t rfl) Tryz.sizeOf25 rfl rfl rfl rfl rfl (fun w212 hS213 => (RL.nil (RA.next (RA.nil (by decide +kernel) ?_))))
      exact hend (hS213.erase 0 rfl)
     ·refine RL.st hS185 (i := 2) rfl (.t rfl) (.t rfl) Tryz.sizeOf3 rfl rfl rfl rfl rfl (fun w214 hS215 => (RL.nil (RA.next (RA.one (i := 3) (by decide +kernel) ?_))))
      refine RL.u (.loadB1 (v := (i64 ec)) hS215 extEq (i := 0) rfl (.t rfl) Tryz.isAgg25 rfl) rfl (RL.nil (RA.next (RA.one (i := 6) (by decide +kernel) ?_)))
      refine RL.st hS215 (i := 3) rfl (.t rfl) (.t rfl) Tryz.sizeOf25 rfl rfl rfl rfl rfl (fun w216 hS217 => (RL.nil (RA.next (RA.nil (by decide +kernel) ?_))))
      exact hend (hS217.erase 0 rfl)
    ·refine RL.u (.loadB1 (v := (i64 ec)) hS185 extEq (i := 0) rfl (.t rfl) Tryz.isAgg25 rfl) rfl (RL.nil (RA.next (RA.one (i := 1) (by decide +kernel) ?_)))
     refine RL.u (.loadB1 (v := (i64 p)) hS185 extEq (i := 0) rfl (.t rfl) Tryz.isAgg3 rfl) rfl (RL.nil (RA.next (RA.one (i := 5) (by decide +kernel) ?_)))
     refine RL.st hS185 (i := 2) rfl (.t rfl) (.t rfl) Tryz.sizeOf3 rfl rfl rfl rfl rfl (fun w218 hS219 => (RL.nil (RA.next (RA.one (i := 6) (by decide +kernel) ?_))))
     refine RL.st hS219 (i := 3) rfl (.t rfl) (.t rfl) Tryz.sizeOf25 rfl rfl rfl rfl rfl (fun w220 hS221 => (RL.nil (RA.next (RA.nil (by decide +kernel) ?_))))
     exact hend (hS221.erase 0 rfl)
   ·refine RL.u (.loadB1 (v := (i64 ec)) hS185 extEq (i := 0) rfl (.t rfl) Tryz.isAgg25 rfl) rfl (RL.nil (RA.next (RA.one (i := 0) (by decide +kernel) ?_)))
    refine RL.u (.fldA (q := ⟨b2, 1, none⟩) (.t rfl) (fun w => by kernel_rfl)) rfl (RL.nil (RA.next (RA.one (i := 1) (by decide +kernel) ?_)))
    refine RL.u (.loadB1 (v := (i64 p)) hS185 extEq (i := 0) rfl (.t rfl) Tryz.isAgg3 rfl) rfl (RL.nil (RA.next (RA.one (i := 5) (by decide +kernel) ?_)))
    refine RL.st hS185 (i := 2) rfl (.t rfl) (.t rfl) Tryz.sizeOf3 rfl rfl rfl rfl rfl (fun w222 hS223 => (RL.nil (RA.next (RA.one (i := 6) (by decide +kernel) ?_))))
    refine RL.st hS223 (i := 3) rfl (.t rfl) (.t rfl) Tryz.sizeOf25 rfl rfl rfl rfl rfl (fun w224 hS225 => (RL.nil (RA.next (RA.nil (by decide +kernel) ?_))))
    exact hend (hS225.erase 0 rfl)

end Go.Proofs.YtjfaikgooldcbaaGreatDoor
set_option maxRecDepth 100000
namespace Go.Proofs.YtjfaikgooldcbaaGreatDoor
open Go.Eng

theorem val_any {w wv : World} {M0 M : Mem} {Rs : List HO} (s : Str) (pb : Nat) (hg : Gl w) (hb : len s ≤ 1099511627776) (f : Nat) (i d : Int) (hS : St w M0 wv M (.box pb [str s, i64 (i)] 55 :: Rs)) (h0 : 0 ≤ i) (h1 : i ≤ len s) (h2 : 0 ≤ d) (h3 : d ≤ 1000) (hf : 2 * (len s - i) + 1 ≤ f) :
    Calls Tryz.prog 27 [.pointer (some ⟨pb, 0, none⟩), i64 d].toArray wv (PPost w M0 M Rs 51 (fun x j v M' w' => ∃ a c, v = .slice a x.length c ∧ i + 1 ≤ j ∧ j ≤ len s ∧ len x ≤ j - i ∧ Sl M' 6 x.length (.slice a x.length c) (x.flatMap Nd.cells) ∧ St w M0 w' M' (.box pb [str s, i64 (j)] 55 :: Rs)) (valT f s i d)) := val_all s pb hg hb f i d hS h0 h1 h2 h3 hf
/-- What Parse gives. -/
def ParseP (w : World) (M0 M : Mem) (Rs : List HO) (r : Vl × Int × Int) (e : Ending) (w' : World) : Prop := ∃ u, e = .returned u ∧ ∃ a c M', u = .tuple #[.slice a r.1.length c, i64 r.2.1, i64 r.2.2] ∧ Sl M' 6 r.1.length (.slice a r.1.length c) (r.1.flatMap Nd.cells) ∧ St w M0 w' M' Rs ∧ M.le M'
abbrev dfrP (bx by_ bz : Nat) : List Deferred := [{ target := .fn (.func 25) [.pointer (some ⟨bx, 0, none⟩), .pointer (some ⟨by_, 0, none⟩), .pointer (some ⟨bz, 0, none⟩)].toArray, args := #[] }]
theorem parse_er {w wv : World} {M0 M M' : Mem} {Rs : List HO} {s : Str} {ec p : Int} {bx by_ bz : Nat} {x y z : Value} {L : Env} (hS : St w M0 wv M' (.box bx [x] 24 :: .box by_ [y] 3 :: .box bz [z] 25 :: Rs)) (hr : parseT s = ([], p, ec)) (hle : M.le M')
    (h2 : Eng.look L 2 = some (true, .pointer (some ⟨bx, 0, none⟩))) (h3 : Eng.look L 3 = some (true, .pointer (some ⟨by_, 0, none⟩))) (h4 : Eng.look L 4 = some (true, .pointer (some ⟨bz, 0, none⟩))) :
    ∀ a, Slots a 30 L → Leaves Tryz.prog Tryz.f11 a.tmps (ParseP w M0 M Rs (parseT s)) (dfrP bx by_ bz) (.panicking [wrongE 51 ec p]) wv := fun a hs =>
  leaves_one Tryz.call25 (fun h => by cases h) rfl (pdefer_pan ec p bx by_ bz x y z hS) fun w' hS' =>
    ⟨_, res3 rfl hs (.box1 hS' (i := 0) rfl h2 Tryz.isAgg24) (.box1 hS' (i := 1) rfl h3 Tryz.isAgg3) (.box1 hS' (i := 2) rfl h4 Tryz.isAgg25), by
      rw [hr]
      exact ⟨_, rfl, none, 0, M', rfl, ⟨rfl, none, 0, rfl, Nat.le_refl _, Nat.zero_le _, fun h => absurd h (Nat.lt_irrefl 0)⟩, ((hS'.erase 0 rfl).erase 0 rfl).erase 0 rfl, hle⟩⟩
theorem parse_ok {w wv : World} {M0 M M' : Mem} {Rs : List HO} {s : Str} {v : Vl} {bx by_ bz : Nat} {p : Option Addr} {c : Nat} {L : Env} (hS : St w M0 wv M' (.box bx [.slice p v.length c] 24 :: .box by_ [i64 0] 3 :: .box bz [i64 0] 25 :: Rs)) (hr : parseT s = (v, 0, 0)) (hsl : Sl M' 6 v.length (.slice p v.length c) (v.flatMap Nd.cells)) (hle : M.le M')
    (h2 : Eng.look L 2 = some (true, .pointer (some ⟨bx, 0, none⟩))) (h3 : Eng.look L 3 = some (true, .pointer (some ⟨by_, 0, none⟩))) (h4 : Eng.look L 4 = some (true, .pointer (some ⟨bz, 0, none⟩))) :
    ∀ a, Slots a 30 L → Leaves Tryz.prog Tryz.f11 a.tmps (ParseP w M0 M Rs (parseT s)) (dfrP bx by_ bz) .returning wv := fun a hs =>
  leaves_one Tryz.call25 (fun h => by cases h) rfl (pdefer_ret bx by_ bz _ _ _ hS) fun w' hS' =>
    ⟨_, res3 rfl hs (.box1 hS' (i := 0) rfl h2 Tryz.isAgg24) (.box1 hS' (i := 1) rfl h3 Tryz.isAgg3) (.box1 hS' (i := 2) rfl h4 Tryz.isAgg25), by
      rw [hr]
      exact ⟨_, rfl, p, c, M', rfl, hsl, ((hS'.erase 0 rfl).erase 0 rfl).erase 0 rfl, hle⟩⟩
theorem parse_c {w wv : World} {M0 M : Mem} {Rs : List HO} (s : Str) (hS : St w M0 wv M Rs) (hg : Gl w) (hb : len s ≤ 1099511627776) :
  Calls Tryz.prog 11 [(str s)].toArray wv fun e w' => ParseP w M0 M Rs (parseT s) e w' := by
 refine CWD.enter Tryz.func11 rfl Tryz.ntmps11 (Nat.le_of_ble_eq_true rfl) fun Q hE => ?_
 have hlen : len s = (s.length : Int) := rfl
 have hln := len_nonneg s
 refine CW.weaken [0] (L' := [Y 0 (str s)]) ?_ rfl
 refine CW.sr ?_
 refine RL.alloc hS Tryz.zeroValue24 rfl (fun w1 b2 hS3 => ?_)
 refine RL.alloc hS3 Tryz.zeroValue3 rfl (fun w4 b5 hS6 => ?_)
 refine RL.alloc hS6 Tryz.zeroValue25 rfl (fun w7 b8 hS9 => (RL.nil (CW.id ?_)))
 refine CW.sr (RL.u (.makeFunc .nil (.cons (.t rfl) (.cons (.t rfl) (.cons (.t rfl) .nil)))) rfl ?_)
 refine RL.defer (.t rfl) ?_
 refine RL.nil (CWD.id (CWD.sr (RL.m rfl rfl (RL.u (.build (vs := [(0, (str s))]) (v := (.agg #[(str s), (i64 0)])) (.cons (.t rfl) .nil) (fun w => by kernel_rfl)) rfl ?_))))
 refine RL.box (v := (.agg #[(str s), (i64 0)])) hS9 (.t rfl) rfl (fun w10 b11 hS12 => ?_)
 refine RL.a rfl rfl ?_
 refine RL.nil (CWD.id (CWD.sr (RL.m rfl rfl ?_)))
 replace hS12 := hS12.front 0 rfl rfl
 refine RL.callP Tryz.call26 (.cons (.t rfl) .nil) (blankP_c (Rs := (.box b8 [(i64 0)] 25 :: .box b5 [(i64 0)] 3 :: .box b2 [(.slice none 0 0)] 24 :: Rs)) s 0 b11 hS12 (by omega) (by omega) hb) rfl ?_
 rintro v14 w15 ⟨⟨ha13a, ha13b⟩, hS17⟩
 refine RL.nil (CWD.at [Y 0 (str s), Y 2 (.pointer (some ⟨b2, 0, none⟩)), Y 3 (.pointer (some ⟨b5, 0, none⟩)), Y 4 (.pointer (some ⟨b8, 0, none⟩)), Y 5 (.pointer (some ⟨b11, 0, none⟩))] rfl (CWD.sr (RL.m rfl rfl ?_)))
 refine RL.callR Tryz.call27 (.cons (.t rfl) (.cons .c .nil)) (val_any s b11 hg hb (2 * s.length + 2) (Rs := (.box b8 [(i64 0)] 25 :: .box b5 [(i64 0)] 3 :: .box b2 [(.slice none 0 0)] 24 :: Rs)) (blankTo s 0) 0 hS17 (by omega) (by omega) (by omega) (by omega) (by omega)) rfl (fun ec p M30 w31 hr34 hS32 hle33 => ?_) (fun x21 j22 v23 M25 w24 hr26 hF29 hle28 => ?_)
 ·replace hS32 := (hS32.front 1 rfl rfl).front 2 rfl rfl
  exact hE.p (parse_er hS32 (by unfold parseT; rw [hr34]) hle33 rfl rfl rfl)
 obtain ⟨a19, c20, rfl, hF29a, hF29b, hF29c, hsl_v23, hS27⟩ := hF29
 refine RL.storeS (v := (.slice a19 x21.length c20)) hS27 hsl_v23 (i := 3) rfl (.t rfl) (.t rfl) Tryz.sizeOf24 rfl (cs' := [(.slice a19 x21.length c20)]) rfl (Hs' := (.box b11 [(str s), (i64 j22)] 55 :: .box b8 [(i64 0)] 25 :: .box b5 [(i64 0)] 3 :: .box b2 [(.slice a19 x21.length c20)] 24 :: Rs)) rfl (fun w35 hS36 => ?_)
 refine RL.nil (CWD.at [Y 0 (str s), Y 2 (.pointer (some ⟨b2, 0, none⟩)), Y 3 (.pointer (some ⟨b5, 0, none⟩)), Y 4 (.pointer (some ⟨b8, 0, none⟩)), Y 5 (.pointer (some ⟨b11, 0, none⟩))] rfl (CWD.sr (RL.m rfl rfl ?_)))
 replace hS36 := hS36.front 0 rfl rfl
 refine RL.callP Tryz.call26 (.cons (.t rfl) .nil) (blankP_c (Rs := (.box b8 [(i64 0)] 25 :: .box b5 [(i64 0)] 3 :: .box b2 [(.slice a19 x21.length c20)] 24 :: Rs)) s j22 b11 hS36 (by omega) (by omega) hb) rfl ?_
 rintro v38 w39 ⟨⟨ha37a, ha37b⟩, hS41⟩
 refine RL.nil (CWD.at [Y 0 (str s), Y 2 (.pointer (some ⟨b2, 0, none⟩)), Y 3 (.pointer (some ⟨b5, 0, none⟩)), Y 4 (.pointer (some ⟨b8, 0, none⟩)), Y 5 (.pointer (some ⟨b11, 0, none⟩))] rfl (CWD.seq (CWD.sr (RL.m rfl rfl (RL.u (.nilP (.t rfl)) rfl (RL.u (.fldA (q := ⟨b11, 1, none⟩) (.t rfl) (fun w => by kernel_rfl)) rfl (RL.u (.loadB1 (v := (i64 (blankTo s j22))) hS41 extEq (i := 0) rfl (.t rfl) Tryz.isAgg3 rfl) rfl (RL.m rfl rfl (RL.u (.lenS (.t rfl) Tryz.underlying9) rfl ?_)))))))))
 refine RL.u (.lss (.t rfl) (.t rfl)) rfl ?_
 refine RL.nil (CWD.id ?_)
 refine CWD.cond rfl (fun hb1 => ?_) (fun hb1 => ?_)
 ·try simp only [zb] at hb1
  refine CWD.region ?_
  refine RL.m rfl rfl (RL.m rfl rfl (RL.u (.nilP (.t rfl)) rfl (RL.u (.fldA (q := ⟨b11, 1, none⟩) (.t rfl) (fun w => by kernel_rfl)) rfl (RL.u (.loadB1 (v := (i64 (blankTo s j22))) hS41 extEq (i := 0) rfl (.t rfl) Tryz.isAgg3 rfl) rfl ?_))))
  refine RL.callF Tryz.call28 (.cons (.t rfl) (.cons .c (.cons (.t rfl) .nil))) (fail_c 1 (blankTo s j22) (.pointer (some ⟨b11, 0, none⟩)) _) ?_
  replace hS41 := (hS41.front 1 rfl rfl).front 2 rfl rfl
  replace hS41 := hS41.front 3 rfl rfl
  replace hS41 := hS41.drop ((.box b2 [(.slice a19 x21.length c20)] 24 :: .box b5 [(i64 0)] 3 :: .box b8 [(i64 0)] 25 :: Rs)) (List.append_sublist_append_left [_, _, _] |>.2 (List.sublist_append_right [_] _))
  exact hE.p (parse_er hS41 (by unfold parseT; rw [hr26]; exact if_pos (by omega)) hle28 rfl rfl rfl)
 ·try simp only [zb] at hb1
  refine CWD.skip (CWD.at [Y 2 (.pointer (some ⟨b2, 0, none⟩)), Y 3 (.pointer (some ⟨b5, 0, none⟩)), Y 4 (.pointer (some ⟨b8, 0, none⟩))] rfl ?_)
  refine CWD.sr ?_
  refine RL.u (.loadB1 (v := (.slice a19 x21.length c20)) hS41 extEq (i := 3) rfl (.t rfl) Tryz.isAgg24 rfl) rfl ?_
  refine RL.storeS (v := (.slice a19 x21.length c20)) hS41 hsl_v23 (i := 3) rfl (.t rfl) (.t rfl) Tryz.sizeOf24 rfl (cs' := [(.slice a19 x21.length c20)]) rfl (Hs' := (.box b11 [(str s), (i64 (blankTo s j22))] 55 :: .box b8 [(i64 0)] 25 :: .box b5 [(i64 0)] 3 :: .box b2 [(.slice a19 x21.length c20)] 24 :: Rs)) rfl (fun w43 hS44 => ?_)
  refine RL.st (v := (i64 0)) hS44 (i := 2) rfl (.t rfl) .c Tryz.sizeOf3 rfl rfl rfl rfl rfl (fun w45 hS46 => ?_)
  refine RL.st (v := (i64 0)) hS46 (i := 1) rfl (.t rfl) .c Tryz.sizeOf25 rfl rfl rfl rfl rfl (fun w47 hS48 => ?_)
  refine RL.nil (CWD.id ?_)
  replace hS48 := (hS48.front 1 rfl rfl).front 2 rfl rfl
  replace hS48 := hS48.front 3 rfl rfl
  replace hS48 := hS48.drop ((.box b2 [(.slice a19 x21.length c20)] 24 :: .box b5 [(i64 0)] 3 :: .box b8 [(i64 0)] 25 :: Rs)) (List.append_sublist_append_left [_, _, _] |>.2 (List.sublist_append_right [_] _))
  refine CWD.ret (hE.r (parse_ok hS48 (by unfold parseT; rw [hr26]; exact if_neg (by omega)) hsl_v23 hle28 rfl rfl rfl))

end Go.Proofs.YtjfaikgooldcbaaGreatDoor
