/-
  THE ENGINE, PART 14: maps whose keys are strings: as those of integers (EngG), text for text. Over any program.
  A map from texts to slices, against the pairs that it holds. No program in it.
-/
import Derived.Test.YtjfaikgooldcbaaGreatDoorZp5
import Derived.Laws.BitsLemmas
import Derived.Test.YtjfaikgooldcbaaGreatDoorZp3
import Derived.Test.YtjfaikgooldcbaaGreatDoorProg
import Derived.Test.YtjfaikgooldcbaaGreatDoorZp18
import Derived.Test.YtjfaikgooldcbaaGreatDoorZp9
import Derived.Test.YtjfaikgooldcbaaGreatDoorZp8
set_option linter.unusedVariables false
set_option linter.unusedSimpArgs false
namespace Go.Proofs.YtjfaikgooldcbaaGreatDoor
open Go.Eng

/-- What value does, given so much fuel. -/
def ValOK (w : World) (M0 : Mem) (s : Str) (pb : Nat) (f : Nat) : Prop := ∀ {Rs : List HO} {wv : World} {M : Mem} (i d : Int), St w M0 wv M (.box pb [str s, i64 (i)] 55 :: Rs) → 0 ≤ i → i ≤ len s → 0 ≤ d → d ≤ 1000 → 2 * (len s - i) + 1 ≤ f →
    Calls Tryz.prog 27 [.pointer (some ⟨pb, 0, none⟩), i64 d].toArray wv (PPost w M0 M Rs 51 (fun x j v M' w' => ∃ a c, v = .slice a x.length c ∧ i + 1 ≤ j ∧ j ≤ len s ∧ len x ≤ j - i ∧ Sl M' 6 x.length (.slice a x.length c) (x.flatMap Nd.cells) ∧ St w M0 w' M' (.box pb [str s, i64 (j)] 55 :: Rs)) (valT f s i d))
/- (*loupe/text.parser).list$1 -/
set_option maxRecDepth 100000 in
theorem listpart_c {w wv : World} {M0 M : Mem} {Rs : List HO} (s : Str) (i d : Int) (pb bl b2 b3 : Nat) (v : Value) (rs : List SlH) (xs : List Vl) (f : Nat) (i0 : Int) (hS : St w M0 wv M (.box pb [(str s), (i64 i)] 55 :: .box bl [v] 47 :: .own 24 1 v rs.length (rs.flatMap valI) :: .box b2 [(.pointer (some ⟨pb, 0, none⟩))] 53 :: .box b3 [(i64 d)] 3 :: Rs)) (hrow : RowsV M 6 Nd.cells rs xs) (hlx : len xs ≤ i ∧ len xs.flatten + 1 ≤ i - i0) (h0 : 0 ≤ i) (h1 : i ≤ len s) (hb : len s ≤ 1099511627776) (hd : 0 ≤ d ∧ d ≤ 900) (hf : 2 * (len s - i) + 1 ≤ f) (hval : ValOK w M0 s pb f) :
  Calls Tryz.prog 73 [(.pointer (some ⟨bl, 0, none⟩)), (.pointer (some ⟨b2, 0, none⟩)), (.pointer (some ⟨b3, 0, none⟩))].toArray wv fun e w' => PPost w M0 M Rs 51 (fun x j v M' w' => i + 1 ≤ j ∧ j ≤ len s ∧ (len x ≤ j ∧ len x.flatten + 1 ≤ j - i0) ∧ ∃ v2 rs2, RowsV M' 6 Nd.cells rs2 x ∧ St w M0 w' M' (.box pb [str s, i64 j] 55 :: .box bl [v2] 47 :: .own 24 1 v2 rs2.length (rs2.flatMap valI) :: .box b2 [.pointer (some ⟨pb, 0, none⟩)] 53 :: .box b3 [i64 d] 3 :: Rs)) (mapR (fun y => xs ++ [y]) (valT f s i (d + 1))) e w' := by
 refine CW.enter1 Tryz.func73 rfl Tryz.ntmps73 (Nat.le_of_ble_eq_true rfl) fun Q hE => ?_
 have hhl : len rs = len xs := by unfold len; rw [hrow.len]
 refine CW.weaken [0, 1, 2] (L' := [Y 0 (.pointer (some ⟨bl, 0, none⟩)), Y 1 (.pointer (some ⟨b2, 0, none⟩)), Y 2 (.pointer (some ⟨b3, 0, none⟩))]) ?_ rfl
 refine CW.weaken [0, 1, 2] (L' := [Y 0 (.pointer (some ⟨bl, 0, none⟩)), Y 1 (.pointer (some ⟨b2, 0, none⟩)), Y 2 (.pointer (some ⟨b3, 0, none⟩))]) ?_ rfl
 replace hS : St w M0 wv M (.box b3 [(i64 d)] 3 :: .box pb [(str s), (i64 i)] 55 :: .box bl [v] 47 :: .own 24 1 v rs.length (rs.flatMap valI) :: .box b2 [(.pointer (some ⟨pb, 0, none⟩))] 53 :: Rs) := hS.front 4 rfl rfl
 replace hS : St w M0 wv M (.box b2 [(.pointer (some ⟨pb, 0, none⟩))] 53 :: .box b3 [(i64 d)] 3 :: .box pb [(str s), (i64 i)] 55 :: .box bl [v] 47 :: .own 24 1 v rs.length (rs.flatMap valI) :: Rs) := hS.front 4 rfl rfl
 replace hS : St w M0 wv M (.box bl [v] 47 :: .box b2 [(.pointer (some ⟨pb, 0, none⟩))] 53 :: .box b3 [(i64 d)] 3 :: .box pb [(str s), (i64 i)] 55 :: .own 24 1 v rs.length (rs.flatMap valI) :: Rs) := hS.front 3 rfl rfl
 refine CW.regionG (HsQ := [.box bl [v] 47, .box b2 [(.pointer (some ⟨pb, 0, none⟩))] 53, .box b3 [(i64 d)] 3]) 7 [.is true v, .is true (.pointer (some ⟨pb, 0, none⟩)), .is true (i64 d), .is true (i64 (d + 1)), .any, .any, .any, .any] [(7, ⟨fun vz M X => ∃ x3 j4 a1 c2, valT f s i (d + 1) = .ok x3 j4 ∧ i + 1 ≤ j4 ∧ j4 ≤ len s ∧ len x3 ≤ j4 - i ∧ Sl M 6 x3.length (.slice a1 x3.length c2) (x3.flatMap Nd.cells) ∧ vz = (.slice a1 x3.length c2) ∧ X = (.box pb [(str s), (i64 j4)] 55 :: .own 24 1 v rs.length (rs.flatMap valI) :: Rs), fun hm h => by obtain ⟨x3, j4, a1, c2, hr8, hF11a, hF11b, hF11c, hsl_v5, hvz, e⟩ := h; exact ⟨x3, j4, a1, c2, hr8, hF11a, hF11b, hF11c, hsl_v5.mono hm, hvz, e⟩⟩), (8, ⟨fun vz M X => ∃ x3 j4 a1 c2, valT f s i (d + 1) = .ok x3 j4 ∧ i + 1 ≤ j4 ∧ j4 ≤ len s ∧ len x3 ≤ j4 - i ∧ Sl M 6 x3.length (.slice a1 x3.length c2) (x3.flatMap Nd.cells) ∧ X = (.own 24 1 vz (([(SlH.mk a1 x3.length c2)] : List SlH)).length ((([(SlH.mk a1 x3.length c2)] : List SlH)).flatMap valI) :: .box pb [(str s), (i64 j4)] 55 :: .own 24 1 v rs.length (rs.flatMap valI) :: Rs), fun hm h => by obtain ⟨x3, j4, a1, c2, hr8, hF11a, hF11b, hF11c, hsl_v5, e⟩ := h; exact ⟨x3, j4, a1, c2, hr8, hF11a, hF11b, hF11c, hsl_v5.mono hm, e⟩⟩), (9, ⟨fun vz M X => ∃ x3 j4 a1 c2, valT f s i (d + 1) = .ok x3 j4 ∧ i + 1 ≤ j4 ∧ j4 ≤ len s ∧ len x3 ≤ j4 - i ∧ Sl M 6 x3.length (.slice a1 x3.length c2) (x3.flatMap Nd.cells) ∧ X = (.box pb [(str s), (i64 j4)] 55 :: .own 24 1 vz (rs ++ [(SlH.mk a1 x3.length c2)]).length ((rs ++ [(SlH.mk a1 x3.length c2)]).flatMap valI) :: Rs), fun hm h => by obtain ⟨x3, j4, a1, c2, hr8, hF11a, hF11b, hF11c, hsl_v5, e⟩ := h; exact ⟨x3, j4, a1, c2, hr8, hF11a, hF11b, hF11c, hsl_v5.mono hm, e⟩⟩)] (.box pb [(str s), (i64 i)] 55 :: .own 24 1 v rs.length (rs.flatMap valI) :: Rs) [none, none, none, none, some 0, some 1, some 2] hS tryz_mixed [0, 1, 2] rfl (by decide +kernel) (by decide +kernel) rfl rfl (by decide +kernel) (by decide +kernel) [7, 8, 9] rfl (by decide +kernel) (.cons ?_ (.cons ?_ (.cons ?_ (.cons ?_ (.cons ?_ (.cons ?_ (.cons ?_ (.cons ?_ (.nil)))))))))
 ·intro LL w1 M2 X hle4 hS3 hK hD
  replace hrow := hrow.mono hle4
  replace hS3 : St w M0 w1 M2 (.box bl [v] 47 :: .box b2 [(.pointer (some ⟨pb, 0, none⟩))] 53 :: .box b3 [(i64 d)] 3 :: X) := hS3
  refine RL.u (.loadB1 (v := v) hS3 extEq (i := 0) rfl (.t (hK _ _ rfl)) Tryz.isAgg47 rfl) rfl ?_
  exact RL.nil (RA.next fun a hs => ⟨_, _, Mem.le.refl _, hS3, hs, _, _, rfl, rfl, rfl⟩)
 ·intro LL w5 M6 X hle8 hS7 hK hD
  replace hrow := hrow.mono hle8
  replace hS7 : St w M0 w5 M6 (.box bl [v] 47 :: .box b2 [(.pointer (some ⟨pb, 0, none⟩))] 53 :: .box b3 [(i64 d)] 3 :: X) := hS7
  refine RL.u (.loadB1 (v := (.pointer (some ⟨pb, 0, none⟩))) hS7 extEq (i := 1) rfl (.t (hK _ _ rfl)) Tryz.isAgg53 rfl) rfl ?_
  exact RL.nil (RA.next fun a hs => ⟨_, _, Mem.le.refl _, hS7, hs, _, _, rfl, rfl, rfl⟩)
 ·intro LL w9 M10 X hle12 hS11 hK hD
  replace hrow := hrow.mono hle12
  replace hS11 : St w M0 w9 M10 (.box bl [v] 47 :: .box b2 [(.pointer (some ⟨pb, 0, none⟩))] 53 :: .box b3 [(i64 d)] 3 :: X) := hS11
  refine RL.u (.loadB1 (v := (i64 d)) hS11 extEq (i := 2) rfl (.t (hK _ _ rfl)) Tryz.isAgg3 rfl) rfl ?_
  exact RL.nil (RA.next fun a hs => ⟨_, _, Mem.le.refl _, hS11, hs, _, _, rfl, rfl, rfl⟩)
 ·intro LL w13 M14 X hle16 hS15 hK hD
  replace hrow := hrow.mono hle16
  replace hS15 : St w M0 w13 M14 (.box bl [v] 47 :: .box b2 [(.pointer (some ⟨pb, 0, none⟩))] 53 :: .box b3 [(i64 d)] 3 :: X) := hS15
  obtain ⟨g5, v5, hl5, rfl, rfl⟩ := hD 2 (by decide +kernel)
  refine RL.u (.add (.t hl5) .c (fun _ => by first | omega | (simp only [len_app, len_cons, len_nil] at *; omega))) rfl ?_
  exact RL.nil (RA.next fun a hs => ⟨_, _, Mem.le.refl _, hS15, hs, _, _, rfl, rfl, rfl⟩)
 ·intro LL w17 M18 X hle20 hS19 hK hD hX
  replace hrow := hrow.mono hle20
  obtain rfl : (.box pb [(str s), (i64 i)] 55 :: .own 24 1 v rs.length (rs.flatMap valI) :: Rs) = X := Eq.symm hX
  replace hS19 : St w M0 w17 M18 (.box bl [v] 47 :: .box b2 [(.pointer (some ⟨pb, 0, none⟩))] 53 :: .box b3 [(i64 d)] 3 :: .box pb [(str s), (i64 i)] 55 :: .own 24 1 v rs.length (rs.flatMap valI) :: Rs) := hS19
  obtain ⟨g4, v4, hl4, rfl, rfl⟩ := hD 1 (by decide +kernel)
  obtain ⟨g6, v6, hl6, rfl, rfl⟩ := hD 3 (by decide +kernel)
  replace hS19 : St w M0 w17 M18 (.box pb [(str s), (i64 i)] 55 :: .box bl [v] 47 :: .box b2 [(.pointer (some ⟨pb, 0, none⟩))] 53 :: .box b3 [(i64 d)] 3 :: .own 24 1 v rs.length (rs.flatMap valI) :: Rs) := hS19.front 3 rfl rfl
  refine RL.callR Tryz.call27 (.cons (.t hl4) (.cons (.t hl6) .nil)) (hval (Rs := (.box bl [v] 47 :: .box b2 [(.pointer (some ⟨pb, 0, none⟩))] 53 :: .box b3 [(i64 d)] 3 :: .own 24 1 v rs.length (rs.flatMap valI) :: Rs)) i (d + 1) hS19 (by omega) (by omega) (by omega) (by omega) (by omega)) rfl (fun ec p M32 w33 hr36 hS34 hle35 => ?_) (fun x23 j24 v25 M27 w26 hr28 hF31 hle30 => ?_)
  ·replace hS34 := hS34.drop Rs (List.sublist_append_right [_, _, _, _] _)
   exact hE.p (PPost.er (show mapR _ _ = _ from by rw [hr36]; rfl) hS34 (hle20.trans hle35))
  obtain ⟨a21, c22, rfl, hF31a, hF31b, hF31c, hsl_v25, hS29⟩ := hF31
  replace hrow := hrow.mono hle30
  replace hS29 : St w M0 w26 M27 (.box b3 [(i64 d)] 3 :: .box pb [(str s), (i64 j24)] 55 :: .box bl [v] 47 :: .box b2 [(.pointer (some ⟨pb, 0, none⟩))] 53 :: .own 24 1 v rs.length (rs.flatMap valI) :: Rs) := hS29.front 3 rfl rfl
  replace hS29 : St w M0 w26 M27 (.box b2 [(.pointer (some ⟨pb, 0, none⟩))] 53 :: .box b3 [(i64 d)] 3 :: .box pb [(str s), (i64 j24)] 55 :: .box bl [v] 47 :: .own 24 1 v rs.length (rs.flatMap valI) :: Rs) := hS29.front 3 rfl rfl
  replace hS29 : St w M0 w26 M27 (.box bl [v] 47 :: .box b2 [(.pointer (some ⟨pb, 0, none⟩))] 53 :: .box b3 [(i64 d)] 3 :: .box pb [(str s), (i64 j24)] 55 :: .own 24 1 v rs.length (rs.flatMap valI) :: Rs) := hS29.front 3 rfl rfl
  exact RL.nil (RA.next fun a hs => ⟨_, _, (.box pb [(str s), (i64 j24)] 55 :: .own 24 1 v rs.length (rs.flatMap valI) :: Rs), hle30, hS29, hs, ⟨_, _, rfl, trivial⟩, ⟨_, rfl, x23, j24, a21, c22, hr28, hF31a, hF31b, hF31c, hsl_v25, rfl, rfl⟩⟩)
 ·intro LL w37 M38 X hle40 hS39 hK hD hX
  replace hrow := hrow.mono hle40
  obtain ⟨vx41, hl7, x3, j4, a1, c2, hr8, hF11a, hF11b, hF11c, hsl_v5, rfl, rfl⟩ := hX
  replace hS39 : St w M0 w37 M38 (.box bl [v] 47 :: .box b2 [(.pointer (some ⟨pb, 0, none⟩))] 53 :: .box b3 [(i64 d)] 3 :: .box pb [(str s), (i64 j4)] 55 :: .own 24 1 v rs.length (rs.flatMap valI) :: Rs) := hS39
  refine RL.buildSlice (n := 1) (sz := 1) (e := 24) (vs := [(0, (.slice a1 x3.length c2))]) (cs := [(.slice a1 x3.length c2)]) hS39 (.cons (.t hl7) .nil) rfl rfl (fun w => by kernel_rfl) rfl (fun v42 w43 M44 hS45 hle46 => ?_)
  replace hS45 : St w M0 w43 M44 (.own 24 1 v42 (([(SlH.mk a1 x3.length c2)] : List SlH)).length ((([(SlH.mk a1 x3.length c2)] : List SlH)).flatMap valI) :: .box bl [v] 47 :: .box b2 [(.pointer (some ⟨pb, 0, none⟩))] 53 :: .box b3 [(i64 d)] 3 :: .box pb [(str s), (i64 j4)] 55 :: .own 24 1 v rs.length (rs.flatMap valI) :: Rs) := hS45
  replace hrow := hrow.mono hle46
  replace hsl_v5 := hsl_v5.mono hle46
  replace hS45 : St w M0 w43 M44 (.box b3 [(i64 d)] 3 :: .own 24 1 v42 (([(SlH.mk a1 x3.length c2)] : List SlH)).length ((([(SlH.mk a1 x3.length c2)] : List SlH)).flatMap valI) :: .box bl [v] 47 :: .box b2 [(.pointer (some ⟨pb, 0, none⟩))] 53 :: .box pb [(str s), (i64 j4)] 55 :: .own 24 1 v rs.length (rs.flatMap valI) :: Rs) := hS45.front 3 rfl rfl
  replace hS45 : St w M0 w43 M44 (.box b2 [(.pointer (some ⟨pb, 0, none⟩))] 53 :: .box b3 [(i64 d)] 3 :: .own 24 1 v42 (([(SlH.mk a1 x3.length c2)] : List SlH)).length ((([(SlH.mk a1 x3.length c2)] : List SlH)).flatMap valI) :: .box bl [v] 47 :: .box pb [(str s), (i64 j4)] 55 :: .own 24 1 v rs.length (rs.flatMap valI) :: Rs) := hS45.front 3 rfl rfl
  replace hS45 : St w M0 w43 M44 (.box bl [v] 47 :: .box b2 [(.pointer (some ⟨pb, 0, none⟩))] 53 :: .box b3 [(i64 d)] 3 :: .own 24 1 v42 (([(SlH.mk a1 x3.length c2)] : List SlH)).length ((([(SlH.mk a1 x3.length c2)] : List SlH)).flatMap valI) :: .box pb [(str s), (i64 j4)] 55 :: .own 24 1 v rs.length (rs.flatMap valI) :: Rs) := hS45.front 3 rfl rfl
  exact RL.nil (RA.next fun a hs => ⟨_, _, (.own 24 1 v42 (([(SlH.mk a1 x3.length c2)] : List SlH)).length ((([(SlH.mk a1 x3.length c2)] : List SlH)).flatMap valI) :: .box pb [(str s), (i64 j4)] 55 :: .own 24 1 v rs.length (rs.flatMap valI) :: Rs), hle46, hS45, hs, ⟨_, _, rfl, trivial⟩, ⟨_, rfl, x3, j4, a1, c2, hr8, hF11a, hF11b, hF11c, hsl_v5, rfl⟩⟩)
 ·intro LL w47 M48 X hle50 hS49 hK hD hX
  replace hrow := hrow.mono hle50
  obtain ⟨vx51, hl8, x3, j4, a1, c2, hr8, hF11a, hF11b, hF11c, hsl_v5, rfl⟩ := hX
  replace hS49 : St w M0 w47 M48 (.box bl [v] 47 :: .box b2 [(.pointer (some ⟨pb, 0, none⟩))] 53 :: .box b3 [(i64 d)] 3 :: .own 24 1 vx51 (([(SlH.mk a1 x3.length c2)] : List SlH)).length ((([(SlH.mk a1 x3.length c2)] : List SlH)).flatMap valI) :: .box pb [(str s), (i64 j4)] 55 :: .own 24 1 v rs.length (rs.flatMap valI) :: Rs) := hS49
  obtain ⟨g3, v3, hl3, rfl, hv3⟩ := hD 0 (by decide +kernel)
  subst v3
  refine RL.append1 (f := valI) (l := rs) (y := (SlH.mk a1 x3.length c2)) hS49 (k := 5) rfl (.t hl3) (.t hl8) (hS49.sl (i := 3) rfl) Tryz.underlying47 Tryz.type24 rfl rfl rfl valI_one (by' := 24) rfl rfl (by first | omega | (simp only [len_app, len_cons, len_nil] at *; omega)) rfl (Hs' := fun v' => (.box bl [v] 47 :: .box b2 [(.pointer (some ⟨pb, 0, none⟩))] 53 :: .box b3 [(i64 d)] 3 :: .own 24 1 vx51 (([(SlH.mk a1 x3.length c2)] : List SlH)).length ((([(SlH.mk a1 x3.length c2)] : List SlH)).flatMap valI) :: .box pb [(str s), (i64 j4)] 55 :: .own 24 1 v' (rs ++ [(SlH.mk a1 x3.length c2)]).length ((rs ++ [(SlH.mk a1 x3.length c2)]).flatMap valI) :: Rs)) (fun _ => rfl) (fun v52 w53 M54 hS55 hle56 => ?_)
  replace hS55 := hS55.erase 3 rfl
  replace hrow := hrow.mono hle56
  replace hsl_v5 := hsl_v5.mono hle56
  replace hS55 : St w M0 w53 M54 (.box b3 [(i64 d)] 3 :: .box bl [v] 47 :: .box b2 [(.pointer (some ⟨pb, 0, none⟩))] 53 :: .box pb [(str s), (i64 j4)] 55 :: .own 24 1 v52 (rs ++ [(SlH.mk a1 x3.length c2)]).length ((rs ++ [(SlH.mk a1 x3.length c2)]).flatMap valI) :: Rs) := hS55.front 2 rfl rfl
  replace hS55 : St w M0 w53 M54 (.box b2 [(.pointer (some ⟨pb, 0, none⟩))] 53 :: .box b3 [(i64 d)] 3 :: .box bl [v] 47 :: .box pb [(str s), (i64 j4)] 55 :: .own 24 1 v52 (rs ++ [(SlH.mk a1 x3.length c2)]).length ((rs ++ [(SlH.mk a1 x3.length c2)]).flatMap valI) :: Rs) := hS55.front 2 rfl rfl
  replace hS55 : St w M0 w53 M54 (.box bl [v] 47 :: .box b2 [(.pointer (some ⟨pb, 0, none⟩))] 53 :: .box b3 [(i64 d)] 3 :: .box pb [(str s), (i64 j4)] 55 :: .own 24 1 v52 (rs ++ [(SlH.mk a1 x3.length c2)]).length ((rs ++ [(SlH.mk a1 x3.length c2)]).flatMap valI) :: Rs) := hS55.front 2 rfl rfl
  exact RL.nil (RA.next fun a hs => ⟨_, _, (.box pb [(str s), (i64 j4)] 55 :: .own 24 1 v52 (rs ++ [(SlH.mk a1 x3.length c2)]).length ((rs ++ [(SlH.mk a1 x3.length c2)]).flatMap valI) :: Rs), hle56, hS55, hs, ⟨_, _, rfl, trivial⟩, ⟨_, rfl, x3, j4, a1, c2, hr8, hF11a, hF11b, hF11c, hsl_v5, rfl⟩⟩)
 ·intro LL w57 M58 X hle60 hS59 hK hD hX
  replace hrow := hrow.mono hle60
  obtain ⟨vx61, hl9, x3, j4, a1, c2, hr8, hF11a, hF11b, hF11c, hsl_v5, rfl⟩ := hX
  replace hS59 : St w M0 w57 M58 (.box bl [v] 47 :: .box b2 [(.pointer (some ⟨pb, 0, none⟩))] 53 :: .box b3 [(i64 d)] 3 :: .box pb [(str s), (i64 j4)] 55 :: .own 24 1 vx61 (rs ++ [(SlH.mk a1 x3.length c2)]).length ((rs ++ [(SlH.mk a1 x3.length c2)]).flatMap valI) :: Rs) := hS59
  refine RL.storeS (v := vx61) hS59 (hS59.sl (i := 4) rfl) (i := 0) rfl (.t (hK _ _ rfl)) (.t hl9) Tryz.sizeOf47 rfl (cs' := [vx61]) rfl (Hs' := (.box bl [vx61] 47 :: .box b2 [(.pointer (some ⟨pb, 0, none⟩))] 53 :: .box b3 [(i64 d)] 3 :: .box pb [(str s), (i64 j4)] 55 :: .own 24 1 vx61 (rs ++ [(SlH.mk a1 x3.length c2)]).length ((rs ++ [(SlH.mk a1 x3.length c2)]).flatMap valI) :: Rs)) rfl (fun w62 hS63 => ?_)
  refine RL.nil (slots_sub (E := [Y 0 (.pointer (some ⟨bl, 0, none⟩)), Y 1 (.pointer (some ⟨b2, 0, none⟩)), Y 2 (.pointer (some ⟨b3, 0, none⟩))]) (.cons (hK _ _ rfl) (.cons (hK _ _ rfl) (.cons (hK _ _ rfl) .nil))) ?_)
  replace hS63 : St w M0 w62 M58 (.box b3 [(i64 d)] 3 :: .box bl [vx61] 47 :: .box b2 [(.pointer (some ⟨pb, 0, none⟩))] 53 :: .box pb [(str s), (i64 j4)] 55 :: .own 24 1 vx61 (rs ++ [(SlH.mk a1 x3.length c2)]).length ((rs ++ [(SlH.mk a1 x3.length c2)]).flatMap valI) :: Rs) := hS63.front 2 rfl rfl
  replace hS63 : St w M0 w62 M58 (.box b2 [(.pointer (some ⟨pb, 0, none⟩))] 53 :: .box b3 [(i64 d)] 3 :: .box bl [vx61] 47 :: .box pb [(str s), (i64 j4)] 55 :: .own 24 1 vx61 (rs ++ [(SlH.mk a1 x3.length c2)]).length ((rs ++ [(SlH.mk a1 x3.length c2)]).flatMap valI) :: Rs) := hS63.front 2 rfl rfl
  replace hS63 : St w M0 w62 M58 (.own 24 1 vx61 (rs ++ [(SlH.mk a1 x3.length c2)]).length ((rs ++ [(SlH.mk a1 x3.length c2)]).flatMap valI) :: .box b2 [(.pointer (some ⟨pb, 0, none⟩))] 53 :: .box b3 [(i64 d)] 3 :: .box bl [vx61] 47 :: .box pb [(str s), (i64 j4)] 55 :: Rs) := hS63.front 4 rfl rfl
  replace hS63 : St w M0 w62 M58 (.box bl [vx61] 47 :: .own 24 1 vx61 (rs ++ [(SlH.mk a1 x3.length c2)]).length ((rs ++ [(SlH.mk a1 x3.length c2)]).flatMap valI) :: .box b2 [(.pointer (some ⟨pb, 0, none⟩))] 53 :: .box b3 [(i64 d)] 3 :: .box pb [(str s), (i64 j4)] 55 :: Rs) := hS63.front 3 rfl rfl
  replace hS63 : St w M0 w62 M58 (.box pb [(str s), (i64 j4)] 55 :: .box bl [vx61] 47 :: .own 24 1 vx61 (rs ++ [(SlH.mk a1 x3.length c2)]).length ((rs ++ [(SlH.mk a1 x3.length c2)]).flatMap valI) :: .box b2 [(.pointer (some ⟨pb, 0, none⟩))] 53 :: .box b3 [(i64 d)] 3 :: Rs) := hS63.front 4 rfl rfl
  refine  (hE.e0 rfl ?_)
  exact PPost.ok (show mapR _ _ = _ from by rw [hr8]; rfl) ⟨by omega, by omega, by rw [List.flatten_append]; simp only [len_app, len_cons, len_nil, List.flatten_cons, List.flatten_nil]; omega, _, _, RowsV.snoc hsl_v5 hrow, hS63⟩ hle60

end Go.Proofs.YtjfaikgooldcbaaGreatDoor
namespace Go.Eng
open Go.RowKit

structure SV where
  key : Str
  val : Value
  born : Nat
def SV.ent (p : SV) : MapEntry := { key := str p.key, val := p.val, born := p.born }
def smobj (l : List SV) (clock : Nat) : Obj := .map ⟨l.map SV.ent⟩ clock
def sget : List SV → Str → Option Value
  | [], _ => none
  | p :: l, x => if x == p.key then some p.val else sget l x
def sput : List SV → Str → Value → Option (List SV)
  | [], _, _ => none
  | p :: l, x, v => if x == p.key then some (⟨x, v, p.born⟩ :: l) else (sput l x v).map (p :: ·)
def sset (l : List SV) (c : Nat) (x : Str) (v : Value) : List SV := match sput l x v with | some l' => l' | none => l ++ [⟨x, v, c⟩]
def sclk (l : List SV) (c : Nat) (x : Str) (v : Value) : Nat := match sput l x v with | some _ => c | none => c + 1
def sdel : List SV → Str → List SV
  | [], _ => []
  | p :: l, x => if x == p.key then l else p :: sdel l x
def sfind : List SV → Str → Nat → Option (Nat × Value)
  | [], _, _ => none
  | p :: l, x, i => if x == p.key then some (i, p.val) else sfind l x (i + 1)
theorem str_beq (x y : Str) : ((⟨⟨x⟩⟩ : ByteArray) == ⟨⟨y⟩⟩) = (x == y) := by
  show ((⟨x⟩ : Array UInt8) == ⟨y⟩) = (x == y)
  simp
theorem findNow_sent (x : Str) : ∀ (l : List SV) (i : Nat), Instr.findNow .string (str x) (l.map SV.ent) i = some (sfind l x i)
  | [], _ => rfl
  | p :: l, i => by
    simp only [List.map_cons, Instr.findNow, SV.ent, Instr.sameNow, sfind, str_beq]
    by_cases h : (x == p.key) = true
    · rw [h]; rfl
    · rw [Bool.not_eq_true] at h; rw [h]; exact findNow_sent x l (i + 1)
theorem sfind_get (x : Str) : ∀ (l : List SV) (i : Nat), (sfind l x i).map (·.2) = sget l x
  | [], _ => rfl
  | p :: l, i => by
    simp only [sfind, sget]; split
    · rfl
    · exact sfind_get x l (i + 1)
theorem sfind_put (x : Str) (v : Value) : ∀ (l : List SV) (i : Nat), (sfind l x i = none ∧ sput l x v = none) ∨ ∃ j u p l', sfind l x i = some (i + j, u) ∧ l[j]? = some p ∧ x = p.key ∧ sput l x v = some l' ∧ l' = l.modify j (fun p => ⟨x, v, p.born⟩)
  | [], _ => .inl ⟨rfl, rfl⟩
  | p :: l, i => by
    by_cases h : (x == p.key) = true
    · refine .inr ⟨0, p.val, p, ⟨x, v, p.born⟩ :: l, ?_, rfl, by simpa using h, ?_, by simp⟩
      · simp only [sfind, h, if_true]; rfl
      · simp only [sput, h, if_true]
    · rcases sfind_put x v l (i + 1) with ⟨h1, h2⟩ | ⟨j, u, q, l', h1, h2, h3, h4, h5⟩
      · refine .inl ⟨?_, ?_⟩
        · simp only [sfind, h]; exact h1
        · simp only [sput, h, h2]; rfl
      · refine .inr ⟨j + 1, u, q, p :: l', ?_, by simpa using h2, h3, ?_, ?_⟩
        · simp only [sfind, h]; rw [show i + (j + 1) = i + 1 + j from by omega]; exact h1
        · simp only [sput, h, h4]; rfl
        · subst h5; simp
theorem sfind_del (x : Str) : ∀ (l : List SV) (i : Nat), (sfind l x i = none ∧ sdel l x = l) ∨ ∃ j u, sfind l x i = some (i + j, u) ∧ j < l.length ∧ sdel l x = l.eraseIdx j
  | [], _ => .inl ⟨rfl, rfl⟩
  | p :: l, i => by
    by_cases h : (x == p.key) = true
    · exact .inr ⟨0, p.val, by simp only [sfind, h, if_true]; rfl, by simp, by simp only [sdel, h, if_true]; rfl⟩
    · rcases sfind_del x l (i + 1) with ⟨h1, h2⟩ | ⟨j, u, h1, h2, h3⟩
      · exact .inl ⟨by simp only [sfind, h]; exact h1, by simp only [sdel, h, h2]; rfl⟩
      · refine .inr ⟨j + 1, u, ?_, by simp; omega, ?_⟩
        · simp only [sfind, h]; rw [show i + (j + 1) = i + 1 + j from by omega]; exact h1
        · simp only [sdel, h, h3]; simp
theorem run_scheckKey {P : Program} {t : TypeId} (h : P.underlying t = some .string) (b : Bool) (x : Str) (w : World) : (Instr.checkKey b 10000 t (str x)).run P w = .ok () w := by
  show (Instr.checkKey b (9999 + 1) t (str x)).run P w = .ok () w
  unfold Instr.checkKey
  rw [Sem.run_bind, run_underlying h]; rfl
theorem run_sfindKey {P : Program} {t : TypeId} (h : P.underlying t = some .string) (x : Str) (l : List SV) (w : World) : (Instr.findKey t (str x) (l.map SV.ent)).run P w = .ok (sfind l x 0) w := by
  simp only [Instr.findKey, Sem.run_bind, run_underlying h, Result.andThen_ok, findNow_sent]; rfl
theorem run_sgetMap {P : Program} {w : World} {b : Nat} {l : List SV} {c : Nat} (h : w.heap[b]? = some (smobj l c)) : (getObj b).run P w = .ok (smobj l c) w := by
  simp [getObj, Sem.run, h, smobj]
theorem run_ssetMap {P : Program} {w : World} {b : Nat} {l : List SV} {c : Nat} (h : w.heap[b]? = some (smobj l c)) (o' : Obj) : (setObj b o').run P w = .ok () (setObjAt w b o') := by
  simp [setObj, Sem.run, h, setObjAt, smobj]

theorem run_slookup {P : Program} {w : World} {b : Nat} {l : List SV} {c : Nat} {t kt e : TypeId} {z : Value} {x : Str} {ok : Bool} (ht : P.underlying t = some (.map kt e)) (hk : P.underlying kt = some .string) (hz : ∀ w, (zeroValue e).run P w = .ok z w)
    (h : w.heap[b]? = some (smobj l c)) : (Instr.lookup t (.map (some b)) (str x) ok).run P w = .ok (if ok then .tuple #[(sget l x).getD z, .bool (sget l x).isSome] else (sget l x).getD z) w := by
  simp only [Instr.lookup, Sem.run_bind, run_underlying ht, Result.andThen_ok, run_sgetMap h, smobj, Sem.run_pure, run_scheckKey hk, run_sfindKey hk]
  have hg := sfind_get x l 0
  cases hf : sfind l x 0 with
  | none => rw [hf] at hg; rw [← hg]; simp [Sem.run_bind, hz]
  | some q => rw [hf] at hg; rw [← hg]; simp
theorem run_skeyStays {P : Program} {w : World} (x : Str) : (Instr.keyThatStays (str x) (str x)).run P w = .ok (str x) w := by
  unfold Instr.keyThatStays
  rw [show Instr.sameBits 10000 (str x) (str x) = true from by simp [Instr.sameBits, str_beq]]; rfl
theorem run_smapUpdate {P : Program} {w : World} {b : Nat} {l : List SV} {c : Nat} {t kt e : TypeId} {x : Str} {v : Value} (ht : P.underlying t = some (.map kt e)) (hk : P.underlying kt = some .string)
    (h : w.heap[b]? = some (smobj l c)) : (Instr.mapUpdate t (.map (some b)) (str x) v).run P w = .ok () (setObjAt w b (smobj (sset l c x v) (sclk l c x v))) := by
  simp only [Instr.mapUpdate, Sem.run_bind, run_underlying ht, Result.andThen_ok, run_sgetMap h, smobj, run_scheckKey hk, run_sfindKey hk]
  rcases sfind_put x v l 0 with ⟨h1, h2⟩ | ⟨j, u, p, l', h1, h2, h3, h4, h5⟩
  · rw [h1]
    simp only [sset, sclk, h2]
    rw [run_ssetMap h]; simp [SV.ent]
  · rw [h1]
    have e1 : ((l.map SV.ent).toArray[0 + j]?) = some (SV.ent p) := by simp [h2]
    have e2 : (Array.mk (l.map SV.ent))[0 + j]? = some (SV.ent p) := e1
    simp only [Sem.run_bind, e2, Option.map_some, Option.getD_some]
    rw [show (SV.ent p).key = str x from by rw [h3]; rfl, run_skeyStays]
    simp only [Result.andThen_ok, sset, sclk, h4]
    rw [run_ssetMap h]
    congr 3
    subst h5
    rw [Nat.zero_add]
    apply Array.ext'
    rw [Array.toList_modify]
    exact map_modify' SV.ent _ _ (fun x => rfl) l j

section rl
variable {P : Program} {ops : Array Oper} {Q : Exit → Act → World → Prop} {N : Nat} {rest : List Oper} {L : Env} {w0 w : World} {M0 M : Mem} {Hs : List HO} {d : Nat} {ty : TypeId} {ps : String} {af : Array Edge}
theorem RL.smakeMap {t : TypeId} (hS : St w0 M0 w M Hs) (hd : Nat.blt d N = true)
    (h : ∀ w' b, St w0 M0 w' M (.raw b (smobj [] 0) :: Hs) → RL P ops Q N rest ((d, true, .map (some b)) :: L) w') : RL P ops Q N (⟨some d, .makeMap t none, ty, ps, af, none⟩ :: rest) L w := by
  intro a hs
  refine wpList_plain rfl fun K hK => ?_
  have key : (execOp a.eval ⟨some d, .makeMap t none, ty, ps, af, none⟩).run P w = .ok (.value (.map (some w.heap.size))) (w.alloc (.map #[] 0)) := rfl
  simp only [Oper.wp, key, Oper.upon_value]
  exact hK _ _ (h _ _ (hS.newRaw (smobj [] 0)) _ (hs.put hd true _))
theorem RL.smapUpdate {t kt e : TypeId} {m x y : Operand} {i b c c' : Nat} {l l' : List SV} {n : Str} {v : Value} {Hs' : List HO} (ins : Bool) (hS : St w0 M0 w M Hs) (hi : Hs[i]? = some (.raw b (smobj l c))) (hm : Opd L true m (.map (some b))) (hx : Opd L true x (str n)) (hy : Opd L true y v)
    (ht : P.underlying t = some (.map kt e)) (hk : P.underlying kt = some .string) (hl : sset l c n v = l') (hc : sclk l c n v = c') (hHs : Hs.set i (.raw b (smobj l' c')) = Hs')
    (h : ∀ w', St w0 M0 w' M Hs' → RL P ops Q N rest L w') : RL P ops Q N (⟨none, if ins then .insert t m x y else .mapUpdate t m x y, ty, ps, af, none⟩ :: rest) L w := by
  intro a hs
  refine wpList_plain rfl fun K hK => ?_
  have hb := (hS.obj hi).2.1
  have key : (execOp a.eval ⟨none, if ins then .insert t m x y else .mapUpdate t m x y, ty, ps, af, none⟩).run P w = .ok .skip (setObjAt w b (smobj l' c')) := by
    have := run_smapUpdate (P := P) (x := n) (v := v) ht hk hb
    cases ins <;> simp only [execOp, hm a N hs rfl, hx a N hs rfl, hy a N hs rfl, Bool.false_eq_true, if_true, if_false] <;> rw [Sem.run_bind, this, hl, hc] <;> rfl
  simp only [Oper.wp, key, Oper.upon_skip]
  exact hK _ _ (h _ (hHs ▸ hS.setRaw hi _) _ hs)
theorem RL.srangeM {t kt e : TypeId} {x : Operand} {i b c : Nat} {l : List SV} (hS : St w0 M0 w M Hs) (hi : Hs[i]? = some (.raw b (smobj l c))) (hx : Opd L true x (.map (some b))) (ht : P.underlying t = some (.map kt e)) (hd : Nat.blt d N = true)
    (h : ∀ w' r, St w0 M0 w' M (.raw r (.mapIter (some b) c #[] c) :: Hs) → RL P ops Q N rest ((d, true, .pointer (some ⟨r, 0, none⟩)) :: L) w') : RL P ops Q N (⟨some d, .range t x, ty, ps, af, none⟩ :: rest) L w := by
  intro a hs
  refine wpList_plain rfl fun K hK => ?_
  have hb := (hS.obj hi).2.1
  have key : (execOp a.eval ⟨some d, .range t x, ty, ps, af, none⟩).run P w = .ok (.value (.pointer (some ⟨w.heap.size, 0, none⟩))) (w.alloc (.mapIter (some b) c #[] c)) := by
    simp only [execOp, hx a N hs rfl]; rw [Sem.run_bind, run_range_map w t kt e b _ _ ht hb]; rfl
  simp only [Oper.wp, key, Oper.upon_value]
  exact hK _ _ (h _ _ (hS.newRaw _) _ (hs.put hd true _))
/-- The next entry, whichever it is. -/
theorem RL.snextM {x : Operand} {i j b r c since c0 : Nat} {seen : Array Nat} {l : List SV} (hS : St w0 M0 w M Hs) (hi : Hs[i]? = some (.raw b (smobj l c))) (hj : Hs[j]? = some (.raw r (.mapIter (some b) since seen c0))) (hx : Opd L true x (.pointer (some ⟨r, 0, none⟩)))
    (hold : ∀ p ∈ l, p.born < since) (hsc : since ≤ c0) (hd : Nat.blt d N = true)
    (h1 : ∀ p ∈ l, ¬ seen.contains p.born = true → ∀ w', St w0 M0 w' M (Hs.set j (.raw r (.mapIter (some b) since (seen.push p.born) c))) → RL P ops Q N rest ((d, true, .tuple #[.bool true, str p.key, p.val]) :: L) w')
    (h2 : (∀ p ∈ l, seen.contains p.born = true) → RL P ops Q N rest ((d, true, .tuple #[.bool false]) :: L) w) : RL P ops Q N (⟨some d, .next x false, ty, ps, af, none⟩ :: rest) L w := by
  intro a hs
  refine wpList_plain rfl fun K hK => ?_
  have hb := (hS.obj hi).2.1
  have hr := (hS.obj hj).2.1
  rcases run_next_at (P := P) w ty r b since c0 seen ⟨l.map SV.ent⟩ c hr hb (by intro x hx; simp only [List.mem_map] at hx; obtain ⟨p, hp, rfl⟩ := hx; exact hold p hp) hsc with ⟨he, hrun⟩ | ⟨en, hen, w1, hw1, hrun⟩
  · have key : (execOp a.eval ⟨some d, .next x false, ty, ps, af, none⟩).run P w = .ok (.value (.tuple #[.bool false])) w := by
      simp only [execOp, hx a N hs rfl]; rw [Sem.run_bind, hrun]; rfl
    simp only [Oper.wp, key, Oper.upon_value]
    refine hK _ _ (h2 ?_ _ (hs.put hd true _))
    intro p hp
    by_cases hc : seen.contains p.born = true
    · exact hc
    · exfalso
      have : (leftOf ⟨l.map SV.ent⟩ seen).size = 0 := he
      unfold leftOf at this
      rw [Array.size_eq_zero_iff, Array.filter_eq_empty_iff] at this
      have := this (SV.ent p) (by simp only [List.mem_toArray, Array.mem_def, List.mem_map]; exact ⟨p, hp, rfl⟩)
      apply this; show (!seen.contains p.born) = true
      simpa using hc
  · unfold leftOf at hen
    simp only [Array.toList_filter, List.mem_filter, List.mem_map, Bool.not_eq_true'] at hen
    obtain ⟨⟨p, hp, rfl⟩, hns⟩ := hen
    have key : (execOp a.eval ⟨some d, .next x false, ty, ps, af, none⟩).run P w = .ok (.value (.tuple #[.bool true, str p.key, p.val])) (setObjAt w1 r (.mapIter (some b) since (seen.push p.born) c)) := by
      simp only [execOp, hx a N hs rfl]; rw [Sem.run_bind, hrun]; rfl
    simp only [Oper.wp, key, Oper.upon_value]
    have hS1 : St w0 M0 w1 M Hs := by rcases hw1 with rfl | rfl; exact hS; exact hS.ext (Ext.drew _)
    exact hK _ _ (h1 p hp (by show ¬ seen.contains p.born = true; have : seen.contains p.born = false := hns; rw [this]; simp) _ (hS1.setRaw hj _) _ (hs.put hd true _))
end rl
section pv
variable {P : Program} {C : World → Prop} {L : Env} {W : Bool} {d : Option Tmp} {ty : TypeId} {ps : String} {af : Array Edge} {gd : Option (Nat × Bool)} {w0 w : World} {M0 M : Mem} {Hs : List HO}
theorem PV.sentry {x : Operand} {i j b r c since : Nat} {seen : Array Nat} {l : List SV} {p : SV} (hS : St w0 M0 w M Hs) (hC : ∀ w', C w' → Ext w w') (hi : Hs[i]? = some (.raw b (smobj l c))) (hj : Hs[j]? = some (.raw r (.mapIter (some b) since (seen.push p.born) c))) (hx : Opd L W x (.pointer (some ⟨r, 0, none⟩)))
    (hp : p ∈ l) (hn : (l.map (·.born)).Nodup) : PV P C L W ⟨d, .entry x, ty, ps, af, gd⟩ (.tuple #[str p.key, p.val]) := by
  intro a N hs hW w' hw'
  have hS' := hS.ext (hC w' hw')
  have hb := (hS'.obj hi).2.1
  have hr := (hS'.obj hj).2.1
  have := run_entry_at (P := P) w' r b since seen ⟨l.map SV.ent⟩ c (SV.ent p) hr hb (List.mem_map.2 ⟨p, hp, rfl⟩) (by simpa [List.map_map, Function.comp_def, SV.ent] using hn)
  simp only [execOp, hx a N hs hW]; rw [Sem.run_bind, this]; rfl
theorem PV.slookup {t kt e : TypeId} {x y : Operand} {i b c : Nat} {l : List SV} {n : Str} {z v : Value} (hS : St w0 M0 w M Hs) (hC : ∀ w', C w' → Ext w w') (hi : Hs[i]? = some (.raw b (smobj l c))) (hx : Opd L W x (.map (some b))) (hy : Opd L W y (str n))
    (ht : P.underlying t = some (.map kt e)) (hk : P.underlying kt = some .string) (hz : ∀ w, (zeroValue e).run P w = .ok z w) (hv : (sget l n).getD z = v) : PV P C L W ⟨d, .lookup t x y false, ty, ps, af, gd⟩ v := by
  intro a N hs hW w' hw'
  have hb := ((hS.ext (hC w' hw')).obj hi).2.1
  have := run_slookup (P := P) (x := n) (ok := false) ht hk hz hb
  simp only [execOp, hx a N hs hW, hy a N hs hW]; rw [Sem.run_bind, this, ← hv]; rfl
theorem PV.slookupOk {t kt e : TypeId} {x y : Operand} {i b c : Nat} {l : List SV} {n : Str} {z v : Value} {q : Bool} (hS : St w0 M0 w M Hs) (hC : ∀ w', C w' → Ext w w') (hi : Hs[i]? = some (.raw b (smobj l c))) (hx : Opd L W x (.map (some b))) (hy : Opd L W y (str n))
    (ht : P.underlying t = some (.map kt e)) (hk : P.underlying kt = some .string) (hz : ∀ w, (zeroValue e).run P w = .ok z w) (hv : (sget l n).getD z = v) (hq : (sget l n).isSome = q) : PV P C L W ⟨d, .lookup t x y true, ty, ps, af, gd⟩ (.tuple #[v, .bool q]) := by
  intro a N hs hW w' hw'
  have hb := ((hS.ext (hC w' hw')).obj hi).2.1
  have := run_slookup (P := P) (x := n) (ok := true) ht hk hz hb
  simp only [execOp, hx a N hs hW, hy a N hs hW]; rw [Sem.run_bind, this, ← hv, ← hq]; rfl
end pv
end Go.Eng
namespace Go.Eng
open Go.RowKit

def MapV (M : Mem) : List SV → List (Str × Vl) → Prop
  | [], [] => True
  | p :: l, q :: m => p.key = q.1 ∧ (∃ h : SlH, p.val = h.v ∧ Sl M 6 q.2.length h.v (q.2.flatMap Nd.cells)) ∧ MapV M l m
  | _, _ => False
/-- Births: all before the clock, none twice. -/
def BornOK (l : List SV) (c : Nat) : Prop := (∀ p ∈ l, p.born < c) ∧ (l.map (·.born)).Nodup
theorem MapV.mono {M M' : Mem} (hm : M.le M') : ∀ {l : List SV} {m : List (Str × Vl)}, MapV M l m → MapV M' l m
  | [], [], _ => trivial
  | _ :: _, _ :: _, ⟨h1, ⟨h, h2, h3⟩, h4⟩ => ⟨h1, ⟨h, h2, h3.mono hm⟩, MapV.mono hm h4⟩
  | [], _ :: _, h => h.elim
  | _ :: _, [], h => h.elim
theorem sput_map {M : Mem} {n : Str} {x : Vl} {h : SlH} (hx : Sl M 6 x.length h.v (x.flatMap Nd.cells)) : ∀ {l : List SV} {m : List (Str × Vl)}, MapV M l m →
    (∃ l', sput l n h.v = some l' ∧ MapV M l' (putV m n x) ∧ l'.map (·.born) = l.map (·.born)) ∨ (sput l n h.v = none ∧ putV m n x = m ++ [(n, x)])
  | [], [], _ => .inr ⟨rfl, rfl⟩
  | [], _ :: _, h => h.elim
  | _ :: _, [], h => h.elim
  | p :: l, q :: m, ⟨h1, h2, h4⟩ => by
    unfold sput putV
    by_cases hk : (n == p.key) = true
    · rw [if_pos hk, if_pos (by rw [← h1]; exact hk)]
      exact .inl ⟨_, rfl, ⟨rfl, ⟨h, rfl, hx⟩, h4⟩, rfl⟩
    · rw [if_neg hk, if_neg (by rw [← h1]; exact hk)]
      rcases sput_map (n := n) hx h4 with ⟨l', e1, e2, e3⟩ | ⟨e1, e2⟩
      · exact .inl ⟨p :: l', by rw [e1]; rfl, ⟨h1, h2, e2⟩, by simp [e3]⟩
      · exact .inr ⟨by rw [e1]; rfl, by rw [e2]; rfl⟩
theorem MapV.snoc {M : Mem} {n : Str} {x : Vl} {h : SlH} {c : Nat} (hx : Sl M 6 x.length h.v (x.flatMap Nd.cells)) : ∀ {l : List SV} {m : List (Str × Vl)}, MapV M l m → MapV M (l ++ [⟨n, h.v, c⟩]) (m ++ [(n, x)])
  | [], [], _ => ⟨rfl, ⟨h, rfl, hx⟩, trivial⟩
  | [], _ :: _, h => h.elim
  | _ :: _, [], h => h.elim
  | _ :: _, _ :: _, ⟨h1, h2, h4⟩ => ⟨h1, h2, MapV.snoc hx h4⟩
theorem MapV.put {M : Mem} {n : Str} {x : Vl} {h : SlH} {c : Nat} {l : List SV} {m : List (Str × Vl)} (hm : MapV M l m) (hx : Sl M 6 x.length h.v (x.flatMap Nd.cells)) : MapV M (sset l c n h.v) (putV m n x) := by
  unfold sset
  rcases sput_map (n := n) hx hm with ⟨l', e1, e2, e3⟩ | ⟨e1, e2⟩
  · rw [e1]; exact e2
  · rw [e1, e2]; exact hm.snoc hx
theorem BornOK.put {M : Mem} {n : Str} {x : Vl} {h : SlH} {c : Nat} {l : List SV} {m : List (Str × Vl)} (hb : BornOK l c) (hm : MapV M l m) (hx : Sl M 6 x.length h.v (x.flatMap Nd.cells)) : BornOK (sset l c n h.v) (sclk l c n h.v) := by
  unfold sset sclk
  rcases sput_map (n := n) hx hm with ⟨l', e1, e2, e3⟩ | ⟨e1, e2⟩
  · rw [e1]
    refine ⟨fun p hp => ?_, by rw [e3]; exact hb.2⟩
    have : p.born ∈ l.map (·.born) := e3 ▸ List.mem_map.2 ⟨p, hp, rfl⟩
    obtain ⟨q, hq, e⟩ := List.mem_map.1 this
    dsimp only; rw [← e]; exact hb.1 q hq
  · rw [e1]
    refine ⟨fun p hp => ?_, ?_⟩
    · rcases List.mem_append.1 hp with hp | hp
      · have := hb.1 p hp; dsimp only; omega
      · simp only [List.mem_singleton] at hp; subst hp; dsimp only; omega
    · dsimp only
      rw [List.map_append, List.nodup_append]
      refine ⟨hb.2, by simp, fun a ha b hb' => ?_⟩
      obtain ⟨q, hq, rfl⟩ := List.mem_map.1 ha
      simp at hb'
      have := hb.1 q hq
      omega
theorem MapV.mem {M : Mem} {p : SV} : ∀ {l : List SV} {m : List (Str × Vl)}, MapV M l m → p ∈ l → ∃ pk ph pb px, p = ⟨pk, SlH.v ph, pb⟩ ∧ (pk, px) ∈ m ∧ Sl M 6 (List.length (α := Nd) px) ph.v (px.flatMap Nd.cells)
  | [], _, _, h => by cases h
  | _ :: _, [], h, _ => h.elim
  | q :: l, r :: m, ⟨h1, ⟨h, h2, h3⟩, h4⟩, hp => by
    rcases List.mem_cons.1 hp with rfl | hp
    · obtain ⟨k, v, b⟩ := p
      dsimp only at h1 h2
      subst h1; subst h2
      exact ⟨_, h, b, r.2, rfl, List.mem_cons_self, h3⟩
    · obtain ⟨pk, ph, pb, px, e1, e2, e3⟩ := MapV.mem h4 hp
      exact ⟨pk, ph, pb, px, e1, List.mem_cons_of_mem _ e2, e3⟩
/-- How many nodes all of the values have. -/
def mapN (m : List (Str × Vl)) : Int := len (m.map (·.2)).flatten
theorem putV_n (n : Str) (x : Vl) : ∀ m : List (Str × Vl), mapN (putV m n x) ≤ mapN m + len x ∧ len (putV m n x) ≤ len m + 1
  | [] => ⟨by simp [mapN, putV, len], by simp [putV, len]⟩
  | p :: m => by
    have ih := putV_n n x m
    unfold putV
    split
    · refine ⟨?_, by unfold len; simp only [List.length_cons]; omega⟩
      unfold mapN; simp only [List.map_cons, List.flatten_cons, len_app]; have := len_nonneg p.2; omega
    · unfold mapN at *; simp only [List.map_cons, List.flatten_cons, len_app, len_cons]; exact ⟨by omega, by omega⟩
end Go.Eng
namespace Go.Proofs.YtjfaikgooldcbaaGreatDoor
open Go.Eng

/- (*loupe/text.parser).object$1 -/
set_option maxRecDepth 100000 in
theorem objpart_c {w wv : World} {M0 M : Mem} {Rs : List HO} (s : Str) (i d i0 : Int) (pb b2 b3 bm mb : Nat) (l : List SV) (c0 : Nat) (mp : List (Str × Vl)) (f : Nat) (hS : St w M0 wv M (.box pb [(str s), (i64 i)] 55 :: .box b2 [(.pointer (some ⟨pb, 0, none⟩))] 53 :: .box b3 [(i64 d)] 3 :: .box bm [(.map (some mb))] 106 :: .raw mb (smobj l c0) :: Rs)) (hmap : MapV M l mp) (hbo : BornOK l c0) (hlx : len mp ≤ i ∧ mapN mp + 1 ≤ i - i0) (h0 : 0 ≤ i) (h1 : i ≤ len s) (hb : len s ≤ 1099511627776) (hg : Gl w) (hd : 0 ≤ d ∧ d ≤ 900) (hf : 2 * (len s - i) + 1 ≤ f) (hval : ValOK w M0 s pb f) :
  Calls Tryz.prog 75 [(.pointer (some ⟨b2, 0, none⟩)), (.pointer (some ⟨b3, 0, none⟩)), (.pointer (some ⟨bm, 0, none⟩))].toArray wv fun e w' => PPost w M0 M Rs 51 (fun x j v M' w' => i + 1 ≤ j ∧ j ≤ len s ∧ (len x ≤ j ∧ mapN x + 1 ≤ j - i0) ∧ ∃ l2 c2, MapV M' l2 x ∧ BornOK l2 c2 ∧ St w M0 w' M' (.box pb [str s, i64 j] 55 :: .box b2 [.pointer (some ⟨pb, 0, none⟩)] 53 :: .box b3 [i64 d] 3 :: .box bm [.map (some mb)] 106 :: .raw mb (smobj l2 c2) :: Rs)) (pairT s i (fun k => valT f s k (d + 1)) mp) e w' := by
 refine CW.enter1 Tryz.func75 rfl Tryz.ntmps75 (Nat.le_of_ble_eq_true rfl) fun Q hE => ?_
 refine CW.weaken [0, 1, 2] (L' := [Y 0 (.pointer (some ⟨b2, 0, none⟩)), Y 1 (.pointer (some ⟨b3, 0, none⟩)), Y 2 (.pointer (some ⟨bm, 0, none⟩))]) ?_ rfl
 refine CW.sr ?_
 refine RL.u (.loadB1 (v := (.pointer (some ⟨pb, 0, none⟩))) hS extEq (i := 1) rfl (.t rfl) Tryz.isAgg53 rfl) rfl ?_
 refine RL.callR Tryz.call42 (.cons (.t rfl) .nil) (text_c (Rs := (.box b2 [(.pointer (some ⟨pb, 0, none⟩))] 53 :: .box b3 [(i64 d)] 3 :: .box bm [(.map (some mb))] 106 :: .raw mb (smobj l c0) :: Rs)) s i pb hS (by omega) (by omega) hb hg) rfl (fun ec p M10 w11 hr14 hS12 hle13 => ?_) (fun x1 j2 v3 M5 w4 hr6 hF9 hle8 => ?_)
 ·replace hS12 := hS12.drop Rs (List.sublist_append_right [_, _, _, _] _)
  exact hE.p (PPost.er (by rw [pairT_txt1 hr14]) hS12 hle13)
 obtain ⟨rfl, hF9a, hF9b, hS7⟩ := hF9
 replace hmap := hmap.mono hle8
 refine RL.a rfl rfl ?_
 refine RL.nil (CW.at [Y 0 (.pointer (some ⟨b2, 0, none⟩)), Y 1 (.pointer (some ⟨b3, 0, none⟩)), Y 2 (.pointer (some ⟨bm, 0, none⟩)), Y 3 (str x1)] rfl ?_)
 refine CW.sr ?_
 refine RL.u (.loadB1 (v := (.pointer (some ⟨pb, 0, none⟩))) hS7 extEq (i := 1) rfl (.t rfl) Tryz.isAgg53 rfl) rfl ?_
 replace hS7 : St w M0 w4 M5 (.box pb [(str s), (i64 j2)] 55 :: .box b2 [(.pointer (some ⟨pb, 0, none⟩))] 53 :: .box b3 [(i64 d)] 3 :: .box bm [(.map (some mb))] 106 :: .raw mb (smobj l c0) :: Rs) := hS7.front 0 rfl rfl
 refine RL.callP Tryz.call26 (.cons (.t rfl) .nil) (blankP_c (Rs := (.box b2 [(.pointer (some ⟨pb, 0, none⟩))] 53 :: .box b3 [(i64 d)] 3 :: .box bm [(.map (some mb))] 106 :: .raw mb (smobj l c0) :: Rs)) s j2 pb hS7 (by omega) (by omega) hb) rfl ?_
 rintro v16 w17 ⟨⟨ha15a, ha15b⟩, hS19⟩
 replace hS19 : St w M0 w17 M5 (.box pb [(str s), (i64 (blankTo s j2))] 55 :: .box b2 [(.pointer (some ⟨pb, 0, none⟩))] 53 :: .box b3 [(i64 d)] 3 :: .box bm [(.map (some mb))] 106 :: .raw mb (smobj l c0) :: Rs) := hS19
 refine RL.nil (CW.at [Y 0 (.pointer (some ⟨b2, 0, none⟩)), Y 1 (.pointer (some ⟨b3, 0, none⟩)), Y 2 (.pointer (some ⟨bm, 0, none⟩)), Y 3 (str x1)] rfl ?_)
 refine CW.seq ?_
 refine CW.sr ?_
 refine RL.u (.loadB1 (v := (.pointer (some ⟨pb, 0, none⟩))) hS19 extEq (i := 1) rfl (.t rfl) Tryz.isAgg53 rfl) rfl ?_
 replace hS19 : St w M0 w17 M5 (.box pb [(str s), (i64 (blankTo s j2))] 55 :: .box b2 [(.pointer (some ⟨pb, 0, none⟩))] 53 :: .box b3 [(i64 d)] 3 :: .box bm [(.map (some mb))] 106 :: .raw mb (smobj l c0) :: Rs) := hS19.front 0 rfl rfl
 refine RL.callP Tryz.call41 (.cons (.t rfl) (.cons .c .nil)) (isP_c (Rs := (.box b2 [(.pointer (some ⟨pb, 0, none⟩))] 53 :: .box b3 [(i64 d)] 3 :: .box bm [(.map (some mb))] 106 :: .raw mb (smobj l c0) :: Rs)) s [58] (blankTo s j2) pb hS19 (by omega) (by omega) hb) rfl ?_
 rintro v23 w24 ⟨q21, c22, hc22, hq21a, hq21b, hc22y, hc22n, rfl, hS26⟩
 replace hS26 : St w M0 w24 M5 (.box pb [(str s), (i64 q21)] 55 :: .box b2 [(.pointer (some ⟨pb, 0, none⟩))] 53 :: .box b3 [(i64 d)] 3 :: .box bm [(.map (some mb))] 106 :: .raw mb (smobj l c0) :: Rs) := hS26
 refine RL.u (.not (.t rfl)) rfl ?_
 refine RL.nil (CW.at [Y 0 (.pointer (some ⟨b2, 0, none⟩)), Y 1 (.pointer (some ⟨b3, 0, none⟩)), Y 2 (.pointer (some ⟨bm, 0, none⟩)), Y 3 (str x1), Y 10 (.bool (!c22))] rfl ?_)
 refine CW.cond rfl (fun hb1 => ?_) (fun hb1 => ?_)
 ·try simp only [zb] at hb1
  refine CW.regionT 5 hS26 tryz_mixed (by decide +kernel) (fun w28 hS29 => ?_)
  refine RS.v .none (.loadB1 (v := (.pointer (some ⟨pb, 0, none⟩))) hS29 extEq (i := 1) rfl (.t rfl) Tryz.isAgg53 rfl) rfl ?_
  refine RS.v .none (.loadB1 (v := (.pointer (some ⟨pb, 0, none⟩))) hS29 extEq (i := 1) rfl (.t rfl) Tryz.isAgg53 rfl) rfl ?_
  refine RS.v .none (.nilP (.t rfl)) rfl ?_
  refine RS.v .none (.fldA (q := ⟨pb, 1, none⟩) (.t rfl) (fun w => by kernel_rfl)) rfl ?_
  refine RS.v .none (.loadB1 (v := (i64 q21)) hS29 extEq (i := 0) rfl (.t rfl) Tryz.isAgg3 rfl) rfl ?_
  refine RS.nil ?_
  refine RL.callF Tryz.call28 (.cons (.t rfl) (.cons .c (.cons (.t rfl) .nil))) (fail_c 1 q21 (.pointer (some ⟨pb, 0, none⟩)) _) ?_
  replace hS29 := hS29.drop Rs (List.sublist_append_right [_, _, _, _, _] _)
  exact hE.p (PPost.er (by rw [hc22n hb1]; exact pairT_bad hr6 (hc22.symm.trans hb1)) hS29 hle8)
 ·try simp only [zb] at hb1
  have hz1 := hc22y hb1
  rw [show len ([58] : Str) = 1 from rfl] at hz1
  have hc22y2 := congrArg (fun z => valT f s (blankTo s z) (d + 1)) hz1
  refine CW.skip (CW.at [Y 0 (.pointer (some ⟨b2, 0, none⟩)), Y 1 (.pointer (some ⟨b3, 0, none⟩)), Y 2 (.pointer (some ⟨bm, 0, none⟩)), Y 3 (str x1)] rfl ?_)
  refine CW.sr ?_
  refine RL.u (.loadB1 (v := (.pointer (some ⟨pb, 0, none⟩))) hS26 extEq (i := 1) rfl (.t rfl) Tryz.isAgg53 rfl) rfl ?_
  replace hS26 : St w M0 w24 M5 (.box pb [(str s), (i64 q21)] 55 :: .box b2 [(.pointer (some ⟨pb, 0, none⟩))] 53 :: .box b3 [(i64 d)] 3 :: .box bm [(.map (some mb))] 106 :: .raw mb (smobj l c0) :: Rs) := hS26.front 0 rfl rfl
  refine RL.callP Tryz.call26 (.cons (.t rfl) .nil) (blankP_c (Rs := (.box b2 [(.pointer (some ⟨pb, 0, none⟩))] 53 :: .box b3 [(i64 d)] 3 :: .box bm [(.map (some mb))] 106 :: .raw mb (smobj l c0) :: Rs)) s q21 pb hS26 (by omega) (by omega) hb) rfl ?_
  rintro v31 w32 ⟨⟨ha30a, ha30b⟩, hS34⟩
  replace hS34 : St w M0 w32 M5 (.box pb [(str s), (i64 (blankTo s q21))] 55 :: .box b2 [(.pointer (some ⟨pb, 0, none⟩))] 53 :: .box b3 [(i64 d)] 3 :: .box bm [(.map (some mb))] 106 :: .raw mb (smobj l c0) :: Rs) := hS34
  refine RL.nil (CW.at [Y 0 (.pointer (some ⟨b2, 0, none⟩)), Y 1 (.pointer (some ⟨b3, 0, none⟩)), Y 2 (.pointer (some ⟨bm, 0, none⟩)), Y 3 (str x1)] rfl ?_)
  refine CW.weaken [0, 1, 2, 3] (L' := [Y 0 (.pointer (some ⟨b2, 0, none⟩)), Y 1 (.pointer (some ⟨b3, 0, none⟩)), Y 2 (.pointer (some ⟨bm, 0, none⟩)), Y 3 (str x1)]) ?_ rfl
  replace hS34 : St w M0 w32 M5 (.raw mb (smobj l c0) :: .box pb [(str s), (i64 (blankTo s q21))] 55 :: .box b2 [(.pointer (some ⟨pb, 0, none⟩))] 53 :: .box b3 [(i64 d)] 3 :: .box bm [(.map (some mb))] 106 :: Rs) := hS34.front 4 rfl rfl
  replace hS34 : St w M0 w32 M5 (.box bm [(.map (some mb))] 106 :: .raw mb (smobj l c0) :: .box pb [(str s), (i64 (blankTo s q21))] 55 :: .box b2 [(.pointer (some ⟨pb, 0, none⟩))] 53 :: .box b3 [(i64 d)] 3 :: Rs) := hS34.front 4 rfl rfl
  replace hS34 : St w M0 w32 M5 (.box b3 [(i64 d)] 3 :: .box bm [(.map (some mb))] 106 :: .raw mb (smobj l c0) :: .box pb [(str s), (i64 (blankTo s q21))] 55 :: .box b2 [(.pointer (some ⟨pb, 0, none⟩))] 53 :: Rs) := hS34.front 4 rfl rfl
  replace hS34 : St w M0 w32 M5 (.box b2 [(.pointer (some ⟨pb, 0, none⟩))] 53 :: .box b3 [(i64 d)] 3 :: .box bm [(.map (some mb))] 106 :: .raw mb (smobj l c0) :: .box pb [(str s), (i64 (blankTo s q21))] 55 :: Rs) := hS34.front 4 rfl rfl
  refine CW.regionG (HsQ := [.box b2 [(.pointer (some ⟨pb, 0, none⟩))] 53, .box b3 [(i64 d)] 3, .box bm [(.map (some mb))] 106, .raw mb (smobj l c0)]) 6 [.is true (.map (some mb)), .is true (str x1), .is true (.pointer (some ⟨pb, 0, none⟩)), .is true (i64 d), .is true (i64 (d + 1)), .any, .any] [(24, ⟨fun vz M X => ∃ x38 j39 a36 c37, valT f s (blankTo s q21) (d + 1) = .ok x38 j39 ∧ (blankTo s q21) + 1 ≤ j39 ∧ j39 ≤ len s ∧ len x38 ≤ j39 - (blankTo s q21) ∧ Sl M 6 x38.length (.slice a36 x38.length c37) (x38.flatMap Nd.cells) ∧ vz = (.slice a36 x38.length c37) ∧ X = (.box pb [(str s), (i64 j39)] 55 :: Rs), fun hm h => by obtain ⟨x38, j39, a36, c37, hr43, hF46a, hF46b, hF46c, hsl_v40, hvz, e⟩ := h; exact ⟨x38, j39, a36, c37, hr43, hF46a, hF46b, hF46c, hsl_v40.mono hm, hvz, e⟩⟩)] (.box pb [(str s), (i64 (blankTo s q21))] 55 :: Rs) [none, none, none, none, none, some 0] hS34 tryz_mixed [0, 1, 2, 3] rfl (by decide +kernel) (by decide +kernel) rfl rfl (by decide +kernel) (by decide +kernel) [24] rfl (by decide +kernel) (.cons ?_ (.cons ?_ (.cons ?_ (.cons ?_ (.cons ?_ (.cons ?_ (.cons ?_ (.nil))))))))
  ·intro LL w36 M37 X hle39 hS38 hK hD
   replace hmap := hmap.mono hle39
   replace hS38 : St w M0 w36 M37 (.box b2 [(.pointer (some ⟨pb, 0, none⟩))] 53 :: .box b3 [(i64 d)] 3 :: .box bm [(.map (some mb))] 106 :: .raw mb (smobj l c0) :: X) := hS38
   refine RL.u (.loadB1 (v := (.map (some mb))) hS38 extEq (i := 2) rfl (.t (hK _ _ rfl)) Tryz.isAgg106 rfl) rfl ?_
   exact RL.nil (RA.next fun a hs => ⟨_, _, Mem.le.refl _, hS38, hs, _, _, rfl, rfl, rfl⟩)
  ·intro LL w40 M41 X hle43 hS42 hK hD
   replace hmap := hmap.mono hle43
   replace hS42 : St w M0 w40 M41 (.box b2 [(.pointer (some ⟨pb, 0, none⟩))] 53 :: .box b3 [(i64 d)] 3 :: .box bm [(.map (some mb))] 106 :: .raw mb (smobj l c0) :: X) := hS42
   refine RL.u (.move (.t (hK _ _ rfl))) rfl ?_
   exact RL.nil (RA.next fun a hs => ⟨_, _, Mem.le.refl _, hS42, hs, _, _, rfl, rfl, rfl⟩)
  ·intro LL w44 M45 X hle47 hS46 hK hD
   replace hmap := hmap.mono hle47
   replace hS46 : St w M0 w44 M45 (.box b2 [(.pointer (some ⟨pb, 0, none⟩))] 53 :: .box b3 [(i64 d)] 3 :: .box bm [(.map (some mb))] 106 :: .raw mb (smobj l c0) :: X) := hS46
   refine RL.u (.loadB1 (v := (.pointer (some ⟨pb, 0, none⟩))) hS46 extEq (i := 0) rfl (.t (hK _ _ rfl)) Tryz.isAgg53 rfl) rfl ?_
   exact RL.nil (RA.next fun a hs => ⟨_, _, Mem.le.refl _, hS46, hs, _, _, rfl, rfl, rfl⟩)
  ·intro LL w48 M49 X hle51 hS50 hK hD
   replace hmap := hmap.mono hle51
   replace hS50 : St w M0 w48 M49 (.box b2 [(.pointer (some ⟨pb, 0, none⟩))] 53 :: .box b3 [(i64 d)] 3 :: .box bm [(.map (some mb))] 106 :: .raw mb (smobj l c0) :: X) := hS50
   refine RL.u (.loadB1 (v := (i64 d)) hS50 extEq (i := 1) rfl (.t (hK _ _ rfl)) Tryz.isAgg3 rfl) rfl ?_
   exact RL.nil (RA.next fun a hs => ⟨_, _, Mem.le.refl _, hS50, hs, _, _, rfl, rfl, rfl⟩)
  ·intro LL w52 M53 X hle55 hS54 hK hD
   replace hmap := hmap.mono hle55
   replace hS54 : St w M0 w52 M53 (.box b2 [(.pointer (some ⟨pb, 0, none⟩))] 53 :: .box b3 [(i64 d)] 3 :: .box bm [(.map (some mb))] 106 :: .raw mb (smobj l c0) :: X) := hS54
   obtain ⟨g22, v22, hl22, rfl, rfl⟩ := hD 3 (by decide +kernel)
   refine RL.u (.add (.t hl22) .c (fun _ => by first | omega | (simp only [len_app, len_cons, len_nil] at *; omega))) rfl ?_
   exact RL.nil (RA.next fun a hs => ⟨_, _, Mem.le.refl _, hS54, hs, _, _, rfl, rfl, rfl⟩)
  ·intro LL w56 M57 X hle59 hS58 hK hD hX
   replace hmap := hmap.mono hle59
   obtain rfl : (.box pb [(str s), (i64 (blankTo s q21))] 55 :: Rs) = X := Eq.symm hX
   replace hS58 : St w M0 w56 M57 (.box b2 [(.pointer (some ⟨pb, 0, none⟩))] 53 :: .box b3 [(i64 d)] 3 :: .box bm [(.map (some mb))] 106 :: .raw mb (smobj l c0) :: .box pb [(str s), (i64 (blankTo s q21))] 55 :: Rs) := hS58
   obtain ⟨g21, v21, hl21, rfl, rfl⟩ := hD 2 (by decide +kernel)
   obtain ⟨g23, v23, hl23, rfl, rfl⟩ := hD 4 (by decide +kernel)
   replace hS58 : St w M0 w56 M57 (.box pb [(str s), (i64 (blankTo s q21))] 55 :: .box b2 [(.pointer (some ⟨pb, 0, none⟩))] 53 :: .box b3 [(i64 d)] 3 :: .box bm [(.map (some mb))] 106 :: .raw mb (smobj l c0) :: Rs) := hS58.front 4 rfl rfl
   refine RL.callR Tryz.call27 (.cons (.t hl21) (.cons (.t hl23) .nil)) (hval (Rs := (.box b2 [(.pointer (some ⟨pb, 0, none⟩))] 53 :: .box b3 [(i64 d)] 3 :: .box bm [(.map (some mb))] 106 :: .raw mb (smobj l c0) :: Rs)) (blankTo s q21) (d + 1) hS58 (by omega) (by omega) (by omega) (by omega) (by omega)) rfl (fun ec p M71 w72 hr75 hS73 hle74 => ?_) (fun x62 j63 v64 M66 w65 hr67 hF70 hle69 => ?_)
   ·replace hS73 := hS73.drop Rs (List.sublist_append_right [_, _, _, _] _)
    exact hE.p (PPost.er (by rw [pairT_val hr6 (hc22.symm.trans hb1)]; show mapR _ _ = _; rw [← hc22y2, hr75]; rfl) hS73 ((hle8.trans hle59).trans hle74))
   obtain ⟨a60, c61, rfl, hF70a, hF70b, hF70c, hsl_v64, hS68⟩ := hF70
   replace hmap := hmap.mono hle69
   replace hS68 : St w M0 w65 M66 (.raw mb (smobj l c0) :: .box pb [(str s), (i64 j63)] 55 :: .box b2 [(.pointer (some ⟨pb, 0, none⟩))] 53 :: .box b3 [(i64 d)] 3 :: .box bm [(.map (some mb))] 106 :: Rs) := hS68.front 4 rfl rfl
   replace hS68 : St w M0 w65 M66 (.box bm [(.map (some mb))] 106 :: .raw mb (smobj l c0) :: .box pb [(str s), (i64 j63)] 55 :: .box b2 [(.pointer (some ⟨pb, 0, none⟩))] 53 :: .box b3 [(i64 d)] 3 :: Rs) := hS68.front 4 rfl rfl
   replace hS68 : St w M0 w65 M66 (.box b3 [(i64 d)] 3 :: .box bm [(.map (some mb))] 106 :: .raw mb (smobj l c0) :: .box pb [(str s), (i64 j63)] 55 :: .box b2 [(.pointer (some ⟨pb, 0, none⟩))] 53 :: Rs) := hS68.front 4 rfl rfl
   replace hS68 : St w M0 w65 M66 (.box b2 [(.pointer (some ⟨pb, 0, none⟩))] 53 :: .box b3 [(i64 d)] 3 :: .box bm [(.map (some mb))] 106 :: .raw mb (smobj l c0) :: .box pb [(str s), (i64 j63)] 55 :: Rs) := hS68.front 4 rfl rfl
   exact RL.nil (RA.next fun a hs => ⟨_, _, (.box pb [(str s), (i64 j63)] 55 :: Rs), hle69, hS68, hs, ⟨_, _, rfl, trivial⟩, ⟨_, rfl, x62, j63, a60, c61, hr67, hF70a, hF70b, hF70c, hsl_v64, rfl, rfl⟩⟩)
  ·intro LL w76 M77 X hle79 hS78 hK hD hX
   replace hmap := hmap.mono hle79
   obtain ⟨vx80, hl24, x38, j39, a36, c37, hr43, hF46a, hF46b, hF46c, hsl_v40, rfl, rfl⟩ := hX
   replace hS78 : St w M0 w76 M77 (.box b2 [(.pointer (some ⟨pb, 0, none⟩))] 53 :: .box b3 [(i64 d)] 3 :: .box bm [(.map (some mb))] 106 :: .raw mb (smobj l c0) :: .box pb [(str s), (i64 j39)] 55 :: Rs) := hS78
   obtain ⟨g19, v19, hl19, rfl, rfl⟩ := hD 0 (by decide)
   obtain ⟨g20, v20, hl20, rfl, rfl⟩ := hD 1 (by decide)
   refine RL.smapUpdate false hS78 (i := 3) rfl (.t hl19) (.t hl20) (.t hl24) Tryz.underlying106 Tryz.underlying9 rfl rfl rfl (fun w81 hS82 => ?_)
   replace hS82 : St w M0 w81 M77 (.box b2 [(.pointer (some ⟨pb, 0, none⟩))] 53 :: .box b3 [(i64 d)] 3 :: .box bm [(.map (some mb))] 106 :: .raw mb (smobj (sset l c0 x1 (.slice a36 x38.length c37)) (sclk l c0 x1 (.slice a36 x38.length c37))) :: .box pb [(str s), (i64 j39)] 55 :: Rs) := hS82
   refine RL.nil (slots_sub (E := [Y 0 (.pointer (some ⟨b2, 0, none⟩)), Y 1 (.pointer (some ⟨b3, 0, none⟩)), Y 2 (.pointer (some ⟨bm, 0, none⟩)), Y 3 (str x1)]) (.cons (hK _ _ rfl) (.cons (hK _ _ rfl) (.cons (hK _ _ rfl) (.cons (hK _ _ rfl) .nil)))) ?_)
   replace hS82 : St w M0 w81 M77 (.raw mb (smobj (sset l c0 x1 (.slice a36 x38.length c37)) (sclk l c0 x1 (.slice a36 x38.length c37))) :: .box b2 [(.pointer (some ⟨pb, 0, none⟩))] 53 :: .box b3 [(i64 d)] 3 :: .box bm [((.map (some mb)))] 106 :: .box pb [(str s), (i64 j39)] 55 :: Rs) := hS82.front 3 rfl rfl
   replace hS82 : St w M0 w81 M77 (.box bm [((.map (some mb)))] 106 :: .raw mb (smobj (sset l c0 x1 (.slice a36 x38.length c37)) (sclk l c0 x1 (.slice a36 x38.length c37))) :: .box b2 [(.pointer (some ⟨pb, 0, none⟩))] 53 :: .box b3 [(i64 d)] 3 :: .box pb [(str s), (i64 j39)] 55 :: Rs) := hS82.front 3 rfl rfl
   replace hS82 : St w M0 w81 M77 (.box b3 [(i64 d)] 3 :: .box bm [((.map (some mb)))] 106 :: .raw mb (smobj (sset l c0 x1 (.slice a36 x38.length c37)) (sclk l c0 x1 (.slice a36 x38.length c37))) :: .box b2 [(.pointer (some ⟨pb, 0, none⟩))] 53 :: .box pb [(str s), (i64 j39)] 55 :: Rs) := hS82.front 3 rfl rfl
   replace hS82 : St w M0 w81 M77 (.box b2 [(.pointer (some ⟨pb, 0, none⟩))] 53 :: .box b3 [(i64 d)] 3 :: .box bm [((.map (some mb)))] 106 :: .raw mb (smobj (sset l c0 x1 (.slice a36 x38.length c37)) (sclk l c0 x1 (.slice a36 x38.length c37))) :: .box pb [(str s), (i64 j39)] 55 :: Rs) := hS82.front 3 rfl rfl
   replace hS82 : St w M0 w81 M77 (.box pb [(str s), (i64 j39)] 55 :: .box b2 [(.pointer (some ⟨pb, 0, none⟩))] 53 :: .box b3 [(i64 d)] 3 :: .box bm [((.map (some mb)))] 106 :: .raw mb (smobj (sset l c0 x1 (.slice a36 x38.length c37)) (sclk l c0 x1 (.slice a36 x38.length c37))) :: Rs) := hS82.front 4 rfl rfl
   refine  (hE.e0 rfl ?_)
   have hpn := putV_n x1 x38 mp
   exact PPost.ok (show (pairT s i (fun k => valT f s k (d + 1)) mp) = _ from by rw [pairT_val hr6 (hc22.symm.trans hb1)]; show mapR _ _ = _; rw [← hc22y2, hr43]; rfl) ⟨by omega, by omega, by omega, _, _, hmap.put (h := ⟨a36, _, c37⟩) hsl_v40, hbo.put (h := ⟨a36, _, c37⟩) hmap hsl_v40, hS82⟩ (hle8.trans hle79)

end Go.Proofs.YtjfaikgooldcbaaGreatDoor
