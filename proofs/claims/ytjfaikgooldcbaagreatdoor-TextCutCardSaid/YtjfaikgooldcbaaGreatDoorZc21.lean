/-
  A right number, opened. Plain: no program in it.
  RIGHT VALUES ARE GOOD TREES. No program in it.
  How long texts of numbers and strings are. Plain: no program in it.
  How long a value's text is. No program in it.
-/
import Derived.Test.YtjfaikgooldcbaaGreatDoorZc5
import Derived.Laws.BitsLemmas
import Derived.Test.YtjfaikgooldcbaaGreatDoorZc3
import Derived.Test.YtjfaikgooldcbaaGreatDoorProg
import Derived.Test.YtjfaikgooldcbaaGreatDoorZc20
import Derived.Test.YtjfaikgooldcbaaGreatDoorZc15
import Derived.Test.YtjfaikgooldcbaaGreatDoorZc13
import Derived.Test.YtjfaikgooldcbaaGreatDoorZc14
import Derived.Test.YtjfaikgooldcbaaGreatDoorZc8
import Derived.Lib.SlTrimSet
set_option linter.unusedVariables false
set_option linter.unusedSimpArgs false
set_option maxRecDepth 100000
namespace Go.Proofs.YtjfaikgooldcbaaGreatDoor
open Go.Eng

/- loupe/louperef02.own -/
theorem own_c {w wv : World} {M0 M : Mem} {Rs : List HO} (v : Vl) (vv : Value) (i j : Int) (hS : St w M0 wv M Rs) (hv : Sl M 6 v.length vv (v.flatMap Nd.cells)) (hvb : len v ≤ 1048576) (h0 : 0 ≤ i) (h1 : i < j) (h2 : j ≤ len v) :
  Calls Tryz.prog 62 [vv, (i64 i), (i64 j)].toArray wv fun e w' => ∃ u, e = .returned u ∧ ∃ a c M', u = .slice a (nameV [] (Eng.sub v i j)).length c ∧ Sl M' 6 (nameV [] (Eng.sub v i j)).length u ((nameV [] (Eng.sub v i j)).flatMap Nd.cells) ∧ St w M0 w' M' Rs ∧ M.le M' := by
 refine CW.enter1 Tryz.func62 rfl Tryz.ntmps62 (Nat.le_of_ble_eq_true rfl) fun Q hE => ?_
 have hsb : len (Eng.sub v i j) = j - i := sub_len h0 (by omega) h2
 have hsn : Eng.sub v i j ≠ [] := fun e => by rw [e, len_nil] at hsb; omega
 refine CW.weaken [0, 1, 2] (L' := [Y 0 vv, Y 1 (i64 i), Y 2 (i64 j)]) ?_ rfl
 refine CW.sr ?_
 have hS1 := hS.ownNil 38 6
 refine RL.u (.assign .c) rfl (RL.nil (CW.id ?_))
 refine CW.sr ?_
 refine RL.buildSliceP (n := 0) (sz := 6) (e := 38) (vs := []) (cs := []) hS1 .nil rfl rfl (fun w => by kernel_rfl) rfl (fun v2 w3 hS4 => ?_)
 refine RL.m rfl rfl (RL.m rfl rfl (RL.m rfl rfl ?_))
 obtain ⟨vs5, hs6, hrun⟩ := slSl_b (P := Tryz.prog) hv Nd.cells_len Tryz.underlying24 Tryz.sizeOf38 i j (by omega)
 refine RL.u (.slRb (.t rfl) (.t rfl) (.t rfl) hrun) rfl ?_
 clear hrun
 refine RL.appendLP (f := Nd.cells) (l := ([] : List Nd)) (m := Eng.sub v i j) hS4 (k := 0) rfl (.t rfl) (.t rfl) hs6 Tryz.underlying24 Tryz.type38 rfl rfl rfl Nd.cells_one (by' := 64) rfl rfl (by first | omega | (simp only [len_app, len_cons, len_nil] at *; omega)) rfl (Hs' := fun v' => (.priv 38 6 v' (([] : List Nd) ++ Eng.sub v i j).length ((([] : List Nd) ++ Eng.sub v i j).flatMap Nd.cells) :: .own 38 6 (.slice none 0 0) (([] : List Nd)).length ((([] : List Nd)).flatMap Nd.cells) :: Rs)) (fun _ => rfl) (fun v7 w8 hS9 => ?_)
 refine RL.a rfl rfl (RL.nil (CW.id ?_))
 refine CW.sr (RL.m rfl rfl (RL.u (.idxT ((hS9.told (k := 0) rfl).sl (i := 0) rfl) (.t rfl) .c Tryz.underlying24 Tryz.sizeOf38 (fun _ => by first | omega | (simp only [len_app, len_cons, len_nil] at *; omega))) rfl (RL.u (.loadEN (f := Nd.cells) (i := 0) (hS9.told (k := 0) rfl) extEq ((hS9.told (k := 0) rfl).sl (i := 0) rfl) Nd.cells_len (.t rfl) Tryz.isAgg38 Tryz.sizeOf38 (fun _ => by first | omega | (simp only [len_app, len_cons, len_nil] at *; omega))) rfl ?_)))
 refine RL.alloc hS9 Tryz.zeroValue38 rfl (fun w10 b11 hS12 => ?_)
 refine RL.st hS12 (i := 0) rfl (.t rfl) (.t rfl) Tryz.sizeOf38 rfl rfl rfl rfl rfl (fun w13 hS14 => (RL.nil (CW.id ?_)))
 refine CW.sr (RL.u (.fldA (q := ⟨b11, 2, none⟩) (.t rfl) (fun w => by kernel_rfl)) rfl ?_)
 refine RL.st (v := (str [])) hS14 (i := 0) rfl (.t rfl) .c Tryz.sizeOf9 rfl rfl rfl rfl rfl (fun w15 hS16 => (RL.nil (CW.id ?_)))
 refine CW.sr (RL.m rfl rfl (RL.u (.loadBN (vs := [(i64 ((at' (([] : List Nd) ++ Eng.sub v i j) 0).kind)), (i64 ((at' (([] : List Nd) ++ Eng.sub v i j) 0).many)), (str []), (str ((at' (([] : List Nd) ++ Eng.sub v i j) 0).s)), (.bool ((at' (([] : List Nd) ++ Eng.sub v i j) 0).neg)), (i64 ((at' (([] : List Nd) ++ Eng.sub v i j) 0).e))]) hS16 extEq (i := 0) rfl (.t rfl) Tryz.isAgg38 Tryz.sizeOf38 rfl rfl) rfl (RL.u (.idxT ((hS16.told (k := 1) rfl).sl (i := 1) rfl) (.t rfl) .c Tryz.underlying24 Tryz.sizeOf38 (fun _ => by first | omega | (simp only [len_app, len_cons, len_nil] at *; omega))) rfl ?_)))
 refine RL.storeP (o := (0 : Int).toNat * 6 + 0) (xs' := ((([] : List Nd) ++ Eng.sub v i j).set (0 : Int).toNat ⟨(at' (([] : List Nd) ++ Eng.sub v i j) 0).kind, (at' (([] : List Nd) ++ Eng.sub v i j) 0).many, [], (at' (([] : List Nd) ++ Eng.sub v i j) 0).s, (at' (([] : List Nd) ++ Eng.sub v i j) 0).neg, (at' (([] : List Nd) ++ Eng.sub v i j) 0).e⟩).flatMap Nd.cells) (Hs' := (.box b11 [(i64 ((at' (([] : List Nd) ++ Eng.sub v i j) 0).kind)), (i64 ((at' (([] : List Nd) ++ Eng.sub v i j) 0).many)), (str []), (str ((at' (([] : List Nd) ++ Eng.sub v i j) 0).s)), (.bool ((at' (([] : List Nd) ++ Eng.sub v i j) 0).neg)), (i64 ((at' (([] : List Nd) ++ Eng.sub v i j) 0).e))] 38 :: .priv 38 6 v7 ((([] : List Nd) ++ Eng.sub v i j).set (0 : Int).toNat ⟨(at' (([] : List Nd) ++ Eng.sub v i j) 0).kind, (at' (([] : List Nd) ++ Eng.sub v i j) 0).many, [], (at' (([] : List Nd) ++ Eng.sub v i j) 0).s, (at' (([] : List Nd) ++ Eng.sub v i j) 0).neg, (at' (([] : List Nd) ++ Eng.sub v i j) 0).e⟩).length (((([] : List Nd) ++ Eng.sub v i j).set (0 : Int).toNat ⟨(at' (([] : List Nd) ++ Eng.sub v i j) 0).kind, (at' (([] : List Nd) ++ Eng.sub v i j) 0).many, [], (at' (([] : List Nd) ++ Eng.sub v i j) 0).s, (at' (([] : List Nd) ++ Eng.sub v i j) 0).neg, (at' (([] : List Nd) ++ Eng.sub v i j) 0).e⟩).flatMap Nd.cells) :: .own 38 6 (.slice none 0 0) (([] : List Nd)).length ((([] : List Nd)).flatMap Nd.cells) :: Rs)) hS16 (k := 1) rfl (.t rfl) (.t rfl) Tryz.sizeOf38 rfl rfl (by rw [flat_len Nd.cells 6 Nd.cells_len]; simp only [List.length_append]; unfold len at *; omega) rfl (splice_set (f := Nd.cells) (sz := 6) Nd.cells_len (([] : List Nd) ++ Eng.sub v i j) (0 : Int).toNat ⟨(at' (([] : List Nd) ++ Eng.sub v i j) 0).kind, (at' (([] : List Nd) ++ Eng.sub v i j) 0).many, [], (at' (([] : List Nd) ++ Eng.sub v i j) 0).s, (at' (([] : List Nd) ++ Eng.sub v i j) 0).neg, (at' (([] : List Nd) ++ Eng.sub v i j) 0).e⟩ 0 [(i64 ((at' (([] : List Nd) ++ Eng.sub v i j) 0).kind)), (i64 ((at' (([] : List Nd) ++ Eng.sub v i j) 0).many)), (str []), (str ((at' (([] : List Nd) ++ Eng.sub v i j) 0).s)), (.bool ((at' (([] : List Nd) ++ Eng.sub v i j) 0).neg)), (i64 ((at' (([] : List Nd) ++ Eng.sub v i j) 0).e))] (by simp only [List.length_append]; unfold len at *; omega) rfl (Nat.le_of_ble_eq_true rfl)) (by rw [List.length_set]; rfl) (fun w17 hS18 => (RL.nil (CW.id ?_)))
 refine CW.sr (RL.m rfl rfl (RL.a rfl rfl (RL.nil (CW.id (CW.ret (hE.r1 rfl rfl ?_))))))
 obtain ⟨M20, hS19, hle21⟩ := hS18.show (k := 1) rfl
 have hslr := (hS19.sl (i := 1) rfl)
 replace hS19 := (hS19.erase 2 rfl).erase 1 rfl
 replace hS19 := hS19.erase 0 rfl
 rw [own_eq hsn] at hslr
 obtain ⟨az, cz, hz⟩ := Sl.shape hslr
 exact ⟨_, rfl, az, cz, M20, hz, hslr, hS19, hle21⟩

/- loupe/louperef02.Parts -/
theorem parts2_c {w wv : World} {M0 M : Mem} {Rs : List HO} (t : Tr) (vv : Value) (hS : St w M0 wv M Rs) (hv : Sl M 6 t.flat.length vv (t.flat.flatMap Nd.cells)) (hvb : len t.flat ≤ 1048576) (hw : t.wf) :
  Calls Tryz.prog 37 [vv].toArray wv fun e w' => ∃ u, e = .returned u ∧ ∃ rs M', Sl M' 1 rs.length u (rs.flatMap valI) ∧ RowsV M' 6 Nd.cells rs (kidsV t) ∧ St w M0 w' M' Rs ∧ M.le M' := by
 refine CW.enter1 Tryz.func37 rfl Tryz.ntmps37 (Nat.le_of_ble_eq_true rfl) fun Q hE => ?_
 have hmny := Tr.many_eq hw
 rw [← Tr.at0 t] at hmny
 have hpl : len t.parts + 1 ≤ len t.flat := by unfold len; rw [Tr.flat_len, Tr.size_eq]; have := len_le_sizeL t.parts; unfold len at this; omega
 have hlp := len_nonneg t.parts
 refine CW.weaken [0] (L' := [Y 0 vv]) ?_ rfl
 refine CW.sr ?_
 have hS1 := hS.ownNil 24 1
 refine RL.u (.assign .c) rfl (RL.nil (CW.id ?_))
 refine CW.sr ?_
 refine RL.buildSlice (n := 0) (sz := 1) (e := 24) (vs := []) (cs := []) hS1 .nil rfl rfl (fun w => by kernel_rfl) rfl (fun v2 w3 M4 hS5 hle6 => ?_)
 replace hv := hv.mono hle6
 refine RL.a rfl rfl (RL.nil (CW.id ?_))
 refine CW.sr (RL.u (.assign .c) rfl (RL.nil (CW.id (CW.seq ?_))))
 refine CW.sr (RL.u (.assign .c) rfl (RL.nil (CW.id (CW.block ?_))))
 refine CW.loop (σ := Int × Int × Value × List SlH × Mem) (fun (k, i, vo, lo, Ml) => [Y 0 vv, Y 3 vo, Y 4 (i64 i), Y 5 (i64 k)]) (fun (k, i, vo, lo, Ml) wl => St w M0 wl Ml (.own 24 1 vo lo.length (lo.flatMap valI) :: .own 24 1 (.slice none 0 0) (([] : List SlH)).length ((([] : List SlH)).flatMap valI) :: Rs) ∧ Sl Ml 6 t.flat.length vv (t.flat.flatMap Nd.cells) ∧ 0 ≤ k ∧ k ≤ len t.parts ∧ SegL t.flat i (t.parts.drop k.toNat) ∧ RowsV Ml 6 Nd.cells lo (kidsTo t k) ∧ M.le Ml) (fun (k, i, vo, lo, Ml) => (len t.parts - k).toNat) ((0, 1, v2, ([] : List SlH), M4)) [0, 3, 4, 5] rfl ?_ ?_
 ·refine ⟨hS5, hv, ?_⟩; exact ⟨by omega, by omega, Tr.seg_kids, trivial, hle6⟩
 ·rintro ⟨k, i, vo, lo, Ml⟩ wl ⟨hS7, hv, hk0, hku, hus, hro, hle0⟩
  have hlo : len lo = k := by unfold len; rw [hro.len]; exact kidsTo_len hk0 hku
  have hkid := fun h => kid_step hw hk0 h hus
  refine CW.seq (CW.sr (RL.m rfl rfl (RL.m rfl rfl (RL.u (.idxT hv (.t rfl) .c Tryz.underlying24 Tryz.sizeOf38 (fun _ => by omega)) rfl (RL.u (.fldA (q := ⟨sb vv, so vv + (0 : Int).toNat * 6 + 1, none⟩) (.t rfl) (fun w => by kernel_rfl)) rfl (RL.u (.loadE1 (f := Nd.cells) (i := 0) (j := 1) (u := (i64 ((at' t.flat 0).many))) hS7 extEq hv Nd.cells_len (.t rfl) Tryz.isAgg3 (fun _ => by omega) rfl rfl) rfl (RL.u (.lss (.t rfl) (.t rfl)) rfl (RL.nil (CW.id ?_)))))))))
  refine CW.cond rfl ?_ ?_ <;> intro hb1 <;> try simp only [zb] at hb1
  ·obtain ⟨u, huw, hu, hnx, hrs, hst, hke, hmem, hgt⟩ := hkid (by rw [← hmny]; omega)
   have huz := u.size_pos
   have hul := hu.size_le
   have hi0 := hu.1
   refine CW.skip (CW.id (CW.seq (CW.block (CW.sr ?_))))
   refine RL.m rfl rfl (RL.m rfl rfl ?_)
   refine RL.callE hS7 .none Tryz.call34 (.cons (.t rfl) (.cons (.t rfl) .nil)) (fun _ => (next_c Ml t.flat vv i _ hS7.sat hv (by omega) (by omega))) rfl (fun w8 hS9 => ?_)
   refine RL.a rfl rfl ?_
   refine RL.nil (CW.at [Y 0 vv, Y 3 vo, Y 4 (i64 i), Y 5 (i64 k), Y 6 (i64 (nextV t.flat i))] rfl (CW.sr (RL.m rfl rfl (RL.m rfl rfl (RL.m rfl rfl (RL.m rfl rfl ?_))))))
   refine RL.callP Tryz.call62 (.cons (.t rfl) (.cons (.t rfl) (.cons (.t rfl) .nil))) (own_c (Rs := (.own 24 1 vo lo.length (lo.flatMap valI) :: .own 24 1 (.slice none 0 0) (([] : List SlH)).length ((([] : List SlH)).flatMap valI) :: Rs)) t.flat vv i (nextV t.flat i) hS9 hv (by omega) (by omega) (by omega) (by omega)) rfl ?_
   rintro v12 w13 ⟨a10, c11, M14, rfl, hsl_v12, hS15, hle16⟩
   replace hv := hv.mono hle16
   replace hsl_v12 : Sl M14 6 (nameV [] (Eng.sub t.flat i (nextV t.flat i))).length (.slice a10 (nameV [] (Eng.sub t.flat i (nextV t.flat i))).length c11) ((nameV [] (Eng.sub t.flat i (nextV t.flat i))).flatMap Nd.cells) := hsl_v12
   refine RL.buildSlice (n := 1) (sz := 1) (e := 24) (vs := [(0, (.slice a10 (nameV [] (Eng.sub t.flat i (nextV t.flat i))).length c11))]) (cs := [(.slice a10 (nameV [] (Eng.sub t.flat i (nextV t.flat i))).length c11)]) hS15 (.cons (.t rfl) .nil) rfl rfl (fun w => by kernel_rfl) rfl (fun v17 w18 M19 hS20 hle21 => ?_)
   replace hv := hv.mono hle21
   replace hsl_v12 := hsl_v12.mono hle21
   refine RL.append1 (f := valI) (l := lo) (y := (SlH.mk a10 (nameV [] (Eng.sub t.flat i (nextV t.flat i))).length c11)) hS20 (k := 1) rfl (.t rfl) (.t rfl) (hS20.sl (i := 0) rfl) Tryz.underlying47 Tryz.type24 rfl rfl rfl valI_one (by' := 24) rfl rfl (by omega) rfl (Hs' := fun v' => (.own 24 1 v17 (([(SlH.mk a10 (nameV [] (Eng.sub t.flat i (nextV t.flat i))).length c11)] : List SlH)).length ((([(SlH.mk a10 (nameV [] (Eng.sub t.flat i (nextV t.flat i))).length c11)] : List SlH)).flatMap valI) :: .own 24 1 v' (lo ++ [(SlH.mk a10 (nameV [] (Eng.sub t.flat i (nextV t.flat i))).length c11)]).length ((lo ++ [(SlH.mk a10 (nameV [] (Eng.sub t.flat i (nextV t.flat i))).length c11)]).flatMap valI) :: .own 24 1 (.slice none 0 0) (([] : List SlH)).length ((([] : List SlH)).flatMap valI) :: Rs)) (fun _ => rfl) (fun v22 w23 M24 hS25 hle26 => ?_)
   replace hS25 := hS25.erase 0 rfl
   replace hv := hv.mono hle26
   replace hsl_v12 := hsl_v12.mono hle26
   refine RL.a rfl rfl ?_
   refine RL.nil (CW.at [Y 0 vv, Y 3 v22, Y 5 (i64 k), Y 6 (i64 (nextV t.flat i))] rfl ?_)
   refine CW.region (RL.m rfl rfl (RL.a rfl rfl (RL.nil (CW.id ?_))))
   refine CW.region (RL.m rfl rfl (RL.u (.add (.t rfl) .c (fun _ => by omega)) rfl (RL.a rfl rfl ?_)))
   refine RL.nil fun a hs => Exists.intro ((k + 1, nextV t.flat i, v22, lo ++ [(SlH.mk a10 (nameV [] (Eng.sub t.flat i (nextV t.flat i))).length c11)], M24)) ⟨hs.keep [0, 3, 4, 5], ?_, ?_⟩
   ·refine ⟨hS25, hv, ?_⟩
    exact ⟨by omega, by omega, by rw [hnx]; exact hrs, by rw [hst]; exact RowsV.snoc hsl_v12 (hro.mono (((hle16.trans hle21).trans hle26))), (((hle0.trans hle16).trans hle21).trans hle26)⟩
   ·show Int.toNat _ < Int.toNat _; omega
  ·rw [kidsTo_end (by omega)] at hro
   refine CW.exit (CW.at [Y 3 vo] rfl ?_)
   refine CW.sr (RL.m rfl rfl (RL.a rfl rfl (RL.nil (CW.id (CW.ret (hE.r1 rfl rfl ?_))))))
   have hslr := (hS7.sl (i := 0) rfl)
   replace hS7 := (hS7.erase 1 rfl).erase 0 rfl
   exact ⟨_, rfl, _, Ml, hslr, hro, hS7, hle0⟩

/- loupe/louperef02.Names -/
theorem names2_c {w wv : World} {M0 M : Mem} {Rs : List HO} (t : Tr) (vv : Value) (hS : St w M0 wv M Rs) (hv : Sl M 6 t.flat.length vv (t.flat.flatMap Nd.cells)) (hvb : len t.flat ≤ 1048576) (hw : t.wf) :
  Calls Tryz.prog 58 [vv].toArray wv fun e w' => ∃ u, e = .returned u ∧ ∃ M', Sl M' 1 (kidNs t).length u ((kidNs t).flatMap strC) ∧ St w M0 w' M' Rs ∧ M.le M' := by
 refine CW.enter1 Tryz.func58 rfl Tryz.ntmps58 (Nat.le_of_ble_eq_true rfl) fun Q hE => ?_
 have hmny := Tr.many_eq hw
 rw [← Tr.at0 t] at hmny
 have hpl : len t.parts + 1 ≤ len t.flat := by unfold len; rw [Tr.flat_len, Tr.size_eq]; have := len_le_sizeL t.parts; unfold len at this; omega
 have hlp := len_nonneg t.parts
 refine CW.weaken [0] (L' := [Y 0 vv]) ?_ rfl
 refine CW.sr ?_
 have hS1 := hS.ownNil 9 1
 refine RL.u (.assign .c) rfl (RL.nil (CW.id ?_))
 refine CW.sr ?_
 refine RL.buildSlice (n := 0) (sz := 1) (e := 9) (vs := []) (cs := []) hS1 .nil rfl rfl (fun w => by kernel_rfl) rfl (fun v2 w3 M4 hS5 hle6 => ?_)
 replace hv := hv.mono hle6
 refine RL.a rfl rfl (RL.nil (CW.id ?_))
 refine CW.sr (RL.u (.assign .c) rfl (RL.nil (CW.id (CW.seq ?_))))
 refine CW.sr (RL.u (.assign .c) rfl (RL.nil (CW.id (CW.block ?_))))
 refine CW.loop (σ := Int × Int × Value × List Str × Mem) (fun (k, i, vo, lo, Ml) => [Y 0 vv, Y 3 vo, Y 4 (i64 i), Y 5 (i64 k)]) (fun (k, i, vo, lo, Ml) wl => St w M0 wl Ml (.own 9 1 vo lo.length (lo.flatMap strC) :: .own 9 1 (.slice none 0 0) (([] : List Str)).length ((([] : List Str)).flatMap strC) :: Rs) ∧ Sl Ml 6 t.flat.length vv (t.flat.flatMap Nd.cells) ∧ 0 ≤ k ∧ k ≤ len t.parts ∧ SegL t.flat i (t.parts.drop k.toNat) ∧ lo = namesTo t k ∧ (¬ t.node.kind = 6 → k = 0) ∧ M.le Ml) (fun (k, i, vo, lo, Ml) => (len t.parts - k).toNat) ((0, 1, v2, ([] : List Str), M4)) [0, 3, 4, 5] rfl ?_ ?_
 ·refine ⟨hS5, hv, ?_⟩; exact ⟨by omega, by omega, Tr.seg_kids, rfl, fun _ => rfl, hle6⟩
 ·rintro ⟨k, i, vo, lo, Ml⟩ wl ⟨hS7, hv, hk0, hku, hus, hlo, hk6, hle0⟩
  have hlk : len lo = k := by rw [hlo]; exact namesTo_len hk0 hku
  have hkid := fun h => kid_step hw hk0 h hus
  refine CW.seq (CW.sr (RL.m rfl rfl (RL.m rfl rfl (RL.u (.idxT hv (.t rfl) .c Tryz.underlying24 Tryz.sizeOf38 (fun _ => by omega)) rfl (RL.u (.fldA (q := ⟨sb vv, so vv + (0 : Int).toNat * 6 + 1, none⟩) (.t rfl) (fun w => by kernel_rfl)) rfl (RL.u (.loadE1 (f := Nd.cells) (i := 0) (j := 1) (u := (i64 ((at' t.flat 0).many))) hS7 extEq hv Nd.cells_len (.t rfl) Tryz.isAgg3 (fun _ => by omega) rfl rfl) rfl (RL.u (.lss (.t rfl) (.t rfl)) rfl (RL.m rfl rfl (RL.v (.pos rfl rfl) (.move (.t rfl)) rfl (RL.v (.pos rfl rfl) (.idxT hv (.g rfl (fun h => h)) .c Tryz.underlying24 Tryz.sizeOf38 (fun hW => by simp only [zb] at hW; first | omega | (simp only [len_app, len_cons, len_nil] at *; omega))) rfl (RL.v (.pos rfl rfl) (.fldA (q := ⟨sb vv, so vv + (0 : Int).toNat * 6, none⟩) (.g rfl (fun h => h)) (fun w => by kernel_rfl)) rfl (RL.v (.pos rfl rfl) (.loadE1 (f := Nd.cells) (i := 0) (j := 0) (u := (i64 ((at' t.flat 0).kind))) hS7 extEq hv Nd.cells_len (.g rfl (fun h => h)) Tryz.isAgg3 (fun hW => by simp only [zb] at hW; first | omega | (simp only [len_app, len_cons, len_nil] at *; omega)) rfl rfl) rfl (RL.v (.pos rfl rfl) (.eql (.g rfl (fun h => h)) .c) rfl ?_)))))))))))))
  refine RL.u (.and (.t rfl) (.g rfl (fun h => h))) rfl (RL.nil (CW.id ?_))
  refine CW.cond rfl ?_ ?_ <;> intro hb1 <;> try simp only [zb] at hb1
  ·obtain ⟨u, huw, hu, hnx, hrs, hst, hke, hmem, hgt⟩ := hkid (by omega)
   have huz := u.size_pos
   have hul := hu.size_le
   have hi0 := hu.1
   refine CW.skip (CW.id (CW.seq (CW.block (CW.sr ?_))))
   refine RL.m rfl rfl (RL.m rfl rfl (RL.m rfl rfl (RL.u (.idxT hv (.t rfl) (.t rfl) Tryz.underlying24 Tryz.sizeOf38 (fun _ => by omega)) rfl (RL.u (.fldA (q := ⟨sb vv, so vv + (i : Int).toNat * 6 + 2, none⟩) (.t rfl) (fun w => by kernel_rfl)) rfl (RL.u (.loadE1 (f := Nd.cells) (i := i) (j := 2) (u := (str ((at' t.flat i).name))) hS7 extEq hv Nd.cells_len (.t rfl) Tryz.isAgg9 (fun _ => by omega) rfl rfl) rfl ?_)))))
   refine RL.buildSlice (n := 1) (sz := 1) (e := 9) (vs := [(0, (str ((at' t.flat i).name)))]) (cs := [(str ((at' t.flat i).name))]) hS7 (.cons (.t rfl) .nil) rfl rfl (fun w => by kernel_rfl) rfl (fun v8 w9 M10 hS11 hle12 => ?_)
   replace hv := hv.mono hle12
   refine RL.append1 (f := strC) (l := lo) (y := (at' t.flat i).name) hS11 (k := 1) rfl (.t rfl) (.t rfl) (hS11.sl (i := 0) rfl) Tryz.underlying46 Tryz.type9 rfl rfl rfl strC_one (by' := 16) rfl rfl (by omega) rfl (Hs' := fun v' => (.own 9 1 v8 (([(at' t.flat i).name] : List Str)).length ((([(at' t.flat i).name] : List Str)).flatMap strC) :: .own 9 1 v' (lo ++ [(at' t.flat i).name]).length ((lo ++ [(at' t.flat i).name]).flatMap strC) :: .own 9 1 (.slice none 0 0) (([] : List Str)).length ((([] : List Str)).flatMap strC) :: Rs)) (fun _ => rfl) (fun v13 w14 M15 hS16 hle17 => ?_)
   replace hS16 := hS16.erase 0 rfl
   replace hv := hv.mono hle17
   refine RL.a rfl rfl (RL.nil (CW.id ?_))
   refine CW.region (RL.m rfl rfl (RL.m rfl rfl ?_))
   refine RL.callE hS16 .none Tryz.call34 (.cons (.t rfl) (.cons (.t rfl) .nil)) (fun _ => (next_c M15 t.flat vv i _ hS16.sat hv (by omega) (by omega))) rfl (fun w18 hS19 => ?_)
   refine RL.a rfl rfl ?_
   refine RL.nil (CW.at [Y 0 vv, Y 3 v13, Y 4 (i64 (nextV t.flat i)), Y 5 (i64 k)] rfl ?_)
   refine CW.region (RL.m rfl rfl (RL.u (.add (.t rfl) .c (fun _ => by omega)) rfl (RL.a rfl rfl ?_)))
   refine RL.nil fun a hs => Exists.intro ((k + 1, nextV t.flat i, v13, lo ++ [(at' t.flat i).name], M15)) ⟨hs.keep [0, 3, 4, 5], ?_, ?_⟩
   ·refine ⟨hS19, hv, ?_⟩
    exact ⟨by omega, by omega, by rw [hnx]; exact hrs, by rw [namesTo_step hk0 hgt, hlo, hu.node.2.2], fun h => by rw [← Tr.at0] at h; omega, ((hle0.trans hle12).trans hle17)⟩
   ·show Int.toNat _ < Int.toNat _; omega
  ·have hle : lo = kidNs t := by
    rw [hlo]
    rcases Classical.em (t.node.kind = 6) with h6 | h6
    ·exact namesTo_end (by rw [← Tr.at0] at h6; omega) h6
    ·exact namesTo_no (hk6 h6) h6
   refine CW.exit (CW.at [Y 3 vo] rfl ?_)
   refine CW.sr (RL.m rfl rfl (RL.a rfl rfl (RL.nil (CW.id (CW.ret (hE.r1 rfl rfl ?_))))))
   have hslr := (hS7.sl (i := 0) rfl)
   replace hS7 := (hS7.erase 1 rfl).erase 0 rfl
   rw [hle] at hslr
   exact ⟨_, rfl, Ml, hslr, hS7, hle0⟩

def DepthOK (t : Tr) : Prop := ∀ {w wv : World} {M0 M : Mem} {Rs : List HO} (vv : Value), St w M0 wv M Rs → Sl M 6 t.flat.length vv (t.flat.flatMap Nd.cells) → len t.flat ≤ 1048576 → t.wf → Calls Tryz.prog 20 [vv].toArray wv fun e w' => ∃ u, e = .returned u ∧ ∃ M', u = i64 (depthT t) ∧ St w M0 w' M' Rs ∧ M.le M'
/- loupe/louperef02.Depth -/
theorem depth2_c {w wv : World} {M0 M : Mem} {Rs : List HO} (t : Tr) (vv : Value) (hS : St w M0 wv M Rs) (hv : Sl M 6 t.flat.length vv (t.flat.flatMap Nd.cells)) (hvb : len t.flat ≤ 1048576) (hw : t.wf) (IH : ∀ u : Tr, u.size < t.size → DepthOK u) :
  Calls Tryz.prog 20 [vv].toArray wv fun e w' => ∃ u, e = .returned u ∧ ∃ M', u = i64 (depthT t) ∧ St w M0 w' M' Rs ∧ M.le M' := by
 refine CW.enter1 Tryz.func20 rfl Tryz.ntmps20 (Nat.le_of_ble_eq_true rfl) fun Q hE => ?_
 have hmny := Tr.many_eq hw
 rw [← Tr.at0 t] at hmny
 have hpl : len t.parts + 1 ≤ len t.flat := by unfold len; rw [Tr.flat_len, Tr.size_eq]; have := len_le_sizeL t.parts; unfold len at this; omega
 have hlp := len_nonneg t.parts
 refine CW.weaken [0] (L' := [Y 0 vv]) ?_ rfl
 refine CW.sr (RL.u (.assign .c) rfl (RL.nil (CW.id (CW.seq ?_))))
 refine CW.sr (RL.m rfl rfl (RL.u (.idxT hv (.t rfl) .c Tryz.underlying24 Tryz.sizeOf38 (fun _ => by omega)) rfl (RL.u (.fldA (q := ⟨sb vv, so vv + (0 : Int).toNat * 6, none⟩) (.t rfl) (fun w => by kernel_rfl)) rfl (RL.u (.loadE1 (f := Nd.cells) (i := 0) (j := 0) (u := (i64 ((at' t.flat 0).kind))) hS extEq hv Nd.cells_len (.t rfl) Tryz.isAgg3 (fun _ => by omega) rfl rfl) rfl (RL.u (.neq (.t rfl) .c) rfl (RL.m rfl rfl (RL.v (.pos rfl rfl) (.move (.t rfl)) rfl (RL.v (.pos rfl rfl) (.idxT hv (.g rfl (fun h => h)) .c Tryz.underlying24 Tryz.sizeOf38 (fun hW => by simp only [zb] at hW; first | omega | (unfold len at hvb; rw [Tr.flat_len] at hvb; omega))) rfl (RL.v (.pos rfl rfl) (.fldA (q := ⟨sb vv, so vv + (0 : Int).toNat * 6, none⟩) (.g rfl (fun h => h)) (fun w => by kernel_rfl)) rfl (RL.v (.pos rfl rfl) (.loadE1 (f := Nd.cells) (i := 0) (j := 0) (u := (i64 ((at' t.flat 0).kind))) hS extEq hv Nd.cells_len (.g rfl (fun h => h)) Tryz.isAgg3 (fun hW => by simp only [zb] at hW; first | omega | (unfold len at hvb; rw [Tr.flat_len] at hvb; omega)) rfl rfl) rfl (RL.v (.pos rfl rfl) (.neq (.g rfl (fun h => h)) .c) rfl (RL.u (.and (.t rfl) (.g rfl (fun h => h))) rfl (RL.nil (CW.id ?_))))))))))))))
 refine CW.cond rfl ?_ ?_ <;> intro hb1 <;> try simp only [zb] at hb1
 ·refine CW.sr (RL.u (.assign .c) rfl (RL.nil (CW.id (CW.ret (hE.r1 rfl rfl ?_)))))
  rw [Tr.at0] at hb1
  exact ⟨_, rfl, M, by rw [depthT_no hb1], hS, (Mem.le.refl _)⟩
 ·refine CW.skip (CW.id (CW.sr (RL.m rfl rfl ?_)))
  refine RL.callP Tryz.call37 (.cons (.t rfl) .nil) (parts2_c (Rs := Rs) t vv hS hv (by omega) hw) rfl ?_
  rintro v2 w3 ⟨rs1, M4, hsl_v2, hrow_v2, hS5, hle6⟩
  replace hv := hv.mono hle6
  replace hsl_v2 : Sl M4 1 rs1.length v2 (rs1.flatMap valI) := hsl_v2
  replace hrow_v2 : RowsV M4 6 Nd.cells rs1 (kidsV t) := hrow_v2
  refine RL.a rfl rfl ?_
  refine RL.nil (CW.at [Y 3 v2] rfl (CW.sr (RL.u (.assign .c) rfl (RL.nil (CW.id ?_)))))
  refine CW.seq (CW.sr (RL.u (.assign .c) rfl (RL.nil (CW.id ?_))))
  refine CW.block ?_
  refine CW.loop (σ := Int × Int × Mem) (fun (k, q, Ml) => [Y 3 v2, Y 4 (i64 q), Y 5 (i64 k)]) (fun (k, q, Ml) wl => St w M0 wl Ml Rs ∧ Sl Ml 6 t.flat.length vv (t.flat.flatMap Nd.cells) ∧ Sl Ml 1 rs1.length v2 (rs1.flatMap valI) ∧ RowsV Ml 6 Nd.cells rs1 (kidsV t) ∧ 0 ≤ k ∧ k ≤ len t.parts ∧ q = depTo t k ∧ M.le Ml) (fun (k, q, Ml) => (len t.parts - k).toNat) ((0, 0, M4)) [3, 4, 5] rfl ?_ ?_
  ·refine ⟨hS5, hv, hsl_v2, hrow_v2, ?_⟩; exact ⟨by omega, by omega, rfl, hle6⟩
  ·rintro ⟨k, q, Ml⟩ wl ⟨hS7, hv, hsl_v2, hrow_v2, hk0, hku, hq, hle0⟩
   have hrn : len rs1 = len t.parts := by unfold len; rw [hrow_v2.len]; exact kidsV_len t
   have hrk := fun h : k < len rs1 => hrow_v2.at hk0 h
   have hd0 := depTo_nonneg t k
   have hd1 := depTo_le t k
   refine CW.seq (CW.sr (RL.m rfl rfl (RL.m rfl rfl (RL.u (.lenT hsl_v2 (.t rfl) ⟨_, Tryz.underlying47⟩) rfl (RL.u (.lss (.t rfl) (.t rfl)) rfl (RL.nil (CW.id ?_)))))))
   refine CW.cond rfl ?_ ?_ <;> intro hb2 <;> try simp only [zb] at hb2
   ·replace hrk := hrk (by omega)
    obtain ⟨u, hat, hgt, huw, hus⟩ := kidsV_at hk0 (by omega) hw
    have hrl : len (at' (kidsV t) k) ≤ 1048576 := by rw [hat]; unfold len; rw [Tr.flat_len, Tr.named_size]; unfold len at hvb; rw [Tr.flat_len] at hvb; omega
    have hdt := depthT_le _ (u.named []) rfl
    rw [Tr.named_size] at hdt
    refine CW.skip (CW.id (CW.seq (CW.block ?_)))
    refine CW.region (RL.m rfl rfl (RL.m rfl rfl (RL.m rfl rfl (RL.u (.idxT hsl_v2 (.t rfl) (.t rfl) Tryz.underlying47 Tryz.sizeOf24 (fun _ => by omega)) rfl (RL.u (.loadE1 (f := valI) (i := k) (j := 0) (u := ((at' rs1 k).v)) hS7 extEq hsl_v2 valI_len (.t rfl) Tryz.isAgg24 (fun _ => by omega) rfl rfl) rfl ?_)))))
    refine RL.callP Tryz.call20 (.cons (.t rfl) .nil) (IH (u.named []) (by rw [Tr.named_size]; exact hus) (Rs := Rs) ((at' rs1 k).v) hS7 (by rw [← hat]; exact hrk) (by rw [hat] at hrl; exact hrl) (Tr.named_wf huw)) rfl ?_
    rintro v8 w9 ⟨M10, rfl, hS11, hle12⟩
    replace hv := hv.mono hle12
    replace hsl_v2 := hsl_v2.mono hle12
    replace hrow_v2 := hrow_v2.mono hle12
    refine RL.u (.max2 (.t rfl) (.t rfl)) rfl (RL.a rfl rfl ?_)
    refine RL.nil (CW.at [Y 3 v2, Y 4 (i64 (if (depthT (u.named [])) > q then (depthT (u.named [])) else q)), Y 5 (i64 k)] rfl ?_)
    refine CW.region (RL.m rfl rfl (RL.u (.add (.t rfl) .c (fun _ => by omega)) rfl (RL.a rfl rfl ?_)))
    refine RL.nil fun a hs => Exists.intro ((k + 1, if (depthT (u.named [])) > q then (depthT (u.named [])) else q, M10)) ⟨hs.keep [3, 4, 5], ?_, ?_⟩
    ·refine ⟨hS11, hv, hsl_v2, hrow_v2, ?_⟩
     exact ⟨by omega, by omega, by rw [depTo_step hk0 hgt, ← hq]; omega, (hle0.trans hle12)⟩
    ·show Int.toNat _ < Int.toNat _; omega
   ·have hqe := depTo_end (t := t) (k := k) (by omega)
    refine CW.exit (CW.at [Y 4 (i64 q)] rfl ?_)
    refine CW.sr (RL.m rfl rfl (RL.u (.add (.t rfl) .c (fun _ => by first | omega | (unfold len at hvb; rw [Tr.flat_len] at hvb; omega))) rfl (RL.a rfl rfl (RL.nil (CW.id (CW.ret (hE.r1 rfl rfl ?_)))))))
    rw [Tr.at0] at hb1
    exact ⟨_, rfl, Ml, by rw [depthT_yes (by omega), ← hqe, hq], hS7, hle0⟩

theorem depth_all : ∀ (n : Nat) (t : Tr), t.size = n → DepthOK t := by
  intro n
  induction n using Nat.strongRecOn with
  | _ n ih => intro t hn w wv M0 M Rs vv hS hv hb hw; exact depth2_c t vv hS hv hb hw fun u hu => ih u.size (by omega) u rfl
end Go.Proofs.YtjfaikgooldcbaaGreatDoor
namespace Go.Eng
open Go.RowKit

def AllF (l : Str) : Prop := ∀ b ∈ l, isFigB b = true
theorem figs_iff {s : Str} : figs s = true ↔ AllF s := by
  rw [figs_all]
  constructor
  · intro h b hb
    obtain ⟨j, hj, e⟩ := List.getElem_of_mem hb
    have := h j hj
    rw [e] at this; exact this
  · intro h j hj; exact h _ (List.getElem_mem hj)
theorem right_open {n : Nd} (h : right1 n = true) : n = ⟨3, 0, [], n.s, n.neg, n.e⟩ ∧ AllF n.s ∧ len n.s ≤ 100 ∧ -1000 ≤ n.e ∧ n.e ≤ 1000 ∧ len n.s + n.e ≤ 1000 ∧ ((n.s = [] ∧ n.neg = false ∧ n.e = 0) ∨ (n.s ≠ [] ∧ byteAt n.s 0 ≠ 48 ∧ byteAt n.s (len n.s - 1) ≠ 48)) := by
  obtain ⟨kind, many, name, s, neg, e⟩ := n
  unfold right1 at h
  dsimp only at h ⊢
  split at h
  · cases h
  rename_i hc
  simp only [Bool.or_eq_true, decide_eq_true_eq, bne_iff_ne, Bool.not_eq_true', beq_eq_false_iff_ne, not_or, ne_eq, Classical.not_not] at hc
  obtain ⟨⟨⟨⟨⟨⟨⟨c1, c2⟩, c3⟩, c4⟩, c5⟩, c6⟩, c7⟩, c8⟩ := hc
  subst c1; subst c2; subst c3
  refine ⟨rfl, figs_iff.1 (by simpa using c4), by omega, by omega, by omega, by omega, ?_⟩
  split at h
  · rename_i hs
    simp only [Bool.and_eq_true, Bool.not_eq_true', beq_iff_eq] at h hs
    exact .inl ⟨hs, h.1, h.2⟩
  · rename_i hs
    simp only [Bool.and_eq_true, bne_iff_ne, beq_iff_eq] at h hs
    exact .inr ⟨hs, h.1, h.2⟩
end Go.Eng
namespace Go.Eng
open Go.RowKit

def nameOK (k : Int) (x : Str) : Prop := (k = 5 → x = []) ∧ utf x = true
/-- The parts' names: none in a list; valid, and rising in an object. -/
def risL (k : Int) : List Tr → Prop
  | [] => True
  | t :: ts => nameOK k t.node.name ∧ (∀ u us, ts = u :: us → k = 6 → Op.bytesLess t.node.name u.node.name = true) ∧ risL k ts
mutual
def Tr.good : Tr → Prop
  | .mk n ps => plainB n = true ∧ n.many = len ps ∧ risL n.kind ps ∧ goodL ps
def goodL : List Tr → Prop
  | [] => True
  | t :: ts => t.good ∧ goodL ts
end
mutual
theorem Tr.good_wf : {t : Tr} → t.good → t.wf
  | .mk n ps, h => by rw [Tr.good] at h; rw [Tr.wf]; exact ⟨h.2.1, goodL_wf h.2.2.2⟩
theorem goodL_wf : {l : List Tr} → goodL l → wfL l
  | [], _ => trivial
  | t :: ts, h => by rw [goodL] at h; rw [wfL]; exact ⟨Tr.good_wf h.1, goodL_wf h.2⟩
end
theorem risF_iff {v : Vl} {a : Int} : ∀ (us : List Tr) (k i : Int), SegL v i us → wfL us → len us = (at' v a).many - k → 0 ≤ k → (risF us.length v a k i = true ↔ risL (at' v a).kind us)
  | [], k, i, _, _, _, _ => by simp [risF, risL]
  | u :: us, k, i, hs, hw, hl, h0 => by
    have h1 := hs.first.node.2.2
    have hn := nextV_seg hs.first hw.1
    rw [len_cons] at hl
    have ih := risF_iff (v := v) (a := a) us (k + 1) (i + u.size) hs.rest hw.2 (by omega) (by omega)
    rw [List.length_cons, risF, risL, h1, hn]
    by_cases hA : ((at' v a).kind = 5 ∧ u.node.name ≠ []) ∨ utf u.node.name = false
    · rw [if_pos hA]
      refine ⟨fun h => (by cases h), fun h => ?_⟩
      rcases hA with ⟨h2, h3⟩ | h2
      · exact absurd (h.1.1 h2) h3
      · rw [h.1.2] at h2; cases h2
    · rw [if_neg hA]
      have hA' : nameOK (at' v a).kind u.node.name := by
        refine ⟨fun h => ?_, ?_⟩
        · by_cases hx : u.node.name = []
          · exact hx
          · exact absurd (.inl ⟨h, hx⟩) hA
        · cases hu : utf u.node.name with
          | true => rfl
          | false => exact absurd (.inr hu) hA
      by_cases hB : (at' v a).kind = 6 ∧ k + 1 < (at' v a).many ∧ Op.bytesLess u.node.name (at' v (i + u.size)).name = false
      · rw [if_pos hB]
        refine ⟨fun h => (by cases h), fun h => ?_⟩
        cases us with
        | nil => rw [len_nil] at hl; omega
        | cons w ws =>
          have h3 := h.2.1 w ws rfl hB.1
          rw [hs.rest.first.node.2.2, h3] at hB; cases hB.2.2
      · rw [if_neg hB, ih]
        refine ⟨fun h => ⟨hA', fun w ws e h6 => ?_, h⟩, fun h => h.2.2⟩
        subst e
        have h4 := hs.rest.first.node.2.2
        cases hc : Op.bytesLess u.node.name w.node.name with
        | true => rfl
        | false =>
          refine absurd ⟨h6, ?_, ?_⟩ hB
          · rw [len_cons] at hl; have := len_nonneg ws; omega
          · rw [h4]; exact hc
theorem risB_iff {v : Vl} {a : Int} {t : Tr} (hs : SegAt v a t) (hw : t.wf) : risB v a = true ↔ risL t.node.kind t.parts := by
  obtain ⟨n, ps⟩ := t
  have hh := hs.head
  rw [Tr.wf] at hw
  have hp := len_nonneg ps
  have := risF_iff (v := v) (a := a) ps 0 (a + 1) hs.kids hw.2 (by rw [hh.2.2]; omega) (by omega)
  unfold risB
  rw [hh.2.2] at this ⊢
  rw [show n.many.toNat = ps.length by unfold len at hw; omega]
  exact this
theorem allF_iff {v : Vl} : ∀ (f : Nat) (i : Int), len v + 1 ≤ f + i → (allF f v i = true ↔ ∀ j, i ≤ j → j < len v → plainB (at' v j) = true ∧ risB v j = true)
  | 0, i, hf => by
    refine ⟨fun _ j h1 h2 => by omega, fun _ => rfl⟩
  | f + 1, i, hf => by
    rw [allF]
    by_cases h1 : len v ≤ i
    · rw [if_pos h1]; exact ⟨fun _ j h2 h3 => by omega, fun _ => rfl⟩
    · rw [if_neg h1]
      have ih := allF_iff (v := v) f (i + 1) (by omega)
      by_cases h2 : plainB (at' v i) = false ∨ risB v i = false
      · rw [if_pos h2]
        refine ⟨fun h => (by cases h), fun h => ?_⟩
        have := h i (Int.le_refl _) (by omega)
        rcases h2 with h2 | h2
        · rw [this.1] at h2; cases h2
        · rw [this.2] at h2; cases h2
      · rw [if_neg h2, ih]
        refine ⟨fun h j h3 h4 => ?_, fun h j h3 h4 => h j (by omega) h4⟩
        rcases Int.lt_or_eq_of_le h3 with h5 | rfl
        · exact h j (by omega) h4
        · constructor
          · cases hx : plainB (at' v i) with
            | true => rfl
            | false => exact absurd (.inl hx) h2
          · cases hx : risB v i with
            | true => rfl
            | false => exact absurd (.inr hx) h2
theorem good_of {v : Vl} (ha : ∀ j, 0 ≤ j → j < len v → plainB (at' v j) = true ∧ risB v j = true) : ∀ (n : Nat) (ts : List Tr) (i : Int), sizeL ts = n → wfL ts → SegL v i ts → goodL ts := by
  intro n
  induction n using Nat.strongRecOn with
  | _ n ih =>
    intro ts i hn hw hs
    cases ts with
    | nil => trivial
    | cons t ts =>
      obtain ⟨nd, ps⟩ := t
      have hh := hs.first.head
      rw [wfL] at hw
      have hb := ha i hh.1 hh.2.1
      rw [hh.2.2] at hb
      have hr := (risB_iff hs.first hw.1).1 hb.2
      rw [sizeL, Tr.size] at hn
      rw [Tr.wf] at hw
      rw [goodL, Tr.good]
      exact ⟨⟨hb.1, hw.1.1, hr, ih (sizeL ps) (by omega) ps (i + 1) rfl hw.1.2 hs.first.kids⟩, ih (sizeL ts) (by omega) ts _ rfl hw.2 hs.rest⟩
theorem of_good {v : Vl} : ∀ (n : Nat) (ts : List Tr) (i : Int), sizeL ts = n → goodL ts → SegL v i ts → ∀ j, i ≤ j → j < i + n → plainB (at' v j) = true ∧ risB v j = true := by
  intro n
  induction n using Nat.strongRecOn with
  | _ n ih =>
    intro ts i hn hg hs j h1 h2
    cases ts with
    | nil => rw [sizeL] at hn; omega
    | cons t ts =>
      obtain ⟨nd, ps⟩ := t
      have hh := hs.first.head
      have hg0 := hg
      rw [goodL] at hg
      have hw := Tr.good_wf hg.1
      have hg1 := hg.1
      rw [Tr.good] at hg1
      rw [sizeL, Tr.size] at hn
      rcases Int.lt_or_eq_of_le h1 with h3 | rfl
      · rcases Int.lt_or_le j (i + 1 + sizeL ps) with h4 | h4
        · exact ih (sizeL ps) (by omega) ps (i + 1) rfl hg1.2.2.2 hs.first.kids j (by omega) (by omega)
        · exact ih (sizeL ts) (by omega) ts _ rfl hg.2 hs.rest j (by rw [Tr.size]; omega) (by rw [Tr.size]; omega)
      · rw [hh.2.2]
        exact ⟨hg1.1, (risB_iff hs.first hw).2 hg1.2.2.1⟩
/-- A right value is a good tree without a name. -/
theorem right_good {v : Vl} (h : rightB v = true) : ∃ t : Tr, v = t.flat ∧ t.good ∧ t.node.name = [] := by
  unfold rightB at h
  split at h
  · cases h
  · rename_i hn
    have h1 : v ≠ [] := fun e => hn (.inl e)
    have h2 : (at' v 0).name = [] := by
      by_cases hx : (at' v 0).name = []
      · exact hx
      · exact absurd (.inr (.inl hx)) hn
    have h3 : nextV v 0 = len v := by
      by_cases hx : nextV v 0 = len v
      · exact hx
      · exact absurd (.inr (.inr hx)) hn
    obtain ⟨t, hw, rfl⟩ := tree_of_next h3 h1
    have ha := (allF_iff (v := t.flat) _ 0 (by unfold len; omega)).1 h
    have := good_of (fun j h4 h5 => ha j h4 h5) _ [t] 0 rfl ⟨hw, trivial⟩ (SegL.one (SegAt.top t))
    exact ⟨t, rfl, this.1, by rw [← Tr.at0]; exact h2⟩
theorem good_right {t : Tr} (hg : t.good) (hn : t.node.name = []) : rightB t.flat = true := by
  unfold rightB
  rw [if_neg]
  · refine (allF_iff (v := t.flat) _ 0 (by unfold len; omega)).2 fun j h1 h2 => ?_
    exact of_good _ [t] 0 rfl ⟨hg, trivial⟩ (SegL.one (SegAt.top t)) j h1 (by unfold len at h2; rw [Tr.flat_len] at h2; simp only [sizeL]; omega)
  · rintro (h | h | h)
    · exact t.flat_ne h
    · exact h (by rw [Tr.at0]; exact hn)
    · refine h ?_
      rw [nextV_seg (SegAt.top t) (Tr.good_wf hg)]
      unfold len; rw [Tr.flat_len]; omega
theorem plain_scalar {n : Nd} (h : plainB n = true) (hk : n.kind < 5) : n.many = 0 ∧ -1000000 ≤ n.e ∧ n.e ≤ 1000000 := by
  unfold plainB at h
  split at h
  · rw [decide_eq_true_eq] at h
    have e := congrArg Nd.many h; have e2 := congrArg Nd.e h
    exact ⟨e, by have : n.e = 0 := e2; omega, by have : n.e = 0 := e2; omega⟩
  split at h
  · obtain ⟨h1, _, _, h2, h3, _⟩ := right_open h
    have e := congrArg Nd.many h1
    exact ⟨e, by have : -1000 ≤ n.e := h2; omega, by have : n.e ≤ 1000 := h3; omega⟩
  split at h
  · simp only [Bool.and_eq_true, decide_eq_true_eq] at h
    have e := congrArg Nd.many h.2; have e2 := congrArg Nd.e h.2
    exact ⟨e, by have : n.e = 0 := e2; omega, by have : n.e = 0 := e2; omega⟩
  split at h
  · omega
  · cases h
theorem plain_many {n : Nd} (h : plainB n = true) (hk : ¬ n.kind < 5) : (n.kind = 5 ∨ n.kind = 6) ∧ n.e = 0 ∧ bareN n = ⟨n.kind, n.many, [], [], false, 0⟩ := by
  unfold plainB at h
  split at h
  · omega
  split at h
  · omega
  split at h
  · omega
  split at h
  · simp only [Bool.and_eq_true, decide_eq_true_eq] at h
    have e2 := congrArg Nd.e h.2
    exact ⟨by assumption, e2, h.2⟩
  · cases h
/-- Texts no longer than so. -/
def shortV (q : Int) (v : Vl) : Prop := ∀ n ∈ v, len n.s ≤ q ∧ len n.name ≤ q
mutual
theorem Tr.good_ok : {t : Tr} → t.good → shortV 1099511627776 t.flat → t.ok
  | .mk n ps, h, hs => by
    rw [Tr.good] at h
    rw [Tr.flat] at hs
    have h1 := hs n List.mem_cons_self
    rw [Tr.ok]
    have hp := len_nonneg ps
    by_cases hk : n.kind < 5
    · have h2 := plain_scalar h.1 hk
      exact ⟨fun _ => len_zero.1 (by omega), fun h3 => by omega, ⟨h1.1, h1.2, h2.2.1, h2.2.2⟩, goodL_ok h.2.2.2 fun m hm => hs m (List.mem_cons_of_mem _ hm)⟩
    · have h2 := plain_many h.1 hk
      exact ⟨fun h3 => absurd h3 hk, fun _ => h.2.1, ⟨h1.1, h1.2, by omega, by omega⟩, goodL_ok h.2.2.2 fun m hm => hs m (List.mem_cons_of_mem _ hm)⟩
theorem goodL_ok : {l : List Tr} → goodL l → shortV 1099511627776 (flatL l) → okL l
  | [], _, _ => trivial
  | t :: ts, h, hs => by
    rw [goodL] at h; rw [okL]
    rw [flatL] at hs
    exact ⟨Tr.good_ok h.1 fun m hm => hs m (List.mem_append.2 (.inl hm)), goodL_ok h.2 fun m hm => hs m (List.mem_append.2 (.inr hm))⟩
end
end Go.Eng
namespace Go.Eng
open Go.RowKit

theorem print1_len {n : Nd} (h : -1000000 ≤ n.e ∧ n.e ≤ 1000000) : 0 ≤ len (print1 n) ∧ len (print1 n) ≤ 2 * len n.s + 1000100 := by
  have h0 := len_nonneg n.s
  have h1 := zeros_len' n.e
  have h2 := zeros_len' (1 - n.e - len n.s)
  have h3 := itoa_len n.e
  have h4 := sub_bd (zeros (1 - n.e - len n.s) ++ n.s) 0 (len (zeros (1 - n.e - len n.s) ++ n.s) + n.e)
  have h5 := from_bd (zeros (1 - n.e - len n.s) ++ n.s) (len (zeros (1 - n.e - len n.s) ++ n.s) + n.e)
  have h6 := len_app (zeros (1 - n.e - len n.s)) n.s
  have hs : len (if n.neg = true then ([45] : Str) else []) ≤ 1 ∧ 0 ≤ len (if n.neg = true then ([45] : Str) else []) := by split <;> decide
  unfold print1
  dsimp only
  split
  · rw [len_cons, len_nil]; omega
  · split
    · rename_i hc
      simp only [Bool.and_eq_true, decide_eq_true_eq] at hc
      rw [len_app, len_app]; omega
    · split
      · rename_i hc
        simp only [Bool.and_eq_true, decide_eq_true_eq] at hc
        rw [len_app, len_app, len_app, len_cons, len_nil]; omega
      · rw [len_app, len_app, len_app, len_cons, len_nil]; omega
theorem qOne_len (r : Int) : 0 ≤ len (qOne r) ∧ len (qOne r) ≤ 6 := by
  have := Lib.encodeRuneZ_length r
  unfold qOne
  split
  · simp only [len_cons, len_nil]; omega
  · split
    · simp only [len_cons, len_nil]; omega
    · unfold Lib.encodeRune len; rw [List.length_map]; omega
theorem qFrom_len (s : Str) (i : Int) (h0 : 0 ≤ i) (h1 : i ≤ len s) : len (qFrom s i) ≤ 6 * (len s - i) := by
  by_cases h : i < len s
  · have hb := runeLen_bd h0 h
    have ih := qFrom_len s (i + runeLen s i) (by omega) (by omega)
    have := qOne_len (runeAt s i)
    rw [qFrom_step h0 h, len_app]; omega
  · rw [qFrom_end h, len_nil]; omega
termination_by (len s - i).toNat
decreasing_by have hb := runeLen_bd h0 h; omega
theorem quoteP_len (s : Str) : 2 ≤ len (quoteP s) ∧ len (quoteP s) ≤ 6 * len s + 2 := by
  have := qFrom_len s 0 (Int.le_refl 0) (len_nonneg s)
  have h0 := len_nonneg (qFrom s 0)
  unfold quoteP
  rw [len_app, len_cons, len_cons, len_nil]; omega
end Go.Eng
namespace Go.Eng
open Go.RowKit

theorem print1_pos (n : Nd) : 1 ≤ len (print1 n) := by
  unfold print1
  dsimp only
  split
  · decide
  · rename_i h
    have hs : 1 ≤ len n.s := by
      cases hn : n.s with
      | nil => rw [hn] at h; exact absurd rfl h
      | cons a l => rw [len_cons]; have := len_nonneg l; omega
    have h1 := len_nonneg (if n.neg = true then [45] else ([] : Str))
    split
    · simp only [len_app]; have := len_nonneg (zeros n.e); omega
    split
    · simp only [len_app, len_cons, len_nil]
      have h2 := len_nonneg (Eng.sub (zeros (1 - n.e - len n.s) ++ n.s) 0 (len (zeros (1 - n.e - len n.s)) + len n.s + n.e))
      have h3 := len_nonneg (from' (zeros (1 - n.e - len n.s) ++ n.s) (len (zeros (1 - n.e - len n.s)) + len n.s + n.e))
      omega
    · simp only [len_app, len_cons, len_nil]; have := len_nonneg (Lib.itoa n.e); omega
theorem scalar_bd {n : Nd} (h : plainB n = true) (hk : n.kind < 5) (hs : len n.s ≤ 100000) : 1 ≤ len (scalarP n) ∧ len (scalarP n) ≤ 1200100 := by
  unfold scalarP
  have hq := quoteP_len n.s
  split
  · exact ⟨by decide, by decide⟩
  split
  · exact ⟨by decide, by decide⟩
  split
  · exact ⟨by decide, by decide⟩
  split
  · rename_i h0 h1 h2 h3
    unfold plainB at h
    rw [if_neg (by omega), if_pos h3] at h
    have h4 : 1 ≤ len (print1 (bareN n)) := print1_pos _
    have h5 : print1 (bareN n) = print1 n := rfl
    have h6 := plain_scalar (n := n) (by unfold plainB; rw [if_neg (by omega), if_pos h3]; exact h) hk
    have h7 := print1_len (n := n) h6.2
    rw [h5] at h4
    exact ⟨h4, by omega⟩
  · exact ⟨by omega, by omega⟩
theorem lineP_bd (ln : Bool) {d : Int} (h0 : 0 ≤ d) (h1 : d ≤ 1000000) : 0 ≤ len (lineP ln d) ∧ len (lineP ln d) ≤ 2000001 := by
  unfold lineP
  have := twoN_len d.toNat
  split
  · rw [len_cons]; omega
  · exact ⟨Int.le_refl _, by rw [len_nil]; omega⟩
mutual
theorem prt_bd {ln : Bool} : {d : Int} → {t : Tr} → t.good → shortV 100000 t.flat → 0 ≤ d → d + t.size ≤ 1000000 → t.size ≤ len (prt ln d t) ∧ len (prt ln d t) + 4000000 ≤ 10000000 * (t.size : Int)
  | d, .mk n ps, h, hs, h0, h1 => by
    rw [Tr.good] at h
    rw [Tr.flat] at hs
    have hn := hs n List.mem_cons_self
    rw [Tr.size] at h1 ⊢
    rw [prt]
    by_cases hk : n.kind < 5
    · rw [if_pos hk]
      have h2 := scalar_bd h.1 hk hn.1
      have h3 := plain_scalar h.1 hk
      have : ps = [] := len_zero.1 (by have := len_nonneg ps; omega)
      subst this
      simp only [sizeL]; omega
    · rw [if_neg hk]
      have h2 := prtL_bd (ln := ln) (d := d) (ob := n.kind == 6) (f := true) h.2.2.2 (fun m hm => hs m (List.mem_cons_of_mem _ hm)) h0 (by omega)
      have h3 := lineP_bd ln h0 (by omega)
      have h4 : 0 ≤ len (if ps.isEmpty = true then [] else lineP ln d) ∧ len (if ps.isEmpty = true then [] else lineP ln d) ≤ 2000001 := by
        split
        · exact ⟨by rw [len_nil]; omega, by rw [len_nil]; omega⟩
        · exact h3
      simp only [List.cons_append, len_cons, len_app, len_nil]
      omega
theorem prtL_bd {ln : Bool} : {d : Int} → {ob f : Bool} → {ts : List Tr} → goodL ts → shortV 100000 (flatL ts) → 0 ≤ d → d + 1 + sizeL ts ≤ 1000000 → sizeL ts ≤ len (prtL ln d ob f ts) ∧ len (prtL ln d ob f ts) ≤ 10000000 * (sizeL ts : Int)
  | d, ob, f, [], _, _, _, _ => by rw [prtL, sizeL, len_nil]; omega
  | d, ob, f, t :: ts, h, hs, h0, h1 => by
    rw [goodL] at h
    rw [flatL] at hs
    rw [sizeL] at h1 ⊢
    rw [prtL]
    have h2 := prt_bd (ln := ln) (d := d + 1) h.1 (fun m hm => hs m (List.mem_append.2 (.inl hm))) (by omega) (by omega)
    have h3 := prtL_bd (ln := ln) (d := d) (ob := ob) (f := false) h.2 (fun m hm => hs m (List.mem_append.2 (.inr hm))) h0 (by omega)
    have h4 := lineP_bd ln (d := d + 1) (by omega) (by omega)
    have h5 : 0 ≤ len (if f = true then ([] : Str) else [44]) ∧ len (if f = true then ([] : Str) else [44]) ≤ 1 := by split <;> exact ⟨by decide, by decide⟩
    have hnm : len t.node.name ≤ 100000 := by
      obtain ⟨n, ps⟩ := t
      exact (hs n (List.mem_append.2 (.inl (by rw [Tr.flat]; exact List.mem_cons_self)))).2
    have h6 : 0 ≤ len (if ob = true then nameP ln t.node else []) ∧ len (if ob = true then nameP ln t.node else []) ≤ 600004 := by
      have hq := quoteP_len t.node.name
      split
      · unfold nameP; rw [len_app, len_cons]
        split
        · rw [len_cons, len_nil]; omega
        · rw [len_nil]; omega
      · exact ⟨by rw [len_nil]; omega, by rw [len_nil]; omega⟩
    simp only [len_app]
    omega
end
theorem prt_ne {ln : Bool} {t : Tr} (h : t.good) (hs : shortV 100000 t.flat) (hz : t.size ≤ 1000000) : prt ln 0 t ≠ [] := by
  intro e
  have := (prt_bd (ln := ln) (d := 0) h hs (Int.le_refl _) (by omega)).1
  rw [e, len_nil] at this
  have := t.size_pos; omega
theorem shortV.mono {a b : Int} (h : a ≤ b) {v : Vl} (hs : shortV a v) : shortV b v := fun n hn => by have := hs n hn; omega
theorem goodL_mem {u : Tr} : ∀ {l : List Tr}, goodL l → u ∈ l → u.good
  | t :: l, h, hm => by
    rw [goodL] at h
    rcases List.mem_cons.1 hm with rfl | hm
    · exact h.1
    · exact goodL_mem h.2 hm
theorem goodL_app {a b : List Tr} : goodL (a ++ b) ↔ goodL a ∧ goodL b := by
  induction a with
  | nil => simp [goodL]
  | cons x a ih => rw [List.cons_append, goodL, goodL, ih, and_assoc]
theorem Tr.named_good {x : Str} {t : Tr} (h : t.good) : (t.named x).good := by
  obtain ⟨n, ps⟩ := t
  rw [Tr.good] at h
  rw [Tr.named, Tr.good]
  exact h
theorem Tr.parts_good {t : Tr} (h : t.good) : goodL t.parts := by obtain ⟨n, ps⟩ := t; rw [Tr.good] at h; exact h.2.2.2
theorem flatL_mem {u : Tr} {n : Nd} : ∀ {l : List Tr}, u ∈ l → n ∈ u.flat → n ∈ flatL l
  | t :: l, h, hn => by
    rw [flatL]
    rcases List.mem_cons.1 h with rfl | h
    · exact List.mem_append.2 (.inl hn)
    · exact List.mem_append.2 (.inr (flatL_mem h hn))
theorem Tr.flat_parts {t : Tr} {n : Nd} (h : n ∈ flatL t.parts) : n ∈ t.flat := by obtain ⟨m, ps⟩ := t; rw [Tr.flat]; exact List.mem_cons_of_mem _ h
theorem short_kid {t u : Tr} {q : Int} (h0 : 0 ≤ q) (hs : shortV q t.flat) (hu : u ∈ t.parts) : shortV q (u.named []).flat := by
  intro n hn
  have key : ∀ m ∈ u.flat, len m.s ≤ q ∧ len m.name ≤ q := fun m hm => hs m (Tr.flat_parts (flatL_mem hu hm))
  obtain ⟨m, ps⟩ := u
  rw [Tr.named, Tr.flat] at hn
  rw [Tr.flat] at key
  rcases List.mem_cons.1 hn with rfl | hn
  · exact ⟨(key m List.mem_cons_self).1, by show len ([] : Str) ≤ q; rw [len_nil]; exact h0⟩
  · exact key n (List.mem_cons_of_mem _ hn)
theorem risL_mem {k : Int} {u : Tr} : ∀ {l : List Tr}, risL k l → u ∈ l → nameOK k u.node.name
  | t :: l, h, hm => by
    rw [risL] at h
    rcases List.mem_cons.1 hm with rfl | hm
    · exact h.1
    · exact risL_mem h.2.2 hm
theorem kid_name {t u : Tr} (h : t.good) (hu : u ∈ t.parts) : nameOK t.node.kind u.node.name := by
  obtain ⟨n, ps⟩ := t
  rw [Tr.good] at h
  exact risL_mem h.2.2.1 hu
theorem kidNs_at {t u : Tr} {k : Int} (h6 : t.node.kind = 6) (hu : t.parts[k.toNat]? = some u) : at' (kidNs t) k = u.node.name := by
  unfold kidNs at'
  rw [if_pos h6, List.getD_eq_getElem?_getD, List.getElem?_map, hu]; rfl
theorem kidNs_len {t : Tr} : len (kidNs t) = if t.node.kind = 6 then len t.parts else 0 := by
  unfold kidNs
  split
  · unfold len; rw [List.length_map]
  · rfl
theorem Tr.good_node {t : Tr} (h : t.good) : plainB t.node = true := by obtain ⟨n, ps⟩ := t; rw [Tr.good] at h; exact h.1
theorem Tr.short_node {t : Tr} {q : Int} (hs : shortV q t.flat) : len t.node.s ≤ q ∧ len t.node.name ≤ q := by obtain ⟨n, ps⟩ := t; rw [Tr.flat] at hs; exact hs n List.mem_cons_self
theorem plain_kind {n : Nd} (h : plainB n = true) : 0 ≤ n.kind ∧ n.kind ≤ 6 := by
  unfold plainB at h
  split at h
  · omega
  split at h
  · omega
  split at h
  · omega
  split at h
  · omega
  · cases h
theorem plain_utf {n : Nd} (h : plainB n = true) (hk : n.kind = 4) : utf n.s = true := by
  unfold plainB at h
  rw [if_neg (by omega), if_neg (by omega), if_pos hk] at h
  simp only [Bool.and_eq_true] at h
  exact h.1
end Go.Eng
