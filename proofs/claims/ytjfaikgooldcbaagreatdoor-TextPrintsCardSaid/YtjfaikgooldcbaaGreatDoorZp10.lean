/-
  What is unquoted is valid UTF-8. No program in it. (The same lemmas stand in XBack.)
  PLAIN LEAN: strings.TrimFunc of figures leaves nothing just where all bytes are figures. No program in it.
  A right number, opened. Plain: no program in it.
-/
import Derived.Test.YtjfaikgooldcbaaGreatDoorZp5
import Derived.Laws.BitsLemmas
import Derived.Test.YtjfaikgooldcbaaGreatDoorZp3
import Derived.Test.YtjfaikgooldcbaaGreatDoorProg
import Derived.Test.YtjfaikgooldcbaaGreatDoorZp9
import Derived.Test.YtjfaikgooldcbaaGreatDoorZp8
import Derived.Test.YtjfaikgooldcbaaGreatDoorZp7
import Derived.Test.YtjfaikgooldcbaaGreatDoorZp6
import Derived.Shelf.GgClosure.StringsTrimFunc
import Derived.Lib.SlTrimSet
set_option linter.unusedVariables false
set_option linter.unusedSimpArgs false
namespace Go.Proofs.YtjfaikgooldcbaaGreatDoor
open Go.Eng

/- loupe/louperef02.own -/
set_option maxRecDepth 100000 in
theorem own_c {w wv : World} {M0 M : Mem} {Rs : List HO} (v : Vl) (vv : Value) (i j : Int) (hS : St w M0 wv M Rs) (hv : Sl M 6 v.length vv (v.flatMap Nd.cells)) (hvb : len v ≤ 1048576) (h0 : 0 ≤ i) (h1 : i < j) (h2 : j ≤ len v) :
  Calls Tryz.prog 62 [vv, (i64 i), (i64 j)].toArray wv fun e w' => ∃ u, e = .returned u ∧ ∃ a c M', u = .slice a (nameV [] (Eng.sub v i j)).length c ∧ Sl M' 6 (nameV [] (Eng.sub v i j)).length u ((nameV [] (Eng.sub v i j)).flatMap Nd.cells) ∧ St w M0 w' M' Rs ∧ M.le M' := by
 refine CW.enter1 Tryz.func62 rfl Tryz.ntmps62 (Nat.le_of_ble_eq_true rfl) fun Q hE => ?_
 have hsb : len (Eng.sub v i j) = j - i := sub_len h0 (by omega) h2
 have hsn : Eng.sub v i j ≠ [] := fun e => by rw [e, len_nil] at hsb; omega
 refine CW.weaken [0, 1, 2] (L' := [Y 0 vv, Y 1 (i64 i), Y 2 (i64 j)]) ?_ rfl
 refine CW.sr ?_
 have hS1 := hS.ownNil 38 6
 replace hS1 : St w M0 wv M (.own 38 6 (.slice none 0 0) (([] : List Nd)).length ((([] : List Nd)).flatMap Nd.cells) :: Rs) := hS1
 refine RL.u (.assign .c) rfl ?_
 refine RL.nil (CW.id ?_)
 refine CW.sr ?_
 refine RL.buildSliceP (n := 0) (sz := 6) (e := 38) (vs := []) (cs := []) hS1 .nil rfl rfl (fun w => by kernel_rfl) rfl (fun v2 w3 hS4 => ?_)
 replace hS4 : St w M0 w3 M (.priv 38 6 v2 (([] : List Nd)).length ((([] : List Nd)).flatMap Nd.cells) :: .own 38 6 (.slice none 0 0) (([] : List Nd)).length ((([] : List Nd)).flatMap Nd.cells) :: Rs) := hS4
 refine RL.m rfl rfl (RL.m rfl rfl (RL.m rfl rfl ?_))
 obtain ⟨vs5, hs6, hrun⟩ := slSl_b (P := Tryz.prog) hv Nd.cells_len Tryz.underlying24 Tryz.sizeOf38 i j (by first | omega | (simp only [len_app, len_cons, len_nil] at *; omega))
 refine RL.u (.slRb (.t rfl) (.t rfl) (.t rfl) hrun) rfl ?_
 clear hrun
 refine RL.appendLP (f := Nd.cells) (l := ([] : List Nd)) (m := Eng.sub v i j) hS4 (k := 0) rfl (.t rfl) (.t rfl) hs6 Tryz.underlying24 Tryz.type38 rfl rfl rfl Nd.cells_one (by' := 64) rfl rfl (by first | omega | (simp only [len_app, len_cons, len_nil] at *; omega)) rfl (Hs' := fun v' => (.priv 38 6 v' (([] : List Nd) ++ Eng.sub v i j).length ((([] : List Nd) ++ Eng.sub v i j).flatMap Nd.cells) :: .own 38 6 (.slice none 0 0) (([] : List Nd)).length ((([] : List Nd)).flatMap Nd.cells) :: Rs)) (fun _ => rfl) (fun v7 w8 hS9 => ?_)
 refine RL.a rfl rfl ?_
 refine RL.nil (CW.id ?_)
 refine CW.sr ?_
 refine RL.m rfl rfl (RL.u (.idxT ((hS9.told (k := 0) rfl).sl (i := 0) rfl) (.t rfl) .c Tryz.underlying24 Tryz.sizeOf38 (fun _ => by first | omega | (simp only [len_app, len_cons, len_nil] at *; omega))) rfl (RL.u (.loadEN (f := Nd.cells) (i := 0) (hS9.told (k := 0) rfl) extEq ((hS9.told (k := 0) rfl).sl (i := 0) rfl) Nd.cells_len (.t rfl) Tryz.isAgg38 Tryz.sizeOf38 (fun _ => by first | omega | (simp only [len_app, len_cons, len_nil] at *; omega))) rfl ?_))
 refine RL.alloc hS9 Tryz.zeroValue38 rfl (fun w10 b11 hS12 => ?_)
 refine RL.st hS12 (i := 0) rfl (.t rfl) (.t rfl) Tryz.sizeOf38 rfl rfl rfl rfl rfl (fun w13 hS14 => ?_)
 refine RL.nil (CW.id ?_)
 refine CW.sr ?_
 refine RL.u (.fldA (q := ⟨b11, 2, none⟩) (.t rfl) (fun w => by kernel_rfl)) rfl ?_
 refine RL.st (v := (str [])) hS14 (i := 0) rfl (.t rfl) .c Tryz.sizeOf9 rfl rfl rfl rfl rfl (fun w15 hS16 => ?_)
 refine RL.nil (CW.id ?_)
 refine CW.sr ?_
 refine RL.m rfl rfl (RL.u (.loadBN (vs := [(i64 ((at' (([] : List Nd) ++ Eng.sub v i j) 0).kind)), (i64 ((at' (([] : List Nd) ++ Eng.sub v i j) 0).many)), (str []), (str ((at' (([] : List Nd) ++ Eng.sub v i j) 0).s)), (.bool ((at' (([] : List Nd) ++ Eng.sub v i j) 0).neg)), (i64 ((at' (([] : List Nd) ++ Eng.sub v i j) 0).e))]) hS16 extEq (i := 0) rfl (.t rfl) Tryz.isAgg38 Tryz.sizeOf38 rfl rfl) rfl (RL.u (.idxT ((hS16.told (k := 1) rfl).sl (i := 1) rfl) (.t rfl) .c Tryz.underlying24 Tryz.sizeOf38 (fun _ => by first | omega | (simp only [len_app, len_cons, len_nil] at *; omega))) rfl ?_))
 refine RL.storeP (o := (0 : Int).toNat * 6 + 0) (xs' := ((([] : List Nd) ++ Eng.sub v i j).set (0 : Int).toNat ⟨(at' (([] : List Nd) ++ Eng.sub v i j) 0).kind, (at' (([] : List Nd) ++ Eng.sub v i j) 0).many, [], (at' (([] : List Nd) ++ Eng.sub v i j) 0).s, (at' (([] : List Nd) ++ Eng.sub v i j) 0).neg, (at' (([] : List Nd) ++ Eng.sub v i j) 0).e⟩).flatMap Nd.cells) (Hs' := (.box b11 [(i64 ((at' (([] : List Nd) ++ Eng.sub v i j) 0).kind)), (i64 ((at' (([] : List Nd) ++ Eng.sub v i j) 0).many)), (str []), (str ((at' (([] : List Nd) ++ Eng.sub v i j) 0).s)), (.bool ((at' (([] : List Nd) ++ Eng.sub v i j) 0).neg)), (i64 ((at' (([] : List Nd) ++ Eng.sub v i j) 0).e))] 38 :: .priv 38 6 v7 ((([] : List Nd) ++ Eng.sub v i j).set (0 : Int).toNat ⟨(at' (([] : List Nd) ++ Eng.sub v i j) 0).kind, (at' (([] : List Nd) ++ Eng.sub v i j) 0).many, [], (at' (([] : List Nd) ++ Eng.sub v i j) 0).s, (at' (([] : List Nd) ++ Eng.sub v i j) 0).neg, (at' (([] : List Nd) ++ Eng.sub v i j) 0).e⟩).length (((([] : List Nd) ++ Eng.sub v i j).set (0 : Int).toNat ⟨(at' (([] : List Nd) ++ Eng.sub v i j) 0).kind, (at' (([] : List Nd) ++ Eng.sub v i j) 0).many, [], (at' (([] : List Nd) ++ Eng.sub v i j) 0).s, (at' (([] : List Nd) ++ Eng.sub v i j) 0).neg, (at' (([] : List Nd) ++ Eng.sub v i j) 0).e⟩).flatMap Nd.cells) :: .own 38 6 (.slice none 0 0) (([] : List Nd)).length ((([] : List Nd)).flatMap Nd.cells) :: Rs)) hS16 (k := 1) rfl (.t rfl) (.t rfl) Tryz.sizeOf38 rfl rfl (by rw [flat_len Nd.cells 6 Nd.cells_len]; simp only [List.length_append]; unfold len at *; omega) rfl (splice_set (f := Nd.cells) (sz := 6) Nd.cells_len (([] : List Nd) ++ Eng.sub v i j) (0 : Int).toNat ⟨(at' (([] : List Nd) ++ Eng.sub v i j) 0).kind, (at' (([] : List Nd) ++ Eng.sub v i j) 0).many, [], (at' (([] : List Nd) ++ Eng.sub v i j) 0).s, (at' (([] : List Nd) ++ Eng.sub v i j) 0).neg, (at' (([] : List Nd) ++ Eng.sub v i j) 0).e⟩ 0 [(i64 ((at' (([] : List Nd) ++ Eng.sub v i j) 0).kind)), (i64 ((at' (([] : List Nd) ++ Eng.sub v i j) 0).many)), (str []), (str ((at' (([] : List Nd) ++ Eng.sub v i j) 0).s)), (.bool ((at' (([] : List Nd) ++ Eng.sub v i j) 0).neg)), (i64 ((at' (([] : List Nd) ++ Eng.sub v i j) 0).e))] (by simp only [List.length_append]; unfold len at *; omega) rfl (Nat.le_of_ble_eq_true rfl)) (by rw [List.length_set]; rfl) (fun w17 hS18 => ?_)
 refine RL.nil (CW.id ?_)
 refine CW.sr ?_
 refine RL.m rfl rfl (RL.a rfl rfl ?_)
 refine RL.nil (CW.id ?_)
 refine CW.ret (hE.r1 rfl rfl ?_)
 obtain ⟨M20, hS19, hle21⟩ := hS18.show (k := 1) rfl
 replace hS19 : St w M0 w17 M20 (.box b11 [(i64 ((at' (([] : List Nd) ++ Eng.sub v i j) 0).kind)), (i64 ((at' (([] : List Nd) ++ Eng.sub v i j) 0).many)), (str []), (str ((at' (([] : List Nd) ++ Eng.sub v i j) 0).s)), (.bool ((at' (([] : List Nd) ++ Eng.sub v i j) 0).neg)), (i64 ((at' (([] : List Nd) ++ Eng.sub v i j) 0).e))] 38 :: .own 38 6 v7 ((([] : List Nd) ++ Eng.sub v i j).set (0 : Int).toNat ⟨(at' (([] : List Nd) ++ Eng.sub v i j) 0).kind, (at' (([] : List Nd) ++ Eng.sub v i j) 0).many, [], (at' (([] : List Nd) ++ Eng.sub v i j) 0).s, (at' (([] : List Nd) ++ Eng.sub v i j) 0).neg, (at' (([] : List Nd) ++ Eng.sub v i j) 0).e⟩).length (((([] : List Nd) ++ Eng.sub v i j).set (0 : Int).toNat ⟨(at' (([] : List Nd) ++ Eng.sub v i j) 0).kind, (at' (([] : List Nd) ++ Eng.sub v i j) 0).many, [], (at' (([] : List Nd) ++ Eng.sub v i j) 0).s, (at' (([] : List Nd) ++ Eng.sub v i j) 0).neg, (at' (([] : List Nd) ++ Eng.sub v i j) 0).e⟩).flatMap Nd.cells) :: .own 38 6 (.slice none 0 0) (([] : List Nd)).length ((([] : List Nd)).flatMap Nd.cells) :: Rs) := hS19
 have hslr := (hS19.sl (i := 1) rfl)
 replace hS19 : St w M0 w17 M20 (.box b11 [(i64 ((at' (([] : List Nd) ++ Eng.sub v i j) 0).kind)), (i64 ((at' (([] : List Nd) ++ Eng.sub v i j) 0).many)), (str []), (str ((at' (([] : List Nd) ++ Eng.sub v i j) 0).s)), (.bool ((at' (([] : List Nd) ++ Eng.sub v i j) 0).neg)), (i64 ((at' (([] : List Nd) ++ Eng.sub v i j) 0).e))] 38 :: .own 38 6 v7 ((([] : List Nd) ++ Eng.sub v i j).set (0 : Int).toNat ⟨(at' (([] : List Nd) ++ Eng.sub v i j) 0).kind, (at' (([] : List Nd) ++ Eng.sub v i j) 0).many, [], (at' (([] : List Nd) ++ Eng.sub v i j) 0).s, (at' (([] : List Nd) ++ Eng.sub v i j) 0).neg, (at' (([] : List Nd) ++ Eng.sub v i j) 0).e⟩).length (((([] : List Nd) ++ Eng.sub v i j).set (0 : Int).toNat ⟨(at' (([] : List Nd) ++ Eng.sub v i j) 0).kind, (at' (([] : List Nd) ++ Eng.sub v i j) 0).many, [], (at' (([] : List Nd) ++ Eng.sub v i j) 0).s, (at' (([] : List Nd) ++ Eng.sub v i j) 0).neg, (at' (([] : List Nd) ++ Eng.sub v i j) 0).e⟩).flatMap Nd.cells) :: Rs) := hS19.erase 2 rfl
 replace hS19 : St w M0 w17 M20 (.box b11 [(i64 ((at' (([] : List Nd) ++ Eng.sub v i j) 0).kind)), (i64 ((at' (([] : List Nd) ++ Eng.sub v i j) 0).many)), (str []), (str ((at' (([] : List Nd) ++ Eng.sub v i j) 0).s)), (.bool ((at' (([] : List Nd) ++ Eng.sub v i j) 0).neg)), (i64 ((at' (([] : List Nd) ++ Eng.sub v i j) 0).e))] 38 :: Rs) := hS19.erase 1 rfl
 replace hS19 : St w M0 w17 M20 Rs := hS19.erase 0 rfl
 rw [own_eq hsn] at hslr
 obtain ⟨az, cz, hz⟩ := Sl.shape hslr
 exact ⟨_, rfl, az, cz, M20, hz, hslr, hS19, hle21⟩

/- loupe/louperef02.Parts -/
set_option maxRecDepth 100000 in
theorem parts2_c {w wv : World} {M0 M : Mem} {Rs : List HO} (t : Tr) (vv : Value) (hS : St w M0 wv M Rs) (hv : Sl M 6 t.flat.length vv (t.flat.flatMap Nd.cells)) (hvb : len t.flat ≤ 1048576) (hw : t.wf) :
  Calls Tryz.prog 37 [vv].toArray wv fun e w' => ∃ u, e = .returned u ∧ ∃ rs M', Sl M' 1 rs.length u (rs.flatMap valI) ∧ RowsV M' 6 Nd.cells rs (kidsV t) ∧ St w M0 w' M' Rs ∧ M.le M' := by
 refine CW.enter1 Tryz.func37 rfl Tryz.ntmps37 (Nat.le_of_ble_eq_true rfl) fun Q hE => ?_
 have hmny := Tr.many_eq hw
 rw [← Tr.at0 t] at hmny
 have hpl : len t.parts + 1 ≤ len t.flat := by unfold len; rw [Tr.flat_len, Tr.size_eq]; have := len_le_sizeL t.parts; unfold len at this; omega
 have hlp := len_nonneg t.parts
 refine CW.weaken [0] (L' := [Y 0 vv]) ?_ rfl
 refine CW.sr ?_
 have hS1 := hS.ownNil 24 1
 replace hS1 : St w M0 wv M (.own 24 1 (.slice none 0 0) (([] : List SlH)).length ((([] : List SlH)).flatMap valI) :: Rs) := hS1
 refine RL.u (.assign .c) rfl ?_
 refine RL.nil (CW.id ?_)
 refine CW.sr ?_
 refine RL.buildSlice (n := 0) (sz := 1) (e := 24) (vs := []) (cs := []) hS1 .nil rfl rfl (fun w => by kernel_rfl) rfl (fun v2 w3 M4 hS5 hle6 => ?_)
 replace hS5 : St w M0 w3 M4 (.own 24 1 v2 (([] : List SlH)).length ((([] : List SlH)).flatMap valI) :: .own 24 1 (.slice none 0 0) (([] : List SlH)).length ((([] : List SlH)).flatMap valI) :: Rs) := hS5
 replace hv := hv.mono hle6
 refine RL.a rfl rfl ?_
 refine RL.nil (CW.id ?_)
 refine CW.sr ?_
 refine RL.u (.assign .c) rfl ?_
 refine RL.nil (CW.id ?_)
 refine CW.seq ?_
 refine CW.sr ?_
 refine RL.u (.assign .c) rfl ?_
 refine RL.nil (CW.id ?_)
 refine CW.block ?_
 refine CW.loop (σ := Int × Int × Value × List SlH × Mem) (fun (k, i, vo, lo, Ml) => [Y 0 vv, Y 3 vo, Y 4 (i64 i), Y 5 (i64 k)]) (fun (k, i, vo, lo, Ml) wl => St w M0 wl Ml (.own 24 1 vo lo.length (lo.flatMap valI) :: .own 24 1 (.slice none 0 0) (([] : List SlH)).length ((([] : List SlH)).flatMap valI) :: Rs) ∧ Sl Ml 6 t.flat.length vv (t.flat.flatMap Nd.cells) ∧ 0 ≤ k ∧ k ≤ len t.parts ∧ SegL t.flat i (t.parts.drop k.toNat) ∧ RowsV Ml 6 Nd.cells lo (kidsTo t k) ∧ M.le Ml) (fun (k, i, vo, lo, Ml) => (len t.parts - k).toNat) ((0, 1, v2, ([] : List SlH), M4)) [0, 3, 4, 5] rfl ?_ ?_
 ·refine ⟨hS5, hv, ?_⟩; exact ⟨by omega, by omega, Tr.seg_kids, trivial, hle6⟩
 ·rintro ⟨k, i, vo, lo, Ml⟩ wl ⟨hS7, hv, hk0, hku, hus, hro, hle0⟩
  have hlo : len lo = k := by unfold len; rw [hro.len]; exact kidsTo_len hk0 hku
  have hkid := fun h => kid_step hw hk0 h hus
  refine CW.seq ?_
  refine CW.sr ?_
  refine RL.m rfl rfl (RL.m rfl rfl (RL.u (.idxT hv (.t rfl) .c Tryz.underlying24 Tryz.sizeOf38 (fun _ => by first | omega | (simp only [len_app, len_cons, len_nil] at *; omega))) rfl (RL.u (.fldA (q := ⟨sb vv, so vv + (0 : Int).toNat * 6 + 1, none⟩) (.t rfl) (fun w => by kernel_rfl)) rfl (RL.u (.loadE1 (f := Nd.cells) (i := 0) (j := 1) (u := (i64 ((at' t.flat 0).many))) hS7 extEq hv Nd.cells_len (.t rfl) Tryz.isAgg3 (fun _ => by first | omega | (simp only [len_app, len_cons, len_nil] at *; omega)) rfl rfl) rfl (RL.u (.lss (.t rfl) (.t rfl)) rfl ?_)))))
  refine RL.nil (CW.id ?_)
  refine CW.cond rfl (fun hb1 => ?_) (fun hb1 => ?_)
  ·try simp only [zb] at hb1
   obtain ⟨u, huw, hu, hnx, hrs, hst, hke, hmem, hgt⟩ := hkid (by rw [← hmny]; omega)
   have huz := u.size_pos
   have hul := hu.size_le
   have hi0 := hu.1
   refine CW.skip (CW.id ?_)
   refine CW.seq ?_
   refine CW.block ?_
   refine CW.sr ?_
   refine RL.m rfl rfl (RL.m rfl rfl ?_)
   refine RL.callE hS7 .none Tryz.call34 (.cons (.t rfl) (.cons (.t rfl) .nil)) (fun _ => (next_c Ml t.flat vv i _ hS7.sat hv (by first | omega | assumption) (by omega))) rfl (fun w8 hS9 => ?_)
   refine RL.a rfl rfl ?_
   refine RL.nil (CW.at [Y 0 vv, Y 3 vo, Y 4 (i64 i), Y 5 (i64 k), Y 6 (i64 (nextV t.flat i))] rfl ?_)
   refine CW.sr ?_
   refine RL.m rfl rfl (RL.m rfl rfl (RL.m rfl rfl (RL.m rfl rfl ?_)))
   refine RL.callP Tryz.call62 (.cons (.t rfl) (.cons (.t rfl) (.cons (.t rfl) .nil))) (own_c (Rs := (.own 24 1 vo lo.length (lo.flatMap valI) :: .own 24 1 (.slice none 0 0) (([] : List SlH)).length ((([] : List SlH)).flatMap valI) :: Rs)) t.flat vv i (nextV t.flat i) hS9 hv (by omega) (by omega) (by omega) (by omega)) rfl ?_
   rintro v12 w13 ⟨a10, c11, M14, rfl, hsl_v12, hS15, hle16⟩
   replace hS15 : St w M0 w13 M14 (.own 24 1 vo lo.length (lo.flatMap valI) :: .own 24 1 (.slice none 0 0) (([] : List SlH)).length ((([] : List SlH)).flatMap valI) :: Rs) := hS15
   replace hv := hv.mono hle16
   replace hsl_v12 : Sl M14 6 (nameV [] (Eng.sub t.flat i (nextV t.flat i))).length (.slice a10 (nameV [] (Eng.sub t.flat i (nextV t.flat i))).length c11) ((nameV [] (Eng.sub t.flat i (nextV t.flat i))).flatMap Nd.cells) := hsl_v12
   refine RL.buildSlice (n := 1) (sz := 1) (e := 24) (vs := [(0, (.slice a10 (nameV [] (Eng.sub t.flat i (nextV t.flat i))).length c11))]) (cs := [(.slice a10 (nameV [] (Eng.sub t.flat i (nextV t.flat i))).length c11)]) hS15 (.cons (.t rfl) .nil) rfl rfl (fun w => by kernel_rfl) rfl (fun v17 w18 M19 hS20 hle21 => ?_)
   replace hS20 : St w M0 w18 M19 (.own 24 1 v17 (([(SlH.mk a10 (nameV [] (Eng.sub t.flat i (nextV t.flat i))).length c11)] : List SlH)).length ((([(SlH.mk a10 (nameV [] (Eng.sub t.flat i (nextV t.flat i))).length c11)] : List SlH)).flatMap valI) :: .own 24 1 vo lo.length (lo.flatMap valI) :: .own 24 1 (.slice none 0 0) (([] : List SlH)).length ((([] : List SlH)).flatMap valI) :: Rs) := hS20
   replace hv := hv.mono hle21
   replace hsl_v12 := hsl_v12.mono hle21
   refine RL.append1 (f := valI) (l := lo) (y := (SlH.mk a10 (nameV [] (Eng.sub t.flat i (nextV t.flat i))).length c11)) hS20 (k := 1) rfl (.t rfl) (.t rfl) (hS20.sl (i := 0) rfl) Tryz.underlying47 Tryz.type24 rfl rfl rfl valI_one (by' := 24) rfl rfl (by first | omega | (simp only [len_app, len_cons, len_nil] at *; omega)) rfl (Hs' := fun v' => (.own 24 1 v17 (([(SlH.mk a10 (nameV [] (Eng.sub t.flat i (nextV t.flat i))).length c11)] : List SlH)).length ((([(SlH.mk a10 (nameV [] (Eng.sub t.flat i (nextV t.flat i))).length c11)] : List SlH)).flatMap valI) :: .own 24 1 v' (lo ++ [(SlH.mk a10 (nameV [] (Eng.sub t.flat i (nextV t.flat i))).length c11)]).length ((lo ++ [(SlH.mk a10 (nameV [] (Eng.sub t.flat i (nextV t.flat i))).length c11)]).flatMap valI) :: .own 24 1 (.slice none 0 0) (([] : List SlH)).length ((([] : List SlH)).flatMap valI) :: Rs)) (fun _ => rfl) (fun v22 w23 M24 hS25 hle26 => ?_)
   replace hS25 := hS25.erase 0 rfl
   replace hv := hv.mono hle26
   replace hsl_v12 := hsl_v12.mono hle26
   refine RL.a rfl rfl ?_
   refine RL.nil (CW.at [Y 0 vv, Y 3 v22, Y 5 (i64 k), Y 6 (i64 (nextV t.flat i))] rfl ?_)
   refine CW.region ?_
   refine RL.m rfl rfl (RL.a rfl rfl ?_)
   refine RL.nil (CW.id ?_)
   refine CW.region ?_
   refine RL.m rfl rfl (RL.u (.add (.t rfl) .c (fun _ => by first | omega | (simp only [len_app, len_cons, len_nil] at *; omega))) rfl (RL.a rfl rfl ?_))
   refine RL.nil fun a hs => Exists.intro ((k + 1, nextV t.flat i, v22, lo ++ [(SlH.mk a10 (nameV [] (Eng.sub t.flat i (nextV t.flat i))).length c11)], M24)) ⟨hs.keep [0, 3, 4, 5], ?_, ?_⟩
   ·refine ⟨hS25, hv, ?_⟩
    exact ⟨by omega, by omega, by rw [hnx]; exact hrs, by rw [hst]; exact RowsV.snoc hsl_v12 (hro.mono (((hle16.trans hle21).trans hle26))), (((hle0.trans hle16).trans hle21).trans hle26)⟩
   ·show Int.toNat _ < Int.toNat _; omega
  ·try simp only [zb] at hb1
   rw [kidsTo_end (by omega)] at hro
   refine CW.exit (CW.at [Y 3 vo] rfl ?_)
   refine CW.sr ?_
   refine RL.m rfl rfl (RL.a rfl rfl ?_)
   refine RL.nil (CW.id ?_)
   refine CW.ret (hE.r1 rfl rfl ?_)
   have hslr := (hS7.sl (i := 0) rfl)
   replace hS7 : St w M0 wl Ml (.own 24 1 vo lo.length (lo.flatMap valI) :: Rs) := hS7.erase 1 rfl
   replace hS7 : St w M0 wl Ml Rs := hS7.erase 0 rfl
   exact ⟨_, rfl, _, Ml, hslr, hro, hS7, hle0⟩

/- loupe/louperef02.Names -/
set_option maxRecDepth 100000 in
theorem names2_c {w wv : World} {M0 M : Mem} {Rs : List HO} (t : Tr) (vv : Value) (hS : St w M0 wv M Rs) (hv : Sl M 6 t.flat.length vv (t.flat.flatMap Nd.cells)) (hvb : len t.flat ≤ 1048576) (hw : t.wf) :
  Calls Tryz.prog 58 [vv].toArray wv fun e w' => ∃ u, e = .returned u ∧ ∃ M', Sl M' 1 (kidNs t).length u ((kidNs t).flatMap strC) ∧ St w M0 w' M' Rs ∧ M.le M' := by
 refine CW.enter1 Tryz.func58 rfl Tryz.ntmps58 (Nat.le_of_ble_eq_true rfl) fun Q hE => ?_
 have hmny := Tr.many_eq hw
 rw [← Tr.at0 t] at hmny
 have hpl : len t.parts + 1 ≤ len t.flat := by unfold len; rw [Tr.flat_len, Tr.size_eq]; have := len_le_sizeL t.parts; unfold len at this; omega
 have hlp := len_nonneg t.parts
 refine CW.weaken [0] (L' := [Y 0 vv]) ?_ rfl
 refine CW.sr ?_
 have hS1 := hS.ownNil 9 1
 replace hS1 : St w M0 wv M (.own 9 1 (.slice none 0 0) (([] : List Str)).length ((([] : List Str)).flatMap strC) :: Rs) := hS1
 refine RL.u (.assign .c) rfl ?_
 refine RL.nil (CW.id ?_)
 refine CW.sr ?_
 refine RL.buildSlice (n := 0) (sz := 1) (e := 9) (vs := []) (cs := []) hS1 .nil rfl rfl (fun w => by kernel_rfl) rfl (fun v2 w3 M4 hS5 hle6 => ?_)
 replace hS5 : St w M0 w3 M4 (.own 9 1 v2 (([] : List Str)).length ((([] : List Str)).flatMap strC) :: .own 9 1 (.slice none 0 0) (([] : List Str)).length ((([] : List Str)).flatMap strC) :: Rs) := hS5
 replace hv := hv.mono hle6
 refine RL.a rfl rfl ?_
 refine RL.nil (CW.id ?_)
 refine CW.sr ?_
 refine RL.u (.assign .c) rfl ?_
 refine RL.nil (CW.id ?_)
 refine CW.seq ?_
 refine CW.sr ?_
 refine RL.u (.assign .c) rfl ?_
 refine RL.nil (CW.id ?_)
 refine CW.block ?_
 refine CW.loop (σ := Int × Int × Value × List Str × Mem) (fun (k, i, vo, lo, Ml) => [Y 0 vv, Y 3 vo, Y 4 (i64 i), Y 5 (i64 k)]) (fun (k, i, vo, lo, Ml) wl => St w M0 wl Ml (.own 9 1 vo lo.length (lo.flatMap strC) :: .own 9 1 (.slice none 0 0) (([] : List Str)).length ((([] : List Str)).flatMap strC) :: Rs) ∧ Sl Ml 6 t.flat.length vv (t.flat.flatMap Nd.cells) ∧ 0 ≤ k ∧ k ≤ len t.parts ∧ SegL t.flat i (t.parts.drop k.toNat) ∧ lo = namesTo t k ∧ (¬ t.node.kind = 6 → k = 0) ∧ M.le Ml) (fun (k, i, vo, lo, Ml) => (len t.parts - k).toNat) ((0, 1, v2, ([] : List Str), M4)) [0, 3, 4, 5] rfl ?_ ?_
 ·refine ⟨hS5, hv, ?_⟩; exact ⟨by omega, by omega, Tr.seg_kids, rfl, fun _ => rfl, hle6⟩
 ·rintro ⟨k, i, vo, lo, Ml⟩ wl ⟨hS7, hv, hk0, hku, hus, hlo, hk6, hle0⟩
  have hlk : len lo = k := by rw [hlo]; exact namesTo_len hk0 hku
  have hkid := fun h => kid_step hw hk0 h hus
  refine CW.seq ?_
  refine CW.sr ?_
  refine RL.m rfl rfl (RL.m rfl rfl (RL.u (.idxT hv (.t rfl) .c Tryz.underlying24 Tryz.sizeOf38 (fun _ => by first | omega | (simp only [len_app, len_cons, len_nil] at *; omega))) rfl (RL.u (.fldA (q := ⟨sb vv, so vv + (0 : Int).toNat * 6 + 1, none⟩) (.t rfl) (fun w => by kernel_rfl)) rfl (RL.u (.loadE1 (f := Nd.cells) (i := 0) (j := 1) (u := (i64 ((at' t.flat 0).many))) hS7 extEq hv Nd.cells_len (.t rfl) Tryz.isAgg3 (fun _ => by first | omega | (simp only [len_app, len_cons, len_nil] at *; omega)) rfl rfl) rfl (RL.u (.lss (.t rfl) (.t rfl)) rfl ?_)))))
  refine RL.m rfl rfl (RL.v (.pos rfl rfl) (.move (.t rfl)) rfl (RL.v (.pos rfl rfl) (.idxT hv (.g rfl (fun h => h)) .c Tryz.underlying24 Tryz.sizeOf38 (fun hW => by simp only [zb] at hW; first | omega | (simp only [len_app, len_cons, len_nil] at *; omega))) rfl (RL.v (.pos rfl rfl) (.fldA (q := ⟨sb vv, so vv + (0 : Int).toNat * 6, none⟩) (.g rfl (fun h => h)) (fun w => by kernel_rfl)) rfl (RL.v (.pos rfl rfl) (.loadE1 (f := Nd.cells) (i := 0) (j := 0) (u := (i64 ((at' t.flat 0).kind))) hS7 extEq hv Nd.cells_len (.g rfl (fun h => h)) Tryz.isAgg3 (fun hW => by simp only [zb] at hW; first | omega | (simp only [len_app, len_cons, len_nil] at *; omega)) rfl rfl) rfl (RL.v (.pos rfl rfl) (.eql (.g rfl (fun h => h)) .c) rfl ?_)))))
  refine RL.u (.and (.t rfl) (.g rfl (fun h => h))) rfl ?_
  refine RL.nil (CW.id ?_)
  refine CW.cond rfl (fun hb1 => ?_) (fun hb1 => ?_)
  ·try simp only [zb] at hb1
   obtain ⟨u, huw, hu, hnx, hrs, hst, hke, hmem, hgt⟩ := hkid (by omega)
   have huz := u.size_pos
   have hul := hu.size_le
   have hi0 := hu.1
   refine CW.skip (CW.id ?_)
   refine CW.seq ?_
   refine CW.block ?_
   refine CW.sr ?_
   refine RL.m rfl rfl (RL.m rfl rfl (RL.m rfl rfl (RL.u (.idxT hv (.t rfl) (.t rfl) Tryz.underlying24 Tryz.sizeOf38 (fun _ => by first | omega | (simp only [len_app, len_cons, len_nil] at *; omega))) rfl (RL.u (.fldA (q := ⟨sb vv, so vv + (i : Int).toNat * 6 + 2, none⟩) (.t rfl) (fun w => by kernel_rfl)) rfl (RL.u (.loadE1 (f := Nd.cells) (i := i) (j := 2) (u := (str ((at' t.flat i).name))) hS7 extEq hv Nd.cells_len (.t rfl) Tryz.isAgg9 (fun _ => by first | omega | (simp only [len_app, len_cons, len_nil] at *; omega)) rfl rfl) rfl ?_)))))
   refine RL.buildSlice (n := 1) (sz := 1) (e := 9) (vs := [(0, (str ((at' t.flat i).name)))]) (cs := [(str ((at' t.flat i).name))]) hS7 (.cons (.t rfl) .nil) rfl rfl (fun w => by kernel_rfl) rfl (fun v8 w9 M10 hS11 hle12 => ?_)
   replace hS11 : St w M0 w9 M10 (.own 9 1 v8 (([(at' t.flat i).name] : List Str)).length ((([(at' t.flat i).name] : List Str)).flatMap strC) :: .own 9 1 vo lo.length (lo.flatMap strC) :: .own 9 1 (.slice none 0 0) (([] : List Str)).length ((([] : List Str)).flatMap strC) :: Rs) := hS11
   replace hv := hv.mono hle12
   refine RL.append1 (f := strC) (l := lo) (y := (at' t.flat i).name) hS11 (k := 1) rfl (.t rfl) (.t rfl) (hS11.sl (i := 0) rfl) Tryz.underlying46 Tryz.type9 rfl rfl rfl strC_one (by' := 16) rfl rfl (by first | omega | (simp only [len_app, len_cons, len_nil] at *; omega)) rfl (Hs' := fun v' => (.own 9 1 v8 (([(at' t.flat i).name] : List Str)).length ((([(at' t.flat i).name] : List Str)).flatMap strC) :: .own 9 1 v' (lo ++ [(at' t.flat i).name]).length ((lo ++ [(at' t.flat i).name]).flatMap strC) :: .own 9 1 (.slice none 0 0) (([] : List Str)).length ((([] : List Str)).flatMap strC) :: Rs)) (fun _ => rfl) (fun v13 w14 M15 hS16 hle17 => ?_)
   replace hS16 := hS16.erase 0 rfl
   replace hv := hv.mono hle17
   refine RL.a rfl rfl ?_
   refine RL.nil (CW.id ?_)
   refine CW.region ?_
   refine RL.m rfl rfl (RL.m rfl rfl ?_)
   refine RL.callE hS16 .none Tryz.call34 (.cons (.t rfl) (.cons (.t rfl) .nil)) (fun _ => (next_c M15 t.flat vv i _ hS16.sat hv (by first | omega | assumption) (by omega))) rfl (fun w18 hS19 => ?_)
   refine RL.a rfl rfl ?_
   refine RL.nil (CW.at [Y 0 vv, Y 3 v13, Y 4 (i64 (nextV t.flat i)), Y 5 (i64 k)] rfl ?_)
   refine CW.region ?_
   refine RL.m rfl rfl (RL.u (.add (.t rfl) .c (fun _ => by first | omega | (simp only [len_app, len_cons, len_nil] at *; omega))) rfl (RL.a rfl rfl ?_))
   refine RL.nil fun a hs => Exists.intro ((k + 1, nextV t.flat i, v13, lo ++ [(at' t.flat i).name], M15)) ⟨hs.keep [0, 3, 4, 5], ?_, ?_⟩
   ·refine ⟨hS19, hv, ?_⟩
    exact ⟨by omega, by omega, by rw [hnx]; exact hrs, by rw [namesTo_step hk0 hgt, hlo, hu.node.2.2], fun h => by rw [← Tr.at0] at h; omega, ((hle0.trans hle12).trans hle17)⟩
   ·show Int.toNat _ < Int.toNat _; omega
  ·try simp only [zb] at hb1
   have hle : lo = kidNs t := by
    rw [hlo]
    rcases Classical.em (t.node.kind = 6) with h6 | h6
    ·exact namesTo_end (by rw [← Tr.at0] at h6; omega) h6
    ·exact namesTo_no (hk6 h6) h6
   refine CW.exit (CW.at [Y 3 vo] rfl ?_)
   refine CW.sr ?_
   refine RL.m rfl rfl (RL.a rfl rfl ?_)
   refine RL.nil (CW.id ?_)
   refine CW.ret (hE.r1 rfl rfl ?_)
   have hslr := (hS7.sl (i := 0) rfl)
   replace hS7 : St w M0 wl Ml (.own 9 1 vo lo.length (lo.flatMap strC) :: Rs) := hS7.erase 1 rfl
   replace hS7 : St w M0 wl Ml Rs := hS7.erase 0 rfl
   rw [hle] at hslr
   exact ⟨_, rfl, Ml, hslr, hS7, hle0⟩

def DepthOK (t : Tr) : Prop := ∀ {w wv : World} {M0 M : Mem} {Rs : List HO} (vv : Value), St w M0 wv M Rs → Sl M 6 t.flat.length vv (t.flat.flatMap Nd.cells) → len t.flat ≤ 1048576 → t.wf → Calls Tryz.prog 20 [vv].toArray wv fun e w' => ∃ u, e = .returned u ∧ ∃ M', u = i64 (depthT t) ∧ St w M0 w' M' Rs ∧ M.le M'
/- loupe/louperef02.Depth -/
set_option maxRecDepth 100000 in
theorem depth2_c {w wv : World} {M0 M : Mem} {Rs : List HO} (t : Tr) (vv : Value) (hS : St w M0 wv M Rs) (hv : Sl M 6 t.flat.length vv (t.flat.flatMap Nd.cells)) (hvb : len t.flat ≤ 1048576) (hw : t.wf) (IH : ∀ u : Tr, u.size < t.size → DepthOK u) :
  Calls Tryz.prog 20 [vv].toArray wv fun e w' => ∃ u, e = .returned u ∧ ∃ M', u = i64 (depthT t) ∧ St w M0 w' M' Rs ∧ M.le M' := by
 refine CW.enter1 Tryz.func20 rfl Tryz.ntmps20 (Nat.le_of_ble_eq_true rfl) fun Q hE => ?_
 have hmny := Tr.many_eq hw
 rw [← Tr.at0 t] at hmny
 have hpl : len t.parts + 1 ≤ len t.flat := by unfold len; rw [Tr.flat_len, Tr.size_eq]; have := len_le_sizeL t.parts; unfold len at this; omega
 have hlp := len_nonneg t.parts
 refine CW.weaken [0] (L' := [Y 0 vv]) ?_ rfl
 refine CW.sr ?_
 refine RL.u (.assign .c) rfl ?_
 refine RL.nil (CW.id ?_)
 refine CW.seq ?_
 refine CW.sr ?_
 refine RL.m rfl rfl (RL.u (.idxT hv (.t rfl) .c Tryz.underlying24 Tryz.sizeOf38 (fun _ => by first | omega | (unfold len at hvb; rw [Tr.flat_len] at hvb; omega))) rfl (RL.u (.fldA (q := ⟨sb vv, so vv + (0 : Int).toNat * 6, none⟩) (.t rfl) (fun w => by kernel_rfl)) rfl (RL.u (.loadE1 (f := Nd.cells) (i := 0) (j := 0) (u := (i64 ((at' t.flat 0).kind))) hS extEq hv Nd.cells_len (.t rfl) Tryz.isAgg3 (fun _ => by first | omega | (unfold len at hvb; rw [Tr.flat_len] at hvb; omega)) rfl rfl) rfl (RL.u (.neq (.t rfl) .c) rfl (RL.m rfl rfl ?_)))))
 refine RL.v (.pos rfl rfl) (.move (.t rfl)) rfl (RL.v (.pos rfl rfl) (.idxT hv (.g rfl (fun h => h)) .c Tryz.underlying24 Tryz.sizeOf38 (fun hW => by simp only [zb] at hW; first | omega | (unfold len at hvb; rw [Tr.flat_len] at hvb; omega))) rfl (RL.v (.pos rfl rfl) (.fldA (q := ⟨sb vv, so vv + (0 : Int).toNat * 6, none⟩) (.g rfl (fun h => h)) (fun w => by kernel_rfl)) rfl (RL.v (.pos rfl rfl) (.loadE1 (f := Nd.cells) (i := 0) (j := 0) (u := (i64 ((at' t.flat 0).kind))) hS extEq hv Nd.cells_len (.g rfl (fun h => h)) Tryz.isAgg3 (fun hW => by simp only [zb] at hW; first | omega | (unfold len at hvb; rw [Tr.flat_len] at hvb; omega)) rfl rfl) rfl (RL.v (.pos rfl rfl) (.neq (.g rfl (fun h => h)) .c) rfl (RL.u (.and (.t rfl) (.g rfl (fun h => h))) rfl ?_)))))
 refine RL.nil (CW.id ?_)
 refine CW.cond rfl (fun hb1 => ?_) (fun hb1 => ?_)
 ·try simp only [zb] at hb1
  refine CW.sr ?_
  refine RL.u (.assign .c) rfl ?_
  refine RL.nil (CW.id ?_)
  refine CW.ret (hE.r1 rfl rfl ?_)
  rw [Tr.at0] at hb1
  exact ⟨_, rfl, M, by rw [depthT_no hb1], hS, (Mem.le.refl _)⟩
 ·try simp only [zb] at hb1
  refine CW.skip (CW.id ?_)
  refine CW.sr ?_
  refine RL.m rfl rfl ?_
  refine RL.callP Tryz.call37 (.cons (.t rfl) .nil) (parts2_c (Rs := Rs) t vv hS hv (by first | omega | assumption) hw) rfl ?_
  rintro v2 w3 ⟨rs1, M4, hsl_v2, hrow_v2, hS5, hle6⟩
  replace hS5 : St w M0 w3 M4 Rs := hS5
  replace hv := hv.mono hle6
  replace hsl_v2 : Sl M4 1 rs1.length v2 (rs1.flatMap valI) := hsl_v2
  replace hrow_v2 : RowsV M4 6 Nd.cells rs1 (kidsV t) := hrow_v2
  refine RL.a rfl rfl ?_
  refine RL.nil (CW.at [Y 3 v2] rfl ?_)
  refine CW.sr ?_
  refine RL.u (.assign .c) rfl ?_
  refine RL.nil (CW.id ?_)
  refine CW.seq ?_
  refine CW.sr ?_
  refine RL.u (.assign .c) rfl ?_
  refine RL.nil (CW.id ?_)
  refine CW.block ?_
  refine CW.loop (σ := Int × Int × Mem) (fun (k, q, Ml) => [Y 3 v2, Y 4 (i64 q), Y 5 (i64 k)]) (fun (k, q, Ml) wl => St w M0 wl Ml Rs ∧ Sl Ml 6 t.flat.length vv (t.flat.flatMap Nd.cells) ∧ Sl Ml 1 rs1.length v2 (rs1.flatMap valI) ∧ RowsV Ml 6 Nd.cells rs1 (kidsV t) ∧ 0 ≤ k ∧ k ≤ len t.parts ∧ q = depTo t k ∧ M.le Ml) (fun (k, q, Ml) => (len t.parts - k).toNat) ((0, 0, M4)) [3, 4, 5] rfl ?_ ?_
  ·refine ⟨hS5, hv, hsl_v2, hrow_v2, ?_⟩; exact ⟨by omega, by omega, rfl, hle6⟩
  ·rintro ⟨k, q, Ml⟩ wl ⟨hS7, hv, hsl_v2, hrow_v2, hk0, hku, hq, hle0⟩
   have hrn : len rs1 = len t.parts := by unfold len; rw [hrow_v2.len]; exact kidsV_len t
   have hrk := fun h : k < len rs1 => hrow_v2.at hk0 h
   have hd0 := depTo_nonneg t k
   have hd1 := depTo_le t k
   refine CW.seq ?_
   refine CW.sr ?_
   refine RL.m rfl rfl (RL.m rfl rfl (RL.u (.lenT hsl_v2 (.t rfl) ⟨_, Tryz.underlying47⟩) rfl (RL.u (.lss (.t rfl) (.t rfl)) rfl ?_)))
   refine RL.nil (CW.id ?_)
   refine CW.cond rfl (fun hb2 => ?_) (fun hb2 => ?_)
   ·try simp only [zb] at hb2
    replace hrk := hrk (by omega)
    obtain ⟨u, hat, hgt, huw, hus⟩ := kidsV_at hk0 (by omega) hw
    have hrl : len (at' (kidsV t) k) ≤ 1048576 := by rw [hat]; unfold len; rw [Tr.flat_len, Tr.named_size]; unfold len at hvb; rw [Tr.flat_len] at hvb; omega
    have hdt := depthT_le _ (u.named []) rfl
    rw [Tr.named_size] at hdt
    refine CW.skip (CW.id ?_)
    refine CW.seq ?_
    refine CW.block ?_
    refine CW.region ?_
    refine RL.m rfl rfl (RL.m rfl rfl (RL.m rfl rfl (RL.u (.idxT hsl_v2 (.t rfl) (.t rfl) Tryz.underlying47 Tryz.sizeOf24 (fun _ => by first | omega | (unfold len at hvb; rw [Tr.flat_len] at hvb; omega))) rfl (RL.u (.loadE1 (f := valI) (i := k) (j := 0) (u := ((at' rs1 k).v)) hS7 extEq hsl_v2 valI_len (.t rfl) Tryz.isAgg24 (fun _ => by first | omega | (unfold len at hvb; rw [Tr.flat_len] at hvb; omega)) rfl rfl) rfl ?_))))
    refine RL.callP Tryz.call20 (.cons (.t rfl) .nil) (IH (u.named []) (by rw [Tr.named_size]; exact hus) (Rs := Rs) ((at' rs1 k).v) hS7 (by rw [← hat]; exact hrk) (by rw [hat] at hrl; exact hrl) (Tr.named_wf huw)) rfl ?_
    rintro v8 w9 ⟨M10, rfl, hS11, hle12⟩
    replace hS11 : St w M0 w9 M10 Rs := hS11
    replace hv := hv.mono hle12
    replace hsl_v2 := hsl_v2.mono hle12
    replace hrow_v2 := hrow_v2.mono hle12
    refine RL.u (.max2 (.t rfl) (.t rfl)) rfl (RL.a rfl rfl ?_)
    refine RL.nil (CW.at [Y 3 v2, Y 4 (i64 (if (depthT (u.named [])) > q then (depthT (u.named [])) else q)), Y 5 (i64 k)] rfl ?_)
    refine CW.region ?_
    refine RL.m rfl rfl (RL.u (.add (.t rfl) .c (fun _ => by first | omega | (unfold len at hvb; rw [Tr.flat_len] at hvb; omega))) rfl (RL.a rfl rfl ?_))
    refine RL.nil fun a hs => Exists.intro ((k + 1, if (depthT (u.named [])) > q then (depthT (u.named [])) else q, M10)) ⟨hs.keep [3, 4, 5], ?_, ?_⟩
    ·refine ⟨hS11, hv, hsl_v2, hrow_v2, ?_⟩
     exact ⟨by omega, by omega, by rw [depTo_step hk0 hgt, ← hq]; omega, (hle0.trans hle12)⟩
    ·show Int.toNat _ < Int.toNat _; omega
   ·try simp only [zb] at hb2
    have hqe := depTo_end (t := t) (k := k) (by omega)
    refine CW.exit (CW.at [Y 4 (i64 q)] rfl ?_)
    refine CW.sr ?_
    refine RL.m rfl rfl (RL.u (.add (.t rfl) .c (fun _ => by first | omega | (unfold len at hvb; rw [Tr.flat_len] at hvb; omega))) rfl (RL.a rfl rfl ?_))
    refine RL.nil (CW.id ?_)
    refine CW.ret (hE.r1 rfl rfl ?_)
    rw [Tr.at0] at hb1
    exact ⟨_, rfl, Ml, by rw [depthT_yes (by omega), ← hqe, hq], hS7, hle0⟩

theorem depth_all : ∀ (n : Nat) (t : Tr), t.size = n → DepthOK t := by
  intro n
  induction n using Nat.strongRecOn with
  | _ n ih => intro t hn w wv M0 M Rs vv hS hv hb hw; exact depth2_c t vv hS hv hb hw fun u hu => ih u.size (by omega) u rfl
end Go.Proofs.YtjfaikgooldcbaaGreatDoor
namespace Go.Eng
open Go.RowKit

theorem byteAt_l {u v : Str} {j : Int} (h0 : 0 ≤ j) (h : j < len u) : byteAt (u ++ v) j = byteAt u j := by
  unfold len at h
  unfold byteAt
  rw [List.getD_eq_getElem?_getD, List.getD_eq_getElem?_getD, List.getElem?_append_left (by omega)]
theorem byteAt_r {u v : Str} {k : Int} (h0 : 0 ≤ k) : byteAt (u ++ v) (len u + k) = byteAt v k := by
  unfold byteAt len
  rw [List.getD_eq_getElem?_getD, List.getD_eq_getElem?_getD, List.getElem?_append_right (by omega), show ((u.length : Int) + k).toNat - u.length = k.toNat from by omega]
theorem u8_nat {x : Int} (h0 : 0 ≤ x) (h1 : x < 256) : ((UInt8.ofNat x.toNat).toNat : Int) = x := by
  rw [show (UInt8.ofNat x.toNat).toNat = x.toNat % 256 from rfl, Nat.mod_eq_of_lt (by omega)]; omega
theorem rune_agr {s s' : Str} {i i' : Int} (h0 : 0 ≤ i) (h0' : 0 ≤ i') (h1 : 1 ≤ rune s i) (hl : i < len s) (hl' : i' + rune s i ≤ len s') (h : ∀ j, 0 ≤ j → j < rune s i → byteAt s' (i' + j) = byteAt s (i + j)) :
    rune s' i' = rune s i ∧ runeAt s' i' = runeAt s i ∧ runeLen s' i' = runeLen s i := by
  have hb := rune_bd s i
  have hle := rune_le s i hl
  have a0 : byteAt s' i' = byteAt s i := by have := h 0 (by omega) (by omega); rwa [Int.add_zero, Int.add_zero] at this
  have a1 : 2 ≤ rune s i → byteAt s' (i' + 1) = byteAt s (i + 1) := fun x => h 1 (by omega) (by omega)
  have a2 : 3 ≤ rune s i → byteAt s' (i' + 2) = byteAt s (i + 2) := fun x => h 2 (by omega) (by omega)
  have a3 : 4 ≤ rune s i → byteAt s' (i' + 3) = byteAt s (i + 3) := fun x => h 3 (by omega) (by omega)
  have er : rune s' i' = rune s i := by
    clear h
    generalize hk : rune s i = k at *
    unfold rune cont at hk ⊢
    dsimp only at hk ⊢
    rw [a0]
    simp only [Bool.and_eq_true, Bool.or_eq_true, decide_eq_true_eq, beq_iff_eq] at hk ⊢
    split at hk
    · rw [if_pos (by assumption)]; exact hk
    rename_i c0
    rw [if_neg c0]
    split at hk
    · rename_i c1
      subst hk
      have := a1 (by omega)
      rw [if_pos (by omega)]
    rename_i c1
    split at hk
    · rename_i c2
      have hk3 : k = 3 := by split at hk <;> omega
      have e1 := a1 (by omega)
      have e2 := a2 (by omega)
      rw [if_neg (by omega), if_pos (by omega), e1]
      exact hk
    rename_i c2
    split at hk
    · rename_i c3
      have hk4 : k = 4 := by split at hk <;> omega
      have e1 := a1 (by omega)
      have e2 := a2 (by omega)
      have e3 := a3 (by omega)
      rw [if_neg (by omega), if_neg (by omega), if_pos (by omega), e1]
      exact hk
    · omega
  refine ⟨er, ?_⟩
  have hl2 : i' < len s' := by omega
  have D := runeN_dec (s.length - i.toNat) (s.getD i.toNat 0).toNat (s.getD (i.toNat + 1) 0).toNat (s.getD (i.toNat + 2) 0).toNat (s.getD (i.toNat + 3) 0).toNat (by unfold len at *; omega) (UInt8.toNat_lt _) (UInt8.toNat_lt _) (UInt8.toNat_lt _) (UInt8.toNat_lt _)
  have D' := runeN_dec (s'.length - i'.toNat) (s'.getD i'.toNat 0).toNat (s'.getD (i'.toNat + 1) 0).toNat (s'.getD (i'.toNat + 2) 0).toNat (s'.getD (i'.toNat + 3) 0).toNat (by unfold len at *; omega) (UInt8.toNat_lt _) (UInt8.toNat_lt _) (UInt8.toNat_lt _) (UInt8.toNat_lt _)
  have r1 := rune_N h0 hl
  have r2 := rune_N h0' hl2
  have q : ∀ (t : Str) (x : Int), 0 ≤ x → runeAt t x = ((Lib.decodeN (t.length - x.toNat) (t.getD x.toNat 0).toNat (t.getD (x.toNat + 1) 0).toNat (t.getD (x.toNat + 2) 0).toNat (t.getD (x.toNat + 3) 0).toNat).1 : Nat) ∧ runeLen t x = ((Lib.decodeN (t.length - x.toNat) (t.getD x.toNat 0).toNat (t.getD (x.toNat + 1) 0).toNat (t.getD (x.toNat + 2) 0).toNat (t.getD (x.toNat + 3) 0).toNat).2 : Nat) := fun t x hx => by
    unfold runeAt runeLen; rw [decode_same t x hx, decode_from t x hx]; exact ⟨rfl, rfl⟩
  obtain ⟨q1, q2⟩ := q s i h0
  obtain ⟨q3, q4⟩ := q s' i' h0'
  rw [q1, q2, q3, q4]
  have n0 : ∀ (t : Str) (x : Int), 0 ≤ x → byteAt t x = ((t.getD x.toNat 0).toNat : Int) := fun t x hx => rfl
  have nj := fun (t : Str) (x : Int) (hx : 0 ≤ x) (j : Nat) => byteAt_nat t x hx j
  rw [n0 s i h0, n0 s' i' h0'] at a0
  have b1 : byteAt s (i + 1) = _ := nj s i h0 1
  have b2 : byteAt s (i + 2) = _ := nj s i h0 2
  have b3 : byteAt s (i + 3) = _ := nj s i h0 3
  have b1' : byteAt s' (i' + 1) = _ := nj s' i' h0' 1
  have b2' : byteAt s' (i' + 2) = _ := nj s' i' h0' 2
  have b3' : byteAt s' (i' + 3) = _ := nj s' i' h0' 3
  rw [b1, b1'] at a1
  rw [b2, b2'] at a2
  rw [b3, b3'] at a3
  unfold DecAs at D D'
  generalize (s.getD i.toNat 0).toNat = x0 at *
  generalize (s.getD (i.toNat + 1) 0).toNat = x1 at *
  generalize (s.getD (i.toNat + 2) 0).toNat = x2 at *
  generalize (s.getD (i.toNat + 3) 0).toNat = x3 at *
  generalize (s'.getD i'.toNat 0).toNat = y0 at *
  generalize (s'.getD (i'.toNat + 1) 0).toNat = y1 at *
  generalize (s'.getD (i'.toNat + 2) 0).toNat = y2 at *
  generalize (s'.getD (i'.toNat + 3) 0).toNat = y3 at *
  generalize runeN (s.length - i.toNat) x0 x1 x2 x3 = k at *
  generalize runeN (s'.length - i'.toNat) y0 y1 y2 y3 = k' at *
  generalize Lib.decodeN (s.length - i.toNat) x0 x1 x2 x3 = d at *
  generalize Lib.decodeN (s'.length - i'.toNat) y0 y1 y2 y3 = d' at *
  obtain ⟨d1, d2⟩ := d
  obtain ⟨e1, e2⟩ := d'
  clear q1 q2 q3 q4 q n0 nj b1 b2 b3 b1' b2' b3' h
  dsimp only at *
  rcases D with D | D | D | D | D <;> rcases D' with D' | D' | D' | D' | D' <;> first | (exfalso; omega) | (constructor <;> omega)

theorem utf_shift {a b : Str} : ∀ (j : Int), 0 ≤ j → utfFrom b j = true → utfFrom (a ++ b) (len a + j) = true
  | j, h0, h => by
    have hl := len_app a b
    have ha := len_nonneg a
    by_cases hj : j < len b
    · by_cases hr : rune b j = 0
      · rw [utfFrom_bad b j h0 hj hr] at h; cases h
      have hb := rune_bd b j
      have hle := rune_le b j hj
      rw [← utfFrom_step b j h0 hj (by omega)] at h
      have agr := rune_agr (s := b) (s' := a ++ b) (i := j) (i' := len a + j) h0 (by omega) (by omega) hj (by omega) (fun k x y => by
        rw [show len a + j + k = len a + (j + k) from by omega, byteAt_r (by omega)])
      rw [← utfFrom_step (a ++ b) (len a + j) (by omega) (by omega) (by rw [agr.1]; omega), agr.1, Int.add_assoc]
      exact utf_shift (j + rune b j) (by omega) h
    · exact utfFrom_end _ _ (by omega)
termination_by j => (len b - j).toNat
theorem utf_app {a b : Str} (hb : utf b = true) : ∀ (i : Int), 0 ≤ i → i ≤ len a → utfFrom a i = true → utfFrom (a ++ b) i = true
  | i, h0, h1, h => by
    have hl := len_app a b
    have hbn := len_nonneg b
    by_cases hi : i < len a
    · by_cases hr : rune a i = 0
      · rw [utfFrom_bad a i h0 hi hr] at h; cases h
      have hbd := rune_bd a i
      have hle := rune_le a i hi
      rw [← utfFrom_step a i h0 hi (by omega)] at h
      have agr := rune_agr (s := a) (s' := a ++ b) (i := i) (i' := i) h0 h0 (by omega) hi (by omega) (fun k x y => byteAt_l (by omega) (by omega))
      rw [← utfFrom_step (a ++ b) i h0 (by omega) (by rw [agr.1]; omega), agr.1]
      exact utf_app hb (i + rune a i) (by omega) hle h
    · have e : i = len a := by omega
      subst e
      have := utf_shift (a := a) (b := b) 0 (Int.le_refl 0) hb
      rwa [Int.add_zero] at this
termination_by i => (len a - i).toNat
theorem utf_one {s : Str} (hn : 0 < len s) (h : rune s 0 = len s) : utf s = true := by
  unfold utf
  rw [← utfFrom_step s 0 (Int.le_refl 0) hn (by omega)]
  exact utfFrom_end s (0 + rune s 0) (by omega)
theorem utf_enc (r : Int) : utf (toStr (Lib.encodeRuneZ r)) = true := by
  have b0 : ∀ (x : UInt8) (l : Str), byteAt (x :: l) 0 = (x.toNat : Int) := fun _ _ => rfl
  have b1 : ∀ (x y : UInt8) (l : Str), byteAt (x :: y :: l) (0 + 1) = (y.toNat : Int) := fun _ _ _ => rfl
  have b2 : ∀ (x y z : UInt8) (l : Str), byteAt (x :: y :: z :: l) (0 + 2) = (z.toNat : Int) := fun _ _ _ _ => rfl
  have b3 : ∀ (x y z u : UInt8) (l : Str), byteAt (x :: y :: z :: u :: l) (0 + 3) = (u.toNat : Int) := fun _ _ _ _ _ => rfl
  have l1 : ∀ (x : UInt8), len [x] = 1 := fun _ => rfl
  have l2 : ∀ (x y : UInt8), len [x, y] = 2 := fun _ _ => rfl
  have l3 : ∀ (x y z : UInt8), len [x, y, z] = 3 := fun _ _ _ => rfl
  have l4 : ∀ (x y z u : UInt8), len [x, y, z, u] = 4 := fun _ _ _ _ => rfl
  unfold Lib.encodeRuneZ
  split
  · refine utf_one (show (0 : Int) < 1 by decide) ?_
    show rune [UInt8.ofNat r.toNat] 0 = 1
    unfold rune
    rw [b0, u8_nat (by omega) (by omega)]
    dsimp only
    rw [if_pos (by omega)]
  split
  · refine utf_one (show (0 : Int) < 2 by decide) ?_
    show rune [UInt8.ofNat (192 + r / 64).toNat, UInt8.ofNat (128 + r % 64).toNat] 0 = 2
    unfold rune cont
    rw [b0, b1, l2, u8_nat (by omega) (by omega), u8_nat (by omega) (by omega)]
    dsimp only
    simp only [Bool.and_eq_true, decide_eq_true_eq]
    rw [if_neg (by omega), if_pos (by omega)]
  split
  · refine utf_one (show (0 : Int) < 3 by decide) ?_
    show rune [UInt8.ofNat (224 + r / 4096).toNat, UInt8.ofNat (128 + r / 64 % 64).toNat, UInt8.ofNat (128 + r % 64).toNat] 0 = 3
    unfold rune cont
    rw [b0, b1, b2, l3, u8_nat (by omega) (by omega), u8_nat (by omega) (by omega), u8_nat (by omega) (by omega)]
    dsimp only
    simp only [Bool.and_eq_true, Bool.or_eq_true, decide_eq_true_eq, beq_iff_eq]
    rw [if_neg (by omega), if_neg (by omega), if_pos (by omega), if_neg (by omega)]
  split
  · refine utf_one (show (0 : Int) < 4 by decide) ?_
    show rune [UInt8.ofNat (240 + r / 262144).toNat, UInt8.ofNat (128 + r / 4096 % 64).toNat, UInt8.ofNat (128 + r / 64 % 64).toNat, UInt8.ofNat (128 + r % 64).toNat] 0 = 4
    unfold rune cont
    rw [b0, b1, b2, b3, l4, u8_nat (by omega) (by omega), u8_nat (by omega) (by omega), u8_nat (by omega) (by omega), u8_nat (by omega) (by omega)]
    dsimp only
    simp only [Bool.and_eq_true, Bool.or_eq_true, decide_eq_true_eq, beq_iff_eq]
    rw [if_neg (by omega), if_neg (by omega), if_neg (by omega), if_pos (by omega), if_neg (by omega)]
  · decide +kernel
theorem utf_add {acc : List Int} (h : utf (toStr acc) = true) (r : Int) : utf (toStr (acc ++ Lib.encodeRuneZ r)) = true := by
  rw [toStr_app]
  exact utf_app (utf_enc r) 0 (Int.le_refl 0) (len_nonneg _) h
theorem utf_nil : utf [] = true := by decide +kernel
theorem unqGo_utf {s : Str} : ∀ (f : Nat) (i : Int) (acc : List Int), utf (toStr acc) = true → utf (unqGo f s i acc).1 = true
  | 0, _, _, _ => by unfold unqGo; exact utf_nil
  | f + 1, i, acc, h => by
    unfold unqGo
    split
    · split
      · exact h
      · split
        · split
          · exact utf_nil
          · exact unqGo_utf f _ _ (utf_add h _)
        · split
          · exact utf_nil
          · exact unqGo_utf f _ _ (utf_add h _)
    · exact utf_nil
theorem unq_utf (s : Str) : utf (unqP s).1 = true := by
  unfold unqP
  split
  · exact unqGo_utf _ _ _ utf_nil
  · exact utf_nil
theorem enc_len (r : Int) : len (Lib.encodeRuneZ r) ≤ 4 := by
  unfold Lib.encodeRuneZ
  repeat' split
  all_goals (unfold len; simp)
theorem unqGo_len {s : Str} : ∀ (f : Nat) (i : Int) (acc : List Int), 0 ≤ i → i ≤ len s → len (unqGo f s i acc).1 ≤ len acc + 4 * (len s - i)
  | 0, i, acc, h0, h1 => by unfold unqGo; have := len_nonneg acc; rw [len_nil]; omega
  | f + 1, i, acc, h0, h1 => by
    have ha := len_nonneg acc
    have hn : len ([] : Str) = 0 := rfl
    have he := enc_len
    unfold unqGo
    split
    · rename_i hlt
      have hf := from_len s i h0 h1
      split
      · have : len (toStr acc) = len acc := by unfold toStr len; simp
        dsimp only; omega
      · split
        · have hb := escP_le (from' s i)
          split
          · dsimp only; omega
          · have := unqGo_len (s := s) f (i + (escP (from' s i)).2) (acc ++ Lib.encodeRuneZ (escP (from' s i)).1) (by omega) (by omega)
            have := he (escP (from' s i)).1
            rw [len_app] at *
            omega
        · split
          · dsimp only; omega
          · have hb := runeLen_bd h0 hlt
            rw [runeLen_from s i h0]
            have := unqGo_len (s := s) f (i + runeLen s i) (acc ++ Lib.encodeRuneZ (runeAt (from' s i) 0)) (by omega) (by omega)
            have := he (runeAt (from' s i) 0)
            rw [len_app] at *
            omega
    · dsimp only; omega
theorem unq_len (s : Str) : len (unqP s).1 ≤ 4 * len s := by
  have := len_nonneg s
  unfold unqP
  split
  · rename_i h
    have h1 : (1 : Int) ≤ len s := hasPrefix_len h
    have := unqGo_len (s := s) s.length 1 [] (by omega) h1
    rw [len_nil] at this; omega
  · show len ([] : Str) ≤ _
    rw [len_nil]; omega
end Go.Eng
namespace Go.Eng
open Go.RowKit

def figP (x : Nat) : Bool := isFig (x : Int)
theorem figP_iff (x : Nat) : figP x = true ↔ 48 ≤ x ∧ x ≤ 57 := by unfold figP isFig; simp; omega
theorem figP_not (x : Nat) : figP x = false ↔ ¬ (48 ≤ x ∧ x ≤ 57) := by rw [← figP_iff]; simp
theorem dec_fig {s : Str} {i : Nat} (h : i < s.length) (hf : figP (s[i]).toNat = true) : Utf8.decode ⟨⟨s⟩⟩ i = ((s[i]).toNat, 1) := by
  have := decode_ascii ⟨⟨s⟩⟩ i h (by have := (figP_iff _).1 hf; show (s[i]).toNat < 128; omega)
  exact this
theorem dec_not {s : Str} {i : Nat} (h : i < s.length) (hf : figP (s[i]).toNat = false) : figP (Utf8.decode ⟨⟨s⟩⟩ i).1 = false := by
  rcases Nat.lt_or_ge (s[i]).toNat 128 with hl | hl
  · have := decode_ascii ⟨⟨s⟩⟩ i h hl
    rw [this]; exact hf
  · have := decode_high ⟨⟨s⟩⟩ i h hl
    rw [figP_not]; omega
theorem idx_find (s : Str) : ∀ (f pos : Nat), s.length ≤ pos + f → (∀ (j : Nat) (h : j < s.length), pos ≤ j → figP (s[j]).toNat = true) → Lib.idxFuncFrom figP false ⟨⟨s⟩⟩ f pos = -1
  | 0, _, _, _ => rfl
  | f + 1, pos, hl, ha => by
    unfold Lib.idxFuncFrom
    by_cases h : pos < s.length
    · rw [if_pos (show pos < (ByteArray.mk ⟨s⟩).size from h), dec_fig h (ha pos h (Nat.le_refl _)), if_neg (by rw [ha pos h (Nat.le_refl _)]; simp)]
      exact idx_find s f (pos + 1) (by omega) (fun j hj hp => ha j hj (by omega))
    · rw [if_neg (show ¬ pos < (ByteArray.mk ⟨s⟩).size from h)]
theorem idx_found (s : Str) : ∀ (f pos : Nat), s.length ≤ pos + f → (∃ (j : Nat) (h : j < s.length), pos ≤ j ∧ figP (s[j]).toNat = false) → ∃ (i : Nat) (h : i < s.length), Lib.idxFuncFrom figP false ⟨⟨s⟩⟩ f pos = (i : Int) ∧ figP (s[i]).toNat = false
  | 0, pos, hl, ⟨j, hj, hp, _⟩ => by omega
  | f + 1, pos, hl, ⟨j, hj, hp, hn⟩ => by
    unfold Lib.idxFuncFrom
    have h : pos < s.length := by omega
    rw [if_pos (show pos < (ByteArray.mk ⟨s⟩).size from h)]
    cases hf : figP (s[pos]).toNat with
    | true =>
      rw [dec_fig h hf, if_neg (by rw [hf]; simp)]
      have hne : pos ≠ j := by intro e; subst e; rw [hf] at hn; cases hn
      exact idx_found s f (pos + 1) (by omega) ⟨j, hj, by omega, hn⟩
    | false =>
      rw [if_pos (dec_not h hf)]
      exact ⟨pos, h, rfl, hf⟩
theorem last_found (t : Str) (h0 : ∃ h : 0 < t.length, figP (t[0]).toNat = false) : ∀ (f i : Nat), 0 < i → i ≤ t.length → i ≤ f → 0 ≤ Lib.lastIdxFuncFrom figP false ⟨⟨t⟩⟩ f i
  | 0, i, hi, _, hf => by omega
  | f + 1, i, hi, hl, hf => by
    obtain ⟨hz, hn⟩ := h0
    unfold Lib.lastIdxFuncFrom
    rw [if_pos hi]
    show 0 ≤ if figP (Lib.decodeLastL (t.take i)).1 = false then _ else _
    split
    · omega
    · rename_i hp
      have hp' : figP (Lib.decodeLastL (t.take i)).1 = true := by simpa using hp
      have hb := (figP_iff _).1 hp'
      have hlen : (t.take i).length = i := by rw [List.length_take]; omega
      have hw : Lib.decodeLastL (t.take i) = ((t[i - 1]'(by omega)).toNat, 1) := by
        have hne : ¬ t.take i = [] := by intro e; rw [e] at hlen; simp at hlen; omega
        have hg : (t.take i).getD ((t.take i).length - 1) 0 = t[i - 1]'(by omega) := by
          rw [hlen, List.getD_eq_getElem?_getD, List.getElem?_take, if_pos (by omega)]
          simp [show i - 1 < t.length from by omega]
        unfold Lib.decodeLastL at hb ⊢
        rw [if_neg hne, hg] at hb ⊢
        by_cases hc : (t[i - 1]'(by omega)).toNat < 128
        · rw [if_pos hc]
        · exfalso
          rw [if_neg hc] at hb
          dsimp only at hb
          split at hb
          · rename_i hls
            have hsl : Lib.lastStart (t.take i) < (t.take i).length := by
              rcases Nat.lt_or_ge (Lib.lastStart (t.take i)) (t.take i).length with h | h
              · exact h
              · exfalso
                have e0 : (t.take i).drop (Lib.lastStart (t.take i)) = [] := by rw [List.drop_eq_nil_iff]; exact h
                rw [e0] at hb
                have : (Lib.decodeL []).1 = 0 := by decide
                omega
            -- the rune that begins there is one byte below 128: then it is the last one
            have hd : Utf8.decode ⟨⟨(t.take i).drop (Lib.lastStart (t.take i))⟩⟩ 0 = Lib.decodeL ((t.take i).drop (Lib.lastStart (t.take i))) := rfl
            have hdl : 0 < ((t.take i).drop (Lib.lastStart (t.take i))).length := by rw [List.length_drop]; omega
            have hlow : (((t.take i).drop (Lib.lastStart (t.take i)))[0]).toNat < 128 := by
              rcases Nat.lt_or_ge (((t.take i).drop (Lib.lastStart (t.take i)))[0]).toNat 128 with h | h
              · exact h
              · have := decode_high ⟨⟨(t.take i).drop (Lib.lastStart (t.take i))⟩⟩ 0 hdl h
                rw [hd] at this; omega
            have hda := decode_ascii ⟨⟨(t.take i).drop (Lib.lastStart (t.take i))⟩⟩ 0 hdl hlow
            rw [hd] at hda
            rw [hda] at hls
            have e1 : Lib.lastStart (t.take i) = i - 1 := by rw [hlen] at hls; simp only at hls; omega
            apply hc
            have e2 : ((t.take i).drop (Lib.lastStart (t.take i)))[0] = t[i - 1]'(by omega) := by
              rw [List.getElem_drop, List.getElem_take]; first | done | congr 1 | (congr 1; omega)
            rw [← e2]; exact hlow
          · have : Utf8.runeError = 65533 := rfl
            simp only [this] at hb; omega
      rw [hw]
      by_cases hi1 : i = 1
      · exfalso
        subst hi1
        rw [hw] at hp'
        have : figP (t[0]).toNat = true := hp'
        rw [hn] at this; cases this
      · exact last_found t ⟨hz, hn⟩ f (i - 1) (by omega) (by omega) (by omega)
theorem figs_all {s : Str} : figs s = true ↔ ∀ (j : Nat) (h : j < s.length), figP (s[j]).toNat = true := by
  have key : ∀ (k : Nat) (i : Int), 0 ≤ i → (len s - i).toNat ≤ k → (figsFrom s i = true ↔ ∀ (j : Nat) (h : j < s.length), i ≤ (j : Int) → figP (s[j]).toNat = true) := by
    intro k
    induction k with
    | zero =>
      intro i h0 hk
      rw [figsFrom_end s i (by omega)]
      exact ⟨fun _ j h hj => by unfold len at hk; omega, fun _ => rfl⟩
    | succ k ih =>
      intro i h0 hk
      by_cases hlt : i < len s
      · obtain ⟨hh, he⟩ := byteAt_of_lt h0 hlt
        by_cases hf : isFig (byteAt s i) = true
        · rw [← figsFrom_step s i h0 hlt hf, ih (i + 1) (by omega) (by omega)]
          constructor
          · intro h j hj hij
            by_cases e : (j : Int) = i
            · have e' : j = i.toNat := by omega
              subst e'
              unfold figP; rw [← he]; exact hf
            · exact h j hj (by omega)
          · intro h j hj hij; exact h j hj (by omega)
        · rw [figsFrom_bad s i h0 hlt hf]
          constructor
          · intro h; cases h
          · intro h
            have := h i.toNat hh (by omega)
            unfold figP at this
            rw [← he] at this
            exact absurd this hf
      · rw [figsFrom_end s i hlt]
        exact ⟨fun _ j h hj => by unfold len at hlt; omega, fun _ => rfl⟩
  have := key (len s - 0).toNat 0 (Int.le_refl 0) (Nat.le_refl _)
  unfold figs
  rw [this]
  exact ⟨fun h j hj => h j hj (by omega), fun h j hj _ => h j hj⟩
theorem ext_mk (l : Str) (i j : Nat) : (ByteArray.mk ⟨l⟩).extract i j = ByteArray.mk ⟨(l.drop i).take (j - i)⟩ := by
  have := ByteArray.extract_mk l i j
  rw [this]
theorem trimF_figs (s : Str) : ((Lib.trimF figP ⟨⟨s⟩⟩).data.toList == []) = figs s := by
  rw [Bool.eq_iff_iff, beq_iff_eq]
  have hsz : (ByteArray.mk ⟨s⟩).size = s.length := rfl
  by_cases ha : ∀ (j : Nat) (h : j < s.length), figP (s[j]).toNat = true
  · refine ⟨fun _ => figs_all.2 ha, fun _ => ?_⟩
    have hi : Lib.idxFunc figP false ⟨⟨s⟩⟩ = -1 := idx_find s s.length 0 (by omega) (fun j h _ => ha j h)
    unfold Lib.trimF Lib.trimLeftF
    rw [if_pos hi]
    unfold Lib.trimRightF
    rw [ext_mk []]; simp
  · have hex : ∃ (j : Nat) (h : j < s.length), 0 ≤ j ∧ figP (s[j]).toNat = false := by
      apply Classical.byContradiction
      intro hc
      apply ha
      intro j h
      cases hf : figP (s[j]).toNat with
      | true => rfl
      | false => exact absurd ⟨j, h, Nat.zero_le _, hf⟩ hc
    obtain ⟨i, hi, he, hn⟩ := idx_found s s.length 0 (by omega) hex
    refine ⟨fun h => ?_, fun h => absurd (figs_all.1 h) ha⟩
    exfalso
    have hi' : Lib.idxFunc figP false ⟨⟨s⟩⟩ = (i : Int) := he
    have ht : Lib.trimLeftF figP ⟨⟨s⟩⟩ = ⟨⟨s.drop i⟩⟩ := by
      unfold Lib.trimLeftF
      rw [hi', if_neg (by omega), hsz, Int.toNat_natCast, ext_mk, List.take_of_length_le (by rw [List.length_drop]; omega)]
    unfold Lib.trimF at h
    rw [ht] at h
    have hpos : 0 < (s.drop i).length := by rw [List.length_drop]; omega
    have h0 : ∃ h : 0 < (s.drop i).length, figP ((s.drop i)[0]).toNat = false := ⟨hpos, by rw [List.getElem_drop]; exact hn⟩
    have hlast : 0 ≤ Lib.lastIdxFunc figP false ⟨⟨s.drop i⟩⟩ := last_found (s.drop i) h0 (s.drop i).length (s.drop i).length hpos (Nat.le_refl _) (Nat.le_refl _)
    have hend : 1 ≤ Lib.rightEndF figP ⟨⟨s.drop i⟩⟩ := by
      unfold Lib.rightEndF
      rw [if_pos hlast]
      by_cases hz : (Lib.lastIdxFunc figP false ⟨⟨s.drop i⟩⟩).toNat = 0
      · rw [hz]
        have e : (ByteArray.mk ⟨s.drop i⟩).extract 0 (ByteArray.mk ⟨s.drop i⟩).size = ⟨⟨s.drop i⟩⟩ := by
          rw [ext_mk]
          have : List.take ((s.drop i).length - 0) (List.drop 0 (s.drop i)) = s.drop i := by rw [List.drop_zero, Nat.sub_zero, List.take_length]
          exact congrArg (fun l => (⟨⟨l⟩⟩ : ByteArray)) this
        rw [e]
        unfold Lib.decodeGoB
        have hs2 : (ByteArray.mk ⟨s.drop i⟩).size = (s.drop i).length := rfl
        rw [if_neg (by rw [hs2]; omega)]
        have := Lib.decode_width_pos ⟨⟨s.drop i⟩⟩ 0 (by rw [hs2]; exact hpos)
        omega
      · omega
    unfold Lib.trimRightF at h
    rw [ext_mk] at h
    have h2 : (List.take (Lib.rightEndF figP ⟨⟨s.drop i⟩⟩ - 0) (List.drop 0 (s.drop i))) = [] := h
    rw [List.drop_zero, Nat.sub_zero, List.take_eq_nil_iff] at h2
    rcases h2 with h2 | h2
    · omega
    · rw [h2] at hpos; simp at hpos
end Go.Eng
namespace Go.Eng
open Go.RowKit

def AllF (l : Str) : Prop := ∀ b ∈ l, isFigB b = true
theorem figs_iff {s : Str} : figs s = true ↔ AllF s := by
  rw [figs_all]
  constructor
  · intro h b hb
    obtain ⟨j, hj, e⟩ := List.getElem_of_mem hb
    have := h j hj
    rw [e] at this; exact this
  · intro h j hj; exact h _ (List.getElem_mem hj)
theorem right_open {n : Nd} (h : right1 n = true) : n = ⟨3, 0, [], n.s, n.neg, n.e⟩ ∧ AllF n.s ∧ len n.s ≤ 100 ∧ -1000 ≤ n.e ∧ n.e ≤ 1000 ∧ len n.s + n.e ≤ 1000 ∧ ((n.s = [] ∧ n.neg = false ∧ n.e = 0) ∨ (n.s ≠ [] ∧ byteAt n.s 0 ≠ 48 ∧ byteAt n.s (len n.s - 1) ≠ 48)) := by
  obtain ⟨kind, many, name, s, neg, e⟩ := n
  unfold right1 at h
  dsimp only at h ⊢
  split at h
  · cases h
  rename_i hc
  simp only [Bool.or_eq_true, decide_eq_true_eq, bne_iff_ne, Bool.not_eq_true', beq_eq_false_iff_ne, not_or, ne_eq, Classical.not_not] at hc
  obtain ⟨⟨⟨⟨⟨⟨⟨c1, c2⟩, c3⟩, c4⟩, c5⟩, c6⟩, c7⟩, c8⟩ := hc
  subst c1; subst c2; subst c3
  refine ⟨rfl, figs_iff.1 (by simpa using c4), by omega, by omega, by omega, by omega, ?_⟩
  split at h
  · rename_i hs
    simp only [Bool.and_eq_true, Bool.not_eq_true', beq_iff_eq] at h hs
    exact .inl ⟨hs, h.1, h.2⟩
  · rename_i hs
    simp only [Bool.and_eq_true, bne_iff_ne, beq_iff_eq] at h hs
    exact .inr ⟨hs, h.1, h.2⟩
end Go.Eng
