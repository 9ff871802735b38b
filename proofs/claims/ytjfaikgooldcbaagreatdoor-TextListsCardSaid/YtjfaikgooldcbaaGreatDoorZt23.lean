/-
  The live question of the text statements, in plain Lean: its texts are read and written as it says. No program in it.
-/
import Derived.Test.YtjfaikgooldcbaaGreatDoorZt4
import Derived.Laws.BitsLemmas
import Derived.Test.YtjfaikgooldcbaaGreatDoorZt3
import Derived.Test.YtjfaikgooldcbaaGreatDoorProg
import Derived.Test.YtjfaikgooldcbaaGreatDoorZt17
import Derived.Test.YtjfaikgooldcbaaGreatDoorZt18
import Derived.Test.YtjfaikgooldcbaaGreatDoorZt22
import Derived.Test.YtjfaikgooldcbaaGreatDoorZt11
import Derived.Test.YtjfaikgooldcbaaGreatDoorZt12
set_option linter.unusedVariables false
set_option linter.unusedSimpArgs false
set_option maxRecDepth 100000
namespace Go.Proofs.YtjfaikgooldcbaaGreatDoor
open Go.Eng

/- (*strings.Builder).WriteString -/
theorem writeStringE_c {w wv : World} {M0 M : Mem} {Rs : List HO} (b : Nat) (a : Value) (l : List Int) (ln : Bool) (s : Str) (v : Value) (hS : St w M0 wv M (.box b [a, v, (.bool ln)] 67 :: .own 5 1 v l.length (l.flatMap u8I) :: Rs)) (ha : a = .pointer none ∨ a = selfP b) (hl : len l ≤ 35184372088832) (hc : len s ≤ 35184372088832) :
  Calls Tryz.prog 54 [(.pointer (some ⟨b, 0, none⟩)), (str s)].toArray wv fun e w' => ∃ u, e = .returned u ∧ ∃ v' M', St w M0 w' M' (.box b [selfP b, v', .bool ln] 67 :: .own 5 1 v' (l ++ ints s).length ((l ++ ints s).flatMap u8I) :: Rs) ∧ M.le M' := by
 refine CW.enter1 Tryz.func54 rfl Tryz.ntmps54 (Nat.le_of_ble_eq_true rfl) fun Q hE => ?_
 have := len_nonneg l
 refine CW.weaken [0, 1] (L' := [Y 0 (.pointer (some ⟨b, 0, none⟩)), Y 1 (str s)]) ?_ rfl
 refine CW.sr (RL.u (.assign .c) rfl (RL.u (.assign .c) rfl (RL.nil (CW.id (CW.sr ?_)))))
 refine RL.m rfl rfl ?_
 replace hS := hS.front 0 rfl rfl
 refine RL.callP Tryz.call81 (.cons (.t rfl) .nil) (copyE_c (Rs := (.own 5 1 v l.length (l.flatMap u8I) :: Rs)) b a v (.bool ln) hS (by first | assumption | exact Or.inr rfl | exact Or.inl rfl)) rfl ?_
 rintro v1 w2 hS4
 refine RL.nil (CW.at [Y 0 (.pointer (some ⟨b, 0, none⟩)), Y 1 (str s)] rfl (CW.sr (RL.m rfl rfl (RL.m rfl rfl (RL.u (.nilP (.t rfl)) rfl (RL.u (.fldA (q := ⟨b, 1, none⟩) (.t rfl) (fun w => by kernel_rfl)) rfl (RL.u (.loadB1 (v := v) hS4 extEq (i := 0) rfl (.t rfl) Tryz.isAgg63 rfl) rfl (RL.m rfl rfl ?_))))))))
 refine RL.appendS (l := l) (s := s) hS4 (k := 1) rfl (.t rfl) (.t rfl) Tryz.underlying63 Tryz.underlying9 Tryz.type5 rfl rfl rfl (by omega) rfl (Hs' := fun v' => (.box b [(selfP b), v, (.bool ln)] 67 :: .own 5 1 v' (l ++ ints s).length ((l ++ ints s).flatMap u8I) :: Rs)) (fun _ => rfl) (fun v6 w7 M8 hS9 hle10 => ?_)
 refine RL.u (.nilP (.t rfl)) rfl (RL.u (.fldA (q := ⟨b, 1, none⟩) (.t rfl) (fun w => by kernel_rfl)) rfl ?_)
 refine RL.storeS (v := v6) hS9 (hS9.sl (i := 1) rfl) (i := 0) rfl (.t rfl) (.t rfl) Tryz.sizeOf63 rfl (cs' := [(selfP b), v6, (.bool ln)]) rfl (Hs' := (.box b [(selfP b), v6, (.bool ln)] 67 :: .own 5 1 v6 (l ++ ints s).length ((l ++ ints s).flatMap u8I) :: Rs)) rfl (fun w11 hS12 => (RL.nil (CW.id ?_)))
 refine CW.sr (RL.m rfl rfl (RL.u (.lenS (.t rfl) Tryz.underlying9) rfl (RL.a rfl rfl (RL.u (.assign .c) rfl (RL.nil (CW.id (CW.ret (hE.r2 rfl rfl rfl ?_))))))))
 exact ⟨_, rfl, _, M8, hS12, hle10⟩

/- (*loupe/text.printer).line -/
theorem line_c {w wv : World} {M0 M : Mem} {Rs : List HO} (b : Nat) (l : List Int) (ln : Bool) (d : Int) (v : Value) (hS : St w M0 wv M (.box b [(selfP b), v, (.bool ln)] 67 :: .own 5 1 v l.length (l.flatMap u8I) :: Rs)) (h0 : 0 ≤ d ∧ d ≤ 1000000) (hl : len l ≤ 17592186044416) :
  Calls Tryz.prog 55 [(.pointer (some ⟨b, 0, none⟩)), (i64 d)].toArray wv fun e w' => ∃ u, e = .returned u ∧ ∃ v' M', St w M0 w' M' (.box b [selfP b, v', .bool ln] 67 :: .own 5 1 v' (l ++ ints (lineP ln d)).length ((l ++ ints (lineP ln d)).flatMap u8I) :: Rs) ∧ M.le M' := by
 refine CW.enter1 Tryz.func55 rfl Tryz.ntmps55 (Nat.le_of_ble_eq_true rfl) fun Q hE => ?_
 have := len_nonneg l
 have htw := twoN_len d.toNat
 refine CW.weaken [0, 1] (L' := [Y 0 (.pointer (some ⟨b, 0, none⟩)), Y 1 (i64 d)]) ?_ rfl
 refine CW.sr (RL.m rfl rfl (RL.u (.nilP (.t rfl)) rfl (RL.u (.fldA (q := ⟨b, 2, none⟩) (.t rfl) (fun w => by kernel_rfl)) rfl (RL.u (.loadB1 (v := (.bool ln)) hS extEq (i := 0) rfl (.t rfl) Tryz.isAgg4 rfl) rfl (RL.nil (CW.id ?_))))))
 refine CW.cond rfl ?_ ?_ <;> intro hb1 <;> try simp only [zb] at hb1
 ·refine CW.sr (RL.m rfl rfl (RL.u (.nilP (.t rfl)) rfl (RL.u (.fldA (q := ⟨b, 0, none⟩) (.t rfl) (fun w => by kernel_rfl)) rfl ?_)))
  replace hS := (hS.front 1 rfl rfl).front 1 rfl rfl
  refine RL.callP Tryz.call54 (.cons (.t rfl) (.cons .c .nil)) (writeStringE_c (Rs := Rs) b ((selfP b)) l ln [10] v hS (by first | exact Or.inr rfl | exact Or.inl rfl | assumption) (by first | omega | (simp only [len_app, len_cons, len_nil, ints_len]; omega) | (simp only [len_app, len_cons, len_nil, ints_len] at *; omega)) (by first | omega | (simp only [len_cons, len_nil]; omega) | decide | assumption)) rfl ?_
  rintro v2 w3 ⟨vb1, M4, hS5, hle6⟩
  refine RL.nil (CW.at [Y 0 (.pointer (some ⟨b, 0, none⟩)), Y 1 (i64 d)] rfl (CW.weaken [0, 1] (L' := [Y 0 (.pointer (some ⟨b, 0, none⟩)), Y 1 (i64 d)]) ?_ rfl))
  replace hS5 := (hS5.front 1 rfl rfl).front 1 rfl rfl
  refine CW.regionG (HsQ := [.box b [(selfP b), vb1, (.bool ln)] 67, .own 5 1 vb1 (l ++ ints [10]).length ((l ++ ints [10]).flatMap u8I)]) 5 [.is true (.pointer (some ⟨b, 0, none⟩)), .is true (.pointer (some ⟨b, 0, none⟩)), .is true (.pointer (some ⟨b, 0, none⟩)), .is true (i64 d), .is true (str (twoN ((d : Int)).toNat)), .any] [] Rs [none, none, none, none, none] hS5 tryz_mixed [0, 1] rfl (by decide +kernel) (by decide +kernel) rfl rfl (by decide +kernel) (by decide +kernel) [] rfl (by decide +kernel) (.cons ?_ (.cons ?_ (.cons ?_ (.cons ?_ (.cons ?_ (.cons ?_ (.nil)))))))
  ·intro LL w7 M8 X hle10 hS9 hK hD
   refine RL.u (.move (.t (hK _ _ rfl))) rfl ?_
   exact RL.nil (RA.next fun a hs => ⟨_, _, Mem.le.refl _, hS9, hs, _, _, rfl, rfl, rfl⟩)
  ·intro LL w11 M12 X hle14 hS13 hK hD
   obtain ⟨g12, v12, hl12, rfl, rfl⟩ := hD 0 (by decide +kernel)
   refine RL.u (.nilP (.t hl12)) rfl ?_
   exact RL.nil (RA.next fun a hs => ⟨_, _, Mem.le.refl _, hS13, hs, _, _, rfl, rfl, rfl⟩)
  ·intro LL w15 M16 X hle18 hS17 hK hD
   obtain ⟨g13, v13, hl13, rfl, rfl⟩ := hD 1 (by decide +kernel)
   refine RL.u (.fldA (q := ⟨b, 0, none⟩) (.t hl13) (fun w => by kernel_rfl)) rfl ?_
   exact RL.nil (RA.next fun a hs => ⟨_, _, Mem.le.refl _, hS17, hs, _, _, rfl, rfl, rfl⟩)
  ·intro LL w19 M20 X hle22 hS21 hK hD
   refine RL.u (.move (.t (hK _ _ rfl))) rfl ?_
   exact RL.nil (RA.next fun a hs => ⟨_, _, Mem.le.refl _, hS21, hs, _, _, rfl, rfl, rfl⟩)
  ·intro LL w23 M24 X hle26 hS25 hK hD
   obtain ⟨g15, v15, hl15, rfl, rfl⟩ := hD 3 (by decide +kernel)
   refine RL.callE hS25 .none Tryz.call82 (.cons .c (.cons (.t hl15) .nil)) (fun _ => (repeat2_c d _ (by omega) (by omega))) rfl (fun w27 hS28 => ?_)
   exact RL.nil (RA.next fun a hs => ⟨_, _, Mem.le.refl _, hS28, hs, _, _, rfl, rfl, rfl⟩)
  ·intro LL w29 M30 X hle32 hS31 hK hD hX
   obtain rfl : Rs = X := Eq.symm hX
   obtain ⟨g14, v14, hl14, rfl, rfl⟩ := hD 2 (by decide)
   obtain ⟨g16, v16, hl16, rfl, rfl⟩ := hD 4 (by decide)
   replace hS31 := (hS31.front 1 rfl rfl).front 1 rfl rfl
   refine RL.callP Tryz.call54 (.cons (.t hl14) (.cons (.t hl16) .nil)) (writeStringE_c (Rs := Rs) b ((selfP b)) (l ++ ints [10]) ln (twoN ((d : Int)).toNat) vb1 hS31 (by first | exact Or.inr rfl | exact Or.inl rfl | assumption) (by first | omega | (simp only [len_app, len_cons, len_nil, ints_len]; omega) | (simp only [len_app, len_cons, len_nil, ints_len] at *; omega)) (by first | omega | (simp only [len_cons, len_nil]; omega) | decide | assumption)) rfl ?_
   rintro v34 w35 ⟨vb33, M36, hS37, hle38⟩
   refine RL.nil (slots_sub (E := [Y 0 (.pointer (some ⟨b, 0, none⟩)), Y 1 (i64 d)]) (.cons (hK _ _ rfl) (.cons (hK _ _ rfl) .nil)) ?_)
   refine  (hE.e0 rfl ?_)
   refine ⟨_, rfl, vb33, M36, ?_, ((hle6.trans hle32).trans hle38)⟩
   have hq : l ++ ints (lineP ln d) = (l ++ ints [10]) ++ ints (twoN ((d : Int)).toNat) := by
    simp [lineP, hb1, ints, twoN]
   rw [hq]; exact hS37
 ·refine CW.skip (hE.e0 rfl ?_)
  refine ⟨_, rfl, v, M, ?_, (Mem.le.refl _)⟩
  have hq : l ++ ints (lineP ln d) = l := by
   simp [lineP, hb1, ints, twoN]
  rw [hq]; exact hS

/- (*loupe/text.printer).scalar -/
theorem scalar_c {w wv : World} {M0 M : Mem} {Rs : List HO} (b : Nat) (a : Value) (l : List Int) (ln : Bool) (n : Nd) (v : Value) (hS : St w M0 wv M (.box b [a, v, (.bool ln)] 67 :: .own 5 1 v l.length (l.flatMap u8I) :: Rs)) (ha : a = .pointer none ∨ a = selfP b) (hl : len l ≤ 35184372088832) (hn : len n.s ≤ 1099511627776) (hx : -1000000 ≤ n.e ∧ n.e ≤ 1000000) (hg : Gl w) (hp : len (scalarP n) ≤ 35184372088832) :
  Calls Tryz.prog 53 [(.pointer (some ⟨b, 0, none⟩)), (ndV n)].toArray wv fun e w' => ∃ u, e = .returned u ∧ ∃ v' M', St w M0 w' M' (.box b [selfP b, v', .bool ln] 67 :: .own 5 1 v' (l ++ ints (scalarP n)).length ((l ++ ints (scalarP n)).flatMap u8I) :: Rs) ∧ M.le M' := by
 refine CW.enter1 Tryz.func53 rfl Tryz.ntmps53 (Nat.le_of_ble_eq_true rfl) fun Q hE => ?_
 refine CW.weaken [0, 1] (L' := [Y 0 (.pointer (some ⟨b, 0, none⟩)), Y 1 (ndV n)]) ?_ rfl
 refine CW.sr ?_
 refine RL.box (v := (ndV n)) hS (.t rfl) rfl (fun w1 b2 hS3 => (RL.nil (CW.id ?_)))
 refine CW.sr (RL.u (.fldA (q := ⟨b2, 0, none⟩) (.t rfl) (fun w => by kernel_rfl)) rfl (RL.u (.loadB1 (v := (i64 n.kind)) hS3 extEq (i := 0) rfl (.t rfl) Tryz.isAgg3 rfl) rfl (RL.nil (CW.id (CW.block ?_)))))
 refine CW.sr (RL.u (.eql (.t rfl) .c) rfl (RL.a rfl rfl (RL.nil (CW.id ?_))))
 refine CW.cond rfl ?_ ?_ <;> intro hb1 <;> try simp only [zb] at hb1
 ·refine CW.region (RL.m rfl rfl (RL.u (.nilP (.t rfl)) rfl (RL.u (.fldA (q := ⟨b, 0, none⟩) (.t rfl) (fun w => by kernel_rfl)) rfl ?_)))
  replace hS3 := (hS3.front 2 rfl rfl).front 2 rfl rfl
  refine RL.callP Tryz.call54 (.cons (.t rfl) (.cons .c .nil)) (writeStringE_c (Rs := (.box b2 (ndC n []) 38 :: Rs)) b a l ln [110, 117, 108, 108] v hS3 (by first | exact Or.inr rfl | exact Or.inl rfl | assumption) (by first | omega | (simp only [len_app, len_cons, len_nil, ints_len]; omega) | (simp only [len_app, len_cons, len_nil, ints_len] at *; omega)) (by first | omega | (simp only [len_cons, len_nil]; omega) | decide | assumption)) rfl ?_
  rintro v5 w6 ⟨vb4, M7, hS8, hle9⟩
  replace hS8 := hS8.erase 2 rfl
  refine RL.nil (hE.e0 rfl ?_)
  clear hE
  refine ⟨_, rfl, vb4, M7, ?_, hle9⟩
  have hq : scalarP n = [110, 117, 108, 108] := by
   unfold scalarP; simp_all
  rw [hq]; exact hS8
 ·refine CW.sr (RL.u (.eql (.t rfl) .c) rfl (RL.a rfl rfl (RL.nil (CW.at [Y 0 (.pointer (some ⟨b, 0, none⟩)), Y 3 (.pointer (some ⟨b2, 0, none⟩)), Y 5 (i64 n.kind), Y 19 (.bool (n.kind == 1))] rfl ?_))))
  refine CW.cond rfl ?_ ?_ <;> intro hb2 <;> try simp only [zb] at hb2
  ·refine CW.region (RL.m rfl rfl (RL.u (.nilP (.t rfl)) rfl (RL.u (.fldA (q := ⟨b, 0, none⟩) (.t rfl) (fun w => by kernel_rfl)) rfl ?_)))
   replace hS3 := (hS3.front 2 rfl rfl).front 2 rfl rfl
   refine RL.callP Tryz.call54 (.cons (.t rfl) (.cons .c .nil)) (writeStringE_c (Rs := (.box b2 (ndC n []) 38 :: Rs)) b a l ln [102, 97, 108, 115, 101] v hS3 (by first | exact Or.inr rfl | exact Or.inl rfl | assumption) (by first | omega | (simp only [len_app, len_cons, len_nil, ints_len]; omega) | (simp only [len_app, len_cons, len_nil, ints_len] at *; omega)) (by first | omega | (simp only [len_cons, len_nil]; omega) | decide | assumption)) rfl ?_
   rintro v11 w12 ⟨vb10, M13, hS14, hle15⟩
   replace hS14 := hS14.erase 2 rfl
   refine RL.nil (hE.e0 rfl ?_)
   clear hE
   refine ⟨_, rfl, vb10, M13, ?_, hle15⟩
   have hq : scalarP n = [102, 97, 108, 115, 101] := by
    unfold scalarP; simp_all
   rw [hq]; exact hS14
  ·refine CW.sr (RL.u (.eql (.t rfl) .c) rfl (RL.a rfl rfl (RL.nil (CW.at [Y 0 (.pointer (some ⟨b, 0, none⟩)), Y 3 (.pointer (some ⟨b2, 0, none⟩)), Y 5 (i64 n.kind), Y 25 (.bool (n.kind == 2))] rfl ?_))))
   refine CW.cond rfl ?_ ?_ <;> intro hb3 <;> try simp only [zb] at hb3
   ·refine CW.region (RL.m rfl rfl (RL.u (.nilP (.t rfl)) rfl (RL.u (.fldA (q := ⟨b, 0, none⟩) (.t rfl) (fun w => by kernel_rfl)) rfl ?_)))
    replace hS3 := (hS3.front 2 rfl rfl).front 2 rfl rfl
    refine RL.callP Tryz.call54 (.cons (.t rfl) (.cons .c .nil)) (writeStringE_c (Rs := (.box b2 (ndC n []) 38 :: Rs)) b a l ln [116, 114, 117, 101] v hS3 (by first | exact Or.inr rfl | exact Or.inl rfl | assumption) (by first | omega | (simp only [len_app, len_cons, len_nil, ints_len]; omega) | (simp only [len_app, len_cons, len_nil, ints_len] at *; omega)) (by first | omega | (simp only [len_cons, len_nil]; omega) | decide | assumption)) rfl ?_
    rintro v17 w18 ⟨vb16, M19, hS20, hle21⟩
    replace hS20 := hS20.erase 2 rfl
    refine RL.nil (hE.e0 rfl ?_)
    clear hE
    refine ⟨_, rfl, vb16, M19, ?_, hle21⟩
    have hq : scalarP n = [116, 114, 117, 101] := by
     unfold scalarP; simp_all
    rw [hq]; exact hS20
   ·refine CW.sr (RL.u (.eql (.t rfl) .c) rfl (RL.a rfl rfl (RL.nil (CW.at [Y 0 (.pointer (some ⟨b, 0, none⟩)), Y 3 (.pointer (some ⟨b2, 0, none⟩)), Y 31 (.bool (n.kind == 3))] rfl ?_))))
    refine CW.cond rfl ?_ ?_ <;> intro hb4 <;> try simp only [zb] at hb4
    ·have hp2 : len (print1 n) ≤ 35184372088832 := by simpa [scalarP, hb4] using hp
     refine CW.weaken [0, 3] (L' := [Y 0 (.pointer (some ⟨b, 0, none⟩)), Y 3 (.pointer (some ⟨b2, 0, none⟩))]) ?_ rfl
     replace hS3 := (hS3.front 2 rfl rfl).front 2 rfl rfl
     replace hS3 := hS3.front 2 rfl rfl
     refine CW.regionG (HsQ := [.box b2 (ndC n []) 38, .box b [a, v, (.bool ln)] 67, .own 5 1 v l.length (l.flatMap u8I)]) 5 [.is true (.pointer (some ⟨b, 0, none⟩)), .is true (.pointer (some ⟨b, 0, none⟩)), .is true (.pointer (some ⟨b, 0, none⟩)), .is true (ndV n), .is true (str (print1 n)), .any] [] Rs [none, none, none, none, none] hS3 tryz_mixed [0, 3] rfl (by decide +kernel) (by decide +kernel) rfl rfl (by decide +kernel) (by decide +kernel) [] rfl (by decide +kernel) (.cons ?_ (.cons ?_ (.cons ?_ (.cons ?_ (.cons ?_ (.cons ?_ (.nil)))))))
     ·intro LL w22 M23 X hle25 hS24 hK hD
      refine RL.u (.move (.t (hK _ _ rfl))) rfl ?_
      exact RL.nil (RA.next fun a hs => ⟨_, _, Mem.le.refl _, hS24, hs, _, _, rfl, rfl, rfl⟩)
     ·intro LL w26 M27 X hle29 hS28 hK hD
      obtain ⟨g33, v33, hl33, rfl, rfl⟩ := hD 0 (by decide +kernel)
      refine RL.u (.nilP (.t hl33)) rfl ?_
      exact RL.nil (RA.next fun a hs => ⟨_, _, Mem.le.refl _, hS28, hs, _, _, rfl, rfl, rfl⟩)
     ·intro LL w30 M31 X hle33 hS32 hK hD
      obtain ⟨g34, v34, hl34, rfl, rfl⟩ := hD 1 (by decide +kernel)
      refine RL.u (.fldA (q := ⟨b, 0, none⟩) (.t hl34) (fun w => by kernel_rfl)) rfl ?_
      exact RL.nil (RA.next fun a hs => ⟨_, _, Mem.le.refl _, hS32, hs, _, _, rfl, rfl, rfl⟩)
     ·intro LL w34 M35 X hle37 hS36 hK hD
      refine RL.u (.loadBN (vs := (ndC n [])) hS36 extEq (i := 0) rfl (.t (hK _ _ rfl)) Tryz.isAgg38 Tryz.sizeOf38 rfl rfl) rfl ?_
      exact RL.nil (RA.next fun a hs => ⟨_, _, Mem.le.refl _, hS36, hs, _, _, rfl, rfl, rfl⟩)
     ·intro LL w38 M39 X hle41 hS40 hK hD
      obtain ⟨g36, v36, hl36, rfl, rfl⟩ := hD 3 (by decide +kernel)
      refine RL.callE hS40 .none Tryz.call80 (.cons (.t hl36) .nil) (fun _ => (print_c n _ (hg.low hS40.low) (by omega) (by omega))) rfl (fun w42 hS43 => ?_)
      exact RL.nil (RA.next fun a hs => ⟨_, _, Mem.le.refl _, hS43, hs, _, _, rfl, rfl, rfl⟩)
     ·intro LL w44 M45 X hle47 hS46 hK hD hX
      obtain rfl : Rs = X := Eq.symm hX
      obtain ⟨g35, v35, hl35, rfl, rfl⟩ := hD 2 (by decide)
      obtain ⟨g37, v37, hl37, rfl, rfl⟩ := hD 4 (by decide)
      replace hS46 := (hS46.front 2 rfl rfl).front 2 rfl rfl
      refine RL.callP Tryz.call54 (.cons (.t hl35) (.cons (.t hl37) .nil)) (writeStringE_c (Rs := (.box b2 (ndC n []) 38 :: Rs)) b a l ln (print1 n) v hS46 (by first | exact Or.inr rfl | exact Or.inl rfl | assumption) (by omega) (by omega)) rfl ?_
      rintro v49 w50 ⟨vb48, M51, hS52, hle53⟩
      refine RL.nil (slots_sub (E := [Y 0 (.pointer (some ⟨b, 0, none⟩)), Y 3 (.pointer (some ⟨b2, 0, none⟩))]) (.cons (hK _ _ rfl) (.cons (hK _ _ rfl) .nil)) ?_)
      replace hS52 := hS52.erase 2 rfl
      refine  (hE.e0 rfl ?_)
      clear hE
      refine ⟨_, rfl, vb48, M51, ?_, (hle47.trans hle53)⟩
      have hq : scalarP n = print1 n := by
       unfold scalarP; simp_all
      rw [hq]; exact hS52
    ·have hp2 : len (quoteP n.s) ≤ 35184372088832 := by simpa [scalarP, hb1, hb2, hb3, hb4] using hp
     refine CW.weaken [0, 3] (L' := [Y 0 (.pointer (some ⟨b, 0, none⟩)), Y 3 (.pointer (some ⟨b2, 0, none⟩))]) ?_ rfl
     replace hS3 := (hS3.front 2 rfl rfl).front 2 rfl rfl
     replace hS3 := hS3.front 2 rfl rfl
     refine CW.regionG (HsQ := [.box b2 (ndC n []) 38, .box b [a, v, (.bool ln)] 67, .own 5 1 v l.length (l.flatMap u8I)]) 6 [.is true (.pointer (some ⟨b, 0, none⟩)), .is true (.pointer (some ⟨b, 0, none⟩)), .is true (.pointer (some ⟨b, 0, none⟩)), .is true (.pointer (some ⟨b2, 3, none⟩)), .is true (str n.s), .is true (str (quoteP n.s)), .any] [] Rs [none, none, none, none, none, none] hS3 tryz_mixed [0, 3] rfl (by decide +kernel) (by decide +kernel) rfl rfl (by decide +kernel) (by decide +kernel) [] rfl (by decide +kernel) (.cons ?_ (.cons ?_ (.cons ?_ (.cons ?_ (.cons ?_ (.cons ?_ (.cons ?_ (.nil))))))))
     ·intro LL w54 M55 X hle57 hS56 hK hD
      refine RL.u (.move (.t (hK _ _ rfl))) rfl ?_
      exact RL.nil (RA.next fun a hs => ⟨_, _, Mem.le.refl _, hS56, hs, _, _, rfl, rfl, rfl⟩)
     ·intro LL w58 M59 X hle61 hS60 hK hD
      obtain ⟨g6, v6, hl6, rfl, rfl⟩ := hD 0 (by decide +kernel)
      refine RL.u (.nilP (.t hl6)) rfl ?_
      exact RL.nil (RA.next fun a hs => ⟨_, _, Mem.le.refl _, hS60, hs, _, _, rfl, rfl, rfl⟩)
     ·intro LL w62 M63 X hle65 hS64 hK hD
      obtain ⟨g7, v7, hl7, rfl, rfl⟩ := hD 1 (by decide +kernel)
      refine RL.u (.fldA (q := ⟨b, 0, none⟩) (.t hl7) (fun w => by kernel_rfl)) rfl ?_
      exact RL.nil (RA.next fun a hs => ⟨_, _, Mem.le.refl _, hS64, hs, _, _, rfl, rfl, rfl⟩)
     ·intro LL w66 M67 X hle69 hS68 hK hD
      refine RL.u (.fldA (q := ⟨b2, 3, none⟩) (.t (hK _ _ rfl)) (fun w => by kernel_rfl)) rfl ?_
      exact RL.nil (RA.next fun a hs => ⟨_, _, Mem.le.refl _, hS68, hs, _, _, rfl, rfl, rfl⟩)
     ·intro LL w70 M71 X hle73 hS72 hK hD
      obtain ⟨g9, v9, hl9, rfl, rfl⟩ := hD 3 (by decide +kernel)
      refine RL.u (.loadB1 (v := (str n.s)) hS72 extEq (i := 0) rfl (.t hl9) Tryz.isAgg9 rfl) rfl ?_
      exact RL.nil (RA.next fun a hs => ⟨_, _, Mem.le.refl _, hS72, hs, _, _, rfl, rfl, rfl⟩)
     ·intro LL w74 M75 X hle77 hS76 hK hD
      obtain ⟨g10, v10, hl10, rfl, rfl⟩ := hD 4 (by decide +kernel)
      refine RL.callE hS76 .none Tryz.call56 (.cons (.t hl10) .nil) (fun _ => (quote_c n.s _ (hg.low hS76.low) (by omega))) rfl (fun w78 hS79 => ?_)
      exact RL.nil (RA.next fun a hs => ⟨_, _, Mem.le.refl _, hS79, hs, _, _, rfl, rfl, rfl⟩)
     ·intro LL w80 M81 X hle83 hS82 hK hD hX
      obtain rfl : Rs = X := Eq.symm hX
      obtain ⟨g8, v8, hl8, rfl, rfl⟩ := hD 2 (by decide)
      obtain ⟨g11, v11, hl11, rfl, rfl⟩ := hD 5 (by decide)
      replace hS82 := (hS82.front 2 rfl rfl).front 2 rfl rfl
      refine RL.callP Tryz.call54 (.cons (.t hl8) (.cons (.t hl11) .nil)) (writeStringE_c (Rs := (.box b2 (ndC n []) 38 :: Rs)) b a l ln (quoteP n.s) v hS82 (by first | exact Or.inr rfl | exact Or.inl rfl | assumption) (by omega) (by omega)) rfl ?_
      rintro v85 w86 ⟨vb84, M87, hS88, hle89⟩
      refine RL.nil (slots_sub (E := [Y 0 (.pointer (some ⟨b, 0, none⟩)), Y 3 (.pointer (some ⟨b2, 0, none⟩))]) (.cons (hK _ _ rfl) (.cons (hK _ _ rfl) .nil)) ?_)
      replace hS88 := hS88.erase 2 rfl
      refine  (hE.e0 rfl ?_)
      clear hE
      refine ⟨_, rfl, vb84, M87, ?_, (hle83.trans hle89)⟩
      have hq : scalarP n = quoteP n.s := by
       unfold scalarP; simp_all
      rw [hq]; exact hS88

end Go.Proofs.YtjfaikgooldcbaaGreatDoor
set_option maxRecDepth 100000
namespace Go.Proofs.YtjfaikgooldcbaaGreatDoor
open Go.Eng

def PrintOK (t : Tr) : Prop := ∀ {w wv : World} {M0 M : Mem} {Rs : List HO} (b : Nat) (a : Value) (l : List Int) (ln : Bool) (vs : List Nd) (i d : Int) (v vv : Value), St w M0 wv M (.box b [a, v, .bool ln] tP :: .own 5 1 v (l).length ((l).flatMap u8I) :: Rs) →
    (a = .pointer none ∨ a = selfP b) → Sl M 6 vs.length vv (vs.flatMap Nd.cells) → SegAt vs i t → t.ok → Gl w → 0 ≤ d → d + t.size ≤ 1000000 → len l + len (prt ln d t) ≤ 17592186044416 →
    Calls Tryz.prog 31 [.pointer (some ⟨b, 0, none⟩), vv, i64 i, i64 d].toArray wv fun e w' => ∃ u, e = .returned u ∧ ∃ v' M', u = i64 (i + (t.size : Int)) ∧ St w M0 w' M' (.box b [selfP b, v', .bool ln] tP :: .own 5 1 v' (l ++ ints (prt ln d t)).length ((l ++ ints (prt ln d t)).flatMap u8I) :: Rs) ∧ M.le M'
theorem prt_mk (ln : Bool) (d : Int) (n : Nd) (ps : List Tr) : prt ln d (.mk n ps) = if n.kind < 5 then scalarP n else (marksP n.kind).1 :: prtL ln d (n.kind == 6) true ps ++ (if ps.isEmpty then [] else lineP ln d) ++ [(marksP n.kind).2] := by rw [prt]
theorem ints_nil : ints [] = [] := rfl
theorem ints_cons (a : UInt8) (s : Str) : ints (a :: s) = (a.toNat : Int) :: ints s := rfl
/- (*loupe/text.printer).print -/
set_option maxHeartbeats 4000000 in
theorem print1_c {w wv : World} {M0 M : Mem} {Rs : List HO} (b : Nat) (a : Value) (l : List Int) (ln : Bool) (vs : List Nd) (i d : Int) (v vv : Value) (ps : List Tr) (hS : St w M0 wv M (.box b [a, v, (.bool ln)] 67 :: .own 5 1 v l.length (l.flatMap u8I) :: Rs)) (IH : ∀ t, t.size < (Tr.mk (at' vs i) ps).size → PrintOK t) (ha : a = .pointer none ∨ a = selfP b) (hv : Sl M 6 vs.length vv (vs.flatMap Nd.cells)) (hseg : SegAt vs i (.mk (at' vs i) ps)) (hok : (Tr.mk (at' vs i) ps).ok) (hg : Gl w) (h0 : 0 ≤ d) (hd : d + (Tr.mk (at' vs i) ps).size ≤ 1000000) (hlen : len l + len (prt ln d (.mk (at' vs i) ps)) ≤ 17592186044416) :
  Calls Tryz.prog 31 [(.pointer (some ⟨b, 0, none⟩)), vv, (i64 i), (i64 d)].toArray wv fun e w' => ∃ u, e = .returned u ∧ ∃ v' M', u = i64 (i + ((Tr.mk (at' vs i) ps).size : Int)) ∧ St w M0 w' M' (.box b [selfP b, v', .bool ln] tP :: .own 5 1 v' (l ++ ints (prt ln d (.mk (at' vs i) ps))).length ((l ++ ints (prt ln d (.mk (at' vs i) ps))).flatMap u8I) :: Rs) ∧ M.le M' := by
 refine CW.enter1 Tryz.func31 rfl Tryz.ntmps31 (Nat.le_of_ble_eq_true rfl) fun Q hE => ?_
 obtain ⟨hi0, hi1, _⟩ := hseg.head
 obtain ⟨hk5, hkm, hnb, hokl⟩ := (show _ ∧ _ ∧ _ ∧ okL ps from by simpa only [Tr.ok] using hok)
 have hll := len_nonneg l
 have hvl : len vs ≤ 9223372036854775807 := hv.le
 have hsz : ((Tr.mk (at' vs i) ps).size : Int) = 1 + sizeL ps := by rw [Tr.size]; push_cast; rfl
 have hpn := len_nonneg ps
 have hps1 := len_le_sizeL ps
 have hpr0 := len_nonneg (prt ln d (.mk (at' vs i) ps))
 refine CW.weaken [0, 1, 2, 3] (L' := [Y 0 (.pointer (some ⟨b, 0, none⟩)), Y 1 vv, Y 2 (i64 i), Y 3 (i64 d)]) ?_ rfl
 refine CW.sr (RL.u (.assign .c) rfl (RL.nil (CW.id (CW.sr ?_))))
 refine RL.m rfl rfl (RL.m rfl rfl (RL.u (.idxT hv (.t rfl) (.t rfl) Tryz.underlying24 Tryz.sizeOf38 (fun _ => by omega)) rfl (RL.u (.loadEN (f := Nd.cells) (i := i) hS extEq hv Nd.cells_len (.t rfl) Tryz.isAgg38 Tryz.sizeOf38 (fun _ => by omega)) rfl ?_)))
 refine RL.alloc hS Tryz.zeroValue38 rfl (fun w1 b2 hS3 => ?_)
 refine RL.st hS3 (i := 0) rfl (.t rfl) (.t rfl) Tryz.sizeOf38 rfl rfl rfl rfl rfl (fun w4 hS5 => (RL.nil (CW.id ?_)))
 refine CW.sr (RL.m rfl rfl (RL.u (.add (.t rfl) .c (fun _ => by omega)) rfl (RL.a rfl rfl (RL.nil (CW.id (CW.seq ?_))))))
 refine CW.sr (RL.u (.fldA (q := ⟨b2, 0, none⟩) (.t rfl) (fun w => by kernel_rfl)) rfl (RL.u (.loadB1 (v := (i64 ((at' vs i).kind))) hS5 extEq (i := 0) rfl (.t rfl) Tryz.isAgg3 rfl) rfl (RL.u (.lss (.t rfl) .c) rfl (RL.nil (CW.id ?_)))))
 refine CW.cond rfl ?_ ?_ <;> intro hb1 <;> try simp only [zb] at hb1
 ·have hq0 := hk5 hb1
  have hsp : len (scalarP (at' vs i)) ≤ 17592186044416 := by rw [prt_mk, if_pos hb1] at hlen; omega
  refine CW.sr (RL.m rfl rfl (RL.u (.loadBN (vs := (ndC ((at' vs i)) [])) hS5 extEq (i := 0) rfl (.t rfl) Tryz.isAgg38 Tryz.sizeOf38 rfl rfl) rfl ?_))
  replace hS5 := (hS5.front 2 rfl rfl).front 2 rfl rfl
  refine RL.callP Tryz.call53 (.cons (.t rfl) (.cons (.t rfl) .nil)) (scalar_c (Rs := (.box b2 (ndC ((at' vs i)) []) 38 :: Rs)) b a l ln ((at' vs i)) v hS5 (by first | exact Or.inr rfl | exact Or.inl rfl | assumption) (by omega) hnb.1 hnb.2.2 hg (by omega)) rfl ?_
  rintro v7 w8 ⟨vb6, M9, hS10, hle11⟩
  replace hv := hv.mono hle11
  refine RL.nil (CW.at [Y 2 (i64 (i + 1))] rfl (CW.sr (RL.m rfl rfl (RL.a rfl rfl (RL.nil (CW.id ?_))))))
  refine CW.ret (hE.r1 rfl rfl ?_)
  replace hS10 := hS10.erase 2 rfl
  refine ⟨_, rfl, vb6, M9, congrArg (fun z => i64 z) ?_, ?_, hle11⟩
  ·rw [Tr.size]; first | (subst hq0; simp [sizeL]; done) | (simp only [sizeL] at hj; push_cast; omega)
  ·have hq : l ++ ints (prt ln d (.mk (at' vs i) ps)) = l ++ ints (scalarP ((at' vs i))) := by
    rw [prt_mk]
    first | rw [if_pos hb1] | (rw [if_neg (by omega), hl7, show ll = (l ++ ints [m1]) ++ ints (prtL ln d ((at' vs i).kind == 6) true ps) from by rw [← hF, prtL]; exact (List.append_nil _).symm, hs3, ← hm1, ← hm2]; simp only [ints_app, ints_cons, ints_nil, List.append_assoc, List.cons_append, List.nil_append])
   rw [hq]; exact hS10
 ·have hmany := hkm (by omega)
  have hle2 : len l + (1 + len (prtL ln d ((at' vs i).kind == 6) true ps) + len (if ps.isEmpty then [] else lineP ln d) + 1) ≤ 17592186044416 := by rw [prt_mk, if_neg (by omega)] at hlen; simpa only [len_app, len_cons, len_nil, Int.zero_add, Int.add_comm] using hlen
  have hp1 := len_nonneg (prtL ln d ((at' vs i).kind == 6) true ps)
  have hp2 := len_nonneg (if ps.isEmpty then [] else lineP ln d)
  refine CW.skip (CW.id (CW.sr (RL.u (.assign .c) rfl (RL.nil (CW.id ?_)))))
  refine CW.mid (σ := UInt8 × UInt8) (fun (m1, m2) => [Y 0 (.pointer (some ⟨b, 0, none⟩)), Y 1 vv, Y 2 (i64 (i + 1)), Y 3 (i64 d), Y 9 (.pointer (some ⟨b2, 0, none⟩)), Y 10 (str [m1, m2])]) (fun (m1, m2) wm12 => St w M0 wm12 M (.box b2 (ndC ((at' vs i)) []) 38 :: .box b [a, v, (.bool ln)] 67 :: .own 5 1 v l.length (l.flatMap u8I) :: Rs) ∧ Sl M 6 vs.length vv (vs.flatMap Nd.cells) ∧ (m1 = (marksP (at' vs i).kind).1 ∧ m2 = (marksP (at' vs i).kind).2)) ?_ ?_
  ·refine CW.sr (RL.u (.fldA (q := ⟨b2, 0, none⟩) (.t rfl) (fun w => by kernel_rfl)) rfl (RL.u (.loadB1 (v := (i64 ((at' vs i).kind))) hS5 extEq (i := 0) rfl (.t rfl) Tryz.isAgg3 rfl) rfl (RL.u (.eql (.t rfl) .c) rfl (RL.nil (CW.id ?_)))))
   refine CW.cond rfl ?_ ?_ <;> intro hb2 <;> try simp only [zb] at hb2
   ·refine CW.region (RL.u (.assign .c) rfl ?_)
    exact RL.nil fun a hs => ⟨(123, 125), hs.keep [0, 1, 2, 3, 9, 10], hS5, hv, by simp [marksP, hb2]⟩
   ·exact CW.skip fun a hs => ⟨(91, 93), hs.keep [0, 1, 2, 3, 9, 10], hS5, hv, by simp [marksP, hb2]⟩
  ·rintro ⟨m1, m2⟩ wm12 ⟨hS13, hv, ⟨hm1, hm2⟩⟩
   have hs1 : len (Eng.sub [m1, m2] 0 1) = 1 := rfl
   have hs2 : len (Eng.from' [m1, m2] 1) = 1 := rfl
   have hs3 : Eng.from' [m1, m2] 1 = [m2] := rfl
   refine CW.seq ?_
   refine CW.regionT 5 hS13 tryz_mixed (by decide +kernel) (fun w14 hS15 => ?_)
   refine RS.v .none (.move (.t rfl)) rfl ?_
   refine RS.v .none (.nilP (.t rfl)) rfl ?_
   refine RS.v .none (.fldA (q := ⟨b, 0, none⟩) (.t rfl) (fun w => by kernel_rfl)) rfl ?_
   refine RS.v .none (.move (.t rfl)) rfl ?_
   refine RS.v .none (.slSh (.t rfl) .c Tryz.underlying9 (fun _ => by first | omega | (simp only [len_app, len_cons, len_nil, ints_len] at *; omega))) rfl ?_
   refine RS.nil ?_
   replace hS15 := (hS15.front 2 rfl rfl).front 2 rfl rfl
   refine RL.callP Tryz.call54 (.cons (.t rfl) (.cons (.t rfl) .nil)) (writeStringE_c (Rs := (.box b2 (ndC ((at' vs i)) []) 38 :: Rs)) b a l ln (Eng.sub [m1, m2] 0 1) v hS15 (by first | exact Or.inr rfl | exact Or.inl rfl | assumption) (by omega) (by omega)) rfl ?_
   rintro v17 w18 ⟨vb16, M19, hS20, hle21⟩
   replace hv := hv.mono hle21
   refine RL.nil (CW.at [Y 0 (.pointer (some ⟨b, 0, none⟩)), Y 1 vv, Y 2 (i64 (i + 1)), Y 3 (i64 d), Y 9 (.pointer (some ⟨b2, 0, none⟩)), Y 10 (str [m1, m2])] rfl (CW.seq (CW.sr (RL.u (.fldA (q := ⟨b2, 1, none⟩) (.t rfl) (fun w => by kernel_rfl)) rfl (RL.u (.loadB1 (v := (i64 ((at' vs i).many))) hS20 extEq (i := 2) rfl (.t rfl) Tryz.isAgg3 rfl) rfl (RL.u (.move .c) rfl (RL.nil (CW.id ?_))))))))
   refine CW.block ?_
   refine CW.loop (σ := Int × List Tr × List Tr × Int × Value × List Int × Mem) (fun (k, qs, ts, j, vl, ll, Ml) => [Y 0 (.pointer (some ⟨b, 0, none⟩)), Y 1 vv, Y 2 (i64 j), Y 3 (i64 d), Y 9 (.pointer (some ⟨b2, 0, none⟩)), Y 10 (str [m1, m2]), Y 35 (i64 ((at' vs i).many)), Y 36 (i64 k)]) (fun (k, qs, ts, j, vl, ll, Ml) wl => St w M0 wl Ml (.box b [(selfP b), vl, (.bool ln)] 67 :: .own 5 1 vl ll.length (ll.flatMap u8I) :: .box b2 (ndC ((at' vs i)) []) 38 :: Rs) ∧ Sl Ml 6 vs.length vv (vs.flatMap Nd.cells) ∧ 0 ≤ k ∧ k + len ts = len ps ∧ SegL vs j ts ∧ okL ts ∧ ps = qs ++ ts ∧ j + sizeL ts = i + 1 + sizeL ps ∧ ll ++ ints (prtL ln d ((at' vs i).kind == 6) (decide (k = 0)) ts) = (l ++ ints [m1]) ++ ints (prtL ln d ((at' vs i).kind == 6) true ps) ∧ M.le Ml) (fun (k, qs, ts, j, vl, ll, Ml) => (len ts).toNat) ((0, [], ps, i + 1, vb16, l ++ ints (Eng.sub [m1, m2] 0 1), M19)) [0, 1, 2, 3, 9, 10, 35, 36] rfl ?_ ?_
   ·refine ⟨hS20, hv, ?_⟩; exact ⟨by omega, by omega, hseg.kids, hokl, rfl, by omega, rfl, hle21⟩
   ·rintro ⟨k, qs, ts, j, vl, ll, Ml⟩ wl ⟨hS22, hv, hk0, hkl, hsg, hokt, hps, hj, hF, hle0⟩
    refine CW.sr (RL.u (.lss (.t rfl) (.t rfl)) rfl (RL.nil (CW.id (CW.seq ?_))))
    refine CW.cond rfl ?_ ?_ <;> intro hb3 <;> try simp only [zb] at hb3
    ·have hll2 := len_nonneg ll
     obtain ⟨t, ts1, rfl⟩ : ∃ t ts1, ts = t :: ts1 := by cases ts with | nil => (simp only [len_nil] at hkl; omega) | cons t ts1 => exact ⟨t, ts1, rfl⟩
     obtain ⟨hj0, hj1, hnode⟩ := hsg.first.node
     have hszz := hsg.first.size_le
     have hFl := congrArg len hF
     simp only [prtL, len_app, ints_len, len_cons, len_nil] at hFl
     rw [← hnode] at hFl
     have hnmb : len (at' vs j).name ≤ 1099511627776 := by rw [hnode]; exact (Tr.ok_node (by simpa only [okL] using hokt : t.ok ∧ okL ts1).1).2
     have hsl : (sizeL ps : Int) = sizeL qs + (t.size + sizeL ts1) := by rw [hps, sizeL_app, sizeL]; push_cast; rfl
     have hn1 := len_nonneg (if decide (k = 0) then [] else ([44] : Str))
     have hn2 := len_nonneg (lineP ln (d + 1))
     have hn3 := len_nonneg (if ((at' vs i).kind == 6) then nameP ln (at' vs j) else [])
     have hn4 := len_nonneg (prt ln (d + 1) t)
     have hn5 := len_nonneg (prtL ln d ((at' vs i).kind == 6) false ts1)
     have hn6 := nameP_len ln (at' vs j)
     have hn7 := len_nonneg (quoteP (at' vs j).name)
     have hokr : okL ts1 := (by simpa only [okL] using hokt : t.ok ∧ okL ts1).2
     replace hokt : t.ok := (by simpa only [okL] using hokt : t.ok ∧ okL ts1).1
     refine CW.skip (CW.id (CW.seq (CW.block (CW.sr ?_))))
     refine RL.m rfl rfl (RL.a rfl rfl (RL.nil (CW.id ?_)))
     refine CW.mid (σ := Value × List Int × Mem) (fun (v4, l4, Mm25) => [Y 0 (.pointer (some ⟨b, 0, none⟩)), Y 1 vv, Y 2 (i64 j), Y 3 (i64 d), Y 9 (.pointer (some ⟨b2, 0, none⟩)), Y 10 (str [m1, m2]), Y 35 (i64 ((at' vs i).many)), Y 36 (i64 k)]) (fun (v4, l4, Mm25) wm23 => St w M0 wm23 Mm25 (.box b [(selfP b), v4, (.bool ln)] 67 :: .own 5 1 v4 l4.length (l4.flatMap u8I) :: .box b2 (ndC ((at' vs i)) []) 38 :: Rs) ∧ Sl Mm25 6 vs.length vv (vs.flatMap Nd.cells) ∧ Ml.le Mm25 ∧ l4 = ll ++ ints (if decide (k = 0) then [] else [44])) ?_ ?_
     ·refine CW.sr (RL.m rfl rfl (RL.u (.gtr (.t rfl) .c) rfl (RL.nil (CW.id ?_))))
      refine CW.cond rfl ?_ ?_ <;> intro hb4 <;> try simp only [zb] at hb4
      ·refine CW.region (RL.m rfl rfl (RL.u (.nilP (.t rfl)) rfl (RL.u (.fldA (q := ⟨b, 0, none⟩) (.t rfl) (fun w => by kernel_rfl)) rfl ?_)))
       replace hS22 := (hS22.front 1 rfl rfl).front 1 rfl rfl
       refine RL.callP Tryz.call54 (.cons (.t rfl) (.cons .c .nil)) (writeStringE_c (Rs := (.box b2 (ndC ((at' vs i)) []) 38 :: Rs)) b ((selfP b)) ll ln [44] vl hS22 (by first | exact Or.inr rfl | exact Or.inl rfl | assumption) (by first | omega | (simp only [len_app, len_cons, len_nil, ints_len]; omega) | (simp only [len_app, len_cons, len_nil, ints_len] at *; omega)) (by first | omega | (simp only [len_cons, len_nil]; omega) | decide | assumption)) rfl ?_
       rintro v28 w29 ⟨vb27, M30, hS31, hle32⟩
       replace hv := hv.mono hle32
       exact RL.nil fun a hs => ⟨(vb27, ll ++ ints [44], M30), hs.keep [0, 1, 2, 3, 9, 10, 35, 36], hS31, hv, hle32, by rw [show decide (k = 0) = false from by simp; omega]; rfl⟩
      ·exact CW.skip fun a hs => ⟨(vl, ll, Ml), hs.keep [0, 1, 2, 3, 9, 10, 35, 36], hS22, hv, Mem.le.refl _, by rw [show decide (k = 0) = true from by simp; omega]; simp [ints]⟩
     ·rintro ⟨v4, l4, Mm25⟩ wm23 ⟨hS24, hv, hle26, hl4⟩
      have hL4 := congrArg len hl4
      simp only [len_app, ints_len] at hL4
      refine CW.sr (RL.m rfl rfl (RL.m rfl rfl (RL.u (.add (.t rfl) .c (fun _ => by omega)) rfl ?_)))
      replace hS24 := (hS24.front 1 rfl rfl).front 1 rfl rfl
      refine RL.callP Tryz.call55 (.cons (.t rfl) (.cons (.t rfl) .nil)) (line_c (Rs := (.box b2 (ndC ((at' vs i)) []) 38 :: Rs)) b l4 ln (d + 1) v4 hS24 (by omega) (by omega)) rfl ?_
      rintro v34 w35 ⟨vb33, M36, hS37, hle38⟩
      replace hv := hv.mono hle38
      refine RL.nil (CW.at [Y 0 (.pointer (some ⟨b, 0, none⟩)), Y 1 vv, Y 2 (i64 j), Y 3 (i64 d), Y 9 (.pointer (some ⟨b2, 0, none⟩)), Y 10 (str [m1, m2]), Y 35 (i64 ((at' vs i).many)), Y 36 (i64 k)] rfl ?_)
      refine CW.mid (σ := Value × List Int × Mem) (fun (v5, l5, Mm41) => [Y 0 (.pointer (some ⟨b, 0, none⟩)), Y 1 vv, Y 2 (i64 j), Y 3 (i64 d), Y 9 (.pointer (some ⟨b2, 0, none⟩)), Y 10 (str [m1, m2]), Y 35 (i64 ((at' vs i).many)), Y 36 (i64 k)]) (fun (v5, l5, Mm41) wm39 => St w M0 wm39 Mm41 (.box b [(selfP b), v5, (.bool ln)] 67 :: .own 5 1 v5 l5.length (l5.flatMap u8I) :: .box b2 (ndC ((at' vs i)) []) 38 :: Rs) ∧ Sl Mm41 6 vs.length vv (vs.flatMap Nd.cells) ∧ M36.le Mm41 ∧ l5 = (l4 ++ ints (lineP ln (d + 1))) ++ ints (if ((at' vs i).kind == 6) then nameP ln (at' vs j) else [])) ?_ ?_
      ·refine CW.sr (RL.u (.fldA (q := ⟨b2, 0, none⟩) (.t rfl) (fun w => by kernel_rfl)) rfl (RL.u (.loadB1 (v := (i64 ((at' vs i).kind))) hS37 extEq (i := 2) rfl (.t rfl) Tryz.isAgg3 rfl) rfl (RL.u (.eql (.t rfl) .c) rfl (RL.nil (CW.id ?_)))))
       refine CW.cond rfl ?_ ?_ <;> intro hb5 <;> try simp only [zb] at hb5
       ·have hOB : ((at' vs i).kind == 6) = true := by rw [hb5]; rfl
        have hif : len (if ((at' vs i).kind == 6) then nameP ln (at' vs j) else []) = len (nameP ln (at' vs j)) := by rw [if_pos hOB]
        refine CW.seq (CW.weaken [0, 1, 2, 3, 9, 10, 35, 36] (L' := [Y 0 (.pointer (some ⟨b, 0, none⟩)), Y 1 vv, Y 2 (i64 j), Y 3 (i64 d), Y 9 (.pointer (some ⟨b2, 0, none⟩)), Y 10 (str [m1, m2]), Y 35 (i64 ((at' vs i).many)), Y 36 (i64 k)]) ?_ rfl)
        replace hS37 := (hS37.front 2 rfl rfl).front 2 rfl rfl
        replace hS37 := hS37.front 2 rfl rfl
        refine CW.regionG (HsQ := [.box b [(selfP b), vb33, (.bool ln)] 67, .own 5 1 vb33 (l4 ++ ints (lineP ln (d + 1))).length ((l4 ++ ints (lineP ln (d + 1))).flatMap u8I), .box b2 (ndC ((at' vs i)) []) 38]) 9 [.is true (.pointer (some ⟨b, 0, none⟩)), .is true (.pointer (some ⟨b, 0, none⟩)), .is true (.pointer (some ⟨b, 0, none⟩)), .is true vv, .is true (i64 j), .is true (.pointer (some ⟨sb vv, so vv + (j : Int).toNat * 6, none⟩)), .is true (.pointer (some ⟨sb vv, so vv + (j : Int).toNat * 6 + 2, none⟩)), .is true (str ((at' vs j).name)), .is true (str (quoteP ((at' vs j).name))), .any] [] Rs [none, none, none, none, none, none, none, none, none] hS37 tryz_mixed [0, 1, 2, 3, 9, 10, 35, 36] rfl (by decide +kernel) (by decide +kernel) rfl rfl (by decide +kernel) (by decide +kernel) [] rfl (by decide +kernel) (.cons ?_ (.cons ?_ (.cons ?_ (.cons ?_ (.cons ?_ (.cons ?_ (.cons ?_ (.cons ?_ (.cons ?_ (.cons ?_ (.nil)))))))))))
        ·intro LL w43 M44 X hle46 hS45 hK hD
         replace hv := hv.mono hle46
         refine RL.u (.move (.t (hK _ _ rfl))) rfl ?_
         exact RL.nil (RA.next fun a hs => ⟨_, _, Mem.le.refl _, hS45, hs, _, _, rfl, rfl, rfl⟩)
        ·intro LL w47 M48 X hle50 hS49 hK hD
         replace hv := hv.mono hle50
         obtain ⟨g52, v52, hl52, rfl, rfl⟩ := hD 0 (by decide +kernel)
         refine RL.u (.nilP (.t hl52)) rfl ?_
         exact RL.nil (RA.next fun a hs => ⟨_, _, Mem.le.refl _, hS49, hs, _, _, rfl, rfl, rfl⟩)
        ·intro LL w51 M52 X hle54 hS53 hK hD
         replace hv := hv.mono hle54
         obtain ⟨g53, v53, hl53, rfl, rfl⟩ := hD 1 (by decide +kernel)
         refine RL.u (.fldA (q := ⟨b, 0, none⟩) (.t hl53) (fun w => by kernel_rfl)) rfl ?_
         exact RL.nil (RA.next fun a hs => ⟨_, _, Mem.le.refl _, hS53, hs, _, _, rfl, rfl, rfl⟩)
        ·intro LL w55 M56 X hle58 hS57 hK hD
         replace hv := hv.mono hle58
         refine RL.u (.move (.t (hK _ _ rfl))) rfl ?_
         exact RL.nil (RA.next fun a hs => ⟨_, _, Mem.le.refl _, hS57, hs, _, _, rfl, rfl, rfl⟩)
        ·intro LL w59 M60 X hle62 hS61 hK hD
         replace hv := hv.mono hle62
         refine RL.u (.move (.t (hK _ _ rfl))) rfl ?_
         exact RL.nil (RA.next fun a hs => ⟨_, _, Mem.le.refl _, hS61, hs, _, _, rfl, rfl, rfl⟩)
        ·intro LL w63 M64 X hle66 hS65 hK hD
         replace hv := hv.mono hle66
         obtain ⟨g55, v55, hl55, rfl, hv55⟩ := hD 3 (by decide +kernel)
         subst v55
         obtain ⟨g56, v56, hl56, rfl, rfl⟩ := hD 4 (by decide +kernel)
         refine RL.u (.idxT hv (.t hl55) (.t hl56) Tryz.underlying24 Tryz.sizeOf38 (fun _ => by omega)) rfl ?_
         exact RL.nil (RA.next fun a hs => ⟨_, _, Mem.le.refl _, hS65, hs, _, _, rfl, rfl, rfl⟩)
        ·intro LL w67 M68 X hle70 hS69 hK hD
         replace hv := hv.mono hle70
         obtain ⟨g57, v57, hl57, rfl, rfl⟩ := hD 5 (by decide +kernel)
         refine RL.u (.fldA (q := ⟨sb vv, so vv + (j : Int).toNat * 6 + 2, none⟩) (.t hl57) (fun w => by kernel_rfl)) rfl ?_
         exact RL.nil (RA.next fun a hs => ⟨_, _, Mem.le.refl _, hS69, hs, _, _, rfl, rfl, rfl⟩)
        ·intro LL w71 M72 X hle74 hS73 hK hD
         replace hv := hv.mono hle74
         obtain ⟨g58, v58, hl58, rfl, rfl⟩ := hD 6 (by decide +kernel)
         refine RL.u (.loadE1 (f := Nd.cells) (i := j) (j := 2) (u := (str ((at' vs j).name))) hS73 extEq hv Nd.cells_len (.t hl58) Tryz.isAgg9 (fun _ => by omega) rfl rfl) rfl ?_
         exact RL.nil (RA.next fun a hs => ⟨_, _, Mem.le.refl _, hS73, hs, _, _, rfl, rfl, rfl⟩)
        ·intro LL w75 M76 X hle78 hS77 hK hD
         replace hv := hv.mono hle78
         obtain ⟨g59, v59, hl59, rfl, rfl⟩ := hD 7 (by decide +kernel)
         refine RL.callE hS77 .none Tryz.call56 (.cons (.t hl59) .nil) (fun _ => (quote_c ((at' vs j).name) _ (hg.low hS77.low) (by omega))) rfl (fun w79 hS80 => ?_)
         exact RL.nil (RA.next fun a hs => ⟨_, _, Mem.le.refl _, hS80, hs, _, _, rfl, rfl, rfl⟩)
        ·intro LL w81 M82 X hle84 hS83 hK hD hX
         replace hv := hv.mono hle84
         obtain rfl : Rs = X := Eq.symm hX
         obtain ⟨g54, v54, hl54, rfl, rfl⟩ := hD 2 (by decide)
         obtain ⟨g60, v60, hl60, rfl, rfl⟩ := hD 8 (by decide)
         replace hS83 := (hS83.front 1 rfl rfl).front 1 rfl rfl
         refine RL.callP Tryz.call54 (.cons (.t hl54) (.cons (.t hl60) .nil)) (writeStringE_c (Rs := (.box b2 (ndC ((at' vs i)) []) 38 :: Rs)) b ((selfP b)) (l4 ++ ints (lineP ln (d + 1))) ln (quoteP ((at' vs j).name)) vb33 hS83 (by first | exact Or.inr rfl | exact Or.inl rfl | assumption) (by first | omega | (simp only [len_app, len_cons, len_nil, ints_len]; omega) | (simp only [len_app, len_cons, len_nil, ints_len] at *; omega)) (by first | omega | (simp only [len_cons, len_nil]; omega) | decide | assumption)) rfl ?_
         rintro v86 w87 ⟨vb85, M88, hS89, hle90⟩
         replace hv := hv.mono hle90
         refine RL.nil (slots_sub (E := [Y 0 (.pointer (some ⟨b, 0, none⟩)), Y 1 vv, Y 2 (i64 j), Y 3 (i64 d), Y 9 (.pointer (some ⟨b2, 0, none⟩)), Y 10 (str [m1, m2]), Y 35 (i64 ((at' vs i).many)), Y 36 (i64 k)]) (.cons (hK _ _ rfl) (.cons (hK _ _ rfl) (.cons (hK _ _ rfl) (.cons (hK _ _ rfl) (.cons (hK _ _ rfl) (.cons (hK _ _ rfl) (.cons (hK _ _ rfl) (.cons (hK _ _ rfl) .nil)))))))) ?_)
         refine (CW.at [Y 0 (.pointer (some ⟨b, 0, none⟩)), Y 1 vv, Y 2 (i64 j), Y 3 (i64 d), Y 9 (.pointer (some ⟨b2, 0, none⟩)), Y 10 (str [m1, m2]), Y 35 (i64 ((at' vs i).many)), Y 36 (i64 k)] rfl ?_)
         refine CW.sr (RL.m rfl rfl (RL.u (.nilP (.t rfl)) rfl (RL.u (.fldA (q := ⟨b, 0, none⟩) (.t rfl) (fun w => by kernel_rfl)) rfl ?_)))
         replace hS89 := (hS89.front 1 rfl rfl).front 1 rfl rfl
         refine RL.callP Tryz.call54 (.cons (.t rfl) (.cons .c .nil)) (writeStringE_c (Rs := (.box b2 (ndC ((at' vs i)) []) 38 :: Rs)) b ((selfP b)) ((l4 ++ ints (lineP ln (d + 1))) ++ ints (quoteP ((at' vs j).name))) ln [58] vb85 hS89 (by first | exact Or.inr rfl | exact Or.inl rfl | assumption) (by first | omega | (simp only [len_app, len_cons, len_nil, ints_len]; omega) | (simp only [len_app, len_cons, len_nil, ints_len] at *; omega)) (by first | omega | (simp only [len_cons, len_nil]; omega) | decide | assumption)) rfl ?_
         rintro v92 w93 ⟨vb91, M94, hS95, hle96⟩
         replace hv := hv.mono hle96
         refine RL.nil (CW.at [Y 0 (.pointer (some ⟨b, 0, none⟩)), Y 1 vv, Y 2 (i64 j), Y 3 (i64 d), Y 9 (.pointer (some ⟨b2, 0, none⟩)), Y 10 (str [m1, m2]), Y 35 (i64 ((at' vs i).many)), Y 36 (i64 k)] rfl (CW.sr (RL.m rfl rfl (RL.u (.nilP (.t rfl)) rfl (RL.u (.fldA (q := ⟨b, 2, none⟩) (.t rfl) (fun w => by kernel_rfl)) rfl (RL.u (.loadB1 (v := (.bool ln)) hS95 extEq (i := 0) rfl (.t rfl) Tryz.isAgg4 rfl) rfl (RL.nil (CW.id ?_))))))))
         refine CW.cond rfl ?_ ?_ <;> intro hb6 <;> try simp only [zb] at hb6
         ·refine CW.region (RL.m rfl rfl (RL.u (.nilP (.t rfl)) rfl (RL.u (.fldA (q := ⟨b, 0, none⟩) (.t rfl) (fun w => by kernel_rfl)) rfl ?_)))
          replace hS95 := (hS95.front 1 rfl rfl).front 1 rfl rfl
          refine RL.callP Tryz.call54 (.cons (.t rfl) (.cons .c .nil)) (writeStringE_c (Rs := (.box b2 (ndC ((at' vs i)) []) 38 :: Rs)) b ((selfP b)) (((l4 ++ ints (lineP ln (d + 1))) ++ ints (quoteP ((at' vs j).name))) ++ ints [58]) ln [32] vb91 hS95 (by first | exact Or.inr rfl | exact Or.inl rfl | assumption) (by first | omega | (simp only [len_app, len_cons, len_nil, ints_len]; omega) | (simp only [len_app, len_cons, len_nil, ints_len] at *; omega)) (by first | omega | (simp only [len_cons, len_nil]; omega) | decide | assumption)) rfl ?_
          rintro v98 w99 ⟨vb97, M100, hS101, hle102⟩
          replace hv := hv.mono hle102
          exact RL.nil fun a hs => ⟨(vb97, (((l4 ++ ints (lineP ln (d + 1))) ++ ints (quoteP ((at' vs j).name))) ++ ints [58]) ++ ints [32], M100), hs.keep [0, 1, 2, 3, 9, 10, 35, 36], hS101, hv, (((hle84.trans hle90).trans hle96).trans hle102), by rw [hOB]; simp only [if_true, nameP, ints_app, ints_cons, List.append_assoc, hb6]; rfl⟩
         ·exact CW.skip fun a hs => ⟨(vb91, ((l4 ++ ints (lineP ln (d + 1))) ++ ints (quoteP ((at' vs j).name))) ++ ints [58], M94), hs.keep [0, 1, 2, 3, 9, 10, 35, 36], hS95, hv, ((hle84.trans hle90).trans hle96), by rw [hOB]; simp only [if_true, nameP, ints_app, ints_cons, List.append_assoc, hb6]; rfl⟩
       ·exact CW.skip fun a hs => ⟨(vb33, l4 ++ ints (lineP ln (d + 1)), M36), hs.keep [0, 1, 2, 3, 9, 10, 35, 36], hS37, hv, Mem.le.refl _, by rw [show ((at' vs i).kind == 6) = false from by simpa using hb5]; exact (List.append_nil _).symm⟩
      ·rintro ⟨v5, l5, Mm41⟩ wm39 ⟨hS40, hv, hle42, hl5⟩
       have hL5 := congrArg len hl5
       simp only [len_app, ints_len] at hL5
       refine CW.region (RL.m rfl rfl (RL.m rfl rfl (RL.m rfl rfl (RL.m rfl rfl (RL.u (.add (.t rfl) .c (fun _ => by omega)) rfl ?_)))))
       replace hS40 := (hS40.front 1 rfl rfl).front 1 rfl rfl
       refine RL.callP Tryz.call31 (.cons (.t rfl) (.cons (.t rfl) (.cons (.t rfl) (.cons (.t rfl) .nil)))) (IH t (by rw [Tr.size, hps, sizeL_app]; have := Tr.size_pos t; simp only [sizeL]; omega) (Rs := (.box b2 (ndC ((at' vs i)) []) 38 :: Rs)) b ((selfP b)) l5 ln vs j (d + 1) v5 vv hS40 (by first | exact Or.inr rfl | exact Or.inl rfl | assumption) hv hsg.first hokt hg (by omega) (by omega) (by omega)) rfl ?_
       rintro v104 w105 ⟨vb103, M106, rfl, hS107, hle108⟩
       replace hv := hv.mono hle108
       refine RL.a rfl rfl ?_
       refine RL.nil (CW.at [Y 0 (.pointer (some ⟨b, 0, none⟩)), Y 1 vv, Y 2 (i64 (j + (t.size : Int))), Y 3 (i64 d), Y 9 (.pointer (some ⟨b2, 0, none⟩)), Y 10 (str [m1, m2]), Y 35 (i64 ((at' vs i).many)), Y 36 (i64 k)] rfl ?_)
       refine CW.region (RL.u (.add (.t rfl) .c (fun _ => by omega)) rfl (RL.m rfl rfl ?_))
       refine RL.nil fun a hs => Exists.intro ((k + 1, qs ++ [t], ts1, j + (t.size : Int), vb103, l5 ++ ints (prt ln (d + 1) t), M106)) ⟨hs.keep [0, 1, 2, 3, 9, 10, 35, 36], ?_, ?_⟩
       ·refine ⟨hS107, hv, ?_⟩
        exact ⟨by omega, by simp only [len_cons] at hkl; omega, hsg.rest, hokr, by rw [hps, List.append_assoc]; rfl, by rw [sizeL] at hj; push_cast at hj; omega, by rw [← hF, hl5, hl4, prtL, ← hnode, show decide (k + 1 = 0) = false from by simp; omega]; simp only [ints_app, List.append_assoc], ((((hle0.trans hle26).trans hle38).trans hle42).trans hle108)⟩
       ·show Int.toNat _ < Int.toNat _; simp only [len_cons]; have := len_nonneg ts1; omega
    ·obtain rfl : ts = [] := by cases ts with | nil => rfl | cons t ts1 => (simp only [len_cons] at hkl; have := len_nonneg ts1; omega)
     have hFl := congrArg len hF
     simp only [prtL, len_app, ints_len, len_nil] at hFl
     refine CW.exit (CW.at [Y 0 (.pointer (some ⟨b, 0, none⟩)), Y 2 (i64 j), Y 3 (i64 d), Y 9 (.pointer (some ⟨b2, 0, none⟩)), Y 10 (str [m1, m2])] rfl ?_)
     refine CW.mid (σ := Value × List Int × Mem) (fun (v7, l7, Mm111) => [Y 0 (.pointer (some ⟨b, 0, none⟩)), Y 2 (i64 j), Y 10 (str [m1, m2])]) (fun (v7, l7, Mm111) wm109 => St w M0 wm109 Mm111 (.box b [(selfP b), v7, (.bool ln)] 67 :: .own 5 1 v7 l7.length (l7.flatMap u8I) :: .box b2 (ndC ((at' vs i)) []) 38 :: Rs) ∧ Sl Mm111 6 vs.length vv (vs.flatMap Nd.cells) ∧ Ml.le Mm111 ∧ l7 = ll ++ ints (if ps.isEmpty then [] else lineP ln d)) ?_ ?_
     ·refine CW.sr (RL.u (.fldA (q := ⟨b2, 1, none⟩) (.t rfl) (fun w => by kernel_rfl)) rfl (RL.u (.loadB1 (v := (i64 ((at' vs i).many))) hS22 extEq (i := 2) rfl (.t rfl) Tryz.isAgg3 rfl) rfl (RL.u (.gtr (.t rfl) .c) rfl (RL.nil (CW.id ?_)))))
      refine CW.cond rfl ?_ ?_ <;> intro hb7 <;> try simp only [zb] at hb7
      ·refine CW.region (RL.m rfl rfl (RL.m rfl rfl ?_))
       replace hS22 := (hS22.front 1 rfl rfl).front 1 rfl rfl
       refine RL.callP Tryz.call55 (.cons (.t rfl) (.cons (.t rfl) .nil)) (line_c (Rs := (.box b2 (ndC ((at' vs i)) []) 38 :: Rs)) b ll ln d vl hS22 (by omega) (by first | omega | (simp only [len_app, len_cons, len_nil, ints_len]; omega) | (simp only [len_app, len_cons, len_nil, ints_len] at *; omega))) rfl ?_
       rintro v114 w115 ⟨vb113, M116, hS117, hle118⟩
       replace hv := hv.mono hle118
       exact RL.nil fun a hs => ⟨(vb113, ll ++ ints (lineP ln d), M116), hs.keep [0, 2, 10], hS117, hv, hle118, by cases ps with | nil => (simp only [len_nil] at hmany; omega) | cons x y => rfl⟩
      ·exact CW.skip fun a hs => ⟨(vl, ll, Ml), hs.keep [0, 2, 10], hS22, hv, Mem.le.refl _, by cases ps with | nil => exact (List.append_nil _).symm | cons x y => (simp only [len_cons] at hmany; have := len_nonneg y; omega)⟩
     ·rintro ⟨v7, l7, Mm111⟩ wm109 ⟨hS110, hv, hle112, hl7⟩
      have hL7 := congrArg len hl7
      simp only [len_app, ints_len] at hL7
      refine CW.seq ?_
      refine CW.regionT 5 hS110 tryz_mixed (by decide +kernel) (fun w119 hS120 => ?_)
      refine RS.v .none (.move (.t rfl)) rfl ?_
      refine RS.v .none (.nilP (.t rfl)) rfl ?_
      refine RS.v .none (.fldA (q := ⟨b, 0, none⟩) (.t rfl) (fun w => by kernel_rfl)) rfl ?_
      refine RS.v .none (.move (.t rfl)) rfl ?_
      refine RS.v .none (.slSl (.t rfl) .c Tryz.underlying9 (fun _ => by first | omega | (simp only [len_app, len_cons, len_nil, ints_len] at *; omega))) rfl ?_
      refine RS.nil ?_
      replace hS120 := (hS120.front 1 rfl rfl).front 1 rfl rfl
      refine RL.callP Tryz.call54 (.cons (.t rfl) (.cons (.t rfl) .nil)) (writeStringE_c (Rs := (.box b2 (ndC ((at' vs i)) []) 38 :: Rs)) b ((selfP b)) l7 ln (Eng.from' [m1, m2] 1) v7 hS120 (by first | exact Or.inr rfl | exact Or.inl rfl | assumption) (by first | omega | (simp only [len_app, len_cons, len_nil, ints_len]; omega) | (simp only [len_app, len_cons, len_nil, ints_len] at *; omega)) (by first | omega | (simp only [len_cons, len_nil]; omega) | decide | assumption)) rfl ?_
      rintro v122 w123 ⟨vb121, M124, hS125, hle126⟩
      replace hv := hv.mono hle126
      refine RL.nil (CW.at [Y 2 (i64 j)] rfl (CW.sr (RL.m rfl rfl (RL.a rfl rfl (RL.nil (CW.id ?_))))))
      refine CW.ret (hE.r1 rfl rfl ?_)
      replace hS125 := hS125.erase 2 rfl
      refine ⟨_, rfl, vb121, M124, congrArg (fun z => i64 z) ?_, ?_, ((hle0.trans hle112).trans hle126)⟩
      ·rw [Tr.size]; first | (subst hq0; simp [sizeL]; done) | (simp only [sizeL] at hj; push_cast; omega)
      ·have hq : l ++ ints (prt ln d (.mk (at' vs i) ps)) = l7 ++ ints (Eng.from' [m1, m2] 1) := by
        rw [prt_mk]
        first | rw [if_pos hb1] | (rw [if_neg (by omega), hl7, show ll = (l ++ ints [m1]) ++ ints (prtL ln d ((at' vs i).kind == 6) true ps) from by rw [← hF, prtL]; exact (List.append_nil _).symm, hs3, ← hm1, ← hm2]; simp only [ints_app, ints_cons, ints_nil, List.append_assoc, List.cons_append, List.nil_append])
       rw [hq]; exact hS125

end Go.Proofs.YtjfaikgooldcbaaGreatDoor
set_option maxRecDepth 100000
namespace Go.Proofs.YtjfaikgooldcbaaGreatDoor
open Go.Eng

theorem print_all (n : Nat) : ∀ t : Tr, t.size < n → PrintOK t := by
  induction n with
  | zero => intro t h; omega
  | succ n ih =>
    intro t h
    cases t with
    | mk x ps =>
      unfold PrintOK
      intro w wv M0 M Rs b a l ln vs i d v vv hS ha hv hseg hok hg h0 hd hlen
      obtain ⟨_, _, hx⟩ := hseg.head
      subst hx
      exact print1_c b a l ln vs i d v vv ps hS (fun t ht => ih t (by omega)) ha hv hseg hok hg h0 hd hlen
/- loupe/text.Compact -/
theorem compact_c (M : Mem) (t : Tr) (vv : Value) (w : World) (hM : Sat w M) (hv : Sl M 6 t.flat.length vv (t.flat.flatMap Nd.cells)) (hok : t.ok) (hg : Gl w) (hsz : (t.size : Int) ≤ 1000000) (hlen : len (prt false 0 t) ≤ 17592186044416) (hne : prt false 0 t ≠ []) :
  Calls Tryz.prog 15 [vv].toArray w fun e w' => e = .returned (str (prt false 0 t)) ∧ Ext w w' := by
 refine CW.enter1 Tryz.func15 rfl Tryz.ntmps15 (Nat.le_of_ble_eq_true rfl) fun Q hE => ?_
 have hS : St w M w M [] := St.start hM
 refine CW.weaken [0] (L' := [Y 0 vv]) ?_ rfl
 refine CW.sr (RL.u (.assign .c) rfl (RL.nil (CW.id (CW.sr ?_))))
 refine RL.alloc hS Tryz.zeroValue67 rfl (fun w1 b2 hS3 => ?_)
 have hS4 := hS3.ownNil 5 1
 refine RL.nil (CW.id (CW.sr (RL.m rfl rfl ?_)))
 replace hS4 := (hS4.front 0 rfl rfl).front 1 rfl rfl
 refine RL.callP Tryz.call31 (.cons (.t rfl) (.cons (.t rfl) (.cons .c (.cons .c .nil)))) (print_all _ t (Nat.lt_succ_self _) (Rs := []) b2 ((.pointer none)) (([] : List Int)) false t.flat 0 0 (.slice none 0 0) vv hS4 (by first | exact Or.inr rfl | exact Or.inl rfl | assumption) hv (SegAt.top t) hok hg (by omega) (by omega) (by simp only [len_nil]; omega)) rfl ?_
 rintro v6 w7 ⟨vb5, M8, rfl, hS9, hle10⟩
 replace hv := hv.mono hle10
 refine RL.nil (CW.at [Y 3 (.pointer (some ⟨b2, 0, none⟩))] rfl (CW.sr (RL.u (.fldA (q := ⟨b2, 0, none⟩) (.t rfl) (fun w => by kernel_rfl)) rfl ?_)))
 replace hS9 := (hS9.front 1 rfl rfl).front 1 rfl rfl
 refine RL.callP Tryz.call32 (.cons (.t rfl) .nil) (stringE_c (Rs := []) b2 ((selfP b2)) vb5 (.bool false) (prt false 0 t) ((([] : List Int)) ++ ints (prt false 0 t)) hS9 rfl hne) rfl ?_
 rintro _ w11 ⟨rfl, hE12⟩
 have hS13 : St w M w11 M [] := (St.start hM).ext hE12
 refine RL.a rfl rfl ?_
 refine RL.nil (CW.at [Y 2 (str (prt false 0 t))] rfl (CW.ret (hE.r1 rfl rfl ?_)))
 exact ⟨rfl, hS13.low⟩

/- loupe/text.Indent -/
theorem indent_c (M : Mem) (t : Tr) (vv : Value) (w : World) (hM : Sat w M) (hv : Sl M 6 t.flat.length vv (t.flat.flatMap Nd.cells)) (hok : t.ok) (hg : Gl w) (hsz : (t.size : Int) ≤ 1000000) (hlen : len (prt true 0 t) ≤ 17592186044416) (hne : prt true 0 t ≠ []) :
  Calls Tryz.prog 17 [vv].toArray w fun e w' => e = .returned (str (prt true 0 t)) ∧ Ext w w' := by
 refine CW.enter1 Tryz.func17 rfl Tryz.ntmps17 (Nat.le_of_ble_eq_true rfl) fun Q hE => ?_
 have hS : St w M w M [] := St.start hM
 refine CW.weaken [0] (L' := [Y 0 vv]) ?_ rfl
 refine CW.sr (RL.u (.assign .c) rfl (RL.nil (CW.id (CW.sr ?_))))
 refine RL.u (.build (vs := [(1, (.bool true))]) (v := (.agg #[(.pointer none), (.slice none 0 0), (.bool true)])) (.cons .c .nil) (fun w => by kernel_rfl)) rfl ?_
 refine RL.alloc hS Tryz.zeroValue67 rfl (fun w1 b2 hS3 => ?_)
 have hS4 := hS3.ownNil 5 1
 refine RL.st hS4 (i := 1) rfl (.t rfl) (.t rfl) Tryz.sizeOf67 rfl rfl rfl rfl rfl (fun w5 hS6 => (RL.nil (CW.id ?_)))
 refine CW.sr (RL.m rfl rfl ?_)
 replace hS6 := (hS6.front 0 rfl rfl).front 1 rfl rfl
 refine RL.callP Tryz.call31 (.cons (.t rfl) (.cons (.t rfl) (.cons .c (.cons .c .nil)))) (print_all _ t (Nat.lt_succ_self _) (Rs := []) b2 ((.pointer none)) (([] : List Int)) true t.flat 0 0 (.slice none 0 0) vv hS6 (by first | exact Or.inr rfl | exact Or.inl rfl | assumption) hv (SegAt.top t) hok hg (by omega) (by omega) (by simp only [len_nil]; omega)) rfl ?_
 rintro v8 w9 ⟨vb7, M10, rfl, hS11, hle12⟩
 replace hv := hv.mono hle12
 refine RL.nil (CW.at [Y 3 (.pointer (some ⟨b2, 0, none⟩))] rfl (CW.sr (RL.u (.fldA (q := ⟨b2, 0, none⟩) (.t rfl) (fun w => by kernel_rfl)) rfl ?_)))
 replace hS11 := (hS11.front 1 rfl rfl).front 1 rfl rfl
 refine RL.callP Tryz.call32 (.cons (.t rfl) .nil) (stringE_c (Rs := []) b2 ((selfP b2)) vb7 (.bool true) (prt true 0 t) ((([] : List Int)) ++ ints (prt true 0 t)) hS11 rfl hne) rfl ?_
 rintro _ w13 ⟨rfl, hE14⟩
 have hS15 : St w M w13 M [] := (St.start hM).ext hE14
 refine RL.a rfl rfl ?_
 refine RL.nil (CW.at [Y 2 (str (prt true 0 t))] rfl (CW.ret (hE.r1 rfl rfl ?_)))
 exact ⟨rfl, hS15.low⟩

end Go.Proofs.YtjfaikgooldcbaaGreatDoor
namespace Go.Eng
def aliveT : Tr := .mk ⟨6, 1, [], [], false, 0⟩ [.mk ⟨5, 2, [97], [], false, 0⟩ [.mk ⟨2, 0, [], [], false, 0⟩ [], .mk ⟨0, 0, [], [], false, 0⟩ []]]
def alive1 : Str := [32, 123, 34, 97, 34, 58, 49, 44, 32, 34, 97, 34, 58, 91, 116, 114, 117, 101, 44, 32, 110, 117, 108, 108, 93, 125, 32]
def alive2 : Str := [91, 49, 44, 93]
set_option maxRecDepth 100000 in
theorem alive_p1 : parseT alive1 = (aliveT.flat, 0, 0) := by decide +kernel
set_option maxRecDepth 100000 in
theorem alive_p2 : parseT alive2 = ([], 3, 1) := by decide +kernel
theorem alive_ok : aliveT.ok := by
  simp [aliveT, Tr.ok, okL, len]
end Go.Eng
