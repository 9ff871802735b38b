import Derived.Test.YthdialbnlnjgpaaGreatDoorEngL
import Derived.Laws.BitsLemmas
import Derived.Test.YthdialbnlnjgpaaGreatDoorPure
import Derived.Test.YthdialbnlnjgpaaGreatDoorProg
import Derived.Test.YthdialbnlnjgpaaGreatDoorR1
set_option linter.unusedVariables false
set_option linter.unusedSimpArgs false
namespace Go.Proofs.YthdialbnlnjgpaaGreatDoor
open Go.Eng

/- loupe/louperef08.Same -/
set_option maxRecDepth 100000 in
theorem same8_c (M : Mem) (a b : List Tk) (p : Bool) (va vb : Value) (w : World) (hM : Sat w M) (ha : Sl M 9 a.length va (a.flatMap Tk.cells)) (hb : Sl M 9 b.length vb (b.flatMap Tk.cells)) :
  Calls Tryz.prog 11 [(va), (vb), (.bool p)].toArray w fun e w' => e = .returned (.bool (sameTk a b p)) ∧ Ext w w' := by
 refine CW.enter Tryz.func11 rfl Tryz.ntmps11 (Nat.le_of_ble_eq_true rfl) ?_
 have := len_nonneg a
 have hla : len a ≤ 9223372036854775807 := ha.le
 have hS : St w M w M [] := St.start hM
 refine CW.weaken [0, 1, 2] (L' := [Y 0 (va), Y 1 (vb), Y 2 (.bool p)]) ?_ rfl
 refine CW.sr ?_
 refine RL.u (.assign .c) rfl ?_
 refine RL.nil (CW.at [Y 0 (va), Y 1 (vb), Y 2 (.bool p)] rfl ?_)
 refine CW.seq ?_
 refine CW.sr ?_
 refine RL.m rfl rfl (RL.u (.lenT ha (.t rfl) ⟨_, Tryz.underlying23⟩) rfl (RL.m rfl rfl (RL.u (.lenT hb (.t rfl) ⟨_, Tryz.underlying23⟩) rfl (RL.u (.neq (.t rfl) (.t rfl)) rfl ?_))))
 refine RL.nil (CW.at [Y 0 (va), Y 1 (vb), Y 2 (.bool p), Y 14 (.bool ((len (a)) != (len (b))))] rfl ?_)
 refine CW.cond rfl (fun hb1 => ?_) (fun hb1 => ?_)
 ·try simp only [zb] at hb1
  refine CW.sr ?_
  refine RL.u (.assign .c) rfl ?_
  refine RL.nil (CW.at [Y 6 (.bool false)] rfl ?_)
  refine CW.ret (ret1 (P := Tryz.prog) (fn := Tryz.f11) (R := fun e w' => e = .returned (.bool (sameTk a b p)) ∧ Ext w w') rfl rfl ?_)
  exact ⟨by rw [sameTk_len hb1], hS.low⟩
 ·try simp only [zb] at hb1
  refine CW.skip (CW.at [Y 0 (va), Y 1 (vb), Y 2 (.bool p)] rfl ?_)
  refine CW.seq ?_
  refine CW.sr ?_
  refine RL.u (.assign .c) rfl ?_
  refine RL.nil (CW.at [Y 0 (va), Y 1 (vb), Y 2 (.bool p), Y 7 (i64 0)] rfl ?_)
  refine CW.block ?_
  refine CW.loop (σ := Int) (fun k => [Y 0 (va), Y 1 (vb), Y 2 (.bool p), Y 7 (i64 k)]) (fun k wl => St w M wl M [] ∧ Sl M 9 (a).length (va) ((a).flatMap Tk.cells) ∧ Sl M 9 (b).length (vb) ((b).flatMap Tk.cells) ∧ 0 ≤ k ∧ k ≤ len a ∧ sameTo a b p k) (fun k => (len a - k).toNat) (0) [0, 1, 2, 7] rfl ?_ ?_
  ·refine ⟨hS, ha, hb, ?_⟩; exact ⟨by omega, by omega, rfl⟩
  ·rintro k wl ⟨hS1, ha, hb, hk0, hk1, hkF⟩
   refine CW.seq ?_
   refine CW.sr ?_
   refine RL.m rfl rfl (RL.m rfl rfl (RL.u (.lenT ha (.t rfl) ⟨_, Tryz.underlying23⟩) rfl (RL.u (.lss (.t rfl) (.t rfl)) rfl ?_)))
   refine RL.nil (CW.at [Y 0 (va), Y 1 (vb), Y 2 (.bool p), Y 7 (i64 k), Y 18 (.bool (decide ((k) < (len (a)))))] rfl ?_)
   refine CW.cond rfl (fun hb2 => ?_) (fun hb2 => ?_)
   ·try simp only [zb] at hb2
    refine CW.skip (CW.at [Y 0 (va), Y 1 (vb), Y 2 (.bool p), Y 7 (i64 k)] rfl ?_)
    refine CW.seq ?_
    refine CW.block ?_
    refine CW.sr ?_
    refine RL.m rfl rfl (RL.m rfl rfl (RL.u (.idxT ha (.t rfl) (.t rfl) Tryz.underlying23 Tryz.sizeOf33 (fun _ => by omega)) rfl (RL.u (.loadEN (f := Tk.cells) (i := k) hS1 extEq ha Tk.cells_len (.t rfl) Tryz.isAgg33 Tryz.sizeOf33 (fun _ => by omega)) rfl ?_)))
    refine RL.alloc hS1 Tryz.zeroValue33 rfl (fun w2 b3 hS4 => ?_)
    replace hS4 : St w M w2 M [.box b3 [(i64 0), (str []), (i64 0), (i64 0), (str []), (str []), (.bool false), (i64 0), (i64 0)] 33] := hS4
    refine RL.st hS4 (i := 0) rfl (.t rfl) (.t rfl) Tryz.sizeOf33 rfl rfl rfl (Hs' := [.box b3 (tkC (at' (a) (k)) []) 33]) rfl rfl (fun w5 hS6 => ?_)
    refine RL.nil (CW.at [Y 0 (va), Y 1 (vb), Y 2 (.bool p), Y 7 (i64 k), Y 8 (.pointer (some ⟨b3, 0, none⟩))] rfl ?_)
    refine CW.sr ?_
    refine RL.m rfl rfl (RL.m rfl rfl (RL.u (.idxT hb (.t rfl) (.t rfl) Tryz.underlying23 Tryz.sizeOf33 (fun _ => by omega)) rfl (RL.u (.loadEN (f := Tk.cells) (i := k) hS6 extEq hb Tk.cells_len (.t rfl) Tryz.isAgg33 Tryz.sizeOf33 (fun _ => by omega)) rfl ?_)))
    refine RL.alloc hS6 Tryz.zeroValue33 rfl (fun w7 b8 hS9 => ?_)
    replace hS9 : St w M w7 M [.box b8 [(i64 0), (str []), (i64 0), (i64 0), (str []), (str []), (.bool false), (i64 0), (i64 0)] 33, .box b3 (tkC (at' (a) (k)) []) 33] := hS9
    refine RL.st hS9 (i := 0) rfl (.t rfl) (.t rfl) Tryz.sizeOf33 rfl rfl rfl (Hs' := [.box b8 (tkC (at' (b) (k)) []) 33, .box b3 (tkC (at' (a) (k)) []) 33]) rfl rfl (fun w10 hS11 => ?_)
    refine RL.nil (CW.at [Y 0 (va), Y 1 (vb), Y 2 (.bool p), Y 7 (i64 k), Y 8 (.pointer (some ⟨b3, 0, none⟩)), Y 9 (.pointer (some ⟨b8, 0, none⟩))] rfl ?_)
    refine CW.seq ?_
    refine CW.sr ?_
    refine RL.m rfl rfl (RL.u (.not (.t rfl)) rfl ?_)
    refine RL.nil (CW.at [Y 0 (va), Y 1 (vb), Y 2 (.bool p), Y 7 (i64 k), Y 8 (.pointer (some ⟨b3, 0, none⟩)), Y 9 (.pointer (some ⟨b8, 0, none⟩)), Y 30 (.bool (!(p)))] rfl ?_)
    refine CW.cond rfl (fun hb3 => ?_) (fun hb3 => ?_)
    ·try simp only [zb] at hb3
     have hp : p = false := by simpa using hb3
     refine CW.sr ?_
     refine RL.u (.fldA (q := ⟨b3, 8, none⟩) (.t rfl) (fun w => by kernel_rfl)) rfl ?_
     refine RL.st (v := (i64 0)) hS11 (i := 1) rfl (.t rfl) .c Tryz.sizeOf3 rfl rfl rfl (Hs' := [.box b8 (tkC (at' (b) (k)) []) 33, .box b3 ((i64 ((at' (a) (k)).kind)) :: ((str ((at' (a) (k)).s)) :: (ndC ((at' (a) (k)).c) ((i64 0) :: [])))) 33]) rfl rfl (fun w12 hS13 => ?_)
     refine RL.nil (CW.at [Y 0 (va), Y 1 (vb), Y 2 (.bool p), Y 7 (i64 k), Y 8 (.pointer (some ⟨b3, 0, none⟩)), Y 9 (.pointer (some ⟨b8, 0, none⟩))] rfl ?_)
     refine CW.region ?_
     refine RL.u (.fldA (q := ⟨b8, 8, none⟩) (.t rfl) (fun w => by kernel_rfl)) rfl ?_
     refine RL.st (v := (i64 0)) hS13 (i := 0) rfl (.t rfl) .c Tryz.sizeOf3 rfl rfl rfl (Hs' := [.box b8 ((i64 ((at' (b) (k)).kind)) :: ((str ((at' (b) (k)).s)) :: (ndC ((at' (b) (k)).c) ((i64 0) :: [])))) 33, .box b3 ((i64 ((at' (a) (k)).kind)) :: ((str ((at' (a) (k)).s)) :: (ndC ((at' (a) (k)).c) ((i64 0) :: [])))) 33]) rfl rfl (fun w14 hS15 => ?_)
     refine RL.nil (CW.at [Y 0 (va), Y 1 (vb), Y 2 (.bool p), Y 7 (i64 k), Y 8 (.pointer (some ⟨b3, 0, none⟩)), Y 9 (.pointer (some ⟨b8, 0, none⟩))] rfl ?_)
     refine CW.sr ?_
     refine RL.u (.loadBN (vs := ((i64 ((at' (a) (k)).kind)) :: ((str ((at' (a) (k)).s)) :: (ndC ((at' (a) (k)).c) ((i64 0) :: []))))) hS15 extEq (i := 1) rfl (.t rfl) Tryz.isAgg33 Tryz.sizeOf33 rfl rfl) rfl (RL.u (.loadBN (vs := ((i64 ((at' (b) (k)).kind)) :: ((str ((at' (b) (k)).s)) :: (ndC ((at' (b) (k)).c) ((i64 0) :: []))))) hS15 extEq (i := 0) rfl (.t rfl) Tryz.isAgg33 Tryz.sizeOf33 rfl rfl) rfl (RL.u (.bin (v := .bool (!(decide (((⟨(at' (a) (k)).kind, (at' (a) (k)).s, (at' (a) (k)).c, 0⟩ : Tk) : Tk) = (⟨(at' (b) (k)).kind, (at' (b) (k)).s, (at' (b) (k)).c, 0⟩ : Tk))))) (.t rfl) (.t rfl) (fun _ w _ => neTk _ _ ((⟨(at' (a) (k)).kind, (at' (a) (k)).s, (at' (a) (k)).c, 0⟩ : Tk)) ((⟨(at' (b) (k)).kind, (at' (b) (k)).s, (at' (b) (k)).c, 0⟩ : Tk)) w)) rfl ?_))
     refine RL.nil (CW.at [Y 0 (va), Y 1 (vb), Y 2 (.bool p), Y 7 (i64 k), Y 35 (.bool (!(decide (((⟨(at' (a) (k)).kind, (at' (a) (k)).s, (at' (a) (k)).c, 0⟩ : Tk) : Tk) = (⟨(at' (b) (k)).kind, (at' (b) (k)).s, (at' (b) (k)).c, 0⟩ : Tk)))))] rfl ?_)
     refine CW.cond rfl (fun hb4 => ?_) (fun hb4 => ?_)
     ·try simp only [zb] at hb4
      refine CW.sr ?_
      refine RL.u (.assign .c) rfl ?_
      refine RL.nil (CW.at [Y 6 (.bool false)] rfl ?_)
      refine CW.ret (ret1 (P := Tryz.prog) (fn := Tryz.f11) (R := fun e w' => e = .returned (.bool (sameTk a b p)) ∧ Ext w w') rfl rfl ?_)
      exact ⟨by rw [sameTk_bad hk0 (by omega) (by omega) (by subst hp; exact hb4)], hS15.low⟩
     ·try simp only [zb] at hb4
      refine CW.skip (CW.at [Y 0 (va), Y 1 (vb), Y 2 (.bool p), Y 7 (i64 k)] rfl ?_)
      refine CW.region ?_
      refine RL.m rfl rfl (RL.u (.add (.t rfl) .c (fun _ => by omega)) rfl (RL.a rfl rfl ?_))
      replace hS15 : St w M w14 M [.box b8 ((i64 ((at' (b) (k)).kind)) :: ((str ((at' (b) (k)).s)) :: (ndC ((at' (b) (k)).c) ((i64 0) :: [])))) 33] := hS15.erase 1 rfl
      replace hS15 : St w M w14 M [] := hS15.erase 0 rfl
      refine RL.nil fun a hs => Exists.intro (k + 1) ⟨hs.keep [0, 1, 2, 7], ?_, ?_⟩
      ·refine ⟨hS15, ha, hb, ?_⟩
       exact ⟨by omega, by omega, sameTo_step hkF hk0 (by omega) (by omega) (by subst hp; exact hb4)⟩
      ·show Int.toNat _ < Int.toNat _; omega
    ·try simp only [zb] at hb3
     have hp : p = true := by simpa using hb3
     refine CW.skip (CW.at [Y 0 (va), Y 1 (vb), Y 2 (.bool p), Y 7 (i64 k), Y 8 (.pointer (some ⟨b3, 0, none⟩)), Y 9 (.pointer (some ⟨b8, 0, none⟩))] rfl ?_)
     refine CW.sr ?_
     refine RL.u (.loadBN (vs := (tkC (at' (a) (k)) [])) hS11 extEq (i := 1) rfl (.t rfl) Tryz.isAgg33 Tryz.sizeOf33 rfl rfl) rfl (RL.u (.loadBN (vs := (tkC (at' (b) (k)) [])) hS11 extEq (i := 0) rfl (.t rfl) Tryz.isAgg33 Tryz.sizeOf33 rfl rfl) rfl (RL.u (.bin (v := .bool (!(decide ((at' (a) (k) : Tk) = at' (b) (k))))) (.t rfl) (.t rfl) (fun _ w _ => neTk _ _ (at' (a) (k)) (at' (b) (k)) w)) rfl ?_))
     refine RL.nil (CW.at [Y 0 (va), Y 1 (vb), Y 2 (.bool p), Y 7 (i64 k), Y 35 (.bool (!(decide ((at' (a) (k) : Tk) = at' (b) (k)))))] rfl ?_)
     refine CW.cond rfl (fun hb5 => ?_) (fun hb5 => ?_)
     ·try simp only [zb] at hb5
      refine CW.sr ?_
      refine RL.u (.assign .c) rfl ?_
      refine RL.nil (CW.at [Y 6 (.bool false)] rfl ?_)
      refine CW.ret (ret1 (P := Tryz.prog) (fn := Tryz.f11) (R := fun e w' => e = .returned (.bool (sameTk a b p)) ∧ Ext w w') rfl rfl ?_)
      exact ⟨by rw [sameTk_bad hk0 (by omega) (by omega) (by subst hp; exact hb5)], hS11.low⟩
     ·try simp only [zb] at hb5
      refine CW.skip (CW.at [Y 0 (va), Y 1 (vb), Y 2 (.bool p), Y 7 (i64 k)] rfl ?_)
      refine CW.region ?_
      refine RL.m rfl rfl (RL.u (.add (.t rfl) .c (fun _ => by omega)) rfl (RL.a rfl rfl ?_))
      replace hS11 : St w M w10 M [.box b8 (tkC (at' (b) (k)) []) 33] := hS11.erase 1 rfl
      replace hS11 : St w M w10 M [] := hS11.erase 0 rfl
      refine RL.nil fun a hs => Exists.intro (k + 1) ⟨hs.keep [0, 1, 2, 7], ?_, ?_⟩
      ·refine ⟨hS11, ha, hb, ?_⟩
       exact ⟨by omega, by omega, sameTo_step hkF hk0 (by omega) (by omega) (by subst hp; exact hb5)⟩
      ·show Int.toNat _ < Int.toNat _; omega
   ·try simp only [zb] at hb2
    refine CW.exit (CW.at [] rfl ?_)
    refine CW.sr ?_
    refine RL.u (.assign .c) rfl ?_
    refine RL.nil (CW.at [Y 6 (.bool true)] rfl ?_)
    refine CW.ret (ret1 (P := Tryz.prog) (fn := Tryz.f11) (R := fun e w' => e = .returned (.bool (sameTk a b p)) ∧ Ext w w') rfl rfl ?_)
    exact ⟨by rw [sameTk_end hkF (by omega) (by omega)], hS1.low⟩

/- loupe/louperef08.Right -/
set_option maxRecDepth 100000 in
theorem right8_c (t : Tk) (w : World) (hs : len t.s ≤ 9223372036854775807) (hcs : len t.c.s ≤ 9223372036854775807) :
  Calls Tryz.prog 19 [(tkV t)].toArray w fun e w' => e = .returned (.bool (right8 t)) ∧ Ext w w' := by
 refine CW.enter Tryz.func19 rfl Tryz.ntmps19 (Nat.le_of_ble_eq_true rfl) ?_
 have hm17 : len marks8 = 17 := rfl
 have hS : St w (fun _ _ => none) w (fun _ _ => none) [] := St.start ⟨fun _ _ _ h => by cases h⟩
 refine CW.weaken [0] (L' := [Y 0 (tkV t)]) ?_ rfl
 refine CW.sr ?_
 refine RL.box (v := (tkV t)) hS (.t rfl) rfl (fun w1 b2 hS3 => ?_)
 replace hS3 : St w (fun _ _ => none) w1 (fun _ _ => none) [.box b2 (tkC t []) 33] := hS3
 refine RL.u (.assign .c) rfl ?_
 refine RL.nil (CW.at [Y 1 (.pointer (some ⟨b2, 0, none⟩))] rfl ?_)
 refine CW.seq ?_
 refine CW.sr ?_
 refine RL.u (.fldA (q := ⟨b2, 0, none⟩) (.t rfl) (fun w => by kernel_rfl)) rfl (RL.u (.loadB1 (v := (i64 ((t).kind))) hS3 extEq (i := 0) rfl (.t rfl) Tryz.isAgg3 rfl) rfl ?_)
 refine RL.nil (CW.at [Y 1 (.pointer (some ⟨b2, 0, none⟩)), Y 6 (i64 ((t).kind))] rfl ?_)
 refine CW.block ?_
 refine CW.sr ?_
 refine RL.u (.eql (.t rfl) .c) rfl (RL.a rfl rfl ?_)
 refine RL.nil (CW.at [Y 1 (.pointer (some ⟨b2, 0, none⟩)), Y 6 (i64 ((t).kind)), Y 7 (.bool (((t).kind) == (1)))] rfl ?_)
 refine CW.cond rfl (fun hb1 => ?_) (fun hb1 => ?_)
 ·try simp only [zb] at hb1
  refine CW.sr ?_
  refine RL.callM hS3 Tryz.call36 .nil ((marks8_c (fun _ _ => none) _ hS3.sat)) rfl ?_
  rintro v4 w5 M6 hS7 hle8 hsl_v4
  refine RL.a rfl rfl ?_
  refine RL.nil (CW.at [Y 1 (.pointer (some ⟨b2, 0, none⟩)), Y 3 (v4)] rfl ?_)
  refine CW.seq ?_
  refine CW.sr ?_
  refine RL.u (.assign .c) rfl ?_
  refine RL.nil (CW.at [Y 1 (.pointer (some ⟨b2, 0, none⟩)), Y 3 (v4), Y 4 (i64 0)] rfl ?_)
  refine CW.block ?_
  refine CW.loop (σ := Int) (fun k => [Y 1 (.pointer (some ⟨b2, 0, none⟩)), Y 3 (v4), Y 4 (i64 k)]) (fun k wl => St w (fun _ _ => none) wl M6 [.box b2 (tkC t []) 33] ∧ Sl M6 1 (marks8).length (v4) ((marks8).flatMap strC) ∧ 0 ≤ k ∧ k ≤ len marks8 ∧ (Eng.sub marks8 0 k).contains t.s = false) (fun k => (len marks8 - k).toNat) (0) [1, 3, 4] rfl ?_ ?_
  ·refine ⟨hS7, hsl_v4, ?_⟩; exact ⟨by omega, by decide, rfl⟩
  ·rintro k wl ⟨hS10, hsl_v4, hk0, hk1, hkF⟩
   refine CW.seq ?_
   refine CW.sr ?_
   refine RL.m rfl rfl (RL.m rfl rfl (RL.u (.lenT hsl_v4 (.t rfl) ⟨_, Tryz.underlying60⟩) rfl (RL.u (.lss (.t rfl) (.t rfl)) rfl ?_)))
   refine RL.nil (CW.at [Y 1 (.pointer (some ⟨b2, 0, none⟩)), Y 3 (v4), Y 4 (i64 k), Y 13 (.bool (decide ((k) < (len (marks8)))))] rfl ?_)
   refine CW.cond rfl (fun hb2 => ?_) (fun hb2 => ?_)
   ·try simp only [zb] at hb2
    refine CW.skip (CW.at [Y 1 (.pointer (some ⟨b2, 0, none⟩)), Y 3 (v4), Y 4 (i64 k)] rfl ?_)
    refine CW.seq ?_
    refine CW.block ?_
    refine CW.seq ?_
    refine CW.regionD hS10 tryz_mixed (by decide +kernel) ?_
    refine RQ.v .none (.move (.t rfl)) rfl ?_
    refine RQ.v .none (.move (.t rfl)) rfl ?_
    refine RQ.v .none (.idxT hsl_v4 (.t rfl) (.t rfl) Tryz.underlying60 Tryz.sizeOf9 (fun _ => by omega)) rfl ?_
    refine RQ.v .none (.loadE1 (f := strC) (i := k) (j := 0) (u := (str (at' (marks8) (k)))) hS10 (fun _ h => h) hsl_v4 strC_len (.t rfl) Tryz.isAgg9 (fun _ => by omega) rfl rfl) rfl ?_
    refine RQ.v .none (.fldA (q := ⟨b2, 1, none⟩) (.t rfl) (fun w => by kernel_rfl)) rfl ?_
    refine RQ.v .none (.loadB1 (v := (str ((t).s))) hS10 (fun _ h => h) (i := 0) rfl (.t rfl) Tryz.isAgg9 rfl) rfl ?_
    refine RQ.v .none (.seql (.t rfl) (.t rfl)) rfl ?_
    refine RQ.nil (fun a hs w11 hS12 => CW.at [Y 1 (.pointer (some ⟨b2, 0, none⟩)), Y 3 (v4), Y 4 (i64 k), Y 22 (.bool ((at' (marks8) (k)) == ((t).s)))] rfl ?_ a hs)
    refine CW.cond rfl (fun hb3 => ?_) (fun hb3 => ?_)
    ·try simp only [zb] at hb3
     refine CW.sr ?_
     refine RL.u (.fldA (q := ⟨b2, 2, none⟩) (.t rfl) (fun w => by kernel_rfl)) rfl (RL.u (.loadBN (vs := (ndC ((t).c) [])) hS12 extEq (i := 0) rfl (.t rfl) Tryz.isAgg31 Tryz.sizeOf31 rfl rfl) rfl (RL.u (.build (vs := []) (v := (.agg #[(i64 0), (i64 0), (str []), (str []), (.bool false), (i64 0)])) .nil (fun w => by kernel_rfl)) rfl (RL.u (.bin (v := .bool ((decide (((t).c : Nd) = ⟨0, 0, [], [], false, 0⟩)))) (.t rfl) (.t rfl) (fun _ w _ => eqNd _ _ ((t).c) (⟨0, 0, [], [], false, 0⟩) w)) rfl (RL.a rfl rfl ?_))))
     refine RL.nil (CW.at [Y 2 (.bool ((decide (((t).c : Nd) = ⟨0, 0, [], [], false, 0⟩))))] rfl ?_)
     refine CW.ret (ret1 (P := Tryz.prog) (fn := Tryz.f19) (R := fun e w' => e = .returned (.bool (right8 t)) ∧ Ext w w') rfl rfl ?_)
     exact ⟨by unfold right8; rw [if_pos (by rw [hb1]; rfl), show isMark8 t.s = true from mark_at hk0 hb2 hb3, Bool.true_and]; rfl, hS12.low⟩
    ·try simp only [zb] at hb3
     refine CW.skip (CW.at [Y 1 (.pointer (some ⟨b2, 0, none⟩)), Y 3 (v4), Y 4 (i64 k)] rfl ?_)
     refine CW.region ?_
     refine RL.m rfl rfl (RL.u (.add (.t rfl) .c (fun _ => by omega)) rfl (RL.a rfl rfl ?_))
     refine RL.nil fun a hs => Exists.intro (k + 1) ⟨hs.keep [1, 3, 4], ?_, ?_⟩
     ·refine ⟨hS12, hsl_v4, ?_⟩
      exact ⟨by omega, by omega, notMark_step hkF hk0 (by omega) hb3⟩
     ·show Int.toNat _ < Int.toNat _; omega
   ·try simp only [zb] at hb2
    refine CW.exit (CW.at [] rfl ?_)
    refine CW.sr ?_
    refine RL.u (.assign .c) rfl ?_
    refine RL.nil (CW.at [Y 2 (.bool false)] rfl ?_)
    refine CW.ret (ret1 (P := Tryz.prog) (fn := Tryz.f19) (R := fun e w' => e = .returned (.bool (right8 t)) ∧ Ext w w') rfl rfl ?_)
    exact ⟨by rw [sub_all _ _ (by omega)] at hkF; unfold right8; rw [if_pos (by rw [hb1]; rfl), show isMark8 t.s = false from hkF, Bool.false_and], hS10.low⟩
 ·try simp only [zb] at hb1
  refine CW.sr ?_
  refine RL.u (.eql (.t rfl) .c) rfl (RL.a rfl rfl ?_)
  refine RL.nil (CW.at [Y 1 (.pointer (some ⟨b2, 0, none⟩)), Y 6 (i64 ((t).kind)), Y 27 (.bool (((t).kind) == (2)))] rfl ?_)
  refine CW.cond rfl (fun hb4 => ?_) (fun hb4 => ?_)
  ·try simp only [zb] at hb4
   refine CW.sr ?_
   refine RL.u (.fldA (q := ⟨b2, 1, none⟩) (.t rfl) (fun w => by kernel_rfl)) rfl (RL.u (.loadB1 (v := (str ((t).s))) hS3 extEq (i := 0) rfl (.t rfl) Tryz.isAgg9 rfl) rfl ?_)
   refine RL.callS .none Tryz.call38 (.cons (.t rfl) .nil) (fun _ => (word6_c ((t).s) _ (by omega))) rfl ?_
   refine RL.m rfl rfl (RL.v (.pos rfl rfl) (.fldA (q := ⟨b2, 2, none⟩) (.t rfl) (fun w => by kernel_rfl)) rfl (RL.v (.pos rfl rfl) (.loadBN (vs := (ndC ((t).c) [])) hS3 extEq (i := 0) rfl (.g rfl (fun h => h)) Tryz.isAgg31 Tryz.sizeOf31 rfl rfl) rfl (RL.v (.pos rfl rfl) (.build (vs := []) (v := (.agg #[(i64 0), (i64 0), (str []), (str []), (.bool false), (i64 0)])) .nil (fun w => by kernel_rfl)) rfl (RL.v (.pos rfl rfl) (.bin (v := .bool ((decide (((t).c : Nd) = ⟨0, 0, [], [], false, 0⟩)))) (.g rfl (fun h => h)) (.g rfl (fun h => h)) (fun _ w _ => eqNd _ _ ((t).c) (⟨0, 0, [], [], false, 0⟩) w)) rfl (RL.u (.and (.t rfl) (.g rfl (fun h => h))) rfl ?_)))))
   refine RL.a rfl rfl ?_
   refine RL.nil (CW.at [Y 2 (.bool ((word6 ((t).s)) && ((decide (((t).c : Nd) = ⟨0, 0, [], [], false, 0⟩)))))] rfl ?_)
   refine CW.ret (ret1 (P := Tryz.prog) (fn := Tryz.f19) (R := fun e w' => e = .returned (.bool (right8 t)) ∧ Ext w w') rfl rfl ?_)
   first
    | exact ⟨by first | (simp_all [right8, noNd]; done) | (simp_all [right8, noNd]; rfl), hS3.low⟩
    | (exfalso; omega)
  ·try simp only [zb] at hb4
   refine CW.seq ?_
   refine CW.sr ?_
   refine RL.u (.eql (.t rfl) .c) rfl (RL.a rfl rfl ?_)
   refine RL.nil (CW.at [Y 1 (.pointer (some ⟨b2, 0, none⟩)), Y 6 (i64 ((t).kind)), Y 38 (.bool (((t).kind) == (3)))] rfl ?_)
   refine CW.cond rfl (fun hb5 => ?_) (fun hb5 => ?_)
   ·try simp only [zb] at hb5
    refine CW.skip (CW.at [Y 1 (.pointer (some ⟨b2, 0, none⟩)), Y 6 (i64 ((t).kind)), Y 38 (.bool (((t).kind) == (3)))] rfl ?_)
    refine CW.cond rfl (fun hb6 => ?_) (fun hb6 => ?_)
    ·try simp only [zb] at hb6
     refine CW.sr ?_
     refine RL.u (.fldA (q := ⟨b2, 1, none⟩) (.t rfl) (fun w => by kernel_rfl)) rfl (RL.u (.loadB1 (v := (str ((t).s))) hS3 extEq (i := 0) rfl (.t rfl) Tryz.isAgg9 rfl) rfl ?_)
     refine RL.callS .none Tryz.call39 (.cons (.t rfl) .nil) (fun _ => (utf_c ((t).s) _ (by omega))) rfl ?_
     refine RL.m rfl rfl (RL.v (.pos rfl rfl) (.fldA (q := ⟨b2, 2, none⟩) (.t rfl) (fun w => by kernel_rfl)) rfl (RL.v (.pos rfl rfl) (.loadBN (vs := (ndC ((t).c) [])) hS3 extEq (i := 0) rfl (.g rfl (fun h => h)) Tryz.isAgg31 Tryz.sizeOf31 rfl rfl) rfl (RL.v (.pos rfl rfl) (.build (vs := []) (v := (.agg #[(i64 0), (i64 0), (str []), (str []), (.bool false), (i64 0)])) .nil (fun w => by kernel_rfl)) rfl (RL.v (.pos rfl rfl) (.bin (v := .bool ((decide (((t).c : Nd) = ⟨0, 0, [], [], false, 0⟩)))) (.g rfl (fun h => h)) (.g rfl (fun h => h)) (fun _ w _ => eqNd _ _ ((t).c) (⟨0, 0, [], [], false, 0⟩) w)) rfl (RL.u (.and (.t rfl) (.g rfl (fun h => h))) rfl ?_)))))
     refine RL.a rfl rfl ?_
     refine RL.nil (CW.at [Y 2 (.bool ((utf ((t).s)) && ((decide (((t).c : Nd) = ⟨0, 0, [], [], false, 0⟩)))))] rfl ?_)
     refine CW.ret (ret1 (P := Tryz.prog) (fn := Tryz.f19) (R := fun e w' => e = .returned (.bool (right8 t)) ∧ Ext w w') rfl rfl ?_)
     first
      | exact ⟨by first | (simp_all [right8, noNd]; done) | (simp_all [right8, noNd]; rfl), hS3.low⟩
      | (exfalso; omega)
    ·try simp only [zb] at hb6
     refine CW.sr ?_
     refine RL.u (.eql (.t rfl) .c) rfl (RL.a rfl rfl ?_)
     refine RL.nil (CW.at [Y 1 (.pointer (some ⟨b2, 0, none⟩)), Y 50 (.bool (((t).kind) == (5)))] rfl ?_)
     refine CW.cond rfl (fun hb7 => ?_) (fun hb7 => ?_)
     ·try simp only [zb] at hb7
      refine CW.sr ?_
      refine RL.u (.fldA (q := ⟨b2, 1, none⟩) (.t rfl) (fun w => by kernel_rfl)) rfl (RL.u (.loadB1 (v := (str ((t).s))) hS3 extEq (i := 0) rfl (.t rfl) Tryz.isAgg9 rfl) rfl (RL.u (.seql (.t rfl) .c) rfl (RL.m rfl rfl (RL.v (.pos rfl rfl) (.fldA (q := ⟨b2, 2, none⟩) (.t rfl) (fun w => by kernel_rfl)) rfl (RL.v (.pos rfl rfl) (.loadBN (vs := (ndC ((t).c) [])) hS3 extEq (i := 0) rfl (.g rfl (fun h => h)) Tryz.isAgg31 Tryz.sizeOf31 rfl rfl) rfl ?_)))))
      refine RL.callE hS3 (.pos rfl rfl) Tryz.call40 (.cons (.g rfl (fun h => h)) .nil) (fun hW => by simp only [zb] at hW; exact (right1_c ((t).c) _ (by omega))) rfl (fun w13 hS14 => ?_)
      refine RL.u (.and (.t rfl) (.g rfl (fun h => h))) rfl (RL.a rfl rfl ?_)
      refine RL.nil (CW.at [Y 2 (.bool ((((t).s) == ([])) && (right1 ((t).c))))] rfl ?_)
      refine CW.ret (ret1 (P := Tryz.prog) (fn := Tryz.f19) (R := fun e w' => e = .returned (.bool (right8 t)) ∧ Ext w w') rfl rfl ?_)
      first
       | exact ⟨by first | (simp_all [right8, noNd]; done) | (simp_all [right8, noNd]; rfl), hS14.low⟩
       | (exfalso; omega)
     ·try simp only [zb] at hb7
      refine CW.skip (CW.at [] rfl ?_)
      refine CW.sr ?_
      refine RL.u (.assign .c) rfl ?_
      refine RL.nil (CW.at [Y 2 (.bool false)] rfl ?_)
      refine CW.ret (ret1 (P := Tryz.prog) (fn := Tryz.f19) (R := fun e w' => e = .returned (.bool (right8 t)) ∧ Ext w w') rfl rfl ?_)
      first
       | exact ⟨by first | (simp_all [right8, noNd]; done) | (simp_all [right8, noNd]; rfl), hS3.low⟩
       | (exfalso; omega)
   ·try simp only [zb] at hb5
    refine CW.region ?_
    refine RL.u (.eql (.t rfl) .c) rfl (RL.a rfl rfl ?_)
    refine RL.nil (CW.at [Y 1 (.pointer (some ⟨b2, 0, none⟩)), Y 6 (i64 ((t).kind)), Y 38 (.bool (((t).kind) == (4)))] rfl ?_)
    refine CW.cond rfl (fun hb8 => ?_) (fun hb8 => ?_)
    ·try simp only [zb] at hb8
     refine CW.sr ?_
     refine RL.u (.fldA (q := ⟨b2, 1, none⟩) (.t rfl) (fun w => by kernel_rfl)) rfl (RL.u (.loadB1 (v := (str ((t).s))) hS3 extEq (i := 0) rfl (.t rfl) Tryz.isAgg9 rfl) rfl ?_)
     refine RL.callS .none Tryz.call39 (.cons (.t rfl) .nil) (fun _ => (utf_c ((t).s) _ (by omega))) rfl ?_
     refine RL.m rfl rfl (RL.v (.pos rfl rfl) (.fldA (q := ⟨b2, 2, none⟩) (.t rfl) (fun w => by kernel_rfl)) rfl (RL.v (.pos rfl rfl) (.loadBN (vs := (ndC ((t).c) [])) hS3 extEq (i := 0) rfl (.g rfl (fun h => h)) Tryz.isAgg31 Tryz.sizeOf31 rfl rfl) rfl (RL.v (.pos rfl rfl) (.build (vs := []) (v := (.agg #[(i64 0), (i64 0), (str []), (str []), (.bool false), (i64 0)])) .nil (fun w => by kernel_rfl)) rfl (RL.v (.pos rfl rfl) (.bin (v := .bool ((decide (((t).c : Nd) = ⟨0, 0, [], [], false, 0⟩)))) (.g rfl (fun h => h)) (.g rfl (fun h => h)) (fun _ w _ => eqNd _ _ ((t).c) (⟨0, 0, [], [], false, 0⟩) w)) rfl (RL.u (.and (.t rfl) (.g rfl (fun h => h))) rfl ?_)))))
     refine RL.a rfl rfl ?_
     refine RL.nil (CW.at [Y 2 (.bool ((utf ((t).s)) && ((decide (((t).c : Nd) = ⟨0, 0, [], [], false, 0⟩)))))] rfl ?_)
     refine CW.ret (ret1 (P := Tryz.prog) (fn := Tryz.f19) (R := fun e w' => e = .returned (.bool (right8 t)) ∧ Ext w w') rfl rfl ?_)
     first
      | exact ⟨by first | (simp_all [right8, noNd]; done) | (simp_all [right8, noNd]; rfl), hS3.low⟩
      | (exfalso; omega)
    ·try simp only [zb] at hb8
     refine CW.sr ?_
     refine RL.u (.eql (.t rfl) .c) rfl (RL.a rfl rfl ?_)
     refine RL.nil (CW.at [Y 1 (.pointer (some ⟨b2, 0, none⟩)), Y 50 (.bool (((t).kind) == (5)))] rfl ?_)
     refine CW.cond rfl (fun hb9 => ?_) (fun hb9 => ?_)
     ·try simp only [zb] at hb9
      refine CW.sr ?_
      refine RL.u (.fldA (q := ⟨b2, 1, none⟩) (.t rfl) (fun w => by kernel_rfl)) rfl (RL.u (.loadB1 (v := (str ((t).s))) hS3 extEq (i := 0) rfl (.t rfl) Tryz.isAgg9 rfl) rfl (RL.u (.seql (.t rfl) .c) rfl (RL.m rfl rfl (RL.v (.pos rfl rfl) (.fldA (q := ⟨b2, 2, none⟩) (.t rfl) (fun w => by kernel_rfl)) rfl (RL.v (.pos rfl rfl) (.loadBN (vs := (ndC ((t).c) [])) hS3 extEq (i := 0) rfl (.g rfl (fun h => h)) Tryz.isAgg31 Tryz.sizeOf31 rfl rfl) rfl ?_)))))
      refine RL.callE hS3 (.pos rfl rfl) Tryz.call40 (.cons (.g rfl (fun h => h)) .nil) (fun hW => by simp only [zb] at hW; exact (right1_c ((t).c) _ (by omega))) rfl (fun w15 hS16 => ?_)
      refine RL.u (.and (.t rfl) (.g rfl (fun h => h))) rfl (RL.a rfl rfl ?_)
      refine RL.nil (CW.at [Y 2 (.bool ((((t).s) == ([])) && (right1 ((t).c))))] rfl ?_)
      refine CW.ret (ret1 (P := Tryz.prog) (fn := Tryz.f19) (R := fun e w' => e = .returned (.bool (right8 t)) ∧ Ext w w') rfl rfl ?_)
      first
       | exact ⟨by first | (simp_all [right8, noNd]; done) | (simp_all [right8, noNd]; rfl), hS16.low⟩
       | (exfalso; omega)
     ·try simp only [zb] at hb9
      refine CW.skip (CW.at [] rfl ?_)
      refine CW.sr ?_
      refine RL.u (.assign .c) rfl ?_
      refine RL.nil (CW.at [Y 2 (.bool false)] rfl ?_)
      refine CW.ret (ret1 (P := Tryz.prog) (fn := Tryz.f19) (R := fun e w' => e = .returned (.bool (right8 t)) ∧ Ext w w') rfl rfl ?_)
      first
       | exact ⟨by first | (simp_all [right8, noNd]; done) | (simp_all [right8, noNd]; rfl), hS3.low⟩
       | (exfalso; omega)

/- loupe/loupelaw08.given -/
set_option maxRecDepth 100000 in
theorem given8_c (M : Mem) (l : List Tk) (v : Value) (w : World) (hM : Sat w M) (hl : Sl M 9 l.length v (l.flatMap Tk.cells)) (hb : ∀ t ∈ l, len t.s ≤ 9223372036854775807 ∧ len t.c.s ≤ 9223372036854775807) :
  Calls Tryz.prog 12 [(v)].toArray w fun e w' => e = .returned (.bool (given8 l)) ∧ Ext w w' := by
 refine CW.enter Tryz.func12 rfl Tryz.ntmps12 (Nat.le_of_ble_eq_true rfl) ?_
 have := len_nonneg l
 have hll : len l ≤ 9223372036854775807 := hl.le
 have hS : St w M w M [] := St.start hM
 refine CW.weaken [0] (L' := [Y 0 (v)]) ?_ rfl
 refine CW.sr ?_
 refine RL.u (.assign .c) rfl ?_
 refine RL.nil (CW.at [Y 0 (v)] rfl ?_)
 refine CW.seq ?_
 refine CW.sr ?_
 refine RL.u (.assign .c) rfl ?_
 refine RL.nil (CW.at [Y 0 (v), Y 3 (i64 0)] rfl ?_)
 refine CW.block ?_
 refine CW.loop (σ := Int) (fun k => [Y 0 (v), Y 3 (i64 k)]) (fun k wl => St w M wl M [] ∧ Sl M 9 (l).length (v) ((l).flatMap Tk.cells) ∧ 0 ≤ k ∧ k ≤ len l ∧ k ≤ 41 ∧ (Eng.sub l 0 k).all (fun t => decide (len t.s ≤ 60) && right8 t) = true) (fun k => (len l - k).toNat) (0) [0, 3] rfl ?_ ?_
 ·refine ⟨hS, hl, ?_⟩; exact ⟨by omega, by omega, by omega, rfl⟩
 ·rintro k wl ⟨hS1, hl, hk0, hk1, hk41, hkF⟩
  have hbk : k < len l → _ := fun h => hb _ (at'_mem hk0 h)
  change k < len l → len (at' l k).s ≤ 9223372036854775807 ∧ len (at' l k).c.s ≤ 9223372036854775807 at hbk
  refine CW.seq ?_
  refine CW.sr ?_
  refine RL.m rfl rfl (RL.m rfl rfl (RL.u (.lenT hl (.t rfl) ⟨_, Tryz.underlying23⟩) rfl (RL.u (.lss (.t rfl) (.t rfl)) rfl ?_)))
  refine RL.nil (CW.at [Y 0 (v), Y 3 (i64 k), Y 7 (.bool (decide ((k) < (len (l)))))] rfl ?_)
  refine CW.cond rfl (fun hb1 => ?_) (fun hb1 => ?_)
  ·try simp only [zb] at hb1
   refine CW.skip (CW.at [Y 0 (v), Y 3 (i64 k)] rfl ?_)
   refine CW.seq ?_
   refine CW.block ?_
   refine CW.sr ?_
   refine RL.m rfl rfl (RL.u (.gtr (.t rfl) .c) rfl (RL.m rfl rfl (RL.v (.neg rfl rfl) (.move (.t rfl)) rfl (RL.v (.neg rfl rfl) (.move (.t rfl)) rfl (RL.v (.neg rfl rfl) (.idxT hl (.g rfl (fun h => h)) (.g rfl (fun h => h)) Tryz.underlying23 Tryz.sizeOf33 (fun hW => by simp only [zb] at hW; omega)) rfl ?_)))))
   refine RL.v (.neg rfl rfl) (.fldA (q := ⟨sb (v), so (v) + (k : Int).toNat * 9 + 1, none⟩) (.g rfl (fun h => h)) (fun w => by kernel_rfl)) rfl (RL.v (.neg rfl rfl) (.loadE1 (f := Tk.cells) (i := k) (j := 1) (u := (str ((at' (l) (k)).s))) hS1 extEq hl Tk.cells_len (.g rfl (fun h => h)) Tryz.isAgg9 (fun hW => by simp only [zb] at hW; omega) rfl rfl) rfl (RL.v (.neg rfl rfl) (.lenS (.g rfl (fun h => h)) Tryz.underlying9) rfl (RL.v (.neg rfl rfl) (.gtr (.g rfl (fun h => h)) .c) rfl (RL.u (.or (.t rfl) (.g rfl (fun h => h))) rfl (RL.m rfl rfl ?_)))))
   refine RL.v (.neg rfl rfl) (.move (.t rfl)) rfl (RL.v (.neg rfl rfl) (.move (.t rfl)) rfl (RL.v (.neg rfl rfl) (.idxT hl (.g rfl (fun h => h)) (.g rfl (fun h => h)) Tryz.underlying23 Tryz.sizeOf33 (fun hW => by simp only [zb] at hW; omega)) rfl (RL.v (.neg rfl rfl) (.loadEN (f := Tk.cells) (i := k) hS1 extEq hl Tk.cells_len (.g rfl (fun h => h)) Tryz.isAgg33 Tryz.sizeOf33 (fun hW => by simp only [zb] at hW; omega)) rfl ?_)))
   refine RL.callE hS1 (.neg rfl rfl) Tryz.call19 (.cons (.g rfl (fun h => h)) .nil) (fun hW => by simp only [zb] at hW; exact (right8_c (at' (l) (k)) _ (by omega) (by omega))) rfl (fun w2 hS3 => ?_)
   refine RL.v (.neg rfl rfl) (.not (.g rfl (fun h => h))) rfl (RL.u (.or (.t rfl) (.g rfl (fun h => h))) rfl ?_)
   refine RL.nil (CW.at [Y 0 (v), Y 3 (i64 k), Y 28 (.bool (((decide ((40) < (k))) || (decide ((60) < (len ((at' (l) (k)).s))))) || (!(right8 (at' (l) (k))))))] rfl ?_)
   refine CW.cond rfl (fun hb2 => ?_) (fun hb2 => ?_)
   ·try simp only [zb] at hb2
    refine CW.sr ?_
    refine RL.u (.assign .c) rfl ?_
    refine RL.nil (CW.at [Y 2 (.bool false)] rfl ?_)
    refine CW.ret (ret1 (P := Tryz.prog) (fn := Tryz.f12) (R := fun e w' => e = .returned (.bool (given8 l)) ∧ Ext w w') rfl rfl ?_)
    exact ⟨by rw [given_bad hk0 hb1 hb2], hS3.low⟩
   ·try simp only [zb] at hb2
    refine CW.skip (CW.at [Y 0 (v), Y 3 (i64 k)] rfl ?_)
    refine CW.region ?_
    refine RL.m rfl rfl (RL.u (.add (.t rfl) .c (fun _ => by omega)) rfl (RL.a rfl rfl ?_))
    refine RL.nil fun a hs => Exists.intro (k + 1) ⟨hs.keep [0, 3], ?_, ?_⟩
    ·refine ⟨hS3, hl, ?_⟩
     exact ⟨by omega, by omega, by omega, all_step hkF hk0 (by omega) (by rw [Bool.and_eq_true, decide_eq_true_eq]; exact ⟨by have := hb2.1.2; simpa [at'] using this, hb2.2⟩)⟩
    ·show Int.toNat _ < Int.toNat _; omega
  ·try simp only [zb] at hb1
   refine CW.exit (CW.at [] rfl ?_)
   refine CW.sr ?_
   refine RL.u (.assign .c) rfl ?_
   refine RL.nil (CW.at [Y 2 (.bool true)] rfl ?_)
   refine CW.ret (ret1 (P := Tryz.prog) (fn := Tryz.f12) (R := fun e w' => e = .returned (.bool (given8 l)) ∧ Ext w w') rfl rfl ?_)
   exact ⟨by rw [sub_all _ _ (by omega)] at hkF; unfold given8; rw [hkF]; simp; omega, hS1.low⟩

end Go.Proofs.YthdialbnlnjgpaaGreatDoor
