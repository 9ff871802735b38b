/-
  THE ENGINE, PART 18: private rows: a row that is appended to, and written into, before anyone is told of it. Over any program.
  THE ENGINE, PART 17: slices of slices: an element is a slice's header; a fact beside tells what each of them holds. Over any program.
  THE ENGINE, PART 13: a part of a slice that is read. Over any program.
-/
import Derived.Test.YtjfaikgooldcbaaGreatDoorZp5
import Derived.Laws.BitsLemmas
import Derived.Test.YtjfaikgooldcbaaGreatDoorZp3
import Derived.Test.YtjfaikgooldcbaaGreatDoorProg
import Derived.Test.YtjfaikgooldcbaaGreatDoorZp8
set_option linter.unusedVariables false
set_option linter.unusedSimpArgs false
namespace Go.Proofs.YtjfaikgooldcbaaGreatDoor
open Go.Eng

/- loupe/louperef02.Next -/
set_option maxRecDepth 100000 in
theorem next_c (M : Mem) (v : Vl) (vv : Value) (i : Int) (w : World) (hM : Sat w M) (hv : Sl M 6 v.length vv (v.flatMap Nd.cells)) (hvb : len v ≤ 1048576) (h0 : 0 ≤ i) :
  Calls Tryz.prog 34 [vv, (i64 i)].toArray w fun e w' => e = .returned (i64 (nextV v i)) ∧ Ext w w' := by
 refine CW.enter1 Tryz.func34 rfl Tryz.ntmps34 (Nat.le_of_ble_eq_true rfl) fun Q hE => ?_
 have hvn := len_nonneg v
 have hS : St w M w M [] := St.start hM
 refine CW.weaken [0, 1] (L' := [Y 0 vv, Y 1 (i64 i)]) ?_ rfl
 refine CW.sr ?_
 refine RL.u (.assign .c) rfl ?_
 refine RL.nil (CW.id ?_)
 refine CW.sr ?_
 refine RL.u (.assign .c) rfl ?_
 refine RL.nil (CW.id ?_)
 refine CW.seq ?_
 refine CW.block ?_
 refine CW.loop (σ := Nat × Int × Int) (fun (f1, op, k) => [Y 0 vv, Y 1 (i64 k), Y 5 (i64 op)]) (fun (f1, op, k) wl => St w M wl M [] ∧ Sl M 6 v.length vv (v.flatMap Nd.cells) ∧ nextF f1 v op k = nextV v i ∧ f1 + (k - i) = len v + 2 ∧ 0 ≤ op ∧ op ≤ 1 + (k - i) * 1048576 ∧ i ≤ k ∧ (k ≤ len v ∨ k = i)) (fun (f1, op, k) => f1) ((v.length + 2, 1, i)) [0, 1, 5] rfl ?_ ?_
 ·refine ⟨hS, hv, ?_⟩; exact ⟨rfl, by unfold len; omega, by omega, by omega, by omega, Or.inr rfl⟩
 ·rintro ⟨f1, op, k⟩ wl ⟨hS1, hv, hF, hf, ho0, ho1, hik, hkl⟩
  have hf1 : 1 ≤ f1 := by omega
  obtain ⟨f, rfl⟩ : ∃ f, f1 = f + 1 := ⟨f1 - 1, by omega⟩
  refine CW.seq ?_
  refine CW.sr ?_
  refine RL.m rfl rfl (RL.u (.gtr (.t rfl) .c) rfl ?_)
  refine RL.nil (CW.id ?_)
  refine CW.cond rfl (fun hb1 => ?_) (fun hb1 => ?_)
  ·try simp only [zb] at hb1
   refine CW.skip (CW.id ?_)
   refine CW.block ?_
   refine CW.seq ?_
   refine CW.sr ?_
   refine RL.m rfl rfl (RL.m rfl rfl (RL.u (.lenT hv (.t rfl) ⟨_, Tryz.underlying24⟩) rfl (RL.u (.geq (.t rfl) (.t rfl)) rfl (RL.m rfl rfl (RL.v (.neg rfl rfl) (.move (.t rfl)) rfl ?_)))))
   refine RL.v (.neg rfl rfl) (.move (.t rfl)) rfl (RL.v (.neg rfl rfl) (.idxT hv (.g rfl (fun h => h)) (.g rfl (fun h => h)) Tryz.underlying24 Tryz.sizeOf38 (fun hW => by simp only [zb] at hW; omega)) rfl (RL.v (.neg rfl rfl) (.fldA (q := ⟨sb vv, so vv + (k : Int).toNat * 6 + 1, none⟩) (.g rfl (fun h => h)) (fun w => by kernel_rfl)) rfl (RL.v (.neg rfl rfl) (.loadE1 (f := Nd.cells) (i := k) (j := 1) (u := (i64 ((at' v k).many))) hS1 extEq hv Nd.cells_len (.g rfl (fun h => h)) Tryz.isAgg3 (fun hW => by simp only [zb] at hW; omega) rfl rfl) rfl (RL.v (.neg rfl rfl) (.lss (.g rfl (fun h => h)) .c) rfl (RL.u (.or (.t rfl) (.g rfl (fun h => h))) rfl ?_)))))
   refine RL.m rfl rfl (RL.v (.neg rfl rfl) (.move (.t rfl)) rfl (RL.v (.neg rfl rfl) (.move (.t rfl)) rfl (RL.v (.neg rfl rfl) (.idxT hv (.g rfl (fun h => h)) (.g rfl (fun h => h)) Tryz.underlying24 Tryz.sizeOf38 (fun hW => by simp only [zb] at hW; omega)) rfl (RL.v (.neg rfl rfl) (.fldA (q := ⟨sb vv, so vv + (k : Int).toNat * 6 + 1, none⟩) (.g rfl (fun h => h)) (fun w => by kernel_rfl)) rfl (RL.v (.neg rfl rfl) (.loadE1 (f := Nd.cells) (i := k) (j := 1) (u := (i64 ((at' v k).many))) hS1 extEq hv Nd.cells_len (.g rfl (fun h => h)) Tryz.isAgg3 (fun hW => by simp only [zb] at hW; omega) rfl rfl) rfl ?_)))))
   refine RL.v (.neg rfl rfl) (.move (.t rfl)) rfl (RL.v (.neg rfl rfl) (.lenT hv (.g rfl (fun h => h)) ⟨_, Tryz.underlying24⟩) rfl (RL.v (.neg rfl rfl) (.gtr (.g rfl (fun h => h)) (.g rfl (fun h => h))) rfl (RL.u (.or (.t rfl) (.g rfl (fun h => h))) rfl ?_)))
   refine RL.nil (CW.id ?_)
   refine CW.cond rfl (fun hb2 => ?_) (fun hb2 => ?_)
   ·try simp only [zb] at hb2
    refine CW.sr ?_
    refine RL.u (.assign .c) rfl ?_
    refine RL.nil (CW.id ?_)
    refine CW.ret (hE.r1 rfl rfl ?_)
    exact ⟨by rw [← hF, nextF, if_neg (by omega), if_pos (by omega)], hS1.low⟩
   ·try simp only [zb] at hb2
    refine CW.skip (CW.id ?_)
    refine CW.sr ?_
    refine RL.m rfl rfl (RL.u (.sub (.t rfl) .c (fun _ => by omega)) rfl (RL.m rfl rfl (RL.m rfl rfl (RL.u (.idxT hv (.t rfl) (.t rfl) Tryz.underlying24 Tryz.sizeOf38 (fun _ => by omega)) rfl (RL.u (.fldA (q := ⟨sb vv, so vv + (k : Int).toNat * 6 + 1, none⟩) (.t rfl) (fun w => by kernel_rfl)) rfl ?_)))))
    refine RL.u (.loadE1 (f := Nd.cells) (i := k) (j := 1) (u := (i64 ((at' v k).many))) hS1 extEq hv Nd.cells_len (.t rfl) Tryz.isAgg3 (fun _ => by omega) rfl rfl) rfl (RL.u (.add (.t rfl) (.t rfl) (fun _ => by omega)) rfl (RL.a rfl rfl ?_))
    refine RL.nil (CW.id ?_)
    refine CW.region ?_
    refine RL.m rfl rfl (RL.u (.add (.t rfl) .c (fun _ => by omega)) rfl (RL.a rfl rfl ?_))
    refine RL.nil fun a hs => Exists.intro ((f, (op - 1) + ((at' v k).many), k + 1)) ⟨hs.keep [0, 1, 5], ?_, ?_⟩
    ·refine ⟨hS1, hv, ?_⟩
     exact ⟨by rw [← hF, nextF, if_neg (by omega), if_neg (by omega)], by omega, by omega, by omega, by omega, Or.inl (by omega)⟩
    ·show f < f + 1; omega
  ·try simp only [zb] at hb1
   refine CW.exit (CW.at [Y 1 (i64 k)] rfl ?_)
   refine CW.sr ?_
   refine RL.m rfl rfl (RL.a rfl rfl ?_)
   refine RL.nil (CW.id ?_)
   refine CW.ret (hE.r1 rfl rfl ?_)
   exact ⟨by rw [← hF, nextF, if_pos (by omega)], hS1.low⟩

/- loupe/louperef02.plain -/
set_option maxRecDepth 100000 in
theorem plain_c (n : Nd) (w : World) (hn : len n.s ≤ 1099511627776) :
  Calls Tryz.prog 35 [(ndV n)].toArray w fun e w' => e = .returned (.bool (plainB n)) ∧ Ext w w' := by
 refine CW.enter1 Tryz.func35 rfl Tryz.ntmps35 (Nat.le_of_ble_eq_true rfl) fun Q hE => ?_
 have hS : St w (fun _ _ => none) w (fun _ _ => none) [] := St.start ⟨fun _ _ _ h => by cases h⟩
 refine CW.weaken [0] (L' := [Y 0 (ndV n)]) ?_ rfl
 refine CW.sr ?_
 refine RL.box (v := (ndV n)) hS (.t rfl) rfl (fun w1 b2 hS3 => ?_)
 refine RL.u (.assign .c) rfl ?_
 refine RL.nil (CW.id ?_)
 refine CW.sr ?_
 refine RL.u (.fldA (q := ⟨b2, 2, none⟩) (.t rfl) (fun w => by kernel_rfl)) rfl ?_
 refine RL.st (v := (str [])) hS3 (i := 0) rfl (.t rfl) .c Tryz.sizeOf9 rfl rfl rfl rfl rfl (fun w4 hS5 => ?_)
 refine RL.nil (CW.id ?_)
 refine CW.seq ?_
 refine CW.sr ?_
 refine RL.u (.fldA (q := ⟨b2, 0, none⟩) (.t rfl) (fun w => by kernel_rfl)) rfl (RL.u (.loadB1 (v := (i64 n.kind)) hS5 extEq (i := 0) rfl (.t rfl) Tryz.isAgg3 rfl) rfl ?_)
 refine RL.nil (CW.id ?_)
 refine CW.block ?_
 refine CW.mid (σ := Bool) (fun c1 => [Y 1 (.pointer (some ⟨b2, 0, none⟩)), Y 5 (i64 n.kind), Y 6 (.bool c1)]) (fun c1 wm6 => St w (fun _ _ => none) wm6 (fun _ _ => none) [.box b2 [(i64 n.kind), (i64 n.many), (str []), (str n.s), (.bool n.neg), (i64 n.e)] 38] ∧ c1 = decide (n.kind = 0 ∨ n.kind = 1 ∨ n.kind = 2)) ?_ ?_
 ·refine CW.sr ?_
  refine RL.u (.eql (.t rfl) .c) rfl (RL.a rfl rfl ?_)
  refine RL.nil (CW.id ?_)
  refine CW.cond rfl (fun hb1 => ?_) (fun hb1 => ?_)
  ·try simp only [zb] at hb1
   exact CW.skip fun a hs => ⟨n.kind == 0, hs.keep [1, 5, 6], hS5, by rw [Bool.eq_iff_iff, beq_iff_eq, decide_eq_true_eq]; omega⟩
  ·try simp only [zb] at hb1
   refine CW.sr ?_
   refine RL.u (.eql (.t rfl) .c) rfl (RL.a rfl rfl ?_)
   refine RL.nil (CW.id ?_)
   refine CW.cond rfl (fun hb2 => ?_) (fun hb2 => ?_)
   ·try simp only [zb] at hb2
    exact CW.skip fun a hs => ⟨n.kind == 1, hs.keep [1, 5, 6], hS5, by rw [Bool.eq_iff_iff, beq_iff_eq, decide_eq_true_eq]; omega⟩
   ·try simp only [zb] at hb2
    refine CW.region ?_
    refine RL.u (.eql (.t rfl) .c) rfl (RL.a rfl rfl ?_)
    exact RL.nil fun a hs => ⟨n.kind == 2, hs.keep [1, 5, 6], hS5, by rw [Bool.eq_iff_iff, beq_iff_eq, decide_eq_true_eq]; omega⟩
 ·rintro c1 wm6 ⟨hS7, hc1⟩
  refine CW.cond rfl (fun hb3 => ?_) (fun hb3 => ?_)
  ·try simp only [zb] at hb3
   refine CW.sr ?_
   refine RL.u (.loadBN (vs := [(i64 n.kind), (i64 n.many), (str []), (str n.s), (.bool n.neg), (i64 n.e)]) hS7 extEq (i := 0) rfl (.t rfl) Tryz.isAgg38 Tryz.sizeOf38 rfl rfl) rfl (RL.u (.fldA (q := ⟨b2, 0, none⟩) (.t rfl) (fun w => by kernel_rfl)) rfl (RL.u (.loadB1 (v := (i64 n.kind)) hS7 extEq (i := 0) rfl (.t rfl) Tryz.isAgg3 rfl) rfl (RL.u (.build (vs := [(0, (i64 n.kind))]) (v := (.agg #[(i64 n.kind), (i64 0), (str []), (str []), (.bool false), (i64 0)])) (.cons (.t rfl) .nil) (fun w => by kernel_rfl)) rfl (RL.u (.bin (v := .bool ((decide ((⟨n.kind, n.many, [], n.s, n.neg, n.e⟩ : Nd) = ⟨n.kind, 0, [], [], false, 0⟩)))) (.t rfl) (.t rfl) (fun _ w _ => eqNd _ _ (⟨n.kind, n.many, [], n.s, n.neg, n.e⟩) (⟨n.kind, 0, [], [], false, 0⟩) w)) rfl (RL.a rfl rfl ?_)))))
   refine RL.nil (CW.id ?_)
   refine CW.ret (hE.r1 rfl rfl ?_)
   clear hE
   refine ⟨congrArg (fun x => Ending.returned (.bool x)) ?_, hS7.low⟩
   unfold plainB; (try dsimp only); (repeat' split)
   all_goals first | rfl | (exfalso; simp only [zb] at *; omega) | (exfalso; simp_all; done) | (exfalso; simp_all; omega)
  ·try simp only [zb] at hb3
   refine CW.sr ?_
   refine RL.u (.eql (.t rfl) .c) rfl (RL.a rfl rfl ?_)
   refine RL.nil (CW.id ?_)
   refine CW.cond rfl (fun hb4 => ?_) (fun hb4 => ?_)
   ·try simp only [zb] at hb4
    refine CW.sr ?_
    refine RL.u (.loadBN (vs := [(i64 n.kind), (i64 n.many), (str []), (str n.s), (.bool n.neg), (i64 n.e)]) hS7 extEq (i := 0) rfl (.t rfl) Tryz.isAgg38 Tryz.sizeOf38 rfl rfl) rfl ?_
    refine RL.callE hS7 .none Tryz.call61 (.cons (.t rfl) .nil) (fun _ => (right1_c (⟨n.kind, n.many, [], n.s, n.neg, n.e⟩) _ (by first | omega | (dsimp only; omega)))) rfl (fun w8 hS9 => ?_)
    refine RL.a rfl rfl ?_
    refine RL.nil (CW.at [Y 2 (.bool (right1 (⟨n.kind, n.many, [], n.s, n.neg, n.e⟩)))] rfl ?_)
    refine CW.ret (hE.r1 rfl rfl ?_)
    clear hE
    refine ⟨congrArg (fun x => Ending.returned (.bool x)) ?_, hS9.low⟩
    unfold plainB; (try dsimp only); (repeat' split)
    all_goals first | rfl | (exfalso; simp only [zb] at *; omega) | (exfalso; simp_all; done) | (exfalso; simp_all; omega)
   ·try simp only [zb] at hb4
    refine CW.sr ?_
    refine RL.u (.eql (.t rfl) .c) rfl (RL.a rfl rfl ?_)
    refine RL.nil (CW.id ?_)
    refine CW.cond rfl (fun hb5 => ?_) (fun hb5 => ?_)
    ·try simp only [zb] at hb5
     refine CW.sr ?_
     refine RL.u (.fldA (q := ⟨b2, 3, none⟩) (.t rfl) (fun w => by kernel_rfl)) rfl (RL.u (.loadB1 (v := (str n.s)) hS7 extEq (i := 0) rfl (.t rfl) Tryz.isAgg9 rfl) rfl ?_)
     refine RL.callS .none Tryz.call38 (.cons (.t rfl) .nil) (fun _ => (utf_c n.s _ (by omega))) rfl ?_
     refine RL.m rfl rfl (RL.v (.pos rfl rfl) (.loadBN (vs := [(i64 n.kind), (i64 n.many), (str []), (str n.s), (.bool n.neg), (i64 n.e)]) hS7 extEq (i := 0) rfl (.t rfl) Tryz.isAgg38 Tryz.sizeOf38 rfl rfl) rfl (RL.v (.pos rfl rfl) (.fldA (q := ⟨b2, 0, none⟩) (.t rfl) (fun w => by kernel_rfl)) rfl (RL.v (.pos rfl rfl) (.loadB1 (v := (i64 n.kind)) hS7 extEq (i := 0) rfl (.g rfl (fun h => h)) Tryz.isAgg3 rfl) rfl (RL.v (.pos rfl rfl) (.fldA (q := ⟨b2, 3, none⟩) (.t rfl) (fun w => by kernel_rfl)) rfl (RL.v (.pos rfl rfl) (.loadB1 (v := (str n.s)) hS7 extEq (i := 0) rfl (.g rfl (fun h => h)) Tryz.isAgg9 rfl) rfl ?_)))))
     refine RL.v (.pos rfl rfl) (.build (vs := [(0, (i64 n.kind)), (3, (str n.s))]) (v := (.agg #[(i64 n.kind), (i64 0), (str []), (str n.s), (.bool false), (i64 0)])) (.cons (.g rfl (fun h => h)) (.cons (.g rfl (fun h => h)) .nil)) (fun w => by kernel_rfl)) rfl (RL.v (.pos rfl rfl) (.bin (v := .bool ((decide ((⟨n.kind, n.many, [], n.s, n.neg, n.e⟩ : Nd) = ⟨n.kind, 0, [], n.s, false, 0⟩)))) (.g rfl (fun h => h)) (.g rfl (fun h => h)) (fun _ w _ => eqNd _ _ (⟨n.kind, n.many, [], n.s, n.neg, n.e⟩) (⟨n.kind, 0, [], n.s, false, 0⟩) w)) rfl (RL.u (.and (.t rfl) (.g rfl (fun h => h))) rfl (RL.a rfl rfl ?_)))
     refine RL.nil (CW.at [Y 2 (.bool ((utf n.s) && ((decide ((⟨n.kind, n.many, [], n.s, n.neg, n.e⟩ : Nd) = ⟨n.kind, 0, [], n.s, false, 0⟩)))))] rfl ?_)
     refine CW.ret (hE.r1 rfl rfl ?_)
     clear hE
     refine ⟨congrArg (fun x => Ending.returned (.bool x)) ?_, hS7.low⟩
     unfold plainB; (try dsimp only); (repeat' split)
     all_goals first | rfl | (exfalso; simp only [zb] at *; omega) | (exfalso; simp_all; done) | (exfalso; simp_all; omega)
    ·try simp only [zb] at hb5
     refine CW.mid (σ := Bool) (fun c2 => [Y 1 (.pointer (some ⟨b2, 0, none⟩)), Y 33 (.bool c2)]) (fun c2 wm10 => St w (fun _ _ => none) wm10 (fun _ _ => none) [.box b2 [(i64 n.kind), (i64 n.many), (str []), (str n.s), (.bool n.neg), (i64 n.e)] 38] ∧ c2 = decide (n.kind = 5 ∨ n.kind = 6)) ?_ ?_
     ·refine CW.sr ?_
      refine RL.u (.eql (.t rfl) .c) rfl (RL.a rfl rfl ?_)
      refine RL.nil (CW.id ?_)
      refine CW.cond rfl (fun hb6 => ?_) (fun hb6 => ?_)
      ·try simp only [zb] at hb6
       exact CW.skip fun a hs => ⟨n.kind == 5, hs.keep [1, 33], hS7, by rw [Bool.eq_iff_iff, beq_iff_eq, decide_eq_true_eq]; omega⟩
      ·try simp only [zb] at hb6
       refine CW.region ?_
       refine RL.u (.eql (.t rfl) .c) rfl (RL.a rfl rfl ?_)
       exact RL.nil fun a hs => ⟨n.kind == 6, hs.keep [1, 33], hS7, by rw [Bool.eq_iff_iff, beq_iff_eq, decide_eq_true_eq]; omega⟩
     ·rintro c2 wm10 ⟨hS11, hc2⟩
      refine CW.cond rfl (fun hb7 => ?_) (fun hb7 => ?_)
      ·try simp only [zb] at hb7
       refine CW.sr ?_
       refine RL.u (.fldA (q := ⟨b2, 1, none⟩) (.t rfl) (fun w => by kernel_rfl)) rfl (RL.u (.loadB1 (v := (i64 n.many)) hS11 extEq (i := 0) rfl (.t rfl) Tryz.isAgg3 rfl) rfl (RL.u (.geq (.t rfl) .c) rfl (RL.m rfl rfl (RL.v (.pos rfl rfl) (.loadBN (vs := [(i64 n.kind), (i64 n.many), (str []), (str n.s), (.bool n.neg), (i64 n.e)]) hS11 extEq (i := 0) rfl (.t rfl) Tryz.isAgg38 Tryz.sizeOf38 rfl rfl) rfl (RL.v (.pos rfl rfl) (.fldA (q := ⟨b2, 0, none⟩) (.t rfl) (fun w => by kernel_rfl)) rfl ?_)))))
       refine RL.v (.pos rfl rfl) (.loadB1 (v := (i64 n.kind)) hS11 extEq (i := 0) rfl (.g rfl (fun h => h)) Tryz.isAgg3 rfl) rfl (RL.v (.pos rfl rfl) (.fldA (q := ⟨b2, 1, none⟩) (.t rfl) (fun w => by kernel_rfl)) rfl (RL.v (.pos rfl rfl) (.loadB1 (v := (i64 n.many)) hS11 extEq (i := 0) rfl (.g rfl (fun h => h)) Tryz.isAgg3 rfl) rfl (RL.v (.pos rfl rfl) (.build (vs := [(0, (i64 n.kind)), (1, (i64 n.many))]) (v := (.agg #[(i64 n.kind), (i64 n.many), (str []), (str []), (.bool false), (i64 0)])) (.cons (.g rfl (fun h => h)) (.cons (.g rfl (fun h => h)) .nil)) (fun w => by kernel_rfl)) rfl (RL.v (.pos rfl rfl) (.bin (v := .bool ((decide ((⟨n.kind, n.many, [], n.s, n.neg, n.e⟩ : Nd) = ⟨n.kind, n.many, [], [], false, 0⟩)))) (.g rfl (fun h => h)) (.g rfl (fun h => h)) (fun _ w _ => eqNd _ _ (⟨n.kind, n.many, [], n.s, n.neg, n.e⟩) (⟨n.kind, n.many, [], [], false, 0⟩) w)) rfl (RL.u (.and (.t rfl) (.g rfl (fun h => h))) rfl ?_)))))
       refine RL.a rfl rfl ?_
       refine RL.nil (CW.id ?_)
       refine CW.ret (hE.r1 rfl rfl ?_)
       clear hE
       refine ⟨congrArg (fun x => Ending.returned (.bool x)) ?_, hS11.low⟩
       unfold plainB; (try dsimp only); (repeat' split)
       all_goals first | rfl | (exfalso; simp only [zb] at *; omega) | (exfalso; simp_all; done) | (exfalso; simp_all; omega)
      ·try simp only [zb] at hb7
       refine CW.skip (CW.id ?_)
       refine CW.sr ?_
       refine RL.u (.assign .c) rfl ?_
       refine RL.nil (CW.id ?_)
       refine CW.ret (hE.r1 rfl rfl ?_)
       clear hE
       refine ⟨congrArg (fun x => Ending.returned (.bool x)) ?_, hS11.low⟩
       unfold plainB; (try dsimp only); (repeat' split)
       all_goals first | rfl | (exfalso; simp only [zb] at *; omega) | (exfalso; simp_all; done) | (exfalso; simp_all; omega)

/- loupe/louperef02.rising -/
set_option maxRecDepth 100000 in
theorem rising_c (M : Mem) (v : Vl) (vv : Value) (z : Int) (t : Tr) (w : World) (hM : Sat w M) (hv : Sl M 6 v.length vv (v.flatMap Nd.cells)) (hvb : len v ≤ 1048576) (hl : ∀ n ∈ v, len n.s ≤ 1099511627776 ∧ len n.name ≤ 1099511627776) (ht : SegAt v z t) (hw : t.wf) :
  Calls Tryz.prog 36 [vv, (i64 z)].toArray w fun e w' => e = .returned (.bool (risB v z)) ∧ Ext w w' := by
 refine CW.enter1 Tryz.func36 rfl Tryz.ntmps36 (Nat.le_of_ble_eq_true rfl) fun Q hE => ?_
 have hta := ht.node
 obtain ⟨hkids, hmn, hmx⟩ := wf_kids ht hw
 have hS : St w M w M [] := St.start hM
 refine CW.weaken [0, 1] (L' := [Y 0 vv, Y 1 (i64 z)]) ?_ rfl
 refine CW.sr ?_
 refine RL.u (.assign .c) rfl ?_
 refine RL.nil (CW.id ?_)
 refine CW.sr ?_
 refine RL.m rfl rfl (RL.u (.add (.t rfl) .c (fun _ => by omega)) rfl (RL.a rfl rfl ?_))
 refine RL.nil (CW.id ?_)
 refine CW.seq ?_
 refine CW.sr ?_
 refine RL.u (.assign .c) rfl ?_
 refine RL.nil (CW.id ?_)
 refine CW.block ?_
 refine CW.loop (σ := Nat × Int × Int) (fun (f, k, i) => [Y 0 vv, Y 1 (i64 z), Y 5 (i64 i), Y 6 (i64 k)]) (fun (f, k, i) wl => St w M wl M [] ∧ Sl M 6 v.length vv (v.flatMap Nd.cells) ∧ risF f v z k i = risB v z ∧ f = ((at' v z).many - k).toNat ∧ 0 ≤ k ∧ k ≤ (at' v z).many ∧ (∃ us, len us = (at' v z).many - k ∧ wfL us ∧ SegL v i us)) (fun (f, k, i) => ((at' v z).many - k).toNat) ((((at' v z).many).toNat, 0, z + 1)) [0, 1, 5, 6] rfl ?_ ?_
 ·refine ⟨hS, hv, ?_⟩; exact ⟨rfl, by omega, by omega, by omega, hkids⟩
 ·rintro ⟨f, k, i⟩ wl ⟨hS1, hv, hF, hf, hk0, hk1, us, hul, huw, hus⟩
  refine CW.seq ?_
  refine CW.sr ?_
  refine RL.m rfl rfl (RL.m rfl rfl (RL.m rfl rfl (RL.u (.idxT hv (.t rfl) (.t rfl) Tryz.underlying24 Tryz.sizeOf38 (fun _ => by omega)) rfl (RL.u (.fldA (q := ⟨sb vv, so vv + (z : Int).toNat * 6 + 1, none⟩) (.t rfl) (fun w => by kernel_rfl)) rfl (RL.u (.loadE1 (f := Nd.cells) (i := z) (j := 1) (u := (i64 ((at' v z).many))) hS1 extEq hv Nd.cells_len (.t rfl) Tryz.isAgg3 (fun _ => by omega) rfl rfl) rfl ?_)))))
  refine RL.u (.lss (.t rfl) (.t rfl)) rfl ?_
  refine RL.nil (CW.id ?_)
  refine CW.cond rfl (fun hb1 => ?_) (fun hb1 => ?_)
  ·try simp only [zb] at hb1
   obtain ⟨u, us2, rfl⟩ : ∃ u us2, us = u :: us2 := by cases us with | nil => (rw [len_nil] at hul; omega) | cons u us2 => exact ⟨u, us2, rfl⟩
   have hi := hus.first.node
   have hnx := nextV_seg hus.first huw.1
   rw [len_cons] at hul
   have hto : k + 1 < (at' v z).many → 0 ≤ nextV v i ∧ nextV v i < len v := fun h => by rw [hnx]; exact seg_to hus.rest (by omega)
   have hln : len (at' v i).s ≤ 1099511627776 ∧ len (at' v i).name ≤ 1099511627776 := hl _ (at'_mem hi.1 hi.2.1)
   obtain ⟨f, rfl⟩ : ∃ g, f = g + 1 := ⟨f - 1, by omega⟩
   refine CW.skip (CW.id ?_)
   refine CW.seq ?_
   refine CW.block ?_
   refine CW.seq ?_
   refine CW.sr ?_
   refine RL.m rfl rfl (RL.m rfl rfl (RL.u (.idxT hv (.t rfl) (.t rfl) Tryz.underlying24 Tryz.sizeOf38 (fun _ => by omega)) rfl (RL.u (.fldA (q := ⟨sb vv, so vv + (z : Int).toNat * 6, none⟩) (.t rfl) (fun w => by kernel_rfl)) rfl (RL.u (.loadE1 (f := Nd.cells) (i := z) (j := 0) (u := (i64 ((at' v z).kind))) hS1 extEq hv Nd.cells_len (.t rfl) Tryz.isAgg3 (fun _ => by omega) rfl rfl) rfl (RL.u (.eql (.t rfl) .c) rfl ?_)))))
   refine RL.m rfl rfl (RL.v (.pos rfl rfl) (.move (.t rfl)) rfl (RL.v (.pos rfl rfl) (.move (.t rfl)) rfl (RL.v (.pos rfl rfl) (.idxT hv (.g rfl (fun h => h)) (.g rfl (fun h => h)) Tryz.underlying24 Tryz.sizeOf38 (fun hW => by simp only [zb] at hW; omega)) rfl (RL.v (.pos rfl rfl) (.fldA (q := ⟨sb vv, so vv + (i : Int).toNat * 6 + 2, none⟩) (.g rfl (fun h => h)) (fun w => by kernel_rfl)) rfl (RL.v (.pos rfl rfl) (.loadE1 (f := Nd.cells) (i := i) (j := 2) (u := (str ((at' v i).name))) hS1 extEq hv Nd.cells_len (.g rfl (fun h => h)) Tryz.isAgg9 (fun hW => by simp only [zb] at hW; omega) rfl rfl) rfl ?_)))))
   refine RL.v (.pos rfl rfl) (.sneq (.g rfl (fun h => h)) .c) rfl (RL.u (.and (.t rfl) (.g rfl (fun h => h))) rfl (RL.m rfl rfl (RL.v (.neg rfl rfl) (.move (.t rfl)) rfl (RL.v (.neg rfl rfl) (.move (.t rfl)) rfl (RL.v (.neg rfl rfl) (.idxT hv (.g rfl (fun h => h)) (.g rfl (fun h => h)) Tryz.underlying24 Tryz.sizeOf38 (fun hW => by simp only [zb] at hW; omega)) rfl ?_)))))
   refine RL.v (.neg rfl rfl) (.fldA (q := ⟨sb vv, so vv + (i : Int).toNat * 6 + 2, none⟩) (.g rfl (fun h => h)) (fun w => by kernel_rfl)) rfl (RL.v (.neg rfl rfl) (.loadE1 (f := Nd.cells) (i := i) (j := 2) (u := (str ((at' v i).name))) hS1 extEq hv Nd.cells_len (.g rfl (fun h => h)) Tryz.isAgg9 (fun hW => by simp only [zb] at hW; omega) rfl rfl) rfl ?_)
   refine RL.callS (.neg rfl rfl) Tryz.call38 (.cons (.g rfl (fun h => h)) .nil) (fun hW => by simp only [zb] at hW; exact (utf_c ((at' v i).name) _ (by omega))) rfl ?_
   refine RL.v (.neg rfl rfl) (.not (.g rfl (fun h => h))) rfl (RL.u (.or (.t rfl) (.g rfl (fun h => h))) rfl ?_)
   refine RL.nil (CW.at [Y 0 vv, Y 1 (i64 z), Y 5 (i64 i), Y 6 (i64 k), Y 41 (.bool (((((at' v z).kind) == 5) && (!(((at' v i).name) == []))) || (!(utf ((at' v i).name)))))] rfl ?_)
   refine CW.cond rfl (fun hb2 => ?_) (fun hb2 => ?_)
   ·try simp only [zb] at hb2
    refine CW.sr ?_
    refine RL.u (.assign .c) rfl ?_
    refine RL.nil (CW.id ?_)
    refine CW.ret (hE.r1 rfl rfl ?_)
    exact ⟨by rw [← hF, risF, if_pos (by simpa using hb2)], hS1.low⟩
   ·try simp only [zb] at hb2
    refine CW.skip (CW.id ?_)
    refine CW.sr ?_
    refine RL.m rfl rfl (RL.m rfl rfl ?_)
    refine RL.callE hS1 .none Tryz.call34 (.cons (.t rfl) (.cons (.t rfl) .nil)) (fun _ => (next_c M v vv i _ hS1.sat hv (by first | omega | assumption) (by omega))) rfl (fun w2 hS3 => ?_)
    refine RL.a rfl rfl ?_
    refine RL.nil (CW.at [Y 0 vv, Y 1 (i64 z), Y 5 (i64 i), Y 6 (i64 k), Y 7 (i64 (nextV v i))] rfl ?_)
    refine CW.seq ?_
    refine CW.seq ?_
    refine CW.regionD hS3 tryz_mixed (by decide +kernel) ?_
    refine RQ.v .none (.move (.t rfl)) rfl ?_
    refine RQ.v .none (.move (.t rfl)) rfl ?_
    refine RQ.v .none (.idxT hv (.t rfl) (.t rfl) Tryz.underlying24 Tryz.sizeOf38 (fun _ => by omega)) rfl ?_
    refine RQ.v .none (.fldA (q := ⟨sb vv, so vv + (z : Int).toNat * 6, none⟩) (.t rfl) (fun w => by kernel_rfl)) rfl ?_
    refine RQ.v .none (.loadE1 (f := Nd.cells) (i := z) (j := 0) (u := (i64 ((at' v z).kind))) hS3 (fun _ h => h) hv Nd.cells_len (.t rfl) Tryz.isAgg3 (fun _ => by omega) rfl rfl) rfl ?_
    refine RQ.v .none (.eql (.t rfl) .c) rfl ?_
    refine RQ.v .none (.move (.t rfl)) rfl ?_
    refine RQ.v (.pos rfl rfl) (.move (.t rfl)) rfl ?_
    refine RQ.v (.pos rfl rfl) (.add (.g rfl (fun h => h)) .c (fun hW => by simp only [zb] at hW; omega)) rfl ?_
    refine RQ.v (.pos rfl rfl) (.move (.t rfl)) rfl ?_
    refine RQ.v (.pos rfl rfl) (.move (.t rfl)) rfl ?_
    refine RQ.v (.pos rfl rfl) (.idxT hv (.g rfl (fun h => h)) (.g rfl (fun h => h)) Tryz.underlying24 Tryz.sizeOf38 (fun hW => by simp only [zb] at hW; omega)) rfl ?_
    refine RQ.v (.pos rfl rfl) (.fldA (q := ⟨sb vv, so vv + (z : Int).toNat * 6 + 1, none⟩) (.g rfl (fun h => h)) (fun w => by kernel_rfl)) rfl ?_
    refine RQ.v (.pos rfl rfl) (.loadE1 (f := Nd.cells) (i := z) (j := 1) (u := (i64 ((at' v z).many))) hS3 (fun _ h => h) hv Nd.cells_len (.g rfl (fun h => h)) Tryz.isAgg3 (fun hW => by simp only [zb] at hW; omega) rfl rfl) rfl ?_
    refine RQ.v (.pos rfl rfl) (.lss (.g rfl (fun h => h)) (.g rfl (fun h => h))) rfl ?_
    refine RQ.v .none (.and (.t rfl) (.g rfl (fun h => h))) rfl ?_
    refine RQ.v .none (.move (.t rfl)) rfl ?_
    refine RQ.v (.pos rfl rfl) (.move (.t rfl)) rfl ?_
    refine RQ.v (.pos rfl rfl) (.move (.t rfl)) rfl ?_
    refine RQ.v (.pos rfl rfl) (.idxT hv (.g rfl (fun h => h)) (.g rfl (fun h => h)) Tryz.underlying24 Tryz.sizeOf38 (fun hW => by simp only [zb] at hW; omega)) rfl ?_
    refine RQ.v (.pos rfl rfl) (.fldA (q := ⟨sb vv, so vv + (i : Int).toNat * 6 + 2, none⟩) (.g rfl (fun h => h)) (fun w => by kernel_rfl)) rfl ?_
    refine RQ.v (.pos rfl rfl) (.loadE1 (f := Nd.cells) (i := i) (j := 2) (u := (str ((at' v i).name))) hS3 (fun _ h => h) hv Nd.cells_len (.g rfl (fun h => h)) Tryz.isAgg9 (fun hW => by simp only [zb] at hW; omega) rfl rfl) rfl ?_
    refine RQ.v (.pos rfl rfl) (.move (.t rfl)) rfl ?_
    refine RQ.v (.pos rfl rfl) (.move (.t rfl)) rfl ?_
    refine RQ.v (.pos rfl rfl) (.idxT hv (.g rfl (fun h => h)) (.g rfl (fun h => h)) Tryz.underlying24 Tryz.sizeOf38 (fun hW => by simp only [zb] at hW; omega)) rfl ?_
    refine RQ.v (.pos rfl rfl) (.fldA (q := ⟨sb vv, so vv + (nextV v i : Int).toNat * 6 + 2, none⟩) (.g rfl (fun h => h)) (fun w => by kernel_rfl)) rfl ?_
    refine RQ.v (.pos rfl rfl) (.loadE1 (f := Nd.cells) (i := nextV v i) (j := 2) (u := (str ((at' v (nextV v i)).name))) hS3 (fun _ h => h) hv Nd.cells_len (.g rfl (fun h => h)) Tryz.isAgg9 (fun hW => by simp only [zb] at hW; omega) rfl rfl) rfl ?_
    refine RQ.v (.pos rfl rfl) (.sgeq (.g rfl (fun h => h)) (.g rfl (fun h => h))) rfl ?_
    refine RQ.v .none (.and (.t rfl) (.g rfl (fun h => h))) rfl ?_
    refine RQ.nil (fun a hs w4 hS5 => CW.at [Y 0 vv, Y 1 (i64 z), Y 6 (i64 k), Y 7 (i64 (nextV v i)), Y 73 (.bool (((((at' v z).kind) == 6) && (decide ((k + 1) < ((at' v z).many)))) && (!Op.bytesLess ((at' v i).name) ((at' v (nextV v i)).name))))] rfl ?_ a hs)
    refine CW.cond rfl (fun hb3 => ?_) (fun hb3 => ?_)
    ·try simp only [zb] at hb3
     refine CW.sr ?_
     refine RL.u (.assign .c) rfl ?_
     refine RL.nil (CW.id ?_)
     refine CW.ret (hE.r1 rfl rfl ?_)
     exact ⟨by rw [← hF, risF, if_neg (ris_n2 (by simpa using hb2)), if_pos (ris_p3 (by simpa using hb3))], hS5.low⟩
    ·try simp only [zb] at hb3
     refine CW.skip (CW.id ?_)
     refine CW.region ?_
     refine RL.m rfl rfl (RL.a rfl rfl ?_)
     refine RL.nil (CW.id ?_)
     refine CW.region ?_
     refine RL.m rfl rfl (RL.u (.add (.t rfl) .c (fun _ => by omega)) rfl (RL.a rfl rfl ?_))
     refine RL.nil fun a hs => Exists.intro ((f, k + 1, nextV v i)) ⟨hs.keep [0, 1, 5, 6], ?_, ?_⟩
     ·refine ⟨hS5, hv, ?_⟩
      exact ⟨by rw [← hF, risF, if_neg (ris_n2 (by simpa using hb2)), if_neg (ris_n3 (by simpa using hb3))], by omega, by omega, by omega, us2, by omega, huw.2, by rw [hnx]; exact hus.rest⟩
     ·show Int.toNat _ < Int.toNat _; omega
  ·try simp only [zb] at hb1
   refine CW.exit (CW.at [] rfl ?_)
   refine CW.sr ?_
   refine RL.u (.assign .c) rfl ?_
   refine RL.nil (CW.id ?_)
   refine CW.ret (hE.r1 rfl rfl ?_)
   exact ⟨by rw [← hF, show f = 0 by omega]; rfl, hS1.low⟩

/- loupe/louperef02.Right -/
set_option maxRecDepth 100000 in
theorem right2_c (M : Mem) (v : Vl) (vv : Value) (w : World) (hM : Sat w M) (hv : Sl M 6 v.length vv (v.flatMap Nd.cells)) (hvb : len v ≤ 1048576) (hl : ∀ n ∈ v, len n.s ≤ 1099511627776 ∧ len n.name ≤ 1099511627776) :
  Calls Tryz.prog 19 [vv].toArray w fun e w' => e = .returned (.bool (rightB v)) ∧ Ext w w' := by
 refine CW.enter1 Tryz.func19 rfl Tryz.ntmps19 (Nat.le_of_ble_eq_true rfl) fun Q hE => ?_
 have hvn := len_nonneg v
 have hS : St w M w M [] := St.start hM
 refine CW.weaken [0] (L' := [Y 0 vv]) ?_ rfl
 refine CW.sr ?_
 refine RL.u (.assign .c) rfl ?_
 refine RL.nil (CW.id ?_)
 refine CW.seq ?_
 refine CW.sr ?_
 refine RL.m rfl rfl (RL.u (.lenT hv (.t rfl) ⟨_, Tryz.underlying24⟩) rfl (RL.u (.eql (.t rfl) .c) rfl (RL.m rfl rfl (RL.v (.neg rfl rfl) (.move (.t rfl)) rfl (RL.v (.neg rfl rfl) (.idxT hv (.g rfl (fun h => h)) .c Tryz.underlying24 Tryz.sizeOf38 (fun hW => by simp only [zb] at hW; omega)) rfl ?_)))))
 refine RL.v (.neg rfl rfl) (.fldA (q := ⟨sb vv, so vv + (0 : Int).toNat * 6 + 2, none⟩) (.g rfl (fun h => h)) (fun w => by kernel_rfl)) rfl (RL.v (.neg rfl rfl) (.loadE1 (f := Nd.cells) (i := 0) (j := 2) (u := (str ((at' v 0).name))) hS extEq hv Nd.cells_len (.g rfl (fun h => h)) Tryz.isAgg9 (fun hW => by simp only [zb] at hW; omega) rfl rfl) rfl (RL.v (.neg rfl rfl) (.sneq (.g rfl (fun h => h)) .c) rfl (RL.u (.or (.t rfl) (.g rfl (fun h => h))) rfl (RL.m rfl rfl (RL.v (.neg rfl rfl) (.move (.t rfl)) rfl ?_)))))
 refine RL.callE hS (.neg rfl rfl) Tryz.call34 (.cons (.g rfl (fun h => h)) (.cons .c .nil)) (fun hW => by simp only [zb] at hW; exact (next_c M v vv 0 _ hS.sat hv (by first | omega | assumption) (by omega))) rfl (fun w1 hS2 => ?_)
 refine RL.v (.neg rfl rfl) (.move (.t rfl)) rfl (RL.v (.neg rfl rfl) (.lenT hv (.g rfl (fun h => h)) ⟨_, Tryz.underlying24⟩) rfl (RL.v (.neg rfl rfl) (.neq (.g rfl (fun h => h)) (.g rfl (fun h => h))) rfl (RL.u (.or (.t rfl) (.g rfl (fun h => h))) rfl ?_)))
 refine RL.nil (CW.at [Y 0 vv, Y 20 (.bool ((((len v) == 0) || (!(((at' v 0).name) == []))) || ((nextV v 0) != (len v))))] rfl ?_)
 refine CW.cond rfl (fun hb1 => ?_) (fun hb1 => ?_)
 ·try simp only [zb] at hb1
  refine CW.sr ?_
  refine RL.u (.assign .c) rfl ?_
  refine RL.nil (CW.id ?_)
  refine CW.ret (hE.r1 rfl rfl ?_)
  exact ⟨by unfold rightB; rw [if_pos (right_p hb1)], hS2.low⟩
 ·try simp only [zb] at hb1
  obtain ⟨t, hw, hvt⟩ := right_t hb1
  refine CW.skip (CW.id ?_)
  refine CW.seq ?_
  refine CW.sr ?_
  refine RL.u (.assign .c) rfl ?_
  refine RL.nil (CW.id ?_)
  refine CW.block ?_
  refine CW.loop (σ := Nat × Int) (fun (f, k) => [Y 0 vv, Y 3 (i64 k)]) (fun (f, k) wl => St w M wl M [] ∧ Sl M 6 v.length vv (v.flatMap Nd.cells) ∧ allF f v k = rightB v ∧ 0 ≤ k ∧ k ≤ len v ∧ len v + 1 ≤ f + k) (fun (f, k) => (len v - k).toNat) ((v.length + 1, 0)) [0, 3] rfl ?_ ?_
  ·refine ⟨hS2, hv, ?_⟩; exact ⟨by unfold rightB; rw [if_neg (right_n hb1)], by omega, by omega, by unfold len; omega⟩
  ·rintro ⟨f, k⟩ wl ⟨hS3, hv, hF, hk0, hk1, hf⟩
   obtain ⟨f, rfl⟩ : ∃ g, f = g + 1 := ⟨f - 1, by omega⟩
   refine CW.seq ?_
   refine CW.sr ?_
   refine RL.m rfl rfl (RL.m rfl rfl (RL.u (.lenT hv (.t rfl) ⟨_, Tryz.underlying24⟩) rfl (RL.u (.lss (.t rfl) (.t rfl)) rfl ?_)))
   refine RL.nil (CW.id ?_)
   refine CW.cond rfl (fun hb2 => ?_) (fun hb2 => ?_)
   ·try simp only [zb] at hb2
    obtain ⟨u, hu, huw⟩ : ∃ u, SegAt v k u ∧ u.wf := by rw [hvt]; exact Tr.seg_at hw hk0 (by rw [← hvt]; exact hb2)
    have hln : len (at' v k).s ≤ 1099511627776 ∧ len (at' v k).name ≤ 1099511627776 := hl _ (at'_mem hk0 hb2)
    have hln1 := hln.1
    refine CW.skip (CW.id ?_)
    refine CW.seq ?_
    refine CW.block ?_
    refine CW.sr ?_
    refine RL.m rfl rfl (RL.m rfl rfl (RL.u (.idxT hv (.t rfl) (.t rfl) Tryz.underlying24 Tryz.sizeOf38 (fun _ => by omega)) rfl (RL.u (.loadEN (f := Nd.cells) (i := k) hS3 extEq hv Nd.cells_len (.t rfl) Tryz.isAgg38 Tryz.sizeOf38 (fun _ => by omega)) rfl ?_)))
    refine RL.callE hS3 .none Tryz.call35 (.cons (.t rfl) .nil) (fun _ => (plain_c (at' v k) _ (by first | omega | assumption))) rfl (fun w4 hS5 => ?_)
    refine RL.u (.not (.t rfl)) rfl (RL.m rfl rfl (RL.v (.neg rfl rfl) (.move (.t rfl)) rfl (RL.v (.neg rfl rfl) (.move (.t rfl)) rfl ?_)))
    refine RL.callE hS5 (.neg rfl rfl) Tryz.call36 (.cons (.g rfl (fun h => h)) (.cons (.g rfl (fun h => h)) .nil)) (fun hW => by simp only [zb] at hW; exact (rising_c M v vv k u _ hS5.sat hv (by omega) hl hu huw)) rfl (fun w6 hS7 => ?_)
    refine RL.v (.neg rfl rfl) (.not (.g rfl (fun h => h))) rfl (RL.u (.or (.t rfl) (.g rfl (fun h => h))) rfl ?_)
    refine RL.nil (CW.at [Y 0 vv, Y 3 (i64 k), Y 38 (.bool ((!(plainB (at' v k))) || (!(risB v k))))] rfl ?_)
    refine CW.cond rfl (fun hb3 => ?_) (fun hb3 => ?_)
    ·try simp only [zb] at hb3
     refine CW.sr ?_
     refine RL.u (.assign .c) rfl ?_
     refine RL.nil (CW.id ?_)
     refine CW.ret (hE.r1 rfl rfl ?_)
     exact ⟨by rw [← hF, allF, if_neg (by omega), if_pos (all_p (by simpa using hb3))], hS7.low⟩
    ·try simp only [zb] at hb3
     refine CW.skip (CW.id ?_)
     refine CW.region ?_
     refine RL.m rfl rfl (RL.u (.add (.t rfl) .c (fun _ => by omega)) rfl (RL.a rfl rfl ?_))
     refine RL.nil fun a hs => Exists.intro ((f, k + 1)) ⟨hs.keep [0, 3], ?_, ?_⟩
     ·refine ⟨hS7, hv, ?_⟩
      exact ⟨by rw [← hF, allF, if_neg (by omega), if_neg (all_n (by simpa using hb3))], by omega, by omega, by omega⟩
     ·show Int.toNat _ < Int.toNat _; omega
   ·try simp only [zb] at hb2
    refine CW.exit (CW.at [] rfl ?_)
    refine CW.sr ?_
    refine RL.u (.assign .c) rfl ?_
    refine RL.nil (CW.id ?_)
    refine CW.ret (hE.r1 rfl rfl ?_)
    exact ⟨by rw [← hF, allF, if_pos (by omega)], hS3.low⟩

end Go.Proofs.YtjfaikgooldcbaaGreatDoor
namespace Go.Eng
open Go.RowKit

section st
variable {w0 w : World} {M0 M : Mem} {Hs : List HO}
theorem St.newPriv (h : St w0 M0 w M Hs) (e : TypeId) (sz n : Nat) (xs : List Value) (hl : xs.length = n * sz) (hm : n ≤ maxLen) :
    St w0 M0 (w.alloc (.cells xs.toArray e)) M (.priv e sz (.slice (some ⟨w.heap.size, 0, none⟩) n n) n xs :: Hs) := by
  have h1 := h.ext (Ext.alloc w (.cells xs.toArray e))
  refine ⟨h1.low, h1.sat, h1.old, fun x hx => ?_, List.pairwise_cons.2 ⟨fun y hy b hb => ?_, h.apart⟩⟩
  · rcases List.mem_cons.1 hx with rfl | hx
    · refine ⟨⟨hl, .inr ⟨w.heap.size, n, xs.toArray, rfl, h.size, heap_alloc_new _ _, Nat.le_refl _, hm, by simpa using hl, by rw [← hl]; simp⟩⟩, fun b hb o => ?_⟩
      simp only [Value.ownBlock, Option.some.injEq] at hb; subst hb
      exact h.none_of_new (Nat.le_refl _) o
    · exact h1.ok x hx
  · simp only [HO.blk, Value.ownBlock, Option.some.injEq] at hb; subst hb
    intro hy'
    have := (HO.ok.lt (h.ok y hy) hy').2
    omega
theorem St.privNil (h : St w0 M0 w M Hs) (e : TypeId) (sz : Nat) : St w0 M0 w M (.priv e sz (.slice none 0 0) 0 [] :: Hs) :=
  ⟨h.low, h.sat, h.old, fun x hx => by
    rcases List.mem_cons.1 hx with rfl | hx
    · exact ⟨World.ownsRow_nil w _ e sz, fun b hb => (by cases hb)⟩
    · exact h.ok x hx, List.pairwise_cons.2 ⟨fun y hy b hb => (by cases hb), h.apart⟩⟩
/-- Now it is told of. -/
theorem St.show (h : St w0 M0 w M Hs) {k : Nat} {e : TypeId} {sz n : Nat} {v : Value} {xs : List Value} (hk : Hs[k]? = some (.priv e sz v n xs)) :
    ∃ M', St w0 M0 w M' (Hs.set k (.own e sz v n xs)) ∧ M.le M' := by
  obtain ⟨hown, hmem⟩ := h.obj hk
  let M' : Mem := fun b o => if v.ownBlock = some b then xs[o]? else M b o
  have hne : ∀ b, v.ownBlock ≠ some b → ∀ o, M' b o = M b o := fun b hb o => if_neg hb
  have heq : ∀ b, v.ownBlock = some b → ∀ o, M' b o = xs[o]? := fun b hb o => if_pos hb
  refine ⟨M', ?_, fun b o u hu => ?_⟩
  · refine h.write hk (Below.refl _ _) ⟨fun b o u hu => ?_⟩ (fun b o hb => hne b (fun e => by have := (World.ownsRow.lt hown b e).1; omega) o) (fun _ _ _ => rfl) (fun b _ hb o => hne b hb o) ⟨hown, fun b hb => ⟨fun o _ => heq b hb o, fun o ho => by rw [heq b hb o]; exact List.getElem?_eq_none ho⟩⟩ (fun _ hb => .inl hb)
    by_cases hb : v.ownBlock = some b
    · rw [heq b hb] at hu
      have := hown.cells hb o u hu
      rwa [add_none, Nat.zero_add] at this
    · rw [hne b hb] at hu; exact h.sat.cell b o u hu
  · by_cases hb : v.ownBlock = some b
    · rw [hmem b hb o] at hu; cases hu
    · rw [hne b hb, hu]
/-- .. as it were told of: for what is only read. -/
theorem St.told (h : St w0 M0 w M Hs) {k : Nat} {e : TypeId} {sz n : Nat} {v : Value} {xs : List Value} (hk : Hs[k]? = some (.priv e sz v n xs)) : St w0 M0 w (h.show hk).choose (Hs.set k (.own e sz v n xs)) := (h.show hk).choose_spec.1
/-- Append, to a private row. -/
theorem St.appendP {P : Program} (h : St w0 M0 w M Hs) {k : Nat} {t ty e : TypeId} {i : TypeInfo} {z : Value} {sz n m : Nat} {v x : Value} {xs news : List Value} (hk : Hs[k]? = some (.priv e sz v n xs)) (hx : Sl M sz m x news)
    (ht : P.underlying t = some (.slice e)) (hi : P.info? e = some i) (hz : i.zero = some z) (hsize : i.size = sz) (hzs : z.cells.size = sz) (h1 : ∀ u ∈ news, u.oneCell' = true)
    (h63 : n + m ≤ maxLen) (hbytes : (n + m) * i.bytes ≤ 140737488355328) :
    ∃ v' w', (Builtin.append_ #[t, t] ty #[v, x]).run P w = .ok v' w' ∧ St w0 M0 w' M (Hs.set k (.priv e sz v' (n + m) (xs ++ news))) := by
  obtain ⟨hown, hmem⟩ := h.obj hk
  obtain ⟨p, cap, rfl, hnc, _, hp⟩ := hx.val
  have hx' : ∃ p' c, (Value.slice p m cap) = .slice p' m c ∧ (0 < m → ∃ a, p' = some a ∧ ∀ j u, news[j]? = some u → w.cell? (a.add j) = some u) := by
    refine ⟨p, cap, rfl, fun hm => ?_⟩
    obtain ⟨b, o, hp', hc⟩ := hp hm
    refine ⟨_, hp', fun j u hu => ?_⟩
    rw [add_none]
    refine h.sat.cell _ _ _ ?_
    rw [hc j (List.getElem?_eq_some_iff.1 hu).1, hu]
  obtain ⟨v', w', hr, hown', hlow, hheap, hpre, hblk⟩ := run_append_mine (P := P) w w0.heap.size t ty e i z sz ht hi hz hsize hzs v n xs hown _ m news hx.len hx' h1 h63 hbytes h.size
  have hnone : ∀ b, v'.ownBlock = some b → ∀ o, M b o = none := fun b hb o => by
    rcases hblk with h2 | ⟨b', h2, h3⟩
    · exact hmem b (by rw [← h2]; exact hb) o
    · rw [hb] at h2; cases h2; exact h.none_of_new h3 o
  refine ⟨v', w', hr, h.write hk hlow ⟨fun b o u hu => ?_⟩ (fun _ _ _ => rfl) (fun b hb hne => hheap b hb hne) (fun _ _ _ _ => rfl) ⟨hown', hnone⟩ (fun b hb => ?_)⟩
  · have hlt := h.sat.lt hu
    have hne : v.ownBlock ≠ some b := fun e => by rw [hmem b e o] at hu; cases hu
    have := h.sat.cell b o u hu
    simp only [World.cell?, hheap b hlt hne] at this ⊢; exact this
  · rcases hblk with h2 | ⟨b', h2, h3⟩
    · exact .inl (by show v.ownBlock = some b; rw [← h2]; exact hb)
    · have hb' : v'.ownBlock = some b := hb
      rw [hb'] at h2; cases h2; exact .inr h3
/-- Cells written into a private row. -/
theorem St.writeP {P : Program} (h : St w0 M0 w M Hs) {k : Nat} {e : TypeId} {sz n : Nat} {v : Value} {xs us : List Value} {o : Nat} (hk : Hs[k]? = some (.priv e sz v n xs)) (ho : o + us.length ≤ xs.length) (hu : 0 < us.length) (h1 : ∀ u ∈ us, u.oneCell' = true) :
    ∃ w', (storeCells ⟨sb v, so v + o, none⟩ us 0).run P w = .ok () w' ∧ St w0 M0 w' M (Hs.set k (.priv e sz v n (splice xs o us))) := by
  obtain ⟨⟨hl, hv⟩, hmem⟩ := h.obj hk
  rcases hv with ⟨rfl, rfl⟩ | ⟨g, cap, cur, rfl, hg, hh, hnc, hcm, hcs, htk⟩
  · rw [Nat.zero_mul] at hl; omega
  · have hxl : xs.length ≤ cur.size := by rw [← htk, List.length_take]; simp; omega
    have hst := run_storeCells_at P g o e us 0 cur w hh (by omega) h1
    refine ⟨_, by simpa [sb, so] using hst, ?_⟩
    have hlt : g < w.heap.size := by
      rcases Nat.lt_or_ge g w.heap.size with h' | h'
      · exact h'
      · simp [Array.getElem?_eq_none h'] at hh
    refine h.write hk (below_setRow _ hg) ⟨fun b' o' u hu' => ?_⟩ (fun _ _ _ => rfl) (fun b _ hb => heap_setRow_ne _ _ _ _ (fun e => hb (by rw [e]; rfl))) (fun _ _ _ _ => rfl) ⟨⟨?_, .inr ⟨g, cap, _, rfl, hg, heap_setRow_self _ _ _ _ _ _ hh, hnc, hcm, ?_, ?_⟩⟩, fun b hb o' => hmem b hb o'⟩ (fun _ hb => .inl hb)
    · have hne : b' ≠ g := fun e => by subst e; rw [hmem b' rfl o'] at hu'; cases hu'
      have := h.sat.cell b' o' u hu'
      simp only [World.cell?, heap_setRow_ne _ _ _ _ hne] at this ⊢
      exact this
    · unfold splice; simp only [List.length_append, List.length_take, List.length_drop]; omega
    · simp only [List.size_toArray, List.length_append, List.length_take, List.length_drop, Array.length_toList]; omega
    · unfold splice
      simp only [Nat.add_zero]
      have hA : (List.take o cur.toList).length = o := by rw [List.length_take, Array.length_toList]; omega
      rw [← htk, List.take_take, List.drop_take, Nat.min_eq_left (by omega : o ≤ n * sz)]
      simp only [List.append_assoc]
      rw [List.take_append, List.take_append, hA, List.take_take, Nat.min_eq_right (by omega : o ≤ n * sz), List.take_of_length_le (l := us) (by omega), Nat.sub_sub]
end st
section rl
variable {P : Program} {ops : Array Oper} {Q : Exit → Act → World → Prop} {N : Nat} {rest : List Oper} {L : Env} {w0 w : World} {M0 M : Mem} {Hs : List HO} {d : Nat} {ty : TypeId} {ps : String} {af : Array Edge}
/-- A slice's literal, told of to no one. -/
theorem RL.buildSliceP {t e : TypeId} {n sz : Nat} {xs : List (Nat × Operand)} {vs : List (Nat × Value)} {cs : List Value} (hS : St w0 M0 w M Hs) (hx : Parts L true xs vs) (hl : cs.length = n * sz) (hm : Nat.ble n 9223372036854775807 = true)
    (hr : ∀ w, (Instr.buildSlice t n vs.toArray).run P w = .ok (.slice (some ⟨w.heap.size, 0, none⟩) n n) (w.alloc (.cells cs.toArray e))) (hd : Nat.blt d N = true)
    (h : ∀ v w', St w0 M0 w' M (.priv e sz v n cs :: Hs) → RL P ops Q N rest ((d, true, v) :: L) w') : RL P ops Q N (⟨some d, .buildSlice t n xs.toArray, ty, ps, af, none⟩ :: rest) L w := by
  intro a hs
  refine wpList_plain rfl fun K hK => ?_
  have e1 : xs.toArray.map (fun p => (p.1, a.eval p.2)) = vs.toArray := by rw [List.map_toArray, Parts.map hs rfl xs vs hx]
  have key : (execOp a.eval ⟨some d, .buildSlice t n xs.toArray, ty, ps, af, none⟩).run P w = .ok (.value (.slice (some ⟨w.heap.size, 0, none⟩) n n)) (w.alloc (.cells cs.toArray e)) := by
    simp only [execOp, e1]; rw [Sem.run_bind, hr w]; rfl
  simp only [Oper.wp, key, Oper.upon_value]
  exact hK _ _ (h _ _ (hS.newPriv e sz n cs hl (by have := Nat.le_of_ble_eq_true hm; simp only [maxLen]; omega)) _ (hs.put hd true _))
theorem RL.appendLP {α : Type} {f : α → List Value} {l m : List α} {t e : TypeId} {s x : Operand} {i : TypeInfo} {z : Value} {k sz by' : Nat} {v vx : Value} (hS : St w0 M0 w M Hs) (hk : Hs[k]? = some (.priv e sz v l.length (l.flatMap f))) (hs : Opd L true s v) (hx : Opd L true x vx) (hsl : Sl M sz m.length vx (m.flatMap f))
    (ht : P.underlying t = some (.slice e)) (hi : P.info? e = some i) (hz : i.zero = some z) (hsize : i.size = sz) (hzs : z.cells.size = sz) (h1 : ∀ x, ∀ u ∈ f x, u.oneCell' = true) (hby : i.bytes = by') (hb0 : Nat.blt 0 by' = true)
    (hb : (len l + len m) * by' ≤ 140737488355328) (hd : Nat.blt d N = true) {Hs' : Value → List HO} (hHs : ∀ v', Hs.set k (.priv e sz v' (l ++ m).length ((l ++ m).flatMap f)) = Hs' v')
    (h : ∀ v' w', St w0 M0 w' M (Hs' v') → RL P ops Q N rest ((d, true, v') :: L) w') : RL P ops Q N (⟨some d, .call ⟨.builtin .append, #[s, x], #[t, t]⟩, ty, ps, af, none⟩ :: rest) L w := by
  subst hby
  have hb0' : 0 < i.bytes := by simpa [Nat.blt_eq] using hb0
  unfold len at hb
  intro a hsl'
  refine wpList_plain rfl fun K hK => ?_
  have hb2 : (l.length + m.length) * i.bytes ≤ 140737488355328 := by
    rw [← Int.natCast_add, ← Int.natCast_mul] at hb
    generalize (l.length + m.length) * i.bytes = q at hb ⊢
    omega
  have hle : (l.length + m.length) * 1 ≤ (l.length + m.length) * i.bytes := Nat.mul_le_mul_left _ hb0'
  obtain ⟨v', w', hr, hS'⟩ := hS.appendP (P := P) (ty := ty) hk hsl ht hi hz hsize hzs (fun u hu => by obtain ⟨y, _, hy⟩ := List.mem_flatMap.1 hu; exact h1 y u hy) (by simp only [maxLen]; omega) hb2
  have key : (execOp a.eval ⟨some d, .call ⟨.builtin .append, #[s, x], #[t, t]⟩, ty, ps, af, none⟩).run P w = .ok (.value v') w' := by
    simp only [execOp, resolve, invoke, builtin, Sem.run_bind, Sem.run_pure, Result.andThen_ok, List.map_toArray, List.map_cons, List.map_nil, hs a N hsl' rfl, hx a N hsl' rfl, hr]
  simp only [Oper.wp, key, Oper.upon_value]
  exact hK _ _ (h _ _ (by rw [← hHs v', List.length_append, List.flatMap_append]; exact hS') _ (hsl'.put hd true _))
/-- A store into a private row. -/
theorem RL.storeP {t e : TypeId} {x y : Operand} {k sz n m o : Nat} {v u : Value} {xs xs' : List Value} (hS : St w0 M0 w M Hs) (hk : Hs[k]? = some (.priv e sz v n xs)) (hx : Opd L true x (.pointer (some ⟨sb v, so v + o, none⟩))) (hy : Opd L true y u) (hs : ∀ w, (sizeOf t).run P w = .ok m w)
    (hn : u.cells.toList.length = m) (hm0 : Nat.blt 0 m = true) (hfit : o + m ≤ xs.length) (h1 : (u.cells.toList.all (·.oneCell')) = true) (hxs : splice xs o u.cells.toList = xs') {Hs' : List HO} (hHs : Hs.set k (.priv e sz v n xs') = Hs')
    (h : ∀ w', St w0 M0 w' M Hs' → RL P ops Q N rest L w') : RL P ops Q N (⟨none, .store t x y, ty, ps, af, none⟩ :: rest) L w := by
  intro a hsl
  refine wpList_plain rfl fun K hK => ?_
  obtain ⟨w', hst, hS'⟩ := hS.writeP (P := P) (us := u.cells.toList) (o := o) hk (by omega) (by rw [hn]; simpa [Nat.blt_eq] using hm0) (List.all_eq_true.1 h1)
  have hn' : u.cells.size = m := by rw [← hn]; simp
  have key : (Instr.storeAt t (.pointer (some ⟨sb v, so v + o, none⟩)) u).run P w = .ok () w' := by
    simp only [Instr.storeAt, Instr.sureAddr, storeVar, Sem.run_bind, Sem.run_pure, Result.andThen_ok, hs, hn', ne_eq, not_true_eq_false, if_false, hst]
  have key2 : (execOp a.eval ⟨none, .store t x y, ty, ps, af, none⟩).run P w = .ok .skip w' := by
    simp only [execOp, hx a N hsl rfl, hy a N hsl rfl]; rw [Sem.run_bind, key]; rfl
  simp only [Oper.wp, key2, Oper.upon_skip]
  exact hK _ _ (h _ (by rw [← hHs, ← hxs]; exact hS') _ hsl)
end rl
/-- One thing of a list written in part. -/
theorem splice_set {α : Type} [Inhabited α] {f : α → List Value} {sz : Nat} (hf : ∀ x, (f x).length = sz) (l : List α) (i : Nat) (y : α) (off : Nat) (us : List Value) (hi : i < l.length) (hy : splice (f (l.getD i default)) off us = f y) (hoff : off + us.length ≤ sz) :
    splice (l.flatMap f) (i * sz + off) us = (l.set i y).flatMap f := by
  induction l generalizing i with
  | nil => simp at hi
  | cons x l ih =>
    cases i with
    | zero =>
      have hy' : splice (f x) off us = f y := by simpa using hy
      have hx := hf x
      simp only [List.set_cons_zero, List.flatMap_cons, Nat.zero_mul, Nat.zero_add]
      rw [← hy']
      unfold splice
      rw [List.take_append_of_le_length (by omega), List.drop_append_of_le_length (by omega)]
      simp
    | succ i =>
      have h2 := ih i (by simpa using hi) (by simpa using hy)
      have hx := hf x
      simp only [List.set_cons_succ, List.flatMap_cons]
      rw [← h2]
      unfold splice
      have e1 : (i + 1) * sz + off = (f x).length + (i * sz + off) := by rw [hx, Nat.succ_mul]; omega
      rw [e1, List.take_append, List.drop_append, List.take_of_length_le (by omega), show (f x).length + (i * sz + off) - (f x).length = i * sz + off from by omega, List.drop_eq_nil_of_le (by omega), show (f x).length + (i * sz + off) + us.length - (f x).length = i * sz + off + us.length from by omega]
      simp
end Go.Eng
namespace Go.Eng
open Go.RowKit

structure SlH where
  a : Option Addr
  n : Nat
  c : Nat
deriving Inhabited
def valI (h : SlH) : List Value := [.slice h.a h.n h.c]
theorem valI_len (h : SlH) : (valI h).length = 1 := rfl
theorem valI_one (h : SlH) : ∀ u ∈ valI h, u.oneCell' = true := by intro u hu; simp [valI] at hu; subst hu; rfl
abbrev SlH.v (h : SlH) : Value := .slice h.a h.n h.c
/-- Each header's slice holds the cells of the list beside. -/
def RowsV {α : Type} (M : Mem) (sz : Nat) (f : α → List Value) : List SlH → List (List α) → Prop
  | [], [] => True
  | h :: hs, x :: xs => Sl M sz x.length h.v (x.flatMap f) ∧ RowsV M sz f hs xs
  | _, _ => False
section
variable {α : Type} {M M' : Mem} {sz : Nat} {f : α → List Value}
theorem RowsV.mono (hm : M.le M') : ∀ {hs : List SlH} {xs : List (List α)}, RowsV M sz f hs xs → RowsV M' sz f hs xs
  | [], [], _ => trivial
  | _ :: _, _ :: _, h => ⟨h.1.mono hm, RowsV.mono hm h.2⟩
  | [], _ :: _, h => h.elim
  | _ :: _, [], h => h.elim
theorem RowsV.snoc {h : SlH} {x : List α} (hx : Sl M sz x.length h.v (x.flatMap f)) : ∀ {hs : List SlH} {xs : List (List α)}, RowsV M sz f hs xs → RowsV M sz f (hs ++ [h]) (xs ++ [x])
  | [], [], _ => ⟨hx, trivial⟩
  | _ :: _, _ :: _, h => ⟨h.1, RowsV.snoc hx h.2⟩
  | [], _ :: _, h => h.elim
  | _ :: _, [], h => h.elim
theorem RowsV.len : ∀ {hs : List SlH} {xs : List (List α)}, RowsV M sz f hs xs → hs.length = xs.length
  | [], [], _ => rfl
  | _ :: _, _ :: _, h => by simp [RowsV.len h.2]
  | [], _ :: _, h => h.elim
  | _ :: _, [], h => h.elim
theorem RowsV.get : ∀ {hs : List SlH} {xs : List (List α)} (k : Nat), RowsV M sz f hs xs → k < hs.length → Sl M sz (xs.getD k []).length (hs.getD k default).v ((xs.getD k []).flatMap f)
  | [], _, _, _, h => absurd h (Nat.not_lt_zero _)
  | _ :: _, [], _, h, _ => h.elim
  | _ :: _, _ :: _, 0, h, _ => h.1
  | _ :: _, _ :: _, k + 1, h, hk => by simpa using RowsV.get k h.2 (by simpa using hk)
end
theorem RowsV.at {α : Type} {M : Mem} {sz : Nat} {f : α → List Value} {hs : List SlH} {xs : List (List α)} {k : Int} (h : RowsV M sz f hs xs) (h0 : 0 ≤ k) (h1 : k < Eng.len hs) : Sl M sz (at' xs k).length (at' hs k).v ((at' xs k).flatMap f) :=
  by
  have := RowsV.get k.toNat h (by unfold Eng.len at h1; omega)
  exact this
/-- A slice's value is a header. -/
theorem Sl.shape {M : Mem} {sz n : Nat} {v : Value} {cs : List Value} (h : Sl M sz n v cs) : ∃ a c, v = .slice a n c := by
  obtain ⟨p, cap, hv, _⟩ := h.val; exact ⟨p, cap, hv⟩
end Go.Eng
namespace Go.Eng
open Go.RowKit

theorem sub_flat {α : Type} (f : α → List Value) (sz : Nat) (hf : ∀ x, (f x).length = sz) (l : List α) (a b j : Nat) (hab : a ≤ b) (hb : b ≤ l.length) (hj : j < (b - a) * sz) :
    (l.flatMap f)[a * sz + j]? = (((l.drop a).take (b - a)).flatMap f)[j]? := by
  have e : l = l.take a ++ ((l.drop a).take (b - a) ++ (l.drop a).drop (b - a)) := by rw [List.take_append_drop, List.take_append_drop]
  have e2 : l.flatMap f = (l.take a).flatMap f ++ (((l.drop a).take (b - a)).flatMap f ++ ((l.drop a).drop (b - a)).flatMap f) := by
    conv => lhs; rw [e]
    rw [List.flatMap_append, List.flatMap_append]
  have h1 : ((l.take a).flatMap f).length = a * sz := by rw [flat_len f sz hf, List.length_take, Nat.min_eq_left (by omega)]
  have h2 : (((l.drop a).take (b - a)).flatMap f).length = (b - a) * sz := by rw [flat_len f sz hf, List.length_take, List.length_drop, Nat.min_eq_left (by omega)]
  rw [e2, List.getElem?_append_right (by omega), h1, show a * sz + j - a * sz = j from by omega, List.getElem?_append_left (by omega)]
theorem sl_part {α : Type} {f : α → List Value} {M : Mem} {sz : Nat} {v : Value} {l : List α} (h : Sl M sz l.length v (l.flatMap f)) (hf : ∀ x, (f x).length = sz) {a b : Int} (h0 : 0 ≤ a) (h1 : a ≤ b) (h2 : b ≤ len l) :
    ∃ p cap, v = .slice p l.length cap ∧ l.length ≤ cap ∧ Sl M sz (Eng.sub l a b).length (sliced p a.toNat b.toNat cap sz) ((Eng.sub l a b).flatMap f) := by
  obtain ⟨p, cap, hv, hc, hm, hp⟩ := h.val
  refine ⟨p, cap, hv, hc, ?_⟩
  unfold len at h2
  have hl : (Eng.sub l a b).length = b.toNat - a.toNat := by unfold Eng.sub; rw [List.length_take, List.length_drop]; omega
  refine ⟨by rw [flat_len f sz hf], _, _, by unfold sliced; rw [hl], by rw [hl]; omega, by omega, fun hn => ?_⟩
  rw [hl] at hn
  obtain ⟨b0, o, hpe, hcell⟩ := hp (by omega)
  refine ⟨b0, o + a.toNat * sz, by rw [if_neg (by omega), hpe, Option.map_some, add_none], fun j hj => ?_⟩
  rw [flat_len f sz hf, hl] at hj
  have hlen : a.toNat * sz + j < (l.flatMap f).length := by
    rw [flat_len f sz hf]
    have := Nat.mul_le_mul_right sz (show a.toNat + (b.toNat - a.toNat) ≤ l.length by omega)
    rw [Nat.add_mul] at this; omega
  rw [Nat.add_assoc, hcell _ hlen]
  exact sub_flat f sz hf l a.toNat b.toNat j (by omega) (by omega) hj
section sl
variable {P : Program} {α : Type} {f : α → List Value} {M : Mem} {sz : Nat} {v : Value} {l : List α} {t e : TypeId}
theorem elem_of (ht : P.underlying t = some (.slice e)) : P.elem t = e := by unfold Program.elem; rw [ht]
theorem slSl_b (h : Sl M sz l.length v (l.flatMap f)) (hf : ∀ x, (f x).length = sz) (ht : P.underlying t = some (.slice e)) (hs : ∀ w, (sizeOf e).run P w = .ok sz w) (a b : Int) (hr : 0 ≤ a ∧ a ≤ b ∧ b ≤ len l) :
    ∃ v', Sl M sz (Eng.sub l a b).length v' ((Eng.sub l a b).flatMap f) ∧ ∀ (k k' : IntKind) w, (Instr.sliceAt t v (some (.int k a)) (some (.int k' b)) none).run P w = .ok v' w := by
  obtain ⟨h0, h1, h2⟩ := hr
  obtain ⟨p, cap, hv, hc, hS⟩ := sl_part h hf h0 h1 h2
  have ht' : P.underlying t = some (.slice (P.elem t)) := by rw [elem_of ht]; exact ht
  refine ⟨_, hS, fun k k' w => ?_⟩
  rw [hv, run_sliceAt_slice w t _ _ _ _ ht', run_slice_lh w t p _ cap ht' k k' a b h0 h1 (by unfold len at h2; omega), elem_of ht, hs]
  rfl
theorem slSl_h (h : Sl M sz l.length v (l.flatMap f)) (hf : ∀ x, (f x).length = sz) (ht : P.underlying t = some (.slice e)) (hs : ∀ w, (sizeOf e).run P w = .ok sz w) (a b : Int) (hr : 0 ≤ a ∧ a ≤ b ∧ b ≤ len l) (ha : a = 0 := by rfl) :
    ∃ v', Sl M sz (Eng.sub l a b).length v' ((Eng.sub l a b).flatMap f) ∧ ∀ (k' : IntKind) w, (Instr.sliceAt t v none (some (.int k' b)) none).run P w = .ok v' w := by
  subst ha
  obtain ⟨h0, h1, h2⟩ := hr
  obtain ⟨p, cap, hv, hc, hS⟩ := sl_part h hf h0 h1 h2
  have ht' : P.underlying t = some (.slice (P.elem t)) := by rw [elem_of ht]; exact ht
  refine ⟨_, hS, fun k' w => ?_⟩
  rw [hv, run_sliceAt_slice w t _ _ _ _ ht', run_slice_h w t p _ cap ht' k' b h1 (by unfold len at h2; omega), elem_of ht, hs]
  rfl
theorem slSl_l (h : Sl M sz l.length v (l.flatMap f)) (hf : ∀ x, (f x).length = sz) (ht : P.underlying t = some (.slice e)) (hs : ∀ w, (sizeOf e).run P w = .ok sz w) (a b : Int) (hr : 0 ≤ a ∧ a ≤ b ∧ b ≤ len l) (hb : b = len l := by rfl) :
    ∃ v', Sl M sz (Eng.sub l a b).length v' ((Eng.sub l a b).flatMap f) ∧ ∀ (k : IntKind) w, (Instr.sliceAt t v (some (.int k a)) none none).run P w = .ok v' w := by
  subst hb
  obtain ⟨h0, h1, h2⟩ := hr
  obtain ⟨p, cap, hv, hc, hS⟩ := sl_part h hf h0 h1 h2
  have ht' : P.underlying t = some (.slice (P.elem t)) := by rw [elem_of ht]; exact ht
  refine ⟨_, hS, fun k w => ?_⟩
  rw [hv, run_sliceAt_slice w t _ _ _ _ ht', run_slice_l w t p _ cap ht' k a h0 h1, elem_of ht, hs]
  rfl
variable {C : World → Prop} {L : Env} {W : Bool} {d : Option Tmp} {ty : TypeId} {ps : String} {af : Array Edge} {gd : Option (Nat × Bool)} {x y z : Operand} {v' : Value} {k k' : IntKind} {a b : Int}
theorem PV.slRb (hx : Opd L W x v) (hy : Opd L W y (.int k a)) (hz : Opd L W z (.int k' b)) (hr : ∀ (k k' : IntKind) w, (Instr.sliceAt t v (some (.int k a)) (some (.int k' b)) none).run P w = .ok v' w) : PV P C L W ⟨d, .slice t x (some y) (some z) none, ty, ps, af, gd⟩ v' := by
  intro ac N hs hW w _
  simp only [execOp, hx ac N hs hW, Option.map_some, Option.map_none, hy ac N hs hW, hz ac N hs hW]
  rw [Sem.run_bind, hr]; rfl
theorem PV.slRh (hx : Opd L W x v) (hz : Opd L W z (.int k' b)) (hr : ∀ (k' : IntKind) w, (Instr.sliceAt t v none (some (.int k' b)) none).run P w = .ok v' w) : PV P C L W ⟨d, .slice t x none (some z) none, ty, ps, af, gd⟩ v' := by
  intro ac N hs hW w _
  simp only [execOp, hx ac N hs hW, Option.map_some, Option.map_none, hz ac N hs hW]
  rw [Sem.run_bind, hr]; rfl
theorem PV.slRl (hx : Opd L W x v) (hy : Opd L W y (.int k a)) (hr : ∀ (k : IntKind) w, (Instr.sliceAt t v (some (.int k a)) none none).run P w = .ok v' w) : PV P C L W ⟨d, .slice t x (some y) none none, ty, ps, af, gd⟩ v' := by
  intro ac N hs hW w _
  simp only [execOp, hx ac N hs hW, Option.map_some, Option.map_none, hy ac N hs hW]
  rw [Sem.run_bind, hr]; rfl
end sl
end Go.Eng
