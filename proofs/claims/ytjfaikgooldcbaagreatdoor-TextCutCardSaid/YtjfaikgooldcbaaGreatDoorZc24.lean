/-

-/
import Derived.Test.YtjfaikgooldcbaaGreatDoorZc5
import Derived.Laws.BitsLemmas
import Derived.Test.YtjfaikgooldcbaaGreatDoorZc3
import Derived.Test.YtjfaikgooldcbaaGreatDoorProg
import Derived.Test.YtjfaikgooldcbaaGreatDoorZc21
import Derived.Test.YtjfaikgooldcbaaGreatDoorZc23
import Derived.Test.YtjfaikgooldcbaaGreatDoorZc19
import Derived.Test.YtjfaikgooldcbaaGreatDoorZc20
set_option linter.unusedVariables false
set_option linter.unusedSimpArgs false
set_option maxRecDepth 100000
namespace Go.Proofs.YtjfaikgooldcbaaGreatDoor
open Go.Eng

/-- The reference's line; below 0: none. -/
def lineR (d : Int) : Str := if d < 0 then [] else 10 :: twoN d.toNat
theorem twoN_snoc (n : Nat) : twoN (n + 1) = twoN n ++ [32, 32] := by
  induction n with
  | zero => rfl
  | succ n ih =>
    calc twoN (n + 1 + 1) = 32 :: 32 :: twoN (n + 1) := rfl
      _ = 32 :: 32 :: (twoN n ++ [32, 32]) := by rw [ih]
      _ = twoN (n + 1) ++ [32, 32] := rfl
/-- Right, of few nodes, with short texts. -/
def fewB (v : Vl) (q : Int) : Bool := if q < len v ∨ (v.any fun n => decide (200 < len n.s ∨ 200 < len n.name)) = true then false else rightB v
theorem few_n {v : Vl} {q : Int} (h1 : len v ≤ q) (h2 : shortV 200 v) : fewB v q = rightB v := by
  unfold fewB
  rw [if_neg]
  rintro (h | h)
  · omega
  · obtain ⟨n, hn, h⟩ := List.any_eq_true.1 h
    rw [decide_eq_true_eq] at h
    have := h2 n hn
    omega
theorem few_bad {v : Vl} {q k : Int} (h0 : 0 ≤ k) (h1 : k < len v) (h : 200 < len (at' v k).s ∨ 200 < len (at' v k).name) : fewB v q = false := by
  unfold fewB
  rw [if_pos]
  exact .inr (List.any_eq_true.2 ⟨_, at'_mem h0 h1, by rw [decide_eq_true_eq]; exact h⟩)
theorem few_yes {v : Vl} {q : Int} (h : fewB v q = true) : len v ≤ q ∧ shortV 200 v ∧ rightB v = true := by
  unfold fewB at h
  split at h
  · cases h
  · rename_i hn
    refine ⟨by rcases Int.lt_or_le q (len v) with h1 | h1; exact absurd (.inl h1) hn; exact h1, fun n hm => ?_, h⟩
    rcases Classical.em (200 < len n.s ∨ 200 < len n.name) with h1 | h1
    · exact absurd (.inr (List.any_eq_true.2 ⟨n, hm, by rw [decide_eq_true_eq]; exact h1⟩)) hn
    · exact ⟨by omega, by omega⟩
theorem short_all {v : Vl} {k : Int} (h : ∀ j, 0 ≤ j → j < k → len (at' v j).s ≤ 200 ∧ len (at' v j).name ≤ 200) (hk : len v ≤ k) : shortV 200 v := by
  intro n hn
  obtain ⟨j, hj, e⟩ := List.getElem_of_mem hn
  have := h (j : Int) (by omega) (by unfold len at hk; omega)
  rw [show at' v (j : Int) = n from by unfold at'; simp [List.getD_eq_getElem?_getD, hj, e]] at this
  exact this
/- loupe/louperef02.Few -/
theorem few_c (M : Mem) (v : Vl) (vv : Value) (q : Int) (w : World) (hM : Sat w M) (hv : Sl M 6 v.length vv (v.flatMap Nd.cells)) (hq : 0 ≤ q ∧ q ≤ 1048576) :
  Calls Tryz.prog 14 [vv, (i64 q)].toArray w fun e w' => e = .returned (.bool (fewB v q)) ∧ Ext w w' := by
 refine CW.enter1 Tryz.func14 rfl Tryz.ntmps14 (Nat.le_of_ble_eq_true rfl) fun Q hE => ?_
 have hvn := len_nonneg v
 have hS : St w M w M [] := St.start hM
 refine CW.weaken [0, 1] (L' := [Y 0 vv, Y 1 (i64 q)]) ?_ rfl
 refine CW.sr (RL.u (.assign .c) rfl (RL.nil (CW.id (CW.seq ?_))))
 refine CW.sr (RL.m rfl rfl (RL.u (.lenT hv (.t rfl) ⟨_, Tryz.underlying24⟩) rfl (RL.m rfl rfl (RL.u (.gtr (.t rfl) (.t rfl)) rfl (RL.nil (CW.id ?_))))))
 refine CW.cond rfl ?_ ?_ <;> intro hb1 <;> try simp only [zb] at hb1
 ·refine CW.sr (RL.u (.assign .c) rfl (RL.nil (CW.id (CW.ret (hE.r1 rfl rfl ?_)))))
  exact ⟨by unfold fewB; rw [if_pos (.inl hb1)], hS.low⟩
 ·refine CW.skip (CW.id (CW.seq (CW.sr (RL.u (.assign .c) rfl (RL.nil (CW.id ?_))))))
  refine CW.block ?_
  refine CW.loop (σ := Int) (fun k => [Y 0 vv, Y 5 (i64 k)]) (fun k wl => St w M wl M [] ∧ Sl M 6 v.length vv (v.flatMap Nd.cells) ∧ 0 ≤ k ∧ k ≤ len v ∧ (∀ j, 0 ≤ j → j < k → len (at' v j).s ≤ 200 ∧ len (at' v j).name ≤ 200)) (fun k => (len v - k).toNat) 0 [0, 5] rfl ?_ ?_
  ·refine ⟨hS, hv, ?_⟩; exact ⟨by omega, by omega, fun j h1 h2 => by omega⟩
  ·rintro k wl ⟨hS1, hv, hk0, hk1, hsh⟩
   refine CW.seq (CW.sr (RL.m rfl rfl (RL.m rfl rfl (RL.u (.lenT hv (.t rfl) ⟨_, Tryz.underlying24⟩) rfl (RL.u (.lss (.t rfl) (.t rfl)) rfl (RL.nil (CW.id ?_)))))))
   refine CW.cond rfl ?_ ?_ <;> intro hb2 <;> try simp only [zb] at hb2
   ·refine CW.skip (CW.id (CW.seq (CW.block (CW.sr ?_))))
    refine RL.m rfl rfl (RL.m rfl rfl (RL.u (.idxT hv (.t rfl) (.t rfl) Tryz.underlying24 Tryz.sizeOf38 (fun _ => by omega)) rfl (RL.u (.fldA (q := ⟨sb vv, so vv + (k : Int).toNat * 6 + 3, none⟩) (.t rfl) (fun w => by kernel_rfl)) rfl (RL.u (.loadE1 (f := Nd.cells) (i := k) (j := 3) (u := (str ((at' v k).s))) hS1 extEq hv Nd.cells_len (.t rfl) Tryz.isAgg9 (fun _ => by omega) rfl rfl) rfl (RL.u (.lenS (.t rfl) Tryz.underlying9) rfl ?_)))))
    refine RL.u (.gtr (.t rfl) .c) rfl (RL.m rfl rfl (RL.v (.neg rfl rfl) (.move (.t rfl)) rfl (RL.v (.neg rfl rfl) (.move (.t rfl)) rfl (RL.v (.neg rfl rfl) (.idxT hv (.g rfl (fun h => h)) (.g rfl (fun h => h)) Tryz.underlying24 Tryz.sizeOf38 (fun hW => by simp only [zb] at hW; omega)) rfl (RL.v (.neg rfl rfl) (.fldA (q := ⟨sb vv, so vv + (k : Int).toNat * 6 + 2, none⟩) (.g rfl (fun h => h)) (fun w => by kernel_rfl)) rfl ?_)))))
    refine RL.v (.neg rfl rfl) (.loadE1 (f := Nd.cells) (i := k) (j := 2) (u := (str ((at' v k).name))) hS1 extEq hv Nd.cells_len (.g rfl (fun h => h)) Tryz.isAgg9 (fun hW => by simp only [zb] at hW; omega) rfl rfl) rfl (RL.v (.neg rfl rfl) (.lenS (.g rfl (fun h => h)) Tryz.underlying9) rfl (RL.v (.neg rfl rfl) (.gtr (.g rfl (fun h => h)) .c) rfl (RL.u (.or (.t rfl) (.g rfl (fun h => h))) rfl (RL.nil (CW.id ?_)))))
    refine CW.cond rfl ?_ ?_ <;> intro hb3 <;> try simp only [zb] at hb3
    ·refine CW.sr (RL.u (.assign .c) rfl (RL.nil (CW.id (CW.ret (hE.r1 rfl rfl ?_)))))
     exact ⟨by rw [few_bad hk0 hb2 (by omega)], hS1.low⟩
    ·refine CW.skip (CW.id ?_)
     refine CW.region (RL.m rfl rfl (RL.u (.add (.t rfl) .c (fun _ => by omega)) rfl (RL.a rfl rfl ?_)))
     refine RL.nil fun a hs => Exists.intro (k + 1) ⟨hs.keep [0, 5], ?_, ?_⟩
     ·refine ⟨hS1, hv, ?_⟩
      exact ⟨by omega, by omega, fun j h1 h2 => by rcases Int.lt_or_eq_of_le (show j ≤ k by omega) with h3 | rfl; exact hsh j h1 h3; exact ⟨by omega, by omega⟩⟩
     ·show Int.toNat _ < Int.toNat _; omega
   ·have hsv := short_all hsh (by omega)
    have hln : ∀ n ∈ v, len n.s ≤ 1099511627776 ∧ len n.name ≤ 1099511627776 := fun n hn => by have := hsv n hn; omega
    refine CW.exit (CW.at [Y 0 vv] rfl ?_)
    refine CW.sr (RL.m rfl rfl ?_)
    refine RL.callE hS1 .none Tryz.call19 (.cons (.t rfl) .nil) (fun _ => (right2_c M v vv _ hS1.sat hv (by omega) (by assumption))) rfl (fun w2 hS3 => ?_)
    refine RL.a rfl rfl ?_
    refine RL.nil (CW.at [Y 4 (.bool (rightB v))] rfl (CW.ret (hE.r1 rfl rfl ?_)))
    exact ⟨by rw [few_n (by omega) hsv], hS3.low⟩

/- loupe/louperef04.Scalar -/
theorem scalar4_c (n : Nd) (w : World) (hn : len n.s ≤ 1099511627776) (he : -1000000 ≤ n.e ∧ n.e ≤ 1000000) (hu : n.kind = 4 → utf n.s = true) (hk : 0 ≤ n.kind ∧ n.kind < 5) :
  Calls Tryz.prog 57 [(ndV n)].toArray w fun e w' => e = .returned (str (scalarP n)) ∧ Ext w w' := by
 refine CW.enter1 Tryz.func57 rfl Tryz.ntmps57 (Nat.le_of_ble_eq_true rfl) fun Q hE => ?_
 have hS : St w nM w nM [] := St.start ⟨fun _ _ _ h => by cases h⟩
 refine CW.weaken [0] (L' := [Y 0 (ndV n)]) ?_ rfl
 refine CW.sr ?_
 refine RL.box (v := (ndV n)) hS (.t rfl) rfl (fun w1 b2 hS3 => ?_)
 refine RL.u (.assign .c) rfl (RL.nil (CW.id ?_))
 refine CW.seq (CW.sr (RL.u (.fldA (q := ⟨b2, 0, none⟩) (.t rfl) (fun w => by kernel_rfl)) rfl (RL.u (.loadB1 (v := (i64 n.kind)) hS3 extEq (i := 0) rfl (.t rfl) Tryz.isAgg3 rfl) rfl (RL.nil (CW.id ?_)))))
 refine CW.block (CW.sr (RL.u (.eql (.t rfl) .c) rfl (RL.a rfl rfl (RL.nil (CW.id ?_)))))
 refine CW.cond rfl ?_ ?_ <;> intro hb1 <;> try simp only [zb] at hb1
 ·refine CW.sr (RL.u (.assign .c) rfl (RL.nil (CW.id (CW.ret (hE.r1 rfl rfl ?_)))))
  clear hE
  refine ⟨congrArg (fun x => Ending.returned (str x)) ?_, hS3.low⟩
  unfold scalarP; (try dsimp only); (repeat' split)
  all_goals first | rfl | (exfalso; simp only [zb] at *; omega) | (exfalso; simp_all; done) | (exfalso; simp_all; omega)
 ·refine CW.sr (RL.u (.eql (.t rfl) .c) rfl (RL.a rfl rfl (RL.nil (CW.id ?_))))
  refine CW.cond rfl ?_ ?_ <;> intro hb2 <;> try simp only [zb] at hb2
  ·refine CW.sr (RL.u (.assign .c) rfl (RL.nil (CW.id (CW.ret (hE.r1 rfl rfl ?_)))))
   clear hE
   refine ⟨congrArg (fun x => Ending.returned (str x)) ?_, hS3.low⟩
   unfold scalarP; (try dsimp only); (repeat' split)
   all_goals first | rfl | (exfalso; simp only [zb] at *; omega) | (exfalso; simp_all; done) | (exfalso; simp_all; omega)
  ·refine CW.sr (RL.u (.eql (.t rfl) .c) rfl (RL.a rfl rfl (RL.nil (CW.id ?_))))
   refine CW.cond rfl ?_ ?_ <;> intro hb3 <;> try simp only [zb] at hb3
   ·refine CW.sr (RL.u (.assign .c) rfl (RL.nil (CW.id (CW.ret (hE.r1 rfl rfl ?_)))))
    clear hE
    refine ⟨congrArg (fun x => Ending.returned (str x)) ?_, hS3.low⟩
    unfold scalarP; (try dsimp only); (repeat' split)
    all_goals first | rfl | (exfalso; simp only [zb] at *; omega) | (exfalso; simp_all; done) | (exfalso; simp_all; omega)
   ·refine CW.sr (RL.u (.eql (.t rfl) .c) rfl (RL.a rfl rfl (RL.nil (CW.id ?_))))
    refine CW.cond rfl ?_ ?_ <;> intro hb4 <;> try simp only [zb] at hb4
    ·refine CW.sr (RL.u (.loadBN (vs := (ndC n [])) hS3 extEq (i := 0) rfl (.t rfl) Tryz.isAgg38 Tryz.sizeOf38 rfl rfl) rfl ?_)
     refine RL.callE hS3 .none Tryz.call87 (.cons (.t rfl) .nil) (fun _ => (print3_c n _ (by omega) (by omega))) rfl (fun w4 hS5 => ?_)
     refine RL.a rfl rfl ?_
     refine RL.nil (CW.at [Y 2 (str (print1 n))] rfl (CW.ret (hE.r1 rfl rfl ?_)))
     clear hE
     refine ⟨congrArg (fun x => Ending.returned (str x)) ?_, hS5.low⟩
     unfold scalarP; (try dsimp only); (repeat' split)
     all_goals first | rfl | (exfalso; simp only [zb] at *; omega) | (exfalso; simp_all; done) | (exfalso; simp_all; omega)
    ·have hqu := quote_eq (hu (by omega))
     refine CW.skip (CW.id (CW.sr (RL.u (.fldA (q := ⟨b2, 3, none⟩) (.t rfl) (fun w => by kernel_rfl)) rfl (RL.u (.loadB1 (v := (str n.s)) hS3 extEq (i := 0) rfl (.t rfl) Tryz.isAgg9 rfl) rfl ?_))))
     refine RL.callE hS3 .none Tryz.call60 (.cons (.t rfl) .nil) (fun _ => (quote3_c n.s _ (by omega))) rfl (fun w6 hS7 => ?_)
     refine RL.a rfl rfl ?_
     refine RL.nil (CW.at [Y 2 (str (quoteR n.s))] rfl (CW.ret (hE.r1 rfl rfl ?_)))
     clear hE
     rw [← hqu]
     refine ⟨congrArg (fun x => Ending.returned (str x)) ?_, hS7.low⟩
     unfold scalarP; (try dsimp only); (repeat' split)
     all_goals first | rfl | (exfalso; simp only [zb] at *; omega) | (exfalso; simp_all; done) | (exfalso; simp_all; omega)

/- loupe/louperef04.line -/
theorem line4_c (d : Int) (w : World) (hd : d ≤ 1000000) :
  Calls Tryz.prog 59 [(i64 d)].toArray w fun e w' => e = .returned (str (lineR d)) ∧ Ext w w' := by
 refine CW.enter1 Tryz.func59 rfl Tryz.ntmps59 (Nat.le_of_ble_eq_true rfl) fun Q hE => ?_
 have hS : St w nM w nM [] := St.start ⟨fun _ _ _ h => by cases h⟩
 refine CW.weaken [0] (L' := [Y 0 (i64 d)]) ?_ rfl
 refine CW.sr (RL.u (.assign .c) rfl (RL.nil (CW.id (CW.seq ?_))))
 refine CW.sr (RL.m rfl rfl (RL.u (.lss (.t rfl) .c) rfl (RL.nil (CW.id ?_))))
 refine CW.cond rfl ?_ ?_ <;> intro hb1 <;> try simp only [zb] at hb1
 ·refine CW.sr (RL.u (.assign .c) rfl (RL.nil (CW.id (CW.ret (hE.r1 rfl rfl ?_)))))
  exact ⟨by unfold lineR; rw [if_pos hb1], hS.low⟩
 ·refine CW.skip (CW.id (CW.sr (RL.u (.assign .c) rfl (RL.nil (CW.id ?_)))))
  refine CW.seq (CW.sr (RL.u (.assign .c) rfl (RL.nil (CW.id ?_))))
  refine CW.block ?_
  refine CW.loop (σ := Int × Str) (fun (k, o) => [Y 0 (i64 d), Y 3 (str o), Y 4 (i64 k)]) (fun (k, o) wl => St w nM wl nM [] ∧ 0 ≤ k ∧ k ≤ d ∧ o = 10 :: twoN k.toNat) (fun (k, o) => (d - k).toNat) ((0, [10])) [0, 3, 4] rfl ?_ ?_
  ·refine ⟨hS, ?_⟩; exact ⟨by omega, by omega, rfl⟩
  ·rintro ⟨k, o⟩ wl ⟨hS1, hk0, hk1, ho⟩
   have hlo : len o = 1 + 2 * k.toNat := by rw [ho, len_cons, twoN_len]; omega
   refine CW.seq (CW.sr (RL.m rfl rfl (RL.m rfl rfl (RL.u (.lss (.t rfl) (.t rfl)) rfl (RL.nil (CW.id ?_))))))
   refine CW.cond rfl ?_ ?_ <;> intro hb2 <;> try simp only [zb] at hb2
   ·refine CW.skip (CW.id (CW.seq (CW.block ?_)))
    refine CW.region (RL.m rfl rfl (RL.u (.sadd (.t rfl) .c (fun _ => by first | omega | (simp only [len_cons, len_nil] at *; omega))) rfl (RL.a rfl rfl (RL.nil (CW.id ?_)))))
    refine CW.region (RL.m rfl rfl (RL.u (.add (.t rfl) .c (fun _ => by omega)) rfl (RL.a rfl rfl ?_)))
    refine RL.nil fun a hs => Exists.intro ((k + 1, o ++ [32, 32])) ⟨hs.keep [0, 3, 4], ?_, ?_⟩
    ·refine ⟨hS1, ?_⟩
     exact ⟨by omega, by omega, by rw [ho, show (k + 1).toNat = k.toNat + 1 by omega, twoN_snoc]; rfl⟩
    ·show Int.toNat _ < Int.toNat _; omega
   ·refine CW.exit (CW.at [Y 3 (str o)] rfl ?_)
    refine CW.sr (RL.m rfl rfl (RL.a rfl rfl (RL.nil (CW.id (CW.ret (hE.r1 rfl rfl ?_))))))
    obtain rfl : k = d := by omega
    exact ⟨by unfold lineR; rw [if_neg hb1, ho], hS1.low⟩

/-- The reference's text; below 0: compact. -/
def prR (d : Int) (t : Tr) : Str := if d < 0 then prt false 0 t else prt true d t
def prLR (d : Int) (ob f : Bool) (ts : List Tr) : Str := if d < 0 then prtL false 0 ob f ts else prtL true d ob f ts
mutual
theorem prt_false : (d : Int) → (t : Tr) → prt false d t = prt false 0 t
  | d, .mk n ps => by
    rw [prt, prt, prtL_false d, prtL_false 0]; rfl
theorem prtL_false : (d : Int) → (ob f : Bool) → (ts : List Tr) → prtL false d ob f ts = prtL false 0 ob f ts
  | d, ob, f, [] => by rw [prtL, prtL]
  | d, ob, f, t :: ts => by
    rw [prtL, prtL, prt_false (d + 1) t, prt_false (0 + 1) t, prtL_false d ob false ts]; rfl
end
def colonR (d : Int) : Str := if d < 0 then [58] else [58, 32]
def nextR (d : Int) : Int := if d < 0 then d else d + 1
theorem prtL_app (ln : Bool) (d : Int) (ob : Bool) : ∀ (a : List Tr) (f : Bool) (b : List Tr), prtL ln d ob f (a ++ b) = prtL ln d ob f a ++ prtL ln d ob (f && a.isEmpty) b
  | [], f, b => by simp [prtL]
  | t :: a, f, b => by
    rw [List.cons_append, prtL, prtL, prtL_app ln d ob a false b]
    simp
/-- One part more. -/
theorem prLR_step {d k : Int} {t u : Tr} {ob : Bool} (h0 : 0 ≤ k) (h1 : k < len t.parts) (hu : t.parts[k.toNat]? = some u) :
    prLR d ob true (t.parts.take (k + 1).toNat) = prLR d ob true (t.parts.take k.toNat) ++ ((if 0 < k then [44] else []) ++ (lineR (nextR d) ++ ((if ob then quoteP u.node.name ++ colonR d else []) ++ prR (nextR d) (u.named [])))) := by
  have e : t.parts.take (k + 1).toNat = t.parts.take k.toNat ++ [u] := by rw [show (k + 1).toNat = k.toNat + 1 by omega, List.take_add_one, hu]; rfl
  have hem : (t.parts.take k.toNat).isEmpty = decide (k = 0) := by
    rcases Int.lt_or_eq_of_le h0 with h | rfl
    · have : k.toNat = (k.toNat - 1) + 1 := by omega
      cases hp : t.parts with
      | nil => rw [hp, len_nil] at h1; omega
      | cons a l => rw [this]; simp; omega
    · simp
  have hf : (if (true && (t.parts.take k.toNat).isEmpty) = true then [] else ([44] : Str)) = if 0 < k then [44] else [] := by
    rw [hem]
    by_cases hk : k = 0
    · subst hk; rfl
    · rw [if_neg (by simpa using hk), if_pos (by omega)]
  have hpn : ∀ (ln : Bool) (q : Int), prt ln q (u.named []) = prt ln q u := fun ln q => by obtain ⟨n, ps⟩ := u; rfl
  unfold prLR
  by_cases hd : d < 0
  · rw [if_pos hd, if_pos hd, e, prtL_app, prtL, prtL, hf, prt_false]
    have hn : nextR d = d := if_pos hd
    rw [hn]
    unfold lineR prR colonR nameP lineP
    rw [if_pos hd, if_pos hd, if_pos hd, hpn]
    cases ob <;> simp
  · rw [if_neg hd, if_neg hd, e, prtL_app, prtL, prtL, hf]
    have hn : nextR d = d + 1 := if_neg hd
    have hd1 : ¬ d + 1 < 0 := by omega
    rw [hn]
    unfold lineR prR colonR nameP lineP
    rw [if_neg hd, if_neg hd1, if_neg hd1, hpn]
    cases ob <;> simp
theorem prR_scalar {d : Int} {t : Tr} (h : t.node.kind < 5) : prR d t = scalarP t.node := by
  obtain ⟨n, ps⟩ := t
  unfold prR
  rw [prt, prt]
  split <;> exact if_pos h
theorem prR_none {d : Int} {t : Tr} (h : ¬ t.node.kind < 5) (hp : t.parts = []) : prR d t = if t.node.kind = 6 then [123, 125] else [91, 93] := by
  obtain ⟨n, ps⟩ := t
  have hp' : ps = [] := hp
  subst hp'
  have h : ¬ n.kind < 5 := h
  show prR d (.mk n []) = if n.kind = 6 then _ else _
  unfold prR
  rw [prt, prt, if_neg h, if_neg h]
  unfold marksP
  split <;> split <;> rfl
theorem prR_some {d : Int} {t : Tr} (h : ¬ t.node.kind < 5) (hp : t.parts ≠ []) : prR d t = ((if t.node.kind = 6 then [123, 125] else [91, 93] : Str).take 1 ++ prLR d (t.node.kind == 6) true t.parts) ++ lineR d ++ (if t.node.kind = 6 then [123, 125] else [91, 93] : Str).drop 1 := by
  obtain ⟨n, ps⟩ := t
  have hp' : ps.isEmpty = false := by cases ps with | nil => exact absurd rfl hp | cons a l => rfl
  have h : ¬ n.kind < 5 := h
  show prR d (.mk n ps) = _
  unfold prR prLR lineR
  rw [prt, prt, if_neg h, if_neg h, hp']
  show _ = ((if n.kind = 6 then [123, 125] else [91, 93] : Str).take 1 ++ (if d < 0 then prtL false 0 (n.kind == 6) true ps else prtL true d (n.kind == 6) true ps)) ++ _ ++ (if n.kind = 6 then [123, 125] else [91, 93] : Str).drop 1
  unfold marksP lineP
  split <;> split <;> simp
theorem lineR_bd {d : Int} (h : d ≤ 1000000) : 0 ≤ len (lineR d) ∧ len (lineR d) ≤ 2000001 := by
  unfold lineR
  have := twoN_len d.toNat
  split
  · exact ⟨Int.le_refl _, by rw [len_nil]; omega⟩
  · rw [len_cons]; omega
theorem colonR_bd (d : Int) : 0 ≤ len (colonR d) ∧ len (colonR d) ≤ 2 := by unfold colonR; split <;> exact ⟨by decide, by decide⟩
theorem prR_bd {d : Int} {t : Tr} (h : t.good) (hs : shortV 200 t.flat) (h0 : -1 ≤ d) (h1 : d + 1 + t.size ≤ 1000000) : 0 ≤ len (prR d t) ∧ len (prR d t) ≤ 10000000000000 := by
  unfold prR
  split
  · have := prt_bd (ln := false) (d := 0) h (hs.mono (by decide)) (Int.le_refl _) (by omega); omega
  · have := prt_bd (ln := true) (d := d) h (hs.mono (by decide)) (by omega) (by omega); omega
theorem prLR_bd {d k : Int} {t : Tr} {ob : Bool} (h : t.good) (hs : shortV 200 t.flat) (h0 : -1 ≤ d) (h1 : d + 1 + t.size ≤ 1000000) : 0 ≤ len (prLR d ob true (t.parts.take k.toNat)) ∧ len (prLR d ob true (t.parts.take k.toNat)) ≤ 10000000000000 := by
  have hg := Tr.parts_good h
  have e := List.take_append_drop k.toNat t.parts
  rw [← e, goodL_app] at hg
  have hsz := sizeL_take t.parts k.toNat
  have hz := Tr.size_eq t
  have hs2 : shortV 200 (flatL (t.parts.take k.toNat)) := fun n hn => hs n (Tr.flat_parts (by rw [← e, flatL_app]; exact List.mem_append.2 (.inl hn)))
  unfold prLR
  split
  · have := prtL_bd (ln := false) (d := 0) (ob := ob) (f := true) hg.1 (hs2.mono (by decide)) (Int.le_refl _) (by omega); omega
  · have := prtL_bd (ln := true) (d := d) (ob := ob) (f := true) hg.1 (hs2.mono (by decide)) (by omega) (by omega); omega
def PrintedOK (t : Tr) : Prop := ∀ (M : Mem) (vv : Value) (d : Int) (w : World), Sat w M → Sl M 6 t.flat.length vv (t.flat.flatMap Nd.cells) → t.good → shortV 200 t.flat → -1 ≤ d → d + 1 + t.size ≤ 1000000 →
    Calls Tryz.prog 33 [vv, i64 d].toArray w fun e w' => e = .returned (str (prR d t)) ∧ Ext w w'
/- loupe/louperef04.printed -/
theorem printed_c (M : Mem) (t : Tr) (vv : Value) (d : Int) (w : World) (hM : Sat w M) (hv : Sl M 6 t.flat.length vv (t.flat.flatMap Nd.cells)) (hg : t.good) (hs : shortV 200 t.flat) (h0 : -1 ≤ d) (h1 : d + 1 + t.size ≤ 1000000) (IH : ∀ u : Tr, u.size < t.size → PrintedOK u) :
  Calls Tryz.prog 33 [vv, (i64 d)].toArray w fun e w' => e = .returned (str (prR d t)) ∧ Ext w w' := by
 refine CW.enter1 Tryz.func33 rfl Tryz.ntmps33 (Nat.le_of_ble_eq_true rfl) fun Q hE => ?_
 have hw := Tr.good_wf hg
 have hpl := Tr.good_node hg
 have hkd := plain_kind hpl
 have hsn := Tr.short_node hs
 have hvb : len t.flat ≤ 1048576 := by unfold len; rw [Tr.flat_len]; omega
 have hfl : 0 < len t.flat := by unfold len; rw [Tr.flat_len]; have := t.size_pos; omega
 have hnl := kidNs_len (t := t)
 have hat0 := Tr.at0 t
 have hlp := len_nonneg t.parts
 have hpf : len t.parts + 1 ≤ len t.flat := by unfold len; rw [Tr.flat_len, Tr.size_eq]; have := len_le_sizeL t.parts; unfold len at this; omega
 have hA0 : at' t.flat 0 = t.node := Tr.at0 t
 have hk0e : (at' t.flat 0).kind = t.node.kind := by rw [hA0]
 have hs0e : (at' t.flat 0).s = t.node.s := by rw [hA0]
 have hsl0 : len (at' t.flat 0).s ≤ 200 := by rw [hA0]; exact hsn.1
 have he0e : (at' t.flat 0).e = t.node.e := by rw [hA0]
 have hS : St w M w M [] := St.start hM
 refine CW.weaken [0, 1] (L' := [Y 0 vv, Y 1 (i64 d)]) ?_ rfl
 refine CW.sr (RL.u (.assign .c) rfl (RL.nil (CW.id (CW.seq ?_))))
 refine CW.sr (RL.m rfl rfl (RL.u (.idxT hv (.t rfl) .c Tryz.underlying24 Tryz.sizeOf38 (fun _ => by omega)) rfl (RL.u (.fldA (q := ⟨sb vv, so vv + (0 : Int).toNat * 6, none⟩) (.t rfl) (fun w => by kernel_rfl)) rfl (RL.u (.loadE1 (f := Nd.cells) (i := 0) (j := 0) (u := (i64 ((at' t.flat 0).kind))) hS extEq hv Nd.cells_len (.t rfl) Tryz.isAgg3 (fun _ => by omega) rfl rfl) rfl (RL.u (.lss (.t rfl) .c) rfl (RL.nil (CW.id ?_)))))))
 refine CW.cond rfl ?_ ?_ <;> intro hb1 <;> try simp only [zb] at hb1
 ·have hsc := plain_scalar hpl (by omega)
  refine CW.sr (RL.m rfl rfl (RL.u (.idxT hv (.t rfl) .c Tryz.underlying24 Tryz.sizeOf38 (fun _ => by omega)) rfl (RL.u (.loadEN (f := Nd.cells) (i := 0) hS extEq hv Nd.cells_len (.t rfl) Tryz.isAgg38 Tryz.sizeOf38 (fun _ => by omega)) rfl ?_)))
  refine RL.callE hS .none Tryz.call57 (.cons (.t rfl) .nil) (fun _ => (scalar4_c (at' t.flat 0) _ (by omega) (by omega) (by rw [Tr.at0]; exact plain_utf hpl) (by omega))) rfl (fun w1 hS2 => ?_)
  refine RL.a rfl rfl ?_
  refine RL.nil (CW.at [Y 4 (str (scalarP (at' t.flat 0)))] rfl (CW.ret (hE.r1 rfl rfl ?_)))
  rw [Tr.at0] at hb1 ⊢
  exact ⟨by rw [prR_scalar (by omega)], hS2.low⟩
 ·refine CW.skip (CW.id (CW.sr (RL.u (.assign .c) rfl (RL.nil (CW.id ?_)))))
  refine CW.mid (σ := Str) (fun mk => [Y 0 vv, Y 1 (i64 d), Y 5 (str mk)]) (fun mk wm3 => St w M wm3 M [] ∧ Sl M 6 t.flat.length vv (t.flat.flatMap Nd.cells) ∧ mk = (if t.node.kind = 6 then [123, 125] else [91, 93] : Str)) ?_ ?_
  ·refine CW.sr (RL.m rfl rfl (RL.u (.idxT hv (.t rfl) .c Tryz.underlying24 Tryz.sizeOf38 (fun _ => by omega)) rfl (RL.u (.fldA (q := ⟨sb vv, so vv + (0 : Int).toNat * 6, none⟩) (.t rfl) (fun w => by kernel_rfl)) rfl (RL.u (.loadE1 (f := Nd.cells) (i := 0) (j := 0) (u := (i64 ((at' t.flat 0).kind))) hS extEq hv Nd.cells_len (.t rfl) Tryz.isAgg3 (fun _ => by omega) rfl rfl) rfl (RL.u (.eql (.t rfl) .c) rfl (RL.nil (CW.id ?_)))))))
   refine CW.cond rfl ?_ ?_ <;> intro hb2 <;> try simp only [zb] at hb2
   ·refine CW.region (RL.u (.assign .c) rfl ?_)
    exact RL.nil fun a hs => ⟨[123, 125], hs.keep [0, 1, 5], hS, hv, by rw [if_pos (by omega)]⟩
   ·exact CW.skip fun a hs => ⟨[91, 93], hs.keep [0, 1, 5], hS, hv, by rw [if_neg (by omega)]⟩
  ·rintro mk wm3 ⟨hS4, hv, hmk⟩
   have hml : len mk = 2 := by rw [hmk]; split <;> rfl
   have hms : len (Eng.sub mk 0 1) = 1 := by rw [hmk]; split <;> rfl
   have hms2 : len (Eng.from' mk 1) = 1 := by rw [hmk]; split <;> rfl
   refine CW.sr (RL.m rfl rfl ?_)
   refine RL.callP Tryz.call37 (.cons (.t rfl) .nil) (parts2_c (Rs := []) t vv hS4 hv (by omega) hw) rfl ?_
   rintro v6 w7 ⟨rs5, M8, hsl_v6, hrow_v6, hS9, hle10⟩
   replace hv := hv.mono hle10
   replace hsl_v6 : Sl M8 1 rs5.length v6 (rs5.flatMap valI) := hsl_v6
   replace hrow_v6 : RowsV M8 6 Nd.cells rs5 (kidsV t) := hrow_v6
   refine RL.a rfl rfl ?_
   refine RL.nil (CW.at [Y 0 vv, Y 1 (i64 d), Y 5 (str mk), Y 6 v6] rfl (CW.sr (RL.m rfl rfl ?_)))
   refine RL.callP Tryz.call58 (.cons (.t rfl) .nil) (names2_c (Rs := []) t vv hS9 hv (by omega) hw) rfl ?_
   rintro v11 w12 ⟨M13, hsl_v11, hS14, hle15⟩
   replace hv := hv.mono hle15
   replace hsl_v6 := hsl_v6.mono hle15
   replace hrow_v6 := hrow_v6.mono hle15
   replace hsl_v11 : Sl M13 1 (kidNs t).length v11 ((kidNs t).flatMap strC) := hsl_v11
   refine RL.a rfl rfl ?_
   refine RL.nil (CW.at [Y 1 (i64 d), Y 5 (str mk), Y 6 v6, Y 7 v11] rfl (CW.seq (CW.sr (RL.m rfl rfl (RL.u (.lenT hsl_v6 (.t rfl) ⟨_, Tryz.underlying47⟩) rfl (RL.u (.eql (.t rfl) .c) rfl (RL.nil (CW.id ?_))))))))
   refine CW.cond rfl ?_ ?_ <;> intro hb3 <;> try simp only [zb] at hb3
   ·have hrz : len rs5 = len t.parts := by unfold len; rw [hrow_v6.len]; exact kidsV_len t
    have hpz : t.parts = [] := len_zero.1 (by rw [← hrz]; exact hb3)
    refine CW.sr (RL.m rfl rfl (RL.a rfl rfl (RL.nil (CW.id (CW.ret (hE.r1 rfl rfl ?_))))))
    exact ⟨by rw [prR_none (by omega) hpz, hmk], hS14.low⟩
   ·have hrz : len rs5 = len t.parts := by unfold len; rw [hrow_v6.len]; exact kidsV_len t
    have hpz : t.parts ≠ [] := fun h => hb3 (by rw [hrz, h]; rfl)
    refine CW.skip (CW.id (CW.sr (RL.m rfl rfl (RL.a rfl rfl (RL.u (.assign .c) rfl (RL.nil (CW.id ?_)))))))
    refine CW.mid (σ := Int × Str) (fun (nx, cl) => [Y 1 (i64 d), Y 5 (str mk), Y 6 v6, Y 7 v11, Y 8 (i64 nx), Y 9 (str cl)]) (fun (nx, cl) wm16 => St w M wm16 M13 [] ∧ Sl M13 6 t.flat.length vv (t.flat.flatMap Nd.cells) ∧ Sl M13 1 rs5.length v6 (rs5.flatMap valI) ∧ RowsV M13 6 Nd.cells rs5 (kidsV t) ∧ Sl M13 1 (kidNs t).length v11 ((kidNs t).flatMap strC) ∧ (nx = nextR d ∧ cl = colonR d)) ?_ ?_
    ·refine CW.sr (RL.m rfl rfl (RL.u (.geq (.t rfl) .c) rfl (RL.nil (CW.id ?_))))
     refine CW.cond rfl ?_ ?_ <;> intro hb4 <;> try simp only [zb] at hb4
     ·refine CW.sr (RL.m rfl rfl (RL.u (.add (.t rfl) .c (fun _ => by omega)) rfl (RL.a rfl rfl (RL.nil (CW.id ?_)))))
      refine CW.region (RL.u (.assign .c) rfl ?_)
      exact RL.nil fun a hs => ⟨(d + 1, [58, 32]), hs.keep [1, 5, 6, 7, 8, 9], hS14, hv, hsl_v6, hrow_v6, hsl_v11, ⟨by unfold nextR; rw [if_neg (by omega)], by unfold colonR; rw [if_neg (by omega)]⟩⟩
     ·exact CW.skip fun a hs => ⟨(d, [58]), hs.keep [1, 5, 6, 7, 8, 9], hS14, hv, hsl_v6, hrow_v6, hsl_v11, ⟨by unfold nextR; rw [if_pos (by omega)], by unfold colonR; rw [if_pos (by omega)]⟩⟩
    ·rintro ⟨nx, cl⟩ wm16 ⟨hS17, hv, hsl_v6, hrow_v6, hsl_v11, ⟨hnx, hcl⟩⟩
     have hnb : -1 ≤ nx ∧ nx ≤ d + 1 := by rw [hnx]; unfold nextR; split <;> omega
     have hcb : 0 ≤ len cl ∧ len cl ≤ 2 := by rw [hcl]; exact colonR_bd d
     have hlb := lineR_bd (d := nx) (by omega)
     have hlb2 := lineR_bd (d := d) (by omega)
     refine CW.sr (RL.m rfl rfl (RL.u (.slSh (.t rfl) .c Tryz.underlying9 (fun _ => by omega)) rfl (RL.a rfl rfl (RL.nil (CW.id (CW.seq ?_))))))
     refine CW.sr (RL.u (.assign .c) rfl (RL.nil (CW.id (CW.block ?_))))
     refine CW.loop (σ := Int × Str) (fun (k, o) => [Y 1 (i64 d), Y 5 (str mk), Y 6 v6, Y 7 v11, Y 8 (i64 nx), Y 9 (str cl), Y 10 (str o), Y 11 (i64 k)]) (fun (k, o) wl => St w M wl M13 [] ∧ Sl M13 6 t.flat.length vv (t.flat.flatMap Nd.cells) ∧ Sl M13 1 rs5.length v6 (rs5.flatMap valI) ∧ RowsV M13 6 Nd.cells rs5 (kidsV t) ∧ Sl M13 1 (kidNs t).length v11 ((kidNs t).flatMap strC) ∧ 0 ≤ k ∧ k ≤ len t.parts ∧ o = Eng.sub mk 0 1 ++ prLR d (t.node.kind == 6) true (t.parts.take k.toNat)) (fun (k, o) => (len t.parts - k).toNat) ((0, Eng.sub mk 0 1)) [1, 5, 6, 7, 8, 9, 10, 11] rfl ?_ ?_
     ·refine ⟨hS17, hv, hsl_v6, hrow_v6, hsl_v11, ?_⟩; exact ⟨by omega, by omega, by unfold prLR; simp [prtL]⟩
     ·rintro ⟨k, o⟩ wl ⟨hS18, hv, hsl_v6, hrow_v6, hsl_v11, hk0, hk1, ho⟩
      have hob := prLR_bd (k := k) (ob := t.node.kind == 6) hg hs h0 h1
      have hol : 0 ≤ len o ∧ len o ≤ 10000000000001 := by rw [ho, len_app, hms]; omega
      have hrn : len rs5 = len t.parts := by unfold len; rw [hrow_v6.len]; exact kidsV_len t
      have hrk := fun h : k < len rs5 => hrow_v6.at hk0 h
      refine CW.seq (CW.sr (RL.m rfl rfl (RL.m rfl rfl (RL.u (.lenT hsl_v6 (.t rfl) ⟨_, Tryz.underlying47⟩) rfl (RL.u (.lss (.t rfl) (.t rfl)) rfl (RL.nil (CW.id ?_)))))))
      refine CW.cond rfl ?_ ?_ <;> intro hb5 <;> try simp only [zb] at hb5
      ·replace hrk := hrk (by omega)
       obtain ⟨u, hat, hgt, huw, hus⟩ := kidsV_at hk0 (by omega) hw
       have hum := List.mem_of_getElem? hgt
       have hug := goodL_mem (Tr.parts_good hg) hum
       have hks := short_kid (by omega) hs hum
       have hun := kid_name hg hum
       have hqu := quote_eq hun.2
       have hunl : len u.node.name ≤ 200 := (hs u.node (Tr.flat_parts (flatL_mem hum (by obtain ⟨n, ps⟩ := u; rw [Tr.flat]; exact List.mem_cons_self)))).2
       have hql := quoteP_len u.node.name
       have hprb := prR_bd (d := nx) (Tr.named_good (x := []) hug) hks (by omega) (by rw [Tr.named_size]; omega)
       have hnk : t.node.kind = 6 → at' (kidNs t) k = u.node.name := fun h => kidNs_at h hgt
       refine CW.skip (CW.id (CW.seq (CW.block ?_)))
       refine CW.mid (σ := Str) (fun o2 => [Y 1 (i64 d), Y 5 (str mk), Y 6 v6, Y 7 v11, Y 8 (i64 nx), Y 9 (str cl), Y 10 (str o2), Y 11 (i64 k)]) (fun o2 wm19 => St w M wm19 M13 [] ∧ Sl M13 6 t.flat.length vv (t.flat.flatMap Nd.cells) ∧ Sl M13 1 rs5.length v6 (rs5.flatMap valI) ∧ RowsV M13 6 Nd.cells rs5 (kidsV t) ∧ Sl M13 1 (kidNs t).length v11 ((kidNs t).flatMap strC) ∧ o2 = o ++ (if 0 < k then [44] else [])) ?_ ?_
       ·refine CW.sr (RL.m rfl rfl (RL.u (.gtr (.t rfl) .c) rfl (RL.nil (CW.id ?_))))
        refine CW.cond rfl ?_ ?_ <;> intro hb6 <;> try simp only [zb] at hb6
        ·refine CW.region (RL.m rfl rfl (RL.u (.sadd (.t rfl) .c (fun _ => by first | omega | (simp only [len_app, len_cons, len_nil]; omega))) rfl (RL.a rfl rfl ?_)))
         exact RL.nil fun a hs => ⟨o ++ [44], hs.keep [1, 5, 6, 7, 8, 9, 10, 11], hS18, hv, hsl_v6, hrow_v6, hsl_v11, by rw [if_pos (by omega)]⟩
        ·exact CW.skip fun a hs => ⟨o, hs.keep [1, 5, 6, 7, 8, 9, 10, 11], hS18, hv, hsl_v6, hrow_v6, hsl_v11, by rw [if_neg (by omega), List.append_nil]⟩
       ·rintro o2 wm19 ⟨hS20, hv, hsl_v6, hrow_v6, hsl_v11, ho2⟩
        have hl2 : 0 ≤ len o2 ∧ len o2 ≤ 10000000000002 := by rw [ho2, len_app]; have := len_nonneg o; split <;> simp only [len_cons, len_nil] <;> omega
        refine CW.sr (RL.m rfl rfl (RL.m rfl rfl ?_))
        refine RL.callE hS20 .none Tryz.call59 (.cons (.t rfl) .nil) (fun _ => (line4_c nx _ (by omega))) rfl (fun w21 hS22 => ?_)
        refine RL.u (.sadd (.t rfl) (.t rfl) (fun _ => by omega)) rfl (RL.a rfl rfl ?_)
        refine RL.nil (CW.at [Y 1 (i64 d), Y 5 (str mk), Y 6 v6, Y 7 v11, Y 8 (i64 nx), Y 9 (str cl), Y 10 (str (o2 ++ (lineR nx))), Y 11 (i64 k)] rfl ?_)
        refine CW.mid (σ := Str) (fun o3 => [Y 1 (i64 d), Y 5 (str mk), Y 6 v6, Y 7 v11, Y 8 (i64 nx), Y 9 (str cl), Y 10 (str o3), Y 11 (i64 k)]) (fun o3 wm23 => St w M wm23 M13 [] ∧ Sl M13 6 t.flat.length vv (t.flat.flatMap Nd.cells) ∧ Sl M13 1 rs5.length v6 (rs5.flatMap valI) ∧ RowsV M13 6 Nd.cells rs5 (kidsV t) ∧ Sl M13 1 (kidNs t).length v11 ((kidNs t).flatMap strC) ∧ o3 = (o2 ++ lineR nx) ++ (if (t.node.kind == 6) = true then quoteP u.node.name ++ cl else [])) ?_ ?_
        ·refine CW.sr (RL.m rfl rfl (RL.u (.lenT hsl_v11 (.t rfl) ⟨_, Tryz.underlying46⟩) rfl (RL.u (.gtr (.t rfl) .c) rfl (RL.nil (CW.id ?_)))))
         refine CW.cond rfl ?_ ?_ <;> intro hb7 <;> try simp only [zb] at hb7
         ·have h6 : t.node.kind = 6 := by rw [hnl] at hb7; split at hb7 <;> omega
          have hnk2 := hnk h6
          have hnl2 : len (kidNs t) = len t.parts := by rw [hnl, if_pos h6]
          have hnk3 : len (at' (kidNs t) k) ≤ 200 := by rw [hnk2]; exact hunl
          have hnk4 : len (quoteR (at' (kidNs t) k)) ≤ 1202 := by rw [hnk2, ← hqu]; omega
          refine CW.region (RL.m rfl rfl (RL.m rfl rfl (RL.m rfl rfl (RL.u (.idxT hsl_v11 (.t rfl) (.t rfl) Tryz.underlying46 Tryz.sizeOf9 (fun _ => by omega)) rfl (RL.u (.loadE1 (f := strC) (i := k) (j := 0) (u := (str (at' (kidNs t) k))) hS22 extEq hsl_v11 strC_len (.t rfl) Tryz.isAgg9 (fun _ => by omega) rfl rfl) rfl ?_)))))
          refine RL.callE hS22 .none Tryz.call60 (.cons (.t rfl) .nil) (fun _ => (quote3_c (at' (kidNs t) k) _ (by omega))) rfl (fun w25 hS26 => ?_)
          refine RL.u (.sadd (.t rfl) (.t rfl) (fun _ => by first | omega | (simp only [len_app, len_cons, len_nil]; omega))) rfl (RL.m rfl rfl (RL.u (.sadd (.t rfl) (.t rfl) (fun _ => by first | omega | (simp only [len_app, len_cons, len_nil]; omega))) rfl (RL.a rfl rfl ?_)))
          exact RL.nil fun a hs => ⟨((o2 ++ (lineR nx)) ++ (quoteR (at' (kidNs t) k))) ++ cl, hs.keep [1, 5, 6, 7, 8, 9, 10, 11], hS26, hv, hsl_v6, hrow_v6, hsl_v11, by rw [if_pos (by rw [beq_iff_eq]; omega), List.append_assoc, kidNs_at (by omega) hgt, hqu]⟩
         ·have h6 : ¬ t.node.kind = 6 := fun h => by rw [hnl, if_pos h] at hb7; omega
          exact CW.skip fun a hs => ⟨o2 ++ (lineR nx), hs.keep [1, 5, 6, 7, 8, 9, 10, 11], hS22, hv, hsl_v6, hrow_v6, hsl_v11, by rw [if_neg (by rw [beq_iff_eq]; omega), List.append_nil]⟩
        ·rintro o3 wm23 ⟨hS24, hv, hsl_v6, hrow_v6, hsl_v11, ho3⟩
         have hl3 : 0 ≤ len o3 ∧ len o3 ≤ 10000003000000 := by rw [ho3, len_app, len_app]; split <;> (try rw [len_app]) <;> (try rw [len_nil]) <;> omega
         refine CW.region (RL.m rfl rfl (RL.m rfl rfl (RL.m rfl rfl (RL.u (.idxT hsl_v6 (.t rfl) (.t rfl) Tryz.underlying47 Tryz.sizeOf24 (fun _ => by omega)) rfl (RL.u (.loadE1 (f := valI) (i := k) (j := 0) (u := ((at' rs5 k).v)) hS24 extEq hsl_v6 valI_len (.t rfl) Tryz.isAgg24 (fun _ => by omega) rfl rfl) rfl (RL.m rfl rfl ?_))))))
         refine RL.callE hS24 .none Tryz.call33 (.cons (.t rfl) (.cons (.t rfl) .nil)) (fun _ => (IH (u.named []) (by rw [Tr.named_size]; exact hus) M13 ((at' rs5 k).v) nx _ hS24.sat (by rw [← hat]; exact hrk) (Tr.named_good hug) hks (by omega) (by rw [Tr.named_size]; omega))) rfl (fun w27 hS28 => ?_)
         refine RL.u (.sadd (.t rfl) (.t rfl) (fun _ => by omega)) rfl (RL.a rfl rfl ?_)
         refine RL.nil (CW.at [Y 1 (i64 d), Y 5 (str mk), Y 6 v6, Y 7 v11, Y 8 (i64 nx), Y 9 (str cl), Y 10 (str (o3 ++ (prR nx (u.named [])))), Y 11 (i64 k)] rfl ?_)
         refine CW.region (RL.m rfl rfl (RL.u (.add (.t rfl) .c (fun _ => by omega)) rfl (RL.a rfl rfl ?_)))
         refine RL.nil fun a hs => Exists.intro ((k + 1, o3 ++ (prR nx (u.named [])))) ⟨hs.keep [1, 5, 6, 7, 8, 9, 10, 11], ?_, ?_⟩
         ·refine ⟨hS28, hv, hsl_v6, hrow_v6, hsl_v11, ?_⟩
          exact ⟨by omega, by omega, by rw [prLR_step hk0 (by omega) hgt, ho3, ho2, ho, hnx, hcl]; simp only [List.append_assoc]⟩
         ·show Int.toNat _ < Int.toNat _; omega
      ·refine CW.exit (CW.at [Y 1 (i64 d), Y 5 (str mk), Y 10 (str o)] rfl ?_)
       refine CW.seq ?_
       refine CW.regionD hS18 tryz_mixed (by decide +kernel) ?_
       refine RQ.v .none (.move (.t rfl)) rfl ?_
       refine RQ.v .none (.move (.t rfl)) rfl ?_
       refine RQ.call .none Tryz.call59 (.cons (.t rfl) .nil) (fun _ => (fun w2 hw2 => ((line4_c d _ (by omega))).mono (fun e w3 h3 => ⟨h3.1, Ext.trans hw2 h3.2⟩))) rfl ?_
       refine RQ.v .none (.sadd (.t rfl) (.t rfl) (fun _ => by omega)) rfl ?_
       refine RQ.v .none (.move (.t rfl)) rfl ?_
       refine RQ.v .none (.slSl (.t rfl) .c Tryz.underlying9 (fun _ => by omega)) rfl ?_
       refine RQ.v .none (.sadd (.t rfl) (.t rfl) (fun _ => by first | omega | (simp only [len_app, len_cons, len_nil]; omega))) rfl ?_
       refine RQ.v .none (.assign (.t rfl)) rfl ?_
       refine RQ.nil (fun a hs w29 hS30 => CW.at [Y 4 (str ((o ++ (lineR d)) ++ (Eng.from' mk 1)))] rfl ?_ a hs)
       refine CW.ret (hE.r1 rfl rfl ?_)
       have hke : t.parts.take k.toNat = t.parts := List.take_of_length_le (by unfold len at *; omega)
       exact ⟨by rw [prR_some (by omega) hpz, ho, hke, hmk]; rfl, hS30.low⟩

theorem printed_all : ∀ (n : Nat) (t : Tr), t.size = n → PrintedOK t := by
  intro n
  induction n using Nat.strongRecOn with
  | _ n ih => intro t hn M vv d w hM hv hg hs h0 h1; exact printed_c M t vv d w hM hv hg hs h0 h1 fun u hu => ih u.size (by omega) u rfl
/- loupe/louperef04.Compact -/
theorem compact4_c (M : Mem) (t : Tr) (vv : Value) (w : World) (hM : Sat w M) (hv : Sl M 6 t.flat.length vv (t.flat.flatMap Nd.cells)) (hg : t.good) (hs : shortV 200 t.flat) (h1 : 1 + t.size ≤ 1000000) :
  Calls Tryz.prog 16 [vv].toArray w fun e w' => e = .returned (str (prt false 0 t)) ∧ Ext w w' := by
 refine CW.enter1 Tryz.func16 rfl Tryz.ntmps16 (Nat.le_of_ble_eq_true rfl) fun Q hE => ?_
 have hS : St w M w M [] := St.start hM
 refine CW.weaken [0] (L' := [Y 0 vv]) ?_ rfl
 refine CW.sr (RL.u (.assign .c) rfl (RL.nil (CW.id (CW.sr ?_))))
 refine RL.m rfl rfl ?_
 refine RL.callE hS .none Tryz.call33 (.cons (.t rfl) (.cons .c .nil)) (fun _ => (printed_all _ t rfl M vv ((-1)) _ hS.sat hv hg hs (by omega) (by omega))) rfl (fun w1 hS2 => ?_)
 refine RL.a rfl rfl ?_
 refine RL.nil (CW.at [Y 2 (str (prR ((-1)) t))] rfl (CW.ret (hE.r1 rfl rfl ?_)))
 exact ⟨rfl, hS2.low⟩

/- loupe/louperef04.Indent -/
theorem indent4_c (M : Mem) (t : Tr) (vv : Value) (w : World) (hM : Sat w M) (hv : Sl M 6 t.flat.length vv (t.flat.flatMap Nd.cells)) (hg : t.good) (hs : shortV 200 t.flat) (h1 : 1 + t.size ≤ 1000000) :
  Calls Tryz.prog 18 [vv].toArray w fun e w' => e = .returned (str (prt true 0 t)) ∧ Ext w w' := by
 refine CW.enter1 Tryz.func18 rfl Tryz.ntmps18 (Nat.le_of_ble_eq_true rfl) fun Q hE => ?_
 have hS : St w M w M [] := St.start hM
 refine CW.weaken [0] (L' := [Y 0 vv]) ?_ rfl
 refine CW.sr (RL.u (.assign .c) rfl (RL.nil (CW.id (CW.sr ?_))))
 refine RL.m rfl rfl ?_
 refine RL.callE hS .none Tryz.call33 (.cons (.t rfl) (.cons .c .nil)) (fun _ => (printed_all _ t rfl M vv 0 _ hS.sat hv hg hs (by omega) (by omega))) rfl (fun w1 hS2 => ?_)
 refine RL.a rfl rfl ?_
 refine RL.nil (CW.at [Y 2 (str (prR 0 t))] rfl (CW.ret (hE.r1 rfl rfl ?_)))
 exact ⟨rfl, hS2.low⟩

end Go.Proofs.YtjfaikgooldcbaaGreatDoor
set_option maxRecDepth 100000
namespace Go.Proofs.YtjfaikgooldcbaaGreatDoor
open Go.Eng

/-- Two values are the same. -/
def sameV (a b : Vl) : Bool := decide (a = b)
theorem sameV_self (a : Vl) : sameV a a = true := decide_eq_true rfl
theorem sameV_len {a b : Vl} (h : ¬ len a = len b) : sameV a b = false := decide_eq_false fun e => h (by rw [e])
theorem sameV_bad {a b : Vl} {k : Int} (h : ¬ at' a k = at' b k) : sameV a b = false := decide_eq_false fun e => h (by rw [e])
theorem sameV_end {a b : Vl} {k : Int} (h : ∀ j, 0 ≤ j → j < k → at' a j = at' b j) (h1 : len a ≤ k) (h2 : len a = len b) : sameV a b = true := by
  refine decide_eq_true (List.ext_getElem (by unfold len at h2; omega) fun n h3 h4 => ?_)
  have := h (n : Int) (by omega) (by unfold len at h1; omega)
  unfold at' at this
  simpa [List.getD_eq_getElem?_getD, h3, h4] using this
/- loupe/louperef02.Same -/
theorem same2_c (M : Mem) (x y : Vl) (va vb : Value) (w : World) (hM : Sat w M) (ha : Sl M 6 x.length va (x.flatMap Nd.cells)) (hb : Sl M 6 y.length vb (y.flatMap Nd.cells)) :
  Calls Tryz.prog 13 [va, vb].toArray w fun e w' => e = .returned (.bool (sameV x y)) ∧ Ext w w' := by
 refine CW.enter1 Tryz.func13 rfl Tryz.ntmps13 (Nat.le_of_ble_eq_true rfl) fun Q hE => ?_
 have := len_nonneg x
 have hla : len x ≤ 9223372036854775807 := ha.le
 have hS : St w M w M [] := St.start hM
 refine CW.weaken [0, 1] (L' := [Y 0 va, Y 1 vb]) ?_ rfl
 refine CW.sr (RL.u (.assign .c) rfl (RL.nil (CW.id (CW.seq ?_))))
 refine CW.sr (RL.m rfl rfl (RL.u (.lenT ha (.t rfl) ⟨_, Tryz.underlying24⟩) rfl (RL.m rfl rfl (RL.u (.lenT hb (.t rfl) ⟨_, Tryz.underlying24⟩) rfl (RL.u (.neq (.t rfl) (.t rfl)) rfl (RL.nil (CW.id ?_)))))))
 refine CW.cond rfl ?_ ?_ <;> intro hb1 <;> try simp only [zb] at hb1
 ·refine CW.sr (RL.u (.assign .c) rfl (RL.nil (CW.id (CW.ret (hE.r1 rfl rfl ?_)))))
  exact ⟨by rw [sameV_len hb1], hS.low⟩
 ·refine CW.skip (CW.id (CW.seq (CW.sr (RL.u (.assign .c) rfl (RL.nil (CW.id ?_))))))
  refine CW.block ?_
  refine CW.loop (σ := Int) (fun k => [Y 0 va, Y 1 vb, Y 5 (i64 k)]) (fun k wl => St w M wl M [] ∧ Sl M 6 x.length va (x.flatMap Nd.cells) ∧ Sl M 6 y.length vb (y.flatMap Nd.cells) ∧ 0 ≤ k ∧ k ≤ len x ∧ (∀ j, 0 ≤ j → j < k → at' x j = at' y j)) (fun k => (len x - k).toNat) 0 [0, 1, 5] rfl ?_ ?_
  ·refine ⟨hS, ha, hb, ?_⟩; exact ⟨by omega, by omega, fun j h1 h2 => by omega⟩
  ·rintro k wl ⟨hS1, ha, hb, hk0, hk1, hkF⟩
   refine CW.seq (CW.sr (RL.m rfl rfl (RL.m rfl rfl (RL.u (.lenT ha (.t rfl) ⟨_, Tryz.underlying24⟩) rfl (RL.u (.lss (.t rfl) (.t rfl)) rfl (RL.nil (CW.id ?_)))))))
   refine CW.cond rfl ?_ ?_ <;> intro hb2 <;> try simp only [zb] at hb2
   ·refine CW.skip (CW.id (CW.seq (CW.block (CW.seq ?_))))
    refine CW.regionD hS1 tryz_mixed (by decide +kernel) ?_
    refine RQ.v .none (.move (.t rfl)) rfl ?_
    refine RQ.v .none (.move (.t rfl)) rfl ?_
    refine RQ.v .none (.idxT ha (.t rfl) (.t rfl) Tryz.underlying24 Tryz.sizeOf38 (fun _ => by omega)) rfl ?_
    refine RQ.v .none (.loadEN (f := Nd.cells) (i := k) hS1 (fun _ h => h) ha Nd.cells_len (.t rfl) Tryz.isAgg38 Tryz.sizeOf38 (fun _ => by omega)) rfl ?_
    refine RQ.v .none (.move (.t rfl)) rfl ?_
    refine RQ.v .none (.move (.t rfl)) rfl ?_
    refine RQ.v .none (.idxT hb (.t rfl) (.t rfl) Tryz.underlying24 Tryz.sizeOf38 (fun _ => by omega)) rfl ?_
    refine RQ.v .none (.loadEN (f := Nd.cells) (i := k) hS1 (fun _ h => h) hb Nd.cells_len (.t rfl) Tryz.isAgg38 Tryz.sizeOf38 (fun _ => by omega)) rfl ?_
    refine RQ.v .none (.bin (v := .bool (!(decide (((at' x k) : Nd) = (at' y k))))) (.t rfl) (.t rfl) (fun _ w _ => neNd _ _ ((at' x k)) ((at' y k)) w)) rfl ?_
    refine RQ.nil (fun a hs w2 hS3 => CW.at [Y 0 va, Y 1 vb, Y 5 (i64 k), Y 25 (.bool (!(decide (((at' x k) : Nd) = (at' y k)))))] rfl ?_ a hs)
    refine CW.cond rfl ?_ ?_ <;> intro hb3 <;> try simp only [zb] at hb3
    ·refine CW.sr (RL.u (.assign .c) rfl (RL.nil (CW.id (CW.ret (hE.r1 rfl rfl ?_)))))
     exact ⟨by rw [sameV_bad (k := k) hb3], hS3.low⟩
    ·refine CW.skip (CW.id ?_)
     refine CW.region (RL.m rfl rfl (RL.u (.add (.t rfl) .c (fun _ => by omega)) rfl (RL.a rfl rfl ?_)))
     refine RL.nil fun a hs => Exists.intro (k + 1) ⟨hs.keep [0, 1, 5], ?_, ?_⟩
     ·refine ⟨hS3, ha, hb, ?_⟩
      exact ⟨by omega, by omega, fun j h1 h2 => by rcases Int.lt_or_eq_of_le (show j ≤ k by omega) with h3 | rfl; exact hkF j h1 h3; exact hb3⟩
     ·show Int.toNat _ < Int.toNat _; omega
   ·refine CW.exit (CW.at [] rfl ?_)
    refine CW.sr (RL.u (.assign .c) rfl (RL.nil (CW.id (CW.ret (hE.r1 rfl rfl ?_)))))
    exact ⟨by rw [sameV_end hkF (by omega) (by omega)], hS1.low⟩

end Go.Proofs.YtjfaikgooldcbaaGreatDoor
