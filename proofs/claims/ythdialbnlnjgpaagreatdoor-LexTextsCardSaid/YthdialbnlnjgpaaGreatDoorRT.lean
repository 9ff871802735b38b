import Derived.Test.YthdialbnlnjgpaaGreatDoorEngL
import Derived.Laws.BitsLemmas
import Derived.Test.YthdialbnlnjgpaaGreatDoorPure
import Derived.Test.YthdialbnlnjgpaaGreatDoorProg
import Derived.Test.YthdialbnlnjgpaaGreatDoorR4
import Derived.Test.YthdialbnlnjgpaaGreatDoorToks
set_option linter.unusedVariables false
set_option linter.unusedSimpArgs false
namespace Go.Proofs.YthdialbnlnjgpaaGreatDoor
open Go.Eng

/- loupe/louperef08.one -/
set_option maxRecDepth 100000 in
theorem one8_c (t : Tk) (w : World) (hs : len t.s ≤ 1099511627776) (hc : len t.c.s ≤ 1099511627776) (he : t.kind = 5 → -1000000 ≤ t.c.e ∧ t.c.e ≤ 1000000) :
  Calls Tryz.prog 24 [(tkV t)].toArray w fun e w' => e = .returned (str (oneR t)) ∧ Ext w w' := by
 refine CW.enter Tryz.func24 rfl Tryz.ntmps24 (Nat.le_of_ble_eq_true rfl) ?_
 have hnl := name7_len t.s
 have hS : St w (fun _ _ => none) w (fun _ _ => none) [] := St.start ⟨fun _ _ _ h => by cases h⟩
 refine CW.weaken [0] (L' := [Y 0 (tkV t)]) ?_ rfl
 refine CW.sr ?_
 refine RL.box (v := (tkV t)) hS (.t rfl) rfl (fun w1 b2 hS3 => ?_)
 replace hS3 : St w (fun _ _ => none) w1 (fun _ _ => none) [.box b2 (tkC t []) 33] := hS3
 refine RL.u (.assign .c) rfl ?_
 refine RL.nil (CW.at [Y 1 (.pointer (some ⟨b2, 0, none⟩))] rfl ?_)
 refine CW.seq ?_
 refine CW.sr ?_
 refine RL.u (.fldA (q := ⟨b2, 0, none⟩) (.t rfl) (fun w => by kernel_rfl)) rfl (RL.u (.loadB1 (v := (i64 ((t).kind))) hS3 extEq (i := 0) rfl (.t rfl) Tryz.isAgg3 rfl) rfl ?_)
 refine RL.nil (CW.at [Y 1 (.pointer (some ⟨b2, 0, none⟩)), Y 4 (i64 ((t).kind))] rfl ?_)
 refine CW.block ?_
 refine CW.sr ?_
 refine RL.u (.eql (.t rfl) .c) rfl (RL.a rfl rfl ?_)
 refine RL.nil (CW.at [Y 1 (.pointer (some ⟨b2, 0, none⟩)), Y 4 (i64 ((t).kind)), Y 5 (.bool (((t).kind) == (3)))] rfl ?_)
 refine CW.cond rfl (fun hb1 => ?_) (fun hb1 => ?_)
 ·try simp only [zb] at hb1
  refine CW.sr ?_
  refine RL.u (.fldA (q := ⟨b2, 1, none⟩) (.t rfl) (fun w => by kernel_rfl)) rfl (RL.u (.loadB1 (v := (str ((t).s))) hS3 extEq (i := 0) rfl (.t rfl) Tryz.isAgg9 rfl) rfl ?_)
  refine RL.callE hS3 .none Tryz.call51 (.cons (.t rfl) .nil) (fun _ => (name7_c ((t).s) _ (by omega))) rfl (fun w4 hS5 => ?_)
  refine RL.u (.sadd .c (.t rfl) (fun _ => by first | omega | (simp only [len_cons, len_nil]; omega))) rfl (RL.a rfl rfl ?_)
  refine RL.nil (CW.at [Y 2 (str (([46]) ++ (name7 ((t).s))))] rfl ?_)
  refine CW.ret (ret1 (P := Tryz.prog) (fn := Tryz.f24) (R := fun e w' => e = .returned (str (oneR t)) ∧ Ext w w') rfl rfl ?_)
  have hq : oneR t = ([46]) ++ (name7 ((t).s)) := by
   unfold oneR
   (try dsimp only)
   (repeat' split)
   all_goals first | rfl | (exfalso; omega) | (exfalso; simp_all; done) | (simp_all; done) | (exfalso; simp_all; omega)
  rw [hq]; exact ⟨rfl, hS5.low⟩
 ·try simp only [zb] at hb1
  refine CW.sr ?_
  refine RL.u (.eql (.t rfl) .c) rfl (RL.a rfl rfl ?_)
  refine RL.nil (CW.at [Y 1 (.pointer (some ⟨b2, 0, none⟩)), Y 4 (i64 ((t).kind)), Y 11 (.bool (((t).kind) == (4)))] rfl ?_)
  refine CW.cond rfl (fun hb2 => ?_) (fun hb2 => ?_)
  ·try simp only [zb] at hb2
   refine CW.sr ?_
   refine RL.u (.fldA (q := ⟨b2, 1, none⟩) (.t rfl) (fun w => by kernel_rfl)) rfl (RL.u (.loadB1 (v := (str ((t).s))) hS3 extEq (i := 0) rfl (.t rfl) Tryz.isAgg9 rfl) rfl ?_)
   refine RL.callE hS3 .none Tryz.call52 (.cons (.t rfl) .nil) (fun _ => (quote3_c ((t).s) _ (by omega))) rfl (fun w6 hS7 => ?_)
   refine RL.a rfl rfl ?_
   refine RL.nil (CW.at [Y 2 (str (quoteR ((t).s)))] rfl ?_)
   refine CW.ret (ret1 (P := Tryz.prog) (fn := Tryz.f24) (R := fun e w' => e = .returned (str (oneR t)) ∧ Ext w w') rfl rfl ?_)
   have hq : oneR t = quoteR ((t).s) := by
    unfold oneR
    (try dsimp only)
    (repeat' split)
    all_goals first | rfl | (exfalso; omega) | (exfalso; simp_all; done) | (simp_all; done) | (exfalso; simp_all; omega)
   rw [hq]; exact ⟨rfl, hS7.low⟩
  ·try simp only [zb] at hb2
   refine CW.sr ?_
   refine RL.u (.eql (.t rfl) .c) rfl (RL.a rfl rfl ?_)
   refine RL.nil (CW.at [Y 1 (.pointer (some ⟨b2, 0, none⟩)), Y 16 (.bool (((t).kind) == (5)))] rfl ?_)
   refine CW.cond rfl (fun hb3 => ?_) (fun hb3 => ?_)
   ·try simp only [zb] at hb3
    refine CW.sr ?_
    refine RL.u (.fldA (q := ⟨b2, 2, none⟩) (.t rfl) (fun w => by kernel_rfl)) rfl (RL.u (.loadBN (vs := (ndC ((t).c) [])) hS3 extEq (i := 0) rfl (.t rfl) Tryz.isAgg31 Tryz.sizeOf31 rfl rfl) rfl ?_)
    refine RL.callE hS3 .none Tryz.call53 (.cons (.t rfl) .nil) (fun _ => (print3_c ((t).c) _ (by omega) (he (by assumption)))) rfl (fun w8 hS9 => ?_)
    refine RL.a rfl rfl ?_
    refine RL.nil (CW.at [Y 2 (str (print1 ((t).c)))] rfl ?_)
    refine CW.ret (ret1 (P := Tryz.prog) (fn := Tryz.f24) (R := fun e w' => e = .returned (str (oneR t)) ∧ Ext w w') rfl rfl ?_)
    have hq : oneR t = print1 ((t).c) := by
     unfold oneR
     (try dsimp only)
     (repeat' split)
     all_goals first | rfl | (exfalso; omega) | (exfalso; simp_all; done) | (simp_all; done) | (exfalso; simp_all; omega)
    rw [hq]; exact ⟨rfl, hS9.low⟩
   ·try simp only [zb] at hb3
    refine CW.skip (CW.at [Y 1 (.pointer (some ⟨b2, 0, none⟩))] rfl ?_)
    refine CW.sr ?_
    refine RL.u (.fldA (q := ⟨b2, 1, none⟩) (.t rfl) (fun w => by kernel_rfl)) rfl (RL.u (.loadB1 (v := (str ((t).s))) hS3 extEq (i := 0) rfl (.t rfl) Tryz.isAgg9 rfl) rfl (RL.a rfl rfl ?_))
    refine RL.nil (CW.at [Y 2 (str ((t).s))] rfl ?_)
    refine CW.ret (ret1 (P := Tryz.prog) (fn := Tryz.f24) (R := fun e w' => e = .returned (str (oneR t)) ∧ Ext w w') rfl rfl ?_)
    have hq : oneR t = (t).s := by
     unfold oneR
     (try dsimp only)
     (repeat' split)
     all_goals first | rfl | (exfalso; omega) | (exfalso; simp_all; done) | (simp_all; done) | (exfalso; simp_all; omega)
    rw [hq]; exact ⟨rfl, hS3.low⟩

/- loupe/louperef08.Text -/
set_option maxRecDepth 100000 in
theorem text8R_c (M : Mem) (l : List Tk) (v : Value) (w : World) (hM : Sat w M) (hl : Sl M 9 l.length v (l.flatMap Tk.cells)) (hb : ∀ t ∈ l, TkB t) (hn : len l ≤ 1048576) :
  Calls Tryz.prog 14 [(v)].toArray w fun e w' => e = .returned (str (textR l)) ∧ Ext w w' := by
 refine CW.enter Tryz.func14 rfl Tryz.ntmps14 (Nat.le_of_ble_eq_true rfl) ?_
 have := len_nonneg l
 have hS : St w M w M [] := St.start hM
 refine CW.weaken [0] (L' := [Y 0 (v)]) ?_ rfl
 refine CW.sr ?_
 refine RL.u (.assign .c) rfl ?_
 refine RL.nil (CW.at [Y 0 (v)] rfl ?_)
 refine CW.sr ?_
 refine RL.u (.assign .c) rfl ?_
 refine RL.nil (CW.at [Y 0 (v), Y 3 (str [])] rfl ?_)
 refine CW.seq ?_
 refine CW.sr ?_
 refine RL.u (.assign .c) rfl ?_
 refine RL.nil (CW.at [Y 0 (v), Y 3 (str []), Y 4 (i64 0)] rfl ?_)
 refine CW.block ?_
 refine CW.loop (σ := Int × Str) (fun (k, o) => [Y 0 (v), Y 3 (str o), Y 4 (i64 k)]) (fun (k, o) wl => St w M wl M [] ∧ Sl M 9 (l).length (v) ((l).flatMap Tk.cells) ∧ 0 ≤ k ∧ k ≤ len l ∧ o = (Eng.sub l 0 k).foldl textStep [] ∧ len o ≤ 8388608 * k) (fun (k, o) => (len l - k).toNat) ((0, [])) [0, 3, 4] rfl ?_ ?_
 ·refine ⟨hS, hl, ?_⟩; exact ⟨by omega, by omega, rfl, by decide⟩
 ·rintro ⟨k, o⟩ wl ⟨hS1, hl, hk0, hk1, hF, hlen⟩
  have hlo := len_nonneg o
  refine CW.seq ?_
  refine CW.sr ?_
  refine RL.m rfl rfl (RL.m rfl rfl (RL.u (.lenT hl (.t rfl) ⟨_, Tryz.underlying23⟩) rfl (RL.u (.lss (.t rfl) (.t rfl)) rfl ?_)))
  refine RL.nil (CW.at [Y 0 (v), Y 3 (str o), Y 4 (i64 k), Y 8 (.bool (decide ((k) < (len (l)))))] rfl ?_)
  refine CW.cond rfl (fun hb1 => ?_) (fun hb1 => ?_)
  ·try simp only [zb] at hb1
   have hbk : TkB (at' l k) := hb _ (at'_mem hk0 hb1)
   have hol := oneR_len hbk
   have hbk1 := hbk.1
   have hbk2 := hbk.2.1
   refine CW.skip (CW.at [Y 0 (v), Y 3 (str o), Y 4 (i64 k)] rfl ?_)
   refine CW.seq ?_
   refine CW.block ?_
   refine CW.seq ?_
   refine CW.sr ?_
   refine RL.m rfl rfl (RL.m rfl rfl (RL.u (.idxT hl (.t rfl) (.t rfl) Tryz.underlying23 Tryz.sizeOf33 (fun _ => by first | omega | (simp only [len_app, len_cons, len_nil]; omega))) rfl (RL.u (.fldA (q := ⟨sb (v), so (v) + (k : Int).toNat * 9, none⟩) (.t rfl) (fun w => by kernel_rfl)) rfl (RL.u (.loadE1 (f := Tk.cells) (i := k) (j := 0) (u := (i64 ((at' (l) (k)).kind))) hS1 extEq hl Tk.cells_len (.t rfl) Tryz.isAgg3 (fun _ => by first | omega | (simp only [len_app, len_cons, len_nil]; omega)) rfl rfl) rfl (RL.u (.neq (.t rfl) .c) rfl ?_)))))
   refine RL.m rfl rfl (RL.v (.pos rfl rfl) (.move (.t rfl)) rfl (RL.v (.pos rfl rfl) (.sneq (.g rfl (fun h => h)) .c) rfl (RL.u (.and (.t rfl) (.g rfl (fun h => h))) rfl ?_)))
   refine RL.nil (CW.at [Y 0 (v), Y 3 (str o), Y 4 (i64 k), Y 20 (.bool ((((at' (l) (k)).kind) != (6)) && (!((o) == ([])))))] rfl ?_)
   refine CW.cond rfl (fun hb2 => ?_) (fun hb2 => ?_)
   ·try simp only [zb] at hb2
    refine CW.region ?_
    refine RL.m rfl rfl (RL.u (.sadd (.t rfl) .c (fun _ => by first | omega | (simp only [len_app, len_cons, len_nil]; omega))) rfl (RL.a rfl rfl ?_))
    refine RL.nil (CW.at [Y 0 (v), Y 3 (str ((o) ++ ([32]))), Y 4 (i64 k)] rfl ?_)
    refine CW.region ?_
    refine RL.m rfl rfl (RL.m rfl rfl (RL.m rfl rfl (RL.u (.idxT hl (.t rfl) (.t rfl) Tryz.underlying23 Tryz.sizeOf33 (fun _ => by first | omega | (simp only [len_app, len_cons, len_nil]; omega))) rfl (RL.u (.loadEN (f := Tk.cells) (i := k) hS1 extEq hl Tk.cells_len (.t rfl) Tryz.isAgg33 Tryz.sizeOf33 (fun _ => by first | omega | (simp only [len_app, len_cons, len_nil]; omega))) rfl ?_))))
    refine RL.callE hS1 .none Tryz.call24 (.cons (.t rfl) .nil) (fun _ => (one8_c (at' (l) (k)) _ (by omega) (by omega) hbk.2.2)) rfl (fun w2 hS3 => ?_)
    refine RL.u (.sadd (.t rfl) (.t rfl) (fun _ => by first | omega | (simp only [len_app, len_cons, len_nil]; omega))) rfl (RL.a rfl rfl ?_)
    refine RL.nil (CW.at [Y 0 (v), Y 3 (str (((o) ++ ([32])) ++ (oneR (at' (l) (k))))), Y 4 (i64 k)] rfl ?_)
    refine CW.region ?_
    refine RL.m rfl rfl (RL.u (.add (.t rfl) .c (fun _ => by first | omega | (simp only [len_app, len_cons, len_nil]; omega))) rfl (RL.a rfl rfl ?_))
    refine RL.nil fun a hs => Exists.intro ((k + 1, ((o) ++ ([32])) ++ (oneR (at' (l) (k))))) ⟨hs.keep [0, 3, 4], ?_, ?_⟩
    ·refine ⟨hS3, hl, ?_⟩
     exact ⟨by omega, by omega, by rw [← textR_step hk0 hb1 hF]; unfold textStep; rw [if_pos hb2], by simp only [len_app, len_cons, len_nil]; omega⟩
    ·show Int.toNat _ < Int.toNat _; omega
   ·try simp only [zb] at hb2
    refine CW.skip (CW.at [Y 0 (v), Y 3 (str o), Y 4 (i64 k)] rfl ?_)
    refine CW.region ?_
    refine RL.m rfl rfl (RL.m rfl rfl (RL.m rfl rfl (RL.u (.idxT hl (.t rfl) (.t rfl) Tryz.underlying23 Tryz.sizeOf33 (fun _ => by first | omega | (simp only [len_app, len_cons, len_nil]; omega))) rfl (RL.u (.loadEN (f := Tk.cells) (i := k) hS1 extEq hl Tk.cells_len (.t rfl) Tryz.isAgg33 Tryz.sizeOf33 (fun _ => by first | omega | (simp only [len_app, len_cons, len_nil]; omega))) rfl ?_))))
    refine RL.callE hS1 .none Tryz.call24 (.cons (.t rfl) .nil) (fun _ => (one8_c (at' (l) (k)) _ (by omega) (by omega) hbk.2.2)) rfl (fun w4 hS5 => ?_)
    refine RL.u (.sadd (.t rfl) (.t rfl) (fun _ => by first | omega | (simp only [len_app, len_cons, len_nil]; omega))) rfl (RL.a rfl rfl ?_)
    refine RL.nil (CW.at [Y 0 (v), Y 3 (str ((o) ++ (oneR (at' (l) (k))))), Y 4 (i64 k)] rfl ?_)
    refine CW.region ?_
    refine RL.m rfl rfl (RL.u (.add (.t rfl) .c (fun _ => by first | omega | (simp only [len_app, len_cons, len_nil]; omega))) rfl (RL.a rfl rfl ?_))
    refine RL.nil fun a hs => Exists.intro ((k + 1, (o) ++ (oneR (at' (l) (k))))) ⟨hs.keep [0, 3, 4], ?_, ?_⟩
    ·refine ⟨hS5, hl, ?_⟩
     exact ⟨by omega, by omega, by rw [← textR_step hk0 hb1 hF]; unfold textStep; rw [if_neg (by grind)], by simp only [len_app, len_cons, len_nil]; omega⟩
    ·show Int.toNat _ < Int.toNat _; omega
  ·try simp only [zb] at hb1
   refine CW.exit (CW.at [Y 3 (str o)] rfl ?_)
   refine CW.sr ?_
   refine RL.m rfl rfl (RL.a rfl rfl ?_)
   refine RL.nil (CW.at [Y 2 (str o)] rfl ?_)
   refine CW.ret (ret1 (P := Tryz.prog) (fn := Tryz.f14) (R := fun e w' => e = .returned (str (textR l)) ∧ Ext w w') rfl rfl ?_)
   exact ⟨by unfold textR; rw [hF, sub_all _ _ (by omega)], hS1.low⟩

end Go.Proofs.YthdialbnlnjgpaaGreatDoor
