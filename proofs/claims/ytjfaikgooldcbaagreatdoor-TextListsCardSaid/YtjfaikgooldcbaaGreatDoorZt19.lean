/-
  slices.Grow of the nil slice of nodes: its walk is turned from the kit's (SlicesGrow), to this program's body.
-/
import Derived.Test.YtjfaikgooldcbaaGreatDoorZt4
import Derived.Laws.BitsLemmas
import Derived.Test.YtjfaikgooldcbaaGreatDoorZt3
import Derived.Test.YtjfaikgooldcbaaGreatDoorProg
import Derived.Test.YtjfaikgooldcbaaGreatDoorZt8
import Derived.Test.YtjfaikgooldcbaaGreatDoorZt11
import Derived.Test.YtjfaikgooldcbaaGreatDoorZt18
import Derived.Test.YtjfaikgooldcbaaGreatDoorZt17
import Derived.Test.YtjfaikgooldcbaaGreatDoorZt12
import Derived.Shelf.Spec.SlicesGrow
set_option linter.unusedVariables false
set_option linter.unusedSimpArgs false
set_option maxRecDepth 100000
namespace Go.Proofs.YtjfaikgooldcbaaGreatDoor
open Go.Eng

/- (*loupe/text.parser).fail -/
theorem fail_c (ec p : Int) (pv : Value) (w : World)  :
  Calls Tryz.prog 28 [pv, (i64 ec), (i64 p)].toArray w fun e w' => e = .panicked [wrongE 51 ec p] ∧ w' = w := by
 refine CW.enter1 Tryz.func28 rfl Tryz.ntmps28 (Nat.le_of_ble_eq_true rfl) fun Q hE => ?_
 refine CW.weaken [0, 1, 2] (L' := [Y 0 pv, Y 1 (i64 ec), Y 2 (i64 p)]) ?_ rfl
 refine CW.region (RL.m rfl rfl (RL.m rfl rfl (RL.u (.build (vs := [(0, (i64 ec)), (1, (i64 p))]) (v := (.agg #[(i64 ec), (i64 p)])) (.cons (.t rfl) (.cons (.t rfl) .nil)) (fun w => by kernel_rfl)) rfl (RL.u (.iface (.t rfl) Tryz.underlying51 rfl) rfl ?_))))
 refine RL.panic (.t rfl) (hE.p ?_)
 exact ⟨rfl, rfl⟩

/- (*loupe/text.parser).blank -/
theorem blankP_c {w wv : World} {M0 M : Mem} {Rs : List HO} (s : Str) (i : Int) (pb : Nat) (hS : St w M0 wv M (.box pb [(str s), (i64 i)] 55 :: Rs)) (h0 : 0 ≤ i) (h1 : i ≤ len s) (hb : len s ≤ 1099511627776) :
  Calls Tryz.prog 26 [(.pointer (some ⟨pb, 0, none⟩))].toArray wv fun e w' => ∃ u, e = .returned u ∧ (i ≤ blankTo s i ∧ blankTo s i ≤ len s) ∧ St w M0 w' M (.box pb [str s, i64 (blankTo s i)] 55 :: Rs) := by
 refine CW.enter1 Tryz.func26 rfl Tryz.ntmps26 (Nat.le_of_ble_eq_true rfl) fun Q hE => ?_
 have hbt := blankTo_bd s i h0 h1
 have hbl := blank_len s i h0 h1
 have hdl := dropB_len (from' s i)
 have hfl := from_len s i h0 h1
 refine CW.weaken [0] (L' := [Y 0 (.pointer (some ⟨pb, 0, none⟩))]) ?_ rfl
 refine CW.seq ?_
 refine CW.regionD hS tryz_mixed (by decide +kernel) ?_
 refine RQ.v .none (.move (.t rfl)) rfl ?_
 refine RQ.v .none (.nilP (.t rfl)) rfl ?_
 refine RQ.v .none (.fldA (q := ⟨pb, 0, none⟩) (.t rfl) (fun w => by kernel_rfl)) rfl ?_
 refine RQ.v .none (.loadB1 (v := (str s)) hS (fun _ h => h) (i := 0) rfl (.t rfl) Tryz.isAgg9 rfl) rfl ?_
 refine RQ.v .none (.move (.t rfl)) rfl ?_
 refine RQ.v .none (.nilP (.t rfl)) rfl ?_
 refine RQ.v .none (.fldA (q := ⟨pb, 1, none⟩) (.t rfl) (fun w => by kernel_rfl)) rfl ?_
 refine RQ.v .none (.loadB1 (v := (i64 i)) hS (fun _ h => h) (i := 0) rfl (.t rfl) Tryz.isAgg3 rfl) rfl ?_
 refine RQ.v .none (.slSl (.t rfl) (.t rfl) Tryz.underlying9 (fun _ => by omega)) rfl ?_
 refine RQ.call .none Tryz.call40 (.cons (.t rfl) (.cons .c .nil)) (fun _ => (fun w2 hw2 => ((trimLeft_c (Eng.from' s i) [32, 9, 10, 13] _ (by decide) (cut_low (by decide)))).mono (fun e w3 h3 => ⟨h3.1, Ext.trans hw2 h3.2⟩))) rfl ?_
 refine RQ.v .none (.assign (.t rfl)) rfl ?_
 refine RQ.nil (fun a hs w1 hS2 => CW.at [Y 0 (.pointer (some ⟨pb, 0, none⟩)), Y 2 (str (dropB (Eng.from' s i)))] rfl ?_ a hs)
 refine CW.region (RL.m rfl rfl (RL.m rfl rfl (RL.u (.nilP (.t rfl)) rfl (RL.u (.fldA (q := ⟨pb, 0, none⟩) (.t rfl) (fun w => by kernel_rfl)) rfl (RL.u (.loadB1 (v := (str s)) hS2 extEq (i := 0) rfl (.t rfl) Tryz.isAgg9 rfl) rfl (RL.u (.lenS (.t rfl) Tryz.underlying9) rfl (RL.m rfl rfl (RL.u (.lenS (.t rfl) Tryz.underlying9) rfl (RL.u (.sub (.t rfl) (.t rfl) (fun _ => by omega)) rfl (RL.u (.nilP (.t rfl)) rfl (RL.u (.fldA (q := ⟨pb, 1, none⟩) (.t rfl) (fun w => by kernel_rfl)) rfl ?_)))))))))))
 refine RL.st hS2 (i := 0) rfl (.t rfl) (.t rfl) Tryz.sizeOf3 rfl rfl rfl rfl rfl (fun w3 hS4 => ?_)
 refine RL.nil (hE.e0 rfl ?_)
 exact ⟨_, rfl, hbt, by rw [← hbl]; exact hS4⟩

/- (*loupe/text.parser).is -/
theorem isP_c {w wv : World} {M0 M : Mem} {Rs : List HO} (s t : Str) (i : Int) (pb : Nat) (hS : St w M0 wv M (.box pb [(str s), (i64 i)] 55 :: Rs)) (h0 : 0 ≤ i) (h1 : i ≤ len s) (hb : len s ≤ 1099511627776) :
  Calls Tryz.prog 41 [(.pointer (some ⟨pb, 0, none⟩)), (str t)].toArray wv fun e w' => ∃ u, e = .returned u ∧ ∃ q c, c = hasW s i t ∧ i ≤ q ∧ q ≤ len s ∧ (c = true → q = i + len t) ∧ (c = false → q = i) ∧ u = .bool c ∧ St w M0 w' M (.box pb [str s, i64 q] 55 :: Rs) := by
 refine CW.enter1 Tryz.func41 rfl Tryz.ntmps41 (Nat.le_of_ble_eq_true rfl) fun Q hE => ?_
 have hhl := hasW_le (t := t) h0 h1
 have htl := len_nonneg t
 refine CW.weaken [0, 1] (L' := [Y 0 (.pointer (some ⟨pb, 0, none⟩)), Y 1 (str t)]) ?_ rfl
 refine CW.sr (RL.u (.assign .c) rfl (RL.nil (CW.id (CW.seq ?_))))
 refine CW.regionD hS tryz_mixed (by decide +kernel) ?_
 refine RQ.v .none (.move (.t rfl)) rfl ?_
 refine RQ.v .none (.nilP (.t rfl)) rfl ?_
 refine RQ.v .none (.fldA (q := ⟨pb, 0, none⟩) (.t rfl) (fun w => by kernel_rfl)) rfl ?_
 refine RQ.v .none (.loadB1 (v := (str s)) hS (fun _ h => h) (i := 0) rfl (.t rfl) Tryz.isAgg9 rfl) rfl ?_
 refine RQ.v .none (.move (.t rfl)) rfl ?_
 refine RQ.v .none (.nilP (.t rfl)) rfl ?_
 refine RQ.v .none (.fldA (q := ⟨pb, 1, none⟩) (.t rfl) (fun w => by kernel_rfl)) rfl ?_
 refine RQ.v .none (.loadB1 (v := (i64 i)) hS (fun _ h => h) (i := 0) rfl (.t rfl) Tryz.isAgg3 rfl) rfl ?_
 refine RQ.v .none (.slSl (.t rfl) (.t rfl) Tryz.underlying9 (fun _ => by omega)) rfl ?_
 refine RQ.v .none (.move (.t rfl)) rfl ?_
 refine RQ.call .none Tryz.call68 (.cons (.t rfl) (.cons (.t rfl) .nil)) (fun _ => (fun w2 hw2 => ((hasPrefix_c (Eng.from' s i) t _)).mono (fun e w3 h3 => ⟨h3.1, h3.2 ▸ hw2⟩))) rfl ?_
 refine RQ.v .none (.assign (.t rfl)) rfl ?_
 refine RQ.nil (fun a hs w1 hS2 => CW.at [Y 0 (.pointer (some ⟨pb, 0, none⟩)), Y 1 (str t), Y 5 (.bool (Lib.hasPrefix (Eng.from' s i) t))] rfl ?_ a hs)
 refine CW.seq (CW.sr (RL.m rfl rfl (RL.nil (CW.id ?_))))
 refine CW.cond rfl ?_ ?_ <;> intro hb1 <;> try simp only [zb] at hb1
 ·have hh2 := hhl hb1
  refine CW.region (RL.m rfl rfl (RL.u (.nilP (.t rfl)) rfl (RL.u (.fldA (q := ⟨pb, 1, none⟩) (.t rfl) (fun w => by kernel_rfl)) rfl (RL.u (.loadB1 (v := (i64 i)) hS2 extEq (i := 0) rfl (.t rfl) Tryz.isAgg3 rfl) rfl (RL.m rfl rfl (RL.u (.lenS (.t rfl) Tryz.underlying9) rfl (RL.u (.add (.t rfl) (.t rfl) (fun _ => by omega)) rfl (RL.u (.nilP (.t rfl)) rfl (RL.u (.fldA (q := ⟨pb, 1, none⟩) (.t rfl) (fun w => by kernel_rfl)) rfl ?_)))))))))
  refine RL.st hS2 (i := 0) rfl (.t rfl) (.t rfl) Tryz.sizeOf3 rfl rfl rfl rfl rfl (fun w3 hS4 => (RL.nil (CW.id ?_)))
  refine CW.sr (RL.m rfl rfl (RL.a rfl rfl (RL.nil (CW.id (CW.ret (hE.r1 rfl rfl ?_))))))
  exact ⟨_, rfl, _, _, rfl, by omega, by omega, fun _ => rfl, fun h => (by have hz := h.symm.trans (show hasW s i t = _ from hb1); cases hz), rfl, hS4⟩
 ·refine CW.skip (CW.id (CW.sr (RL.m rfl rfl (RL.a rfl rfl (RL.nil (CW.id ?_))))))
  refine CW.ret (hE.r1 rfl rfl ?_)
  exact ⟨_, rfl, _, _, rfl, by omega, by omega, fun h => (by have hz := h.symm.trans (show hasW s i t = _ from hb1); cases hz), fun _ => rfl, rfl, hS2⟩

/- (*loupe/text.parser).text -/
theorem text_c {w wv : World} {M0 M : Mem} {Rs : List HO} (s : Str) (i : Int) (pb : Nat) (hS : St w M0 wv M (.box pb [(str s), (i64 i)] 55 :: Rs)) (h0 : 0 ≤ i) (h1 : i ≤ len s) (hb : len s ≤ 1099511627776) (hg : Gl w) :
  Calls Tryz.prog 42 [(.pointer (some ⟨pb, 0, none⟩))].toArray wv fun e w' => PPost w M0 M Rs 51 (fun x j v M' w' => v = str x ∧ i + 2 ≤ j ∧ j ≤ len s ∧ St w M0 w' M' (.box pb [str s, i64 j] 55 :: Rs)) (textT s i) e w' := by
 refine CW.enter1 Tryz.func42 rfl Tryz.ntmps42 (Nat.le_of_ble_eq_true rfl) fun Q hE => ?_
 have hub := unqP_bd (from' s i)
 have hfl := from_len s i h0 h1
 refine CW.weaken [0] (L' := [Y 0 (.pointer (some ⟨pb, 0, none⟩))]) ?_ rfl
 refine CW.sr (RL.u (.assign .c) rfl (RL.nil (CW.id (CW.seq ?_))))
 refine CW.regionD hS tryz_mixed (by decide +kernel) ?_
 refine RQ.v .none (.move (.t rfl)) rfl ?_
 refine RQ.v .none (.nilP (.t rfl)) rfl ?_
 refine RQ.v .none (.fldA (q := ⟨pb, 0, none⟩) (.t rfl) (fun w => by kernel_rfl)) rfl ?_
 refine RQ.v .none (.loadB1 (v := (str s)) hS (fun _ h => h) (i := 0) rfl (.t rfl) Tryz.isAgg9 rfl) rfl ?_
 refine RQ.v .none (.move (.t rfl)) rfl ?_
 refine RQ.v .none (.nilP (.t rfl)) rfl ?_
 refine RQ.v .none (.fldA (q := ⟨pb, 1, none⟩) (.t rfl) (fun w => by kernel_rfl)) rfl ?_
 refine RQ.v .none (.loadB1 (v := (i64 i)) hS (fun _ h => h) (i := 0) rfl (.t rfl) Tryz.isAgg3 rfl) rfl ?_
 refine RQ.v .none (.slSl (.t rfl) (.t rfl) Tryz.underlying9 (fun _ => by omega)) rfl ?_
 refine RQ.call .none Tryz.call69 (.cons (.t rfl) .nil) (fun _ => (fun w2 hw2 => ((unquote_c (Eng.from' s i) _ (hg.low (hS.ext hw2).low) (by omega))).mono (fun e w3 h3 => ⟨h3.1, Ext.trans hw2 h3.2⟩))) rfl ?_
 refine RQ.v .none (.move (.t rfl)) rfl ?_
 refine RQ.v .none (.ex (.t rfl) rfl) rfl ?_
 refine RQ.v .none (.ex (.t rfl) rfl) rfl ?_
 refine RQ.v .none (.ex (.t rfl) rfl) rfl ?_
 refine RQ.v .none (.assign (.t rfl)) rfl ?_
 refine RQ.v .none (.assign (.t rfl)) rfl ?_
 refine RQ.v .none (.assign (.t rfl)) rfl ?_
 refine RQ.nil (fun a hs w1 hS2 => CW.at [Y 0 (.pointer (some ⟨pb, 0, none⟩)), Y 3 (str ((unqP (Eng.from' s i)).1)), Y 4 (i64 ((unqP (Eng.from' s i)).2.1)), Y 5 (i64 ((unqP (Eng.from' s i)).2.2))] rfl ?_ a hs)
 refine CW.seq (CW.sr (RL.m rfl rfl (RL.u (.neq (.t rfl) .c) rfl (RL.nil (CW.id ?_)))))
 refine CW.cond rfl ?_ ?_ <;> intro hb1 <;> try simp only [zb] at hb1
 ·refine CW.region (RL.m rfl rfl (RL.m rfl rfl (RL.m rfl rfl (RL.u (.nilP (.t rfl)) rfl (RL.u (.fldA (q := ⟨pb, 1, none⟩) (.t rfl) (fun w => by kernel_rfl)) rfl (RL.u (.loadB1 (v := (i64 i)) hS2 extEq (i := 0) rfl (.t rfl) Tryz.isAgg3 rfl) rfl (RL.m rfl rfl (RL.u (.add (.t rfl) (.t rfl) (fun _ => by omega)) rfl ?_))))))))
  refine RL.callF Tryz.call28 (.cons (.t rfl) (.cons (.t rfl) (.cons (.t rfl) .nil))) (fail_c ((unqP (Eng.from' s i)).2.2) (i + ((unqP (Eng.from' s i)).2.1)) (.pointer (some ⟨pb, 0, none⟩)) _) ?_
  replace hS2 := hS2.drop Rs (List.sublist_append_right [_] _)
  exact hE.p (PPost.er (textT_er hb1) hS2 (Mem.le.refl _))
 ·refine CW.skip (CW.at [Y 0 (.pointer (some ⟨pb, 0, none⟩)), Y 3 (str ((unqP (Eng.from' s i)).1)), Y 4 (i64 ((unqP (Eng.from' s i)).2.1))] rfl (CW.sr (RL.m rfl rfl (RL.u (.nilP (.t rfl)) rfl (RL.u (.fldA (q := ⟨pb, 1, none⟩) (.t rfl) (fun w => by kernel_rfl)) rfl (RL.u (.loadB1 (v := (i64 i)) hS2 extEq (i := 0) rfl (.t rfl) Tryz.isAgg3 rfl) rfl (RL.m rfl rfl (RL.u (.add (.t rfl) (.t rfl) (fun _ => by omega)) rfl (RL.u (.nilP (.t rfl)) rfl (RL.u (.fldA (q := ⟨pb, 1, none⟩) (.t rfl) (fun w => by kernel_rfl)) rfl ?_))))))))))
  refine RL.st hS2 (i := 0) rfl (.t rfl) (.t rfl) Tryz.sizeOf3 rfl rfl rfl rfl rfl (fun w3 hS4 => (RL.nil (CW.id ?_)))
  refine CW.sr (RL.m rfl rfl (RL.a rfl rfl (RL.nil (CW.id (CW.ret (hE.r1 rfl rfl ?_))))))
  exact PPost.ok (textT_ok (by omega)) ⟨rfl, by omega, by omega, hS4⟩ (Mem.le.refl _)

/- (*loupe/text.parser).number -/
theorem numberP_c {w wv : World} {M0 M : Mem} {Rs : List HO} (s : Str) (i : Int) (pb : Nat) (hS : St w M0 wv M (.box pb [(str s), (i64 i)] 55 :: Rs)) (h0 : 0 ≤ i) (h1 : i ≤ len s) (hb : len s ≤ 1099511627776) (hg : Gl w) :
  Calls Tryz.prog 44 [(.pointer (some ⟨pb, 0, none⟩))].toArray wv fun e w' => PPost w M0 M Rs 51 (fun x j v M' w' => Sl M' 6 x.length v (x.flatMap Nd.cells) ∧ i ≤ j ∧ j ≤ len s ∧ St w M0 w' M' (.box pb [str s, i64 j] 55 :: Rs)) (numT s i) e w' := by
 refine CW.enter1 Tryz.func44 rfl Tryz.ntmps44 (Nat.le_of_ble_eq_true rfl) fun Q hE => ?_
 have hub := read1_bd (Eng.runN (from' s i))
 have hrl := runN_le (from' s i)
 have hok := numT_ok (s := s) (i := i)
 have her := numT_er (s := s) (i := i)
 rw [show Eng.runN (from' s i) = Eng.sub (from' s i) 0 (len (from' s i) - len (dropN (from' s i))) from rfl] at hub hrl hok her
 have hfl := from_len s i h0 h1
 have hdl := dropN_len (from' s i)
 have hdw : len ((from' s i).dropWhile (fun x => ([48, 49, 50, 51, 52, 53, 54, 55, 56, 57, 43, 45, 46, 101, 69] : Str).contains x)) = len (dropN (from' s i)) := rfl
 refine CW.weaken [0] (L' := [Y 0 (.pointer (some ⟨pb, 0, none⟩))]) ?_ rfl
 refine CW.sr ?_
 have hS1 := hS.ownNil 38 6
 refine RL.u (.assign .c) rfl (RL.nil (CW.id ?_))
 refine CW.seq ?_
 refine CW.regionD hS1 tryz_mixed (by decide +kernel) ?_
 refine RQ.v .none (.move (.t rfl)) rfl ?_
 refine RQ.v .none (.nilP (.t rfl)) rfl ?_
 refine RQ.v .none (.fldA (q := ⟨pb, 0, none⟩) (.t rfl) (fun w => by kernel_rfl)) rfl ?_
 refine RQ.v .none (.loadB1 (v := (str s)) hS1 (fun _ h => h) (i := 1) rfl (.t rfl) Tryz.isAgg9 rfl) rfl ?_
 refine RQ.v .none (.move (.t rfl)) rfl ?_
 refine RQ.v .none (.nilP (.t rfl)) rfl ?_
 refine RQ.v .none (.fldA (q := ⟨pb, 1, none⟩) (.t rfl) (fun w => by kernel_rfl)) rfl ?_
 refine RQ.v .none (.loadB1 (v := (i64 i)) hS1 (fun _ h => h) (i := 1) rfl (.t rfl) Tryz.isAgg3 rfl) rfl ?_
 refine RQ.v .none (.slSl (.t rfl) (.t rfl) Tryz.underlying9 (fun _ => by omega)) rfl ?_
 refine RQ.v .none (.assign (.t rfl)) rfl ?_
 refine RQ.nil (fun a hs w2 hS3 => CW.at [Y 0 (.pointer (some ⟨pb, 0, none⟩)), Y 3 (str (Eng.from' s i))] rfl ?_ a hs)
 refine CW.sr (RL.m rfl rfl (RL.m rfl rfl (RL.u (.lenS (.t rfl) Tryz.underlying9) rfl (RL.m rfl rfl ?_))))
 refine RL.callE hS3 .none Tryz.call40 (.cons (.t rfl) (.cons .c .nil)) (fun _ => (trimLeft_c (Eng.from' s i) [48, 49, 50, 51, 52, 53, 54, 55, 56, 57, 43, 45, 46, 101, 69] _ (by decide) (cut_low (by decide)))) rfl (fun w4 hS5 => ?_)
 refine RL.u (.lenS (.t rfl) Tryz.underlying9) rfl (RL.u (.sub (.t rfl) (.t rfl) (fun _ => by omega)) rfl (RL.u (.slSh (.t rfl) (.t rfl) Tryz.underlying9 (fun _ => by omega)) rfl (RL.a rfl rfl ?_)))
 refine RL.nil (CW.at [Y 0 (.pointer (some ⟨pb, 0, none⟩)), Y 4 (str (Eng.sub (Eng.from' s i) 0 ((len (Eng.from' s i)) - (len (dropN (Eng.from' s i))))))] rfl (CW.sr (RL.m rfl rfl ?_)))
 refine RL.callE hS5 .none Tryz.call71 (.cons (.t rfl) .nil) (fun _ => (read_c (Eng.sub (Eng.from' s i) 0 ((len (Eng.from' s i)) - (len (dropN (Eng.from' s i))))) _ (hg.low hS5.low) (by omega))) rfl (fun w6 hS7 => ?_)
 refine RL.m rfl rfl (RL.u (.ex (.t rfl) rfl) rfl (RL.u (.ex (.t rfl) rfl) rfl (RL.u (.ex (.t rfl) rfl) rfl ?_)))
 refine RL.alloc hS7 Tryz.zeroValue38 rfl (fun w8 b9 hS10 => ?_)
 refine RL.st hS10 (i := 0) rfl (.t rfl) (.t rfl) Tryz.sizeOf38 rfl rfl rfl rfl rfl (fun w11 hS12 => ?_)
 refine RL.a rfl rfl (RL.a rfl rfl ?_)
 refine RL.nil (CW.at [Y 0 (.pointer (some ⟨pb, 0, none⟩)), Y 4 (str (Eng.sub (Eng.from' s i) 0 ((len (Eng.from' s i)) - (len (dropN (Eng.from' s i)))))), Y 5 (.pointer (some ⟨b9, 0, none⟩)), Y 6 (i64 ((read1 (Eng.sub (Eng.from' s i) 0 ((len (Eng.from' s i)) - (len (dropN (Eng.from' s i)))))).2.1)), Y 7 (i64 ((read1 (Eng.sub (Eng.from' s i) 0 ((len (Eng.from' s i)) - (len (dropN (Eng.from' s i)))))).2.2))] rfl (CW.seq (CW.sr (RL.m rfl rfl (RL.u (.neq (.t rfl) .c) rfl (RL.nil (CW.id ?_)))))))
 refine CW.cond rfl ?_ ?_ <;> intro hb1 <;> try simp only [zb] at hb1
 ·refine CW.region (RL.m rfl rfl (RL.m rfl rfl (RL.m rfl rfl (RL.u (.nilP (.t rfl)) rfl (RL.u (.fldA (q := ⟨pb, 1, none⟩) (.t rfl) (fun w => by kernel_rfl)) rfl (RL.u (.loadB1 (v := (i64 i)) hS12 extEq (i := 2) rfl (.t rfl) Tryz.isAgg3 rfl) rfl (RL.m rfl rfl (RL.u (.add (.t rfl) (.t rfl) (fun _ => by omega)) rfl ?_))))))))
  refine RL.callF Tryz.call28 (.cons (.t rfl) (.cons (.t rfl) (.cons (.t rfl) .nil))) (fail_c ((read1 (Eng.sub (Eng.from' s i) 0 ((len (Eng.from' s i)) - (len (dropN (Eng.from' s i)))))).2.2) (i + ((read1 (Eng.sub (Eng.from' s i) 0 ((len (Eng.from' s i)) - (len (dropN (Eng.from' s i)))))).2.1)) (.pointer (some ⟨pb, 0, none⟩)) _) ?_
  replace hS12 := hS12.drop Rs (List.sublist_append_right [_, _, _] _)
  exact hE.p (PPost.er (her hb1) hS12 (Mem.le.refl _))
 ·refine CW.skip (CW.at [Y 0 (.pointer (some ⟨pb, 0, none⟩)), Y 4 (str (Eng.sub (Eng.from' s i) 0 ((len (Eng.from' s i)) - (len (dropN (Eng.from' s i)))))), Y 5 (.pointer (some ⟨b9, 0, none⟩))] rfl (CW.sr (RL.m rfl rfl (RL.u (.nilP (.t rfl)) rfl (RL.u (.fldA (q := ⟨pb, 1, none⟩) (.t rfl) (fun w => by kernel_rfl)) rfl (RL.u (.loadB1 (v := (i64 i)) hS12 extEq (i := 2) rfl (.t rfl) Tryz.isAgg3 rfl) rfl (RL.m rfl rfl (RL.u (.lenS (.t rfl) Tryz.underlying9) rfl (RL.u (.add (.t rfl) (.t rfl) (fun _ => by omega)) rfl (RL.u (.nilP (.t rfl)) rfl (RL.u (.fldA (q := ⟨pb, 1, none⟩) (.t rfl) (fun w => by kernel_rfl)) rfl ?_)))))))))))
  refine RL.st hS12 (i := 2) rfl (.t rfl) (.t rfl) Tryz.sizeOf3 rfl rfl rfl rfl rfl (fun w13 hS14 => (RL.nil (CW.id ?_)))
  refine CW.sr (RL.u (.loadBN (vs := (ndC ((read1 (Eng.sub (Eng.from' s i) 0 ((len (Eng.from' s i)) - (len (dropN (Eng.from' s i)))))).1) [])) hS14 extEq (i := 0) rfl (.t rfl) Tryz.isAgg38 Tryz.sizeOf38 rfl rfl) rfl ?_)
  refine RL.buildSlice (n := 1) (sz := 6) (e := 38) (vs := [(0, (ndV ((read1 (Eng.sub (Eng.from' s i) 0 ((len (Eng.from' s i)) - (len (dropN (Eng.from' s i)))))).1)))]) (cs := [(i64 ((read1 (Eng.sub (Eng.from' s i) 0 ((len (Eng.from' s i)) - (len (dropN (Eng.from' s i)))))).1.kind)), (i64 ((read1 (Eng.sub (Eng.from' s i) 0 ((len (Eng.from' s i)) - (len (dropN (Eng.from' s i)))))).1.many)), (str ((read1 (Eng.sub (Eng.from' s i) 0 ((len (Eng.from' s i)) - (len (dropN (Eng.from' s i)))))).1.name)), (str ((read1 (Eng.sub (Eng.from' s i) 0 ((len (Eng.from' s i)) - (len (dropN (Eng.from' s i)))))).1.s)), (.bool ((read1 (Eng.sub (Eng.from' s i) 0 ((len (Eng.from' s i)) - (len (dropN (Eng.from' s i)))))).1.neg)), (i64 ((read1 (Eng.sub (Eng.from' s i) 0 ((len (Eng.from' s i)) - (len (dropN (Eng.from' s i)))))).1.e))]) hS14 (.cons (.t rfl) .nil) rfl rfl (fun w => by kernel_rfl) rfl (fun v15 w16 M17 hS18 hle19 => ?_)
  refine RL.a rfl rfl (RL.nil (CW.id ?_))
  refine CW.ret (hE.r1 rfl rfl ?_)
  have hslr := (hS18.sl (i := 0) rfl)
  replace hS18 := (hS18.erase 2 rfl).erase 1 rfl
  replace hS18 := hS18.erase 0 rfl
  exact PPost.ok (hok (by omega)) ⟨hslr, by omega, by omega, hS18⟩ hle19

end Go.Proofs.YtjfaikgooldcbaaGreatDoor
set_option maxRecDepth 100000
namespace Go.Proofs.YtjfaikgooldcbaaGreatDoor
open Go.Eng

/-- What a part's closure does, given so much fuel: I tells what its own things are. -/
def PartOK {α : Type} (w : World) (M0 : Mem) (Rs : List HO) (s : Str) (pb : Nat) (g : FuncId) (cs : List Value) (I : α → Int → Mem → List HO → Prop) (stp : Nat → α → Int → PR α) (f : Nat) : Prop :=
  ∀ (x : α) (i : Int) (wv : World) (M : Mem) (Hs : List HO), I x i M Hs → 0 ≤ i → i ≤ len s → 2 * (len s - i) + 1 ≤ f → St w M0 wv M (.box pb [str s, i64 (i)] 55 :: (Hs ++ Rs)) →
    Calls Tryz.prog g cs.toArray wv (PPost w M0 M Rs 51 (fun x' j v M' w' => i ≤ j ∧ j ≤ len s ∧ ∃ Hs', I x' j M' Hs' ∧ St w M0 w' M' (.box pb [str s, i64 (j)] 55 :: (Hs' ++ Rs))) (stp f x i))
/- (*loupe/text.parser).parts -/
theorem parts_c {w wv : World} {M0 M : Mem} {Rs : List HO} {α : Type} (s ed : Str) (i : Int) (pb : Nat) (g : FuncId) (cs : List Value) (I : α → Int → Mem → List HO → Prop) (stp go : Nat → α → Int → PR α) (x0 : α) (Fu : Nat) (Hs0 : List HO) (hS : St w M0 wv M (.box pb [(str s), (i64 i)] 55 :: (Hs0 ++ Rs))) (hI : I x0 (i + 1) M Hs0) (hIm : ∀ {x M Hs j j2}, j ≤ j2 → I x j M Hs → I x j2 M Hs) (hct : ∀ args w, (callFunc g args).run Tryz.prog w = .ok (.enter g args) w) (hgo : ∀ f x i, go (f + 1) x i = moreT s ed (stp f x i) (go f)) (hst : ∀ f, f < Fu → PartOK w M0 Rs s pb g cs I stp f) (he : len ed = 1) (hfu : 2 * (len s - i) ≤ Fu) (h0 : 0 ≤ i) (h1 : i < len s) (hb : len s ≤ 1099511627776) :
  Calls Tryz.prog 72 [(.pointer (some ⟨pb, 0, none⟩)), (str ed), (.func (.func g) #[] cs.toArray)].toArray wv fun e w' => PPost w M0 M Rs 51 (fun x j v M' w' => i + 2 ≤ j ∧ j ≤ len s ∧ ∃ Hs', I x j M' Hs' ∧ St w M0 w' M' (.box pb [str s, i64 j] 55 :: (Hs' ++ Rs))) (partsT s i ed x0 (go Fu)) e w' := by
 refine CW.enter1 Tryz.func72 rfl Tryz.ntmps72 (Nat.le_of_ble_eq_true rfl) fun Q hE => ?_
 refine CW.weaken [0, 1, 2] (L' := [Y 0 (.pointer (some ⟨pb, 0, none⟩)), Y 1 (str ed), Y 2 (.func (.func g) #[] cs.toArray)]) ?_ rfl
 refine CW.sr (RL.m rfl rfl (RL.u (.nilP (.t rfl)) rfl (RL.u (.fldA (q := ⟨pb, 1, none⟩) (.t rfl) (fun w => by kernel_rfl)) rfl (RL.u (.loadB1 (v := (i64 i)) hS extEq (i := 0) rfl (.t rfl) Tryz.isAgg3 rfl) rfl (RL.u (.add (.t rfl) .c (fun _ => by omega)) rfl (RL.u (.nilP (.t rfl)) rfl (RL.u (.fldA (q := ⟨pb, 1, none⟩) (.t rfl) (fun w => by kernel_rfl)) rfl ?_)))))))
 refine RL.st hS (i := 0) rfl (.t rfl) (.t rfl) Tryz.sizeOf3 rfl rfl rfl rfl rfl (fun w1 hS2 => (RL.nil (CW.id ?_)))
 refine CW.sr (RL.m rfl rfl ?_)
 replace hS2 := hS2.front 0 rfl rfl
 refine RL.callP Tryz.call26 (.cons (.t rfl) .nil) (blankP_c (Rs := ((Hs0 ++ Rs))) s (i + 1) pb hS2 (by omega) (by omega) hb) rfl ?_
 rintro v4 w5 ⟨⟨ha3a, ha3b⟩, hS7⟩
 refine RL.nil (CW.at [Y 0 (.pointer (some ⟨pb, 0, none⟩)), Y 1 (str ed), Y 2 (.func (.func g) #[] cs.toArray)] rfl (CW.seq (CW.sr (RL.m rfl rfl (RL.m rfl rfl ?_)))))
 replace hS7 := hS7.front 0 rfl rfl
 refine RL.callP Tryz.call41 (.cons (.t rfl) (.cons (.t rfl) .nil)) (isP_c (Rs := ((Hs0 ++ Rs))) s ed (blankTo s (i + 1)) pb hS7 (by omega) (by omega) hb) rfl ?_
 rintro v11 w12 ⟨q9, c10, hc10, hq9a, hq9b, hc10y, hc10n, rfl, hS14⟩
 refine RL.nil (CW.at [Y 0 (.pointer (some ⟨pb, 0, none⟩)), Y 1 (str ed), Y 2 (.func (.func g) #[] cs.toArray), Y 17 (.bool c10)] rfl ?_)
 refine CW.cond rfl ?_ ?_ <;> intro hb1 <;> try simp only [zb] at hb1
 ·refine CW.ret (hE.r0 rfl ?_)
  have hz := hc10y hb1
  exact PPost.ok (by rw [hz, he]; exact partsT_end (hc10.symm.trans hb1)) ⟨by omega, by omega, _, hIm (by omega) hI, hS14⟩ (Mem.le.refl _)
 ·refine CW.skip (CW.id (CW.block ?_))
  refine CW.loop (σ := Nat × α × Int × List HO × Mem) (fun (f1, x, j, Hs, Ml) => [Y 0 (.pointer (some ⟨pb, 0, none⟩)), Y 1 (str ed), Y 2 (.func (.func g) #[] cs.toArray)]) (fun (f1, x, j, Hs, Ml) wl => St w M0 wl Ml (.box pb [(str s), (i64 j)] 55 :: (Hs ++ Rs)) ∧ I x j Ml Hs ∧ 0 ≤ j ∧ j ≤ len s ∧ i + 1 ≤ j ∧ f1 ≤ Fu ∧ 2 * (len s - j) + 2 ≤ f1 ∧ go f1 x j = partsT s i ed x0 (go Fu) ∧ M.le Ml) (fun (f1, x, j, Hs, Ml) => f1) ((Fu, x0, q9, Hs0, M)) [0, 1, 2] rfl ?_ ?_
  ·refine ⟨hS14, ?_⟩; exact ⟨hIm (by omega) hI, by omega, by omega, by omega, by omega, by have := hc10n hb1; omega, by rw [hc10n hb1]; exact (partsT_go (hc10.symm.trans hb1)).symm, (Mem.le.refl _)⟩
  ·rintro ⟨f1, x, j, Hs, Ml⟩ wl ⟨hS16, hI, hj0, hj1, hij, hfF, hff, hF, hle0⟩
   obtain ⟨f, rfl⟩ : ∃ f, f1 = f + 1 := ⟨f1 - 1, by omega⟩
   refine CW.block (CW.sr (RL.m rfl rfl ?_))
   refine RL.callRC (fs := []) (cs := cs) hct (.t rfl) .nil (hst f (by omega) x j _ _ _ hI (by omega) (by omega) (by omega) hS16) rfl (fun ec p M27 w28 hr31 hS29 hle30 => ?_) (fun x18 j19 v20 M22 w21 hr23 hF26 hle25 => ?_)
   ·exact hE.p (PPost.er (by rw [← hF, hgo, hr31]; rfl) hS29 (hle0.trans hle30))
   obtain ⟨hF26a, hF26b, Hs17, hIhF26, hS24⟩ := hF26
   refine RL.nil (CW.at [Y 0 (.pointer (some ⟨pb, 0, none⟩)), Y 1 (str ed), Y 2 (.func (.func g) #[] cs.toArray)] rfl (CW.sr (RL.m rfl rfl ?_)))
   replace hS24 := hS24.front 0 rfl rfl
   refine RL.callP Tryz.call26 (.cons (.t rfl) .nil) (blankP_c (Rs := ((Hs17 ++ Rs))) s j19 pb hS24 (by omega) (by omega) hb) rfl ?_
   rintro v33 w34 ⟨⟨ha32a, ha32b⟩, hS36⟩
   refine RL.nil (CW.at [Y 0 (.pointer (some ⟨pb, 0, none⟩)), Y 1 (str ed), Y 2 (.func (.func g) #[] cs.toArray)] rfl (CW.seq (CW.sr (RL.m rfl rfl (RL.m rfl rfl ?_)))))
   replace hS36 := hS36.front 0 rfl rfl
   refine RL.callP Tryz.call41 (.cons (.t rfl) (.cons (.t rfl) .nil)) (isP_c (Rs := ((Hs17 ++ Rs))) s ed (blankTo s j19) pb hS36 (by omega) (by omega) hb) rfl ?_
   rintro v40 w41 ⟨q38, c39, hc39, hq38a, hq38b, hc39y, hc39n, rfl, hS43⟩
   refine RL.nil (CW.at [Y 0 (.pointer (some ⟨pb, 0, none⟩)), Y 1 (str ed), Y 2 (.func (.func g) #[] cs.toArray), Y 24 (.bool c39)] rfl ?_)
   refine CW.cond rfl ?_ ?_ <;> intro hb2 <;> try simp only [zb] at hb2
   ·refine CW.ret (hE.r0 rfl ?_)
    have hz := hc39y hb2
    exact PPost.ok (by rw [hz, he, ← hF, hgo, hr23]; exact moreT_end (hc39.symm.trans hb2)) ⟨by omega, by omega, _, hIm (by omega) hIhF26, hS43⟩ (hle0.trans hle25)
   ·refine CW.skip (CW.id (CW.seq (CW.sr (RL.m rfl rfl ?_))))
    replace hS43 := hS43.front 0 rfl rfl
    refine RL.callP Tryz.call41 (.cons (.t rfl) (.cons .c .nil)) (isP_c (Rs := ((Hs17 ++ Rs))) s [44] q38 pb hS43 (by omega) (by omega) hb) rfl ?_
    rintro v47 w48 ⟨q45, c46, hc46, hq45a, hq45b, hc46y, hc46n, rfl, hS50⟩
    refine RL.u (.not (.t rfl)) rfl ?_
    refine RL.nil (CW.at [Y 0 (.pointer (some ⟨pb, 0, none⟩)), Y 1 (str ed), Y 2 (.func (.func g) #[] cs.toArray), Y 27 (.bool (!c46))] rfl ?_)
    refine CW.cond rfl ?_ ?_ <;> intro hb3 <;> try simp only [zb] at hb3
    ·refine CW.region (RL.m rfl rfl (RL.m rfl rfl (RL.u (.nilP (.t rfl)) rfl (RL.u (.fldA (q := ⟨pb, 1, none⟩) (.t rfl) (fun w => by kernel_rfl)) rfl (RL.u (.loadB1 (v := (i64 q45)) hS50 extEq (i := 0) rfl (.t rfl) Tryz.isAgg3 rfl) rfl ?_)))))
     refine RL.callF Tryz.call28 (.cons (.t rfl) (.cons .c (.cons (.t rfl) .nil))) (fail_c 1 q45 (.pointer (some ⟨pb, 0, none⟩)) _) ?_
     replace hS50 := hS50.drop (Hs17 ++ Rs) (List.sublist_append_right [_] _)
     replace hS50 := hS50.drop Rs (List.sublist_append_right _ _)
     exact hE.p (PPost.er (by rw [hc46n hb3, hc39n hb2, ← hF, hgo, hr23]; exact moreT_bad (hc39.symm.trans hb2) (by have hz := hc46.symm.trans hb3; rw [hc39n hb2] at hz; exact hz)) hS50 (hle0.trans hle25))
    ·refine CW.skip (CW.at [Y 0 (.pointer (some ⟨pb, 0, none⟩)), Y 1 (str ed), Y 2 (.func (.func g) #[] cs.toArray)] rfl ?_)
     refine CW.region (RL.m rfl rfl ?_)
     replace hS50 := hS50.front 0 rfl rfl
     refine RL.callP Tryz.call26 (.cons (.t rfl) .nil) (blankP_c (Rs := ((Hs17 ++ Rs))) s q45 pb hS50 (by omega) (by omega) hb) rfl ?_
     rintro v53 w54 ⟨⟨ha52a, ha52b⟩, hS56⟩
     refine RL.nil fun a hs => Exists.intro ((f, x18, blankTo s q45, Hs17, M22)) ⟨hs.keep [0, 1, 2], ?_, ?_⟩
     ·refine ⟨hS56, ?_⟩
      have hz1 := hc39n hb2
      have hz2 := hc46y hb3
      rw [show len ([44] : Str) = 1 from rfl] at hz2
      have hz3 := hc46.symm.trans hb3
      rw [hz1] at hz3
      exact ⟨hIm (by omega) hIhF26, by omega, by omega, by omega, by omega, by omega, by rw [← hF, hgo, hr23, hz2, hz1]; exact (moreT_more (hc39.symm.trans hb2) hz3).symm, (hle0.trans hle25)⟩
     ·show f < f + 1; omega

end Go.Proofs.YtjfaikgooldcbaaGreatDoor
set_option maxRecDepth 100000
namespace Go.Proofs.YtjfaikgooldcbaaGreatDoor
open Go.Eng

/-- What value does, given so much fuel. -/
def ValOK (w : World) (M0 : Mem) (s : Str) (pb : Nat) (f : Nat) : Prop := ∀ {Rs : List HO} {wv : World} {M : Mem} (i d : Int), St w M0 wv M (.box pb [str s, i64 (i)] 55 :: Rs) → 0 ≤ i → i ≤ len s → 0 ≤ d → d ≤ 1000 → 2 * (len s - i) + 1 ≤ f →
    Calls Tryz.prog 27 [.pointer (some ⟨pb, 0, none⟩), i64 d].toArray wv (PPost w M0 M Rs 51 (fun x j v M' w' => ∃ a c, v = .slice a x.length c ∧ i + 1 ≤ j ∧ j ≤ len s ∧ len x ≤ j - i ∧ Sl M' 6 x.length (.slice a x.length c) (x.flatMap Nd.cells) ∧ St w M0 w' M' (.box pb [str s, i64 (j)] 55 :: Rs)) (valT f s i d))
/- (*loupe/text.parser).list$1 -/
theorem listpart_c {w wv : World} {M0 M : Mem} {Rs : List HO} (s : Str) (i d : Int) (pb bl b2 b3 : Nat) (v : Value) (rs : List SlH) (xs : List Vl) (f : Nat) (i0 : Int) (hS : St w M0 wv M (.box pb [(str s), (i64 i)] 55 :: .box bl [v] 47 :: .own 24 1 v rs.length (rs.flatMap valI) :: .box b2 [(.pointer (some ⟨pb, 0, none⟩))] 53 :: .box b3 [(i64 d)] 3 :: Rs)) (hrow : RowsV M 6 Nd.cells rs xs) (hlx : len xs ≤ i ∧ len xs.flatten + 1 ≤ i - i0) (h0 : 0 ≤ i) (h1 : i ≤ len s) (hb : len s ≤ 1099511627776) (hd : 0 ≤ d ∧ d ≤ 900) (hf : 2 * (len s - i) + 1 ≤ f) (hval : ValOK w M0 s pb f) :
  Calls Tryz.prog 73 [(.pointer (some ⟨bl, 0, none⟩)), (.pointer (some ⟨b2, 0, none⟩)), (.pointer (some ⟨b3, 0, none⟩))].toArray wv fun e w' => PPost w M0 M Rs 51 (fun x j v M' w' => i + 1 ≤ j ∧ j ≤ len s ∧ (len x ≤ j ∧ len x.flatten + 1 ≤ j - i0) ∧ ∃ v2 rs2, RowsV M' 6 Nd.cells rs2 x ∧ St w M0 w' M' (.box pb [str s, i64 j] 55 :: .box bl [v2] 47 :: .own 24 1 v2 rs2.length (rs2.flatMap valI) :: .box b2 [.pointer (some ⟨pb, 0, none⟩)] 53 :: .box b3 [i64 d] 3 :: Rs)) (mapR (fun y => xs ++ [y]) (valT f s i (d + 1))) e w' := by
 refine CW.enter1 Tryz.func73 rfl Tryz.ntmps73 (Nat.le_of_ble_eq_true rfl) fun Q hE => ?_
 have hhl : len rs = len xs := by unfold len; rw [hrow.len]
 refine CW.weaken [0, 1, 2] (L' := [Y 0 (.pointer (some ⟨bl, 0, none⟩)), Y 1 (.pointer (some ⟨b2, 0, none⟩)), Y 2 (.pointer (some ⟨b3, 0, none⟩))]) ?_ rfl
 refine CW.weaken [0, 1, 2] (L' := [Y 0 (.pointer (some ⟨bl, 0, none⟩)), Y 1 (.pointer (some ⟨b2, 0, none⟩)), Y 2 (.pointer (some ⟨b3, 0, none⟩))]) ?_ rfl
 replace hS := (hS.front 4 rfl rfl).front 4 rfl rfl
 replace hS := hS.front 3 rfl rfl
 refine CW.regionG (HsQ := [.box bl [v] 47, .box b2 [(.pointer (some ⟨pb, 0, none⟩))] 53, .box b3 [(i64 d)] 3]) 7 [.is true v, .is true (.pointer (some ⟨pb, 0, none⟩)), .is true (i64 d), .is true (i64 (d + 1)), .any, .any, .any, .any] [(7, ⟨fun vz M X => ∃ x3 j4 a1 c2, valT f s i (d + 1) = .ok x3 j4 ∧ i + 1 ≤ j4 ∧ j4 ≤ len s ∧ len x3 ≤ j4 - i ∧ Sl M 6 x3.length (.slice a1 x3.length c2) (x3.flatMap Nd.cells) ∧ vz = (.slice a1 x3.length c2) ∧ X = (.box pb [(str s), (i64 j4)] 55 :: .own 24 1 v rs.length (rs.flatMap valI) :: Rs), fun hm h => by obtain ⟨x3, j4, a1, c2, hr8, hF11a, hF11b, hF11c, hsl_v5, hvz, e⟩ := h; exact ⟨x3, j4, a1, c2, hr8, hF11a, hF11b, hF11c, hsl_v5.mono hm, hvz, e⟩⟩), (8, ⟨fun vz M X => ∃ x3 j4 a1 c2, valT f s i (d + 1) = .ok x3 j4 ∧ i + 1 ≤ j4 ∧ j4 ≤ len s ∧ len x3 ≤ j4 - i ∧ Sl M 6 x3.length (.slice a1 x3.length c2) (x3.flatMap Nd.cells) ∧ X = (.own 24 1 vz (([(SlH.mk a1 x3.length c2)] : List SlH)).length ((([(SlH.mk a1 x3.length c2)] : List SlH)).flatMap valI) :: .box pb [(str s), (i64 j4)] 55 :: .own 24 1 v rs.length (rs.flatMap valI) :: Rs), fun hm h => by obtain ⟨x3, j4, a1, c2, hr8, hF11a, hF11b, hF11c, hsl_v5, e⟩ := h; exact ⟨x3, j4, a1, c2, hr8, hF11a, hF11b, hF11c, hsl_v5.mono hm, e⟩⟩), (9, ⟨fun vz M X => ∃ x3 j4 a1 c2, valT f s i (d + 1) = .ok x3 j4 ∧ i + 1 ≤ j4 ∧ j4 ≤ len s ∧ len x3 ≤ j4 - i ∧ Sl M 6 x3.length (.slice a1 x3.length c2) (x3.flatMap Nd.cells) ∧ X = (.box pb [(str s), (i64 j4)] 55 :: .own 24 1 vz (rs ++ [(SlH.mk a1 x3.length c2)]).length ((rs ++ [(SlH.mk a1 x3.length c2)]).flatMap valI) :: Rs), fun hm h => by obtain ⟨x3, j4, a1, c2, hr8, hF11a, hF11b, hF11c, hsl_v5, e⟩ := h; exact ⟨x3, j4, a1, c2, hr8, hF11a, hF11b, hF11c, hsl_v5.mono hm, e⟩⟩)] (.box pb [(str s), (i64 i)] 55 :: .own 24 1 v rs.length (rs.flatMap valI) :: Rs) [none, none, none, none, some 0, some 1, some 2] hS tryz_mixed [0, 1, 2] rfl (by decide +kernel) (by decide +kernel) rfl rfl (by decide +kernel) (by decide +kernel) [7, 8, 9] rfl (by decide +kernel) (.cons ?_ (.cons ?_ (.cons ?_ (.cons ?_ (.cons ?_ (.cons ?_ (.cons ?_ (.cons ?_ (.nil)))))))))
 ·intro LL w1 M2 X hle4 hS3 hK hD
  replace hrow := hrow.mono hle4
  refine RL.u (.loadB1 (v := v) hS3 extEq (i := 0) rfl (.t (hK _ _ rfl)) Tryz.isAgg47 rfl) rfl ?_
  exact RL.nil (RA.next fun a hs => ⟨_, _, Mem.le.refl _, hS3, hs, _, _, rfl, rfl, rfl⟩)
 ·intro LL w5 M6 X hle8 hS7 hK hD
  replace hrow := hrow.mono hle8
  refine RL.u (.loadB1 (v := (.pointer (some ⟨pb, 0, none⟩))) hS7 extEq (i := 1) rfl (.t (hK _ _ rfl)) Tryz.isAgg53 rfl) rfl ?_
  exact RL.nil (RA.next fun a hs => ⟨_, _, Mem.le.refl _, hS7, hs, _, _, rfl, rfl, rfl⟩)
 ·intro LL w9 M10 X hle12 hS11 hK hD
  replace hrow := hrow.mono hle12
  refine RL.u (.loadB1 (v := (i64 d)) hS11 extEq (i := 2) rfl (.t (hK _ _ rfl)) Tryz.isAgg3 rfl) rfl ?_
  exact RL.nil (RA.next fun a hs => ⟨_, _, Mem.le.refl _, hS11, hs, _, _, rfl, rfl, rfl⟩)
 ·intro LL w13 M14 X hle16 hS15 hK hD
  replace hrow := hrow.mono hle16
  obtain ⟨g5, v5, hl5, rfl, rfl⟩ := hD 2 (by decide +kernel)
  refine RL.u (.add (.t hl5) .c (fun _ => by omega)) rfl ?_
  exact RL.nil (RA.next fun a hs => ⟨_, _, Mem.le.refl _, hS15, hs, _, _, rfl, rfl, rfl⟩)
 ·intro LL w17 M18 X hle20 hS19 hK hD hX
  replace hrow := hrow.mono hle20
  obtain rfl : (.box pb [(str s), (i64 i)] 55 :: .own 24 1 v rs.length (rs.flatMap valI) :: Rs) = X := Eq.symm hX
  obtain ⟨g4, v4, hl4, rfl, rfl⟩ := hD 1 (by decide +kernel)
  obtain ⟨g6, v6, hl6, rfl, rfl⟩ := hD 3 (by decide +kernel)
  replace hS19 := hS19.front 3 rfl rfl
  refine RL.callR Tryz.call27 (.cons (.t hl4) (.cons (.t hl6) .nil)) (hval (Rs := (.box bl [v] 47 :: .box b2 [(.pointer (some ⟨pb, 0, none⟩))] 53 :: .box b3 [(i64 d)] 3 :: .own 24 1 v rs.length (rs.flatMap valI) :: Rs)) i (d + 1) hS19 (by omega) (by omega) (by omega) (by omega) (by omega)) rfl (fun ec p M32 w33 hr36 hS34 hle35 => ?_) (fun x23 j24 v25 M27 w26 hr28 hF31 hle30 => ?_)
  ·replace hS34 := hS34.drop Rs (List.sublist_append_right [_, _, _, _] _)
   exact hE.p (PPost.er (show mapR _ _ = _ from by rw [hr36]; rfl) hS34 (hle20.trans hle35))
  obtain ⟨a21, c22, rfl, hF31a, hF31b, hF31c, hsl_v25, hS29⟩ := hF31
  replace hrow := hrow.mono hle30
  replace hS29 := (hS29.front 3 rfl rfl).front 3 rfl rfl
  replace hS29 := hS29.front 3 rfl rfl
  exact RL.nil (RA.next fun a hs => ⟨_, _, (.box pb [(str s), (i64 j24)] 55 :: .own 24 1 v rs.length (rs.flatMap valI) :: Rs), hle30, hS29, hs, ⟨_, _, rfl, trivial⟩, ⟨_, rfl, x23, j24, a21, c22, hr28, hF31a, hF31b, hF31c, hsl_v25, rfl, rfl⟩⟩)
 ·intro LL w37 M38 X hle40 hS39 hK hD hX
  replace hrow := hrow.mono hle40
  obtain ⟨vx41, hl7, x3, j4, a1, c2, hr8, hF11a, hF11b, hF11c, hsl_v5, rfl, rfl⟩ := hX
  refine RL.buildSlice (n := 1) (sz := 1) (e := 24) (vs := [(0, (.slice a1 x3.length c2))]) (cs := [(.slice a1 x3.length c2)]) hS39 (.cons (.t hl7) .nil) rfl rfl (fun w => by kernel_rfl) rfl (fun v42 w43 M44 hS45 hle46 => ?_)
  replace hrow := hrow.mono hle46
  replace hsl_v5 := hsl_v5.mono hle46
  replace hS45 := (hS45.front 3 rfl rfl).front 3 rfl rfl
  replace hS45 := hS45.front 3 rfl rfl
  exact RL.nil (RA.next fun a hs => ⟨_, _, (.own 24 1 v42 (([(SlH.mk a1 x3.length c2)] : List SlH)).length ((([(SlH.mk a1 x3.length c2)] : List SlH)).flatMap valI) :: .box pb [(str s), (i64 j4)] 55 :: .own 24 1 v rs.length (rs.flatMap valI) :: Rs), hle46, hS45, hs, ⟨_, _, rfl, trivial⟩, ⟨_, rfl, x3, j4, a1, c2, hr8, hF11a, hF11b, hF11c, hsl_v5, rfl⟩⟩)
 ·intro LL w47 M48 X hle50 hS49 hK hD hX
  replace hrow := hrow.mono hle50
  obtain ⟨vx51, hl8, x3, j4, a1, c2, hr8, hF11a, hF11b, hF11c, hsl_v5, rfl⟩ := hX
  obtain ⟨g3, v3, hl3, rfl, hv3⟩ := hD 0 (by decide +kernel)
  subst v3
  refine RL.append1 (f := valI) (l := rs) (y := (SlH.mk a1 x3.length c2)) hS49 (k := 5) rfl (.t hl3) (.t hl8) (hS49.sl (i := 3) rfl) Tryz.underlying47 Tryz.type24 rfl rfl rfl valI_one (by' := 24) rfl rfl (by omega) rfl (Hs' := fun v' => (.box bl [v] 47 :: .box b2 [(.pointer (some ⟨pb, 0, none⟩))] 53 :: .box b3 [(i64 d)] 3 :: .own 24 1 vx51 (([(SlH.mk a1 x3.length c2)] : List SlH)).length ((([(SlH.mk a1 x3.length c2)] : List SlH)).flatMap valI) :: .box pb [(str s), (i64 j4)] 55 :: .own 24 1 v' (rs ++ [(SlH.mk a1 x3.length c2)]).length ((rs ++ [(SlH.mk a1 x3.length c2)]).flatMap valI) :: Rs)) (fun _ => rfl) (fun v52 w53 M54 hS55 hle56 => ?_)
  replace hS55 := hS55.erase 3 rfl
  replace hrow := hrow.mono hle56
  replace hsl_v5 := hsl_v5.mono hle56
  replace hS55 := (hS55.front 2 rfl rfl).front 2 rfl rfl
  replace hS55 := hS55.front 2 rfl rfl
  exact RL.nil (RA.next fun a hs => ⟨_, _, (.box pb [(str s), (i64 j4)] 55 :: .own 24 1 v52 (rs ++ [(SlH.mk a1 x3.length c2)]).length ((rs ++ [(SlH.mk a1 x3.length c2)]).flatMap valI) :: Rs), hle56, hS55, hs, ⟨_, _, rfl, trivial⟩, ⟨_, rfl, x3, j4, a1, c2, hr8, hF11a, hF11b, hF11c, hsl_v5, rfl⟩⟩)
 ·intro LL w57 M58 X hle60 hS59 hK hD hX
  replace hrow := hrow.mono hle60
  obtain ⟨vx61, hl9, x3, j4, a1, c2, hr8, hF11a, hF11b, hF11c, hsl_v5, rfl⟩ := hX
  refine RL.storeS (v := vx61) hS59 (hS59.sl (i := 4) rfl) (i := 0) rfl (.t (hK _ _ rfl)) (.t hl9) Tryz.sizeOf47 rfl (cs' := [vx61]) rfl (Hs' := (.box bl [vx61] 47 :: .box b2 [(.pointer (some ⟨pb, 0, none⟩))] 53 :: .box b3 [(i64 d)] 3 :: .box pb [(str s), (i64 j4)] 55 :: .own 24 1 vx61 (rs ++ [(SlH.mk a1 x3.length c2)]).length ((rs ++ [(SlH.mk a1 x3.length c2)]).flatMap valI) :: Rs)) rfl (fun w62 hS63 => ?_)
  refine RL.nil (slots_sub (E := [Y 0 (.pointer (some ⟨bl, 0, none⟩)), Y 1 (.pointer (some ⟨b2, 0, none⟩)), Y 2 (.pointer (some ⟨b3, 0, none⟩))]) (.cons (hK _ _ rfl) (.cons (hK _ _ rfl) (.cons (hK _ _ rfl) .nil))) ?_)
  replace hS63 := (hS63.front 2 rfl rfl).front 2 rfl rfl
  replace hS63 := (hS63.front 4 rfl rfl).front 3 rfl rfl
  replace hS63 := hS63.front 4 rfl rfl
  refine  (hE.e0 rfl ?_)
  exact PPost.ok (show mapR _ _ = _ from by rw [hr8]; rfl) ⟨by omega, by omega, by rw [List.flatten_append]; simp only [len_app, len_cons, len_nil, List.flatten_cons, List.flatten_nil]; omega, _, _, RowsV.snoc hsl_v5 hrow, hS63⟩ hle60

end Go.Proofs.YtjfaikgooldcbaaGreatDoor
set_option maxRecDepth 100000
namespace Go.Proofs.YtjfaikgooldcbaaGreatDoor
open Go.Eng

/- (*loupe/text.parser).object$1 -/
theorem objpart_c {w wv : World} {M0 M : Mem} {Rs : List HO} (s : Str) (i d i0 : Int) (pb b2 b3 bm mb : Nat) (l : List SV) (c0 : Nat) (mp : List (Str × Vl)) (f : Nat) (hS : St w M0 wv M (.box pb [(str s), (i64 i)] 55 :: .box b2 [(.pointer (some ⟨pb, 0, none⟩))] 53 :: .box b3 [(i64 d)] 3 :: .box bm [(.map (some mb))] 106 :: .raw mb (smobj l c0) :: Rs)) (hmap : MapV M l mp) (hbo : BornOK l c0) (hlx : len mp ≤ i ∧ mapN mp + 1 ≤ i - i0) (h0 : 0 ≤ i) (h1 : i ≤ len s) (hb : len s ≤ 1099511627776) (hg : Gl w) (hd : 0 ≤ d ∧ d ≤ 900) (hf : 2 * (len s - i) + 1 ≤ f) (hval : ValOK w M0 s pb f) :
  Calls Tryz.prog 75 [(.pointer (some ⟨b2, 0, none⟩)), (.pointer (some ⟨b3, 0, none⟩)), (.pointer (some ⟨bm, 0, none⟩))].toArray wv fun e w' => PPost w M0 M Rs 51 (fun x j v M' w' => i + 1 ≤ j ∧ j ≤ len s ∧ (len x ≤ j ∧ mapN x + 1 ≤ j - i0) ∧ ∃ l2 c2, MapV M' l2 x ∧ BornOK l2 c2 ∧ St w M0 w' M' (.box pb [str s, i64 j] 55 :: .box b2 [.pointer (some ⟨pb, 0, none⟩)] 53 :: .box b3 [i64 d] 3 :: .box bm [.map (some mb)] 106 :: .raw mb (smobj l2 c2) :: Rs)) (pairT s i (fun k => valT f s k (d + 1)) mp) e w' := by
 refine CW.enter1 Tryz.func75 rfl Tryz.ntmps75 (Nat.le_of_ble_eq_true rfl) fun Q hE => ?_
 refine CW.weaken [0, 1, 2] (L' := [Y 0 (.pointer (some ⟨b2, 0, none⟩)), Y 1 (.pointer (some ⟨b3, 0, none⟩)), Y 2 (.pointer (some ⟨bm, 0, none⟩))]) ?_ rfl
 refine CW.sr (RL.u (.loadB1 (v := (.pointer (some ⟨pb, 0, none⟩))) hS extEq (i := 1) rfl (.t rfl) Tryz.isAgg53 rfl) rfl ?_)
 refine RL.callR Tryz.call42 (.cons (.t rfl) .nil) (text_c (Rs := (.box b2 [(.pointer (some ⟨pb, 0, none⟩))] 53 :: .box b3 [(i64 d)] 3 :: .box bm [(.map (some mb))] 106 :: .raw mb (smobj l c0) :: Rs)) s i pb hS (by omega) (by omega) hb hg) rfl (fun ec p M10 w11 hr14 hS12 hle13 => ?_) (fun x1 j2 v3 M5 w4 hr6 hF9 hle8 => ?_)
 ·replace hS12 := hS12.drop Rs (List.sublist_append_right [_, _, _, _] _)
  exact hE.p (PPost.er (by rw [pairT_txt1 hr14]) hS12 hle13)
 obtain ⟨rfl, hF9a, hF9b, hS7⟩ := hF9
 replace hmap := hmap.mono hle8
 refine RL.a rfl rfl ?_
 refine RL.nil (CW.at [Y 0 (.pointer (some ⟨b2, 0, none⟩)), Y 1 (.pointer (some ⟨b3, 0, none⟩)), Y 2 (.pointer (some ⟨bm, 0, none⟩)), Y 3 (str x1)] rfl (CW.sr (RL.u (.loadB1 (v := (.pointer (some ⟨pb, 0, none⟩))) hS7 extEq (i := 1) rfl (.t rfl) Tryz.isAgg53 rfl) rfl ?_)))
 replace hS7 := hS7.front 0 rfl rfl
 refine RL.callP Tryz.call26 (.cons (.t rfl) .nil) (blankP_c (Rs := (.box b2 [(.pointer (some ⟨pb, 0, none⟩))] 53 :: .box b3 [(i64 d)] 3 :: .box bm [(.map (some mb))] 106 :: .raw mb (smobj l c0) :: Rs)) s j2 pb hS7 (by omega) (by omega) hb) rfl ?_
 rintro v16 w17 ⟨⟨ha15a, ha15b⟩, hS19⟩
 refine RL.nil (CW.at [Y 0 (.pointer (some ⟨b2, 0, none⟩)), Y 1 (.pointer (some ⟨b3, 0, none⟩)), Y 2 (.pointer (some ⟨bm, 0, none⟩)), Y 3 (str x1)] rfl (CW.seq (CW.sr (RL.u (.loadB1 (v := (.pointer (some ⟨pb, 0, none⟩))) hS19 extEq (i := 1) rfl (.t rfl) Tryz.isAgg53 rfl) rfl ?_))))
 replace hS19 := hS19.front 0 rfl rfl
 refine RL.callP Tryz.call41 (.cons (.t rfl) (.cons .c .nil)) (isP_c (Rs := (.box b2 [(.pointer (some ⟨pb, 0, none⟩))] 53 :: .box b3 [(i64 d)] 3 :: .box bm [(.map (some mb))] 106 :: .raw mb (smobj l c0) :: Rs)) s [58] (blankTo s j2) pb hS19 (by omega) (by omega) hb) rfl ?_
 rintro v23 w24 ⟨q21, c22, hc22, hq21a, hq21b, hc22y, hc22n, rfl, hS26⟩
 refine RL.u (.not (.t rfl)) rfl ?_
 refine RL.nil (CW.at [Y 0 (.pointer (some ⟨b2, 0, none⟩)), Y 1 (.pointer (some ⟨b3, 0, none⟩)), Y 2 (.pointer (some ⟨bm, 0, none⟩)), Y 3 (str x1), Y 10 (.bool (!c22))] rfl ?_)
 refine CW.cond rfl ?_ ?_ <;> intro hb1 <;> try simp only [zb] at hb1
 ·refine CW.regionT 5 hS26 tryz_mixed (by decide +kernel) (fun w28 hS29 => ?_)
  refine RS.v .none (.loadB1 (v := (.pointer (some ⟨pb, 0, none⟩))) hS29 extEq (i := 1) rfl (.t rfl) Tryz.isAgg53 rfl) rfl ?_
  refine RS.v .none (.loadB1 (v := (.pointer (some ⟨pb, 0, none⟩))) hS29 extEq (i := 1) rfl (.t rfl) Tryz.isAgg53 rfl) rfl ?_
  refine RS.v .none (.nilP (.t rfl)) rfl ?_
  refine RS.v .none (.fldA (q := ⟨pb, 1, none⟩) (.t rfl) (fun w => by kernel_rfl)) rfl ?_
  refine RS.v .none (.loadB1 (v := (i64 q21)) hS29 extEq (i := 0) rfl (.t rfl) Tryz.isAgg3 rfl) rfl ?_
  refine RS.nil ?_
  refine RL.callF Tryz.call28 (.cons (.t rfl) (.cons .c (.cons (.t rfl) .nil))) (fail_c 1 q21 (.pointer (some ⟨pb, 0, none⟩)) _) ?_
  replace hS29 := hS29.drop Rs (List.sublist_append_right [_, _, _, _, _] _)
  exact hE.p (PPost.er (by rw [hc22n hb1]; exact pairT_bad hr6 (hc22.symm.trans hb1)) hS29 hle8)
 ·have hz1 := hc22y hb1
  rw [show len ([58] : Str) = 1 from rfl] at hz1
  have hc22y2 := congrArg (fun z => valT f s (blankTo s z) (d + 1)) hz1
  refine CW.skip (CW.at [Y 0 (.pointer (some ⟨b2, 0, none⟩)), Y 1 (.pointer (some ⟨b3, 0, none⟩)), Y 2 (.pointer (some ⟨bm, 0, none⟩)), Y 3 (str x1)] rfl (CW.sr (RL.u (.loadB1 (v := (.pointer (some ⟨pb, 0, none⟩))) hS26 extEq (i := 1) rfl (.t rfl) Tryz.isAgg53 rfl) rfl ?_)))
  replace hS26 := hS26.front 0 rfl rfl
  refine RL.callP Tryz.call26 (.cons (.t rfl) .nil) (blankP_c (Rs := (.box b2 [(.pointer (some ⟨pb, 0, none⟩))] 53 :: .box b3 [(i64 d)] 3 :: .box bm [(.map (some mb))] 106 :: .raw mb (smobj l c0) :: Rs)) s q21 pb hS26 (by omega) (by omega) hb) rfl ?_
  rintro v31 w32 ⟨⟨ha30a, ha30b⟩, hS34⟩
  refine RL.nil (CW.at [Y 0 (.pointer (some ⟨b2, 0, none⟩)), Y 1 (.pointer (some ⟨b3, 0, none⟩)), Y 2 (.pointer (some ⟨bm, 0, none⟩)), Y 3 (str x1)] rfl (CW.weaken [0, 1, 2, 3] (L' := [Y 0 (.pointer (some ⟨b2, 0, none⟩)), Y 1 (.pointer (some ⟨b3, 0, none⟩)), Y 2 (.pointer (some ⟨bm, 0, none⟩)), Y 3 (str x1)]) ?_ rfl))
  replace hS34 := (hS34.front 4 rfl rfl).front 4 rfl rfl
  replace hS34 := (hS34.front 4 rfl rfl).front 4 rfl rfl
  refine CW.regionG (HsQ := [.box b2 [(.pointer (some ⟨pb, 0, none⟩))] 53, .box b3 [(i64 d)] 3, .box bm [(.map (some mb))] 106, .raw mb (smobj l c0)]) 6 [.is true (.map (some mb)), .is true (str x1), .is true (.pointer (some ⟨pb, 0, none⟩)), .is true (i64 d), .is true (i64 (d + 1)), .any, .any] [(24, ⟨fun vz M X => ∃ x38 j39 a36 c37, valT f s (blankTo s q21) (d + 1) = .ok x38 j39 ∧ (blankTo s q21) + 1 ≤ j39 ∧ j39 ≤ len s ∧ len x38 ≤ j39 - (blankTo s q21) ∧ Sl M 6 x38.length (.slice a36 x38.length c37) (x38.flatMap Nd.cells) ∧ vz = (.slice a36 x38.length c37) ∧ X = (.box pb [(str s), (i64 j39)] 55 :: Rs), fun hm h => by obtain ⟨x38, j39, a36, c37, hr43, hF46a, hF46b, hF46c, hsl_v40, hvz, e⟩ := h; exact ⟨x38, j39, a36, c37, hr43, hF46a, hF46b, hF46c, hsl_v40.mono hm, hvz, e⟩⟩)] (.box pb [(str s), (i64 (blankTo s q21))] 55 :: Rs) [none, none, none, none, none, some 0] hS34 tryz_mixed [0, 1, 2, 3] rfl (by decide +kernel) (by decide +kernel) rfl rfl (by decide +kernel) (by decide +kernel) [24] rfl (by decide +kernel) (.cons ?_ (.cons ?_ (.cons ?_ (.cons ?_ (.cons ?_ (.cons ?_ (.cons ?_ (.nil))))))))
  ·intro LL w36 M37 X hle39 hS38 hK hD
   replace hmap := hmap.mono hle39
   refine RL.u (.loadB1 (v := (.map (some mb))) hS38 extEq (i := 2) rfl (.t (hK _ _ rfl)) Tryz.isAgg106 rfl) rfl ?_
   exact RL.nil (RA.next fun a hs => ⟨_, _, Mem.le.refl _, hS38, hs, _, _, rfl, rfl, rfl⟩)
  ·intro LL w40 M41 X hle43 hS42 hK hD
   replace hmap := hmap.mono hle43
   refine RL.u (.move (.t (hK _ _ rfl))) rfl ?_
   exact RL.nil (RA.next fun a hs => ⟨_, _, Mem.le.refl _, hS42, hs, _, _, rfl, rfl, rfl⟩)
  ·intro LL w44 M45 X hle47 hS46 hK hD
   replace hmap := hmap.mono hle47
   refine RL.u (.loadB1 (v := (.pointer (some ⟨pb, 0, none⟩))) hS46 extEq (i := 0) rfl (.t (hK _ _ rfl)) Tryz.isAgg53 rfl) rfl ?_
   exact RL.nil (RA.next fun a hs => ⟨_, _, Mem.le.refl _, hS46, hs, _, _, rfl, rfl, rfl⟩)
  ·intro LL w48 M49 X hle51 hS50 hK hD
   replace hmap := hmap.mono hle51
   refine RL.u (.loadB1 (v := (i64 d)) hS50 extEq (i := 1) rfl (.t (hK _ _ rfl)) Tryz.isAgg3 rfl) rfl ?_
   exact RL.nil (RA.next fun a hs => ⟨_, _, Mem.le.refl _, hS50, hs, _, _, rfl, rfl, rfl⟩)
  ·intro LL w52 M53 X hle55 hS54 hK hD
   replace hmap := hmap.mono hle55
   obtain ⟨g22, v22, hl22, rfl, rfl⟩ := hD 3 (by decide +kernel)
   refine RL.u (.add (.t hl22) .c (fun _ => by omega)) rfl ?_
   exact RL.nil (RA.next fun a hs => ⟨_, _, Mem.le.refl _, hS54, hs, _, _, rfl, rfl, rfl⟩)
  ·intro LL w56 M57 X hle59 hS58 hK hD hX
   replace hmap := hmap.mono hle59
   obtain rfl : (.box pb [(str s), (i64 (blankTo s q21))] 55 :: Rs) = X := Eq.symm hX
   obtain ⟨g21, v21, hl21, rfl, rfl⟩ := hD 2 (by decide +kernel)
   obtain ⟨g23, v23, hl23, rfl, rfl⟩ := hD 4 (by decide +kernel)
   replace hS58 := hS58.front 4 rfl rfl
   refine RL.callR Tryz.call27 (.cons (.t hl21) (.cons (.t hl23) .nil)) (hval (Rs := (.box b2 [(.pointer (some ⟨pb, 0, none⟩))] 53 :: .box b3 [(i64 d)] 3 :: .box bm [(.map (some mb))] 106 :: .raw mb (smobj l c0) :: Rs)) (blankTo s q21) (d + 1) hS58 (by omega) (by omega) (by omega) (by omega) (by omega)) rfl (fun ec p M71 w72 hr75 hS73 hle74 => ?_) (fun x62 j63 v64 M66 w65 hr67 hF70 hle69 => ?_)
   ·replace hS73 := hS73.drop Rs (List.sublist_append_right [_, _, _, _] _)
    exact hE.p (PPost.er (by rw [pairT_val hr6 (hc22.symm.trans hb1)]; show mapR _ _ = _; rw [← hc22y2, hr75]; rfl) hS73 ((hle8.trans hle59).trans hle74))
   obtain ⟨a60, c61, rfl, hF70a, hF70b, hF70c, hsl_v64, hS68⟩ := hF70
   replace hmap := hmap.mono hle69
   replace hS68 := (hS68.front 4 rfl rfl).front 4 rfl rfl
   replace hS68 := (hS68.front 4 rfl rfl).front 4 rfl rfl
   exact RL.nil (RA.next fun a hs => ⟨_, _, (.box pb [(str s), (i64 j63)] 55 :: Rs), hle69, hS68, hs, ⟨_, _, rfl, trivial⟩, ⟨_, rfl, x62, j63, a60, c61, hr67, hF70a, hF70b, hF70c, hsl_v64, rfl, rfl⟩⟩)
  ·intro LL w76 M77 X hle79 hS78 hK hD hX
   replace hmap := hmap.mono hle79
   obtain ⟨vx80, hl24, x38, j39, a36, c37, hr43, hF46a, hF46b, hF46c, hsl_v40, rfl, rfl⟩ := hX
   obtain ⟨g19, v19, hl19, rfl, rfl⟩ := hD 0 (by decide)
   obtain ⟨g20, v20, hl20, rfl, rfl⟩ := hD 1 (by decide)
   refine RL.smapUpdate false hS78 (i := 3) rfl (.t hl19) (.t hl20) (.t hl24) Tryz.underlying106 Tryz.underlying9 rfl rfl rfl (fun w81 hS82 => ?_)
   refine RL.nil (slots_sub (E := [Y 0 (.pointer (some ⟨b2, 0, none⟩)), Y 1 (.pointer (some ⟨b3, 0, none⟩)), Y 2 (.pointer (some ⟨bm, 0, none⟩)), Y 3 (str x1)]) (.cons (hK _ _ rfl) (.cons (hK _ _ rfl) (.cons (hK _ _ rfl) (.cons (hK _ _ rfl) .nil)))) ?_)
   replace hS82 := (hS82.front 3 rfl rfl).front 3 rfl rfl
   replace hS82 := (hS82.front 3 rfl rfl).front 3 rfl rfl
   replace hS82 := hS82.front 4 rfl rfl
   refine  (hE.e0 rfl ?_)
   have hpn := putV_n x1 x38 mp
   exact PPost.ok (show (pairT s i (fun k => valT f s k (d + 1)) mp) = _ from by rw [pairT_val hr6 (hc22.symm.trans hb1)]; show mapR _ _ = _; rw [← hc22y2, hr43]; rfl) ⟨by omega, by omega, by omega, _, _, hmap.put (h := ⟨a36, _, c37⟩) hsl_v40, hbo.put (h := ⟨a36, _, c37⟩) hmap hsl_v40, hS82⟩ (hle8.trans hle79)

end Go.Proofs.YtjfaikgooldcbaaGreatDoor
namespace Go.Eng
open Go.RowKit
theorem St.newSpare {w0 w : World} {M0 M : Mem} {Hs : List HO} (h : St w0 M0 w M Hs) (e : TypeId) (sz cap : Nat) (cur : Array Value) (hc : cur.size = cap * sz) (hm : cap ≤ maxLen) :
    St w0 M0 (w.alloc (.cells cur e)) M (.own e sz (.slice (some ⟨w.heap.size, 0, none⟩) 0 cap) 0 [] :: Hs) := by
  have h1 := h.ext (Ext.alloc w (.cells cur e))
  refine ⟨h1.low, h1.sat, h1.old, fun x hx => ?_, List.pairwise_cons.2 ⟨fun y hy b hb => ?_, h.apart⟩⟩
  · rcases List.mem_cons.1 hx with rfl | hx
    · refine ⟨⟨by simp, .inr ⟨w.heap.size, cap, cur, rfl, h.size, heap_alloc_new _ _, Nat.zero_le _, hm, hc, by simp⟩⟩, fun b hb => ?_⟩
      simp only [Value.ownBlock, Option.some.injEq] at hb; subst hb
      exact ⟨fun o ho => by simp at ho, fun o _ => h.none_of_new (Nat.le_refl _) o⟩
    · exact h1.ok x hx
  · simp only [HO.blk, Value.ownBlock, Option.some.injEq] at hb; subst hb
    intro hy'
    have := (HO.ok.lt (h.ok y hy) hy').2
    omega
end Go.Eng
namespace Go.Proofs.YtjfaikgooldcbaaGreatDoor
open Go.Eng Go.RowKit

set_option maxHeartbeats 1000000 in
set_option maxRecDepth 100000 in
theorem grow_none (w : World) : Calls Tryz.prog 131 #[.slice none 0 0, .int .i64 0] w fun e w' => e = .returned (.slice none 0 0) ∧ w' = w := by
  have mixed : Tryz.prog.follows .mixedOrders = true := by kernel_rfl
  go_enter Tryz.func131, Tryz.ntmps131
  go_wp2
  all_goals (go_ret; exact ⟨rfl, rfl⟩)
set_option maxHeartbeats 4000000 in
set_option maxRecDepth 100000 in
theorem grow_some (n : Nat) (w : World) (h0 : 0 < n) (hbig : n * 64 ≤ 140737488355328) : Calls Tryz.prog 131 #[.slice none 0 0, .int .i64 n] w fun e w' =>
    ∃ cap cur, e = .returned (.slice (some ⟨w.heap.size, 0, none⟩) 0 cap) ∧ cap ≤ maxLen ∧ cur.size = cap * 6 ∧ w' = w.drew.alloc (.cells cur 38) := by
  obtain ⟨i0, hi0, hz0, hs6, hb64⟩ : ∃ i, Tryz.prog.info? 38 = some i ∧ i.zero.isSome = true ∧ i.size = 6 ∧ i.bytes = 64 := by
    obtain ⟨i, hi, he⟩ := Option.map_eq_some_iff.1 (show (Tryz.prog.info? 38).map (fun i => (i.zero.isSome, i.size, i.bytes)) = some (true, 6, 64) by kernel_rfl)
    exact ⟨i, hi, by simpa using congrArg (·.1) he, by simpa using congrArg (·.2.1) he, by simpa using congrArg (·.2.2) he⟩
  obtain ⟨z, hz⟩ := Option.isSome_iff_exists.1 hz0
  have hzc : z.cells.size = 6 := by
    have := show (Tryz.prog.info? 38).bind (fun i => i.zero.map (fun z => z.cells.size)) = some 6 by kernel_rfl
    rw [hi0] at this; simp only [Option.bind_some, hz, Option.map_some, Option.some.injEq] at this; exact this
  have mixed : Tryz.prog.follows .mixedOrders = true := by kernel_rfl
  have us := fun w => run_underlying (P := Tryz.prog) (w := w) Tryz.underlying24
  have ui := fun w => run_underlying (P := Tryz.prog) (w := w) Tryz.underlying3
  have h1 : ¬ ((n : Int) < 0) := by omega
  have h3 : wrap64 ((n : Int) - 0) = (n : Int) := by unfold wrap64; omega
  have h4 : (n : Int) > 0 := by omega
  have hold : (Builtin.firstCells i0.size 0 (.slice none 0 0)).run Tryz.prog w.drew = .ok #[] w.drew := run_firstCells_none w.drew i0.size 0 0 0
  have hrz : ∀ ty, (Builtin.append_ #[24, 3] ty #[.slice none 0 0, .int .i64 (n : Int)]).run Tryz.prog w =
      .ok (.slice (some ⟨w.heap.size, 0, none⟩) n (grownCap w n 0 38)) (w.drew.alloc (.cells (#[] ++ Builtin.zeroCells z.cells n ++ Builtin.zeroCells z.cells (grownCap w n 0 38 - n)) 38)) := fun ty => by
    have h := Lib.run_append_grow_zeros w 24 3 ty 38 i0 z .i64 .i64 Tryz.underlying24 Tryz.underlying3 hi0 hz none 0 0 [] hold n (by omega) (by omega) (by omega) (by omega)
      (by rw [hb64]; omega) (by rw [Nat.zero_add]; exact growslice_fits h0 (by rw [hb64]; omega))
    rw [Nat.zero_add] at h
    exact h
  have hGn : n ≤ grownCap w n 0 38 := grownCap_ge w _ _ _
  have hGm : grownCap w n 0 38 ≤ maxLen := grownCap_le_maxLen w n 0 38 (by unfold maxLen; omega)
  obtain ⟨G, hG⟩ : ∃ G, G = grownCap w n 0 38 := ⟨_, rfl⟩
  rw [← hG] at hrz hGn hGm
  have hG63 : G ≤ 9223372036854775807 := by unfold maxLen at hGm; omega
  have hzs : ∀ k, (Builtin.zeroCells z.cells k).size = k * 6 := fun k => by simp [Builtin.zeroCells, hzc]
  have hsz : (#[] ++ Builtin.zeroCells z.cells n ++ Builtin.zeroCells z.cells (G - n)).size = G * 6 := by rw [Array.size_append, Array.size_append, hzs, hzs]; simp; omega
  generalize (#[] ++ Builtin.zeroCells z.cells n ++ Builtin.zeroCells z.cells (G - n)) = cur at hrz hsz
  clear hold hG hi0
  go_enter Tryz.func131, Tryz.ntmps131
  go_wp2_with (at_builtin; refine Lib.wpList_append_run _ rfl _ _ _ _ rfl _ _ rfl rfl _ _ (hrz _) ?_)
  all_goals (go_ret; exact ⟨G, rfl, hGm, _, hsz, rfl⟩)
theorem grow_c {w wv : World} {M0 M : Mem} {Hs : List HO} (n : Int) (hS : St w M0 wv M Hs) (h0 : 0 ≤ n) (hb : n ≤ 1099511627776) :
    Calls Tryz.prog 131 [.slice none 0 0, i64 n].toArray wv fun e w' => ∃ u, e = .returned u ∧ St w M0 w' M (.own 38 6 u 0 [] :: Hs) := by
  by_cases hn : n = 0
  · subst hn
    exact (grow_none wv).mono fun e w' ⟨he, hw⟩ => ⟨_, he, hw ▸ hS.ownNil _ _⟩
  · have hg := grow_some n.toNat wv (by omega) (by omega)
    rw [show ((n.toNat : Nat) : Int) = n from by omega] at hg
    refine hg.mono fun e w' ⟨cap, cur, he, hc, hs, hw⟩ => ⟨_, he, ?_⟩
    subst hw
    exact (hS.ext (Ext.drew wv)).newSpare _ 6 cap cur hs hc
end Go.Proofs.YtjfaikgooldcbaaGreatDoor
