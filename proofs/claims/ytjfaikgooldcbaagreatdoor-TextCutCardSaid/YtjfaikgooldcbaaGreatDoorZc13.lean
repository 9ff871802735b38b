/-
  THE ENGINE, PART 17: slices of slices: an element is a slice's header; a fact beside tells what each of them holds. Over any program.
  THE ENGINE, PART 14: maps whose keys are strings: as those of integers (EngG), text for text. Over any program.
-/
import Derived.Test.YtjfaikgooldcbaaGreatDoorZc5
import Derived.Laws.BitsLemmas
import Derived.Test.YtjfaikgooldcbaaGreatDoorZc3
import Derived.Test.YtjfaikgooldcbaaGreatDoorProg
import Derived.Test.YtjfaikgooldcbaaGreatDoorZc6
import Derived.Test.YtjfaikgooldcbaaGreatDoorZc8
import Derived.Test.YtjfaikgooldcbaaGreatDoorZc12
import Derived.Test.YtjfaikgooldcbaaGreatDoorZc11
set_option linter.unusedVariables false
set_option linter.unusedSimpArgs false
set_option maxRecDepth 100000
namespace Go.Proofs.YtjfaikgooldcbaaGreatDoor
open Go.Eng

/- (*loupe/text.parser).fail -/
theorem fail_c (ec p : Int) (pv : Value) (w : World)  :
  Calls Tryz.prog 28 [pv, (i64 ec), (i64 p)].toArray w fun e w' => e = .panicked [wrongE 51 ec p] ∧ w' = w := by
 refine CW.enter1 Tryz.func28 rfl Tryz.ntmps28 (Nat.le_of_ble_eq_true rfl) fun Q hE => ?_
 refine CW.weaken [0, 1, 2] (L' := [Y 0 pv, Y 1 (i64 ec), Y 2 (i64 p)]) ?_ rfl
 refine CW.region (RL.m rfl rfl (RL.m rfl rfl (RL.u (.build (vs := [(0, (i64 ec)), (1, (i64 p))]) (v := (.agg #[(i64 ec), (i64 p)])) (.cons (.t rfl) (.cons (.t rfl) .nil)) (fun w => by kernel_rfl)) rfl (RL.u (.iface (.t rfl) Tryz.underlying51 rfl) rfl ?_))))
 refine RL.panic (.t rfl) (hE.p ?_)
 exact ⟨rfl, rfl⟩

/- (*loupe/text.parser).blank -/
theorem blankP_c {w wv : World} {M0 M : Mem} {Rs : List HO} (s : Str) (i : Int) (pb : Nat) (hS : St w M0 wv M (.box pb [(str s), (i64 i)] 55 :: Rs)) (h0 : 0 ≤ i) (h1 : i ≤ len s) (hb : len s ≤ 1099511627776) :
  Calls Tryz.prog 26 [(.pointer (some ⟨pb, 0, none⟩))].toArray wv fun e w' => ∃ u, e = .returned u ∧ (i ≤ blankTo s i ∧ blankTo s i ≤ len s) ∧ St w M0 w' M (.box pb [str s, i64 (blankTo s i)] 55 :: Rs) := by
 refine CW.enter1 Tryz.func26 rfl Tryz.ntmps26 (Nat.le_of_ble_eq_true rfl) fun Q hE => ?_
 have hbt := blankTo_bd s i h0 h1
 have hbl := blank_len s i h0 h1
 have hdl := dropB_len (from' s i)
 have hfl := from_len s i h0 h1
 refine CW.weaken [0] (L' := [Y 0 (.pointer (some ⟨pb, 0, none⟩))]) ?_ rfl
 refine CW.seq ?_
 refine CW.regionD hS tryz_mixed (by decide +kernel) ?_
 refine RQ.v .none (.move (.t rfl)) rfl ?_
 refine RQ.v .none (.nilP (.t rfl)) rfl ?_
 refine RQ.v .none (.fldA (q := ⟨pb, 0, none⟩) (.t rfl) (fun w => by kernel_rfl)) rfl ?_
 refine RQ.v .none (.loadB1 (v := (str s)) hS (fun _ h => h) (i := 0) rfl (.t rfl) Tryz.isAgg9 rfl) rfl ?_
 refine RQ.v .none (.move (.t rfl)) rfl ?_
 refine RQ.v .none (.nilP (.t rfl)) rfl ?_
 refine RQ.v .none (.fldA (q := ⟨pb, 1, none⟩) (.t rfl) (fun w => by kernel_rfl)) rfl ?_
 refine RQ.v .none (.loadB1 (v := (i64 i)) hS (fun _ h => h) (i := 0) rfl (.t rfl) Tryz.isAgg3 rfl) rfl ?_
 refine RQ.v .none (.slSl (.t rfl) (.t rfl) Tryz.underlying9 (fun _ => by omega)) rfl ?_
 refine RQ.call .none Tryz.call40 (.cons (.t rfl) (.cons .c .nil)) (fun _ => (fun w2 hw2 => ((trimLeft_c (Eng.from' s i) [32, 9, 10, 13] _ (by decide) (cut_low (by decide)))).mono (fun e w3 h3 => ⟨h3.1, Ext.trans hw2 h3.2⟩))) rfl ?_
 refine RQ.v .none (.assign (.t rfl)) rfl ?_
 refine RQ.nil (fun a hs w1 hS2 => CW.at [Y 0 (.pointer (some ⟨pb, 0, none⟩)), Y 2 (str (dropB (Eng.from' s i)))] rfl ?_ a hs)
 refine CW.region (RL.m rfl rfl (RL.m rfl rfl (RL.u (.nilP (.t rfl)) rfl (RL.u (.fldA (q := ⟨pb, 0, none⟩) (.t rfl) (fun w => by kernel_rfl)) rfl (RL.u (.loadB1 (v := (str s)) hS2 extEq (i := 0) rfl (.t rfl) Tryz.isAgg9 rfl) rfl (RL.u (.lenS (.t rfl) Tryz.underlying9) rfl (RL.m rfl rfl (RL.u (.lenS (.t rfl) Tryz.underlying9) rfl (RL.u (.sub (.t rfl) (.t rfl) (fun _ => by omega)) rfl (RL.u (.nilP (.t rfl)) rfl (RL.u (.fldA (q := ⟨pb, 1, none⟩) (.t rfl) (fun w => by kernel_rfl)) rfl ?_)))))))))))
 refine RL.st hS2 (i := 0) rfl (.t rfl) (.t rfl) Tryz.sizeOf3 rfl rfl rfl rfl rfl (fun w3 hS4 => ?_)
 refine RL.nil (hE.e0 rfl ?_)
 exact ⟨_, rfl, hbt, by rw [← hbl]; exact hS4⟩

/- (*loupe/text.parser).is -/
theorem isP_c {w wv : World} {M0 M : Mem} {Rs : List HO} (s t : Str) (i : Int) (pb : Nat) (hS : St w M0 wv M (.box pb [(str s), (i64 i)] 55 :: Rs)) (h0 : 0 ≤ i) (h1 : i ≤ len s) (hb : len s ≤ 1099511627776) :
  Calls Tryz.prog 41 [(.pointer (some ⟨pb, 0, none⟩)), (str t)].toArray wv fun e w' => ∃ u, e = .returned u ∧ ∃ q c, c = hasW s i t ∧ i ≤ q ∧ q ≤ len s ∧ (c = true → q = i + len t) ∧ (c = false → q = i) ∧ u = .bool c ∧ St w M0 w' M (.box pb [str s, i64 q] 55 :: Rs) := by
 refine CW.enter1 Tryz.func41 rfl Tryz.ntmps41 (Nat.le_of_ble_eq_true rfl) fun Q hE => ?_
 have hhl := hasW_le (t := t) h0 h1
 have htl := len_nonneg t
 refine CW.weaken [0, 1] (L' := [Y 0 (.pointer (some ⟨pb, 0, none⟩)), Y 1 (str t)]) ?_ rfl
 refine CW.sr (RL.u (.assign .c) rfl (RL.nil (CW.id (CW.seq ?_))))
 refine CW.regionD hS tryz_mixed (by decide +kernel) ?_
 refine RQ.v .none (.move (.t rfl)) rfl ?_
 refine RQ.v .none (.nilP (.t rfl)) rfl ?_
 refine RQ.v .none (.fldA (q := ⟨pb, 0, none⟩) (.t rfl) (fun w => by kernel_rfl)) rfl ?_
 refine RQ.v .none (.loadB1 (v := (str s)) hS (fun _ h => h) (i := 0) rfl (.t rfl) Tryz.isAgg9 rfl) rfl ?_
 refine RQ.v .none (.move (.t rfl)) rfl ?_
 refine RQ.v .none (.nilP (.t rfl)) rfl ?_
 refine RQ.v .none (.fldA (q := ⟨pb, 1, none⟩) (.t rfl) (fun w => by kernel_rfl)) rfl ?_
 refine RQ.v .none (.loadB1 (v := (i64 i)) hS (fun _ h => h) (i := 0) rfl (.t rfl) Tryz.isAgg3 rfl) rfl ?_
 refine RQ.v .none (.slSl (.t rfl) (.t rfl) Tryz.underlying9 (fun _ => by omega)) rfl ?_
 refine RQ.v .none (.move (.t rfl)) rfl ?_
 refine RQ.call .none Tryz.call68 (.cons (.t rfl) (.cons (.t rfl) .nil)) (fun _ => (fun w2 hw2 => ((hasPrefix_c (Eng.from' s i) t _)).mono (fun e w3 h3 => ⟨h3.1, h3.2 ▸ hw2⟩))) rfl ?_
 refine RQ.v .none (.assign (.t rfl)) rfl ?_
 refine RQ.nil (fun a hs w1 hS2 => CW.at [Y 0 (.pointer (some ⟨pb, 0, none⟩)), Y 1 (str t), Y 5 (.bool (Lib.hasPrefix (Eng.from' s i) t))] rfl ?_ a hs)
 refine CW.seq (CW.sr (RL.m rfl rfl (RL.nil (CW.id ?_))))
 refine CW.cond rfl ?_ ?_ <;> intro hb1 <;> try simp only [zb] at hb1
 ·have hh2 := hhl hb1
  refine CW.region (RL.m rfl rfl (RL.u (.nilP (.t rfl)) rfl (RL.u (.fldA (q := ⟨pb, 1, none⟩) (.t rfl) (fun w => by kernel_rfl)) rfl (RL.u (.loadB1 (v := (i64 i)) hS2 extEq (i := 0) rfl (.t rfl) Tryz.isAgg3 rfl) rfl (RL.m rfl rfl (RL.u (.lenS (.t rfl) Tryz.underlying9) rfl (RL.u (.add (.t rfl) (.t rfl) (fun _ => by omega)) rfl (RL.u (.nilP (.t rfl)) rfl (RL.u (.fldA (q := ⟨pb, 1, none⟩) (.t rfl) (fun w => by kernel_rfl)) rfl ?_)))))))))
  refine RL.st hS2 (i := 0) rfl (.t rfl) (.t rfl) Tryz.sizeOf3 rfl rfl rfl rfl rfl (fun w3 hS4 => (RL.nil (CW.id ?_)))
  refine CW.sr (RL.m rfl rfl (RL.a rfl rfl (RL.nil (CW.id (CW.ret (hE.r1 rfl rfl ?_))))))
  exact ⟨_, rfl, _, _, rfl, by omega, by omega, fun _ => rfl, fun h => (by have hz := h.symm.trans (show hasW s i t = _ from hb1); cases hz), rfl, hS4⟩
 ·refine CW.skip (CW.id (CW.sr (RL.m rfl rfl (RL.a rfl rfl (RL.nil (CW.id ?_))))))
  refine CW.ret (hE.r1 rfl rfl ?_)
  exact ⟨_, rfl, _, _, rfl, by omega, by omega, fun h => (by have hz := h.symm.trans (show hasW s i t = _ from hb1); cases hz), fun _ => rfl, rfl, hS2⟩

/- (*loupe/text.parser).text -/
theorem text_c {w wv : World} {M0 M : Mem} {Rs : List HO} (s : Str) (i : Int) (pb : Nat) (hS : St w M0 wv M (.box pb [(str s), (i64 i)] 55 :: Rs)) (h0 : 0 ≤ i) (h1 : i ≤ len s) (hb : len s ≤ 1099511627776) (hg : Gl w) :
  Calls Tryz.prog 42 [(.pointer (some ⟨pb, 0, none⟩))].toArray wv fun e w' => PPost w M0 M Rs 51 (fun x j v M' w' => v = str x ∧ i + 2 ≤ j ∧ j ≤ len s ∧ St w M0 w' M' (.box pb [str s, i64 j] 55 :: Rs)) (textT s i) e w' := by
 refine CW.enter1 Tryz.func42 rfl Tryz.ntmps42 (Nat.le_of_ble_eq_true rfl) fun Q hE => ?_
 have hub := unqP_bd (from' s i)
 have hfl := from_len s i h0 h1
 refine CW.weaken [0] (L' := [Y 0 (.pointer (some ⟨pb, 0, none⟩))]) ?_ rfl
 refine CW.sr (RL.u (.assign .c) rfl (RL.nil (CW.id (CW.seq ?_))))
 refine CW.regionD hS tryz_mixed (by decide +kernel) ?_
 refine RQ.v .none (.move (.t rfl)) rfl ?_
 refine RQ.v .none (.nilP (.t rfl)) rfl ?_
 refine RQ.v .none (.fldA (q := ⟨pb, 0, none⟩) (.t rfl) (fun w => by kernel_rfl)) rfl ?_
 refine RQ.v .none (.loadB1 (v := (str s)) hS (fun _ h => h) (i := 0) rfl (.t rfl) Tryz.isAgg9 rfl) rfl ?_
 refine RQ.v .none (.move (.t rfl)) rfl ?_
 refine RQ.v .none (.nilP (.t rfl)) rfl ?_
 refine RQ.v .none (.fldA (q := ⟨pb, 1, none⟩) (.t rfl) (fun w => by kernel_rfl)) rfl ?_
 refine RQ.v .none (.loadB1 (v := (i64 i)) hS (fun _ h => h) (i := 0) rfl (.t rfl) Tryz.isAgg3 rfl) rfl ?_
 refine RQ.v .none (.slSl (.t rfl) (.t rfl) Tryz.underlying9 (fun _ => by omega)) rfl ?_
 refine RQ.call .none Tryz.call69 (.cons (.t rfl) .nil) (fun _ => (fun w2 hw2 => ((unquote_c (Eng.from' s i) _ (hg.low (hS.ext hw2).low) (by omega))).mono (fun e w3 h3 => ⟨h3.1, Ext.trans hw2 h3.2⟩))) rfl ?_
 refine RQ.v .none (.move (.t rfl)) rfl ?_
 refine RQ.v .none (.ex (.t rfl) rfl) rfl ?_
 refine RQ.v .none (.ex (.t rfl) rfl) rfl ?_
 refine RQ.v .none (.ex (.t rfl) rfl) rfl ?_
 refine RQ.v .none (.assign (.t rfl)) rfl ?_
 refine RQ.v .none (.assign (.t rfl)) rfl ?_
 refine RQ.v .none (.assign (.t rfl)) rfl ?_
 refine RQ.nil (fun a hs w1 hS2 => CW.at [Y 0 (.pointer (some ⟨pb, 0, none⟩)), Y 3 (str ((unqP (Eng.from' s i)).1)), Y 4 (i64 ((unqP (Eng.from' s i)).2.1)), Y 5 (i64 ((unqP (Eng.from' s i)).2.2))] rfl ?_ a hs)
 refine CW.seq (CW.sr (RL.m rfl rfl (RL.u (.neq (.t rfl) .c) rfl (RL.nil (CW.id ?_)))))
 refine CW.cond rfl ?_ ?_ <;> intro hb1 <;> try simp only [zb] at hb1
 ·refine CW.region (RL.m rfl rfl (RL.m rfl rfl (RL.m rfl rfl (RL.u (.nilP (.t rfl)) rfl (RL.u (.fldA (q := ⟨pb, 1, none⟩) (.t rfl) (fun w => by kernel_rfl)) rfl (RL.u (.loadB1 (v := (i64 i)) hS2 extEq (i := 0) rfl (.t rfl) Tryz.isAgg3 rfl) rfl (RL.m rfl rfl (RL.u (.add (.t rfl) (.t rfl) (fun _ => by omega)) rfl ?_))))))))
  refine RL.callF Tryz.call28 (.cons (.t rfl) (.cons (.t rfl) (.cons (.t rfl) .nil))) (fail_c ((unqP (Eng.from' s i)).2.2) (i + ((unqP (Eng.from' s i)).2.1)) (.pointer (some ⟨pb, 0, none⟩)) _) ?_
  replace hS2 := hS2.drop Rs (List.sublist_append_right [_] _)
  exact hE.p (PPost.er (textT_er hb1) hS2 (Mem.le.refl _))
 ·refine CW.skip (CW.at [Y 0 (.pointer (some ⟨pb, 0, none⟩)), Y 3 (str ((unqP (Eng.from' s i)).1)), Y 4 (i64 ((unqP (Eng.from' s i)).2.1))] rfl (CW.sr (RL.m rfl rfl (RL.u (.nilP (.t rfl)) rfl (RL.u (.fldA (q := ⟨pb, 1, none⟩) (.t rfl) (fun w => by kernel_rfl)) rfl (RL.u (.loadB1 (v := (i64 i)) hS2 extEq (i := 0) rfl (.t rfl) Tryz.isAgg3 rfl) rfl (RL.m rfl rfl (RL.u (.add (.t rfl) (.t rfl) (fun _ => by omega)) rfl (RL.u (.nilP (.t rfl)) rfl (RL.u (.fldA (q := ⟨pb, 1, none⟩) (.t rfl) (fun w => by kernel_rfl)) rfl ?_))))))))))
  refine RL.st hS2 (i := 0) rfl (.t rfl) (.t rfl) Tryz.sizeOf3 rfl rfl rfl rfl rfl (fun w3 hS4 => (RL.nil (CW.id ?_)))
  refine CW.sr (RL.m rfl rfl (RL.a rfl rfl (RL.nil (CW.id (CW.ret (hE.r1 rfl rfl ?_))))))
  exact PPost.ok (textT_ok (by omega)) ⟨rfl, by omega, by omega, hS4⟩ (Mem.le.refl _)

/- (*loupe/text.parser).number -/
theorem numberP_c {w wv : World} {M0 M : Mem} {Rs : List HO} (s : Str) (i : Int) (pb : Nat) (hS : St w M0 wv M (.box pb [(str s), (i64 i)] 55 :: Rs)) (h0 : 0 ≤ i) (h1 : i ≤ len s) (hb : len s ≤ 1099511627776) (hg : Gl w) :
  Calls Tryz.prog 44 [(.pointer (some ⟨pb, 0, none⟩))].toArray wv fun e w' => PPost w M0 M Rs 51 (fun x j v M' w' => Sl M' 6 x.length v (x.flatMap Nd.cells) ∧ i ≤ j ∧ j ≤ len s ∧ St w M0 w' M' (.box pb [str s, i64 j] 55 :: Rs)) (numT s i) e w' := by
 refine CW.enter1 Tryz.func44 rfl Tryz.ntmps44 (Nat.le_of_ble_eq_true rfl) fun Q hE => ?_
 have hub := read1_bd (Eng.runN (from' s i))
 have hrl := runN_le (from' s i)
 have hok := numT_ok (s := s) (i := i)
 have her := numT_er (s := s) (i := i)
 rw [show Eng.runN (from' s i) = Eng.sub (from' s i) 0 (len (from' s i) - len (dropN (from' s i))) from rfl] at hub hrl hok her
 have hfl := from_len s i h0 h1
 have hdl := dropN_len (from' s i)
 have hdw : len ((from' s i).dropWhile (fun x => ([48, 49, 50, 51, 52, 53, 54, 55, 56, 57, 43, 45, 46, 101, 69] : Str).contains x)) = len (dropN (from' s i)) := rfl
 refine CW.weaken [0] (L' := [Y 0 (.pointer (some ⟨pb, 0, none⟩))]) ?_ rfl
 refine CW.sr ?_
 have hS1 := hS.ownNil 38 6
 refine RL.u (.assign .c) rfl (RL.nil (CW.id ?_))
 refine CW.seq ?_
 refine CW.regionD hS1 tryz_mixed (by decide +kernel) ?_
 refine RQ.v .none (.move (.t rfl)) rfl ?_
 refine RQ.v .none (.nilP (.t rfl)) rfl ?_
 refine RQ.v .none (.fldA (q := ⟨pb, 0, none⟩) (.t rfl) (fun w => by kernel_rfl)) rfl ?_
 refine RQ.v .none (.loadB1 (v := (str s)) hS1 (fun _ h => h) (i := 1) rfl (.t rfl) Tryz.isAgg9 rfl) rfl ?_
 refine RQ.v .none (.move (.t rfl)) rfl ?_
 refine RQ.v .none (.nilP (.t rfl)) rfl ?_
 refine RQ.v .none (.fldA (q := ⟨pb, 1, none⟩) (.t rfl) (fun w => by kernel_rfl)) rfl ?_
 refine RQ.v .none (.loadB1 (v := (i64 i)) hS1 (fun _ h => h) (i := 1) rfl (.t rfl) Tryz.isAgg3 rfl) rfl ?_
 refine RQ.v .none (.slSl (.t rfl) (.t rfl) Tryz.underlying9 (fun _ => by omega)) rfl ?_
 refine RQ.v .none (.assign (.t rfl)) rfl ?_
 refine RQ.nil (fun a hs w2 hS3 => CW.at [Y 0 (.pointer (some ⟨pb, 0, none⟩)), Y 3 (str (Eng.from' s i))] rfl ?_ a hs)
 refine CW.sr (RL.m rfl rfl (RL.m rfl rfl (RL.u (.lenS (.t rfl) Tryz.underlying9) rfl (RL.m rfl rfl ?_))))
 refine RL.callE hS3 .none Tryz.call40 (.cons (.t rfl) (.cons .c .nil)) (fun _ => (trimLeft_c (Eng.from' s i) [48, 49, 50, 51, 52, 53, 54, 55, 56, 57, 43, 45, 46, 101, 69] _ (by decide) (cut_low (by decide)))) rfl (fun w4 hS5 => ?_)
 refine RL.u (.lenS (.t rfl) Tryz.underlying9) rfl (RL.u (.sub (.t rfl) (.t rfl) (fun _ => by omega)) rfl (RL.u (.slSh (.t rfl) (.t rfl) Tryz.underlying9 (fun _ => by omega)) rfl (RL.a rfl rfl ?_)))
 refine RL.nil (CW.at [Y 0 (.pointer (some ⟨pb, 0, none⟩)), Y 4 (str (Eng.sub (Eng.from' s i) 0 ((len (Eng.from' s i)) - (len (dropN (Eng.from' s i))))))] rfl (CW.sr (RL.m rfl rfl ?_)))
 refine RL.callE hS5 .none Tryz.call71 (.cons (.t rfl) .nil) (fun _ => (read_c (Eng.sub (Eng.from' s i) 0 ((len (Eng.from' s i)) - (len (dropN (Eng.from' s i))))) _ (hg.low hS5.low) (by omega))) rfl (fun w6 hS7 => ?_)
 refine RL.m rfl rfl (RL.u (.ex (.t rfl) rfl) rfl (RL.u (.ex (.t rfl) rfl) rfl (RL.u (.ex (.t rfl) rfl) rfl ?_)))
 refine RL.alloc hS7 Tryz.zeroValue38 rfl (fun w8 b9 hS10 => ?_)
 refine RL.st hS10 (i := 0) rfl (.t rfl) (.t rfl) Tryz.sizeOf38 rfl rfl rfl rfl rfl (fun w11 hS12 => ?_)
 refine RL.a rfl rfl (RL.a rfl rfl ?_)
 refine RL.nil (CW.at [Y 0 (.pointer (some ⟨pb, 0, none⟩)), Y 4 (str (Eng.sub (Eng.from' s i) 0 ((len (Eng.from' s i)) - (len (dropN (Eng.from' s i)))))), Y 5 (.pointer (some ⟨b9, 0, none⟩)), Y 6 (i64 ((read1 (Eng.sub (Eng.from' s i) 0 ((len (Eng.from' s i)) - (len (dropN (Eng.from' s i)))))).2.1)), Y 7 (i64 ((read1 (Eng.sub (Eng.from' s i) 0 ((len (Eng.from' s i)) - (len (dropN (Eng.from' s i)))))).2.2))] rfl (CW.seq (CW.sr (RL.m rfl rfl (RL.u (.neq (.t rfl) .c) rfl (RL.nil (CW.id ?_)))))))
 refine CW.cond rfl ?_ ?_ <;> intro hb1 <;> try simp only [zb] at hb1
 ·refine CW.region (RL.m rfl rfl (RL.m rfl rfl (RL.m rfl rfl (RL.u (.nilP (.t rfl)) rfl (RL.u (.fldA (q := ⟨pb, 1, none⟩) (.t rfl) (fun w => by kernel_rfl)) rfl (RL.u (.loadB1 (v := (i64 i)) hS12 extEq (i := 2) rfl (.t rfl) Tryz.isAgg3 rfl) rfl (RL.m rfl rfl (RL.u (.add (.t rfl) (.t rfl) (fun _ => by omega)) rfl ?_))))))))
  refine RL.callF Tryz.call28 (.cons (.t rfl) (.cons (.t rfl) (.cons (.t rfl) .nil))) (fail_c ((read1 (Eng.sub (Eng.from' s i) 0 ((len (Eng.from' s i)) - (len (dropN (Eng.from' s i)))))).2.2) (i + ((read1 (Eng.sub (Eng.from' s i) 0 ((len (Eng.from' s i)) - (len (dropN (Eng.from' s i)))))).2.1)) (.pointer (some ⟨pb, 0, none⟩)) _) ?_
  replace hS12 := hS12.drop Rs (List.sublist_append_right [_, _, _] _)
  exact hE.p (PPost.er (her hb1) hS12 (Mem.le.refl _))
 ·refine CW.skip (CW.at [Y 0 (.pointer (some ⟨pb, 0, none⟩)), Y 4 (str (Eng.sub (Eng.from' s i) 0 ((len (Eng.from' s i)) - (len (dropN (Eng.from' s i)))))), Y 5 (.pointer (some ⟨b9, 0, none⟩))] rfl (CW.sr (RL.m rfl rfl (RL.u (.nilP (.t rfl)) rfl (RL.u (.fldA (q := ⟨pb, 1, none⟩) (.t rfl) (fun w => by kernel_rfl)) rfl (RL.u (.loadB1 (v := (i64 i)) hS12 extEq (i := 2) rfl (.t rfl) Tryz.isAgg3 rfl) rfl (RL.m rfl rfl (RL.u (.lenS (.t rfl) Tryz.underlying9) rfl (RL.u (.add (.t rfl) (.t rfl) (fun _ => by omega)) rfl (RL.u (.nilP (.t rfl)) rfl (RL.u (.fldA (q := ⟨pb, 1, none⟩) (.t rfl) (fun w => by kernel_rfl)) rfl ?_)))))))))))
  refine RL.st hS12 (i := 2) rfl (.t rfl) (.t rfl) Tryz.sizeOf3 rfl rfl rfl rfl rfl (fun w13 hS14 => (RL.nil (CW.id ?_)))
  refine CW.sr (RL.u (.loadBN (vs := (ndC ((read1 (Eng.sub (Eng.from' s i) 0 ((len (Eng.from' s i)) - (len (dropN (Eng.from' s i)))))).1) [])) hS14 extEq (i := 0) rfl (.t rfl) Tryz.isAgg38 Tryz.sizeOf38 rfl rfl) rfl ?_)
  refine RL.buildSlice (n := 1) (sz := 6) (e := 38) (vs := [(0, (ndV ((read1 (Eng.sub (Eng.from' s i) 0 ((len (Eng.from' s i)) - (len (dropN (Eng.from' s i)))))).1)))]) (cs := [(i64 ((read1 (Eng.sub (Eng.from' s i) 0 ((len (Eng.from' s i)) - (len (dropN (Eng.from' s i)))))).1.kind)), (i64 ((read1 (Eng.sub (Eng.from' s i) 0 ((len (Eng.from' s i)) - (len (dropN (Eng.from' s i)))))).1.many)), (str ((read1 (Eng.sub (Eng.from' s i) 0 ((len (Eng.from' s i)) - (len (dropN (Eng.from' s i)))))).1.name)), (str ((read1 (Eng.sub (Eng.from' s i) 0 ((len (Eng.from' s i)) - (len (dropN (Eng.from' s i)))))).1.s)), (.bool ((read1 (Eng.sub (Eng.from' s i) 0 ((len (Eng.from' s i)) - (len (dropN (Eng.from' s i)))))).1.neg)), (i64 ((read1 (Eng.sub (Eng.from' s i) 0 ((len (Eng.from' s i)) - (len (dropN (Eng.from' s i)))))).1.e))]) hS14 (.cons (.t rfl) .nil) rfl rfl (fun w => by kernel_rfl) rfl (fun v15 w16 M17 hS18 hle19 => ?_)
  refine RL.a rfl rfl (RL.nil (CW.id ?_))
  refine CW.ret (hE.r1 rfl rfl ?_)
  have hslr := (hS18.sl (i := 0) rfl)
  replace hS18 := (hS18.erase 2 rfl).erase 1 rfl
  replace hS18 := hS18.erase 0 rfl
  exact PPost.ok (hok (by omega)) ⟨hslr, by omega, by omega, hS18⟩ hle19

end Go.Proofs.YtjfaikgooldcbaaGreatDoor
set_option maxRecDepth 100000
namespace Go.Proofs.YtjfaikgooldcbaaGreatDoor
open Go.Eng

/-- What a part's closure does, given so much fuel: I tells what its own things are. -/
def PartOK {α : Type} (w : World) (M0 : Mem) (Rs : List HO) (s : Str) (pb : Nat) (g : FuncId) (cs : List Value) (I : α → Int → Mem → List HO → Prop) (stp : Nat → α → Int → PR α) (f : Nat) : Prop :=
  ∀ (x : α) (i : Int) (wv : World) (M : Mem) (Hs : List HO), I x i M Hs → 0 ≤ i → i ≤ len s → 2 * (len s - i) + 1 ≤ f → St w M0 wv M (.box pb [str s, i64 (i)] 55 :: (Hs ++ Rs)) →
    Calls Tryz.prog g cs.toArray wv (PPost w M0 M Rs 51 (fun x' j v M' w' => i ≤ j ∧ j ≤ len s ∧ ∃ Hs', I x' j M' Hs' ∧ St w M0 w' M' (.box pb [str s, i64 (j)] 55 :: (Hs' ++ Rs))) (stp f x i))
/- (*loupe/text.parser).parts -/
theorem parts_c {w wv : World} {M0 M : Mem} {Rs : List HO} {α : Type} (s ed : Str) (i : Int) (pb : Nat) (g : FuncId) (cs : List Value) (I : α → Int → Mem → List HO → Prop) (stp go : Nat → α → Int → PR α) (x0 : α) (Fu : Nat) (Hs0 : List HO) (hS : St w M0 wv M (.box pb [(str s), (i64 i)] 55 :: (Hs0 ++ Rs))) (hI : I x0 (i + 1) M Hs0) (hIm : ∀ {x M Hs j j2}, j ≤ j2 → I x j M Hs → I x j2 M Hs) (hct : ∀ args w, (callFunc g args).run Tryz.prog w = .ok (.enter g args) w) (hgo : ∀ f x i, go (f + 1) x i = moreT s ed (stp f x i) (go f)) (hst : ∀ f, f < Fu → PartOK w M0 Rs s pb g cs I stp f) (he : len ed = 1) (hfu : 2 * (len s - i) ≤ Fu) (h0 : 0 ≤ i) (h1 : i < len s) (hb : len s ≤ 1099511627776) :
  Calls Tryz.prog 72 [(.pointer (some ⟨pb, 0, none⟩)), (str ed), (.func (.func g) #[] cs.toArray)].toArray wv fun e w' => PPost w M0 M Rs 51 (fun x j v M' w' => i + 2 ≤ j ∧ j ≤ len s ∧ ∃ Hs', I x j M' Hs' ∧ St w M0 w' M' (.box pb [str s, i64 j] 55 :: (Hs' ++ Rs))) (partsT s i ed x0 (go Fu)) e w' := by
 refine CW.enter1 Tryz.func72 rfl Tryz.ntmps72 (Nat.le_of_ble_eq_true rfl) fun Q hE => ?_
 refine CW.weaken [0, 1, 2] (L' := [Y 0 (.pointer (some ⟨pb, 0, none⟩)), Y 1 (str ed), Y 2 (.func (.func g) #[] cs.toArray)]) ?_ rfl
 refine CW.sr (RL.m rfl rfl (RL.u (.nilP (.t rfl)) rfl (RL.u (.fldA (q := ⟨pb, 1, none⟩) (.t rfl) (fun w => by kernel_rfl)) rfl (RL.u (.loadB1 (v := (i64 i)) hS extEq (i := 0) rfl (.t rfl) Tryz.isAgg3 rfl) rfl (RL.u (.add (.t rfl) .c (fun _ => by omega)) rfl (RL.u (.nilP (.t rfl)) rfl (RL.u (.fldA (q := ⟨pb, 1, none⟩) (.t rfl) (fun w => by kernel_rfl)) rfl ?_)))))))
 refine RL.st hS (i := 0) rfl (.t rfl) (.t rfl) Tryz.sizeOf3 rfl rfl rfl rfl rfl (fun w1 hS2 => (RL.nil (CW.id ?_)))
 refine CW.sr (RL.m rfl rfl ?_)
 replace hS2 := hS2.front 0 rfl rfl
 refine RL.callP Tryz.call26 (.cons (.t rfl) .nil) (blankP_c (Rs := ((Hs0 ++ Rs))) s (i + 1) pb hS2 (by omega) (by omega) hb) rfl ?_
 rintro v4 w5 ⟨⟨ha3a, ha3b⟩, hS7⟩
 refine RL.nil (CW.at [Y 0 (.pointer (some ⟨pb, 0, none⟩)), Y 1 (str ed), Y 2 (.func (.func g) #[] cs.toArray)] rfl (CW.seq (CW.sr (RL.m rfl rfl (RL.m rfl rfl ?_)))))
 replace hS7 := hS7.front 0 rfl rfl
 refine RL.callP Tryz.call41 (.cons (.t rfl) (.cons (.t rfl) .nil)) (isP_c (Rs := ((Hs0 ++ Rs))) s ed (blankTo s (i + 1)) pb hS7 (by omega) (by omega) hb) rfl ?_
 rintro v11 w12 ⟨q9, c10, hc10, hq9a, hq9b, hc10y, hc10n, rfl, hS14⟩
 refine RL.nil (CW.at [Y 0 (.pointer (some ⟨pb, 0, none⟩)), Y 1 (str ed), Y 2 (.func (.func g) #[] cs.toArray), Y 17 (.bool c10)] rfl ?_)
 refine CW.cond rfl ?_ ?_ <;> intro hb1 <;> try simp only [zb] at hb1
 ·refine CW.ret (hE.r0 rfl ?_)
  have hz := hc10y hb1
  exact PPost.ok (by rw [hz, he]; exact partsT_end (hc10.symm.trans hb1)) ⟨by omega, by omega, _, hIm (by omega) hI, hS14⟩ (Mem.le.refl _)
 ·refine CW.skip (CW.id (CW.block ?_))
  refine CW.loop (σ := Nat × α × Int × List HO × Mem) (fun (f1, x, j, Hs, Ml) => [Y 0 (.pointer (some ⟨pb, 0, none⟩)), Y 1 (str ed), Y 2 (.func (.func g) #[] cs.toArray)]) (fun (f1, x, j, Hs, Ml) wl => St w M0 wl Ml (.box pb [(str s), (i64 j)] 55 :: (Hs ++ Rs)) ∧ I x j Ml Hs ∧ 0 ≤ j ∧ j ≤ len s ∧ i + 1 ≤ j ∧ f1 ≤ Fu ∧ 2 * (len s - j) + 2 ≤ f1 ∧ go f1 x j = partsT s i ed x0 (go Fu) ∧ M.le Ml) (fun (f1, x, j, Hs, Ml) => f1) ((Fu, x0, q9, Hs0, M)) [0, 1, 2] rfl ?_ ?_
  ·refine ⟨hS14, ?_⟩; exact ⟨hIm (by omega) hI, by omega, by omega, by omega, by omega, by have := hc10n hb1; omega, by rw [hc10n hb1]; exact (partsT_go (hc10.symm.trans hb1)).symm, (Mem.le.refl _)⟩
  ·rintro ⟨f1, x, j, Hs, Ml⟩ wl ⟨hS16, hI, hj0, hj1, hij, hfF, hff, hF, hle0⟩
   obtain ⟨f, rfl⟩ : ∃ f, f1 = f + 1 := ⟨f1 - 1, by omega⟩
   refine CW.block (CW.sr (RL.m rfl rfl ?_))
   refine RL.callRC (fs := []) (cs := cs) hct (.t rfl) .nil (hst f (by omega) x j _ _ _ hI (by omega) (by omega) (by omega) hS16) rfl (fun ec p M27 w28 hr31 hS29 hle30 => ?_) (fun x18 j19 v20 M22 w21 hr23 hF26 hle25 => ?_)
   ·exact hE.p (PPost.er (by rw [← hF, hgo, hr31]; rfl) hS29 (hle0.trans hle30))
   obtain ⟨hF26a, hF26b, Hs17, hIhF26, hS24⟩ := hF26
   refine RL.nil (CW.at [Y 0 (.pointer (some ⟨pb, 0, none⟩)), Y 1 (str ed), Y 2 (.func (.func g) #[] cs.toArray)] rfl (CW.sr (RL.m rfl rfl ?_)))
   replace hS24 := hS24.front 0 rfl rfl
   refine RL.callP Tryz.call26 (.cons (.t rfl) .nil) (blankP_c (Rs := ((Hs17 ++ Rs))) s j19 pb hS24 (by omega) (by omega) hb) rfl ?_
   rintro v33 w34 ⟨⟨ha32a, ha32b⟩, hS36⟩
   refine RL.nil (CW.at [Y 0 (.pointer (some ⟨pb, 0, none⟩)), Y 1 (str ed), Y 2 (.func (.func g) #[] cs.toArray)] rfl (CW.seq (CW.sr (RL.m rfl rfl (RL.m rfl rfl ?_)))))
   replace hS36 := hS36.front 0 rfl rfl
   refine RL.callP Tryz.call41 (.cons (.t rfl) (.cons (.t rfl) .nil)) (isP_c (Rs := ((Hs17 ++ Rs))) s ed (blankTo s j19) pb hS36 (by omega) (by omega) hb) rfl ?_
   rintro v40 w41 ⟨q38, c39, hc39, hq38a, hq38b, hc39y, hc39n, rfl, hS43⟩
   refine RL.nil (CW.at [Y 0 (.pointer (some ⟨pb, 0, none⟩)), Y 1 (str ed), Y 2 (.func (.func g) #[] cs.toArray), Y 24 (.bool c39)] rfl ?_)
   refine CW.cond rfl ?_ ?_ <;> intro hb2 <;> try simp only [zb] at hb2
   ·refine CW.ret (hE.r0 rfl ?_)
    have hz := hc39y hb2
    exact PPost.ok (by rw [hz, he, ← hF, hgo, hr23]; exact moreT_end (hc39.symm.trans hb2)) ⟨by omega, by omega, _, hIm (by omega) hIhF26, hS43⟩ (hle0.trans hle25)
   ·refine CW.skip (CW.id (CW.seq (CW.sr (RL.m rfl rfl ?_))))
    replace hS43 := hS43.front 0 rfl rfl
    refine RL.callP Tryz.call41 (.cons (.t rfl) (.cons .c .nil)) (isP_c (Rs := ((Hs17 ++ Rs))) s [44] q38 pb hS43 (by omega) (by omega) hb) rfl ?_
    rintro v47 w48 ⟨q45, c46, hc46, hq45a, hq45b, hc46y, hc46n, rfl, hS50⟩
    refine RL.u (.not (.t rfl)) rfl ?_
    refine RL.nil (CW.at [Y 0 (.pointer (some ⟨pb, 0, none⟩)), Y 1 (str ed), Y 2 (.func (.func g) #[] cs.toArray), Y 27 (.bool (!c46))] rfl ?_)
    refine CW.cond rfl ?_ ?_ <;> intro hb3 <;> try simp only [zb] at hb3
    ·refine CW.region (RL.m rfl rfl (RL.m rfl rfl (RL.u (.nilP (.t rfl)) rfl (RL.u (.fldA (q := ⟨pb, 1, none⟩) (.t rfl) (fun w => by kernel_rfl)) rfl (RL.u (.loadB1 (v := (i64 q45)) hS50 extEq (i := 0) rfl (.t rfl) Tryz.isAgg3 rfl) rfl ?_)))))
     refine RL.callF Tryz.call28 (.cons (.t rfl) (.cons .c (.cons (.t rfl) .nil))) (fail_c 1 q45 (.pointer (some ⟨pb, 0, none⟩)) _) ?_
     replace hS50 := hS50.drop (Hs17 ++ Rs) (List.sublist_append_right [_] _)
     replace hS50 := hS50.drop Rs (List.sublist_append_right _ _)
     exact hE.p (PPost.er (by rw [hc46n hb3, hc39n hb2, ← hF, hgo, hr23]; exact moreT_bad (hc39.symm.trans hb2) (by have hz := hc46.symm.trans hb3; rw [hc39n hb2] at hz; exact hz)) hS50 (hle0.trans hle25))
    ·refine CW.skip (CW.at [Y 0 (.pointer (some ⟨pb, 0, none⟩)), Y 1 (str ed), Y 2 (.func (.func g) #[] cs.toArray)] rfl ?_)
     refine CW.region (RL.m rfl rfl ?_)
     replace hS50 := hS50.front 0 rfl rfl
     refine RL.callP Tryz.call26 (.cons (.t rfl) .nil) (blankP_c (Rs := ((Hs17 ++ Rs))) s q45 pb hS50 (by omega) (by omega) hb) rfl ?_
     rintro v53 w54 ⟨⟨ha52a, ha52b⟩, hS56⟩
     refine RL.nil fun a hs => Exists.intro ((f, x18, blankTo s q45, Hs17, M22)) ⟨hs.keep [0, 1, 2], ?_, ?_⟩
     ·refine ⟨hS56, ?_⟩
      have hz1 := hc39n hb2
      have hz2 := hc46y hb3
      rw [show len ([44] : Str) = 1 from rfl] at hz2
      have hz3 := hc46.symm.trans hb3
      rw [hz1] at hz3
      exact ⟨hIm (by omega) hIhF26, by omega, by omega, by omega, by omega, by omega, by rw [← hF, hgo, hr23, hz2, hz1]; exact (moreT_more (hc39.symm.trans hb2) hz3).symm, (hle0.trans hle25)⟩
     ·show f < f + 1; omega

end Go.Proofs.YtjfaikgooldcbaaGreatDoor
namespace Go.Eng
open Go.RowKit

structure SlH where
  a : Option Addr
  n : Nat
  c : Nat
deriving Inhabited
def valI (h : SlH) : List Value := [.slice h.a h.n h.c]
theorem valI_len (h : SlH) : (valI h).length = 1 := rfl
theorem valI_one (h : SlH) : ∀ u ∈ valI h, u.oneCell' = true := by intro u hu; simp [valI] at hu; subst hu; rfl
abbrev SlH.v (h : SlH) : Value := .slice h.a h.n h.c
/-- Each header's slice holds the cells of the list beside. -/
def RowsV {α : Type} (M : Mem) (sz : Nat) (f : α → List Value) : List SlH → List (List α) → Prop
  | [], [] => True
  | h :: hs, x :: xs => Sl M sz x.length h.v (x.flatMap f) ∧ RowsV M sz f hs xs
  | _, _ => False
section
variable {α : Type} {M M' : Mem} {sz : Nat} {f : α → List Value}
theorem RowsV.mono (hm : M.le M') : ∀ {hs : List SlH} {xs : List (List α)}, RowsV M sz f hs xs → RowsV M' sz f hs xs
  | [], [], _ => trivial
  | _ :: _, _ :: _, h => ⟨h.1.mono hm, RowsV.mono hm h.2⟩
  | [], _ :: _, h => h.elim
  | _ :: _, [], h => h.elim
theorem RowsV.snoc {h : SlH} {x : List α} (hx : Sl M sz x.length h.v (x.flatMap f)) : ∀ {hs : List SlH} {xs : List (List α)}, RowsV M sz f hs xs → RowsV M sz f (hs ++ [h]) (xs ++ [x])
  | [], [], _ => ⟨hx, trivial⟩
  | _ :: _, _ :: _, h => ⟨h.1, RowsV.snoc hx h.2⟩
  | [], _ :: _, h => h.elim
  | _ :: _, [], h => h.elim
theorem RowsV.len : ∀ {hs : List SlH} {xs : List (List α)}, RowsV M sz f hs xs → hs.length = xs.length
  | [], [], _ => rfl
  | _ :: _, _ :: _, h => by simp [RowsV.len h.2]
  | [], _ :: _, h => h.elim
  | _ :: _, [], h => h.elim
theorem RowsV.get : ∀ {hs : List SlH} {xs : List (List α)} (k : Nat), RowsV M sz f hs xs → k < hs.length → Sl M sz (xs.getD k []).length (hs.getD k default).v ((xs.getD k []).flatMap f)
  | [], _, _, _, h => absurd h (Nat.not_lt_zero _)
  | _ :: _, [], _, h, _ => h.elim
  | _ :: _, _ :: _, 0, h, _ => h.1
  | _ :: _, _ :: _, k + 1, h, hk => by simpa using RowsV.get k h.2 (by simpa using hk)
end
theorem RowsV.at {α : Type} {M : Mem} {sz : Nat} {f : α → List Value} {hs : List SlH} {xs : List (List α)} {k : Int} (h : RowsV M sz f hs xs) (h0 : 0 ≤ k) (h1 : k < Eng.len hs) : Sl M sz (at' xs k).length (at' hs k).v ((at' xs k).flatMap f) :=
  by
  have := RowsV.get k.toNat h (by unfold Eng.len at h1; omega)
  exact this
/-- A slice's value is a header. -/
theorem Sl.shape {M : Mem} {sz n : Nat} {v : Value} {cs : List Value} (h : Sl M sz n v cs) : ∃ a c, v = .slice a n c := by
  obtain ⟨p, cap, hv, _⟩ := h.val; exact ⟨p, cap, hv⟩
end Go.Eng
set_option maxRecDepth 100000
namespace Go.Proofs.YtjfaikgooldcbaaGreatDoor
open Go.Eng

/-- What value does, given so much fuel. -/
def ValOK (w : World) (M0 : Mem) (s : Str) (pb : Nat) (f : Nat) : Prop := ∀ {Rs : List HO} {wv : World} {M : Mem} (i d : Int), St w M0 wv M (.box pb [str s, i64 (i)] 55 :: Rs) → 0 ≤ i → i ≤ len s → 0 ≤ d → d ≤ 1000 → 2 * (len s - i) + 1 ≤ f →
    Calls Tryz.prog 27 [.pointer (some ⟨pb, 0, none⟩), i64 d].toArray wv (PPost w M0 M Rs 51 (fun x j v M' w' => ∃ a c, v = .slice a x.length c ∧ i + 1 ≤ j ∧ j ≤ len s ∧ len x ≤ j - i ∧ Sl M' 6 x.length (.slice a x.length c) (x.flatMap Nd.cells) ∧ St w M0 w' M' (.box pb [str s, i64 (j)] 55 :: Rs)) (valT f s i d))
/- (*loupe/text.parser).list$1 -/
theorem listpart_c {w wv : World} {M0 M : Mem} {Rs : List HO} (s : Str) (i d : Int) (pb bl b2 b3 : Nat) (v : Value) (rs : List SlH) (xs : List Vl) (f : Nat) (i0 : Int) (hS : St w M0 wv M (.box pb [(str s), (i64 i)] 55 :: .box bl [v] 47 :: .own 24 1 v rs.length (rs.flatMap valI) :: .box b2 [(.pointer (some ⟨pb, 0, none⟩))] 53 :: .box b3 [(i64 d)] 3 :: Rs)) (hrow : RowsV M 6 Nd.cells rs xs) (hlx : len xs ≤ i ∧ len xs.flatten + 1 ≤ i - i0) (h0 : 0 ≤ i) (h1 : i ≤ len s) (hb : len s ≤ 1099511627776) (hd : 0 ≤ d ∧ d ≤ 900) (hf : 2 * (len s - i) + 1 ≤ f) (hval : ValOK w M0 s pb f) :
  Calls Tryz.prog 73 [(.pointer (some ⟨bl, 0, none⟩)), (.pointer (some ⟨b2, 0, none⟩)), (.pointer (some ⟨b3, 0, none⟩))].toArray wv fun e w' => PPost w M0 M Rs 51 (fun x j v M' w' => i + 1 ≤ j ∧ j ≤ len s ∧ (len x ≤ j ∧ len x.flatten + 1 ≤ j - i0) ∧ ∃ v2 rs2, RowsV M' 6 Nd.cells rs2 x ∧ St w M0 w' M' (.box pb [str s, i64 j] 55 :: .box bl [v2] 47 :: .own 24 1 v2 rs2.length (rs2.flatMap valI) :: .box b2 [.pointer (some ⟨pb, 0, none⟩)] 53 :: .box b3 [i64 d] 3 :: Rs)) (mapR (fun y => xs ++ [y]) (valT f s i (d + 1))) e w' := by
 refine CW.enter1 Tryz.func73 rfl Tryz.ntmps73 (Nat.le_of_ble_eq_true rfl) fun Q hE => ?_
 have hhl : len rs = len xs := by unfold len; rw [hrow.len]
 refine CW.weaken [0, 1, 2] (L' := [Y 0 (.pointer (some ⟨bl, 0, none⟩)), Y 1 (.pointer (some ⟨b2, 0, none⟩)), Y 2 (.pointer (some ⟨b3, 0, none⟩))]) ?_ rfl
 refine CW.weaken [0, 1, 2] (L' := [Y 0 (.pointer (some ⟨bl, 0, none⟩)), Y 1 (.pointer (some ⟨b2, 0, none⟩)), Y 2 (.pointer (some ⟨b3, 0, none⟩))]) ?_ rfl
 replace hS := (hS.front 4 rfl rfl).front 4 rfl rfl
 replace hS := hS.front 3 rfl rfl
 refine CW.regionG (HsQ := [.box bl [v] 47, .box b2 [(.pointer (some ⟨pb, 0, none⟩))] 53, .box b3 [(i64 d)] 3]) 7 [.is true v, .is true (.pointer (some ⟨pb, 0, none⟩)), .is true (i64 d), .is true (i64 (d + 1)), .any, .any, .any, .any] [(7, ⟨fun vz M X => ∃ x3 j4 a1 c2, valT f s i (d + 1) = .ok x3 j4 ∧ i + 1 ≤ j4 ∧ j4 ≤ len s ∧ len x3 ≤ j4 - i ∧ Sl M 6 x3.length (.slice a1 x3.length c2) (x3.flatMap Nd.cells) ∧ vz = (.slice a1 x3.length c2) ∧ X = (.box pb [(str s), (i64 j4)] 55 :: .own 24 1 v rs.length (rs.flatMap valI) :: Rs), fun hm h => by obtain ⟨x3, j4, a1, c2, hr8, hF11a, hF11b, hF11c, hsl_v5, hvz, e⟩ := h; exact ⟨x3, j4, a1, c2, hr8, hF11a, hF11b, hF11c, hsl_v5.mono hm, hvz, e⟩⟩), (8, ⟨fun vz M X => ∃ x3 j4 a1 c2, valT f s i (d + 1) = .ok x3 j4 ∧ i + 1 ≤ j4 ∧ j4 ≤ len s ∧ len x3 ≤ j4 - i ∧ Sl M 6 x3.length (.slice a1 x3.length c2) (x3.flatMap Nd.cells) ∧ X = (.own 24 1 vz (([(SlH.mk a1 x3.length c2)] : List SlH)).length ((([(SlH.mk a1 x3.length c2)] : List SlH)).flatMap valI) :: .box pb [(str s), (i64 j4)] 55 :: .own 24 1 v rs.length (rs.flatMap valI) :: Rs), fun hm h => by obtain ⟨x3, j4, a1, c2, hr8, hF11a, hF11b, hF11c, hsl_v5, e⟩ := h; exact ⟨x3, j4, a1, c2, hr8, hF11a, hF11b, hF11c, hsl_v5.mono hm, e⟩⟩), (9, ⟨fun vz M X => ∃ x3 j4 a1 c2, valT f s i (d + 1) = .ok x3 j4 ∧ i + 1 ≤ j4 ∧ j4 ≤ len s ∧ len x3 ≤ j4 - i ∧ Sl M 6 x3.length (.slice a1 x3.length c2) (x3.flatMap Nd.cells) ∧ X = (.box pb [(str s), (i64 j4)] 55 :: .own 24 1 vz (rs ++ [(SlH.mk a1 x3.length c2)]).length ((rs ++ [(SlH.mk a1 x3.length c2)]).flatMap valI) :: Rs), fun hm h => by obtain ⟨x3, j4, a1, c2, hr8, hF11a, hF11b, hF11c, hsl_v5, e⟩ := h; exact ⟨x3, j4, a1, c2, hr8, hF11a, hF11b, hF11c, hsl_v5.mono hm, e⟩⟩)] (.box pb [(str s), (i64 i)] 55 :: .own 24 1 v rs.length (rs.flatMap valI) :: Rs) [none, none, none, none, some 0, some 1, some 2] hS tryz_mixed [0, 1, 2] rfl (by decide +kernel) (by decide +kernel) rfl rfl (by decide +kernel) (by decide +kernel) [7, 8, 9] rfl (by decide +kernel) (.cons ?_ (.cons ?_ (.cons ?_ (.cons ?_ (.cons ?_ (.cons ?_ (.cons ?_ (.cons ?_ (.nil)))))))))
 ·intro LL w1 M2 X hle4 hS3 hK hD
  replace hrow := hrow.mono hle4
  refine RL.u (.loadB1 (v := v) hS3 extEq (i := 0) rfl (.t (hK _ _ rfl)) Tryz.isAgg47 rfl) rfl ?_
  exact RL.nil (RA.next fun a hs => ⟨_, _, Mem.le.refl _, hS3, hs, _, _, rfl, rfl, rfl⟩)
 ·intro LL w5 M6 X hle8 hS7 hK hD
  replace hrow := hrow.mono hle8
  refine RL.u (.loadB1 (v := (.pointer (some ⟨pb, 0, none⟩))) hS7 extEq (i := 1) rfl (.t (hK _ _ rfl)) Tryz.isAgg53 rfl) rfl ?_
  exact RL.nil (RA.next fun a hs => ⟨_, _, Mem.le.refl _, hS7, hs, _, _, rfl, rfl, rfl⟩)
 ·intro LL w9 M10 X hle12 hS11 hK hD
  replace hrow := hrow.mono hle12
  refine RL.u (.loadB1 (v := (i64 d)) hS11 extEq (i := 2) rfl (.t (hK _ _ rfl)) Tryz.isAgg3 rfl) rfl ?_
  exact RL.nil (RA.next fun a hs => ⟨_, _, Mem.le.refl _, hS11, hs, _, _, rfl, rfl, rfl⟩)
 ·intro LL w13 M14 X hle16 hS15 hK hD
  replace hrow := hrow.mono hle16
  obtain ⟨g5, v5, hl5, rfl, rfl⟩ := hD 2 (by decide +kernel)
  refine RL.u (.add (.t hl5) .c (fun _ => by omega)) rfl ?_
  exact RL.nil (RA.next fun a hs => ⟨_, _, Mem.le.refl _, hS15, hs, _, _, rfl, rfl, rfl⟩)
 ·intro LL w17 M18 X hle20 hS19 hK hD hX
  replace hrow := hrow.mono hle20
  obtain rfl : (.box pb [(str s), (i64 i)] 55 :: .own 24 1 v rs.length (rs.flatMap valI) :: Rs) = X := Eq.symm hX
  obtain ⟨g4, v4, hl4, rfl, rfl⟩ := hD 1 (by decide +kernel)
  obtain ⟨g6, v6, hl6, rfl, rfl⟩ := hD 3 (by decide +kernel)
  replace hS19 := hS19.front 3 rfl rfl
  refine RL.callR Tryz.call27 (.cons (.t hl4) (.cons (.t hl6) .nil)) (hval (Rs := (.box bl [v] 47 :: .box b2 [(.pointer (some ⟨pb, 0, none⟩))] 53 :: .box b3 [(i64 d)] 3 :: .own 24 1 v rs.length (rs.flatMap valI) :: Rs)) i (d + 1) hS19 (by omega) (by omega) (by omega) (by omega) (by omega)) rfl (fun ec p M32 w33 hr36 hS34 hle35 => ?_) (fun x23 j24 v25 M27 w26 hr28 hF31 hle30 => ?_)
  ·replace hS34 := hS34.drop Rs (List.sublist_append_right [_, _, _, _] _)
   exact hE.p (PPost.er (show mapR _ _ = _ from by rw [hr36]; rfl) hS34 (hle20.trans hle35))
  obtain ⟨a21, c22, rfl, hF31a, hF31b, hF31c, hsl_v25, hS29⟩ := hF31
  replace hrow := hrow.mono hle30
  replace hS29 := (hS29.front 3 rfl rfl).front 3 rfl rfl
  replace hS29 := hS29.front 3 rfl rfl
  exact RL.nil (RA.next fun a hs => ⟨_, _, (.box pb [(str s), (i64 j24)] 55 :: .own 24 1 v rs.length (rs.flatMap valI) :: Rs), hle30, hS29, hs, ⟨_, _, rfl, trivial⟩, ⟨_, rfl, x23, j24, a21, c22, hr28, hF31a, hF31b, hF31c, hsl_v25, rfl, rfl⟩⟩)
 ·intro LL w37 M38 X hle40 hS39 hK hD hX
  replace hrow := hrow.mono hle40
  obtain ⟨vx41, hl7, x3, j4, a1, c2, hr8, hF11a, hF11b, hF11c, hsl_v5, rfl, rfl⟩ := hX
  refine RL.buildSlice (n := 1) (sz := 1) (e := 24) (vs := [(0, (.slice a1 x3.length c2))]) (cs := [(.slice a1 x3.length c2)]) hS39 (.cons (.t hl7) .nil) rfl rfl (fun w => by kernel_rfl) rfl (fun v42 w43 M44 hS45 hle46 => ?_)
  replace hrow := hrow.mono hle46
  replace hsl_v5 := hsl_v5.mono hle46
  replace hS45 := (hS45.front 3 rfl rfl).front 3 rfl rfl
  replace hS45 := hS45.front 3 rfl rfl
  exact RL.nil (RA.next fun a hs => ⟨_, _, (.own 24 1 v42 (([(SlH.mk a1 x3.length c2)] : List SlH)).length ((([(SlH.mk a1 x3.length c2)] : List SlH)).flatMap valI) :: .box pb [(str s), (i64 j4)] 55 :: .own 24 1 v rs.length (rs.flatMap valI) :: Rs), hle46, hS45, hs, ⟨_, _, rfl, trivial⟩, ⟨_, rfl, x3, j4, a1, c2, hr8, hF11a, hF11b, hF11c, hsl_v5, rfl⟩⟩)
 ·intro LL w47 M48 X hle50 hS49 hK hD hX
  replace hrow := hrow.mono hle50
  obtain ⟨vx51, hl8, x3, j4, a1, c2, hr8, hF11a, hF11b, hF11c, hsl_v5, rfl⟩ := hX
  obtain ⟨g3, v3, hl3, rfl, hv3⟩ := hD 0 (by decide +kernel)
  subst v3
  refine RL.append1 (f := valI) (l := rs) (y := (SlH.mk a1 x3.length c2)) hS49 (k := 5) rfl (.t hl3) (.t hl8) (hS49.sl (i := 3) rfl) Tryz.underlying47 Tryz.type24 rfl rfl rfl valI_one (by' := 24) rfl rfl (by omega) rfl (Hs' := fun v' => (.box bl [v] 47 :: .box b2 [(.pointer (some ⟨pb, 0, none⟩))] 53 :: .box b3 [(i64 d)] 3 :: .own 24 1 vx51 (([(SlH.mk a1 x3.length c2)] : List SlH)).length ((([(SlH.mk a1 x3.length c2)] : List SlH)).flatMap valI) :: .box pb [(str s), (i64 j4)] 55 :: .own 24 1 v' (rs ++ [(SlH.mk a1 x3.length c2)]).length ((rs ++ [(SlH.mk a1 x3.length c2)]).flatMap valI) :: Rs)) (fun _ => rfl) (fun v52 w53 M54 hS55 hle56 => ?_)
  replace hS55 := hS55.erase 3 rfl
  replace hrow := hrow.mono hle56
  replace hsl_v5 := hsl_v5.mono hle56
  replace hS55 := (hS55.front 2 rfl rfl).front 2 rfl rfl
  replace hS55 := hS55.front 2 rfl rfl
  exact RL.nil (RA.next fun a hs => ⟨_, _, (.box pb [(str s), (i64 j4)] 55 :: .own 24 1 v52 (rs ++ [(SlH.mk a1 x3.length c2)]).length ((rs ++ [(SlH.mk a1 x3.length c2)]).flatMap valI) :: Rs), hle56, hS55, hs, ⟨_, _, rfl, trivial⟩, ⟨_, rfl, x3, j4, a1, c2, hr8, hF11a, hF11b, hF11c, hsl_v5, rfl⟩⟩)
 ·intro LL w57 M58 X hle60 hS59 hK hD hX
  replace hrow := hrow.mono hle60
  obtain ⟨vx61, hl9, x3, j4, a1, c2, hr8, hF11a, hF11b, hF11c, hsl_v5, rfl⟩ := hX
  refine RL.storeS (v := vx61) hS59 (hS59.sl (i := 4) rfl) (i := 0) rfl (.t (hK _ _ rfl)) (.t hl9) Tryz.sizeOf47 rfl (cs' := [vx61]) rfl (Hs' := (.box bl [vx61] 47 :: .box b2 [(.pointer (some ⟨pb, 0, none⟩))] 53 :: .box b3 [(i64 d)] 3 :: .box pb [(str s), (i64 j4)] 55 :: .own 24 1 vx61 (rs ++ [(SlH.mk a1 x3.length c2)]).length ((rs ++ [(SlH.mk a1 x3.length c2)]).flatMap valI) :: Rs)) rfl (fun w62 hS63 => ?_)
  refine RL.nil (slots_sub (E := [Y 0 (.pointer (some ⟨bl, 0, none⟩)), Y 1 (.pointer (some ⟨b2, 0, none⟩)), Y 2 (.pointer (some ⟨b3, 0, none⟩))]) (.cons (hK _ _ rfl) (.cons (hK _ _ rfl) (.cons (hK _ _ rfl) .nil))) ?_)
  replace hS63 := (hS63.front 2 rfl rfl).front 2 rfl rfl
  replace hS63 := (hS63.front 4 rfl rfl).front 3 rfl rfl
  replace hS63 := hS63.front 4 rfl rfl
  refine  (hE.e0 rfl ?_)
  exact PPost.ok (show mapR _ _ = _ from by rw [hr8]; rfl) ⟨by omega, by omega, by rw [List.flatten_append]; simp only [len_app, len_cons, len_nil, List.flatten_cons, List.flatten_nil]; omega, _, _, RowsV.snoc hsl_v5 hrow, hS63⟩ hle60

end Go.Proofs.YtjfaikgooldcbaaGreatDoor
namespace Go.Eng
open Go.RowKit

structure SV where
  key : Str
  val : Value
  born : Nat
def SV.ent (p : SV) : MapEntry := { key := str p.key, val := p.val, born := p.born }
def smobj (l : List SV) (clock : Nat) : Obj := .map ⟨l.map SV.ent⟩ clock
def sget : List SV → Str → Option Value
  | [], _ => none
  | p :: l, x => if x == p.key then some p.val else sget l x
def sput : List SV → Str → Value → Option (List SV)
  | [], _, _ => none
  | p :: l, x, v => if x == p.key then some (⟨x, v, p.born⟩ :: l) else (sput l x v).map (p :: ·)
def sset (l : List SV) (c : Nat) (x : Str) (v : Value) : List SV := match sput l x v with | some l' => l' | none => l ++ [⟨x, v, c⟩]
def sclk (l : List SV) (c : Nat) (x : Str) (v : Value) : Nat := match sput l x v with | some _ => c | none => c + 1
def sdel : List SV → Str → List SV
  | [], _ => []
  | p :: l, x => if x == p.key then l else p :: sdel l x
def sfind : List SV → Str → Nat → Option (Nat × Value)
  | [], _, _ => none
  | p :: l, x, i => if x == p.key then some (i, p.val) else sfind l x (i + 1)
theorem str_beq (x y : Str) : ((⟨⟨x⟩⟩ : ByteArray) == ⟨⟨y⟩⟩) = (x == y) := by
  show ((⟨x⟩ : Array UInt8) == ⟨y⟩) = (x == y)
  simp
theorem findNow_sent (x : Str) : ∀ (l : List SV) (i : Nat), Instr.findNow .string (str x) (l.map SV.ent) i = some (sfind l x i)
  | [], _ => rfl
  | p :: l, i => by
    simp only [List.map_cons, Instr.findNow, SV.ent, Instr.sameNow, sfind, str_beq]
    by_cases h : (x == p.key) = true
    · rw [h]; rfl
    · rw [Bool.not_eq_true] at h; rw [h]; exact findNow_sent x l (i + 1)
theorem sfind_get (x : Str) : ∀ (l : List SV) (i : Nat), (sfind l x i).map (·.2) = sget l x
  | [], _ => rfl
  | p :: l, i => by
    simp only [sfind, sget]; split
    · rfl
    · exact sfind_get x l (i + 1)
theorem sfind_put (x : Str) (v : Value) : ∀ (l : List SV) (i : Nat), (sfind l x i = none ∧ sput l x v = none) ∨ ∃ j u p l', sfind l x i = some (i + j, u) ∧ l[j]? = some p ∧ x = p.key ∧ sput l x v = some l' ∧ l' = l.modify j (fun p => ⟨x, v, p.born⟩)
  | [], _ => .inl ⟨rfl, rfl⟩
  | p :: l, i => by
    by_cases h : (x == p.key) = true
    · refine .inr ⟨0, p.val, p, ⟨x, v, p.born⟩ :: l, ?_, rfl, by simpa using h, ?_, by simp⟩
      · simp only [sfind, h, if_true]; rfl
      · simp only [sput, h, if_true]
    · rcases sfind_put x v l (i + 1) with ⟨h1, h2⟩ | ⟨j, u, q, l', h1, h2, h3, h4, h5⟩
      · refine .inl ⟨?_, ?_⟩
        · simp only [sfind, h]; exact h1
        · simp only [sput, h, h2]; rfl
      · refine .inr ⟨j + 1, u, q, p :: l', ?_, by simpa using h2, h3, ?_, ?_⟩
        · simp only [sfind, h]; rw [show i + (j + 1) = i + 1 + j from by omega]; exact h1
        · simp only [sput, h, h4]; rfl
        · subst h5; simp
theorem sfind_del (x : Str) : ∀ (l : List SV) (i : Nat), (sfind l x i = none ∧ sdel l x = l) ∨ ∃ j u, sfind l x i = some (i + j, u) ∧ j < l.length ∧ sdel l x = l.eraseIdx j
  | [], _ => .inl ⟨rfl, rfl⟩
  | p :: l, i => by
    by_cases h : (x == p.key) = true
    · exact .inr ⟨0, p.val, by simp only [sfind, h, if_true]; rfl, by simp, by simp only [sdel, h, if_true]; rfl⟩
    · rcases sfind_del x l (i + 1) with ⟨h1, h2⟩ | ⟨j, u, h1, h2, h3⟩
      · exact .inl ⟨by simp only [sfind, h]; exact h1, by simp only [sdel, h, h2]; rfl⟩
      · refine .inr ⟨j + 1, u, ?_, by simp; omega, ?_⟩
        · simp only [sfind, h]; rw [show i + (j + 1) = i + 1 + j from by omega]; exact h1
        · simp only [sdel, h, h3]; simp
theorem run_scheckKey {P : Program} {t : TypeId} (h : P.underlying t = some .string) (b : Bool) (x : Str) (w : World) : (Instr.checkKey b 10000 t (str x)).run P w = .ok () w := by
  show (Instr.checkKey b (9999 + 1) t (str x)).run P w = .ok () w
  unfold Instr.checkKey
  rw [Sem.run_bind, run_underlying h]; rfl
theorem run_sfindKey {P : Program} {t : TypeId} (h : P.underlying t = some .string) (x : Str) (l : List SV) (w : World) : (Instr.findKey t (str x) (l.map SV.ent)).run P w = .ok (sfind l x 0) w := by
  simp only [Instr.findKey, Sem.run_bind, run_underlying h, Result.andThen_ok, findNow_sent]; rfl
theorem run_sgetMap {P : Program} {w : World} {b : Nat} {l : List SV} {c : Nat} (h : w.heap[b]? = some (smobj l c)) : (getObj b).run P w = .ok (smobj l c) w := by
  simp [getObj, Sem.run, h, smobj]
theorem run_ssetMap {P : Program} {w : World} {b : Nat} {l : List SV} {c : Nat} (h : w.heap[b]? = some (smobj l c)) (o' : Obj) : (setObj b o').run P w = .ok () (setObjAt w b o') := by
  simp [setObj, Sem.run, h, setObjAt, smobj]

theorem run_slookup {P : Program} {w : World} {b : Nat} {l : List SV} {c : Nat} {t kt e : TypeId} {z : Value} {x : Str} {ok : Bool} (ht : P.underlying t = some (.map kt e)) (hk : P.underlying kt = some .string) (hz : ∀ w, (zeroValue e).run P w = .ok z w)
    (h : w.heap[b]? = some (smobj l c)) : (Instr.lookup t (.map (some b)) (str x) ok).run P w = .ok (if ok then .tuple #[(sget l x).getD z, .bool (sget l x).isSome] else (sget l x).getD z) w := by
  simp only [Instr.lookup, Sem.run_bind, run_underlying ht, Result.andThen_ok, run_sgetMap h, smobj, Sem.run_pure, run_scheckKey hk, run_sfindKey hk]
  have hg := sfind_get x l 0
  cases hf : sfind l x 0 with
  | none => rw [hf] at hg; rw [← hg]; simp [Sem.run_bind, hz]
  | some q => rw [hf] at hg; rw [← hg]; simp
theorem run_skeyStays {P : Program} {w : World} (x : Str) : (Instr.keyThatStays (str x) (str x)).run P w = .ok (str x) w := by
  unfold Instr.keyThatStays
  rw [show Instr.sameBits 10000 (str x) (str x) = true from by simp [Instr.sameBits, str_beq]]; rfl
theorem run_smapUpdate {P : Program} {w : World} {b : Nat} {l : List SV} {c : Nat} {t kt e : TypeId} {x : Str} {v : Value} (ht : P.underlying t = some (.map kt e)) (hk : P.underlying kt = some .string)
    (h : w.heap[b]? = some (smobj l c)) : (Instr.mapUpdate t (.map (some b)) (str x) v).run P w = .ok () (setObjAt w b (smobj (sset l c x v) (sclk l c x v))) := by
  simp only [Instr.mapUpdate, Sem.run_bind, run_underlying ht, Result.andThen_ok, run_sgetMap h, smobj, run_scheckKey hk, run_sfindKey hk]
  rcases sfind_put x v l 0 with ⟨h1, h2⟩ | ⟨j, u, p, l', h1, h2, h3, h4, h5⟩
  · rw [h1]
    simp only [sset, sclk, h2]
    rw [run_ssetMap h]; simp [SV.ent]
  · rw [h1]
    have e1 : ((l.map SV.ent).toArray[0 + j]?) = some (SV.ent p) := by simp [h2]
    have e2 : (Array.mk (l.map SV.ent))[0 + j]? = some (SV.ent p) := e1
    simp only [Sem.run_bind, e2, Option.map_some, Option.getD_some]
    rw [show (SV.ent p).key = str x from by rw [h3]; rfl, run_skeyStays]
    simp only [Result.andThen_ok, sset, sclk, h4]
    rw [run_ssetMap h]
    congr 3
    subst h5
    rw [Nat.zero_add]
    apply Array.ext'
    rw [Array.toList_modify]
    exact map_modify' SV.ent _ _ (fun x => rfl) l j

section rl
variable {P : Program} {ops : Array Oper} {Q : Exit → Act → World → Prop} {N : Nat} {rest : List Oper} {L : Env} {w0 w : World} {M0 M : Mem} {Hs : List HO} {d : Nat} {ty : TypeId} {ps : String} {af : Array Edge}
theorem RL.smakeMap {t : TypeId} (hS : St w0 M0 w M Hs) (hd : Nat.blt d N = true)
    (h : ∀ w' b, St w0 M0 w' M (.raw b (smobj [] 0) :: Hs) → RL P ops Q N rest ((d, true, .map (some b)) :: L) w') : RL P ops Q N (⟨some d, .makeMap t none, ty, ps, af, none⟩ :: rest) L w := by
  intro a hs
  refine wpList_plain rfl fun K hK => ?_
  have key : (execOp a.eval ⟨some d, .makeMap t none, ty, ps, af, none⟩).run P w = .ok (.value (.map (some w.heap.size))) (w.alloc (.map #[] 0)) := rfl
  simp only [Oper.wp, key, Oper.upon_value]
  exact hK _ _ (h _ _ (hS.newRaw (smobj [] 0)) _ (hs.put hd true _))
theorem RL.smapUpdate {t kt e : TypeId} {m x y : Operand} {i b c c' : Nat} {l l' : List SV} {n : Str} {v : Value} {Hs' : List HO} (ins : Bool) (hS : St w0 M0 w M Hs) (hi : Hs[i]? = some (.raw b (smobj l c))) (hm : Opd L true m (.map (some b))) (hx : Opd L true x (str n)) (hy : Opd L true y v)
    (ht : P.underlying t = some (.map kt e)) (hk : P.underlying kt = some .string) (hl : sset l c n v = l') (hc : sclk l c n v = c') (hHs : Hs.set i (.raw b (smobj l' c')) = Hs')
    (h : ∀ w', St w0 M0 w' M Hs' → RL P ops Q N rest L w') : RL P ops Q N (⟨none, if ins then .insert t m x y else .mapUpdate t m x y, ty, ps, af, none⟩ :: rest) L w := by
  intro a hs
  refine wpList_plain rfl fun K hK => ?_
  have hb := (hS.obj hi).2.1
  have key : (execOp a.eval ⟨none, if ins then .insert t m x y else .mapUpdate t m x y, ty, ps, af, none⟩).run P w = .ok .skip (setObjAt w b (smobj l' c')) := by
    have := run_smapUpdate (P := P) (x := n) (v := v) ht hk hb
    cases ins <;> simp only [execOp, hm a N hs rfl, hx a N hs rfl, hy a N hs rfl, Bool.false_eq_true, if_true, if_false] <;> rw [Sem.run_bind, this, hl, hc] <;> rfl
  simp only [Oper.wp, key, Oper.upon_skip]
  exact hK _ _ (h _ (hHs ▸ hS.setRaw hi _) _ hs)
theorem RL.srangeM {t kt e : TypeId} {x : Operand} {i b c : Nat} {l : List SV} (hS : St w0 M0 w M Hs) (hi : Hs[i]? = some (.raw b (smobj l c))) (hx : Opd L true x (.map (some b))) (ht : P.underlying t = some (.map kt e)) (hd : Nat.blt d N = true)
    (h : ∀ w' r, St w0 M0 w' M (.raw r (.mapIter (some b) c #[] c) :: Hs) → RL P ops Q N rest ((d, true, .pointer (some ⟨r, 0, none⟩)) :: L) w') : RL P ops Q N (⟨some d, .range t x, ty, ps, af, none⟩ :: rest) L w := by
  intro a hs
  refine wpList_plain rfl fun K hK => ?_
  have hb := (hS.obj hi).2.1
  have key : (execOp a.eval ⟨some d, .range t x, ty, ps, af, none⟩).run P w = .ok (.value (.pointer (some ⟨w.heap.size, 0, none⟩))) (w.alloc (.mapIter (some b) c #[] c)) := by
    simp only [execOp, hx a N hs rfl]; rw [Sem.run_bind, run_range_map w t kt e b _ _ ht hb]; rfl
  simp only [Oper.wp, key, Oper.upon_value]
  exact hK _ _ (h _ _ (hS.newRaw _) _ (hs.put hd true _))
/-- The next entry, whichever it is. -/
theorem RL.snextM {x : Operand} {i j b r c since c0 : Nat} {seen : Array Nat} {l : List SV} (hS : St w0 M0 w M Hs) (hi : Hs[i]? = some (.raw b (smobj l c))) (hj : Hs[j]? = some (.raw r (.mapIter (some b) since seen c0))) (hx : Opd L true x (.pointer (some ⟨r, 0, none⟩)))
    (hold : ∀ p ∈ l, p.born < since) (hsc : since ≤ c0) (hd : Nat.blt d N = true)
    (h1 : ∀ p ∈ l, ¬ seen.contains p.born = true → ∀ w', St w0 M0 w' M (Hs.set j (.raw r (.mapIter (some b) since (seen.push p.born) c))) → RL P ops Q N rest ((d, true, .tuple #[.bool true, str p.key, p.val]) :: L) w')
    (h2 : (∀ p ∈ l, seen.contains p.born = true) → RL P ops Q N rest ((d, true, .tuple #[.bool false]) :: L) w) : RL P ops Q N (⟨some d, .next x false, ty, ps, af, none⟩ :: rest) L w := by
  intro a hs
  refine wpList_plain rfl fun K hK => ?_
  have hb := (hS.obj hi).2.1
  have hr := (hS.obj hj).2.1
  rcases run_next_at (P := P) w ty r b since c0 seen ⟨l.map SV.ent⟩ c hr hb (by intro x hx; simp only [List.mem_map] at hx; obtain ⟨p, hp, rfl⟩ := hx; exact hold p hp) hsc with ⟨he, hrun⟩ | ⟨en, hen, w1, hw1, hrun⟩
  · have key : (execOp a.eval ⟨some d, .next x false, ty, ps, af, none⟩).run P w = .ok (.value (.tuple #[.bool false])) w := by
      simp only [execOp, hx a N hs rfl]; rw [Sem.run_bind, hrun]; rfl
    simp only [Oper.wp, key, Oper.upon_value]
    refine hK _ _ (h2 ?_ _ (hs.put hd true _))
    intro p hp
    by_cases hc : seen.contains p.born = true
    · exact hc
    · exfalso
      have : (leftOf ⟨l.map SV.ent⟩ seen).size = 0 := he
      unfold leftOf at this
      rw [Array.size_eq_zero_iff, Array.filter_eq_empty_iff] at this
      have := this (SV.ent p) (by simp only [List.mem_toArray, Array.mem_def, List.mem_map]; exact ⟨p, hp, rfl⟩)
      apply this; show (!seen.contains p.born) = true
      simpa using hc
  · unfold leftOf at hen
    simp only [Array.toList_filter, List.mem_filter, List.mem_map, Bool.not_eq_true'] at hen
    obtain ⟨⟨p, hp, rfl⟩, hns⟩ := hen
    have key : (execOp a.eval ⟨some d, .next x false, ty, ps, af, none⟩).run P w = .ok (.value (.tuple #[.bool true, str p.key, p.val])) (setObjAt w1 r (.mapIter (some b) since (seen.push p.born) c)) := by
      simp only [execOp, hx a N hs rfl]; rw [Sem.run_bind, hrun]; rfl
    simp only [Oper.wp, key, Oper.upon_value]
    have hS1 : St w0 M0 w1 M Hs := by rcases hw1 with rfl | rfl; exact hS; exact hS.ext (Ext.drew _)
    exact hK _ _ (h1 p hp (by show ¬ seen.contains p.born = true; have : seen.contains p.born = false := hns; rw [this]; simp) _ (hS1.setRaw hj _) _ (hs.put hd true _))
end rl
section pv
variable {P : Program} {C : World → Prop} {L : Env} {W : Bool} {d : Option Tmp} {ty : TypeId} {ps : String} {af : Array Edge} {gd : Option (Nat × Bool)} {w0 w : World} {M0 M : Mem} {Hs : List HO}
theorem PV.sentry {x : Operand} {i j b r c since : Nat} {seen : Array Nat} {l : List SV} {p : SV} (hS : St w0 M0 w M Hs) (hC : ∀ w', C w' → Ext w w') (hi : Hs[i]? = some (.raw b (smobj l c))) (hj : Hs[j]? = some (.raw r (.mapIter (some b) since (seen.push p.born) c))) (hx : Opd L W x (.pointer (some ⟨r, 0, none⟩)))
    (hp : p ∈ l) (hn : (l.map (·.born)).Nodup) : PV P C L W ⟨d, .entry x, ty, ps, af, gd⟩ (.tuple #[str p.key, p.val]) := by
  intro a N hs hW w' hw'
  have hS' := hS.ext (hC w' hw')
  have hb := (hS'.obj hi).2.1
  have hr := (hS'.obj hj).2.1
  have := run_entry_at (P := P) w' r b since seen ⟨l.map SV.ent⟩ c (SV.ent p) hr hb (List.mem_map.2 ⟨p, hp, rfl⟩) (by simpa [List.map_map, Function.comp_def, SV.ent] using hn)
  simp only [execOp, hx a N hs hW]; rw [Sem.run_bind, this]; rfl
theorem PV.slookup {t kt e : TypeId} {x y : Operand} {i b c : Nat} {l : List SV} {n : Str} {z v : Value} (hS : St w0 M0 w M Hs) (hC : ∀ w', C w' → Ext w w') (hi : Hs[i]? = some (.raw b (smobj l c))) (hx : Opd L W x (.map (some b))) (hy : Opd L W y (str n))
    (ht : P.underlying t = some (.map kt e)) (hk : P.underlying kt = some .string) (hz : ∀ w, (zeroValue e).run P w = .ok z w) (hv : (sget l n).getD z = v) : PV P C L W ⟨d, .lookup t x y false, ty, ps, af, gd⟩ v := by
  intro a N hs hW w' hw'
  have hb := ((hS.ext (hC w' hw')).obj hi).2.1
  have := run_slookup (P := P) (x := n) (ok := false) ht hk hz hb
  simp only [execOp, hx a N hs hW, hy a N hs hW]; rw [Sem.run_bind, this, ← hv]; rfl
theorem PV.slookupOk {t kt e : TypeId} {x y : Operand} {i b c : Nat} {l : List SV} {n : Str} {z v : Value} {q : Bool} (hS : St w0 M0 w M Hs) (hC : ∀ w', C w' → Ext w w') (hi : Hs[i]? = some (.raw b (smobj l c))) (hx : Opd L W x (.map (some b))) (hy : Opd L W y (str n))
    (ht : P.underlying t = some (.map kt e)) (hk : P.underlying kt = some .string) (hz : ∀ w, (zeroValue e).run P w = .ok z w) (hv : (sget l n).getD z = v) (hq : (sget l n).isSome = q) : PV P C L W ⟨d, .lookup t x y true, ty, ps, af, gd⟩ (.tuple #[v, .bool q]) := by
  intro a N hs hW w' hw'
  have hb := ((hS.ext (hC w' hw')).obj hi).2.1
  have := run_slookup (P := P) (x := n) (ok := true) ht hk hz hb
  simp only [execOp, hx a N hs hW, hy a N hs hW]; rw [Sem.run_bind, this, ← hv, ← hq]; rfl
end pv
end Go.Eng
