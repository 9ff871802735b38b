/-
  TextParses, walked.
-/
import Derived.Test.YtjfaikgooldcbaaGreatDoorZs4
import Derived.Laws.BitsLemmas
import Derived.Test.YtjfaikgooldcbaaGreatDoorZs3
import Derived.Test.YtjfaikgooldcbaaGreatDoorProg
import Derived.Test.YtjfaikgooldcbaaGreatDoorZs26
import Derived.Test.YtjfaikgooldcbaaGreatDoorZs27
import Derived.Test.YtjfaikgooldcbaaGreatDoorZs5
import Derived.Test.YtjfaikgooldcbaaGreatDoorZs14
import Derived.Test.YtjfaikgooldcbaaGreatDoorZs17
set_option linter.unusedVariables false
set_option linter.unusedSimpArgs false
set_option maxRecDepth 100000
namespace Go.Proofs.YtjfaikgooldcbaaGreatDoor
open Go.Eng

theorem parse_lit {w wv : World} {M0 M : Mem} {Rs : List HO} (s : Str) (r : Vl × Int × Int) (hS : St w M0 wv M Rs) (hg : Gl w) (hb : len s ≤ 1099511627776) (hr : parseT s = r) : Calls Tryz.prog 11 [str s].toArray wv fun e w' => ParseP w M0 M Rs r e w' := hr ▸ parse_c s hS hg hb
/- loupe/loupelaw04.alive -/
theorem alive4_c  (w : World) (hg : Gl w) :
  Calls Tryz.prog 10 [].toArray w fun e w' => e = .returned (.bool true) ∧ Ext w w' := by
 refine CW.enter1 Tryz.func10 rfl Tryz.ntmps10 (Nat.le_of_ble_eq_true rfl) fun Q hE => ?_
 have hfl : len aliveT.flat = 4 := by decide
 have hS : St w nM w nM [] := St.start ⟨fun _ _ _ h => by cases h⟩
 refine CW.weaken [] (L' := []) ?_ rfl
 refine CW.sr (RL.u (.assign .c) rfl (RL.nil (CW.id (CW.sr ?_))))
 refine RL.callP Tryz.call11 (.cons .c .nil) (parse_lit (Rs := []) alive1 ((aliveT.flat, 0, 0)) hS hg (by decide) alive_p1) rfl ?_
 rintro v4 w5 ⟨a1, c2, M6, rfl, hsl_v4, hS7, hle8⟩
 replace hsl_v4 : Sl M6 6 aliveT.flat.length (.slice a1 aliveT.flat.length c2) (aliveT.flat.flatMap Nd.cells) := hsl_v4
 refine RL.m rfl rfl (RL.u (.ex (.t rfl) rfl) rfl (RL.u (.ex (.t rfl) rfl) rfl (RL.u (.ex (.t rfl) rfl) rfl (RL.a rfl rfl (RL.a rfl rfl ?_)))))
 refine RL.a rfl rfl ?_
 refine RL.nil (CW.at [Y 1 (.slice a1 aliveT.flat.length c2), Y 2 (i64 0), Y 3 (i64 0)] rfl (CW.sr ?_))
 refine RL.callP Tryz.call11 (.cons .c .nil) (parse_lit (Rs := []) alive2 ((([] : Vl), 3, 1)) hS7 hg (by decide) alive_p2) rfl ?_
 rintro v12 w13 ⟨a9, c10, M14, rfl, hsl_v12, hS15, hle16⟩
 replace hsl_v4 := hsl_v4.mono hle16
 replace hsl_v12 : Sl M14 6 (([] : Vl)).length (.slice a9 (([] : Vl)).length c10) ((([] : Vl)).flatMap Nd.cells) := hsl_v12
 refine RL.m rfl rfl (RL.u (.ex (.t rfl) rfl) rfl (RL.u (.ex (.t rfl) rfl) rfl (RL.u (.ex (.t rfl) rfl) rfl (RL.a rfl rfl (RL.a rfl rfl ?_)))))
 refine RL.a rfl rfl ?_
 refine RL.nil (CW.at [Y 1 (.slice a1 aliveT.flat.length c2), Y 2 (i64 0), Y 3 (i64 0), Y 5 (i64 3), Y 6 (i64 1)] rfl (CW.sr (RL.m rfl rfl (RL.u (.eql (.t rfl) .c) rfl (RL.m rfl rfl (RL.v (.pos rfl rfl) (.move (.t rfl)) rfl (RL.v (.pos rfl rfl) (.eql (.g rfl (fun h => h)) .c) rfl (RL.u (.and (.t rfl) (.g rfl (fun h => h))) rfl (RL.m rfl rfl (RL.v (.pos rfl rfl) (.move (.t rfl)) rfl ?_))))))))))
 refine RL.callE hS15 (.pos rfl rfl) Tryz.call15 (.cons (.g rfl (fun h => h)) .nil) (fun hW => by simp only [zb] at hW; exact (compact_c M14 aliveT (.slice a1 aliveT.flat.length c2) _ hS15.sat hsl_v4 alive_ok (hg.low hS15.low) (by decide +kernel) (by decide +kernel) (by decide +kernel))) rfl (fun w17 hS18 => ?_)
 refine RL.v (.pos rfl rfl) (.seql (.g rfl (fun h => h)) .c) rfl (RL.u (.and (.t rfl) (.g rfl (fun h => h))) rfl (RL.m rfl rfl (RL.v (.pos rfl rfl) (.move (.t rfl)) rfl ?_)))
 refine RL.callE hS18 (.pos rfl rfl) Tryz.call17 (.cons (.g rfl (fun h => h)) .nil) (fun hW => by simp only [zb] at hW; exact (indent_c M14 aliveT (.slice a1 aliveT.flat.length c2) _ hS18.sat hsl_v4 alive_ok (hg.low hS18.low) (by decide +kernel) (by decide +kernel) (by decide +kernel))) rfl (fun w19 hS20 => ?_)
 refine RL.v (.pos rfl rfl) (.seql (.g rfl (fun h => h)) .c) rfl (RL.u (.and (.t rfl) (.g rfl (fun h => h))) rfl (RL.m rfl rfl (RL.v (.pos rfl rfl) (.move (.t rfl)) rfl (RL.v (.pos rfl rfl) (.eql (.g rfl (fun h => h)) .c) rfl (RL.u (.and (.t rfl) (.g rfl (fun h => h))) rfl ?_)))))
 refine RL.m rfl rfl (RL.v (.pos rfl rfl) (.move (.t rfl)) rfl (RL.v (.pos rfl rfl) (.eql (.g rfl (fun h => h)) .c) rfl (RL.u (.and (.t rfl) (.g rfl (fun h => h))) rfl (RL.a rfl rfl ?_))))
 refine RL.nil (CW.at [Y 0 (.bool ((((((0 == 0) && (0 == 0)) && ((prt false 0 aliveT) == [123, 34, 97, 34, 58, 91, 116, 114, 117, 101, 44, 110, 117, 108, 108, 93, 125])) && ((prt true 0 aliveT) == [123, 10, 32, 32, 34, 97, 34, 58, 32, 91, 10, 32, 32, 32, 32, 116, 114, 117, 101, 44, 10, 32, 32, 32, 32, 110, 117, 108, 108, 10, 32, 32, 93, 10, 125])) && (1 == 1)) && (3 == 3)))] rfl (CW.ret (hE.r1 rfl rfl ?_)))
 exact ⟨congrArg (fun b => Ending.returned (.bool b)) (by decide +kernel), hS20.low⟩

end Go.Proofs.YtjfaikgooldcbaaGreatDoor
set_option maxRecDepth 100000
namespace Go.Proofs.YtjfaikgooldcbaaGreatDoor
open Go.Eng

/-- Two values are the same. -/
def sameV (a b : Vl) : Bool := decide (a = b)
theorem sameV_self (a : Vl) : sameV a a = true := decide_eq_true rfl
theorem sameV_len {a b : Vl} (h : ¬ len a = len b) : sameV a b = false := decide_eq_false fun e => h (by rw [e])
theorem sameV_bad {a b : Vl} {k : Int} (h : ¬ at' a k = at' b k) : sameV a b = false := decide_eq_false fun e => h (by rw [e])
theorem sameV_end {a b : Vl} {k : Int} (h : ∀ j, 0 ≤ j → j < k → at' a j = at' b j) (h1 : len a ≤ k) (h2 : len a = len b) : sameV a b = true := by
  refine decide_eq_true (List.ext_getElem (by unfold len at h2; omega) fun n h3 h4 => ?_)
  have := h (n : Int) (by omega) (by unfold len at h1; omega)
  unfold at' at this
  simpa [List.getD_eq_getElem?_getD, h3, h4] using this
/- loupe/louperef02.Same -/
theorem same2_c (M : Mem) (x y : Vl) (va vb : Value) (w : World) (hM : Sat w M) (ha : Sl M 6 x.length va (x.flatMap Nd.cells)) (hb : Sl M 6 y.length vb (y.flatMap Nd.cells)) :
  Calls Tryz.prog 13 [va, vb].toArray w fun e w' => e = .returned (.bool (sameV x y)) ∧ Ext w w' := by
 refine CW.enter1 Tryz.func13 rfl Tryz.ntmps13 (Nat.le_of_ble_eq_true rfl) fun Q hE => ?_
 have := len_nonneg x
 have hla : len x ≤ 9223372036854775807 := ha.le
 have hS : St w M w M [] := St.start hM
 refine CW.weaken [0, 1] (L' := [Y 0 va, Y 1 vb]) ?_ rfl
 refine CW.sr (RL.u (.assign .c) rfl (RL.nil (CW.id (CW.seq ?_))))
 refine CW.sr (RL.m rfl rfl (RL.u (.lenT ha (.t rfl) ⟨_, Tryz.underlying24⟩) rfl (RL.m rfl rfl (RL.u (.lenT hb (.t rfl) ⟨_, Tryz.underlying24⟩) rfl (RL.u (.neq (.t rfl) (.t rfl)) rfl (RL.nil (CW.id ?_)))))))
 refine CW.cond rfl ?_ ?_ <;> intro hb1 <;> try simp only [zb] at hb1
 ·refine CW.sr (RL.u (.assign .c) rfl (RL.nil (CW.id (CW.ret (hE.r1 rfl rfl ?_)))))
  exact ⟨by rw [sameV_len hb1], hS.low⟩
 ·refine CW.skip (CW.id (CW.seq (CW.sr (RL.u (.assign .c) rfl (RL.nil (CW.id ?_))))))
  refine CW.block ?_
  refine CW.loop (σ := Int) (fun k => [Y 0 va, Y 1 vb, Y 5 (i64 k)]) (fun k wl => St w M wl M [] ∧ Sl M 6 x.length va (x.flatMap Nd.cells) ∧ Sl M 6 y.length vb (y.flatMap Nd.cells) ∧ 0 ≤ k ∧ k ≤ len x ∧ (∀ j, 0 ≤ j → j < k → at' x j = at' y j)) (fun k => (len x - k).toNat) 0 [0, 1, 5] rfl ?_ ?_
  ·refine ⟨hS, ha, hb, ?_⟩; exact ⟨by omega, by omega, fun j h1 h2 => by omega⟩
  ·rintro k wl ⟨hS1, ha, hb, hk0, hk1, hkF⟩
   refine CW.seq (CW.sr (RL.m rfl rfl (RL.m rfl rfl (RL.u (.lenT ha (.t rfl) ⟨_, Tryz.underlying24⟩) rfl (RL.u (.lss (.t rfl) (.t rfl)) rfl (RL.nil (CW.id ?_)))))))
   refine CW.cond rfl ?_ ?_ <;> intro hb2 <;> try simp only [zb] at hb2
   ·refine CW.skip (CW.id (CW.seq (CW.block (CW.seq ?_))))
    refine CW.regionD hS1 tryz_mixed (by decide +kernel) ?_
    refine RQ.v .none (.move (.t rfl)) rfl ?_
    refine RQ.v .none (.move (.t rfl)) rfl ?_
    refine RQ.v .none (.idxT ha (.t rfl) (.t rfl) Tryz.underlying24 Tryz.sizeOf38 (fun _ => by omega)) rfl ?_
    refine RQ.v .none (.loadEN (f := Nd.cells) (i := k) hS1 (fun _ h => h) ha Nd.cells_len (.t rfl) Tryz.isAgg38 Tryz.sizeOf38 (fun _ => by omega)) rfl ?_
    refine RQ.v .none (.move (.t rfl)) rfl ?_
    refine RQ.v .none (.move (.t rfl)) rfl ?_
    refine RQ.v .none (.idxT hb (.t rfl) (.t rfl) Tryz.underlying24 Tryz.sizeOf38 (fun _ => by omega)) rfl ?_
    refine RQ.v .none (.loadEN (f := Nd.cells) (i := k) hS1 (fun _ h => h) hb Nd.cells_len (.t rfl) Tryz.isAgg38 Tryz.sizeOf38 (fun _ => by omega)) rfl ?_
    refine RQ.v .none (.bin (v := .bool (!(decide (((at' x k) : Nd) = (at' y k))))) (.t rfl) (.t rfl) (fun _ w _ => neNd _ _ ((at' x k)) ((at' y k)) w)) rfl ?_
    refine RQ.nil (fun a hs w2 hS3 => CW.at [Y 0 va, Y 1 vb, Y 5 (i64 k), Y 25 (.bool (!(decide (((at' x k) : Nd) = (at' y k)))))] rfl ?_ a hs)
    refine CW.cond rfl ?_ ?_ <;> intro hb3 <;> try simp only [zb] at hb3
    ·refine CW.sr (RL.u (.assign .c) rfl (RL.nil (CW.id (CW.ret (hE.r1 rfl rfl ?_)))))
     exact ⟨by rw [sameV_bad (k := k) hb3], hS3.low⟩
    ·refine CW.skip (CW.id ?_)
     refine CW.region (RL.m rfl rfl (RL.u (.add (.t rfl) .c (fun _ => by omega)) rfl (RL.a rfl rfl ?_)))
     refine RL.nil fun a hs => Exists.intro (k + 1) ⟨hs.keep [0, 1, 5], ?_, ?_⟩
     ·refine ⟨hS3, ha, hb, ?_⟩
      exact ⟨by omega, by omega, fun j h1 h2 => by rcases Int.lt_or_eq_of_le (show j ≤ k by omega) with h3 | rfl; exact hkF j h1 h3; exact hb3⟩
     ·show Int.toNat _ < Int.toNat _; omega
   ·refine CW.exit (CW.at [] rfl ?_)
    refine CW.sr (RL.u (.assign .c) rfl (RL.nil (CW.id (CW.ret (hE.r1 rfl rfl ?_)))))
    exact ⟨by rw [sameV_end hkF (by omega) (by omega)], hS1.low⟩

end Go.Proofs.YtjfaikgooldcbaaGreatDoor
set_option maxRecDepth 100000
namespace Go.Proofs.YtjfaikgooldcbaaGreatDoor
open Go.Eng

theorem parseO_c {w0 wv : World} {M0 M : Mem} {Rs : List HO} (s : Str) (hS : St w0 M0 wv M Rs) (hg : Gl w0) (hb : len s ≤ 1099511627776) :
  Calls Tryz.prog 11 [str s].toArray wv (ORet w0 M0 M Rs (fun h : SlH => .tuple #[h.v, i64 (parseT s).2.1, i64 (parseT s).2.2]) (fun _ => True) (fun h => [(0, kn h.v 6 (parseT s).1 Nd.cells)]) fun _ => []) :=
 (parse_c s hS hg hb).mono fun e w' ⟨u, he, a, c, M', hu, hsl, hS', hle⟩ => by
  subst hu; exact ⟨⟨a, _, c⟩, M', he, trivial, hle, hS', fc 0 hsl Nd.cells_len fnil⟩
theorem textParses_c (s : Str) (w : World) (hg : Gl w) :
  Calls Tryz.prog 3 [str s].toArray w fun e w' => e = .returned (.bool true) ∧ Ext w w' := by
 refine xenter ttok Tryz.func3 rfl Tryz.ntmps3 [] [] [.v (str s)] rfl (st0 w) fnil (fun B hB => ?_) rfl
 refine xbr rfl (eok rfl) (by omega) (fun hb1 => ?_) (fun hb1 => ?_) <;> simp only [zb] at hb1
 ·refine xcall rfl (eok rfl) (by omega) Tryz.call10 rfl rfl (eok rfl) (fun _ w M hX => alive4_c w (hg.low hX.st.low)) rfl ?_
  exact xret hB rfl rfl (eok rfl) (by omega) rfl (eok rfl) fun w M hX => ⟨rfl, hX.st.low⟩
 refine xcallO [] (fun h : SlH => .tu [.sl 1 h.v, I (parseT s).2.1, I (parseT s).2.2]) [1] (fun _ => []) rfl (eok rfl) (by omega) rfl Tryz.call11 rfl rfl (eok rfl) rfl (fun w M hS hF => parseO_c s hS hg (by omega)) (fun _ => rfl) (fun _ => rfl) fun h1 _ => ?_
 refine xcallM (fun v : Value => .tu [.sl 2 v, I (parseT s).2.1, I (parseT s).2.2]) [2] rfl (eok rfl) (by omega) rfl Tryz.call12 rfl rfl (eok rfl) (fun w M hX => parse4_c s w M hX.st.sat (by omega)) (fun _ => rfl) fun v2 _ => ?_
 refine xcall rfl (eok rfl) (by omega) Tryz.call10 rfl rfl (eok rfl) (fun _ w M hX => alive4_c w (hg.low hX.st.low)) rfl ?_
 refine xcall rfl (eok rfl) (by omega) Tryz.call13 rfl rfl (eok rfl) (fun _ w M hX => same2_c M (parseT s).1 (parseT s).1 h1.v v2 w hX.st.sat (hX.sl 1 rfl) (hX.sl 2 rfl)) rfl ?_
 refine xret hB rfl rfl (eok rfl) (by omega) rfl (eok rfl) fun w M hX => ⟨?_, hX.st.low⟩
 show Ending.returned (.bool (((true && sameV (parseT s).1 (parseT s).1) && ((parseT s).2.1 == (parseT s).2.1)) && ((parseT s).2.2 == (parseT s).2.2))) = _
 rw [sameV_self]; simp
end Go.Proofs.YtjfaikgooldcbaaGreatDoor
