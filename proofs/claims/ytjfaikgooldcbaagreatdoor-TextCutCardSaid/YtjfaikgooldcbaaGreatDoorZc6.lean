/-
  AN ARGUMENT THAT IS A VALUE, OPENED: its nodes, as they lie in memory.
  THE ENGINE, PART 15: panics: one that the text raises, and calls that may end in one. Over any program.
  THE ENGINE, PART 19: a deferred closure's region: behind its recover operation the others are plain. Over any program.
  THE ENGINE, PART 20: a body behind its one defer: the regions' rules as they are, the code's rules with the deferred call beside. Over any program.
  THE PLAIN FORMS OF NUMBERS: what num and louperef01 compute.
-/
import Derived.Test.YtjfaikgooldcbaaGreatDoorZc5
import Derived.Deep.Slices
import Derived.Carry
import Derived.Defers
import Derived.Recover
import Derived.Test.YtjfaikgooldcbaaGreatDoorZc3
import Derived.Shelf.Strings.SlTrimAscii
import Derived.Lib.ItoaNum
import Derived.Lib.Bytealg
import Derived.Lib.AtoiAll
set_option linter.unusedVariables false
set_option linter.unusedSimpArgs false
set_option maxRecDepth 100000
namespace Go.Proofs.YtjfaikgooldcbaaGreatDoor
open Go.ChangeShapes Go.WideShapes Go.ChangeAt Go.RowKit Go.Eng Go.Deep

/-- All that is there. -/
def memOf (W : World) : Mem := fun b o => W.cell? ⟨b, o, none⟩
theorem sat_mem (W : World) : Sat W (memOf W) := ⟨fun _ _ _ h => h⟩
theorem laidOut : laidOutB Tryz.prog = true := by kernel_rfl
section
variable {H : Type} {enc : TypeId × Value → H} {w : World} {base : Nat} {sp : Nat → Bool} {hd : Bool}
theorem fldOf {fs : Array Field} {n : Nat} {cs : List Value} {xs : List (DataW H × List MemPlace)} (hf : ∀ (i : Nat) (f : Field), fs[i]? = some f → DataW.trod enc Tryz.prog w base sp hd n f.type ((cs.drop f.offset).take (Tryz.prog.cellsOf f.type)) = xs[i]?) (hx : xs.length = fs.size)
    {i t o c : Nat} (h : (fs[i]?).map (fun f => (f.type, f.offset, Tryz.prog.cellsOf f.type)) = some (t, o, c)) : ∃ x, DataW.trod enc Tryz.prog w base sp hd n t ((cs.drop o).take c) = some x := by
  obtain ⟨f, h1, h2⟩ := Option.map_eq_some_iff.1 h
  have h3 := hf i f h1
  have hlt : i < xs.length := by rw [hx]; exact (Array.getElem?_eq_some_iff.1 h1).1
  rw [List.getElem?_eq_getElem hlt] at h3
  simp only [Prod.mk.injEq] at h2
  obtain ⟨e1, e2, e3⟩ := h2
  rw [e3, e2, e1] at h3
  exact ⟨_, h3⟩
theorem cell_int {n : Nat} {cs : List Value} {c : Value} (hc : cs = [c]) (h : ∃ x, DataW.trod enc Tryz.prog w base sp hd n 3 cs = some x) : ∃ z, c = i64 z := by
  obtain ⟨x, h⟩ := h
  obtain ⟨z, h1, _⟩ := DataW.trod_int Tryz.underlying3 h
  rw [hc] at h1
  exact ⟨z, (List.cons.inj h1).1⟩
theorem cell_str {n : Nat} {cs : List Value} {c : Value} (hc : cs = [c]) (h : ∃ x, DataW.trod enc Tryz.prog w base sp hd n 9 cs = some x) : ∃ s : Str, c = str s ∧ len s ≤ 9223372036854775807 := by
  obtain ⟨x, h⟩ := h
  obtain ⟨s, h1, _, h2⟩ := DataW.trod_string Tryz.underlying9 h
  rw [hc] at h1
  refine ⟨s.data.toList, (List.cons.inj h1).1, ?_⟩
  unfold len
  have : s.data.toList.length = s.size := Array.length_toList
  have h3 : s.size ≤ 9223372036854775807 := h2
  rw [this]; omega
theorem cell_bool {n : Nat} {cs : List Value} {c : Value} (hc : cs = [c]) (h : ∃ x, DataW.trod enc Tryz.prog w base sp hd n 4 cs = some x) : ∃ b, c = .bool b := by
  obtain ⟨x, h⟩ := h
  obtain ⟨b, h1, _⟩ := DataW.trod_bool Tryz.underlying4 h
  rw [hc] at h1
  exact ⟨b, (List.cons.inj h1).1⟩
theorem open_node {n : Nat} {cs : List Value} (h : ∃ x, DataW.trod enc Tryz.prog w base sp hd n 38 cs = some x) : ∃ nd : Nd, cs = nd.cells ∧ len nd.s ≤ 9223372036854775807 := by
  obtain ⟨x, h⟩ := h
  obtain ⟨xs, k, _, _, hl, hxl, hf⟩ := DataW.trod_struct fieldsNd h
  have hl6 : cs.length = 6 := hl.trans (by kernel_rfl)
  match cs, hl6 with
  | [c0, c1, c2, c3, c4, c5], _ =>
    obtain ⟨z0, rfl⟩ := cell_int (c := c0) rfl (fldOf hf hxl (i := 0) (t := 3) (o := 0) (c := 1) (by kernel_rfl))
    obtain ⟨z1, rfl⟩ := cell_int (c := c1) rfl (fldOf hf hxl (i := 1) (t := 3) (o := 1) (c := 1) (by kernel_rfl))
    obtain ⟨s2, rfl, _⟩ := cell_str (c := c2) rfl (fldOf hf hxl (i := 2) (t := 9) (o := 2) (c := 1) (by kernel_rfl))
    obtain ⟨s3, rfl, h3⟩ := cell_str (c := c3) rfl (fldOf hf hxl (i := 3) (t := 9) (o := 3) (c := 1) (by kernel_rfl))
    obtain ⟨b4, rfl⟩ := cell_bool (c := c4) rfl (fldOf hf hxl (i := 4) (t := 4) (o := 4) (c := 1) (by kernel_rfl))
    obtain ⟨z5, rfl⟩ := cell_int (c := c5) rfl (fldOf hf hxl (i := 5) (t := 3) (o := 5) (c := 1) (by kernel_rfl))
    exact ⟨⟨z0, z1, s2, s3, b4, z5⟩, rfl, h3⟩
end
/-- A value: its nodes. -/
theorem open_val {H : Type} {enc : TypeId × Value → H} {W : World} {r : Reach} {b0 : Nat} {v : Value} {d : DataW H} {ps : List MemPlace} (hval : Value.okWide Tryz.prog W r b0 24 v) (h : DataW.Trod enc Tryz.prog W 0 (fun _ => true) true 24 v d ps) :
    ∃ l : List Nd, Sl (memOf W) 6 l.length v (l.flatMap Nd.cells) := by
  obtain ⟨a0, n0, c0, rfl⟩ := okWide_slice Tryz.underlying24 hval
  obtain ⟨fuel, h⟩ := h
  rcases open_slice Tryz.underlying24 h with ⟨h1, _⟩ | ⟨a, ln, cap, m, n, D, Pl, h1, _, hl, hm, hmm, _, hx⟩
  · simp only [Value.cells, List.cons.injEq, Value.slice.injEq, and_true] at h1
    obtain ⟨rfl, rfl, rfl⟩ := h1
    exact ⟨[], Sl.nil _ 6⟩
  · simp only [Value.cells, List.cons.injEq, Value.slice.injEq, and_true] at h1
    obtain ⟨rfl, rfl, rfl⟩ := h1
    have ce : Tryz.prog.cellsOf 38 = 6 := by kernel_rfl
    have each : ∀ i, i < n0 → ∃ t : Nd, ∀ j, j < 6 → W.cell? ((a.add (i * 6)).add j) = t.cells[j]? := by
      intro i hi
      have him : i < m := by rw [hmm, if_pos rfl]; omega
      obtain ⟨cs', h2, h3⟩ := hx i him
      rw [ce] at h2
      obtain ⟨_, _, hcell⟩ := World.cells?_some h2
      obtain ⟨t, rfl, _⟩ := open_node ⟨_, h3⟩
      exact ⟨t, hcell⟩
    obtain ⟨q, hq⟩ := choose_lt each
    have hlen : ((List.range n0).map q).length = n0 := by simp
    refine ⟨(List.range n0).map q, ⟨by rw [flat_len Nd.cells 6 Nd.cells_len], some a, c0, by rw [hlen], by rw [hlen]; exact hl, hm, fun hn => ?_⟩⟩
    · rw [hlen] at hn
      have hsp : a.spot = none := by
        have h0 := (hq 0 hn) 0 (by omega)
        rw [Nat.zero_mul] at h0
        have e : (a.add 0).add 0 = a := rfl
        rw [e] at h0
        cases hs : a.spot with
        | none => rfl
        | some x =>
          unfold World.cell? at h0
          rw [hs] at h0
          split at h0 <;> simp [Nd.cells] at h0
      obtain ⟨b, o, spot⟩ := a
      have hsp : spot = none := hsp
      subst hsp
      refine ⟨b, o, rfl, fun j hj => ?_⟩
      rw [flat_len Nd.cells 6 Nd.cells_len, hlen] at hj
      have hi : j / 6 < n0 := by omega
      have hr : j % 6 < 6 := by omega
      have h1 := (hq (j / 6) hi) (j % 6) hr
      rw [add_none, add_none] at h1
      have hj' : o + j / 6 * 6 + j % 6 = o + j := by omega
      rw [hj'] at h1
      have h2 := flat_get Nd.cells 6 Nd.cells_len ((List.range n0).map q) (j / 6) (j % 6) (by rw [hlen]; exact hi) hr
      rw [show j / 6 * 6 + j % 6 = j from by omega] at h2
      unfold memOf
      rw [h1, h2]
      simp
end Go.Proofs.YtjfaikgooldcbaaGreatDoor
namespace Go.Eng
open Go.RowKit

/-- What a part of a text is read as, and the place behind it; or an error, and its place. -/
inductive PR (α : Type) where
  | ok (x : α) (j : Int)
  | er (e p : Int)
/-- A panic with an error and its place. -/
abbrev wrongE (T : TypeId) (e p : Int) : PanicEntry := { v := .iface T (.agg #[i64 e, i64 p]), recovered := false }
/-- How a call ends that reads a part of a text: with what it read (F tells of it), or in the panic: then of its own things nothing is known. -/
def PPost {α : Type} (w0 : World) (M0 M : Mem) (Rs : List HO) (T : TypeId) (F : α → Int → Value → Mem → World → Prop) (r : PR α) : Ending → World → Prop := fun e w' =>
  match r with
  | .ok x j => ∃ v M', e = .returned v ∧ F x j v M' w' ∧ M.le M'
  | .er ec p => ∃ M', e = .panicked [wrongE T ec p] ∧ St w0 M0 w' M' Rs ∧ M.le M'
section
variable {P : Program} {α : Type} {w0 w : World} {M0 M M' : Mem} {Rs : List HO} {T : TypeId} {F : α → Int → Value → Mem → World → Prop} {r : PR α}
theorem PPost.ok {x : α} {j : Int} {v : Value} (h : r = .ok x j) (hf : F x j v M' w) (hle : M.le M') : PPost w0 M0 M Rs T F r (.returned v) w := by
  subst h; exact ⟨v, M', rfl, hf, hle⟩
theorem PPost.er {ec p : Int} (h : r = .er ec p) (hS : St w0 M0 w M' Rs) (hle : M.le M') : PPost w0 M0 M Rs T F r (.panicked [wrongE T ec p]) w := by
  subst h; exact ⟨M', rfl, hS, hle⟩
theorem Ends.p {fn : Func} {R : Ending → World → Prop} {Q : Exit → Act → World → Prop} {N : Nat} {L : Env} {ch : List PanicEntry} (E : Ends P fn R Q) (h : R (.panicked ch) w) : ∀ a, Slots a N L → Q (.panic ch) a w := fun a hs => E.all _ _ _ ⟨hs.dfr, h⟩
variable {ops : Array Oper} {Q : Exit → Act → World → Prop} {N : Nat} {rest : List Oper} {L : Env} {ty : TypeId} {ps : String} {af : Array Edge} {tys : Array TypeId}
theorem RL.panic {d : Option Tmp} {x : Operand} {t : TypeId} {v : Value} (hx : Opd L true x (.iface t v)) (h : ∀ a, Slots a N L → Q (.panic [{ v := .iface t v, recovered := false }]) a w) : RL P ops Q N (⟨d, .panic x, ty, ps, af, none⟩ :: rest) L w := by
  intro a hs
  refine wpList_plain rfl fun K hK => ?_
  have key : (execOp a.eval ⟨d, .panic x, ty, ps, af, none⟩).run P w = .halt (.panic (.iface t v)) w := by
    simp only [execOp, hx a N hs rfl]; rw [Sem.run_bind, run_panic_iface]; rfl
  simp only [Oper.wp, key, Oper.upon_panic]
  exact h a hs
/-- A call of what reads a part. -/
theorem RL.callR {d : Nat} {f : FuncId} {xs : List Operand} {vs : List Value} (ct : ∀ args w, (callFunc f args).run P w = .ok (.enter f args) w) (hx : Opds L true xs vs) (hc : Calls P f vs.toArray w (PPost w0 M0 M Rs T F r)) (hd : Nat.blt d N = true)
    (her : ∀ ec p M' w', r = .er ec p → St w0 M0 w' M' Rs → M.le M' → ∀ a, Slots a N L → Q (.panic [wrongE T ec p]) a w')
    (hok : ∀ x j v M' w', r = .ok x j → F x j v M' w' → M.le M' → RL P ops Q N rest ((d, true, v) :: L) w') : RL P ops Q N (⟨some d, .call ⟨.value (.func f), xs.toArray, tys⟩, ty, ps, af, none⟩ :: rest) L w := by
  intro a hs
  refine wpList_plain rfl fun K hK => ?_
  simp only [Oper.wp, call_run ct hx hs rfl, Oper.upon_enter]
  refine hc.mono fun e w' h => ?_
  cases r with
  | ok x j => obtain ⟨v, M', rfl, hf, hle⟩ := h; exact hK _ _ (hok x j v M' w' rfl hf hle _ (hs.put hd true v))
  | er ec p => obtain ⟨M', rfl, hS, hle⟩ := h; exact her ec p M' w' rfl hS hle a hs
/-- .. of a closure. -/
theorem RL.callRC {d : Nat} {f : FuncId} {x : Operand} {xs : List Operand} {vs fs cs : List Value} (ct : ∀ args w, (callFunc f args).run P w = .ok (.enter f args) w) (hf : Opd L true x (.func (.func f) fs.toArray cs.toArray)) (hx : Opds L true xs vs)
    (hc : Calls P f (fs ++ vs ++ cs).toArray w (PPost w0 M0 M Rs T F r)) (hd : Nat.blt d N = true)
    (her : ∀ ec p M' w', r = .er ec p → St w0 M0 w' M' Rs → M.le M' → ∀ a, Slots a N L → Q (.panic [wrongE T ec p]) a w')
    (hok : ∀ x j v M' w', r = .ok x j → F x j v M' w' → M.le M' → RL P ops Q N rest ((d, true, v) :: L) w') : RL P ops Q N (⟨some d, .call ⟨.value x, xs.toArray, tys⟩, ty, ps, af, none⟩ :: rest) L w := by
  intro a hs
  refine wpList_plain rfl fun K hK => ?_
  simp only [Oper.wp, clo_run ct hf hx hs rfl, Oper.upon_enter]
  refine hc.mono fun e w' h => ?_
  cases r with
  | ok x j => obtain ⟨v, M', rfl, hf, hle⟩ := h; exact hK _ _ (hok x j v M' w' rfl hf hle _ (hs.put hd true v))
  | er ec p => obtain ⟨M', rfl, hS, hle⟩ := h; exact her ec p M' w' rfl hS hle a hs
/-- A call that ends in a panic. -/
theorem RL.callF {d : Nat} {f : FuncId} {xs : List Operand} {vs : List Value} {ec p : Int} (ct : ∀ args w, (callFunc f args).run P w = .ok (.enter f args) w) (hx : Opds L true xs vs) (hc : Calls P f vs.toArray w (fun e w' => e = .panicked [wrongE T ec p] ∧ w' = w))
    (her : ∀ a, Slots a N L → Q (.panic [wrongE T ec p]) a w) : RL P ops Q N (⟨some d, .call ⟨.value (.func f), xs.toArray, tys⟩, ty, ps, af, none⟩ :: rest) L w := by
  intro a hs
  refine wpList_plain rfl fun K hK => ?_
  simp only [Oper.wp, call_run ct hx hs rfl, Oper.upon_enter]
  refine hc.mono fun e w' h => ?_
  obtain ⟨rfl, rfl⟩ := h
  exact her a hs
end
end Go.Eng
namespace Go.Eng
open Go.RowKit
theorem wpOpsS_of_wpList {P : Program} {ops : Array Oper} {Q : Exit → Act → List Frame → World → Prop} {cs : List Frame} (hq : ¬ LetsOut (fun e a w => Q e a cs w)) (l : List Oper) :
    ∀ (k : Nat), (∀ j, l[j]? = ops[k + j]?) → ∀ a w, wpList P ops (fun e a w => Q e a cs w) l a w → wpOpsS P ops Q (List.range' k l.length) a cs w := by
  induction l with
  | nil => intro k _ a w h; exact h
  | cons o l ih =>
    intro k hk a w h
    have h0 : ops[k]? = some o := by simpa using (hk 0).symm
    have ih' := ih (k + 1) (fun j => by have := hk (j + 1); simpa [Nat.add_assoc, Nat.add_comm 1 j] using this)
    simp only [List.length_cons, List.range'_succ, wpOpsS, h0]
    unfold wpList at h
    by_cases hw : Region.wanted o (yielded ops a.tmps) = true
    · rw [if_pos hw] at h ⊢
      have h1 := (h.resolve_right fun hh => hq hh.2)
      have h2 := Oper.wp_mono (fun a' w' hh => ih' a' w' hh) h1
      unfold Oper.wp at h2
      split
      · rename_i w' he; rw [he] at h2; exact h2.elim
      · exact h2
    · rw [if_neg hw] at h ⊢
      exact ih' _ _ h
/-- A region that begins with recover. -/
theorem wpS_recovers {P : Program} {Q : Exit → Act → List Frame → World → Prop} {cs cs' : List Frame} {id : Nat} {o0 : Oper} {l : List Oper} {a : Act} {w : World} {v : Value} (hg : o0.guard = none) (hrun : (execOp a.eval o0).run P w = .ok .recover w)
    (hrec : recoverD cs = some (v, cs') ∨ (recoverD cs = none ∧ v = .nilIface ∧ cs' = cs)) (hq : ¬ LetsOut (fun e a w => Q e a cs' w)) (h : wpList P (o0 :: l).toArray (fun e a w => Q e a cs' w) l (a.put o0.dst v) w) :
    (Code.region id (o0 :: l).toArray false).wpS P Q a cs w := by
  refine wpS_region ?_
  have hw : Region.wanted o0 (yielded (o0 :: l).toArray a.tmps) = true := by unfold Region.wanted; rw [hg]
  have h1 := wpOpsS_of_wpList (ops := (o0 :: l).toArray) hq l 1 (fun j => by simp [Nat.add_comm 1 j]) _ _ h
  rw [show List.range (o0 :: l).toArray.size = 0 :: List.range' 1 l.length from by simp [List.range_eq_range', List.range'_succ]]
  unfold wpOpsS
  rw [show (o0 :: l).toArray[0]? = some o0 from by simp]
  dsimp only
  rw [if_pos hw, hrun]
  dsimp only
  rcases hrec with hr | ⟨hr, rfl, rfl⟩
  · rw [hr]; exact h1
  · rw [hr]; exact h1
section
variable {P : Program} {C : World → Prop} {L : Env} {W : Bool} {d : Option Tmp} {ty : TypeId} {ps : String} {af : Array Edge} {gd : Option (Nat × Bool)}
theorem PV.asserts {xt t : TypeId} {x : Operand} {v : Value} {fs : Array Field} (hx : Opd L W x (.iface t v)) (ht : P.underlying t = some (.struct fs)) : PV P C L W ⟨d, .typeAssert x xt t true, ty, ps, af, gd⟩ (.tuple #[v, .bool true]) :=
  .un (f := fun u => Instr.typeAssert u xt t true) (fun _ => rfl) hx fun _ w _ => by
    simp only [Instr.typeAssert, Sem.run_bind, run_underlying ht, Result.andThen_ok]
    simp [Sem.run_pure]
theorem PV.assertsNo {xt t : TypeId} {x : Operand} {z : Value} {fs : Array Field} (hx : Opd L W x .nilIface) (ht : P.underlying t = some (.struct fs)) (hz : ∀ w, (zeroValue t).run P w = .ok z w) : PV P C L W ⟨d, .typeAssert x xt t true, ty, ps, af, gd⟩ (.tuple #[z, .bool false]) :=
  .un (f := fun u => Instr.typeAssert u xt t true) (fun _ => rfl) hx fun _ w _ => by
    simp only [Instr.typeAssert, Sem.run_bind, run_underlying ht, Result.andThen_ok]
    simp [Sem.run_bind, Sem.run_pure, hz]
end
/-- What recover finds in a frame of this mode, and how it leaves it. -/
def recMode : FrameMode → Value × FrameMode
  | .panicking ({ v, recovered := false, goexit := false } :: older) => (v, .panicking ({ v, recovered := true } :: older))
  | u => (.nilIface, u)
theorem recoverD_mode (c : Frame) (cs : List Frame) : recoverD (c :: cs) = some ((recMode c.mode).1, { c with mode := (recMode c.mode).2 } :: cs) ∨ (recoverD (c :: cs) = none ∧ (recMode c.mode).1 = .nilIface ∧ { c with mode := (recMode c.mode).2 } :: cs = c :: cs) := by
  obtain ⟨_, _, _, _, m, _, _⟩ := c
  cases m with
  | panicking ch =>
    cases ch with
    | nil => exact .inr ⟨rfl, rfl, rfl⟩
    | cons p older =>
      obtain ⟨v, r, g⟩ := p
      cases r <;> cases g <;> first | exact .inl rfl | exact .inr ⟨rfl, rfl, rfl⟩
  | _ => exact .inr ⟨rfl, rfl, rfl⟩
/-- A deferred closure without results, whose body begins with recover. -/
theorem enterS {P : Program} {f : FuncId} {fn : Func} {id d N : Nat} {o0 : Oper} {l : List Oper} {y : Code} {vs : List Value} {u : FrameMode} {w : World} {S : World → Prop} (hf : P.funcs[f]? = some fn) (hb : fn.body = some (.seq (.region id (o0 :: l).toArray false) y)) (hn : fn.ntmps = N) (hl : vs.length ≤ N)
    (hres : fn.results = #[]) (hg : o0.guard = none) (hd : o0.dst = some d) (hdN : Nat.blt d N = true) (hrun : ∀ (a : Act) w, (execOp a.eval o0).run P w = .ok .recover w)
    (h : ∀ (K : Act → World → Prop) (Q : Exit → Act → World → Prop), (∀ a w', y.wp P Q a w' → K a w') → (∀ a w', a.defers = [] → S w' → Q .normal a w') → RL P (o0 :: l).toArray (Exit.then K Q) N l ((d, true, (recMode u).1) :: envOf 0 vs) w) :
    CallsD P f vs.toArray u w (fun e u' w' => e = .returned (.tuple #[]) ∧ u' = (recMode u).2 ∧ S w') := by
  refine callsD_of_wpS hf hb fun c₀ cs hu => wpS_seq ?_
  subst hu
  have hs := Slots.enter vs N hl
  rw [← hn] at hs
  refine wpS_recovers hg (hrun _ _) (recoverD_mode c₀ cs) ?_ ?_
  · rintro ⟨a, w', h1⟩
    obtain ⟨u', h2, _⟩ := h1
    cases h2
  · subst hn
    have hput := hs.put hdN true (recMode c₀.mode).1
    rw [hd]
    have hh := h (fun a w' => y.wpS P (bodyPostS P fn c₀ cs (fun e u' w' => e = .returned (.tuple #[]) ∧ u' = (recMode c₀.mode).2 ∧ S w')) a ({ c₀ with mode := (recMode c₀.mode).2 } :: cs) w')
      (fun e a w' => bodyPostS P fn c₀ cs (fun e u' w' => e = .returned (.tuple #[]) ∧ u' = (recMode c₀.mode).2 ∧ S w') e a ({ c₀ with mode := (recMode c₀.mode).2 } :: cs) w')
      (fun a w' h1 => wpS_of_wp h1) (fun a w' h1 h2 => ⟨h1, _, rfl, _, results_none hres _ _ _, rfl, rfl, h2⟩) _ hput
    refine Eq.mp ?_ hh
    congr 1
    funext e a w'
    cases e <;> rfl
end Go.Eng
namespace Go.Eng
open Go.RowKit
/-- With these deferred calls besides. -/
def appD (D : List Deferred) (a : Act) : Act := ⟨a.tmps, a.defers ++ D⟩
theorem appD_eval (D : List Deferred) (a : Act) : (appD D a).eval = a.eval := by funext x; cases x <;> rfl
theorem appD_put (D : List Deferred) (a : Act) (d : Option Tmp) (v : Value) : (appD D a).put d v = appD D (a.put d v) := by cases d <;> rfl
section
variable {P : Program} {ops : Array Oper} {D : List Deferred} {Q : Exit → Act → World → Prop} {N : Nat} {L : Env} {w : World}
theorem upon_app {o : Oper} {a : Act} {n n' : Act → World → Prop} (hn : ∀ a w, n' a w → n (appD D a) w) (r : Result Next) (h : o.upon P a n' (fun e a w => Q e (appD D a) w) r) : o.upon P (appD D a) n Q r := by
  cases r with
  | ok x w' =>
    cases x with
    | value v => rw [Oper.upon_value] at h ⊢; rw [appD_put]; exact hn _ _ h
    | skip => rw [Oper.upon_skip] at h ⊢; rw [appD_put]; exact hn _ _ h
    | defer d =>
      rw [Oper.upon_defer] at h ⊢
      have e : ({ appD D a with defers := d :: (appD D a).defers } : Act) = appD D { a with defers := d :: a.defers } := rfl
      rw [e, appD_put]; exact hn _ _ h
    | enter f args =>
      rw [Oper.upon_enter] at h ⊢
      refine h.mono fun e w'' he => ?_
      cases e with
      | returned v => dsimp only at he ⊢; rw [appD_put]; exact hn _ _ he
      | panicked ch => exact he
      | outgrown => obtain ⟨a2, w2, h2⟩ := he; exact ⟨_, _, h2⟩
    | row r args =>
      rw [Oper.upon_row] at h ⊢
      exact Rows.mono h fun v w'' he => by rw [appD_put]; exact hn _ _ he
    | _ => exact h.elim
  | halt x w' =>
    cases x with
    | panic v => exact h
    | _ => exact h.elim
theorem wpList_app (l : List Oper) : ∀ (a : Act) (w : World), wpList P ops (fun e a w => Q e (appD D a) w) l a w → wpList P ops Q l (appD D a) w := by
  induction l with
  | nil => intro a w h; exact h
  | cons o l ih =>
    intro a w h
    unfold wpList at h ⊢
    show if Region.wanted o (yielded ops a.tmps) = true then _ else _
    by_cases hw : Region.wanted o (yielded ops a.tmps) = true
    · rw [if_pos hw] at h ⊢
      rcases h with h | ⟨ha, a2, w2, h2⟩
      · left
        unfold Oper.wp at h ⊢
        rw [appD_eval]
        exact upon_app ih _ h
      · right
        refine ⟨?_, _, _, h2⟩
        unfold Oper.asks at ha ⊢
        rw [appD_eval]; exact ha
    · rw [if_neg hw] at h ⊢
      rw [appD_put]; exact ih _ _ h
/-- As CW, with these deferred calls besides. -/
def CWD (P : Program) (D : List Deferred) (c : Code) (Q : Exit → Act → World → Prop) (N : Nat) (L : Env) (w : World) : Prop := ∀ a, Slots a N L → c.wp P Q (appD D a) w
theorem CWD.seq {x y : Code} (h : CWD P D x (Exit.then (y.wp P Q) Q) N L w) : CWD P D (.seq x y) Q N L w := fun a hs => wp_seq (h a hs)
theorem CWD.region {id : Nat} {l : List Oper} (h : RL P l.toArray (fun e a w => Q e (appD D a) w) N l L w) : CWD P D (.region id l.toArray false) Q N L w := fun a hs => wp_region_lit (wpList_app _ _ _ (h a hs))
theorem CWD.sr {id : Nat} {l : List Oper} {y : Code} (h : RL P l.toArray (fun e a w => Exit.then (y.wp P Q) Q e (appD D a) w) N l L w) : CWD P D (.seq (.region id l.toArray false) y) Q N L w := CWD.seq (CWD.region h)
theorem CWD.cond {c : Nat} {x y : Code} {b : Bool} (hc : look L c = some (true, .bool b)) (ht : b = true → CWD P D x Q N L w) (hf : b = false → CWD P D y Q N L w) : CWD P D (.cond (.tmp c) x y) Q N L w :=
  fun a hs => wp_cond_split (show (appD D a).eval (.tmp c) = .bool b from by rw [appD_eval]; exact hs.get hc) (fun hb => ht hb a hs) (fun hb => hf hb a hs)
theorem CWD.skip (h : ∀ a, Slots a N L → Q .normal (appD D a) w) : CWD P D .skip Q N L w := fun a hs => wp_skip (h a hs)
theorem CWD.ret (h : ∀ a, Slots a N L → Q .ret (appD D a) w) : CWD P D .ret Q N L w := fun a hs => wp_ret (h a hs)
theorem CWD.id {y : Code} {Q' : Exit → Act → World → Prop} (h : CWD P D y Q' N L w) : ∀ a, Slots a N L → y.wp P Q' (appD D a) w := h
theorem CWD.at {y : Code} {Q' : Exit → Act → World → Prop} (L' : Env) (hk : Eng.keep (keysOf L') L = L') (h : CWD P D y Q' N L' w) : ∀ a, Slots a N L → y.wp P Q' (appD D a) w := fun a hs => h a (hk ▸ hs.keep _)
/-- The ends of a body that defers. -/
structure EndsD (P : Program) (fn : Func) (R : Ending → World → Prop) (Q : Exit → Act → World → Prop) : Prop where
  all : ∀ e a w, bodyPostD P fn R e a w → Q e a w
theorem CWD.enter {f : FuncId} {fn : Func} {c : Code} {vs : List Value} {R : Ending → World → Prop} (hf : P.funcs[f]? = some fn) (hb : fn.body = some c) (hn : fn.ntmps = N) (hl : vs.length ≤ N)
    (h : ∀ Q, EndsD P fn R Q → CW P c Q N (envOf 0 vs) w) : Calls P f vs.toArray w R :=
  calls_of_wp_defers hf hb (by rw [hn]; exact h _ ⟨fun _ _ _ h => h⟩ _ (Slots.enter vs N hl))
theorem EndsD.p {fn : Func} {R : Ending → World → Prop} {ch : List PanicEntry} (E : EndsD P fn R Q) (h : ∀ a, Slots a N L → Leaves P fn a.tmps R D (.panicking ch) w) : ∀ a, Slots a N L → Q (.panic ch) (appD D a) w :=
  fun a hs => E.all _ _ _ (by show Leaves P fn a.tmps R (a.defers ++ D) _ w; rw [hs.dfr]; exact h a hs)
theorem EndsD.r {fn : Func} {R : Ending → World → Prop} (E : EndsD P fn R Q) (h : ∀ a, Slots a N L → Leaves P fn a.tmps R D .returning w) : ∀ a, Slots a N L → Q .ret (appD D a) w :=
  fun a hs => E.all _ _ _ (by show Leaves P fn a.tmps R (a.defers ++ D) _ w; rw [hs.dfr]; exact h a hs)
/-- The defer of a closure, last in its region. -/
theorem RL.defer {f : FuncId} {x : Operand} {cs : List Value} {tys : Array TypeId} {ty : TypeId} {ps : String} {af : Array Edge} (hx : Opd L true x (.func (.func f) #[] cs.toArray)) (h : RL P ops (fun e a w => Q e (appD [{ target := .fn (.func f) cs.toArray, args := #[] }] a) w) N [] L w) :
    RL P ops Q N [⟨none, .defer ⟨.value x, #[], tys⟩, ty, ps, af, none⟩] L w := by
  intro a hs
  refine wpList_plain rfl fun K hK => ?_
  have key : (execOp a.eval ⟨none, .defer ⟨.value x, #[], tys⟩, ty, ps, af, none⟩).run P w = .ok (.defer { target := .fn (.func f) cs.toArray, args := #[] }) w := by
    simp only [execOp, resolve, hx a N hs rfl, Deferred.ofValue, Sem.run_bind, Sem.run_pure, Result.andThen_ok]
    simp
  simp only [Oper.wp, key, Oper.upon_defer]
  have h1 := h a hs
  refine hK _ _ ?_
  show Q .normal (Act.put { a with defers := _ :: a.defers } none undef) w
  rw [hs.dfr]
  have h2 : Q .normal (appD [{ target := .fn (.func f) cs.toArray, args := #[] }] a) w := h1
  unfold appD at h2
  rw [hs.dfr] at h2
  exact h2
/-- One deferred closure, that comes back: the frame leaves in the mode in which it left it. -/
theorem leaves_one {fn : Func} {R : Ending → World → Prop} {f : FuncId} {tmps : Array Value} {cs : List Value} {u : FrameMode} {S : World → Prop} (ct : ∀ args w, (callFunc f args).run P w = .ok (.enter f args) w) (hu : u ≠ .run) (hm : settle (recMode u).2 = .returning)
    (hc : CallsD P f cs.toArray u w (fun e u' w' => e = .returned (.tuple #[]) ∧ u' = (recMode u).2 ∧ S w')) (h : ∀ w', S w' → ∃ v, (results fn tmps).run P w' = .ok v w' ∧ R (.returned v) w') :
    Leaves P fn tmps R [{ target := .fn (.func f) cs.toArray, args := #[] }] u w := by
  refine leaves_cons hu (args := cs.toArray) (f := f) (by simp [invoke, go_sem, ct]) (hc.mono ?_)
  rintro e u' w' ⟨rfl, rfl, hS⟩
  show Leaves P fn tmps R [] (settle (recMode u).2) w'
  rw [hm]
  exact h w' hS
theorem res3 {fn : Func} {r s t : ResultVar} {v u x : Value} {a : Act} (hr : fn.results = #[r, s, t]) (hs : Slots a N L) (h1 : RV P L w r v) (h2 : RV P L w s u) (h3 : RV P L w t x) : (results fn a.tmps).run P w = .ok (.tuple #[v, u, x]) w := by
  rw [results_eq, hr]
  simp [List.mapM_cons, Sem.run_bind, h1.run hs, h2.run hs, h3.run hs]
end
end Go.Eng
namespace Go.Eng
open Go.RowKit

def isFigB (b : UInt8) : Bool := isFig (b.toNat : Int)
def zeros (n : Int) : Str := List.replicate n.toNat 48
/-- The place behind the figures from a place on. -/
def runTo (s : Str) (i : Int) : Int := i + len ((from' s i).takeWhile isFigB)
def dropZ (s : Str) : Str := s.dropWhile (([48] : Str).contains ·)
def trimZ (s : Str) : Str := Lib.trimRightS s [48]
def decVal (s : Str) : Int := s.foldl (fun n b => n * 10 + ((b.toNat : Int) - 48)) 0

theorem from_cons (s : Str) (i : Int) (h0 : 0 ≤ i) (h1 : i < len s) : ∃ b, from' s i = b :: from' s (i + 1) ∧ byteAt s i = (b.toNat : Int) := by
  have h : i.toNat < s.length := by unfold len at h1; omega
  refine ⟨s[i.toNat], ?_, by simp [byteAt, h]⟩
  unfold from'
  rw [show (i + 1).toNat = i.toNat + 1 from by omega]
  exact List.drop_eq_getElem_cons h
theorem from_nil (s : Str) (i : Int) (h1 : len s ≤ i) : from' s i = [] := by
  unfold from'; rw [List.drop_eq_nil_iff]; unfold len at h1; omega
theorem from_len (s : Str) (i : Int) (h0 : 0 ≤ i) (h1 : i ≤ len s) : len (from' s i) = len s - i := by
  unfold from' len at *; rw [List.length_drop]; omega
theorem runTo_step {s : Str} {i : Int} (h0 : 0 ≤ i) (h1 : i < len s) (h : isFig (byteAt s i) = true) : runTo s (i + 1) = runTo s i := by
  obtain ⟨b, h2, h3⟩ := from_cons s i h0 h1
  unfold runTo
  rw [h2, List.takeWhile_cons, show isFigB b = true from by unfold isFigB; rw [← h3]; exact h]
  simp [len]; omega
theorem runTo_stop {s : Str} {i : Int} (h0 : 0 ≤ i) (h1 : i < len s) (h : isFig (byteAt s i) = false) : runTo s i = i := by
  obtain ⟨b, h2, h3⟩ := from_cons s i h0 h1
  unfold runTo
  rw [h2, List.takeWhile_cons, show isFigB b = false from by unfold isFigB; rw [← h3]; exact h]
  simp [len]
theorem runTo_end {s : Str} {i : Int} (h1 : len s ≤ i) : runTo s i = i := by
  unfold runTo; rw [from_nil s i h1]; simp [len]
theorem runTo_bd (s : Str) (i : Int) (h0 : 0 ≤ i) (h1 : i ≤ len s) : i ≤ runTo s i ∧ runTo s i ≤ len s := by
  have h2 := from_len s i h0 h1
  have h3 := (List.takeWhile_sublist isFigB (l := from' s i)).length_le
  unfold runTo len at *; omega
theorem runTo_fig {s : Str} {i k : Int} (h0 : 0 ≤ i) (h1 : i ≤ k) (h2 : k < runTo s i) : isFig (byteAt s k) = true := by
  by_cases hl : i < len s
  · by_cases hf : isFig (byteAt s i) = true
    · by_cases hk : i = k
      · subst hk; exact hf
      · rw [← runTo_step h0 hl hf] at h2
        exact runTo_fig (i := i + 1) (by omega) (by omega) h2
    · rw [Bool.not_eq_true] at hf
      rw [runTo_stop h0 hl hf] at h2; omega
  · rw [runTo_end (by omega)] at h2; omega
termination_by (len s - i).toNat
theorem runTo_behind {s : Str} {i : Int} (h0 : 0 ≤ i) (h1 : i ≤ len s) (h2 : runTo s i < len s) : isFig (byteAt s (runTo s i)) = false := by
  by_cases hl : i < len s
  · by_cases hf : isFig (byteAt s i) = true
    · rw [← runTo_step h0 hl hf] at h2 ⊢
      exact runTo_behind (i := i + 1) (by omega) (by omega) h2
    · rw [Bool.not_eq_true] at hf
      rw [runTo_stop h0 hl hf]; exact hf
  · rw [runTo_end (by omega)] at h2; omega
termination_by (len s - i).toNat

/-- A1: a number of figures and a power. -/
def mk1 (neg : Bool) (s : Str) (e : Int) : Nd × Int :=
  if figs s then
    if dropZ s == [] then (⟨3, 0, [], [], false, 0⟩, 0)
    else if decide (e < -100000000) || decide (100000000 < e) then (noNd, 2)
    else
      if decide (100 < len (trimZ (dropZ s))) || decide (e + (len (dropZ s) - len (trimZ (dropZ s))) < -1000) || decide (1000 < len (trimZ (dropZ s)) + (e + (len (dropZ s) - len (trimZ (dropZ s))))) then (noNd, 2)
      else (⟨3, 0, [], trimZ (dropZ s), neg, e + (len (dropZ s) - len (trimZ (dropZ s)))⟩, 0)
  else (noNd, 4)

/-- A2: a number's text. -/
def print1 (n : Nd) : Str :=
  let sign : Str := if n.neg then [45] else []
  if n.s == [] then [48]
  else if decide (0 ≤ n.e) && decide (len n.s + n.e ≤ 20) then sign ++ n.s ++ zeros n.e
  else if decide (n.e < 0) && decide (-20 ≤ n.e) then
    let s := zeros (1 - n.e - len n.s) ++ n.s
    sign ++ Eng.sub s 0 (len s + n.e) ++ [46] ++ from' s (len s + n.e)
  else sign ++ n.s ++ [101] ++ Lib.itoa n.e
theorem zeros_neg {n : Int} (h : n ≤ 0) : zeros n = [] := by unfold zeros; rw [show n.toNat = 0 from by omega]; rfl
theorem zeros_len (n : Int) (h : 0 ≤ n) : len (zeros n) = n := by unfold zeros len; rw [List.length_replicate]; omega
theorem zeros_len' (d : Int) : 0 ≤ len (zeros d) ∧ d ≤ len (zeros d) ∧ (len (zeros d) ≤ 0 ∨ len (zeros d) = d) := by unfold zeros len; rw [List.length_replicate]; omega
theorem zeros_max (d : Int) : zeros (if 0 > d then 0 else d) = zeros d := by
  split
  · rw [zeros_neg (n := d) (by omega)]; rfl
  · rfl
theorem len_app {α : Type} (a b : List α) : len (a ++ b) = len a + len b := by unfold len; simp
theorem len_cons {α : Type} (a : α) (b : List α) : len (a :: b) = len b + 1 := by unfold len; simp
theorem from_one {α : Type} (a : α) (b : List α) : from' (a :: b) 1 = b := rfl
theorem len_nil {α : Type} : len ([] : List α) = 0 := rfl
theorem sub_bd {α : Type} (s : List α) (i j : Int) : 0 ≤ len (Eng.sub s i j) ∧ len (Eng.sub s i j) ≤ len s := by unfold Eng.sub len; simp; omega
theorem sub_len {α : Type} {s : List α} {i j : Int} (h0 : 0 ≤ i) (h1 : i ≤ j) (h2 : j ≤ len s) : len (Eng.sub s i j) = j - i := by unfold Eng.sub len at *; simp; omega
theorem from_bd {α : Type} (s : List α) (i : Int) : 0 ≤ len (from' s i) ∧ len (from' s i) ≤ len s := by unfold from' len; simp
theorem dropZ_len (s : Str) : len (dropZ s) ≤ len s := by
  have := (List.dropWhile_sublist (([48] : Str).contains ·) (l := s)).length_le
  unfold dropZ len; omega
theorem trimZ_len (s : Str) : len (trimZ s) ≤ len s := by
  have := (List.dropWhile_sublist (([48] : Str).contains ·) (l := s.reverse)).length_le
  unfold trimZ Lib.trimRightS len; simp at *; omega

theorem dropWhile_nil {α : Type} {p : α → Bool} : ∀ {l : List α}, l.dropWhile p = [] → ∀ x ∈ l, p x = true
  | [], _, x, hx => by cases hx
  | a :: l, h, x, hx => by
    rw [List.dropWhile_cons] at h
    split at h
    · rename_i ha
      rcases List.mem_cons.1 hx with rfl | hx
      · exact ha
      · exact dropWhile_nil h x hx
    · cases h
theorem dropZ_first {s : Str} {b : UInt8} {l : Str} (h : dropZ s = b :: l) : (([48] : Str).contains b) = false := by
  unfold dropZ at h
  induction s with
  | nil => cases h
  | cons a s ih =>
    rw [List.dropWhile_cons] at h
    split at h
    · exact ih h
    · rename_i hn; cases h; simpa using hn
theorem trimZ_pos (s : Str) : ¬ dropZ s = [] → 0 < len (trimZ (dropZ s)) := by
  intro h
  cases hd : dropZ s with
  | nil => exact absurd hd h
  | cons b l =>
    have hb := dropZ_first hd
    have : trimZ (b :: l) ≠ [] := by
      unfold trimZ Lib.trimRightS
      intro hr
      rw [List.reverse_eq_nil_iff] at hr
      have := dropWhile_nil hr b (by simp)
      rw [this] at hb; cases hb
    unfold len
    have := List.length_pos_iff.2 this
    omega

theorem decDigits_len (u : Nat) : (Lib.decDigits u).length ≤ u + 1 := by
  induction u using Nat.strongRecOn with
  | _ u ih =>
    rw [Lib.decDigits]
    split
    · simp
    · have := ih (u / 10) (by omega)
      simp only [List.length_append, List.length_cons, List.length_nil]; omega
theorem itoa_len (n : Int) : 0 ≤ len (Lib.itoa n) ∧ len (Lib.itoa n) ≤ n.natAbs + 2 := by
  unfold Lib.itoa len
  have h1 := decDigits_len n.natAbs
  have h2 := decDigits_len n.toNat
  split
  · simp only [List.length_cons]; omega
  · omega

/-- Does one of some signs stand at a place? -/
def isAt (s signs : Str) (p : Int) : Bool := decide (p < len s) && decide (0 ≤ Lib.indexByte signs (byteAt s p).toNat.toUInt8)
def isTo (s signs : Str) (p : Int) : Int := if isAt s signs p then p + 1 else p
theorem isAt_lt {s signs : Str} {p : Int} (h : isAt s signs p = true) : p < len s := by unfold isAt at h; simp only [Bool.and_eq_true, decide_eq_true_eq] at h; exact h.1
theorem isTo_bd (s signs : Str) (p : Int) (h : p ≤ len s) : p ≤ isTo s signs p ∧ isTo s signs p ≤ len s := by
  unfold isTo; split
  · rename_i h1; have := isAt_lt h1; omega
  · omega
theorem isTo_yes {s signs : Str} {p : Int} (h : isAt s signs p = true) : isTo s signs p = p + 1 := by unfold isTo; rw [if_pos h]
theorem isTo_no {s signs : Str} {p : Int} (h : isAt s signs p = false) : isTo s signs p = p := by unfold isTo; rw [if_neg (by rw [h]; simp)]
/-- A2: a number of a sign, figures, a power and what stands behind e. -/
def fin1 (neg : Bool) (fg : Str) (x : Int) (pw : Str) (side : Int) : Nd × Int × Int :=
  if 6 < len (dropZ pw) then (noNd, 0, 2)
  else ((mk1 neg fg (x + side * decVal (dropZ pw))).1, 0, (mk1 neg fg (x + side * decVal (dropZ pw))).2)
/-- Behind e. -/
def exp1 (s : Str) (neg : Bool) (fg : Str) (x : Int) (c0 : Int) : Nd × Int × Int :=
  let m := isAt s [45] c0
  let c1 := if m then isTo s [45] c0 else isTo s [43] (isTo s [45] c0)
  let c2 := runTo s c1
  let pw := Eng.sub s c1 c2
  if pw = [] ∨ c2 < len s then (noNd, c2, 1) else fin1 neg fg x pw (if m then -1 else 1)
/-- Behind the figures. -/
def rest1 (s : Str) (neg : Bool) (fg : Str) (x : Int) (b : Int) : Nd × Int × Int :=
  if isAt s [101, 69] b then exp1 s neg fg x (isTo s [101, 69] b)
  else if isTo s [101, 69] b < len s then (noNd, isTo s [101, 69] b, 1) else fin1 neg fg x [] 1
/-- A2: a text's number; or where it is none. -/
def read1 (s : Str) : Nd × Int × Int :=
  let neg := isAt s [45] 0
  let a0 := isTo s [45] 0
  let b0 := runTo s a0
  let fg := Eng.sub s a0 b0
  if 1 < len fg ∧ byteAt fg 0 = 48 then (noNd, a0 + 1, 1)
  else if fg = [] then (noNd, b0, 1)
  else if isAt s [46] b0 then
    let b2 := runTo s (isTo s [46] b0)
    let part := Eng.sub s (isTo s [46] b0) b2
    if part = [] then (noNd, b2, 1) else rest1 s neg (fg ++ part) (-(len part)) b2
  else rest1 s neg fg 0 (isTo s [46] b0)
theorem sub_run {s : Str} {i : Int} (h0 : 0 ≤ i) : Eng.sub s i (runTo s i) = (from' s i).takeWhile isFigB := by
  have h1 : (runTo s i).toNat - i.toNat = ((from' s i).takeWhile isFigB).length := by unfold runTo len; omega
  unfold Eng.sub; rw [h1]
  exact (List.prefix_iff_eq_take.1 (List.takeWhile_prefix isFigB)).symm
theorem takeWhile_all {α : Type} {p : α → Bool} : ∀ {l : List α}, ∀ x ∈ l.takeWhile p, p x = true
  | [], x, hx => by cases hx
  | a :: l, x, hx => by
    rw [List.takeWhile_cons] at hx
    split at hx
    · rename_i ha
      rcases List.mem_cons.1 hx with rfl | hx
      · exact ha
      · exact takeWhile_all x hx
    · cases hx
theorem figs_run {s : Str} {i : Int} (h0 : 0 ≤ i) : ∀ b ∈ Eng.sub s i (runTo s i), isFigB b = true := by rw [sub_run h0]; exact takeWhile_all
theorem figs_drop {l : Str} (h : ∀ b ∈ l, isFigB b = true) : ∀ b ∈ dropZ l, isFigB b = true := fun b hb => h b ((List.dropWhile_sublist _).subset hb)
theorem decVal_bd : ∀ (l : Str) (n : Int), (∀ b ∈ l, isFigB b = true) → 0 ≤ n → 0 ≤ l.foldl (fun n b => n * 10 + ((b.toNat : Int) - 48)) n ∧ l.foldl (fun n b => n * 10 + ((b.toNat : Int) - 48)) n < (n + 1) * 10 ^ l.length
  | [], n, _, h0 => by simp; omega
  | a :: l, n, h, h0 => by
    have ha := h a (by simp)
    unfold isFigB isFig at ha
    simp only [Bool.and_eq_true, decide_eq_true_eq] at ha
    have := decVal_bd l (n * 10 + ((a.toNat : Int) - 48)) (fun b hb => h b (by simp [hb])) (by omega)
    rw [List.foldl_cons]
    refine ⟨this.1, Int.lt_of_lt_of_le this.2 ?_⟩
    have h1 : (n + 1) * 10 ^ (a :: l).length = ((n + 1) * 10) * 10 ^ l.length := by rw [List.length_cons, Int.pow_succ, Int.mul_comm (10 ^ l.length) 10, ← Int.mul_assoc]
    rw [h1]
    exact Int.mul_le_mul_of_nonneg_right (by omega) (Int.le_of_lt (Int.pow_pos (by decide : (0 : Int) < 10)))
theorem parse_figs : ∀ (l : Str) (n : Nat), (∀ b ∈ l, isFigB b = true) → (n + 1) * 10 ^ l.length ≤ 10000000 → Lib.parseUint10 n l = .ok (l.foldl (fun n b => n * 10 + ((b.toNat : Int) - 48)) (n : Int)).toNat
  | [], n, _, _ => by simp [Lib.parseUint10]
  | a :: l, n, h, hl => by
    have ha := h a (by simp)
    unfold isFigB isFig at ha
    simp only [Bool.and_eq_true, decide_eq_true_eq] at ha
    have hn : n < 10000000 := by
      have : (n + 1) * 1 ≤ (n + 1) * 10 ^ (a :: l).length := Nat.mul_le_mul_left _ (Nat.pow_pos (by decide))
      omega
    have ih := parse_figs l (n * 10 + (a.toNat - 48)) (fun b hb => h b (by simp [hb])) (by
      have h1 : (n + 1) * 10 ^ (a :: l).length = ((n + 1) * 10) * 10 ^ l.length := by rw [List.length_cons, Nat.pow_succ, Nat.mul_comm (10 ^ l.length) 10, ← Nat.mul_assoc]
      rw [h1] at hl
      exact Nat.le_trans (Nat.mul_le_mul_right _ (by omega)) hl)
    rw [Lib.parseUint10, if_pos (by omega), if_neg (by omega), if_neg (by omega), ih, List.foldl_cons]
    congr 3
    omega
theorem atoi_figs {l : Str} (h : ∀ b ∈ l, isFigB b = true) (hl : len l ≤ 6) : Lib.atoiAll ([48] ++ l) = .ok (decVal l) ∧ 0 ≤ decVal l ∧ decVal l < 1000000 := by
  have h1 := decVal_bd l 0 h (by omega)
  have h2 : (10 : Int) ^ l.length ≤ 10 ^ 6 := by
    have : (10 : Nat) ^ l.length ≤ 10 ^ 6 := Nat.pow_le_pow_right (by omega) (by unfold len at hl; omega)
    exact_mod_cast this
  have h3 := parse_figs l 0 h (by
    have : (10 : Nat) ^ l.length ≤ 10 ^ 6 := Nat.pow_le_pow_right (by omega) (by unfold len at hl; omega)
    omega)
  have h4 : 0 ≤ decVal l ∧ decVal l < 1000000 := by unfold decVal; omega
  refine ⟨?_, h4⟩
  show Lib.atoiAll (48 :: l) = _
  have hm : Lib.parseMag (48 :: l) = .ok (decVal l).toNat := by
    unfold Lib.parseMag
    rw [if_neg (by simp), Lib.parseUint10, if_pos (by decide), if_neg (by decide), if_neg (by decide)]
    exact h3
  unfold Lib.atoiAll
  dsimp only
  rw [if_neg (by decide : ¬ ((48 : UInt8).toNat = 43 ∨ (48 : UInt8).toNat = 45)), hm]
  dsimp only
  rw [if_neg (by omega), if_neg (by intro hh; exact absurd hh.1 (by decide)), if_neg (by decide)]
  congr 1; omega
end Go.Eng
