/-
  THE ENGINE, PART 6: ranging over a string; closures; calls that are handed objects of the caller's own. Over any program.
-/
import Derived.Test.YthdialbnlnjgpaaGreatDoorEngE
set_option linter.unusedVariables false
set_option linter.unusedSimpArgs false
namespace Go.Eng
open Go.RowKit

/-- The rune at a place, and how many bytes it has. -/
def runeAt (s : Str) (i : Int) : Int := ((Utf8.decode ⟨⟨s⟩⟩ i.toNat).1 : Nat)
def runeLen (s : Str) (i : Int) : Int := ((Utf8.decode ⟨⟨s⟩⟩ i.toNat).2 : Nat)

section rl
variable {P : Program} {ops : Array Oper} {Q : Exit → Act → World → Prop} {N : Nat} {rest : List Oper} {L : Env} {w0 w : World} {M0 M : Mem} {Hs : List HO} {d : Nat} {ty : TypeId} {ps : String} {af : Array Edge}
theorem RL.rangeS {t : TypeId} {x : Operand} {s : Str} (hS : St w0 M0 w M Hs) (hx : Opd L true x (str s)) (ht : P.underlying t = some .string) (hd : Nat.blt d N = true)
    (h : ∀ w' b, St w0 M0 w' M (.raw b (.stringIter ⟨⟨s⟩⟩ (0 : Int).toNat) :: Hs) → RL P ops Q N rest ((d, true, .pointer (some ⟨b, 0, none⟩)) :: L) w') : RL P ops Q N (⟨some d, .range t x, ty, ps, af, none⟩ :: rest) L w := by
  intro a hs
  refine wpList_plain rfl fun K hK => ?_
  have key : (execOp a.eval ⟨some d, .range t x, ty, ps, af, none⟩).run P w = .ok (.value (.pointer (some ⟨w.heap.size, 0, none⟩))) (w.alloc (.stringIter ⟨⟨s⟩⟩ 0)) := by
    simp only [execOp, hx a N hs rfl]; rw [Sem.run_bind, run_range_string w t _ ht]; rfl
  simp only [Oper.wp, key, Oper.upon_value]
  exact hK _ _ (h _ _ (hS.newRaw _) _ (hs.put hd true _))
theorem RL.nextS {x : Operand} {s : Str} {i b : Nat} {p : Int} (hS : St w0 M0 w M Hs) (hi : Hs[i]? = some (.raw b (.stringIter ⟨⟨s⟩⟩ p.toNat))) (hx : Opd L true x (.pointer (some ⟨b, 0, none⟩))) (hp : 0 ≤ p) (hd : Nat.blt d N = true)
    (h1 : p < len s → ∀ w', St w0 M0 w' M (Hs.set i (.raw b (.stringIter ⟨⟨s⟩⟩ (p + runeLen s p).toNat))) → RL P ops Q N rest ((d, true, .tuple #[.bool true, i64 p, .int .i32 (runeAt s p)]) :: L) w')
    (h2 : ¬ p < len s → RL P ops Q N rest ((d, true, .tuple #[.bool false]) :: L) w) : RL P ops Q N (⟨some d, .next x true, ty, ps, af, none⟩ :: rest) L w := by
  intro a hs
  refine wpList_plain rfl fun K hK => ?_
  have hh := (hS.obj hi).2.1
  by_cases hlt : p < len s
  · have hlt' : p.toNat < (ByteArray.mk ⟨s⟩).size := by show p.toNat < s.length; unfold len at hlt; omega
    have e1 : (p + runeLen s p).toNat = p.toNat + (Utf8.decode ⟨⟨s⟩⟩ p.toNat).2 := by unfold runeLen; omega
    have key : (Instr.next (.pointer (some ⟨b, 0, none⟩)) true ty).run P w = .ok (.tuple #[.bool true, i64 p, .int .i32 (runeAt s p)]) (setObjAt w b (.stringIter ⟨⟨s⟩⟩ (p + runeLen s p).toNat)) := by
      rw [e1]
      simp only [Instr.next, getObj, setObj, Sem.run_bind, Sem.run, hh, Result.andThen, hlt', if_true, setObjAt, runeAt, goInt, i64]
      simp [Int.toNat_of_nonneg hp, Sem.run, hh]
    have key2 : (execOp a.eval ⟨some d, .next x true, ty, ps, af, none⟩).run P w = .ok (.value (.tuple #[.bool true, i64 p, .int .i32 (runeAt s p)])) (setObjAt w b (.stringIter ⟨⟨s⟩⟩ (p + runeLen s p).toNat)) := by
      simp only [execOp, hx a N hs rfl]; rw [Sem.run_bind, key]; rfl
    simp only [Oper.wp, key2, Oper.upon_value]
    exact hK _ _ (h1 hlt _ (hS.setRaw hi _) _ (hs.put hd true _))
  · have hlt' : ¬ p.toNat < (ByteArray.mk ⟨s⟩).size := by show ¬ p.toNat < s.length; unfold len at hlt; omega
    have key : (Instr.next (.pointer (some ⟨b, 0, none⟩)) true ty).run P w = .ok (.tuple #[.bool false]) w := by
      simp [Instr.next, getObj, Sem.run, hh, hlt']
    have key2 : (execOp a.eval ⟨some d, .next x true, ty, ps, af, none⟩).run P w = .ok (.value (.tuple #[.bool false])) w := by
      simp only [execOp, hx a N hs rfl]; rw [Sem.run_bind, key]; rfl
    simp only [Oper.wp, key2, Oper.upon_value]
    exact hK _ _ (h2 hlt _ (hs.put hd true _))
/-- A closure that is called: what it has captured comes behind its arguments. -/
theorem clo_run {f : FuncId} (ct : ∀ args w, (callFunc f args).run P w = .ok (.enter f args) w) {W : Bool} {x : Operand} {xs : List Operand} {vs fs cs : List Value} (hf : Opd L W x (.func (.func f) fs.toArray cs.toArray)) (hx : Opds L W xs vs) {a : Act} {N : Nat} (hs : Slots a N L) (hW : W = true) {d : Option Tmp} {tys : Array TypeId} {ty : TypeId} {ps : String} {af : Array Edge} {gd : Option (Nat × Bool)} :
    (execOp a.eval ⟨d, .call ⟨.value x, xs.toArray, tys⟩, ty, ps, af, gd⟩).run P w = .ok (.enter f (fs ++ vs ++ cs).toArray) w := by
  have e : xs.toArray.map a.eval = vs.toArray := by rw [List.map_toArray, Opds.map hs hW xs vs hx]
  simp only [execOp, resolve, e, hf a N hs hW, Deferred.ofValue, invoke, Sem.run_bind, Sem.run_pure, Result.andThen_ok]
  simpa using ct (fs ++ vs ++ cs).toArray w
theorem RL.callC {f : FuncId} {x : Operand} {xs : List Operand} {vs fs cs : List Value} {tys : Array TypeId} {Post : Value → World → Prop}
    (ct : ∀ args w, (callFunc f args).run P w = .ok (.enter f args) w) (hf : Opd L true x (.func (.func f) fs.toArray cs.toArray)) (hx : Opds L true xs vs) (hc : Calls P f (fs ++ vs ++ cs).toArray w (fun e w' => ∃ v, e = .returned v ∧ Post v w')) (hd : Nat.blt d N = true)
    (h : ∀ v w', Post v w' → RL P ops Q N rest ((d, true, v) :: L) w') : RL P ops Q N (⟨some d, .call ⟨.value x, xs.toArray, tys⟩, ty, ps, af, none⟩ :: rest) L w := by
  intro a hs
  refine wpList_plain rfl fun K hK => ?_
  simp only [Oper.wp, clo_run ct hf hx hs rfl, Oper.upon_enter]
  refine hc.mono fun e w' ⟨v, he, hp⟩ => ?_
  subst he
  exact hK _ _ (h v w' hp _ (hs.put hd true v))
/-- .. that has no result that is kept. -/
theorem RL.callC0 {f : FuncId} {x : Operand} {xs : List Operand} {vs fs cs : List Value} {tys : Array TypeId} {Post : Value → World → Prop}
    (ct : ∀ args w, (callFunc f args).run P w = .ok (.enter f args) w) (hf : Opd L true x (.func (.func f) fs.toArray cs.toArray)) (hx : Opds L true xs vs) (hc : Calls P f (fs ++ vs ++ cs).toArray w (fun e w' => ∃ v, e = .returned v ∧ Post v w'))
    (h : ∀ v w', Post v w' → RL P ops Q N rest L w') : RL P ops Q N (⟨none, .call ⟨.value x, xs.toArray, tys⟩, ty, ps, af, none⟩ :: rest) L w := by
  intro a hs
  refine wpList_plain rfl fun K hK => ?_
  simp only [Oper.wp, clo_run ct hf hx hs rfl, Oper.upon_enter]
  refine hc.mono fun e w' ⟨v, he, hp⟩ => ?_
  subst he
  exact hK _ _ (h v w' hp _ hs)
theorem RL.callP0 {f : FuncId} {xs : List Operand} {vs : List Value} {tys : Array TypeId} {Post : Value → World → Prop}
    (ct : ∀ args w, (callFunc f args).run P w = .ok (.enter f args) w) (hx : Opds L true xs vs) (hc : Calls P f vs.toArray w (fun e w' => ∃ v, e = .returned v ∧ Post v w'))
    (h : ∀ v w', Post v w' → RL P ops Q N rest L w') : RL P ops Q N (⟨none, .call ⟨.value (.func f), xs.toArray, tys⟩, ty, ps, af, none⟩ :: rest) L w := by
  intro a hs
  refine wpList_plain rfl fun K hK => ?_
  simp only [Oper.wp, call_run ct hx hs rfl, Oper.upon_enter]
  refine hc.mono fun e w' ⟨v, he, hp⟩ => ?_
  subst he
  exact hK _ _ (h v w' hp _ hs)
end rl
theorem PV.makeFunc {P : Program} {C : World → Prop} {L : Env} {W : Bool} {d : Option Tmp} {ty : TypeId} {ps : String} {af : Array Edge} {gd : Option (Nat × Bool)} {fn : Fn} {xs ys : List Operand} {vs us : List Value} (hx : Opds L W xs vs) (hy : Opds L W ys us) : PV P C L W ⟨d, .makeFunc fn xs.toArray ys.toArray, ty, ps, af, gd⟩ (.func fn vs.toArray us.toArray) := by
  intro a N hs hW w _
  have e1 : xs.toArray.map a.eval = vs.toArray := by rw [List.map_toArray, Opds.map hs hW xs vs hx]
  have e2 : ys.toArray.map a.eval = us.toArray := by rw [List.map_toArray, Opds.map hs hW ys us hy]
  simp only [execOp, e1, e2, Instr.makeFunc, Sem.run_bind, Sem.run_pure, Result.andThen_ok]
theorem PV.nilP {P : Program} {C : World → Prop} {L : Env} {W : Bool} {d : Option Tmp} {ty : TypeId} {ps : String} {af : Array Edge} {gd : Option (Nat × Bool)} {x : Operand} {p : Addr} (hx : Opd L W x (.pointer (some p))) : PV P C L W ⟨d, .nilCheck x, ty, ps, af, gd⟩ (.pointer (some p)) := by
  intro a N hs hW w _
  simp only [execOp, hx a N hs hW]
  rfl
theorem PV.nilF {P : Program} {C : World → Prop} {L : Env} {W : Bool} {d : Option Tmp} {ty : TypeId} {ps : String} {af : Array Edge} {gd : Option (Nat × Bool)} {x : Operand} {f : FuncId} {fs cs : Array Value} (hx : Opd L W x (.func (.func f) fs cs)) : PV P C L W ⟨d, .nilCheck x, ty, ps, af, gd⟩ (.func (.func f) fs cs) := by
  intro a N hs hW w _
  simp only [execOp, hx a N hs hW]
  rfl
/-- No result. -/
theorem ret0 {P : Program} {fn : Func} {R : Ending → World → Prop} {N : Nat} {L : Env} {w : World} (hr : fn.results = #[]) (h : R (.returned (.tuple #[])) w) : ∀ a, Slots a N L → bodyPost P fn R .ret a w :=
  fun a hs => bodyPost_ret (results_none hr _ _ _) hs.dfr h
theorem end0 {P : Program} {fn : Func} {R : Ending → World → Prop} {N : Nat} {L : Env} {w : World} (hr : fn.results = #[]) (h : R (.returned (.tuple #[])) w) : ∀ a, Slots a N L → bodyPost P fn R .normal a w :=
  fun a hs => bodyPost_end (results_none hr _ _ _) hs.dfr h
end Go.Eng
