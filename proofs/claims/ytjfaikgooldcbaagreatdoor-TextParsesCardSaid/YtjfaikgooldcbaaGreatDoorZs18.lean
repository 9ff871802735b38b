/-
  THE ENGINE, PART 20: a body behind its one defer: the regions' rules as they are, the code's rules with the deferred call beside. Over any program.
-/
import Derived.Test.YtjfaikgooldcbaaGreatDoorZs17
import Derived.Test.YtjfaikgooldcbaaGreatDoorZs4
import Derived.Laws.BitsLemmas
import Derived.Test.YtjfaikgooldcbaaGreatDoorZs3
import Derived.Test.YtjfaikgooldcbaaGreatDoorProg
import Derived.Test.YtjfaikgooldcbaaGreatDoorZs5
set_option linter.unusedVariables false
set_option linter.unusedSimpArgs false
namespace Go.Eng
open Go.RowKit
/-- With these deferred calls besides. -/
def appD (D : List Deferred) (a : Act) : Act := ⟨a.tmps, a.defers ++ D⟩
theorem appD_eval (D : List Deferred) (a : Act) : (appD D a).eval = a.eval := by funext x; cases x <;> rfl
theorem appD_put (D : List Deferred) (a : Act) (d : Option Tmp) (v : Value) : (appD D a).put d v = appD D (a.put d v) := by cases d <;> rfl
section
variable {P : Program} {ops : Array Oper} {D : List Deferred} {Q : Exit → Act → World → Prop} {N : Nat} {L : Env} {w : World}
theorem upon_app {o : Oper} {a : Act} {n n' : Act → World → Prop} (hn : ∀ a w, n' a w → n (appD D a) w) (r : Result Next) (h : o.upon P a n' (fun e a w => Q e (appD D a) w) r) : o.upon P (appD D a) n Q r := by
  cases r with
  | ok x w' =>
    cases x with
    | value v => rw [Oper.upon_value] at h ⊢; rw [appD_put]; exact hn _ _ h
    | skip => rw [Oper.upon_skip] at h ⊢; rw [appD_put]; exact hn _ _ h
    | defer d =>
      rw [Oper.upon_defer] at h ⊢
      have e : ({ appD D a with defers := d :: (appD D a).defers } : Act) = appD D { a with defers := d :: a.defers } := rfl
      rw [e, appD_put]; exact hn _ _ h
    | enter f args =>
      rw [Oper.upon_enter] at h ⊢
      refine h.mono fun e w'' he => ?_
      cases e with
      | returned v => dsimp only at he ⊢; rw [appD_put]; exact hn _ _ he
      | panicked ch => exact he
      | outgrown => obtain ⟨a2, w2, h2⟩ := he; exact ⟨_, _, h2⟩
    | row r args =>
      rw [Oper.upon_row] at h ⊢
      exact Rows.mono h fun v w'' he => by rw [appD_put]; exact hn _ _ he
    | _ => exact h.elim
  | halt x w' =>
    cases x with
    | panic v => exact h
    | _ => exact h.elim
theorem wpList_app (l : List Oper) : ∀ (a : Act) (w : World), wpList P ops (fun e a w => Q e (appD D a) w) l a w → wpList P ops Q l (appD D a) w := by
  induction l with
  | nil => intro a w h; exact h
  | cons o l ih =>
    intro a w h
    unfold wpList at h ⊢
    show if Region.wanted o (yielded ops a.tmps) = true then _ else _
    by_cases hw : Region.wanted o (yielded ops a.tmps) = true
    · rw [if_pos hw] at h ⊢
      rcases h with h | ⟨ha, a2, w2, h2⟩
      · left
        unfold Oper.wp at h ⊢
        rw [appD_eval]
        exact upon_app ih _ h
      · right
        refine ⟨?_, _, _, h2⟩
        unfold Oper.asks at ha ⊢
        rw [appD_eval]; exact ha
    · rw [if_neg hw] at h ⊢
      rw [appD_put]; exact ih _ _ h
/-- As CW, with these deferred calls besides. -/
def CWD (P : Program) (D : List Deferred) (c : Code) (Q : Exit → Act → World → Prop) (N : Nat) (L : Env) (w : World) : Prop := ∀ a, Slots a N L → c.wp P Q (appD D a) w
theorem CWD.seq {x y : Code} (h : CWD P D x (Exit.then (y.wp P Q) Q) N L w) : CWD P D (.seq x y) Q N L w := fun a hs => wp_seq (h a hs)
theorem CWD.region {id : Nat} {l : List Oper} (h : RL P l.toArray (fun e a w => Q e (appD D a) w) N l L w) : CWD P D (.region id l.toArray false) Q N L w := fun a hs => wp_region_lit (wpList_app _ _ _ (h a hs))
theorem CWD.sr {id : Nat} {l : List Oper} {y : Code} (h : RL P l.toArray (fun e a w => Exit.then (y.wp P Q) Q e (appD D a) w) N l L w) : CWD P D (.seq (.region id l.toArray false) y) Q N L w := CWD.seq (CWD.region h)
theorem CWD.cond {c : Nat} {x y : Code} {b : Bool} (hc : look L c = some (true, .bool b)) (ht : b = true → CWD P D x Q N L w) (hf : b = false → CWD P D y Q N L w) : CWD P D (.cond (.tmp c) x y) Q N L w :=
  fun a hs => wp_cond_split (show (appD D a).eval (.tmp c) = .bool b from by rw [appD_eval]; exact hs.get hc) (fun hb => ht hb a hs) (fun hb => hf hb a hs)
theorem CWD.skip (h : ∀ a, Slots a N L → Q .normal (appD D a) w) : CWD P D .skip Q N L w := fun a hs => wp_skip (h a hs)
theorem CWD.ret (h : ∀ a, Slots a N L → Q .ret (appD D a) w) : CWD P D .ret Q N L w := fun a hs => wp_ret (h a hs)
theorem CWD.id {y : Code} {Q' : Exit → Act → World → Prop} (h : CWD P D y Q' N L w) : ∀ a, Slots a N L → y.wp P Q' (appD D a) w := h
theorem CWD.at {y : Code} {Q' : Exit → Act → World → Prop} (L' : Env) (hk : Eng.keep (keysOf L') L = L') (h : CWD P D y Q' N L' w) : ∀ a, Slots a N L → y.wp P Q' (appD D a) w := fun a hs => h a (hk ▸ hs.keep _)
/-- The ends of a body that defers. -/
structure EndsD (P : Program) (fn : Func) (R : Ending → World → Prop) (Q : Exit → Act → World → Prop) : Prop where
  all : ∀ e a w, bodyPostD P fn R e a w → Q e a w
theorem CWD.enter {f : FuncId} {fn : Func} {c : Code} {vs : List Value} {R : Ending → World → Prop} (hf : P.funcs[f]? = some fn) (hb : fn.body = some c) (hn : fn.ntmps = N) (hl : vs.length ≤ N)
    (h : ∀ Q, EndsD P fn R Q → CW P c Q N (envOf 0 vs) w) : Calls P f vs.toArray w R :=
  calls_of_wp_defers hf hb (by rw [hn]; exact h _ ⟨fun _ _ _ h => h⟩ _ (Slots.enter vs N hl))
theorem EndsD.p {fn : Func} {R : Ending → World → Prop} {ch : List PanicEntry} (E : EndsD P fn R Q) (h : ∀ a, Slots a N L → Leaves P fn a.tmps R D (.panicking ch) w) : ∀ a, Slots a N L → Q (.panic ch) (appD D a) w :=
  fun a hs => E.all _ _ _ (by show Leaves P fn a.tmps R (a.defers ++ D) _ w; rw [hs.dfr]; exact h a hs)
theorem EndsD.r {fn : Func} {R : Ending → World → Prop} (E : EndsD P fn R Q) (h : ∀ a, Slots a N L → Leaves P fn a.tmps R D .returning w) : ∀ a, Slots a N L → Q .ret (appD D a) w :=
  fun a hs => E.all _ _ _ (by show Leaves P fn a.tmps R (a.defers ++ D) _ w; rw [hs.dfr]; exact h a hs)
/-- The defer of a closure, last in its region. -/
theorem RL.defer {f : FuncId} {x : Operand} {cs : List Value} {tys : Array TypeId} {ty : TypeId} {ps : String} {af : Array Edge} (hx : Opd L true x (.func (.func f) #[] cs.toArray)) (h : RL P ops (fun e a w => Q e (appD [{ target := .fn (.func f) cs.toArray, args := #[] }] a) w) N [] L w) :
    RL P ops Q N [⟨none, .defer ⟨.value x, #[], tys⟩, ty, ps, af, none⟩] L w := by
  intro a hs
  refine wpList_plain rfl fun K hK => ?_
  have key : (execOp a.eval ⟨none, .defer ⟨.value x, #[], tys⟩, ty, ps, af, none⟩).run P w = .ok (.defer { target := .fn (.func f) cs.toArray, args := #[] }) w := by
    simp only [execOp, resolve, hx a N hs rfl, Deferred.ofValue, Sem.run_bind, Sem.run_pure, Result.andThen_ok]
    simp
  simp only [Oper.wp, key, Oper.upon_defer]
  have h1 := h a hs
  refine hK _ _ ?_
  show Q .normal (Act.put { a with defers := _ :: a.defers } none undef) w
  rw [hs.dfr]
  have h2 : Q .normal (appD [{ target := .fn (.func f) cs.toArray, args := #[] }] a) w := h1
  unfold appD at h2
  rw [hs.dfr] at h2
  exact h2
/-- One deferred closure, that comes back: the frame leaves in the mode in which it left it. -/
theorem leaves_one {fn : Func} {R : Ending → World → Prop} {f : FuncId} {tmps : Array Value} {cs : List Value} {u : FrameMode} {S : World → Prop} (ct : ∀ args w, (callFunc f args).run P w = .ok (.enter f args) w) (hu : u ≠ .run) (hm : settle (recMode u).2 = .returning)
    (hc : CallsD P f cs.toArray u w (fun e u' w' => e = .returned (.tuple #[]) ∧ u' = (recMode u).2 ∧ S w')) (h : ∀ w', S w' → ∃ v, (results fn tmps).run P w' = .ok v w' ∧ R (.returned v) w') :
    Leaves P fn tmps R [{ target := .fn (.func f) cs.toArray, args := #[] }] u w := by
  refine leaves_cons hu (args := cs.toArray) (f := f) (by simp [invoke, go_sem, ct]) (hc.mono ?_)
  rintro e u' w' ⟨rfl, rfl, hS⟩
  show Leaves P fn tmps R [] (settle (recMode u).2) w'
  rw [hm]
  exact h w' hS
theorem res3 {fn : Func} {r s t : ResultVar} {v u x : Value} {a : Act} (hr : fn.results = #[r, s, t]) (hs : Slots a N L) (h1 : RV P L w r v) (h2 : RV P L w s u) (h3 : RV P L w t x) : (results fn a.tmps).run P w = .ok (.tuple #[v, u, x]) w := by
  rw [results_eq, hr]
  simp [List.mapM_cons, Sem.run_bind, h1.run hs, h2.run hs, h3.run hs]
end
end Go.Eng
set_option maxRecDepth 100000
namespace Go.Proofs.YtjfaikgooldcbaaGreatDoor
open Go.Eng

end Go.Proofs.YtjfaikgooldcbaaGreatDoor
