/-
  THE ENGINE, PART 1: frames as lists of known slots ('Slots'), operations that only compute ('PV'), regions walked operation by operation ('RL'), code over known slots ('CW'). Over any program. No program text in it.
-/
import Derived.WalkKit
import Derived.WalkLawsBesides
import Derived.Deep.Quiet
set_option linter.unusedVariables false
set_option linter.unusedSimpArgs false
namespace Go.Eng

/-- A string, as the list of its bytes. -/
abbrev Str := List UInt8
abbrev str (l : Str) : Value := .string ⟨⟨l⟩⟩
abbrev i64 (n : Int) : Value := .int .i64 n
/-- A list's length, as Go's int. -/
def len {α : Type} (l : List α) : Int := l.length
theorem len_pos {α : Type} {l : List α} (h : ¬ l = []) : 0 < len l := by
  cases l with
  | nil => exact absurd rfl h
  | cons x l => unfold len; simp only [List.length_cons]; omega
theorem len_nonneg {α : Type} (l : List α) : 0 ≤ len l := Int.natCast_nonneg _
/-- The byte at a place. -/
def byteAt (l : Str) (i : Int) : Int := ((l.getD i.toNat 0).toNat : Int)
theorem byteAt_bd (l : Str) (i : Int) : 0 ≤ byteAt l i ∧ byteAt l i ≤ 255 := by
  unfold byteAt; have := (l.getD i.toNat 0).toNat_lt; omega
/-- What stands from a place on, up to another one. -/
def sub {α : Type} (l : List α) (a b : Int) : List α := (l.drop a.toNat).take (b.toNat - a.toNat)
/-- What stands from a place on. -/
def from' {α : Type} (l : List α) (a : Int) : List α := l.drop a.toNat

abbrev Env := List (Nat × Bool × Value)
def look : Env → Nat → Option (Bool × Value)
  | [], _ => none
  | (t, g, v) :: L, k => match Nat.beq t k with
    | true => some (g, v)
    | false => look L k
theorem look_cons_eq (t : Nat) (g : Bool) (v : Value) (L : Env) : look ((t, g, v) :: L) t = some (g, v) := by
  simp [look]
theorem look_cons_ne {t k : Nat} (h : t ≠ k) (g : Bool) (v : Value) (L : Env) : look ((t, g, v) :: L) k = look L k := by
  have : Nat.beq t k = false := by cases hb : Nat.beq t k <;> simp_all [Nat.beq_eq]
  simp [look, this]
def keep : List Nat → Env → Env
  | [], _ => []
  | k :: ks, L => match look L k with
    | some x => (k, x) :: keep ks L
    | none => keep ks L
theorem look_keep : ∀ (ks : List Nat) (L : Env) (t : Nat) (g : Bool) (v : Value), look (keep ks L) t = some (g, v) → look L t = some (g, v)
  | [], _, _, _, _, h => by simp [keep, look] at h
  | k :: ks, L, t, g, v, h => by
    unfold keep at h
    split at h
    · rename_i x hx
      obtain ⟨g', v'⟩ := x
      by_cases hk : k = t
      · subst hk; rw [look_cons_eq] at h; rw [hx, h]
      · rw [look_cons_ne hk] at h; exact look_keep ks L t g v h
    · exact look_keep ks L t g v h

def sv (g : Bool) (v : Value) : Value := if g = true then v else undef
structure Slots (a : Act) (N : Nat) (L : Env) : Prop where
  size : a.tmps.size = N
  dfr : a.defers = []
  val : ∀ t g v, look L t = some (g, v) → a.tmps[t]? = some (sv g v)

theorem Slots.put {a : Act} {N : Nat} {L : Env} (h : Slots a N L) {d : Nat} (hd : Nat.blt d N = true) (g : Bool) (v : Value) :
    Slots (a.put (some d) (sv g v)) N ((d, g, v) :: L) := by
  have hd' : d < N := by simpa [Nat.blt_eq] using hd
  refine ⟨by simp [Act.put, h.size], by simp [Act.put, h.dfr], fun t g' v' ht => ?_⟩
  by_cases e : d = t
  · subst e; rw [look_cons_eq] at ht; simp at ht; obtain ⟨rfl, rfl⟩ := ht
    simp [Act.put, h.size, hd']
  · rw [look_cons_ne e] at ht
    have := h.val t g' v' ht
    simp [Act.put, Array.getElem?_setIfInBounds_ne e, this]
theorem Slots.keep {a : Act} {N : Nat} {L : Env} (h : Slots a N L) (ks : List Nat) : Slots a N (keep ks L) :=
  ⟨h.size, h.dfr, fun t g v ht => h.val t g v (look_keep ks L t g v ht)⟩
theorem Slots.none {a : Act} {N : Nat} {L : Env} (h : Slots a N L) (v : Value) : Slots (a.put none v) N L := h
theorem Slots.get {a : Act} {N : Nat} {L : Env} (h : Slots a N L) {t : Nat} {v : Value} (hl : look L t = some (true, v)) : a.tmps.getD t undef = v := by
  have := h.val t true v hl
  simp [sv] at this
  simp [Array.getD_eq_getD_getElem?, this]

def envOf : Nat → List Value → Env
  | _, [] => []
  | k, v :: vs => (k, true, v) :: envOf (k + 1) vs
theorem look_envOf : ∀ (vs : List Value) (k t : Nat) (g : Bool) (v : Value), look (envOf k vs) t = some (g, v) → g = true ∧ k ≤ t ∧ vs[t - k]? = some v
  | [], _, _, _, _, h => by simp [envOf, look] at h
  | x :: vs, k, t, g, v, h => by
    unfold envOf at h
    by_cases e : k = t
    · subst e; rw [look_cons_eq] at h; simp at h; obtain ⟨rfl, rfl⟩ := h; simp
    · rw [look_cons_ne e] at h
      obtain ⟨h1, h2, h3⟩ := look_envOf vs (k + 1) t g v h
      refine ⟨h1, by omega, ?_⟩
      rw [show t - k = (t - (k + 1)) + 1 from by omega, List.getElem?_cons_succ, h3]
theorem Slots.enter (vs : List Value) (N : Nat) (h : vs.length ≤ N) :
    Slots { tmps := vs.toArray ++ Array.replicate (N - vs.toArray.size) undef, defers := [] } N (envOf 0 vs) := by
  refine ⟨by simp; omega, rfl, fun t g v ht => ?_⟩
  obtain ⟨rfl, _, h3⟩ := look_envOf vs 0 t g v ht
  have hlt : t < vs.length := by
    rcases Nat.lt_or_ge t vs.length with h | h
    · exact h
    · simp [h] at h3
  have h3' : vs[t]? = some v := by simpa using h3
  rw [List.getElem?_eq_getElem hlt] at h3'
  simp [sv, hlt, Array.getElem?_append_left]
  exact Option.some.inj h3'

/-! ### Operands -/
def Opd (L : Env) (W : Bool) (x : Operand) (v : Value) : Prop := ∀ a N, Slots a N L → W = true → a.eval x = v
theorem Opd.t {L : Env} {W : Bool} {k : Nat} {v : Value} (h : look L k = some (true, v)) : Opd L W (.tmp k) v :=
  fun _ _ hs _ => hs.get h
theorem Opd.g {L : Env} {W g : Bool} {k : Nat} {v : Value} (h : look L k = some (g, v)) (hg : W = true → g = true) : Opd L W (.tmp k) v :=
  fun _ _ hs hW => hs.get (by rw [h, hg hW])
theorem Opd.c {L : Env} {W : Bool} {v : Value} : Opd L W (.const v) v := fun _ _ _ _ => rfl
theorem Opd.f {L : Env} {W : Bool} {k : FuncId} : Opd L W (.func k) (.func (.func k) #[] #[]) := fun _ _ _ _ => rfl
theorem Opd.gl {L : Env} {W : Bool} {k : Nat} : Opd L W (.global k) (.pointer (some ⟨k, 0, none⟩)) := fun _ _ _ _ => rfl

/-! ### Guards -/
def Wants (ops : Array Oper) (L : Env) (gd : Option (Nat × Bool)) (W : Bool) : Prop :=
  ∀ a N, Slots a N L → (match gd with | none => true | some (j, want) => yielded ops a.tmps j == some want) = W
theorem Wants.none {ops : Array Oper} {L : Env} : Wants ops L none true := fun _ _ _ => rfl
theorem yielded_of {ops : Array Oper} {L : Env} {a : Act} {N j s : Nat} {g b : Bool} (hj : (ops[j]?).bind (·.dst) = some s) (hl : look L s = some (g, .bool b)) (hs : Slots a N L) :
    yielded ops a.tmps j = if g = true then some b else none := by
  have := hs.val s g _ hl
  unfold yielded
  rw [hj]
  simp only [Option.bind_some, this]
  cases g <;> simp [sv, undef]
theorem Wants.pos {ops : Array Oper} {L : Env} {j s : Nat} {b : Bool} (hj : (ops[j]?).bind (·.dst) = some s) (hl : look L s = some (true, .bool b)) : Wants ops L (some (j, true)) b := by
  intro a N hs
  simp only [yielded_of hj hl hs]
  cases b <;> rfl
theorem Wants.neg {ops : Array Oper} {L : Env} {j s : Nat} {b : Bool} (hj : (ops[j]?).bind (·.dst) = some s) (hl : look L s = some (true, .bool b)) : Wants ops L (some (j, false)) (!b) := by
  intro a N hs
  simp only [yielded_of hj hl hs]
  cases b <;> rfl
theorem Wants.posG {ops : Array Oper} {L : Env} {j s : Nat} {g b : Bool} (hj : (ops[j]?).bind (·.dst) = some s) (hl : look L s = some (g, .bool b)) : Wants ops L (some (j, true)) (g && b) := by
  intro a N hs
  simp only [yielded_of hj hl hs]
  cases g <;> cases b <;> rfl
theorem Wants.negG {ops : Array Oper} {L : Env} {j s : Nat} {g b : Bool} (hj : (ops[j]?).bind (·.dst) = some s) (hl : look L s = some (g, .bool b)) : Wants ops L (some (j, false)) (g && !b) := by
  intro a N hs
  simp only [yielded_of hj hl hs]
  cases g <;> cases b <;> rfl
theorem Wants.wanted {ops : Array Oper} {L : Env} {o : Oper} {W : Bool} (h : Wants ops L o.guard W) {a : Act} {N : Nat} (hs : Slots a N L) : Region.wanted o (yielded ops a.tmps) = W := by
  have := h a N hs
  unfold Region.wanted
  split at this <;> rename_i he <;> simp only [he] <;> exact this

/-! ### Operations that only compute, in each world of a class -/
def PV (P : Program) (C : World → Prop) (L : Env) (W : Bool) (o : Oper) (v : Value) : Prop :=
  ∀ a N, Slots a N L → W = true → ∀ w, C w → (execOp a.eval o).run P w = .ok (.value v) w

section pv
variable {P : Program} {C : World → Prop} {L : Env} {W : Bool} {d : Option Tmp} {ty : TypeId} {ps : String} {af : Array Edge} {gd : Option (Nat × Bool)}

theorem PV.move {x : Operand} {v : Value} (hx : Opd L W x v) : PV P C L W ⟨d, .move x, ty, ps, af, gd⟩ v := by
  intro a N hs hW w _
  simp [execOp, hx a N hs hW, Sem.run, pure]
theorem PV.assign {x : Operand} {v : Value} (hx : Opd L W x v) : PV P C L W ⟨d, .assign x, ty, ps, af, gd⟩ v := by
  intro a N hs hW w _
  simp [execOp, hx a N hs hW, Sem.run, pure]
/-- 'a && b': the second one only where the first one holds. -/
theorem PV.and {c x : Operand} {p q : Bool} (hc : Opd L W c (.bool p)) (hx : Opd L (W && p) x (.bool q)) : PV P C L W ⟨d, .pick c x (.const (.bool false)), ty, ps, af, gd⟩ (.bool (p && q)) := by
  intro a N hs hW w _
  simp only [execOp, hc a N hs hW]
  cases p
  · simp [asBool, Act.eval, Sem.run, pure, bind, Sem.bind]
  · simp [asBool, hx a N hs (by simp [hW]), Sem.run, pure, bind, Sem.bind]
/-- 'a || b': the second one only where the first one doesn't hold. -/
theorem PV.or {c x : Operand} {p q : Bool} (hc : Opd L W c (.bool p)) (hx : Opd L (W && !p) x (.bool q)) : PV P C L W ⟨d, .pick c (.const (.bool true)) x, ty, ps, af, gd⟩ (.bool (p || q)) := by
  intro a N hs hW w _
  simp only [execOp, hc a N hs hW]
  cases p
  · simp [asBool, hx a N hs (by simp [hW]), Sem.run, pure, bind, Sem.bind]
  · simp [asBool, Act.eval, Sem.run, pure, bind, Sem.bind]
/-- An operation whose value is reckoned beforehand. -/
theorem PV.un {f : Value → Sem Value} {o : Oper} {x : Operand} {vx v : Value} (ho : ∀ ρ : Operand → Value, execOp ρ o = (do pure (.value (← f (ρ x))) : Sem Next)) (hx : Opd L W x vx)
    (hr : W = true → ∀ w, C w → (f vx).run P w = .ok v w) : PV P C L W o v := by
  intro a N hs hW w hw
  rw [ho, hx a N hs hW]
  simp only [Sem.run_bind, hr hW w hw, Result.andThen_ok, Sem.run_pure]
theorem PV.bin {op : BinOp} {t t' : TypeId} {x y : Operand} {vx vy v : Value} (hx : Opd L W x vx) (hy : Opd L W y vy)
    (hr : W = true → ∀ w, C w → (do eqGuard op t x y vx vy; binOp op t vx vy : Sem Value).run P w = .ok v w) : PV P C L W ⟨d, .binOp op t x y t', ty, ps, af, gd⟩ v := by
  intro a N hs hW w hw
  have := hr hW w hw
  simp only [execOp, hx a N hs hW, hy a N hs hW]
  rw [Sem.run_bind, this]
  rfl

/-! #### integers -/
theorem PV.lss {t t' : TypeId} {x y : Operand} {k : IntKind} {a b : Int} (hx : Opd L W x (.int k a)) (hy : Opd L W y (.int k b)) : PV P C L W ⟨d, .binOp .lss t x y t', ty, ps, af, gd⟩ (.bool (decide (a < b))) :=
  .bin hx hy fun _ w _ => by simp [go_sem, binOp, Op.intCmp, Sem.run, pure, bind, Sem.bind]
theorem PV.leq {t t' : TypeId} {x y : Operand} {k : IntKind} {a b : Int} (hx : Opd L W x (.int k a)) (hy : Opd L W y (.int k b)) : PV P C L W ⟨d, .binOp .leq t x y t', ty, ps, af, gd⟩ (.bool (decide (a ≤ b))) :=
  .bin hx hy fun _ w _ => by simp [go_sem, binOp, Op.intCmp, Sem.run, pure, bind, Sem.bind]
theorem PV.gtr {t t' : TypeId} {x y : Operand} {k : IntKind} {a b : Int} (hx : Opd L W x (.int k a)) (hy : Opd L W y (.int k b)) : PV P C L W ⟨d, .binOp .gtr t x y t', ty, ps, af, gd⟩ (.bool (decide (b < a))) :=
  .bin hx hy fun _ w _ => by simp [go_sem, binOp, Op.intCmp, Sem.run, pure, bind, Sem.bind]
theorem PV.geq {t t' : TypeId} {x y : Operand} {k : IntKind} {a b : Int} (hx : Opd L W x (.int k a)) (hy : Opd L W y (.int k b)) : PV P C L W ⟨d, .binOp .geq t x y t', ty, ps, af, gd⟩ (.bool (decide (b ≤ a))) :=
  .bin hx hy fun _ w _ => by simp [go_sem, binOp, Op.intCmp, Sem.run, pure, bind, Sem.bind]
theorem PV.eql {t t' : TypeId} {x y : Operand} {k : IntKind} {a b : Int} (hx : Opd L W x (.int k a)) (hy : Opd L W y (.int k b)) : PV P C L W ⟨d, .binOp .eql t x y t', ty, ps, af, gd⟩ (.bool (a == b)) :=
  .bin hx hy fun _ w _ => by simp [go_sem, eqGuard, binOp, Op.intCmp, Sem.run, pure, bind, Sem.bind]
theorem PV.neq {t t' : TypeId} {x y : Operand} {k : IntKind} {a b : Int} (hx : Opd L W x (.int k a)) (hy : Opd L W y (.int k b)) : PV P C L W ⟨d, .binOp .neq t x y t', ty, ps, af, gd⟩ (.bool (a != b)) :=
  .bin hx hy fun _ w _ => by simp [go_sem, eqGuard, binOp, Op.intCmp, Sem.run, pure, bind, Sem.bind]
/-- Sums and their kin where nothing goes round: what the wrap gives is said by the caller. -/
theorem PV.addK {t t' : TypeId} {x y : Operand} {k : IntKind} {a b r : Int} (hx : Opd L W x (.int k a)) (hy : Opd L W y (.int k b)) (hr : W = true → k.wrap (a + b) = r) : PV P C L W ⟨d, .binOp .add t x y t', ty, ps, af, gd⟩ (.int k r) :=
  .bin hx hy fun hW w _ => by simp [go_sem, binOp, Op.intArith, Sem.run, pure, bind, Sem.bind, hr hW]
theorem PV.subK {t t' : TypeId} {x y : Operand} {k : IntKind} {a b r : Int} (hx : Opd L W x (.int k a)) (hy : Opd L W y (.int k b)) (hr : W = true → k.wrap (a - b) = r) : PV P C L W ⟨d, .binOp .sub t x y t', ty, ps, af, gd⟩ (.int k r) :=
  .bin hx hy fun hW w _ => by simp [go_sem, binOp, Op.intArith, Sem.run, pure, bind, Sem.bind, hr hW]
theorem PV.mulK {t t' : TypeId} {x y : Operand} {k : IntKind} {a b r : Int} (hx : Opd L W x (.int k a)) (hy : Opd L W y (.int k b)) (hr : W = true → k.wrap (a * b) = r) : PV P C L W ⟨d, .binOp .mul t x y t', ty, ps, af, gd⟩ (.int k r) :=
  .bin hx hy fun hW w _ => by simp [go_sem, binOp, Op.intArith, Sem.run, pure, bind, Sem.bind, hr hW]
theorem wrap_i64 {x : Int} (h : -9223372036854775808 ≤ x ∧ x ≤ 9223372036854775807) : IntKind.i64.wrap x = x := by
  simp [IntKind.wrap, IntKind.signed, IntKind.bits]; omega
theorem PV.add {t t' : TypeId} {x y : Operand} {a b : Int} (hx : Opd L W x (i64 a)) (hy : Opd L W y (i64 b)) (hr : W = true → -9223372036854775808 ≤ a + b ∧ a + b ≤ 9223372036854775807) : PV P C L W ⟨d, .binOp .add t x y t', ty, ps, af, gd⟩ (i64 (a + b)) :=
  .addK hx hy fun hW => wrap_i64 (hr hW)
theorem PV.sub {t t' : TypeId} {x y : Operand} {a b : Int} (hx : Opd L W x (i64 a)) (hy : Opd L W y (i64 b)) (hr : W = true → -9223372036854775808 ≤ a - b ∧ a - b ≤ 9223372036854775807) : PV P C L W ⟨d, .binOp .sub t x y t', ty, ps, af, gd⟩ (i64 (a - b)) :=
  .subK hx hy fun hW => wrap_i64 (hr hW)
theorem PV.mul {t t' : TypeId} {x y : Operand} {a b : Int} (hx : Opd L W x (i64 a)) (hy : Opd L W y (i64 b)) (hr : W = true → -9223372036854775808 ≤ a * b ∧ a * b ≤ 9223372036854775807) : PV P C L W ⟨d, .binOp .mul t x y t', ty, ps, af, gd⟩ (i64 (a * b)) :=
  .mulK hx hy fun hW => wrap_i64 (hr hW)
/-- Quotients and remainders of numbers from 0 on, by numbers above 0. -/
theorem PV.quoK {t t' : TypeId} {x y : Operand} {k : IntKind} {a b r : Int} (hx : Opd L W x (.int k a)) (hy : Opd L W y (.int k b)) (hb : W = true → b ≠ 0) (hr : W = true → k.wrap (a.tdiv b) = r) : PV P C L W ⟨d, .binOp .quo t x y t', ty, ps, af, gd⟩ (.int k r) :=
  .bin hx hy fun hW w _ => by simp [go_sem, binOp, Op.intDiv, Sem.run, pure, bind, Sem.bind, hr hW, hb hW]
theorem PV.remK {t t' : TypeId} {x y : Operand} {k : IntKind} {a b r : Int} (hx : Opd L W x (.int k a)) (hy : Opd L W y (.int k b)) (hb : W = true → b ≠ 0) (hr : W = true → a.tmod b = r) : PV P C L W ⟨d, .binOp .rem t x y t', ty, ps, af, gd⟩ (.int k r) :=
  .bin hx hy fun hW w _ => by simp [go_sem, binOp, Op.intDiv, Sem.run, pure, bind, Sem.bind, hr hW, hb hW]
theorem PV.quo {t t' : TypeId} {x y : Operand} {a b : Int} (hx : Opd L W x (i64 a)) (hy : Opd L W y (i64 b)) (hb : W = true → 0 ≤ a ∧ a ≤ 9223372036854775807 ∧ 0 < b) : PV P C L W ⟨d, .binOp .quo t x y t', ty, ps, af, gd⟩ (i64 (a / b)) :=
  .quoK hx hy (fun hW => by have := hb hW; omega) fun hW => by
    obtain ⟨h0, h1, h2⟩ := hb hW
    rw [Int.tdiv_eq_ediv_of_nonneg h0]
    exact wrap_i64 ⟨by have := Int.ediv_nonneg h0 (Int.le_of_lt h2); omega, by have := Int.ediv_le_self b h0; omega⟩
theorem PV.rem {t t' : TypeId} {x y : Operand} {a b : Int} (hx : Opd L W x (i64 a)) (hy : Opd L W y (i64 b)) (hb : W = true → 0 ≤ a ∧ 0 < b) : PV P C L W ⟨d, .binOp .rem t x y t', ty, ps, af, gd⟩ (i64 (a % b)) :=
  .remK hx hy (fun hW => by have := hb hW; omega) fun hW => Int.tmod_eq_emod_of_nonneg (hb hW).1
theorem PV.not {t : TypeId} {x : Operand} {b : Bool} (hx : Opd L W x (.bool b)) : PV P C L W ⟨d, .unOp .not t x, ty, ps, af, gd⟩ (.bool (!b)) :=
  .un (f := Op.unary .not) (fun _ => rfl) hx fun _ w _ => by simp [Op.unary, Sem.run, pure]
theorem PV.negK {t : TypeId} {x : Operand} {k : IntKind} {a r : Int} (hx : Opd L W x (.int k a)) (hr : W = true → k.wrap (-a) = r) : PV P C L W ⟨d, .unOp .neg t x, ty, ps, af, gd⟩ (.int k r) :=
  .un (f := Op.unary .neg) (fun _ => rfl) hx fun hW w _ => by simp [Op.unary, Op.intArith, Sem.run, pure, hr hW]
theorem PV.cvtK {s t : TypeId} {x : Operand} {k k' : IntKind} {a r : Int} (hx : Opd L W x (.int k a)) (hs : P.underlying s = some (.int k)) (ht : P.underlying t = some (.int k')) (hr : W = true → k'.wrap a = r) : PV P C L W ⟨d, .convert s t x, ty, ps, af, gd⟩ (.int k' r) :=
  .un (f := convert s t) (fun _ => rfl) hx fun hW w _ => by simp [convert, run_underlying hs, run_underlying ht, Conv.intToInt, go_sem, hr hW]

/-! #### strings -/
theorem toList_mk' (l : Str) : (ByteArray.mk ⟨l⟩).toList = l := by rw [ByteArray.toList_eq]
theorem PV.seql {t t' : TypeId} {x y : Operand} {a b : Str} (hx : Opd L W x (str a)) (hy : Opd L W y (str b)) : PV P C L W ⟨d, .binOp .eql t x y t', ty, ps, af, gd⟩ (.bool (a == b)) :=
  .bin hx hy fun _ w _ => by simp [go_sem, eqGuard, binOp_string_eql, toList_mk', Sem.run, pure, bind, Sem.bind]
theorem PV.sneq {t t' : TypeId} {x y : Operand} {a b : Str} (hx : Opd L W x (str a)) (hy : Opd L W y (str b)) : PV P C L W ⟨d, .binOp .neq t x y t', ty, ps, af, gd⟩ (.bool (!(a == b))) :=
  .bin hx hy fun _ w _ => by simp [go_sem, eqGuard, binOp_string_neq, toList_mk', Sem.run, pure, bind, Sem.bind]
theorem PV.slss {t t' : TypeId} {x y : Operand} {a b : Str} (hx : Opd L W x (str a)) (hy : Opd L W y (str b)) : PV P C L W ⟨d, .binOp .lss t x y t', ty, ps, af, gd⟩ (.bool (Op.bytesLess a b)) :=
  .bin hx hy fun _ w _ => by simp [go_sem, binOp_string_lss, toList_mk', Sem.run, pure, bind, Sem.bind]
theorem PV.sleq {t t' : TypeId} {x y : Operand} {a b : Str} (hx : Opd L W x (str a)) (hy : Opd L W y (str b)) : PV P C L W ⟨d, .binOp .leq t x y t', ty, ps, af, gd⟩ (.bool (Op.bytesLess a b || a == b)) :=
  .bin hx hy fun _ w _ => by simp [go_sem, binOp, Op.stringOp, toList_mk', Sem.run, pure, bind, Sem.bind]
theorem PV.sgtr {t t' : TypeId} {x y : Operand} {a b : Str} (hx : Opd L W x (str a)) (hy : Opd L W y (str b)) : PV P C L W ⟨d, .binOp .gtr t x y t', ty, ps, af, gd⟩ (.bool (!(Op.bytesLess a b || a == b))) :=
  .bin hx hy fun _ w _ => by simp [go_sem, binOp, Op.stringOp, toList_mk', Sem.run, pure, bind, Sem.bind]
theorem PV.sgeq {t t' : TypeId} {x y : Operand} {a b : Str} (hx : Opd L W x (str a)) (hy : Opd L W y (str b)) : PV P C L W ⟨d, .binOp .geq t x y t', ty, ps, af, gd⟩ (.bool (!Op.bytesLess a b)) :=
  .bin hx hy fun _ w _ => by simp [go_sem, binOp, Op.stringOp, toList_mk', Sem.run, pure, bind, Sem.bind]
theorem mk_append (x y : Str) : (ByteArray.mk ⟨x⟩ ++ ByteArray.mk ⟨y⟩) = ByteArray.mk ⟨x ++ y⟩ := ByteArray.mk_append_mk x y
theorem PV.sadd {t t' : TypeId} {x y : Operand} {a b : Str} (hx : Opd L W x (str a)) (hy : Opd L W y (str b)) (hr : W = true → len a + len b ≤ 9223372036854775807) : PV P C L W ⟨d, .binOp .add t x y t', ty, ps, af, gd⟩ (str (a ++ b)) :=
  .bin hx hy fun hW w _ => by
    have h := hr hW
    simp only [len] at h
    simp only [eqGuard_add, binOp_string_add, Sem.run_bind, Sem.run_pure, Result.andThen_ok]
    rw [run_string_add_sum _ _ _ (by show a.length + b.length ≤ _; omega), mk_append]
theorem PV.lenS {t : TypeId} {x : Operand} {a : Str} (hx : Opd L W x (str a)) (ht : P.underlying t = some .string) : PV P C L W ⟨d, .call ⟨.builtin .len, #[x], #[t]⟩, ty, ps, af, gd⟩ (i64 (len a)) := by
  intro ac N hs hW w _
  have := run_len_string w t ty ⟨⟨a⟩⟩ ht
  simp only [execOp, resolve, invoke, builtin, List.map_toArray, List.map_cons, List.map_nil, hx ac N hs hW, Sem.run_bind, Sem.run_pure, Result.andThen_ok, this]
  rfl
theorem PV.idxS {t : TypeId} {x y : Operand} {a : Str} {i : Int} {k : IntKind} (hx : Opd L W x (str a)) (hy : Opd L W y (.int k i)) (ht : P.underlying t = some .string) (hr : W = true → 0 ≤ i ∧ i < len a) : PV P C L W ⟨d, .index t x y, ty, ps, af, gd⟩ (.int .u8 (byteAt a i)) := by
  intro ac N hs hW w _
  obtain ⟨h0, h1⟩ := hr hW
  have hlt : i.toNat < a.length := by unfold len at h1; omega
  have hsz : i.toNat < (ByteArray.mk ⟨a⟩).size := hlt
  have hg : (ByteArray.mk ⟨a⟩)[i.toNat]? = some a[i.toNat] := by
    rw [ByteArray.getElem?_lt' _ _ hsz]; rfl
  have key : (Instr.index t (str a) (.int k i)).run P w = .ok (.int .u8 (byteAt a i)) w := by
    simp [Instr.index, asIntOf, run_underlying ht, Sem.run_bind, h0, hg, go_sem, byteAt, hlt]
    rfl
  simp only [execOp, hx ac N hs hW, hy ac N hs hW]
  rw [Sem.run_bind, key]
  rfl
theorem PV.slS {t : TypeId} {x y z : Operand} {a : Str} {i j : Int} {k k' : IntKind} (hx : Opd L W x (str a)) (hy : Opd L W y (.int k i)) (hz : Opd L W z (.int k' j)) (ht : P.underlying t = some .string) (hr : W = true → 0 ≤ i ∧ i ≤ j ∧ j ≤ len a) : PV P C L W ⟨d, .slice t x (some y) (some z) none, ty, ps, af, gd⟩ (str (Eng.sub a i j)) := by
  intro ac N hs hW w _
  obtain ⟨h0, h1, h2⟩ := hr hW
  have e : (ByteArray.mk ⟨a⟩).extract i.toNat j.toNat = ByteArray.mk ⟨Eng.sub a i j⟩ := ByteArray.extract_mk a i.toNat j.toNat
  simp only [execOp, hx ac N hs hW, Option.map_some, Option.map_none, hy ac N hs hW, hz ac N hs hW]
  rw [Sem.run_bind, run_sliceAt_string _ _ _ _ _ _ ht, run_slice_string _ _ _ _ _ _ _ ht h0 h1 (by show j ≤ (a.length : Int); exact h2), e]
  rfl
theorem PV.slSl {t : TypeId} {x y : Operand} {a : Str} {i : Int} {k : IntKind} (hx : Opd L W x (str a)) (hy : Opd L W y (.int k i)) (ht : P.underlying t = some .string) (hr : W = true → 0 ≤ i ∧ i ≤ len a) : PV P C L W ⟨d, .slice t x (some y) none none, ty, ps, af, gd⟩ (str (from' a i)) := by
  intro ac N hs hW w _
  obtain ⟨h0, h1⟩ := hr hW
  have e : (ByteArray.mk ⟨a⟩).extract i.toNat (ByteArray.mk ⟨a⟩).size = ByteArray.mk ⟨from' a i⟩ := by
    refine (ByteArray.extract_mk a i.toNat a.length).trans ?_
    unfold from'
    rw [List.take_of_length_le (by simp)]
  simp only [execOp, hx ac N hs hW, Option.map_some, Option.map_none, hy ac N hs hW]
  rw [Sem.run_bind, run_sliceAt_string _ _ _ _ _ _ ht, run_slice_string_l _ _ _ ht _ _ h0 (by show i ≤ (a.length : Int); exact h1), e]
  rfl
theorem PV.slSh {t : TypeId} {x z : Operand} {a : Str} {j : Int} {k' : IntKind} (hx : Opd L W x (str a)) (hz : Opd L W z (.int k' j)) (ht : P.underlying t = some .string) (hr : W = true → 0 ≤ j ∧ j ≤ len a) : PV P C L W ⟨d, .slice t x none (some z) none, ty, ps, af, gd⟩ (str (Eng.sub a 0 j)) := by
  intro ac N hs hW w _
  obtain ⟨h0, h1⟩ := hr hW
  have e : (ByteArray.mk ⟨a⟩).extract 0 j.toNat = ByteArray.mk ⟨Eng.sub a 0 j⟩ := ByteArray.extract_mk a 0 j.toNat
  simp only [execOp, hx ac N hs hW, Option.map_some, Option.map_none, hz ac N hs hW]
  rw [Sem.run_bind, run_sliceAt_string _ _ _ _ _ _ ht, run_slice_string_h _ _ _ ht _ _ h0 (by show j ≤ (a.length : Int); exact h1), e]
  rfl
/-- Whatever runs by the kernel's own reckoning. -/
theorem PV.ex {tp : TypeId} {x : Operand} {vs : Array Value} {i : Nat} {v : Value} (hx : Opd L W x (.tuple vs)) (hi : vs[i]? = some v) : PV P C L W ⟨d, .extract x i, tp, ps, af, gd⟩ v :=
  .un (f := fun x => Instr.extract x i) (fun _ => rfl) hx fun _ w _ => by simp [Instr.extract, hi, Sem.run, pure]
end pv

/-! ### Regions in the order of the text, an operation at a time -/
def RL (P : Program) (ops : Array Oper) (Q : Exit → Act → World → Prop) (N : Nat) (l : List Oper) (L : Env) (w : World) : Prop :=
  ∀ a, Slots a N L → wpList P ops Q l a w
section rl
variable {P : Program} {ops : Array Oper} {Q : Exit → Act → World → Prop} {N : Nat} {rest : List Oper} {L : Env} {w : World}
/-- An operation that only computes. -/
theorem RL.v {d : Nat} {op : Op} {ty : TypeId} {ps : String} {af : Array Edge} {gd : Option (Nat × Bool)} {W : Bool} {v : Value} (hw : Wants ops L gd W) (hp : PV P (· = w) L W ⟨some d, op, ty, ps, af, gd⟩ v) (hd : Nat.blt d N = true)
    (h : RL P ops Q N rest ((d, W, v) :: L) w) : RL P ops Q N (⟨some d, op, ty, ps, af, gd⟩ :: rest) L w := by
  intro a hs
  refine wpList_step fun K hK => ?_
  rw [Wants.wanted (o := ⟨some d, op, ty, ps, af, gd⟩) hw hs]
  have hput := hs.put hd W v
  cases W
  · exact hK _ _ (h _ hput)
  · simp only [if_true, Oper.wp, hp a N hs rfl w rfl, Oper.upon_value]
    exact hK _ _ (h _ hput)
def Opds (L : Env) (W : Bool) : List Operand → List Value → Prop
  | [], [] => True
  | x :: xs, v :: vs => Opd L W x v ∧ Opds L W xs vs
  | _, _ => False
theorem Opds.nil {L : Env} {W : Bool} : Opds L W [] [] := trivial
theorem Opds.cons {L : Env} {W : Bool} {x : Operand} {v : Value} {xs : List Operand} {vs : List Value} (h : Opd L W x v) (k : Opds L W xs vs) : Opds L W (x :: xs) (v :: vs) := ⟨h, k⟩
theorem Opds.map {L : Env} {W : Bool} {a : Act} {N : Nat} (hs : Slots a N L) (hW : W = true) : ∀ (xs : List Operand) (vs : List Value), Opds L W xs vs → xs.map a.eval = vs
  | [], [], _ => rfl
  | [], _ :: _, h => h.elim
  | _ :: _, [], h => h.elim
  | x :: xs, v :: vs, h => by rw [List.map_cons, h.1 a N hs hW, Opds.map hs hW xs vs h.2]
theorem call_run {f : FuncId} (ct : ∀ args w, (callFunc f args).run P w = .ok (.enter f args) w) {L : Env} {W : Bool} {xs : List Operand} {vs : List Value} (hx : Opds L W xs vs) {a : Act} {N : Nat} (hs : Slots a N L) (hW : W = true) {d : Option Tmp} {tys : Array TypeId} {ty : TypeId} {ps : String} {af : Array Edge} {gd : Option (Nat × Bool)} :
    (execOp a.eval ⟨d, .call ⟨.value (.func f), xs.toArray, tys⟩, ty, ps, af, gd⟩).run P w = .ok (.enter f vs.toArray) w := by
  have e : xs.toArray.map a.eval = vs.toArray := by rw [List.map_toArray, Opds.map hs hW xs vs hx]
  have e2 : a.eval (.func f) = .func (.func f) #[] #[] := rfl
  simp only [execOp, resolve, e, e2, Deferred.ofValue, invoke, Sem.run_bind, Sem.run_pure, Result.andThen_ok]
  simpa using ct vs.toArray w
/-- A call of a function that leaves the world as it is. -/
theorem RL.callS {d : Nat} {f : FuncId} {xs : List Operand} {vs : List Value} {v : Value} {tys : Array TypeId} {ty : TypeId} {ps : String} {af : Array Edge} {gd : Option (Nat × Bool)} {W : Bool} (hw : Wants ops L gd W)
    (ct : ∀ args w, (callFunc f args).run P w = .ok (.enter f args) w) (hx : Opds L W xs vs) (hc : W = true → Calls P f vs.toArray w (fun e w' => e = .returned v ∧ w' = w)) (hd : Nat.blt d N = true)
    (h : RL P ops Q N rest ((d, W, v) :: L) w) : RL P ops Q N (⟨some d, .call ⟨.value (.func f), xs.toArray, tys⟩, ty, ps, af, gd⟩ :: rest) L w := by
  intro a hs
  refine wpList_step fun K hK => ?_
  rw [Wants.wanted (o := ⟨some d, .call ⟨.value (.func f), xs.toArray, tys⟩, ty, ps, af, gd⟩) hw hs]
  have hput := hs.put hd W v
  cases W
  · exact hK _ _ (h _ hput)
  · simp only [if_true, Oper.wp, call_run ct hx hs rfl, Oper.upon_enter]
    refine (hc rfl).mono fun e w' ⟨he, hw'⟩ => ?_
    subst he; subst hw'
    exact hK _ _ (h _ hput)
/-- A call whose contract says what it returns and what becomes of the world. -/
theorem RL.callP {d : Nat} {f : FuncId} {xs : List Operand} {vs : List Value} {tys : Array TypeId} {ty : TypeId} {ps : String} {af : Array Edge} {Post : Value → World → Prop}
    (ct : ∀ args w, (callFunc f args).run P w = .ok (.enter f args) w) (hx : Opds L true xs vs) (hc : Calls P f vs.toArray w (fun e w' => ∃ v, e = .returned v ∧ Post v w')) (hd : Nat.blt d N = true)
    (h : ∀ v w', Post v w' → RL P ops Q N rest ((d, true, v) :: L) w') : RL P ops Q N (⟨some d, .call ⟨.value (.func f), xs.toArray, tys⟩, ty, ps, af, none⟩ :: rest) L w := by
  intro a hs
  refine wpList_plain rfl fun K hK => ?_
  simp only [Oper.wp, call_run ct hx hs rfl, Oper.upon_enter]
  refine hc.mono fun e w' ⟨v, he, hp⟩ => ?_
  subst he
  exact hK _ _ (h v w' hp _ (hs.put hd true v))
end rl

/-! ### Code over known slots -/
def CW (P : Program) (c : Code) (Q : Exit → Act → World → Prop) (N : Nat) (L : Env) (w : World) : Prop := ∀ a, Slots a N L → c.wp P Q a w
section cw
variable {P : Program} {Q : Exit → Act → World → Prop} {N : Nat} {L : Env} {w : World}

theorem CW.enter {f : FuncId} {fn : Func} {c : Code} {vs : List Value} {R : Ending → World → Prop} (hf : P.funcs[f]? = some fn) (hb : fn.body = some c) (hn : fn.ntmps = N) (hl : vs.length ≤ N)
    (h : CW P c (bodyPost P fn R) N (envOf 0 vs) w) : Calls P f vs.toArray w R :=
  calls_of_wp hf hb (by rw [hn]; exact h _ (Slots.enter vs N hl))
theorem CW.weaken {c : Code} {L' : Env} (ks : List Nat) (h : CW P c Q N L' w) (hk : Eng.keep ks L = L') : CW P c Q N L w := fun a hs => h a (hk ▸ hs.keep ks)
theorem CW.seq {x y : Code} (h : CW P x (Exit.then (y.wp P Q) Q) N L w) : CW P (.seq x y) Q N L w := fun a hs => wp_seq (h a hs)
theorem CW.region {id : Nat} {l : List Oper} (h : RL P l.toArray Q N l L w) : CW P (.region id l.toArray false) Q N L w := fun a hs => wp_region_lit (h a hs)
theorem CW.block {id : Nat} {c : Code} (h : CW P c (Exit.inBlock id Q) N L w) : CW P (.block id c) Q N L w := fun a hs => wp_block (h a hs)
theorem CW.cond {c : Nat} {x y : Code} {b : Bool} (hc : look L c = some (true, .bool b)) (ht : b = true → CW P x Q N L w) (hf : b = false → CW P y Q N L w) : CW P (.cond (.tmp c) x y) Q N L w :=
  fun a hs => wp_cond_split (hs.get hc) (fun hb => ht hb a hs) (fun hb => hf hb a hs)
theorem CW.condC {x y : Code} {b : Bool} (ht : b = true → CW P x Q N L w) (hf : b = false → CW P y Q N L w) : CW P (.cond (.const (.bool b)) x y) Q N L w :=
  fun a hs => wp_cond_split rfl (fun hb => ht hb a hs) (fun hb => hf hb a hs)
theorem CW.skip (h : ∀ a, Slots a N L → Q .normal a w) : CW P .skip Q N L w := fun a hs => wp_skip (h a hs)
theorem CW.exit {id : Nat} (h : ∀ a, Slots a N L → Q (.exit id) a w) : CW P (.exit id) Q N L w := fun a hs => wp_exit (h a hs)
theorem CW.ret (h : ∀ a, Slots a N L → Q .ret a w) : CW P .ret Q N L w := fun a hs => wp_ret (h a hs)
/-- What stands behind: the rest of the code. -/
theorem CW.on {y : Code} {Q' : Exit → Act → World → Prop} {L' : Env} (ks : List Nat) (hk : Eng.keep ks L = L') (h : CW P y Q' N L' w) : ∀ a, Slots a N L → y.wp P Q' a w := fun a hs => h a (hk ▸ hs.keep ks)
theorem RL.nil {ops : Array Oper} (h : ∀ a, Slots a N L → Q .normal a w) : RL P ops Q N [] L w := fun a hs => wpList_nil (h a hs)

/-- A loop, with a ghost state: of it the slots that are known, what holds, and a measure. -/
theorem CW.loop {σ : Type} {c : Code} (Lf : σ → Env) (I : σ → World → Prop) (μ : σ → Nat) (s₀ : σ) (ks : List Nat) (hL : Eng.keep ks L = Lf s₀) (h₀ : I s₀ w)
    (round : ∀ s w, I s w → CW P c (Exit.then (fun a' w' => ∃ s', Slots a' N (Lf s') ∧ I s' w' ∧ μ s' < μ s) Q) N (Lf s) w) : CW P (.loop c) Q N L w := by
  intro a hs b k cs
  have key : ∀ n s a w, μ s = n → I s w → Slots a N (Lf s) →
      ∃ e a' w', Q e a' w' ∧ Arrives P (lone (b.at a (.code c :: .inLoop c :: k)) cs w) b k cs e a' w' := by
    intro n
    induction n using Nat.strongRecOn with
    | _ n ih =>
      intro s a w hn hI hsl
      obtain ⟨e, a₁, w₁, hq, harr⟩ := round s w hI a hsl b (.inLoop c :: k) cs
      cases e with
      | normal =>
        obtain ⟨s', hsl', hI', hlt⟩ := hq
        obtain ⟨e₂, a₂, w₂, hq₂, harr₂⟩ := ih (μ s') (hn ▸ hlt) s' a₁ w₁ rfl hI' hsl'
        exact ⟨e₂, a₂, w₂, hq₂, .of_steps (Steps.trans harr (.one step_inLoop)) harr₂⟩
      | exit id => exact ⟨_, a₁, w₁, hq, .pass (x := .inLoop c) rfl (fun _ _ => .inl (by simp)) harr⟩
      | goto l => exact ⟨_, a₁, w₁, hq, .pass (x := .inLoop c) rfl (fun _ _ => .inl (by simp)) harr⟩
      | ret => exact ⟨_, a₁, w₁, hq, .pass (x := .inLoop c) rfl (fun _ _ => .inl (by simp)) harr⟩
      | panic ch => exact ⟨_, a₁, w₁, hq, .pass (x := .inLoop c) rfl (fun _ _ => .inl (by simp)) harr⟩
      | outgrown => exact ⟨_, a₁, w₁, hq, .pass (x := .inLoop c) rfl (fun _ _ => .inl (by simp)) harr⟩
  obtain ⟨e, a', w', hq, harr⟩ := key _ s₀ a w rfl h₀ (hL ▸ hs.keep ks)
  exact ⟨e, a', w', hq, .of_steps (.one step_loop) harr⟩
/-- The round's end: the ghost state behind it. -/
theorem loop_on {σ : Type} {Lf : σ → Env} {I : σ → World → Prop} {μ : σ → Nat} {s : σ} (ks : List Nat) (s' : σ) (hk : Eng.keep ks L = Lf s') (hI : I s' w) (hm : μ s' < μ s) :
    ∀ a, Slots a N L → ∃ s', Slots a N (Lf s') ∧ I s' w ∧ μ s' < μ s := fun _ hs => ⟨s', hk ▸ hs.keep ks, hI, hm⟩

/-- The end: one result, two, three, in slots. -/
theorem ret1 {fn : Func} {R : Ending → World → Prop} {t : Tmp} {v : Value} (hr : fn.results = #[.tmp t]) (hl : look L t = some (true, v)) (h : R (.returned v) w) : ∀ a, Slots a N L → bodyPost P fn R .ret a w :=
  fun a hs => bodyPost_ret (results_tmp hr _ _ _) hs.dfr (by rw [hs.get hl]; exact h)
theorem ret2 {fn : Func} {R : Ending → World → Prop} {t u : Tmp} {v x : Value} (hr : fn.results = #[.tmp t, .tmp u]) (hl : look L t = some (true, v)) (hl2 : look L u = some (true, x)) (h : R (.returned (.tuple #[v, x])) w) : ∀ a, Slots a N L → bodyPost P fn R .ret a w :=
  fun a hs => bodyPost_ret (results_tmp2 hr _ _ _) hs.dfr (by rw [hs.get hl, hs.get hl2]; exact h)
theorem ret3 {fn : Func} {R : Ending → World → Prop} {t u s : Tmp} {v x y : Value} (hr : fn.results = #[.tmp t, .tmp u, .tmp s]) (hl : look L t = some (true, v)) (hl2 : look L u = some (true, x)) (hl3 : look L s = some (true, y)) (h : R (.returned (.tuple #[v, x, y])) w) : ∀ a, Slots a N L → bodyPost P fn R .ret a w :=
  fun a hs => bodyPost_ret (v := .tuple #[v, x, y]) (by simp [results, hr, Sem.run_bind, Sem.run_pure, hs.get hl, hs.get hl2, hs.get hl3, ← Array.getD_eq_getD_getElem?]) hs.dfr h
end cw
end Go.Eng
