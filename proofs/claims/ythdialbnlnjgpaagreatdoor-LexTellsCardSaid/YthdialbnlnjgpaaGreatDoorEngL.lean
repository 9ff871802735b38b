/-
  THE ENGINE, PART 12: values in interfaces; a string's bytes as a row; an array in a box. Over any program.
-/
import Derived.Test.YthdialbnlnjgpaaGreatDoorEngK
import Derived.Lib.ConvBytes
import Derived.Lib.SmallJoins
set_option linter.unusedVariables false
set_option linter.unusedSimpArgs false
namespace Go.Eng
open Go.RowKit Go.Lib

/-- The laws by which conditions are read, all in one. -/
theorem zb : (∀ a b : Bool, ((a && b) = true) = (a = true ∧ b = true)) ∧ (∀ a b : Bool, ((a || b) = true) = (a = true ∨ b = true)) ∧ (∀ x y : Bool, (x && y) = false ↔ x = false ∨ y = false) ∧ (∀ x y : Bool, (x || y) = false ↔ x = false ∧ y = false) ∧
    (∀ (p : Prop) [Decidable p], (decide p = true) = p) ∧ (∀ (p : Prop) [Decidable p], decide p = false ↔ ¬p) ∧ (∀ b : Bool, ((!b) = true) = (b = false)) ∧ (∀ b : Bool, ((!b) = false) = (b = true)) ∧
    (∀ (α : Type) [BEq α] [LawfulBEq α] (a b : α), (a == b) = true ↔ a = b) ∧ (∀ (α : Type) [BEq α] [LawfulBEq α] (a b : α), (a == b) = false ↔ a ≠ b) ∧ (∀ (α : Type) [BEq α] [LawfulBEq α] (a b : α), (a != b) = true ↔ a ≠ b) ∧ (∀ (α : Type) (a b : α), (a ≠ b) = ¬a = b) ∧
    (∀ a b : Bool, (!a) = b ↔ a = !b) ∧ ((!true) = false) ∧ ((!false) = true) ∧ (∀ (α : Type) [BEq α] [LawfulBEq α] (a b : α), (a != b) = false ↔ a = b) ∧ (∀ b : Bool, (¬b = true) = (b = false)) ∧ (∀ b : Bool, (¬b = false) = (b = true)) :=
  ⟨Bool.and_eq_true, Bool.or_eq_true, fun _ _ => Bool.and_eq_false_iff, fun _ _ => Bool.or_eq_false_iff, fun _ => decide_eq_true_eq, fun _ => decide_eq_false_iff_not, Bool.not_eq_true', Bool.not_eq_false', fun _ _ _ _ _ => beq_iff_eq, fun _ _ _ _ _ => beq_eq_false_iff_ne, fun _ _ _ _ _ => bne_iff_ne,
    fun _ => ne_eq, fun _ _ => Bool.not_eq_eq_eq_not, rfl, rfl, fun _ _ _ _ _ => bne_eq_false_iff_eq, Bool.not_eq_true, Bool.not_eq_false⟩
abbrev Y (k : Nat) (v : Value) : Nat × Bool × Value := (k, true, v)
theorem CW.at {P : Program} {N : Nat} {L : Env} {w : World} {y : Code} {Q' : Exit → Act → World → Prop} (L' : Env) (hk : Eng.keep (keysOf L') L = L') (h : CW P y Q' N L' w) : ∀ a, Slots a N L → y.wp P Q' a w := CW.on _ hk h
theorem CW.sr {P : Program} {Q : Exit → Act → World → Prop} {N : Nat} {L : Env} {w : World} {id : Nat} {l : List Oper} {y : Code} (h : RL P l.toArray (Exit.then (y.wp P Q) Q) N l L w) : CW P (.seq (.region id l.toArray false) y) Q N L w := CW.seq (CW.region h)
section
variable {P : Program} {ops : Array Oper} {Q : Exit → Act → World → Prop} {N : Nat} {rest : List Oper} {L : Env} {w : World} {d k : Nat} {op : Op} {ty : TypeId} {ps : String} {af : Array Edge} {v : Value}
theorem RL.u (hp : PV P (· = w) L true ⟨some d, op, ty, ps, af, none⟩ v) (hd : Nat.blt d N = true) (h : RL P ops Q N rest ((d, true, v) :: L) w) : RL P ops Q N (⟨some d, op, ty, ps, af, none⟩ :: rest) L w := RL.v .none hp hd h
theorem RL.m (hl : look L k = some (true, v)) (hd : Nat.blt d N = true) (h : RL P ops Q N rest ((d, true, v) :: L) w) : RL P ops Q N (⟨some d, .move (.tmp k), ty, ps, af, none⟩ :: rest) L w := RL.v .none (.move (.t hl)) hd h
theorem RL.a (hl : look L k = some (true, v)) (hd : Nat.blt d N = true) (h : RL P ops Q N rest ((d, true, v) :: L) w) : RL P ops Q N (⟨some d, .assign (.tmp k), ty, ps, af, none⟩ :: rest) L w := RL.v .none (.assign (.t hl)) hd h
end
def notIface : TypeDesc → Bool | .interface _ => false | _ => true
section pv
variable {P : Program} {C : World → Prop} {L : Env} {W : Bool} {d : Option Tmp} {ty : TypeId} {ps : String} {af : Array Edge} {gd : Option (Nat × Bool)} {w0 w : World} {M0 M : Mem} {Hs : List HO}
theorem PV.iface {t : TypeId} {x : Operand} {v : Value} {u : TypeDesc} (hx : Opd L W x v) (ht : P.underlying t = some u) (hn : notIface u = true) : PV P C L W ⟨d, .makeInterface t x, ty, ps, af, gd⟩ (.iface t v) :=
  .un (f := Instr.makeInterface t) (fun _ => rfl) hx fun _ w _ => by
    simp only [Instr.makeInterface, Sem.run_bind, run_underlying ht, Result.andThen_ok]
    cases u <;> first | rfl | (exact absurd hn (by decide)) | (cases hn)
/-- The address of an array's element. -/
theorem PV.idxA {t e : TypeId} {x y : Operand} {n b : Nat} {k : IntKind} {i : Int} (j : Nat) (hx : Opd L W x (.pointer (some ⟨b, 0, none⟩))) (hy : Opd L W y (.int k i)) (ht : P.underlying t = some (.array n e)) (hs : ∀ w, (sizeOf e).run P w = .ok 1 w)
    (hi : W = true → i = (j : Int)) (hj : Nat.blt j n = true) : PV P C L W ⟨d, .indexAddr t x y, ty, ps, af, gd⟩ (.pointer (some ⟨b, j, none⟩)) := by
  intro a N hsl hW w' hw'
  have hjn : j < n := Nat.le_of_ble_eq_true hj
  have hi' := hi hW
  subst hi'
  have hc : 0 ≤ (j : Int) ∧ (j : Int) < (n : Int) := by omega
  have key : (Instr.indexAt t (.pointer (some ⟨b, 0, none⟩)) (.int k (j : Int))).run P w' = .ok (.pointer (some ⟨b, j, none⟩)) w' := by
    simp only [Instr.indexAt, asIntOf, Sem.run_bind, Sem.run_pure, run_underlying ht, Result.andThen_ok, Instr.sureAddr, hs, hc, and_self, if_true, Int.toNat_natCast, Nat.mul_one, add_none, Nat.zero_add]
  simp only [execOp, hx a N hsl hW, hy a N hsl hW]
  rw [Sem.run_bind, key]; rfl
/-- An array's upper part. -/
theorem PV.slA {t e : TypeId} {x y : Operand} {n b : Nat} {k : IntKind} {i : Int} (j m : Nat) (hx : Opd L W x (.pointer (some ⟨b, 0, none⟩))) (hy : Opd L W y (.int k i)) (ht : P.underlying t = some (.array n e)) (hs : ∀ w, (sizeOf e).run P w = .ok 1 w)
    (hi : W = true → i = (j : Int)) (hj : Nat.blt j n = true) (hm : n - j = m) : PV P C L W ⟨d, .slice t x (some y) none none, ty, ps, af, gd⟩ (.slice (some ⟨b, j, none⟩) m m) := by
  intro a N hsl hW w' hw'
  have hjn : j < n := Nat.le_of_ble_eq_true hj
  have hi' := hi hW
  subst hi'; subst hm
  have hc : 0 ≤ (j : Int) ∧ (j : Int) ≤ (n : Int) := by omega
  have hne : ¬ n = j := by omega
  have key : (Instr.sliceAt t (.pointer (some ⟨b, 0, none⟩)) (some (.int k (j : Int))) none none).run P w' = .ok (.slice (some ⟨b, j, none⟩) (n - j) (n - j)) w' := by
    simp only [Instr.sliceAt, Sem.run_bind, Sem.run_pure, run_underlying ht, Result.andThen_ok, Instr.sureAddr, Instr.sliceBounds, Instr.sliceBound, asIntOf, hs, hc, and_self, if_true, Int.toNat_natCast, Nat.mul_one, add_none, Nat.zero_add, hne, if_false]
  simp only [execOp, hx a N hsl hW, Option.map_some, Option.map_none, hy a N hsl hW]
  rw [Sem.run_bind, key]; rfl
/-- The text of a part of a box. -/
theorem PV.b2sA {src dst e t' : TypeId} {x : Operand} {l : List Int} {cs : List Value} {i b o n cap : Nat} (hS : St w0 M0 w M Hs) (hC : ∀ w', C w' → Ext w w') (hi : Hs[i]? = some (.box b cs t')) (hx : Opd L W x (.slice (some ⟨b, o, none⟩) n cap))
    (hn : n = l.length) (hc : (cs.drop o).take n = l.map (Value.int .u8)) (hs : P.underlying src = some (.slice e)) (he : P.underlying e = some (.int .u8)) (hd : P.underlying dst = some .string) : PV P C L W ⟨d, .convert src dst x, ty, ps, af, gd⟩ (str (toStr l)) := by
  subst hn
  intro a N hsl hW w' hw'
  have hcell : ∀ j v', (l.map (Value.int .u8))[j]? = some v' → w'.cell? ((⟨b, o, none⟩ : Addr).add j) = some v' := by
    intro j v' hj
    rw [add_none]
    refine hS.cell (hC w' hw') hi ?_
    rw [← hc, List.getElem?_take, List.getElem?_drop] at hj
    split at hj
    · exact hj
    · cases hj
  have hload := run_loadCells_list (P := P) w' ⟨b, o, none⟩ (l.map (Value.int .u8)) hcell
  rw [List.length_map] at hload
  have key : (convert src dst (.slice (some ⟨b, o, none⟩) l.length cap)).run P w' = .ok (str (toStr l)) w' := by
    rw [run_convert_bytes_string w' src dst e (some ⟨b, o, none⟩) l.length cap hs he hd, run_bytesToString w' ⟨b, o, none⟩ l.length cap l hload, foldl_push]
    simp [str]
  simp only [execOp, hx a N hsl hW]
  rw [Sem.run_bind, key]; rfl
end pv
section rl
variable {P : Program} {ops : Array Oper} {Q : Exit → Act → World → Prop} {N : Nat} {rest : List Oper} {L : Env} {w0 w : World} {M0 M : Mem} {Hs : List HO} {d : Nat} {ty : TypeId} {ps : String} {af : Array Edge}
/-- A store, its arguments in another order. -/
theorem RL.st {t t' : TypeId} {x y : Operand} {i b o n : Nat} {cs cs' : List Value} {v : Value} (hS : St w0 M0 w M Hs) (hi : Hs[i]? = some (.box b cs t')) (hx : Opd L true x (.pointer (some ⟨b, o, none⟩))) (hy : Opd L true y v) (hs : ∀ w, (sizeOf t).run P w = .ok n w)
    (hn : v.cells.toList.length = n) (hfit : Nat.ble (o + n) cs.length = true) (h1 : (v.cells.toList.all (·.oneCell')) = true) {Hs' : List HO} (hHs : Hs.set i (.box b cs' t') = Hs') (hcs : splice cs o v.cells.toList = cs')
    (h : ∀ w', St w0 M0 w' M Hs' → RL P ops Q N rest L w') : RL P ops Q N (⟨none, .store t x y, ty, ps, af, none⟩ :: rest) L w := RL.storeB hS hi hx hy hs hn hfit h1 hcs hHs h
/-- A string's bytes, as a row that is read. -/
theorem RL.bytes {s : Str} {src dst e : TypeId} {x : Operand} (hS : St w0 M0 w M Hs) (hx : Opd L true x (str s)) (hs : P.underlying src = some .string) (ht : P.underlying dst = some (.slice e)) (he : P.underlying e = some (.int .u8)) (hl : len s ≤ 140737488355328) (hd : Nat.blt d N = true)
    (h : ∀ v w' M', St w0 M0 w' M' Hs → M.le M' → Sl M' 1 (ints s).length v ((ints s).flatMap u8I) → RL P ops Q N rest ((d, true, v) :: L) w') : RL P ops Q N (⟨some d, .convert src dst x, ty, ps, af, none⟩ :: rest) L w := by
  intro a hsl
  refine wpList_plain rfl fun K hK => ?_
  have hsz : (ByteArray.mk ⟨s⟩).size = s.length := rfl
  have hlen : (ints s).length = s.length := by unfold ints; simp
  have key : (execOp a.eval ⟨some d, .convert src dst x, ty, ps, af, none⟩).run P w = .ok (.value (.slice (some ⟨w.heap.size, 0, none⟩) s.length (grownCap w s.length 0 e))) (bytesWorld w e ⟨⟨s⟩⟩) := by
    simp only [execOp, hx a N hsl rfl]
    rw [Sem.run_bind, Go.Lib.run_convert_string_bytes w src dst e ⟨⟨s⟩⟩ hs ht he]; rfl
  simp only [Oper.wp, key, Oper.upon_value]
  have hcell : ∀ j, j < s.length → (bytesWorld w e ⟨⟨s⟩⟩).cell? ⟨w.heap.size, j, none⟩ = ((ints s).flatMap u8I)[j]? := by
    intro j hj
    rw [bytesWorld_cell w e ⟨⟨s⟩⟩ j hj, flat_u8I]
    unfold ints
    simp [hj, List.getD]
  have hfl : ((ints s).flatMap u8I).length = s.length := by rw [flat_u8I]; simp [hlen]
  have g : Grow w M (bytesWorld w e ⟨⟨s⟩⟩) (memAt M w.heap.size ((ints s).flatMap u8I)) := by
    have hE : Ext w (bytesWorld w e ⟨⟨s⟩⟩) := Joins.below_bytesWorld _ _ _ _ (Nat.le_refl _)
    refine ⟨hE, ⟨fun b o v hv => ?_⟩, fun b o hb => ?_⟩
    · unfold memAt at hv
      split at hv
      · rename_i hb; subst hb
        have ho : o < s.length := by
          rcases Nat.lt_or_ge o s.length with h' | h'
          · exact h'
          · rw [List.getElem?_eq_none (by omega)] at hv; cases hv
        rw [hcell o ho]; exact hv
      · exact (hS.sat.ext hE).cell b o v hv
    · unfold memAt
      rw [if_neg (by omega)]
  refine hK _ _ (h _ _ _ (hS.grow g) (g.le hS.sat) ?_ _ (hsl.put hd true _))
  have hge := grownCap_ge w s.length 0 e
  have hcm : grownCap w s.length 0 e ≤ maxLen := grownCap_le_maxLen w s.length 0 e (by unfold len at hl; simp only [maxLen]; omega)
  refine ⟨by rw [hfl, hlen, Nat.mul_one], _, _, by rw [hlen], by rw [hlen]; exact hge, hcm, fun _ => ⟨_, _, rfl, fun j hj => ?_⟩⟩
  unfold memAt
  rw [if_pos rfl, Nat.zero_add]
end rl
end Go.Eng
