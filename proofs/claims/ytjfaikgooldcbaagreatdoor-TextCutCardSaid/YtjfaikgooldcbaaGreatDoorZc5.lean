/-
  THE ENGINE, PART 12: values in interfaces; a string's bytes as a row; an array in a box. Over any program.
  THE LIBRARY's CONTRACTS, in the engine's words: each off the kit's shelf.
  THE WORLD IN WHICH A CALL BEGINS: what the listed variables give the walks; a world for the witness, in which they hold what the program's text lays.
-/
import Derived.Test.YtjfaikgooldcbaaGreatDoorZc4
import Derived.Lib.ConvBytes
import Derived.Lib.SmallJoins
import Derived.Laws.BitsLemmas
import Derived.Test.YtjfaikgooldcbaaGreatDoorZc3
import Derived.Test.YtjfaikgooldcbaaGreatDoorProg
import Derived.Test.YtjfaikgooldcbaaGreatDoorZc0
import Derived.Shelf.Strings.SlTrimAscii
import Derived.WalkSmall
import Derived.Test.YtjfaikgooldcbaaGreatDoorCards
import Derived.Test.YtjfaikgooldcbaaGreatDoorTie
import Derived.WalkKit
import Derived.ProofKit
import Derived.OpenShut
import Derived.Deep.DeepHandedRow
import Derived.Deep.DeepWitnessRowRef
import Derived.Lib.LaidTab
import Derived.Lib.LaidU8T
import Derived.Lib.LaidIn
import Derived.Lib.TrailingZeros
import Derived.Stop.LaidErr
import Derived.ChangeBears2
set_option linter.unusedVariables false
set_option linter.unusedSimpArgs false
namespace Go.Eng
open Go.RowKit Go.Lib

/-- The laws by which conditions are read, all in one. -/
theorem zb : (∀ a b : Bool, ((a && b) = true) = (a = true ∧ b = true)) ∧ (∀ a b : Bool, ((a || b) = true) = (a = true ∨ b = true)) ∧ (∀ x y : Bool, (x && y) = false ↔ x = false ∨ y = false) ∧ (∀ x y : Bool, (x || y) = false ↔ x = false ∧ y = false) ∧
    (∀ (p : Prop) [Decidable p], (decide p = true) = p) ∧ (∀ (p : Prop) [Decidable p], decide p = false ↔ ¬p) ∧ (∀ b : Bool, ((!b) = true) = (b = false)) ∧ (∀ b : Bool, ((!b) = false) = (b = true)) ∧
    (∀ (α : Type) [BEq α] [LawfulBEq α] (a b : α), (a == b) = true ↔ a = b) ∧ (∀ (α : Type) [BEq α] [LawfulBEq α] (a b : α), (a == b) = false ↔ a ≠ b) ∧ (∀ (α : Type) [BEq α] [LawfulBEq α] (a b : α), (a != b) = true ↔ a ≠ b) ∧ (∀ (α : Type) (a b : α), (a ≠ b) = ¬a = b) ∧
    (∀ a b : Bool, (!a) = b ↔ a = !b) ∧ ((!true) = false) ∧ ((!false) = true) ∧ (∀ (α : Type) [BEq α] [LawfulBEq α] (a b : α), (a != b) = false ↔ a = b) ∧ (∀ b : Bool, (¬b = true) = (b = false)) ∧ (∀ b : Bool, (¬b = false) = (b = true)) ∧ (∀ p : Prop, (p ∧ True) = p) :=
  ⟨Bool.and_eq_true, Bool.or_eq_true, fun _ _ => Bool.and_eq_false_iff, fun _ _ => Bool.or_eq_false_iff, fun _ => decide_eq_true_eq, fun _ => decide_eq_false_iff_not, Bool.not_eq_true', Bool.not_eq_false', fun _ _ _ _ _ => beq_iff_eq, fun _ _ _ _ _ => beq_eq_false_iff_ne, fun _ _ _ _ _ => bne_iff_ne,
    fun _ => ne_eq, fun _ _ => Bool.not_eq_eq_eq_not, rfl, rfl, fun _ _ _ _ _ => bne_eq_false_iff_eq, Bool.not_eq_true, Bool.not_eq_false, and_true⟩
abbrev Y (k : Nat) (v : Value) : Nat × Bool × Value := (k, true, v)
theorem CW.at {P : Program} {N : Nat} {L : Env} {w : World} {y : Code} {Q' : Exit → Act → World → Prop} (L' : Env) (hk : Eng.keep (keysOf L') L = L') (h : CW P y Q' N L' w) : ∀ a, Slots a N L → y.wp P Q' a w := CW.on _ hk h
theorem CW.sr {P : Program} {Q : Exit → Act → World → Prop} {N : Nat} {L : Env} {w : World} {id : Nat} {l : List Oper} {y : Code} (h : RL P l.toArray (Exit.then (y.wp P Q) Q) N l L w) : CW P (.seq (.region id l.toArray false) y) Q N L w := CW.seq (CW.region h)
section
variable {P : Program} {ops : Array Oper} {Q : Exit → Act → World → Prop} {N : Nat} {rest : List Oper} {L : Env} {w : World} {d k : Nat} {op : Op} {ty : TypeId} {ps : String} {af : Array Edge} {v : Value}
theorem RL.u (hp : PV P (· = w) L true ⟨some d, op, ty, ps, af, none⟩ v) (hd : Nat.blt d N = true) (h : RL P ops Q N rest ((d, true, v) :: L) w) : RL P ops Q N (⟨some d, op, ty, ps, af, none⟩ :: rest) L w := RL.v .none hp hd h
theorem RL.m (hl : look L k = some (true, v)) (hd : Nat.blt d N = true) (h : RL P ops Q N rest ((d, true, v) :: L) w) : RL P ops Q N (⟨some d, .move (.tmp k), ty, ps, af, none⟩ :: rest) L w := RL.v .none (.move (.t hl)) hd h
theorem RL.a (hl : look L k = some (true, v)) (hd : Nat.blt d N = true) (h : RL P ops Q N rest ((d, true, v) :: L) w) : RL P ops Q N (⟨some d, .assign (.tmp k), ty, ps, af, none⟩ :: rest) L w := RL.v .none (.assign (.t hl)) hd h
end
/-! ### The ends, said once -/
structure Ends (P : Program) (fn : Func) (R : Ending → World → Prop) (Q : Exit → Act → World → Prop) : Prop where
  all : ∀ e a w, bodyPost P fn R e a w → Q e a w
theorem CW.enter1 {P : Program} {N : Nat} {w : World} {f : FuncId} {fn : Func} {c : Code} {vs : List Value} {R : Ending → World → Prop} (hf : P.funcs[f]? = some fn) (hb : fn.body = some c) (hn : fn.ntmps = N) (hl : vs.length ≤ N)
    (h : ∀ Q, Ends P fn R Q → CW P c Q N (envOf 0 vs) w) : Calls P f vs.toArray w R := CW.enter hf hb hn hl (h _ ⟨fun _ _ _ h => h⟩)
section
variable {P : Program} {fn : Func} {R : Ending → World → Prop} {Q : Exit → Act → World → Prop} {N : Nat} {L : Env} {w : World} {t u s : Tmp} {a b c : ResultVar} {v x y : Value}
theorem Ends.r0 (E : Ends P fn R Q) (hr : fn.results = #[]) (h : R (.returned (.tuple #[])) w) : ∀ a, Slots a N L → Q .ret a w := fun a hs => E.all _ _ _ (ret0 hr h a hs)
theorem Ends.e0 (E : Ends P fn R Q) (hr : fn.results = #[]) (h : R (.returned (.tuple #[])) w) : ∀ a, Slots a N L → Q .normal a w := fun a hs => E.all _ _ _ (end0 hr h a hs)
theorem Ends.r1 (E : Ends P fn R Q) (hr : fn.results = #[.tmp t]) (hl : look L t = some (true, v)) (h : R (.returned v) w) : ∀ a, Slots a N L → Q .ret a w := fun a hs => E.all _ _ _ (ret1 hr hl h a hs)
theorem Ends.r2 (E : Ends P fn R Q) (hr : fn.results = #[.tmp t, .tmp u]) (hl : look L t = some (true, v)) (hl2 : look L u = some (true, x)) (h : R (.returned (.tuple #[v, x])) w) : ∀ a, Slots a N L → Q .ret a w := fun a hs => E.all _ _ _ (ret2 hr hl hl2 h a hs)
theorem Ends.r3 (E : Ends P fn R Q) (hr : fn.results = #[.tmp t, .tmp u, .tmp s]) (hl : look L t = some (true, v)) (hl2 : look L u = some (true, x)) (hl3 : look L s = some (true, y)) (h : R (.returned (.tuple #[v, x, y])) w) : ∀ a, Slots a N L → Q .ret a w := fun a hs => E.all _ _ _ (ret3 hr hl hl2 hl3 h a hs)
theorem Ends.R1 (E : Ends P fn R Q) (hr : fn.results = #[a]) (h1 : RV P L w a v) (h : R (.returned v) w) : ∀ a, Slots a N L → Q .ret a w := fun a hs => E.all _ _ _ (retR1 hr h1 h a hs)
theorem Ends.R2 (E : Ends P fn R Q) (hr : fn.results = #[a, b]) (h1 : RV P L w a v) (h2 : RV P L w b x) (h : R (.returned (.tuple #[v, x])) w) : ∀ a, Slots a N L → Q .ret a w := fun a hs => E.all _ _ _ (retR2 hr h1 h2 h a hs)
theorem Ends.R3 (E : Ends P fn R Q) (hr : fn.results = #[a, b, c]) (h1 : RV P L w a v) (h2 : RV P L w b x) (h3 : RV P L w c y) (h : R (.returned (.tuple #[v, x, y])) w) : ∀ a, Slots a N L → Q .ret a w := fun a hs => E.all _ _ _ (retR3 hr h1 h2 h3 h a hs)
end
/-- On, with the slots as they are. -/
theorem CW.id {P : Program} {N : Nat} {L : Env} {w : World} {y : Code} {Q' : Exit → Act → World → Prop} (h : CW P y Q' N L w) : ∀ a, Slots a N L → y.wp P Q' a w := h
/-- Ways that meet again: what is known there, by a ghost state. -/
theorem CW.mid {P : Program} {σ : Type} {x y : Code} {Q : Exit → Act → World → Prop} {N : Nat} {L : Env} {w : World} (Lf : σ → Env) (I : σ → World → Prop) (hx : CW P x (Exit.then (fun a' w' => ∃ s, Slots a' N (Lf s) ∧ I s w') Q) N L w)
    (hy : ∀ s w', I s w' → CW P y Q N (Lf s) w') : CW P (.seq x y) Q N L w := by
  refine CW.seq fun a hs => wp_mono (hx a hs) fun e a' w' h => ?_
  cases e with
  | normal => obtain ⟨s, h1, h2⟩ := h; exact hy s w' h2 a' h1
  | exit id => exact h
  | goto l => exact h
  | ret => exact h
  | panic ch => exact h
  | outgrown => exact h
def notIface : TypeDesc → Bool | .interface _ => false | _ => true
section pv
variable {P : Program} {C : World → Prop} {L : Env} {W : Bool} {d : Option Tmp} {ty : TypeId} {ps : String} {af : Array Edge} {gd : Option (Nat × Bool)} {w0 w : World} {M0 M : Mem} {Hs : List HO}
theorem PV.iface {t : TypeId} {x : Operand} {v : Value} {u : TypeDesc} (hx : Opd L W x v) (ht : P.underlying t = some u) (hn : notIface u = true) : PV P C L W ⟨d, .makeInterface t x, ty, ps, af, gd⟩ (.iface t v) :=
  .un (f := Instr.makeInterface t) (fun _ => rfl) hx fun _ w _ => by
    simp only [Instr.makeInterface, Sem.run_bind, run_underlying ht, Result.andThen_ok]
    cases u <;> first | rfl | (exact absurd hn (by decide)) | (cases hn)
/-- The address of an array's element. -/
theorem PV.idxA {t e : TypeId} {x y : Operand} {n b : Nat} {k : IntKind} {i : Int} (j : Nat) (hx : Opd L W x (.pointer (some ⟨b, 0, none⟩))) (hy : Opd L W y (.int k i)) (ht : P.underlying t = some (.array n e)) (hs : ∀ w, (sizeOf e).run P w = .ok 1 w)
    (hi : W = true → i = (j : Int)) (hj : Nat.blt j n = true) : PV P C L W ⟨d, .indexAddr t x y, ty, ps, af, gd⟩ (.pointer (some ⟨b, j, none⟩)) := by
  intro a N hsl hW w' hw'
  have hjn : j < n := Nat.le_of_ble_eq_true hj
  have hi' := hi hW
  subst hi'
  have hc : 0 ≤ (j : Int) ∧ (j : Int) < (n : Int) := by omega
  have key : (Instr.indexAt t (.pointer (some ⟨b, 0, none⟩)) (.int k (j : Int))).run P w' = .ok (.pointer (some ⟨b, j, none⟩)) w' := by
    simp only [Instr.indexAt, asIntOf, Sem.run_bind, Sem.run_pure, run_underlying ht, Result.andThen_ok, Instr.sureAddr, hs, hc, and_self, if_true, Int.toNat_natCast, Nat.mul_one, add_none, Nat.zero_add]
  simp only [execOp, hx a N hsl hW, hy a N hsl hW]
  rw [Sem.run_bind, key]; rfl
/-- An array's upper part. -/
theorem PV.slA {t e : TypeId} {x y : Operand} {n b : Nat} {k : IntKind} {i : Int} (j m : Nat) (hx : Opd L W x (.pointer (some ⟨b, 0, none⟩))) (hy : Opd L W y (.int k i)) (ht : P.underlying t = some (.array n e)) (hs : ∀ w, (sizeOf e).run P w = .ok 1 w)
    (hi : W = true → i = (j : Int)) (hj : Nat.blt j n = true) (hm : n - j = m) : PV P C L W ⟨d, .slice t x (some y) none none, ty, ps, af, gd⟩ (.slice (some ⟨b, j, none⟩) m m) := by
  intro a N hsl hW w' hw'
  have hjn : j < n := Nat.le_of_ble_eq_true hj
  have hi' := hi hW
  subst hi'; subst hm
  have hc : 0 ≤ (j : Int) ∧ (j : Int) ≤ (n : Int) := by omega
  have hne : ¬ n = j := by omega
  have key : (Instr.sliceAt t (.pointer (some ⟨b, 0, none⟩)) (some (.int k (j : Int))) none none).run P w' = .ok (.slice (some ⟨b, j, none⟩) (n - j) (n - j)) w' := by
    simp only [Instr.sliceAt, Sem.run_bind, Sem.run_pure, run_underlying ht, Result.andThen_ok, Instr.sureAddr, Instr.sliceBounds, Instr.sliceBound, asIntOf, hs, hc, and_self, if_true, Int.toNat_natCast, Nat.mul_one, add_none, Nat.zero_add, hne, if_false]
  simp only [execOp, hx a N hsl hW, Option.map_some, Option.map_none, hy a N hsl hW]
  rw [Sem.run_bind, key]; rfl
/-- The text of a part of a box. -/
theorem PV.b2sA {src dst e t' : TypeId} {x : Operand} {l : List Int} {cs : List Value} {i b o n cap : Nat} (hS : St w0 M0 w M Hs) (hC : ∀ w', C w' → Ext w w') (hi : Hs[i]? = some (.box b cs t')) (hx : Opd L W x (.slice (some ⟨b, o, none⟩) n cap))
    (hn : n = l.length) (hc : (cs.drop o).take n = l.map (Value.int .u8)) (hs : P.underlying src = some (.slice e)) (he : P.underlying e = some (.int .u8)) (hd : P.underlying dst = some .string) : PV P C L W ⟨d, .convert src dst x, ty, ps, af, gd⟩ (str (toStr l)) := by
  subst hn
  intro a N hsl hW w' hw'
  have hcell : ∀ j v', (l.map (Value.int .u8))[j]? = some v' → w'.cell? ((⟨b, o, none⟩ : Addr).add j) = some v' := by
    intro j v' hj
    rw [add_none]
    refine hS.cell (hC w' hw') hi ?_
    rw [← hc, List.getElem?_take, List.getElem?_drop] at hj
    split at hj
    · exact hj
    · cases hj
  have hload := run_loadCells_list (P := P) w' ⟨b, o, none⟩ (l.map (Value.int .u8)) hcell
  rw [List.length_map] at hload
  have key : (convert src dst (.slice (some ⟨b, o, none⟩) l.length cap)).run P w' = .ok (str (toStr l)) w' := by
    rw [run_convert_bytes_string w' src dst e (some ⟨b, o, none⟩) l.length cap hs he hd, run_bytesToString w' ⟨b, o, none⟩ l.length cap l hload, foldl_push]
    simp [str]
  simp only [execOp, hx a N hsl hW]
  rw [Sem.run_bind, key]; rfl
end pv
section rl
variable {P : Program} {ops : Array Oper} {Q : Exit → Act → World → Prop} {N : Nat} {rest : List Oper} {L : Env} {w0 w : World} {M0 M : Mem} {Hs : List HO} {d : Nat} {ty : TypeId} {ps : String} {af : Array Edge}
/-- A store, its arguments in another order. -/
theorem RL.st {t t' : TypeId} {x y : Operand} {i b o n : Nat} {cs cs' : List Value} {v : Value} (hS : St w0 M0 w M Hs) (hi : Hs[i]? = some (.box b cs t')) (hx : Opd L true x (.pointer (some ⟨b, o, none⟩))) (hy : Opd L true y v) (hs : ∀ w, (sizeOf t).run P w = .ok n w)
    (hn : v.cells.toList.length = n) (hfit : Nat.ble (o + n) cs.length = true) (h1 : (v.cells.toList.all (·.oneCell')) = true) {Hs' : List HO} (hHs : Hs.set i (.box b cs' t') = Hs') (hcs : splice cs o v.cells.toList = cs')
    (h : ∀ w', St w0 M0 w' M Hs' → RL P ops Q N rest L w') : RL P ops Q N (⟨none, .store t x y, ty, ps, af, none⟩ :: rest) L w := RL.storeB hS hi hx hy hs hn hfit h1 hcs hHs h
/-- A string's bytes, as a row that is read. -/
theorem RL.bytes {s : Str} {src dst e : TypeId} {x : Operand} (hS : St w0 M0 w M Hs) (hx : Opd L true x (str s)) (hs : P.underlying src = some .string) (ht : P.underlying dst = some (.slice e)) (he : P.underlying e = some (.int .u8)) (hl : len s ≤ 140737488355328) (hd : Nat.blt d N = true)
    (h : ∀ v w' M', St w0 M0 w' M' Hs → M.le M' → Sl M' 1 (ints s).length v ((ints s).flatMap u8I) → RL P ops Q N rest ((d, true, v) :: L) w') : RL P ops Q N (⟨some d, .convert src dst x, ty, ps, af, none⟩ :: rest) L w := by
  intro a hsl
  refine wpList_plain rfl fun K hK => ?_
  have hsz : (ByteArray.mk ⟨s⟩).size = s.length := rfl
  have hlen : (ints s).length = s.length := by unfold ints; simp
  have key : (execOp a.eval ⟨some d, .convert src dst x, ty, ps, af, none⟩).run P w = .ok (.value (.slice (some ⟨w.heap.size, 0, none⟩) s.length (grownCap w s.length 0 e))) (bytesWorld w e ⟨⟨s⟩⟩) := by
    simp only [execOp, hx a N hsl rfl]
    rw [Sem.run_bind, Go.Lib.run_convert_string_bytes w src dst e ⟨⟨s⟩⟩ hs ht he]; rfl
  simp only [Oper.wp, key, Oper.upon_value]
  have hcell : ∀ j, j < s.length → (bytesWorld w e ⟨⟨s⟩⟩).cell? ⟨w.heap.size, j, none⟩ = ((ints s).flatMap u8I)[j]? := by
    intro j hj
    rw [bytesWorld_cell w e ⟨⟨s⟩⟩ j hj, flat_u8I]
    unfold ints
    simp [hj, List.getD]
  have hfl : ((ints s).flatMap u8I).length = s.length := by rw [flat_u8I]; simp [hlen]
  have g : Grow w M (bytesWorld w e ⟨⟨s⟩⟩) (memAt M w.heap.size ((ints s).flatMap u8I)) := by
    have hE : Ext w (bytesWorld w e ⟨⟨s⟩⟩) := Joins.below_bytesWorld _ _ _ _ (Nat.le_refl _)
    refine ⟨hE, ⟨fun b o v hv => ?_⟩, fun b o hb => ?_⟩
    · unfold memAt at hv
      split at hv
      · rename_i hb; subst hb
        have ho : o < s.length := by
          rcases Nat.lt_or_ge o s.length with h' | h'
          · exact h'
          · rw [List.getElem?_eq_none (by omega)] at hv; cases hv
        rw [hcell o ho]; exact hv
      · exact (hS.sat.ext hE).cell b o v hv
    · unfold memAt
      rw [if_neg (by omega)]
  refine hK _ _ (h _ _ _ (hS.grow g) (g.le hS.sat) ?_ _ (hsl.put hd true _))
  have hge := grownCap_ge w s.length 0 e
  have hcm : grownCap w s.length 0 e ≤ maxLen := grownCap_le_maxLen w s.length 0 e (by unfold len at hl; simp only [maxLen]; omega)
  refine ⟨by rw [hfl, hlen, Nat.mul_one], _, _, by rw [hlen], by rw [hlen]; exact hge, hcm, fun _ => ⟨_, _, rfl, fun j hj => ?_⟩⟩
  unfold memAt
  rw [if_pos rfl, Nat.zero_add]
end rl
/-- .. behind a region ahead of the ways. -/
theorem CW.mid2 {P : Program} {σ : Type} {x b y : Code} {Q : Exit → Act → World → Prop} {N : Nat} {L : Env} {w : World} (Lf : σ → Env) (I : σ → World → Prop)
    (hx : CW P x (Exit.then (b.wp P (Exit.then (fun a' w' => ∃ s, Slots a' N (Lf s) ∧ I s w') Q)) Q) N L w) (hy : ∀ s w', I s w' → CW P y Q N (Lf s) w') : CW P (.seq x (.seq b y)) Q N L w := by
  refine CW.seq fun a hs => wp_mono (hx a hs) fun e a' w' h => ?_
  cases e with
  | normal =>
    refine wp_seq (wp_mono h fun e a2 w2 h2 => ?_)
    cases e with
    | normal => obtain ⟨s, h1, h3⟩ := h2; exact hy s w2 h3 a2 h1
    | exit id => exact h2
    | goto l => exact h2
    | ret => exact h2
    | panic ch => exact h2
    | outgrown => exact h2
  | exit id => exact h
  | goto l => exact h
  | ret => exact h
  | panic ch => exact h
  | outgrown => exact h
end Go.Eng
set_option maxRecDepth 100000
namespace Go.Proofs.YtjfaikgooldcbaaGreatDoor
open Go.Eng

theorem tryz_mixed : Tryz.prog.follows .mixedOrders = true := by kernel_rfl
/- loupe/louperef02.cont -/
theorem cont_c (s : Str) (i : Int) (w : World) (h0 : 0 ≤ i) :
  Calls Tryz.prog 90 [(str s), (i64 i)].toArray w fun e w' => e = .returned (.bool (cont s i)) ∧ w' = w := by
 refine CW.enter1 Tryz.func90 rfl Tryz.ntmps90 (Nat.le_of_ble_eq_true rfl) fun Q hE => ?_
 refine CW.weaken [0, 1] (L' := [Y 0 (str s), Y 1 (i64 i)]) ?_ rfl
 refine CW.sr (RL.u (.assign .c) rfl (RL.nil (CW.id (CW.sr ?_))))
 refine RL.m rfl rfl (RL.m rfl rfl (RL.u (.lenS (.t rfl) Tryz.underlying9) rfl (RL.u (.lss (.t rfl) (.t rfl)) rfl (RL.m rfl rfl (RL.v (.pos rfl rfl) (.move (.t rfl)) rfl ?_)))))
 refine RL.v (.pos rfl rfl) (.move (.t rfl)) rfl (RL.v (.pos rfl rfl) (.idxS (.g rfl (fun h => h)) (.g rfl (fun h => h)) Tryz.underlying9 (fun hW => by simp only [zb] at hW; omega)) rfl (RL.v (.pos rfl rfl) (.geq (.g rfl (fun h => h)) .c) rfl (RL.u (.and (.t rfl) (.g rfl (fun h => h))) rfl (RL.m rfl rfl (RL.v (.pos rfl rfl) (.move (.t rfl)) rfl ?_)))))
 refine RL.v (.pos rfl rfl) (.move (.t rfl)) rfl (RL.v (.pos rfl rfl) (.idxS (.g rfl (fun h => h)) (.g rfl (fun h => h)) Tryz.underlying9 (fun hW => by simp only [zb] at hW; omega)) rfl (RL.v (.pos rfl rfl) (.lss (.g rfl (fun h => h)) .c) rfl (RL.u (.and (.t rfl) (.g rfl (fun h => h))) rfl (RL.a rfl rfl (RL.nil (CW.id ?_))))))
 refine CW.ret (hE.r1 rfl rfl ?_)
 exact ⟨rfl, rfl⟩

/- loupe/louperef02.Rune -/
theorem rune_c (s : Str) (i : Int) (w : World) (h0 : 0 ≤ i) (h1 : i < len s) (hb : len s ≤ 9223372036854775807) :
  Calls Tryz.prog 63 [(str s), (i64 i)].toArray w fun e w' => e = .returned (i64 (rune s i)) ∧ w' = w := by
 refine CW.enter1 Tryz.func63 rfl Tryz.ntmps63 (Nat.le_of_ble_eq_true rfl) fun Q hE => ?_
 have hbd := byteAt_bd s i
 refine CW.weaken [0, 1] (L' := [Y 0 (str s), Y 1 (i64 i)]) ?_ rfl
 refine CW.sr (RL.u (.assign .c) rfl (RL.nil (CW.id (CW.sr ?_))))
 refine RL.m rfl rfl (RL.m rfl rfl (RL.u (.idxS (.t rfl) (.t rfl) Tryz.underlying9 (fun _ => by omega)) rfl (RL.a rfl rfl (RL.nil (CW.id ?_)))))
 refine CW.seq (CW.block (CW.sr (RL.m rfl rfl (RL.u (.lss (.t rfl) .c) rfl (RL.a rfl rfl (RL.nil (CW.id ?_)))))))
 refine CW.cond rfl ?_ ?_ <;> intro hb1 <;> try simp only [zb] at hb1
 ·refine CW.sr (RL.u (.assign .c) rfl (RL.nil (CW.id (CW.ret (hE.r1 rfl rfl ?_)))))
  clear hE
  refine ⟨congrArg (fun x => Ending.returned (i64 x)) ?_, rfl⟩
  unfold rune; (try dsimp only); (repeat' split)
  all_goals first | rfl | (exfalso; simp only [zb] at *; omega) | (exfalso; simp_all; done) | (exfalso; simp_all; omega)
 ·refine CW.sr (RL.m rfl rfl (RL.u (.geq (.t rfl) .c) rfl (RL.m rfl rfl (RL.v (.pos rfl rfl) (.move (.t rfl)) rfl (RL.v (.pos rfl rfl) (.lss (.g rfl (fun h => h)) .c) rfl (RL.u (.and (.t rfl) (.g rfl (fun h => h))) rfl (RL.m rfl rfl (RL.v (.pos rfl rfl) (.move (.t rfl)) rfl (RL.v (.pos rfl rfl) (.move (.t rfl)) rfl (RL.v (.pos rfl rfl) (.add (.g rfl (fun h => h)) .c (fun hW => by simp only [zb] at hW; first | omega | (unfold cont at *; simp only [zb] at *; omega))) rfl ?_))))))))))
  refine RL.callS (.pos rfl rfl) Tryz.call90 (.cons (.g rfl (fun h => h)) (.cons (.g rfl (fun h => h)) .nil)) (fun hW => by simp only [zb] at hW; exact (cont_c s (i + 1) _ (by omega))) rfl ?_
  refine RL.u (.and (.t rfl) (.g rfl (fun h => h))) rfl (RL.a rfl rfl ?_)
  refine RL.nil (CW.at [Y 0 (str s), Y 1 (i64 i), Y 5 (.int .u8 (byteAt s i)), Y 12 (.bool (((decide (194 ≤ (byteAt s i))) && (decide ((byteAt s i) < 224))) && (cont s (i + 1))))] rfl ?_)
  refine CW.cond rfl ?_ ?_ <;> intro hb2 <;> try simp only [zb] at hb2
  ·refine CW.sr (RL.u (.assign .c) rfl (RL.nil (CW.id (CW.ret (hE.r1 rfl rfl ?_)))))
   clear hE
   refine ⟨congrArg (fun x => Ending.returned (i64 x)) ?_, rfl⟩
   unfold rune; (try dsimp only); (repeat' split)
   all_goals first | rfl | (exfalso; simp only [zb] at *; omega) | (exfalso; simp_all; done) | (exfalso; simp_all; omega)
  ·refine CW.sr (RL.m rfl rfl (RL.u (.geq (.t rfl) .c) rfl (RL.m rfl rfl (RL.v (.pos rfl rfl) (.move (.t rfl)) rfl (RL.v (.pos rfl rfl) (.lss (.g rfl (fun h => h)) .c) rfl (RL.u (.and (.t rfl) (.g rfl (fun h => h))) rfl (RL.m rfl rfl (RL.v (.pos rfl rfl) (.move (.t rfl)) rfl (RL.v (.pos rfl rfl) (.move (.t rfl)) rfl (RL.v (.pos rfl rfl) (.add (.g rfl (fun h => h)) .c (fun hW => by simp only [zb] at hW; first | omega | (unfold cont at *; simp only [zb] at *; omega))) rfl ?_))))))))))
   refine RL.callS (.pos rfl rfl) Tryz.call90 (.cons (.g rfl (fun h => h)) (.cons (.g rfl (fun h => h)) .nil)) (fun hW => by simp only [zb] at hW; exact (cont_c s (i + 1) _ (by omega))) rfl ?_
   refine RL.u (.and (.t rfl) (.g rfl (fun h => h))) rfl (RL.m rfl rfl (RL.v (.pos rfl rfl) (.move (.t rfl)) rfl (RL.v (.pos rfl rfl) (.move (.t rfl)) rfl (RL.v (.pos rfl rfl) (.add (.g rfl (fun h => h)) .c (fun hW => by simp only [zb] at hW; first | omega | (unfold cont at *; simp only [zb] at *; omega))) rfl ?_))))
   refine RL.callS (.pos rfl rfl) Tryz.call90 (.cons (.g rfl (fun h => h)) (.cons (.g rfl (fun h => h)) .nil)) (fun hW => by simp only [zb] at hW; exact (cont_c s (i + 2) _ (by omega))) rfl ?_
   refine RL.u (.and (.t rfl) (.g rfl (fun h => h))) rfl (RL.a rfl rfl ?_)
   refine RL.nil (CW.at [Y 0 (str s), Y 1 (i64 i), Y 5 (.int .u8 (byteAt s i)), Y 25 (.bool ((((decide (224 ≤ (byteAt s i))) && (decide ((byteAt s i) < 240))) && (cont s (i + 1))) && (cont s (i + 2))))] rfl ?_)
   refine CW.cond rfl ?_ ?_ <;> intro hb3 <;> try simp only [zb] at hb3
   ·refine CW.seq (CW.sr (RL.m rfl rfl (RL.u (.eql (.t rfl) .c) rfl (RL.m rfl rfl (RL.v (.pos rfl rfl) (.move (.t rfl)) rfl (RL.v (.pos rfl rfl) (.move (.t rfl)) rfl (RL.v (.pos rfl rfl) (.add (.g rfl (fun h => h)) .c (fun hW => by simp only [zb] at hW; first | omega | (unfold cont at *; simp only [zb] at *; omega))) rfl (RL.v (.pos rfl rfl) (.idxS (.g rfl (fun h => h)) (.g rfl (fun h => h)) Tryz.underlying9 (fun hW => by simp only [zb] at hW; first | omega | (unfold cont at *; simp only [zb] at *; omega))) rfl (RL.v (.pos rfl rfl) (.lss (.g rfl (fun h => h)) .c) rfl (RL.u (.and (.t rfl) (.g rfl (fun h => h))) rfl (RL.m rfl rfl (RL.v (.neg rfl rfl) (.move (.t rfl)) rfl (RL.v (.neg rfl rfl) (.eql (.g rfl (fun h => h)) .c) rfl ?_)))))))))))))
    refine RL.v (.neg rfl rfl) (.move (.g rfl (fun h => h))) rfl (RL.v (.posG rfl rfl) (.move (.t rfl)) rfl (RL.v (.posG rfl rfl) (.move (.t rfl)) rfl (RL.v (.posG rfl rfl) (.add (.g rfl (fun h => h)) .c (fun hW => by simp only [zb] at hW; first | omega | (unfold cont at *; simp only [zb] at *; omega))) rfl (RL.v (.posG rfl rfl) (.idxS (.g rfl (fun h => h)) (.g rfl (fun h => h)) Tryz.underlying9 (fun hW => by simp only [zb] at hW; first | omega | (unfold cont at *; simp only [zb] at *; omega))) rfl (RL.v (.posG rfl rfl) (.geq (.g rfl (fun h => h)) .c) rfl ?_)))))
    refine RL.v (.neg rfl rfl) (.and (.g rfl (fun h => h)) (.g rfl (fun h => h))) rfl (RL.u (.or (.t rfl) (.g rfl (fun h => h))) rfl (RL.nil (CW.id ?_)))
    refine CW.cond rfl ?_ ?_ <;> intro hb4 <;> try simp only [zb] at hb4
    ·refine CW.sr (RL.u (.assign .c) rfl (RL.nil (CW.id (CW.ret (hE.r1 rfl rfl ?_)))))
     clear hE
     refine ⟨congrArg (fun x => Ending.returned (i64 x)) ?_, rfl⟩
     unfold rune; (try dsimp only); (repeat' split)
     all_goals first | rfl | (exfalso; simp only [zb] at *; omega) | (exfalso; simp_all; done) | (exfalso; simp_all; omega)
    ·refine CW.skip (CW.id (CW.sr (RL.u (.assign .c) rfl (RL.nil (CW.id ?_)))))
     refine CW.ret (hE.r1 rfl rfl ?_)
     clear hE
     refine ⟨congrArg (fun x => Ending.returned (i64 x)) ?_, rfl⟩
     unfold rune; (try dsimp only); (repeat' split)
     all_goals first | rfl | (exfalso; simp only [zb] at *; omega) | (exfalso; simp_all; done) | (exfalso; simp_all; omega)
   ·refine CW.sr (RL.m rfl rfl (RL.u (.geq (.t rfl) .c) rfl (RL.m rfl rfl (RL.v (.pos rfl rfl) (.move (.t rfl)) rfl (RL.v (.pos rfl rfl) (.lss (.g rfl (fun h => h)) .c) rfl (RL.u (.and (.t rfl) (.g rfl (fun h => h))) rfl (RL.m rfl rfl (RL.v (.pos rfl rfl) (.move (.t rfl)) rfl (RL.v (.pos rfl rfl) (.move (.t rfl)) rfl (RL.v (.pos rfl rfl) (.add (.g rfl (fun h => h)) .c (fun hW => by simp only [zb] at hW; first | omega | (unfold cont at *; simp only [zb] at *; omega))) rfl ?_))))))))))
    refine RL.callS (.pos rfl rfl) Tryz.call90 (.cons (.g rfl (fun h => h)) (.cons (.g rfl (fun h => h)) .nil)) (fun hW => by simp only [zb] at hW; exact (cont_c s (i + 1) _ (by omega))) rfl ?_
    refine RL.u (.and (.t rfl) (.g rfl (fun h => h))) rfl (RL.m rfl rfl (RL.v (.pos rfl rfl) (.move (.t rfl)) rfl (RL.v (.pos rfl rfl) (.move (.t rfl)) rfl (RL.v (.pos rfl rfl) (.add (.g rfl (fun h => h)) .c (fun hW => by simp only [zb] at hW; first | omega | (unfold cont at *; simp only [zb] at *; omega))) rfl ?_))))
    refine RL.callS (.pos rfl rfl) Tryz.call90 (.cons (.g rfl (fun h => h)) (.cons (.g rfl (fun h => h)) .nil)) (fun hW => by simp only [zb] at hW; exact (cont_c s (i + 2) _ (by omega))) rfl ?_
    refine RL.u (.and (.t rfl) (.g rfl (fun h => h))) rfl (RL.m rfl rfl (RL.v (.pos rfl rfl) (.move (.t rfl)) rfl (RL.v (.pos rfl rfl) (.move (.t rfl)) rfl (RL.v (.pos rfl rfl) (.add (.g rfl (fun h => h)) .c (fun hW => by simp only [zb] at hW; first | omega | (unfold cont at *; simp only [zb] at *; omega))) rfl ?_))))
    refine RL.callS (.pos rfl rfl) Tryz.call90 (.cons (.g rfl (fun h => h)) (.cons (.g rfl (fun h => h)) .nil)) (fun hW => by simp only [zb] at hW; exact (cont_c s (i + 3) _ (by omega))) rfl ?_
    refine RL.u (.and (.t rfl) (.g rfl (fun h => h))) rfl (RL.a rfl rfl ?_)
    refine RL.nil (CW.at [Y 0 (str s), Y 1 (i64 i), Y 5 (.int .u8 (byteAt s i)), Y 64 (.bool (((((decide (240 ≤ (byteAt s i))) && (decide ((byteAt s i) < 245))) && (cont s (i + 1))) && (cont s (i + 2))) && (cont s (i + 3))))] rfl ?_)
    refine CW.cond rfl ?_ ?_ <;> intro hb5 <;> try simp only [zb] at hb5
    ·refine CW.seq (CW.sr (RL.m rfl rfl (RL.u (.eql (.t rfl) .c) rfl (RL.m rfl rfl (RL.v (.pos rfl rfl) (.move (.t rfl)) rfl (RL.v (.pos rfl rfl) (.move (.t rfl)) rfl (RL.v (.pos rfl rfl) (.add (.g rfl (fun h => h)) .c (fun hW => by simp only [zb] at hW; first | omega | (unfold cont at *; simp only [zb] at *; omega))) rfl (RL.v (.pos rfl rfl) (.idxS (.g rfl (fun h => h)) (.g rfl (fun h => h)) Tryz.underlying9 (fun hW => by simp only [zb] at hW; first | omega | (unfold cont at *; simp only [zb] at *; omega))) rfl (RL.v (.pos rfl rfl) (.lss (.g rfl (fun h => h)) .c) rfl (RL.u (.and (.t rfl) (.g rfl (fun h => h))) rfl (RL.m rfl rfl (RL.v (.neg rfl rfl) (.move (.t rfl)) rfl (RL.v (.neg rfl rfl) (.eql (.g rfl (fun h => h)) .c) rfl ?_)))))))))))))
     refine RL.v (.neg rfl rfl) (.move (.g rfl (fun h => h))) rfl (RL.v (.posG rfl rfl) (.move (.t rfl)) rfl (RL.v (.posG rfl rfl) (.move (.t rfl)) rfl (RL.v (.posG rfl rfl) (.add (.g rfl (fun h => h)) .c (fun hW => by simp only [zb] at hW; first | omega | (unfold cont at *; simp only [zb] at *; omega))) rfl (RL.v (.posG rfl rfl) (.idxS (.g rfl (fun h => h)) (.g rfl (fun h => h)) Tryz.underlying9 (fun hW => by simp only [zb] at hW; first | omega | (unfold cont at *; simp only [zb] at *; omega))) rfl (RL.v (.posG rfl rfl) (.geq (.g rfl (fun h => h)) .c) rfl ?_)))))
     refine RL.v (.neg rfl rfl) (.and (.g rfl (fun h => h)) (.g rfl (fun h => h))) rfl (RL.u (.or (.t rfl) (.g rfl (fun h => h))) rfl (RL.nil (CW.id ?_)))
     refine CW.cond rfl ?_ ?_ <;> intro hb6 <;> try simp only [zb] at hb6
     ·refine CW.sr (RL.u (.assign .c) rfl (RL.nil (CW.id (CW.ret (hE.r1 rfl rfl ?_)))))
      clear hE
      refine ⟨congrArg (fun x => Ending.returned (i64 x)) ?_, rfl⟩
      unfold rune; (try dsimp only); (repeat' split)
      all_goals first | rfl | (exfalso; simp only [zb] at *; omega) | (exfalso; simp_all; done) | (exfalso; simp_all; omega)
     ·refine CW.skip (CW.id (CW.sr (RL.u (.assign .c) rfl (RL.nil (CW.id ?_)))))
      refine CW.ret (hE.r1 rfl rfl ?_)
      clear hE
      refine ⟨congrArg (fun x => Ending.returned (i64 x)) ?_, rfl⟩
      unfold rune; (try dsimp only); (repeat' split)
      all_goals first | rfl | (exfalso; simp only [zb] at *; omega) | (exfalso; simp_all; done) | (exfalso; simp_all; omega)
    ·refine CW.skip (CW.id (CW.sr (RL.u (.assign .c) rfl (RL.nil (CW.id ?_)))))
     refine CW.ret (hE.r1 rfl rfl ?_)
     clear hE
     refine ⟨congrArg (fun x => Ending.returned (i64 x)) ?_, rfl⟩
     unfold rune; (try dsimp only); (repeat' split)
     all_goals first | rfl | (exfalso; simp only [zb] at *; omega) | (exfalso; simp_all; done) | (exfalso; simp_all; omega)

/- loupe/louperef02.Utf -/
theorem utf_c (s : Str) (w : World) (hb : len s ≤ 9223372036854775807) :
  Calls Tryz.prog 38 [(str s)].toArray w fun e w' => e = .returned (.bool (utf s)) ∧ w' = w := by
 refine CW.enter1 Tryz.func38 rfl Tryz.ntmps38 (Nat.le_of_ble_eq_true rfl) fun Q hE => ?_
 have := len_nonneg s
 refine CW.weaken [0] (L' := [Y 0 (str s)]) ?_ rfl
 refine CW.sr (RL.u (.assign .c) rfl (RL.nil (CW.id (CW.sr ?_))))
 refine RL.u (.assign .c) rfl (RL.nil (CW.id ?_))
 refine CW.seq (CW.block ?_)
 refine CW.loop (σ := Int) (fun k => [Y 0 (str s), Y 3 (i64 k)]) (fun k wl => w = wl ∧ 0 ≤ k ∧ utfFrom s k = utf s) (fun k => (len s - k).toNat) 0 [0, 3] rfl ?_ ?_
 ·exact ⟨rfl, by omega, rfl⟩
 ·rintro k wl ⟨rfl, hk0, hkF⟩
  have hr := rune_bd s k
  have hrl := rune_le s k
  refine CW.seq (CW.sr (RL.m rfl rfl (RL.m rfl rfl (RL.u (.lenS (.t rfl) Tryz.underlying9) rfl (RL.u (.lss (.t rfl) (.t rfl)) rfl (RL.nil (CW.id ?_)))))))
  refine CW.cond rfl ?_ ?_ <;> intro hb1 <;> try simp only [zb] at hb1
  ·refine CW.skip (CW.id (CW.block (CW.sr (RL.m rfl rfl (RL.m rfl rfl ?_)))))
   refine RL.callS .none Tryz.call63 (.cons (.t rfl) (.cons (.t rfl) .nil)) (fun _ => (rune_c s k _ (by omega) (by omega) (by omega))) rfl ?_
   refine RL.a rfl rfl ?_
   refine RL.nil (CW.at [Y 0 (str s), Y 3 (i64 k), Y 4 (i64 (rune s k))] rfl (CW.seq (CW.sr (RL.m rfl rfl (RL.u (.eql (.t rfl) .c) rfl (RL.nil (CW.id ?_)))))))
   refine CW.cond rfl ?_ ?_ <;> intro hb2 <;> try simp only [zb] at hb2
   ·refine CW.sr (RL.u (.assign .c) rfl (RL.nil (CW.id (CW.ret (hE.r1 rfl rfl ?_)))))
    exact ⟨by rw [← hkF, utfFrom_bad s k hk0 hb1 (by omega)], rfl⟩
   ·refine CW.skip (CW.id ?_)
    refine CW.region (RL.m rfl rfl (RL.m rfl rfl (RL.u (.add (.t rfl) (.t rfl) (fun _ => by omega)) rfl (RL.a rfl rfl ?_))))
    refine RL.nil fun a hs => Exists.intro (k + rune s k) ⟨hs.keep [0, 3], ?_, ?_⟩
    ·exact ⟨rfl, by omega, by rw [← hkF, utfFrom_step s k hk0 hb1 (by omega)]⟩
    ·show Int.toNat _ < Int.toNat _; omega
  ·refine CW.exit (CW.at [] rfl ?_)
   refine CW.sr (RL.u (.assign .c) rfl (RL.nil (CW.id (CW.ret (hE.r1 rfl rfl ?_)))))
   exact ⟨by rw [← hkF, utfFrom_end s k (by omega)], rfl⟩

/- loupe/louperef01.figures -/
theorem figs_c (s : Str) (w : World) (hb : len s ≤ 9223372036854775807) :
  Calls Tryz.prog 89 [(str s)].toArray w fun e w' => e = .returned (.bool (figs s)) ∧ w' = w := by
 refine CW.enter1 Tryz.func89 rfl Tryz.ntmps89 (Nat.le_of_ble_eq_true rfl) fun Q hE => ?_
 have := len_nonneg s
 refine CW.weaken [0] (L' := [Y 0 (str s)]) ?_ rfl
 refine CW.sr (RL.u (.assign .c) rfl (RL.nil (CW.id (CW.seq ?_))))
 refine CW.sr (RL.u (.assign .c) rfl (RL.nil (CW.id (CW.block ?_))))
 refine CW.loop (σ := Int) (fun k => [Y 0 (str s), Y 3 (i64 k)]) (fun k wl => w = wl ∧ 0 ≤ k ∧ k ≤ len s ∧ figsFrom s k = figs s) (fun k => (len s - k).toNat) 0 [0, 3] rfl ?_ ?_
 ·exact ⟨rfl, by omega, by omega, rfl⟩
 ·rintro k wl ⟨rfl, hk0, hk1, hkF⟩
  refine CW.seq (CW.sr (RL.m rfl rfl (RL.m rfl rfl (RL.u (.lenS (.t rfl) Tryz.underlying9) rfl (RL.u (.lss (.t rfl) (.t rfl)) rfl (RL.nil (CW.id ?_)))))))
  refine CW.cond rfl ?_ ?_ <;> intro hb1 <;> try simp only [zb] at hb1
  ·refine CW.skip (CW.id (CW.seq (CW.block (CW.sr ?_))))
   refine RL.m rfl rfl (RL.m rfl rfl (RL.u (.idxS (.t rfl) (.t rfl) Tryz.underlying9 (fun _ => by omega)) rfl (RL.u (.lss (.t rfl) .c) rfl (RL.m rfl rfl (RL.v (.neg rfl rfl) (.move (.t rfl)) rfl ?_)))))
   refine RL.v (.neg rfl rfl) (.move (.t rfl)) rfl (RL.v (.neg rfl rfl) (.idxS (.g rfl (fun h => h)) (.g rfl (fun h => h)) Tryz.underlying9 (fun hW => by simp only [zb] at hW; omega)) rfl (RL.v (.neg rfl rfl) (.gtr (.g rfl (fun h => h)) .c) rfl (RL.u (.or (.t rfl) (.g rfl (fun h => h))) rfl (RL.nil (CW.id ?_)))))
   refine CW.cond rfl ?_ ?_ <;> intro hb2 <;> try simp only [zb] at hb2
   ·refine CW.sr (RL.u (.assign .c) rfl (RL.nil (CW.id (CW.ret (hE.r1 rfl rfl ?_)))))
    exact ⟨by rw [← hkF, figsFrom_bad s k hk0 hb1 (by simp only [isFig, zb]; omega)], rfl⟩
   ·refine CW.skip (CW.id ?_)
    refine CW.region (RL.m rfl rfl (RL.u (.add (.t rfl) .c (fun _ => by omega)) rfl (RL.a rfl rfl ?_)))
    refine RL.nil fun a hs => Exists.intro (k + 1) ⟨hs.keep [0, 3], ?_, ?_⟩
    ·exact ⟨rfl, by omega, by omega, by rw [← hkF, figsFrom_step s k hk0 hb1 (by simp only [isFig, zb]; omega)]⟩
    ·show Int.toNat _ < Int.toNat _; omega
  ·refine CW.exit (CW.at [] rfl ?_)
   refine CW.sr (RL.u (.assign .c) rfl (RL.nil (CW.id (CW.ret (hE.r1 rfl rfl ?_)))))
   exact ⟨by rw [← hkF, figsFrom_end s k (by omega)], rfl⟩

/- loupe/louperef01.Right -/
theorem right1_c (n : Nd) (w : World) (hb : len n.s ≤ 9223372036854775807) :
  Calls Tryz.prog 61 [(ndV n)].toArray w fun e w' => e = .returned (.bool (right1 n)) ∧ Ext w w' := by
 refine CW.enter1 Tryz.func61 rfl Tryz.ntmps61 (Nat.le_of_ble_eq_true rfl) fun Q hE => ?_
 have hn0 := len_nonneg n.s
 have hS : St w nM w nM [] := St.start ⟨fun _ _ _ h => by cases h⟩
 refine CW.weaken [0] (L' := [Y 0 (ndV n)]) ?_ rfl
 refine CW.sr ?_
 refine RL.box (v := (ndV n)) hS (.t rfl) rfl (fun w1 b2 hS3 => ?_)
 refine RL.u (.assign .c) rfl (RL.nil (CW.id ?_))
 refine CW.seq (CW.sr (RL.u (.fldA (q := ⟨b2, 0, none⟩) (.t rfl) (fun w => by kernel_rfl)) rfl (RL.u (.loadB1 (v := (i64 n.kind)) hS3 extEq (i := 0) rfl (.t rfl) Tryz.isAgg3 rfl) rfl (RL.u (.neq (.t rfl) .c) rfl (RL.m rfl rfl (RL.v (.neg rfl rfl) (.fldA (q := ⟨b2, 1, none⟩) (.t rfl) (fun w => by kernel_rfl)) rfl (RL.v (.neg rfl rfl) (.loadB1 (v := (i64 n.many)) hS3 extEq (i := 0) rfl (.g rfl (fun h => h)) Tryz.isAgg3 rfl) rfl (RL.v (.neg rfl rfl) (.neq (.g rfl (fun h => h)) .c) rfl (RL.u (.or (.t rfl) (.g rfl (fun h => h))) rfl (RL.m rfl rfl (RL.v (.neg rfl rfl) (.fldA (q := ⟨b2, 2, none⟩) (.t rfl) (fun w => by kernel_rfl)) rfl (RL.v (.neg rfl rfl) (.loadB1 (v := (str n.name)) hS3 extEq (i := 0) rfl (.g rfl (fun h => h)) Tryz.isAgg9 rfl) rfl (RL.v (.neg rfl rfl) (.sneq (.g rfl (fun h => h)) .c) rfl ?_)))))))))))))
 refine RL.u (.or (.t rfl) (.g rfl (fun h => h))) rfl (RL.m rfl rfl (RL.v (.neg rfl rfl) (.fldA (q := ⟨b2, 3, none⟩) (.t rfl) (fun w => by kernel_rfl)) rfl (RL.v (.neg rfl rfl) (.loadB1 (v := (str n.s)) hS3 extEq (i := 0) rfl (.g rfl (fun h => h)) Tryz.isAgg9 rfl) rfl ?_)))
 refine RL.callS (.neg rfl rfl) Tryz.call89 (.cons (.g rfl (fun h => h)) .nil) (fun hW => by simp only [zb] at hW; exact (figs_c n.s _ (by omega))) rfl ?_
 refine RL.v (.neg rfl rfl) (.not (.g rfl (fun h => h))) rfl (RL.u (.or (.t rfl) (.g rfl (fun h => h))) rfl (RL.m rfl rfl (RL.v (.neg rfl rfl) (.fldA (q := ⟨b2, 3, none⟩) (.t rfl) (fun w => by kernel_rfl)) rfl (RL.v (.neg rfl rfl) (.loadB1 (v := (str n.s)) hS3 extEq (i := 0) rfl (.g rfl (fun h => h)) Tryz.isAgg9 rfl) rfl (RL.v (.neg rfl rfl) (.lenS (.g rfl (fun h => h)) Tryz.underlying9) rfl ?_)))))
 refine RL.v (.neg rfl rfl) (.gtr (.g rfl (fun h => h)) .c) rfl (RL.u (.or (.t rfl) (.g rfl (fun h => h))) rfl (RL.m rfl rfl (RL.v (.neg rfl rfl) (.fldA (q := ⟨b2, 5, none⟩) (.t rfl) (fun w => by kernel_rfl)) rfl (RL.v (.neg rfl rfl) (.loadB1 (v := (i64 n.e)) hS3 extEq (i := 0) rfl (.g rfl (fun h => h)) Tryz.isAgg3 rfl) rfl (RL.v (.neg rfl rfl) (.lss (.g rfl (fun h => h)) .c) rfl ?_)))))
 refine RL.u (.or (.t rfl) (.g rfl (fun h => h))) rfl (RL.m rfl rfl (RL.v (.neg rfl rfl) (.fldA (q := ⟨b2, 5, none⟩) (.t rfl) (fun w => by kernel_rfl)) rfl (RL.v (.neg rfl rfl) (.loadB1 (v := (i64 n.e)) hS3 extEq (i := 0) rfl (.g rfl (fun h => h)) Tryz.isAgg3 rfl) rfl (RL.v (.neg rfl rfl) (.gtr (.g rfl (fun h => h)) .c) rfl (RL.u (.or (.t rfl) (.g rfl (fun h => h))) rfl ?_)))))
 refine RL.m rfl rfl (RL.v (.neg rfl rfl) (.fldA (q := ⟨b2, 3, none⟩) (.t rfl) (fun w => by kernel_rfl)) rfl (RL.v (.neg rfl rfl) (.loadB1 (v := (str n.s)) hS3 extEq (i := 0) rfl (.g rfl (fun h => h)) Tryz.isAgg9 rfl) rfl (RL.v (.neg rfl rfl) (.lenS (.g rfl (fun h => h)) Tryz.underlying9) rfl (RL.v (.neg rfl rfl) (.fldA (q := ⟨b2, 5, none⟩) (.t rfl) (fun w => by kernel_rfl)) rfl (RL.v (.neg rfl rfl) (.loadB1 (v := (i64 n.e)) hS3 extEq (i := 0) rfl (.g rfl (fun h => h)) Tryz.isAgg3 rfl) rfl ?_)))))
 refine RL.v (.neg rfl rfl) (.add (.g rfl (fun h => h)) (.g rfl (fun h => h)) (fun hW => by simp only [zb] at hW; omega)) rfl (RL.v (.neg rfl rfl) (.gtr (.g rfl (fun h => h)) .c) rfl (RL.u (.or (.t rfl) (.g rfl (fun h => h))) rfl ?_))
 refine RL.nil (CW.at [Y 1 (.pointer (some ⟨b2, 0, none⟩)), Y 46 (.bool ((((((((n.kind != 3) || (n.many != 0)) || (!(n.name == []))) || (!(figs n.s))) || (decide (100 < (len n.s)))) || (decide (n.e < ((-1000))))) || (decide (1000 < n.e))) || (decide (1000 < ((len n.s) + n.e)))))] rfl ?_)
 refine CW.cond rfl ?_ ?_ <;> intro hb1 <;> try simp only [zb] at hb1
 ·refine CW.sr (RL.u (.assign .c) rfl (RL.nil (CW.id (CW.ret (hE.r1 rfl rfl ?_)))))
  clear hE
  refine ⟨congrArg (fun x => Ending.returned (.bool x)) ?_, hS3.low⟩
  unfold right1; (try dsimp only); (repeat' split)
  all_goals first | rfl | (exfalso; simp only [zb] at *; omega) | (exfalso; simp_all; done) | (exfalso; simp_all; omega)
 ·refine CW.skip (CW.id (CW.seq (CW.sr (RL.u (.fldA (q := ⟨b2, 3, none⟩) (.t rfl) (fun w => by kernel_rfl)) rfl (RL.u (.loadB1 (v := (str n.s)) hS3 extEq (i := 0) rfl (.t rfl) Tryz.isAgg9 rfl) rfl (RL.u (.seql (.t rfl) .c) rfl (RL.nil (CW.id ?_))))))))
  refine CW.cond rfl ?_ ?_ <;> intro hb2 <;> try simp only [zb] at hb2
  ·refine CW.sr (RL.u (.fldA (q := ⟨b2, 4, none⟩) (.t rfl) (fun w => by kernel_rfl)) rfl (RL.u (.loadB1 (v := (.bool n.neg)) hS3 extEq (i := 0) rfl (.t rfl) Tryz.isAgg4 rfl) rfl (RL.u (.not (.t rfl)) rfl (RL.m rfl rfl (RL.v (.pos rfl rfl) (.fldA (q := ⟨b2, 5, none⟩) (.t rfl) (fun w => by kernel_rfl)) rfl (RL.v (.pos rfl rfl) (.loadB1 (v := (i64 n.e)) hS3 extEq (i := 0) rfl (.g rfl (fun h => h)) Tryz.isAgg3 rfl) rfl (RL.v (.pos rfl rfl) (.eql (.g rfl (fun h => h)) .c) rfl (RL.u (.and (.t rfl) (.g rfl (fun h => h))) rfl (RL.a rfl rfl (RL.nil (CW.id ?_)))))))))))
   refine CW.ret (hE.r1 rfl rfl ?_)
   clear hE
   refine ⟨congrArg (fun x => Ending.returned (.bool x)) ?_, hS3.low⟩
   unfold right1; (try dsimp only); (repeat' split)
   all_goals first | rfl | (exfalso; simp only [zb] at *; omega) | (exfalso; simp_all; done) | (exfalso; simp_all; omega)
  ·have hpos := len_pos hb2
   refine CW.skip (CW.id (CW.sr (RL.u (.fldA (q := ⟨b2, 3, none⟩) (.t rfl) (fun w => by kernel_rfl)) rfl (RL.u (.loadB1 (v := (str n.s)) hS3 extEq (i := 0) rfl (.t rfl) Tryz.isAgg9 rfl) rfl (RL.u (.idxS (.t rfl) .c Tryz.underlying9 (fun _ => by omega)) rfl (RL.u (.neq (.t rfl) .c) rfl (RL.m rfl rfl (RL.v (.pos rfl rfl) (.fldA (q := ⟨b2, 3, none⟩) (.t rfl) (fun w => by kernel_rfl)) rfl (RL.v (.pos rfl rfl) (.loadB1 (v := (str n.s)) hS3 extEq (i := 0) rfl (.g rfl (fun h => h)) Tryz.isAgg9 rfl) rfl (RL.v (.pos rfl rfl) (.fldA (q := ⟨b2, 3, none⟩) (.t rfl) (fun w => by kernel_rfl)) rfl (RL.v (.pos rfl rfl) (.loadB1 (v := (str n.s)) hS3 extEq (i := 0) rfl (.g rfl (fun h => h)) Tryz.isAgg9 rfl) rfl (RL.v (.pos rfl rfl) (.lenS (.g rfl (fun h => h)) Tryz.underlying9) rfl (RL.v (.pos rfl rfl) (.sub (.g rfl (fun h => h)) .c (fun hW => by simp only [zb] at hW; omega)) rfl (RL.v (.pos rfl rfl) (.idxS (.g rfl (fun h => h)) (.g rfl (fun h => h)) Tryz.underlying9 (fun hW => by simp only [zb] at hW; omega)) rfl ?_))))))))))))))
   refine RL.v (.pos rfl rfl) (.neq (.g rfl (fun h => h)) .c) rfl (RL.u (.and (.t rfl) (.g rfl (fun h => h))) rfl (RL.a rfl rfl (RL.nil (CW.id ?_))))
   refine CW.ret (hE.r1 rfl rfl ?_)
   clear hE
   refine ⟨congrArg (fun x => Ending.returned (.bool x)) ?_, hS3.low⟩
   unfold right1; (try dsimp only); (repeat' split)
   all_goals first | rfl | (exfalso; simp only [zb] at *; omega) | (exfalso; simp_all; done) | (exfalso; simp_all; omega)

theorem fieldsNd : Tryz.prog.underlying 38 = some (.struct (Tryz.prog.fieldsOf 38)) := by kernel_rfl
theorem fieldsLNd : (Tryz.prog.fieldsOf 38).toList = [⟨ "Kind", 3, 0, false, "", "", 0⟩, ⟨ "Many", 3, 1, false, "", "", 8⟩, ⟨ "Name", 9, 2, false, "", "", 16⟩, ⟨ "S", 9, 3, false, "", "", 32⟩, ⟨ "Neg", 4, 4, false, "", "", 48⟩, ⟨ "E", 3, 5, false, "", "", 56⟩] := by kernel_rfl
theorem eqInNd (d : Nat) (a b : Nd) (w : World) : (Op.equalIn (d + 1 + 1) 38 (.agg (Nd.cells a).toArray) (.agg (Nd.cells b).toArray)).run Tryz.prog w = .ok (decide (a = b)) w := by
  rw [run_equalIn_agg w _ _ _ _ fieldsNd Tryz.stoodInHeld38, fieldsLNd]
  rw [eqF_cons (P := Tryz.prog) (w := w) (xs := (Nd.cells a).toArray) (ys := (Nd.cells b).toArray) (f := ⟨ "Kind", 3, 0, false, "", "", 0⟩) (by decide) (show (part 3 (Nd.cells a).toArray 0).run Tryz.prog w = .ok (i64 ((a).kind)) w by kernel_rfl) (show (part 3 (Nd.cells b).toArray 0).run Tryz.prog w = .ok (i64 ((b).kind)) w by kernel_rfl) (eqI Tryz.underlying3 w d ((a).kind) ((b).kind))]
  rw [eqF_cons (P := Tryz.prog) (w := w) (xs := (Nd.cells a).toArray) (ys := (Nd.cells b).toArray) (f := ⟨ "Many", 3, 1, false, "", "", 8⟩) (by decide) (show (part 3 (Nd.cells a).toArray 1).run Tryz.prog w = .ok (i64 ((a).many)) w by kernel_rfl) (show (part 3 (Nd.cells b).toArray 1).run Tryz.prog w = .ok (i64 ((b).many)) w by kernel_rfl) (eqI Tryz.underlying3 w d ((a).many) ((b).many))]
  rw [eqF_cons (P := Tryz.prog) (w := w) (xs := (Nd.cells a).toArray) (ys := (Nd.cells b).toArray) (f := ⟨ "Name", 9, 2, false, "", "", 16⟩) (by decide) (show (part 9 (Nd.cells a).toArray 2).run Tryz.prog w = .ok (str ((a).name)) w by kernel_rfl) (show (part 9 (Nd.cells b).toArray 2).run Tryz.prog w = .ok (str ((b).name)) w by kernel_rfl) (eqS Tryz.underlying9 w d ((a).name) ((b).name))]
  rw [eqF_cons (P := Tryz.prog) (w := w) (xs := (Nd.cells a).toArray) (ys := (Nd.cells b).toArray) (f := ⟨ "S", 9, 3, false, "", "", 32⟩) (by decide) (show (part 9 (Nd.cells a).toArray 3).run Tryz.prog w = .ok (str ((a).s)) w by kernel_rfl) (show (part 9 (Nd.cells b).toArray 3).run Tryz.prog w = .ok (str ((b).s)) w by kernel_rfl) (eqS Tryz.underlying9 w d ((a).s) ((b).s))]
  rw [eqF_cons (P := Tryz.prog) (w := w) (xs := (Nd.cells a).toArray) (ys := (Nd.cells b).toArray) (f := ⟨ "Neg", 4, 4, false, "", "", 48⟩) (by decide) (show (part 4 (Nd.cells a).toArray 4).run Tryz.prog w = .ok (.bool ((a).neg)) w by kernel_rfl) (show (part 4 (Nd.cells b).toArray 4).run Tryz.prog w = .ok (.bool ((b).neg)) w by kernel_rfl) (eqB Tryz.underlying4 w d ((a).neg) ((b).neg))]
  rw [eqF_cons (P := Tryz.prog) (w := w) (xs := (Nd.cells a).toArray) (ys := (Nd.cells b).toArray) (f := ⟨ "E", 3, 5, false, "", "", 56⟩) (by decide) (show (part 3 (Nd.cells a).toArray 5).run Tryz.prog w = .ok (i64 ((a).e)) w by kernel_rfl) (show (part 3 (Nd.cells b).toArray 5).run Tryz.prog w = .ok (i64 ((b).e)) w by kernel_rfl) (eqI Tryz.underlying3 w d ((a).e) ((b).e))]
  have ht : (.ok true w : Result Bool) = .ok (decide True) w := rfl
  rw [eqF_nil, ht]
  simp only [ite_ok]
  have hp : ((a).kind = (b).kind ∧ (a).many = (b).many ∧ (a).name = (b).name ∧ (a).s = (b).s ∧ (a).neg = (b).neg ∧ (a).e = (b).e ∧ True) ↔ a = b := by cases a; cases b; simp
  rw [decide_eq_decide.2 hp]
theorem eqNd (x y : Operand) (a b : Nd) (w : World) : (do eqGuard .eql 38 x y (.agg (Nd.cells a).toArray) (.agg (Nd.cells b).toArray); binOp .eql 38 (.agg (Nd.cells a).toArray) (.agg (Nd.cells b).toArray) : Sem Value).run Tryz.prog w = .ok (.bool (decide (a = b))) w := run_eql_of x y w Tryz.eqGuardType38 (eqInNd 9998 a b w)
theorem neNd (x y : Operand) (a b : Nd) (w : World) : (do eqGuard .neq 38 x y (.agg (Nd.cells a).toArray) (.agg (Nd.cells b).toArray); binOp .neq 38 (.agg (Nd.cells a).toArray) (.agg (Nd.cells b).toArray) : Sem Value).run Tryz.prog w = .ok (.bool (!(decide (a = b)))) w := run_neq_of x y w Tryz.eqGuardType38 (eqInNd 9998 a b w)

end Go.Proofs.YtjfaikgooldcbaaGreatDoor
namespace Go.Proofs.YtjfaikgooldcbaaGreatDoor
open Go.Eng Go.RowKit Go.Sort

/-- What the listed variables of the library hold. -/
structure Gl (w : World) : Prop where
  big : 3 < w.heap.size
  u8 : Lib.Utf8Tabs 1 2 w
  pow : Lib.TabIs Tryz.prog w "internal/strconv.uint64pow10" .u64 Lib.pow10Tab
  deb : w.cell? ⟨7, 15, none⟩ = some (.int .u8 4)
  err : ∃ ev, w.cell? ⟨4, 0, none⟩ = some ev ∧ (ev = .nilIface ∨ ∃ t p, ev = .iface t p)

theorem cellLow {w w' : World} (h : Below w.heap.size w w') {a : Addr} {v : Value} (hv : w.cell? a = some v) : w'.cell? a = some v := by
  have hlt : a.block < w.heap.size := by
    rcases Nat.lt_or_ge a.block w.heap.size with h' | h'
    · exact h'
    · simp [World.cell?, h'] at hv
  exact (h.cell hlt).trans hv
theorem Gl.low {w w' : World} (g : Gl w) (h : Below w.heap.size w w') : Gl w' := by
  have hb := g.big
  have hs := h.size
  refine ⟨by omega, ⟨fun c hc => cellLow h (g.u8.1 c hc), fun i hi => ⟨cellLow h (g.u8.2 i hi).1, cellLow h (g.u8.2 i hi).2⟩⟩, ?_, cellLow h g.deb, by obtain ⟨ev, h1, h2⟩ := g.err; exact ⟨ev, cellLow h h1, h2⟩⟩
  exact var?_below h (show Tryz.prog.globalNamed "internal/strconv.uint64pow10" = some 3 by kernel_rfl) hb g.pow

theorem hasPrefix_c (s p : Str) (w : World) : Calls Tryz.prog 68 [str s, str p].toArray w fun e w' => e = .returned (.bool (Lib.hasPrefix s p)) ∧ w' = w := Tryz.strings_HasPrefix ⟨⟨s⟩⟩ ⟨⟨p⟩⟩ w
theorem trimLeft_c (s cut : Str) (w : World) (hc : len cut < 4294967281) (ha : ∀ (j : Nat) (b : UInt8), cut[j]? = some b → b.toNat < 128) :
    Calls Tryz.prog 40 [str s, str cut].toArray w fun e w' => e = .returned (str (s.dropWhile (cut.contains ·))) ∧ Ext w w' :=
  (Any.strings_TrimLeft_laid Tryz.lays161 (by kernel_rfl) ⟨⟨s⟩⟩ ⟨⟨cut⟩⟩ w (by unfold len at hc; show cut.length < _; omega) ha)
theorem trimRight_c (s cut : Str) (w : World) (hs : len s ≤ 9223372036854775807) (hc : len cut < 4294967281) (ha : ∀ (j : Nat) (b : UInt8), cut[j]? = some b → b.toNat < 128) :
    Calls Tryz.prog 129 [str s, str cut].toArray w fun e w' => e = .returned (str (Lib.trimRightS s cut)) ∧ Ext w w' :=
  (Any.strings_TrimRight_laid Tryz.lays162 (by kernel_rfl) ⟨⟨s⟩⟩ ⟨⟨cut⟩⟩ w (by unfold len at hs; show s.length ≤ _; omega) (by unfold len at hc; show cut.length < _; omega) ha)
theorem decodeRune_c (s : Str) (w : World) (g : Gl w) (h : 0 < len s) :
    Calls Tryz.prog 92 [str s].toArray w fun e w' => e = .returned (.tuple #[.int .i32 (runeAt s 0), i64 (runeLen s 0)]) ∧ Ext w w' := by
  have h0 : ¬ (ByteArray.mk ⟨s⟩).size = 0 := by show ¬ s.length = 0; unfold len at h; omega
  have := Tryz.utf8_DecodeRuneInString ⟨⟨s⟩⟩ w g.u8
  rw [show Lib.decodeGo ⟨⟨s⟩⟩ = Utf8.decode ⟨⟨s⟩⟩ 0 from by unfold Lib.decodeGo; rw [if_neg h0]] at this
  exact this
theorem indexByte_c (s : Str) (c : Int) (w : World) : Calls Tryz.prog 43 [str s, .int .u8 c].toArray w fun e w' => e = .returned (i64 (Lib.indexByte s c.toNat.toUInt8)) ∧ w' = w := Tryz.strings_IndexByte ⟨⟨s⟩⟩ c w
theorem repeatL_one (c : UInt8) : ∀ n, Lib.repeatL [c] n = List.replicate n c
  | 0 => rfl
  | n + 1 => by rw [Lib.repeatL, repeatL_one c n]; rfl
theorem repeat1_c (c : UInt8) (n : Int) (w : World) (h0 : 0 ≤ n) (h1 : n ≤ 140737488355328) :
    Calls Tryz.prog 82 [str [c], i64 n].toArray w fun e w' => e = .returned (str (List.replicate n.toNat c)) ∧ Ext w w' := by
  by_cases ha : n = 0
  · subst ha; exact (Tryz.strings_Repeat_zero ⟨⟨[c]⟩⟩ w).mono fun e w' ⟨he, hw⟩ => ⟨he, hw ▸ Ext.refl _⟩
  · by_cases hb : n = 1
    · subst hb; exact (Tryz.strings_Repeat_one ⟨⟨[c]⟩⟩ w).mono fun e w' ⟨he, hw⟩ => ⟨he, hw ▸ Ext.refl _⟩
    · have := Tryz.strings_Repeat_main ⟨⟨[c]⟩⟩ n.toNat w (by omega) (by omega) (by show 1 * _ ≤ _; omega) (by show 0 < 1; omega)
      rw [show ((n.toNat : Nat) : Int) = n from by omega] at this
      refine this.mono fun e w' ⟨he, hw⟩ => ⟨?_, hw⟩
      rw [he]; show Ending.returned (str (Lib.repeatL [c] n.toNat)) = _; rw [repeatL_one]
theorem ext_drewN {w w' : World} (h : Ext w w') (k : Nat) : Ext w (w'.drewN k) := ⟨h.os, h.tape, h.output, h.size, h.block⟩
theorem ext_grow (w : World) (os : Array Obj) : Ext w (grow w os) := ⟨rfl, rfl, rfl, by show w.heap.size ≤ (w.heap ++ os).size; rw [Array.size_append]; omega, fun _ hj => by show (w.heap ++ os)[_]? = _; rw [Array.getElem?_append_left hj]⟩
theorem itoa_c (n : Int) (w : World) (g : Gl w) (h0 : -9223372036854775808 ≤ n) (h1 : n ≤ 9223372036854775807) :
    Calls Tryz.prog 113 [i64 n].toArray w fun e w' => e = .returned (str (Lib.itoa n)) ∧ Ext w w' :=
  (Tryz.strconv_Itoa n h0 h1 w g.pow).mono fun e w' ⟨he, k, os, hw⟩ => ⟨he, hw ▸ Ext.trans (ext_drewN (Ext.refl w) k) (ext_grow _ os)⟩
theorem atoi_c (s : Str) (v : Int) (w : World) (hs : len s ≤ 9223372036854775806) (h : Lib.atoiAll s = .ok v) :
    Calls Tryz.prog 100 [str s].toArray w fun e w' => e = .returned (.tuple #[i64 v, .nilIface]) ∧ Ext w w' :=
  (Tryz.strconv_Atoi_ok ⟨⟨s⟩⟩ (by show s.length ≤ _; unfold len at hs; omega) v h w).mono fun e w' ⟨he, hw⟩ => ⟨he, by
    rcases hw with hw | ⟨t, hw⟩
    · exact hw ▸ Ext.refl _
    · exact hw ▸ Joins.below_bytesWorld _ _ _ _ (Nat.le_refl _)⟩
theorem trimFunc_c (g : Nat) (p : Nat → Bool) (s : Str) (w : World) (hg : Gl w) (eg : ∀ args w, (callFunc g args).run Tryz.prog w = .ok (.enter g args) w) (hs : len s ≤ 9223372036854775807)
    (hp : ∀ (x : Nat) (w : World), x ≤ 1114111 → Calls Tryz.prog g [.int .i32 x].toArray w fun e w' => e = .returned (.bool (p x)) ∧ w' = w) :
    Calls Tryz.prog 157 [str s, .func (.func g) #[] #[]].toArray w fun e w' => e = .returned (str (Lib.trimF p ⟨⟨s⟩⟩).data.toList) ∧ Ext w w' :=
by
  have hq : PredAtRunes Tryz.prog g #[] p w := by
    intro W x hx _
    show Calls Tryz.prog g (#[encR x] ++ #[]) W _
    exact (hp x W hx).mono fun e w' ⟨he, hw⟩ => ⟨he, 0, hw⟩
  refine (Tryz.strings_TrimFunc_runes g #[] eg p ⟨⟨s⟩⟩ w (by show s.length ≤ _; unfold len at hs; omega) hg.u8 hq).mono fun e w' ⟨he, hw⟩ => ⟨?_, hw⟩
  rw [he]
theorem cut_low8 {cut : Str} (h : ∀ b ∈ cut, b.toNat < 128) : ∀ (j : Nat) (b : UInt8), cut[j]? = some b → b.toNat < 128 := fun _ b hb => h b (List.mem_of_getElem? hb)
end Go.Proofs.YtjfaikgooldcbaaGreatDoor
namespace Go.Proofs.YtjfaikgooldcbaaGreatDoor
open Go.ChangeShapes Go.WideShapes Go.ChangeAt Go.RowKit Go.Eng

theorem own : ownKnob Tryz.prog.godebug = none := by kernel_rfl
abbrev Laid : List (String × DataW Unit) := [("math/bits.deBruijn32tab", Rows.laid_math_bits_deBruijn32tab), ("math/bits.deBruijn64tab", Rows.laid_math_bits_deBruijn64tab), ("internal/strconv.uint64pow10", Rows.laid_internal_strconv_uint64pow10), ("unicode/utf8.acceptRanges", Rows.laid_unicode_utf8_acceptRanges), ("strconv.ErrRange", Rows.laid_strconv_ErrRange), ("strconv.ErrSyntax", Rows.laid_strconv_ErrSyntax), ("unicode/utf8.first", Rows.laid_unicode_utf8_first)]
theorem tabIs_of_reads {P : Program} {W : World} {name : String} {k : IntKind} {zs : List Int} {g : Nat} {t e : TypeId} {n : Nat}
    (hg : P.globalNamed name = some g) (hty : (P.globals[g]?).map (·.type) = some t) (ht : P.underlying t = some (.array n e)) (he : P.underlying e = some (.int k)) (hce : P.cellsOf e = 1) (hct : P.cellsOf t = n)
    (h : Lib.VarReads P W name (Lib.tabData k zs)) : Lib.TabIs P W name k zs := by
  obtain ⟨g', t', cs, fuel, p, hg', ht', hvar, hd⟩ := h
  obtain rfl := Option.some.inj (hg.symm.trans hg')
  obtain rfl := Option.some.inj (hty.symm.trans ht')
  unfold Lib.TabIs
  rw [hvar, ← Lib.cells_of_tab ht he hce hct hd]
theorem tab_size {P : Program} {W : World} {name : String} {k : IntKind} {zs : List Int} {g : Nat} (h : Lib.TabIs P W name k zs) (hg : P.globalNamed name = some g) (h0 : 0 < zs.length) : g < W.heap.size := lt_of_cell (h.cell hg 0 h0)
theorem u8X : U8Extra Tryz.prog Tryz.lays260_ren := ⟨by kernel_rfl, by kernel_rfl, by kernel_rfl, by kernel_rfl, by kernel_rfl, by kernel_rfl, by kernel_rfl⟩
theorem e2 : (Rows.laid_internal_strconv_uint64pow10 : DataW Unit) = Lib.tabData .u64 Lib.pow10Tab := by kernel_rfl
theorem e3 : (Rows.laid_unicode_utf8_first : DataW Unit) = Lib.firstData := by kernel_rfl
theorem e4 : (Rows.laid_unicode_utf8_acceptRanges : DataW Unit) = Lib.acceptData := by kernel_rfl
abbrev debTab : List Int := Lib.deBruijn64tab.map (fun n : Nat => (n : Int))
theorem e5 : (Rows.laid_math_bits_deBruijn64tab : DataW Unit) = Lib.tabData .u8 debTab := by kernel_rfl
theorem starE : "*" ++ "errors.errorString" = "*errors.errorString" := by decide
theorem rowE (u : TypeId) (h : Tryz.prog.typeName? 3 u = some "*errors.errorString") : u = 200 :=
  typeName_ptr_named (nm := "errors.errorString") (by rw [starE]; kernel_rfl) (by kernel_rfl) (by decide) u (by rw [starE]; exact h)
theorem gl_of {W : World} (h : laidMet Tryz.prog Laid W) : Gl W := by
  have r2 := Lib.laidMet.reads h (show ("internal/strconv.uint64pow10", Rows.laid_internal_strconv_uint64pow10) ∈ Laid from .tail _ (.tail _ (.head _)))
  have r3 := Lib.laidMet.reads h (show ("unicode/utf8.first", Rows.laid_unicode_utf8_first) ∈ Laid from .tail _ (.tail _ (.tail _ (.tail _ (.tail _ (.tail _ (.head _)))))))
  have r4 := Lib.laidMet.reads h (show ("unicode/utf8.acceptRanges", Rows.laid_unicode_utf8_acceptRanges) ∈ Laid from .tail _ (.tail _ (.tail _ (.head _))))
  rw [e2] at r2
  rw [e3] at r3
  rw [e4] at r4
  have h2 : Lib.TabIs Tryz.prog W "internal/strconv.uint64pow10" .u64 Lib.pow10Tab :=
    tabIs_of_reads (g := 3) (by kernel_rfl) (by kernel_rfl) Tryz.underlying184 Tryz.underlying160 (by kernel_rfl) (by kernel_rfl) r2
  have h3 : Lib.Utf8Tabs 1 2 W := utf8Tabs_of_readsT (.of260 Tryz.lays260) u8X r3 r4
  refine ⟨tab_size h2 (by kernel_rfl) (of_decide_eq_true (by kernel_rfl)), h3, h2, ?_, ?_⟩
  · have r5 := Lib.laidMet.reads h (show ("math/bits.deBruijn64tab", Rows.laid_math_bits_deBruijn64tab) ∈ Laid from .tail _ (.head _))
    rw [e5] at r5
    have h5 : Lib.TabIs Tryz.prog W "math/bits.deBruijn64tab" .u8 debTab := tabIs_of_reads (g := 7) (by kernel_rfl) (by kernel_rfl) Tryz.underlying211 Tryz.underlying5 (by kernel_rfl) (by kernel_rfl) r5
    exact h5.cell (by kernel_rfl) 15 (of_decide_eq_true (by kernel_rfl))
  · obtain ⟨a, s, hv, _⟩ := laid_sentinel (te := 202) (ts := 9) (f := (Tryz.prog.fieldsOf 202)[0]!) h.tail.tail.tail.tail.tail (show Tryz.prog.globalNamed "strconv.ErrSyntax" = some 4 by kernel_rfl) (by kernel_rfl) Tryz.underlying87 rowE Tryz.underlying200 (by kernel_rfl) (by kernel_rfl) (by kernel_rfl) Tryz.underlying9 (by kernel_rfl) (by kernel_rfl)
    exact ⟨_, var?_cell (by kernel_rfl) hv 0, .inr ⟨_, _, rfl⟩⟩

/-! ### The witness's world -/
def lits (l : List (DataW Unit)) : List Value := l.filterMap fun | .lit (.int k z) => some (.int k z) | _ => none
def partsOf : DataW Unit → List (DataW Unit) | .agg ps => ps | _ => []
def tabCells (d : DataW Unit) : Array Value := (lits (partsOf d)).toArray
def rowCells (l : List (DataW Unit)) : Array Value := (l.flatMap fun p => lits (partsOf p)).toArray
def textOf : DataW Unit → Str | .iface _ (.ptr (.agg [.lit (.string s)])) => s | _ => []
noncomputable def laidWorld (os : Os) : World :=
  let N := (World.settled Tryz.prog os).heap.size
  let w0 := World.holding Tryz.prog os ⟨#[.cells #[str (textOf Rows.laid_strconv_ErrRange)] 202, .cells #[str (textOf Rows.laid_strconv_ErrSyntax)] 202], #[], []⟩
  let put (h : Array Obj) (g : Nat) (cs : Array Value) : Array Obj := h.modify g fun
    | .cells _ t frozen => .cells cs t frozen
    | o => o
  let h1 := put w0.heap 6 (tabCells Rows.laid_math_bits_deBruijn32tab)
  let h2 := put h1 7 (tabCells Rows.laid_math_bits_deBruijn64tab)
  let h3 := put h2 3 (tabCells Rows.laid_internal_strconv_uint64pow10)
  let h4 := put h3 2 (rowCells (partsOf Rows.laid_unicode_utf8_acceptRanges))
  let h5 := put h4 5 #[.iface 200 (.pointer (some ⟨N, 0, none⟩))]
  let h6 := put h5 4 #[.iface 200 (.pointer (some ⟨N + 1, 0, none⟩))]
  let h9 := put h6 1 (tabCells Rows.laid_unicode_utf8_first)
  { w0 with heap := h9 }
noncomputable abbrev N0 : Nat := (World.settled Tryz.prog default).heap.size
set_option maxRecDepth 100000 in
theorem laid_met (os : Os) (args : Array Value) : laidMet Tryz.prog Laid ((laidWorld os).forCall (fun _ _ => 0) ⟨#[], args, []⟩).memory :=
  (LaidIn.of_run [6, 7, 3, 2, 5, N0, 4, N0 + 1, 1] 12 (by kernel_rfl) (by kernel_rfl) (by kernel_rfl) (by kernel_rfl)).met
theorem u8_wf {n : Int} (h : (Lit.int .u8 n).wf = true) : 0 ≤ n ∧ n ≤ 255 := by
  simp only [Lit.wf, Bool.and_eq_true, decide_eq_true_eq] at h
  have h1 : IntKind.u8.min = 0 := by decide
  have h2 : IntKind.u8.max = 255 := by decide
  omega
end Go.Proofs.YtjfaikgooldcbaaGreatDoor
