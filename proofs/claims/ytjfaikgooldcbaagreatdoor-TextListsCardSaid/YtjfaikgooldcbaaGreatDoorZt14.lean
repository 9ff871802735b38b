/-
  The reference's values: Object, of names that differ and are valid.
  Objects without a name, and with one. No program in it.
  The reference's values: Without, With.
  The reference's parser: lists.
  The reference's parser: objects.
  The reference's parser: a value; Parse.
  THE ENGINE, PART 19: a deferred closure's region: behind its recover operation the others are plain. Over any program.
  THE ENGINE, PART 20: a body behind its one defer: the regions' rules as they are, the code's rules with the deferred call beside. Over any program.
-/
import Derived.Test.YtjfaikgooldcbaaGreatDoorZt12
import Derived.Test.YtjfaikgooldcbaaGreatDoorZt13
import Derived.Test.YtjfaikgooldcbaaGreatDoorZt4
import Derived.Laws.BitsLemmas
import Derived.Test.YtjfaikgooldcbaaGreatDoorZt3
import Derived.Test.YtjfaikgooldcbaaGreatDoorProg
import Derived.Test.YtjfaikgooldcbaaGreatDoorZt11
import Derived.Test.YtjfaikgooldcbaaGreatDoorZt8
import Derived.Defers
import Derived.Recover
import Derived.Test.YtjfaikgooldcbaaGreatDoorZt5
set_option linter.unusedVariables false
set_option linter.unusedSimpArgs false
set_option maxRecDepth 100000
namespace Go.Proofs.YtjfaikgooldcbaaGreatDoor
open Go.Eng

def bolC (b : Bool) : List Value := [.bool b]
theorem bolC_len (b : Bool) : (bolC b).length = 1 := rfl
theorem sameE {f : FuncId} {vs : Array Value} {v : Value} {w : World} (h : Calls Tryz.prog f vs w fun e w' => e = .returned v ∧ w' = w) : Calls Tryz.prog f vs w fun e w' => e = .returned v ∧ Ext w w' := h.mono fun e w' ⟨h1, h2⟩ => ⟨h1, h2 ▸ Ext.refl _⟩
theorem object_c (a b : Value) (ns : List Str) (rs : List SlH) (xs : List Vl) (w : World) (M : Mem) (hM : Sat w M) (ha : Sl M 1 ns.length a (ns.flatMap strC)) (hu : (kr b rs xs).ok M) (hl : len ns = len xs) (hne : ∀ x ∈ xs, x ≠ []) (hb : len xs.flatten ≤ 1048576) (hr : len rs ≤ 1048576)
  (hnd : ns.Nodup) (hut : ∀ n ∈ ns, utf n = true ∧ len n ≤ 4398046511104) :
  Calls Tryz.prog 23 [a, b].toArray w (MRet w M (fun v : Value => .tuple #[v, i64 0]) (fun _ => True) fun v => [(0, kn v 6 (objV (ns.zip xs)) Nd.cells)]) := by
 have hlr := kr_len hu
 have hln := len_nonneg ns
 have hsl := sortN_len ns
 have hkz : (ns.zip xs).map (·.1) = ns := zip_keys hl
 refine xenter ttok Tryz.func23 rfl Tryz.ntmps23 [(0, kn a 1 ns strC), (1, kr b rs xs)] [] [.sl 0 a, .sl 1 b] rfl (St.start hM) (fc 0 ha strC_len (fcons hu fnil)) (fun B hB => ?_) rfl
 refine xbr rfl (eok rfl) (by omega) (fun hb1 => ?_) (fun hb1 => ?_) <;> simp only [zb] at hb1
 ·exfalso; omega
 refine xlit 2 [] strC 1 9 strC_len rfl (eok rfl) (by omega) rfl (eok rfl) (fun w => by kernel_rfl) rfl fun v2 => ?_
 refine xlit 3 [] valI 1 24 valI_len rfl (eok rfl) (by omega) rfl (eok rfl) (fun w => by kernel_rfl) rfl fun v3 => ?_
 refine xmake 4 false bolC bolC_len rfl (eok rfl) (by omega) rfl (eok rfl) Tryz.underlying74 Tryz.type4 rfl rfl (by omega) (by omega) (by show (1 : Int) * len ns ≤ _; omega) (by omega) fun v4 l4 hl4 => ?_
 refine run_ok rfl (eok rfl) (by omega) (xknow 7 (kr v3 [] (partsL (Eng.sub (sortN ns) 0 0) (ns.zip xs))) (fun w M hX => ⟨hX.sl 3 rfl, valI_len, trivial⟩) ?_)
 refine xloop (σ := Int × Value × Value × List SlH × List Bool) (fun (j, v2, v3, hs, dn) => ⟨[(0, kn a 1 ns strC), (1, kr b rs xs), (2, kn v2 1 (Eng.sub (sortN ns) 0 j) strC), (3, kn v3 1 hs valI), (7, kr v3 hs (partsL (Eng.sub (sortN ns) 0 j) (ns.zip xs)))], [(2, .ho (ownS v2 (Eng.sub (sortN ns) 0 j))), (3, .ho (ownV v3 hs)), (4, .pv 4 (kn v4 1 dn bolC) bolC_len)], [Z 0 (.sl 0 a), Z 1 (.sl 1 b), Z 6 (.sl 2 v2), Z 7 (.sl 3 v3), Z 8 (.sl 4 v4)]⟩)
   (fun (j, v2, v3, hs, dn) => 0 ≤ j ∧ j ≤ len ns ∧ DoneOK ns dn j ∧ len hs = j) (fun (j, v2, v3, hs, dn) => (len ns - j).toNat) (0, v2, v3, [], l4) rfl (eok rfl) (by omega) rfl ⟨by omega, by omega, by rw [hl4]; exact DoneOK.start ns, rfl⟩ ?_
 rintro ⟨j, v2, v3, hs, dn⟩ ⟨hj0, hj1, hD, hhs⟩
 have hsj : len (Eng.sub (sortN ns) 0 j) = j := by rw [sub_len (by omega) hj0 (by omega)]; omega
 have hdl := hD.1
 refine xbr rfl (eok rfl) (by omega) (fun hb2 => ?_) (fun hb2 => ?_) <;> simp only [zb] at hb2
 ·refine xloop (σ := Int × Int) (fun (i, best) => ⟨[(0, kn a 1 ns strC), (1, kr b rs xs), (2, kn v2 1 (Eng.sub (sortN ns) 0 j) strC), (3, kn v3 1 hs valI), (7, kr v3 hs (partsL (Eng.sub (sortN ns) 0 j) (ns.zip xs)))], [(2, .ho (ownS v2 (Eng.sub (sortN ns) 0 j))), (3, .ho (ownV v3 hs)), (4, .pv 4 (kn v4 1 dn bolC) bolC_len)], [Z 0 (.sl 0 a), Z 1 (.sl 1 b), Z 6 (.sl 2 v2), Z 7 (.sl 3 v3), Z 8 (.sl 4 v4), Z 9 (I best), Z 10 (I i)]⟩)
    (fun (i, best) => 0 ≤ i ∧ i ≤ len ns ∧ BestOK ns dn i best) (fun (i, best) => (len ns - i).toNat) (0, -1) rfl (eok rfl) (by omega) rfl ⟨by omega, by omega, .inl ⟨rfl, fun q h0 h1 => by omega⟩⟩ ?_
  rintro ⟨i, best⟩ ⟨hi0, hi1, hBe⟩
  have hbi : -1 ≤ best ∧ best < len ns := by rcases hBe with ⟨h1, _⟩ | ⟨h1, h2, _⟩ <;> omega
  refine xbr rfl (eok rfl) (by omega) (fun hb3 => ?_) (fun hb3 => ?_) <;> simp only [zb] at hb3
  ·refine xdraw rfl (eok rfl) (by omega) tryz_mixed (by decide +kernel) (xqend rfl (eok rfl) (by simp only [zb] <;> omega) ?_)
   refine xbr rfl (eok rfl) (by omega) (fun hb4 => ?_) (fun hb4 => ?_) <;> rw [Go.Proofs.bytesLess_eq] at hb4 <;> simp only [zb] at hb4
   ·exact xround (i + 1, i) rfl (eok rfl) (by omega) rfl ⟨by omega, by omega, hBe.yes hi0 hb4.1 hb4.2⟩ (by show Int.toNat _ < Int.toNat _; omega)
   ·exact xround (i + 1, best) rfl (eok rfl) (by omega) rfl ⟨by omega, by omega, hBe.no (hb4.imp id fun h => ⟨by omega, h.2⟩)⟩ (by show Int.toNat _ < Int.toNat _; omega)
  ·have hie : i = len ns := by omega
   subst hie
   rw [hsj] at hb2
   obtain ⟨h5, h6, h7⟩ := hD.best hnd hj0 hb2 hBe
   obtain ⟨h8, h9⟩ := hut _ (at_mem h5 h6)
   refine xdraw rfl (eok rfl) (by omega) tryz_mixed (by decide +kernel) ?_
   refine xqcall rfl (eok rfl) (by simp only [zb] <;> omega) Tryz.call38 rfl rfl (eok rfl) (fun _ w M hX => sameE (utf_c (at' ns best) w (by omega))) rfl ?_
   refine xqend rfl (eok rfl) (by simp only [zb] <;> omega) ?_
   refine xbr rfl (eok rfl) (by omega) (fun hb4 => ?_) (fun hb4 => ?_) <;> simp only [zb] at hb4
   ·exfalso
    rw [h8] at hb4
    obtain ⟨h10, h11⟩ := hb4.resolve_left (by decide)
    rw [hsj] at h10 h11
    rw [subA_at (by omega) (by omega) (by omega), h7] at h11
    have := at_inj ((List.mergeSort_perm ns _).nodup_iff.2 hnd) (by omega) (by have := sortN_len ns; unfold sortN at this; omega) (by omega) (by have := sortN_len ns; unfold sortN at this; omega) h11
    omega
   ·refine xset true rfl (eok rfl) (by omega) rfl (eok rfl) rfl Tryz.sizeOf4 rfl rfl rfl (by omega) fun dn' hdn => ?_
    have hss := subA_snoc (l := sortN ns) hj0 (by omega)
    have hzg := zip_get hnd hl h5 h6
    refine xlit 5 [at' ns best] strC 1 9 strC_len rfl (eok rfl) (by omega) rfl (eok rfl) (fun w => by kernel_rfl) rfl fun v5 => ?_
    refine xapp 16 rfl (eok rfl) (by omega) rfl (eok rfl) rfl Tryz.underlying46 Tryz.type9 rfl rfl strC_one (by rw [hsj]; simp only [len_cons, len_nil]; omega) fun v2' => ?_
    refine xlit 6 [at' rs best] valI 1 24 valI_len rfl (eok rfl) (by omega) rfl (eok rfl) (fun w => by kernel_rfl) rfl fun v6 => ?_
    refine xapp 24 rfl (eok rfl) (by omega) rfl (eok rfl) rfl Tryz.underlying47 Tryz.type24 rfl rfl valI_one (by rw [hhs]; simp only [len_cons, len_nil]; omega) fun v3' => ?_
    refine run_ok rfl (eok rfl) (by omega) (xknow 7 (kr v3' (hs ++ [at' rs best]) (partsL (Eng.sub (sortN ns) 0 (j + 1)) (ns.zip xs))) (fun w M hX => ⟨hX.sl 3 rfl, valI_len, by rw [hss, ← h7, partsL_snoc, hzg]; exact RowsV.snoc (kr_at (hX.f.get (k := 1) rfl) h5 (by omega)).sl (hX.f.get (k := 7) rfl).more⟩) ?_)
    exact xround (j + 1, v2', v3', hs ++ [at' rs best], dn') rfl (eok rfl) (by omega) (by dsimp only; rw [hss, ← h7]; rfl) ⟨by omega, by omega, by rw [hdn]; exact hD.step hnd hj0 hb2 ⟨h5, h6, h7⟩, by rw [len_app, hhs]; rfl⟩ (by show Int.toNat _ < Int.toNat _; omega)
 ·rw [hsj] at hb2
  have hje : j = len ns := by omega
  subst hje
  have hpl : len (partsL (sortN ns) (ns.zip xs)).flatten = len xs.flatten := by
   have := partsL_len (m := ns.zip xs) (by unfold KeysOK; rw [hkz]; exact hnd)
   rw [hkz, zip_vals hl] at this; exact this
  have hpn : ∀ x ∈ partsL (sortN ns) (ns.zip xs), x ≠ [] := by
   intro x hx
   obtain ⟨n, hn, rfl⟩ := List.mem_map.1 hx
   obtain ⟨i, hi0, hi, hie⟩ := mem_at (sortN_mem.1 hn)
   rw [← hie, zip_get hnd hl hi0 hi]
   exact hne _ (at_mem hi0 (by omega))
  have hlo := laid_obj (ns.zip xs)
  rw [hkz] at hlo
  refine xcallM (fun v => .sl 8 v) [8] rfl (eok rfl) (by omega) rfl Tryz.call39 rfl rfl (eok rfl) (fun w M hX => named_c v2 v3 (sortN ns) hs (partsL (sortN ns) (ns.zip xs)) w M hX.st.sat (by have := hX.sl 2 rfl; rw [subA_all (by omega)] at this; exact this) (by have := hX.f.get (k := 7) rfl; rw [subA_all (by omega)] at this; exact this) (by rw [hsl]; unfold partsL len; rw [List.length_map]; exact hsl.symm) hpn (by omega) (by omega)) (fun _ => rfl) fun v _ => ?_
  exact xret hB rfl rfl (eok rfl) (by omega) rfl (eok rfl) fun w M hX => ⟨v, M, rfl, trivial, hX.st.done, fc 0 (by have := hX.sl 8 rfl; rw [hlo] at this; exact this) Nd.cells_len fnil⟩
end Go.Proofs.YtjfaikgooldcbaaGreatDoor
namespace Go.Eng

/-- It is a value's nodes. -/
def WfV (x : Vl) : Prop := ∃ t : Tr, x = t.flat ∧ t.wf ∧ t.node.name = []
theorem named_back {t : Tr} (h : t.node.name = []) (n : Str) : ((t.named n).named []).flat = t.flat := by
  obtain ⟨nd, ps⟩ := t
  have h' : nd.name = [] := h
  simp only [Tr.named, Tr.flat]
  congr 1
  cases nd; simp_all
theorem pair_trees : ∀ {l : List (Str × Vl)}, (∀ p ∈ l, WfV p.2) → ∃ ts : List Tr, (l.map fun p => nameV p.1 p.2).flatten = flatL ts ∧ ts.map (·.node.name) = l.map (·.1) ∧ (ts.map fun u => (u.named []).flat) = l.map (·.2) ∧ wfL ts
  | [], _ => ⟨[], rfl, rfl, rfl, trivial⟩
  | p :: l, h => by
    obtain ⟨t, ht, h1, h2⟩ := h p List.mem_cons_self
    obtain ⟨ts, e1, e2, e3, e4⟩ := pair_trees (fun y hy => h y (List.mem_cons_of_mem _ hy))
    have hn : (t.named p.1).node.name = p.1 := by cases t; rfl
    refine ⟨t.named p.1 :: ts, ?_, ?_, ?_, Tr.named_wf h1, e4⟩
    · rw [List.map_cons, List.flatten_cons, flatL, e1, ht, Tr.named_flat]
    · rw [List.map_cons, List.map_cons, e2, hn]
    · rw [List.map_cons, List.map_cons, e3, named_back h2, ht]
abbrev keysV (m : List (Str × Vl)) : List Str := m.map (·.1)
def MapW (m : List (Str × Vl)) : Prop := KeysOK m ∧ ∀ p ∈ m, WfV p.2
theorem obj_tree {m : List (Str × Vl)} (h : MapW m) : ∃ t : Tr, t.flat = objV m ∧ t.wf ∧ t.node.name = [] ∧ kidNs t = sortN (keysV m) ∧ kidsV t = partsL (sortN (keysV m)) m := by
  have hl1 : ((sortN (keysV m)).map fun n => (n, (getV m n).getD [])).map (·.1) = sortN (keysV m) := by rw [List.map_map]; exact List.map_id _
  have hl2 : ((sortN (keysV m)).map fun n => (n, (getV m n).getD [])).map (·.2) = partsL (sortN (keysV m)) m := by rw [List.map_map]; rfl
  obtain ⟨ts, e1, e2, e3, e4⟩ := pair_trees (l := (sortN (keysV m)).map fun n => (n, (getV m n).getD [])) (fun p hp => by
    obtain ⟨n, hn, rfl⟩ := List.mem_map.1 hp
    obtain ⟨x, h1, h2⟩ := getV_in (sortN_mem.1 hn)
    have := h.2 _ h2
    rw [h1]; exact this)
  have e5 : len ((sortN (keysV m)).map fun n => (n, (getV m n).getD [])) = len ts := by
    have := congrArg List.length e2
    rw [List.length_map, List.length_map] at this
    unfold len; omega
  refine ⟨.mk ⟨6, len ts, [], [], false, 0⟩ ts, ?_, ⟨rfl, e4⟩, rfl, ?_, ?_⟩
  · unfold objV laidV
    rw [Tr.flat, e1, ← e5]
  · unfold kidNs; show (if (6 : Int) = 6 then ts.map (·.node.name) else []) = _; rw [if_pos rfl, e2, hl1]
  · show (ts.map fun u => (u.named []).flat) = _; rw [e3, hl2]
theorem MapW.obj {m : List (Str × Vl)} (h : MapW m) : WfV (objV m) := by
  obtain ⟨t, h1, h2, h3, _⟩ := obj_tree h; exact ⟨t, h1.symm, h2, h3⟩
theorem putV_mem {m : List (Str × Vl)} {n : Str} {x : Vl} {p : Str × Vl} (h : p ∈ putV m n x) : p ∈ m ∨ p = (n, x) := by
  induction m with
  | nil => right; simpa [putV] using h
  | cons q m ih =>
    unfold putV at h
    split at h
    · rcases List.mem_cons.1 h with h | h
      · exact .inr h
      · exact .inl (List.mem_cons_of_mem _ h)
    · rcases List.mem_cons.1 h with h | h
      · exact .inl (h ▸ List.mem_cons_self)
      · exact (ih h).imp (List.mem_cons_of_mem _) id
theorem MapW.put {m : List (Str × Vl)} (h : MapW m) {n : Str} {x : Vl} (hx : WfV x) : MapW (putV m n x) := ⟨h.1.put n x, fun p hp => (putV_mem hp).elim (h.2 p) fun e => e ▸ hx⟩
end Go.Eng
set_option maxRecDepth 100000
namespace Go.Proofs.YtjfaikgooldcbaaGreatDoor
open Go.Eng

end Go.Proofs.YtjfaikgooldcbaaGreatDoor
set_option maxRecDepth 100000
namespace Go.Proofs.YtjfaikgooldcbaaGreatDoor
open Go.Eng

end Go.Proofs.YtjfaikgooldcbaaGreatDoor
set_option maxRecDepth 100000
namespace Go.Proofs.YtjfaikgooldcbaaGreatDoor
open Go.Eng

end Go.Proofs.YtjfaikgooldcbaaGreatDoor
set_option maxRecDepth 100000
namespace Go.Proofs.YtjfaikgooldcbaaGreatDoor
open Go.Eng

end Go.Proofs.YtjfaikgooldcbaaGreatDoor
set_option maxRecDepth 100000
namespace Go.Proofs.YtjfaikgooldcbaaGreatDoor
open Go.Eng

end Go.Proofs.YtjfaikgooldcbaaGreatDoor
namespace Go.Eng
open Go.RowKit
theorem wpOpsS_of_wpList {P : Program} {ops : Array Oper} {Q : Exit → Act → List Frame → World → Prop} {cs : List Frame} (hq : ¬ LetsOut (fun e a w => Q e a cs w)) (l : List Oper) :
    ∀ (k : Nat), (∀ j, l[j]? = ops[k + j]?) → ∀ a w, wpList P ops (fun e a w => Q e a cs w) l a w → wpOpsS P ops Q (List.range' k l.length) a cs w := by
  induction l with
  | nil => intro k _ a w h; exact h
  | cons o l ih =>
    intro k hk a w h
    have h0 : ops[k]? = some o := by simpa using (hk 0).symm
    have ih' := ih (k + 1) (fun j => by have := hk (j + 1); simpa [Nat.add_assoc, Nat.add_comm 1 j] using this)
    simp only [List.length_cons, List.range'_succ, wpOpsS, h0]
    unfold wpList at h
    by_cases hw : Region.wanted o (yielded ops a.tmps) = true
    · rw [if_pos hw] at h ⊢
      have h1 := (h.resolve_right fun hh => hq hh.2)
      have h2 := Oper.wp_mono (fun a' w' hh => ih' a' w' hh) h1
      unfold Oper.wp at h2
      split
      · rename_i w' he; rw [he] at h2; exact h2.elim
      · exact h2
    · rw [if_neg hw] at h ⊢
      exact ih' _ _ h
/-- A region that begins with recover. -/
theorem wpS_recovers {P : Program} {Q : Exit → Act → List Frame → World → Prop} {cs cs' : List Frame} {id : Nat} {o0 : Oper} {l : List Oper} {a : Act} {w : World} {v : Value} (hg : o0.guard = none) (hrun : (execOp a.eval o0).run P w = .ok .recover w)
    (hrec : recoverD cs = some (v, cs') ∨ (recoverD cs = none ∧ v = .nilIface ∧ cs' = cs)) (hq : ¬ LetsOut (fun e a w => Q e a cs' w)) (h : wpList P (o0 :: l).toArray (fun e a w => Q e a cs' w) l (a.put o0.dst v) w) :
    (Code.region id (o0 :: l).toArray false).wpS P Q a cs w := by
  refine wpS_region ?_
  have hw : Region.wanted o0 (yielded (o0 :: l).toArray a.tmps) = true := by unfold Region.wanted; rw [hg]
  have h1 := wpOpsS_of_wpList (ops := (o0 :: l).toArray) hq l 1 (fun j => by simp [Nat.add_comm 1 j]) _ _ h
  rw [show List.range (o0 :: l).toArray.size = 0 :: List.range' 1 l.length from by simp [List.range_eq_range', List.range'_succ]]
  unfold wpOpsS
  rw [show (o0 :: l).toArray[0]? = some o0 from by simp]
  dsimp only
  rw [if_pos hw, hrun]
  dsimp only
  rcases hrec with hr | ⟨hr, rfl, rfl⟩
  · rw [hr]; exact h1
  · rw [hr]; exact h1
section
variable {P : Program} {C : World → Prop} {L : Env} {W : Bool} {d : Option Tmp} {ty : TypeId} {ps : String} {af : Array Edge} {gd : Option (Nat × Bool)}
theorem PV.asserts {xt t : TypeId} {x : Operand} {v : Value} {fs : Array Field} (hx : Opd L W x (.iface t v)) (ht : P.underlying t = some (.struct fs)) : PV P C L W ⟨d, .typeAssert x xt t true, ty, ps, af, gd⟩ (.tuple #[v, .bool true]) :=
  .un (f := fun u => Instr.typeAssert u xt t true) (fun _ => rfl) hx fun _ w _ => by
    simp only [Instr.typeAssert, Sem.run_bind, run_underlying ht, Result.andThen_ok]
    simp [Sem.run_pure]
theorem PV.assertsNo {xt t : TypeId} {x : Operand} {z : Value} {fs : Array Field} (hx : Opd L W x .nilIface) (ht : P.underlying t = some (.struct fs)) (hz : ∀ w, (zeroValue t).run P w = .ok z w) : PV P C L W ⟨d, .typeAssert x xt t true, ty, ps, af, gd⟩ (.tuple #[z, .bool false]) :=
  .un (f := fun u => Instr.typeAssert u xt t true) (fun _ => rfl) hx fun _ w _ => by
    simp only [Instr.typeAssert, Sem.run_bind, run_underlying ht, Result.andThen_ok]
    simp [Sem.run_bind, Sem.run_pure, hz]
end
/-- What recover finds in a frame of this mode, and how it leaves it. -/
def recMode : FrameMode → Value × FrameMode
  | .panicking ({ v, recovered := false, goexit := false } :: older) => (v, .panicking ({ v, recovered := true } :: older))
  | u => (.nilIface, u)
theorem recoverD_mode (c : Frame) (cs : List Frame) : recoverD (c :: cs) = some ((recMode c.mode).1, { c with mode := (recMode c.mode).2 } :: cs) ∨ (recoverD (c :: cs) = none ∧ (recMode c.mode).1 = .nilIface ∧ { c with mode := (recMode c.mode).2 } :: cs = c :: cs) := by
  obtain ⟨_, _, _, _, m, _, _⟩ := c
  cases m with
  | panicking ch =>
    cases ch with
    | nil => exact .inr ⟨rfl, rfl, rfl⟩
    | cons p older =>
      obtain ⟨v, r, g⟩ := p
      cases r <;> cases g <;> first | exact .inl rfl | exact .inr ⟨rfl, rfl, rfl⟩
  | _ => exact .inr ⟨rfl, rfl, rfl⟩
/-- A deferred closure without results, whose body begins with recover. -/
theorem enterS {P : Program} {f : FuncId} {fn : Func} {id d N : Nat} {o0 : Oper} {l : List Oper} {y : Code} {vs : List Value} {u : FrameMode} {w : World} {S : World → Prop} (hf : P.funcs[f]? = some fn) (hb : fn.body = some (.seq (.region id (o0 :: l).toArray false) y)) (hn : fn.ntmps = N) (hl : vs.length ≤ N)
    (hres : fn.results = #[]) (hg : o0.guard = none) (hd : o0.dst = some d) (hdN : Nat.blt d N = true) (hrun : ∀ (a : Act) w, (execOp a.eval o0).run P w = .ok .recover w)
    (h : ∀ (K : Act → World → Prop) (Q : Exit → Act → World → Prop), (∀ a w', y.wp P Q a w' → K a w') → (∀ a w', a.defers = [] → S w' → Q .normal a w') → RL P (o0 :: l).toArray (Exit.then K Q) N l ((d, true, (recMode u).1) :: envOf 0 vs) w) :
    CallsD P f vs.toArray u w (fun e u' w' => e = .returned (.tuple #[]) ∧ u' = (recMode u).2 ∧ S w') := by
  refine callsD_of_wpS hf hb fun c₀ cs hu => wpS_seq ?_
  subst hu
  have hs := Slots.enter vs N hl
  rw [← hn] at hs
  refine wpS_recovers hg (hrun _ _) (recoverD_mode c₀ cs) ?_ ?_
  · rintro ⟨a, w', h1⟩
    obtain ⟨u', h2, _⟩ := h1
    cases h2
  · subst hn
    have hput := hs.put hdN true (recMode c₀.mode).1
    rw [hd]
    have hh := h (fun a w' => y.wpS P (bodyPostS P fn c₀ cs (fun e u' w' => e = .returned (.tuple #[]) ∧ u' = (recMode c₀.mode).2 ∧ S w')) a ({ c₀ with mode := (recMode c₀.mode).2 } :: cs) w')
      (fun e a w' => bodyPostS P fn c₀ cs (fun e u' w' => e = .returned (.tuple #[]) ∧ u' = (recMode c₀.mode).2 ∧ S w') e a ({ c₀ with mode := (recMode c₀.mode).2 } :: cs) w')
      (fun a w' h1 => wpS_of_wp h1) (fun a w' h1 h2 => ⟨h1, _, rfl, _, results_none hres _ _ _, rfl, rfl, h2⟩) _ hput
    refine Eq.mp ?_ hh
    congr 1
    funext e a w'
    cases e <;> rfl
end Go.Eng
namespace Go.Eng
open Go.RowKit
/-- With these deferred calls besides. -/
def appD (D : List Deferred) (a : Act) : Act := ⟨a.tmps, a.defers ++ D⟩
theorem appD_eval (D : List Deferred) (a : Act) : (appD D a).eval = a.eval := by funext x; cases x <;> rfl
theorem appD_put (D : List Deferred) (a : Act) (d : Option Tmp) (v : Value) : (appD D a).put d v = appD D (a.put d v) := by cases d <;> rfl
section
variable {P : Program} {ops : Array Oper} {D : List Deferred} {Q : Exit → Act → World → Prop} {N : Nat} {L : Env} {w : World}
theorem upon_app {o : Oper} {a : Act} {n n' : Act → World → Prop} (hn : ∀ a w, n' a w → n (appD D a) w) (r : Result Next) (h : o.upon P a n' (fun e a w => Q e (appD D a) w) r) : o.upon P (appD D a) n Q r := by
  cases r with
  | ok x w' =>
    cases x with
    | value v => rw [Oper.upon_value] at h ⊢; rw [appD_put]; exact hn _ _ h
    | skip => rw [Oper.upon_skip] at h ⊢; rw [appD_put]; exact hn _ _ h
    | defer d =>
      rw [Oper.upon_defer] at h ⊢
      have e : ({ appD D a with defers := d :: (appD D a).defers } : Act) = appD D { a with defers := d :: a.defers } := rfl
      rw [e, appD_put]; exact hn _ _ h
    | enter f args =>
      rw [Oper.upon_enter] at h ⊢
      refine h.mono fun e w'' he => ?_
      cases e with
      | returned v => dsimp only at he ⊢; rw [appD_put]; exact hn _ _ he
      | panicked ch => exact he
      | outgrown => obtain ⟨a2, w2, h2⟩ := he; exact ⟨_, _, h2⟩
    | row r args =>
      rw [Oper.upon_row] at h ⊢
      exact Rows.mono h fun v w'' he => by rw [appD_put]; exact hn _ _ he
    | _ => exact h.elim
  | halt x w' =>
    cases x with
    | panic v => exact h
    | _ => exact h.elim
theorem wpList_app (l : List Oper) : ∀ (a : Act) (w : World), wpList P ops (fun e a w => Q e (appD D a) w) l a w → wpList P ops Q l (appD D a) w := by
  induction l with
  | nil => intro a w h; exact h
  | cons o l ih =>
    intro a w h
    unfold wpList at h ⊢
    show if Region.wanted o (yielded ops a.tmps) = true then _ else _
    by_cases hw : Region.wanted o (yielded ops a.tmps) = true
    · rw [if_pos hw] at h ⊢
      rcases h with h | ⟨ha, a2, w2, h2⟩
      · left
        unfold Oper.wp at h ⊢
        rw [appD_eval]
        exact upon_app ih _ h
      · right
        refine ⟨?_, _, _, h2⟩
        unfold Oper.asks at ha ⊢
        rw [appD_eval]; exact ha
    · rw [if_neg hw] at h ⊢
      rw [appD_put]; exact ih _ _ h
/-- As CW, with these deferred calls besides. -/
def CWD (P : Program) (D : List Deferred) (c : Code) (Q : Exit → Act → World → Prop) (N : Nat) (L : Env) (w : World) : Prop := ∀ a, Slots a N L → c.wp P Q (appD D a) w
theorem CWD.seq {x y : Code} (h : CWD P D x (Exit.then (y.wp P Q) Q) N L w) : CWD P D (.seq x y) Q N L w := fun a hs => wp_seq (h a hs)
theorem CWD.region {id : Nat} {l : List Oper} (h : RL P l.toArray (fun e a w => Q e (appD D a) w) N l L w) : CWD P D (.region id l.toArray false) Q N L w := fun a hs => wp_region_lit (wpList_app _ _ _ (h a hs))
theorem CWD.sr {id : Nat} {l : List Oper} {y : Code} (h : RL P l.toArray (fun e a w => Exit.then (y.wp P Q) Q e (appD D a) w) N l L w) : CWD P D (.seq (.region id l.toArray false) y) Q N L w := CWD.seq (CWD.region h)
theorem CWD.cond {c : Nat} {x y : Code} {b : Bool} (hc : look L c = some (true, .bool b)) (ht : b = true → CWD P D x Q N L w) (hf : b = false → CWD P D y Q N L w) : CWD P D (.cond (.tmp c) x y) Q N L w :=
  fun a hs => wp_cond_split (show (appD D a).eval (.tmp c) = .bool b from by rw [appD_eval]; exact hs.get hc) (fun hb => ht hb a hs) (fun hb => hf hb a hs)
theorem CWD.skip (h : ∀ a, Slots a N L → Q .normal (appD D a) w) : CWD P D .skip Q N L w := fun a hs => wp_skip (h a hs)
theorem CWD.ret (h : ∀ a, Slots a N L → Q .ret (appD D a) w) : CWD P D .ret Q N L w := fun a hs => wp_ret (h a hs)
theorem CWD.id {y : Code} {Q' : Exit → Act → World → Prop} (h : CWD P D y Q' N L w) : ∀ a, Slots a N L → y.wp P Q' (appD D a) w := h
theorem CWD.at {y : Code} {Q' : Exit → Act → World → Prop} (L' : Env) (hk : Eng.keep (keysOf L') L = L') (h : CWD P D y Q' N L' w) : ∀ a, Slots a N L → y.wp P Q' (appD D a) w := fun a hs => h a (hk ▸ hs.keep _)
/-- The ends of a body that defers. -/
structure EndsD (P : Program) (fn : Func) (R : Ending → World → Prop) (Q : Exit → Act → World → Prop) : Prop where
  all : ∀ e a w, bodyPostD P fn R e a w → Q e a w
theorem CWD.enter {f : FuncId} {fn : Func} {c : Code} {vs : List Value} {R : Ending → World → Prop} (hf : P.funcs[f]? = some fn) (hb : fn.body = some c) (hn : fn.ntmps = N) (hl : vs.length ≤ N)
    (h : ∀ Q, EndsD P fn R Q → CW P c Q N (envOf 0 vs) w) : Calls P f vs.toArray w R :=
  calls_of_wp_defers hf hb (by rw [hn]; exact h _ ⟨fun _ _ _ h => h⟩ _ (Slots.enter vs N hl))
theorem EndsD.p {fn : Func} {R : Ending → World → Prop} {ch : List PanicEntry} (E : EndsD P fn R Q) (h : ∀ a, Slots a N L → Leaves P fn a.tmps R D (.panicking ch) w) : ∀ a, Slots a N L → Q (.panic ch) (appD D a) w :=
  fun a hs => E.all _ _ _ (by show Leaves P fn a.tmps R (a.defers ++ D) _ w; rw [hs.dfr]; exact h a hs)
theorem EndsD.r {fn : Func} {R : Ending → World → Prop} (E : EndsD P fn R Q) (h : ∀ a, Slots a N L → Leaves P fn a.tmps R D .returning w) : ∀ a, Slots a N L → Q .ret (appD D a) w :=
  fun a hs => E.all _ _ _ (by show Leaves P fn a.tmps R (a.defers ++ D) _ w; rw [hs.dfr]; exact h a hs)
/-- The defer of a closure, last in its region. -/
theorem RL.defer {f : FuncId} {x : Operand} {cs : List Value} {tys : Array TypeId} {ty : TypeId} {ps : String} {af : Array Edge} (hx : Opd L true x (.func (.func f) #[] cs.toArray)) (h : RL P ops (fun e a w => Q e (appD [{ target := .fn (.func f) cs.toArray, args := #[] }] a) w) N [] L w) :
    RL P ops Q N [⟨none, .defer ⟨.value x, #[], tys⟩, ty, ps, af, none⟩] L w := by
  intro a hs
  refine wpList_plain rfl fun K hK => ?_
  have key : (execOp a.eval ⟨none, .defer ⟨.value x, #[], tys⟩, ty, ps, af, none⟩).run P w = .ok (.defer { target := .fn (.func f) cs.toArray, args := #[] }) w := by
    simp only [execOp, resolve, hx a N hs rfl, Deferred.ofValue, Sem.run_bind, Sem.run_pure, Result.andThen_ok]
    simp
  simp only [Oper.wp, key, Oper.upon_defer]
  have h1 := h a hs
  refine hK _ _ ?_
  show Q .normal (Act.put { a with defers := _ :: a.defers } none undef) w
  rw [hs.dfr]
  have h2 : Q .normal (appD [{ target := .fn (.func f) cs.toArray, args := #[] }] a) w := h1
  unfold appD at h2
  rw [hs.dfr] at h2
  exact h2
/-- One deferred closure, that comes back: the frame leaves in the mode in which it left it. -/
theorem leaves_one {fn : Func} {R : Ending → World → Prop} {f : FuncId} {tmps : Array Value} {cs : List Value} {u : FrameMode} {S : World → Prop} (ct : ∀ args w, (callFunc f args).run P w = .ok (.enter f args) w) (hu : u ≠ .run) (hm : settle (recMode u).2 = .returning)
    (hc : CallsD P f cs.toArray u w (fun e u' w' => e = .returned (.tuple #[]) ∧ u' = (recMode u).2 ∧ S w')) (h : ∀ w', S w' → ∃ v, (results fn tmps).run P w' = .ok v w' ∧ R (.returned v) w') :
    Leaves P fn tmps R [{ target := .fn (.func f) cs.toArray, args := #[] }] u w := by
  refine leaves_cons hu (args := cs.toArray) (f := f) (by simp [invoke, go_sem, ct]) (hc.mono ?_)
  rintro e u' w' ⟨rfl, rfl, hS⟩
  show Leaves P fn tmps R [] (settle (recMode u).2) w'
  rw [hm]
  exact h w' hS
theorem res3 {fn : Func} {r s t : ResultVar} {v u x : Value} {a : Act} (hr : fn.results = #[r, s, t]) (hs : Slots a N L) (h1 : RV P L w r v) (h2 : RV P L w s u) (h3 : RV P L w t x) : (results fn a.tmps).run P w = .ok (.tuple #[v, u, x]) w := by
  rw [results_eq, hr]
  simp [List.mapM_cons, Sem.run_bind, h1.run hs, h2.run hs, h3.run hs]
end
end Go.Eng
set_option maxRecDepth 100000
namespace Go.Proofs.YtjfaikgooldcbaaGreatDoor
open Go.Eng

end Go.Proofs.YtjfaikgooldcbaaGreatDoor
