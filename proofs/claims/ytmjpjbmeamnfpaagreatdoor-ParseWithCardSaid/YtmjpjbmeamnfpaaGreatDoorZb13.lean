/-
  Rows of filters: slices.Concat, slices.Clone; parse.made.
  Filters as rows: where a part stands. No program in it.
  Parts of filters: term.each, its iterator.
  Pipes: term.Pipe, parse.piped.
-/
import Derived.Test.YtmjpjbmeamnfpaaGreatDoorZb11
import Derived.Test.YtmjpjbmeamnfpaaGreatDoorZb12
import Derived.Lib.SliceRun
set_option linter.unusedVariables false
set_option linter.unusedSimpArgs false
set_option maxRecDepth 100000
namespace Go.Eng
/-- A slice that holds something isn't nil. -/
theorem PV.slNilF {P : Program} {C : World → Prop} {L : Env} {W : Bool} {d : Option Tmp} {ty : TypeId} {ps : String} {af : Array Edge} {gd : Option (Nat × Bool)} {t t' e : TypeId} {x : Operand} {M : Mem} {sz n n' c' : Nat} {v : Value} {cs : List Value} (hS : Sl M sz n v cs) (hn : 0 < n) (hx : Opd L W x v) (ht : P.underlying t = some (.slice e)) :
    PV P C L W ⟨d, .binOp .eql t x (.const (.slice none n' c')) t', ty, ps, af, gd⟩ (.bool false) :=
  .bin hx .c fun _ w _ => by
    obtain ⟨p, cap, rfl, _, _, hp⟩ := hS.val
    obtain ⟨b, o, rfl, _⟩ := hp hn
    have := Lib.run_eql_slice_nil (P := P) w t e (some ⟨b, o, none⟩) n cap n' c' ht
    simp [go_sem, this, eqGuard]
end Go.Eng
namespace Go.Proofs.YtmjpjbmeamnfpaaGreatDoor
open Go.Eng

theorem Tm.cells_one (x : Tm) : ∀ u ∈ x.cells, u.oneCell' = true := by intro u hu; simp [Tm.cells] at hu; rcases hu with rfl | rfl | rfl | rfl | rfl | rfl | rfl | rfl | rfl | rfl | rfl <;> rfl
/-- A row of filters; a filter that nobody else knows of. -/
abbrev krF (u : Value) (hs : List SlH) (xs : List Fl) : Kn := ⟨u, 1, hs, valI, fun M => RowsV M 11 Tm.cells hs xs, fun _ _ hm h => RowsV.mono hm h⟩
abbrev privF (u : Value) (x : Fl) : HO := .priv 51 11 u x.length (x.flatMap Tm.cells)
abbrev pvF (u : Value) (x : Fl) : HX := .pv 51 (kn u 11 x Tm.cells) Tm.cells_len
abbrev knT (u : Value) (x : Fl) : Kn := kn u 11 x Tm.cells
theorem krF_at {M : Mem} {u : Value} {hs : List SlH} {xs : List Fl} (h : (krF u hs xs).ok M) {k : Int} (h0 : 0 ≤ k) (h1 : k < len hs) : (knT (at' hs k).v (at' xs k)).ok M := ⟨RowsV.at h.more h0 h1, Tm.cells_len, trivial⟩
theorem krF_len {M : Mem} {u : Value} {hs : List SlH} {xs : List Fl} (h : (krF u hs xs).ok M) : len hs = len xs := by have := RowsV.len (f := Tm.cells) h.more; unfold len; omega
/-- A filter that is handed back. -/
abbrev FilR (w0 : World) (M0 M : Mem) (Rs : List HO) (x : Fl) : Ending → World → Prop := ORet w0 M0 M Rs (fun h : SlH => h.v) (fun _ => True) (fun _ => []) fun h => [privF h.v x]
theorem filR {w0 w : World} {M0 M : Mem} {Rs : List HO} {x : Fl} {e : Ending} (h : ORet w0 M0 M Rs (fun u : Value => u) (fun _ => True) (fun _ => []) (fun u => [privF u x]) e w) : FilR w0 M0 M Rs x e w := by
  obtain ⟨u, M', h1, h2, h3, h4, h5⟩ := h
  have ht := h4.told (k := 0) rfl
  obtain ⟨a, c, hv, _⟩ := (ht.sl (i := 0) rfl).val
  exact ⟨⟨a, x.length, c⟩, M', by rw [h1, hv], trivial, h3, by rw [hv] at h4; exact h4, fnil⟩
theorem concatF_c {w0 wv : World} {M0 M : Mem} {Rs : List HO} (v : Value) (hs : List SlH) (xs : List Fl) (hS : St w0 M0 wv M Rs) (hu : (krF v hs xs).ok M) (hb : len xs.flatten ≤ 1099511627776) (hr : len hs ≤ 1099511627776) :
  Calls Tryz.prog 131 [v].toArray wv (FilR w0 M0 M Rs xs.flatten) := by
 have hlr := krF_len hu
 have hln := len_nonneg hs
 have hfn := len_nonneg xs.flatten
 refine xenter (Hr := Rs) ttok Tryz.func131 rfl Tryz.ntmps131 [(0, krF v hs xs)] [] [.sl 0 v] rfl hS (fcons hu fnil) (fun B hB => ?_) rfl
 refine xloop (σ := Int × Int) (fun (k, t) => ⟨[(0, krF v hs xs)], [], [Z 0 (.sl 0 v), Z 3 (I t), Z 9 (.sl 0 v), Z 10 (I (len hs)), Z 11 (I k)]⟩) (fun (k, t) => 0 ≤ k ∧ k ≤ len hs ∧ t = len (flatTo xs k)) (fun (k, t) => (len hs - k).toNat) (0, 0) rfl (eok rfl) (by omega) rfl ⟨by omega, by omega, rfl⟩ ?_
 rintro ⟨k, t⟩ ⟨h0, h1, ht⟩
 have hfl := flatTo_le xs k
 have hfk := len_nonneg (flatTo xs k)
 refine xbr rfl (eok rfl) (by omega) (fun hb1 => ?_) (fun hb1 => ?_) <;> simp only [zb] at hb1
 ·have hft := flatTo_step (xs := xs) h0 (by omega)
  have hf2 := flatTo_le xs (k + 1)
  rw [hft, len_app] at hf2
  have hak := len_nonneg (at' xs k)
  refine run_ok rfl (eok rfl) (by omega) ?_
  refine xknow 1 (knT (at' hs k).v (at' xs k)) (fun w M hX => krF_at (hX.f.get (k := 0) rfl) h0 hb1) (xtag 16 1 rfl ?_)
  refine xbr rfl (eok rfl) (by omega) (fun hb2 => ?_) (fun hb2 => ?_) <;> simp only [zb] at hb2
  ·exfalso; omega
  exact xround (k + 1, t + len (at' xs k)) rfl (eok rfl) (by omega) rfl ⟨by omega, by omega, by rw [hft, len_app, ht]⟩ (by show Int.toNat _ < Int.toNat _; omega)
 have hke : k = len hs := by omega
 subst hke
 rw [flatTo_end (by omega)] at ht
 subst ht
 refine xcallO [] (fun u : Value => .sl 2 u) [] (fun u => [(2, pvF u [])]) rfl (eok rfl) (by omega) rfl Tryz.call171 rfl rfl (eok rfl) rfl (fun w M hS hF => (growF_c (len xs.flatten) hS hfn hb).mono fun e w' ⟨u, he, hs⟩ => ⟨u, M, he, trivial, Mem.le.refl _, hs, fnil⟩) (fun _ => rfl) (fun _ => rfl) fun u _ => ?_
 refine xloop (σ := Int × Value × Fl) (fun (k, u, y) => ⟨[(0, krF v hs xs)], [(2, pvF u y)], [Z 6 (.sl 2 u), Z 25 (.sl 0 v), Z 26 (I (len hs)), Z 27 (I k)]⟩) (fun (k, u, y) => 0 ≤ k ∧ k ≤ len hs ∧ y = flatTo xs k) (fun (k, u, y) => (len hs - k).toNat) (0, u, []) rfl (eok rfl) (by omega) rfl ⟨by omega, by omega, rfl⟩ ?_
 rintro ⟨k, u, y⟩ ⟨h0, h1, hy⟩
 refine xbr rfl (eok rfl) (by omega) (fun hb1 => ?_) (fun hb1 => ?_) <;> simp only [zb] at hb1
 ·have hft := flatTo_step (xs := xs) h0 (by omega)
  have hf2 := flatTo_le xs (k + 1)
  rw [hft, len_app] at hf2
  refine run_ok rfl (eok rfl) (by omega) ?_
  refine xknow 1 (knT (at' hs k).v (at' xs k)) (fun w M hX => krF_at (hX.f.get (k := 0) rfl) h0 hb1) (xtag 32 1 rfl ?_)
  refine xappP 120 rfl (eok rfl) (by omega) rfl (eok rfl) rfl Tryz.underlying23 Tryz.type51 rfl rfl Tm.cells_one (by rw [hy]; omega) fun v' => ?_
  exact xround (k + 1, v', y ++ at' xs k) rfl (eok rfl) (by omega) rfl ⟨by omega, by omega, by rw [hft, hy]⟩ (by show Int.toNat _ < Int.toNat _; omega)
 rw [flatTo_end (by omega)] at hy
 subst hy
 exact xret hB rfl rfl (eok rfl) (by omega) rfl (eok rfl) fun w M' hX => filR ⟨u, M', rfl, trivial, hX.le, hX.st, fnil⟩
theorem cloneF_c {w0 wv : World} {M0 M : Mem} {Rs : List HO} (v : Value) (x : Fl) (hS : St w0 M0 wv M Rs) (hx : (knT v x).ok M) (h0 : x ≠ []) (hb : len x ≤ 1099511627776) :
  Calls Tryz.prog 221 [v].toArray wv (FilR w0 M0 M Rs x) := by
 refine xenter (Hr := Rs) ttok Tryz.func221 rfl Tryz.ntmps221 [(0, knT v x)] [] [.sl 0 v] rfl hS (fcons hx fnil) (fun B hB => ?_) rfl
 refine xpv (.v (.bool false)) rfl (eok rfl) (by omega) rfl (fun w M hX => .slNilF (hX.sl 0 rfl) (List.length_pos_iff.2 h0) (opd_d (v := .sl 0 v) (E := []) rfl (eok rfl)) Tryz.underlying23) ?_
 refine xbr rfl (eok rfl) (by omega) (fun hb1 => ?_) (fun hb1 => ?_)
 ·cases hb1
 refine xlitP 2 ([] : List Tm) Tm.cells 11 51 Tm.cells_len rfl (eok rfl) (by omega) rfl (eok rfl) (fun w => by kernel_rfl) rfl fun u => ?_
 refine xappP 120 rfl (eok rfl) (by omega) rfl (eok rfl) rfl Tryz.underlying23 Tryz.type51 rfl rfl Tm.cells_one (by rw [len_nil]; omega) fun v' => ?_
 exact xret hB rfl rfl (eok rfl) (by omega) rfl (eok rfl) fun w M' hX => filR ⟨v', M', rfl, trivial, hX.le, hX.st, fnil⟩
theorem made_c {w0 wv : World} {M0 M : Mem} {Rs : List HO} (t : Tm) (v : Value) (hs : List SlH) (xs : List Fl) (hS : St w0 M0 wv M Rs) (hu : (krF v hs xs).ok M) (hb : len xs.flatten ≤ 1000000000000) (hr : len hs ≤ 1099511627776) :
  Calls Tryz.prog 122 [.agg t.cells.toArray, v].toArray wv (FilR w0 M0 M Rs ({ t with many := len xs } :: xs.flatten)) := by
 have hlr := krF_len hu
 have hln := len_nonneg hs
 have e : ({ t with many := len xs } : Tm) = { t with many := len hs } := by rw [hlr]
 rw [e]
 refine xenter (Hr := Rs) ttok Tryz.func122 rfl Tryz.ntmps122 [(0, krF v hs xs)] [] [.ag (mapv t.cells), .sl 0 v] rfl hS (fcons hu fnil) (fun B hB => ?_) rfl
 have hfn := len_nonneg xs.flatten
 refine xbox 1 rfl (eok rfl) (by omega) rfl rfl (eok rfl) fun b => ?_
 refine xdrawO [1, 3, 4, 5] 5 (fun _ _ _ _ _ h => h) rfl (eok rfl) (by omega) mixedK (by decide +kernel) ?_
 refine dg2 1 3 rfl (eok rfl) (by omega) rfl rfl ?_ ?_
 ·refine xlitP 2 [{ t with many := len hs }] Tm.cells 11 51 Tm.cells_len rfl (eok rfl) (by omega) rfl (eok rfl) (fun w => by kernel_rfl) rfl fun u => ?_
  refine xstep rfl (eok rfl) (by omega) ?_
  refine dg1 3 rfl (eok rfl) (by omega) rfl rfl ?_
  refine xcallO [] (fun u : SlH => .sl 3 u.v) [] (fun u => [(3, pvF u.v xs.flatten)]) rfl (eok rfl) (by omega) rfl Tryz.call131 rfl rfl (eok rfl) rfl (fun w M hS hF => concatF_c v hs xs hS (hF.get (k := 0) rfl) (by omega) hr) (fun _ => rfl) (fun _ => rfl) fun u' _ => ?_
  refine xtell 3 rfl ?_
  refine xstep rfl (eok rfl) (by omega) ?_
  refine dg1 4 rfl (eok rfl) (by omega) rfl rfl ?_
  refine xappP 120 rfl (eok rfl) (by omega) rfl (eok rfl) rfl Tryz.underlying23 Tryz.type51 rfl rfl Tm.cells_one (by simp only [len_cons, len_nil]; omega) fun v' => ?_
  refine xstep rfl (eok rfl) (by omega) ?_
  refine dg1 5 rfl (eok rfl) (by omega) rfl rfl ?_
  refine xstep rfl (eok rfl) (by omega) ?_
  refine dg0 rfl (eok rfl) (by omega) rfl rfl ?_
  exact xret hB rfl rfl (eok rfl) (by omega) rfl (eok rfl) fun w M' hX => filR ⟨v', M', rfl, trivial, hX.le, hX.st.drop _ ((List.sublist_cons_self _ _).cons_cons _), fnil⟩
 ·refine xcallO [] (fun u : SlH => .sl 3 u.v) [] (fun u => [(3, pvF u.v xs.flatten)]) rfl (eok rfl) (by omega) rfl Tryz.call131 rfl rfl (eok rfl) rfl (fun w M hS hF => concatF_c v hs xs hS (hF.get (k := 0) rfl) (by omega) hr) (fun _ => rfl) (fun _ => rfl) fun u' _ => ?_
  refine xtell 3 rfl ?_
  refine xstep rfl (eok rfl) (by omega) ?_
  refine dg1 1 rfl (eok rfl) (by omega) rfl rfl ?_
  refine xlitP 2 [{ t with many := len hs }] Tm.cells 11 51 Tm.cells_len rfl (eok rfl) (by omega) rfl (eok rfl) (fun w => by kernel_rfl) rfl fun u => ?_
  refine xstep rfl (eok rfl) (by omega) ?_
  refine dg1 4 rfl (eok rfl) (by omega) rfl rfl ?_
  refine xappP 120 rfl (eok rfl) (by omega) rfl (eok rfl) rfl Tryz.underlying23 Tryz.type51 rfl rfl Tm.cells_one (by simp only [len_cons, len_nil]; omega) fun v' => ?_
  refine xstep rfl (eok rfl) (by omega) ?_
  refine dg1 5 rfl (eok rfl) (by omega) rfl rfl ?_
  refine xstep rfl (eok rfl) (by omega) ?_
  refine dg0 rfl (eok rfl) (by omega) rfl rfl ?_
  exact xret hB rfl rfl (eok rfl) (by omega) rfl (eok rfl) fun w M' hX => filR ⟨v', M', rfl, trivial, hX.le, hX.st.drop _ ((List.sublist_cons_self _ _).cons_cons _), fnil⟩
end Go.Proofs.YtmjpjbmeamnfpaaGreatDoor
namespace Go.Eng

/-- From a place on there stand these, and then the rest. -/
def AtF (f : Fl) (i : Int) (us : List Tf) (R : Fl) : Prop := 0 ≤ i ∧ f.drop i.toNat = flatF us ++ R
theorem Tf.flat_cons (u : Tf) : u.flat = { u.t with many := len u.ps } :: flatF u.ps := by cases u; rfl
theorem flatF_app : ∀ (a b : List Tf), flatF (a ++ b) = flatF a ++ flatF b
  | [], b => rfl
  | x :: a, b => by show x.flat ++ flatF (a ++ b) = (x.flat ++ flatF a) ++ flatF b; rw [flatF_app a b, List.append_assoc]
theorem AtF.step {f : Fl} {i : Int} {u : Tf} {us : List Tf} {R : Fl} (h : AtF f i (u :: us) R) : i < len f ∧ at' f i = { u.t with many := len u.ps } ∧ AtF f (i + 1) (u.ps ++ us) R := by
  obtain ⟨h0, h1⟩ := h
  have e : f.drop i.toNat = { u.t with many := len u.ps } :: (flatF u.ps ++ (flatF us ++ R)) := by
    rw [h1]; show (u.flat ++ flatF us) ++ R = _; rw [Tf.flat_cons]; simp
  have hlt : i.toNat < f.length := by
    rcases Nat.lt_or_ge i.toNat f.length with h | h
    · exact h
    · rw [List.drop_of_length_le h] at e; cases e
  refine ⟨by unfold len; omega, ?_, by omega, ?_⟩
  · obtain ⟨h2, h3⟩ := at'_eq f h0 (by unfold len; omega)
    rw [h3]
    have := congrArg (·[0]?) e
    simpa [hlt] using this
  · rw [show (i + 1).toNat = i.toNat + 1 by omega, ← List.drop_drop, e]
    show flatF u.ps ++ (flatF us ++ R) = _
    rw [flatF_app, List.append_assoc]
theorem AtF.len_le {f : Fl} {i : Int} {us : List Tf} {R : Fl} (h : AtF f i us R) (hi : i ≤ len f) : i + len (flatF us) + len R = len f := by
  have := congrArg List.length h.2
  rw [List.length_drop, List.length_append] at this
  unfold len at *
  have := h.1; omega
/-- The part between. -/
theorem AtF.part {f : Fl} {i j : Int} {u : Tf} {R : Fl} (h : AtF f i [u] R) (h2 : AtF f j [] R) (hij : i ≤ j) (hj : j ≤ len f) : Eng.sub f i j = u.flat := by
  have h3 := h.len_le (by omega)
  have h4 := h2.len_le hj
  have e1 : flatF [u] = u.flat := by show u.flat ++ flatF [] = _; simp [flatF]
  have e2 : len (flatF []) = 0 := rfl
  rw [e1] at h3
  unfold Eng.sub
  rw [h.2, e1, show j.toNat - i.toNat = u.flat.length by have := h.1; unfold len at *; omega]
  exact List.take_left
theorem AtF.root (t : Tf) : AtF t.flat 1 t.ps [] := ⟨by omega, by rw [Tf.flat_cons]; show flatF t.ps = _; simp⟩
theorem AtF.next {f : Fl} {i : Int} {us : List Tf} {k : Nat} (h : AtF f i (us.drop k) []) (hk : k < us.length) : AtF f i [at' us k] (flatF (us.drop (k + 1))) := by
  refine ⟨h.1, ?_⟩
  rw [h.2]
  have e : us.drop k = at' us (k : Int) :: us.drop (k + 1) := by
    obtain ⟨h1, h2⟩ := at'_eq us (i := (k : Int)) (by omega) (by unfold len; omega)
    rw [h2]
    rw [List.drop_eq_getElem_cons hk]; simp
  rw [e]
  show (at' us (k : Int)).flat ++ flatF _ ++ [] = _
  simp [flatF]
theorem Tf.flat_many (t : Tf) : (at' t.flat 0).many = len t.ps := by rw [Tf.flat_cons]; rfl
theorem Tf.flat_root (t : Tf) : at' t.flat 0 = { t.t with many := len t.ps } := by rw [Tf.flat_cons]; rfl
theorem Tf.flat_ne (t : Tf) : t.flat ≠ [] := by rw [Tf.flat_cons]; exact List.cons_ne_nil _ _
theorem Tf.flat_pos (t : Tf) : 0 < len t.flat := by rw [Tf.flat_cons, len_cons]; have := len_nonneg (flatF t.ps); omega
theorem Tf.named_set (t : Tf) (n : Str) : (t.flat).set 0 { at' t.flat 0 with name := n } = (t.named n).flat := by cases t; rfl
theorem Tf.named_len (t : Tf) (n : Str) : len (t.named n).flat = len t.flat := by cases t; rfl
theorem flatF_map : ∀ xs : List Tf, flatF xs = (xs.map Tf.flat).flatten
  | [] => rfl
  | x :: xs => by show x.flat ++ flatF xs = _; rw [flatF_map xs]; rfl
theorem Tf.flat_mk (t : Tm) (ps : List Tf) : (Tf.mk t ps).flat = { t with many := len ps } :: (ps.map Tf.flat).flatten := by rw [← flatF_map]; rfl
theorem flatF_len_mem {x : Tf} : ∀ {xs : List Tf}, x ∈ xs → len x.flat ≤ len (flatF xs)
  | y :: xs, h => by
    have h1 := len_nonneg y.flat
    have h2 := len_nonneg (flatF xs)
    show _ ≤ len (y.flat ++ flatF xs)
    rw [len_app]
    rcases List.mem_cons.1 h with rfl | h
    · omega
    · have := flatF_len_mem h; omega
theorem flatF_len_ge : ∀ xs : List Tf, len xs ≤ len (flatF xs)
  | [] => Int.le_refl _
  | x :: xs => by
    have h1 := x.flat_pos
    have h2 := flatF_len_ge xs
    show _ ≤ len (x.flat ++ flatF xs)
    rw [len_app, len_cons]; omega
theorem Tf.named_self {t : Tf} (h : t.t.name = []) : t.named [] = t := by
  obtain ⟨tm, ps⟩ := t
  have h' : tm.name = [] := h
  show Tf.mk { tm with name := [] } ps = _
  rw [← h']
/-- Pipes have two parts, without names. -/
def PipeOk : Tf → Prop
  | .mk t [a, b] => t.op = 4 → a.t.name = [] ∧ b.t.name = [] ∧ PipeOk b
  | .mk t _ => t.op ≠ 4
theorem pipeF_no {x g : Tf} (h : x.t.op ≠ 4) : pipeF x g = .mk (tmF 4) [x, g] := by
  obtain ⟨t, ps⟩ := x
  have h' : t.op ≠ 4 := h
  unfold pipeF
  split
  · rename_i t a b g h1
    cases h1
    rw [if_neg h']
  · rfl
theorem PipeOk.two {x : Tf} (h : PipeOk x) (ho : x.t.op = 4) : ∃ a b, x = .mk x.t [a, b] ∧ a.t.name = [] ∧ b.t.name = [] ∧ PipeOk b ∧ ∀ g, pipeF x g = .mk (tmF 4) [a, pipeF b g] := by
  obtain ⟨t, ps⟩ := x
  have h' : t.op = 4 := ho
  match ps, h with
  | [a, b], h =>
    unfold PipeOk at h
    obtain ⟨h1, h2, h3⟩ := h h'
    exact ⟨a, b, rfl, h1, h2, h3, fun g => by rw [pipeF, if_pos h']⟩
  | [], h => unfold PipeOk at h; exact absurd h' h
  | [_], h => unfold PipeOk at h; exact absurd h' h
  | _ :: _ :: _ :: _, h => unfold PipeOk at h; exact absurd h' h
theorem PipeOk.no {x : Tf} (h : x.t.op ≠ 4) : PipeOk x := by
  obtain ⟨t, ps⟩ := x
  have h' : t.op ≠ 4 := h
  unfold PipeOk
  split
  · rename_i t a b h1; cases h1; exact fun h2 => absurd h2 h'
  · rename_i h1 h2; cases h2; exact h'
theorem Tf.flat_two (a b : Tf) (t : Tm) : (Tf.mk t [a, b]).flat = { t with many := 2 } :: (a.flat ++ b.flat) := by
  rw [Tf.flat_mk]; simp; rfl
theorem pipeF_len : ∀ (n : Nat) (x g : Tf), x.flat.length ≤ n → PipeOk x → len (pipeF x g).flat = 1 + len x.flat + len g.flat
  | 0, x, g, hn, _ => by have := x.flat_pos; unfold len at this; omega
  | n + 1, x, g, hn, h => by
    by_cases ho : x.t.op = 4
    · obtain ⟨a, b, e, _, _, hb, hp⟩ := h.two ho
      have e2 : x.flat.length = 1 + (a.flat.length + b.flat.length) := by rw [e, Tf.flat_two]; simp; omega
      have ih := pipeF_len n b g (by omega) hb
      rw [hp, Tf.flat_two, len_cons, len_app, ih]
      unfold len; omega
    · rw [pipeF_no ho, Tf.flat_two, len_cons, len_app]; omega
theorem pipeF_ok {x g : Tf} (hx : PipeOk x) (hg : PipeOk g) (nx : x.t.name = []) (ng : g.t.name = []) : PipeOk (pipeF x g) ∧ (pipeF x g).t.name = [] := by
  have key : ∀ (n : Nat) (x : Tf), x.flat.length ≤ n → PipeOk x → x.t.name = [] → PipeOk (pipeF x g) ∧ (pipeF x g).t.name = [] := by
    intro n
    induction n with
    | zero => intro x hn; have := x.flat_pos; unfold len at this; omega
    | succ n ih =>
      intro x hn h nx
      by_cases ho : x.t.op = 4
      · obtain ⟨a, b, e, na, nb, hb, hp⟩ := h.two ho
        have e2 : x.flat.length = 1 + (a.flat.length + b.flat.length) := by rw [e, Tf.flat_two]; simp; omega
        obtain ⟨h1, h2⟩ := ih b (by omega) hb nb
        rw [hp]
        exact ⟨by unfold PipeOk; exact fun _ => ⟨na, h2, h1⟩, rfl⟩
      · rw [pipeF_no ho]
        exact ⟨by unfold PipeOk; exact fun _ => ⟨nx, ng, hg⟩, rfl⟩
  exact key _ x (Nat.le_refl _) hx nx
theorem pipedF_ok : ∀ {xs : List Tf}, xs ≠ [] → (∀ x ∈ xs, PipeOk x ∧ x.t.name = []) → PipeOk (pipedF xs) ∧ (pipedF xs).t.name = []
  | [], h, _ => absurd rfl h
  | [x], _, h => h x (.head _)
  | x :: y :: l, _, h => by
    obtain ⟨h1, h2⟩ := h x (.head _)
    obtain ⟨h3, h4⟩ := pipedF_ok (xs := y :: l) (List.cons_ne_nil _ _) fun z hz => h z (.tail _ hz)
    exact pipeF_ok h1 h3 h2 h4
/-- The last so many, piped. -/
theorem pipedF_drop {xs : List Tf} {k : Nat} (h : k + 1 < xs.length) : pipedF (xs.drop k) = pipeF (at' xs (k : Int)) (pipedF (xs.drop (k + 1))) := by
  obtain ⟨h1, h2⟩ := at'_eq xs (i := (k : Int)) (by omega) (by unfold len; omega)
  rw [h2]
  have e1 := List.drop_eq_getElem_cons (l := xs) (i := k) (by omega)
  have e2 := List.drop_eq_getElem_cons (l := xs) (i := k + 1) h
  rw [e1, e2]
  rfl
theorem pipedF_len : ∀ {xs : List Tf}, xs ≠ [] → (∀ x ∈ xs, PipeOk x) → len (pipedF xs).flat ≤ 2 * len (flatF xs) ∧ len (pipedF xs).flat + 1 ≤ len xs + len (flatF xs)
  | [], h, _ => absurd rfl h
  | [x], _, _ => by
    have := x.flat_pos
    show len x.flat ≤ 2 * len (x.flat ++ []) ∧ len x.flat + 1 ≤ 1 + len (x.flat ++ [])
    rw [List.append_nil]; omega
  | x :: y :: l, _, h => by
    have ih := pipedF_len (xs := y :: l) (List.cons_ne_nil _ _) fun z hz => h z (.tail _ hz)
    have := pipeF_len _ x (pipedF (y :: l)) (Nat.le_refl _) (h x (.head _))
    have hx := x.flat_pos
    show len (pipeF x (pipedF (y :: l))).flat ≤ 2 * len (x.flat ++ flatF (y :: l)) ∧ len (pipeF x (pipedF (y :: l))).flat + 1 ≤ len (x :: y :: l) + len (x.flat ++ flatF (y :: l))
    rw [this, len_app, len_cons x]; omega
theorem at'_last {α : Type} [Inhabited α] (l : List α) (x : α) {i : Int} (h : i = len l) : at' (l ++ [x]) i = x := by
  subst h
  unfold at' len; simp
theorem at'_left {α : Type} [Inhabited α] (l m : List α) {i : Int} (h0 : 0 ≤ i) (h1 : i < len l) : at' (l ++ m) i = at' l i := by
  unfold at' len at *
  simp only [List.getD]
  rw [List.getElem?_append_left (by omega)]
theorem at'_map {α β : Type} [Inhabited α] [Inhabited β] (f : α → β) (l : List α) {i : Int} (h0 : 0 ≤ i) (h1 : i < len l) : at' (l.map f) i = f (at' l i) := by
  obtain ⟨h2, h3⟩ := at'_eq l h0 h1
  obtain ⟨h4, h5⟩ := at'_eq (l.map f) h0 (by unfold len at *; simpa using h1)
  rw [h3, h5]; simp
theorem sub_front {α : Type} (l : List α) (x : α) : Eng.sub (l ++ [x]) 0 (len (l ++ [x]) - 1) = l := by
  unfold Eng.sub len
  simp
theorem flatF_drop_le (xs : List Tf) (k : Nat) : len (flatF (xs.drop k)) ≤ len (flatF xs) := by
  conv => rhs; rw [← List.take_append_drop k xs, flatF_app, len_app]
  have := len_nonneg (flatF (xs.take k)); omega
end Go.Eng
set_option maxRecDepth 100000
namespace Go.Proofs.YtmjpjbmeamnfpaaGreatDoor
open Go.Eng

theorem each1_ok {w0 w : World} {M0 M : Mem} {y1 y2 : HO} {Rs : List HO} {b : Nat} {v : Value} {t : Tf} (hl : (knT v t.flat).ok M) (hb : len t.flat ≤ 1099511627776) :
    IterOk Tryz.prog 220 [.pointer (some ⟨b, 0, none⟩)] t.ps.length w0 M0 (y1 :: y2 :: .box b [v] 23 :: Rs)
      (fun k (y : SlH) => [.v (str (at' t.ps k).t.name), .sl 5 y.v]) (fun _ _ => True) (fun k y => [(5, knT y.v ((at' t.ps k).named []).flat)]) w M := by
 intro σ I' Hy Fy l g0 ⟨x1, x2, hx⟩ hS hF hI hy
 have hS2 : St w0 M0 w M (.box b [v] 23 :: x1 g0 :: x2 g0 :: (y1 :: y2 :: Rs)) := by
  rw [hx] at hS
  exact hS.perm (List.perm_middle (l₁ := [x1 g0, x2 g0, y1, y2])).symm
 have hmny := t.flat_many
 have hpos := t.flat_pos
 have hps := flatF_len_ge t.ps
 have hpl : len t.flat = 1 + len (flatF t.ps) := by rw [Tf.flat_cons, len_cons]; omega
 have hln : len t.ps = (t.ps.length : Int) := rfl
 refine xenterI (Hr := y1 :: y2 :: Rs) ttok Tryz.func220 rfl Tryz.ntmps220 rfl (fun w h => by obtain ⟨g, M', h, _⟩ := h; cases h) [(0, knT v t.flat), (9, knF (Fy g0))] [(0, .box b [.sl 0 v] 23), (1, .ho (x1 g0)), (2, .ho (x2 g0))] [.v (.func (.yield l) #[] #[]), .bx 0 b 0] rfl hS2 (fcons hl (fcons ⟨Sl.nil M 1, strC_len, hF⟩ fnil)) (fun B hB => ?_) rfl
 refine xloop (σ := Int × Nat × σ) (fun (i, k, g) => ⟨[(0, knT v t.flat), (9, knF (Fy g))], [(0, .box b [.sl 0 v] 23), (1, .ho (x1 g)), (2, .ho (x2 g))], [Z 0 (.v (.func (.yield l) #[] #[])), Z 1 (.bx 0 b 0), Z 3 (I i), Z 10 (I (at' t.flat 0).many), Z 11 (I k)]⟩) (fun (i, k, g) => AtF t.flat i (t.ps.drop k) [] ∧ k ≤ t.ps.length ∧ I' k g) (fun (i, k, g) => t.ps.length - k) (1, 0, g0) rfl (eok rfl) (by simp only [zb] <;> omega) rfl ⟨AtF.root t, Nat.zero_le _, hI⟩ ?_
 rintro ⟨i, k, g⟩ ⟨hi, hk, hIk⟩
 refine xbr rfl (eok rfl) (by simp only [zb] <;> omega) (fun hb1 => ?_) (fun hb1 => ?_) <;> simp only [zb] at hb1
 ·have hk2 : k < t.ps.length := by omega
  have hi1 := hi.next hk2
  have hi2 := hi1.step.1
  have hi0 := hi.1
  have hst := hi1.step.2.1
  refine xloop (σ := Int × Int × List Tf) (fun (tz, lf, st) => ⟨[(0, knT v t.flat), (9, knF (Fy g))], [(0, .box b [.sl 0 v] 23), (1, .ho (x1 g)), (2, .ho (x2 g))], [Z 0 (.v (.func (.yield l) #[] #[])), Z 1 (.bx 0 b 0), Z 3 (I i), Z 10 (I (at' t.flat 0).many), Z 11 (I k), Z 4 (I tz), Z 5 (I lf)]⟩) (fun (tz, lf, st) => AtF t.flat tz st (flatF (t.ps.drop (k + 1))) ∧ lf = len st ∧ i ≤ tz ∧ tz ≤ len t.flat ∧ (tz = i → st = [at' t.ps (k : Int)])) (fun (tz, lf, st) => (len t.flat - tz).toNat) (i, 1, [at' t.ps (k : Int)]) rfl (eok rfl) (by omega) rfl ⟨hi1, rfl, by omega, by omega, fun _ => rfl⟩ ?_
  rintro ⟨tz, lf, st⟩ ⟨hto, hlf, hit, htl, hne⟩
  refine xbr rfl (eok rfl) (by omega) (fun hb2 => ?_) (fun hb2 => ?_) <;> simp only [zb] at hb2
  ·cases st with
   | nil => rw [len_nil] at hlf; omega
   | cons u st =>
    obtain ⟨q1, q2, q3⟩ := hto.step
    have q4 := q3.len_le (by omega)
    have q5 := flatF_len_ge (u.ps ++ st)
    have q6 := len_nonneg (flatF (t.ps.drop (k + 1)))
    have q7 : (at' t.flat tz).many = len u.ps := by rw [q2]
    rw [len_app] at q5
    rw [len_cons] at hlf
    have q8 := len_nonneg u.ps
    have q9 := len_nonneg st
    have q0 := hto.1
    exact xround (tz + 1, lf + ((at' t.flat tz).many - 1), u.ps ++ st) rfl (eok rfl) (by simp only [zb] <;> omega) rfl ⟨q3, by rw [len_app]; omega, by omega, by omega, fun h => by omega⟩ (by show Int.toNat _ < Int.toNat _; omega)
  have hse : st = [] := by
   have := len_nonneg st
   cases st with
   | nil => rfl
   | cons u st => have := len_nonneg st; rw [len_cons] at hlf; omega
  subst hse
  have hlt : i < tz := by
   rcases Int.lt_or_eq_of_le hit with h | h
   · exact h
   · cases hne h.symm
  have hpart := hi1.part hto hit htl
  have hpp := Tf.flat_pos (at' t.ps (k : Int))
  have hpl2 : len (at' t.ps (k : Int)).flat ≤ len t.flat := by rw [← hpart, sub_len (by omega) hit htl]; omega
  refine xslice (gd := none) 4 i tz rfl (eok rfl) (by omega) rfl (eok rfl) rfl ⟨.i64, _, rfl, eok rfl⟩ ⟨.i64, _, rfl, eok rfl⟩ Tryz.underlying23 Tryz.sizeOf51 (by omega) rfl rfl fun v4 => ?_
  rw [hpart]
  refine xcallO [] (fun u : SlH => .sl 5 u.v) [] (fun u => [(5, pvF u.v (at' t.ps (k : Int)).flat)]) rfl (eok rfl) (by omega) rfl Tryz.call221 rfl rfl (eok rfl) rfl (fun w M hS hF => cloneF_c v4 _ hS (hF.get (k := 4) rfl) (Tf.flat_ne _) (by omega)) (fun _ => rfl) (fun _ => rfl) fun h5 _ => ?_
  obtain ⟨v5, hv5⟩ : ∃ v5, v5 = h5.v := ⟨_, rfl⟩
  rw [← hv5]
  clear hv5 h5
  refine xset { at' (at' t.ps (k : Int)).flat 0 with name := [] } rfl (eok rfl) (by omega) rfl (eok rfl) rfl Tryz.sizeOf9 rfl rfl rfl (by omega) fun x5 hx5 => ?_
  rw [show ((0 : Int).toNat) = 0 from rfl, Tf.named_set] at hx5
  subst hx5
  refine xtell 5 rfl ?_
  have hnm : (at' t.flat i).name = (at' t.ps (k : Int)).t.name := by rw [hst]
  refine xyield (fun g' => [(1, .ho (x1 g')), (2, .ho (x2 g'))]) [1, 2] (γ := σ) (pu := I' (k + 1)) (Fg := fun g' => [(9, knF (Fy g'))]) (Hg := Hy) [9] rfl (eok rfl) (by simp only [zb] <;> omega) rfl (eok rfl) rfl rfl (eok rfl) rfl (fun w' M' hS' hF' hle => ?_) (fun g' => by rw [hx]; rfl) fun g' hg' => ?_
  ·have h5 := hF'.get (k := 5) rfl
   have h6 : Sl M' 11 ((at' t.ps (k : Int)).named []).flat.length v5 (((at' t.ps (k : Int)).named []).flat.flatMap Tm.cells) := h5.sl
   obtain ⟨a, c, hv⟩ := h6.shape
   have hp : (Hy g ++ (y1 :: y2 :: .box b [v] 23 :: Rs)).Perm (x1 g :: x2 g :: .box b [v] 23 :: y1 :: y2 :: Rs) := by
    rw [hx]
    exact ((List.perm_middle (l₁ := [y1, y2])).cons _).cons _
   replace hv : v5 = SlH.v ⟨a, ((at' t.ps (k : Int)).named []).flat.length, c⟩ := hv
   subst hv
   obtain ⟨fn, tt', asg, bd, e1, e2⟩ := hy k g ⟨a, _, c⟩ w' M' hk2 hIk trivial (hS'.perm hp) hle (fcons h5 fnil) (hF'.get (k := 9) rfl).more
   dsimp only at e1
   rw [← hnm] at e1
   refine ⟨fn, tt', asg, bd, e1, e2.mono fun e w2 h => ?_⟩
   obtain ⟨g', M2, r1, r2, r3, r4, r5⟩ := h
   refine ⟨g', M2, r1, r2, r3, ?_, fcons ⟨Sl.nil M2 1, strC_len, r5⟩ fnil⟩
   refine r4.perm (List.Perm.append_left _ ?_)
   exact (List.perm_middle (l₁ := [y1, y2])).symm
  ·refine xbr rfl (eok rfl) (by omega) (fun hb3 => ?_) (fun hb3 => ?_)
   ·cases hb3
   ·refine xround (tz, k + 1, g') rfl (eok rfl) (by simp only [zb] <;> omega) rfl ⟨⟨hto.1, ?_⟩, hk2, hg'⟩ (by show t.ps.length - (k + 1) < t.ps.length - k; omega)
    rw [hto.2]; simp [flatF]
 ·have hk3 : k = t.ps.length := by omega
  refine xend hB rfl rfl (eok rfl) (by omega) fun w' M' hX => ⟨g, M', rfl, by rw [← hk3]; exact hIk, hX.le, ?_, (hX.f.get (k := 9) rfl).more⟩
  refine hX.st.perm ?_
  rw [hx]
  exact List.perm_middle (l₁ := [x1 g, x2 g, y1, y2])
theorem each_c {w0 wv : World} {M0 M : Mem} {Rs : List HO} {v : Value} {t : Tf} (hS : St w0 M0 wv M Rs) (hl : (knT v t.flat).ok M) :
    Calls Tryz.prog 170 [v].toArray wv (ORet w0 M0 M Rs (fun b : Nat => .func (.func 220) #[] #[.pointer (some ⟨b, 0, none⟩)]) (fun _ => True) (fun _ => []) fun b => [.box b [v] 23]) := by
 refine xenter (Hr := Rs) ttok Tryz.func170 rfl Tryz.ntmps170 [(0, knT v t.flat)] [] [.sl 0 v] rfl hS (fcons hl fnil) (fun B hB => ?_) rfl
 refine xbox 1 rfl (eok rfl) (by omega) rfl rfl (eok rfl) fun b => ?_
 refine xpv (.v (.func (.func 220) #[] #[.pointer (some ⟨b, 0, none⟩)])) rfl (eok rfl) (by omega) rfl (fun w M hX => PV.makeFunc (xs := []) (ys := [.tmp 1]) (vs := []) (us := [.pointer (some ⟨b, 0, none⟩)]) trivial ⟨opd_d (v := .bx 1 b 0) (E := []) rfl (eok rfl), trivial⟩) ?_
 exact xret hB rfl rfl (eok rfl) (by omega) rfl (eok rfl) fun w' M' hX => ⟨b, M', rfl, trivial, hX.le, hX.st, fun x h => by cases h⟩
abbrev ownHs (v : Value) (hs : List SlH) : HO := .own 23 1 v hs.length (hs.flatMap valI)
abbrev partsN (t : Tf) : List Fl := t.ps.map fun x => (x.named []).flat
theorem partsN_at {t : Tf} {k : Nat} (hk : k < t.ps.length) : (partsN t).take (k + 1) = (partsN t).take k ++ [((at' t.ps (k : Int)).named []).flat] := by
  obtain ⟨h1, h2⟩ := at'_eq t.ps (i := (k : Int)) (by omega) (by unfold len; omega)
  rw [h2, List.take_add_one]
  simp [partsN, hk]
theorem sub2 {α : Type} {a b : α} {l : List α} : l.Sublist (a :: b :: l) := List.sublist_append_right [a, b] l
theorem sub3 {α : Type} {a b c : α} {l : List α} : l.Sublist (a :: b :: c :: l) := List.sublist_append_right [a, b, c] l
theorem sub4 {α : Type} {a b c d : α} {l : List α} : l.Sublist (a :: b :: c :: d :: l) := List.sublist_append_right [a, b, c, d] l
theorem partsF_c {w0 wv : World} {M0 M : Mem} {Rs : List HO} {v : Value} {t : Tf} (hS : St w0 M0 wv M Rs) (hl : (knT v t.flat).ok M) (hb : len t.flat ≤ 1099511627776) :
    Calls Tryz.prog 130 [v].toArray wv (ORet w0 M0 M Rs (fun g : Value × List SlH => g.1) (fun g => len g.2 = len t.ps) (fun g => [(0, krF g.1 g.2 (partsN t))]) fun _ => []) := by
 have hps := flatF_len_ge t.ps
 have hpl : len t.flat = 1 + len (flatF t.ps) := by rw [Tf.flat_cons, len_cons]; omega
 have hln : len t.ps = (t.ps.length : Int) := rfl
 refine xenterM (Hr := Rs) ttok Tryz.func130 rfl Tryz.ntmps130 [(0, knT v t.flat)] [] [.sl 0 v] rfl hS (fcons hl fnil) (fun B hB => ?_) rfl
 refine xalloc 1 rfl (eok rfl) (by omega) Tryz.zeroValue72 rfl fun b3 => ?_
 refine xcallO [] (fun b : Nat => .v (.func (.func 220) #[] #[.pointer (some ⟨b, 0, none⟩)])) [] (fun b => [(2, .box b [.sl 0 v] 23)]) rfl (eok rfl) (by omega) rfl Tryz.call170 rfl rfl (eok rfl) rfl (fun w M hS hF => each_c hS (hF.get (k := 0) rfl)) (fun _ => rfl) (fun _ => rfl) fun b2 _ => ?_
 refine xfreeze [2] rfl rfl ?_
 refine xnil0 6 23 1 valI valI_len ?_
 refine xknow 9 (krF (.slice none 0 0) [] []) (fun w M hX => ⟨Sl.nil M 1, valI_len, trivial⟩) ?_
 refine xview ⟨_, [(6, .ho (ownHs (.slice none 0 0) [])), (1, .box b3 [.sl 6 (.slice none 0 0)] 72)], _⟩ rfl rfl rfl ?_
 refine xrange (σ := Value × List SlH × List Fl) (τ := SlH) (fun g => ⟨[(0, knT v t.flat), (6, kn g.1 1 g.2.1 valI), (9, krF g.1 g.2.1 g.2.2)], [(1, .box b3 [.sl 6 g.1] 72), (6, .ho (ownHs g.1 g.2.1))], [Z 3 (.bx 1 b3 0)]⟩) (fun k g => g.2.2 = (partsN t).take k ∧ g.2.1.length = k) (.slice none 0 0, [], []) (fun k g y => ⟨[(5, knT y.v ((at' t.ps (k : Int)).named []).flat), (0, knT v t.flat), (6, kn g.1 1 g.2.1 valI), (9, krF g.1 g.2.1 g.2.2)], [(1, .box b3 [.sl 6 g.1] 72), (6, .ho (ownHs g.1 g.2.1))], [Z 5 (.sl 5 y.v), Z 3 (.bx 1 b3 0)]⟩)
   (fun _ _ _ _ h => h) rfl (eok rfl) (by omega) rfl (eok rfl) Tryz.call220 rfl ⟨rfl, rfl⟩ (fun _ => rfl) ⟨_, _, fun _ => rfl⟩ (fun w M l D r w' hX => each1_ok (hX.f.get (k := 0) rfl) hb) (fun _ _ => rfl)
   (fun k g y l D r M hk hI hp => ?_) rfl (fun k g y l D r M hk hI hp => ?_) rfl (fun D g a w hI => ?_)
 ·exact xmeet _ rfl (eok rfl) (by omega) rfl rfl
 ·obtain ⟨vv, hs, xs⟩ := g
  obtain ⟨hI1, hI2⟩ := hI
  refine xlit 7 [y] valI 1 23 valI_len rfl (eok rfl) (by omega) rfl (eok rfl) (fun w => by kernel_rfl) rfl fun v7 => ?_
  refine xapp 24 rfl (eok rfl) (by omega) rfl (eok rfl) rfl Tryz.underlying72 Tryz.type23 rfl rfl valI_one (by simp only [len_cons, len_nil]; unfold len at *; dsimp only at hI2; omega) fun v' => ?_
  refine xknow 9 (krF v' (hs ++ [y]) (xs ++ [((at' t.ps (k : Int)).named []).flat])) (fun w M hX => ⟨hX.sl 6 rfl, valI_len, RowsV.snoc (hX.sl 5 rfl) (hX.f.get (k := 9) rfl).more⟩) ?_
  exact xmeet _ rfl (eok rfl) (by omega) rfl ⟨(v', hs ++ [y], xs ++ [((at' t.ps (k : Int)).named []).flat]), rfl, by dsimp only at hI1 ⊢; rw [hI1, partsN_at hk], by dsimp only at hI2 ⊢; rw [List.length_append, hI2]; rfl⟩
 ·obtain ⟨vv, hs, xs⟩ := g
  obtain ⟨hI1, hI2⟩ := hI
  dsimp only at hI1
  rw [List.take_of_length_le (by simp [partsN])] at hI1
  subst hI1
  refine xdone 8 (fun _ _ _ _ h => h) rfl (s := ⟨[(0, knT v t.flat), (6, kn vv 1 hs valI), (9, krF vv hs (partsN t))], [(1, .box b3 [.sl 6 vv] 72), (6, .ho (ownHs vv hs))], [Z 3 (.bx 1 b3 0)]⟩) ?_ a w
  refine xret (hB.dfr rfl D) rfl rfl (eok rfl) (by omega) rfl (eok rfl) fun w M hX => ?_
  obtain ⟨h1, h2⟩ := hX.shut
  exact ⟨by simp, h1, (vv, hs), M, rfl, by show (hs.length : Int) = _; rw [hI2]; rfl, hX.le, h2.drop _ sub3, fcons (hX.f.get (k := 9) rfl) fnil⟩
end Go.Proofs.YtmjpjbmeamnfpaaGreatDoor
set_option maxRecDepth 100000
namespace Go.Proofs.YtmjpjbmeamnfpaaGreatDoor
open Go.Eng

theorem knT.shape {M : Mem} {v : Value} {x : Fl} (h : (knT v x).ok M) : ∃ s : SlH, v = s.v := by
  obtain ⟨a, c, hv⟩ := h.sl.shape
  exact ⟨⟨a, _, c⟩, hv⟩
theorem pipe_c : ∀ (n : Nat) (x g : Tf) {w0 wv : World} {M0 M : Mem} {Rs : List HO} (v0 v1 : SlH), x.flat.length ≤ n → PipeOk x → St w0 M0 wv M Rs → (knT v0.v x.flat).ok M → (knT v1.v g.flat).ok M → len x.flat + len g.flat ≤ 549755813888 →
    Calls Tryz.prog 84 [v0.v, v1.v].toArray wv (FilR w0 M0 M Rs (pipeF x g).flat)
  | 0, x, g, _, _, _, _, _, v0, v1, hn, _, _, _, _, _ => by have := x.flat_pos; unfold len at this; omega
  | n + 1, x, g, w0, wv, M0, M, Rs, v0, v1, hn, hP, hS, h0, h1, hb => by
   have hpos := x.flat_pos
   have hgp := g.flat_pos
   refine xenter (Hr := Rs) ttok Tryz.func84 rfl Tryz.ntmps84 [(0, knT v0.v x.flat), (1, knT v1.v g.flat)] [] [.sl 0 v0.v, .sl 1 v1.v] rfl hS (fcons h0 (fcons h1 fnil)) (fun B hB => ?_) rfl
   refine xbrj 0 (fun s => ∃ (u0 u1 : SlH) (f0 f1 : Fl), (pipeF x g).flat = { tmF 4 with many := 2 } :: (f0 ++ f1) ∧ s = ⟨[(0, knT u0.v f0), (1, knT u1.v f1)], [], [Z 0 (.sl 0 u0.v), Z 1 (.sl 1 u1.v)]⟩) rfl (eok rfl) (by simp only [zb] <;> omega) rfl (fun hb1 => ?_) (fun hb1 => ?_) ?_
   ·have ho : x.t.op = 4 := by simp only [zb] at hb1; rw [Tf.flat_root] at hb1; exact hb1
    obtain ⟨a, b, e, na, nb, hB2, hp⟩ := hP.two ho
    have hpn : partsN x = [a.flat, b.flat] := by unfold partsN; rw [e]; show [(a.named []).flat, (b.named []).flat] = _; rw [Tf.named_self na, Tf.named_self nb]
    have hxl : x.flat.length = 1 + (a.flat.length + b.flat.length) := by rw [e, Tf.flat_two]; simp; omega
    have hlb := pipeF_len _ b g (Nat.le_refl _) hB2
    have hps2 : len x.ps = 2 := by rw [e]; rfl
    have hal : at' (partsN x) 0 = a.flat := by rw [hpn]; rfl
    have hbl : at' (partsN x) 1 = b.flat := by rw [hpn]; rfl
    refine xcallO [] (fun g : Value × List SlH => .sl 2 g.1) [2] (fun _ => []) rfl (eok rfl) (by omega) rfl Tryz.call130 rfl rfl (eok rfl) rfl (fun w M hS hF => partsF_c hS (hF.get (k := 0) rfl) (by omega)) (fun _ => rfl) (fun _ => rfl) fun gg hg => ?_
    refine xdrawO [7, 8, 9] 4 (fun _ _ _ _ _ h => h) rfl (eok rfl) (by omega) mixedK (by decide +kernel) ?_
    refine dg1 7 rfl (eok rfl) (by omega) rfl rfl ?_
    refine xcallO [] (fun h : SlH => .sl 1 h.v) [] (fun h => [(1, pvF h.v (pipeF b g).flat)]) rfl (eok rfl) (by omega) rfl Tryz.call84 rfl rfl (eok rfl) rfl (fun w M hS hF => pipe_c n b g (at' gg.2 1) v1 (by omega) hB2 hS (by have := krF_at (hF.get (k := 2) rfl) (k := 1) (by omega) (by omega); rw [hbl] at this; exact this) (hF.get (k := 1) rfl) (by unfold len at *; omega)) (fun _ => rfl) (fun _ => rfl) fun h1 _ => ?_
    refine xtell 1 rfl ?_
    refine xstep rfl (eok rfl) (by omega) ?_
    refine dg1 8 rfl (eok rfl) (by omega) rfl rfl ?_
    refine xstep rfl (eok rfl) (by omega) ?_
    refine dg1 9 rfl (eok rfl) (by omega) rfl rfl ?_
    refine xstep rfl (eok rfl) (by omega) ?_
    refine dg0 rfl (eok rfl) (by omega) rfl rfl ?_
    refine xknow 0 (knT (at' gg.2 0).v a.flat) (fun w M hX => by have := krF_at (hX.f.get (k := 2) rfl) (k := 0) (by omega) (by omega); rw [hal] at this; exact this) (xtag 0 0 rfl ?_)
    exact xmeet _ rfl (eok rfl) (by omega) rfl ⟨at' gg.2 0, h1, a.flat, (pipeF b g).flat, by rw [hp, Tf.flat_two], rfl⟩
   ·have ho : x.t.op ≠ 4 := by simp only [zb] at hb1; rw [Tf.flat_root] at hb1; exact hb1
    refine xmeet _ rfl (eok rfl) (by omega) rfl ⟨v0, v1, x.flat, g.flat, by rw [pipeF_no ho, Tf.flat_two], rfl⟩
   ·rintro s ⟨u0, u1, f0, f1, hf, rfl⟩
    have hfl : len f0 + len f1 ≤ 1099511627770 := by
     have := congrArg len hf
     rw [pipeF_len _ x g (Nat.le_refl _) hP, len_cons, len_app] at this
     omega
    refine xlitP 2 [{ tmF 4 with many := 2 }] Tm.cells 11 51 Tm.cells_len rfl (eok rfl) (by omega) rfl (eok rfl) (fun w => by kernel_rfl) rfl fun v2 => ?_
    refine xtell 2 rfl ?_
    refine xshape 2 rfl fun a2 c2 e2 => ?_
    subst e2
    refine xlit 3 [⟨a2, 1, c2⟩, u0, u1] valI 1 23 valI_len rfl (eok rfl) (by omega) rfl (eok rfl) (fun w => by kernel_rfl) rfl fun v3 => ?_
    refine xknow 4 (krF v3 [⟨a2, 1, c2⟩, u0, u1] [[{ tmF 4 with many := 2 }], f0, f1]) (fun w M hX => ⟨hX.sl 3 rfl, valI_len, hX.sl 2 rfl, hX.sl 0 rfl, hX.sl 1 rfl, trivial⟩) ?_
    refine xcallO [] (fun h : SlH => .sl 5 h.v) [] (fun h => [(5, pvF h.v ([[{ tmF 4 with many := 2 }], f0, f1].flatten))]) rfl (eok rfl) (by omega) rfl Tryz.call131 rfl rfl (eok rfl) rfl (fun w M hS hF => concatF_c v3 _ [[{ tmF 4 with many := 2 }], f0, f1] hS (hF.get (k := 4) rfl) (by simp only [List.flatten_cons, List.flatten_nil, len_app, len_cons, len_nil]; omega) (by simp only [len_cons, len_nil]; omega)) (fun _ => rfl) (fun _ => rfl) fun h5 _ => ?_
    refine xret hB rfl rfl (eok rfl) (by omega) rfl (eok rfl) fun w M' hX => ⟨h5, M', rfl, trivial, hX.le, ?_, fnil⟩
    have e : (pipeF x g).flat = [[{ tmF 4 with many := 2 }], f0, f1].flatten := by rw [hf]; simp
    rw [e]
    exact hX.st.drop _ ((List.sublist_cons_self _ _).cons_cons _)
/-- Headers whose rows are known. -/
abbrev knR (hs : List SlH) (xs : List Fl) : Kn := ⟨.slice none 0 0, 1, ([] : List Str), strC, fun M => RowsV M 11 Tm.cells hs xs, fun _ _ hm h => RowsV.mono hm h⟩
theorem piped_c {w0 wv : World} {M0 M : Mem} {Rs : List HO} (v : Value) (hs : List SlH) (h : SlH) (xs : List Tf) (x : Tf) (hS : St w0 M0 wv M (privF h.v x.flat :: Rs)) (hu : Sl M 1 (hs ++ [h]).length v ((hs ++ [h]).flatMap valI)) (hr : RowsV M 11 Tm.cells hs (xs.map Tf.flat))
    (hok : ∀ y ∈ xs ++ [x], PipeOk y) (hb : len (flatF (xs ++ [x])) ≤ 137438953472) :
    Calls Tryz.prog 51 [v].toArray wv (FilR w0 M0 M Rs (pipedF (xs ++ [x])).flat) := by
 have hlx : hs.length = xs.length := by have := RowsV.len hr; simpa using this
 have hlh : len (hs ++ [h]) = len hs + 1 := by rw [len_app]; rfl
 have hxl := flatF_len_ge (xs ++ [x])
 have hxl2 : len (xs ++ [x]) = len hs + 1 := by rw [len_app]; unfold len; simp [hlx]
 have hln : len hs = (hs.length : Int) := rfl
 have hlast : at' (hs ++ [h]) (len (hs ++ [h]) - 1) = h := at'_last hs h (by omega)
 refine xenterM (Hr := Rs) ttok Tryz.func51 rfl Tryz.ntmps51 [(0, kn v 1 (hs ++ [h]) valI), (8, knR hs (xs.map Tf.flat))] [(1, pvF h.v x.flat)] [.sl 0 v] rfl hS (fc 0 hu valI_len (fcons ⟨Sl.nil M 1, strC_len, hr⟩ fnil)) (fun B hB => ?_) rfl
 refine xalloc 3 rfl (eok rfl) (by omega) Tryz.zeroValue23 rfl fun b3 => ?_
 refine run_ok rfl (eok rfl) (by omega) ?_
 refine xview ⟨_, [(3, .box b3 [.sl 1 h.v] 23), (1, pvF h.v x.flat)], _⟩ rfl (by rw [hlast]; rfl) rfl ?_
 refine xslice (gd := none) 5 0 (len (hs ++ [h]) - 1) rfl (eok rfl) (by omega) rfl (eok rfl) rfl rfl ⟨.i64, _, rfl, eok rfl⟩ Tryz.underlying72 Tryz.sizeOf23 (by omega) rfl rfl fun v5 => ?_
 rw [sub_front]
 refine xcallO [] (fun b : Nat => .v (.func (.func 129) #[] #[.pointer (some ⟨b, 0, none⟩)])) [] (fun b => [(2, .box b [.sl 5 v5] 72)]) rfl (eok rfl) (by omega) rfl Tryz.call83 rfl rfl (eok rfl) rfl (fun w M hS hF => back_c hS (hF.get (k := 5) rfl).sl) (fun _ => rfl) (fun _ => rfl) fun b2 _ => ?_
 refine xfreeze [2] rfl rfl ?_
 refine xrange (σ := SlH × Tf) (τ := Unit) (fun g => ⟨[(8, knR hs (xs.map Tf.flat)), (5, kn v5 1 hs valI)], [(3, .box b3 [.sl 1 g.1.v] 23), (1, pvF g.1.v g.2.flat)], [Z 3 (.bx 3 b3 0)]⟩) (fun k g => g.2 = pipedF ((xs ++ [x]).drop (xs.length - k))) (h, x) (fun k g y => ⟨[(8, knR hs (xs.map Tf.flat)), (5, kn v5 1 hs valI)], [(3, .box b3 [.sl 1 g.1.v] 23), (1, pvF g.1.v g.2.flat)], [Z 5 (.v (at' hs (len hs - 1 - k)).v), Z 3 (.bx 3 b3 0)]⟩)
   (fun _ _ _ _ h => h) rfl (eok rfl) (by omega) rfl (eok rfl) Tryz.call129 rfl (by simp; rfl) (fun _ => rfl) ⟨_, _, fun _ => rfl⟩ (fun w M l D r w' hX => back1_ok (hX.f.get (k := 5) rfl).sl (by show len hs ≤ _; omega)) (fun _ _ => rfl)
   (fun k g y l D r M hk hI hp => ?_) rfl (fun k g y l D r M hk hI hp => ?_) rfl (fun D g a w hI => ?_)
 ·exact xmeet _ rfl (eok rfl) (by omega) rfl rfl
 ·obtain ⟨u, z⟩ := g
  replace hk : k < hs.length := hk
  dsimp only at hI
  have hj : (len hs - 1 - k : Int) = ((xs.length - (k + 1) : Nat) : Int) := by omega
  have hat : at' (xs ++ [x]) (len hs - 1 - k) = at' xs (len hs - 1 - k) := at'_left xs [x] (by omega) (by unfold len at *; omega)
  have hmem : at' (xs ++ [x]) (len hs - 1 - k) ∈ xs ++ [x] := at_mem (by omega) (by omega)
  have hnext : pipedF ((xs ++ [x]).drop (xs.length - (k + 1))) = pipeF (at' xs (len hs - 1 - k)) z := by
   rw [pipedF_drop (by simp; omega), ← hj, hat, hI, show xs.length - (k + 1) + 1 = xs.length - k by omega]
  have hzl : len z.flat ≤ 2 * len (flatF (xs ++ [x])) := by
   rw [hI]
   have h1 := (pipedF_len (xs := (xs ++ [x]).drop (xs.length - k)) (by intro h0; have := congrArg List.length h0; simp at this; omega) fun y hy => hok y (List.mem_of_mem_drop hy)).1
   have h2 := flatF_drop_le (xs ++ [x]) (xs.length - k)
   omega
  have hyl := flatF_len_mem hmem
  rw [hat] at hyl
  refine xtell 1 rfl ?_
  refine xcallO [] (fun h : SlH => .sl 4 h.v) [] (fun h => [(4, pvF h.v (pipeF (at' xs (len hs - 1 - k)) z).flat)]) rfl (eok rfl) (by omega) rfl Tryz.call84 rfl rfl (eok rfl) rfl (fun w M hS hF => pipe_c _ (at' xs (len hs - 1 - k)) z (at' hs (len hs - 1 - k)) u (Nat.le_refl _) (by rw [← hat]; exact hok _ hmem) hS (by have := RowsV.at (k := len hs - 1 - k) (hF.get (k := 8) rfl).more (by omega) (by omega); rw [at'_map Tf.flat xs (by omega) (by unfold len at *; omega)] at this; exact ⟨this, Tm.cells_len, trivial⟩) (hF.get (k := 1) rfl) (by omega)) (fun _ => rfl) (fun _ => rfl) fun h1 _ => ?_
  refine run_ok rfl (eok rfl) (by omega) (xview ⟨_, [(1, pvF h1.v (pipeF (at' xs (len hs - 1 - k)) z).flat), (3, .box b3 [.sl 1 h1.v] 23)], _⟩ rfl rfl rfl ?_)
  exact xmeet _ rfl (eok rfl) (by omega) rfl ⟨(h1, pipeF (at' xs (len hs - 1 - k)) z), rfl, hnext.symm⟩
 ·obtain ⟨u, z⟩ := g
  dsimp only at hI
  rw [show xs.length - hs.length = 0 by omega, List.drop_zero] at hI
  subst hI
  refine xdone 9 (fun _ _ _ _ h => h) rfl (s := ⟨[(8, knR hs (xs.map Tf.flat)), (5, kn v5 1 hs valI)], [(3, .box b3 [.sl 1 u.v] 23), (1, pvF u.v (pipedF (xs ++ [x])).flat)], [Z 3 (.bx 3 b3 0)]⟩) ?_ a w
  refine xret (hB.dfr rfl D) rfl rfl (eok rfl) (by omega) rfl (eok rfl) fun w M hX => ?_
  obtain ⟨h1, h2⟩ := hX.shut
  exact ⟨by simp, h1, u, M, rfl, trivial, hX.le, h2.drop _ (List.Sublist.cons _ ((List.sublist_cons_self _ _).cons_cons _)), fnil⟩
end Go.Proofs.YtmjpjbmeamnfpaaGreatDoor
