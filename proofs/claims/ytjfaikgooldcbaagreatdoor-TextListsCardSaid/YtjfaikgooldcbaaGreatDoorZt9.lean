/-
  THE EXECUTOR, PART 8: where it stops: what changes memory, calls of all kinds, ways that meet again. Over any program.
  THE EXECUTOR, PART 9: calls of all kinds; regions that draw; ends. Over any program.
  THE PLAIN FORMS OF NUMBERS: what num and louperef01 compute.
-/
import Derived.Test.YtjfaikgooldcbaaGreatDoorZt8
import Derived.Test.YtjfaikgooldcbaaGreatDoorZt6
import Derived.Test.YtjfaikgooldcbaaGreatDoorZt3
import Derived.Shelf.Strings.SlTrimAscii
import Derived.Lib.ItoaNum
import Derived.Lib.Bytealg
import Derived.Lib.AtoiAll
set_option linter.unusedVariables false
set_option linter.unusedSimpArgs false
namespace Go.Eng
open Go.RowKit

section
variable {c : Cx} {B : Exit → Act → World → Prop} {k k' : List Fr} {m : Md} {s s' : XS} {O : Prop} {E : List Ck} {all : Array Oper} {rest : List Oper} {d : Nat} {ty : TypeId} {ps : String} {af : Array Edge}
/-- Something more is known. -/
theorem xknow (kk : Nat) (K : Kn) (h : ∀ w M, XOk c s.F s.H w M → K.ok M) (hn : XG c B k m ⟨(kk, K) :: s.F, s.H, s.L⟩) : XG c B k m s := fun a w ⟨h1, M, h2⟩ => hn a w ⟨h1, M, h2.st, fcons (h w M h2) h2.f, h2.le⟩
/-- A slot's value, as a row that is known. -/
theorem xtag (t kk : Nat) {v : Value} {g : Gd} (hl : xlook s.L t = some (g, .v v)) (hn : XG c B k m ⟨s.F, s.H, (t, g, .sl kk v) :: s.L⟩) : XG c B k m s := fun a w ⟨h1, M, h2⟩ => hn a w ⟨⟨h1.size, h1.dfr, fun t' g' v' ht => by
  have ht' : look ((t, g.d, v) :: s.L.d) t' = some (g', v') := ht
  by_cases he : t = t'
  · subst he; rw [look_cons_eq] at ht'; cases ht'; exact h1.val _ _ _ (xlook_d hl)
  · rw [look_cons_ne he] at ht'; exact h1.val _ _ _ ht'⟩, M, h2⟩
/-- Any step of the older kind. -/
theorem xop {l : List Oper} (h : run c.T c.N k m s = ⟨k', .ops all l, s', O, E⟩) (hE : EOk E) (hO : O) (hn : ∀ w M, XOk c s'.F s'.H w M → RL c.P all (post c B k') c.N l s'.L.d w) : XG c B k m s :=
  run_ok h hE hO fun a w ⟨h1, M, h2⟩ => hn w M h2 a h1
theorem xback {F : List (Nat × Kn)} {H : List (Nat × HX)} {L : XE} {L' : Env} {l : List Oper} {w : World} {M : Mem} (h : XG c B k (.ops all l) ⟨F, H, L⟩) (hX : XOk c F H w M) (hL : L.d = L') : RL c.P all (post c B k) c.N l L' w :=
  fun a hs => h a w ⟨by rw [hL]; exact hs, M, hX⟩
/-- A new variable. -/
theorem xalloc (kk : Nat) {t : TypeId} {z : Value} {cs : List XV} (h : run c.T c.N k m s = ⟨k', .ops all (⟨some d, .alloc t, ty, ps, af, none⟩ :: rest), s', O, E⟩) (hE : EOk E) (hO : O) (hz : ∀ w, (zeroValue t).run c.P w = .ok z w) (hd : (Nat.blt d c.N, agv z.cells.toList) = (true, some cs))
    (hn : ∀ b, XG c B k' (.ops all rest) ⟨s'.F, (kk, .box b cs t) :: s'.H, (d, .t, .bx kk b 0) :: s'.L⟩) : XG c B k m s := by
  simp only [Prod.mk.injEq] at hd
  refine xop h hE hO fun w M hX => RL.alloc hX.st hz hd.1 fun w' b hS => xback (hn b) ⟨?_, hX.f, hX.le⟩ rfl
  show St _ _ _ _ (.box b (cs.map XV.d0) t :: (HD s'.H ++ c.Hr))
  rw [agv_eq _ _ hd.2]; exact hS
def opdsP (L : XE) : List (Nat × Operand) → Option (List (Nat × XV) × List Ck)
  | [] => some ([], [])
  | (i, x) :: xs => match opd L .t x with
    | some (v, E) => match opdsP L xs with
      | some (vs, E') => some ((i, v) :: vs, E ++ E')
      | none => none
    | none => none
theorem opdsP_d {L : XE} : ∀ {xs : List (Nat × Operand)} {vs : List (Nat × XV)} {E : List Ck}, opdsP L xs = some (vs, E) → EOk E → Parts L.d true xs (vs.map fun x => (x.1, x.2.d))
  | [], vs, E, h, _ => by simp only [opdsP, Option.some.injEq, Prod.mk.injEq] at h; obtain ⟨rfl, rfl⟩ := h; exact .nil
  | (i, x) :: xs, vs, E, h, hE => by
    unfold opdsP at h
    split at h
    · rename_i v E1 h1
      split at h
      · rename_i vs' E2 h2
        simp only [Option.some.injEq, Prod.mk.injEq] at h; obtain ⟨rfl, rfl⟩ := h
        exact .cons (opd_d h1 hE.app.1) (opdsP_d h2 hE.app.2)
      · cases h
    · cases h
/-- A slice's literal: a row of one's own. -/
theorem xlit {α : Type} [Inhabited α] (kk : Nat) (l : List α) (f : α → List Value) (sz : Nat) (e : TypeId) {t : TypeId} {n : Nat} {xs : List (Nat × Operand)} {vs : List (Nat × XV)} {E1 : List Ck} (hf : ∀ x, (f x).length = sz) (h : run c.T c.N k m s = ⟨k', .ops all (⟨some d, .buildSlice t n ⟨xs⟩, ty, ps, af, none⟩ :: rest), s', O, E⟩) (hE : EOk E) (hO : O)
    (hx : opdsP s'.L xs = some (vs, E1)) (hE1 : EOk E1) (hr : ∀ w, (Instr.buildSlice t n (vs.map fun x => (x.1, x.2.d)).toArray).run c.P w = .ok (.slice (some ⟨w.heap.size, 0, none⟩) n n) (w.alloc (.cells (l.flatMap f).toArray e))) (hd : (Nat.blt d c.N, Nat.beq l.length n, Nat.ble n 9223372036854775807) = (true, true, true))
    (hn : ∀ v, XG c B k' (.ops all rest) ⟨(kk, kn v sz l f) :: s'.F, (kk, .ho (.own e sz v l.length (l.flatMap f))) :: s'.H, (d, .t, .sl kk v) :: s'.L⟩) : XG c B k m s := by
  simp only [Prod.mk.injEq] at hd
  have hln := Nat.eq_of_beq_eq_true hd.2.1
  subst hln
  refine xop h hE hO fun w M hX => ?_
  have e1 : (⟨xs⟩ : Array (Nat × Operand)) = xs.toArray := rfl
  rw [e1]
  refine RL.buildSlice (cs := l.flatMap f) hX.st (opdsP_d hx hE1) (flat_len f sz hf l) hd.2.2 hr hd.1 fun v w' M' hS hle => xback (hn v) ⟨hS, fcons ⟨hS.sl (i := 0) rfl, hf, trivial⟩ fun x hx => (hX.f x hx).mono hle, hX.le.trans hle⟩ rfl
/-- Append, to a row of one's own. -/
theorem xapp (by' : Nat) {α : Type} [inh : Inhabited α] {l mm : List α} {f : α → List Value} {t e : TypeId} {x y : Operand} {i : TypeInfo} {z v vx : Value} {kk kx sz : Nat} {E1 : List Ck} {g1 g2 : Mem → Prop} {hg1 : ∀ M M', M.le M' → g1 M → g1 M'} {hg2 : ∀ M M', M.le M' → g2 M → g2 M'}
    (h : run c.T c.N k m s = ⟨k', .ops all (⟨some d, .call ⟨.builtin .append, #[x, y], #[t, t]⟩, ty, ps, af, none⟩ :: rest), s', O, E⟩) (hE : EOk E) (hO : O) (hx : opd2 s'.L .t x y = some (.sl kk v, .sl kx vx, E1)) (hE1 : EOk E1)
    (hk : (klook s'.F kk, klook s'.F kx, hlook s'.H kk) = (some (@Kn.mk α inh v sz l f g1 hg1), some (@Kn.mk α inh vx sz mm f g2 hg2), some (.ho (.own e sz v l.length (l.flatMap f)))))
    (ht : c.P.underlying t = some (.slice e)) (hi : c.P.info? e = some i) (hz : i.zero = some z) (hs : (i.size, z.cells.size, i.bytes, Nat.blt 0 by', Nat.blt d c.N) = (sz, sz, by', true, true)) (h1 : ∀ x, ∀ u ∈ f x, u.oneCell' = true) (hb : (len l + len mm) * by' ≤ 140737488355328)
    (hn : ∀ v', XG c B k' (.ops all rest) ⟨(kk, kn v' sz (l ++ mm) f) :: s'.F, hset s'.H kk (.ho (.own e sz v' (l ++ mm).length ((l ++ mm).flatMap f))), (d, .t, .sl kk v') :: s'.L⟩) : XG c B k m s := by
  simp only [Prod.mk.injEq] at hk hs
  obtain ⟨hk1, hk2, hk3⟩ := hk
  refine xop h hE hO fun w M hX => ?_
  obtain ⟨j, hj, hset'⟩ := hd_get (Hr := c.Hr) hk3
  obtain ⟨hx1, hx2⟩ := opd2_d hx hE1
  refine RL.appendL (f := f) (l := l) (m := mm) (by' := by') hX.st hj hx1 hx2 (hX.f.get hk2).sl ht hi hz hs.1 hs.2.1 h1 hs.2.2.1 hs.2.2.2.1 hb hs.2.2.2.2 (Hs' := fun v' => HD (hset s'.H kk (.ho (.own e sz v' (l ++ mm).length ((l ++ mm).flatMap f)))) ++ c.Hr) (fun v' => (hset' (.ho (.own e sz v' (l ++ mm).length ((l ++ mm).flatMap f)))).symm) fun v' w' M' hS hle => ?_
  refine xback (hn v') ⟨hS, fcons ⟨?_, (hX.f.get hk1).sz, trivial⟩ fun x hx => (hX.f x hx).mono hle, hX.le.trans hle⟩ rfl
  have h5 : (HD (hset s'.H kk (.ho (.own e sz v' (l ++ mm).length ((l ++ mm).flatMap f)))) ++ c.Hr)[j]? = some (.own e sz v' (l ++ mm).length ((l ++ mm).flatMap f)) := by
    rw [hset']; rw [List.getElem?_set_self (List.getElem?_eq_some_iff.1 hj).1]; rfl
  exact hS.sl h5
/-- A row of one's own that nobody else knows of: a literal; .. -/
theorem xlitP {α : Type} [inh : Inhabited α] (kk : Nat) (l : List α) (f : α → List Value) (sz : Nat) (e : TypeId) {t : TypeId} {n : Nat} {xs : List (Nat × Operand)} {vs : List (Nat × XV)} {E1 : List Ck} (hf : ∀ x, (f x).length = sz) (h : run c.T c.N k m s = ⟨k', .ops all (⟨some d, .buildSlice t n ⟨xs⟩, ty, ps, af, none⟩ :: rest), s', O, E⟩) (hE : EOk E) (hO : O)
    (hx : opdsP s'.L xs = some (vs, E1)) (hE1 : EOk E1) (hr : ∀ w, (Instr.buildSlice t n (vs.map fun x => (x.1, x.2.d)).toArray).run c.P w = .ok (.slice (some ⟨w.heap.size, 0, none⟩) n n) (w.alloc (.cells (l.flatMap f).toArray e))) (hd : (Nat.blt d c.N, Nat.beq l.length n, Nat.ble n 9223372036854775807) = (true, true, true))
    (hn : ∀ v, XG c B k' (.ops all rest) ⟨s'.F, (kk, .pv e (@kn α inh v sz l f) hf) :: s'.H, (d, .t, .sl kk v) :: s'.L⟩) : XG c B k m s := by
  simp only [Prod.mk.injEq] at hd
  have hln := Nat.eq_of_beq_eq_true hd.2.1
  subst hln
  refine xop h hE hO fun w M hX => ?_
  have e1 : (⟨xs⟩ : Array (Nat × Operand)) = xs.toArray := rfl
  rw [e1]
  exact RL.buildSliceP (cs := l.flatMap f) hX.st (opdsP_d hx hE1) (flat_len f sz hf l) hd.2.2 hr hd.1 fun v w' hS => xback (hn v) ⟨hS, hX.f, hX.le⟩ rfl
/-- .. appended to; .. -/
theorem xappP (by' : Nat) {α : Type} [inh : Inhabited α] {l mm : List α} {f : α → List Value} {t e : TypeId} {x y : Operand} {i : TypeInfo} {z v vx : Value} {kk kx sz : Nat} {E1 : List Ck} {hf : ∀ x, (f x).length = sz} {g2 : Mem → Prop} {hg2 : ∀ M M', M.le M' → g2 M → g2 M'}
    (h : run c.T c.N k m s = ⟨k', .ops all (⟨some d, .call ⟨.builtin .append, #[x, y], #[t, t]⟩, ty, ps, af, none⟩ :: rest), s', O, E⟩) (hE : EOk E) (hO : O) (hx : opd2 s'.L .t x y = some (.sl kk v, .sl kx vx, E1)) (hE1 : EOk E1)
    (hk : (klook s'.F kx, hlook s'.H kk) = (some (@Kn.mk α inh vx sz mm f g2 hg2), some (.pv e (@kn α inh v sz l f) hf)))
    (ht : c.P.underlying t = some (.slice e)) (hi : c.P.info? e = some i) (hz : i.zero = some z) (hs : (i.size, z.cells.size, i.bytes, Nat.blt 0 by', Nat.blt d c.N) = (sz, sz, by', true, true)) (h1 : ∀ x, ∀ u ∈ f x, u.oneCell' = true) (hb : (len l + len mm) * by' ≤ 140737488355328)
    (hn : ∀ v', XG c B k' (.ops all rest) ⟨s'.F, hset s'.H kk (.pv e (@kn α inh v' sz (l ++ mm) f) hf), (d, .t, .sl kk v') :: s'.L⟩) : XG c B k m s := by
  simp only [Prod.mk.injEq] at hs hk
  refine xop h hE hO fun w M hX => ?_
  obtain ⟨j, hj, hset'⟩ := hd_get (Hr := c.Hr) hk.2
  obtain ⟨hx1, hx2⟩ := opd2_d hx hE1
  exact RL.appendLP (f := f) (l := l) (m := mm) (by' := by') hX.st hj hx1 hx2 (hX.f.get hk.1).sl ht hi hz hs.1 hs.2.1 h1 hs.2.2.1 hs.2.2.2.1 hb hs.2.2.2.2 (Hs' := fun v' => HD (hset s'.H kk (.pv e (@kn α inh v' sz (l ++ mm) f) hf)) ++ c.Hr) (fun v' => (hset' (.pv e (@kn α inh v' sz (l ++ mm) f) hf)).symm) fun v' w' hS => xback (hn v') ⟨hS, hX.f, hX.le⟩ rfl
/-- .. told of; .. -/
theorem xtell {α : Type} [inh : Inhabited α] (kk : Nat) {e : TypeId} {v : Value} {sz : Nat} {l : List α} {f : α → List Value} {hl : ∀ x, (f x).length = sz} {H' : List (Nat × HX)} (hk : htake s.H kk = some (.pv e (@kn α inh v sz l f) hl, H')) (hn : XG c B k m ⟨(kk, @kn α inh v sz l f) :: s.F, H', s.L⟩) : XG c B k m s := by
  intro a w ⟨h1, M, h2⟩
  have hS := h2.st.perm (Hs' := HX.d (.pv e (@kn α inh v sz l f) hl) :: (HD H' ++ c.Hr)) (by have := (htake_ok hk).append_right c.Hr; exact this)
  have hi : (HX.d (.pv e (@kn α inh v sz l f) hl) :: (HD H' ++ c.Hr))[0]? = some (.priv e sz v l.length (l.flatMap f)) := rfl
  obtain ⟨M', hS', hle⟩ := hS.show hi
  refine hn a w ⟨h1, M', hS'.erase 0 rfl, fcons ⟨hS'.sl (i := 0) rfl, hl, trivial⟩ fun x hx => (h2.f x hx).mono hle, h2.le.trans hle⟩
/-- .. written: a thing of it is another one. -/
theorem xset {α : Type} [inh : Inhabited α] (y' : α) {l : List α} {f : α → List Value} {t e : TypeId} {x y : Operand} {v : Value} {kk sz j n : Nat} {i : Int} {E1 : List Ck} {u : XV} {hf : ∀ x, (f x).length = sz}
    (h : run c.T c.N k m s = ⟨k', .ops all (⟨none, .store t x y, ty, ps, af, none⟩ :: rest), s', O, E⟩) (hE : EOk E) (hO : O) (hx : opd2 s'.L .t x y = some (.el kk v sz i j, u, E1)) (hE1 : EOk E1) (hk : hlook s'.H kk = some (.pv e (@kn α inh v sz l f) hf))
    (ht : ∀ w, (sizeOf t).run c.P w = .ok n w) (hu : u.d.cells.toList.length = n) (hc : (Nat.blt 0 n, Nat.ble (j + n) sz, u.d.cells.toList.all (·.oneCell')) = (true, true, true)) (hy : splice (f (at' l i)) j u.d.cells.toList = f y') (hr : 0 ≤ i ∧ i < len l)
    (hn : ∀ l', l' = l.set i.toNat y' → XG c B k' (.ops all rest) ⟨s'.F, hset s'.H kk (.pv e (@kn α inh v sz l' f) hf), s'.L⟩) : XG c B k m s := by
  simp only [Prod.mk.injEq] at hc
  refine xop h hE hO fun w M hX => ?_
  obtain ⟨q, hq, hset'⟩ := hd_get (Hr := c.Hr) hk
  obtain ⟨hx1, hx2⟩ := opd2_d hx hE1
  obtain ⟨hlt, _⟩ := at'_eq l hr.1 hr.2
  have hjn := Nat.le_of_ble_eq_true hc.2.1
  have hfit : i.toNat * sz + j + n ≤ (l.flatMap f).length := by
    rw [flat_len f sz hf]
    have := Nat.mul_le_mul_right sz (show i.toNat + 1 ≤ l.length from hlt)
    rw [Nat.add_mul] at this; omega
  refine RL.storeP (P := c.P) (o := i.toNat * sz + j) (xs' := (l.set i.toNat y').flatMap f) (Hs' := HD (hset s'.H kk (.pv e (@kn α inh v sz (l.set i.toNat y') f) hf)) ++ c.Hr) hX.st hq (by have := hx1; simp only [XV.d, XV.d1, XV.d0, Nat.add_assoc] at this ⊢; exact this) hx2 ht hu hc.1 hfit hc.2.2 (splice_set hf l i.toNat y' j _ hlt hy (by rw [hu]; exact hjn)) ?_ fun w' hS => xback (hn _ rfl) ⟨hS, hX.f, hX.le⟩ rfl
  rw [hset']
  show (HD s'.H ++ c.Hr).set q (.priv e sz v l.length ((l.set i.toNat y').flatMap f)) = (HD s'.H ++ c.Hr).set q (.priv e sz v (l.set i.toNat y').length ((l.set i.toNat y').flatMap f))
  rw [List.length_set]
end
end Go.Eng
namespace Go.Eng
open Go.RowKit

/-- How a call ends that hands back what may lie in memory: what (of a ghost), what holds of it, the rows that it tells of. -/
def MRet {γ : Type} (w : World) (M : Mem) (u : γ → Value) (pu : γ → Prop) (Fg : γ → List (Nat × Kn)) : Ending → World → Prop :=
  fun e w' => ∃ g M', e = .returned (u g) ∧ pu g ∧ Grow w M w' M' ∧ FOk M' (Fg g)
/-- .. that changes what it is handed. -/
def ORet {γ : Type} (w0 : World) (M0 M : Mem) (Rs : List HO) (u : γ → Value) (pu : γ → Prop) (Fg : γ → List (Nat × Kn)) (Hg : γ → List HO) : Ending → World → Prop :=
  fun e w' => ∃ g M', e = .returned (u g) ∧ pu g ∧ M.le M' ∧ St w0 M0 w' M' (Hg g ++ Rs) ∧ FOk M' (Fg g)
/-- The rows under other numbers. -/
def fnum : List Nat → List (Nat × Kn) → List (Nat × Kn)
  | k :: ks, (_, x) :: F => (k, x) :: fnum ks F
  | _, _ => []
theorem fnum_ok {M : Mem} : ∀ {ks : List Nat} {F : List (Nat × Kn)}, FOk M F → FOk M (fnum ks F)
  | [], _, _ => fun x hx => by cases hx
  | _ :: _, [], _ => fun x hx => by cases hx
  | k :: ks, (i, x) :: F, h => fun y hy => by
    rcases List.mem_cons.1 hy with rfl | hy
    · exact h (i, x) (.head _)
    · exact fnum_ok (fun z hz => h z (.tail _ hz)) y hy
theorem FOk.app {M : Mem} {F G : List (Nat × Kn)} (h : FOk M F) (k : FOk M G) : FOk M (F ++ G) := fun x hx => by
  rcases List.mem_append.1 hx with hx | hx
  · exact h x hx
  · exact k x hx
theorem FOk.mono {M M' : Mem} {F : List (Nat × Kn)} (h : FOk M F) (hm : M.le M') : FOk M' F := fun x hx => (h x hx).mono hm
/-- These things of one's own taken out, in this order; the others. -/
def hsel : List Nat → List (Nat × HX) → Option (List (Nat × HX) × List (Nat × HX))
  | [], H => some ([], H)
  | k :: ks, H => match htake H k with
    | some (x, H') => match hsel ks H' with
      | some (A, R) => some ((k, x) :: A, R)
      | none => none
    | none => none
theorem hsel_ok : ∀ {ks : List Nat} {H A R : List (Nat × HX)}, hsel ks H = some (A, R) → (HD A ++ HD R).Perm (HD H)
  | [], H, A, R, h => by simp only [hsel, Option.some.injEq, Prod.mk.injEq] at h; obtain ⟨rfl, rfl⟩ := h; exact .refl _
  | k :: ks, H, A, R, h => by
    unfold hsel at h
    split at h
    · rename_i x H' h1
      split at h
      · rename_i A' R' h2
        simp only [Option.some.injEq, Prod.mk.injEq] at h; obtain ⟨rfl, rfl⟩ := h
        exact ((hsel_ok h2).cons x.d).trans (htake_ok h1)
      · cases h
    · cases h
/-- The slots, with a result in its own. -/
def putX (dd : Option Tmp) (v : XV) (L : XE) : XE := match dd with
  | some d => (d, .t, v) :: L
  | none => L
def fitX (dd : Option Tmp) (N : Nat) : Bool := match dd with
  | some d => Nat.blt d N
  | none => true
section
variable {c : Cx} {B : Exit → Act → World → Prop} {k k' : List Fr} {m : Md} {s s' : XS} {O : Prop} {E : List Ck} {all : Array Oper} {rest : List Oper} {d : Nat} {ty : TypeId} {ps : String} {af : Array Edge}
/-- A row that is known. -/
theorem XOk.sl {F : List (Nat × Kn)} {H : List (Nat × HX)} {w : World} {M : Mem} (h : XOk c F H w M) (k : Nat) {α : Type} {inh : Inhabited α} {v : Value} {sz : Nat} {l : List α} {f : α → List Value} {g : Mem → Prop} {hg : ∀ M M', M.le M' → g M → g M'} (hk : klook F k = some (@Kn.mk α inh v sz l f g hg)) : Sl M sz l.length v (l.flatMap f) := (h.f.get hk).sl
/-- The function that is called, and what it is handed: known or a closure. -/
def callee (L : XE) : Operand → Option (FuncId × List Value × List Value × List Ck)
  | .func f => some (f, [], [], [])
  | x => match opd L .t x with
    | some (.v (.func (.func f) ⟨a⟩ ⟨b⟩), E) => some (f, a, b, E)
    | _ => none
theorem call_any {P : Program} {ops : Array Oper} {Q : Exit → Act → World → Prop} {N : Nat} {L : XE} {w : World} {xf : Operand} {f : FuncId} {a b : List Value} {E1 : List Ck} {xs : List Operand} {vs : List Value} {tys : Array TypeId} {R : Ending → World → Prop} {dd : Option Tmp}
    (ct : CT P f) (hf : callee L xf = some (f, a, b, E1)) (hE1 : EOk E1) (hx : Opds L.d true xs vs) (hc : Calls P f (a ++ vs ++ b).toArray w R)
    (hr : ∀ v w', R (.returned v) w' → ∀ ac, Slots ac N L.d → wpList P ops Q rest (ac.put dd v) w') (hp : ∀ ch w', R (.panicked ch) w' → ∀ ac, Slots ac N L.d → Q (.panic ch) ac w') (ho : ∀ w', ¬ R .outgrown w') :
    RL P ops Q N (⟨dd, .call ⟨.value xf, ⟨xs⟩, tys⟩, ty, ps, af, none⟩ :: rest) L.d w := by
  intro ac hs
  refine wpList_plain rfl fun K hK => ?_
  have key : (execOp ac.eval ⟨dd, .call ⟨.value xf, ⟨xs⟩, tys⟩, ty, ps, af, none⟩).run P w = .ok (.enter f (a ++ vs ++ b).toArray) w := by
    have e1 : (⟨xs⟩ : Array Operand) = xs.toArray := rfl
    rw [e1]
    cases xf with
    | func f' =>
      simp only [callee, Option.some.injEq, Prod.mk.injEq] at hf
      obtain ⟨rfl, rfl, rfl, rfl⟩ := hf
      simpa using call_run ct hx hs rfl
    | tmp t =>
      simp only [callee] at hf
      split at hf
      · rename_i f' a' b' E' h1
        simp only [Option.some.injEq, Prod.mk.injEq] at hf
        obtain ⟨rfl, rfl, rfl, rfl⟩ := hf
        exact clo_run (fs := a') (cs := b') ct (opd_d h1 hE1) hx hs rfl
      · cases hf
    | const v =>
      simp only [callee] at hf
      split at hf
      · rename_i f' a' b' E' h1
        simp only [Option.some.injEq, Prod.mk.injEq] at hf
        obtain ⟨rfl, rfl, rfl, rfl⟩ := hf
        exact clo_run (fs := a') (cs := b') ct (opd_d h1 hE1) hx hs rfl
      · cases hf
    | global g =>
      simp only [callee] at hf
      split at hf
      · rename_i f' a' b' E' h1
        simp only [Option.some.injEq, Prod.mk.injEq] at hf
        obtain ⟨rfl, rfl, rfl, rfl⟩ := hf
        exact clo_run (fs := a') (cs := b') ct (opd_d h1 hE1) hx hs rfl
      · cases hf
  simp only [Oper.wp, key, Oper.upon_enter]
  refine hc.mono fun e w' he => ?_
  cases e with
  | returned v => exact hK _ _ (hr v w' he ac hs)
  | panicked ch => exact hp ch w' he ac hs
  | outgrown => exact absurd he (ho w')
theorem put_slot {N : Nat} {L : XE} {a : Act} (hs : Slots a N L.d) {d : Nat} (hd : Nat.blt d N = true) (v : XV) : Slots (a.put (some d) v.d) N (XE.d ((d, .t, v) :: L)) := hs.put hd true v.d
/-- A call that hands back what may lie in memory. -/
theorem xcallM {γ : Type} (ux : γ → XV) (ks : List Nat) {u : γ → Value} {pu : γ → Prop} {Fg : γ → List (Nat × Kn)} {xf : Operand} {f : FuncId} {fa fb : List Value} {E1 E2 : List Ck} {xs : List Operand} {tys : Array TypeId} {vs : List XV}
    (h : run c.T c.N k m s = ⟨k', .ops all (⟨some d, .call ⟨.value xf, ⟨xs⟩, tys⟩, ty, ps, af, none⟩ :: rest), s', O, E⟩) (hE : EOk E) (hO : O) (hf : callee s'.L xf = some (f, fa, fb, E1)) (ct : CT c.P f) (hd : Nat.blt d c.N = true) (hx : opds s'.L .t xs = some (vs, E2)) (hE1 : EOk (E1 ++ E2))
    (hc : ∀ w M, XOk c s'.F s'.H w M → Calls c.P f (fa ++ vs.map XV.d ++ fb).toArray w (MRet w M u pu Fg)) (hu : ∀ g, (ux g).d = u g)
    (hn : ∀ g, pu g → XG c B k' (.ops all rest) ⟨fnum ks (Fg g) ++ s'.F, s'.H, (d, .t, ux g) :: s'.L⟩) : XG c B k m s := by
  refine xop h hE hO fun w M hX => ?_
  refine call_any ct hf hE1.app.1 (opds_d hx hE1.app.2) (hc w M hX) ?_ (fun ch w' hr => ?_) (fun w' hr => ?_)
  · rintro v w' ⟨g, M', he, hp, hg, hF⟩ ac hs
    cases he
    have := put_slot hs hd (ux g)
    rw [hu] at this
    exact hn g hp _ w' ⟨this, M', hX.st.grow hg, (fnum_ok hF).app (hX.f.mono (hg.le hX.st.sat)), hX.le.trans (hg.le hX.st.sat)⟩
  · obtain ⟨g, M', he, _⟩ := hr; cases he
  · obtain ⟨g, M', he, _⟩ := hr; cases he
/-- .. that changes what it is handed (ids: which, in which order; new numbers and forms of them). -/
theorem xcallO {γ : Type} (ids : List Nat) (ux : γ → XV) (ks : List Nat) (Hx : γ → List (Nat × HX)) {u : γ → Value} {pu : γ → Prop} {Fg : γ → List (Nat × Kn)} {Hg : γ → List HO} {xf : Operand} {f : FuncId} {fa fb : List Value} {E1 E2 : List Ck} {xs : List Operand} {tys : Array TypeId} {vs : List XV} {A R : List (Nat × HX)} {dd : Option Tmp}
    (h : run c.T c.N k m s = ⟨k', .ops all (⟨dd, .call ⟨.value xf, ⟨xs⟩, tys⟩, ty, ps, af, none⟩ :: rest), s', O, E⟩) (hE : EOk E) (hO : O) (hf : callee s'.L xf = some (f, fa, fb, E1)) (ct : CT c.P f) (hd : fitX dd c.N = true) (hx : opds s'.L .t xs = some (vs, E2)) (hE1 : EOk (E1 ++ E2))
    (hA : hsel ids s'.H = some (A, R)) (hc : ∀ w M, St c.w0 c.M0 w M (HD A ++ (HD R ++ c.Hr)) → FOk M s'.F → Calls c.P f (fa ++ vs.map XV.d ++ fb).toArray w (ORet c.w0 c.M0 M (HD R ++ c.Hr) u pu Fg Hg)) (hu : ∀ g, (ux g).d = u g) (hH : ∀ g, HD (Hx g) = Hg g)
    (hn : ∀ g, pu g → XG c B k' (.ops all rest) ⟨fnum ks (Fg g) ++ s'.F, Hx g ++ R, putX dd (ux g) s'.L⟩) : XG c B k m s := by
  refine xop h hE hO fun w M hX => ?_
  have hSt : St c.w0 c.M0 w M (HD A ++ (HD R ++ c.Hr)) := hX.st.perm (by rw [← List.append_assoc]; exact (hsel_ok hA).append_right _)
  refine call_any ct hf hE1.app.1 (opds_d hx hE1.app.2) (hc w M hSt hX.f) ?_ (fun ch w' hr => ?_) (fun w' hr => ?_)
  · rintro v w' ⟨g, M', he, hp, hle, hS, hF⟩ ac hs
    cases he
    have hs2 : Slots (ac.put dd (u g)) c.N (XE.d (putX dd (ux g) s'.L)) := by
      cases dd with
      | some d => have := put_slot hs hd (ux g); rw [hu] at this; exact this
      | none => exact hs
    refine hn g hp _ w' ⟨hs2, M', ?_, (fnum_ok hF).app (hX.f.mono hle), hX.le.trans hle⟩
    have e : HD (Hx g ++ R) ++ c.Hr = Hg g ++ (HD R ++ c.Hr) := by rw [← hH]; unfold HD; rw [List.map_append, List.append_assoc]
    rw [e]; exact hS
  · obtain ⟨g, M', he, _⟩ := hr; cases he
  · obtain ⟨g, M', he, _⟩ := hr; cases he
/-- An operation under a guard: either way. -/
theorem RL.splitV {P : Program} {all : Array Oper} {Q : Exit → Act → World → Prop} {N : Nat} {L : Env} {w : World} {rest : List Oper} {d : Nat} {ty : TypeId} {ps : String} {af : Array Edge} {op : Op} {gd : Option (Nat × Bool)} {W : Bool} (vd : Value) (hw : Wants all L gd W) (hd : Nat.blt d N = true)
    (h1 : W = true → RL P all Q N (⟨some d, op, ty, ps, af, none⟩ :: rest) L w) (h2 : W = false → RL P all Q N rest ((d, false, vd) :: L) w) : RL P all Q N (⟨some d, op, ty, ps, af, gd⟩ :: rest) L w :=
  RL.split hw hd h1 fun h a hs => h2 h a ⟨hs.size, hs.dfr, fun t g v ht => by
    by_cases e : d = t
    · subst e
      have e1 : look ((d, false, vd) :: L) d = some (false, vd) := by simp [look]
      rw [e1] at ht; cases ht
      have := hs.val d false (.bool false) (by simp [look])
      exact this
    · have e2 : Nat.beq d t = false := Bool.eq_false_iff.2 fun h => e (Nat.eq_of_beq_eq_true h)
      refine hs.val t g v ?_
      unfold look at ht ⊢
      rw [e2] at ht ⊢; exact ht⟩
theorem eok1 {b : Bool} (hb : b = true) {E : List Ck} (h : E = [.b true b]) : EOk E := by
  subst h; intro c hc; rw [List.mem_singleton.1 hc]; exact fun _ => hb
theorem xsplit (vd : XV) {op : Op} {gd : Option (Nat × Bool)} {b : Bool} (h : run c.T c.N k m s = ⟨k', .ops all (⟨some d, op, ty, ps, af, gd⟩ :: rest), s', O, E⟩) (hE : EOk E) (hO : O) (hg : (gdOf all s'.L gd, Nat.blt d c.N) = (some (.g b), true))
    (h1 : b = true → XG c B k' (.ops all (⟨some d, op, ty, ps, af, none⟩ :: rest)) s') (h2 : b = false → XG c B k' (.ops all rest) ⟨s'.F, s'.H, (d, .g b, vd) :: s'.L⟩) : XG c B k m s := by
  simp only [Prod.mk.injEq] at hg
  refine xop h hE hO fun w M hX => RL.splitV vd.d (gdOf_ok hg.1) hg.2 (fun hb a hs => h1 hb a w ⟨hs, M, hX⟩) fun hb a hs => h2 hb a w ⟨?_, M, hX⟩
  have hb' : b = false := hb
  subst hb'
  exact hs
/-- What a call hands back, as it is known: slots, or boxes' cells. -/
def resX (T : TT) (H : List (Nat × HX)) (L : XE) : List ResultVar → Option (List XV × List Ck)
  | [] => some ([], [])
  | r :: rs => match resX T H L rs with
    | some (vs, E) => match r with
      | .tmp t => match xlook L t with
        | some (.t, v) => some (v :: vs, E)
        | _ => none
      | .cell t ty => match xlook L t with
        | some (.t, .bx k b o) => match loadV T [] H ty (.bx k b o) with
          | some (v, [], E') => some (v :: vs, E' ++ E)
          | _ => none
        | _ => none
    | none => none
def valX : List XV → Value
  | [v] => v.d
  | vs => .tuple (vs.map XV.d).toArray
theorem resX_ok {P : Program} {T : TT} (hT : TOk P T) {H : List (Nat × HX)} {Hr : List HO} {w0 w : World} {M0 M : Mem} {L : XE} {a : Act} {N : Nat} (hS : St w0 M0 w M (HD H ++ Hr)) (hs : Slots a N L.d) : ∀ {rs : List ResultVar} {vs : List XV} {E : List Ck}, resX T H L rs = some (vs, E) → EOk E → (rs.mapM (resOf a.tmps)).run P w = .ok (vs.map XV.d) w
  | [], vs, E, h, _ => by simp only [resX, Option.some.injEq, Prod.mk.injEq] at h; obtain ⟨rfl, rfl⟩ := h; rfl
  | r :: rs, vs, E, h, hE => by
    unfold resX at h
    split at h
    · rename_i vs' E' h1
      have fin : ∀ (v : XV), (resOf a.tmps r).run P w = .ok v.d w → EOk E' → ((r :: rs).mapM (resOf a.tmps)).run P w = .ok ((v :: vs').map XV.d) w := fun v hv hE' => by
        simp only [List.mapM_cons, Sem.run_bind, hv, Result.andThen_ok, resX_ok hT hS hs h1 hE', Sem.run_pure, List.map_cons]
      split at h
      · split at h
        · rename_i t v hl
          simp only [Option.some.injEq, Prod.mk.injEq] at h; obtain ⟨rfl, rfl⟩ := h
          exact fin _ (by simp only [resOf, hs.get (xlook_d hl)]; rfl) hE
        · cases h
      · split at h
        · rename_i t ty x2 k b o hl
          split at h
          · rename_i v E2 h2
            simp only [Option.some.injEq, Prod.mk.injEq] at h; obtain ⟨rfl, rfl⟩ := h
            refine fin _ ?_ hE.app.2
            have hp : PV P (· = w) L.d true ⟨some 0, .load ty (.tmp t), 0, "", #[], none⟩ v.d := loadV_d (W := .t) (gd := none) hT (F := []) (Hr := Hr) fnil hS extEq h2 hE.app.1 (.t (xlook_d hl)) (fun _ => trivial)
            have h3 := hp a N hs rfl w rfl
            have h4 := hs.get (xlook_d hl)
            have h5 : a.tmps.getD t undef = .pointer (some ⟨b, o, none⟩) := h4
            have h6 : a.eval (.tmp t) = .pointer (some ⟨b, o, none⟩) := h5
            simp only [execOp, h6, Sem.run_bind, Instr.loadAt, Instr.sureAddr, Sem.run_pure, Result.andThen_ok] at h3
            simp only [resOf, h5, asAddr, Sem.run_bind, Sem.run_pure, Result.andThen_ok]
            cases hl2 : (loadVar ty ⟨b, o, none⟩).run P w with
            | ok x w' => rw [hl2] at h3; simp only [Result.andThen_ok, Result.ok.injEq, Next.value.injEq] at h3; obtain ⟨rfl, rfl⟩ := h3; rfl
            | halt x w' => rw [hl2] at h3; cases h3
          · cases h
        · cases h
    · cases h
/-- The end. -/
theorem xret {fn : Func} {R : Ending → World → Prop} {rs : List ResultVar} {vs : List XV} {E2 : List Ck} (hB : Ends c.P fn R B) (hr : fn.results = ⟨rs⟩) (h : run c.T c.N k m s = ⟨[], .ret, s', O, E⟩) (hE : EOk E) (hO : O) (hl : resX c.T s'.H s'.L rs = some (vs, E2)) (hE2 : EOk E2) (hR : ∀ w M, XOk c s'.F s'.H w M → R (.returned (valX vs)) w) : XG c B k m s :=
  run_ok h hE hO fun a w ⟨h1, M, h2⟩ => hB.all _ _ _ (bodyPost_ret (v := valX vs) (by
    rw [results_eq, hr]
    have h3 := resX_ok c.hT h2.st h1 hl hE2
    have h4 : ((⟨rs⟩ : Array ResultVar).mapM (resOf a.tmps)).run c.P w = .ok (vs.map XV.d).toArray w := by
      rw [Array.mapM_eq_mapM_toList]
      refine (Sem.run_bind' c.P _ _ w).trans ?_
      rw [h3]; rfl
    rw [Sem.run_bind, h4]
    simp only [Result.andThen_ok, Sem.run_pure]
    congr 1
    match vs with
    | [] => rfl
    | [v] => rfl
    | _ :: _ :: _ => simp [valX]) h1.dfr (hR w M h2))
/-- A row of so many zeros, of one's own. -/
theorem xmake {α : Type} [inh : Inhabited α] (kk : Nat) (z0 : α) (f : α → List Value) {t e : TypeId} {x y : Operand} {k1 k2 : IntKind} {n : Int} {i : TypeInfo} {z : Value} {sz : Nat} {E1 : List Ck} (hf : ∀ x, (f x).length = sz) (h : run c.T c.N k m s = ⟨k', .ops all (⟨some d, .makeSlice t x y, ty, ps, af, none⟩ :: rest), s', O, E⟩) (hE : EOk E) (hO : O)
    (hx : opd2 s'.L .t x y = some (.v (.int k1 n), .v (.int k2 n), E1)) (hE1 : EOk E1) (ht : c.P.underlying t = some (.slice e)) (hi : c.P.info? e = some i) (hz : i.zero = some z) (hs : (i.size, z.cells.toList, Nat.blt d c.N) = (sz, f z0, true)) (hsz : 0 < sz) (hn0 : 0 ≤ n) (hb : (i.bytes : Int) * n ≤ 281474976710656) (hn6 : n ≤ 9223372036854775807)
    (hn : ∀ v l, l = List.replicate n.toNat z0 → XG c B k' (.ops all rest) ⟨s'.F, (kk, .pv e (@kn α inh v sz l f) hf) :: s'.H, (d, .t, .sl kk v) :: s'.L⟩) : XG c B k m s := by
  simp only [Prod.mk.injEq] at hs
  obtain ⟨hs1, hs2, hd⟩ := hs
  refine xop h hE hO fun w M hX => ?_
  obtain ⟨hx1, hx2⟩ := opd2_d hx hE1
  intro a hsl
  refine wpList_plain rfl fun K hK => ?_
  have hr := run_make (P := c.P) w t e i z ht hi hz k1 k2 n n hn0 (Int.le_refl _) hb hn6
  have hcells : (madeCells z.cells (n.toNat * i.size)).toList = (List.replicate n.toNat z0).flatMap f := by
    have hzl : z.cells.size = sz := by rw [← Array.length_toList, hs2, hf]
    have hzc : z.cells = (f z0).toArray := by rw [← hs2]
    apply List.ext_getElem?
    intro q
    unfold madeCells
    rw [hs1]
    simp only [Array.toList_map, Array.toList_range, List.getElem?_map, hzl]
    by_cases hq : q < n.toNat * sz
    · have hdm := Nat.div_add_mod q sz
      have hmod := Nat.mod_lt q hsz
      have hdiv : q / sz < n.toNat := Nat.div_lt_of_lt_mul (by rw [Nat.mul_comm]; exact hq)
      have h1 := flat_get f sz hf (List.replicate n.toNat z0) (q / sz) (q % sz) (by simpa using hdiv) hmod
      rw [show q / sz * sz + q % sz = q by rw [Nat.mul_comm]; exact hdm] at h1
      rw [h1]
      have hlt : q % sz < (f z0).length := by rw [hf]; exact hmod
      simp [hq, hzc, hlt]
    · rw [List.getElem?_eq_none (by simp; omega), List.getElem?_eq_none (by rw [flat_len f sz hf]; simp; omega)]; rfl
  have key : (execOp a.eval ⟨some d, .makeSlice t x y, ty, ps, af, none⟩).run c.P w = .ok (.value (.slice (some ⟨w.heap.size, 0, none⟩) n.toNat n.toNat)) (w.alloc (.cells ((List.replicate n.toNat z0).flatMap f).toArray e)) := by
    simp only [execOp, hx1 a c.N hsl rfl, hx2 a c.N hsl rfl]
    rw [Sem.run_bind]
    have e1 : (Instr.makeSlice t (XV.v (.int k1 n)).d (XV.v (.int k2 n)).d).run c.P w = _ := hr
    rw [e1, ← hcells]; simp
  simp only [Oper.wp, key, Oper.upon_value]
  have hlen : ((List.replicate n.toNat z0).flatMap f).length = n.toNat * sz := by rw [flat_len f sz hf]; simp
  have hS := hX.st.newPriv e sz n.toNat ((List.replicate n.toNat z0).flatMap f) hlen (by simp only [maxLen]; omega)
  refine hK _ _ (hn (.slice (some ⟨w.heap.size, 0, none⟩) n.toNat n.toNat) _ rfl _ _ ⟨hsl.put hd true _, M, ?_, hX.f, hX.le⟩)
  show St _ _ _ _ (.priv e sz (.slice (some ⟨w.heap.size, 0, none⟩) n.toNat n.toNat) (List.replicate n.toNat z0).length _ :: (HD s'.H ++ c.Hr))
  rw [List.length_replicate]; exact hS
/-- A region that draws, all of it quiet. -/
def XQ (c : Cx) (B : Exit → Act → World → Prop) (k : List Fr) (all : Array Oper) (l : List Oper) (s : XS) : Prop := ∀ w M, XOk c s.F s.H w M → RQ c.P all (fun w' => Ext w w') c.N (fun a => ∀ w', St c.w0 c.M0 w' M (HD s.H ++ c.Hr) → post c B k .normal a w') l s.L.d
theorem xdraw {id : Nat} {l : List Oper} (h : run c.T c.N k m s = ⟨k', .code (.region id ⟨l⟩ true), s', O, E⟩) (hE : EOk E) (hO : O) (hm : c.P.follows .mixedOrders = true) (hB : Region.lexB .any l.toArray = true) (hn : XQ c B k' l.toArray l s') : XG c B k m s :=
  run_ok h hE hO fun a w ⟨h1, M, h2⟩ => CW.regionD h2.st hm hB (hn w M h2) a h1
structure QR : Type where
  l : List Oper
  L : XE
  O : Prop
  E : List Ck
def impQ (W : Gd) : List Prop → Prop → (Prop → QR) → QR
  | [], O, K => K O
  | p :: ps, O, K => match W with
    | .t => impQ W ps (p ∧ O) K
    | .g b => impQ W ps ((b = false ∨ p) ∧ O) K
theorem impQ_ok {W : Gd} {K : Prop → QR} : ∀ {ps : List Prop} {O : Prop}, ∃ O', impQ W ps O K = K O' ∧ (O' → (W.d = true → allP ps) ∧ O)
  | [], O => ⟨O, rfl, fun h => ⟨fun _ => trivial, h⟩⟩
  | p :: ps, O => by
    unfold impQ
    cases W with
    | t =>
      obtain ⟨O', h1, h2⟩ := impQ_ok (W := .t) (K := K) (ps := ps) (O := p ∧ O)
      exact ⟨O', h1, fun h => ⟨fun hW => ⟨(h2 h).2.1, (h2 h).1 hW⟩, (h2 h).2.2⟩⟩
    | g b =>
      obtain ⟨O', h1, h2⟩ := impQ_ok (W := .g b) (K := K) (ps := ps) (O := (b = false ∨ p) ∧ O)
      exact ⟨O', h1, fun h => ⟨fun hW => ⟨(h2 h).2.1.resolve_left (by rw [show b = true from hW]; decide), (h2 h).1 hW⟩, (h2 h).2.2⟩⟩
def qrun (T : TT) (N : Nat) (F : List (Nat × Kn)) (H : List (Nat × HX)) (all : Array Oper) : List Oper → XE → Prop → List Ck → QR
  | [], L, O, E => ⟨[], L, O, E⟩
  | ⟨dst, op, ty, ps, af, gd⟩ :: rest, L, O, E => match dst with
    | some d => match gdOf all L gd with
      | some W => match opV T F H L W op with
        | some (v, p, E') => match Nat.blt d N with
          | true => impQ W p O fun O' => qrun T N F H all rest ((d, W, v) :: L) O' (E' ++ E)
          | false => ⟨⟨dst, op, ty, ps, af, gd⟩ :: rest, L, O, E⟩
        | none => ⟨⟨dst, op, ty, ps, af, gd⟩ :: rest, L, O, E⟩
      | none => ⟨⟨dst, op, ty, ps, af, gd⟩ :: rest, L, O, E⟩
    | none => ⟨⟨dst, op, ty, ps, af, gd⟩ :: rest, L, O, E⟩
theorem qrun_ok {F : List (Nat × Kn)} {H : List (Nat × HX)} : ∀ {l : List Oper} {L : XE} {O : Prop} {E : List Ck}, let t := qrun c.T c.N F H all l L O E; t.O → EOk t.E → XQ c B k all t.l ⟨F, H, t.L⟩ → O ∧ EOk E ∧ XQ c B k all l ⟨F, H, L⟩
  | [], L, O, E => fun h1 h2 h3 => ⟨h1, h2, h3⟩
  | ⟨dst, op, ty, ps, af, gd⟩ :: rest, L, O, E => by
    intro t h1 h2 h3
    have ht : t = qrun c.T c.N F H all (⟨dst, op, ty, ps, af, gd⟩ :: rest) L O E := rfl
    unfold qrun at ht
    split at ht
    · rename_i d
      split at ht
      · rename_i W hW
        split at ht
        · rename_i v p E' hv
          split at ht
          · rename_i hd
            obtain ⟨O', hi, hO'⟩ := impQ_ok (W := W) (K := fun O' => qrun c.T c.N F H all rest ((d, W, v) :: L) O' (E' ++ E)) (ps := p) (O := O)
            rw [ht, hi] at h1 h2 h3
            obtain ⟨r1, r2, r3⟩ := qrun_ok h1 h2 h3
            obtain ⟨hp, hO2⟩ := hO' r1
            refine ⟨hO2, (EOk.app r2).2, fun w M hX => ?_⟩
            exact RQ.v (gdOf_ok hW) (opV_d c.hT hX.f hX.st (fun _ h => h) hv (EOk.app r2).1 hp) hd (r3 w M hX)
          · rw [ht] at h1 h2 h3; exact ⟨h1, h2, h3⟩
        · rw [ht] at h1 h2 h3; exact ⟨h1, h2, h3⟩
      · rw [ht] at h1 h2 h3; exact ⟨h1, h2, h3⟩
    · rw [ht] at h1 h2 h3; exact ⟨h1, h2, h3⟩
theorem xqend {l : List Oper} {F : List (Nat × Kn)} {H : List (Nat × HX)} {L L' : XE} (h : qrun c.T c.N F H all l L ((0 : Int) = 0) [] = ⟨[], L', O, E⟩) (hE : EOk E) (hO : O) (hn : XG c B k .next ⟨F, H, L'⟩) : XQ c B k all l ⟨F, H, L⟩ := by
  have := qrun_ok (c := c) (B := B) (k := k) (all := all) (F := F) (H := H) (l := l) (L := L) (O := (0 : Int) = 0) (E := [])
  rw [h] at this
  exact (this hO hE fun w M hX => RQ.nil fun a hs w' hS => hn a w' ⟨hs, M, hS, hX.f, hX.le⟩).2.2
theorem xqcall {l : List Oper} {F : List (Nat × Kn)} {H : List (Nat × HX)} {L L' : XE} {f : FuncId} {xs : List Operand} {tys : Array TypeId} {gd : Option (Nat × Bool)} {W : Gd} {vs : List XV} {E2 : List Ck} {u : Value} {v : XV}
    (h : qrun c.T c.N F H all l L ((0 : Int) = 0) [] = ⟨⟨some d, .call ⟨.value (.func f), ⟨xs⟩, tys⟩, ty, ps, af, gd⟩ :: rest, L', O, E⟩) (hE : EOk E) (hO : O) (ct : CT c.P f) (hg : (gdOf all L' gd, Nat.blt d c.N) = (some W, true)) (hx : opds L' W xs = some (vs, E2)) (hE2 : EOk E2)
    (hc : W.d = true → ∀ w M, XOk c F H w M → Calls c.P f (vs.map XV.d).toArray w (fun e w' => e = .returned u ∧ Ext w w')) (hv : vx u = some v) (hn : XQ c B k all rest ⟨F, H, (d, W, v) :: L'⟩) : XQ c B k all l ⟨F, H, L⟩ := by
  simp only [Prod.mk.injEq] at hg
  have := qrun_ok (c := c) (B := B) (k := k) (all := all) (F := F) (H := H) (l := l) (L := L) (O := (0 : Int) = 0) (E := [])
  rw [h] at this
  refine (this hO hE fun w M hX => ?_).2.2
  have h4 := hn w M hX
  have h5 : XE.d ((d, W, v) :: L') = (d, W.d, u) :: L'.d := by rw [← vx_d hv]; rfl
  have h6 : RQ c.P all (fun w' => Ext w w') c.N (fun a => ∀ w', St c.w0 c.M0 w' M (HD H ++ c.Hr) → post c B k .normal a w') rest ((d, W.d, u) :: L'.d) := h5 ▸ h4
  exact RQ.call (gdOf_ok hg.1) ct (opds_d hx hE2) (fun hW w1 hw1 => (hc hW w1 M ⟨hX.st.ext hw1, hX.f, hX.le⟩).mono fun e w' ⟨h1, h2⟩ => ⟨h1, hw1.trans h2⟩) hg.2 h6
end
end Go.Eng
namespace Go.Eng
open Go.RowKit

def isFigB (b : UInt8) : Bool := isFig (b.toNat : Int)
def zeros (n : Int) : Str := List.replicate n.toNat 48
/-- The place behind the figures from a place on. -/
def runTo (s : Str) (i : Int) : Int := i + len ((from' s i).takeWhile isFigB)
def dropZ (s : Str) : Str := s.dropWhile (([48] : Str).contains ·)
def trimZ (s : Str) : Str := Lib.trimRightS s [48]
def decVal (s : Str) : Int := s.foldl (fun n b => n * 10 + ((b.toNat : Int) - 48)) 0

theorem from_cons (s : Str) (i : Int) (h0 : 0 ≤ i) (h1 : i < len s) : ∃ b, from' s i = b :: from' s (i + 1) ∧ byteAt s i = (b.toNat : Int) := by
  have h : i.toNat < s.length := by unfold len at h1; omega
  refine ⟨s[i.toNat], ?_, by simp [byteAt, h]⟩
  unfold from'
  rw [show (i + 1).toNat = i.toNat + 1 from by omega]
  exact List.drop_eq_getElem_cons h
theorem from_nil (s : Str) (i : Int) (h1 : len s ≤ i) : from' s i = [] := by
  unfold from'; rw [List.drop_eq_nil_iff]; unfold len at h1; omega
theorem from_len (s : Str) (i : Int) (h0 : 0 ≤ i) (h1 : i ≤ len s) : len (from' s i) = len s - i := by
  unfold from' len at *; rw [List.length_drop]; omega
theorem runTo_step {s : Str} {i : Int} (h0 : 0 ≤ i) (h1 : i < len s) (h : isFig (byteAt s i) = true) : runTo s (i + 1) = runTo s i := by
  obtain ⟨b, h2, h3⟩ := from_cons s i h0 h1
  unfold runTo
  rw [h2, List.takeWhile_cons, show isFigB b = true from by unfold isFigB; rw [← h3]; exact h]
  simp [len]; omega
theorem runTo_stop {s : Str} {i : Int} (h0 : 0 ≤ i) (h1 : i < len s) (h : isFig (byteAt s i) = false) : runTo s i = i := by
  obtain ⟨b, h2, h3⟩ := from_cons s i h0 h1
  unfold runTo
  rw [h2, List.takeWhile_cons, show isFigB b = false from by unfold isFigB; rw [← h3]; exact h]
  simp [len]
theorem runTo_end {s : Str} {i : Int} (h1 : len s ≤ i) : runTo s i = i := by
  unfold runTo; rw [from_nil s i h1]; simp [len]
theorem runTo_bd (s : Str) (i : Int) (h0 : 0 ≤ i) (h1 : i ≤ len s) : i ≤ runTo s i ∧ runTo s i ≤ len s := by
  have h2 := from_len s i h0 h1
  have h3 := (List.takeWhile_sublist isFigB (l := from' s i)).length_le
  unfold runTo len at *; omega
theorem runTo_fig {s : Str} {i k : Int} (h0 : 0 ≤ i) (h1 : i ≤ k) (h2 : k < runTo s i) : isFig (byteAt s k) = true := by
  by_cases hl : i < len s
  · by_cases hf : isFig (byteAt s i) = true
    · by_cases hk : i = k
      · subst hk; exact hf
      · rw [← runTo_step h0 hl hf] at h2
        exact runTo_fig (i := i + 1) (by omega) (by omega) h2
    · rw [Bool.not_eq_true] at hf
      rw [runTo_stop h0 hl hf] at h2; omega
  · rw [runTo_end (by omega)] at h2; omega
termination_by (len s - i).toNat
/-- A1: a number of figures and a power. -/
def mk1 (neg : Bool) (s : Str) (e : Int) : Nd × Int :=
  if figs s then
    if dropZ s == [] then (⟨3, 0, [], [], false, 0⟩, 0)
    else if decide (e < -100000000) || decide (100000000 < e) then (noNd, 2)
    else
      if decide (100 < len (trimZ (dropZ s))) || decide (e + (len (dropZ s) - len (trimZ (dropZ s))) < -1000) || decide (1000 < len (trimZ (dropZ s)) + (e + (len (dropZ s) - len (trimZ (dropZ s))))) then (noNd, 2)
      else (⟨3, 0, [], trimZ (dropZ s), neg, e + (len (dropZ s) - len (trimZ (dropZ s)))⟩, 0)
  else (noNd, 4)

/-- A2: a number's text. -/
def print1 (n : Nd) : Str :=
  let sign : Str := if n.neg then [45] else []
  if n.s == [] then [48]
  else if decide (0 ≤ n.e) && decide (len n.s + n.e ≤ 20) then sign ++ n.s ++ zeros n.e
  else if decide (n.e < 0) && decide (-20 ≤ n.e) then
    let s := zeros (1 - n.e - len n.s) ++ n.s
    sign ++ Eng.sub s 0 (len s + n.e) ++ [46] ++ from' s (len s + n.e)
  else sign ++ n.s ++ [101] ++ Lib.itoa n.e
theorem zeros_neg {n : Int} (h : n ≤ 0) : zeros n = [] := by unfold zeros; rw [show n.toNat = 0 from by omega]; rfl
theorem zeros_len' (d : Int) : 0 ≤ len (zeros d) ∧ d ≤ len (zeros d) ∧ (len (zeros d) ≤ 0 ∨ len (zeros d) = d) := by unfold zeros len; rw [List.length_replicate]; omega
theorem zeros_max (d : Int) : zeros (if 0 > d then 0 else d) = zeros d := by
  split
  · rw [zeros_neg (n := d) (by omega)]; rfl
  · rfl
theorem len_app {α : Type} (a b : List α) : len (a ++ b) = len a + len b := by unfold len; simp
theorem len_cons {α : Type} (a : α) (b : List α) : len (a :: b) = len b + 1 := by unfold len; simp
theorem from_one {α : Type} (a : α) (b : List α) : from' (a :: b) 1 = b := rfl
theorem len_nil {α : Type} : len ([] : List α) = 0 := rfl
theorem sub_bd {α : Type} (s : List α) (i j : Int) : 0 ≤ len (Eng.sub s i j) ∧ len (Eng.sub s i j) ≤ len s := by unfold Eng.sub len; simp; omega
theorem sub_len {α : Type} {s : List α} {i j : Int} (h0 : 0 ≤ i) (h1 : i ≤ j) (h2 : j ≤ len s) : len (Eng.sub s i j) = j - i := by unfold Eng.sub len at *; simp; omega
theorem from_bd {α : Type} (s : List α) (i : Int) : 0 ≤ len (from' s i) ∧ len (from' s i) ≤ len s := by unfold from' len; simp
theorem dropZ_len (s : Str) : len (dropZ s) ≤ len s := by
  have := (List.dropWhile_sublist (([48] : Str).contains ·) (l := s)).length_le
  unfold dropZ len; omega
theorem trimZ_len (s : Str) : len (trimZ s) ≤ len s := by
  have := (List.dropWhile_sublist (([48] : Str).contains ·) (l := s.reverse)).length_le
  unfold trimZ Lib.trimRightS len; simp at *; omega

theorem dropWhile_nil {α : Type} {p : α → Bool} : ∀ {l : List α}, l.dropWhile p = [] → ∀ x ∈ l, p x = true
  | [], _, x, hx => by cases hx
  | a :: l, h, x, hx => by
    rw [List.dropWhile_cons] at h
    split at h
    · rename_i ha
      rcases List.mem_cons.1 hx with rfl | hx
      · exact ha
      · exact dropWhile_nil h x hx
    · cases h
theorem dropZ_first {s : Str} {b : UInt8} {l : Str} (h : dropZ s = b :: l) : (([48] : Str).contains b) = false := by
  unfold dropZ at h
  induction s with
  | nil => cases h
  | cons a s ih =>
    rw [List.dropWhile_cons] at h
    split at h
    · exact ih h
    · rename_i hn; cases h; simpa using hn
theorem trimZ_pos (s : Str) : ¬ dropZ s = [] → 0 < len (trimZ (dropZ s)) := by
  intro h
  cases hd : dropZ s with
  | nil => exact absurd hd h
  | cons b l =>
    have hb := dropZ_first hd
    have : trimZ (b :: l) ≠ [] := by
      unfold trimZ Lib.trimRightS
      intro hr
      rw [List.reverse_eq_nil_iff] at hr
      have := dropWhile_nil hr b (by simp)
      rw [this] at hb; cases hb
    unfold len
    have := List.length_pos_iff.2 this
    omega

theorem decDigits_len (u : Nat) : (Lib.decDigits u).length ≤ u + 1 := by
  induction u using Nat.strongRecOn with
  | _ u ih =>
    rw [Lib.decDigits]
    split
    · simp
    · have := ih (u / 10) (by omega)
      simp only [List.length_append, List.length_cons, List.length_nil]; omega
theorem itoa_len (n : Int) : 0 ≤ len (Lib.itoa n) ∧ len (Lib.itoa n) ≤ n.natAbs + 2 := by
  unfold Lib.itoa len
  have h1 := decDigits_len n.natAbs
  have h2 := decDigits_len n.toNat
  split
  · simp only [List.length_cons]; omega
  · omega

/-- Does one of some signs stand at a place? -/
def isAt (s signs : Str) (p : Int) : Bool := decide (p < len s) && decide (0 ≤ Lib.indexByte signs (byteAt s p).toNat.toUInt8)
def isTo (s signs : Str) (p : Int) : Int := if isAt s signs p then p + 1 else p
theorem isAt_lt {s signs : Str} {p : Int} (h : isAt s signs p = true) : p < len s := by unfold isAt at h; simp only [Bool.and_eq_true, decide_eq_true_eq] at h; exact h.1
theorem isTo_bd (s signs : Str) (p : Int) (h : p ≤ len s) : p ≤ isTo s signs p ∧ isTo s signs p ≤ len s := by
  unfold isTo; split
  · rename_i h1; have := isAt_lt h1; omega
  · omega
theorem isTo_yes {s signs : Str} {p : Int} (h : isAt s signs p = true) : isTo s signs p = p + 1 := by unfold isTo; rw [if_pos h]
theorem isTo_no {s signs : Str} {p : Int} (h : isAt s signs p = false) : isTo s signs p = p := by unfold isTo; rw [if_neg (by rw [h]; simp)]
/-- A2: a number of a sign, figures, a power and what stands behind e. -/
def fin1 (neg : Bool) (fg : Str) (x : Int) (pw : Str) (side : Int) : Nd × Int × Int :=
  if 6 < len (dropZ pw) then (noNd, 0, 2)
  else ((mk1 neg fg (x + side * decVal (dropZ pw))).1, 0, (mk1 neg fg (x + side * decVal (dropZ pw))).2)
/-- Behind e. -/
def exp1 (s : Str) (neg : Bool) (fg : Str) (x : Int) (c0 : Int) : Nd × Int × Int :=
  let m := isAt s [45] c0
  let c1 := if m then isTo s [45] c0 else isTo s [43] (isTo s [45] c0)
  let c2 := runTo s c1
  let pw := Eng.sub s c1 c2
  if pw = [] ∨ c2 < len s then (noNd, c2, 1) else fin1 neg fg x pw (if m then -1 else 1)
/-- Behind the figures. -/
def rest1 (s : Str) (neg : Bool) (fg : Str) (x : Int) (b : Int) : Nd × Int × Int :=
  if isAt s [101, 69] b then exp1 s neg fg x (isTo s [101, 69] b)
  else if isTo s [101, 69] b < len s then (noNd, isTo s [101, 69] b, 1) else fin1 neg fg x [] 1
/-- A2: a text's number; or where it is none. -/
def read1 (s : Str) : Nd × Int × Int :=
  let neg := isAt s [45] 0
  let a0 := isTo s [45] 0
  let b0 := runTo s a0
  let fg := Eng.sub s a0 b0
  if 1 < len fg ∧ byteAt fg 0 = 48 then (noNd, a0 + 1, 1)
  else if fg = [] then (noNd, b0, 1)
  else if isAt s [46] b0 then
    let b2 := runTo s (isTo s [46] b0)
    let part := Eng.sub s (isTo s [46] b0) b2
    if part = [] then (noNd, b2, 1) else rest1 s neg (fg ++ part) (-(len part)) b2
  else rest1 s neg fg 0 (isTo s [46] b0)
theorem sub_run {s : Str} {i : Int} (h0 : 0 ≤ i) : Eng.sub s i (runTo s i) = (from' s i).takeWhile isFigB := by
  have h1 : (runTo s i).toNat - i.toNat = ((from' s i).takeWhile isFigB).length := by unfold runTo len; omega
  unfold Eng.sub; rw [h1]
  exact (List.prefix_iff_eq_take.1 (List.takeWhile_prefix isFigB)).symm
theorem takeWhile_all {α : Type} {p : α → Bool} : ∀ {l : List α}, ∀ x ∈ l.takeWhile p, p x = true
  | [], x, hx => by cases hx
  | a :: l, x, hx => by
    rw [List.takeWhile_cons] at hx
    split at hx
    · rename_i ha
      rcases List.mem_cons.1 hx with rfl | hx
      · exact ha
      · exact takeWhile_all x hx
    · cases hx
theorem figs_run {s : Str} {i : Int} (h0 : 0 ≤ i) : ∀ b ∈ Eng.sub s i (runTo s i), isFigB b = true := by rw [sub_run h0]; exact takeWhile_all
theorem figs_drop {l : Str} (h : ∀ b ∈ l, isFigB b = true) : ∀ b ∈ dropZ l, isFigB b = true := fun b hb => h b ((List.dropWhile_sublist _).subset hb)
theorem decVal_bd : ∀ (l : Str) (n : Int), (∀ b ∈ l, isFigB b = true) → 0 ≤ n → 0 ≤ l.foldl (fun n b => n * 10 + ((b.toNat : Int) - 48)) n ∧ l.foldl (fun n b => n * 10 + ((b.toNat : Int) - 48)) n < (n + 1) * 10 ^ l.length
  | [], n, _, h0 => by simp; omega
  | a :: l, n, h, h0 => by
    have ha := h a (by simp)
    unfold isFigB isFig at ha
    simp only [Bool.and_eq_true, decide_eq_true_eq] at ha
    have := decVal_bd l (n * 10 + ((a.toNat : Int) - 48)) (fun b hb => h b (by simp [hb])) (by omega)
    rw [List.foldl_cons]
    refine ⟨this.1, Int.lt_of_lt_of_le this.2 ?_⟩
    have h1 : (n + 1) * 10 ^ (a :: l).length = ((n + 1) * 10) * 10 ^ l.length := by rw [List.length_cons, Int.pow_succ, Int.mul_comm (10 ^ l.length) 10, ← Int.mul_assoc]
    rw [h1]
    exact Int.mul_le_mul_of_nonneg_right (by omega) (Int.le_of_lt (Int.pow_pos (by decide : (0 : Int) < 10)))
theorem parse_figs : ∀ (l : Str) (n : Nat), (∀ b ∈ l, isFigB b = true) → (n + 1) * 10 ^ l.length ≤ 10000000 → Lib.parseUint10 n l = .ok (l.foldl (fun n b => n * 10 + ((b.toNat : Int) - 48)) (n : Int)).toNat
  | [], n, _, _ => by simp [Lib.parseUint10]
  | a :: l, n, h, hl => by
    have ha := h a (by simp)
    unfold isFigB isFig at ha
    simp only [Bool.and_eq_true, decide_eq_true_eq] at ha
    have hn : n < 10000000 := by
      have : (n + 1) * 1 ≤ (n + 1) * 10 ^ (a :: l).length := Nat.mul_le_mul_left _ (Nat.pow_pos (by decide))
      omega
    have ih := parse_figs l (n * 10 + (a.toNat - 48)) (fun b hb => h b (by simp [hb])) (by
      have h1 : (n + 1) * 10 ^ (a :: l).length = ((n + 1) * 10) * 10 ^ l.length := by rw [List.length_cons, Nat.pow_succ, Nat.mul_comm (10 ^ l.length) 10, ← Nat.mul_assoc]
      rw [h1] at hl
      exact Nat.le_trans (Nat.mul_le_mul_right _ (by omega)) hl)
    rw [Lib.parseUint10, if_pos (by omega), if_neg (by omega), if_neg (by omega), ih, List.foldl_cons]
    congr 3
    omega
theorem atoi_figs {l : Str} (h : ∀ b ∈ l, isFigB b = true) (hl : len l ≤ 6) : Lib.atoiAll ([48] ++ l) = .ok (decVal l) ∧ 0 ≤ decVal l ∧ decVal l < 1000000 := by
  have h1 := decVal_bd l 0 h (by omega)
  have h2 : (10 : Int) ^ l.length ≤ 10 ^ 6 := by
    have : (10 : Nat) ^ l.length ≤ 10 ^ 6 := Nat.pow_le_pow_right (by omega) (by unfold len at hl; omega)
    exact_mod_cast this
  have h3 := parse_figs l 0 h (by
    have : (10 : Nat) ^ l.length ≤ 10 ^ 6 := Nat.pow_le_pow_right (by omega) (by unfold len at hl; omega)
    omega)
  have h4 : 0 ≤ decVal l ∧ decVal l < 1000000 := by unfold decVal; omega
  refine ⟨?_, h4⟩
  show Lib.atoiAll (48 :: l) = _
  have hm : Lib.parseMag (48 :: l) = .ok (decVal l).toNat := by
    unfold Lib.parseMag
    rw [if_neg (by simp), Lib.parseUint10, if_pos (by decide), if_neg (by decide), if_neg (by decide)]
    exact h3
  unfold Lib.atoiAll
  dsimp only
  rw [if_neg (by decide : ¬ ((48 : UInt8).toNat = 43 ∨ (48 : UInt8).toNat = 45)), hm]
  dsimp only
  rw [if_neg (by omega), if_neg (by intro hh; exact absurd hh.1 (by decide)), if_neg (by decide)]
  congr 1; omega
end Go.Eng
