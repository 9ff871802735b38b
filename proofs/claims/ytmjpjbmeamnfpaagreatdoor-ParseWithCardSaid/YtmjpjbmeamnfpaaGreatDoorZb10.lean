/-
  A RANGE OVER A FUNCTION: what the function it ranges over keeps to; the loop. Over any program.
  BEHIND A RANGE OVER A FUNCTION, and the end of a function that holds one. Over any program.
  REGIONS that draw, but for a tail; calls that may panic. Over any program.
  THE PLAIN FORMS OF NUMBERS: what num and louperef01 compute.
  THE PLAIN FORMS OF STRINGS: what quote computes.
  THE PLAIN FORMS OF THE DOCUMENT's ANSWERS: louperef01, 03, 04, 08.
-/
import Derived.Test.YtmjpjbmeamnfpaaGreatDoorZb9
import Derived.RangeFuncIn
import Derived.RangeFuncLeaves
import Derived.RangeFuncSeq
import Derived.RangeFuncRecord
import Derived.Test.YtmjpjbmeamnfpaaGreatDoorZb8
import Derived.Test.YtmjpjbmeamnfpaaGreatDoorZb3
import Derived.Shelf.Strings.SlTrimAscii
import Derived.Lib.ItoaNum
import Derived.Lib.Bytealg
import Derived.Lib.AtoiAll
import Derived.Lib.RuneBytes
import Derived.Lib.QuoteLoop
import Derived.Lib.RuneCount
set_option linter.unusedVariables false
set_option linter.unusedSimpArgs false
namespace Go.Eng
open Go.RowKit

section
variable {w0 w : World} {M0 M : Mem} {Hs : List HO} {o : Obj} {b : Nat}
theorem St.turn (h : St w0 M0 w M Hs) {k : Nat} (hk : Hs[k]? = some (.raw b o)) (o' : Obj) : St w0 M0 (w.putObj b o') M (Hs.set k (.raw b o')) := by
  obtain ⟨h1, h2, h3⟩ := h.obj hk
  have hlt : b < w.heap.size := by
    rcases Nat.lt_or_ge b w.heap.size with h' | h'
    · exact h'
    · simp [h'] at h2
  refine h.write hk ⟨rfl, rfl, rfl, by rw [World.putObj_size]; exact Nat.le_refl _, fun k hk => World.putObj_heap_other (by omega)⟩ ⟨fun b' o2 v hv => ?_⟩ (fun _ _ _ => rfl) (fun b' _ hne => World.putObj_heap_other (fun e => hne (by rw [e]; rfl))) (fun _ _ _ _ => rfl) ⟨h1, World.putObj_heap_same hlt, h3⟩ (fun _ hb => .inl hb)
  have hne : b' ≠ b := fun e => by subst e; rw [h3] at hv; cases hv
  have := h.sat.cell b' o2 v hv
  simp only [World.cell?, World.putObj_heap_other hne] at this ⊢; exact this
end
/-- What a round hands back, that is asked for with these. -/
abbrev RoundO (P : Program) (l : Nat) (vs : Array Value) (w : World) (R : Ending → World → Prop) : Prop := YieldAt Fence.wide 0 P l vs w R
/-- What an iterator keeps to: n rounds; what it hands them (of a ghost), what holds of it, and the rows that it tells of. -/
def IterOk (P : Program) (gf : FuncId) (lb : List Value) (n : Nat) (w0 : World) (M0 : Mem) (Rs : List HO) {τ : Type} (av : Nat → τ → List XV) (pa : Nat → τ → Prop) (FA : Nat → τ → List (Nat × Kn)) (w : World) (M : Mem) : Prop :=
  ∀ (σ : Type) (I : Nat → σ → Prop) (Hy : σ → List HO) (Fy : σ → List (Nat × Kn)) (l : Nat) (g0 : σ), (∃ x1 x2 : σ → HO, ∀ g, Hy g = [x1 g, x2 g]) → St w0 M0 w M (Hy g0 ++ Rs) → FOk M (Fy g0) → I 0 g0 →
    (∀ k g y w' M', k < n → I k g → pa k y → St w0 M0 w' M' (Hy g ++ Rs) → M.le M' → FOk M' (FA k y) → FOk M' (Fy g) →
      RoundO P l ((av k y).map XV.d).toArray w' (ORet w0 M0 M' Rs (fun _ : σ => .bool true) (I (k + 1)) Fy Hy)) →
    Calls P gf (.func (.yield l) #[] #[] :: lb).toArray w (ORet w0 M0 M Rs (fun _ : σ => .tuple #[]) (I n) Fy Hy)
/-- A round's slots. -/
def pz : List Tmp → List XV → XE → XE
  | t :: ts, v :: vs, L => pz ts vs ((t, .t, v) :: L)
  | _, _, L => L
def pzOk (N : Nat) : List Tmp → List XV → Bool
  | [], [] => true
  | t :: ts, _ :: vs => Nat.blt t N && pzOk N ts vs
  | _, _ => false
theorem pz_slots {N : Nat} : ∀ (ps : List Tmp) (vs : List XV) {L : XE} {a : Act}, pzOk N ps vs = true → Slots a N L.d →
    Slots { tmps := (ps.zip (vs.map XV.d)).foldl (fun t (x : Tmp × Value) => t.setIfInBounds x.1 x.2) a.tmps, defers := [] } N (pz ps vs L).d
  | [], [], L, a, _, hs => ⟨hs.size, rfl, hs.val⟩
  | t :: ts, v :: vs, L, a, h, hs => by
    unfold pzOk at h
    rw [Bool.and_eq_true] at h
    exact pz_slots ts vs (a := a.put (some t) v.d) h.2 (put_slot hs h.1 v)
  | [], _ :: _, _, _, h, _ => by cases h
  | _ :: _, [], _, _, h, _ => by cases h
/-- The loop's record and the block for what its rounds defer, beside what the caller has. -/
abbrev ddO : Obj := .deferred (some [])
def cR (c : Cx) (l D : Nat) (r : Obj) (M : Mem) : Cx := { c with M1 := M, Hr := .raw l r :: .raw D ddO :: c.Hr, W := Wk.round c.P l 0 }
theorem cR_turn {c : Cx} {l D : Nat} {r r' : Obj} {M : Mem} {s : XS} {a : Act} {w : World} (h : Sat' (cR c l D r M) s a w) : w.heap[l]? = some r ∧ Sat' (cR c l D r' M) s a (w.putObj l r') := by
  obtain ⟨h1, M', h2, h3, h4⟩ := h
  have h2 : St c.w0 c.M0 w M' (HD s.H ++ (.raw l r :: .raw D ddO :: c.Hr)) := h2
  have hi : (HD s.H ++ (.raw l r :: .raw D ddO :: c.Hr))[(HD s.H).length]? = some (.raw l r) := by simp
  refine ⟨(h2.obj hi).2.1, h1, M', ?_, h3, h4⟩
  have := h2.turn hi r'
  have e : (HD s.H ++ (.raw l r :: .raw D ddO :: c.Hr)).set (HD s.H).length (.raw l r') = HD s.H ++ (.raw l r' :: .raw D ddO :: c.Hr) := by simp
  rw [e] at this; exact this
abbrev nB : Exit → Act → World → Prop := fun _ _ _ => False
theorem nB_lets : ¬ LetsOut nB := fun ⟨_, _, h⟩ => h
theorem pz_len {N : Nat} : ∀ {ps : List Tmp} {vs : List XV}, pzOk N ps vs = true → vs.length = ps.length
  | [], [], _ => rfl
  | t :: ts, v :: vs, h => by
    unfold pzOk at h
    rw [Bool.and_eq_true] at h
    simp [pz_len h.2]
  | [], _ :: _, h => by cases h
  | _ :: _, [], h => by cases h
theorem XOk.sub {c : Cx} {s s' : XS} {w : World} {M : Mem} (h : XOk c s.F s.H w M) (hs : s'.sub s) : XOk c s'.F s'.H w M := by
  obtain ⟨_, k2, R, k3⟩ := hs
  refine ⟨?_, k2 M h.f, h.le⟩
  have hp : ((HD s'.H ++ c.Hr) ++ R).Perm (HD s.H ++ c.Hr) := by
    refine List.Perm.trans ?_ (k3.append_right c.Hr)
    rw [List.append_assoc, List.append_assoc]
    exact (List.perm_append_comm).append_left _
  exact (h.st.perm hp).drop _ (List.sublist_append_left _ _)
theorem mid2_perm {A B : List HO} {x y : HO} : (A ++ (x :: y :: B)).Perm (x :: y :: (A ++ B)) :=
  List.perm_middle.trans ((List.perm_middle).cons x)
/-- A range over a function. -/
theorem xrange {c : Cx} {B : Exit → Act → World → Prop} {k k' : List Fr} {m : Md} {s s' : XS} {O : Prop} {E : List Ck} {σ τ : Type} (Sf : σ → XS) (I : Nat → σ → Prop) (g0 : σ) {gop : Operand} {ps : List Tmp} {assign body : Code} {gf : FuncId} {lb : List Value} {n : Nat} {av : Nat → τ → List XV} {pa : Nat → τ → Prop} {FA : Nat → τ → List (Nat × Kn)} {E1 : List Ck} (Sa : Nat → σ → τ → XS)
    (hw : ∀ x Q a w, x.wp c.P Q a w → c.W.wp x Q a w) (h : run c.T c.N k m s = ⟨k', .code (.rangeFunc gop ⟨ps⟩ assign body), s', O, E⟩) (hE : EOk E) (hO : O)
    (hg : opd s'.L .t gop = some (.v (.func (.func gf) #[] ⟨lb⟩), E1)) (hE1 : EOk E1) (ct : CT c.P gf)
    (h0 : (⟨fkeep (Sf g0).F s'.F, hkeep (Sf g0).H s'.H, xkeep (keys (Sf g0).L) s'.L⟩ : XS) = Sf g0) (hI : I 0 g0) (hL : ∀ g, (Sf g).L = (Sf g0).L)
    (hH : ∃ x1 x2 : σ → HO, ∀ g, HD (Sf g).H = [x1 g, x2 g]) (hit : ∀ w M l D r w', XOk c s'.F s'.H w M → IterOk c.P gf lb n c.w0 c.M0 (.raw l r :: .raw D ddO :: c.Hr) av pa FA w' M)
    (hps : ∀ k y, pzOk c.N ps (av k y) = true)
    (ha : ∀ k g y l D r M, k < n → I k g → pa k y → XG (cR c l D r M) nB [.loop (fun t => t = Sa k g y)] (.code assign) ⟨FA k y ++ (Sf g).F, (Sf g).H, pz ps (av k y) (Sf g).L⟩) (hsa : straight assign = true)
    (hb : ∀ k g y l D r M, k < n → I k g → pa k y → XG (cR c l D r M) nB [.loop (fun t => ∃ g', t = Sf g' ∧ I (k + 1) g')] (.code body) (Sa k g y)) (hsb : straight body = true)
    (hn : ∀ D g a w, I n g → Slots a c.N (Sf g).L.d → (∃ M, St c.w0 c.M0 w M (HD (Sf g).H ++ (.raw D ddO :: c.Hr)) ∧ FOk M (Sf g).F ∧ c.M1.le M) → post c B k' .normal (upD [⟨.collected D, #[]⟩] a) w) : XG c B k m s := by
  refine run_ok h hE hO fun a w hs => ?_
  obtain ⟨hsl, M, hX⟩ := hs
  have hX0 := hX.sub (XS.sub_of h0)
  have hslL := slots_of hsl (XS.sub_of h0).1
  refine hw _ _ _ _ ((wpIn_wide (n := 1)).1 (wpIn_rangeFunc fun fn _ => ?_))
  obtain ⟨rec, hrec⟩ : ∃ rec : LoopState → Loop, rec = fun st => { state := st, pending := none, fn, tmps := a.tmps, params := ⟨ps⟩, assign, body, defers := w.heap.size } := ⟨_, rfl⟩
  have hS1 := (hX0.st.newRaw ddO).newRaw (.loop (rec .ready))
  rw [World.size_alloc] at hS1
  have hS2 := hS1.perm mid2_perm
  have hgv : a.eval gop = .func (.func gf) #[] ⟨lb⟩ := opd_d hg hE1 a c.N hsl rfl
  refine ⟨w.heap.size + 1, [⟨.collected w.heap.size, #[]⟩], (w.alloc ddO).alloc (.loop (rec .ready)), ⟨.fn (.func gf) ⟨lb⟩, #[.func (.yield (w.heap.size + 1)) #[] #[]]⟩, (w.alloc ddO).alloc (.loop (rec .ready)), gf,
    (.func (.yield (w.heap.size + 1)) #[] #[] :: lb).toArray, (w.alloc ddO).alloc (.loop (rec .ready)), by rw [hrec]; exact run_enterLoop_outer _ _ _ _ _, ?_, fun _ _ => trivial, ?_, (fun h => by cases h), callsIn_wide.2 ?_⟩
  · simp only [resolve, hgv]
    simp [go_sem]
  · simp [invoke, go_sem, ct]
  · refine (hit w M _ _ _ _ hX σ I (fun g => HD (Sf g).H) (fun g => (Sf g).F) (w.heap.size + 1) g0 hH hS2 hX0.f hI fun kk g y w' M' hk hIg hp hS hle hFA hF => ?_).mono ?_
    · have hi : (HD (Sf g).H ++ (HO.raw (w.heap.size + 1) (.loop (rec .ready)) :: .raw w.heap.size ddO :: c.Hr))[(HD (Sf g).H).length]? = some (.raw (w.heap.size + 1) (.loop (rec .ready))) := by simp
      have hl := (hS.obj hi).2.1
      have hz := pz_slots ps (av kk y) (L := (Sf g).L) (a := a) (hps kk y) (by rw [hL]; exact hslL)
      have hy := run_yield (P := c.P) (args := ((av kk y).map XV.d).toArray) hl (by rw [hrec]; simp [pz_len (hps kk y)])
      refine ⟨_, _, _, _, hy, roundIn_of_wpIn trivial ?_⟩
      have h1 := ha kk g y (w.heap.size + 1) w.heap.size (.loop (rec .ready)) M' hk hIg hp _ w' ⟨hz, M', hS, hFA.app hF, Mem.le.refl _⟩
      have h2 := h1 (lets_then nB_lets) hsa
      rw [hrec]
      dsimp only
      have e0 : (⟨ps⟩ : Array Tmp) = ps.toArray := rfl
      refine wpIn_mono (F := FR (some (w.heap.size + 1))) (by simpa using h2) fun e a1 w1 q => ?_
      cases e with
      | normal =>
        obtain ⟨sa, rfl, hsat⟩ := q
        obtain ⟨hl1, hsat1⟩ := cR_turn (r' := .loop { rec .ready with state := .busy }) hsat
        refine ⟨_, run_beginRound hl1 (by rw [hrec]), ?_⟩
        have h4 := hb kk g y (w.heap.size + 1) w.heap.size (.loop { rec .ready with state := .busy }) M' hk hIg hp a1 _ hsat1 (lets_then nB_lets) hsb
        refine wpIn_mono (F := FR (some (w.heap.size + 1))) h4 fun e a3 w3 q => ?_
        cases e with
        | normal =>
          obtain ⟨sb, ⟨g', rfl, hI'⟩, hsat3⟩ := q
          obtain ⟨hl3, hsat4⟩ := cR_turn (r' := .loop (rec .ready)) hsat3
          have hr := run_endRound (P := c.P) none hl3
          refine ⟨_, _, hr, ?_⟩
          obtain ⟨_, M3, hS6, hF6, hle6⟩ := hsat4
          refine ⟨g', M3, rfl, hI', hle6, ?_, hF6⟩
          have e1 : Obj.loop { { rec .ready with state := .busy } with state := if (none : Option Code).isNone = true then LoopState.ready else LoopState.done, pending := none } = .loop (rec .ready) := by rw [hrec]; rfl
          rw [e1]; subst hrec; exact hS6
        | _ => exact q.elim
      | _ => exact q.elim
    · rintro e W2 ⟨g, M', rfl, hIn, hle, hS3, hF3⟩
      have hi : (HD (Sf g).H ++ (HO.raw (w.heap.size + 1) (.loop (rec .ready)) :: .raw w.heap.size ddO :: c.Hr))[(HD (Sf g).H).length]? = some (.raw (w.heap.size + 1) (.loop (rec .ready))) := by simp
      have hl := (hS3.obj hi).2.1
      have hS4 := hS3.turn hi (.loop { rec .ready with state := .exhausted })
      have hend := run_endLoop (P := c.P) hl (by rw [hrec]; simp)
      have hend2 : (Instr.endLoop (w.heap.size + 1)).run c.P W2 = .ok none (W2.putObj (w.heap.size + 1) (.loop { rec .ready with state := .exhausted })) := by rw [hend]; rw [hrec]
      refine ⟨none, _, hend2, ?_⟩
      have hd : a.defers = [] := hsl.dfr
      have hS5 := hS4.drop (HD (Sf g).H ++ (.raw w.heap.size ddO :: c.Hr)) (by
        rw [List.set_append_right _ _ (Nat.le_refl _), Nat.sub_self]
        exact List.Sublist.append (List.Sublist.refl _) (List.sublist_cons_self _ _))
      have := hn w.heap.size g a _ hIn (by rw [hL]; exact hslL) ⟨M', hS5, hF3, hX.le.trans hle⟩
      rw [show upD [⟨.collected w.heap.size, #[]⟩] a = { a with defers := [⟨.collected w.heap.size, #[]⟩] ++ a.defers } by unfold upD; rw [hd]; rfl] at this
      exact this
end Go.Eng
namespace Go.Eng
open Go.RowKit

structure EndsM (P : Program) (fn : Func) (R : Ending → World → Prop) (Q : Exit → Act → World → Prop) : Prop where
  all : ∀ e a w, bodyPostM Fence.wide 1 P fn R e a w → Q e a w
/-- The beginning of a call of a function that holds a range over a function. -/
theorem xenterM {P : Program} {N : Nat} {w0 w : World} {M0 M : Mem} {Hr : List HO} {T : TT} (hT : TOk P T) {f : FuncId} {fn : Func} {x : Code} {R : Ending → World → Prop} (hf : P.funcs[f]? = some fn) (hb : fn.body = some x) (hn : fn.ntmps = N)
    (F : List (Nat × Kn)) (H : List (Nat × HX)) (vs : List XV) (hl : Nat.ble vs.length N = true) (hS : St w0 M0 w M (HD H ++ Hr)) (hF : FOk M F)
    (h : ∀ B, EndsM P fn R B → XG ⟨P, N, w0, M0, M, Hr, T, hT, .wide P⟩ B [] (.code x) ⟨F, H, xargs 0 vs⟩) {av : List Value} (ha : vs.map XV.d = av) : Calls P f av.toArray w R := by
  subst ha
  refine (callsIn_wide (n := 1)).1 (callsIn_of_wp_marks hf hb trivial (wpIn_wide.2 ?_) rfl)
  rw [hn]
  have hs := Slots.enter (vs.map XV.d) N (by rw [List.length_map]; exact Nat.le_of_ble_eq_true hl)
  exact h _ ⟨fun _ _ _ h => h⟩ _ w ⟨by rw [← xargs_d] at hs; exact hs, M, hS, hF, Mem.le.refl _⟩
/-- An end ahead of any such loop. -/
theorem EndsM.ends {P : Program} {fn : Func} {R : Ending → World → Prop} {Q : Exit → Act → World → Prop} (E : EndsM P fn R Q) : Ends P fn R Q := ⟨fun e a w h => E.all e a w (by
  cases e with
  | normal => obtain ⟨hd, h⟩ := h; show LeavesInM _ _ _ _ _ _ a.defers _ _; rw [hd]; exact h
  | ret => obtain ⟨hd, h⟩ := h; show LeavesInM _ _ _ _ _ _ a.defers _ _; rw [hd]; exact h
  | panic ch => obtain ⟨hd, h⟩ := h; show LeavesInM _ _ _ _ _ _ a.defers _ _; rw [hd]; exact h
  | outgrown => exact h
  | exit id => exact h.elim
  | goto l => exact h.elim)⟩
/-- Behind the loop. -/
abbrev mkD (D : Nat) : List Deferred := [⟨.collected D, #[]⟩]
def cD (c : Cx) (D : Nat) : Cx := { c with W := Wk.dfr c.P (mkD D) }
def bD (D : Nat) (B : Exit → Act → World → Prop) : Exit → Act → World → Prop := fun e a w => B e (upD (mkD D) a) w
def kok : List Fr → Bool
  | [] => true
  | .seq y :: k => straight y && kok k
  | .block _ :: k => kok k
  | .scope :: k => kok k
  | .loop _ :: _ => false
theorem post_dfr {c : Cx} {D : Nat} {B : Exit → Act → World → Prop} (hw : ∀ x Q a w, x.wp c.P Q a w → c.W.wp x Q a w) : ∀ (k : List Fr), kok k = true → ∀ e a w, post (cD c D) (bD D B) k e a w → post c B k e (upD (mkD D) a) w
  | [], _, e, a, w, h => h
  | .seq y :: k, hk, e, a, w, h => by
    unfold kok at hk
    rw [Bool.and_eq_true] at hk
    have ih := post_dfr (D := D) (B := B) hw k hk.2
    cases e with
    | normal =>
      have h : straight y = true → y.wp c.P (upQ (mkD D) (post (cD c D) (bD D B) k)) (upD (mkD D) a) w := h
      refine hw _ _ _ _ (wp_mono (h hk.1) fun e a w ⟨a0, e0, q⟩ => ?_)
      subst e0; exact ih _ _ _ q
    | _ => exact ih _ a w h
  | .block id :: k, hk, e, a, w, h => by
    have ih := post_dfr (D := D) (B := B) hw k hk
    cases e with
    | exit id' =>
      have h : if id' = id then post (cD c D) (bD D B) k .normal a w else post (cD c D) (bD D B) k (.exit id') a w := h
      show if id' = id then _ else _
      split <;> rename_i hid
      · rw [if_pos hid] at h; exact ih _ a w h
      · rw [if_neg hid] at h; exact ih _ a w h
    | _ => exact ih _ a w h
  | .scope :: k, hk, e, a, w, h => by
    have ih := post_dfr (D := D) (B := B) hw k hk
    cases e <;> first | exact h.elim | exact ih _ a w h
  | .loop J :: k, hk, _, _, _, _ => by cases hk
/-- What xrange wants of what stands behind. -/
theorem xdone {c : Cx} {B : Exit → Act → World → Prop} {k' : List Fr} (dk : Nat) {s : XS} (hw : ∀ x Q a w, x.wp c.P Q a w → c.W.wp x Q a w) (hk : kok k' = true) {D : Nat} (h : XG (cD c D) (bD D B) k' .next ⟨s.F, (dk, .ho (.raw D ddO)) :: s.H, s.L⟩) :
    ∀ a w, Slots a c.N s.L.d → (∃ M, St c.w0 c.M0 w M (HD s.H ++ (.raw D ddO :: c.Hr)) ∧ FOk M s.F ∧ c.M1.le M) → post c B k' .normal (upD (mkD D) a) w :=
  fun a w hs ⟨M, h1, h2, h3⟩ => post_dfr hw k' hk _ _ _ (h a w ⟨hs, M, h1.perm (List.perm_middle.symm), h2, h3⟩)
/-- The end. -/
theorem EndsM.dfr {P : Program} {fn : Func} {R : Ending → World → Prop} {Q : Exit → Act → World → Prop} (E : EndsM P fn R Q) {t : Tmp} (hr : fn.results = #[.tmp t]) (D : Nat) :
    Ends P fn (fun e w => e ≠ .outgrown ∧ w.heap[D]? = some ddO ∧ R e (w.putObj D (.deferred none))) (bD D Q) := ⟨fun e a w h => E.all e (upD (mkD D) a) w (by
  have key : ∀ (v : Value), (results fn a.tmps).run P w = .ok v w → (results fn a.tmps).run P (w.putObj D (.deferred none)) = .ok v (w.putObj D (.deferred none)) := by
    intro v hv
    rw [results_tmp hr] at hv ⊢
    cases hv; rfl
  cases e with
  | normal =>
    obtain ⟨hd, v, hv, _, hD, hR⟩ := h
    show LeavesInM _ _ _ _ _ _ (a.defers ++ mkD D) _ _
    rw [hd]
    exact ⟨by simp, .inl ⟨D, _, rfl, run_takeDeferred hD, v, key v hv, hR⟩⟩
  | ret =>
    obtain ⟨hd, v, hv, _, hD, hR⟩ := h
    show LeavesInM _ _ _ _ _ _ (a.defers ++ mkD D) _ _
    rw [hd]
    exact ⟨by simp, .inl ⟨D, _, rfl, run_takeDeferred hD, v, key v hv, hR⟩⟩
  | panic ch =>
    obtain ⟨hd, _, hD, hR⟩ := h
    show LeavesInM _ _ _ _ _ _ (a.defers ++ mkD D) _ _
    rw [hd]
    exact ⟨by simp, .inl ⟨D, _, rfl, run_takeDeferred hD, hR⟩⟩
  | outgrown => exact absurd rfl h.1
  | exit id => exact h.elim
  | goto l => exact h.elim)⟩
/-- The world behind the end. -/
theorem XOk.shut {c : Cx} {F : List (Nat × Kn)} {H : List (Nat × HX)} {w : World} {M : Mem} {dk D : Nat} (h : XOk c F ((dk, .ho (.raw D ddO)) :: H) w M) : w.heap[D]? = some ddO ∧ St c.w0 c.M0 (w.putObj D (.deferred none)) M (HD H ++ c.Hr) := by
  have hS : St c.w0 c.M0 w M (.raw D ddO :: (HD H ++ c.Hr)) := h.st
  exact ⟨(hS.obj (i := 0) rfl).2.1, (hS.turn (k := 0) rfl _).drop _ (List.sublist_cons_self _ _)⟩
end Go.Eng
namespace Go.Eng
open Go.RowKit

section
variable {c : Cx} {B : Exit → Act → World → Prop} {k k' : List Fr} {m : Md} {s s' : XS} {O : Prop} {E : List Ck} {all : Array Oper} {rest : List Oper} {d : Nat} {ty : TypeId} {ps : String} {af : Array Edge}
theorem srun_ok {F : List (Nat × Kn)} {H : List (Nat × HX)} {w : World} {M : Mem} (hX : XOk c F H w M) {post : Act → Prop} : ∀ {l : List Oper} {L : XE} {O : Prop} {E : List Ck}, let t := qrun c.T c.N F H all l L O E; t.O → EOk t.E → RS c.P all w c.N post t.l t.L.d → O ∧ EOk E ∧ RS c.P all w c.N post l L.d
  | [], L, O, E => fun h1 h2 h3 => ⟨h1, h2, h3⟩
  | ⟨dst, op, ty, ps, af, gd⟩ :: rest, L, O, E => by
    intro t h1 h2 h3
    have ht : t = qrun c.T c.N F H all (⟨dst, op, ty, ps, af, gd⟩ :: rest) L O E := rfl
    unfold qrun at ht
    split at ht
    · rename_i d
      split at ht
      · rename_i W hW
        split at ht
        · rename_i v p E' hv
          split at ht
          · rename_i hd
            obtain ⟨O', hi, hO'⟩ := impQ_ok (W := W) (K := fun O' => qrun c.T c.N F H all rest ((d, W, v) :: L) O' (E' ++ E)) (ps := p) (O := O)
            rw [ht, hi] at h1 h2 h3
            obtain ⟨r1, r2, r3⟩ := srun_ok hX h1 h2 h3
            obtain ⟨hp, hO2⟩ := hO' r1
            exact ⟨hO2, (EOk.app r2).2, RS.v (gdOf_ok hW) (opV_d c.hT hX.f hX.st extEq hv (EOk.app r2).1 hp) hd r3⟩
          · rw [ht] at h1 h2 h3; exact ⟨h1, h2, h3⟩
        · rw [ht] at h1 h2 h3; exact ⟨h1, h2, h3⟩
      · rw [ht] at h1 h2 h3; exact ⟨h1, h2, h3⟩
    · rw [ht] at h1 h2 h3; exact ⟨h1, h2, h3⟩
/-- A region that draws: the first n operations only compute; the others come one behind the other. -/
theorem xdrawT (n : Nat) {id : Nat} {l : List Oper} {L' : XE} {O2 : Prop} {E2 : List Ck} (hl : ∀ ops Q l a w, c.W.list ops Q l a w → wpList c.P ops Q l a w) (h : run c.T c.N k m s = ⟨k', .code (.region id ⟨l⟩ true), s', O, E⟩) (hE : EOk E) (hO : O) (hm : c.P.follows .mixedOrders = true) (hB : Region.lexTailB .any l.toArray n = true)
    (hq : qrun c.T c.N s'.F s'.H l.toArray (l.take n) s'.L ((0 : Int) = 0) [] = ⟨[], L', O2, E2⟩) (hE2 : EOk E2) (hO2 : O2) (hn : XG c B k' (.ops l.toArray (l.drop n)) ⟨s'.F, s'.H, L'⟩) : XG c B k m s :=
  run_ok h hE hO fun a w ⟨h1, M, h2⟩ => c.W.draw (CW.regionT n h2.st hm hB (fun w1 hS => by
    have hX : XOk c s'.F s'.H w1 M := ⟨hS, h2.f, h2.le⟩
    have := srun_ok (all := l.toArray) hX (post := fun a' => wpList c.P l.toArray (post c B k') (l.drop n) a' w1) (l := l.take n) (L := s'.L) (O := (0 : Int) = 0) (E := [])
    rw [hq] at this
    exact (this hO2 hE2 (RS.nil fun a hs => hl _ _ _ _ _ (hn a w1 ⟨hs, M, hX⟩))).2.2) a h1)
/-- How a call ends whose twin's answer is r. -/
def QRet {α : Type} (w0 : World) (M0 M : Mem) (Rs : List HO) (T : TypeId) (r : PR α) (X : α → Int → Ending → World → Prop) : Ending → World → Prop := match r with
  | .ok x j => X x j
  | .er ec p => fun e w' => ∃ M', e = .panicked [wrongE T ec p] ∧ St w0 M0 w' M' Rs ∧ M.le M'
/-- A call that panics: the function panics, too. -/
theorem xcallE (ids : List Nat) {tw : TypeId} {ec p : Int} {xf : Operand} {f : FuncId} {fa fb : List Value} {E1 E2 : List Ck} {xs : List Operand} {tys : Array TypeId} {vs : List XV} {A R : List (Nat × HX)} {dd : Option Tmp}
    (h : run c.T c.N k m s = ⟨k', .ops all (⟨dd, .call ⟨.value xf, ⟨xs⟩, tys⟩, ty, ps, af, none⟩ :: rest), s', O, E⟩) (hE : EOk E) (hO : O) (hf : callee s'.L xf = some (f, fa, fb, E1)) (ct : CT c.P f) (hx : opds s'.L .t xs = some (vs, E2)) (hE1 : EOk (E1 ++ E2))
    (hA : hsel ids s'.H = some (A, R)) (hc : ∀ w M, St c.w0 c.M0 w M (HD A ++ (HD R ++ c.Hr)) → FOk M s'.F → Calls c.P f (fa ++ vs.map XV.d ++ fb).toArray w (fun e w' => ∃ M', e = .panicked [wrongE tw ec p] ∧ St c.w0 c.M0 w' M' (HD R ++ c.Hr) ∧ M.le M'))
    (hp : ∀ a w M, Slots a c.N s'.L.d → St c.w0 c.M0 w M (HD R ++ c.Hr) → c.M1.le M → post c B k' (.panic [wrongE tw ec p]) a w) : XG c B k m s := by
  refine xop h hE hO fun w M hX => ?_
  have hSt : St c.w0 c.M0 w M (HD A ++ (HD R ++ c.Hr)) := hX.st.perm (by rw [← List.append_assoc]; exact (hsel_ok hA).append_right _)
  refine call_any ct hf hE1.app.1 (opds_d hx hE1.app.2) (hc w M hSt hX.f) (fun v w' hr => ?_) (fun ch w' hr ac hs => ?_) (fun w' hr => ?_)
  · obtain ⟨M', he, _⟩ := hr; cases he
  · obtain ⟨M', he, hS, hle⟩ := hr
    cases he
    exact hp ac w' M' hs hS (hX.le.trans hle)
  · obtain ⟨M', he, _⟩ := hr; cases he
/-- A panic that the text raises. -/
theorem xpanic {dd : Option Tmp} {x : Operand} {v : XV} {t : TypeId} {u : Value} {E1 : List Ck} (h : run c.T c.N k m s = ⟨k', .ops all (⟨dd, .panic x, ty, ps, af, none⟩ :: rest), s', O, E⟩) (hE : EOk E) (hO : O) (hx : opd s'.L .t x = some (v, E1)) (hE1 : EOk E1) (hv : v.d = .iface t u)
    (hp : ∀ a w M, Slots a c.N s'.L.d → XOk c s'.F s'.H w M → post c B k' (.panic [{ v := .iface t u, recovered := false }]) a w) : XG c B k m s :=
  xop h hE hO fun w M hX => RL.panic (by have := opd_d hx hE1; rw [hv] at this; exact this) fun a hs => hp a w M hs hX
/-- A panic passes all that stands around it. -/
theorem post_panic {ch : List PanicEntry} : ∀ (k : List Fr) {a : Act} {w : World}, B (.panic ch) a w → post c B k (.panic ch) a w
  | [], _, _, h => h
  | .seq y :: k, _, _, h => post_panic k h
  | .block id :: k, _, _, h => post_panic k h
  | .scope :: k, _, _, h => post_panic k h
  | .loop J :: k, _, _, h => post_panic k h
def nol : List Fr → Bool
  | [] => true
  | .loop _ :: _ => false
  | _ :: k => nol k
theorem post_hr {X : List HO} : ∀ (k : List Fr), nol k = true → post { c with Hr := X } B k = post c B k
  | [], _ => rfl
  | .seq y :: k, h => by
    have ih := post_hr (X := X) k h
    show Exit.then (c.W.wp y (post { c with Hr := X } B k)) (post { c with Hr := X } B k) = _
    rw [ih]; rfl
  | .block id :: k, h => by
    have ih := post_hr (X := X) k h
    show Exit.inBlock id (post { c with Hr := X } B k) = _
    rw [ih]; rfl
  | .scope :: k, h => by
    have ih := post_hr (X := X) k h
    show Exit.noGoto (post { c with Hr := X } B k) = _
    rw [ih]; rfl
  | .loop J :: k, h => by cases h
/-- Things of one's own, laid aside. -/
theorem xfreeze (ids : List Nat) {A R : List (Nat × HX)} (hA : hsel ids s.H = some (A, R)) (hk : nol k = true) (h : XG { c with Hr := HD A ++ c.Hr } B k m ⟨s.F, R, s.L⟩) : XG c B k m s := by
  intro a w hs
  obtain ⟨h1, M, h2⟩ := hs
  have hSt : St c.w0 c.M0 w M (HD R ++ (HD A ++ c.Hr)) := h2.st.perm (by
    rw [← List.append_assoc]
    exact (List.perm_append_comm.trans (hsel_ok hA)).append_right _)
  have := h a w ⟨h1, M, hSt, h2.f, h2.le⟩
  rw [post_hr k hk] at this
  exact this
end
end Go.Eng
namespace Go.Eng
open Go.RowKit

def isFigB (b : UInt8) : Bool := isFig (b.toNat : Int)
/-- The place behind the figures from a place on. -/
def runTo (s : Str) (i : Int) : Int := i + len ((from' s i).takeWhile isFigB)
def dropZ (s : Str) : Str := s.dropWhile (([48] : Str).contains ·)
def trimZ (s : Str) : Str := Lib.trimRightS s [48]
def decVal (s : Str) : Int := s.foldl (fun n b => n * 10 + ((b.toNat : Int) - 48)) 0

theorem from_cons (s : Str) (i : Int) (h0 : 0 ≤ i) (h1 : i < len s) : ∃ b, from' s i = b :: from' s (i + 1) ∧ byteAt s i = (b.toNat : Int) := by
  have h : i.toNat < s.length := by unfold len at h1; omega
  refine ⟨s[i.toNat], ?_, by simp [byteAt, h]⟩
  unfold from'
  rw [show (i + 1).toNat = i.toNat + 1 from by omega]
  exact List.drop_eq_getElem_cons h
theorem from_nil (s : Str) (i : Int) (h1 : len s ≤ i) : from' s i = [] := by
  unfold from'; rw [List.drop_eq_nil_iff]; unfold len at h1; omega
theorem from_len (s : Str) (i : Int) (h0 : 0 ≤ i) (h1 : i ≤ len s) : len (from' s i) = len s - i := by
  unfold from' len at *; rw [List.length_drop]; omega
theorem runTo_step {s : Str} {i : Int} (h0 : 0 ≤ i) (h1 : i < len s) (h : isFig (byteAt s i) = true) : runTo s (i + 1) = runTo s i := by
  obtain ⟨b, h2, h3⟩ := from_cons s i h0 h1
  unfold runTo
  rw [h2, List.takeWhile_cons, show isFigB b = true from by unfold isFigB; rw [← h3]; exact h]
  simp [len]; omega
theorem runTo_stop {s : Str} {i : Int} (h0 : 0 ≤ i) (h1 : i < len s) (h : isFig (byteAt s i) = false) : runTo s i = i := by
  obtain ⟨b, h2, h3⟩ := from_cons s i h0 h1
  unfold runTo
  rw [h2, List.takeWhile_cons, show isFigB b = false from by unfold isFigB; rw [← h3]; exact h]
  simp [len]
theorem runTo_end {s : Str} {i : Int} (h1 : len s ≤ i) : runTo s i = i := by
  unfold runTo; rw [from_nil s i h1]; simp [len]
theorem runTo_bd (s : Str) (i : Int) (h0 : 0 ≤ i) (h1 : i ≤ len s) : i ≤ runTo s i ∧ runTo s i ≤ len s := by
  have h2 := from_len s i h0 h1
  have h3 := (List.takeWhile_sublist isFigB (l := from' s i)).length_le
  unfold runTo len at *; omega
theorem runTo_fig {s : Str} {i k : Int} (h0 : 0 ≤ i) (h1 : i ≤ k) (h2 : k < runTo s i) : isFig (byteAt s k) = true := by
  by_cases hl : i < len s
  · by_cases hf : isFig (byteAt s i) = true
    · by_cases hk : i = k
      · subst hk; exact hf
      · rw [← runTo_step h0 hl hf] at h2
        exact runTo_fig (i := i + 1) (by omega) (by omega) h2
    · rw [Bool.not_eq_true] at hf
      rw [runTo_stop h0 hl hf] at h2; omega
  · rw [runTo_end (by omega)] at h2; omega
termination_by (len s - i).toNat
/-- A1: a number of figures and a power. -/
def mk1 (neg : Bool) (s : Str) (e : Int) : Nd × Int :=
  if figs s then
    if dropZ s == [] then (⟨3, 0, [], [], false, 0⟩, 0)
    else if decide (e < -100000000) || decide (100000000 < e) then (noNd, 2)
    else
      if decide (100 < len (trimZ (dropZ s))) || decide (e + (len (dropZ s) - len (trimZ (dropZ s))) < -1000) || decide (1000 < len (trimZ (dropZ s)) + (e + (len (dropZ s) - len (trimZ (dropZ s))))) then (noNd, 2)
      else (⟨3, 0, [], trimZ (dropZ s), neg, e + (len (dropZ s) - len (trimZ (dropZ s)))⟩, 0)
  else (noNd, 4)

theorem len_app {α : Type} (a b : List α) : len (a ++ b) = len a + len b := by unfold len; simp
theorem len_cons {α : Type} (a : α) (b : List α) : len (a :: b) = len b + 1 := by unfold len; simp
theorem from_one {α : Type} (a : α) (b : List α) : from' (a :: b) 1 = b := rfl
theorem len_nil {α : Type} : len ([] : List α) = 0 := rfl
theorem sub_bd {α : Type} (s : List α) (i j : Int) : 0 ≤ len (Eng.sub s i j) ∧ len (Eng.sub s i j) ≤ len s := by unfold Eng.sub len; simp; omega
theorem sub_len {α : Type} {s : List α} {i j : Int} (h0 : 0 ≤ i) (h1 : i ≤ j) (h2 : j ≤ len s) : len (Eng.sub s i j) = j - i := by unfold Eng.sub len at *; simp; omega
theorem from_bd {α : Type} (s : List α) (i : Int) : 0 ≤ len (from' s i) ∧ len (from' s i) ≤ len s := by unfold from' len; simp
theorem dropZ_len (s : Str) : len (dropZ s) ≤ len s := by
  have := (List.dropWhile_sublist (([48] : Str).contains ·) (l := s)).length_le
  unfold dropZ len; omega
theorem trimZ_len (s : Str) : len (trimZ s) ≤ len s := by
  have := (List.dropWhile_sublist (([48] : Str).contains ·) (l := s.reverse)).length_le
  unfold trimZ Lib.trimRightS len; simp at *; omega

theorem dropWhile_nil {α : Type} {p : α → Bool} : ∀ {l : List α}, l.dropWhile p = [] → ∀ x ∈ l, p x = true
  | [], _, x, hx => by cases hx
  | a :: l, h, x, hx => by
    rw [List.dropWhile_cons] at h
    split at h
    · rename_i ha
      rcases List.mem_cons.1 hx with rfl | hx
      · exact ha
      · exact dropWhile_nil h x hx
    · cases h
theorem dropZ_first {s : Str} {b : UInt8} {l : Str} (h : dropZ s = b :: l) : (([48] : Str).contains b) = false := by
  unfold dropZ at h
  induction s with
  | nil => cases h
  | cons a s ih =>
    rw [List.dropWhile_cons] at h
    split at h
    · exact ih h
    · rename_i hn; cases h; simpa using hn
theorem trimZ_pos (s : Str) : ¬ dropZ s = [] → 0 < len (trimZ (dropZ s)) := by
  intro h
  cases hd : dropZ s with
  | nil => exact absurd hd h
  | cons b l =>
    have hb := dropZ_first hd
    have : trimZ (b :: l) ≠ [] := by
      unfold trimZ Lib.trimRightS
      intro hr
      rw [List.reverse_eq_nil_iff] at hr
      have := dropWhile_nil hr b (by simp)
      rw [this] at hb; cases hb
    unfold len
    have := List.length_pos_iff.2 this
    omega

theorem decDigits_len (u : Nat) : (Lib.decDigits u).length ≤ u + 1 := by
  induction u using Nat.strongRecOn with
  | _ u ih =>
    rw [Lib.decDigits]
    split
    · simp
    · have := ih (u / 10) (by omega)
      simp only [List.length_append, List.length_cons, List.length_nil]; omega
theorem itoa_len (n : Int) : 0 ≤ len (Lib.itoa n) ∧ len (Lib.itoa n) ≤ n.natAbs + 2 := by
  unfold Lib.itoa len
  have h1 := decDigits_len n.natAbs
  have h2 := decDigits_len n.toNat
  split
  · simp only [List.length_cons]; omega
  · omega

/-- Does one of some signs stand at a place? -/
def isAt (s signs : Str) (p : Int) : Bool := decide (p < len s) && decide (0 ≤ Lib.indexByte signs (byteAt s p).toNat.toUInt8)
def isTo (s signs : Str) (p : Int) : Int := if isAt s signs p then p + 1 else p
theorem isAt_lt {s signs : Str} {p : Int} (h : isAt s signs p = true) : p < len s := by unfold isAt at h; simp only [Bool.and_eq_true, decide_eq_true_eq] at h; exact h.1
theorem isTo_bd (s signs : Str) (p : Int) (h : p ≤ len s) : p ≤ isTo s signs p ∧ isTo s signs p ≤ len s := by
  unfold isTo; split
  · rename_i h1; have := isAt_lt h1; omega
  · omega
theorem isTo_yes {s signs : Str} {p : Int} (h : isAt s signs p = true) : isTo s signs p = p + 1 := by unfold isTo; rw [if_pos h]
theorem isTo_no {s signs : Str} {p : Int} (h : isAt s signs p = false) : isTo s signs p = p := by unfold isTo; rw [if_neg (by rw [h]; simp)]
/-- A2: a number of a sign, figures, a power and what stands behind e. -/
def fin1 (neg : Bool) (fg : Str) (x : Int) (pw : Str) (side : Int) : Nd × Int × Int :=
  if 6 < len (dropZ pw) then (noNd, 0, 2)
  else ((mk1 neg fg (x + side * decVal (dropZ pw))).1, 0, (mk1 neg fg (x + side * decVal (dropZ pw))).2)
/-- Behind e. -/
def exp1 (s : Str) (neg : Bool) (fg : Str) (x : Int) (c0 : Int) : Nd × Int × Int :=
  let m := isAt s [45] c0
  let c1 := if m then isTo s [45] c0 else isTo s [43] (isTo s [45] c0)
  let c2 := runTo s c1
  let pw := Eng.sub s c1 c2
  if pw = [] ∨ c2 < len s then (noNd, c2, 1) else fin1 neg fg x pw (if m then -1 else 1)
/-- Behind the figures. -/
def rest1 (s : Str) (neg : Bool) (fg : Str) (x : Int) (b : Int) : Nd × Int × Int :=
  if isAt s [101, 69] b then exp1 s neg fg x (isTo s [101, 69] b)
  else if isTo s [101, 69] b < len s then (noNd, isTo s [101, 69] b, 1) else fin1 neg fg x [] 1
/-- A2: a text's number; or where it is none. -/
def read1 (s : Str) : Nd × Int × Int :=
  let neg := isAt s [45] 0
  let a0 := isTo s [45] 0
  let b0 := runTo s a0
  let fg := Eng.sub s a0 b0
  if 1 < len fg ∧ byteAt fg 0 = 48 then (noNd, a0 + 1, 1)
  else if fg = [] then (noNd, b0, 1)
  else if isAt s [46] b0 then
    let b2 := runTo s (isTo s [46] b0)
    let part := Eng.sub s (isTo s [46] b0) b2
    if part = [] then (noNd, b2, 1) else rest1 s neg (fg ++ part) (-(len part)) b2
  else rest1 s neg fg 0 (isTo s [46] b0)
theorem sub_run {s : Str} {i : Int} (h0 : 0 ≤ i) : Eng.sub s i (runTo s i) = (from' s i).takeWhile isFigB := by
  have h1 : (runTo s i).toNat - i.toNat = ((from' s i).takeWhile isFigB).length := by unfold runTo len; omega
  unfold Eng.sub; rw [h1]
  exact (List.prefix_iff_eq_take.1 (List.takeWhile_prefix isFigB)).symm
theorem takeWhile_all {α : Type} {p : α → Bool} : ∀ {l : List α}, ∀ x ∈ l.takeWhile p, p x = true
  | [], x, hx => by cases hx
  | a :: l, x, hx => by
    rw [List.takeWhile_cons] at hx
    split at hx
    · rename_i ha
      rcases List.mem_cons.1 hx with rfl | hx
      · exact ha
      · exact takeWhile_all x hx
    · cases hx
theorem figs_run {s : Str} {i : Int} (h0 : 0 ≤ i) : ∀ b ∈ Eng.sub s i (runTo s i), isFigB b = true := by rw [sub_run h0]; exact takeWhile_all
theorem figs_drop {l : Str} (h : ∀ b ∈ l, isFigB b = true) : ∀ b ∈ dropZ l, isFigB b = true := fun b hb => h b ((List.dropWhile_sublist _).subset hb)
theorem decVal_bd : ∀ (l : Str) (n : Int), (∀ b ∈ l, isFigB b = true) → 0 ≤ n → 0 ≤ l.foldl (fun n b => n * 10 + ((b.toNat : Int) - 48)) n ∧ l.foldl (fun n b => n * 10 + ((b.toNat : Int) - 48)) n < (n + 1) * 10 ^ l.length
  | [], n, _, h0 => by simp; omega
  | a :: l, n, h, h0 => by
    have ha := h a (by simp)
    unfold isFigB isFig at ha
    simp only [Bool.and_eq_true, decide_eq_true_eq] at ha
    have := decVal_bd l (n * 10 + ((a.toNat : Int) - 48)) (fun b hb => h b (by simp [hb])) (by omega)
    rw [List.foldl_cons]
    refine ⟨this.1, Int.lt_of_lt_of_le this.2 ?_⟩
    have h1 : (n + 1) * 10 ^ (a :: l).length = ((n + 1) * 10) * 10 ^ l.length := by rw [List.length_cons, Int.pow_succ, Int.mul_comm (10 ^ l.length) 10, ← Int.mul_assoc]
    rw [h1]
    exact Int.mul_le_mul_of_nonneg_right (by omega) (Int.le_of_lt (Int.pow_pos (by decide : (0 : Int) < 10)))
theorem parse_figs : ∀ (l : Str) (n : Nat), (∀ b ∈ l, isFigB b = true) → (n + 1) * 10 ^ l.length ≤ 10000000 → Lib.parseUint10 n l = .ok (l.foldl (fun n b => n * 10 + ((b.toNat : Int) - 48)) (n : Int)).toNat
  | [], n, _, _ => by simp [Lib.parseUint10]
  | a :: l, n, h, hl => by
    have ha := h a (by simp)
    unfold isFigB isFig at ha
    simp only [Bool.and_eq_true, decide_eq_true_eq] at ha
    have hn : n < 10000000 := by
      have : (n + 1) * 1 ≤ (n + 1) * 10 ^ (a :: l).length := Nat.mul_le_mul_left _ (Nat.pow_pos (by decide))
      omega
    have ih := parse_figs l (n * 10 + (a.toNat - 48)) (fun b hb => h b (by simp [hb])) (by
      have h1 : (n + 1) * 10 ^ (a :: l).length = ((n + 1) * 10) * 10 ^ l.length := by rw [List.length_cons, Nat.pow_succ, Nat.mul_comm (10 ^ l.length) 10, ← Nat.mul_assoc]
      rw [h1] at hl
      exact Nat.le_trans (Nat.mul_le_mul_right _ (by omega)) hl)
    rw [Lib.parseUint10, if_pos (by omega), if_neg (by omega), if_neg (by omega), ih, List.foldl_cons]
    congr 3
    omega
theorem atoi_figs {l : Str} (h : ∀ b ∈ l, isFigB b = true) (hl : len l ≤ 6) : Lib.atoiAll ([48] ++ l) = .ok (decVal l) ∧ 0 ≤ decVal l ∧ decVal l < 1000000 := by
  have h1 := decVal_bd l 0 h (by omega)
  have h2 : (10 : Int) ^ l.length ≤ 10 ^ 6 := by
    have : (10 : Nat) ^ l.length ≤ 10 ^ 6 := Nat.pow_le_pow_right (by omega) (by unfold len at hl; omega)
    exact_mod_cast this
  have h3 := parse_figs l 0 h (by
    have : (10 : Nat) ^ l.length ≤ 10 ^ 6 := Nat.pow_le_pow_right (by omega) (by unfold len at hl; omega)
    omega)
  have h4 : 0 ≤ decVal l ∧ decVal l < 1000000 := by unfold decVal; omega
  refine ⟨?_, h4⟩
  show Lib.atoiAll (48 :: l) = _
  have hm : Lib.parseMag (48 :: l) = .ok (decVal l).toNat := by
    unfold Lib.parseMag
    rw [if_neg (by simp), Lib.parseUint10, if_pos (by decide), if_neg (by decide), if_neg (by decide)]
    exact h3
  unfold Lib.atoiAll
  dsimp only
  rw [if_neg (by decide : ¬ ((48 : UInt8).toNat = 43 ∨ (48 : UInt8).toNat = 45)), hm]
  dsimp only
  rw [if_neg (by omega), if_neg (by intro hh; exact absurd hh.1 (by decide)), if_neg (by decide)]
  congr 1; omega
end Go.Eng
namespace Go.Eng
open Go.RowKit

/-- The escapes of one letter, as the program's map has them. -/
def shortKV : List KV := [⟨34, .int .i32 34, 0⟩, ⟨92, .int .i32 92, 1⟩, ⟨47, .int .i32 47, 2⟩, ⟨98, .int .i32 8, 3⟩, ⟨102, .int .i32 12, 4⟩, ⟨110, .int .i32 10, 5⟩, ⟨114, .int .i32 13, 6⟩, ⟨116, .int .i32 9, 7⟩]
def rOf (p : KV) : Int := match p.val with | .int _ x => x | _ => 0
theorem short_val : ∀ p ∈ shortKV, p.val = .int .i32 (rOf p) := by
  intro p hp
  simp only [shortKV, List.mem_cons, List.not_mem_nil, or_false] at hp
  rcases hp with rfl | rfl | rfl | rfl | rfl | rfl | rfl | rfl <;> rfl
theorem short_hold : ∀ p ∈ shortKV, p.born < 8 := by
  intro p hp
  simp only [shortKV, List.mem_cons, List.not_mem_nil, or_false] at hp
  rcases hp with rfl | rfl | rfl | rfl | rfl | rfl | rfl | rfl <;> decide
theorem short_nodup : (shortKV.map (·.born)).Nodup := by decide
theorem short_inj : ∀ p ∈ shortKV, ∀ q ∈ shortKV, rOf p = rOf q → p = q := by
  intro p hp q hq h
  simp only [shortKV, List.mem_cons, List.not_mem_nil, or_false] at hp hq
  rcases hp with rfl | rfl | rfl | rfl | rfl | rfl | rfl | rfl <;> rcases hq with rfl | rfl | rfl | rfl | rfl | rfl | rfl | rfl <;> first | rfl | (exfalso; revert h; decide)
/-- What such a letter stands for. -/
def shIs (c : Int) : Bool := c == 34 || c == 92 || c == 47 || c == 98 || c == 102 || c == 110 || c == 114 || c == 116
def shV (c : Int) : Int := if c = 98 then 8 else if c = 102 then 12 else if c = 110 then 10 else if c = 114 then 13 else if c = 116 then 9 else if shIs c then c else 0
theorem short_get (c : Int) : (kget shortKV c).getD (.int .i32 0) = .int .i32 (shV c) ∧ (kget shortKV c).isSome = shIs c := by
  simp only [shortKV, kget, beq_iff_eq]
  by_cases h1 : c = 34
  · subst h1; exact ⟨rfl, rfl⟩
  by_cases h2 : c = 92
  · subst h2; exact ⟨rfl, rfl⟩
  by_cases h3 : c = 47
  · subst h3; exact ⟨rfl, rfl⟩
  by_cases h4 : c = 98
  · subst h4; exact ⟨rfl, rfl⟩
  by_cases h5 : c = 102
  · subst h5; exact ⟨rfl, rfl⟩
  by_cases h6 : c = 110
  · subst h6; exact ⟨rfl, rfl⟩
  by_cases h7 : c = 114
  · subst h7; exact ⟨rfl, rfl⟩
  by_cases h8 : c = 116
  · subst h8; exact ⟨rfl, rfl⟩
  rw [if_neg h1, if_neg h2, if_neg h3, if_neg h4, if_neg h5, if_neg h6, if_neg h7, if_neg h8]
  have : shIs c = false := by simp [shIs, h1, h2, h3, h4, h5, h6, h7, h8]
  simp [shV, this, h4, h5, h6, h7, h8]
/-- Which letter is a rune's escape. -/
def letIs (r : Int) : Bool := r == 34 || r == 92 || r == 8 || r == 12 || r == 10 || r == 13 || r == 9
def letV (r : Int) : Int := if r = 8 then 98 else if r = 12 then 102 else if r = 10 then 110 else if r = 13 then 114 else if r = 9 then 116 else if letIs r then r else 0
/-- The letters of runes, of those entries that are seen. -/
def Lets (seen : Array Nat) (l : List KV) : Prop :=
  (l.map (·.key)).Nodup ∧ (∀ p ∈ shortKV, seen.contains p.born = true → kget l (rOf p) = some (.int .u8 p.key)) ∧ ∀ r, (∀ p ∈ shortKV, seen.contains p.born = true → rOf p ≠ r) → kget l r = none
theorem kget_none {l : List KV} {x : Int} (h : kget l x = none) : ∀ p ∈ l, p.key ≠ x := by
  induction l with
  | nil => intro p hp; cases hp
  | cons a l ih =>
    intro p hp
    unfold kget at h
    split at h
    · cases h
    · rename_i hn
      rcases List.mem_cons.1 hp with rfl | hp
      · intro e; subst e; simp at hn
      · exact ih h p hp
theorem kput_none {l : List KV} {x : Int} {v : Value} (h : kget l x = none) : kput l x v = none := by
  induction l with
  | nil => rfl
  | cons a l ih =>
    unfold kget at h; unfold kput
    split at h
    · cases h
    · rename_i hn; rw [if_neg hn, ih h]; rfl
theorem kget_snoc (l : List KV) (p : KV) (x : Int) (h : kget l p.key = none) : kget (l ++ [p]) x = if x == p.key then some p.val else kget l x := by
  induction l with
  | nil => simp [kget]
  | cons a l ih =>
    have hn : ¬ (p.key == a.key) = true := by intro e; simp [kget, e] at h
    have h' : kget l p.key = none := by simpa [kget, hn] using h
    simp only [List.cons_append, kget, ih h']
    by_cases e1 : (x == a.key) = true
    · rw [if_pos e1, if_pos e1]
      have : ¬ (x == p.key) = true := by
        intro e2; apply hn
        have a1 : x = a.key := by simpa using e1
        have a2 : x = p.key := by simpa using e2
        simp [← a1, ← a2]
      rw [if_neg this]
    · rw [if_neg e1, if_neg e1]
theorem kget_kdel (l : List KV) (x y : Int) (h : (l.map (·.key)).Nodup) : kget (kdel l x) y = if y == x then none else kget l y := by
  induction l with
  | nil => simp [kdel, kget]
  | cons a l ih =>
    rw [List.map_cons, List.nodup_cons] at h
    have ih' := ih h.2
    unfold kdel
    by_cases e : (x == a.key) = true
    · rw [if_pos e]
      have e' : x = a.key := by simpa using e
      by_cases f : (y == x) = true
      · rw [if_pos f]
        have f' : y = x := by simpa using f
        cases hk : kget l y with
        | none => rfl
        | some v =>
          exfalso; apply h.1
          have : ∃ p ∈ l, p.key = y := by
            clear ih ih' h
            induction l with
            | nil => cases hk
            | cons b l ih2 =>
              unfold kget at hk
              split at hk
              · rename_i hb; exact ⟨b, by simp, by simpa using (by simpa using hb : y = b.key).symm⟩
              · obtain ⟨p, hp, hq⟩ := ih2 hk; exact ⟨p, by simp [hp], hq⟩
          obtain ⟨p, hp, hq⟩ := this
          exact List.mem_map.2 ⟨p, hp, by rw [hq, f', e']⟩
      · rw [if_neg f]
        rw [show kget (a :: l) y = if y == a.key then some a.val else kget l y from rfl, if_neg (by rw [← e']; exact f)]
    · rw [if_neg e]
      unfold kget
      by_cases f : (y == a.key) = true
      · rw [if_pos f, if_pos f]
        have : ¬ (y == x) = true := by
          intro g; apply e
          have a1 : y = a.key := by simpa using f
          have a2 : y = x := by simpa using g
          simp [← a1, ← a2]
        rw [if_neg this]
      · rw [if_neg f, if_neg f]; exact ih'
theorem Lets.step {seen : Array Nat} {l : List KV} {c : Nat} (h : Lets seen l) {p : KV} (hp : p ∈ shortKV) (hn : ¬ seen.contains p.born = true) : Lets (seen.push p.born) (kset l c (rOf p) (.int .u8 p.key)) := by
  obtain ⟨h1, h2, h3⟩ := h
  have hne : ∀ q ∈ shortKV, seen.contains q.born = true → rOf q ≠ rOf p := by
    intro q hq hs e
    have := short_inj q hq p hp e
    subst this; exact hn hs
  have h0 : kget l (rOf p) = none := h3 _ hne
  have hk : kset l c (rOf p) (.int .u8 p.key) = l ++ [⟨rOf p, .int .u8 p.key, c⟩] := by unfold kset; rw [kput_none h0]
  rw [hk]
  have hc : ∀ q : KV, (seen.push p.born).contains q.born = true ↔ seen.contains q.born = true ∨ q.born = p.born := by
    intro q; simp [Array.contains_iff_mem, Array.mem_push]
  refine ⟨?_, ?_, ?_⟩
  · rw [List.map_append, List.nodup_append]
    refine ⟨h1, by simp, ?_⟩
    intro x hx y hy
    simp only [List.map_cons, List.map_nil, List.mem_singleton] at hy
    subst hy
    obtain ⟨q, hq, rfl⟩ := List.mem_map.1 hx
    exact kget_none h0 q hq
  · intro q hq hs
    rw [kget_snoc _ _ _ h0]
    rcases (hc q).1 hs with hs | hs
    · rw [if_neg (by simpa using hne q hq hs)]; exact h2 q hq hs
    · have : q = p := by
        have hnd := short_nodup
        simp only [shortKV, List.mem_cons, List.not_mem_nil, or_false] at hp hq
        rcases hp with rfl | rfl | rfl | rfl | rfl | rfl | rfl | rfl <;> rcases hq with rfl | rfl | rfl | rfl | rfl | rfl | rfl | rfl <;> first | rfl | (exfalso; revert hs; decide)
      subst this; simp
  · intro r hr
    have hpr : rOf p ≠ r := hr p hp ((hc p).2 (.inr rfl))
    rw [kget_snoc _ _ _ h0, if_neg (by simpa using fun e => hpr e.symm)]
    exact h3 r fun q hq hs => hr q hq ((hc q).2 (.inl hs))
theorem letG_end {seen : Array Nat} {l : List KV} (h : Lets seen l) (hall : ∀ p ∈ shortKV, seen.contains p.born = true) (r : Int) :
    (kget (kdel l 47) r).getD (.int .u8 0) = .int .u8 (letV r) ∧ (kget (kdel l 47) r).isSome = letIs r := by
  obtain ⟨h1, h2, h3⟩ := h
  rw [kget_kdel _ _ _ h1]
  have hs : ∀ p ∈ shortKV, kget l (rOf p) = some (.int .u8 p.key) := fun p hp => h2 p hp (hall p hp)
  by_cases e0 : r = 47
  · subst e0; exact ⟨rfl, rfl⟩
  rw [if_neg (by simpa using e0)]
  by_cases e1 : r = 34
  · subst e1; have := hs ⟨34, .int .i32 34, 0⟩ (by simp [shortKV]); rw [show rOf ⟨34, .int .i32 34, 0⟩ = 34 from rfl] at this; rw [this]; exact ⟨rfl, rfl⟩
  by_cases e2 : r = 92
  · subst e2; have := hs ⟨92, .int .i32 92, 1⟩ (by simp [shortKV]); rw [show rOf ⟨92, .int .i32 92, 1⟩ = 92 from rfl] at this; rw [this]; exact ⟨rfl, rfl⟩
  by_cases e3 : r = 8
  · subst e3; have := hs ⟨98, .int .i32 8, 3⟩ (by simp [shortKV]); rw [show rOf ⟨98, .int .i32 8, 3⟩ = 8 from rfl] at this; rw [this]; exact ⟨rfl, rfl⟩
  by_cases e4 : r = 12
  · subst e4; have := hs ⟨102, .int .i32 12, 4⟩ (by simp [shortKV]); rw [show rOf ⟨102, .int .i32 12, 4⟩ = 12 from rfl] at this; rw [this]; exact ⟨rfl, rfl⟩
  by_cases e5 : r = 10
  · subst e5; have := hs ⟨110, .int .i32 10, 5⟩ (by simp [shortKV]); rw [show rOf ⟨110, .int .i32 10, 5⟩ = 10 from rfl] at this; rw [this]; exact ⟨rfl, rfl⟩
  by_cases e6 : r = 13
  · subst e6; have := hs ⟨114, .int .i32 13, 6⟩ (by simp [shortKV]); rw [show rOf ⟨114, .int .i32 13, 6⟩ = 13 from rfl] at this; rw [this]; exact ⟨rfl, rfl⟩
  by_cases e7 : r = 9
  · subst e7; have := hs ⟨116, .int .i32 9, 7⟩ (by simp [shortKV]); rw [show rOf ⟨116, .int .i32 9, 7⟩ = 9 from rfl] at this; rw [this]; exact ⟨rfl, rfl⟩
  have hn : kget l r = none := h3 r (by
    intro p hp _
    simp only [shortKV, List.mem_cons, List.not_mem_nil, or_false] at hp
    rcases hp with rfl | rfl | rfl | rfl | rfl | rfl | rfl | rfl <;> simp only [rOf] <;> omega)
  have hi : letIs r = false := by simp [letIs, e1, e2, e3, e4, e5, e6, e7]
  rw [hn]; simp [letV, hi, e3, e4, e5, e6, e7]
theorem filt_lt {α : Type} (f g : α → Bool) : ∀ l : List α, (l.filter (fun q => !(f q || g q))).length ≤ (l.filter (fun q => !f q)).length ∧ ((∃ p ∈ l, f p = false ∧ g p = true) → (l.filter (fun q => !(f q || g q))).length < (l.filter (fun q => !f q)).length)
  | [] => ⟨Nat.le_refl _, fun ⟨p, hp, _⟩ => by cases hp⟩
  | a :: l => by
    obtain ⟨h1, h2⟩ := filt_lt f g l
    rw [List.filter_cons, List.filter_cons]
    cases hf : f a <;> cases hg : g a <;> simp only [Bool.or_false, Bool.or_true, Bool.false_or, Bool.true_or, Bool.not_false, Bool.not_true, if_true, if_false, Bool.false_eq_true, List.length_cons]
    · refine ⟨by omega, fun ⟨p, hp, h3, h4⟩ => ?_⟩
      rcases List.mem_cons.1 hp with rfl | hp
      · rw [hg] at h4; cases h4
      · have := h2 ⟨p, hp, h3, h4⟩; omega
    · exact ⟨by omega, fun _ => by omega⟩
    · refine ⟨by omega, fun ⟨p, hp, h3, h4⟩ => ?_⟩
      rcases List.mem_cons.1 hp with rfl | hp
      · rw [hf] at h3; cases h3
      · exact h2 ⟨p, hp, h3, h4⟩
    · refine ⟨by omega, fun ⟨p, hp, h3, h4⟩ => ?_⟩
      rcases List.mem_cons.1 hp with rfl | hp
      · rw [hf] at h3; cases h3
      · exact h2 ⟨p, hp, h3, h4⟩
theorem lets_meas {seen : Array Nat} {p : KV} (hp : p ∈ shortKV) (hn : ¬ seen.contains p.born = true) : (shortKV.filter (fun q => !(seen.push p.born).contains q.born)).length < (shortKV.filter (fun q => !seen.contains q.born)).length := by
  have hc : (fun q : KV => !(seen.push p.born).contains q.born) = fun q => !(seen.contains q.born || q.born == p.born) := by
    funext q; congr 1; rw [Bool.eq_iff_iff]; simp [Array.contains_iff_mem, Array.mem_push]
  rw [hc]
  exact (filt_lt (fun q : KV => seen.contains q.born) (fun q => q.born == p.born) shortKV).2 ⟨p, hp, by simpa using hn, by simp⟩
/-- A figure of sixteen; below 0: none. -/
def hexV (b : UInt8) : Int := if 48 ≤ b.toNat ∧ b.toNat ≤ 57 then b.toNat - 48 else if 97 ≤ b.toNat ∧ b.toNat ≤ 102 then b.toNat - 87 else if 65 ≤ b.toNat ∧ b.toNat ≤ 70 then b.toNat - 55 else -1
def hexOk (l : Str) : Bool := l.all (fun b => decide (0 ≤ hexV b))
def hexVal (l : Str) : Int := l.foldl (fun n b => n * 16 + hexV b) 0
def numP (s : Str) : Int := if len s < 6 then -1 else if Lib.hasPrefix s [92, 117] = false then -1 else if hexOk (Eng.sub s 2 6) then hexVal (Eng.sub s 2 6) else -1
def escP (s : Str) : Int × Int :=
  if len s < 2 then (0, 0)
  else if shIs (byteAt s 1) then (shV (byteAt s 1), 2)
  else if numP s < 0 ∨ (56320 ≤ numP s ∧ numP s < 57344) then (0, 0)
  else if numP s < 55296 ∨ 57344 ≤ numP s then (numP s, 6)
  else if numP (from' s 6) < 56320 ∨ 57344 ≤ numP (from' s 6) then (0, 0)
  else (65536 + (numP s - 55296) * 1024 + numP (from' s 6) - 56320, 12)
theorem hexV_le (b : UInt8) : hexV b ≤ 15 := by unfold hexV; (repeat' split) <;> omega
theorem hexVal_bd : ∀ (l : Str) (n : Int), (∀ b ∈ l, 0 ≤ hexV b) → 0 ≤ n → 0 ≤ l.foldl (fun n b => n * 16 + hexV b) n ∧ l.foldl (fun n b => n * 16 + hexV b) n < (n + 1) * 16 ^ l.length
  | [], n, _, h0 => by simp; omega
  | a :: l, n, h, h0 => by
    have ha := h a (by simp)
    have hb := hexV_le a
    have := hexVal_bd l (n * 16 + hexV a) (fun b hb => h b (by simp [hb])) (by omega)
    rw [List.foldl_cons]
    refine ⟨this.1, Int.lt_of_lt_of_le this.2 ?_⟩
    have h1 : (n + 1) * 16 ^ (a :: l).length = ((n + 1) * 16) * 16 ^ l.length := by rw [List.length_cons, Int.pow_succ, Int.mul_comm (16 ^ l.length) 16, ← Int.mul_assoc]
    rw [h1]
    exact Int.mul_le_mul_of_nonneg_right (by omega) (Int.le_of_lt (Int.pow_pos (by decide : (0 : Int) < 16)))
theorem hexVal_lt {l : Str} (hl : len l = 4) (h : hexOk l = true) : 0 ≤ hexVal l ∧ hexVal l ≤ 65535 := by
  unfold hexOk at h
  have := hexVal_bd l 0 (by simpa [List.all_eq_true] using h) (by omega)
  rw [show l.length = 4 from by unfold len at hl; omega] at this
  unfold hexVal; omega
theorem numP_bd (s : Str) : -1 ≤ numP s ∧ numP s ≤ 65535 ∧ (0 ≤ numP s → 6 ≤ len s) := by
  unfold numP
  split
  · omega
  · split
    · omega
    · split
      · rename_i h1 h2 h3
        unfold hexOk at h3
        have := hexVal_bd (Eng.sub s 2 6) 0 (by simpa [List.all_eq_true] using h3) (by omega)
        have hl : (Eng.sub s 2 6).length = 4 := by have := sub_len (s := s) (i := 2) (j := 6) (by omega) (by omega) (by omega); unfold len at this; omega
        rw [hl] at this
        unfold hexVal; omega
      · omega
theorem escP_bd (s : Str) : 0 ≤ (escP s).1 ∧ (escP s).1 ≤ 1114111 ∧ 0 ≤ (escP s).2 ∧ (escP s).2 ≤ 12 := by
  have h1 := numP_bd s
  have h2 := numP_bd (from' s 6)
  have h3 := byteAt_bd s 1
  have h4 : 0 ≤ shV (byteAt s 1) ∧ shV (byteAt s 1) ≤ 255 := by unfold shV; (repeat' split) <;> omega
  unfold escP
  repeat' split
  all_goals (dsimp only; omega)
/-- C2, from a place on. -/
def unqGo (f : Nat) (s : Str) (i : Int) (acc : List Int) : Str × Int × Int :=
  match f with
  | 0 => ([], len s, 1)
  | f + 1 =>
    if i < len s then
      if runeAt (from' s i) 0 = 34 then (toStr acc, i + 1, 0)
      else if runeAt (from' s i) 0 = 92 then
        if (escP (from' s i)).2 = 0 then ([], i, 1) else unqGo f s (i + (escP (from' s i)).2) (acc ++ Lib.encodeRuneZ (escP (from' s i)).1)
      else if runeAt (from' s i) 0 < 32 ∨ (runeAt (from' s i) 0 = 65533 ∧ runeLen (from' s i) 0 = 1) then ([], i, 1)
      else unqGo f s (i + runeLen (from' s i) 0) (acc ++ Lib.encodeRuneZ (runeAt (from' s i) 0))
    else ([], len s, 1)
def unqP (s : Str) : Str × Int × Int := if Lib.hasPrefix s [34] then unqGo s.length s 1 [] else ([], 0, 1)
theorem unqGo_eq {f : Nat} {s : Str} {i : Int} {acc : List Int} (hf : (len s - i).toNat ≤ f) (h1 : i < len s) : unqGo f s i acc =
    (if runeAt (from' s i) 0 = 34 then (toStr acc, i + 1, 0)
      else if runeAt (from' s i) 0 = 92 then
        if (escP (from' s i)).2 = 0 then ([], i, 1) else unqGo (f - 1) s (i + (escP (from' s i)).2) (acc ++ Lib.encodeRuneZ (escP (from' s i)).1)
      else if runeAt (from' s i) 0 < 32 ∨ (runeAt (from' s i) 0 = 65533 ∧ runeLen (from' s i) 0 = 1) then ([], i, 1)
      else unqGo (f - 1) s (i + runeLen (from' s i) 0) (acc ++ Lib.encodeRuneZ (runeAt (from' s i) 0))) := by
  cases f with
  | zero => omega
  | succ f => conv => lhs; unfold unqGo
              rw [if_pos h1]; rfl
theorem unqGo_end {f : Nat} {s : Str} {i : Int} {acc : List Int} (h1 : ¬ i < len s) : unqGo f s i acc = ([], len s, 1) := by
  cases f with
  | zero => rfl
  | succ f => unfold unqGo; rw [if_neg h1]
theorem lets_start : Lets #[] [] := ⟨by simp, fun p _ h => by simp at h, fun r _ => rfl⟩
def hexD (n : Int) : Int := if n < 10 then 48 + n else 87 + n
/-- A rune, written. -/
def qOne (r : Int) : Str := if letIs r then [92, (letV r).toNat.toUInt8] else if r < 32 then [92, 117, 48, 48, (hexD (r / 16)).toNat.toUInt8, (hexD (r % 16)).toNat.toUInt8] else Lib.encodeRune r
theorem rlen_pos (s : Str) (p : Int) (h0 : 0 ≤ p) (h1 : p < len s) : 1 ≤ runeLen s p ∧ p + runeLen s p ≤ len s := by
  have hs : (ByteArray.mk ⟨s⟩).size = s.length := rfl
  have h2 := Lib.decode_width_pos ⟨⟨s⟩⟩ p.toNat (by rw [hs]; unfold len at h1; omega)
  have h3 : (Utf8.decode ⟨⟨s⟩⟩ p.toNat).2 ≤ (ByteArray.mk ⟨s⟩).size - p.toNat := by rw [Lib.decode_at]; exact Lib.decodeN_width_le _ _ _ _ _ (by rw [hs]; unfold len at h1; omega)
  rw [hs] at h3
  unfold runeLen len at *; omega
def qFrom (s : Str) (p : Int) : Str := if h : 0 ≤ p ∧ p < len s then qOne (runeAt s p) ++ qFrom s (p + runeLen s p) else []
termination_by (len s - p).toNat
decreasing_by have := rlen_pos s p h.1 h.2; omega
def quoteP (s : Str) : Str := 34 :: qFrom s 0 ++ [34]
theorem qFrom_step {s : Str} {p : Int} (h0 : 0 ≤ p) (h1 : p < len s) : qFrom s p = qOne (runeAt s p) ++ qFrom s (p + runeLen s p) := by rw [qFrom, dif_pos ⟨h0, h1⟩]
theorem qFrom_end {s : Str} {p : Int} (h1 : ¬ p < len s) : qFrom s p = [] := by rw [qFrom, dif_neg (by omega)]
theorem runeAt_bd (s : Str) (p : Int) : 0 ≤ runeAt s p ∧ runeAt s p ≤ 1114111 := by have := Lib.rune_le ⟨⟨s⟩⟩ p.toNat; unfold runeAt; omega
theorem letV_bd (r : Int) : 0 ≤ letV r ∧ letV r ≤ 255 := by
  unfold letV
  (repeat' split) <;> first | omega | skip
  rename_i h; unfold letIs at h; simp only [Bool.or_eq_true, beq_iff_eq] at h; omega
theorem q_let {r : Int} (h : letIs r = true) : ints (qOne r) = [92, letV r] := by
  have := letV_bd r
  unfold qOne; rw [if_pos h]; simp [ints]; omega
theorem q_low {r : Int} (h : letIs r = false) (h2 : r < 32) (h3 : 0 ≤ r) : ints (qOne r) = ints [92, 117, 48, 48] ++ ints (from' [49, (hexD (r / 16)).toNat.toUInt8, (hexD (r % 16)).toNat.toUInt8] 1) := by
  unfold qOne; rw [if_neg (by rw [h]; simp), if_pos h2]; rfl
theorem q_rune {r : Int} (h : letIs r = false) (h2 : ¬ r < 32) : ints (qOne r) = Lib.encodeRuneZ r := by
  unfold qOne; rw [if_neg (by rw [h]; simp), if_neg h2]
  unfold ints Lib.encodeRune; rw [List.map_map]
  conv => rhs; rw [← List.map_id (Lib.encodeRuneZ r)]
  apply List.map_congr_left
  intro x hx
  have := Lib.encodeRuneZ_byte r x hx
  simp; omega
end Go.Eng
namespace Go.Eng
open Go.RowKit

def isBlankB (b : UInt8) : Bool := isBlank (b.toNat : Int)
/-- The place behind blanks. -/
def blankTo (s : Str) (i : Int) : Int := i + len ((from' s i).takeWhile isBlankB)
theorem blankTo_bd (s : Str) (i : Int) (h0 : 0 ≤ i) (h1 : i ≤ len s) : i ≤ blankTo s i ∧ blankTo s i ≤ len s := by
  have h2 := from_len s i h0 h1
  have h3 := (List.takeWhile_sublist isBlankB (l := from' s i)).length_le
  unfold blankTo len at *; omega
/-- Does a text stand at a place? -/
def hasAt (s : Str) (i : Int) (t : Str) : Bool := decide (i + len t ≤ len s) && (Eng.sub s i (i + len t) == t)
theorem sub_snoc {s : Str} {k : Int} (h0 : 0 ≤ k) (h1 : k < len s) : ∃ b, Eng.sub s 0 (k + 1) = Eng.sub s 0 k ++ [b] ∧ (b.toNat : Int) = byteAt s k := by
  have h : k.toNat < s.length := by unfold len at h1; omega
  refine ⟨s[k.toNat], ?_, by simp [byteAt, h]⟩
  unfold Eng.sub
  simp only [Int.toNat_zero, List.drop_zero, Nat.sub_zero]
  rw [show (k + 1).toNat = k.toNat + 1 from by omega, List.take_succ_eq_append_getElem h]
theorem u8_eq48 {b : UInt8} : (([48] : Str).contains b) = true ↔ (b.toNat : Int) = 48 := by
  simp only [List.contains_cons, List.contains_nil, Bool.or_false, beq_iff_eq]
  constructor
  · rintro rfl; rfl
  · intro h; apply UInt8.toNat_inj.1; show b.toNat = 48; omega
theorem last_split {s : Str} (h : 0 < len s) : ∃ b, s = Eng.sub s 0 (len s - 1) ++ [b] ∧ (b.toNat : Int) = byteAt s (len s - 1) := by
  obtain ⟨b, h1, h2⟩ := sub_snoc (s := s) (k := len s - 1) (by omega) (by omega)
  rw [show len s - 1 + 1 = len s from by omega, sub_all s (len s) (by omega)] at h1
  exact ⟨b, h1, h2⟩
end Go.Eng
