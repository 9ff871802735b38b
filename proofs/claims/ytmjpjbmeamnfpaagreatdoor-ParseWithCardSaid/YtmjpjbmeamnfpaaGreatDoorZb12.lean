/-
  slices.Grow of the nil slice of terms: its walk is turned from the kit's (SlicesGrow), to this program's body.
  REGIONS that draw, with operations that change memory among them: those come in the orders that may be; what only computes, at any time. Over any program.
  Lists, by places. No program in it.
-/
import Derived.Test.YtmjpjbmeamnfpaaGreatDoorZb6
import Derived.Test.YtmjpjbmeamnfpaaGreatDoorProg
import Derived.Shelf.Spec.SlicesGrow
import Derived.Test.YtmjpjbmeamnfpaaGreatDoorZb10
import Derived.Test.YtmjpjbmeamnfpaaGreatDoorZb4
import Derived.Test.YtmjpjbmeamnfpaaGreatDoorZb3
set_option linter.unusedVariables false
set_option linter.unusedSimpArgs false
namespace Go.Eng
open Go.RowKit
theorem St.newSpareP {w0 w : World} {M0 M : Mem} {Hs : List HO} (h : St w0 M0 w M Hs) (e : TypeId) (sz cap : Nat) (cur : Array Value) (hc : cur.size = cap * sz) (hm : cap ≤ maxLen) :
    St w0 M0 (w.alloc (.cells cur e)) M (.priv e sz (.slice (some ⟨w.heap.size, 0, none⟩) 0 cap) 0 [] :: Hs) := by
  have h1 := h.ext (Ext.alloc w (.cells cur e))
  refine ⟨h1.low, h1.sat, h1.old, fun x hx => ?_, List.pairwise_cons.2 ⟨fun y hy b hb => ?_, h.apart⟩⟩
  · rcases List.mem_cons.1 hx with rfl | hx
    · refine ⟨⟨by simp, .inr ⟨w.heap.size, cap, cur, rfl, h.size, heap_alloc_new _ _, Nat.zero_le _, hm, hc, by simp⟩⟩, fun b hb o => ?_⟩
      simp only [Value.ownBlock, Option.some.injEq] at hb; subst hb
      exact h.none_of_new (Nat.le_refl _) o
    · exact h1.ok x hx
  · simp only [HO.blk, Value.ownBlock, Option.some.injEq] at hb; subst hb
    intro hy'
    have := (HO.ok.lt (h.ok y hy) hy').2
    omega
end Go.Eng
namespace Go.Proofs.YtmjpjbmeamnfpaaGreatDoor
open Go.Eng Go.RowKit

set_option maxHeartbeats 1000000 in
set_option maxRecDepth 100000 in
theorem growF_none (w : World) : Calls Tryz.prog 171 #[.slice none 0 0, .int .i64 0] w fun e w' => e = .returned (.slice none 0 0) ∧ w' = w := by
  have mixed : Tryz.prog.follows .mixedOrders = true := by kernel_rfl
  go_enter Tryz.func171, Tryz.ntmps171
  go_wp2
  all_goals (go_ret; exact ⟨rfl, rfl⟩)
set_option maxHeartbeats 4000000 in
set_option maxRecDepth 100000 in
theorem growF_some (n : Nat) (w : World) (h0 : 0 < n) (hbig : n * 120 ≤ 140737488355328) : Calls Tryz.prog 171 #[.slice none 0 0, .int .i64 n] w fun e w' =>
    ∃ cap cur, e = .returned (.slice (some ⟨w.heap.size, 0, none⟩) 0 cap) ∧ cap ≤ maxLen ∧ cur.size = cap * 11 ∧ w' = w.drew.alloc (.cells cur 51) := by
  obtain ⟨i0, hi0, hz0, hs11, hb120⟩ : ∃ i, Tryz.prog.info? 51 = some i ∧ i.zero.isSome = true ∧ i.size = 11 ∧ i.bytes = 120 := by
    obtain ⟨i, hi, he⟩ := Option.map_eq_some_iff.1 (show (Tryz.prog.info? 51).map (fun i => (i.zero.isSome, i.size, i.bytes)) = some (true, 11, 120) by kernel_rfl)
    exact ⟨i, hi, by simpa using congrArg (·.1) he, by simpa using congrArg (·.2.1) he, by simpa using congrArg (·.2.2) he⟩
  obtain ⟨z, hz⟩ := Option.isSome_iff_exists.1 hz0
  have hzc : z.cells.size = 11 := by
    have := show (Tryz.prog.info? 51).bind (fun i => i.zero.map (fun z => z.cells.size)) = some 11 by kernel_rfl
    rw [hi0] at this; simp only [Option.bind_some, hz, Option.map_some, Option.some.injEq] at this; exact this
  have mixed : Tryz.prog.follows .mixedOrders = true := by kernel_rfl
  have us := fun w => run_underlying (P := Tryz.prog) (w := w) Tryz.underlying23
  have ui := fun w => run_underlying (P := Tryz.prog) (w := w) Tryz.underlying3
  have h1 : ¬ ((n : Int) < 0) := by omega
  have h3 : wrap64 ((n : Int) - 0) = (n : Int) := by unfold wrap64; omega
  have h4 : (n : Int) > 0 := by omega
  have hold : (Builtin.firstCells i0.size 0 (.slice none 0 0)).run Tryz.prog w.drew = .ok #[] w.drew := run_firstCells_none w.drew i0.size 0 0 0
  have hrz : ∀ ty, (Builtin.append_ #[23, 3] ty #[.slice none 0 0, .int .i64 (n : Int)]).run Tryz.prog w =
      .ok (.slice (some ⟨w.heap.size, 0, none⟩) n (grownCap w n 0 51)) (w.drew.alloc (.cells (#[] ++ Builtin.zeroCells z.cells n ++ Builtin.zeroCells z.cells (grownCap w n 0 51 - n)) 51)) := fun ty => by
    have h := Lib.run_append_grow_zeros w 23 3 ty 51 i0 z .i64 .i64 Tryz.underlying23 Tryz.underlying3 hi0 hz none 0 0 [] hold n (by omega) (by omega) (by omega) (by omega)
      (by rw [hb120]; omega) (by rw [Nat.zero_add]; exact growslice_fits h0 (by rw [hb120]; omega))
    rw [Nat.zero_add] at h
    exact h
  have hGn : n ≤ grownCap w n 0 51 := grownCap_ge w _ _ _
  have hGm : grownCap w n 0 51 ≤ maxLen := grownCap_le_maxLen w n 0 51 (by unfold maxLen; omega)
  obtain ⟨G, hG⟩ : ∃ G, G = grownCap w n 0 51 := ⟨_, rfl⟩
  rw [← hG] at hrz hGn hGm
  have hG63 : G ≤ 9223372036854775807 := by unfold maxLen at hGm; omega
  have hzs : ∀ k, (Builtin.zeroCells z.cells k).size = k * 11 := fun k => by simp [Builtin.zeroCells, hzc]
  have hsz : (#[] ++ Builtin.zeroCells z.cells n ++ Builtin.zeroCells z.cells (G - n)).size = G * 11 := by rw [Array.size_append, Array.size_append, hzs, hzs]; simp; omega
  generalize (#[] ++ Builtin.zeroCells z.cells n ++ Builtin.zeroCells z.cells (G - n)) = cur at hrz hsz
  clear hold hG hi0
  go_enter Tryz.func171, Tryz.ntmps171
  go_wp2_with (at_builtin; refine Lib.wpList_append_run _ rfl _ _ _ _ rfl _ _ rfl rfl _ _ (hrz _) ?_)
  all_goals (go_ret; exact ⟨G, rfl, hGm, _, hsz, rfl⟩)
theorem growF_c {w wv : World} {M0 M : Mem} {Hs : List HO} (n : Int) (hS : St w M0 wv M Hs) (h0 : 0 ≤ n) (hb : n ≤ 1099511627776) :
    Calls Tryz.prog 171 [.slice none 0 0, i64 n].toArray wv fun e w' => ∃ u, e = .returned u ∧ St w M0 w' M (.priv 51 11 u 0 [] :: Hs) := by
  by_cases hn : n = 0
  · subst hn
    exact (growF_none wv).mono fun e w' ⟨he, hw⟩ => ⟨_, he, hw ▸ hS.privNil _ _⟩
  · have hg := growF_some n.toNat wv (by omega) (by omega)
    rw [show ((n.toNat : Nat) : Int) = n from by omega] at hg
    refine hg.mono fun e w' ⟨cap, cur, he, hc, hs, hw⟩ => ⟨_, he, ?_⟩
    subst hw
    exact (hS.ext (Ext.drew wv)).newSpareP _ 11 cap cur hs hc
end Go.Proofs.YtmjpjbmeamnfpaaGreatDoor
namespace Go.Eng
open Go.RowKit

structure QG where
  V : XE
  av : List Nat
  O : Prop
  E : List Ck
def impG (W : Gd) : List Prop → Prop → (Prop → Option QG) → Option QG
  | [], O, K => K O
  | p :: ps, O, K => match W with
    | .t => impG W ps (p ∧ O) K
    | .g b => impG W ps ((b = false ∨ p) ∧ O) K
theorem impG_ok {W : Gd} {K : Prop → Option QG} : ∀ {ps : List Prop} {O : Prop}, ∃ O', impG W ps O K = K O' ∧ (O' → (W.d = true → allP ps) ∧ O)
  | [], O => ⟨O, rfl, fun h => ⟨fun _ => trivial, h⟩⟩
  | p :: ps, O => by
    unfold impG
    cases W with
    | t =>
      obtain ⟨O', h1, h2⟩ := impG_ok (W := .t) (K := K) (ps := ps) (O := p ∧ O)
      exact ⟨O', h1, fun h => ⟨fun hW => ⟨(h2 h).2.1, (h2 h).1 hW⟩, (h2 h).2.2⟩⟩
    | g b =>
      obtain ⟨O', h1, h2⟩ := impG_ok (W := .g b) (K := K) (ps := ps) (O := (b = false ∨ p) ∧ O)
      exact ⟨O', h1, fun h => ⟨fun hW => ⟨(h2 h).2.1.resolve_left (by rw [show b = true from hW]; decide), (h2 h).1 hW⟩, (h2 h).2.2⟩⟩
def memN (k : Nat) : List Nat → Bool
  | [] => false
  | x :: l => match Nat.beq x k with
    | true => true
    | false => memN k l
theorem memN_iff {k : Nat} : ∀ {l : List Nat}, memN k l = true ↔ k ∈ l
  | [] => by simp [memN]
  | x :: l => by
    unfold memN
    split
    · rename_i e; have := Nat.eq_of_beq_eq_true e; subst this; simp
    · rename_i e
      have : k ≠ x := fun h => by subst h; rw [Nat.beq_refl] at e; cases e
      rw [memN_iff]; simp [this]
def allN (p : Nat → Bool) : List Nat → Bool
  | [] => true
  | x :: l => match p x with
    | true => allN p l
    | false => false
theorem allN_iff {p : Nat → Bool} : ∀ {l : List Nat}, allN p l = true ↔ ∀ x ∈ l, p x = true
  | [] => by simp [allN]
  | x :: l => by
    unfold allN
    split
    · rename_i e; rw [allN_iff]; simp [e]
    · rename_i e; simp [e]
def dstAt (l : List Oper) (j : Nat) : Option Tmp := match nth l j with
  | some o => o.dst
  | none => none
theorem dstAt_eq (l : List Oper) (j : Nat) : dstAt l j = dstOf l j := by
  unfold dstAt dstOf; rw [nth_eq]; cases l[j]? <;> rfl
/-- The slots that an operation stands behind, and those from before. -/
def selX (l : List Oper) (V L : XE) : List Nat → XE
  | [] => L
  | j :: js => match dstAt l j with
    | some d => match xlook V d with
      | some (g, v) => (d, g, v) :: selX l V L js
      | none => selX l V L js
    | none => selX l V L js
theorem selX_look {l : List Oper} {V L : XE} : ∀ {js : List Nat} {t : Nat} {g : Gd} {v : XV}, xlook (selX l V L js) t = some (g, v) → xlook L t = some (g, v) ∨ ∃ j ∈ js, dstOf l j = some t ∧ xlook V t = some (g, v)
  | [], _, _, _, h => .inl h
  | j :: js, t, g, v, h => by
    unfold selX at h
    split at h
    · rename_i d hd
      split at h
      · rename_i g' v' hv
        unfold xlook at h
        split at h
        · rename_i e
          have := Nat.eq_of_beq_eq_true e; subst this
          cases h
          exact .inr ⟨j, .head _, by rw [← dstAt_eq]; exact hd, hv⟩
        · exact (selX_look h).imp id fun ⟨j', h1, h2⟩ => ⟨j', .tail _ h1, h2⟩
      · exact (selX_look h).imp id fun ⟨j', h1, h2⟩ => ⟨j', .tail _ h1, h2⟩
    · exact (selX_look h).imp id fun ⟨j', h1, h2⟩ => ⟨j', .tail _ h1, h2⟩
/-- What the operations that only compute give, as far as what they stand behind is there. -/
def qgo (T : TT) (N : Nat) (F : List (Nat × Kn)) (H : List (Nat × HX)) (all : List Oper) (es done : List Nat) (L : XE) : Nat → List Oper → XE → List Nat → Prop → List Ck → Option QG
  | _, [], V, av, O, E => some ⟨V, av, O, E⟩
  | i, ⟨dst, op, ty, ps, af, gd⟩ :: l, V, av, O, E => match memN i es with
    | true => qgo T N F H all es done L (i + 1) l V av O E
    | false => match allN (fun j => memN j av || memN j done) (bindsOf ⟨dst, op, ty, ps, af, gd⟩) with
      | false => qgo T N F H all es done L (i + 1) l V av O E
      | true => match dst with
        | none => none
        | some d => match xlook L d with
          | some (g, v) => qgo T N F H all es done L (i + 1) l ((d, g, v) :: V) (i :: av) O E
          | none => match gdOf ⟨all⟩ (selX all V L (bindsOf ⟨some d, op, ty, ps, af, gd⟩)) gd with
            | none => none
            | some W => match opV T F H (selX all V L (bindsOf ⟨some d, op, ty, ps, af, gd⟩)) W op with
              | none => none
              | some (v, p, E') => match Nat.blt d N with
                | false => none
                | true => impG W p O fun O' => qgo T N F H all es done L (i + 1) l ((d, W, v) :: V) (i :: av) O' (E' ++ E)
section
variable {c : Cx} {F : List (Nat × Kn)} {H : List (Nat × HX)} {l : List Oper} {es done : List Nat} {L : XE}
/-- An operation's answer, of all slots in which the ones are that it stands behind. -/
def QOk (c : Cx) (F : List (Nat × Kn)) (H : List (Nat × HX)) (l : List Oper) (L : XE) (V : XE) (j : Nat) : Prop :=
  ∃ d op ty ps af gd W v, l[j]? = some ⟨some d, op, ty, ps, af, gd⟩ ∧ xlook V d = some (W, v) ∧ ((∃ x, xlook L d = some x) ∨ (Nat.blt d c.N = true ∧ ∀ a, Slots a c.N L.d →
    (∀ j' ∈ bindsOf ⟨some d, op, ty, ps, af, gd⟩, ∀ d', dstOf l j' = some d' → ∀ g u, xlook V d' = some (g, u) → a.tmps[d']? = some (sv g.d u.d)) → ∃ LL, Slots a c.N LL ∧ Wants l.toArray LL gd W.d ∧ ∀ w M, XOk c F H w M → PV c.P (· = w) LL W.d ⟨some d, op, ty, ps, af, gd⟩ v.d))
structure QInv (c : Cx) (F : List (Nat × Kn)) (H : List (Nat × HX)) (l : List Oper) (es done : List Nat) (L : XE) (n : Nat) (V : XE) (av : List Nat) : Prop where
  keys : ∀ t x, xlook V t = some x → ∃ j ∈ av, dstOf l j = some t
  lt : ∀ j ∈ av, j < n ∧ j ∉ es
  ok : ∀ j ∈ av, QOk c F H l L V j
theorem qgo_ok (dist : ∀ i j a b, dstOf l i = some a → dstOf l j = some b → i ≠ j → a ≠ b) (ac : ∀ (i : Nat) o, l[i]? = some o → ∀ j ∈ bindsOf o, j < i) : ∀ (r : List Oper) (i : Nat) (V : XE) (av : List Nat) (O : Prop) (E : List Ck) (t : QG), l.drop i = r → QInv c F H l es done L i V av → qgo c.T c.N F H l es done L i r V av O E = some t → t.O → EOk t.E →
    QInv c F H l es done L l.length t.V t.av ∧ O ∧ EOk E ∧ (∀ j, i ≤ j → j < l.length → j ∉ es → (∀ o, l[j]? = some o → ∀ j' ∈ bindsOf o, j' ∈ t.av ∨ j' ∈ done) → j ∈ t.av) ∧ (∀ j ∈ av, j ∈ t.av)
  | [], i, V, av, O, E, t, hr, hI, h, hO, hE => by
    unfold qgo at h
    cases h
    have hi : l.length ≤ i := by
      have := congrArg List.length hr
      simp at this; omega
    exact ⟨⟨hI.keys, fun j hj => by
      obtain ⟨d, op, ty, ps, af, gd, W, v, h1, _⟩ := hI.ok j hj
      exact ⟨(List.getElem?_eq_some_iff.1 h1).1, (hI.lt j hj).2⟩, hI.ok⟩, hO, hE, fun j h1 h2 => by omega, fun j hj => hj⟩
  | ⟨dst, op, ty, ps, af, gd⟩ :: r, i, V, av, O, E, t, hr, hI, h, hO, hE => by
    have hr1 : l.drop (i + 1) = r := by
      rw [show i + 1 = i + 1 from rfl, ← List.drop_drop, hr]; rfl
    have hoi : l[i]? = some ⟨dst, op, ty, ps, af, gd⟩ := by
      have := congrArg (·[0]?) hr
      simpa using this
    have hI1 : QInv c F H l es done L (i + 1) V av := ⟨hI.keys, fun j hj => ⟨by have := (hI.lt j hj).1; omega, (hI.lt j hj).2⟩, hI.ok⟩
    unfold qgo at h
    split at h
    · rename_i he
      obtain ⟨k1, k2, k3, k4, k5⟩ := qgo_ok dist ac r (i + 1) V av O E t hr1 hI1 h hO hE
      refine ⟨k1, k2, k3, fun j h1 h2 h3 h4 => ?_, k5⟩
      by_cases hji : j = i
      · subst hji; exact absurd (memN_iff.1 he) h3
      · exact k4 j (by omega) h2 h3 h4
    · rename_i he
      split at h
      · rename_i hb
        obtain ⟨k1, k2, k3, k4, k5⟩ := qgo_ok dist ac r (i + 1) V av O E t hr1 hI1 h hO hE
        refine ⟨k1, k2, k3, fun j h1 h2 h3 h4 => ?_, k5⟩
        by_cases hji : j = i
        · subst hji
          exfalso
          have hall : allN (fun j => memN j av || memN j done) (bindsOf ⟨dst, op, ty, ps, af, gd⟩) = true := allN_iff.2 fun j' hj' => by
            rcases h4 _ hoi j' hj' with h5 | h5
            · -- it was there already: later ones stand behind
              have hlt := ac j _ hoi j' hj'
              rw [Bool.or_eq_true]
              left
              rw [memN_iff]
              have : ∀ j'', j'' ∈ t.av → j'' < j → j'' ∈ av := by
                intro j'' m1 m2
                exact (qgo_new r (j + 1) V av O E t h j'' m1).resolve_right (by omega)
              exact this j' h5 hlt
            · rw [Bool.or_eq_true]; right; exact memN_iff.2 h5
          rw [hall] at hb; cases hb
        · exact k4 j (by omega) h2 h3 h4
      · rename_i hb
        have hbs : ∀ j' ∈ bindsOf ⟨dst, op, ty, ps, af, gd⟩, j' ∈ av ∨ j' ∈ done := fun j' hj' => by
          have := allN_iff.1 hb j' hj'
          rw [Bool.or_eq_true] at this
          exact this.imp memN_iff.1 memN_iff.1
        split at h
        · cases h
        · rename_i d
          have hdi : dstOf l i = some d := by unfold dstOf; rw [hoi]; rfl
          have hnew : ∀ j ∈ av, ∀ d', dstOf l j = some d' → d' ≠ d := fun j hj d' hd' => dist j i d' d hd' hdi (by have := (hI.lt j hj).1; omega)
          have hVd : ∀ x, xlook V d ≠ some x := fun x hx => by
            obtain ⟨j, hj, hd'⟩ := hI.keys d x hx
            exact hnew j hj d hd' rfl
          have hlk : ∀ {g : Gd} {v : XV} {t : Nat}, t ≠ d → xlook ((d, g, v) :: V) t = xlook V t := fun {g v t} hne => by
            show (match Nat.beq d t with | true => some (g, v) | false => xlook V t) = xlook V t
            split
            · rename_i e; exact absurd (Nat.eq_of_beq_eq_true e).symm hne
            · rfl
          have hself : ∀ {g : Gd} {v : XV}, xlook ((d, g, v) :: V) d = some (g, v) := fun {g v} => by
            show (match Nat.beq d d with | true => some (g, v) | false => xlook V d) = _
            rw [Nat.beq_refl]
          have hnes : i ∉ es := fun hm => by rw [memN_iff.2 hm] at he; cases he
          have keep : ∀ {g : Gd} {v : XV} (j : Nat), j ∈ av → QOk c F H l L ((d, g, v) :: V) j := fun {g v} j hj => by
            obtain ⟨d1, op1, ty1, ps1, af1, gd1, W1, v1, h1, h2, h3⟩ := hI.ok j hj
            have hd1 : d1 ≠ d := hnew j hj d1 (by unfold dstOf; rw [h1]; rfl)
            refine ⟨d1, op1, ty1, ps1, af1, gd1, W1, v1, h1, by rw [hlk hd1]; exact h2, h3.imp id fun ⟨h4, h5⟩ => ⟨h4, fun a ha hdep => h5 a ha fun j' hj' d' hd' g' u hu => hdep j' hj' d' hd' g' u ?_⟩⟩
            rw [hlk (fun e => by subst e; exact hVd _ hu)]; exact hu
          have step : ∀ {g : Gd} {v : XV}, QOk c F H l L ((d, g, v) :: V) i → QInv c F H l es done L (i + 1) ((d, g, v) :: V) (i :: av) := fun {g v} hq => ⟨fun t x hx => by
            by_cases e : t = d
            · subst e; exact ⟨i, .head _, hdi⟩
            · rw [hlk e] at hx
              obtain ⟨j, hj, hd'⟩ := hI.keys t x hx
              exact ⟨j, .tail _ hj, hd'⟩, fun j hj => by
            rcases List.mem_cons.1 hj with rfl | hj
            · exact ⟨by omega, hnes⟩
            · exact hI1.lt j hj, fun j hj => by
            rcases List.mem_cons.1 hj with rfl | hj
            · exact hq
            · exact keep j hj⟩
          have fin : ∀ {V' : XE} {O' : Prop} {E' : List Ck}, (QInv c F H l es done L l.length t.V t.av ∧ O' ∧ EOk E' ∧ (∀ j, i + 1 ≤ j → j < l.length → j ∉ es → (∀ o, l[j]? = some o → ∀ j' ∈ bindsOf o, j' ∈ t.av ∨ j' ∈ done) → j ∈ t.av) ∧ (∀ j ∈ i :: av, j ∈ t.av)) →
              QInv c F H l es done L l.length t.V t.av ∧ O' ∧ EOk E' ∧ (∀ j, i ≤ j → j < l.length → j ∉ es → (∀ o, l[j]? = some o → ∀ j' ∈ bindsOf o, j' ∈ t.av ∨ j' ∈ done) → j ∈ t.av) ∧ (∀ j ∈ av, j ∈ t.av) := fun {V' O' E'} ⟨k1, k2, k3, k4, k5⟩ => ⟨k1, k2, k3, fun j h1 h2 h3 h4 => by
            by_cases hji : j = i
            · subst hji; exact k5 j (.head _)
            · exact k4 j (by omega) h2 h3 h4, fun j hj => k5 j (.tail _ hj)⟩
          split at h
          · rename_i g v hL
            exact fin (V' := V) (qgo_ok dist ac r (i + 1) _ _ O E t hr1 (step ⟨d, op, ty, ps, af, gd, g, v, hoi, hself, .inl ⟨_, hL⟩⟩) h hO hE)
          · rename_i hL
            split at h
            · cases h
            · rename_i W hW
              split at h
              · cases h
              · rename_i v p E' hv
                split at h
                · cases h
                · rename_i hd
                  obtain ⟨O', hi, hO'⟩ := impG_ok (W := W) (K := fun O' => qgo c.T c.N F H l es done L (i + 1) r ((d, W, v) :: V) (i :: av) O' (E' ++ E)) (ps := p) (O := O)
                  rw [hi] at h
                  -- first the obligations, by a look at what comes behind; they hang on nothing
                  have hob := qgo_obl r (i + 1) _ _ _ _ t h hO hE
                  obtain ⟨hp, hOO⟩ := hO' hob.1
                  have hE' := (EOk.app hob.2).1
                  have hq : QOk c F H l L ((d, W, v) :: V) i := by
                    refine ⟨d, op, ty, ps, af, gd, W, v, hoi, hself, .inr ⟨hd, fun a ha hdep => ⟨XE.d (selX l V L (bindsOf ⟨some d, op, ty, ps, af, gd⟩)), ⟨ha.size, ha.dfr, fun t g' v' hx => ?_⟩, gdOf_ok hW, fun w M hX => opV_d c.hT hX.f hX.st extEq hv hE' hp⟩⟩⟩
                    obtain ⟨g2, v2, h6, rfl, rfl⟩ := look_d hx
                    rcases selX_look h6 with h7 | ⟨j', hj', hd', h7⟩
                    · exact ha.val t _ _ (xlook_d h7)
                    · refine hdep j' hj' t hd' g2 v2 ?_
                      rw [hlk (fun e => by subst e; exact hVd _ h7)]; exact h7
                  obtain ⟨k1, k2, k3, k4, k5⟩ := fin (V' := V) (qgo_ok dist ac r (i + 1) _ _ O' (E' ++ E) t hr1 (step hq) h hO hE)
                  exact ⟨k1, hOO, (EOk.app hob.2).2, k4, k5⟩
where
  qgo_new : ∀ (r : List Oper) (i : Nat) (V : XE) (av : List Nat) (O : Prop) (E : List Ck) (t : QG), qgo c.T c.N F H l es done L i r V av O E = some t → ∀ j ∈ t.av, j ∈ av ∨ i ≤ j
    | [], i, V, av, O, E, t, h, j, hj => by unfold qgo at h; cases h; exact .inl hj
    | ⟨dst, op, ty, ps, af, gd⟩ :: r, i, V, av, O, E, t, h, j, hj => by
      have up : ∀ {av' : List Nat}, (j ∈ av' ∨ i + 1 ≤ j) → (∀ x ∈ av', x ∈ av ∨ x = i) → j ∈ av ∨ i ≤ j := fun {av'} h1 h2 => by
        rcases h1 with h1 | h1
        · rcases h2 j h1 with h3 | h3
          · exact .inl h3
          · exact .inr (by omega)
        · exact .inr (by omega)
      have cns : ∀ x ∈ i :: av, x ∈ av ∨ x = i := fun x hx => by
        rcases List.mem_cons.1 hx with rfl | hx
        · exact .inr rfl
        · exact .inl hx
      unfold qgo at h
      split at h
      · exact up (qgo_new r _ _ _ _ _ t h j hj) fun x hx => .inl hx
      · split at h
        · exact up (qgo_new r _ _ _ _ _ t h j hj) fun x hx => .inl hx
        · split at h
          · cases h
          · rename_i d hb
            split at h
            · exact up (qgo_new r _ _ _ _ _ t h j hj) cns
            · split at h
              · cases h
              · rename_i W hW
                split at h
                · cases h
                · rename_i v p E' hv
                  split at h
                  · cases h
                  · obtain ⟨O', hi, _⟩ := impG_ok (W := W) (K := fun O' => qgo c.T c.N F H l es done L (i + 1) r ((d, W, v) :: V) (i :: av) O' (E' ++ E)) (ps := p) (O := O)
                    rw [hi] at h
                    exact up (qgo_new r _ _ _ _ _ t h j hj) cns
  qgo_obl : ∀ (r : List Oper) (i : Nat) (V : XE) (av : List Nat) (O : Prop) (E : List Ck) (t : QG), qgo c.T c.N F H l es done L i r V av O E = some t → t.O → EOk t.E → O ∧ EOk E
    | [], i, V, av, O, E, t, h, hO, hE => by unfold qgo at h; cases h; exact ⟨hO, hE⟩
    | ⟨dst, op, ty, ps, af, gd⟩ :: r, i, V, av, O, E, t, h, hO, hE => by
      unfold qgo at h
      split at h
      · exact qgo_obl r _ _ _ _ _ t h hO hE
      · split at h
        · exact qgo_obl r _ _ _ _ _ t h hO hE
        · split at h
          · cases h
          · rename_i d hb
            split at h
            · exact qgo_obl r _ _ _ _ _ t h hO hE
            · split at h
              · cases h
              · rename_i W hW
                split at h
                · cases h
                · rename_i v p E' hv
                  split at h
                  · cases h
                  · obtain ⟨O', hi, hO'⟩ := impG_ok (W := W) (K := fun O' => qgo c.T c.N F H l es done L (i + 1) r ((d, W, v) :: V) (i :: av) O' (E' ++ E)) (ps := p) (O := O)
                    rw [hi] at h
                    obtain ⟨h1, h2⟩ := qgo_obl r _ _ _ _ _ t h hO hE
                    exact ⟨(hO' h1).2, (EOk.app h2).2⟩
end
theorem put_other {a : Act} {dd : Option Tmp} {v : Value} {t : Nat} (h : dd ≠ some t) : (a.put dd v).tmps[t]? = a.tmps[t]? := by
  cases dd with
  | none => rfl
  | some d =>
    have hne : d ≠ t := fun e => h (by rw [e])
    simp [Act.put, Array.getElem?_setIfInBounds_ne hne]
theorem op_put {P : Program} {o : Oper} {a : Act} {w : World} {K : Act → World → Prop} {Q : Exit → Act → World → Prop} (h : o.wp P a w K Q) : o.wp P a w (fun a' w' => K a' w' ∧ ∀ t, o.dst ≠ some t → a'.tmps[t]? = a.tmps[t]?) Q := by
  unfold Oper.wp at *
  generalize (execOp a.eval o).run P w = r at *
  cases r with
  | ok x w' =>
    cases x with
    | value v => exact ⟨h, fun t ht => put_other ht⟩
    | skip => exact ⟨h, fun t ht => put_other ht⟩
    | defer d => exact ⟨h, fun t ht => put_other (a := { a with defers := d :: a.defers }) ht⟩
    | enter f args =>
      refine Calls.mono h fun e w'' k => ?_
      cases e with
      | returned v => exact ⟨k, fun t ht => put_other ht⟩
      | panicked ch => exact k
      | outgrown => exact k
    | row r args => exact Rows.mono h fun v w'' k => ⟨k, fun t ht => put_other ht⟩
    | _ => exact h
  | halt s w' => cases s <;> exact h
theorem put_op {P : Program} {ops : Array Oper} {Q : Exit → Act → World → Prop} {a : Act} {w : World} {i : Nat} {o : Oper} (ho : ops[i]? = some o) {K K' : Act → World → Prop} (h : wpList P ops (Exit.then K Q) [o] a w) (hk : ∀ a' w', K a' w' → (∀ t, o.dst ≠ some t → a'.tmps[t]? = a.tmps[t]?) → K' a' w') : wpOp P ops Q i K' a w := by
  unfold wpOp
  rw [ho]
  unfold wpList at h
  dsimp only
  split
  · rename_i hw
    rw [if_pos hw] at h
    rcases h with h | ⟨h1, h2⟩
    · exact .inl (Oper.wp_mono (fun a' w' hh => hk a' w' hh.1 hh.2) (op_put (wp_then h)))
    · exact .inr ⟨h1, h2⟩
  · rename_i hw
    rw [if_neg hw] at h
    exact hk _ _ h fun t ht => put_other ht
/-- What is to be shown, of operations that are done and a state: whatever may come next leads on. -/
def upto : Nat → List Nat
  | 0 => []
  | n + 1 => n :: upto n
theorem upto_mem : ∀ {n i : Nat}, i < n → i ∈ upto n
  | n + 1, i, h => by
    by_cases e : i = n
    · subst e; exact .head _
    · exact .tail _ (upto_mem (by omega))
/-- Slots of operations that only compute are known only where these are done. -/
def chkB (l : List Oper) (es bs : List Nat) (L : XE) : Bool := allN (fun j => memN j es || memN j bs || match dstAt l j with | some d => !(memN d (keys L)) | none => true) (upto l.length)
def DG (c : Cx) (B : Exit → Act → World → Prop) (k : List Fr) (l : List Oper) (es : List Nat) : Nat → List Nat → List Nat → XE → List Nat → XS → Prop
  | 0, _, _, _, _, _ => False
  | n + 1, done, bs, V0, av0, s => ∃ V av O E, qgo c.T c.N s.F s.H l es done s.L 0 l [] [] ((0 : Int) = 0) [] = some ⟨V, av, O, E⟩ ∧ O ∧ EOk E ∧ xkeep (keys V0) V = V0 ∧ allN (fun j => memN j av) av0 = true ∧ chkB l es bs s.L = true ∧
    (allN (fun e => memN e done) es = true → XG c B k .next ⟨s.F, s.H, V ++ s.L⟩) ∧
    ∀ e o, l[e]? = some o → memN e es = true → memN e done = false → allN (fun j => memN j av || memN j done) (bindsOf o) = true →
      XG c B (.loop (DG c B k l es n (done ++ [e]) (bs ++ bindsOf o) V av) :: k) (.ops ⟨l⟩ [o]) ⟨s.F, s.H, selX l V s.L (bindsOf o)⟩
theorem xlook_key : ∀ {L : XE} {t : Nat} {x : Gd × XV}, xlook L t = some x → t ∈ keys L
  | [], _, _, h => by cases h
  | (k, g, v) :: L, t, x, h => by
    unfold xlook at h
    split at h
    · rename_i e; have := Nat.eq_of_beq_eq_true e; subst this; exact .head _
    · exact .tail _ (xlook_key h)
theorem xlook_app : ∀ {V L : XE} {t : Nat}, xlook (V ++ L) t = match xlook V t with | some x => some x | none => xlook L t
  | [], _, _ => rfl
  | (k, g, v) :: V, L, t => by
    show (match Nat.beq k t with | true => some (g, v) | false => xlook (V ++ L) t) = match (match Nat.beq k t with | true => some (g, v) | false => xlook V t) with | some x => some x | none => xlook L t
    split
    · rfl
    · exact xlook_app
theorem ready_iff {l : List Oper} {listed : Array Bool} {i : Nat} (hsz : listed.size = l.length) : i ∈ Region.ready .any l.toArray listed ↔ ∃ o, l[i]? = some o ∧ listed.getD i true = false ∧ ∀ j ∈ bindsOf o, listed.getD j false = true := by
  unfold Region.ready
  rw [List.mem_filter, List.mem_range]
  constructor
  · rintro ⟨h1, h2⟩
    have h1 : i < l.length := by simpa using h1
    refine ⟨l[i], by simp [h1], ?_⟩
    have ho : l.toArray[i]? = some l[i] := by simp [h1]
    rw [ho] at h2
    simp only [Bool.and_eq_true, Bool.not_eq_true', Option.map_some, Option.getD_some] at h2
    refine ⟨h2.1, fun j hj => ?_⟩
    obtain ⟨e, he, rfl⟩ := List.mem_map.1 hj
    have he' := List.mem_filter.1 he
    have := (Array.all_eq_true_iff_forall_mem.1 h2.2) e (by simpa using he'.1)
    rw [he'.2] at this
    simpa using this
  · rintro ⟨o, ho, h1, h2⟩
    have hlt := (List.getElem?_eq_some_iff.1 ho).1
    refine ⟨by simpa using hlt, ?_⟩
    have ho' : l.toArray[i]? = some o := by simpa using ho
    rw [ho', h1]
    simp only [Bool.not_false, Bool.true_and, Option.map_some, Option.getD_some]
    rw [Array.all_eq_true_iff_forall_mem]
    intro e he
    by_cases hb : Region.binds .any e = true
    · rw [h2 e.on (List.mem_map.2 ⟨e, List.mem_filter.2 ⟨by simpa using he, hb⟩, rfl⟩)]; simp
    · simp [hb]
/-- The region. -/
theorem draw_ok {c : Cx} {B : Exit → Act → World → Prop} {k : List Fr} {id : Nat} {l : List Oper} {s : XS} (es : List Nat) (n : Nat) (hl : ∀ ops Q l a w, c.W.list ops Q l a w → wpList c.P ops Q l a w) (hm : c.P.follows .mixedOrders = true) (hB : chkF l [] = true) (hes : allN (fun e => Nat.blt e l.length) es = true) (h : DG c B k l es n [] [] [] [] s)
    {a : Act} {w : World} (hs : Sat' c s a w) : (Code.region id ⟨l⟩ true).wp c.P (post c B k) a w := by
  refine wp_region_any hm ?_
  unfold chkF at hB
  simp only [Bool.and_eq_true] at hB
  obtain ⟨⟨hac, hdd⟩, _⟩ := hB
  have acyc : ∀ (i : Nat) o, l[i]? = some o → ∀ j ∈ bindsOf o, j < i := by
    intro i o ho j hj
    have hlt : i < l.length := (List.getElem?_eq_some_iff.1 ho).1
    have := List.all_eq_true.1 hac i (List.mem_range.2 hlt)
    rw [ho] at this
    simp only [Option.map_some, Option.getD_some] at this
    exact Nat.le_of_ble_eq_true (List.all_eq_true.1 this j hj)
  have dist : ∀ i j a b, dstOf l i = some a → dstOf l j = some b → i ≠ j → a ≠ b := by
    intro i j a b hi hj hij
    have h1 : i < l.length := by
      rcases Nat.lt_or_ge i l.length with h | h
      · exact h
      · simp [dstOf, h] at hi
    have h2 : j < l.length := by
      rcases Nat.lt_or_ge j l.length with h | h
      · exact h
      · simp [dstOf, h] at hj
    have := List.all_eq_true.1 (List.all_eq_true.1 hdd i (List.mem_range.2 h1)) j (List.mem_range.2 h2)
    rw [hi, hj] at this
    simp only [Bool.or_eq_true, Bool.not_eq_true'] at this
    rcases this with h | h
    · exact absurd (Nat.eq_of_beq_eq_true h) hij
    · intro e; subst e; simp at h
  let Inv : Array Bool → Act → World → Prop := fun listed a w' => ∃ n done bs s V av O E, qgo c.T c.N s.F s.H l es done s.L 0 l [] [] ((0 : Int) = 0) [] = some ⟨V, av, O, E⟩ ∧ O ∧ EOk E ∧
    (allN (fun e => memN e done) es = true → XG c B k .next ⟨s.F, s.H, V ++ s.L⟩) ∧
    (∀ e o, l[e]? = some o → memN e es = true → memN e done = false → allN (fun j => memN j av || memN j done) (bindsOf o) = true → XG c B (.loop (DG c B k l es n (done ++ [e]) (bs ++ bindsOf o) V av) :: k) (.ops ⟨l⟩ [o]) ⟨s.F, s.H, selX l V s.L (bindsOf o)⟩) ∧ chkB l es bs s.L = true ∧ (∀ j ∈ bs, listed.getD j false = true) ∧
    Sat' c s a w' ∧ (∀ j, listed.getD j false = true → (j ∈ es ∧ j ∈ done) ∨ (j ∉ es ∧ j ∈ av ∧ ∀ d, dstOf l j = some d → ∀ g v, xlook V d = some (g, v) → a.tmps[d]? = some (sv g.d v.d))) ∧ (∀ e ∈ done, listed.getD e false = true)
  let cnt : Array Bool → Nat := fun b => (b.toList.filter (fun x => !x)).length
  have cset : ∀ (b : Array Bool) (i : Nat), i < b.size → b.getD i true = false → cnt (b.setIfInBounds i true) + 1 ≤ cnt b := by
    intro b i hi hb
    have key : ∀ (m : List Bool) (i : Nat), m[i]? = some false → ((m.set i true).filter (fun x => !x)).length + 1 = (m.filter (fun x => !x)).length := by
      intro m
      induction m with
      | nil => intro i h; simp at h
      | cons x m ih =>
        intro i h
        cases i with
        | zero => simp at h; subst h; simp
        | succ i =>
          have := ih i (by simpa using h)
          cases x <;> simp [List.set_cons_succ, List.filter_cons] <;> omega
    have hb' : b.toList[i]? = some false := by
      simp [Array.getD, hi] at hb
      simp [hi, hb]
    have := key b.toList i hb'
    simp only [cnt, Array.toList_setIfInBounds]
    omega
  have gd : ∀ (b : Array Bool) (i : Nat), i < b.size → b.getD i true = b.getD i false := fun b i hi => by simp [Array.getD, hi]
  have setd : ∀ (b : Array Bool) (i j : Nat), i < b.size → ((b.setIfInBounds i true).getD j false = true ↔ j = i ∨ b.getD j false = true) := fun b i j hi => by
    by_cases hji : j = i
    · subst hji; simp [Array.getD_eq_getD_getElem?, hi]
    · rw [Array.getD_eq_getD_getElem?, Array.getElem?_setIfInBounds_ne (Ne.symm hji), ← Array.getD_eq_getD_getElem?]; simp [hji]
  -- what holds of the values
  have look : ∀ {done : List Nat} {s : XS} {V : XE} {av : List Nat} {O : Prop} {E : List Ck}, qgo c.T c.N s.F s.H l es done s.L 0 l [] [] ((0 : Int) = 0) [] = some ⟨V, av, O, E⟩ → O → EOk E →
      QInv c s.F s.H l es done s.L l.length V av ∧ ∀ j, j < l.length → j ∉ es → (∀ o, l[j]? = some o → ∀ j' ∈ bindsOf o, j' ∈ av ∨ j' ∈ done) → j ∈ av := by
    intro done s V av O E hq hO hE
    obtain ⟨k1, _, _, k4, _⟩ := qgo_ok dist acyc l 0 [] [] _ [] ⟨V, av, O, E⟩ (by simp) ⟨fun t x hx => (by cases hx), fun j hj => (by cases hj), fun j hj => (by cases hj)⟩ hq hO hE
    exact ⟨k1, fun j h1 h2 h3 => k4 j (Nat.zero_le _) h1 h2 h3⟩
  have hend : ∀ listed a w', Inv listed a w' → listed.size = l.length → Region.ready .any l.toArray listed = [] → post c B k .normal a w' := by
    rintro listed a w' ⟨n, done, bs, s, V, av, O, E, hq, hO, hE, hfin, _, _, _, hsat, hli, hdn⟩ hsz hr
    have all : ∀ i, i < l.length → listed.getD i false = true := by
      intro i
      induction i using Nat.strongRecOn with
      | _ i ih =>
        intro hi
        cases hli : listed.getD i false with
        | true => rfl
        | false =>
          exfalso
          have : i ∈ Region.ready .any l.toArray listed := (ready_iff hsz).2 ⟨l[i], by simp [hi], by rw [gd _ _ (by omega)]; exact hli, fun j hj => by
            have hlt := acyc i l[i] (by simp [hi]) j hj
            exact ih j hlt (by omega)⟩
          rw [hr] at this; cases this
    obtain ⟨hI, _⟩ := look hq hO hE
    have hdall : allN (fun e => memN e done) es = true := allN_iff.2 fun e he => by
      have hlt : e < l.length := Nat.le_of_ble_eq_true (allN_iff.1 hes e he)
      rcases hli e (all e hlt) with ⟨_, h2⟩ | ⟨h1, _⟩
      · exact memN_iff.2 h2
      · exact absurd he h1
    obtain ⟨hsl, hM⟩ := hsat
    refine hfin hdall a w' ⟨⟨hsl.size, hsl.dfr, fun t g v ht => ?_⟩, hM⟩
    obtain ⟨g', v', h3, rfl, rfl⟩ := look_d ht
    rw [xlook_app] at h3
    split at h3
    · rename_i x hx
      cases h3
      obtain ⟨j, hj, hd⟩ := hI.keys t _ hx
      rcases hli j (all j (hI.lt j hj).1) with ⟨h4, _⟩ | ⟨_, h5, h6⟩
      · exact absurd h4 (hI.lt j hj).2
      · exact h6 t hd g' v' hx
    · exact hsl.val t _ _ (xlook_d h3)
  have main : ∀ fuel listed a w', Inv listed a w' → listed.size = l.length → cnt listed ≤ fuel → wpAny c.P .any l.toArray (post c B k) fuel listed a w' := by
    intro fuel
    induction fuel with
    | zero =>
      intro listed a w' hI hsz hc
      have hr : Region.ready .any l.toArray listed = [] := by
        refine List.eq_nil_iff_forall_not_mem.2 fun i hi => ?_
        obtain ⟨o, ho, h1, _⟩ := (ready_iff hsz).1 hi
        have := cset listed i (by rw [hsz]; exact (List.getElem?_eq_some_iff.1 ho).1) h1
        omega
      exact ⟨hr, hend listed a w' hI hsz hr⟩
    | succ fuel ih =>
      intro listed a w' hI hsz hc
      refine ⟨fun hr => hend listed a w' hI hsz hr, fun i hi => ?_⟩
      obtain ⟨n, done, bs, s, V, av, O, E, hq, hO, hE, hfin, hnx, hcb, hbs, hsat, hli, hdn⟩ := hI
      obtain ⟨o, ho, hnl, hdep⟩ := (ready_iff hsz).1 hi
      have hil := (List.getElem?_eq_some_iff.1 ho).1
      have hnl' : listed.getD i false = false := by rw [← gd _ _ (by omega)]; exact hnl
      have ho' : l.toArray[i]? = some o := by simpa using ho
      obtain ⟨hQ, hcov⟩ := look hq hO hE
      have hdp : ∀ j ∈ bindsOf o, j ∈ av ∨ j ∈ done := fun j hj => (hli j (hdep j hj)).elim (fun h => .inr h.2) (fun h => .inl h.2.1)
      obtain ⟨hsl, M, hX⟩ := hsat
      have hcs : cnt (listed.setIfInBounds i true) ≤ fuel := by have := cset listed i (by omega) hnl; omega
      cases hes2 : memN i es with
      | true =>
        have hie := memN_iff.1 hes2
        have hid : memN i done = false := by
          cases hh : memN i done with
          | false => rfl
          | true => have := hdn i (memN_iff.1 hh); rw [hnl'] at this; cases this
        have hstep := hnx i o ho hes2 hid (allN_iff.2 fun j hj => by rw [Bool.or_eq_true]; exact (hdp j hj).imp memN_iff.2 memN_iff.2)
        have hs2 : Slots a c.N (XE.d (selX l V s.L (bindsOf o))) := ⟨hsl.size, hsl.dfr, fun t g v ht => by
          obtain ⟨g', v', h3, rfl, rfl⟩ := look_d ht
          rcases selX_look h3 with h4 | ⟨j, hj, hd, h4⟩
          · exact hsl.val t _ _ (xlook_d h4)
          · obtain ⟨j2, hj2, hd2⟩ := hQ.keys t _ h4
            have hjj : j = j2 := Classical.byContradiction fun hne => dist j j2 t t hd hd2 hne rfl
            subst hjj
            rcases hli j (hdep j hj) with ⟨h5, _⟩ | ⟨_, _, h6⟩
            · exact absurd h5 (hQ.lt j hj2).2
            · exact h6 t hd g' v' h4⟩
        have h5 := hl _ _ _ _ _ (hstep a w' ⟨hs2, M, hX⟩)
        refine put_op (K := fun a w => ∃ s', DG c B k l es n (done ++ [i]) (bs ++ bindsOf o) V av s' ∧ Sat' c s' a w) ho' h5 fun a' w'' ⟨s', hD, hsat'⟩ hput => ?_
        cases n with
        | zero => exact hD.elim
        | succ n =>
          obtain ⟨V', av', O', E', hq', hO', hE', hst, hav, hcb', hfin', hnx'⟩ := hD
          obtain ⟨hQ', _⟩ := look hq' hO' hE'
          refine ih _ a' w'' ⟨n, done ++ [i], bs ++ bindsOf o, s', V', av', O', E', hq', hO', hE', hfin', hnx', hcb', fun j hj => (setd _ _ _ (by omega)).2 (.inr ((List.mem_append.1 hj).elim (hbs j) (hdep j))), hsat', fun j hj => ?_, fun e he => ?_⟩ (by simp [hsz]) hcs
          · rcases (setd _ _ _ (by omega)).1 hj with rfl | hj
            · exact .inl ⟨hie, by simp⟩
            · rcases hli j hj with ⟨h6, h7⟩ | ⟨h6, h7, h8⟩
              · exact .inl ⟨h6, by simp [h7]⟩
              · refine .inr ⟨h6, memN_iff.1 (allN_iff.1 hav j h7), fun d hd g v hv => ?_⟩
                obtain ⟨d0, op, ty, ps, af, gd', W, v0, h9, h10, h11⟩ := hQ.ok j h7
                have hd0 : d0 = d := by
                  have : dstOf l j = some d0 := by unfold dstOf; rw [h9]; rfl
                  rw [hd] at this; exact (Option.some.inj this).symm
                subst hd0
                have h12 : xlook V' d0 = some (W, v0) := by
                  have : xlook (xkeep (keys V) V') d0 = some (W, v0) := by rw [hst]; exact h10
                  exact xlook_keep _ _ _ _ _ this
                rw [h12] at hv; cases hv
                rw [hput d0 (fun e => dist i j d0 d0 (by unfold dstOf; rw [ho]; exact e) hd (fun e2 => by subst e2; exact h6 hie) rfl)]
                exact h8 d0 hd _ _ h10
          · rcases List.mem_append.1 he with he | he
            · exact (setd _ _ _ (by omega)).2 (.inr (hdn e he))
            · rw [List.mem_singleton] at he; subst he; exact (setd _ _ _ (by omega)).2 (.inl rfl)
      | false =>
        have hie : i ∉ es := fun h => by rw [memN_iff.2 h] at hes2; cases hes2
        have hiav : i ∈ av := hcov i hil hie fun o2 ho2 j hj => by rw [ho] at ho2; cases ho2; exact hdp j hj
        obtain ⟨d, op, ty, ps, af, gd', W, v, h9, h10, h11⟩ := hQ.ok i hiav
        rw [ho] at h9; cases h9
        have hdi : dstOf l i = some d := by unfold dstOf; rw [ho]; rfl
        have hLd : xlook s.L d = none := by
          have := allN_iff.1 hcb i (upto_mem hil)
          have hib : memN i bs = false := by
            cases hh : memN i bs with
            | false => rfl
            | true => have := hbs i (memN_iff.1 hh); rw [hnl'] at this; cases this
          rw [hes2, hib, dstAt_eq, hdi] at this
          simp only [Bool.false_or, Bool.not_eq_true'] at this
          cases hx : xlook s.L d with
          | none => rfl
          | some x => have hk := memN_iff.2 (xlook_key hx); rw [hk] at this; cases this
        obtain ⟨hd, h12⟩ := h11.resolve_left (fun ⟨x, hx⟩ => by rw [hLd] at hx; cases hx)
        obtain ⟨LL, hLL, hwt, hpv⟩ := h12 a hsl fun j' hj' d' hd' g u hu => by
          obtain ⟨j2, hj2, hd2⟩ := hQ.keys d' _ hu
          have hjj : j' = j2 := Classical.byContradiction fun hne => dist j' j2 d' d' hd' hd2 hne rfl
          subst hjj
          rcases hli j' (hdep j' hj') with ⟨h5, _⟩ | ⟨_, _, h6⟩
          · exact absurd h5 (hQ.lt j' hj2).2
          · exact h6 d' hd' g u hu
        have hstep : wpOp c.P l.toArray (post c B k) i (fun a' w'' => w'' = w' ∧ a'.tmps.size = c.N ∧ a'.defers = [] ∧ a'.tmps[d]? = some (sv W.d v.d) ∧ ∀ t, d ≠ t → a'.tmps[t]? = a.tmps[t]?) a w' := by
          refine put_op (K := fun a' w'' => w'' = w' ∧ Slots a' c.N ((d, W.d, v.d) :: LL)) ho' (RL.v (rest := []) (Q := Exit.then (fun a' w'' => w'' = w' ∧ Slots a' c.N ((d, W.d, v.d) :: LL)) (post c B k)) hwt (hpv w' M hX) hd (fun a2 hs2 => (show w' = w' ∧ Slots a2 c.N ((d, W.d, v.d) :: LL) from ⟨rfl, hs2⟩)) a hLL) fun a' w'' ⟨e1, e2⟩ e3 => ⟨e1, e2.size, e2.dfr, e2.val d _ _ (look_cons_eq _ _ _ _), fun t ht => e3 t (fun e => ht (Option.some.inj e))⟩
        refine wpOp_mono (fun a' w'' ⟨e0, e1, e2, e3, e4⟩ => ?_) hstep
        subst e0
        have hsl' : Slots a' c.N s.L.d := ⟨e1, e2, fun t g u ht => by
          by_cases hdt : d = t
          · subst hdt
            obtain ⟨g', v', h3, _, _⟩ := look_d ht
            rw [hLd] at h3; cases h3
          · rw [e4 t hdt]; exact hsl.val t g u ht⟩
        refine ih _ a' w'' ⟨n, done, bs, s, V, av, O, E, hq, hO, hE, hfin, hnx, hcb, fun j hj => (setd _ _ _ (by omega)).2 (.inr (hbs j hj)), ⟨hsl', M, hX⟩, fun j hj => ?_, fun e he => (setd _ _ _ (by omega)).2 (.inr (hdn e he))⟩ (by simp [hsz]) hcs
        rcases (setd _ _ _ (by omega)).1 hj with rfl | hj
        · refine .inr ⟨hie, hiav, fun d2 hd2 g u hu => ?_⟩
          rw [hdi] at hd2; cases hd2
          rw [h10] at hu; cases hu; exact e3
        · rcases hli j hj with h6 | ⟨h6, h7, h8⟩
          · exact .inl h6
          · refine .inr ⟨h6, h7, fun d2 hd2 g u hu => ?_⟩
            have hne : d ≠ d2 := dist i j d d2 hdi hd2 (fun e => by subst e; rw [hnl'] at hj; cases hj)
            rw [e4 d2 hne]; exact h8 d2 hd2 g u hu
  cases n with
  | zero => exact h.elim
  | succ n =>
    obtain ⟨V, av, O, E, hq, hO, hE, _, _, hcb, hfin, hnx⟩ := h
    obtain ⟨hsl, M, hX⟩ := hs
    refine main _ _ a _ ⟨n, [], [], s, V, av, O, E, hq, hO, hE, hfin, hnx, hcb, (fun j hj => by cases hj), ⟨hsl, M, hX.st.ext (Ext.drew w), hX.f, hX.le⟩, fun j hj => ?_, (fun e he => by cases he)⟩ (by simp) ?_
    · exfalso
      rcases Nat.lt_or_ge j l.length with h | h
      · simp [Array.getD, h] at hj
      · simp [Array.getD, Nat.not_lt.2 h] at hj
    · simp [cnt]
/-! ### Its steps -/
section
variable {c : Cx} {B : Exit → Act → World → Prop} {k k' : List Fr} {m : Md} {s s' : XS} {O : Prop} {E : List Ck} {l : List Oper} {es done bs : List Nat} {n : Nat} {V0 V : XE} {av0 av : List Nat}
/-- What may come next. -/
def nextE (l : List Oper) (done av : List Nat) : List Nat → List Nat
  | [] => []
  | e :: es => match memN e done with
    | true => nextE l done av es
    | false => match nth l e with
      | none => nextE l done av es
      | some o => match allN (fun j => memN j av || memN j done) (bindsOf o) with
        | true => e :: nextE l done av es
        | false => nextE l done av es
theorem nextE_mem {e : Nat} {o : Oper} (ho : l[e]? = some o) (hd : memN e done = false) (hb : allN (fun j => memN j av || memN j done) (bindsOf o) = true) : ∀ {es : List Nat}, e ∈ es → e ∈ nextE l done av es
  | x :: es, h => by
    unfold nextE
    by_cases hx : e = x
    · subst hx
      rw [hd]
      have : nth l e = some o := by rw [nth_eq]; exact ho
      rw [this]
      dsimp only
      rw [hb]
      exact .head _
    · have h' : e ∈ es := by rcases List.mem_cons.1 h with rfl | h; exact absurd rfl hx; exact h
      have ih := nextE_mem ho hd hb h'
      split
      · exact ih
      · split
        · exact ih
        · split
          · exact .tail _ ih
          · exact ih
theorem xdrawO (es : List Nat) (n : Nat) {id : Nat} (hl : ∀ ops Q l a w, c.W.list ops Q l a w → wpList c.P ops Q l a w) (h : run c.T c.N k m s = ⟨k', .code (.region id ⟨l⟩ true), s', O, E⟩) (hE : EOk E) (hO : O) (hm : c.P.follows .mixedOrders = true) (hB : (chkF l [] && allN (fun e => Nat.blt e l.length) es) = true) (hn : DG c B k' l es n [] [] [] [] s') : XG c B k m s := by
  rw [Bool.and_eq_true] at hB
  exact run_ok h hE hO fun a w hs => c.W.draw (draw_ok es n hl hm hB.1 hB.2 hn hs)
/-- Nothing is left but what only computes. -/
theorem dg0 (hq : qgo c.T c.N s.F s.H l es done s.L 0 l [] [] ((0 : Int) = 0) [] = some ⟨V, av, O, E⟩) (hE : EOk E) (hO : O) (hk : xkeep (keys V0) V = V0) (hc : (allN (fun j => memN j av) av0, chkB l es bs s.L, allN (fun e => memN e done) es) = (true, true, true))
    (hn : XG c B k .next ⟨s.F, s.H, V ++ s.L⟩) : DG c B k l es (n + 1) done bs V0 av0 s := by
  simp only [Prod.mk.injEq] at hc
  exact ⟨V, av, O, E, hq, hO, hE, hk, hc.1, hc.2.1, fun _ => hn, fun e o _ h1 h2 _ => by rw [allN_iff.1 hc.2.2 e (memN_iff.1 h1)] at h2; cases h2⟩
/-- One may come next; .. -/
theorem dg1 (e : Nat) {o : Oper} (hq : qgo c.T c.N s.F s.H l es done s.L 0 l [] [] ((0 : Int) = 0) [] = some ⟨V, av, O, E⟩) (hE : EOk E) (hO : O) (hk : xkeep (keys V0) V = V0) (hc : (allN (fun j => memN j av) av0, chkB l es bs s.L, allN (fun e => memN e done) es, nextE l done av es, nth l e) = (true, true, false, [e], some o))
    (hn : XG c B (.loop (DG c B k l es n (done ++ [e]) (bs ++ bindsOf o) V av) :: k) (.ops ⟨l⟩ [o]) ⟨s.F, s.H, selX l V s.L (bindsOf o)⟩) : DG c B k l es (n + 1) done bs V0 av0 s := by
  simp only [Prod.mk.injEq] at hc
  obtain ⟨c1, c2, c3, c4, c5⟩ := hc
  refine ⟨V, av, O, E, hq, hO, hE, hk, c1, c2, (fun h => by rw [c3] at h; cases h), fun e' o' ho' h1 h2 h3 => ?_⟩
  have := nextE_mem ho' h2 h3 (memN_iff.1 h1)
  rw [c4, List.mem_singleton] at this
  subst this
  rw [nth_eq, ho'] at c5; cases c5
  exact hn
/-- .. two. -/
theorem dg2 (e1 e2 : Nat) {o1 o2 : Oper} (hq : qgo c.T c.N s.F s.H l es done s.L 0 l [] [] ((0 : Int) = 0) [] = some ⟨V, av, O, E⟩) (hE : EOk E) (hO : O) (hk : xkeep (keys V0) V = V0) (hc : (allN (fun j => memN j av) av0, chkB l es bs s.L, allN (fun e => memN e done) es, nextE l done av es, nth l e1, nth l e2) = (true, true, false, [e1, e2], some o1, some o2))
    (hn1 : XG c B (.loop (DG c B k l es n (done ++ [e1]) (bs ++ bindsOf o1) V av) :: k) (.ops ⟨l⟩ [o1]) ⟨s.F, s.H, selX l V s.L (bindsOf o1)⟩)
    (hn2 : XG c B (.loop (DG c B k l es n (done ++ [e2]) (bs ++ bindsOf o2) V av) :: k) (.ops ⟨l⟩ [o2]) ⟨s.F, s.H, selX l V s.L (bindsOf o2)⟩) : DG c B k l es (n + 1) done bs V0 av0 s := by
  simp only [Prod.mk.injEq] at hc
  obtain ⟨c1, c2, c3, c4, c5, c6⟩ := hc
  refine ⟨V, av, O, E, hq, hO, hE, hk, c1, c2, (fun h => by rw [c3] at h; cases h), fun e' o' ho' h1 h2 h3 => ?_⟩
  have := nextE_mem ho' h2 h3 (memN_iff.1 h1)
  rw [c4] at this
  rcases List.mem_cons.1 this with rfl | this
  · rw [nth_eq, ho'] at c5; cases c5; exact hn1
  · rw [List.mem_singleton] at this
    subst this
    rw [nth_eq, ho'] at c6; cases c6; exact hn2
/-- A step is done. -/
theorem xstep {J : XS → Prop} (h : run c.T c.N k m s = ⟨.loop J :: k', .next, s', O, E⟩) (hE : EOk E) (hO : O) (hJ : J s') : XG c B k m s :=
  run_ok h hE hO fun a w hs => ⟨s', hJ, hs⟩
/-- The same state, told otherwise. -/
theorem xview (s2 : XS) (hF : s2.F = s.F) (hH : HD s2.H = HD s.H) (hL : s2.L.d = s.L.d) (hn : XG c B k m s2) : XG c B k m s := fun a w ⟨h1, M, h2⟩ => hn a w ⟨by rw [hL]; exact h1, M, by rw [hH]; exact h2.st, by rw [hF]; exact h2.f, h2.le⟩
/-- An empty row of one's own, out of nothing. -/
theorem xnil0 {α : Type} [Inhabited α] (kk : Nat) (e : TypeId) (sz : Nat) (f : α → List Value) (hf : ∀ x, (f x).length = sz)
    (hn : XG c B k m ⟨(kk, kn (.slice none 0 0) sz ([] : List α) f) :: s.F, (kk, .ho (.own e sz (.slice none 0 0) ([] : List α).length (([] : List α).flatMap f))) :: s.H, s.L⟩) : XG c B k m s :=
  fun a w ⟨h1, M, h2⟩ => hn a w ⟨h1, M, h2.st.ownNil e sz, fcons ⟨Sl.nil M sz, hf, trivial⟩ h2.f, h2.le⟩
/-- .. that nobody knows of. -/
theorem xnilP0 {α : Type} [inh : Inhabited α] (kk : Nat) (e : TypeId) (sz : Nat) (f : α → List Value) (hf : ∀ x, (f x).length = sz)
    (hn : XG c B k m ⟨s.F, (kk, .pv e (@kn α inh (.slice none 0 0) sz [] f) hf) :: s.H, s.L⟩) : XG c B k m s :=
  fun a w ⟨h1, M, h2⟩ => hn a w ⟨h1, M, h2.st.privNil e sz, h2.f, h2.le⟩
/-- A row's value is a header. -/
theorem xshape (kk : Nat) {α : Type} {inh : Inhabited α} {v : Value} {sz : Nat} {r : List α} {f : α → List Value} {g : Mem → Prop} {hg : ∀ M M', M.le M' → g M → g M'} (hk : rowOfX s.F s.H kk = some (@Kn.mk α inh v sz r f g hg)) (hn : ∀ a q, v = .slice a r.length q → XG c B k m s) : XG c B k m s := fun a w ⟨h1, M, h2⟩ => by
  obtain ⟨M', Hs', _, hK⟩ := rowOfX_ok h2.f h2.st hk
  obtain ⟨p, q, hv, _⟩ := hK.sl.val
  exact hn p q hv a w ⟨h1, M, h2⟩
/-- A call, under a guard, too, that leaves what it is handed as it was. -/
theorem xcallK {γ : Type} (ids : List Nat) {all : Array Oper} {rest : List Oper} {d : Nat} {ty : TypeId} {ps : String} {af : Array Edge} {f : FuncId} {xs : List Operand} {tys : Array TypeId} {gd : Option (Nat × Bool)} {W : Gd} {vs : List XV} {E2 : List Ck} {u : Value} (ux : XV) {pu : γ → Prop} {A R : List (Nat × HX)}
    (h : run c.T c.N k m s = ⟨k', .ops all (⟨some d, .call ⟨.value (.func f), ⟨xs⟩, tys⟩, ty, ps, af, gd⟩ :: rest), s', O, E⟩) (hE : EOk E) (hO : O) (ct : CT c.P f) (hg : (gdOf all s'.L gd, Nat.blt d c.N) = (some W, true)) (hx : opds s'.L W xs = some (vs, E2)) (hE2 : EOk E2) (hA : hsel ids s'.H = some (A, R))
    (hc : W.d = true → ∀ w M, St c.w0 c.M0 w M (HD A ++ (HD R ++ c.Hr)) → FOk M s'.F → Calls c.P f (vs.map XV.d).toArray w (ORet c.w0 c.M0 M (HD R ++ c.Hr) (fun _ : γ => u) pu (fun _ => []) (fun _ => HD A))) (hu : ux.d = u) (hn : XG c B k' (.ops all rest) ⟨s'.F, s'.H, (d, W, ux) :: s'.L⟩) : XG c B k m s := by
  simp only [Prod.mk.injEq] at hg
  refine run_ok h hE hO fun a w ⟨hs, M, hX⟩ => ?_
  have hwt := Wants.wanted (o := ⟨some d, .call ⟨.value (.func f), ⟨xs⟩, tys⟩, ty, ps, af, gd⟩) (gdOf_ok hg.1) hs
  have hxd := opds_d hx hE2
  have hput : ∀ a', Slots a' c.N s'.L.d → ∀ v, v = sv W.d ux.d → Slots (a'.put (some d) v) c.N (XE.d ((d, W, ux) :: s'.L)) := fun a' hs' v hv => by
    rw [hv]; exact hs'.put hg.2 W.d ux.d
  cases hWd : W.d with
  | true =>
    rw [hWd] at hwt hxd
    have hSt : St c.w0 c.M0 w M (HD A ++ (HD R ++ c.Hr)) := hX.st.perm (by rw [← List.append_assoc]; exact (hsel_ok hA).append_right _)
    refine c.W.want hwt (c.W.one ?_)
    refine wpList_plain rfl fun K hK => ?_
    have e1 : (⟨xs⟩ : Array Operand) = xs.toArray := rfl
    have key := call_run (P := c.P) (w := w) ct hxd hs rfl (d := some d) (tys := tys) (ty := ty) (ps := ps) (af := af) (gd := none)
    rw [e1]
    simp only [Oper.wp, key, Oper.upon_enter]
    refine (hc hWd w M hSt hX.f).mono fun e w' he => ?_
    obtain ⟨g, M', rfl, hp, hle, hS, hF⟩ := he
    refine hK _ _ (c.W.back (hn _ w' ⟨hput a hs _ (by rw [hWd, hu]; rfl), M', ?_, hX.f.mono hle, hX.le.trans hle⟩))
    exact hS.perm (by rw [← List.append_assoc]; exact ((hsel_ok hA).append_right _).symm)
  | false =>
    refine c.W.one ?_
    unfold wpList
    rw [hwt, hWd]
    exact c.W.back (hn _ w ⟨hput a hs _ (by rw [hWd]; rfl), M, hX⟩)
/-- Some of what is owned, in this order. -/
theorem XOk.sel {F : List (Nat × Kn)} {H : List (Nat × HX)} {w : World} {M : Mem} (ids : List Nat) {A R : List (Nat × HX)} (h : XOk c F H w M) (hA : hsel ids H = some (A, R)) : St c.w0 c.M0 w M (HD A ++ c.Hr) := by
  have h1 : St c.w0 c.M0 w M (HD A ++ (HD R ++ c.Hr)) := h.st.perm (by rw [← List.append_assoc]; exact (hsel_ok hA).append_right _)
  exact h1.drop _ (List.Sublist.append_left (List.sublist_append_right _ _) _)
/-- A call behind which nothing is known of memory but that what was there at the beginning is as it was. -/
theorem xcallZ {all : Array Oper} {rest : List Oper} {d : Nat} {ty : TypeId} {ps : String} {af : Array Edge} {f : FuncId} {xs : List Operand} {tys : Array TypeId} {vs : List XV} {E2 : List Ck} {u : Value} {v : XV} (hM : Sat c.w0 c.M0) (hb : c.Hr = []) (hle : c.M1 = c.M0)
    (h : run c.T c.N k m s = ⟨k', .ops all (⟨some d, .call ⟨.value (.func f), ⟨xs⟩, tys⟩, ty, ps, af, none⟩ :: rest), s', O, E⟩) (hE : EOk E) (hO : O) (ct : CT c.P f) (hd : Nat.blt d c.N = true) (hx : opds s'.L .t xs = some (vs, E2)) (hE2 : EOk E2)
    (hc : ∀ w M, XOk c s'.F s'.H w M → Calls c.P f (vs.map XV.d).toArray w (fun e w' => e = .returned u ∧ Ext c.w0 w')) (hv : vx u = some v) (hn : XG c B k' (.ops all rest) ⟨[], [], (d, .t, v) :: s'.L⟩) : XG c B k m s := by
  refine run_ok h hE hO fun a w ⟨hs, M, hX⟩ => ?_
  have hxd := opds_d hx hE2
  refine c.W.one ?_
  refine wpList_plain rfl fun K hK => ?_
  have e1 : (⟨xs⟩ : Array Operand) = xs.toArray := rfl
  have key := call_run (P := c.P) (w := w) ct hxd hs rfl (d := some d) (tys := tys) (ty := ty) (ps := ps) (af := af) (gd := none)
  rw [e1]
  simp only [Oper.wp, key, Oper.upon_enter]
  refine (hc w M hX).mono fun e w' ⟨he, hw⟩ => ?_
  subst he
  have hp := put_slot hs hd v
  rw [vx_d hv] at hp
  exact hK _ _ (c.W.back (hn _ w' ⟨hp, c.M0, by show St _ _ _ _ ([] ++ c.Hr); rw [hb]; exact (St.start hM).ext hw, fnil, by rw [hle]; exact Mem.le.refl _⟩))
end
end Go.Eng
namespace Go.Eng

/-- The first k lists, one behind the other. -/
def flatTo {α : Type} (xs : List (List α)) (k : Int) : List α := (xs.take k.toNat).flatten
theorem flatTo_step {α : Type} {xs : List (List α)} {k : Int} (h0 : 0 ≤ k) (h1 : k < len xs) : flatTo xs (k + 1) = flatTo xs k ++ at' xs k := by
  have hk : k.toNat < xs.length := by unfold len at h1; omega
  unfold flatTo at'
  rw [show (k + 1).toNat = k.toNat + 1 from by omega, List.take_add_one, List.flatten_append]
  simp [hk]
theorem flatTo_end {α : Type} {xs : List (List α)} {k : Int} (h : len xs ≤ k) : flatTo xs k = xs.flatten := by
  unfold flatTo; rw [List.take_of_length_le (by unfold len at h; omega)]
theorem flatTo_le {α : Type} (xs : List (List α)) (k : Int) : len (flatTo xs k) ≤ len xs.flatten := by
  have h : (xs.take k.toNat).flatten ++ (xs.drop k.toNat).flatten = xs.flatten := by rw [← List.flatten_append, List.take_append_drop]
  unfold flatTo
  rw [← h, len_app]; have := len_nonneg (xs.drop k.toNat).flatten; omega
theorem at_mem {α : Type} [Inhabited α] {l : List α} {k : Int} (h0 : 0 ≤ k) (h1 : k < len l) : at' l k ∈ l := at'_mem h0 h1
theorem mem_at {α : Type} [Inhabited α] {l : List α} {x : α} (h : x ∈ l) : ∃ i : Int, 0 ≤ i ∧ i < len l ∧ at' l i = x := by
  obtain ⟨i, hi, e⟩ := List.getElem_of_mem h
  refine ⟨i, by omega, by unfold len; omega, ?_⟩
  obtain ⟨hlt, e2⟩ := at'_eq l (i := i) (by omega) (by unfold len; omega)
  rw [e2]; simpa using e
theorem subA_snoc {α : Type} [Inhabited α] {l : List α} {k : Int} (h0 : 0 ≤ k) (h1 : k < len l) : Eng.sub l 0 (k + 1) = Eng.sub l 0 k ++ [at' l k] := by
  obtain ⟨hlt, e⟩ := at'_eq l h0 h1
  unfold Eng.sub
  rw [e, show (k + 1).toNat - (0 : Int).toNat = k.toNat + 1 by omega, show k.toNat - (0 : Int).toNat = k.toNat by omega]
  simp only [Int.toNat_zero, List.drop_zero]
  rw [List.take_add_one, List.getElem?_eq_getElem hlt]; rfl
theorem subA_all {α : Type} {l : List α} {k : Int} (h : len l ≤ k) : Eng.sub l 0 k = l := by
  unfold Eng.sub len at *
  simp only [Int.toNat_zero, List.drop_zero, Nat.sub_zero]
  exact List.take_of_length_le (by omega)
end Go.Eng
