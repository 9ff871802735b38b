/-
  THE EXECUTOR, PART 4: code, found out by evaluation up to where something is to be said. Over any program.
  THE EXECUTOR, PART 5: where it stops: conditions, ends, loops, calls. Over any program.
  THE EXECUTOR, PART 6: types, looked up in the program; the beginning of a call. Over any program.
  THE ENGINE, PART 13: a part of a slice that is read. Over any program.
  THE ENGINE, PART 15: panics: one that the text raises, and calls that may end in one. Over any program.
-/
import Derived.Test.YtmjpjbmeamnfpaaGreatDoorZb7
import Derived.Test.YtmjpjbmeamnfpaaGreatDoorZb4
set_option linter.unusedVariables false
set_option linter.unusedSimpArgs false
namespace Go.Eng
open Go.RowKit
universe u

/-- What is known: rows that are read, things of one's own, slots. -/
structure XS : Type 1 where
  F : List (Nat × Kn)
  H : List (Nat × HX)
  L : XE
structure Cx where
  P : Program
  N : Nat
  w0 : World
  M0 : Mem
  M1 : Mem
  Hr : List HO
  T : TT
  hT : TOk P T
  W : Wk P
structure XOk (c : Cx) (F : List (Nat × Kn)) (H : List (Nat × HX)) (w : World) (M : Mem) : Prop where
  st : St c.w0 c.M0 w M (HD H ++ c.Hr)
  f : FOk M F
  le : c.M1.le M
def Sat' (c : Cx) (s : XS) (a : Act) (w : World) : Prop := Slots a c.N s.L.d ∧ ∃ M, XOk c s.F s.H w M
inductive Fr : Type 1 where
  | seq (y : Code)
  | block (id : Nat)
  | scope
  | loop (J : XS → Prop)
def post (c : Cx) (B : Exit → Act → World → Prop) : List Fr → (Exit → Act → World → Prop)
  | [] => B
  | .seq y :: k => Exit.then (c.W.wp y (post c B k)) (post c B k)
  | .block id :: k => Exit.inBlock id (post c B k)
  | .scope :: k => Exit.noGoto (post c B k)
  | .loop J :: k => Exit.then (fun a w => ∃ s, J s ∧ Sat' c s a w) (post c B k)
inductive Md where
  | code (c : Code)
  | ops (all : Array Oper) (l : List Oper)
  | br (b : Bool) (x y : Code)
  | next
  | exit (id : Nat)
  | ret
def XG (c : Cx) (B : Exit → Act → World → Prop) (k : List Fr) (m : Md) (s : XS) : Prop := ∀ a w, Sat' c s a w → match m with
  | .code x => c.W.wp x (post c B k) a w
  | .ops all l => c.W.list all (post c B k) l a w
  | .br b x y => c.W.wp (if b = true then x else y) (post c B k) a w
  | .next => post c B k .normal a w
  | .exit id => post c B k (.exit id) a w
  | .ret => post c B k .ret a w
/-- Where it stops: what is known there, what is to be shown, and to be seen to. -/
structure StopX : Type 1 where
  k : List Fr
  m : Md
  s : XS
  O : Prop
  E : List Ck
def gdOf (all : Array Oper) (L : XE) (gd : Option (Nat × Bool)) : Option Gd :=
  match gd with
  | none => some .t
  | some (j, want) => match nth all.toList j with
    | some o => match o.dst with
      | some d => match xlook L d with
        | some (g, v) => match asB v with
          | some b => match want with
            | true => match g with
              | .t => some (.g b)
              | .g a => some (.g (a && b))
            | false => match g with
              | .t => some (.g (!b))
              | .g a => some (.g (a && !b))
          | none => none
        | none => none
      | none => none
    | none => none
def imp (W : Gd) : List Prop → Prop → (Prop → StopX) → StopX
  | [], O, K => K O
  | p :: ps, O, K => match W with
    | .t => imp W ps (p ∧ O) K
    | .g b => imp W ps ((b = false ∨ p) ∧ O) K
/-- Each takes one cell. -/
def ones (F : List (Nat × Kn)) (H : List (Nat × HX)) : List XV → Option (List Ck)
  | [] => some []
  | x :: l => match ones F H l with
    | some E => match x with
      | .v u => match u.oneCell' with
        | true => some E
        | false => none
      | .sl k u => match rowOfX F H k with
        | some (@Kn.mk α inh kv sz l f g' hg') => some (.v u kv :: E)
        | none => none
      | .el _ _ _ _ _ => some E
      | .bx _ _ _ => some E
      | _ => none
    | none => none
/-- A store into a box. -/
def stV (T : TT) (F : List (Nat × Kn)) (H : List (Nat × HX)) (L : XE) (t : TypeId) (x y : Operand) : Option (List (Nat × HX) × List Ck) :=
  match opd2 L .t x y with
  | some (a, v, E) => match a with
    | .bx k b o => match hlook H k with
      | some (.box b' cs t') => match tlook T t with
        | some ⟨_, n, _⟩ => match cellsOf v with
          | some vs => match Nat.beq vs.length n with
            | true => match ones F H vs with
              | some E1 => match put' cs o vs with
                | some cs' => some (hset H k (.box b' cs' t'), .n b b' :: (E1 ++ E))
                | none => none
              | none => none
            | false => none
          | none => none
        | none => none
      | _ => none
    | _ => none
  | none => none
def exec (T : TT) (N : Nat) : Nat → List Fr → Md → List (Nat × Kn) → List (Nat × HX) → XE → Prop → List Ck → StopX
  | 0, k, m, F, H, L, O, E => ⟨k, m, ⟨F, H, L⟩, O, E⟩
  | n + 1, k, m, F, H, L, O, E => match m with
    | .code c => match c with
      | .skip => exec T N n k .next F H L O E
      | .seq x y => exec T N n (.seq y :: k) (.code x) F H L O E
      | .region id all draw => match draw with
        | false => exec T N n k (.ops all all.toList) F H L O E
        | true => ⟨k, m, ⟨F, H, L⟩, O, E⟩
      | .block id x => exec T N n (.block id :: k) (.code x) F H L O E
      | .scope x => exec T N n (.scope :: k) (.code x) F H L O E
      | .exit id => exec T N n k (.exit id) F H L O E
      | .ret => ⟨[], .ret, ⟨F, H, L⟩, O, E⟩
      | .cond x a b => match opd L .t x with
        | some (v, E') => match asB v with
          | some p => ⟨k, .br p a b, ⟨F, H, L⟩, O, E' ++ E⟩
          | none => ⟨k, m, ⟨F, H, L⟩, O, E⟩
        | none => ⟨k, m, ⟨F, H, L⟩, O, E⟩
      | _ => ⟨k, m, ⟨F, H, L⟩, O, E⟩
    | .next => match k with
      | .seq y :: k' => exec T N n k' (.code y) F H L O E
      | .block _ :: k' => exec T N n k' .next F H L O E
      | .scope :: k' => exec T N n k' .next F H L O E
      | _ => ⟨k, m, ⟨F, H, L⟩, O, E⟩
    | .exit id => match k with
      | .block id' :: k' => match Nat.beq id id' with
        | true => exec T N n k' .next F H L O E
        | false => exec T N n k' (.exit id) F H L O E
      | .seq _ :: k' => exec T N n k' (.exit id) F H L O E
      | .scope :: k' => exec T N n k' (.exit id) F H L O E
      | .loop _ :: k' => exec T N n k' (.exit id) F H L O E
      | [] => ⟨k, m, ⟨F, H, L⟩, O, E⟩
    | .ops all l => match l with
      | [] => exec T N n k .next F H L O E
      | ⟨dst, op, ty, ps, af, gd⟩ :: rest => match dst with
        | some d => match gdOf all L gd with
          | some W => match opV T F H L W op with
            | some (v, p, E') => match Nat.blt d N with
              | true => imp W p O fun O' => exec T N n k (.ops all rest) F H ((d, W, v) :: L) O' (E' ++ E)
              | false => ⟨k, m, ⟨F, H, L⟩, O, E⟩
            | none => ⟨k, m, ⟨F, H, L⟩, O, E⟩
          | none => ⟨k, m, ⟨F, H, L⟩, O, E⟩
        | none => match gd with
          | none => match op with
            | .store t x y => match stV T F H L t x y with
              | some (H', E') => exec T N n k (.ops all rest) F H' L O (E' ++ E)
              | none => ⟨k, m, ⟨F, H, L⟩, O, E⟩
            | _ => ⟨k, m, ⟨F, H, L⟩, O, E⟩
          | some _ => ⟨k, m, ⟨F, H, L⟩, O, E⟩
    | _ => ⟨k, m, ⟨F, H, L⟩, O, E⟩
/-- What is known anew, with all of it looked at. -/
def nrm {α : Type u} : List (Nat × α) → Option (List (Nat × α))
  | [] => some []
  | (k, x) :: L => match nrm L with
    | some L' => some ((k, x) :: L')
    | none => none
theorem nrm_eq {α : Type u} : ∀ {L L' : List (Nat × α)}, nrm L = some L' → L' = L
  | [], _, h => by cases h; rfl
  | (k, x) :: L, L', h => by
    unfold nrm at h
    split at h
    · rename_i L2 h2; cases h; rw [nrm_eq h2]
    · cases h
def nrmX : XE → Option XE
  | [] => some []
  | (k, g, v) :: L => match nrmX L with
    | some L' => some ((k, g, v) :: L')
    | none => none
theorem nrmX_eq : ∀ {L L' : XE}, nrmX L = some L' → L' = L
  | [], _, h => by cases h; rfl
  | (k, g, v) :: L, L', h => by
    unfold nrmX at h
    split at h
    · rename_i L2 h2; cases h; rw [nrmX_eq h2]
    · cases h
def run (T : TT) (N : Nat) (k : List Fr) (m : Md) (s : XS) : StopX :=
  match s with
  | ⟨F, H, L⟩ => match nrm F with
    | some F' => match nrm H with
      | some H' => match nrmX L with
        | some L' => exec T N 10000 k m F' H' L' ((0 : Int) = 0) []
        | none => exec T N 10000 k m F H L ((0 : Int) = 0) []
      | none => exec T N 10000 k m F H L ((0 : Int) = 0) []
    | none => exec T N 10000 k m F H L ((0 : Int) = 0) []

theorem imp_ok {W : Gd} {K : Prop → StopX} : ∀ {ps : List Prop} {O : Prop}, ∃ O', imp W ps O K = K O' ∧ (O' → (W.d = true → allP ps) ∧ O)
  | [], O => ⟨O, rfl, fun h => ⟨fun _ => trivial, h⟩⟩
  | p :: ps, O => by
    unfold imp
    cases W with
    | t =>
      obtain ⟨O', h1, h2⟩ := imp_ok (W := .t) (K := K) (ps := ps) (O := p ∧ O)
      exact ⟨O', h1, fun h => ⟨fun hW => ⟨(h2 h).2.1, (h2 h).1 hW⟩, (h2 h).2.2⟩⟩
    | g b =>
      obtain ⟨O', h1, h2⟩ := imp_ok (W := .g b) (K := K) (ps := ps) (O := (b = false ∨ p) ∧ O)
      exact ⟨O', h1, fun h => ⟨fun hW => ⟨(h2 h).2.1.resolve_left (by rw [show b = true from hW]; decide), (h2 h).1 hW⟩, (h2 h).2.2⟩⟩
section
variable {c : Cx} {B : Exit → Act → World → Prop} {k : List Fr} {s : XS}
theorem post_ret (a : Act) (w : World) (h : B .ret a w) : ∀ k : List Fr, post c B k .ret a w
  | [] => h
  | .seq _ :: k => post_ret a w h k
  | .block _ :: k => post_ret a w h k
  | .scope :: k => post_ret a w h k
  | .loop _ :: k => post_ret a w h k
theorem gdOf_ok {all : Array Oper} {L : XE} {gd : Option (Nat × Bool)} {W : Gd} (h : gdOf all L gd = some W) : Wants all L.d gd W.d := by
  unfold gdOf at h
  split at h
  · cases h; exact .none
  · rename_i j want
    split at h
    · rename_i o ho
      split at h
      · rename_i d hd
        split at h
        · rename_i g v hl
          split at h
          · rename_i b hb
            have := asB_eq hb; subst this
            have hl' := xlook_d hl
            have hj : (all[j]?).bind (·.dst) = some d := by
              rw [nth_eq] at ho
              simp only [Array.getElem?_toList] at ho
              rw [ho]; exact hd
            split at h
            · split at h <;> cases h
              · exact .pos hj hl'
              · exact .posG hj hl'
            · split at h <;> cases h
              · exact .neg hj hl'
              · exact .negG hj hl'
          · cases h
        · cases h
      · cases h
    · cases h
theorem ones_ok {w0 w : World} {M0 M : Mem} {F : List (Nat × Kn)} {H : List (Nat × HX)} {Hr : List HO} (hF : FOk M F) (hS : St w0 M0 w M (HD H ++ Hr)) : ∀ {vs : List XV} {E : List Ck}, ones F H vs = some E → EOk E → ∀ u ∈ vs.map XV.d0, u.oneCell' = true
  | [], _, _, _ => fun u hu => by cases hu
  | x :: l, E, h, hE => by
    unfold ones at h
    split at h
    · rename_i E' h1
      split at h
      · split at h
        · rename_i hx
          cases h
          intro u hu
          rcases List.mem_cons.1 hu with rfl | hu
          · exact hx
          · exact ones_ok hF hS h1 hE u hu
        · cases h
      · rename_i k u
        split at h
        · rename_i α inh kv sz l f g' hg' hK
          simp only [Option.some.injEq] at h; subst h
          intro u' hu
          rcases List.mem_cons.1 hu with rfl | hu
          · have hh : _ = kv := hE _ (.head _)
            obtain ⟨M2, Hs2, hS2, hK2⟩ := rowOfX_ok hF hS hK
            exact hh ▸ sl_one hK2
          · exact ones_ok hF hS h1 (fun c hc => hE c (.tail _ hc)) _ hu
        · cases h
      · cases h
        intro u hu
        rcases List.mem_cons.1 hu with rfl | hu
        · rfl
        · exact ones_ok hF hS h1 hE u hu
      · cases h
        intro u hu
        rcases List.mem_cons.1 hu with rfl | hu
        · rfl
        · exact ones_ok hF hS h1 hE u hu
      · cases h
    · cases h
theorem cells_d0 {v : XV} {vs : List XV} (h : cellsOf v = some vs) : v.d.cells.toList = vs.map XV.d0 ∨ ∃ u, vs = [u] ∧ v = u ∧ (∀ cs, u ≠ .ag cs) ∧ (∀ cs, u ≠ .tu cs) := by
  unfold cellsOf at h
  split at h
  · cases h; left; simp [XV.d, XV.d1, Value.cells]
  · cases h
  · rename_i h1 h2
    cases h; right
    exact ⟨_, rfl, rfl, h1, h2⟩
theorem stV_ok {H' : List (Nat × HX)} {E : List Ck} {t : TypeId} {x y : Operand} {all : Array Oper} {Q : Exit → Act → World → Prop} {rest : List Oper} {ty : TypeId} {ps : String} {af : Array Edge} (h : stV c.T s.F s.H s.L t x y = some (H', E)) (hE : EOk E) {w : World} {M : Mem} (hX : XOk c s.F s.H w M)
    (hn : ∀ a w, Sat' c ⟨s.F, H', s.L⟩ a w → wpList c.P all Q rest a w) (a : Act) (w' : World) (hsl : Slots a c.N s.L.d) (hw : w' = w := by rfl) : wpList c.P all Q (⟨none, .store t x y, ty, ps, af, none⟩ :: rest) a w' := by
  subst hw
  unfold stV at h
  split at h
  · rename_i va v E0 h1
    split at h
    · rename_i k b o
      split at h
      · rename_i b' cs t' h2
        split at h
        · rename_i _ n _ h3
          split at h
          · rename_i vs h4
            split at h
            · rename_i hl
              have hl' : vs.length = n := Nat.eq_of_beq_eq_true hl
              split at h
              · rename_i E1 h5
                split at h
                · rename_i cs' h6
                  simp only [Option.some.injEq, Prod.mk.injEq] at h; obtain ⟨rfl, rfl⟩ := h
                  have hb : b = b' := hE _ (.head _)
                  subst hb
                  have hE2 : EOk (E1 ++ E0) := fun c hc => hE c (.tail _ hc)
                  obtain ⟨hx, hy⟩ := opd2_d h1 hE2.app.2
                  have h1c := ones_ok hX.f hX.st h5 hE2.app.1
                  have hcells : v.d.cells.toList = vs.map XV.d0 := by
                    rcases cells_d0 h4 with h7 | ⟨u, rfl, rfl, h8, h9⟩
                    · exact h7
                    · have e : v.d = v.d0 := by cases v <;> first | rfl | (exact absurd rfl (h8 _)) | (exact absurd rfl (h9 _))
                      rw [e, cells_of_one (h1c _ (by simp))]; rfl
                  obtain ⟨i, hi, hst2⟩ := hd_get (Hr := c.Hr) h2
                  obtain ⟨e6, hf6⟩ := put_eq _ _ _ _ h6
                  refine RL.storeB (P := c.P) (N := c.N) (ops := all) (Q := Q) (rest := rest) (L := s.L.d) (cs' := cs'.map XV.d0) (Hs' := HD (hset s.H k (.box b cs' t')) ++ c.Hr) hX.st hi hx hy (c.hT _ _ h3).size (by rw [hcells, List.length_map]; exact hl') (Nat.ble_eq_true_of_le (by rw [List.length_map]; show o + n ≤ cs.length; omega)) (by rw [hcells]; exact List.all_eq_true.2 h1c) ?_ ?_ ?_ a hsl
                  · unfold splice; rw [hcells, e6]; simp [List.map_take, List.map_drop]
                  · exact (hst2 (.box b cs' t')).symm
                  · intro w2 hS2 a2 hs2
                    exact hn a2 w2 ⟨hs2, M, hS2, hX.f, hX.le⟩
                · cases h
              · cases h
            · cases h
          · cases h
        · cases h
      · cases h
    · cases h
  · cases h
/-- What is found out is so. -/
theorem exec_ok : ∀ (n : Nat) (k : List Fr) (m : Md) (F : List (Nat × Kn)) (H : List (Nat × HX)) (L : XE) (O : Prop) (E : List Ck), let t := exec c.T c.N n k m F H L O E; t.O → EOk t.E → XG c B t.k t.m t.s → O ∧ EOk E ∧ XG c B k m ⟨F, H, L⟩
  | 0, k, m, F, H, L, O, E => fun h1 h2 h3 => ⟨h1, h2, h3⟩
  | n + 1, k, m, F, H, L, O, E => by
    intro t h1 h2 h3
    have ht : t = exec c.T c.N (n + 1) k m F H L O E := rfl
    unfold exec at ht
    split at ht
    · rename_i x
      split at ht
      · rw [ht] at h1 h2 h3
        obtain ⟨r1, r2, r3⟩ := exec_ok n _ _ _ _ _ _ _ h1 h2 h3
        exact ⟨r1, r2, fun a w hs => c.W.skip (r3 a w hs)⟩
      · rw [ht] at h1 h2 h3
        obtain ⟨r1, r2, r3⟩ := exec_ok n _ _ _ _ _ _ _ h1 h2 h3
        exact ⟨r1, r2, fun a w hs => c.W.seq (r3 a w hs)⟩
      · split at ht
        · rw [ht] at h1 h2 h3
          obtain ⟨r1, r2, r3⟩ := exec_ok n _ _ _ _ _ _ _ h1 h2 h3
          exact ⟨r1, r2, fun a w hs => c.W.region (r3 a w hs)⟩
        · rw [ht] at h1 h2 h3; exact ⟨h1, h2, h3⟩
      · rw [ht] at h1 h2 h3
        obtain ⟨r1, r2, r3⟩ := exec_ok n _ _ _ _ _ _ _ h1 h2 h3
        exact ⟨r1, r2, fun a w hs => c.W.block (r3 a w hs)⟩
      · rw [ht] at h1 h2 h3
        obtain ⟨r1, r2, r3⟩ := exec_ok n _ _ _ _ _ _ _ h1 h2 h3
        exact ⟨r1, r2, fun a w hs => c.W.scope (r3 a w hs)⟩
      · rw [ht] at h1 h2 h3
        obtain ⟨r1, r2, r3⟩ := exec_ok n _ _ _ _ _ _ _ h1 h2 h3
        exact ⟨r1, r2, fun a w hs => c.W.exit (r3 a w hs)⟩
      · rw [ht] at h1 h2 h3
        exact ⟨h1, h2, fun a w hs => c.W.ret (post_ret a w (h3 a w hs) k)⟩
      · split at ht
        · rename_i v E' ho
          split at ht
          · rename_i p hp
            have := asB_eq hp; subst this
            rw [ht] at h1 h2 h3
            refine ⟨h1, (EOk.app h2).2, fun a w hs => c.W.cond (opd_d ho (EOk.app h2).1 a c.N hs.1 rfl) (h3 a w hs)⟩
          · rw [ht] at h1 h2 h3; exact ⟨h1, h2, h3⟩
        · rw [ht] at h1 h2 h3; exact ⟨h1, h2, h3⟩
      · rw [ht] at h1 h2 h3; exact ⟨h1, h2, h3⟩
    · split at ht
      · rw [ht] at h1 h2 h3
        obtain ⟨r1, r2, r3⟩ := exec_ok n _ _ _ _ _ _ _ h1 h2 h3
        exact ⟨r1, r2, fun a w hs => r3 a w hs⟩
      · rw [ht] at h1 h2 h3
        obtain ⟨r1, r2, r3⟩ := exec_ok n _ _ _ _ _ _ _ h1 h2 h3
        exact ⟨r1, r2, fun a w hs => r3 a w hs⟩
      · rw [ht] at h1 h2 h3
        obtain ⟨r1, r2, r3⟩ := exec_ok n _ _ _ _ _ _ _ h1 h2 h3
        exact ⟨r1, r2, fun a w hs => r3 a w hs⟩
      · rw [ht] at h1 h2 h3; exact ⟨h1, h2, h3⟩
    · rename_i id
      split at ht
      · rename_i id' k'
        split at ht
        · rename_i hid
          have := Nat.eq_of_beq_eq_true hid; subst this
          rw [ht] at h1 h2 h3
          obtain ⟨r1, r2, r3⟩ := exec_ok n _ _ _ _ _ _ _ h1 h2 h3
          refine ⟨r1, r2, fun a w hs => ?_⟩
          show (if id = id then _ else _)
          rw [if_pos rfl]; exact r3 a w hs
        · rename_i hid
          have : id ≠ id' := fun e => by subst e; rw [Nat.beq_refl] at hid; cases hid
          rw [ht] at h1 h2 h3
          obtain ⟨r1, r2, r3⟩ := exec_ok n _ _ _ _ _ _ _ h1 h2 h3
          refine ⟨r1, r2, fun a w hs => ?_⟩
          show (if id = id' then _ else _)
          rw [if_neg this]; exact r3 a w hs
      · rw [ht] at h1 h2 h3
        obtain ⟨r1, r2, r3⟩ := exec_ok n _ _ _ _ _ _ _ h1 h2 h3
        exact ⟨r1, r2, fun a w hs => r3 a w hs⟩
      · rw [ht] at h1 h2 h3
        obtain ⟨r1, r2, r3⟩ := exec_ok n _ _ _ _ _ _ _ h1 h2 h3
        exact ⟨r1, r2, fun a w hs => r3 a w hs⟩
      · rw [ht] at h1 h2 h3
        obtain ⟨r1, r2, r3⟩ := exec_ok n _ _ _ _ _ _ _ h1 h2 h3
        exact ⟨r1, r2, fun a w hs => r3 a w hs⟩
      · rw [ht] at h1 h2 h3; exact ⟨h1, h2, h3⟩
    · rename_i all l
      split at ht
      · rw [ht] at h1 h2 h3
        obtain ⟨r1, r2, r3⟩ := exec_ok n _ _ _ _ _ _ _ h1 h2 h3
        exact ⟨r1, r2, fun a w hs => c.W.nil (r3 a w hs)⟩
      · rename_i dst op ty ps af gd rest
        split at ht
        · rename_i d
          split at ht
          · rename_i W hW
            split at ht
            · rename_i v p E' hv
              split at ht
              · rename_i hd
                obtain ⟨O', hi, hO'⟩ := imp_ok (W := W) (K := fun O' => exec c.T c.N n k (.ops all rest) F H ((d, W, v) :: L) O' (E' ++ E)) (ps := p) (O := O)
                rw [ht, hi] at h1 h2 h3
                obtain ⟨r1, r2, r3⟩ := exec_ok n _ _ _ _ _ _ _ h1 h2 h3
                obtain ⟨hp, hO⟩ := hO' r1
                refine ⟨hO, (EOk.app r2).2, fun a w hs => ?_⟩
                obtain ⟨hsl, M, hX⟩ := hs
                have hpv : PV c.P (· = w) L.d W.d ⟨some d, op, ty, ps, af, gd⟩ v.d := opV_d c.hT hX.f hX.st extEq hv (EOk.app r2).1 hp
                exact c.W.one (RL.v (gdOf_ok hW) hpv hd (fun a' hs' => c.W.back (r3 a' w ⟨hs', M, hX⟩)) a hsl)
              · rw [ht] at h1 h2 h3; exact ⟨h1, h2, h3⟩
            · rw [ht] at h1 h2 h3; exact ⟨h1, h2, h3⟩
          · rw [ht] at h1 h2 h3; exact ⟨h1, h2, h3⟩
        · split at ht
          · split at ht
            · rename_i tt x y
              split at ht
              · rename_i H' E' hst
                rw [ht] at h1 h2 h3
                obtain ⟨r1, r2, r3⟩ := exec_ok n _ _ _ _ _ _ _ h1 h2 h3
                refine ⟨r1, (EOk.app r2).2, fun a w hs => ?_⟩
                obtain ⟨hsl, M, hX⟩ := hs
                exact c.W.one (stV_ok hst (EOk.app r2).1 hX (fun a' w' hs' => c.W.back (r3 a' w' hs')) a w hsl)
              · rw [ht] at h1 h2 h3; exact ⟨h1, h2, h3⟩
            · rw [ht] at h1 h2 h3; exact ⟨h1, h2, h3⟩
          · rw [ht] at h1 h2 h3; exact ⟨h1, h2, h3⟩
    · rw [ht] at h1 h2 h3; exact ⟨h1, h2, h3⟩
theorem run_ok {m : Md} {k' : List Fr} {m' : Md} {s' : XS} {O' : Prop} {E' : List Ck} (h : run c.T c.N k m s = ⟨k', m', s', O', E'⟩) (hE : EOk E') (hO : O') (hn : XG c B k' m' s') : XG c B k m s := by
  unfold run at h
  split at h
  rename_i F H L
  have key : ∀ F' H' L', F' = F → H' = H → L' = L → exec c.T c.N 10000 k m F' H' L' ((0 : Int) = 0) [] = ⟨k', m', s', O', E'⟩ → XG c B k m ⟨F, H, L⟩ := by
    rintro F' H' L' rfl rfl rfl h
    have := exec_ok (c := c) (B := B) 10000 k m F' H' L' ((0 : Int) = 0) []
    rw [h] at this
    exact (this hO hE hn).2.2
  split at h
  · rename_i F' hF
    split at h
    · rename_i H' hH
      split at h
      · rename_i L' hL
        exact key F' H' L' (nrm_eq hF) (nrm_eq hH) (nrmX_eq hL) h
      · exact key F H L rfl rfl rfl h
    · exact key F H L rfl rfl rfl h
  · exact key F H L rfl rfl rfl h
end
end Go.Eng
namespace Go.Eng
open Go.RowKit

abbrev I (n : Int) : XV := .v (.int .i64 n)
/-- A slot that is known. -/
abbrev Z (k : Nat) (v : XV) : Nat × Gd × XV := (k, .t, v)
def xargs : Nat → List XV → XE
  | _, [] => []
  | k, v :: vs => (k, .t, v) :: xargs (k + 1) vs
theorem xargs_d : ∀ (vs : List XV) (k : Nat), (xargs k vs).d = envOf k (vs.map XV.d)
  | [], _ => rfl
  | v :: vs, k => by show (k, true, v.d) :: XE.d (xargs (k + 1) vs) = _; rw [xargs_d vs]; rfl
def xkeep : List Nat → XE → XE
  | [], _ => []
  | k :: ks, L => match xlook L k with
    | some x => (k, x) :: xkeep ks L
    | none => xkeep ks L
theorem xlook_keep : ∀ (ks : List Nat) (L : XE) (t : Nat) (g : Gd) (v : XV), xlook (xkeep ks L) t = some (g, v) → xlook L t = some (g, v)
  | [], _, _, _, _, h => by simp [xkeep, xlook] at h
  | k :: ks, L, t, g, v, h => by
    unfold xkeep at h
    split at h
    · rename_i x hx
      obtain ⟨g', v'⟩ := x
      unfold xlook at h
      split at h
      · rename_i e
        cases h; have := Nat.eq_of_beq_eq_true e; subst this; exact hx
      · exact xlook_keep ks L t g v h
    · exact xlook_keep ks L t g v h
theorem slots_of {a : Act} {N : Nat} {L L' : XE} (hs : Slots a N L.d) (h : ∀ t g v, xlook L' t = some (g, v) → xlook L t = some (g, v)) : Slots a N L'.d :=
  ⟨hs.size, hs.dfr, fun t g v ht => by
    obtain ⟨g', v', h1, rfl, rfl⟩ := look_d ht
    exact hs.val t _ _ (xlook_d (h t g' v' h1))⟩
def fkeep : List (Nat × Kn) → List (Nat × Kn) → List (Nat × Kn)
  | [], _ => []
  | (k, x) :: F', F => match klook F k with
    | some y => (k, y) :: fkeep F' F
    | none => fkeep F' F
theorem fkeep_ok {M : Mem} {F : List (Nat × Kn)} (hF : FOk M F) : ∀ F', FOk M (fkeep F' F)
  | [] => fun x hx => by cases hx
  | (k, x) :: F' => by
    unfold fkeep
    split
    · rename_i y hy
      intro z hz
      rcases List.mem_cons.1 hz with rfl | hz
      · exact hF.get hy
      · exact fkeep_ok hF F' z hz
    · exact fkeep_ok hF F'
/-- One thing of one's own, taken out. -/
def htake : List (Nat × HX) → Nat → Option (HX × List (Nat × HX))
  | [], _ => none
  | (t, d) :: H, k => match Nat.beq t k with
    | true => some (d, H)
    | false => match htake H k with
      | some (x, H') => some (x, (t, d) :: H')
      | none => none
theorem htake_ok : ∀ {H : List (Nat × HX)} {k : Nat} {x : HX} {H' : List (Nat × HX)}, htake H k = some (x, H') → (x.d :: HD H').Perm (HD H)
  | [], _, _, _, h => by cases h
  | (t, d) :: H, k, x, H', h => by
    unfold htake at h
    split at h
    · simp only [Option.some.injEq, Prod.mk.injEq] at h; obtain ⟨rfl, rfl⟩ := h; exact .refl _
    · split at h
      · rename_i x2 H2 h2
        simp only [Option.some.injEq, Prod.mk.injEq] at h; obtain ⟨rfl, rfl⟩ := h
        exact (List.Perm.swap _ _ _).trans ((htake_ok h2).cons d.d)
      · cases h
def hkeep : List (Nat × HX) → List (Nat × HX) → List (Nat × HX)
  | [], _ => []
  | (k, _) :: H', H => match htake H k with
    | some (y, H2) => (k, y) :: hkeep H' H2
    | none => hkeep H' H
theorem hkeep_ok : ∀ (H' H : List (Nat × HX)), ∃ R, (HD (hkeep H' H) ++ R).Perm (HD H)
  | [], H => ⟨HD H, .refl _⟩
  | (k, d) :: H', H => by
    unfold hkeep
    split
    · rename_i y H2 h2
      obtain ⟨R, hR⟩ := hkeep_ok H' H2
      exact ⟨R, (hR.cons y.d).trans (htake_ok h2)⟩
    · exact hkeep_ok H' H
/-- Knowing less. -/
def XS.sub (s' s : XS) : Prop := (∀ t g v, xlook s'.L t = some (g, v) → xlook s.L t = some (g, v)) ∧ (∀ M, FOk M s.F → FOk M s'.F) ∧ ∃ R, (HD s'.H ++ R).Perm (HD s.H)
def keys : XE → List Nat
  | [] => []
  | (k, _) :: L => k :: keys L
theorem XS.sub_of {s s' : XS} (h : (⟨fkeep s'.F s.F, hkeep s'.H s.H, xkeep (keys s'.L) s.L⟩ : XS) = s') : s'.sub s := by
  refine ⟨fun t g v hv => ?_, fun M hF => ?_, ?_⟩
  · rw [← h] at hv; exact xlook_keep _ _ _ _ _ hv
  · have := fkeep_ok hF s'.F; rw [← h]; exact this
  · have := hkeep_ok s'.H s.H; rw [← h]; exact this
theorem Sat'.sub {c : Cx} {s s' : XS} {a : Act} {w : World} (h : Sat' c s a w) (hs : s'.sub s) : Sat' c s' a w := by
  obtain ⟨h1, M, h2, h3, h4⟩ := h
  obtain ⟨k1, k2, R, k3⟩ := hs
  refine ⟨slots_of h1 k1, M, ?_, k2 M h3, h4⟩
  have hp : ((HD s'.H ++ c.Hr) ++ R).Perm (HD s.H ++ c.Hr) := by
    refine List.Perm.trans ?_ (k3.append_right c.Hr)
    rw [List.append_assoc, List.append_assoc]
    exact (List.perm_append_comm).append_left _
  exact (h2.perm hp).drop _ (List.sublist_append_left _ _)

section
variable {c : Cx} {B : Exit → Act → World → Prop} {k k' : List Fr} {m : Md} {s s' : XS} {O : Prop} {E : List Ck}
/-- A condition. -/
theorem xbr {b : Bool} {x y : Code} (h : run c.T c.N k m s = ⟨k', .br b x y, s', O, E⟩) (hE : EOk E) (hO : O) (ht : b = true → XG c B k' (.code x) s') (hf : b = false → XG c B k' (.code y) s') : XG c B k m s := by
  refine run_ok h hE hO fun a w hs => ?_
  cases b
  · exact hf rfl a w hs
  · exact ht rfl a w hs
/-- What a loop's round comes to. -/
def LJ {σ : Type} (Sf : σ → XS) (I : σ → Prop) (μ : σ → Nat) (g : σ) : XS → Prop := fun t => ∃ g', t = Sf g' ∧ I g' ∧ μ g' < μ g
/-- A loop. -/
theorem xloop {σ : Type} {x : Code} (Sf : σ → XS) (I : σ → Prop) (μ : σ → Nat) (g0 : σ) (h : run c.T c.N k m s = ⟨k', .code (.loop x), s', O, E⟩) (hE : EOk E) (hO : O)
    (h0 : (⟨fkeep (Sf g0).F s'.F, hkeep (Sf g0).H s'.H, xkeep (keys (Sf g0).L) s'.L⟩ : XS) = Sf g0) (hI : I g0)
    (hr : ∀ g, I g → XG c B (.loop (LJ Sf I μ g) :: k') (.code x) (Sf g)) : XG c B k m s := by
  refine run_ok h hE hO fun a w hs => ?_
  refine c.W.loop (fun g a w => I g ∧ Sat' c (Sf g) a w) μ g0 ⟨hI, hs.sub (XS.sub_of h0)⟩ fun g a w ⟨hg, hs⟩ => c.W.mono (hr g hg a w hs) fun e a w q => ?_
  cases e with
  | normal => obtain ⟨t, ⟨g', rfl, h1, h2⟩, h3⟩ := q; exact ⟨g', ⟨h1, h3⟩, h2⟩
  | _ => exact q
/-- The round's end. -/
theorem xround {σ : Type} {Sf : σ → XS} {I : σ → Prop} {μ : σ → Nat} {g : σ} (g' : σ) (h : run c.T c.N k m s = ⟨.loop (LJ Sf I μ g) :: k', .next, s', O, E⟩) (hE : EOk E) (hO : O)
    (h0 : (⟨fkeep (Sf g').F s'.F, hkeep (Sf g').H s'.H, xkeep (keys (Sf g').L) s'.L⟩ : XS) = Sf g') (hI : I g') (hm : μ g' < μ g) : XG c B k m s :=
  run_ok h hE hO fun a w hs => ⟨_, ⟨g', rfl, hI, hm⟩, hs.sub (XS.sub_of h0)⟩
/-- What a contract says is handed back, as a value that is known. -/
def vx1 : Value → XV
  | .agg ⟨cs⟩ => .ag (mapv cs)
  | x => .v x
def vxs : List Value → Option (List XV)
  | [] => some []
  | x :: l => match vxs l with
    | some r => some (vx1 x :: r)
    | none => none
def vx : Value → Option XV
  | .tuple ⟨l⟩ => match vxs l with
    | some r => some (.tu r)
    | none => none
  | x => some (vx1 x)
theorem mapv_d : ∀ l : List Value, (mapv l).map XV.d0 = l
  | [] => rfl
  | x :: l => by simp [mapv, mapv_d l, XV.d0]
theorem vx1_d (x : Value) : (vx1 x).d1 = x := by
  unfold vx1
  split
  · rename_i cs; simp [XV.d1, mapv_d]
  · rfl
theorem vx1_tu (x : Value) : (vx1 x).d = (vx1 x).d1 := by
  unfold vx1
  split <;> rfl
theorem vxs_d : ∀ {l : List Value} {r : List XV}, vxs l = some r → r.map XV.d1 = l
  | [], r, h => by cases h; rfl
  | x :: l, r, h => by
    unfold vxs at h
    split at h
    · rename_i r' hr; cases h; simp [vx1_d, vxs_d hr]
    · cases h
theorem vx_d {x : Value} {v : XV} (h : vx x = some v) : v.d = x := by
  unfold vx at h
  split at h
  · split at h
    · rename_i r hr; cases h; simp [XV.d, vxs_d hr]
    · cases h
  · cases h; rw [vx1_tu, vx1_d]
def opds (L : XE) (W : Gd) : List Operand → Option (List XV × List Ck)
  | [] => some ([], [])
  | x :: xs => match opd L W x with
    | some (v, E) => match opds L W xs with
      | some (vs, E') => some (v :: vs, E ++ E')
      | none => none
    | none => none
theorem opds_d {L : XE} {W : Gd} : ∀ {xs : List Operand} {vs : List XV} {E : List Ck}, opds L W xs = some (vs, E) → EOk E → Opds L.d W.d xs (vs.map XV.d)
  | [], vs, E, h, _ => by simp only [opds, Option.some.injEq, Prod.mk.injEq] at h; obtain ⟨rfl, rfl⟩ := h; exact .nil
  | x :: xs, vs, E, h, hE => by
    unfold opds at h
    split at h
    · rename_i v E1 h1
      split at h
      · rename_i vs' E2 h2
        simp only [Option.some.injEq, Prod.mk.injEq] at h; obtain ⟨rfl, rfl⟩ := h
        exact .cons (opd_d h1 hE.app.1) (opds_d h2 hE.app.2)
      · cases h
    · cases h
abbrev CT (P : Program) (f : FuncId) : Prop := ∀ args w, (callFunc f args).run P w = .ok (.enter f args) w
/-- A call that leaves what was there as it was, and hands back what hangs on no memory. -/
theorem xcall {d : Nat} {f : FuncId} {xs : List Operand} {tys : Array TypeId} {ty : TypeId} {ps : String} {af : Array Edge} {gd : Option (Nat × Bool)} {all : Array Oper} {rest : List Oper} {W : Gd} {vs : List XV} {E2 : List Ck} {u : Value} {v : XV}
    (h : run c.T c.N k m s = ⟨k', .ops all (⟨some d, .call ⟨.value (.func f), ⟨xs⟩, tys⟩, ty, ps, af, gd⟩ :: rest), s', O, E⟩) (hE : EOk E) (hO : O) (ct : CT c.P f) (hg : (gdOf all s'.L gd, Nat.blt d c.N) = (some W, true)) (hx : opds s'.L W xs = some (vs, E2)) (hE2 : EOk E2)
    (hc : W.d = true → ∀ w M, XOk c s'.F s'.H w M → Calls c.P f (vs.map XV.d).toArray w (fun e w' => e = .returned u ∧ Ext w w')) (hv : vx u = some v) (hn : XG c B k' (.ops all rest) ⟨s'.F, s'.H, (d, W, v) :: s'.L⟩) : XG c B k m s := by
  refine run_ok h hE hO fun a w hs => ?_
  obtain ⟨h1, M, h2⟩ := hs
  simp only [Prod.mk.injEq] at hg
  have e : (⟨xs⟩ : Array Operand) = xs.toArray := rfl
  rw [e]
  refine c.W.one (RL.callE h2.st (gdOf_ok hg.1) ct (opds_d hx hE2) (fun hW => hc hW w M h2) hg.2 (fun w' hS' => ?_) a h1)
  intro a' hs'
  rw [← vx_d hv] at hs'
  exact c.W.back (hn a' w' ⟨hs', M, hS', h2.f, h2.le⟩)
end
end Go.Eng
namespace Go.Eng
open Go.RowKit

/-- A call's beginning. -/
theorem xenter {P : Program} {N : Nat} {w0 w : World} {M0 M : Mem} {Hr : List HO} {T : TT} (hT : TOk P T) {f : FuncId} {fn : Func} {x : Code} {R : Ending → World → Prop} (hf : P.funcs[f]? = some fn) (hb : fn.body = some x) (hn : fn.ntmps = N)
    (F : List (Nat × Kn)) (H : List (Nat × HX)) (vs : List XV) (hl : Nat.ble vs.length N = true) (hS : St w0 M0 w M (HD H ++ Hr)) (hF : FOk M F)
    (h : ∀ B, Ends P fn R B → XG ⟨P, N, w0, M0, M, Hr, T, hT, .wide P⟩ B [] (.code x) ⟨F, H, xargs 0 vs⟩) {av : List Value} (ha : vs.map XV.d = av) : Calls P f av.toArray w R := by
  subst ha
  refine CW.enter1 hf hb hn (by rw [List.length_map]; exact Nat.le_of_ble_eq_true hl) fun Q hQ a hs => ?_
  have := h Q hQ a w ⟨by rw [← xargs_d] at hs; exact hs, M, hS, hF, Mem.le.refl _⟩
  exact this
end Go.Eng
namespace Go.Eng
open Go.RowKit

theorem sub_flat {α : Type} (f : α → List Value) (sz : Nat) (hf : ∀ x, (f x).length = sz) (l : List α) (a b j : Nat) (hab : a ≤ b) (hb : b ≤ l.length) (hj : j < (b - a) * sz) :
    (l.flatMap f)[a * sz + j]? = (((l.drop a).take (b - a)).flatMap f)[j]? := by
  have e : l = l.take a ++ ((l.drop a).take (b - a) ++ (l.drop a).drop (b - a)) := by rw [List.take_append_drop, List.take_append_drop]
  have e2 : l.flatMap f = (l.take a).flatMap f ++ (((l.drop a).take (b - a)).flatMap f ++ ((l.drop a).drop (b - a)).flatMap f) := by
    conv => lhs; rw [e]
    rw [List.flatMap_append, List.flatMap_append]
  have h1 : ((l.take a).flatMap f).length = a * sz := by rw [flat_len f sz hf, List.length_take, Nat.min_eq_left (by omega)]
  have h2 : (((l.drop a).take (b - a)).flatMap f).length = (b - a) * sz := by rw [flat_len f sz hf, List.length_take, List.length_drop, Nat.min_eq_left (by omega)]
  rw [e2, List.getElem?_append_right (by omega), h1, show a * sz + j - a * sz = j from by omega, List.getElem?_append_left (by omega)]
theorem sl_part {α : Type} {f : α → List Value} {M : Mem} {sz : Nat} {v : Value} {l : List α} (h : Sl M sz l.length v (l.flatMap f)) (hf : ∀ x, (f x).length = sz) {a b : Int} (h0 : 0 ≤ a) (h1 : a ≤ b) (h2 : b ≤ len l) :
    ∃ p cap, v = .slice p l.length cap ∧ l.length ≤ cap ∧ Sl M sz (Eng.sub l a b).length (sliced p a.toNat b.toNat cap sz) ((Eng.sub l a b).flatMap f) := by
  obtain ⟨p, cap, hv, hc, hm, hp⟩ := h.val
  refine ⟨p, cap, hv, hc, ?_⟩
  unfold len at h2
  have hl : (Eng.sub l a b).length = b.toNat - a.toNat := by unfold Eng.sub; rw [List.length_take, List.length_drop]; omega
  refine ⟨by rw [flat_len f sz hf], _, _, by unfold sliced; rw [hl], by rw [hl]; omega, by omega, fun hn => ?_⟩
  rw [hl] at hn
  obtain ⟨b0, o, hpe, hcell⟩ := hp (by omega)
  refine ⟨b0, o + a.toNat * sz, by rw [if_neg (by omega), hpe, Option.map_some, add_none], fun j hj => ?_⟩
  rw [flat_len f sz hf, hl] at hj
  have hlen : a.toNat * sz + j < (l.flatMap f).length := by
    rw [flat_len f sz hf]
    have := Nat.mul_le_mul_right sz (show a.toNat + (b.toNat - a.toNat) ≤ l.length by omega)
    rw [Nat.add_mul] at this; omega
  rw [Nat.add_assoc, hcell _ hlen]
  exact sub_flat f sz hf l a.toNat b.toNat j (by omega) (by omega) hj
section sl
variable {P : Program} {α : Type} {f : α → List Value} {M : Mem} {sz : Nat} {v : Value} {l : List α} {t e : TypeId}
theorem elem_of (ht : P.underlying t = some (.slice e)) : P.elem t = e := by unfold Program.elem; rw [ht]
theorem slSl_b (h : Sl M sz l.length v (l.flatMap f)) (hf : ∀ x, (f x).length = sz) (ht : P.underlying t = some (.slice e)) (hs : ∀ w, (sizeOf e).run P w = .ok sz w) (a b : Int) (hr : 0 ≤ a ∧ a ≤ b ∧ b ≤ len l) :
    ∃ v', Sl M sz (Eng.sub l a b).length v' ((Eng.sub l a b).flatMap f) ∧ ∀ (k k' : IntKind) w, (Instr.sliceAt t v (some (.int k a)) (some (.int k' b)) none).run P w = .ok v' w := by
  obtain ⟨h0, h1, h2⟩ := hr
  obtain ⟨p, cap, hv, hc, hS⟩ := sl_part h hf h0 h1 h2
  have ht' : P.underlying t = some (.slice (P.elem t)) := by rw [elem_of ht]; exact ht
  refine ⟨_, hS, fun k k' w => ?_⟩
  rw [hv, run_sliceAt_slice w t _ _ _ _ ht', run_slice_lh w t p _ cap ht' k k' a b h0 h1 (by unfold len at h2; omega), elem_of ht, hs]
  rfl
theorem slSl_h (h : Sl M sz l.length v (l.flatMap f)) (hf : ∀ x, (f x).length = sz) (ht : P.underlying t = some (.slice e)) (hs : ∀ w, (sizeOf e).run P w = .ok sz w) (a b : Int) (hr : 0 ≤ a ∧ a ≤ b ∧ b ≤ len l) (ha : a = 0 := by rfl) :
    ∃ v', Sl M sz (Eng.sub l a b).length v' ((Eng.sub l a b).flatMap f) ∧ ∀ (k' : IntKind) w, (Instr.sliceAt t v none (some (.int k' b)) none).run P w = .ok v' w := by
  subst ha
  obtain ⟨h0, h1, h2⟩ := hr
  obtain ⟨p, cap, hv, hc, hS⟩ := sl_part h hf h0 h1 h2
  have ht' : P.underlying t = some (.slice (P.elem t)) := by rw [elem_of ht]; exact ht
  refine ⟨_, hS, fun k' w => ?_⟩
  rw [hv, run_sliceAt_slice w t _ _ _ _ ht', run_slice_h w t p _ cap ht' k' b h1 (by unfold len at h2; omega), elem_of ht, hs]
  rfl
theorem slSl_l (h : Sl M sz l.length v (l.flatMap f)) (hf : ∀ x, (f x).length = sz) (ht : P.underlying t = some (.slice e)) (hs : ∀ w, (sizeOf e).run P w = .ok sz w) (a b : Int) (hr : 0 ≤ a ∧ a ≤ b ∧ b ≤ len l) (hb : b = len l := by rfl) :
    ∃ v', Sl M sz (Eng.sub l a b).length v' ((Eng.sub l a b).flatMap f) ∧ ∀ (k : IntKind) w, (Instr.sliceAt t v (some (.int k a)) none none).run P w = .ok v' w := by
  subst hb
  obtain ⟨h0, h1, h2⟩ := hr
  obtain ⟨p, cap, hv, hc, hS⟩ := sl_part h hf h0 h1 h2
  have ht' : P.underlying t = some (.slice (P.elem t)) := by rw [elem_of ht]; exact ht
  refine ⟨_, hS, fun k w => ?_⟩
  rw [hv, run_sliceAt_slice w t _ _ _ _ ht', run_slice_l w t p _ cap ht' k a h0 h1, elem_of ht, hs]
  rfl
variable {C : World → Prop} {L : Env} {W : Bool} {d : Option Tmp} {ty : TypeId} {ps : String} {af : Array Edge} {gd : Option (Nat × Bool)} {x y z : Operand} {v' : Value} {k k' : IntKind} {a b : Int}
theorem PV.slRb (hx : Opd L W x v) (hy : Opd L W y (.int k a)) (hz : Opd L W z (.int k' b)) (hr : ∀ (k k' : IntKind) w, (Instr.sliceAt t v (some (.int k a)) (some (.int k' b)) none).run P w = .ok v' w) : PV P C L W ⟨d, .slice t x (some y) (some z) none, ty, ps, af, gd⟩ v' := by
  intro ac N hs hW w _
  simp only [execOp, hx ac N hs hW, Option.map_some, Option.map_none, hy ac N hs hW, hz ac N hs hW]
  rw [Sem.run_bind, hr]; rfl
theorem PV.slRh (hx : Opd L W x v) (hz : Opd L W z (.int k' b)) (hr : ∀ (k' : IntKind) w, (Instr.sliceAt t v none (some (.int k' b)) none).run P w = .ok v' w) : PV P C L W ⟨d, .slice t x none (some z) none, ty, ps, af, gd⟩ v' := by
  intro ac N hs hW w _
  simp only [execOp, hx ac N hs hW, Option.map_some, Option.map_none, hz ac N hs hW]
  rw [Sem.run_bind, hr]; rfl
theorem PV.slRl (hx : Opd L W x v) (hy : Opd L W y (.int k a)) (hr : ∀ (k : IntKind) w, (Instr.sliceAt t v (some (.int k a)) none none).run P w = .ok v' w) : PV P C L W ⟨d, .slice t x (some y) none none, ty, ps, af, gd⟩ v' := by
  intro ac N hs hW w _
  simp only [execOp, hx ac N hs hW, Option.map_some, Option.map_none, hy ac N hs hW]
  rw [Sem.run_bind, hr]; rfl
end sl
end Go.Eng
namespace Go.Eng
open Go.RowKit

/-- What a part of a text is read as, and the place behind it; or an error, and its place. -/
inductive PR (α : Type) where
  | ok (x : α) (j : Int)
  | er (e p : Int)
/-- A panic with an error and its place. -/
abbrev wrongE (T : TypeId) (e p : Int) : PanicEntry := { v := .iface T (.agg #[i64 e, i64 p]), recovered := false }
/-- How a call ends that reads a part of a text: with what it read (F tells of it), or in the panic: then of its own things nothing is known. -/
def PPost {α : Type} (w0 : World) (M0 M : Mem) (Rs : List HO) (T : TypeId) (F : α → Int → Value → Mem → World → Prop) (r : PR α) : Ending → World → Prop := fun e w' =>
  match r with
  | .ok x j => ∃ v M', e = .returned v ∧ F x j v M' w' ∧ M.le M'
  | .er ec p => ∃ M', e = .panicked [wrongE T ec p] ∧ St w0 M0 w' M' Rs ∧ M.le M'
section
variable {P : Program} {α : Type} {w0 w : World} {M0 M M' : Mem} {Rs : List HO} {T : TypeId} {F : α → Int → Value → Mem → World → Prop} {r : PR α}
theorem PPost.ok {x : α} {j : Int} {v : Value} (h : r = .ok x j) (hf : F x j v M' w) (hle : M.le M') : PPost w0 M0 M Rs T F r (.returned v) w := by
  subst h; exact ⟨v, M', rfl, hf, hle⟩
theorem PPost.er {ec p : Int} (h : r = .er ec p) (hS : St w0 M0 w M' Rs) (hle : M.le M') : PPost w0 M0 M Rs T F r (.panicked [wrongE T ec p]) w := by
  subst h; exact ⟨M', rfl, hS, hle⟩
theorem Ends.p {fn : Func} {R : Ending → World → Prop} {Q : Exit → Act → World → Prop} {N : Nat} {L : Env} {ch : List PanicEntry} (E : Ends P fn R Q) (h : R (.panicked ch) w) : ∀ a, Slots a N L → Q (.panic ch) a w := fun a hs => E.all _ _ _ ⟨hs.dfr, h⟩
variable {ops : Array Oper} {Q : Exit → Act → World → Prop} {N : Nat} {rest : List Oper} {L : Env} {ty : TypeId} {ps : String} {af : Array Edge} {tys : Array TypeId}
theorem RL.panic {d : Option Tmp} {x : Operand} {t : TypeId} {v : Value} (hx : Opd L true x (.iface t v)) (h : ∀ a, Slots a N L → Q (.panic [{ v := .iface t v, recovered := false }]) a w) : RL P ops Q N (⟨d, .panic x, ty, ps, af, none⟩ :: rest) L w := by
  intro a hs
  refine wpList_plain rfl fun K hK => ?_
  have key : (execOp a.eval ⟨d, .panic x, ty, ps, af, none⟩).run P w = .halt (.panic (.iface t v)) w := by
    simp only [execOp, hx a N hs rfl]; rw [Sem.run_bind, run_panic_iface]; rfl
  simp only [Oper.wp, key, Oper.upon_panic]
  exact h a hs
end
end Go.Eng
