/-
  THE EXECUTOR, PART 2: each operation that only computes, of what is known. Over any program.
  THE ENGINE, PART 18: private rows: a row that is appended to, and written into, before anyone is told of it. Over any program.
-/
import Derived.Test.YtjfaikgooldcbaaGreatDoorZt5
import Derived.Test.YtjfaikgooldcbaaGreatDoorZt4
set_option linter.unusedVariables false
set_option linter.unusedSimpArgs false
namespace Go.Eng
open Go.RowKit

/-- A row: one that is read, or one's own. -/
def rowOf (F : List (Nat × Kn)) (H : List (Nat × HX)) (k : Nat) : Option Kn :=
  match klook F k with
  | some K => some K
  | none => match hlook H k with
    | some (.pv _ (@Kn.mk α inh v sz l f g' hg') _) => some (@kn α inh v sz l f)
    | _ => none
/-- Of two operands. -/
def opd2 (L : XE) (W : Gd) (x y : Operand) : Option (XV × XV × List Ck) :=
  match opd L W x with
  | some (a, E) => match opd L W y with
    | some (b, E') => some (a, b, E ++ E')
    | none => none
  | none => none
theorem opd2_d {L : XE} {W : Gd} {x y : Operand} {a b : XV} {E : List Ck} (h : opd2 L W x y = some (a, b, E)) (hE : EOk E) : Opd L.d W.d x a.d ∧ Opd L.d W.d y b.d := by
  unfold opd2 at h
  split at h
  · rename_i a' E1 h1
    split at h
    · rename_i b' E2 h2
      simp only [Option.some.injEq, Prod.mk.injEq] at h; obtain ⟨rfl, rfl, rfl⟩ := h
      exact ⟨opd_d h1 hE.app.1, opd_d h2 hE.app.2⟩
    · cases h
  · cases h
/-- .. where it is surely there, or if this holds, too. -/
def Gd.and (W : Gd) (b : Bool) : Gd := match W with
  | .t => .g b
  | .g a => .g (a && b)
theorem Gd.and_d (W : Gd) (b : Bool) : (W.and b).d = (W.d && b) := by cases W <;> simp [Gd.and, Gd.d]
def asB : XV → Option Bool
  | .v (.bool b) => some b
  | _ => none
theorem asB_eq {v : XV} {b : Bool} (h : asB v = some b) : v = .v (.bool b) := by unfold asB at h; split at h <;> simp_all
def asI : XV → Option (IntKind × Int)
  | .v (.int k b) => some (k, b)
  | _ => none
theorem asI_eq {v : XV} {k : IntKind} {b : Int} (h : asI v = some (k, b)) : v = .v (.int k b) := by unfold asI at h; split at h <;> simp_all
/-- 'a && b', 'a || b'. -/
def pickV (L : XE) (W : Gd) (c x y : Operand) : Got :=
  match opd L W c with
  | some (vc, E) => match asB vc with
    | some p => match y with
      | .const (.bool false) => match opd L (W.and p) x with
        | some (vx, E') => match asB vx with
          | some q => some (.v (.bool (p && q)), [], E ++ E')
          | none => none
        | none => none
      | _ => match x with
        | .const (.bool true) => match opd L (W.and (!p)) y with
          | some (vy, E') => match asB vy with
            | some q => some (.v (.bool (p || q)), [], E ++ E')
            | none => none
          | none => none
        | _ => none
    | none => none
  | none => none
def cvt (T : TT) (s t : TypeId) (a : XV) : Option (XV × List Prop) :=
  match asI a with
  | some (k, n) => match tlook T s with
    | some ⟨.int k1, _, _⟩ => match tlook T t with
      | some ⟨.int k2, _, _⟩ => match sameK k k1 with
        | true => some (.v (.int k2 n), rng k2 n)
        | false => none
      | _ => none
    | _ => none
  | none => none
def asS : XV → Option Str
  | .v (.string ⟨⟨a⟩⟩) => some a
  | _ => none
theorem asS_eq {v : XV} {a : Str} (h : asS v = some a) : v = .v (str a) := by unfold asS at h; split at h <;> simp_all
def lenV (T : TT) (F : List (Nat × Kn)) (H : List (Nat × HX)) (t : TypeId) (a : XV) : Option (XV × List Ck) :=
  match tlook T t with
  | some ⟨.str, _, _⟩ => match asS a with
    | some l => some (.v (i64 (len l)), [])
    | none => none
  | some ⟨.row e esz, _, _⟩ => match a with
    | .sl k x => match rowOf F H k with
      | some (@Kn.mk α inh kv sz l f g' hg') => some (.v (i64 (len l)), [.v x kv])
      | none => none
    | _ => none
  | _ => none
/-- The address of a thing. -/
def idxV (T : TT) (F : List (Nat × Kn)) (H : List (Nat × HX)) (t : TypeId) (a b : XV) : Got :=
  match a with
  | .sl k x => match tlook T t with
    | some ⟨.row e esz, _, _⟩ => match asI b with
      | some (_, i) => match rowOf F H k with
        | some (@Kn.mk α inh kv sz l f g' hg') => some (.el k x esz i 0, [0 ≤ i ∧ i < len l], [.v x kv, .n esz sz])
        | none => none
      | none => none
    | _ => none
  | _ => none
def fldV (T : TT) (t : TypeId) (a : XV) (f : Nat) : Option XV :=
  match tlook T t with
  | some ⟨.st fs _, _, _⟩ => match nth fs f with
    | some (off, _, _) => match a with
      | .el k x sz i j => some (.el k x sz i (j + off))
      | .bx k b o => some (.bx k b (o + off))
      | _ => none
    | none => none
  | _ => none
def isCell : XV → Bool
  | .ag _ => false
  | .tu _ => false
  | _ => true
def partV (T : TT) (t : TypeId) (a : XV) (f : Nat) : Option XV :=
  match tlook T t with
  | some ⟨.st fs _, sz, _⟩ => match nth fs f with
    | some (off, n, g) => match a with
      | .ag cs => match Nat.beq cs.length sz with
        | true => match g with
          | true => match part' cs off n with
            | some r => some (.ag r)
            | none => none
          | false => match nth cs off with
            | some c => match isCell c with
              | true => some c
              | false => none
            | none => none
        | false => none
      | _ => none
    | none => none
  | _ => none
/-- What stands at an address. -/
def loadV (T : TT) (F : List (Nat × Kn)) (H : List (Nat × HX)) (t : TypeId) (a : XV) : Got :=
  match tlook T t with
  | some ⟨_, n, g⟩ => match a with
    | .el k x sz i j => match rowOf F H k with
      | some (@Kn.mk α inh kv ksz l f g' hg') => match g with
        | false => match nth (f (@at' α inh l i)) j with
          | some c => some (.v c, [0 ≤ i ∧ i < len l], [.v x kv, .n sz ksz])
          | none => none
        | true => match part' (f (@at' α inh l i)) j n with
          | some r => match agv r with
            | some r' => some (.ag r', [0 ≤ i ∧ i < len l], [.v x kv, .n sz ksz])
            | none => none
          | none => none
      | none => none
    | .bx k b o => match hlook H k with
      | some (.box b' cs _) => match g with
        | false => match nth cs o with
          | some c => match isCell c with
            | true => some (c, [], [.n b b'])
            | false => none
          | none => none
        | true => match part' cs o n with
          | some r => some (.ag r, [], [.n b b'])
          | none => none
      | _ => none
    | _ => none
  | none => none
def slS (T : TT) (L : XE) (W : Gd) (t : TypeId) (x : Operand) (lo hi : Option Operand) : Got :=
  match tlook T t with
  | some ⟨.str, _, _⟩ => match opd L W x with
    | some (vx, E) => match asS vx with
      | some a => match lo, hi with
        | some y, some z => match opd L W y with
          | some (vy, E1) => match opd L W z with
            | some (vz, E2) => match asI vy with
              | some (_, i) => match asI vz with
                | some (_, j) => some (.v (str (Eng.sub a i j)), [0 ≤ i ∧ i ≤ j ∧ j ≤ len a], E ++ (E1 ++ E2))
                | none => none
              | none => none
            | none => none
          | none => none
        | some y, none => match opd L W y with
          | some (vy, E1) => match asI vy with
            | some (_, i) => some (.v (str (from' a i)), [0 ≤ i ∧ i ≤ len a], E ++ E1)
            | none => none
          | none => none
        | none, some z => match opd L W z with
          | some (vz, E1) => match asI vz with
            | some (_, j) => some (.v (str (Eng.sub a 0 j)), [0 ≤ j ∧ j ≤ len a], E ++ E1)
            | none => none
          | none => none
        | none, none => none
      | none => none
    | none => none
  | _ => none
def notV : XV → Option XV
  | .v (.bool b) => some (.v (.bool (!b)))
  | _ => none
def negV : XV → Option (XV × List Prop)
  | .v (.int k a) => some (.v (.int k (-a)), rng k (-a))
  | _ => none
def boolV (T : TT) (op : BinOp) (t : TypeId) (a b : XV) : Option XV :=
  match asB a with
  | some p => match asB b with
    | some q => match tlook T t with
      | some ⟨.bool, _, _⟩ => match op with
        | .eql => some (.v (.bool (p == q)))
        | .neq => some (.v (.bool (p != q)))
        | _ => none
      | _ => none
    | none => none
  | none => none
def idxS (T : TT) (t : TypeId) (a b : XV) : Option (XV × List Prop) :=
  match tlook T t with
  | some ⟨.str, _, _⟩ => match asS a with
    | some s => match asI b with
      | some (_, i) => some (.v (.int .u8 (byteAt s i)), [0 ≤ i ∧ i < len s])
      | none => none
    | none => none
  | _ => none
def cellsOf : XV → Option (List XV)
  | .ag cs => some cs
  | .tu _ => none
  | x => some [x]
/-- It takes one cell. -/
def oneC (F : List (Nat × Kn)) (H : List (Nat × HX)) : XV → Option (List Ck)
  | .v u => match u.oneCell' with
    | true => some []
    | false => none
  | .sl k u => match rowOf F H k with
    | some (@Kn.mk α inh kv sz l f g' hg') => some [.v u kv]
    | none => none
  | .el _ _ _ _ _ => some []
  | .bx _ _ _ => some []
  | _ => none
/-- A record, its parts put in one behind the other. -/
def buildX (F : List (Nat × Kn)) (H : List (Nat × HX)) (L : XE) (W : Gd) (fs : List (Nat × Nat × Bool)) : List XV → List (Nat × Operand) → Option (List XV × List Ck)
  | cs, [] => some (cs, [])
  | cs, (i, x) :: ps => match nth fs i with
    | some (off, n, g) => match opd L W x with
      | some (v, E) => match g with
        | true => match v with
          | .ag vs => match Nat.beq vs.length n with
            | true => match put' cs off vs with
              | some cs' => match buildX F H L W fs cs' ps with
                | some (r, E') => some (r, E ++ E')
                | none => none
              | none => none
            | false => none
          | _ => none
        | false => match oneC F H v with
          | some E1 => match Nat.beq 1 n with
            | true => match put' cs off [v] with
              | some cs' => match buildX F H L W fs cs' ps with
                | some (r, E') => some (r, E1 ++ (E ++ E'))
                | none => none
              | none => none
            | false => none
          | none => none
      | none => none
    | none => none
def buildV (T : TT) (F : List (Nat × Kn)) (H : List (Nat × HX)) (L : XE) (W : Gd) (t : TypeId) (ps : Array (Nat × Operand)) : Got :=
  match tlook T t with
  | some ⟨.st fs zs, _, _⟩ => match ps with
    | ⟨l⟩ => match agv zs with
      | some cs => match buildX F H L W fs cs l with
        | some (r, E) => some (.ag r, [], E)
        | none => none
      | none => none
  | _ => none
def exV (a : XV) (i : Nat) : Option XV :=
  match a with
  | .tu vs => match nth vs i with
    | some (.tu _) => none
    | r => r
  | _ => none
/-- An operation that only computes. -/
def opV (T : TT) (F : List (Nat × Kn)) (H : List (Nat × HX)) (L : XE) (W : Gd) : Op → Got
  | .move x => match opd L W x with
    | some (v, E) => some (v, [], E)
    | none => none
  | .assign x => match opd L W x with
    | some (v, E) => some (v, [], E)
    | none => none
  | .pick c x y => pickV L W c x y
  | .binOp op t x y _ => match opd2 L W x y with
    | some (a, b, E) => match binV op a b with
      | some (v, p) => some (v, p, E)
      | none => match boolV T op t a b with
        | some v => some (v, [], E)
        | none => none
    | none => none
  | .unOp op _ x => match opd L W x with
    | some (a, E) => match op with
      | .not => match notV a with
        | some v => some (v, [], E)
        | none => none
      | .neg => match negV a with
        | some (v, p) => some (v, p, E)
        | none => none
      | _ => none
    | none => none
  | .convert s t x => match opd L W x with
    | some (a, E) => match cvt T s t a with
      | some (v, p) => some (v, p, E)
      | none => none
    | none => none
  | .slice t x lo hi none => slS T L W t x lo hi
  | .fieldAddr t x f => match opd L W x with
    | some (a, E) => match fldV T t a f with
      | some v => some (v, [], E)
      | none => none
    | none => none
  | .field t x f => match opd L W x with
    | some (a, E) => match partV T t a f with
      | some v => some (v, [], E)
      | none => none
    | none => none
  | .indexAddr t x y => match opd2 L W x y with
    | some (a, b, E) => match idxV T F H t a b with
      | some (v, p, E') => some (v, p, E ++ E')
      | none => none
    | none => none
  | .index t x y => match opd2 L W x y with
    | some (a, b, E) => match idxS T t a b with
      | some (v, p) => some (v, p, E)
      | none => none
    | none => none
  | .load t x => match opd L W x with
    | some (a, E) => match loadV T F H t a with
      | some (v, p, E') => some (v, p, E ++ E')
      | none => none
    | none => none
  | .build t ps => buildV T F H L W t ps
  | .extract x i => match opd L W x with
    | some (a, E) => match exV a i with
      | some v => some (v, [], E)
      | none => none
    | none => none
  | .call ⟨.builtin .len, ⟨[x]⟩, ⟨[t]⟩⟩ => match opd L W x with
    | some (a, E) => match lenV T F H t a with
      | some (v, E') => some (v, [], E ++ E')
      | none => none
    | none => none
  | _ => none
end Go.Eng
namespace Go.Eng
open Go.RowKit

section st
variable {w0 w : World} {M0 M : Mem} {Hs : List HO}
theorem St.newPriv (h : St w0 M0 w M Hs) (e : TypeId) (sz n : Nat) (xs : List Value) (hl : xs.length = n * sz) (hm : n ≤ maxLen) :
    St w0 M0 (w.alloc (.cells xs.toArray e)) M (.priv e sz (.slice (some ⟨w.heap.size, 0, none⟩) n n) n xs :: Hs) := by
  have h1 := h.ext (Ext.alloc w (.cells xs.toArray e))
  refine ⟨h1.low, h1.sat, h1.old, fun x hx => ?_, List.pairwise_cons.2 ⟨fun y hy b hb => ?_, h.apart⟩⟩
  · rcases List.mem_cons.1 hx with rfl | hx
    · refine ⟨⟨hl, .inr ⟨w.heap.size, n, xs.toArray, rfl, h.size, heap_alloc_new _ _, Nat.le_refl _, hm, by simpa using hl, by rw [← hl]; simp⟩⟩, fun b hb o => ?_⟩
      simp only [Value.ownBlock, Option.some.injEq] at hb; subst hb
      exact h.none_of_new (Nat.le_refl _) o
    · exact h1.ok x hx
  · simp only [HO.blk, Value.ownBlock, Option.some.injEq] at hb; subst hb
    intro hy'
    have := (HO.ok.lt (h.ok y hy) hy').2
    omega
/-- Now it is told of. -/
theorem St.show (h : St w0 M0 w M Hs) {k : Nat} {e : TypeId} {sz n : Nat} {v : Value} {xs : List Value} (hk : Hs[k]? = some (.priv e sz v n xs)) :
    ∃ M', St w0 M0 w M' (Hs.set k (.own e sz v n xs)) ∧ M.le M' := by
  obtain ⟨hown, hmem⟩ := h.obj hk
  let M' : Mem := fun b o => if v.ownBlock = some b then xs[o]? else M b o
  have hne : ∀ b, v.ownBlock ≠ some b → ∀ o, M' b o = M b o := fun b hb o => if_neg hb
  have heq : ∀ b, v.ownBlock = some b → ∀ o, M' b o = xs[o]? := fun b hb o => if_pos hb
  refine ⟨M', ?_, fun b o u hu => ?_⟩
  · refine h.write hk (Below.refl _ _) ⟨fun b o u hu => ?_⟩ (fun b o hb => hne b (fun e => by have := (World.ownsRow.lt hown b e).1; omega) o) (fun _ _ _ => rfl) (fun b _ hb o => hne b hb o) ⟨hown, fun b hb => ⟨fun o _ => heq b hb o, fun o ho => by rw [heq b hb o]; exact List.getElem?_eq_none ho⟩⟩ (fun _ hb => .inl hb)
    by_cases hb : v.ownBlock = some b
    · rw [heq b hb] at hu
      have := hown.cells hb o u hu
      rwa [add_none, Nat.zero_add] at this
    · rw [hne b hb] at hu; exact h.sat.cell b o u hu
  · by_cases hb : v.ownBlock = some b
    · rw [hmem b hb o] at hu; cases hu
    · rw [hne b hb, hu]
/-- .. as it were told of: for what is only read. -/
theorem St.told (h : St w0 M0 w M Hs) {k : Nat} {e : TypeId} {sz n : Nat} {v : Value} {xs : List Value} (hk : Hs[k]? = some (.priv e sz v n xs)) : St w0 M0 w (h.show hk).choose (Hs.set k (.own e sz v n xs)) := (h.show hk).choose_spec.1
/-- Append, to a private row. -/
theorem St.appendP {P : Program} (h : St w0 M0 w M Hs) {k : Nat} {t ty e : TypeId} {i : TypeInfo} {z : Value} {sz n m : Nat} {v x : Value} {xs news : List Value} (hk : Hs[k]? = some (.priv e sz v n xs)) (hx : Sl M sz m x news)
    (ht : P.underlying t = some (.slice e)) (hi : P.info? e = some i) (hz : i.zero = some z) (hsize : i.size = sz) (hzs : z.cells.size = sz) (h1 : ∀ u ∈ news, u.oneCell' = true)
    (h63 : n + m ≤ maxLen) (hbytes : (n + m) * i.bytes ≤ 140737488355328) :
    ∃ v' w', (Builtin.append_ #[t, t] ty #[v, x]).run P w = .ok v' w' ∧ St w0 M0 w' M (Hs.set k (.priv e sz v' (n + m) (xs ++ news))) := by
  obtain ⟨hown, hmem⟩ := h.obj hk
  obtain ⟨p, cap, rfl, hnc, _, hp⟩ := hx.val
  have hx' : ∃ p' c, (Value.slice p m cap) = .slice p' m c ∧ (0 < m → ∃ a, p' = some a ∧ ∀ j u, news[j]? = some u → w.cell? (a.add j) = some u) := by
    refine ⟨p, cap, rfl, fun hm => ?_⟩
    obtain ⟨b, o, hp', hc⟩ := hp hm
    refine ⟨_, hp', fun j u hu => ?_⟩
    rw [add_none]
    refine h.sat.cell _ _ _ ?_
    rw [hc j (List.getElem?_eq_some_iff.1 hu).1, hu]
  obtain ⟨v', w', hr, hown', hlow, hheap, hpre, hblk⟩ := run_append_mine (P := P) w w0.heap.size t ty e i z sz ht hi hz hsize hzs v n xs hown _ m news hx.len hx' h1 h63 hbytes h.size
  have hnone : ∀ b, v'.ownBlock = some b → ∀ o, M b o = none := fun b hb o => by
    rcases hblk with h2 | ⟨b', h2, h3⟩
    · exact hmem b (by rw [← h2]; exact hb) o
    · rw [hb] at h2; cases h2; exact h.none_of_new h3 o
  refine ⟨v', w', hr, h.write hk hlow ⟨fun b o u hu => ?_⟩ (fun _ _ _ => rfl) (fun b hb hne => hheap b hb hne) (fun _ _ _ _ => rfl) ⟨hown', hnone⟩ (fun b hb => ?_)⟩
  · have hlt := h.sat.lt hu
    have hne : v.ownBlock ≠ some b := fun e => by rw [hmem b e o] at hu; cases hu
    have := h.sat.cell b o u hu
    simp only [World.cell?, hheap b hlt hne] at this ⊢; exact this
  · rcases hblk with h2 | ⟨b', h2, h3⟩
    · exact .inl (by show v.ownBlock = some b; rw [← h2]; exact hb)
    · have hb' : v'.ownBlock = some b := hb
      rw [hb'] at h2; cases h2; exact .inr h3
/-- Cells written into a private row. -/
theorem St.writeP {P : Program} (h : St w0 M0 w M Hs) {k : Nat} {e : TypeId} {sz n : Nat} {v : Value} {xs us : List Value} {o : Nat} (hk : Hs[k]? = some (.priv e sz v n xs)) (ho : o + us.length ≤ xs.length) (hu : 0 < us.length) (h1 : ∀ u ∈ us, u.oneCell' = true) :
    ∃ w', (storeCells ⟨sb v, so v + o, none⟩ us 0).run P w = .ok () w' ∧ St w0 M0 w' M (Hs.set k (.priv e sz v n (splice xs o us))) := by
  obtain ⟨⟨hl, hv⟩, hmem⟩ := h.obj hk
  rcases hv with ⟨rfl, rfl⟩ | ⟨g, cap, cur, rfl, hg, hh, hnc, hcm, hcs, htk⟩
  · rw [Nat.zero_mul] at hl; omega
  · have hxl : xs.length ≤ cur.size := by rw [← htk, List.length_take]; simp; omega
    have hst := run_storeCells_at P g o e us 0 cur w hh (by omega) h1
    refine ⟨_, by simpa [sb, so] using hst, ?_⟩
    have hlt : g < w.heap.size := by
      rcases Nat.lt_or_ge g w.heap.size with h' | h'
      · exact h'
      · simp [Array.getElem?_eq_none h'] at hh
    refine h.write hk (below_setRow _ hg) ⟨fun b' o' u hu' => ?_⟩ (fun _ _ _ => rfl) (fun b _ hb => heap_setRow_ne _ _ _ _ (fun e => hb (by rw [e]; rfl))) (fun _ _ _ _ => rfl) ⟨⟨?_, .inr ⟨g, cap, _, rfl, hg, heap_setRow_self _ _ _ _ _ _ hh, hnc, hcm, ?_, ?_⟩⟩, fun b hb o' => hmem b hb o'⟩ (fun _ hb => .inl hb)
    · have hne : b' ≠ g := fun e => by subst e; rw [hmem b' rfl o'] at hu'; cases hu'
      have := h.sat.cell b' o' u hu'
      simp only [World.cell?, heap_setRow_ne _ _ _ _ hne] at this ⊢
      exact this
    · unfold splice; simp only [List.length_append, List.length_take, List.length_drop]; omega
    · simp only [List.size_toArray, List.length_append, List.length_take, List.length_drop, Array.length_toList]; omega
    · unfold splice
      simp only [Nat.add_zero]
      have hA : (List.take o cur.toList).length = o := by rw [List.length_take, Array.length_toList]; omega
      rw [← htk, List.take_take, List.drop_take, Nat.min_eq_left (by omega : o ≤ n * sz)]
      simp only [List.append_assoc]
      rw [List.take_append, List.take_append, hA, List.take_take, Nat.min_eq_right (by omega : o ≤ n * sz), List.take_of_length_le (l := us) (by omega), Nat.sub_sub]
end st
section rl
variable {P : Program} {ops : Array Oper} {Q : Exit → Act → World → Prop} {N : Nat} {rest : List Oper} {L : Env} {w0 w : World} {M0 M : Mem} {Hs : List HO} {d : Nat} {ty : TypeId} {ps : String} {af : Array Edge}
/-- A slice's literal, told of to no one. -/
theorem RL.buildSliceP {t e : TypeId} {n sz : Nat} {xs : List (Nat × Operand)} {vs : List (Nat × Value)} {cs : List Value} (hS : St w0 M0 w M Hs) (hx : Parts L true xs vs) (hl : cs.length = n * sz) (hm : Nat.ble n 9223372036854775807 = true)
    (hr : ∀ w, (Instr.buildSlice t n vs.toArray).run P w = .ok (.slice (some ⟨w.heap.size, 0, none⟩) n n) (w.alloc (.cells cs.toArray e))) (hd : Nat.blt d N = true)
    (h : ∀ v w', St w0 M0 w' M (.priv e sz v n cs :: Hs) → RL P ops Q N rest ((d, true, v) :: L) w') : RL P ops Q N (⟨some d, .buildSlice t n xs.toArray, ty, ps, af, none⟩ :: rest) L w := by
  intro a hs
  refine wpList_plain rfl fun K hK => ?_
  have e1 : xs.toArray.map (fun p => (p.1, a.eval p.2)) = vs.toArray := by rw [List.map_toArray, Parts.map hs rfl xs vs hx]
  have key : (execOp a.eval ⟨some d, .buildSlice t n xs.toArray, ty, ps, af, none⟩).run P w = .ok (.value (.slice (some ⟨w.heap.size, 0, none⟩) n n)) (w.alloc (.cells cs.toArray e)) := by
    simp only [execOp, e1]; rw [Sem.run_bind, hr w]; rfl
  simp only [Oper.wp, key, Oper.upon_value]
  exact hK _ _ (h _ _ (hS.newPriv e sz n cs hl (by have := Nat.le_of_ble_eq_true hm; simp only [maxLen]; omega)) _ (hs.put hd true _))
theorem RL.appendLP {α : Type} {f : α → List Value} {l m : List α} {t e : TypeId} {s x : Operand} {i : TypeInfo} {z : Value} {k sz by' : Nat} {v vx : Value} (hS : St w0 M0 w M Hs) (hk : Hs[k]? = some (.priv e sz v l.length (l.flatMap f))) (hs : Opd L true s v) (hx : Opd L true x vx) (hsl : Sl M sz m.length vx (m.flatMap f))
    (ht : P.underlying t = some (.slice e)) (hi : P.info? e = some i) (hz : i.zero = some z) (hsize : i.size = sz) (hzs : z.cells.size = sz) (h1 : ∀ x, ∀ u ∈ f x, u.oneCell' = true) (hby : i.bytes = by') (hb0 : Nat.blt 0 by' = true)
    (hb : (len l + len m) * by' ≤ 140737488355328) (hd : Nat.blt d N = true) {Hs' : Value → List HO} (hHs : ∀ v', Hs.set k (.priv e sz v' (l ++ m).length ((l ++ m).flatMap f)) = Hs' v')
    (h : ∀ v' w', St w0 M0 w' M (Hs' v') → RL P ops Q N rest ((d, true, v') :: L) w') : RL P ops Q N (⟨some d, .call ⟨.builtin .append, #[s, x], #[t, t]⟩, ty, ps, af, none⟩ :: rest) L w := by
  subst hby
  have hb0' : 0 < i.bytes := by simpa [Nat.blt_eq] using hb0
  unfold len at hb
  intro a hsl'
  refine wpList_plain rfl fun K hK => ?_
  have hb2 : (l.length + m.length) * i.bytes ≤ 140737488355328 := by
    rw [← Int.natCast_add, ← Int.natCast_mul] at hb
    generalize (l.length + m.length) * i.bytes = q at hb ⊢
    omega
  have hle : (l.length + m.length) * 1 ≤ (l.length + m.length) * i.bytes := Nat.mul_le_mul_left _ hb0'
  obtain ⟨v', w', hr, hS'⟩ := hS.appendP (P := P) (ty := ty) hk hsl ht hi hz hsize hzs (fun u hu => by obtain ⟨y, _, hy⟩ := List.mem_flatMap.1 hu; exact h1 y u hy) (by simp only [maxLen]; omega) hb2
  have key : (execOp a.eval ⟨some d, .call ⟨.builtin .append, #[s, x], #[t, t]⟩, ty, ps, af, none⟩).run P w = .ok (.value v') w' := by
    simp only [execOp, resolve, invoke, builtin, Sem.run_bind, Sem.run_pure, Result.andThen_ok, List.map_toArray, List.map_cons, List.map_nil, hs a N hsl' rfl, hx a N hsl' rfl, hr]
  simp only [Oper.wp, key, Oper.upon_value]
  exact hK _ _ (h _ _ (by rw [← hHs v', List.length_append, List.flatMap_append]; exact hS') _ (hsl'.put hd true _))
/-- A store into a private row. -/
theorem RL.storeP {t e : TypeId} {x y : Operand} {k sz n m o : Nat} {v u : Value} {xs xs' : List Value} (hS : St w0 M0 w M Hs) (hk : Hs[k]? = some (.priv e sz v n xs)) (hx : Opd L true x (.pointer (some ⟨sb v, so v + o, none⟩))) (hy : Opd L true y u) (hs : ∀ w, (sizeOf t).run P w = .ok m w)
    (hn : u.cells.toList.length = m) (hm0 : Nat.blt 0 m = true) (hfit : o + m ≤ xs.length) (h1 : (u.cells.toList.all (·.oneCell')) = true) (hxs : splice xs o u.cells.toList = xs') {Hs' : List HO} (hHs : Hs.set k (.priv e sz v n xs') = Hs')
    (h : ∀ w', St w0 M0 w' M Hs' → RL P ops Q N rest L w') : RL P ops Q N (⟨none, .store t x y, ty, ps, af, none⟩ :: rest) L w := by
  intro a hsl
  refine wpList_plain rfl fun K hK => ?_
  obtain ⟨w', hst, hS'⟩ := hS.writeP (P := P) (us := u.cells.toList) (o := o) hk (by omega) (by rw [hn]; simpa [Nat.blt_eq] using hm0) (List.all_eq_true.1 h1)
  have hn' : u.cells.size = m := by rw [← hn]; simp
  have key : (Instr.storeAt t (.pointer (some ⟨sb v, so v + o, none⟩)) u).run P w = .ok () w' := by
    simp only [Instr.storeAt, Instr.sureAddr, storeVar, Sem.run_bind, Sem.run_pure, Result.andThen_ok, hs, hn', ne_eq, not_true_eq_false, if_false, hst]
  have key2 : (execOp a.eval ⟨none, .store t x y, ty, ps, af, none⟩).run P w = .ok .skip w' := by
    simp only [execOp, hx a N hsl rfl, hy a N hsl rfl]; rw [Sem.run_bind, key]; rfl
  simp only [Oper.wp, key2, Oper.upon_skip]
  exact hK _ _ (h _ (by rw [← hHs, ← hxs]; exact hS') _ hsl)
end rl
/-- One thing of a list written in part. -/
theorem splice_set {α : Type} [Inhabited α] {f : α → List Value} {sz : Nat} (hf : ∀ x, (f x).length = sz) (l : List α) (i : Nat) (y : α) (off : Nat) (us : List Value) (hi : i < l.length) (hy : splice (f (l.getD i default)) off us = f y) (hoff : off + us.length ≤ sz) :
    splice (l.flatMap f) (i * sz + off) us = (l.set i y).flatMap f := by
  induction l generalizing i with
  | nil => simp at hi
  | cons x l ih =>
    cases i with
    | zero =>
      have hy' : splice (f x) off us = f y := by simpa using hy
      have hx := hf x
      simp only [List.set_cons_zero, List.flatMap_cons, Nat.zero_mul, Nat.zero_add]
      rw [← hy']
      unfold splice
      rw [List.take_append_of_le_length (by omega), List.drop_append_of_le_length (by omega)]
      simp
    | succ i =>
      have h2 := ih i (by simpa using hi) (by simpa using hy)
      have hx := hf x
      simp only [List.set_cons_succ, List.flatMap_cons]
      rw [← h2]
      unfold splice
      have e1 : (i + 1) * sz + off = (f x).length + (i * sz + off) := by rw [hx, Nat.succ_mul]; omega
      rw [e1, List.take_append, List.drop_append, List.take_of_length_le (by omega), show (f x).length + (i * sz + off) - (f x).length = i * sz + off from by omega, List.drop_eq_nil_of_le (by omega), show (f x).length + (i * sz + off) + us.length - (f x).length = i * sz + off + us.length from by omega]
      simp
end Go.Eng
