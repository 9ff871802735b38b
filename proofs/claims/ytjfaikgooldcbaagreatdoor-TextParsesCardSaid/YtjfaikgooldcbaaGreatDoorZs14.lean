/-
  WHAT VALUES ARE RIGHT, as the document says, in plain Lean; values as trees. No program in it.
  The reference's values: List; a row of rows, as it is known.
  The reference's values: Names and Parts, with the rows that they hand over.
  THE ENGINE, PART 14: maps whose keys are strings: as those of integers (EngG), text for text. Over any program.
  A map from texts to slices, against the pairs that it holds. No program in it.
  A map ranged over: what has been visited; a map's keys. No program in it.
-/
import Derived.Test.YtjfaikgooldcbaaGreatDoorZs13
import Derived.Test.YtjfaikgooldcbaaGreatDoorZs11
import Derived.Test.YtjfaikgooldcbaaGreatDoorZs4
import Derived.Laws.BitsLemmas
import Derived.Test.YtjfaikgooldcbaaGreatDoorZs3
import Derived.Test.YtjfaikgooldcbaaGreatDoorProg
import Derived.Test.YtjfaikgooldcbaaGreatDoorZs5
import Derived.Test.YtjfaikgooldcbaaGreatDoorZs6
import Derived.Test.YtjfaikgooldcbaaGreatDoorZs8
set_option linter.unusedVariables false
set_option linter.unusedSimpArgs false
namespace Go.Eng
open Go.RowKit

/-- A node, whatever its name. -/
def bareN (n : Nd) : Nd := { n with name := [] }
def plainB (n : Nd) : Bool :=
  if n.kind = 0 ∨ n.kind = 1 ∨ n.kind = 2 then decide (bareN n = ⟨n.kind, 0, [], [], false, 0⟩)
  else if n.kind = 3 then right1 (bareN n)
  else if n.kind = 4 then utf n.s && decide (bareN n = ⟨n.kind, 0, [], n.s, false, 0⟩)
  else if n.kind = 5 ∨ n.kind = 6 then decide (0 ≤ n.many) && decide (bareN n = ⟨n.kind, n.many, [], [], false, 0⟩)
  else false
/-- The place behind so many values; below 0: there is none. -/
def nextF : Nat → Vl → Int → Int → Int
  | 0, _, _, _ => -1
  | f + 1, v, op, i => if op ≤ 0 then i else if len v ≤ i ∨ (at' v i).many < 0 ∨ len v < (at' v i).many then -1 else nextF f v (op - 1 + (at' v i).many) (i + 1)
def nextV (v : Vl) (i : Int) : Int := nextF (v.length + 2) v 1 i
/-! ### trees -/
mutual
def Tr.wf : Tr → Prop
  | .mk n ps => n.many = len ps ∧ wfL ps
def wfL : List Tr → Prop
  | [] => True
  | t :: ts => t.wf ∧ wfL ts
end
theorem wfL_app {a b : List Tr} : wfL (a ++ b) ↔ wfL a ∧ wfL b := by
  induction a with
  | nil => simp [wfL]
  | cons x a ih => rw [List.cons_append, wfL, wfL, ih, and_assoc]
theorem flatL_app (a b : List Tr) : flatL (a ++ b) = flatL a ++ flatL b := by
  induction a with
  | nil => simp [flatL]
  | cons x a ih => rw [List.cons_append, flatL, flatL, ih, List.append_assoc]
theorem SegL.le {v : List Nd} {i : Int} {l : List Tr} (h : SegL v i l) : i + sizeL l ≤ len v := by
  obtain ⟨h0, pre, post, rfl, rfl⟩ := h
  unfold len; simp only [List.length_append, flatL_len]; omega
theorem SegL.kids {v : List Nd} {i : Int} {n : Nd} {ps ts : List Tr} (h : SegL v i (.mk n ps :: ts)) : SegL v (i + 1) (ps ++ ts) := by
  obtain ⟨h0, pre, post, rfl, rfl⟩ := h
  exact ⟨by omega, pre ++ [n], post, by rw [flatL, Tr.flat, flatL_app]; simp, by unfold len; simp⟩
theorem SegL.one {v : List Nd} {i : Int} {t : Tr} (h : SegAt v i t) : SegL v i [t] := by
  obtain ⟨h0, pre, post, rfl, rfl⟩ := h
  exact ⟨h0, pre, post, by simp [flatL], rfl⟩
theorem SegL.skip {v : List Nd} {i : Int} {a b : List Tr} (h : SegL v i (a ++ b)) : SegL v (i + sizeL a) b := by
  obtain ⟨h0, pre, post, rfl, rfl⟩ := h
  exact ⟨by omega, pre ++ flatL a, post, by rw [flatL_app]; simp, by unfold len; rw [List.length_append, flatL_len]; omega⟩
theorem nextF_done {f : Nat} {v : Vl} {op i : Int} (h : op ≤ 0) : nextF (f + 1) v op i = i := by rw [nextF, if_pos h]
theorem nextF_seg {v : Vl} : ∀ (n : Nat) (ts : List Tr) (f : Nat) (op i : Int), sizeL ts = n → wfL ts → SegL v i ts → 0 ≤ op → nextF (f + n) v (op + len ts) i = nextF f v op (i + n) := by
  intro n
  induction n with
  | zero =>
    intro ts f op i hn hw hs ho
    cases ts with
    | nil => simp [len]
    | cons t ts => rw [sizeL] at hn; have := t.size_pos; omega
  | succ n ih =>
    intro ts f op i hn hw hs ho
    cases ts with
    | nil => rw [sizeL] at hn; omega
    | cons t ts =>
      obtain ⟨n0, ps⟩ := t
      have h1 := hs.first.head
      have hle := hs.le
      rw [wfL, Tr.wf] at hw
      have hps := len_le_sizeL ps
      have hp0 := len_nonneg ps
      have hk := hs.kids
      rw [sizeL, Tr.size] at hn hle
      rw [show f + (n + 1) = (f + n) + 1 by omega, nextF, if_neg (by rw [len_cons]; have := len_nonneg ts; omega), h1.2.2, if_neg (by omega), hw.1.1]
      have := ih (ps ++ ts) f op (i + 1) (by rw [sizeL_app]; omega) (wfL_app.2 ⟨hw.1.2, hw.2⟩) hk ho
      rw [len_app] at this
      rw [len_cons, show op + (len ts + 1) - 1 + len ps = op + (len ps + len ts) by omega, this]
      congr 1; omega
theorem nextV_seg {v : Vl} {i : Int} {t : Tr} (h : SegAt v i t) (hw : t.wf) : nextV v i = i + t.size := by
  have hs := SegL.one h
  have hle := hs.le
  have := h.1
  have hsz : sizeL [t] = t.size := by simp [sizeL]
  obtain ⟨f, hf⟩ : ∃ f, v.length + 2 = (f + 1) + t.size := ⟨v.length + 1 - t.size, by unfold len at hle; omega⟩
  unfold nextV
  rw [hf]
  have := nextF_seg t.size [t] (f + 1) 0 i hsz ⟨hw, trivial⟩ hs (by omega)
  rw [show (0 : Int) + len [t] = 1 from rfl] at this
  rw [this, nextF_done (by omega)]
/-! ### parts, names, depth -/
def Tr.named (x : Str) : Tr → Tr | .mk n ps => .mk { n with name := x } ps
theorem Tr.named_flat (x : Str) (t : Tr) : (t.named x).flat = nameV x t.flat := by cases t; rfl
theorem Tr.named_wf {x : Str} {t : Tr} (h : t.wf) : (t.named x).wf := by cases t; exact h
def kidsV (t : Tr) : List Vl := t.parts.map fun u => (u.named []).flat
def kidNs (t : Tr) : List Str := if t.node.kind = 6 then t.parts.map (·.node.name) else []
mutual
def depthT : Tr → Int
  | .mk n ps => if n.kind ≠ 5 ∧ n.kind ≠ 6 then 0 else depthL ps + 1
def depthL : List Tr → Int
  | [] => 0
  | t :: ts => max (depthT t) (depthL ts)
end
theorem depthT_named (x : Str) (t : Tr) : depthT (t.named x) = depthT t := by cases t; rfl
theorem own_eq {x : Vl} (h : x ≠ []) : (([] : List Nd) ++ x).set (0 : Int).toNat { at' (([] : List Nd) ++ x) 0 with name := [] } = nameV [] x := by
  cases x with
  | nil => exact absurd rfl h
  | cons a x => rfl
theorem seg_sub {v : Vl} {i : Int} {t : Tr} (h : SegAt v i t) : Eng.sub v i (i + t.size) = t.flat := by
  obtain ⟨h0, pre, post, rfl, rfl⟩ := h
  unfold Eng.sub len
  have : (Int.toNat ((pre.length : Int) + t.size)) - (Int.toNat (pre.length : Int)) = t.flat.length := by rw [Tr.flat_len]; omega
  simp only [Int.toNat_natCast] at *
  rw [List.drop_left, this, List.take_left]
theorem Tr.seg_kids {t : Tr} : SegL t.flat 1 t.parts := by
  obtain ⟨n, ps⟩ := t
  exact (SegAt.top (.mk n ps)).kids
theorem Tr.at0 (t : Tr) : at' t.flat 0 = t.node := (SegAt.top t).node.2.2
theorem Tr.many_eq {t : Tr} (h : t.wf) : t.node.many = len t.parts := by cases t; exact h.1
theorem Tr.parts_wf {t : Tr} (h : t.wf) : wfL t.parts := by cases t; exact h.2
theorem Tr.size_eq (t : Tr) : t.size = 1 + sizeL t.parts := by cases t; rfl
/-- The first so many parts. -/
def kidsTo (t : Tr) (k : Int) : List Vl := (kidsV t).take k.toNat
theorem kidsTo_end {t : Tr} {k : Int} (h1 : len t.parts ≤ k) : kidsTo t k = kidsV t := by
  unfold kidsTo; rw [List.take_of_length_le]; unfold kidsV; rw [List.length_map]; unfold len at h1; omega
theorem wfL_drop {l : List Tr} (h : wfL l) (n : Nat) : wfL (l.drop n) := by
  have := List.take_append_drop n l
  rw [← this, wfL_app] at h; exact h.2
/-- The next part. -/
theorem kid_step {t : Tr} (hw : t.wf) {k i : Int} (h0 : 0 ≤ k) (h1 : k < len t.parts) (hs : SegL t.flat i (t.parts.drop k.toNat)) :
    ∃ u, u.wf ∧ SegAt t.flat i u ∧ nextV t.flat i = i + u.size ∧ SegL t.flat (i + u.size) (t.parts.drop (k + 1).toNat) ∧ kidsTo t (k + 1) = kidsTo t k ++ [nameV [] (Eng.sub t.flat i (nextV t.flat i))] ∧ nameV [] (Eng.sub t.flat i (nextV t.flat i)) = (u.named []).flat ∧ u ∈ t.parts ∧ t.parts[k.toNat]? = some u := by
  have hk : k.toNat < t.parts.length := by unfold len at h1; omega
  have e : t.parts.drop k.toNat = t.parts[k.toNat] :: t.parts.drop (k + 1).toNat := by
    rw [show (k + 1).toNat = k.toNat + 1 by omega]; exact List.drop_eq_getElem_cons hk
  have hwd := wfL_drop (Tr.parts_wf hw) k.toNat
  rw [e] at hs hwd
  have hn := nextV_seg hs.first hwd.1
  have he : nameV [] (Eng.sub t.flat i (nextV t.flat i)) = ((t.parts[k.toNat]).named []).flat := by rw [hn, seg_sub hs.first, Tr.named_flat]
  refine ⟨t.parts[k.toNat], hwd.1, hs.first, hn, hs.rest, ?_, he, List.getElem_mem hk, List.getElem?_eq_getElem hk⟩
  rw [he]
  unfold kidsTo kidsV
  rw [show (k + 1).toNat = k.toNat + 1 by omega, List.take_add_one, List.getElem?_map, List.getElem?_eq_getElem hk]; rfl
def namesTo (t : Tr) (k : Int) : List Str := (t.parts.map (·.node.name)).take k.toNat
theorem namesTo_step {t : Tr} {k : Int} {u : Tr} (h0 : 0 ≤ k) (h : t.parts[k.toNat]? = some u) : namesTo t (k + 1) = namesTo t k ++ [u.node.name] := by
  unfold namesTo
  rw [show (k + 1).toNat = k.toNat + 1 by omega, List.take_add_one, List.getElem?_map, h]; rfl
theorem namesTo_end {t : Tr} {k : Int} (h1 : len t.parts ≤ k) (h6 : t.node.kind = 6) : namesTo t k = kidNs t := by
  unfold namesTo kidNs; rw [if_pos h6, List.take_of_length_le]; rw [List.length_map]; unfold len at h1; omega
theorem namesTo_len {t : Tr} {k : Int} (h0 : 0 ≤ k) (h1 : k ≤ len t.parts) : len (namesTo t k) = k := by
  unfold namesTo len; rw [List.length_take, List.length_map]; unfold len at h1; omega
theorem namesTo_no {t : Tr} {k : Int} (h1 : k = 0) (h6 : ¬ t.node.kind = 6) : namesTo t k = kidNs t := by
  subst h1; unfold namesTo kidNs; rw [if_neg h6]; rfl
theorem kidsV_len (t : Tr) : len (kidsV t) = len t.parts := by unfold kidsV len; rw [List.length_map]
end Go.Eng
set_option maxRecDepth 100000
namespace Go.Proofs.YtjfaikgooldcbaaGreatDoor
open Go.Eng

/-- A row of values. -/
abbrev kr (u : Value) (rs : List SlH) (xs : List Vl) : Kn := ⟨u, 1, rs, valI, fun M => RowsV M 6 Nd.cells rs xs, fun _ _ hm h => RowsV.mono hm h⟩
theorem kr_at {M : Mem} {u : Value} {rs : List SlH} {xs : List Vl} (h : (kr u rs xs).ok M) {k : Int} (h0 : 0 ≤ k) (h1 : k < len rs) : (kn (at' rs k).v 6 (at' xs k) Nd.cells).ok M := ⟨RowsV.at h.more h0 h1, Nd.cells_len, trivial⟩
theorem kr_len {M : Mem} {u : Value} {rs : List SlH} {xs : List Vl} (h : (kr u rs xs).ok M) : len rs = len xs := by have := RowsV.len (f := Nd.cells) h.more; unfold len; omega
theorem list2_c (u : Value) (rs : List SlH) (xs : List Vl) (w : World) (M : Mem) (hM : Sat w M) (hu : (kr u rs xs).ok M) (hb : len xs.flatten ≤ 1048576) (hr : len rs ≤ 1048576) :
  Calls Tryz.prog 24 [u].toArray w (MRet w M (fun v : Value => v) (fun _ => True) fun v => [(0, kn v 6 (listV xs) Nd.cells)]) := by
 have hl := kr_len hu
 have hln := len_nonneg rs
 refine xenter ttok Tryz.func24 rfl Tryz.ntmps24 [(0, kr u rs xs)] [] [.sl 0 u] rfl (St.start hM) (fcons hu fnil) (fun B hB => ?_) rfl
 refine xlit 1 [⟨5, len rs, [], [], false, 0⟩] Nd.cells 6 38 Nd.cells_len rfl (eok rfl) (by omega) rfl (eok rfl) (fun w => by kernel_rfl) rfl fun v => ?_
 refine xloop (σ := Int × Value) (fun (k, v) => ⟨[(0, kr u rs xs), (1, kn v 6 (⟨5, len rs, [], [], false, 0⟩ :: flatTo xs k) Nd.cells)], [(1, .ho (.own 38 6 v (⟨5, len rs, [], [], false, 0⟩ :: flatTo xs k).length ((⟨5, len rs, [], [], false, 0⟩ :: flatTo xs k).flatMap Nd.cells)))], [Z 0 (.sl 0 u), Z 3 (.sl 1 v), Z 4 (I k)]⟩) (fun (k, v) => 0 ≤ k ∧ k ≤ len rs) (fun (k, v) => (len rs - k).toNat) (0, v) rfl (eok rfl) (by omega) rfl ⟨by omega, by omega⟩ ?_
 rintro ⟨k, v⟩ ⟨h0, h1⟩
 refine xbr rfl (eok rfl) (by omega) (fun hb1 => ?_) (fun hb1 => ?_) <;> simp only [zb] at hb1
 ·refine run_ok rfl (eok rfl) (by omega) ?_
  refine xknow 2 (kn (at' rs k).v 6 (at' xs k) Nd.cells) (fun w M hX => kr_at (hX.f.get (k := 0) rfl) h0 hb1) (xtag 19 2 rfl ?_)
  have hft := flatTo_step h0 (show k < len xs by omega)
  have hfl := flatTo_le xs (k + 1)
  rw [hft, len_app] at hfl
  refine xapp 64 rfl (eok rfl) (by omega) rfl (eok rfl) rfl Tryz.underlying24 Tryz.type38 rfl rfl Nd.cells_one (by rw [len_cons]; omega) fun v' => ?_
  refine xround (k + 1, v') rfl (eok rfl) (by omega) (by dsimp only; rw [hft]; rfl) ⟨by omega, by omega⟩ (by show Int.toNat _ < Int.toNat _; omega)
 ·refine xret hB rfl rfl (eok rfl) (by omega) rfl (eok rfl) fun w M hX => ⟨v, M, rfl, trivial, hX.st.done, ?_⟩
  have := hX.sl 1 rfl
  rw [flatTo_end (by omega), hl] at this
  exact fc 0 this Nd.cells_len fnil
end Go.Proofs.YtjfaikgooldcbaaGreatDoor
set_option maxRecDepth 100000
namespace Go.Proofs.YtjfaikgooldcbaaGreatDoor
open Go.Eng

/- loupe/louperef02.Next -/
theorem next_c (M : Mem) (v : Vl) (vv : Value) (i : Int) (w : World) (hM : Sat w M) (hv : Sl M 6 v.length vv (v.flatMap Nd.cells)) (hvb : len v ≤ 1048576) (h0 : 0 ≤ i) :
  Calls Tryz.prog 34 [vv, (i64 i)].toArray w fun e w' => e = .returned (i64 (nextV v i)) ∧ Ext w w' := by
 refine CW.enter1 Tryz.func34 rfl Tryz.ntmps34 (Nat.le_of_ble_eq_true rfl) fun Q hE => ?_
 have hvn := len_nonneg v
 have hS : St w M w M [] := St.start hM
 refine CW.weaken [0, 1] (L' := [Y 0 vv, Y 1 (i64 i)]) ?_ rfl
 refine CW.sr (RL.u (.assign .c) rfl (RL.nil (CW.id (CW.sr ?_))))
 refine RL.u (.assign .c) rfl (RL.nil (CW.id ?_))
 refine CW.seq (CW.block ?_)
 refine CW.loop (σ := Nat × Int × Int) (fun (f1, op, k) => [Y 0 vv, Y 1 (i64 k), Y 5 (i64 op)]) (fun (f1, op, k) wl => St w M wl M [] ∧ Sl M 6 v.length vv (v.flatMap Nd.cells) ∧ nextF f1 v op k = nextV v i ∧ f1 + (k - i) = len v + 2 ∧ 0 ≤ op ∧ op ≤ 1 + (k - i) * 1048576 ∧ i ≤ k ∧ (k ≤ len v ∨ k = i)) (fun (f1, op, k) => f1) ((v.length + 2, 1, i)) [0, 1, 5] rfl ?_ ?_
 ·refine ⟨hS, hv, ?_⟩; exact ⟨rfl, by unfold len; omega, by omega, by omega, by omega, Or.inr rfl⟩
 ·rintro ⟨f1, op, k⟩ wl ⟨hS1, hv, hF, hf, ho0, ho1, hik, hkl⟩
  have hf1 : 1 ≤ f1 := by omega
  obtain ⟨f, rfl⟩ : ∃ f, f1 = f + 1 := ⟨f1 - 1, by omega⟩
  refine CW.seq (CW.sr (RL.m rfl rfl (RL.u (.gtr (.t rfl) .c) rfl (RL.nil (CW.id ?_)))))
  refine CW.cond rfl ?_ ?_ <;> intro hb1 <;> try simp only [zb] at hb1
  ·refine CW.skip (CW.id (CW.block (CW.seq (CW.sr ?_))))
   refine RL.m rfl rfl (RL.m rfl rfl (RL.u (.lenT hv (.t rfl) ⟨_, Tryz.underlying24⟩) rfl (RL.u (.geq (.t rfl) (.t rfl)) rfl (RL.m rfl rfl (RL.v (.neg rfl rfl) (.move (.t rfl)) rfl ?_)))))
   refine RL.v (.neg rfl rfl) (.move (.t rfl)) rfl (RL.v (.neg rfl rfl) (.idxT hv (.g rfl (fun h => h)) (.g rfl (fun h => h)) Tryz.underlying24 Tryz.sizeOf38 (fun hW => by simp only [zb] at hW; omega)) rfl (RL.v (.neg rfl rfl) (.fldA (q := ⟨sb vv, so vv + (k : Int).toNat * 6 + 1, none⟩) (.g rfl (fun h => h)) (fun w => by kernel_rfl)) rfl (RL.v (.neg rfl rfl) (.loadE1 (f := Nd.cells) (i := k) (j := 1) (u := (i64 ((at' v k).many))) hS1 extEq hv Nd.cells_len (.g rfl (fun h => h)) Tryz.isAgg3 (fun hW => by simp only [zb] at hW; omega) rfl rfl) rfl (RL.v (.neg rfl rfl) (.lss (.g rfl (fun h => h)) .c) rfl (RL.u (.or (.t rfl) (.g rfl (fun h => h))) rfl ?_)))))
   refine RL.m rfl rfl (RL.v (.neg rfl rfl) (.move (.t rfl)) rfl (RL.v (.neg rfl rfl) (.move (.t rfl)) rfl (RL.v (.neg rfl rfl) (.idxT hv (.g rfl (fun h => h)) (.g rfl (fun h => h)) Tryz.underlying24 Tryz.sizeOf38 (fun hW => by simp only [zb] at hW; omega)) rfl (RL.v (.neg rfl rfl) (.fldA (q := ⟨sb vv, so vv + (k : Int).toNat * 6 + 1, none⟩) (.g rfl (fun h => h)) (fun w => by kernel_rfl)) rfl (RL.v (.neg rfl rfl) (.loadE1 (f := Nd.cells) (i := k) (j := 1) (u := (i64 ((at' v k).many))) hS1 extEq hv Nd.cells_len (.g rfl (fun h => h)) Tryz.isAgg3 (fun hW => by simp only [zb] at hW; omega) rfl rfl) rfl ?_)))))
   refine RL.v (.neg rfl rfl) (.move (.t rfl)) rfl (RL.v (.neg rfl rfl) (.lenT hv (.g rfl (fun h => h)) ⟨_, Tryz.underlying24⟩) rfl (RL.v (.neg rfl rfl) (.gtr (.g rfl (fun h => h)) (.g rfl (fun h => h))) rfl (RL.u (.or (.t rfl) (.g rfl (fun h => h))) rfl (RL.nil (CW.id ?_)))))
   refine CW.cond rfl ?_ ?_ <;> intro hb2 <;> try simp only [zb] at hb2
   ·refine CW.sr (RL.u (.assign .c) rfl (RL.nil (CW.id (CW.ret (hE.r1 rfl rfl ?_)))))
    exact ⟨by rw [← hF, nextF, if_neg (by omega), if_pos (by omega)], hS1.low⟩
   ·refine CW.skip (CW.id (CW.sr (RL.m rfl rfl (RL.u (.sub (.t rfl) .c (fun _ => by omega)) rfl (RL.m rfl rfl (RL.m rfl rfl (RL.u (.idxT hv (.t rfl) (.t rfl) Tryz.underlying24 Tryz.sizeOf38 (fun _ => by omega)) rfl (RL.u (.fldA (q := ⟨sb vv, so vv + (k : Int).toNat * 6 + 1, none⟩) (.t rfl) (fun w => by kernel_rfl)) rfl (RL.u (.loadE1 (f := Nd.cells) (i := k) (j := 1) (u := (i64 ((at' v k).many))) hS1 extEq hv Nd.cells_len (.t rfl) Tryz.isAgg3 (fun _ => by omega) rfl rfl) rfl (RL.u (.add (.t rfl) (.t rfl) (fun _ => by omega)) rfl (RL.a rfl rfl (RL.nil (CW.id ?_)))))))))))))
    refine CW.region (RL.m rfl rfl (RL.u (.add (.t rfl) .c (fun _ => by omega)) rfl (RL.a rfl rfl ?_)))
    refine RL.nil fun a hs => Exists.intro ((f, (op - 1) + ((at' v k).many), k + 1)) ⟨hs.keep [0, 1, 5], ?_, ?_⟩
    ·refine ⟨hS1, hv, ?_⟩
     exact ⟨by rw [← hF, nextF, if_neg (by omega), if_neg (by omega)], by omega, by omega, by omega, by omega, Or.inl (by omega)⟩
    ·show f < f + 1; omega
  ·refine CW.exit (CW.at [Y 1 (i64 k)] rfl ?_)
   refine CW.sr (RL.m rfl rfl (RL.a rfl rfl (RL.nil (CW.id (CW.ret (hE.r1 rfl rfl ?_))))))
   exact ⟨by rw [← hF, nextF, if_pos (by omega)], hS1.low⟩

end Go.Proofs.YtjfaikgooldcbaaGreatDoor
set_option maxRecDepth 100000
namespace Go.Proofs.YtjfaikgooldcbaaGreatDoor
open Go.Eng

/- loupe/louperef02.own -/
theorem own_c {w wv : World} {M0 M : Mem} {Rs : List HO} (v : Vl) (vv : Value) (i j : Int) (hS : St w M0 wv M Rs) (hv : Sl M 6 v.length vv (v.flatMap Nd.cells)) (hvb : len v ≤ 1048576) (h0 : 0 ≤ i) (h1 : i < j) (h2 : j ≤ len v) :
  Calls Tryz.prog 62 [vv, (i64 i), (i64 j)].toArray wv fun e w' => ∃ u, e = .returned u ∧ ∃ a c M', u = .slice a (nameV [] (Eng.sub v i j)).length c ∧ Sl M' 6 (nameV [] (Eng.sub v i j)).length u ((nameV [] (Eng.sub v i j)).flatMap Nd.cells) ∧ St w M0 w' M' Rs ∧ M.le M' := by
 refine CW.enter1 Tryz.func62 rfl Tryz.ntmps62 (Nat.le_of_ble_eq_true rfl) fun Q hE => ?_
 have hsb : len (Eng.sub v i j) = j - i := sub_len h0 (by omega) h2
 have hsn : Eng.sub v i j ≠ [] := fun e => by rw [e, len_nil] at hsb; omega
 refine CW.weaken [0, 1, 2] (L' := [Y 0 vv, Y 1 (i64 i), Y 2 (i64 j)]) ?_ rfl
 refine CW.sr ?_
 have hS1 := hS.ownNil 38 6
 refine RL.u (.assign .c) rfl (RL.nil (CW.id ?_))
 refine CW.sr ?_
 refine RL.buildSliceP (n := 0) (sz := 6) (e := 38) (vs := []) (cs := []) hS1 .nil rfl rfl (fun w => by kernel_rfl) rfl (fun v2 w3 hS4 => ?_)
 refine RL.m rfl rfl (RL.m rfl rfl (RL.m rfl rfl ?_))
 obtain ⟨vs5, hs6, hrun⟩ := slSl_b (P := Tryz.prog) hv Nd.cells_len Tryz.underlying24 Tryz.sizeOf38 i j (by omega)
 refine RL.u (.slRb (.t rfl) (.t rfl) (.t rfl) hrun) rfl ?_
 clear hrun
 refine RL.appendLP (f := Nd.cells) (l := ([] : List Nd)) (m := Eng.sub v i j) hS4 (k := 0) rfl (.t rfl) (.t rfl) hs6 Tryz.underlying24 Tryz.type38 rfl rfl rfl Nd.cells_one (by' := 64) rfl rfl (by first | omega | (simp only [len_app, len_cons, len_nil] at *; omega)) rfl (Hs' := fun v' => (.priv 38 6 v' (([] : List Nd) ++ Eng.sub v i j).length ((([] : List Nd) ++ Eng.sub v i j).flatMap Nd.cells) :: .own 38 6 (.slice none 0 0) (([] : List Nd)).length ((([] : List Nd)).flatMap Nd.cells) :: Rs)) (fun _ => rfl) (fun v7 w8 hS9 => ?_)
 refine RL.a rfl rfl (RL.nil (CW.id ?_))
 refine CW.sr (RL.m rfl rfl (RL.u (.idxT ((hS9.told (k := 0) rfl).sl (i := 0) rfl) (.t rfl) .c Tryz.underlying24 Tryz.sizeOf38 (fun _ => by first | omega | (simp only [len_app, len_cons, len_nil] at *; omega))) rfl (RL.u (.loadEN (f := Nd.cells) (i := 0) (hS9.told (k := 0) rfl) extEq ((hS9.told (k := 0) rfl).sl (i := 0) rfl) Nd.cells_len (.t rfl) Tryz.isAgg38 Tryz.sizeOf38 (fun _ => by first | omega | (simp only [len_app, len_cons, len_nil] at *; omega))) rfl ?_)))
 refine RL.alloc hS9 Tryz.zeroValue38 rfl (fun w10 b11 hS12 => ?_)
 refine RL.st hS12 (i := 0) rfl (.t rfl) (.t rfl) Tryz.sizeOf38 rfl rfl rfl rfl rfl (fun w13 hS14 => (RL.nil (CW.id ?_)))
 refine CW.sr (RL.u (.fldA (q := ⟨b11, 2, none⟩) (.t rfl) (fun w => by kernel_rfl)) rfl ?_)
 refine RL.st (v := (str [])) hS14 (i := 0) rfl (.t rfl) .c Tryz.sizeOf9 rfl rfl rfl rfl rfl (fun w15 hS16 => (RL.nil (CW.id ?_)))
 refine CW.sr (RL.m rfl rfl (RL.u (.loadBN (vs := [(i64 ((at' (([] : List Nd) ++ Eng.sub v i j) 0).kind)), (i64 ((at' (([] : List Nd) ++ Eng.sub v i j) 0).many)), (str []), (str ((at' (([] : List Nd) ++ Eng.sub v i j) 0).s)), (.bool ((at' (([] : List Nd) ++ Eng.sub v i j) 0).neg)), (i64 ((at' (([] : List Nd) ++ Eng.sub v i j) 0).e))]) hS16 extEq (i := 0) rfl (.t rfl) Tryz.isAgg38 Tryz.sizeOf38 rfl rfl) rfl (RL.u (.idxT ((hS16.told (k := 1) rfl).sl (i := 1) rfl) (.t rfl) .c Tryz.underlying24 Tryz.sizeOf38 (fun _ => by first | omega | (simp only [len_app, len_cons, len_nil] at *; omega))) rfl ?_)))
 refine RL.storeP (o := (0 : Int).toNat * 6 + 0) (xs' := ((([] : List Nd) ++ Eng.sub v i j).set (0 : Int).toNat ⟨(at' (([] : List Nd) ++ Eng.sub v i j) 0).kind, (at' (([] : List Nd) ++ Eng.sub v i j) 0).many, [], (at' (([] : List Nd) ++ Eng.sub v i j) 0).s, (at' (([] : List Nd) ++ Eng.sub v i j) 0).neg, (at' (([] : List Nd) ++ Eng.sub v i j) 0).e⟩).flatMap Nd.cells) (Hs' := (.box b11 [(i64 ((at' (([] : List Nd) ++ Eng.sub v i j) 0).kind)), (i64 ((at' (([] : List Nd) ++ Eng.sub v i j) 0).many)), (str []), (str ((at' (([] : List Nd) ++ Eng.sub v i j) 0).s)), (.bool ((at' (([] : List Nd) ++ Eng.sub v i j) 0).neg)), (i64 ((at' (([] : List Nd) ++ Eng.sub v i j) 0).e))] 38 :: .priv 38 6 v7 ((([] : List Nd) ++ Eng.sub v i j).set (0 : Int).toNat ⟨(at' (([] : List Nd) ++ Eng.sub v i j) 0).kind, (at' (([] : List Nd) ++ Eng.sub v i j) 0).many, [], (at' (([] : List Nd) ++ Eng.sub v i j) 0).s, (at' (([] : List Nd) ++ Eng.sub v i j) 0).neg, (at' (([] : List Nd) ++ Eng.sub v i j) 0).e⟩).length (((([] : List Nd) ++ Eng.sub v i j).set (0 : Int).toNat ⟨(at' (([] : List Nd) ++ Eng.sub v i j) 0).kind, (at' (([] : List Nd) ++ Eng.sub v i j) 0).many, [], (at' (([] : List Nd) ++ Eng.sub v i j) 0).s, (at' (([] : List Nd) ++ Eng.sub v i j) 0).neg, (at' (([] : List Nd) ++ Eng.sub v i j) 0).e⟩).flatMap Nd.cells) :: .own 38 6 (.slice none 0 0) (([] : List Nd)).length ((([] : List Nd)).flatMap Nd.cells) :: Rs)) hS16 (k := 1) rfl (.t rfl) (.t rfl) Tryz.sizeOf38 rfl rfl (by rw [flat_len Nd.cells 6 Nd.cells_len]; simp only [List.length_append]; unfold len at *; omega) rfl (splice_set (f := Nd.cells) (sz := 6) Nd.cells_len (([] : List Nd) ++ Eng.sub v i j) (0 : Int).toNat ⟨(at' (([] : List Nd) ++ Eng.sub v i j) 0).kind, (at' (([] : List Nd) ++ Eng.sub v i j) 0).many, [], (at' (([] : List Nd) ++ Eng.sub v i j) 0).s, (at' (([] : List Nd) ++ Eng.sub v i j) 0).neg, (at' (([] : List Nd) ++ Eng.sub v i j) 0).e⟩ 0 [(i64 ((at' (([] : List Nd) ++ Eng.sub v i j) 0).kind)), (i64 ((at' (([] : List Nd) ++ Eng.sub v i j) 0).many)), (str []), (str ((at' (([] : List Nd) ++ Eng.sub v i j) 0).s)), (.bool ((at' (([] : List Nd) ++ Eng.sub v i j) 0).neg)), (i64 ((at' (([] : List Nd) ++ Eng.sub v i j) 0).e))] (by simp only [List.length_append]; unfold len at *; omega) rfl (Nat.le_of_ble_eq_true rfl)) (by rw [List.length_set]; rfl) (fun w17 hS18 => (RL.nil (CW.id ?_)))
 refine CW.sr (RL.m rfl rfl (RL.a rfl rfl (RL.nil (CW.id (CW.ret (hE.r1 rfl rfl ?_))))))
 obtain ⟨M20, hS19, hle21⟩ := hS18.show (k := 1) rfl
 have hslr := (hS19.sl (i := 1) rfl)
 replace hS19 := (hS19.erase 2 rfl).erase 1 rfl
 replace hS19 := hS19.erase 0 rfl
 rw [own_eq hsn] at hslr
 obtain ⟨az, cz, hz⟩ := Sl.shape hslr
 exact ⟨_, rfl, az, cz, M20, hz, hslr, hS19, hle21⟩

end Go.Proofs.YtjfaikgooldcbaaGreatDoor
set_option maxRecDepth 100000
namespace Go.Proofs.YtjfaikgooldcbaaGreatDoor
open Go.Eng

/-- A row of texts that is handed over. -/
abbrev ownS (v : Value) (l : List Str) : HO := .own 9 1 v l.length (l.flatMap strC)
theorem names2o_c {w0 wv : World} {M0 M : Mem} {Rs : List HO} (t : Tr) (vv : Value) (hS : St w0 M0 wv M Rs) (hv : Sl M 6 t.flat.length vv (t.flat.flatMap Nd.cells)) (hvb : len t.flat ≤ 1048576) (hw : t.wf) :
  Calls Tryz.prog 58 [vv].toArray wv (ORet w0 M0 M Rs (fun v : Value => v) (fun _ => True) (fun v => [(0, kn v 1 (kidNs t) strC)]) fun v => [ownS v (kidNs t)]) := by
 have hmny := Tr.many_eq hw
 have hm0 : (at' t.flat 0).many = len t.parts := by rw [Tr.at0]; exact hmny
 have hpl : len t.parts + 1 ≤ len t.flat := by unfold len; rw [Tr.flat_len, Tr.size_eq]; have := len_le_sizeL t.parts; unfold len at this; omega
 have hlp := len_nonneg t.parts
 refine xenter ttok Tryz.func58 rfl Tryz.ntmps58 [(0, kn vv 6 t.flat Nd.cells)] [] [.sl 0 vv] rfl hS (fc 0 hv Nd.cells_len fnil) (fun B hB => ?_) rfl
 refine xlit 1 [] strC 1 9 strC_len rfl (eok rfl) (by omega) rfl (eok rfl) (fun w => by kernel_rfl) rfl fun v => ?_
 refine xloop (σ := Int × Int × Value × List Str) (fun (k, i, v, lo) => ⟨[(0, kn vv 6 t.flat Nd.cells), (1, kn v 1 lo strC)], [(1, .ho (ownS v lo))], [Z 0 (.sl 0 vv), Z 3 (.sl 1 v), Z 4 (I i), Z 5 (I k)]⟩) (fun (k, i, v, lo) => 0 ≤ k ∧ k ≤ len t.parts ∧ SegL t.flat i (t.parts.drop k.toNat) ∧ lo = namesTo t k ∧ (¬ t.node.kind = 6 → k = 0)) (fun (k, i, v, lo) => (len t.parts - k).toNat) (0, 1, v, []) rfl (eok rfl) (by omega) rfl ⟨by omega, by omega, Tr.seg_kids, rfl, fun _ => rfl⟩ ?_
 rintro ⟨k, i, v, lo⟩ ⟨hk0, hku, hus, hlo, hk6⟩
 have hlk : len lo = k := by rw [hlo]; exact namesTo_len hk0 hku
 have hkid := fun h => kid_step hw hk0 h hus
 refine xbr rfl (eok rfl) (by simp only [zb] <;> omega) (fun hb1 => ?_) (fun hb1 => ?_) <;> simp only [zb] at hb1
 ·obtain ⟨u, huw, hu, hnx, hrs, hst, hke, hmem, hgt⟩ := hkid (by omega)
  have huz := u.size_pos
  have hul := hu.size_le
  have hi0 := hu.1
  refine xlit 2 [(at' t.flat i).name] strC 1 9 strC_len rfl (eok rfl) (by omega) rfl (eok rfl) (fun w => by kernel_rfl) rfl fun v2 => ?_
  refine xapp 16 rfl (eok rfl) (by omega) rfl (eok rfl) rfl Tryz.underlying46 Tryz.type9 rfl rfl strC_one (by rw [hlk]; simp only [len_cons, len_nil]; omega) fun v' => ?_
  refine xcall rfl (eok rfl) (by omega) Tryz.call34 rfl rfl (eok rfl) (fun _ w M hX => next_c M t.flat vv i w hX.st.sat (hX.sl 0 rfl) hvb (by omega)) rfl ?_
  exact xround (k + 1, nextV t.flat i, v', lo ++ [(at' t.flat i).name]) rfl (eok rfl) (by omega) rfl ⟨by omega, by omega, by rw [hnx]; exact hrs, by rw [namesTo_step hk0 hgt, hlo, hu.node.2.2], fun h => by rw [← Tr.at0] at h; omega⟩ (by show Int.toNat _ < Int.toNat _; omega)
 ·have hle : lo = kidNs t := by
   rw [hlo]
   by_cases h6 : t.node.kind = 6
   ·exact namesTo_end (by rw [← Tr.at0] at h6; omega) h6
   ·rw [hk6 h6]; exact namesTo_no rfl h6
  subst hle
  exact xret hB rfl rfl (eok rfl) (by omega) rfl (eok rfl) fun w M hX => ⟨v, M, rfl, trivial, hX.le, hX.st, fc 0 (hX.sl 1 rfl) strC_len fnil⟩
/-- A row of values that is handed over. -/
abbrev ownV (v : Value) (rs : List SlH) : HO := .own 24 1 v rs.length (rs.flatMap valI)
theorem own2_c {w0 wv : World} {M0 M : Mem} {Rs : List HO} (v : Vl) (vv : Value) (i j : Int) (hS : St w0 M0 wv M Rs) (hv : Sl M 6 v.length vv (v.flatMap Nd.cells)) (hvb : len v ≤ 1048576) (h0 : 0 ≤ i) (h1 : i < j) (h2 : j ≤ len v) :
  Calls Tryz.prog 62 [vv, i64 i, i64 j].toArray wv (ORet w0 M0 M Rs (fun h : SlH => h.v) (fun _ => True) (fun h => [(0, kn h.v 6 (nameV [] (Eng.sub v i j)) Nd.cells)]) fun _ => []) :=
 (own_c v vv i j hS hv hvb h0 h1 h2).mono fun e w' ⟨u, he, a, c, M', hu, hsl, hS', hle⟩ => by
  subst hu; exact ⟨⟨a, _, c⟩, M', he, trivial, hle, hS', fc 0 hsl Nd.cells_len fnil⟩
theorem parts2o_c {w0 wv : World} {M0 M : Mem} {Rs : List HO} (t : Tr) (vv : Value) (hS : St w0 M0 wv M Rs) (hv : Sl M 6 t.flat.length vv (t.flat.flatMap Nd.cells)) (hvb : len t.flat ≤ 1048576) (hw : t.wf) :
  Calls Tryz.prog 37 [vv].toArray wv (ORet w0 M0 M Rs (fun g : Value × List SlH => g.1) (fun g => len g.2 = len (kidsV t)) (fun g => [(0, kn g.1 1 g.2 valI), (1, kr g.1 g.2 (kidsV t))]) fun g => [ownV g.1 g.2]) := by
 have hmny := Tr.many_eq hw
 have hm0 : (at' t.flat 0).many = len t.parts := by rw [Tr.at0]; exact hmny
 have hpl : len t.parts + 1 ≤ len t.flat := by unfold len; rw [Tr.flat_len, Tr.size_eq]; have := len_le_sizeL t.parts; unfold len at this; omega
 have hlp := len_nonneg t.parts
 refine xenter ttok Tryz.func37 rfl Tryz.ntmps37 [(0, kn vv 6 t.flat Nd.cells)] [] [.sl 0 vv] rfl hS (fc 0 hv Nd.cells_len fnil) (fun B hB => ?_) rfl
 refine xlit 1 [] valI 1 24 valI_len rfl (eok rfl) (by omega) rfl (eok rfl) (fun w => by kernel_rfl) rfl fun v => ?_
 refine run_ok rfl (eok rfl) (by omega) (xknow 6 (kr v [] (kidsTo t 0)) (fun w M hX => ⟨hX.sl 1 rfl, valI_len, trivial⟩) ?_)
 refine xloop (σ := Int × Int × Value × List SlH) (fun (k, i, v, lo) => ⟨[(0, kn vv 6 t.flat Nd.cells), (1, kn v 1 lo valI), (6, kr v lo (kidsTo t k))], [(1, .ho (ownV v lo))], [Z 0 (.sl 0 vv), Z 3 (.sl 1 v), Z 4 (I i), Z 5 (I k)]⟩) (fun (k, i, v, lo) => 0 ≤ k ∧ k ≤ len t.parts ∧ SegL t.flat i (t.parts.drop k.toNat) ∧ len lo = k) (fun (k, i, v, lo) => (len t.parts - k).toNat) (0, 1, v, []) rfl (eok rfl) (by omega) rfl ⟨by omega, by omega, Tr.seg_kids, rfl⟩ ?_
 rintro ⟨k, i, v, lo⟩ ⟨hk0, hku, hus, hlk⟩
 have hkid := fun h => kid_step hw hk0 h hus
 refine xbr rfl (eok rfl) (by omega) (fun hb1 => ?_) (fun hb1 => ?_) <;> simp only [zb] at hb1
 ·obtain ⟨u, huw, hu, hnx, hrs, hst, hke, hmem, hgt⟩ := hkid (by omega)
  have huz := u.size_pos
  have hul := hu.size_le
  have hi0 := hu.1
  refine xcall rfl (eok rfl) (by omega) Tryz.call34 rfl rfl (eok rfl) (fun _ w M hX => next_c M t.flat vv i w hX.st.sat (hX.sl 0 rfl) hvb (by omega)) rfl ?_
  refine xcallO [] (fun h : SlH => .sl 2 h.v) [2] (fun _ => []) rfl (eok rfl) (by omega) rfl Tryz.call62 rfl rfl (eok rfl) rfl (fun w M hS hF => own2_c t.flat vv i (nextV t.flat i) hS (hF.get (k := 0) rfl).sl hvb (by omega) (by omega) (by omega)) (fun _ => rfl) (fun _ => rfl) fun h _ => ?_
  refine xlit 3 [h] valI 1 24 valI_len rfl (eok rfl) (by omega) rfl (eok rfl) (fun w => by kernel_rfl) rfl fun v2 => ?_
  refine xapp 24 rfl (eok rfl) (by omega) rfl (eok rfl) rfl Tryz.underlying47 Tryz.type24 rfl rfl valI_one (by rw [hlk]; simp only [len_cons, len_nil]; omega) fun v' => ?_
  refine run_ok rfl (eok rfl) (by omega) (xknow 6 (kr v' (lo ++ [h]) (kidsTo t (k + 1))) (fun w M hX => ⟨hX.sl 1 rfl, valI_len, by rw [hst]; exact RowsV.snoc (hX.sl 2 rfl) (hX.f.get (k := 6) rfl).more⟩) ?_)
  exact xround (k + 1, nextV t.flat i, v', lo ++ [h]) rfl (eok rfl) (by omega) rfl ⟨by omega, by omega, by rw [hnx]; exact hrs, by rw [len_app, hlk]; rfl⟩ (by show Int.toNat _ < Int.toNat _; omega)
 ·refine xret hB rfl rfl (eok rfl) (by omega) rfl (eok rfl) fun w M hX => ⟨(v, lo), M, rfl, by show len lo = _; rw [hlk, kidsV_len]; omega, hX.le, hX.st, fc 0 (hX.sl 1 rfl) valI_len (fcons ?_ fnil)⟩
  have := hX.f.get (k := 6) rfl
  rw [kidsTo_end (by omega)] at this
  exact this
end Go.Proofs.YtjfaikgooldcbaaGreatDoor
namespace Go.Eng
open Go.RowKit

structure SV where
  key : Str
  val : Value
  born : Nat
def SV.ent (p : SV) : MapEntry := { key := str p.key, val := p.val, born := p.born }
def smobj (l : List SV) (clock : Nat) : Obj := .map ⟨l.map SV.ent⟩ clock
def sget : List SV → Str → Option Value
  | [], _ => none
  | p :: l, x => if x == p.key then some p.val else sget l x
def sput : List SV → Str → Value → Option (List SV)
  | [], _, _ => none
  | p :: l, x, v => if x == p.key then some (⟨x, v, p.born⟩ :: l) else (sput l x v).map (p :: ·)
def sset (l : List SV) (c : Nat) (x : Str) (v : Value) : List SV := match sput l x v with | some l' => l' | none => l ++ [⟨x, v, c⟩]
def sclk (l : List SV) (c : Nat) (x : Str) (v : Value) : Nat := match sput l x v with | some _ => c | none => c + 1
def sfind : List SV → Str → Nat → Option (Nat × Value)
  | [], _, _ => none
  | p :: l, x, i => if x == p.key then some (i, p.val) else sfind l x (i + 1)
theorem str_beq (x y : Str) : ((⟨⟨x⟩⟩ : ByteArray) == ⟨⟨y⟩⟩) = (x == y) := by
  show ((⟨x⟩ : Array UInt8) == ⟨y⟩) = (x == y)
  simp
theorem findNow_sent (x : Str) : ∀ (l : List SV) (i : Nat), Instr.findNow .string (str x) (l.map SV.ent) i = some (sfind l x i)
  | [], _ => rfl
  | p :: l, i => by
    simp only [List.map_cons, Instr.findNow, SV.ent, Instr.sameNow, sfind, str_beq]
    by_cases h : (x == p.key) = true
    · rw [h]; rfl
    · rw [Bool.not_eq_true] at h; rw [h]; exact findNow_sent x l (i + 1)
theorem sfind_get (x : Str) : ∀ (l : List SV) (i : Nat), (sfind l x i).map (·.2) = sget l x
  | [], _ => rfl
  | p :: l, i => by
    simp only [sfind, sget]; split
    · rfl
    · exact sfind_get x l (i + 1)
theorem sfind_put (x : Str) (v : Value) : ∀ (l : List SV) (i : Nat), (sfind l x i = none ∧ sput l x v = none) ∨ ∃ j u p l', sfind l x i = some (i + j, u) ∧ l[j]? = some p ∧ x = p.key ∧ sput l x v = some l' ∧ l' = l.modify j (fun p => ⟨x, v, p.born⟩)
  | [], _ => .inl ⟨rfl, rfl⟩
  | p :: l, i => by
    by_cases h : (x == p.key) = true
    · refine .inr ⟨0, p.val, p, ⟨x, v, p.born⟩ :: l, ?_, rfl, by simpa using h, ?_, by simp⟩
      · simp only [sfind, h, if_true]; rfl
      · simp only [sput, h, if_true]
    · rcases sfind_put x v l (i + 1) with ⟨h1, h2⟩ | ⟨j, u, q, l', h1, h2, h3, h4, h5⟩
      · refine .inl ⟨?_, ?_⟩
        · simp only [sfind, h]; exact h1
        · simp only [sput, h, h2]; rfl
      · refine .inr ⟨j + 1, u, q, p :: l', ?_, by simpa using h2, h3, ?_, ?_⟩
        · simp only [sfind, h]; rw [show i + (j + 1) = i + 1 + j from by omega]; exact h1
        · simp only [sput, h, h4]; rfl
        · subst h5; simp
theorem run_scheckKey {P : Program} {t : TypeId} (h : P.underlying t = some .string) (b : Bool) (x : Str) (w : World) : (Instr.checkKey b 10000 t (str x)).run P w = .ok () w := by
  show (Instr.checkKey b (9999 + 1) t (str x)).run P w = .ok () w
  unfold Instr.checkKey
  rw [Sem.run_bind, run_underlying h]; rfl
theorem run_sfindKey {P : Program} {t : TypeId} (h : P.underlying t = some .string) (x : Str) (l : List SV) (w : World) : (Instr.findKey t (str x) (l.map SV.ent)).run P w = .ok (sfind l x 0) w := by
  simp only [Instr.findKey, Sem.run_bind, run_underlying h, Result.andThen_ok, findNow_sent]; rfl
theorem run_sgetMap {P : Program} {w : World} {b : Nat} {l : List SV} {c : Nat} (h : w.heap[b]? = some (smobj l c)) : (getObj b).run P w = .ok (smobj l c) w := by
  simp [getObj, Sem.run, h, smobj]
theorem run_ssetMap {P : Program} {w : World} {b : Nat} {l : List SV} {c : Nat} (h : w.heap[b]? = some (smobj l c)) (o' : Obj) : (setObj b o').run P w = .ok () (setObjAt w b o') := by
  simp [setObj, Sem.run, h, setObjAt, smobj]

theorem run_slookup {P : Program} {w : World} {b : Nat} {l : List SV} {c : Nat} {t kt e : TypeId} {z : Value} {x : Str} {ok : Bool} (ht : P.underlying t = some (.map kt e)) (hk : P.underlying kt = some .string) (hz : ∀ w, (zeroValue e).run P w = .ok z w)
    (h : w.heap[b]? = some (smobj l c)) : (Instr.lookup t (.map (some b)) (str x) ok).run P w = .ok (if ok then .tuple #[(sget l x).getD z, .bool (sget l x).isSome] else (sget l x).getD z) w := by
  simp only [Instr.lookup, Sem.run_bind, run_underlying ht, Result.andThen_ok, run_sgetMap h, smobj, Sem.run_pure, run_scheckKey hk, run_sfindKey hk]
  have hg := sfind_get x l 0
  cases hf : sfind l x 0 with
  | none => rw [hf] at hg; rw [← hg]; simp [Sem.run_bind, hz]
  | some q => rw [hf] at hg; rw [← hg]; simp
theorem run_skeyStays {P : Program} {w : World} (x : Str) : (Instr.keyThatStays (str x) (str x)).run P w = .ok (str x) w := by
  unfold Instr.keyThatStays
  rw [show Instr.sameBits 10000 (str x) (str x) = true from by simp [Instr.sameBits, str_beq]]; rfl
theorem run_smapUpdate {P : Program} {w : World} {b : Nat} {l : List SV} {c : Nat} {t kt e : TypeId} {x : Str} {v : Value} (ht : P.underlying t = some (.map kt e)) (hk : P.underlying kt = some .string)
    (h : w.heap[b]? = some (smobj l c)) : (Instr.mapUpdate t (.map (some b)) (str x) v).run P w = .ok () (setObjAt w b (smobj (sset l c x v) (sclk l c x v))) := by
  simp only [Instr.mapUpdate, Sem.run_bind, run_underlying ht, Result.andThen_ok, run_sgetMap h, smobj, run_scheckKey hk, run_sfindKey hk]
  rcases sfind_put x v l 0 with ⟨h1, h2⟩ | ⟨j, u, p, l', h1, h2, h3, h4, h5⟩
  · rw [h1]
    simp only [sset, sclk, h2]
    rw [run_ssetMap h]; simp [SV.ent]
  · rw [h1]
    have e1 : ((l.map SV.ent).toArray[0 + j]?) = some (SV.ent p) := by simp [h2]
    have e2 : (Array.mk (l.map SV.ent))[0 + j]? = some (SV.ent p) := e1
    simp only [Sem.run_bind, e2, Option.map_some, Option.getD_some]
    rw [show (SV.ent p).key = str x from by rw [h3]; rfl, run_skeyStays]
    simp only [Result.andThen_ok, sset, sclk, h4]
    rw [run_ssetMap h]
    congr 3
    subst h5
    rw [Nat.zero_add]
    apply Array.ext'
    rw [Array.toList_modify]
    exact map_modify' SV.ent _ _ (fun x => rfl) l j

section rl
variable {P : Program} {ops : Array Oper} {Q : Exit → Act → World → Prop} {N : Nat} {rest : List Oper} {L : Env} {w0 w : World} {M0 M : Mem} {Hs : List HO} {d : Nat} {ty : TypeId} {ps : String} {af : Array Edge}
theorem RL.smakeMap {t : TypeId} (hS : St w0 M0 w M Hs) (hd : Nat.blt d N = true)
    (h : ∀ w' b, St w0 M0 w' M (.raw b (smobj [] 0) :: Hs) → RL P ops Q N rest ((d, true, .map (some b)) :: L) w') : RL P ops Q N (⟨some d, .makeMap t none, ty, ps, af, none⟩ :: rest) L w := by
  intro a hs
  refine wpList_plain rfl fun K hK => ?_
  have key : (execOp a.eval ⟨some d, .makeMap t none, ty, ps, af, none⟩).run P w = .ok (.value (.map (some w.heap.size))) (w.alloc (.map #[] 0)) := rfl
  simp only [Oper.wp, key, Oper.upon_value]
  exact hK _ _ (h _ _ (hS.newRaw (smobj [] 0)) _ (hs.put hd true _))
theorem RL.smapUpdate {t kt e : TypeId} {m x y : Operand} {i b c c' : Nat} {l l' : List SV} {n : Str} {v : Value} {Hs' : List HO} (ins : Bool) (hS : St w0 M0 w M Hs) (hi : Hs[i]? = some (.raw b (smobj l c))) (hm : Opd L true m (.map (some b))) (hx : Opd L true x (str n)) (hy : Opd L true y v)
    (ht : P.underlying t = some (.map kt e)) (hk : P.underlying kt = some .string) (hl : sset l c n v = l') (hc : sclk l c n v = c') (hHs : Hs.set i (.raw b (smobj l' c')) = Hs')
    (h : ∀ w', St w0 M0 w' M Hs' → RL P ops Q N rest L w') : RL P ops Q N (⟨none, if ins then .insert t m x y else .mapUpdate t m x y, ty, ps, af, none⟩ :: rest) L w := by
  intro a hs
  refine wpList_plain rfl fun K hK => ?_
  have hb := (hS.obj hi).2.1
  have key : (execOp a.eval ⟨none, if ins then .insert t m x y else .mapUpdate t m x y, ty, ps, af, none⟩).run P w = .ok .skip (setObjAt w b (smobj l' c')) := by
    have := run_smapUpdate (P := P) (x := n) (v := v) ht hk hb
    cases ins <;> simp only [execOp, hm a N hs rfl, hx a N hs rfl, hy a N hs rfl, Bool.false_eq_true, if_true, if_false] <;> rw [Sem.run_bind, this, hl, hc] <;> rfl
  simp only [Oper.wp, key, Oper.upon_skip]
  exact hK _ _ (h _ (hHs ▸ hS.setRaw hi _) _ hs)
theorem RL.srangeM {t kt e : TypeId} {x : Operand} {i b c : Nat} {l : List SV} (hS : St w0 M0 w M Hs) (hi : Hs[i]? = some (.raw b (smobj l c))) (hx : Opd L true x (.map (some b))) (ht : P.underlying t = some (.map kt e)) (hd : Nat.blt d N = true)
    (h : ∀ w' r, St w0 M0 w' M (.raw r (.mapIter (some b) c #[] c) :: Hs) → RL P ops Q N rest ((d, true, .pointer (some ⟨r, 0, none⟩)) :: L) w') : RL P ops Q N (⟨some d, .range t x, ty, ps, af, none⟩ :: rest) L w := by
  intro a hs
  refine wpList_plain rfl fun K hK => ?_
  have hb := (hS.obj hi).2.1
  have key : (execOp a.eval ⟨some d, .range t x, ty, ps, af, none⟩).run P w = .ok (.value (.pointer (some ⟨w.heap.size, 0, none⟩))) (w.alloc (.mapIter (some b) c #[] c)) := by
    simp only [execOp, hx a N hs rfl]; rw [Sem.run_bind, run_range_map w t kt e b _ _ ht hb]; rfl
  simp only [Oper.wp, key, Oper.upon_value]
  exact hK _ _ (h _ _ (hS.newRaw _) _ (hs.put hd true _))
/-- The next entry, whichever it is. -/
theorem RL.snextM {x : Operand} {i j b r c since c0 : Nat} {seen : Array Nat} {l : List SV} (hS : St w0 M0 w M Hs) (hi : Hs[i]? = some (.raw b (smobj l c))) (hj : Hs[j]? = some (.raw r (.mapIter (some b) since seen c0))) (hx : Opd L true x (.pointer (some ⟨r, 0, none⟩)))
    (hold : ∀ p ∈ l, p.born < since) (hsc : since ≤ c0) (hd : Nat.blt d N = true)
    (h1 : ∀ p ∈ l, ¬ seen.contains p.born = true → ∀ w', St w0 M0 w' M (Hs.set j (.raw r (.mapIter (some b) since (seen.push p.born) c))) → RL P ops Q N rest ((d, true, .tuple #[.bool true, str p.key, p.val]) :: L) w')
    (h2 : (∀ p ∈ l, seen.contains p.born = true) → RL P ops Q N rest ((d, true, .tuple #[.bool false]) :: L) w) : RL P ops Q N (⟨some d, .next x false, ty, ps, af, none⟩ :: rest) L w := by
  intro a hs
  refine wpList_plain rfl fun K hK => ?_
  have hb := (hS.obj hi).2.1
  have hr := (hS.obj hj).2.1
  rcases run_next_at (P := P) w ty r b since c0 seen ⟨l.map SV.ent⟩ c hr hb (by intro x hx; simp only [List.mem_map] at hx; obtain ⟨p, hp, rfl⟩ := hx; exact hold p hp) hsc with ⟨he, hrun⟩ | ⟨en, hen, w1, hw1, hrun⟩
  · have key : (execOp a.eval ⟨some d, .next x false, ty, ps, af, none⟩).run P w = .ok (.value (.tuple #[.bool false])) w := by
      simp only [execOp, hx a N hs rfl]; rw [Sem.run_bind, hrun]; rfl
    simp only [Oper.wp, key, Oper.upon_value]
    refine hK _ _ (h2 ?_ _ (hs.put hd true _))
    intro p hp
    by_cases hc : seen.contains p.born = true
    · exact hc
    · exfalso
      have : (leftOf ⟨l.map SV.ent⟩ seen).size = 0 := he
      unfold leftOf at this
      rw [Array.size_eq_zero_iff, Array.filter_eq_empty_iff] at this
      have := this (SV.ent p) (by simp only [List.mem_toArray, Array.mem_def, List.mem_map]; exact ⟨p, hp, rfl⟩)
      apply this; show (!seen.contains p.born) = true
      simpa using hc
  · unfold leftOf at hen
    simp only [Array.toList_filter, List.mem_filter, List.mem_map, Bool.not_eq_true'] at hen
    obtain ⟨⟨p, hp, rfl⟩, hns⟩ := hen
    have key : (execOp a.eval ⟨some d, .next x false, ty, ps, af, none⟩).run P w = .ok (.value (.tuple #[.bool true, str p.key, p.val])) (setObjAt w1 r (.mapIter (some b) since (seen.push p.born) c)) := by
      simp only [execOp, hx a N hs rfl]; rw [Sem.run_bind, hrun]; rfl
    simp only [Oper.wp, key, Oper.upon_value]
    have hS1 : St w0 M0 w1 M Hs := by rcases hw1 with rfl | rfl; exact hS; exact hS.ext (Ext.drew _)
    exact hK _ _ (h1 p hp (by show ¬ seen.contains p.born = true; have : seen.contains p.born = false := hns; rw [this]; simp) _ (hS1.setRaw hj _) _ (hs.put hd true _))
end rl
section pv
variable {P : Program} {C : World → Prop} {L : Env} {W : Bool} {d : Option Tmp} {ty : TypeId} {ps : String} {af : Array Edge} {gd : Option (Nat × Bool)} {w0 w : World} {M0 M : Mem} {Hs : List HO}
theorem PV.sentry {x : Operand} {i j b r c since : Nat} {seen : Array Nat} {l : List SV} {p : SV} (hS : St w0 M0 w M Hs) (hC : ∀ w', C w' → Ext w w') (hi : Hs[i]? = some (.raw b (smobj l c))) (hj : Hs[j]? = some (.raw r (.mapIter (some b) since (seen.push p.born) c))) (hx : Opd L W x (.pointer (some ⟨r, 0, none⟩)))
    (hp : p ∈ l) (hn : (l.map (·.born)).Nodup) : PV P C L W ⟨d, .entry x, ty, ps, af, gd⟩ (.tuple #[str p.key, p.val]) := by
  intro a N hs hW w' hw'
  have hS' := hS.ext (hC w' hw')
  have hb := (hS'.obj hi).2.1
  have hr := (hS'.obj hj).2.1
  have := run_entry_at (P := P) w' r b since seen ⟨l.map SV.ent⟩ c (SV.ent p) hr hb (List.mem_map.2 ⟨p, hp, rfl⟩) (by simpa [List.map_map, Function.comp_def, SV.ent] using hn)
  simp only [execOp, hx a N hs hW]; rw [Sem.run_bind, this]; rfl
theorem PV.slookup {t kt e : TypeId} {x y : Operand} {i b c : Nat} {l : List SV} {n : Str} {z v : Value} (hS : St w0 M0 w M Hs) (hC : ∀ w', C w' → Ext w w') (hi : Hs[i]? = some (.raw b (smobj l c))) (hx : Opd L W x (.map (some b))) (hy : Opd L W y (str n))
    (ht : P.underlying t = some (.map kt e)) (hk : P.underlying kt = some .string) (hz : ∀ w, (zeroValue e).run P w = .ok z w) (hv : (sget l n).getD z = v) : PV P C L W ⟨d, .lookup t x y false, ty, ps, af, gd⟩ v := by
  intro a N hs hW w' hw'
  have hb := ((hS.ext (hC w' hw')).obj hi).2.1
  have := run_slookup (P := P) (x := n) (ok := false) ht hk hz hb
  simp only [execOp, hx a N hs hW, hy a N hs hW]; rw [Sem.run_bind, this, ← hv]; rfl
theorem PV.slookupOk {t kt e : TypeId} {x y : Operand} {i b c : Nat} {l : List SV} {n : Str} {z v : Value} {q : Bool} (hS : St w0 M0 w M Hs) (hC : ∀ w', C w' → Ext w w') (hi : Hs[i]? = some (.raw b (smobj l c))) (hx : Opd L W x (.map (some b))) (hy : Opd L W y (str n))
    (ht : P.underlying t = some (.map kt e)) (hk : P.underlying kt = some .string) (hz : ∀ w, (zeroValue e).run P w = .ok z w) (hv : (sget l n).getD z = v) (hq : (sget l n).isSome = q) : PV P C L W ⟨d, .lookup t x y true, ty, ps, af, gd⟩ (.tuple #[v, .bool q]) := by
  intro a N hs hW w' hw'
  have hb := ((hS.ext (hC w' hw')).obj hi).2.1
  have := run_slookup (P := P) (x := n) (ok := true) ht hk hz hb
  simp only [execOp, hx a N hs hW, hy a N hs hW]; rw [Sem.run_bind, this, ← hv, ← hq]; rfl
end pv
end Go.Eng
namespace Go.Eng
open Go.RowKit

def MapV (M : Mem) : List SV → List (Str × Vl) → Prop
  | [], [] => True
  | p :: l, q :: m => p.key = q.1 ∧ (∃ h : SlH, p.val = h.v ∧ Sl M 6 q.2.length h.v (q.2.flatMap Nd.cells)) ∧ MapV M l m
  | _, _ => False
/-- Births: all before the clock, none twice. -/
def BornOK (l : List SV) (c : Nat) : Prop := (∀ p ∈ l, p.born < c) ∧ (l.map (·.born)).Nodup
theorem MapV.mono {M M' : Mem} (hm : M.le M') : ∀ {l : List SV} {m : List (Str × Vl)}, MapV M l m → MapV M' l m
  | [], [], _ => trivial
  | _ :: _, _ :: _, ⟨h1, ⟨h, h2, h3⟩, h4⟩ => ⟨h1, ⟨h, h2, h3.mono hm⟩, MapV.mono hm h4⟩
  | [], _ :: _, h => h.elim
  | _ :: _, [], h => h.elim
theorem sput_map {M : Mem} {n : Str} {x : Vl} {h : SlH} (hx : Sl M 6 x.length h.v (x.flatMap Nd.cells)) : ∀ {l : List SV} {m : List (Str × Vl)}, MapV M l m →
    (∃ l', sput l n h.v = some l' ∧ MapV M l' (putV m n x) ∧ l'.map (·.born) = l.map (·.born)) ∨ (sput l n h.v = none ∧ putV m n x = m ++ [(n, x)])
  | [], [], _ => .inr ⟨rfl, rfl⟩
  | [], _ :: _, h => h.elim
  | _ :: _, [], h => h.elim
  | p :: l, q :: m, ⟨h1, h2, h4⟩ => by
    unfold sput putV
    by_cases hk : (n == p.key) = true
    · rw [if_pos hk, if_pos (by rw [← h1]; exact hk)]
      exact .inl ⟨_, rfl, ⟨rfl, ⟨h, rfl, hx⟩, h4⟩, rfl⟩
    · rw [if_neg hk, if_neg (by rw [← h1]; exact hk)]
      rcases sput_map (n := n) hx h4 with ⟨l', e1, e2, e3⟩ | ⟨e1, e2⟩
      · exact .inl ⟨p :: l', by rw [e1]; rfl, ⟨h1, h2, e2⟩, by simp [e3]⟩
      · exact .inr ⟨by rw [e1]; rfl, by rw [e2]; rfl⟩
theorem MapV.snoc {M : Mem} {n : Str} {x : Vl} {h : SlH} {c : Nat} (hx : Sl M 6 x.length h.v (x.flatMap Nd.cells)) : ∀ {l : List SV} {m : List (Str × Vl)}, MapV M l m → MapV M (l ++ [⟨n, h.v, c⟩]) (m ++ [(n, x)])
  | [], [], _ => ⟨rfl, ⟨h, rfl, hx⟩, trivial⟩
  | [], _ :: _, h => h.elim
  | _ :: _, [], h => h.elim
  | _ :: _, _ :: _, ⟨h1, h2, h4⟩ => ⟨h1, h2, MapV.snoc hx h4⟩
theorem MapV.put {M : Mem} {n : Str} {x : Vl} {h : SlH} {c : Nat} {l : List SV} {m : List (Str × Vl)} (hm : MapV M l m) (hx : Sl M 6 x.length h.v (x.flatMap Nd.cells)) : MapV M (sset l c n h.v) (putV m n x) := by
  unfold sset
  rcases sput_map (n := n) hx hm with ⟨l', e1, e2, e3⟩ | ⟨e1, e2⟩
  · rw [e1]; exact e2
  · rw [e1, e2]; exact hm.snoc hx
theorem BornOK.put {M : Mem} {n : Str} {x : Vl} {h : SlH} {c : Nat} {l : List SV} {m : List (Str × Vl)} (hb : BornOK l c) (hm : MapV M l m) (hx : Sl M 6 x.length h.v (x.flatMap Nd.cells)) : BornOK (sset l c n h.v) (sclk l c n h.v) := by
  unfold sset sclk
  rcases sput_map (n := n) hx hm with ⟨l', e1, e2, e3⟩ | ⟨e1, e2⟩
  · rw [e1]
    refine ⟨fun p hp => ?_, by rw [e3]; exact hb.2⟩
    have : p.born ∈ l.map (·.born) := e3 ▸ List.mem_map.2 ⟨p, hp, rfl⟩
    obtain ⟨q, hq, e⟩ := List.mem_map.1 this
    dsimp only; rw [← e]; exact hb.1 q hq
  · rw [e1]
    refine ⟨fun p hp => ?_, ?_⟩
    · rcases List.mem_append.1 hp with hp | hp
      · have := hb.1 p hp; dsimp only; omega
      · simp only [List.mem_singleton] at hp; subst hp; dsimp only; omega
    · dsimp only
      rw [List.map_append, List.nodup_append]
      refine ⟨hb.2, by simp, fun a ha b hb' => ?_⟩
      obtain ⟨q, hq, rfl⟩ := List.mem_map.1 ha
      simp at hb'
      have := hb.1 q hq
      omega
theorem MapV.mem {M : Mem} {p : SV} : ∀ {l : List SV} {m : List (Str × Vl)}, MapV M l m → p ∈ l → ∃ pk ph pb px, p = ⟨pk, SlH.v ph, pb⟩ ∧ (pk, px) ∈ m ∧ Sl M 6 (List.length (α := Nd) px) ph.v (px.flatMap Nd.cells)
  | [], _, _, h => by cases h
  | _ :: _, [], h, _ => h.elim
  | q :: l, r :: m, ⟨h1, ⟨h, h2, h3⟩, h4⟩, hp => by
    rcases List.mem_cons.1 hp with rfl | hp
    · obtain ⟨k, v, b⟩ := p
      dsimp only at h1 h2
      subst h1; subst h2
      exact ⟨_, h, b, r.2, rfl, List.mem_cons_self, h3⟩
    · obtain ⟨pk, ph, pb, px, e1, e2, e3⟩ := MapV.mem h4 hp
      exact ⟨pk, ph, pb, px, e1, List.mem_cons_of_mem _ e2, e3⟩
/-- How many nodes all of the values have. -/
def mapN (m : List (Str × Vl)) : Int := len (m.map (·.2)).flatten
theorem putV_n (n : Str) (x : Vl) : ∀ m : List (Str × Vl), mapN (putV m n x) ≤ mapN m + len x ∧ len (putV m n x) ≤ len m + 1
  | [] => ⟨by simp [mapN, putV, len], by simp [putV, len]⟩
  | p :: m => by
    have ih := putV_n n x m
    unfold putV
    split
    · refine ⟨?_, by unfold len; simp only [List.length_cons]; omega⟩
      unfold mapN; simp only [List.map_cons, List.flatten_cons, len_app]; have := len_nonneg p.2; omega
    · unfold mapN at *; simp only [List.map_cons, List.flatten_cons, len_app, len_cons]; exact ⟨by omega, by omega⟩
end Go.Eng
namespace Go.Eng
open Go.RowKit

def KeysOK (m : List (Str × Vl)) : Prop := (m.map (·.1)).Nodup
theorem putV_keys (n : Str) (x : Vl) : ∀ m : List (Str × Vl), (n ∈ m.map (·.1) → (putV m n x).map (·.1) = m.map (·.1)) ∧ (n ∉ m.map (·.1) → (putV m n x).map (·.1) = m.map (·.1) ++ [n])
  | [] => ⟨fun h => (by cases h), fun _ => rfl⟩
  | p :: m => by
    have ih := putV_keys n x m
    by_cases h : n = p.1
    · refine ⟨fun _ => ?_, fun hn => absurd ?_ hn⟩
      · unfold putV; rw [if_pos (by simpa using h)]; simp [h]
      · simp [h]
    · have e : putV (p :: m) n x = p :: putV m n x := by rw [putV, if_neg (by simpa using h)]
      rw [e]
      refine ⟨fun hn => ?_, fun hn => ?_⟩
      · simp only [List.map_cons, List.mem_cons] at hn ⊢
        rcases hn with hn | hn
        · exact absurd hn h
        · rw [ih.1 hn]
      · simp only [List.map_cons, List.mem_cons, not_or] at hn ⊢
        rw [ih.2 hn.2]; rfl
theorem KeysOK.put {m : List (Str × Vl)} (h : KeysOK m) (n : Str) (x : Vl) : KeysOK (putV m n x) := by
  unfold KeysOK at *
  by_cases hn : n ∈ m.map (·.1)
  · rw [(putV_keys n x m).1 hn]; exact h
  · rw [(putV_keys n x m).2 hn, List.nodup_append]
    refine ⟨h, by simp, fun a ha b hb => ?_⟩
    simp only [List.mem_singleton] at hb
    subst hb; intro e; subst e; exact hn ha
/-- Pairs of distinct keys within a map, as many as it has: the map, in some order. -/
theorem perm_of_sub {ps : List (Str × Vl)} : ∀ {m : List (Str × Vl)}, (ps.map (·.1)).Nodup → (∀ p ∈ ps, p ∈ m) → ps.length = m.length → ps.Perm m := by
  induction ps with
  | nil =>
    intro m _ _ hl
    have hm : m = [] := List.eq_nil_of_length_eq_zero (by simpa using hl.symm)
    subst hm; exact List.Perm.refl _
  | cons p ps ih =>
    intro m hk hs hl
    rw [List.map_cons, List.nodup_cons] at hk
    have hp := hs p List.mem_cons_self
    have h1 : ps.Perm (m.erase p) := ih hk.2 (fun q hq => (List.mem_erase_of_ne (fun e => hk.1 (List.mem_map.2 ⟨q, hq, by rw [e]⟩))).2 (hs q (List.mem_cons_of_mem _ hq))) (by rw [List.length_erase_of_mem hp]; simp only [List.length_cons] at hl; omega)
    exact (h1.cons p).trans (List.perm_cons_erase hp).symm
theorem getV_of_mem {m : List (Str × Vl)} (h : KeysOK m) {p : Str × Vl} (hp : p ∈ m) : getV m p.1 = some p.2 := by
  induction m with
  | nil => cases hp
  | cons q m ih =>
    unfold KeysOK at h
    rw [List.map_cons, List.nodup_cons] at h
    unfold getV
    rcases List.mem_cons.1 hp with rfl | hp
    · simp
    · have hne : ¬ (p.1 == q.1) = true := by
        intro e
        exact h.1 (List.mem_map.2 ⟨p, hp, by simpa using e⟩)
      rw [if_neg hne]; exact ih h.2 hp
theorem pairT_keys {s : Str} {i : Int} {val : Int → PR Vl} {m x : List (Str × Vl)} {j : Int} (hk : KeysOK m) (h : pairT s i val m = .ok x j) : KeysOK x := by
  unfold pairT at h
  split at h
  · cases h
  · split at h
    · rename_i n q _ _
      unfold mapR at h
      split at h
      · cases h
      · cases h; exact hk.put n _
    · cases h
theorem str_total (a b : Str) : (decide (a ≤ b) || decide (b ≤ a)) = true := by
  rcases Classical.em (a ≤ b) with h | h
  · simp [h]
  · simp [List.le_of_lt (List.not_le.1 h)]
theorem str_trans (a b c : Str) (h1 : decide (a ≤ b) = true) (h2 : decide (b ≤ c) = true) : decide (a ≤ c) = true := by
  simp only [decide_eq_true_eq] at *; exact List.le_trans h1 h2
theorem sortN_perm {a b : List Str} (h : a.Perm b) : sortN a = sortN b := by
  unfold sortN
  refine List.Perm.eq_of_pairwise (le := fun x y => decide (x ≤ y) = true) (fun x y _ _ h1 h2 => ?_) (List.pairwise_mergeSort str_trans str_total _) (List.pairwise_mergeSort str_trans str_total _) (((List.mergeSort_perm _ _).trans h).trans (List.mergeSort_perm _ _).symm)
  simp only [decide_eq_true_eq] at h1 h2
  exact List.le_antisymm h1 h2
/-- An object does not hang on the order in which a map is ranged over. -/
theorem objV_perm {ps m : List (Str × Vl)} (h : ps.Perm m) (hk : KeysOK m) : objV ps = objV m := by
  have hkp : KeysOK ps := (List.Perm.map (fun p : Str × Vl => p.1) h).symm.nodup hk
  unfold objV
  rw [sortN_perm (h.map (·.1))]
  congr 1
  refine List.map_congr_left fun n hn => ?_
  have hn' : n ∈ m.map (·.1) := (List.mergeSort_perm _ _).mem_iff.1 hn
  obtain ⟨q, hq, rfl⟩ := List.mem_map.1 hn'
  rw [getV_of_mem hk hq, getV_of_mem hkp (h.mem_iff.2 hq)]
end Go.Eng
