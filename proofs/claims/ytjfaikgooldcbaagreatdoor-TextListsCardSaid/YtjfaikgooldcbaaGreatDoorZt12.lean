/-
  THE ENGINE, PART 14: maps whose keys are strings: as those of integers (EngG), text for text. Over any program.
  A map from texts to slices, against the pairs that it holds. No program in it.
  A map ranged over: what has been visited; a map's keys. No program in it.
  What is unquoted is valid UTF-8. No program in it. (The same lemmas stand in XBack.)
  What val.Object does with a map: plain laws. No program in it.
  The reference's values: named, Object.
-/
import Derived.Test.YtjfaikgooldcbaaGreatDoorZt4
import Derived.Test.YtjfaikgooldcbaaGreatDoorZt11
import Derived.Lib.ValidLaws
set_option linter.unusedVariables false
set_option linter.unusedSimpArgs false
namespace Go.Eng
open Go.RowKit

structure SV where
  key : Str
  val : Value
  born : Nat
def SV.ent (p : SV) : MapEntry := { key := str p.key, val := p.val, born := p.born }
def smobj (l : List SV) (clock : Nat) : Obj := .map ⟨l.map SV.ent⟩ clock
def sget : List SV → Str → Option Value
  | [], _ => none
  | p :: l, x => if x == p.key then some p.val else sget l x
def sput : List SV → Str → Value → Option (List SV)
  | [], _, _ => none
  | p :: l, x, v => if x == p.key then some (⟨x, v, p.born⟩ :: l) else (sput l x v).map (p :: ·)
def sset (l : List SV) (c : Nat) (x : Str) (v : Value) : List SV := match sput l x v with | some l' => l' | none => l ++ [⟨x, v, c⟩]
def sclk (l : List SV) (c : Nat) (x : Str) (v : Value) : Nat := match sput l x v with | some _ => c | none => c + 1
def sfind : List SV → Str → Nat → Option (Nat × Value)
  | [], _, _ => none
  | p :: l, x, i => if x == p.key then some (i, p.val) else sfind l x (i + 1)
theorem str_beq (x y : Str) : ((⟨⟨x⟩⟩ : ByteArray) == ⟨⟨y⟩⟩) = (x == y) := by
  show ((⟨x⟩ : Array UInt8) == ⟨y⟩) = (x == y)
  simp
theorem findNow_sent (x : Str) : ∀ (l : List SV) (i : Nat), Instr.findNow .string (str x) (l.map SV.ent) i = some (sfind l x i)
  | [], _ => rfl
  | p :: l, i => by
    simp only [List.map_cons, Instr.findNow, SV.ent, Instr.sameNow, sfind, str_beq]
    by_cases h : (x == p.key) = true
    · rw [h]; rfl
    · rw [Bool.not_eq_true] at h; rw [h]; exact findNow_sent x l (i + 1)
theorem sfind_get (x : Str) : ∀ (l : List SV) (i : Nat), (sfind l x i).map (·.2) = sget l x
  | [], _ => rfl
  | p :: l, i => by
    simp only [sfind, sget]; split
    · rfl
    · exact sfind_get x l (i + 1)
theorem sfind_put (x : Str) (v : Value) : ∀ (l : List SV) (i : Nat), (sfind l x i = none ∧ sput l x v = none) ∨ ∃ j u p l', sfind l x i = some (i + j, u) ∧ l[j]? = some p ∧ x = p.key ∧ sput l x v = some l' ∧ l' = l.modify j (fun p => ⟨x, v, p.born⟩)
  | [], _ => .inl ⟨rfl, rfl⟩
  | p :: l, i => by
    by_cases h : (x == p.key) = true
    · refine .inr ⟨0, p.val, p, ⟨x, v, p.born⟩ :: l, ?_, rfl, by simpa using h, ?_, by simp⟩
      · simp only [sfind, h, if_true]; rfl
      · simp only [sput, h, if_true]
    · rcases sfind_put x v l (i + 1) with ⟨h1, h2⟩ | ⟨j, u, q, l', h1, h2, h3, h4, h5⟩
      · refine .inl ⟨?_, ?_⟩
        · simp only [sfind, h]; exact h1
        · simp only [sput, h, h2]; rfl
      · refine .inr ⟨j + 1, u, q, p :: l', ?_, by simpa using h2, h3, ?_, ?_⟩
        · simp only [sfind, h]; rw [show i + (j + 1) = i + 1 + j from by omega]; exact h1
        · simp only [sput, h, h4]; rfl
        · subst h5; simp
theorem run_scheckKey {P : Program} {t : TypeId} (h : P.underlying t = some .string) (b : Bool) (x : Str) (w : World) : (Instr.checkKey b 10000 t (str x)).run P w = .ok () w := by
  show (Instr.checkKey b (9999 + 1) t (str x)).run P w = .ok () w
  unfold Instr.checkKey
  rw [Sem.run_bind, run_underlying h]; rfl
theorem run_sfindKey {P : Program} {t : TypeId} (h : P.underlying t = some .string) (x : Str) (l : List SV) (w : World) : (Instr.findKey t (str x) (l.map SV.ent)).run P w = .ok (sfind l x 0) w := by
  simp only [Instr.findKey, Sem.run_bind, run_underlying h, Result.andThen_ok, findNow_sent]; rfl
theorem run_sgetMap {P : Program} {w : World} {b : Nat} {l : List SV} {c : Nat} (h : w.heap[b]? = some (smobj l c)) : (getObj b).run P w = .ok (smobj l c) w := by
  simp [getObj, Sem.run, h, smobj]
theorem run_ssetMap {P : Program} {w : World} {b : Nat} {l : List SV} {c : Nat} (h : w.heap[b]? = some (smobj l c)) (o' : Obj) : (setObj b o').run P w = .ok () (setObjAt w b o') := by
  simp [setObj, Sem.run, h, setObjAt, smobj]

theorem run_slookup {P : Program} {w : World} {b : Nat} {l : List SV} {c : Nat} {t kt e : TypeId} {z : Value} {x : Str} {ok : Bool} (ht : P.underlying t = some (.map kt e)) (hk : P.underlying kt = some .string) (hz : ∀ w, (zeroValue e).run P w = .ok z w)
    (h : w.heap[b]? = some (smobj l c)) : (Instr.lookup t (.map (some b)) (str x) ok).run P w = .ok (if ok then .tuple #[(sget l x).getD z, .bool (sget l x).isSome] else (sget l x).getD z) w := by
  simp only [Instr.lookup, Sem.run_bind, run_underlying ht, Result.andThen_ok, run_sgetMap h, smobj, Sem.run_pure, run_scheckKey hk, run_sfindKey hk]
  have hg := sfind_get x l 0
  cases hf : sfind l x 0 with
  | none => rw [hf] at hg; rw [← hg]; simp [Sem.run_bind, hz]
  | some q => rw [hf] at hg; rw [← hg]; simp
theorem run_skeyStays {P : Program} {w : World} (x : Str) : (Instr.keyThatStays (str x) (str x)).run P w = .ok (str x) w := by
  unfold Instr.keyThatStays
  rw [show Instr.sameBits 10000 (str x) (str x) = true from by simp [Instr.sameBits, str_beq]]; rfl
theorem run_smapUpdate {P : Program} {w : World} {b : Nat} {l : List SV} {c : Nat} {t kt e : TypeId} {x : Str} {v : Value} (ht : P.underlying t = some (.map kt e)) (hk : P.underlying kt = some .string)
    (h : w.heap[b]? = some (smobj l c)) : (Instr.mapUpdate t (.map (some b)) (str x) v).run P w = .ok () (setObjAt w b (smobj (sset l c x v) (sclk l c x v))) := by
  simp only [Instr.mapUpdate, Sem.run_bind, run_underlying ht, Result.andThen_ok, run_sgetMap h, smobj, run_scheckKey hk, run_sfindKey hk]
  rcases sfind_put x v l 0 with ⟨h1, h2⟩ | ⟨j, u, p, l', h1, h2, h3, h4, h5⟩
  · rw [h1]
    simp only [sset, sclk, h2]
    rw [run_ssetMap h]; simp [SV.ent]
  · rw [h1]
    have e1 : ((l.map SV.ent).toArray[0 + j]?) = some (SV.ent p) := by simp [h2]
    have e2 : (Array.mk (l.map SV.ent))[0 + j]? = some (SV.ent p) := e1
    simp only [Sem.run_bind, e2, Option.map_some, Option.getD_some]
    rw [show (SV.ent p).key = str x from by rw [h3]; rfl, run_skeyStays]
    simp only [Result.andThen_ok, sset, sclk, h4]
    rw [run_ssetMap h]
    congr 3
    subst h5
    rw [Nat.zero_add]
    apply Array.ext'
    rw [Array.toList_modify]
    exact map_modify' SV.ent _ _ (fun x => rfl) l j

section rl
variable {P : Program} {ops : Array Oper} {Q : Exit → Act → World → Prop} {N : Nat} {rest : List Oper} {L : Env} {w0 w : World} {M0 M : Mem} {Hs : List HO} {d : Nat} {ty : TypeId} {ps : String} {af : Array Edge}
theorem RL.smakeMap {t : TypeId} (hS : St w0 M0 w M Hs) (hd : Nat.blt d N = true)
    (h : ∀ w' b, St w0 M0 w' M (.raw b (smobj [] 0) :: Hs) → RL P ops Q N rest ((d, true, .map (some b)) :: L) w') : RL P ops Q N (⟨some d, .makeMap t none, ty, ps, af, none⟩ :: rest) L w := by
  intro a hs
  refine wpList_plain rfl fun K hK => ?_
  have key : (execOp a.eval ⟨some d, .makeMap t none, ty, ps, af, none⟩).run P w = .ok (.value (.map (some w.heap.size))) (w.alloc (.map #[] 0)) := rfl
  simp only [Oper.wp, key, Oper.upon_value]
  exact hK _ _ (h _ _ (hS.newRaw (smobj [] 0)) _ (hs.put hd true _))
theorem RL.smapUpdate {t kt e : TypeId} {m x y : Operand} {i b c c' : Nat} {l l' : List SV} {n : Str} {v : Value} {Hs' : List HO} (ins : Bool) (hS : St w0 M0 w M Hs) (hi : Hs[i]? = some (.raw b (smobj l c))) (hm : Opd L true m (.map (some b))) (hx : Opd L true x (str n)) (hy : Opd L true y v)
    (ht : P.underlying t = some (.map kt e)) (hk : P.underlying kt = some .string) (hl : sset l c n v = l') (hc : sclk l c n v = c') (hHs : Hs.set i (.raw b (smobj l' c')) = Hs')
    (h : ∀ w', St w0 M0 w' M Hs' → RL P ops Q N rest L w') : RL P ops Q N (⟨none, if ins then .insert t m x y else .mapUpdate t m x y, ty, ps, af, none⟩ :: rest) L w := by
  intro a hs
  refine wpList_plain rfl fun K hK => ?_
  have hb := (hS.obj hi).2.1
  have key : (execOp a.eval ⟨none, if ins then .insert t m x y else .mapUpdate t m x y, ty, ps, af, none⟩).run P w = .ok .skip (setObjAt w b (smobj l' c')) := by
    have := run_smapUpdate (P := P) (x := n) (v := v) ht hk hb
    cases ins <;> simp only [execOp, hm a N hs rfl, hx a N hs rfl, hy a N hs rfl, Bool.false_eq_true, if_true, if_false] <;> rw [Sem.run_bind, this, hl, hc] <;> rfl
  simp only [Oper.wp, key, Oper.upon_skip]
  exact hK _ _ (h _ (hHs ▸ hS.setRaw hi _) _ hs)
theorem RL.srangeM {t kt e : TypeId} {x : Operand} {i b c : Nat} {l : List SV} (hS : St w0 M0 w M Hs) (hi : Hs[i]? = some (.raw b (smobj l c))) (hx : Opd L true x (.map (some b))) (ht : P.underlying t = some (.map kt e)) (hd : Nat.blt d N = true)
    (h : ∀ w' r, St w0 M0 w' M (.raw r (.mapIter (some b) c #[] c) :: Hs) → RL P ops Q N rest ((d, true, .pointer (some ⟨r, 0, none⟩)) :: L) w') : RL P ops Q N (⟨some d, .range t x, ty, ps, af, none⟩ :: rest) L w := by
  intro a hs
  refine wpList_plain rfl fun K hK => ?_
  have hb := (hS.obj hi).2.1
  have key : (execOp a.eval ⟨some d, .range t x, ty, ps, af, none⟩).run P w = .ok (.value (.pointer (some ⟨w.heap.size, 0, none⟩))) (w.alloc (.mapIter (some b) c #[] c)) := by
    simp only [execOp, hx a N hs rfl]; rw [Sem.run_bind, run_range_map w t kt e b _ _ ht hb]; rfl
  simp only [Oper.wp, key, Oper.upon_value]
  exact hK _ _ (h _ _ (hS.newRaw _) _ (hs.put hd true _))
/-- The next entry, whichever it is. -/
theorem RL.snextM {x : Operand} {i j b r c since c0 : Nat} {seen : Array Nat} {l : List SV} (hS : St w0 M0 w M Hs) (hi : Hs[i]? = some (.raw b (smobj l c))) (hj : Hs[j]? = some (.raw r (.mapIter (some b) since seen c0))) (hx : Opd L true x (.pointer (some ⟨r, 0, none⟩)))
    (hold : ∀ p ∈ l, p.born < since) (hsc : since ≤ c0) (hd : Nat.blt d N = true)
    (h1 : ∀ p ∈ l, ¬ seen.contains p.born = true → ∀ w', St w0 M0 w' M (Hs.set j (.raw r (.mapIter (some b) since (seen.push p.born) c))) → RL P ops Q N rest ((d, true, .tuple #[.bool true, str p.key, p.val]) :: L) w')
    (h2 : (∀ p ∈ l, seen.contains p.born = true) → RL P ops Q N rest ((d, true, .tuple #[.bool false]) :: L) w) : RL P ops Q N (⟨some d, .next x false, ty, ps, af, none⟩ :: rest) L w := by
  intro a hs
  refine wpList_plain rfl fun K hK => ?_
  have hb := (hS.obj hi).2.1
  have hr := (hS.obj hj).2.1
  rcases run_next_at (P := P) w ty r b since c0 seen ⟨l.map SV.ent⟩ c hr hb (by intro x hx; simp only [List.mem_map] at hx; obtain ⟨p, hp, rfl⟩ := hx; exact hold p hp) hsc with ⟨he, hrun⟩ | ⟨en, hen, w1, hw1, hrun⟩
  · have key : (execOp a.eval ⟨some d, .next x false, ty, ps, af, none⟩).run P w = .ok (.value (.tuple #[.bool false])) w := by
      simp only [execOp, hx a N hs rfl]; rw [Sem.run_bind, hrun]; rfl
    simp only [Oper.wp, key, Oper.upon_value]
    refine hK _ _ (h2 ?_ _ (hs.put hd true _))
    intro p hp
    by_cases hc : seen.contains p.born = true
    · exact hc
    · exfalso
      have : (leftOf ⟨l.map SV.ent⟩ seen).size = 0 := he
      unfold leftOf at this
      rw [Array.size_eq_zero_iff, Array.filter_eq_empty_iff] at this
      have := this (SV.ent p) (by simp only [List.mem_toArray, Array.mem_def, List.mem_map]; exact ⟨p, hp, rfl⟩)
      apply this; show (!seen.contains p.born) = true
      simpa using hc
  · unfold leftOf at hen
    simp only [Array.toList_filter, List.mem_filter, List.mem_map, Bool.not_eq_true'] at hen
    obtain ⟨⟨p, hp, rfl⟩, hns⟩ := hen
    have key : (execOp a.eval ⟨some d, .next x false, ty, ps, af, none⟩).run P w = .ok (.value (.tuple #[.bool true, str p.key, p.val])) (setObjAt w1 r (.mapIter (some b) since (seen.push p.born) c)) := by
      simp only [execOp, hx a N hs rfl]; rw [Sem.run_bind, hrun]; rfl
    simp only [Oper.wp, key, Oper.upon_value]
    have hS1 : St w0 M0 w1 M Hs := by rcases hw1 with rfl | rfl; exact hS; exact hS.ext (Ext.drew _)
    exact hK _ _ (h1 p hp (by show ¬ seen.contains p.born = true; have : seen.contains p.born = false := hns; rw [this]; simp) _ (hS1.setRaw hj _) _ (hs.put hd true _))
end rl
section pv
variable {P : Program} {C : World → Prop} {L : Env} {W : Bool} {d : Option Tmp} {ty : TypeId} {ps : String} {af : Array Edge} {gd : Option (Nat × Bool)} {w0 w : World} {M0 M : Mem} {Hs : List HO}
theorem PV.sentry {x : Operand} {i j b r c since : Nat} {seen : Array Nat} {l : List SV} {p : SV} (hS : St w0 M0 w M Hs) (hC : ∀ w', C w' → Ext w w') (hi : Hs[i]? = some (.raw b (smobj l c))) (hj : Hs[j]? = some (.raw r (.mapIter (some b) since (seen.push p.born) c))) (hx : Opd L W x (.pointer (some ⟨r, 0, none⟩)))
    (hp : p ∈ l) (hn : (l.map (·.born)).Nodup) : PV P C L W ⟨d, .entry x, ty, ps, af, gd⟩ (.tuple #[str p.key, p.val]) := by
  intro a N hs hW w' hw'
  have hS' := hS.ext (hC w' hw')
  have hb := (hS'.obj hi).2.1
  have hr := (hS'.obj hj).2.1
  have := run_entry_at (P := P) w' r b since seen ⟨l.map SV.ent⟩ c (SV.ent p) hr hb (List.mem_map.2 ⟨p, hp, rfl⟩) (by simpa [List.map_map, Function.comp_def, SV.ent] using hn)
  simp only [execOp, hx a N hs hW]; rw [Sem.run_bind, this]; rfl
theorem PV.slookup {t kt e : TypeId} {x y : Operand} {i b c : Nat} {l : List SV} {n : Str} {z v : Value} (hS : St w0 M0 w M Hs) (hC : ∀ w', C w' → Ext w w') (hi : Hs[i]? = some (.raw b (smobj l c))) (hx : Opd L W x (.map (some b))) (hy : Opd L W y (str n))
    (ht : P.underlying t = some (.map kt e)) (hk : P.underlying kt = some .string) (hz : ∀ w, (zeroValue e).run P w = .ok z w) (hv : (sget l n).getD z = v) : PV P C L W ⟨d, .lookup t x y false, ty, ps, af, gd⟩ v := by
  intro a N hs hW w' hw'
  have hb := ((hS.ext (hC w' hw')).obj hi).2.1
  have := run_slookup (P := P) (x := n) (ok := false) ht hk hz hb
  simp only [execOp, hx a N hs hW, hy a N hs hW]; rw [Sem.run_bind, this, ← hv]; rfl
theorem PV.slookupOk {t kt e : TypeId} {x y : Operand} {i b c : Nat} {l : List SV} {n : Str} {z v : Value} {q : Bool} (hS : St w0 M0 w M Hs) (hC : ∀ w', C w' → Ext w w') (hi : Hs[i]? = some (.raw b (smobj l c))) (hx : Opd L W x (.map (some b))) (hy : Opd L W y (str n))
    (ht : P.underlying t = some (.map kt e)) (hk : P.underlying kt = some .string) (hz : ∀ w, (zeroValue e).run P w = .ok z w) (hv : (sget l n).getD z = v) (hq : (sget l n).isSome = q) : PV P C L W ⟨d, .lookup t x y true, ty, ps, af, gd⟩ (.tuple #[v, .bool q]) := by
  intro a N hs hW w' hw'
  have hb := ((hS.ext (hC w' hw')).obj hi).2.1
  have := run_slookup (P := P) (x := n) (ok := true) ht hk hz hb
  simp only [execOp, hx a N hs hW, hy a N hs hW]; rw [Sem.run_bind, this, ← hv, ← hq]; rfl
end pv
end Go.Eng
namespace Go.Eng
open Go.RowKit

def MapV (M : Mem) : List SV → List (Str × Vl) → Prop
  | [], [] => True
  | p :: l, q :: m => p.key = q.1 ∧ (∃ h : SlH, p.val = h.v ∧ Sl M 6 q.2.length h.v (q.2.flatMap Nd.cells)) ∧ MapV M l m
  | _, _ => False
/-- Births: all before the clock, none twice. -/
def BornOK (l : List SV) (c : Nat) : Prop := (∀ p ∈ l, p.born < c) ∧ (l.map (·.born)).Nodup
theorem MapV.mono {M M' : Mem} (hm : M.le M') : ∀ {l : List SV} {m : List (Str × Vl)}, MapV M l m → MapV M' l m
  | [], [], _ => trivial
  | _ :: _, _ :: _, ⟨h1, ⟨h, h2, h3⟩, h4⟩ => ⟨h1, ⟨h, h2, h3.mono hm⟩, MapV.mono hm h4⟩
  | [], _ :: _, h => h.elim
  | _ :: _, [], h => h.elim
theorem sput_map {M : Mem} {n : Str} {x : Vl} {h : SlH} (hx : Sl M 6 x.length h.v (x.flatMap Nd.cells)) : ∀ {l : List SV} {m : List (Str × Vl)}, MapV M l m →
    (∃ l', sput l n h.v = some l' ∧ MapV M l' (putV m n x) ∧ l'.map (·.born) = l.map (·.born)) ∨ (sput l n h.v = none ∧ putV m n x = m ++ [(n, x)])
  | [], [], _ => .inr ⟨rfl, rfl⟩
  | [], _ :: _, h => h.elim
  | _ :: _, [], h => h.elim
  | p :: l, q :: m, ⟨h1, h2, h4⟩ => by
    unfold sput putV
    by_cases hk : (n == p.key) = true
    · rw [if_pos hk, if_pos (by rw [← h1]; exact hk)]
      exact .inl ⟨_, rfl, ⟨rfl, ⟨h, rfl, hx⟩, h4⟩, rfl⟩
    · rw [if_neg hk, if_neg (by rw [← h1]; exact hk)]
      rcases sput_map (n := n) hx h4 with ⟨l', e1, e2, e3⟩ | ⟨e1, e2⟩
      · exact .inl ⟨p :: l', by rw [e1]; rfl, ⟨h1, h2, e2⟩, by simp [e3]⟩
      · exact .inr ⟨by rw [e1]; rfl, by rw [e2]; rfl⟩
theorem MapV.snoc {M : Mem} {n : Str} {x : Vl} {h : SlH} {c : Nat} (hx : Sl M 6 x.length h.v (x.flatMap Nd.cells)) : ∀ {l : List SV} {m : List (Str × Vl)}, MapV M l m → MapV M (l ++ [⟨n, h.v, c⟩]) (m ++ [(n, x)])
  | [], [], _ => ⟨rfl, ⟨h, rfl, hx⟩, trivial⟩
  | [], _ :: _, h => h.elim
  | _ :: _, [], h => h.elim
  | _ :: _, _ :: _, ⟨h1, h2, h4⟩ => ⟨h1, h2, MapV.snoc hx h4⟩
theorem MapV.put {M : Mem} {n : Str} {x : Vl} {h : SlH} {c : Nat} {l : List SV} {m : List (Str × Vl)} (hm : MapV M l m) (hx : Sl M 6 x.length h.v (x.flatMap Nd.cells)) : MapV M (sset l c n h.v) (putV m n x) := by
  unfold sset
  rcases sput_map (n := n) hx hm with ⟨l', e1, e2, e3⟩ | ⟨e1, e2⟩
  · rw [e1]; exact e2
  · rw [e1, e2]; exact hm.snoc hx
theorem BornOK.put {M : Mem} {n : Str} {x : Vl} {h : SlH} {c : Nat} {l : List SV} {m : List (Str × Vl)} (hb : BornOK l c) (hm : MapV M l m) (hx : Sl M 6 x.length h.v (x.flatMap Nd.cells)) : BornOK (sset l c n h.v) (sclk l c n h.v) := by
  unfold sset sclk
  rcases sput_map (n := n) hx hm with ⟨l', e1, e2, e3⟩ | ⟨e1, e2⟩
  · rw [e1]
    refine ⟨fun p hp => ?_, by rw [e3]; exact hb.2⟩
    have : p.born ∈ l.map (·.born) := e3 ▸ List.mem_map.2 ⟨p, hp, rfl⟩
    obtain ⟨q, hq, e⟩ := List.mem_map.1 this
    dsimp only; rw [← e]; exact hb.1 q hq
  · rw [e1]
    refine ⟨fun p hp => ?_, ?_⟩
    · rcases List.mem_append.1 hp with hp | hp
      · have := hb.1 p hp; dsimp only; omega
      · simp only [List.mem_singleton] at hp; subst hp; dsimp only; omega
    · dsimp only
      rw [List.map_append, List.nodup_append]
      refine ⟨hb.2, by simp, fun a ha b hb' => ?_⟩
      obtain ⟨q, hq, rfl⟩ := List.mem_map.1 ha
      simp at hb'
      have := hb.1 q hq
      omega
theorem MapV.mem {M : Mem} {p : SV} : ∀ {l : List SV} {m : List (Str × Vl)}, MapV M l m → p ∈ l → ∃ pk ph pb px, p = ⟨pk, SlH.v ph, pb⟩ ∧ (pk, px) ∈ m ∧ Sl M 6 (List.length (α := Nd) px) ph.v (px.flatMap Nd.cells)
  | [], _, _, h => by cases h
  | _ :: _, [], h, _ => h.elim
  | q :: l, r :: m, ⟨h1, ⟨h, h2, h3⟩, h4⟩, hp => by
    rcases List.mem_cons.1 hp with rfl | hp
    · obtain ⟨k, v, b⟩ := p
      dsimp only at h1 h2
      subst h1; subst h2
      exact ⟨_, h, b, r.2, rfl, List.mem_cons_self, h3⟩
    · obtain ⟨pk, ph, pb, px, e1, e2, e3⟩ := MapV.mem h4 hp
      exact ⟨pk, ph, pb, px, e1, List.mem_cons_of_mem _ e2, e3⟩
/-- How many nodes all of the values have. -/
def mapN (m : List (Str × Vl)) : Int := len (m.map (·.2)).flatten
theorem putV_n (n : Str) (x : Vl) : ∀ m : List (Str × Vl), mapN (putV m n x) ≤ mapN m + len x ∧ len (putV m n x) ≤ len m + 1
  | [] => ⟨by simp [mapN, putV, len], by simp [putV, len]⟩
  | p :: m => by
    have ih := putV_n n x m
    unfold putV
    split
    · refine ⟨?_, by unfold len; simp only [List.length_cons]; omega⟩
      unfold mapN; simp only [List.map_cons, List.flatten_cons, len_app]; have := len_nonneg p.2; omega
    · unfold mapN at *; simp only [List.map_cons, List.flatten_cons, len_app, len_cons]; exact ⟨by omega, by omega⟩
end Go.Eng
namespace Go.Eng
open Go.RowKit

def KeysOK (m : List (Str × Vl)) : Prop := (m.map (·.1)).Nodup
theorem putV_keys (n : Str) (x : Vl) : ∀ m : List (Str × Vl), (n ∈ m.map (·.1) → (putV m n x).map (·.1) = m.map (·.1)) ∧ (n ∉ m.map (·.1) → (putV m n x).map (·.1) = m.map (·.1) ++ [n])
  | [] => ⟨fun h => (by cases h), fun _ => rfl⟩
  | p :: m => by
    have ih := putV_keys n x m
    by_cases h : n = p.1
    · refine ⟨fun _ => ?_, fun hn => absurd ?_ hn⟩
      · unfold putV; rw [if_pos (by simpa using h)]; simp [h]
      · simp [h]
    · have e : putV (p :: m) n x = p :: putV m n x := by rw [putV, if_neg (by simpa using h)]
      rw [e]
      refine ⟨fun hn => ?_, fun hn => ?_⟩
      · simp only [List.map_cons, List.mem_cons] at hn ⊢
        rcases hn with hn | hn
        · exact absurd hn h
        · rw [ih.1 hn]
      · simp only [List.map_cons, List.mem_cons, not_or] at hn ⊢
        rw [ih.2 hn.2]; rfl
theorem KeysOK.put {m : List (Str × Vl)} (h : KeysOK m) (n : Str) (x : Vl) : KeysOK (putV m n x) := by
  unfold KeysOK at *
  by_cases hn : n ∈ m.map (·.1)
  · rw [(putV_keys n x m).1 hn]; exact h
  · rw [(putV_keys n x m).2 hn, List.nodup_append]
    refine ⟨h, by simp, fun a ha b hb => ?_⟩
    simp only [List.mem_singleton] at hb
    subst hb; intro e; subst e; exact hn ha
/-- Pairs of distinct keys within a map, as many as it has: the map, in some order. -/
theorem perm_of_sub {ps : List (Str × Vl)} : ∀ {m : List (Str × Vl)}, (ps.map (·.1)).Nodup → (∀ p ∈ ps, p ∈ m) → ps.length = m.length → ps.Perm m := by
  induction ps with
  | nil =>
    intro m _ _ hl
    have hm : m = [] := List.eq_nil_of_length_eq_zero (by simpa using hl.symm)
    subst hm; exact List.Perm.refl _
  | cons p ps ih =>
    intro m hk hs hl
    rw [List.map_cons, List.nodup_cons] at hk
    have hp := hs p List.mem_cons_self
    have h1 : ps.Perm (m.erase p) := ih hk.2 (fun q hq => (List.mem_erase_of_ne (fun e => hk.1 (List.mem_map.2 ⟨q, hq, by rw [e]⟩))).2 (hs q (List.mem_cons_of_mem _ hq))) (by rw [List.length_erase_of_mem hp]; simp only [List.length_cons] at hl; omega)
    exact (h1.cons p).trans (List.perm_cons_erase hp).symm
theorem getV_of_mem {m : List (Str × Vl)} (h : KeysOK m) {p : Str × Vl} (hp : p ∈ m) : getV m p.1 = some p.2 := by
  induction m with
  | nil => cases hp
  | cons q m ih =>
    unfold KeysOK at h
    rw [List.map_cons, List.nodup_cons] at h
    unfold getV
    rcases List.mem_cons.1 hp with rfl | hp
    · simp
    · have hne : ¬ (p.1 == q.1) = true := by
        intro e
        exact h.1 (List.mem_map.2 ⟨p, hp, by simpa using e⟩)
      rw [if_neg hne]; exact ih h.2 hp
theorem pairT_keys {s : Str} {i : Int} {val : Int → PR Vl} {m x : List (Str × Vl)} {j : Int} (hk : KeysOK m) (h : pairT s i val m = .ok x j) : KeysOK x := by
  unfold pairT at h
  split at h
  · cases h
  · split at h
    · rename_i n q _ _
      unfold mapR at h
      split at h
      · cases h
      · cases h; exact hk.put n _
    · cases h
theorem str_total (a b : Str) : (decide (a ≤ b) || decide (b ≤ a)) = true := by
  rcases Classical.em (a ≤ b) with h | h
  · simp [h]
  · simp [List.le_of_lt (List.not_le.1 h)]
theorem str_trans (a b c : Str) (h1 : decide (a ≤ b) = true) (h2 : decide (b ≤ c) = true) : decide (a ≤ c) = true := by
  simp only [decide_eq_true_eq] at *; exact List.le_trans h1 h2
theorem sortN_perm {a b : List Str} (h : a.Perm b) : sortN a = sortN b := by
  unfold sortN
  refine List.Perm.eq_of_pairwise (le := fun x y => decide (x ≤ y) = true) (fun x y _ _ h1 h2 => ?_) (List.pairwise_mergeSort str_trans str_total _) (List.pairwise_mergeSort str_trans str_total _) (((List.mergeSort_perm _ _).trans h).trans (List.mergeSort_perm _ _).symm)
  simp only [decide_eq_true_eq] at h1 h2
  exact List.le_antisymm h1 h2
/-- An object does not hang on the order in which a map is ranged over. -/
theorem objV_perm {ps m : List (Str × Vl)} (h : ps.Perm m) (hk : KeysOK m) : objV ps = objV m := by
  have hkp : KeysOK ps := (List.Perm.map (fun p : Str × Vl => p.1) h).symm.nodup hk
  unfold objV
  rw [sortN_perm (h.map (·.1))]
  congr 1
  refine List.map_congr_left fun n hn => ?_
  have hn' : n ∈ m.map (·.1) := (List.mergeSort_perm _ _).mem_iff.1 hn
  obtain ⟨q, hq, rfl⟩ := List.mem_map.1 hn'
  rw [getV_of_mem hk hq, getV_of_mem hkp (h.mem_iff.2 hq)]
end Go.Eng
namespace Go.Eng
open Go.RowKit

theorem byteAt_l {u v : Str} {j : Int} (h0 : 0 ≤ j) (h : j < len u) : byteAt (u ++ v) j = byteAt u j := by
  unfold len at h
  unfold byteAt
  rw [List.getD_eq_getElem?_getD, List.getD_eq_getElem?_getD, List.getElem?_append_left (by omega)]
theorem byteAt_r {u v : Str} {k : Int} (h0 : 0 ≤ k) : byteAt (u ++ v) (len u + k) = byteAt v k := by
  unfold byteAt len
  rw [List.getD_eq_getElem?_getD, List.getD_eq_getElem?_getD, List.getElem?_append_right (by omega), show ((u.length : Int) + k).toNat - u.length = k.toNat from by omega]
theorem u8_nat {x : Int} (h0 : 0 ≤ x) (h1 : x < 256) : ((UInt8.ofNat x.toNat).toNat : Int) = x := by
  rw [show (UInt8.ofNat x.toNat).toNat = x.toNat % 256 from rfl, Nat.mod_eq_of_lt (by omega)]; omega
theorem rune_agr {s s' : Str} {i i' : Int} (h0 : 0 ≤ i) (h0' : 0 ≤ i') (h1 : 1 ≤ rune s i) (hl : i < len s) (hl' : i' + rune s i ≤ len s') (h : ∀ j, 0 ≤ j → j < rune s i → byteAt s' (i' + j) = byteAt s (i + j)) :
    rune s' i' = rune s i ∧ runeAt s' i' = runeAt s i ∧ runeLen s' i' = runeLen s i := by
  have hb := rune_bd s i
  have hle := rune_le s i hl
  have a0 : byteAt s' i' = byteAt s i := by have := h 0 (by omega) (by omega); rwa [Int.add_zero, Int.add_zero] at this
  have a1 : 2 ≤ rune s i → byteAt s' (i' + 1) = byteAt s (i + 1) := fun x => h 1 (by omega) (by omega)
  have a2 : 3 ≤ rune s i → byteAt s' (i' + 2) = byteAt s (i + 2) := fun x => h 2 (by omega) (by omega)
  have a3 : 4 ≤ rune s i → byteAt s' (i' + 3) = byteAt s (i + 3) := fun x => h 3 (by omega) (by omega)
  have er : rune s' i' = rune s i := by
    clear h
    generalize hk : rune s i = k at *
    unfold rune cont at hk ⊢
    dsimp only at hk ⊢
    rw [a0]
    simp only [Bool.and_eq_true, Bool.or_eq_true, decide_eq_true_eq, beq_iff_eq] at hk ⊢
    split at hk
    · rw [if_pos (by assumption)]; exact hk
    rename_i c0
    rw [if_neg c0]
    split at hk
    · rename_i c1
      subst hk
      have := a1 (by omega)
      rw [if_pos (by omega)]
    rename_i c1
    split at hk
    · rename_i c2
      have hk3 : k = 3 := by split at hk <;> omega
      have e1 := a1 (by omega)
      have e2 := a2 (by omega)
      rw [if_neg (by omega), if_pos (by omega), e1]
      exact hk
    rename_i c2
    split at hk
    · rename_i c3
      have hk4 : k = 4 := by split at hk <;> omega
      have e1 := a1 (by omega)
      have e2 := a2 (by omega)
      have e3 := a3 (by omega)
      rw [if_neg (by omega), if_neg (by omega), if_pos (by omega), e1]
      exact hk
    · omega
  refine ⟨er, ?_⟩
  have hl2 : i' < len s' := by omega
  have D := runeN_dec (s.length - i.toNat) (s.getD i.toNat 0).toNat (s.getD (i.toNat + 1) 0).toNat (s.getD (i.toNat + 2) 0).toNat (s.getD (i.toNat + 3) 0).toNat (by unfold len at *; omega) (UInt8.toNat_lt _) (UInt8.toNat_lt _) (UInt8.toNat_lt _) (UInt8.toNat_lt _)
  have D' := runeN_dec (s'.length - i'.toNat) (s'.getD i'.toNat 0).toNat (s'.getD (i'.toNat + 1) 0).toNat (s'.getD (i'.toNat + 2) 0).toNat (s'.getD (i'.toNat + 3) 0).toNat (by unfold len at *; omega) (UInt8.toNat_lt _) (UInt8.toNat_lt _) (UInt8.toNat_lt _) (UInt8.toNat_lt _)
  have r1 := rune_N h0 hl
  have r2 := rune_N h0' hl2
  have q : ∀ (t : Str) (x : Int), 0 ≤ x → runeAt t x = ((Lib.decodeN (t.length - x.toNat) (t.getD x.toNat 0).toNat (t.getD (x.toNat + 1) 0).toNat (t.getD (x.toNat + 2) 0).toNat (t.getD (x.toNat + 3) 0).toNat).1 : Nat) ∧ runeLen t x = ((Lib.decodeN (t.length - x.toNat) (t.getD x.toNat 0).toNat (t.getD (x.toNat + 1) 0).toNat (t.getD (x.toNat + 2) 0).toNat (t.getD (x.toNat + 3) 0).toNat).2 : Nat) := fun t x hx => by
    unfold runeAt runeLen; rw [decode_same t x hx, decode_from t x hx]; exact ⟨rfl, rfl⟩
  obtain ⟨q1, q2⟩ := q s i h0
  obtain ⟨q3, q4⟩ := q s' i' h0'
  rw [q1, q2, q3, q4]
  have n0 : ∀ (t : Str) (x : Int), 0 ≤ x → byteAt t x = ((t.getD x.toNat 0).toNat : Int) := fun t x hx => rfl
  have nj := fun (t : Str) (x : Int) (hx : 0 ≤ x) (j : Nat) => byteAt_nat t x hx j
  rw [n0 s i h0, n0 s' i' h0'] at a0
  have b1 : byteAt s (i + 1) = _ := nj s i h0 1
  have b2 : byteAt s (i + 2) = _ := nj s i h0 2
  have b3 : byteAt s (i + 3) = _ := nj s i h0 3
  have b1' : byteAt s' (i' + 1) = _ := nj s' i' h0' 1
  have b2' : byteAt s' (i' + 2) = _ := nj s' i' h0' 2
  have b3' : byteAt s' (i' + 3) = _ := nj s' i' h0' 3
  rw [b1, b1'] at a1
  rw [b2, b2'] at a2
  rw [b3, b3'] at a3
  unfold DecAs at D D'
  generalize (s.getD i.toNat 0).toNat = x0 at *
  generalize (s.getD (i.toNat + 1) 0).toNat = x1 at *
  generalize (s.getD (i.toNat + 2) 0).toNat = x2 at *
  generalize (s.getD (i.toNat + 3) 0).toNat = x3 at *
  generalize (s'.getD i'.toNat 0).toNat = y0 at *
  generalize (s'.getD (i'.toNat + 1) 0).toNat = y1 at *
  generalize (s'.getD (i'.toNat + 2) 0).toNat = y2 at *
  generalize (s'.getD (i'.toNat + 3) 0).toNat = y3 at *
  generalize runeN (s.length - i.toNat) x0 x1 x2 x3 = k at *
  generalize runeN (s'.length - i'.toNat) y0 y1 y2 y3 = k' at *
  generalize Lib.decodeN (s.length - i.toNat) x0 x1 x2 x3 = d at *
  generalize Lib.decodeN (s'.length - i'.toNat) y0 y1 y2 y3 = d' at *
  obtain ⟨d1, d2⟩ := d
  obtain ⟨e1, e2⟩ := d'
  clear q1 q2 q3 q4 q n0 nj b1 b2 b3 b1' b2' b3' h
  dsimp only at *
  rcases D with D | D | D | D | D <;> rcases D' with D' | D' | D' | D' | D' <;> first | (exfalso; omega) | (constructor <;> omega)

theorem utf_shift {a b : Str} : ∀ (j : Int), 0 ≤ j → utfFrom b j = true → utfFrom (a ++ b) (len a + j) = true
  | j, h0, h => by
    have hl := len_app a b
    have ha := len_nonneg a
    by_cases hj : j < len b
    · by_cases hr : rune b j = 0
      · rw [utfFrom_bad b j h0 hj hr] at h; cases h
      have hb := rune_bd b j
      have hle := rune_le b j hj
      rw [← utfFrom_step b j h0 hj (by omega)] at h
      have agr := rune_agr (s := b) (s' := a ++ b) (i := j) (i' := len a + j) h0 (by omega) (by omega) hj (by omega) (fun k x y => by
        rw [show len a + j + k = len a + (j + k) from by omega, byteAt_r (by omega)])
      rw [← utfFrom_step (a ++ b) (len a + j) (by omega) (by omega) (by rw [agr.1]; omega), agr.1, Int.add_assoc]
      exact utf_shift (j + rune b j) (by omega) h
    · exact utfFrom_end _ _ (by omega)
termination_by j => (len b - j).toNat
theorem utf_app {a b : Str} (hb : utf b = true) : ∀ (i : Int), 0 ≤ i → i ≤ len a → utfFrom a i = true → utfFrom (a ++ b) i = true
  | i, h0, h1, h => by
    have hl := len_app a b
    have hbn := len_nonneg b
    by_cases hi : i < len a
    · by_cases hr : rune a i = 0
      · rw [utfFrom_bad a i h0 hi hr] at h; cases h
      have hbd := rune_bd a i
      have hle := rune_le a i hi
      rw [← utfFrom_step a i h0 hi (by omega)] at h
      have agr := rune_agr (s := a) (s' := a ++ b) (i := i) (i' := i) h0 h0 (by omega) hi (by omega) (fun k x y => byteAt_l (by omega) (by omega))
      rw [← utfFrom_step (a ++ b) i h0 (by omega) (by rw [agr.1]; omega), agr.1]
      exact utf_app hb (i + rune a i) (by omega) hle h
    · have e : i = len a := by omega
      subst e
      have := utf_shift (a := a) (b := b) 0 (Int.le_refl 0) hb
      rwa [Int.add_zero] at this
termination_by i => (len a - i).toNat
theorem utf_one {s : Str} (hn : 0 < len s) (h : rune s 0 = len s) : utf s = true := by
  unfold utf
  rw [← utfFrom_step s 0 (Int.le_refl 0) hn (by omega)]
  exact utfFrom_end s (0 + rune s 0) (by omega)
theorem utf_enc (r : Int) : utf (toStr (Lib.encodeRuneZ r)) = true := by
  have b0 : ∀ (x : UInt8) (l : Str), byteAt (x :: l) 0 = (x.toNat : Int) := fun _ _ => rfl
  have b1 : ∀ (x y : UInt8) (l : Str), byteAt (x :: y :: l) (0 + 1) = (y.toNat : Int) := fun _ _ _ => rfl
  have b2 : ∀ (x y z : UInt8) (l : Str), byteAt (x :: y :: z :: l) (0 + 2) = (z.toNat : Int) := fun _ _ _ _ => rfl
  have b3 : ∀ (x y z u : UInt8) (l : Str), byteAt (x :: y :: z :: u :: l) (0 + 3) = (u.toNat : Int) := fun _ _ _ _ _ => rfl
  have l1 : ∀ (x : UInt8), len [x] = 1 := fun _ => rfl
  have l2 : ∀ (x y : UInt8), len [x, y] = 2 := fun _ _ => rfl
  have l3 : ∀ (x y z : UInt8), len [x, y, z] = 3 := fun _ _ _ => rfl
  have l4 : ∀ (x y z u : UInt8), len [x, y, z, u] = 4 := fun _ _ _ _ => rfl
  unfold Lib.encodeRuneZ
  split
  · refine utf_one (show (0 : Int) < 1 by decide) ?_
    show rune [UInt8.ofNat r.toNat] 0 = 1
    unfold rune
    rw [b0, u8_nat (by omega) (by omega)]
    dsimp only
    rw [if_pos (by omega)]
  split
  · refine utf_one (show (0 : Int) < 2 by decide) ?_
    show rune [UInt8.ofNat (192 + r / 64).toNat, UInt8.ofNat (128 + r % 64).toNat] 0 = 2
    unfold rune cont
    rw [b0, b1, l2, u8_nat (by omega) (by omega), u8_nat (by omega) (by omega)]
    dsimp only
    simp only [Bool.and_eq_true, decide_eq_true_eq]
    rw [if_neg (by omega), if_pos (by omega)]
  split
  · refine utf_one (show (0 : Int) < 3 by decide) ?_
    show rune [UInt8.ofNat (224 + r / 4096).toNat, UInt8.ofNat (128 + r / 64 % 64).toNat, UInt8.ofNat (128 + r % 64).toNat] 0 = 3
    unfold rune cont
    rw [b0, b1, b2, l3, u8_nat (by omega) (by omega), u8_nat (by omega) (by omega), u8_nat (by omega) (by omega)]
    dsimp only
    simp only [Bool.and_eq_true, Bool.or_eq_true, decide_eq_true_eq, beq_iff_eq]
    rw [if_neg (by omega), if_neg (by omega), if_pos (by omega), if_neg (by omega)]
  split
  · refine utf_one (show (0 : Int) < 4 by decide) ?_
    show rune [UInt8.ofNat (240 + r / 262144).toNat, UInt8.ofNat (128 + r / 4096 % 64).toNat, UInt8.ofNat (128 + r / 64 % 64).toNat, UInt8.ofNat (128 + r % 64).toNat] 0 = 4
    unfold rune cont
    rw [b0, b1, b2, b3, l4, u8_nat (by omega) (by omega), u8_nat (by omega) (by omega), u8_nat (by omega) (by omega), u8_nat (by omega) (by omega)]
    dsimp only
    simp only [Bool.and_eq_true, Bool.or_eq_true, decide_eq_true_eq, beq_iff_eq]
    rw [if_neg (by omega), if_neg (by omega), if_neg (by omega), if_pos (by omega), if_neg (by omega)]
  · decide +kernel
theorem utf_add {acc : List Int} (h : utf (toStr acc) = true) (r : Int) : utf (toStr (acc ++ Lib.encodeRuneZ r)) = true := by
  rw [toStr_app]
  exact utf_app (utf_enc r) 0 (Int.le_refl 0) (len_nonneg _) h
theorem utf_nil : utf [] = true := by decide +kernel
theorem unqGo_utf {s : Str} : ∀ (f : Nat) (i : Int) (acc : List Int), utf (toStr acc) = true → utf (unqGo f s i acc).1 = true
  | 0, _, _, _ => by unfold unqGo; exact utf_nil
  | f + 1, i, acc, h => by
    unfold unqGo
    split
    · split
      · exact h
      · split
        · split
          · exact utf_nil
          · exact unqGo_utf f _ _ (utf_add h _)
        · split
          · exact utf_nil
          · exact unqGo_utf f _ _ (utf_add h _)
    · exact utf_nil
theorem unq_utf (s : Str) : utf (unqP s).1 = true := by
  unfold unqP
  split
  · exact unqGo_utf _ _ _ utf_nil
  · exact utf_nil
theorem enc_len (r : Int) : len (Lib.encodeRuneZ r) ≤ 4 := by
  unfold Lib.encodeRuneZ
  repeat' split
  all_goals (unfold len; simp)
theorem unqGo_len {s : Str} : ∀ (f : Nat) (i : Int) (acc : List Int), 0 ≤ i → i ≤ len s → len (unqGo f s i acc).1 ≤ len acc + 4 * (len s - i)
  | 0, i, acc, h0, h1 => by unfold unqGo; have := len_nonneg acc; rw [len_nil]; omega
  | f + 1, i, acc, h0, h1 => by
    have ha := len_nonneg acc
    have hn : len ([] : Str) = 0 := rfl
    have he := enc_len
    unfold unqGo
    split
    · rename_i hlt
      have hf := from_len s i h0 h1
      split
      · have : len (toStr acc) = len acc := by unfold toStr len; simp
        dsimp only; omega
      · split
        · have hb := escP_le (from' s i)
          split
          · dsimp only; omega
          · have := unqGo_len (s := s) f (i + (escP (from' s i)).2) (acc ++ Lib.encodeRuneZ (escP (from' s i)).1) (by omega) (by omega)
            have := he (escP (from' s i)).1
            rw [len_app] at *
            omega
        · split
          · dsimp only; omega
          · have hb := runeLen_bd h0 hlt
            rw [runeLen_from s i h0]
            have := unqGo_len (s := s) f (i + runeLen s i) (acc ++ Lib.encodeRuneZ (runeAt (from' s i) 0)) (by omega) (by omega)
            have := he (runeAt (from' s i) 0)
            rw [len_app] at *
            omega
    · dsimp only; omega
theorem unq_len (s : Str) : len (unqP s).1 ≤ 4 * len s := by
  have := len_nonneg s
  unfold unqP
  split
  · rename_i h
    have h1 : (1 : Int) ≤ len s := hasPrefix_len h
    have := unqGo_len (s := s) s.length 1 [] (by omega) h1
    rw [len_nil] at this; omega
  · show len ([] : Str) ≤ _
    rw [len_nil]; omega
end Go.Eng
namespace Go.Eng
open Go.RowKit

theorem dec_from (s : Str) (i : Int) (h0 : 0 ≤ i) : ((Lib.decodeL (from' s i)).1 : Int) = runeAt s i ∧ ((Lib.decodeL (from' s i)).2 : Int) = runeLen s i := by
  have h : Lib.decodeL (from' s i) = Utf8.decode ⟨⟨s⟩⟩ i.toNat := (decode_same s i h0).symm
  rw [h]; exact ⟨rfl, rfl⟩
theorem validD_from (s : Str) : ∀ (n : Nat) (i : Int), 0 ≤ i → (len s - i).toNat ≤ n → utfFrom s i = true → Lib.validD (from' s i) = true := by
  intro n
  induction n with
  | zero =>
    intro i h0 hn _
    have : from' s i = [] := by unfold from'; exact List.drop_eq_nil_of_le (by unfold len at hn; omega)
    rw [this]; rfl
  | succ n ih =>
    intro i h0 hn hu
    by_cases h1 : i < len s
    · have hne : from' s i ≠ [] := by
        intro e
        have : (from' s i).length = 0 := by rw [e]; rfl
        unfold from' at this; rw [List.length_drop] at this; unfold len at h1; omega
      unfold utfFrom at hu
      rw [dif_pos ⟨h0, h1⟩] at hu
      obtain ⟨d1, d2⟩ := dec_from s i h0
      rcases rune_dec h0 h1 with ⟨hr, _⟩ | ⟨hr, hl, hno, _⟩
      · rw [dif_neg (by omega)] at hu; cases hu
      · rw [dif_pos (by omega)] at hu
        rw [Lib.validD_step _ hne, if_neg (by intro h; exact hno ⟨by omega, by omega⟩)]
        have e : (from' s i).drop (Lib.decodeL (from' s i)).2 = from' s (i + rune s i) := by
          rw [← from_from s i (rune s i) h0 (by omega)]
          show _ = (from' s i).drop (rune s i).toNat
          rw [show (Lib.decodeL (from' s i)).2 = (rune s i).toNat by omega]
        rw [e]
        exact ih _ (by omega) (by omega) hu
    · have : from' s i = [] := by unfold from'; exact List.drop_eq_nil_of_le (by unfold len at h1; omega)
      rw [this]; rfl
theorem validD_utf {s : Str} (h : utf s = true) : Lib.validD s = true := by
  have := validD_from s (len s - 0).toNat 0 (by omega) (Nat.le_refl _) h
  simpa [from'] using this
/-- All keys are valid and not too long, all values are some. -/
def UtfK (m : List (Str × Vl)) : Prop := ∀ p ∈ m, utf p.1 = true ∧ len p.1 ≤ 4398046511104 ∧ p.2 ≠ []
theorem UtfK.put {n : Str} {x : Vl} (hn : utf n = true ∧ len n ≤ 4398046511104 ∧ x ≠ []) : ∀ {m : List (Str × Vl)}, UtfK m → UtfK (putV m n x)
  | [], _ => by intro p hp; simp [putV] at hp; subst hp; exact hn
  | q :: m, h => by
    intro p hp
    unfold putV at hp
    split at hp
    · rcases List.mem_cons.1 hp with rfl | hp
      · exact hn
      · exact h p (List.mem_cons_of_mem _ hp)
    · rcases List.mem_cons.1 hp with rfl | hp
      · exact h _ List.mem_cons_self
      · exact UtfK.put hn (fun p hp => h p (List.mem_cons_of_mem _ hp)) p hp
theorem pairT_utfk {s : Str} {i : Int} {val : Int → PR Vl} {m x : List (Str × Vl)} {j : Int} (hb : len s ≤ 1099511627776) (hv : ∀ k x j, val k = .ok x j → x ≠ []) (hk : UtfK m) (h : pairT s i val m = .ok x j) : UtfK x := by
  unfold pairT at h
  split at h
  · cases h
  · rename_i n q ht
    have hn : utf n = true ∧ len n ≤ 4398046511104 := by
      unfold textT at ht
      split at ht
      · cases ht
      · cases ht
        have h1 := unq_len (from' s i)
        have h2 : len (from' s i) ≤ len s := by unfold from' len; rw [List.length_drop]; omega
        exact ⟨unq_utf _, by omega⟩
    split at h
    · unfold mapR at h
      split at h
      · cases h
      · rename_i hval
        cases h; exact UtfK.put ⟨hn.1, hn.2, hv _ _ _ hval⟩ hk
    · cases h
theorem mapR_ok {α β : Type} {f : α → β} {r : PR α} {y : β} {j : Int} (h : mapR f r = .ok y j) : ∃ x, r = .ok x j ∧ y = f x := by
  cases r with
  | er c p => cases h
  | ok x k => cases h; exact ⟨x, rfl, rfl⟩
theorem valT_ne {f : Nat} {s : Str} {i d : Int} {x : Vl} {j : Int} (h : valT f s i d = .ok x j) : x ≠ [] := by
  cases f with
  | zero => rw [valT] at h; cases h
  | succ f =>
    rw [valT] at h
    repeat' split at h
    all_goals first
      | (cases h; done)
      | (cases h; intro e; cases e)
      | (unfold numT at h; split at h <;> cases h; intro e; cases e)
      | (obtain ⟨y, _, rfl⟩ := mapR_ok h; intro e; cases e)
theorem MapV.get {M : Mem} {n : Str} {x : Vl} : ∀ {l : List SV} {m : List (Str × Vl)}, MapV M l m → getV m n = some x → ∃ h : SlH, sget l n = some h.v ∧ Sl M 6 x.length h.v (x.flatMap Nd.cells)
  | [], [], _, h => by cases h
  | [], _ :: _, h, _ => h.elim
  | _ :: _, [], h, _ => h.elim
  | p :: l, q :: m, ⟨h1, ⟨h, h2, h3⟩, h4⟩, hg => by
    unfold getV at hg
    unfold sget
    by_cases hk : (n == q.1) = true
    · rw [if_pos hk] at hg; cases hg
      rw [if_pos (by rw [h1]; exact hk)]
      exact ⟨h, by rw [h2], h3⟩
    · rw [if_neg hk] at hg
      rw [if_neg (by rw [h1]; exact hk)]
      exact MapV.get h4 hg
theorem MapV.none {M : Mem} {n : Str} : ∀ {l : List SV} {m : List (Str × Vl)}, MapV M l m → n ∉ m.map (·.1) → sget l n = none
  | [], [], _, _ => rfl
  | [], _ :: _, h, _ => h.elim
  | _ :: _, [], h, _ => h.elim
  | p :: l, q :: m, ⟨h1, _, h4⟩, hg => by
    simp only [List.map_cons, List.mem_cons, not_or] at hg
    unfold sget
    rw [if_neg (by rw [h1]; simpa using hg.1)]
    exact MapV.none h4 hg.2
/-- The first so many pairs. -/
def zipT (ns : List Str) (xs : List Vl) (k : Int) : List (Str × Vl) := (ns.zip xs).take k.toNat
theorem zipT_step {ns : List Str} {xs : List Vl} {k : Int} (h0 : 0 ≤ k) (h1 : k < len ns) (h2 : len ns = len xs) : zipT ns xs (k + 1) = zipT ns xs k ++ [(at' ns k, at' xs k)] := by
  unfold zipT
  rw [show (k + 1).toNat = k.toNat + 1 by omega, List.take_add_one]
  congr 1
  have e1 : k.toNat < ns.length := by unfold len at h1; omega
  have e2 : k.toNat < xs.length := by unfold len at h1 h2; omega
  rw [List.getElem?_eq_getElem (by rw [List.length_zip]; omega)]
  simp [at', List.getD_eq_getElem?_getD, e1, e2]
theorem zipT_keys {ns : List Str} {xs : List Vl} (k : Int) (h2 : len ns = len xs) : (zipT ns xs k).map (·.1) = ns.take k.toNat := by
  unfold zipT
  rw [List.map_take, show (ns.zip xs).map (·.1) = ns from by have := List.map_fst_zip (l₁ := ns) (l₂ := xs) (by unfold len at h2; omega); exact this]
theorem zipT_new {ns : List Str} {xs : List Vl} {k : Int} (h0 : 0 ≤ k) (h1 : k < len ns) (h2 : len ns = len xs) (hnd : ns.Nodup) : at' ns k ∉ (zipT ns xs k).map (·.1) := by
  rw [zipT_keys k h2]
  intro hm
  have e1 : k.toNat < ns.length := by unfold len at h1; omega
  obtain ⟨j, hj, he⟩ := List.getElem_of_mem hm
  rw [List.length_take] at hj
  rw [List.getElem_take] at he
  have he2 : at' ns k = ns[k.toNat] := by simp [at', List.getD_eq_getElem?_getD, e1]
  rw [he2] at he
  have := (List.getElem_inj (h₀ := by omega) (h₁ := e1) hnd).1 he
  omega
theorem putV_new {n : Str} {x : Vl} : ∀ {m : List (Str × Vl)}, n ∉ m.map (·.1) → putV m n x = m ++ [(n, x)]
  | [], _ => rfl
  | q :: m, h => by
    simp only [List.map_cons, List.mem_cons, not_or] at h
    unfold putV
    rw [if_neg (by simpa using h.1), putV_new h.2]; rfl
theorem zipT_end {ns : List Str} {xs : List Vl} {k : Int} (h : len ns ≤ k) : zipT ns xs k = ns.zip xs := by
  unfold zipT; rw [List.take_of_length_le]; rw [List.length_zip]; unfold len at h; omega
theorem zip_keys {ns : List Str} {xs : List Vl} (h2 : len ns = len xs) : (ns.zip xs).map (·.1) = ns := List.map_fst_zip (l₁ := ns) (l₂ := xs) (by unfold len at h2; omega)
/-- The parts of the sorted names. -/
def partsL (sn : List Str) (m : List (Str × Vl)) : List Vl := sn.map fun n => (getV m n).getD []
theorem partsL_at {sn : List Str} {m : List (Str × Vl)} {k : Int} (h0 : 0 ≤ k) (h1 : k < len sn) : partsL (Eng.sub sn 0 (k + 1)) m = partsL (Eng.sub sn 0 k) m ++ [(getV m (at' sn k)).getD []] := by
  have e1 : k.toNat < sn.length := by unfold len at h1; omega
  unfold partsL Eng.sub
  rw [show (k + 1).toNat = k.toNat + 1 by omega]
  simp only [Int.toNat_zero, List.drop_zero, Nat.sub_zero]
  rw [List.take_add_one, List.getElem?_eq_getElem e1, List.map_append]
  simp [at', List.getD_eq_getElem?_getD, e1]
theorem partsL_sub {sn : List Str} {m : List (Str × Vl)} {k : Int} (h0 : 0 ≤ k) (h1 : k ≤ len sn) : ((partsL (Eng.sub sn 0 k) m).length : Int) = k := by
  unfold partsL Eng.sub; unfold len at h1
  simp only [List.length_map, Int.toNat_zero, List.drop_zero, Nat.sub_zero, List.length_take]; omega
theorem getV_in {m : List (Str × Vl)} {n : Str} (h : n ∈ m.map (·.1)) : ∃ x, getV m n = some x ∧ (n, x) ∈ m := by
  induction m with
  | nil => cases h
  | cons q m ih =>
    unfold getV
    by_cases hk : n = q.1
    · exact ⟨q.2, by rw [if_pos (by simpa using hk)], by rw [hk]; exact List.mem_cons_self⟩
    · rw [if_neg (by simpa using hk)]
      simp only [List.map_cons, List.mem_cons] at h
      obtain ⟨x, h1, h2⟩ := ih (h.resolve_left hk)
      exact ⟨x, h1, List.mem_cons_of_mem _ h2⟩
theorem sortN_mem {ns : List Str} {n : Str} : n ∈ sortN ns ↔ n ∈ ns := (List.mergeSort_perm ns _).mem_iff
theorem sortN_len (ns : List Str) : len (sortN ns) = len ns := by unfold len sortN; rw [List.length_mergeSort]
theorem partsL_keys {m : List (Str × Vl)} (hk : KeysOK m) : partsL (m.map (·.1)) m = m.map (·.2) := by
  unfold partsL
  rw [List.map_map]
  exact List.map_congr_left fun p hp => by show (getV m p.1).getD [] = p.2; rw [getV_of_mem hk hp]; rfl
theorem partsL_len {m : List (Str × Vl)} (hk : KeysOK m) : len (partsL (sortN (m.map (·.1))) m).flatten = len (m.map (·.2)).flatten := by
  rw [← partsL_keys hk]
  unfold len partsL sortN
  rw [List.Perm.length_eq (List.Perm.flatten ((List.mergeSort_perm (m.map (·.1)) _).map _))]
theorem laid_obj (m : List (Str × Vl)) : laidTo (sortN (m.map (·.1))) (partsL (sortN (m.map (·.1))) m) (len (partsL (sortN (m.map (·.1))) m)) = objV m := by
  unfold laidTo objV laidV
  have e : (sortN (m.map (·.1))).zip (partsL (sortN (m.map (·.1))) m) = (sortN (m.map (·.1))).map fun n => (n, (getV m n).getD []) := by
    unfold partsL
    generalize sortN (m.map (·.1)) = l
    induction l with
    | nil => rfl
    | cons a l ih => simp only [List.map_cons, List.zip_cons_cons, ih]
  rw [e, List.take_of_length_le (by unfold len partsL; simp)]
  congr 2
  unfold len partsL; simp
theorem zip_vals {ns : List Str} {xs : List Vl} (h2 : len ns = len xs) : (ns.zip xs).map (·.2) = xs := List.map_snd_zip (l₁ := ns) (l₂ := xs) (by unfold len at h2; omega)
/-! ### a map ranged over -/
theorem MapV.keys {M : Mem} : ∀ {l : List SV} {m : List (Str × Vl)}, MapV M l m → l.map (·.key) = m.map (·.1)
  | [], [], _ => rfl
  | [], _ :: _, h => h.elim
  | _ :: _, [], h => h.elim
  | p :: l, q :: m, ⟨h1, _, h4⟩ => by simp only [List.map_cons, h1, MapV.keys h4]
/-- What has been visited. -/
def VisS (l : List SV) (m : List (Str × Vl)) (seen : Array Nat) (ns : List Str) (xs : List Vl) : Prop :=
  ∃ vs : List SV, seen.toList = vs.map (·.born) ∧ (∀ p ∈ vs, p ∈ l) ∧ vs.map (·.key) = ns ∧ ns.length = xs.length ∧ (∀ p ∈ ns.zip xs, p ∈ m) ∧ ns.Nodup
theorem VisS.start (l : List SV) (m : List (Str × Vl)) : VisS l m #[] [] [] := ⟨[], rfl, fun _ h => (by cases h), rfl, rfl, fun _ h => (by cases h), List.nodup_nil⟩
theorem inj_of_nodup {α β : Type} {f : α → β} : ∀ {l : List α} {p q : α}, (l.map f).Nodup → p ∈ l → q ∈ l → f p = f q → p = q
  | [], _, _, _, h, _, _ => by cases h
  | a :: l, p, q, hn, hp, hq, he => by
    rw [List.map_cons, List.nodup_cons] at hn
    rcases List.mem_cons.1 hp with h1 | h1
    · rcases List.mem_cons.1 hq with h2 | h2
      · rw [h1, h2]
      · exact absurd (List.mem_map.2 ⟨q, h2, by rw [← he, h1]⟩) hn.1
    · rcases List.mem_cons.1 hq with h2 | h2
      · exact absurd (List.mem_map.2 ⟨p, h1, by rw [he, h2]⟩) hn.1
      · exact inj_of_nodup hn.2 h1 h2 he
theorem nodup_of_map {α β : Type} {f : α → β} : ∀ {l : List α}, (l.map f).Nodup → l.Nodup
  | [], _ => List.nodup_nil
  | a :: l, h => by
    rw [List.map_cons, List.nodup_cons] at h
    exact List.nodup_cons.2 ⟨fun ha => h.1 (List.mem_map.2 ⟨a, ha, rfl⟩), nodup_of_map h.2⟩
theorem sub_length {α : Type} : ∀ {l m : List α}, l.Nodup → (∀ p ∈ l, p ∈ m) → l.length ≤ m.length
  | [], _, _, _ => Nat.zero_le _
  | a :: l, m, hn, h => by
    obtain ⟨s, t, rfl⟩ := List.append_of_mem (h a List.mem_cons_self)
    rw [List.nodup_cons] at hn
    have := sub_length (m := s ++ t) hn.2 (fun p hp => by
      have h1 := h p (List.mem_cons_of_mem _ hp)
      rcases List.mem_append.1 h1 with h1 | h1
      · exact List.mem_append.2 (.inl h1)
      · rcases List.mem_cons.1 h1 with rfl | h1
        · exact absurd hp hn.1
        · exact List.mem_append.2 (.inr h1))
    simp only [List.length_append, List.length_cons] at *; omega
theorem VisS.step {M : Mem} {l : List SV} {m : List (Str × Vl)} {seen : Array Nat} {ns : List Str} {xs : List Vl} {p : SV} {x : Vl} (h : VisS l m seen ns xs) (hm : MapV M l m) (hk : KeysOK m) (hp : p ∈ l) (hns : ¬ seen.contains p.born = true) (hx : (p.key, x) ∈ m) :
    VisS l m (seen.push p.born) (ns ++ [p.key]) (xs ++ [x]) := by
  obtain ⟨vs, h1, h2, h3, h4, h5, h6⟩ := h
  have hkl : (l.map (·.key)).Nodup := by rw [hm.keys]; exact hk
  refine ⟨vs ++ [p], by simp [h1], fun q hq => ?_, by simp [h3], by simp [h4], ?_, ?_⟩
  · rcases List.mem_append.1 hq with hq | hq
    · exact h2 q hq
    · simp only [List.mem_singleton] at hq; subst hq; exact hp
  · intro q hq
    rw [List.zip_append h4] at hq
    rcases List.mem_append.1 hq with hq | hq
    · exact h5 q hq
    · simp at hq; subst hq; exact hx
  · rw [List.nodup_append]
    refine ⟨h6, by simp, fun a ha b hb => ?_⟩
    simp only [List.mem_singleton] at hb; subst hb
    intro e; subst e
    rw [← h3] at ha
    obtain ⟨q, hq, he⟩ := List.mem_map.1 ha
    have := inj_of_nodup hkl (h2 q hq) hp he
    subst this
    apply hns
    rw [Array.contains_iff_mem, Array.mem_def, h1]
    exact List.mem_map.2 ⟨q, hq, rfl⟩
theorem VisS.done {M : Mem} {l : List SV} {c : Nat} {m : List (Str × Vl)} {seen : Array Nat} {ns : List Str} {xs : List Vl} (h : VisS l m seen ns xs) (hm : MapV M l m) (hk : KeysOK m) (hb : BornOK l c) (hall : ∀ p ∈ l, seen.contains p.born = true) : (ns.zip xs).Perm m := by
  obtain ⟨vs, h1, h2, h3, h4, h5, h6⟩ := h
  have hsub : ∀ p ∈ l, p ∈ vs := by
    intro p hp
    have := hall p hp
    rw [Array.contains_iff_mem, Array.mem_def, h1] at this
    obtain ⟨q, hq, he⟩ := List.mem_map.1 this
    have := inj_of_nodup hb.2 (h2 q hq) hp he
    subst this; exact hq
  have hkl : (l.map (·.key)).Nodup := by rw [hm.keys]; exact hk
  have hln : l.Nodup := nodup_of_map hkl
  have hvn : vs.Nodup := nodup_of_map (f := (·.key)) (by rw [h3]; exact h6)
  have e1 : l.length ≤ vs.length := sub_length hln hsub
  have e2 : vs.length ≤ l.length := sub_length hvn h2
  have e3 : ns.length = vs.length := by rw [← h3, List.length_map]
  have e4 : m.length = l.length := by have := congrArg List.length hm.keys; simpa using this.symm
  have hz : (ns.zip xs).map (·.1) = ns := List.map_fst_zip (l₁ := ns) (l₂ := xs) (by omega)
  exact perm_of_sub (by rw [hz]; exact h6) h5 (by rw [List.length_zip]; omega)
theorem VisS.le {M : Mem} {l : List SV} {m : List (Str × Vl)} {seen : Array Nat} {ns : List Str} {xs : List Vl} (h : VisS l m seen ns xs) : ns.length ≤ m.length := by
  obtain ⟨vs, h1, h2, h3, h4, h5, h6⟩ := h
  have hz : (ns.zip xs).map (·.1) = ns := List.map_fst_zip (l₁ := ns) (l₂ := xs) (by omega)
  have := sub_length (l := ns.zip xs) (m := m) (nodup_of_map (f := (·.1)) (by rw [hz]; exact h6)) h5
  rw [List.length_zip] at this; omega
theorem VisS.eq {l : List SV} {m : List (Str × Vl)} {seen : Array Nat} {ns : List Str} {xs : List Vl} (h : VisS l m seen ns xs) : ns.length = xs.length := by
  obtain ⟨vs, h1, h2, h3, h4, h5, h6⟩ := h; exact h4
theorem objV_le {m : List (Str × Vl)} (hk : KeysOK m) : len (objV m) ≤ 1 + mapN m := by
  rw [← laid_obj m]
  have h1 := laidTo_le (sortN (m.map (·.1))) (partsL (sortN (m.map (·.1))) m) (len (partsL (sortN (m.map (·.1))) m))
  rw [partsL_len hk] at h1
  exact h1
/-- All have been visited: what val.Object asks. -/
theorem VisS.all {M : Mem} {l : List SV} {c : Nat} {m : List (Str × Vl)} {seen : Array Nat} {ns : List Str} {xs : List Vl} (h : VisS l m seen ns xs) (hm : MapV M l m) (hk : KeysOK m) (hu : UtfK m) (hb : BornOK l c) (hall : ∀ p ∈ l, seen.contains p.born = true) :
    len ns = len xs ∧ len ns = len m ∧ ns.Nodup ∧ (∀ n ∈ ns, utf n = true) ∧ (∀ n ∈ ns, len n ≤ 4398046511104) ∧ (∀ x ∈ xs, x ≠ []) ∧ len xs.flatten = mapN m ∧ objV (ns.zip xs) = objV m := by
  have hp := h.done hm hk hb hall
  obtain ⟨vs, h1, h2, h3, h4, h5, h6⟩ := h
  have hz : (ns.zip xs).map (·.1) = ns := List.map_fst_zip (l₁ := ns) (l₂ := xs) (by omega)
  have hz2 : (ns.zip xs).map (·.2) = xs := List.map_snd_zip (l₁ := ns) (l₂ := xs) (by omega)
  have hl := hp.length_eq
  rw [List.length_zip] at hl
  have hn : ∀ n ∈ ns, utf n = true ∧ len n ≤ 4398046511104 := fun n hn => by
    rw [← hz] at hn
    obtain ⟨q, hq, rfl⟩ := List.mem_map.1 hn
    exact ⟨(hu q (h5 q hq)).1, (hu q (h5 q hq)).2.1⟩
  refine ⟨by unfold len; omega, by unfold len; omega, h6, fun n h => (hn n h).1, fun n h => (hn n h).2, fun x hx => ?_, ?_, objV_perm hp hk⟩
  · rw [← hz2] at hx
    obtain ⟨q, hq, rfl⟩ := List.mem_map.1 hx
    exact (hu q (h5 q hq)).2.2
  · unfold mapN len
    rw [← (List.Perm.flatten (hp.map (·.2))).length_eq, hz2]
end Go.Eng
set_option maxRecDepth 100000
namespace Go.Proofs.YtjfaikgooldcbaaGreatDoor
open Go.Eng

theorem named_c (a b : Value) (ns : List Str) (rs : List SlH) (xs : List Vl) (w : World) (M : Mem) (hM : Sat w M) (ha : Sl M 1 ns.length a (ns.flatMap strC)) (hu : (kr b rs xs).ok M) (hl : len ns = len xs) (hne : ∀ x ∈ xs, x ≠ []) (hb : len xs.flatten ≤ 1048576) (hr : len rs ≤ 1048576) :
  Calls Tryz.prog 39 [a, b].toArray w (MRet w M (fun v : Value => v) (fun _ => True) fun v => [(0, kn v 6 (laidTo ns xs (len xs)) Nd.cells)]) := by
 have hlr := kr_len hu
 have hln := len_nonneg rs
 refine xenter ttok Tryz.func39 rfl Tryz.ntmps39 [(0, kn a 1 ns strC), (1, kr b rs xs)] [] [.sl 0 a, .sl 1 b] rfl (St.start hM) (fc 0 ha strC_len (fcons hu fnil)) (fun B hB => ?_) rfl
 refine xlitP 2 [⟨6, len rs, [], [], false, 0⟩] Nd.cells 6 38 Nd.cells_len rfl (eok rfl) (by omega) rfl (eok rfl) (fun w => by kernel_rfl) rfl fun v => ?_
 refine xloop (σ := Int × Value × Vl) (fun (k, v, l) => ⟨[(0, kn a 1 ns strC), (1, kr b rs xs)], [(2, .pv 38 (kn v 6 l Nd.cells) Nd.cells_len)], [Z 0 (.sl 0 a), Z 1 (.sl 1 b), Z 5 (.sl 2 v), Z 6 (I k)]⟩) (fun (k, v, l) => 0 ≤ k ∧ k ≤ len rs ∧ l = laidTo ns xs k) (fun (k, v, l) => (len rs - k).toNat) (0, v, [⟨6, len rs, [], [], false, 0⟩]) rfl (eok rfl) (by omega) rfl ⟨by omega, by omega, by rw [hlr]; rfl⟩ ?_
 rintro ⟨k, v, l⟩ ⟨h0, h1, hlk⟩
 refine xbr rfl (eok rfl) (by omega) (fun hb1 => ?_) (fun hb1 => ?_) <;> simp only [zb] at hb1
 ·have hst := laidTo_step (ns := ns) (xs := xs) h0 (by omega) hl
  have hle := laidTo_le ns xs (k + 1)
  have hxn : at' xs k ≠ [] := hne _ (at'_mem h0 (by omega))
  have hxp := len_pos hxn
  have hln2 := nameV_len (at' ns k) (at' xs k)
  rw [hst, len_app, hln2, ← hlk] at hle
  have hla : len (l ++ at' xs k) = len l + len (at' xs k) := len_app _ _
  have hl0 := len_nonneg l
  refine run_ok rfl (eok rfl) (by omega) ?_
  refine xknow 3 (kn (at' rs k).v 6 (at' xs k) Nd.cells) (fun w M hX => kr_at (hX.f.get (k := 1) rfl) h0 hb1) (xtag 25 3 rfl ?_)
  refine xappP 64 rfl (eok rfl) (by omega) rfl (eok rfl) rfl Tryz.underlying24 Tryz.type38 rfl rfl Nd.cells_one (by omega) fun v' => ?_
  refine xalloc 4 rfl (eok rfl) (by omega) Tryz.zeroValue38 rfl fun b1 => ?_
  refine xset { at' (l ++ at' xs k) (len l) with name := at' ns k } rfl (eok rfl) (by omega) rfl (eok rfl) rfl Tryz.sizeOf38 rfl rfl rfl (by omega) fun l' hl' => ?_
  refine xround (k + 1, v', l') rfl (eok rfl) (by omega) rfl ⟨by omega, by omega, by rw [hl', set_name l (at' xs k) (at' ns k) hxn, hst, hlk]⟩ (by show Int.toNat _ < Int.toNat _; omega)
 ·refine run_ok rfl (eok rfl) (by omega) (xtell 2 rfl ?_)
  refine xret hB rfl rfl (eok rfl) (by omega) rfl (eok rfl) fun w M hX => ⟨v, M, rfl, trivial, hX.st.done, ?_⟩
  have := hX.sl 2 rfl
  rw [hlk, show k = len xs by omega] at this
  exact fc 0 this Nd.cells_len fnil
end Go.Proofs.YtjfaikgooldcbaaGreatDoor
