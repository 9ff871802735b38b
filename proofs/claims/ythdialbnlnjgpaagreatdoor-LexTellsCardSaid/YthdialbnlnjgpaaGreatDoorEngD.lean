/-
  THE ENGINE, PART 4: slices that a call makes: a literal, append, a part of a slice. Over any program.
-/
import Derived.Test.YthdialbnlnjgpaaGreatDoorEngC
set_option linter.unusedVariables false
set_option linter.unusedSimpArgs false
namespace Go.Eng
open Go.RowKit

section st
variable {w0 w : World} {M0 M : Mem} {Hs : List HO}
theorem St.ownNil (h : St w0 M0 w M Hs) (e : TypeId) (sz : Nat) : St w0 M0 w M (.own e sz (.slice none 0 0) 0 [] :: Hs) :=
  ⟨h.low, h.sat, h.old, fun x hx => by
    rcases List.mem_cons.1 hx with rfl | hx
    · exact ⟨World.ownsRow_nil w _ e sz, fun b hb => (by cases hb)⟩
    · exact h.ok x hx, List.pairwise_cons.2 ⟨fun _ _ b hb => (by cases hb), h.apart⟩⟩
/-- An own row is read as any slice. -/
theorem St.sl (h : St w0 M0 w M Hs) {i : Nat} {e : TypeId} {sz n : Nat} {v : Value} {xs : List Value} (hi : Hs[i]? = some (.own e sz v n xs)) : Sl M sz n v xs := by
  obtain ⟨⟨h1, h2⟩, h3⟩ := h.obj hi
  refine ⟨h1, ?_⟩
  rcases h2 with ⟨rfl, rfl⟩ | ⟨g, cap, cur, rfl, _, _, hn, hc, _, _⟩
  · exact ⟨none, 0, rfl, Nat.le_refl _, Nat.zero_le _, fun h => absurd h (Nat.lt_irrefl _)⟩
  · exact ⟨_, cap, rfl, hn, hc, fun _ => ⟨g, 0, rfl, fun j hj => by rw [Nat.zero_add]; exact (h3 g rfl).1 j hj⟩⟩
def memAt (M : Mem) (b : Nat) (xs : List Value) : Mem := fun b' o => if b' = b then xs[o]? else M b' o
/-- A new row. -/
theorem St.newRow (h : St w0 M0 w M Hs) (e : TypeId) (sz n : Nat) (xs : List Value) (hl : xs.length = n * sz) (hm : n ≤ maxLen) :
    St w0 M0 (w.alloc (.cells xs.toArray e)) (memAt M w.heap.size xs) (.own e sz (.slice (some ⟨w.heap.size, 0, none⟩) n n) n xs :: Hs) ∧ M.le (memAt M w.heap.size xs) := by
  have h1 := h.ext (Ext.alloc w (.cells xs.toArray e))
  have hle : M.le (memAt M w.heap.size xs) := fun b o v hv => by
    have := h.sat.lt hv
    unfold memAt; rw [if_neg (by omega)]; exact hv
  refine ⟨⟨h1.low, ⟨fun b o v hv => ?_⟩, fun b o hb => (by unfold memAt; rw [if_neg (by have := h.size; omega)]; exact h.old b o hb), fun x hx => ?_, List.pairwise_cons.2 ⟨fun y hy b hb => ?_, h.apart⟩⟩, hle⟩
  · unfold memAt at hv
    split at hv
    · rename_i hb; subst hb
      simp only [World.cell?, heap_alloc_new]
      simpa using hv
    · exact h1.sat.cell b o v hv
  · rcases List.mem_cons.1 hx with rfl | hx
    · refine ⟨⟨hl, .inr ⟨w.heap.size, n, xs.toArray, rfl, h.size, heap_alloc_new _ _, Nat.le_refl _, hm, by simpa using hl, by rw [← hl]; simp⟩⟩, fun b hb => ?_⟩
      simp only [Value.ownBlock, Option.some.injEq] at hb; subst hb
      exact ⟨fun o _ => by simp [memAt], fun o ho => by simp [memAt, ho]⟩
    · exact HO.ok_heap (h1.ok x hx) (fun _ _ => rfl) (fun b hb o => by
        have := (HO.ok.lt (h.ok x hx) hb).2
        unfold memAt; rw [if_neg (by omega)])
  · simp only [HO.blk, Value.ownBlock, Option.some.injEq] at hb; subst hb
    intro hy'
    have := (HO.ok.lt (h.ok y hy) hy').2
    omega
end st

/-- Append, with what it leaves as it was. -/
theorem run_append_mine {P : Program} (w : World) (base : Nat) (t ty e : TypeId) (i : TypeInfo) (z : Value) (size : Nat) (ht : P.underlying t = some (.slice e)) (hi : P.info? e = some i) (hz : i.zero = some z)
    (hsize : i.size = size) (hzs : z.cells.size = size)
    (v : Value) (n : Nat) (xs : List Value) (hown : w.ownsRow base e size v n xs)
    (x : Value) (m : Nat) (news : List Value) (hl : news.length = m * size) (hx : ∃ p c, x = .slice p m c ∧ (0 < m → ∃ a, p = some a ∧ ∀ j u, news[j]? = some u → w.cell? (a.add j) = some u)) (h1 : ∀ u ∈ news, u.oneCell' = true)
    (h63 : n + m ≤ maxLen) (hbytes : (n + m) * i.bytes ≤ 140737488355328) (hbase : base ≤ w.heap.size) :
    ∃ v' w', (Builtin.append_ #[t, t] ty #[v, x]).run P w = .ok v' w' ∧ w'.ownsRow base e size v' (n + m) (xs ++ news) ∧ Below base w w' ∧
      (∀ k, k < w.heap.size → v.ownBlock ≠ some k → w'.heap[k]? = w.heap[k]?) ∧ (∀ g, v.ownBlock = some g → ∀ o, o < xs.length → w'.cell? ⟨g, o, none⟩ = w.cell? ⟨g, o, none⟩) ∧
      (v'.ownBlock = v.ownBlock ∨ ∃ b, v'.ownBlock = some b ∧ w.heap.size ≤ b) := by
  subst hsize
  have hsmall : n + m ≤ 9223372036854775807 := by simp only [maxLen] at h63; omega
  have hlen : (xs ++ news).length = (n + m) * i.size := by rw [List.length_append, hown.1, hl, Nat.add_mul]
  obtain ⟨p, c, rfl, hp⟩ := hx
  have grown : ∀ (old : Nat),
      (w.drew.alloc (.cells (xs.toArray ++ news.toArray ++ Builtin.zeroCells z.cells (grownCap w (n + m) old e - (n + m))) e)).ownsRow base e i.size
        (.slice (some ⟨w.heap.size, 0, none⟩) (n + m) (grownCap w (n + m) old e)) (n + m) (xs ++ news) := by
    intro old
    have hge := grownCap_ge w (n + m) old e
    have hcm : grownCap w (n + m) old e ≤ maxLen := grownCap_le_maxLen w (n + m) old e h63
    refine ⟨hlen, .inr ⟨w.heap.size, _, _, rfl, hbase, heap_alloc_new w.drew _, hge, hcm, ?_, ?_⟩⟩
    · simp only [Array.size_append, List.size_toArray, size_zeroCells, hzs, hown.1, hl, ← Nat.add_mul]
      congr 1
      omega
    · simp only [Array.toList_append, List.append_assoc]
      rw [← List.append_assoc, ← hlen]
      exact List.take_left
  have newB : ∀ o : Obj, Below base w (w.drew.alloc o) ∧ (∀ k, k < w.heap.size → (w.drew.alloc o).heap[k]? = w.heap[k]?) := fun o =>
    ⟨((Below.refl base w).drew).alloc hbase o, fun k hk => Below.heap_alloc w.drew o k hk⟩
  by_cases hm : m = 0
  · subst hm
    have hn : news = [] := List.eq_nil_of_length_eq_zero (by simpa using hl)
    subst hn
    refine ⟨v, w, ?_, by simpa using hown, Below.refl _ _, fun _ _ _ => rfl, fun _ _ _ _ => rfl, .inl rfl⟩
    rcases hown.2 with ⟨rfl, rfl⟩ | ⟨g, cap, cur, rfl, _, _, hnc, _⟩
    · cases p <;> simp [Builtin.append_, run_underlying ht, sizeOf, typeInfo, hi, Builtin.lenOf, Builtin.firstCells, loadCells, loadCellsFrom]
    · cases p <;> simp [Builtin.append_, run_underlying ht, sizeOf, typeInfo, hi, Builtin.lenOf, Builtin.firstCells, hnc, storeCells, loadCells, loadCellsFrom]
  · obtain ⟨a, rfl, hnews⟩ := hp (by omega)
    rcases hown.2 with ⟨rfl, rfl⟩ | ⟨g, cap, cur, rfl, hbg, hg, hnc, hcm, hcs, htake⟩
    · have hx : xs = [] := List.eq_nil_of_length_eq_zero (by simpa using hown.1)
      subst hx
      have hr := run_append_nil (P := P) w t ty e i z ht hi hz a m c news hl hnews (by omega) (by omega) (by have hb := hbytes; simp only [Nat.zero_add] at hb; omega)
      have hgr := grown 0
      simp only [Nat.zero_add, List.nil_append, Array.empty_append] at hgr ⊢
      exact ⟨_, _, hr, hgr, (newB _).1, fun k hk _ => (newB _).2 k hk, fun g hg => (by cases hg), .inr ⟨_, rfl, Nat.le_refl _⟩⟩
    · by_cases hroom : n + m ≤ cap
      · have hfit : n * i.size + news.length ≤ cur.size := by rw [hl, hcs, ← Nat.add_mul]; exact Nat.mul_le_mul_right _ hroom
        have hr := run_append_room (P := P) w t ty e i ht hi g n cap cur hg a m c news hl hnews h1 hroom hfit
        refine ⟨_, _, hr, ⟨hlen, .inr ⟨g, cap, _, rfl, hbg, heap_setRow_self w g _ cur e _ hg, hroom, hcm, ?_, ?_⟩⟩, below_setRow _ hbg, fun k _ hk => heap_setRow_ne w g k _ (fun e => hk (by simp [Value.ownBlock, e])), fun g' hg' o ho => ?_, .inl rfl⟩
        · simp only [List.size_toArray, List.length_append, List.length_take, List.length_drop, Array.length_toList]
          omega
        · rw [htake, ← hlen]
          exact List.take_left
        · simp only [Value.ownBlock, Option.some.injEq] at hg'; subst hg'
          simp only [World.cell?, heap_setRow_self w g _ cur e _ hg, hg]
          have hlo : o < n * i.size := by rw [hown.1] at ho; exact ho
          have hoc : o < cur.size := by rw [hcs]; exact Nat.lt_of_lt_of_le hlo (Nat.mul_le_mul_right _ hnc)
          rw [List.append_assoc]
          simp only [List.getElem?_toArray]
          rw [List.getElem?_append_left (by simp; omega), List.getElem?_take]
          simp [hlo, hoc]
      · have holds : ∀ j u, xs[j]? = some u → w.cell? ((⟨g, 0, none⟩ : Addr).add j) = some u := hown.cells (g := g) rfl
        have hr := run_append_grow (P := P) w t ty e i z ht hi hz ⟨g, 0, none⟩ n cap xs hown.1 holds a m c news hl hnews (by omega) (by omega) (growslice_fits (by omega) hbytes)
        refine ⟨_, _, hr, grown cap, (newB _).1, fun k hk _ => (newB _).2 k hk, fun g' hg' o _ => ?_, .inr ⟨_, rfl, Nat.le_refl _⟩⟩
        have hlt : g' < w.heap.size := (World.ownsRow.lt hown g' hg').2
        simp only [World.cell?, (newB _).2 g' hlt]

section st
variable {w0 w : World} {M0 M : Mem} {Hs : List HO}
/-- Behind an append to an own row. -/
theorem St.appended (h : St w0 M0 w M Hs) {k : Nat} {e : TypeId} {sz n m : Nat} {v v' : Value} {w' : World} {xs news : List Value} (hk : Hs[k]? = some (.own e sz v n xs)) (hown' : w'.ownsRow w0.heap.size e sz v' (n + m) (xs ++ news)) (hlow : Below w0.heap.size w w')
    (hheap : ∀ k, k < w.heap.size → v.ownBlock ≠ some k → w'.heap[k]? = w.heap[k]?) (hpre : ∀ g, v.ownBlock = some g → ∀ o, o < xs.length → w'.cell? ⟨g, o, none⟩ = w.cell? ⟨g, o, none⟩)
    (hblk : v'.ownBlock = v.ownBlock ∨ ∃ b, v'.ownBlock = some b ∧ w.heap.size ≤ b) : ∃ M', St w0 M0 w' M' (Hs.set k (.own e sz v' (n + m) (xs ++ news))) ∧ M.le M' := by
  obtain ⟨hown, hmem⟩ := h.obj hk
  let M' : Mem := fun b o => match v'.ownBlock with
    | some g => if b = g then (if o < (xs ++ news).length then (xs ++ news)[o]? else none) else M b o
    | none => M b o
  have hM'ne : ∀ b, v'.ownBlock ≠ some b → ∀ o, M' b o = M b o := fun b hb o => by
    show (match v'.ownBlock with | some g => _ | none => _) = _
    cases hv : v'.ownBlock with
    | none => rfl
    | some g => simp only; rw [if_neg (fun e => hb (by rw [hv, e]))]
  have hM'eq : ∀ g, v'.ownBlock = some g → ∀ o, M' g o = (xs ++ news)[o]? := fun g hg o => by
    show (match v'.ownBlock with | some g => _ | none => _) = _
    rw [hg]; simp only [if_true]
    split
    · rfl
    · rename_i ho; rw [List.getElem?_eq_none (by omega)]
  have hle : M.le M' := fun b o u hu => by
    by_cases hb : v'.ownBlock = some b
    · rcases hblk with h2 | ⟨b', h2, h3⟩
      · have hvb : v.ownBlock = some b := by rw [← h2]; exact hb
        have hlo : o < xs.length := by
          rcases Nat.lt_or_ge o xs.length with h4 | h4
          · exact h4
          · rw [(hmem b hvb).2 o h4] at hu; cases hu
        rw [hM'eq b hb, List.getElem?_append_left hlo, ← (hmem b hvb).1 o hlo, hu]
      · rw [hb] at h2; cases h2
        have := h.sat.lt hu; omega
    · rw [hM'ne b hb, hu]
  have hsat' : Sat w' M' := ⟨fun b o u hu => by
    by_cases hb : v'.ownBlock = some b
    · rw [hM'eq b hb] at hu
      have := hown'.cells hb o u hu
      rwa [add_none, Nat.zero_add] at this
    · rw [hM'ne b hb] at hu
      have hlt := h.sat.lt hu
      by_cases hvb : v.ownBlock = some b
      · have hlo : o < xs.length := by
          rcases Nat.lt_or_ge o xs.length with h4 | h4
          · exact h4
          · rw [(hmem b hvb).2 o h4] at hu; cases hu
        rw [hpre b hvb o hlo]; exact h.sat.cell b o u hu
      · have := h.sat.cell b o u hu
        simp only [World.cell?, hheap b hlt hvb] at this ⊢; exact this⟩
  refine ⟨M', ?_, hle⟩
  refine h.write hk hlow hsat' (fun b o hb => hM'ne b (fun e => by have := (World.ownsRow.lt hown' b e).1; omega) o) (fun b hb hne => hheap b hb hne) (fun b hb hne o => hM'ne b (fun e => ?_) o) ⟨hown', fun g hg => ⟨fun o ho => hM'eq g hg o, fun o ho => by rw [hM'eq g hg]; exact List.getElem?_eq_none ho⟩⟩ (fun b hb => ?_)
  · rcases hblk with h2 | ⟨b', h2, h3⟩
    · exact hne (by rw [← e, h2]; rfl)
    · rw [e] at h2; cases h2; omega
  · rcases hblk with h2 | ⟨b', h2, h3⟩
    · exact .inl (by show v.ownBlock = some b; rw [← h2]; exact hb)
    · have hb' : v'.ownBlock = some b := hb
      rw [hb'] at h2; cases h2; exact .inr h3
/-- Append, to an own row. -/
theorem St.append {P : Program} (h : St w0 M0 w M Hs) {k : Nat} {t ty e : TypeId} {i : TypeInfo} {z : Value} {sz n m : Nat} {v x : Value} {xs news : List Value} (hk : Hs[k]? = some (.own e sz v n xs)) (hx : Sl M sz m x news)
    (ht : P.underlying t = some (.slice e)) (hi : P.info? e = some i) (hz : i.zero = some z) (hsize : i.size = sz) (hzs : z.cells.size = sz) (h1 : ∀ u ∈ news, u.oneCell' = true)
    (h63 : n + m ≤ maxLen) (hbytes : (n + m) * i.bytes ≤ 140737488355328) :
    ∃ v' w' M', (Builtin.append_ #[t, t] ty #[v, x]).run P w = .ok v' w' ∧ St w0 M0 w' M' (Hs.set k (.own e sz v' (n + m) (xs ++ news))) ∧ M.le M' := by
  obtain ⟨hown, hmem⟩ := h.obj hk
  obtain ⟨p, cap, rfl, hnc, _, hp⟩ := hx.val
  have hx' : ∃ p' c, (Value.slice p m cap) = .slice p' m c ∧ (0 < m → ∃ a, p' = some a ∧ ∀ j u, news[j]? = some u → w.cell? (a.add j) = some u) := by
    refine ⟨p, cap, rfl, fun hm => ?_⟩
    obtain ⟨b, o, hp', hc⟩ := hp hm
    refine ⟨_, hp', fun j u hu => ?_⟩
    rw [add_none]
    refine h.sat.cell _ _ _ ?_
    rw [hc j (List.getElem?_eq_some_iff.1 hu).1, hu]
  obtain ⟨v', w', hr, hown', hlow, hheap, hpre, hblk⟩ := run_append_mine (P := P) w w0.heap.size t ty e i z sz ht hi hz hsize hzs v n xs hown _ m news hx.len hx' h1 h63 hbytes h.size
  obtain ⟨M', h1', h2'⟩ := h.appended hk hown' hlow hheap hpre hblk
  exact ⟨v', w', M', hr, h1', h2'⟩
end st

section rl
variable {P : Program} {ops : Array Oper} {Q : Exit → Act → World → Prop} {N : Nat} {rest : List Oper} {L : Env} {w0 w : World} {M0 M : Mem} {Hs : List HO} {d : Nat} {ty : TypeId} {ps : String} {af : Array Edge}
/-- A slice's literal. -/
theorem RL.buildSlice {t e : TypeId} {n sz : Nat} {xs : List (Nat × Operand)} {vs : List (Nat × Value)} {cs : List Value} (hS : St w0 M0 w M Hs) (hx : Parts L true xs vs) (hl : cs.length = n * sz) (hm : Nat.ble n 9223372036854775807 = true)
    (hr : ∀ w, (Instr.buildSlice t n vs.toArray).run P w = .ok (.slice (some ⟨w.heap.size, 0, none⟩) n n) (w.alloc (.cells cs.toArray e))) (hd : Nat.blt d N = true)
    (h : ∀ v w' M', St w0 M0 w' M' (.own e sz v n cs :: Hs) → M.le M' → RL P ops Q N rest ((d, true, v) :: L) w') : RL P ops Q N (⟨some d, .buildSlice t n xs.toArray, ty, ps, af, none⟩ :: rest) L w := by
  intro a hs
  refine wpList_plain rfl fun K hK => ?_
  have e1 : xs.toArray.map (fun p => (p.1, a.eval p.2)) = vs.toArray := by rw [List.map_toArray, Parts.map hs rfl xs vs hx]
  have key : (execOp a.eval ⟨some d, .buildSlice t n xs.toArray, ty, ps, af, none⟩).run P w = .ok (.value (.slice (some ⟨w.heap.size, 0, none⟩) n n)) (w.alloc (.cells cs.toArray e)) := by
    simp only [execOp, e1]; rw [Sem.run_bind, hr w]; rfl
  simp only [Oper.wp, key, Oper.upon_value]
  obtain ⟨h1, h2⟩ := hS.newRow e sz n cs hl (by have := Nat.le_of_ble_eq_true hm; simp only [maxLen]; omega)
  exact hK _ _ (h _ _ _ h1 h2 _ (hs.put hd true _))
/-- Append. -/
theorem RL.append {t e : TypeId} {s x : Operand} {i : TypeInfo} {z : Value} {k sz n m : Nat} {v vx : Value} {xs news : List Value} (hS : St w0 M0 w M Hs) (hk : Hs[k]? = some (.own e sz v n xs)) (hs : Opd L true s v) (hx : Opd L true x vx) (hsl : Sl M sz m vx news)
    (ht : P.underlying t = some (.slice e)) (hi : P.info? e = some i) (hz : i.zero = some z) (hsize : i.size = sz) (hzs : z.cells.size = sz) (h1 : (∀ u ∈ news, u.oneCell' = true))
    (hb : (n : Int) + m ≤ 9223372036854775807 ∧ ((n : Int) + m) * i.bytes ≤ 140737488355328) (hd : Nat.blt d N = true)
    (h : ∀ v' w' M', St w0 M0 w' M' (Hs.set k (.own e sz v' (n + m) (xs ++ news))) → M.le M' → RL P ops Q N rest ((d, true, v') :: L) w') : RL P ops Q N (⟨some d, .call ⟨.builtin .append, #[s, x], #[t, t]⟩, ty, ps, af, none⟩ :: rest) L w := by
  intro a hsl'
  refine wpList_plain rfl fun K hK => ?_
  have hb2 : (n + m) * i.bytes ≤ 140737488355328 := by
    have h2 := hb.2
    rw [← Int.natCast_add, ← Int.natCast_mul] at h2
    generalize (n + m) * i.bytes = q at h2 ⊢
    omega
  obtain ⟨v', w', M', hr, hS', hle⟩ := hS.append (P := P) (ty := ty) hk hsl ht hi hz hsize hzs h1 (by simp only [maxLen]; omega) hb2
  have key : (execOp a.eval ⟨some d, .call ⟨.builtin .append, #[s, x], #[t, t]⟩, ty, ps, af, none⟩).run P w = .ok (.value v') w' := by
    simp only [execOp, resolve, invoke, builtin, Sem.run_bind, Sem.run_pure, Result.andThen_ok, List.map_toArray, List.map_cons, List.map_nil, hs a N hsl' rfl, hx a N hsl' rfl, hr]
  simp only [Oper.wp, key, Oper.upon_value]
  exact hK _ _ (h _ _ _ hS' hle _ (hsl'.put hd true _))
end rl

/-! ### The same, of lists of things -/
theorem flat_snoc {α : Type} (f : α → List Value) (l : List α) (x : α) : (l ++ [x]).flatMap f = l.flatMap f ++ f x := by simp
section typed
variable {P : Program} {C : World → Prop} {L : Env} {W : Bool} {d : Option Tmp} {ty : TypeId} {ps : String} {af : Array Edge} {gd : Option (Nat × Bool)} {M : Mem}
theorem PV.lenT {α : Type} {l : List α} {t : TypeId} {x : Operand} {sz : Nat} {v : Value} {cs : List Value} (h : Sl M sz l.length v cs) (hx : Opd L W x v) (ht : ∃ e, P.underlying t = some (.slice e)) : PV P C L W ⟨d, .call ⟨.builtin .len, #[x], #[t]⟩, ty, ps, af, gd⟩ (i64 (len l)) := PV.lenSl h hx ht
theorem PV.idxT {α : Type} {l : List α} {t e : TypeId} {x y : Operand} {sz : Nat} {v : Value} {cs : List Value} {k : IntKind} {i : Int} (h : Sl M sz l.length v cs) (hx : Opd L W x v) (hy : Opd L W y (.int k i)) (ht : P.underlying t = some (.slice e)) (hs : ∀ w, (sizeOf e).run P w = .ok sz w)
    (hr : W = true → 0 ≤ i ∧ i < len l) : PV P C L W ⟨d, .indexAddr t x y, ty, ps, af, gd⟩ (.pointer (some ⟨sb v, so v + i.toNat * sz, none⟩)) := PV.idxSl h hx hy ht hs hr
end typed
section rl
variable {P : Program} {ops : Array Oper} {Q : Exit → Act → World → Prop} {N : Nat} {rest : List Oper} {L : Env} {w0 w : World} {M0 M : Mem} {Hs : List HO} {d : Nat} {ty : TypeId} {ps : String} {af : Array Edge}
theorem RL.appendL {α : Type} {f : α → List Value} {l m : List α} {t e : TypeId} {s x : Operand} {i : TypeInfo} {z : Value} {k sz by' : Nat} {v vx : Value} (hS : St w0 M0 w M Hs) (hk : Hs[k]? = some (.own e sz v l.length (l.flatMap f))) (hs : Opd L true s v) (hx : Opd L true x vx) (hsl : Sl M sz m.length vx (m.flatMap f))
    (ht : P.underlying t = some (.slice e)) (hi : P.info? e = some i) (hz : i.zero = some z) (hsize : i.size = sz) (hzs : z.cells.size = sz) (h1 : ∀ x, ∀ u ∈ f x, u.oneCell' = true) (hby : i.bytes = by') (hb0 : Nat.blt 0 by' = true)
    (hb : (len l + len m) * by' ≤ 140737488355328) (hd : Nat.blt d N = true) {Hs' : Value → List HO} (hHs : ∀ v', Hs.set k (.own e sz v' (l ++ m).length ((l ++ m).flatMap f)) = Hs' v')
    (h : ∀ v' w' M', St w0 M0 w' M' (Hs' v') → M.le M' → RL P ops Q N rest ((d, true, v') :: L) w') : RL P ops Q N (⟨some d, .call ⟨.builtin .append, #[s, x], #[t, t]⟩, ty, ps, af, none⟩ :: rest) L w := by
  subst hby
  have hb0' : 0 < i.bytes := by simpa [Nat.blt_eq] using hb0
  unfold len at hb
  refine RL.append hS hk hs hx hsl ht hi hz hsize hzs (fun u hu => ?_) ⟨?_, hb⟩ hd fun v' w' M' h2 h3 => h v' w' M' ?_ h3
  · obtain ⟨y, _, hy⟩ := List.mem_flatMap.1 hu
    exact h1 y u hy
  · have : ((l.length : Int) + m.length) * 1 ≤ ((l.length : Int) + m.length) * i.bytes := Int.mul_le_mul_of_nonneg_left (by omega) (by omega)
    omega
  · rw [← hHs v', List.length_append, List.flatMap_append]; exact h2
theorem RL.append1 {α : Type} {f : α → List Value} {l : List α} {y : α} {t e : TypeId} {s x : Operand} {i : TypeInfo} {z : Value} {k sz by' : Nat} {v vx : Value} (hS : St w0 M0 w M Hs) (hk : Hs[k]? = some (.own e sz v l.length (l.flatMap f))) (hs : Opd L true s v) (hx : Opd L true x vx) (hsl : Sl M sz 1 vx (f y))
    (ht : P.underlying t = some (.slice e)) (hi : P.info? e = some i) (hz : i.zero = some z) (hsize : i.size = sz) (hzs : z.cells.size = sz) (h1 : ∀ x, ∀ u ∈ f x, u.oneCell' = true) (hby : i.bytes = by') (hb0 : Nat.blt 0 by' = true)
    (hb : (len l + 1) * by' ≤ 140737488355328) (hd : Nat.blt d N = true) {Hs' : Value → List HO} (hHs : ∀ v', Hs.set k (.own e sz v' (l ++ [y]).length ((l ++ [y]).flatMap f)) = Hs' v')
    (h : ∀ v' w' M', St w0 M0 w' M' (Hs' v') → M.le M' → RL P ops Q N rest ((d, true, v') :: L) w') : RL P ops Q N (⟨some d, .call ⟨.builtin .append, #[s, x], #[t, t]⟩, ty, ps, af, none⟩ :: rest) L w :=
  RL.appendL (m := [y]) hS hk hs hx (by simpa using hsl) ht hi hz hsize hzs h1 hby hb0 hb hd hHs h
end rl
end Go.Eng
