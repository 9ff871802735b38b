/-
  THE ENGINE, PART 9: the bytes of a string, appended to an own row of bytes. Over any program.
-/
import Derived.Test.YthdialbnlnjgpaaGreatDoorEngH
import Derived.Lib.AppendStr
import Derived.LoopN
import Derived.WideLaws
set_option linter.unusedVariables false
set_option linter.unusedSimpArgs false
namespace Go.Eng
open Go.RowKit Go.Lib

theorem run_append_mine_str {P : Program} (w : World) (base : Nat) (t u ty e : TypeId) (i : TypeInfo) (ht : P.underlying t = some (.slice e)) (hu : P.underlying u = some .string) (hi : P.info? e = some i) (hz : i.zero = some (.int .u8 0)) (hsize : i.size = 1) (hby : i.bytes = 1)
    (v : Value) (n : Nat) (xs : List Value) (hown : w.ownsRow base e 1 v n xs) (s : ByteArray) (h63 : n + s.size ≤ maxLen) (hbytes : n + s.size ≤ 140737488355328) (hbase : base ≤ w.heap.size) :
    ∃ v' w', (Builtin.append_ #[t, u] ty #[v, .string s]).run P w = .ok v' w' ∧ w'.ownsRow base e 1 v' (n + s.size) (xs ++ strCells s) ∧ Below base w w' ∧
      (∀ k, k < w.heap.size → v.ownBlock ≠ some k → w'.heap[k]? = w.heap[k]?) ∧ (∀ g, v.ownBlock = some g → ∀ o, o < xs.length → w'.cell? ⟨g, o, none⟩ = w.cell? ⟨g, o, none⟩) ∧
      (v'.ownBlock = v.ownBlock ∨ ∃ b, v'.ownBlock = some b ∧ w.heap.size ≤ b) := by
  have hsmall : n + s.size ≤ 9223372036854775807 := by simp only [maxLen] at h63; omega
  have hxl : xs.length = n := by simpa using hown.1
  have hlen : (xs ++ strCells s).length = (n + s.size) * 1 := by rw [List.length_append, hxl, strCells_length, Nat.mul_one]
  have grown : ∀ (old : Nat),
      (w.drew.alloc (.cells (xs.toArray ++ (strCells s).toArray ++ Builtin.zeroCells (Value.int .u8 0).cells (grownCap w (n + s.size) old e - (n + s.size))) e)).ownsRow base e 1
        (.slice (some ⟨w.heap.size, 0, none⟩) (n + s.size) (grownCap w (n + s.size) old e)) (n + s.size) (xs ++ strCells s) := by
    intro old
    have hge := grownCap_ge w (n + s.size) old e
    have hcm : grownCap w (n + s.size) old e ≤ maxLen := grownCap_le_maxLen w (n + s.size) old e h63
    refine ⟨hlen, .inr ⟨w.heap.size, _, _, rfl, hbase, heap_alloc_new w.drew _, hge, hcm, ?_, ?_⟩⟩
    · have hz1 : (Value.int IntKind.u8 0).cells.size = 1 := rfl
      simp only [Array.size_append, List.size_toArray, size_zeroCells, hz1, hxl, strCells_length]
      omega
    · simp only [Array.toList_append, List.append_assoc]
      rw [← List.append_assoc, ← hlen]
      exact List.take_left
  have newB : ∀ o : Obj, Below base w (w.drew.alloc o) ∧ (∀ k, k < w.heap.size → (w.drew.alloc o).heap[k]? = w.heap[k]?) := fun o =>
    ⟨((Below.refl base w).drew).alloc hbase o, fun k hk => Below.heap_alloc w.drew o k hk⟩
  rcases hown.2 with ⟨rfl, rfl⟩ | ⟨g, cap, cur, rfl, hbg, hg, hnc, hcm, hcs, htake⟩
  · have hx : xs = [] := List.eq_nil_of_length_eq_zero hxl
    subst hx
    by_cases hm : s.size = 0
    · have hn : strCells s = [] := List.eq_nil_of_length_eq_zero (by rw [strCells_length]; exact hm)
      refine ⟨.slice none 0 0, w, ?_, by rw [hm, hn]; exact World.ownsRow_nil w base e 1, Below.refl _ _, fun _ _ _ => rfl, fun _ _ _ _ => rfl, .inl rfl⟩
      have hf := run_firstCells_string (P := P) w 1 s
      rw [hm] at hf
      simp [Builtin.append_, run_underlying ht, run_underlying hu, sizeOf, typeInfo, hi, hsize, Builtin.lenOf, hm, hf]
    · have hr := run_append_nil_string (P := P) w t u ty e i (.int .u8 0) ht hu hi hz s (by omega) (by omega) (by rw [hby]; omega)
      have hgr := grown 0
      simp only [Nat.zero_add, List.nil_append, Array.empty_append] at hgr ⊢
      have e1 : (s.data.map fun b => Value.int .u8 b.toNat) = (strCells s).toArray := by
        apply Array.ext'
        simp [strCells]
      rw [e1] at hr
      exact ⟨_, _, hr, hgr, (newB _).1, fun k hk _ => (newB _).2 k hk, fun g hg => (by cases hg), .inr ⟨_, rfl, Nat.le_refl _⟩⟩
  · by_cases hroom : n + s.size ≤ cap
    · have hcs' : cur.size = cap := by simpa using hcs
      have hr := run_append_room_string (P := P) w t u ty e i ht hu hi hsize g n cap cur hg s hroom (by omega)
      refine ⟨_, _, hr, ⟨hlen, .inr ⟨g, cap, _, rfl, hbg, heap_setRow_self w g _ cur e _ hg, hroom, hcm, ?_, ?_⟩⟩, below_setRow _ hbg, fun k _ hk => heap_setRow_ne w g k _ (fun e => hk (by simp [Value.ownBlock, e])), fun g' hg' o ho => ?_, .inl rfl⟩
      · simp only [List.size_toArray, List.length_append, List.length_take, List.length_drop, Array.length_toList, strCells_length]
        omega
      · have ht' : cur.toList.take n = xs := by simpa using htake
        rw [ht', ← hlen]
        exact List.take_left
      · simp only [Value.ownBlock, Option.some.injEq] at hg'; subst hg'
        simp only [World.cell?, heap_setRow_self w g _ cur e _ hg, hg]
        have hlo : o < n := by rw [← hxl]; exact ho
        have hoc : o < cur.size := by omega
        rw [List.append_assoc]
        simp only [List.getElem?_toArray]
        rw [List.getElem?_append_left (by simp; omega), List.getElem?_take]
        simp [hlo, hoc]
    · have holds : ∀ j u, xs[j]? = some u → w.cell? ((⟨g, 0, none⟩ : Addr).add j) = some u := hown.cells (g := g) rfl
      have hr := run_append_grow_string (P := P) w t u ty e i (.int .u8 0) ht hu hi hz ⟨g, 0, none⟩ n cap xs (by rw [hsize]; simpa using hxl) holds s (by omega) (by omega) (by rw [hby]; exact growslice_fits (by omega) (by omega))
      refine ⟨_, _, hr, grown cap, (newB _).1, fun k hk _ => (newB _).2 k hk, fun g' hg' o _ => ?_, .inr ⟨_, rfl, Nat.le_refl _⟩⟩
      have hlt : g' < w.heap.size := (World.ownsRow.lt hown g' hg').2
      simp only [World.cell?, (newB _).2 g' hlt]
/-- A string's bytes, as numbers. -/
def ints (s : Str) : List Int := s.map (fun b => (b.toNat : Int))
theorem ints_app (a b : Str) : ints (a ++ b) = ints a ++ ints b := List.map_append
theorem ints_len (s : Str) : len (ints s) = len s := by unfold ints len; simp
theorem ints_str (s : Str) : toStr (ints s) = s := by
  unfold toStr ints
  rw [List.map_map]
  conv => rhs; rw [← List.map_id s]
  apply List.map_congr_left
  intro b _
  simp
theorem strCells_ints (s : Str) : strCells ⟨⟨s⟩⟩ = (ints s).flatMap u8I := by
  rw [flat_u8I]; unfold strCells ints; rw [List.map_map]; rfl
/-! ### Errors -/
def isNilV : Value → Bool | .nilIface => true | _ => false
theorem PV.neNil {P : Program} {C : World → Prop} {L : Env} {W : Bool} {d : Option Tmp} {ty : TypeId} {ps : String} {af : Array Edge} {gd : Option (Nat × Bool)} {t t' : TypeId} {x : Operand} {v : Value} (hx : Opd L W x v) (hv : v = .nilIface ∨ ∃ u p, v = .iface u p) (ht : P.underlying t = some (.interface (P.methodsAt t))) :
    PV P C L W ⟨d, .binOp .neq t x (.const .nilIface) t', ty, ps, af, gd⟩ (.bool (!isNilV v)) :=
  .bin hx .c fun _ w _ => by
    rcases hv with rfl | ⟨u, p, rfl⟩
    · have := run_neq_nil_nil (P := P) w t ht
      simp [go_sem, this, isNilV]
    · have := run_neq_held_nil (P := P) w t u p ht
      simp [go_sem, this, isNilV]
/-! ### A loop, round by round -/
theorem CW.unroll {P : Program} {Q : Exit → Act → World → Prop} {N : Nat} {L : Env} {w : World} {c : Code} (n : Nat) (h : CW P c (Exit.then (Code.rounds P c Q n) Q) N L w) : CW P (.loop c) Q N L w := fun a hs => wp_loop_rounds (n + 1) (h a hs)
theorem CW.round {P : Program} {Q : Exit → Act → World → Prop} {N : Nat} {L L' : Env} {w : World} {c : Code} {n : Nat} (ks : List Nat) (hk : Eng.keep ks L = L') (h : CW P c (Exit.then (Code.rounds P c Q n) Q) N L' w) : ∀ a, Slots a N L → Code.rounds P c Q (n + 1) a w := fun a hs => h a (hk ▸ hs.keep ks)
theorem RL.insert {P : Program} {ops : Array Oper} {Q : Exit → Act → World → Prop} {N : Nat} {rest : List Oper} {L : Env} {w0 w : World} {M0 M : Mem} {Hs : List HO} {ty : TypeId} {ps : String} {af : Array Edge} {t kt e : TypeId} {k : IntKind} {m x y : Operand} {i b c c' : Nat} {l l' : List KV} {n : Int} {v : Value} {Hs' : List HO} (hS : St w0 M0 w M Hs) (hi : Hs[i]? = some (.raw b (mobj k l c))) (hm : Opd L true m (.map (some b))) (hx : Opd L true x (.int k n)) (hy : Opd L true y v)
    (ht : P.underlying t = some (.map kt e)) (hk : P.underlying kt = some (.int k)) (hl : kset l c n v = l') (hc : kclk l c n v = c') (hHs : Hs.set i (.raw b (mobj k l' c')) = Hs')
    (h : ∀ w', St w0 M0 w' M Hs' → RL P ops Q N rest L w') : RL P ops Q N (⟨none, .insert t m x y, ty, ps, af, none⟩ :: rest) L w := RL.mapUpdate true hS hi hm hx hy ht hk hl hc hHs h
theorem RL.mapUpd {P : Program} {ops : Array Oper} {Q : Exit → Act → World → Prop} {N : Nat} {rest : List Oper} {L : Env} {w0 w : World} {M0 M : Mem} {Hs : List HO} {ty : TypeId} {ps : String} {af : Array Edge} {t kt e : TypeId} {k : IntKind} {m x y : Operand} {i b c c' : Nat} {l l' : List KV} {n : Int} {v : Value} {Hs' : List HO} (hS : St w0 M0 w M Hs) (hi : Hs[i]? = some (.raw b (mobj k l c))) (hm : Opd L true m (.map (some b))) (hx : Opd L true x (.int k n)) (hy : Opd L true y v)
    (ht : P.underlying t = some (.map kt e)) (hk : P.underlying kt = some (.int k)) (hl : kset l c n v = l') (hc : kclk l c n v = c') (hHs : Hs.set i (.raw b (mobj k l' c')) = Hs')
    (h : ∀ w', St w0 M0 w' M Hs' → RL P ops Q N rest L w') : RL P ops Q N (⟨none, .mapUpdate t m x y, ty, ps, af, none⟩ :: rest) L w := RL.mapUpdate false hS hi hm hx hy ht hk hl hc hHs h
theorem PV.entryV {P : Program} {C : World → Prop} {L : Env} {W : Bool} {d : Option Tmp} {ty : TypeId} {ps : String} {af : Array Edge} {gd : Option (Nat × Bool)} {w0 w : World} {M0 M : Mem} {Hs : List HO} {k : IntKind} {x : Operand} {i j b r c since : Nat} {seen : Array Nat} {l : List KV} {p : KV} {u : Value} (hS : St w0 M0 w M Hs) (hC : ∀ w', C w' → Ext w w') (hi : Hs[i]? = some (.raw b (mobj k l c))) (hj : Hs[j]? = some (.raw r (.mapIter (some b) since (seen.push p.born) c))) (hx : Opd L W x (.pointer (some ⟨r, 0, none⟩)))
    (hp : p ∈ l) (hn : (l.map (·.born)).Nodup) (hu : p.val = u) : PV P C L W ⟨d, .entry x, ty, ps, af, gd⟩ (.tuple #[.int k p.key, u]) := hu ▸ PV.entry hS hC hi hj hx hp hn
section rl
variable {P : Program} {ops : Array Oper} {Q : Exit → Act → World → Prop} {N : Nat} {rest : List Oper} {L : Env} {w0 w : World} {M0 M : Mem} {Hs : List HO} {d : Nat} {ty : TypeId} {ps : String} {af : Array Edge}
/-- A slice, stored. -/
theorem RL.storeS {t t' : TypeId} {x y : Operand} {i b o sz n : Nat} {cs cs' us : List Value} {v : Value} (hS : St w0 M0 w M Hs) (hv : Sl M sz n v us) (hi : Hs[i]? = some (.box b cs t')) (hx : Opd L true x (.pointer (some ⟨b, o, none⟩))) (hy : Opd L true y v) (hs : ∀ w, (sizeOf t).run P w = .ok 1 w)
    (hfit : Nat.ble (o + 1) cs.length = true) (hcs : splice cs o [v] = cs') {Hs' : List HO} (hHs : Hs.set i (.box b cs' t') = Hs')
    (h : ∀ w', St w0 M0 w' M Hs' → RL P ops Q N rest L w') : RL P ops Q N (⟨none, .store t x y, ty, ps, af, none⟩ :: rest) L w := by
  obtain ⟨p, cap, rfl, _⟩ := hv.val
  exact RL.storeB hS hi hx hy hs rfl hfit rfl hcs hHs h
theorem RL.appendS {l : List Int} {s : Str} {t u e : TypeId} {x y : Operand} {i : TypeInfo} {k : Nat} {v : Value} (hS : St w0 M0 w M Hs) (hk : Hs[k]? = some (.own e 1 v l.length (l.flatMap u8I))) (hx : Opd L true x v) (hy : Opd L true y (str s))
    (ht : P.underlying t = some (.slice e)) (hu : P.underlying u = some .string) (hi : P.info? e = some i) (hz : i.zero = some (.int .u8 0)) (hsize : i.size = 1) (hby : i.bytes = 1)
    (hb : len l + len s ≤ 140737488355328) (hd : Nat.blt d N = true) {Hs' : Value → List HO} (hHs : ∀ v', Hs.set k (.own e 1 v' (l ++ ints s).length ((l ++ ints s).flatMap u8I)) = Hs' v')
    (h : ∀ v' w' M', St w0 M0 w' M' (Hs' v') → M.le M' → RL P ops Q N rest ((d, true, v') :: L) w') : RL P ops Q N (⟨some d, .call ⟨.builtin .append, #[x, y], #[t, u]⟩, ty, ps, af, none⟩ :: rest) L w := by
  intro a hsl
  refine wpList_plain rfl fun K hK => ?_
  obtain ⟨hown, _⟩ := hS.obj hk
  have hsz : (ByteArray.mk ⟨s⟩).size = s.length := rfl
  obtain ⟨v', w', hr, h1, h2, h3, h4, h5⟩ := run_append_mine_str (P := P) w w0.heap.size t u ty e i ht hu hi hz hsize hby v l.length _ hown ⟨⟨s⟩⟩ (by rw [hsz]; unfold len at hb; simp only [maxLen]; omega) (by rw [hsz]; unfold len at hb; omega) hS.size
  obtain ⟨M', hS', hle⟩ := hS.appended hk h1 h2 h3 h4 h5
  have key : (execOp a.eval ⟨some d, .call ⟨.builtin .append, #[x, y], #[t, u]⟩, ty, ps, af, none⟩).run P w = .ok (.value v') w' := by
    have hr' : (Builtin.append_ #[t, u] ty #[v, str s]).run P w = .ok v' w' := hr
    simp only [execOp, resolve, invoke, builtin, Sem.run_bind, Sem.run_pure, Result.andThen_ok, List.map_toArray, List.map_cons, List.map_nil, hx a N hsl rfl, hy a N hsl rfl, hr']
  simp only [Oper.wp, key, Oper.upon_value]
  refine hK _ _ (h _ _ M' ?_ hle _ (hsl.put hd true _))
  rw [← hHs v', List.length_append, List.flatMap_append, ← strCells_ints]
  have hl2 : (ints s).length = (ByteArray.mk ⟨s⟩).size := by rw [hsz]; unfold ints; simp
  rw [hl2]; exact hS'
end rl
end Go.Eng
