/-
  slices.Sorted(slices.Values(names)): a new row that holds the names, sorted. The walks of AppendSeq, Collect and Sorted are turned from the kit's (SlIter), to an iterator that reads a row between its rounds.
-/
import Derived.Test.YtjfaikgooldcbaaGreatDoorZc0
import Derived.Test.YtjfaikgooldcbaaGreatDoorZc15
import Derived.Test.YtjfaikgooldcbaaGreatDoorZc8
import Derived.Test.YtjfaikgooldcbaaGreatDoorProg
import Derived.Shelf.SlIter.Sorted
import Derived.OwnWalkIn
import Derived.TacticsInMore
import Derived.LoopNIn
import Derived.LoopIn
import Derived.Test.YtjfaikgooldcbaaGreatDoorZc5
import Derived.Laws.BitsLemmas
import Derived.Test.YtjfaikgooldcbaaGreatDoorZc3
import Derived.Test.YtjfaikgooldcbaaGreatDoorZc14
set_option linter.unusedVariables false
set_option linter.unusedSimpArgs false
namespace Go.Proofs.YtjfaikgooldcbaaGreatDoor
open Go.RowKit Go.Shelf Go.Eng Go.Maps Go.Sort
variable {P : Program} {ρ : Ren}
attribute [local go_sem] Oper.semAt_some
/-- What an iterator gives a body that leaves all that was there before. -/
def SeqB (F : Fence) (n : Nat) (P : Program) (g : Nat) (lb : Array Value) (S : List (List UInt8) → Prop) (N : Nat) (w : World) : Prop :=
  ∀ (l : Nat) (J : List (List UInt8) → World → Prop) (W : World), Below w.heap.size w W → AbidesFrom W.heap.size J → (∀ ss W1, J ss W1 → Below w.heap.size w W1) →
    (∀ pre x W1, J pre W1 → pre.length < N → YieldAt F (n - 1) P l #[encStr x] W1 fun e W' => e = .returned (.bool true) ∧ J (pre ++ [x]) W' ∧ KeepsWalks W1 W') →
    J [] W →
    CallsIn F n P g (#[.func (.yield l) #[] #[]] ++ lb) W fun e W' => (∃ v, e = .returned v) ∧ ∃ xs, S xs ∧ J xs W'
set_option maxRecDepth 100000 in
set_option maxHeartbeats 2000000 in
theorem appendSeqB (L : SlLaysZ.n11 P ρ) (F : Fence) (n : Nat) (h11 : F.fn (ρ.f 11)) (hro : F.round = none) (hn : 2 ≤ n) (g : Nat) (lb : Array Value) (hFg : F.fn g) (eg : ∀ args w, (callFunc g args).run P w = .ok (.enter g args) w)
    (S : List (List UInt8) → Prop) (N : Nat) (hN : N ≤ maxLen) (hNb : N * 16 ≤ 140737488355328) (w : World) (hseq : SeqB F (n - 1) P g lb S N w) :
    CallsIn F n P (ρ.f 11) #[.slice none 0 0, .func (.func g) #[] lb] w fun e w' => ∃ (v : Value) (ss : List (List UInt8)), e = .returned v ∧ S ss ∧ w'.ownsRow w.heap.size (ρ.t 26) 1 v ss.length (ss.map encStr) ∧ (v = .slice none 0 0 ↔ ss = []) ∧ Below w.heap.size w w' := by
  have h1 : 1 ≤ n := by omega
  have mixed := L.mixed; have t0 := L.t0; have a0 := L.a0; have z0 := L.z0; have v0 := L.v0; have t24 := L.t24; have a24 := L.a24; have z24 := L.z24; have v24 := L.v24; have t26 := L.t26; have a26 := L.a26; have z26 := L.z26; have v26 := L.v26; have t28 := L.t28; have a28 := L.a28; have z28 := L.z28; have v28 := L.v28
  have hne : ρ.t 24 ≠ ρ.t 26 := fun e => by have h := L.t24; rw [e, L.t26] at h; cases h
  have u0 := run_underlying L.t0; have u24 := run_underlying L.t24; have u26 := run_underlying L.t26; have u28 := run_underlying L.t28
  obtain ⟨_, _, FG⟩ := L.f11
  refine callsIn_of_wp_marks FG rfl h11 ?_ hro
  simp only [SlBodyZ.n11_ntmps ρ, List.size_toArray, List.length_cons, List.length_nil, Nat.reduceAdd, Nat.reduceSub, Array.replicate_succ, Array.replicate_zero, List.push_toArray, List.append_toArray, List.nil_append, List.cons_append]
  gi_wp2
  refine wpIn_rangeFunc ?_
  intro fn hfn
  rw [hro]
  obtain ⟨W0, hW0⟩ : ∃ W0, w.alloc (.cells #[.slice none 0 0] (ρ.t 24)) = W0 := ⟨_, rfl⟩
  have hs0 : W0.heap.size = w.heap.size + 1 := by rw [← hW0]; simp
  have hv0 : W0.heap[w.heap.size]? = some (.cells #[.slice none 0 0] (ρ.t 24) (0, 0)) := by rw [← hW0]; exact World.alloc_heap_new w _
  have hb0 : Below w.heap.size w W0 := by rw [← hW0]; exact (Below.refl _ w).alloc (Nat.le_refl _) _
  rw [hW0]
  obtain ⟨W1, hW1⟩ : ∃ W1, (W0.alloc (.deferred (some []))).alloc (.loop (AnyZ.apRec ρ fn (.func (.func g) #[] lb) w.heap.size W0.heap.size .ready none)) = W1 := ⟨_, rfl⟩
  have hold : ∀ k, k < W0.heap.size → W1.heap[k]? = W0.heap[k]? := fun k hk => by
    rw [← hW1]; exact (Below.heap_alloc _ _ k (by simp; omega)).trans (Below.heap_alloc _ _ k hk)
  have hb1 : Below w.heap.size w W1 := by rw [← hW1]; exact (hb0.alloc hb0.size _).alloc (by have := hb0.size; simp; omega) _
  have hs1 : W1.heap.size = W0.heap.size + 2 := by rw [← hW1]; simp
  have hM : AnyZ.ApAt ρ w fn (.func (.func g) #[] lb) w.heap.size (W0.heap.size + 1) W0.heap.size [] W1 :=
    ⟨⟨_, (hold w.heap.size (by omega)).trans hv0, ⟨rfl, .inl ⟨rfl, rfl⟩⟩, by simp⟩,
     by rw [← hW1]; have := World.alloc_heap_new (W0.alloc (.deferred (some []))) (.loop (AnyZ.apRec ρ fn (.func (.func g) #[] lb) w.heap.size W0.heap.size .ready none)); rwa [World.size_alloc] at this,
     by rw [← hW1]; exact (Below.heap_alloc _ _ _ (by simp)).trans (World.alloc_heap_new W0 _), hb1⟩
  refine ⟨W0.heap.size + 1, [{ target := .collected W0.heap.size, args := #[] }], W1, { target := .fn (.func g) lb, args := #[.func (.yield (W0.heap.size + 1)) #[] #[]] }, W1, g,
    #[.func (.yield (W0.heap.size + 1)) #[] #[]] ++ lb, W1, ?_, ?_, ?_, ?_, fun _ => h1, ?_⟩
  · rw [← hW1]; exact run_enterLoop_outer _ _ _ _ _
  · simp [resolve, go_sem]
  · intro f' hf'; simp [Target.leads] at hf'; subst hf'; exact hFg
  · simp [invoke, go_sem, eg]
  · refine (hseq (W0.heap.size + 1) (AnyZ.ApAt ρ w fn (.func (.func g) #[] lb) w.heap.size (W0.heap.size + 1) W0.heap.size) W1 hb1 (AnyZ.ap_abides ρ _ _ _ _ _ _ _ hb1.size) (fun ss W h => h.below)
      (fun pre x W hJ hl => AnyZ.apYield { L with } F (n - 1 - 1) w fn hfn _ w.heap.size (W0.heap.size + 1) W0.heap.size (by omega) (by omega) (by omega) (Nat.le_refl _) (by omega) N hN hNb pre x W hJ hl) hM).mono ?_
    rintro e W2 ⟨⟨v0, rfl⟩, ss, hS, h2⟩
    obtain ⟨v, hv, hrow, hnil⟩ := h2.box
    have hend := run_endLoop (P := P) h2.L (by simp [AnyZ.apRec])
    obtain ⟨W3, hW3⟩ : ∃ W3, W2.putObj (W0.heap.size + 1) (.loop { AnyZ.apRec ρ fn (.func (.func g) #[] lb) w.heap.size W0.heap.size .ready none with state := .exhausted }) = W3 := ⟨_, rfl⟩
    rw [hW3] at hend
    have hg3 : W2.grownBy W3 (some (W0.heap.size + 1)) := by rw [← hW3]; exact grownBy_putObj_a _ _ _
    have hv3 : W3.heap[w.heap.size]? = some (.cells #[v] (ρ.t 24) (0, 0)) := by rw [← hW3]; exact (World.putObj_heap_other (by omega)).trans hv
    have hK3 : W3.heap[W0.heap.size]? = some (.deferred (some [])) := by rw [← hW3]; exact (World.putObj_heap_other (by omega)).trans h2.K
    have hrow3 := hrow.kept hg3 (ownsRow_ne_a hrow h2.L (fun cur e => by first | cases e | exact hne (Obj.cells.inj e).2.1))
    have hb3 : Below w.heap.size w W3 := h2.below.grown hg3 h2.below.size (fun k e => by cases e; omega)
    obtain ⟨hc3, hf3⟩ := cell_of_box_a hv3
    clear hW3
    refine ⟨none, W3, hend, ?_⟩
    gi_wp2
    rw [← hs0]
    refine ⟨by simp, .inl ⟨_, _, rfl, run_takeDeferred hK3, ?_⟩⟩
    exact ⟨_, results_tmp rfl _ _ _, v, ss, rfl, hS, hrow3.kept (grownBy_putObj_a _ _ _) (ownsRow_ne_a hrow3 hK3 (fun cur e => by first | cases e | exact hne (Obj.cells.inj e).2.1)), hnil, hb3.grown (grownBy_putObj_a _ _ _) hb3.size (fun k e => by cases e; omega)⟩

set_option maxRecDepth 100000 in
set_option maxHeartbeats 2000000 in
theorem collectB (L : SlLaysZ.n8 P ρ) (F : Fence) (n : Nat) (h8 : F.fn (ρ.f 8)) (h11 : F.fn (ρ.f 11)) (hro : F.round = none) (hn : 3 ≤ n) (g : Nat) (lb : Array Value) (hFg : F.fn g) (eg : ∀ args w, (callFunc g args).run P w = .ok (.enter g args) w)
    (S : List (List UInt8) → Prop) (N : Nat) (hN : N ≤ maxLen) (hNb : N * 16 ≤ 140737488355328) (w : World) (hseq : SeqB F (n - 1 - 1) P g lb S N w) :
    CallsIn F n P (ρ.f 8) #[.func (.func g) #[] lb] w fun e w' => ∃ (v : Value) (ss : List (List UInt8)), e = .returned v ∧ S ss ∧ w'.ownsRow w.heap.size (ρ.t 26) 1 v ss.length (ss.map encStr) ∧ (v = .slice none 0 0 ↔ ss = []) ∧ Below w.heap.size w w' := by
  have h1 : 1 ≤ n := by omega
  have e11 : ∀ args w, (callFunc (ρ.f 11) args).run P w = .ok (.enter (ρ.f 11) args) w := L.f11.enters rfl
  have mixed := L.mixed; have t0 := L.t0; have a0 := L.a0; have z0 := L.z0; have v0 := L.v0; have t24 := L.t24; have a24 := L.a24; have z24 := L.z24; have v24 := L.v24; have t26 := L.t26; have a26 := L.a26; have z26 := L.z26; have v26 := L.v26; have t28 := L.t28; have a28 := L.a28; have z28 := L.z28; have v28 := L.v28
  have u0 := run_underlying L.t0; have u24 := run_underlying L.t24; have u26 := run_underlying L.t26; have u28 := run_underlying L.t28
  obtain ⟨_, _, FG⟩ := L.f8
  refine callsIn_of_wp FG rfl h8 ?_ hro
  simp only [SlBodyZ.n8_ntmps ρ, List.size_toArray, List.length_cons, List.length_nil, Nat.reduceAdd, Nat.reduceSub, Array.replicate_succ, Array.replicate_zero, List.push_toArray, List.append_toArray, List.nil_append, List.cons_append]
  gi_wp2_with (gi_at_fn (ρ.f 11); refine (appendSeqB { L with } F (n - 1) h11 hro (by omega) g lb hFg eg S N hN hNb _ hseq).mono ?_; rintro e w' ⟨v, ss, rfl, hS, hrow, hnil, hb⟩)
  go_ret
  exact ⟨v, ss, rfl, hS, hrow, hnil, hb⟩
set_option maxRecDepth 100000 in
set_option maxHeartbeats 2000000 in
theorem sortedB (L : SlLaysZ.n6 P ρ) (F : Fence) (n : Nat) (h6 : F.fn (ρ.f 6)) (h8 : F.fn (ρ.f 8)) (h9 : F.fn (ρ.f 9)) (h11 : F.fn (ρ.f 11)) (hro : F.round = none) (hn : 4 ≤ n) (hsort : AnyZ.SortsIn P ρ F (n - 1)) (e9 : ∀ args w, (callFunc (ρ.f 9) args).run P w = .ok (.enter (ρ.f 9) args) w) (g : Nat) (lb : Array Value) (hFg : F.fn g) (eg : ∀ args w, (callFunc g args).run P w = .ok (.enter g args) w)
    (S : List (List UInt8) → Prop) (N : Nat) (hN : N ≤ maxLen) (hNb : N * 16 ≤ 140737488355328) (w : World) (hseq : SeqB F (n - 1 - 1 - 1) P g lb S N w) (hSN : ∀ ss, S ss → ss.length < 4611686018427387904) :
    CallsIn F n P (ρ.f 6) #[.func (.func g) #[] lb] w fun e w' => ∃ (v : Value) (ss : List (List UInt8)), e = .returned v ∧ S ss ∧
      w'.ownsRow w.heap.size (ρ.t 26) 1 v ss.length ((ss.mergeSort (fun x y => decide (x ≤ y))).map encStr) ∧ (v = .slice none 0 0 ↔ ss = []) ∧ Below w.heap.size w w' := by
  have h1 : 1 ≤ n := by omega
  have e8 : ∀ args w, (callFunc (ρ.f 8) args).run P w = .ok (.enter (ρ.f 8) args) w := L.f8.enters rfl
  have mixed := L.mixed; have t0 := L.t0; have a0 := L.a0; have z0 := L.z0; have v0 := L.v0; have t24 := L.t24; have a24 := L.a24; have z24 := L.z24; have v24 := L.v24; have t26 := L.t26; have a26 := L.a26; have z26 := L.z26; have v26 := L.v26; have t28 := L.t28; have a28 := L.a28; have z28 := L.z28; have v28 := L.v28
  have u0 := run_underlying L.t0; have u24 := run_underlying L.t24; have u26 := run_underlying L.t26; have u28 := run_underlying L.t28
  obtain ⟨_, _, FG⟩ := L.f6
  refine callsIn_of_wp FG rfl h6 ?_ hro
  simp only [SlBodyZ.n6_ntmps ρ, List.size_toArray, List.length_cons, List.length_nil, Nat.reduceAdd, Nat.reduceSub, Array.replicate_succ, Array.replicate_zero, List.push_toArray, List.append_toArray, List.nil_append, List.cons_append]
  gi_wp2_with (gi_at_fn (ρ.f 8); refine (collectB { L with } F (n - 1) h8 h11 hro (by omega) g lb hFg eg S N hN hNb _ hseq).mono ?_; rintro e W ⟨v, ss, rfl, hS, hrow, hnil, hb⟩)
  have hlen := hSN ss hS
  rcases hrow.2 with ⟨rfl, hz⟩ | ⟨gb, cap, cur, rfl, hbase, hgb, r1, r2, r3, r4⟩
  · have hss : ss = [] := List.eq_nil_of_length_eq_zero hz
    subst hss
    gi_wp2_with (gi_at_fn (ρ.f 9); refine (hsort.2 none 0 W).mono ?_; rintro e w' ⟨rfl, rfl⟩)
    go_ret
    exact ⟨.slice none 0 0, [], rfl, hS, by simpa using hrow, by simp, hb⟩
  · have hH : Holds encStr W gb 0 ss.toArray := holds_of_block hgb (by simpa using r4)
    have hgl : gb < W.heap.size := (Array.getElem?_eq_some_iff.1 hgb).1
    have cS := hsort.1 gb 0 cap ss W hH hgl hlen
    gi_wp2_with (gi_at_fn (ρ.f 9); refine cS.mono ?_; rintro e w' ⟨rfl, nn, os, rfl⟩)
    go_ret
    exact ⟨_, ss, rfl, hS, ownsRow_sorted (by simp) hbase hgb r1 r2 r3, hnil, hb.grown (grownBy_sorted _) hb.size (fun j hj => by cases hj; exact hbase)⟩
/-! ### the iterator of slices.Values -/
theorem take_snoc (zs : List (List UInt8)) {k : Nat} (hk : k < zs.length) : zs.take (k + 1) = zs.take k ++ [zs[k]?.getD []] := by
  rw [List.take_add_one, List.getElem?_eq_getElem hk]; rfl
set_option maxRecDepth 100000 in
set_option maxHeartbeats 2000000 in
theorem values1 (F : Fence) (n : Nat) (h7 : F.fn 135) (hro : F.round = none) (hn : 1 ≤ n) (Bs : Nat) (p : Option Addr) (cap : Nat) (zs : List (List UInt8)) (hmx : zs.length ≤ 1099511627776) (w : World)
    (hB : Bs < w.heap.size) (hBs : w.cell? ⟨Bs, 0, none⟩ = some (.slice p zs.length cap)) (hc : 0 < zs.length → ∃ b off, p = some ⟨b, off, none⟩ ∧ ∀ j, j < zs.length → w.cell? ⟨b, off + j, none⟩ = some (encStr (zs[j]?.getD []))) :
    SeqB F n Tryz.prog 135 #[.pointer (some ⟨Bs, 0, none⟩)] (fun ys => ys = zs) zs.length w := fun l J W hW _ hJB hY h0 => by
  have mixed : Tryz.prog.follows .mixedOrders = true := by kernel_rfl
  have hBs' := (hW.cell (p := ⟨Bs, 0, none⟩) hB).trans hBs
  refine callsIn_of_wp Tryz.func135 rfl h7 ?_ hro
  simp only [Tryz.ntmps135, List.size_toArray, List.length_cons, List.length_nil, Nat.reduceAdd, Nat.reduceSub, Array.replicate_succ, Array.replicate_zero, List.push_toArray, List.append_toArray, List.nil_append, List.cons_append]
  gi_wp2
  gi_loopw [7] (fun i wr => ∃ k : Nat, k ≤ zs.length ∧ i = .int .i64 k ∧ J (zs.take k) wr)
    (fun i _ => zs.length - (intOf i).toNat)
  case atStart => exact ⟨0, Nat.zero_le _, rfl, by simpa using h0⟩
  case round =>
    obtain ⟨k, hk, rfl, hJs⟩ := hrel
    have hnx := hJB _ _ hJs
    by_cases hlt : k < zs.length
    · obtain ⟨b, off, rfl, hcs⟩ := hc (by omega)
      have hcx' : wr.cell? ⟨b, off + k, none⟩ = some (encStr (zs[k]?.getD [])) := (hnx.cell (p := ⟨b, off + k, none⟩) (lt_of_cell (hcs k hlt))).trans (hcs k hlt)
      have htk := take_snoc zs hlt
      generalize zs[k]?.getD [] = x at hcx' htk
      obtain ⟨fn, tmps, assign, body, hy, hR⟩ := hY _ x wr hJs (by rw [List.length_take]; omega)
      gi_wp2
      refine hR.mono ?_
      rintro e W3 ⟨rfl, hJ3, hk3⟩
      gi_wp2
      go_roundw
      case rel => exact ⟨k + 1, by omega, by simp, by rw [htk]; exact hJ3⟩
      case measure => simp [intOf]; omega
    · obtain rfl : k = zs.length := by omega
      gi_wp2
      go_end0
      exact ⟨⟨_, rfl⟩, _, rfl, by simpa using hJs⟩
theorem flat_str (l : List Str) : l.flatMap strC = l.map encStr := by
  induction l with
  | nil => rfl
  | cons a l ih => simp only [List.flatMap_cons, List.map_cons, ih]; rfl
theorem newPriv {w0 w w' : World} {M0 M : Mem} {Hs : List HO} {e : TypeId} {sz n : Nat} {v : Value} {xs : List Value} (h : St w0 M0 w M Hs) (hx : Ext w w') (hr : w'.ownsRow w.heap.size e sz v n xs) : St w0 M0 w' M (.priv e sz v n xs :: Hs) := by
  have h1 := h.ext hx
  have hb : ∀ b, v.ownBlock = some b → w.heap.size ≤ b := fun b hb => (World.ownsRow.lt hr b hb).1
  refine ⟨h1.low, h1.sat, h1.old, fun x hx => ?_, List.pairwise_cons.2 ⟨fun y hy b hv => ?_, h.apart⟩⟩
  · rcases List.mem_cons.1 hx with rfl | hx
    · exact ⟨ownsRow_base_a hr h.size, fun b hv o => h.none_of_new (hb b hv) o⟩
    · exact h1.ok x hx
  · intro hy'
    have := (HO.ok.lt (h.ok y hy) hy').2
    have := hb b hv
    omega
set_option maxRecDepth 100000 in
theorem values_c {w wv : World} {M0 M : Mem} {Rs : List HO} (ns : List Str) (vn : Value) (hS : St w M0 wv M Rs) (hn : Sl M 1 ns.length vn (ns.flatMap strC)) : Calls Tryz.prog 105 [vn].toArray wv fun e w' => ∃ u, e = .returned u ∧ ∃ b, u = .func (.func 135) #[] #[.pointer (some ⟨b, 0, none⟩)] ∧ St w M0 w' M (.box b [vn] 46 :: Rs) := by
  have mixed : Tryz.prog.follows .mixedOrders = true := by kernel_rfl
  obtain ⟨p, cap, rfl, _⟩ := hn.val
  have key : Calls Tryz.prog 105 #[.slice p ns.length cap] wv fun e w' => e = .returned (.func (.func 135) #[] #[.pointer (some ⟨wv.heap.size, 0, none⟩)]) ∧ w' = wv.alloc (.cells #[.slice p ns.length cap] 46) := by
    go_enter Tryz.func105, Tryz.ntmps105
    go_wp2
    go_ret
    exact ⟨rfl, rfl⟩
  refine key.mono ?_
  rintro e w' ⟨rfl, rfl⟩
  exact ⟨_, rfl, _, rfl, hS.newBox [.slice p ns.length cap] 46⟩
set_option maxRecDepth 100000 in
theorem sorted_c {w wv : World} {M0 M : Mem} {Rs : List HO} (ns : List Str) (b : Nat) (vn : Value) (hS : St w M0 wv M (.box b [vn] 46 :: Rs)) (hn : Sl M 1 ns.length vn (ns.flatMap strC)) (hmx : len ns ≤ 1099511627776) :
    Calls Tryz.prog 104 [.func (.func 135) #[] #[.pointer (some ⟨b, 0, none⟩)]].toArray wv fun e w' => ∃ u, e = .returned u ∧ ∃ M', St w M0 w' M' (.own 9 1 u (sortN ns).length ((sortN ns).flatMap strC) :: .box b [vn] 46 :: Rs) ∧ M.le M' := by
  have hmx' : ns.length ≤ 1099511627776 := by unfold len at hmx; omega
  obtain ⟨p, cap, rfl, hc1, hc2, hc3⟩ := hn.val
  have hbx := hS.obj (i := 0) rfl
  have hbc : wv.cell? ⟨b, 0, none⟩ = some (.slice p ns.length cap) := (cell_of_box_a hbx.2.1).1
  have hbl : b < wv.heap.size := lt_of_cell hbc
  have hseq := values1 Fence.wide 2 trivial rfl (by omega) b p cap ns hmx' wv hbl hbc (fun h0 => by
    obtain ⟨b2, o, rfl, hj⟩ := hc3 h0
    refine ⟨b2, o, rfl, fun j hlt => ?_⟩
    have h1 := hj j (by rw [flat_str, List.length_map]; exact hlt)
    have h2 : (ns.flatMap strC)[j]? = some (encStr (ns[j]?.getD [])) := by rw [flat_str, List.getElem?_map, List.getElem?_eq_getElem hlt]; rfl
    rw [h2] at h1
    exact hS.sat.cell _ _ _ h1)
  have hS5 := sortedB Tryz.sortedA Fence.wide 5 trivial trivial trivial trivial rfl (by omega) (Tryz.sortsA _) (enters_of Tryz.func134 (by kernel_rfl) rfl) 135 #[.pointer (some ⟨b, 0, none⟩)] trivial (enters_of Tryz.func135 (by kernel_rfl) rfl) (fun ys => ys = ns) ns.length (by unfold maxLen; omega) (by omega) wv hseq (fun ss h => by subst h; omega)
  refine (callsIn_wide.1 hS5).mono ?_
  rintro e w' ⟨v, ss, rfl, rfl, hr, hnil, hb⟩
  have hr2 : w'.ownsRow wv.heap.size 9 1 v (sortN ss).length ((sortN ss).flatMap strC) := by
    rw [flat_str]; unfold sortN; rw [List.length_mergeSort]; exact hr
  obtain ⟨M', h2, hle⟩ := (newPriv hS hb hr2).show (k := 0) rfl
  exact ⟨v, rfl, M', h2, hle⟩
end Go.Proofs.YtjfaikgooldcbaaGreatDoor
set_option maxRecDepth 100000
namespace Go.Proofs.YtjfaikgooldcbaaGreatDoor
open Go.Eng

theorem valid_c (s : Str) (w : World) (hg : Gl w) (hb : len s ≤ 9223372036854775807) : Calls Tryz.prog 103 [str s].toArray w fun e w' => e = .returned (.bool (Lib.validD s)) ∧ Ext w w' :=
  Tryz.utf8_ValidString ⟨⟨s⟩⟩ w (by unfold len at hb; have h : s.length ≤ 9223372036854775807 := (by omega); exact h) hg.u8
theorem laid_c3 {w wv : World} {M0 M : Mem} {Rs : List HO} (ns : List Str) (rs : List SlH) (xs : List Vl) (vn va : Value) (hS : St w M0 wv M Rs) (hn : Sl M 1 (sortN ns).length vn ((sortN ns).flatMap strC)) (ha : Sl M 1 rs.length va (rs.flatMap valI)) (hrow : RowsV M 6 Nd.cells rs (partsL (sortN ns) (ns.zip xs)))
    (hnx : len ns = len xs) (hnd : ns.Nodup) (hne : ∀ x ∈ xs, x ≠ []) (hbd : len xs.flatten ≤ 1099511627776) :
    Calls Tryz.prog 106 [vn, va].toArray wv fun e w' => ∃ u, e = .returned u ∧ ∃ a c M', u = .slice a (objV (ns.zip xs)).length c ∧ Sl M' 6 (objV (ns.zip xs)).length u ((objV (ns.zip xs)).flatMap Nd.cells) ∧ St w M0 w' M' Rs ∧ M.le M' := by
  have hk : KeysOK (ns.zip xs) := by unfold KeysOK; rw [zip_keys hnx]; exact hnd
  have e := laid_obj (ns.zip xs)
  have e2 := partsL_len hk
  rw [zip_keys hnx] at e e2
  rw [zip_vals hnx] at e2
  rw [← e]
  refine laid_c (sortN ns) rs _ vn va hS hn ha hrow ?_ ?_ (by rw [e2]; exact hbd)
  · have := hrow.len; unfold partsL at this; rw [List.length_map] at this; unfold len; omega
  · intro x hx
    unfold partsL at hx
    obtain ⟨n, hn, rfl⟩ := List.mem_map.1 hx
    obtain ⟨y, h1, h2⟩ := getV_in (m := ns.zip xs) (n := n) (by rw [zip_keys hnx]; exact sortN_mem.1 hn)
    rw [h1]
    exact hne _ (List.of_mem_zip h2).2
/- loupe/val.Object -/
theorem vobject_c {w wv : World} {M0 M : Mem} {Rs : List HO} (ns : List Str) (rs : List SlH) (xs : List Vl) (vn va : Value) (hS : St w M0 wv M Rs) (hn : Sl M 1 ns.length vn (ns.flatMap strC)) (ha : Sl M 1 rs.length va (rs.flatMap valI)) (hrow : RowsV M 6 Nd.cells rs xs) (hnl : len ns = len rs) (hg : Gl w) (hnd : ns.Nodup) (hu : ∀ n ∈ ns, utf n = true) (hsz : ∀ n ∈ ns, len n ≤ 4398046511104) (hmx : len ns ≤ 1099511627776) (hne : ∀ x ∈ xs, x ≠ []) (hbd : len xs.flatten ≤ 1099511627776) :
  Calls Tryz.prog 76 [vn, va].toArray wv fun e w' => ∃ u, e = .returned u ∧ ∃ a c M', u = .tuple #[.slice a (objV (ns.zip xs)).length c, i64 0] ∧ Sl M' 6 (objV (ns.zip xs)).length (.slice a (objV (ns.zip xs)).length c) ((objV (ns.zip xs)).flatMap Nd.cells) ∧ St w M0 w' M' Rs ∧ M.le M' := by
 refine CW.enter1 Tryz.func76 rfl Tryz.ntmps76 (Nat.le_of_ble_eq_true rfl) fun Q hE => ?_
 have hrl : len rs = len xs := by unfold len; rw [hrow.len]
 have hnx : len ns = len xs := by omega
 have hn0 := len_nonneg rs
 have hsl := sortN_len ns
 refine CW.weaken [0, 1] (L' := [Y 0 vn, Y 1 va]) ?_ rfl
 refine CW.sr ?_
 have hS1 := hS.ownNil 38 6
 refine RL.u (.assign .c) rfl (RL.u (.assign .c) rfl (RL.nil (CW.id ?_)))
 refine CW.seq (CW.sr (RL.m rfl rfl (RL.u (.lenT hn (.t rfl) ⟨_, Tryz.underlying46⟩) rfl (RL.m rfl rfl (RL.u (.lenT ha (.t rfl) ⟨_, Tryz.underlying47⟩) rfl (RL.u (.neq (.t rfl) (.t rfl)) rfl (RL.nil (CW.id ?_))))))))
 refine CW.cond rfl ?_ ?_ <;> intro hb1 <;> try simp only [zb] at hb1
 ·exfalso; omega
 ·refine CW.skip (CW.id (CW.sr ?_))
  refine RL.smakeMap hS1 rfl (fun w2 b3 hS4 => ?_)
  refine RL.a rfl rfl (RL.nil (CW.id ?_))
  refine CW.seq (CW.sr (RL.m rfl rfl (RL.u (.lenT hn (.t rfl) ⟨_, Tryz.underlying46⟩) rfl (RL.u (.move .c) rfl (RL.nil (CW.id ?_))))))
  refine CW.block ?_
  refine CW.loop (σ := Int × List SV × Nat) (fun (k, l, c) => [Y 0 vn, Y 1 va, Y 6 (.map (some b3)), Y 21 vn, Y 22 (i64 (len ns)), Y 23 (i64 k)]) (fun (k, l, c) wl => St w M0 wl M (.raw b3 (smobj l c) :: .own 38 6 (.slice none 0 0) (([] : List Nd)).length ((([] : List Nd)).flatMap Nd.cells) :: Rs) ∧ Sl M 1 ns.length vn (ns.flatMap strC) ∧ Sl M 1 rs.length va (rs.flatMap valI) ∧ RowsV M 6 Nd.cells rs xs ∧ 0 ≤ k ∧ k ≤ len ns ∧ MapV M l (zipT ns xs k)) (fun (k, l, c) => (len ns - k).toNat) ((0, [], 0)) [0, 1, 6, 21, 22, 23] rfl ?_ ?_
  ·refine ⟨hS4, hn, ha, hrow, ?_⟩; exact ⟨by omega, by omega, trivial⟩
  ·rintro ⟨k, l, c⟩ wl ⟨hS5, hn, ha, hrow, hk0, hk1, hmap⟩
   have hrk := fun h : k < len rs => hrow.at hk0 h
   refine CW.sr (RL.u (.lss (.t rfl) (.t rfl)) rfl (RL.nil (CW.id (CW.seq ?_))))
   refine CW.cond rfl ?_ ?_ <;> intro hb2 <;> try simp only [zb] at hb2
   ·have hgn : sget l (at' ns k) = none := hmap.none (zipT_new hk0 (by omega) hnx hnd)
    have hsk : len (at' ns k) ≤ 4398046511104 := hsz _ (at'_mem hk0 (by omega))
    have hvu : Lib.validD (at' ns k) = true := validD_utf (hu _ (at'_mem hk0 (by omega)))
    replace hrk := hrk (by omega)
    refine CW.skip (CW.id (CW.seq (CW.block (CW.sr ?_))))
    refine RL.m rfl rfl (RL.u (.idxT hn (.t rfl) (.t rfl) Tryz.underlying46 Tryz.sizeOf9 (fun _ => by omega)) rfl (RL.u (.loadE1 (f := strC) (i := k) (j := 0) (u := (str (at' ns k))) hS5 extEq hn strC_len (.t rfl) Tryz.isAgg9 (fun _ => by omega) rfl rfl) rfl (RL.a rfl rfl (RL.a rfl rfl (RL.nil (CW.id ?_))))))
    refine CW.seq (CW.sr (RL.m rfl rfl (RL.m rfl rfl (RL.u (.slookupOk (v := ((.slice none 0 0))) (q := false) hS5 extEq (i := 0) rfl (.t rfl) (.t rfl) Tryz.underlying106 Tryz.underlying9 Tryz.zeroValue24 (by rw [hgn]; rfl) (by rw [hgn]; rfl)) rfl (RL.m rfl rfl (RL.u (.ex (.t rfl) rfl) rfl (RL.u (.ex (.t rfl) rfl) rfl (RL.a rfl rfl (RL.a rfl rfl (RL.nil (CW.id ?_)))))))))))
    refine CW.sr (RL.m rfl rfl (RL.m rfl rfl (RL.v (.neg rfl rfl) (.move (.t rfl)) rfl ?_)))
    refine RL.callE hS5 (.neg rfl rfl) Tryz.call103 (.cons (.g rfl (fun h => h)) .nil) (fun hW => by simp only [zb] at hW; exact (valid_c (at' ns k) _ (hg.low hS5.low) (by omega))) rfl (fun w6 hS7 => ?_)
    refine RL.v (.neg rfl rfl) (.not (.g rfl (fun h => h))) rfl (RL.u (.or (.t rfl) (.g rfl (fun h => h))) rfl ?_)
    refine RL.nil (CW.at [Y 0 vn, Y 1 va, Y 6 (.map (some b3)), Y 7 (i64 k), Y 8 (str (at' ns k)), Y 21 vn, Y 22 (i64 (len ns)), Y 23 (i64 k), Y 39 (.bool (false || (!(Lib.validD (at' ns k)))))] rfl ?_)
    refine CW.cond rfl ?_ ?_ <;> intro hb3 <;> try simp only [zb] at hb3
    ·exfalso; rw [hvu] at hb3; simp at hb3
    ·refine CW.skip (CW.id ?_)
     refine CW.region (RL.m rfl rfl (RL.m rfl rfl (RL.m rfl rfl (RL.m rfl rfl (RL.u (.idxT ha (.t rfl) (.t rfl) Tryz.underlying47 Tryz.sizeOf24 (fun _ => by omega)) rfl (RL.u (.loadE1 (f := valI) (i := k) (j := 0) (u := ((at' rs k).v)) hS7 extEq ha valI_len (.t rfl) Tryz.isAgg24 (fun _ => by omega) rfl rfl) rfl ?_))))))
     refine RL.smapUpdate false hS7 (i := 0) rfl (.t rfl) (.t rfl) (.t rfl) Tryz.underlying106 Tryz.underlying9 rfl rfl rfl (fun w8 hS9 => ?_)
     refine RL.nil (CW.id ?_)
     refine CW.region (RL.u (.add (.t rfl) .c (fun _ => by omega)) rfl (RL.m rfl rfl ?_))
     refine RL.nil fun a hs => Exists.intro ((k + 1, sset l c (at' ns k) ((at' rs k).v), sclk l c (at' ns k) ((at' rs k).v))) ⟨hs.keep [0, 1, 6, 21, 22, 23], ?_, ?_⟩
     ·refine ⟨hS9, hn, ha, hrow, ?_⟩
      exact ⟨by omega, by omega, by rw [zipT_step hk0 (by omega) hnx, ← putV_new (zipT_new hk0 (by omega) hnx hnd)]; exact hmap.put hrk⟩
     ·show Int.toNat _ < Int.toNat _; omega
   ·have hke := zipT_end (ns := ns) (xs := xs) (k := k) (by omega)
    rw [hke] at hmap
    refine CW.exit (CW.at [Y 0 vn, Y 6 (.map (some b3))] rfl ?_)
    refine CW.sr (RL.m rfl rfl ?_)
    refine RL.callP Tryz.call105 (.cons (.t rfl) .nil) (values_c (Rs := (.raw b3 (smobj l c) :: .own 38 6 (.slice none 0 0) (([] : List Nd)).length ((([] : List Nd)).flatMap Nd.cells) :: Rs)) ns vn hS5 hn) rfl ?_
    rintro v11 w12 ⟨b10, rfl, hS14⟩
    replace hS14 := hS14.front 0 rfl rfl
    refine RL.callP Tryz.call104 (.cons (.t rfl) .nil) (sorted_c (Rs := (.raw b3 (smobj l c) :: .own 38 6 (.slice none 0 0) (([] : List Nd)).length ((([] : List Nd)).flatMap Nd.cells) :: Rs)) ns b10 vn hS14 hn (by omega)) rfl ?_
    rintro v16 w17 ⟨M18, hS19, hle20⟩
    replace hn := hn.mono hle20
    replace ha := ha.mono hle20
    replace hrow := hrow.mono hle20
    refine RL.a rfl rfl ?_
    refine RL.nil (CW.at [Y 6 (.map (some b3)), Y 11 v16] rfl (CW.sr ?_))
    have hS21 := hS19.ownNil 24 1
    refine RL.u (.assign .c) rfl (RL.nil (CW.id ?_))
    refine CW.seq (CW.sr (RL.m rfl rfl (RL.u (.lenT (hS21.sl (i := 1) rfl) (.t rfl) ⟨_, Tryz.underlying46⟩) rfl (RL.u (.move .c) rfl (RL.nil (CW.id ?_))))))
    refine CW.block ?_
    refine CW.loop (σ := Int × Value × List SlH × Mem) (fun (k2, vo, lo, Ml) => [Y 6 (.map (some b3)), Y 11 v16, Y 12 vo, Y 50 v16, Y 51 (i64 (len (sortN ns))), Y 52 (i64 k2)]) (fun (k2, vo, lo, Ml) wl => St w M0 wl Ml (.own 24 1 vo lo.length (lo.flatMap valI) :: .own 9 1 v16 (sortN ns).length ((sortN ns).flatMap strC) :: .box b10 [vn] 46 :: .raw b3 (smobj l c) :: .own 38 6 (.slice none 0 0) (([] : List Nd)).length ((([] : List Nd)).flatMap Nd.cells) :: Rs) ∧ Sl Ml 1 ns.length vn (ns.flatMap strC) ∧ Sl Ml 1 rs.length va (rs.flatMap valI) ∧ RowsV Ml 6 Nd.cells rs xs ∧ 0 ≤ k2 ∧ k2 ≤ len ns ∧ RowsV Ml 6 Nd.cells lo (partsL (Eng.sub (sortN ns) 0 k2) (ns.zip xs)) ∧ MapV Ml l (ns.zip xs) ∧ M.le Ml) (fun (k2, vo, lo, Ml) => (len ns - k2).toNat) ((0, .slice none 0 0, ([] : List SlH), M18)) [6, 11, 12, 50, 51, 52] rfl ?_ ?_
    ·refine ⟨hS21, hn, ha, hrow, ?_⟩; exact ⟨by omega, by omega, trivial, hmap.mono hle20, hle20⟩
    ·rintro ⟨k2, vo, lo, Ml⟩ wl ⟨hS22, hn, ha, hrow, hk0, hk1, hro2, hmap, hle0⟩
     refine CW.sr (RL.u (.lss (.t rfl) (.t rfl)) rfl (RL.nil (CW.id (CW.seq ?_))))
     refine CW.cond rfl ?_ ?_ <;> intro hb4 <;> try simp only [zb] at hb4
     ·obtain ⟨gx, hgv, _⟩ := getV_in (m := ns.zip xs) (n := at' (sortN ns) k2) (by rw [zip_keys hnx]; exact sortN_mem.1 (at'_mem hk0 (by omega)))
      obtain ⟨gh, hgs0, hgs⟩ := hmap.get hgv
      have hlo : len lo = k2 := by unfold len; rw [hro2.len]; exact partsL_sub hk0 (by omega)
      refine CW.skip (CW.id (CW.seq (CW.block (CW.sr ?_))))
      refine RL.u (.idxT (hS22.sl (i := 1) rfl) (.t rfl) (.t rfl) Tryz.underlying46 Tryz.sizeOf9 (fun _ => by omega)) rfl (RL.u (.loadE1 (f := strC) (i := k2) (j := 0) (u := (str (at' (sortN ns) k2))) hS22 extEq (hS22.sl (i := 1) rfl) strC_len (.t rfl) Tryz.isAgg9 (fun _ => by omega) rfl rfl) rfl (RL.a rfl rfl (RL.nil (CW.id ?_))))
      refine CW.region (RL.m rfl rfl (RL.m rfl rfl (RL.m rfl rfl (RL.u (.slookup (v := (SlH.v gh)) hS22 extEq (i := 3) rfl (.t rfl) (.t rfl) Tryz.underlying106 Tryz.underlying9 Tryz.zeroValue24 (by rw [hgs0]; rfl)) rfl ?_))))
      refine RL.buildSlice (n := 1) (sz := 1) (e := 24) (vs := [(0, (SlH.v gh))]) (cs := [(SlH.v gh)]) hS22 (.cons (.t rfl) .nil) rfl rfl (fun w => by kernel_rfl) rfl (fun v23 w24 M25 hS26 hle27 => ?_)
      replace hn := hn.mono hle27
      replace ha := ha.mono hle27
      replace hrow := hrow.mono hle27
      refine RL.append1 (f := valI) (l := lo) (y := gh) hS26 (k := 1) rfl (.t rfl) (.t rfl) (hS26.sl (i := 0) rfl) Tryz.underlying47 Tryz.type24 rfl rfl rfl valI_one (by' := 24) rfl rfl (by omega) rfl (Hs' := fun v' => (.own 24 1 v23 (([gh] : List SlH)).length ((([gh] : List SlH)).flatMap valI) :: .own 24 1 v' (lo ++ [gh]).length ((lo ++ [gh]).flatMap valI) :: .own 9 1 v16 (sortN ns).length ((sortN ns).flatMap strC) :: .box b10 [vn] 46 :: .raw b3 (smobj l c) :: .own 38 6 (.slice none 0 0) (([] : List Nd)).length ((([] : List Nd)).flatMap Nd.cells) :: Rs)) (fun _ => rfl) (fun v28 w29 M30 hS31 hle32 => ?_)
      replace hS31 := hS31.erase 0 rfl
      replace hn := hn.mono hle32
      replace ha := ha.mono hle32
      replace hrow := hrow.mono hle32
      refine RL.a rfl rfl (RL.nil (CW.id ?_))
      refine CW.region (RL.u (.add (.t rfl) .c (fun _ => by omega)) rfl (RL.m rfl rfl ?_))
      refine RL.nil fun a hs => Exists.intro ((k2 + 1, v28, lo ++ [gh], M30)) ⟨hs.keep [6, 11, 12, 50, 51, 52], ?_, ?_⟩
      ·refine ⟨hS31, hn, ha, hrow, ?_⟩
       exact ⟨by omega, by omega, by rw [partsL_at hk0 (by omega), hgv]; exact RowsV.snoc (hgs.mono (hle27.trans hle32)) (hro2.mono (hle27.trans hle32)), hmap.mono (hle27.trans hle32), ((hle0.trans hle27).trans hle32)⟩
      ·show Int.toNat _ < Int.toNat _; omega
     ·have hk2e : k2 = len (sortN ns) := by omega
      rw [show Eng.sub (sortN ns) 0 k2 = sortN ns from by unfold Eng.sub; rw [hk2e]; simp [len]] at hro2
      refine CW.exit (CW.at [Y 11 v16, Y 12 vo] rfl ?_)
      refine CW.sr (RL.m rfl rfl (RL.m rfl rfl ?_))
      refine RL.callP Tryz.call106 (.cons (.t rfl) (.cons (.t rfl) .nil)) (laid_c3 (Rs := (.own 24 1 vo lo.length (lo.flatMap valI) :: .own 9 1 v16 (sortN ns).length ((sortN ns).flatMap strC) :: .box b10 [vn] 46 :: .raw b3 (smobj l c) :: .own 38 6 (.slice none 0 0) (([] : List Nd)).length ((([] : List Nd)).flatMap Nd.cells) :: Rs)) ns lo xs v16 vo hS22 (hS22.sl (i := 1) rfl) (hS22.sl (i := 0) rfl) hro2 hnx hnd hne hbd) rfl ?_
      rintro v35 w36 ⟨a33, c34, M37, rfl, hsl_v35, hS38, hle39⟩
      replace hn := hn.mono hle39
      replace ha := ha.mono hle39
      replace hrow := hrow.mono hle39
      refine RL.a rfl rfl (RL.u (.assign .c) rfl ?_)
      refine RL.nil (CW.at [Y 4 (.slice a33 (objV (ns.zip xs)).length c34), Y 5 (i64 0)] rfl (CW.ret (hE.r2 rfl rfl rfl ?_)))
      have hslr := hsl_v35
      replace hS38 := (hS38.erase 4 rfl).erase 3 rfl
      replace hS38 := (hS38.erase 2 rfl).erase 1 rfl
      replace hS38 := hS38.erase 0 rfl
      exact ⟨_, rfl, _, _, M37, rfl, hslr, hS38, (hle0.trans hle39)⟩

end Go.Proofs.YtjfaikgooldcbaaGreatDoor
set_option maxRecDepth 100000
namespace Go.Proofs.YtjfaikgooldcbaaGreatDoor
open Go.Eng

/-- What object does, given so much fuel. -/
def ObjOK (w : World) (M0 : Mem) (s : Str) (pb : Nat) (Fu : Nat) : Prop := ∀ {Rs : List HO} {wv : World} {M : Mem} (i d : Int), St w M0 wv M (.box pb [str s, i64 (i)] 55 :: Rs) → 0 ≤ i → i < len s → (0 ≤ d ∧ d ≤ 900) → 2 * (len s - i) ≤ Fu →
    Calls Tryz.prog 46 [.pointer (some ⟨pb, 0, none⟩), i64 d].toArray wv (PPost w M0 M Rs 51 (fun x j v M' w' => ∃ a c, v = .slice a x.length c ∧ i + 1 ≤ j ∧ j ≤ len s ∧ len x ≤ j - i ∧ Sl M' 6 x.length (.slice a x.length c) (x.flatMap Nd.cells) ∧ St w M0 w' M' (.box pb [str s, i64 (j)] 55 :: Rs)) (mapR objV (partsT s i [125] [] (pairsT Fu s d))))
/- (*loupe/text.parser).value -/
theorem value_c {w wv : World} {M0 M : Mem} {Rs : List HO} (s : Str) (i d : Int) (pb : Nat) (f : Nat) (hS : St w M0 wv M (.box pb [(str s), (i64 i)] 55 :: Rs)) (h0 : 0 ≤ i) (h1 : i ≤ len s) (hb : len s ≤ 1099511627776) (hg : Gl w) (hd : 0 ≤ d ∧ d ≤ 1000) (hf : 2 * (len s - i) ≤ f) (hval : ∀ f2, f2 < f → ValOK w M0 s pb f2) (hobj : ObjOK w M0 s pb f) :
  Calls Tryz.prog 27 [(.pointer (some ⟨pb, 0, none⟩)), (i64 d)].toArray wv fun e w' => PPost w M0 M Rs 51 (fun x j v M' w' => ∃ a c, v = .slice a x.length c ∧ i + 1 ≤ j ∧ j ≤ len s ∧ len x ≤ j - i ∧ Sl M' 6 x.length (.slice a x.length c) (x.flatMap Nd.cells) ∧ St w M0 w' M' (.box pb [str s, i64 j] 55 :: Rs)) (valT (f + 1) s i d) e w' := by
 refine CW.enter1 Tryz.func27 rfl Tryz.ntmps27 (Nat.le_of_ble_eq_true rfl) fun Q hE => ?_
 have hw3 := words_len
 have hbd := byteAt_bd s i
 have hwl : len ([[110, 117, 108, 108], [102, 97, 108, 115, 101], [116, 114, 117, 101]] : List Str) = 3 := rfl
 refine CW.weaken [0, 1] (L' := [Y 0 (.pointer (some ⟨pb, 0, none⟩)), Y 1 (i64 d)]) ?_ rfl
 refine CW.sr ?_
 have hS1 := hS.ownNil 38 6
 refine RL.u (.assign .c) rfl (RL.nil (CW.id ?_))
 refine CW.seq (CW.sr ?_)
 refine RL.buildSlice (n := 3) (sz := 1) (e := 9) (vs := [(0, (str [110, 117, 108, 108])), (1, (str [102, 97, 108, 115, 101])), (2, (str [116, 114, 117, 101]))]) (cs := [(str [110, 117, 108, 108]), (str [102, 97, 108, 115, 101]), (str [116, 114, 117, 101])]) hS1 (.cons .c (.cons .c (.cons .c .nil))) rfl rfl (fun w => by kernel_rfl) rfl (fun v2 w3 M4 hS5 hle6 => ?_)
 replace hS5 : St w M0 w3 M4 (.own 9 1 v2 (([[110, 117, 108, 108], [102, 97, 108, 115, 101], [116, 114, 117, 101]] : List Str)).length ((([[110, 117, 108, 108], [102, 97, 108, 115, 101], [116, 114, 117, 101]] : List Str)).flatMap strC) :: .own 38 6 (.slice none 0 0) (([] : List Nd)).length ((([] : List Nd)).flatMap Nd.cells) :: .box pb [(str s), (i64 i)] 55 :: Rs) := hS5
 refine RL.u (.lenT (hS5.sl (i := 0) rfl) (.t rfl) ⟨_, Tryz.underlying46⟩) rfl (RL.u (.move .c) rfl (RL.nil (CW.id ?_)))
 refine CW.block ?_
 refine CW.loop (σ := Int) (fun k => [Y 0 (.pointer (some ⟨pb, 0, none⟩)), Y 1 (i64 d), Y 8 v2, Y 9 (i64 (len (([[110, 117, 108, 108], [102, 97, 108, 115, 101], [116, 114, 117, 101]] : List Str)))), Y 10 (i64 k)]) (fun k wl => St w M0 wl M4 (.own 9 1 v2 (([[110, 117, 108, 108], [102, 97, 108, 115, 101], [116, 114, 117, 101]] : List Str)).length ((([[110, 117, 108, 108], [102, 97, 108, 115, 101], [116, 114, 117, 101]] : List Str)).flatMap strC) :: .own 38 6 (.slice none 0 0) (([] : List Nd)).length ((([] : List Nd)).flatMap Nd.cells) :: .box pb [(str s), (i64 i)] 55 :: Rs) ∧ 0 ≤ k ∧ k ≤ 3 ∧ NoW s i k) (fun k => (3 - k).toNat) 0 [0, 1, 8, 9, 10] rfl ?_ ?_
 ·refine ⟨hS5, ?_⟩; exact ⟨by omega, by omega, fun m h0 h1 => by omega⟩
 ·rintro k wl ⟨hS7, hk0, hk1, hno⟩
  refine CW.sr (RL.u (.lss (.t rfl) (.t rfl)) rfl (RL.nil (CW.id (CW.seq ?_))))
  refine CW.cond rfl ?_ ?_ <;> intro hb1 <;> try simp only [zb] at hb1
  ·refine CW.skip (CW.id (CW.seq (CW.block (CW.sr ?_))))
   refine RL.m rfl rfl (RL.u (.idxT (hS7.sl (i := 0) rfl) (.t rfl) (.t rfl) Tryz.underlying46 Tryz.sizeOf9 (fun _ => by omega)) rfl (RL.u (.loadE1 (f := strC) (i := k) (j := 0) (u := (str (at' (([[110, 117, 108, 108], [102, 97, 108, 115, 101], [116, 114, 117, 101]] : List Str)) k))) hS7 extEq (hS7.sl (i := 0) rfl) strC_len (.t rfl) Tryz.isAgg9 (fun _ => by omega) rfl rfl) rfl (RL.a rfl rfl (RL.a rfl rfl (RL.nil (CW.id ?_))))))
   refine CW.sr (RL.m rfl rfl (RL.m rfl rfl ?_))
   replace hS7 := hS7.front 2 rfl rfl
   refine RL.callP Tryz.call41 (.cons (.t rfl) (.cons (.t rfl) .nil)) (isP_c (Rs := (.own 9 1 v2 (([[110, 117, 108, 108], [102, 97, 108, 115, 101], [116, 114, 117, 101]] : List Str)).length ((([[110, 117, 108, 108], [102, 97, 108, 115, 101], [116, 114, 117, 101]] : List Str)).flatMap strC) :: .own 38 6 (.slice none 0 0) (([] : List Nd)).length ((([] : List Nd)).flatMap Nd.cells) :: Rs)) s (at' (([[110, 117, 108, 108], [102, 97, 108, 115, 101], [116, 114, 117, 101]] : List Str)) k) i pb hS7 (by omega) (by omega) hb) rfl ?_
   rintro v10 w11 ⟨q8, c9, hc9, hq8a, hq8b, hc9y, hc9n, rfl, hS13⟩
   refine RL.nil (CW.at [Y 0 (.pointer (some ⟨pb, 0, none⟩)), Y 1 (i64 d), Y 5 (i64 k), Y 8 v2, Y 9 (i64 (len (([[110, 117, 108, 108], [102, 97, 108, 115, 101], [116, 114, 117, 101]] : List Str)))), Y 10 (i64 k), Y 17 (.bool c9)] rfl ?_)
   refine CW.cond rfl ?_ ?_ <;> intro hb2 <;> try simp only [zb] at hb2
   ·refine CW.sr (RL.m rfl rfl (RL.u (.build (vs := [(0, (i64 k))]) (v := (.agg #[(i64 k), (i64 0), (str []), (str []), (.bool false), (i64 0)])) (.cons (.t rfl) .nil) (fun w => by kernel_rfl)) rfl ?_))
    refine RL.buildSlice (n := 1) (sz := 6) (e := 38) (vs := [(0, (.agg #[(i64 k), (i64 0), (str []), (str []), (.bool false), (i64 0)]))]) (cs := [(i64 k), (i64 0), (str []), (str []), (.bool false), (i64 0)]) hS13 (.cons (.t rfl) .nil) rfl rfl (fun w => by kernel_rfl) rfl (fun v15 w16 M17 hS18 hle19 => ?_)
    replace hS18 : St w M0 w16 M17 (.own 38 6 v15 (([⟨k, 0, [], [], false, 0⟩] : List Nd)).length ((([⟨k, 0, [], [], false, 0⟩] : List Nd)).flatMap Nd.cells) :: .box pb [(str s), (i64 q8)] 55 :: .own 9 1 v2 (([[110, 117, 108, 108], [102, 97, 108, 115, 101], [116, 114, 117, 101]] : List Str)).length ((([[110, 117, 108, 108], [102, 97, 108, 115, 101], [116, 114, 117, 101]] : List Str)).flatMap strC) :: .own 38 6 (.slice none 0 0) (([] : List Nd)).length ((([] : List Nd)).flatMap Nd.cells) :: Rs) := hS18
    refine RL.a rfl rfl (RL.nil (CW.id ?_))
    refine CW.ret (hE.r1 rfl rfl ?_)
    have hslr := (hS18.sl (i := 0) rfl)
    replace hS18 : St w M0 w16 M17 (.own 38 6 v15 (([⟨k, 0, [], [], false, 0⟩] : List Nd)).length ((([⟨k, 0, [], [], false, 0⟩] : List Nd)).flatMap Nd.cells) :: .box pb [(str s), (i64 q8)] 55 :: Rs) := (hS18.erase 3 rfl).erase 2 rfl
    replace hS18 : St w M0 w16 M17 (.box pb [(str s), (i64 q8)] 55 :: Rs) := hS18.erase 0 rfl
    have h9 := hc9.symm.trans hb2
    have hq := hc9y hb2
    have hw4 : 4 ≤ len (at' ([[110, 117, 108, 108], [102, 97, 108, 115, 101], [116, 114, 117, 101]] : List Str) k) ∧ len (at' ([[110, 117, 108, 108], [102, 97, 108, 115, 101], [116, 114, 117, 101]] : List Str) k) ≤ 5 := hw3 k hk0 (by omega)
    obtain ⟨az, cz, hz⟩ := Sl.shape hslr
    exact PPost.ok (by rw [hq]; exact valT_word hk0 (by omega) hno h9) ⟨az, cz, hz, by omega, by omega, by show (1 : Int) ≤ _ - _; omega, hz ▸ hslr, hS18⟩ (hle6.trans hle19)
   ·refine CW.skip (CW.id ?_)
    refine CW.region (RL.u (.add (.t rfl) .c (fun _ => by omega)) rfl (RL.m rfl rfl ?_))
    obtain rfl : i = q8 := (hc9n hb2).symm
    replace hS13 := (hS13.front 2 rfl rfl).front 2 rfl rfl
    refine RL.nil fun a hs => Exists.intro (k + 1) ⟨hs.keep [0, 1, 8, 9, 10], ?_, ?_⟩
    ·refine ⟨hS13, ?_⟩
     exact ⟨by omega, by omega, hno.step (hc9.symm.trans hb2)⟩
    ·show Int.toNat _ < Int.toNat _; omega
  ·obtain rfl : k = 3 := by omega
   have hv := valT_go f d hno
   refine CW.exit (CW.at [Y 0 (.pointer (some ⟨pb, 0, none⟩)), Y 1 (i64 d)] rfl ?_)
   refine CW.seq (CW.seq ?_)
   refine CW.regionD hS7 tryz_mixed (by decide +kernel) ?_
   refine RQ.v .none (.move (.t rfl)) rfl ?_
   refine RQ.v .none (.nilP (.t rfl)) rfl ?_
   refine RQ.v .none (.fldA (q := ⟨pb, 1, none⟩) (.t rfl) (fun w => by kernel_rfl)) rfl ?_
   refine RQ.v .none (.loadB1 (v := (i64 i)) hS7 (fun _ h => h) (i := 2) rfl (.t rfl) Tryz.isAgg3 rfl) rfl ?_
   refine RQ.v .none (.move (.t rfl)) rfl ?_
   refine RQ.v .none (.nilP (.t rfl)) rfl ?_
   refine RQ.v .none (.fldA (q := ⟨pb, 0, none⟩) (.t rfl) (fun w => by kernel_rfl)) rfl ?_
   refine RQ.v .none (.loadB1 (v := (str s)) hS7 (fun _ h => h) (i := 2) rfl (.t rfl) Tryz.isAgg9 rfl) rfl ?_
   refine RQ.v .none (.lenS (.t rfl) Tryz.underlying9) rfl ?_
   refine RQ.v .none (.eql (.t rfl) (.t rfl)) rfl ?_
   refine RQ.nil (fun a hs w20 hS21 => CW.at [Y 0 (.pointer (some ⟨pb, 0, none⟩)), Y 1 (i64 d), Y 31 (.bool (i == (len s)))] rfl ?_ a hs)
   refine CW.cond rfl ?_ ?_ <;> intro hb3 <;> try simp only [zb] at hb3
   ·refine CW.region (RL.m rfl rfl (RL.m rfl rfl (RL.u (.nilP (.t rfl)) rfl (RL.u (.fldA (q := ⟨pb, 1, none⟩) (.t rfl) (fun w => by kernel_rfl)) rfl (RL.u (.loadB1 (v := (i64 i)) hS21 extEq (i := 2) rfl (.t rfl) Tryz.isAgg3 rfl) rfl ?_)))))
    refine RL.callF Tryz.call28 (.cons (.t rfl) (.cons .c (.cons (.t rfl) .nil))) (fail_c 1 i (.pointer (some ⟨pb, 0, none⟩)) _) ?_
    replace hS21 := hS21.drop Rs (List.sublist_append_right [_, _, _] _)
    exact hE.p (PPost.er (by rw [hv, if_pos hb3]) hS21 hle6)
   ·refine CW.skip (CW.at [Y 0 (.pointer (some ⟨pb, 0, none⟩)), Y 1 (i64 d)] rfl (CW.seq (CW.seq ?_)))
    refine CW.regionD hS21 tryz_mixed (by decide +kernel) ?_
    refine RQ.v .none (.move (.t rfl)) rfl ?_
    refine RQ.v .none (.nilP (.t rfl)) rfl ?_
    refine RQ.v .none (.fldA (q := ⟨pb, 0, none⟩) (.t rfl) (fun w => by kernel_rfl)) rfl ?_
    refine RQ.v .none (.loadB1 (v := (str s)) hS21 (fun _ h => h) (i := 2) rfl (.t rfl) Tryz.isAgg9 rfl) rfl ?_
    refine RQ.v .none (.move (.t rfl)) rfl ?_
    refine RQ.v .none (.nilP (.t rfl)) rfl ?_
    refine RQ.v .none (.fldA (q := ⟨pb, 1, none⟩) (.t rfl) (fun w => by kernel_rfl)) rfl ?_
    refine RQ.v .none (.loadB1 (v := (i64 i)) hS21 (fun _ h => h) (i := 2) rfl (.t rfl) Tryz.isAgg3 rfl) rfl ?_
    refine RQ.v .none (.idxS (.t rfl) (.t rfl) Tryz.underlying9 (fun _ => by omega)) rfl ?_
    refine RQ.v .none (.assign (.t rfl)) rfl ?_
    refine RQ.nil (fun a hs w22 hS23 => CW.at [Y 0 (.pointer (some ⟨pb, 0, none⟩)), Y 1 (i64 d), Y 7 (.int .u8 (byteAt s i))] rfl ?_ a hs)
    refine CW.block (CW.sr (RL.m rfl rfl (RL.u (.eql (.t rfl) .c) rfl (RL.a rfl rfl (RL.nil (CW.id ?_))))))
    refine CW.cond rfl ?_ ?_ <;> intro hb4 <;> try simp only [zb] at hb4
    ·refine CW.sr (RL.m rfl rfl ?_)
     replace hS23 := hS23.front 2 rfl rfl
     refine RL.callR Tryz.call42 (.cons (.t rfl) .nil) (text_c (Rs := (.own 9 1 v2 (([[110, 117, 108, 108], [102, 97, 108, 115, 101], [116, 114, 117, 101]] : List Str)).length ((([[110, 117, 108, 108], [102, 97, 108, 115, 101], [116, 114, 117, 101]] : List Str)).flatMap strC) :: .own 38 6 (.slice none 0 0) (([] : List Nd)).length ((([] : List Nd)).flatMap Nd.cells) :: Rs)) s i pb hS23 (by omega) (by omega) hb hg) rfl (fun ec p M33 w34 hr37 hS35 hle36 => ?_) (fun x24 j25 v26 M28 w27 hr29 hF32 hle31 => ?_)
     ·replace hS35 := hS35.drop Rs (List.sublist_append_right [_, _] _)
      exact hE.p (PPost.er (by rw [hv, if_neg hb3, if_pos hb4, hr37]; rfl) hS35 (hle6.trans hle36))
     obtain ⟨rfl, hF32a, hF32b, hS30⟩ := hF32
     refine RL.u (.build (vs := [(0, (i64 4)), (3, (str x24))]) (v := (.agg #[(i64 4), (i64 0), (str []), (str x24), (.bool false), (i64 0)])) (.cons .c (.cons (.t rfl) .nil)) (fun w => by kernel_rfl)) rfl ?_
     refine RL.buildSlice (n := 1) (sz := 6) (e := 38) (vs := [(0, (.agg #[(i64 4), (i64 0), (str []), (str x24), (.bool false), (i64 0)]))]) (cs := [(i64 4), (i64 0), (str []), (str x24), (.bool false), (i64 0)]) hS30 (.cons (.t rfl) .nil) rfl rfl (fun w => by kernel_rfl) rfl (fun v38 w39 M40 hS41 hle42 => ?_)
     replace hS41 : St w M0 w39 M40 (.own 38 6 v38 (([⟨4, 0, [], x24, false, 0⟩] : List Nd)).length ((([⟨4, 0, [], x24, false, 0⟩] : List Nd)).flatMap Nd.cells) :: .box pb [(str s), (i64 j25)] 55 :: .own 9 1 v2 (([[110, 117, 108, 108], [102, 97, 108, 115, 101], [116, 114, 117, 101]] : List Str)).length ((([[110, 117, 108, 108], [102, 97, 108, 115, 101], [116, 114, 117, 101]] : List Str)).flatMap strC) :: .own 38 6 (.slice none 0 0) (([] : List Nd)).length ((([] : List Nd)).flatMap Nd.cells) :: Rs) := hS41
     refine RL.a rfl rfl ?_
     refine RL.nil (CW.at [Y 4 v38] rfl (CW.ret (hE.r1 rfl rfl ?_)))
     have hslr := (hS41.sl (i := 0) rfl)
     replace hS41 : St w M0 w39 M40 (.own 38 6 v38 (([⟨4, 0, [], x24, false, 0⟩] : List Nd)).length ((([⟨4, 0, [], x24, false, 0⟩] : List Nd)).flatMap Nd.cells) :: .box pb [(str s), (i64 j25)] 55 :: Rs) := (hS41.erase 3 rfl).erase 2 rfl
     replace hS41 : St w M0 w39 M40 (.box pb [(str s), (i64 j25)] 55 :: Rs) := hS41.erase 0 rfl
     obtain ⟨az, cz, hz⟩ := Sl.shape hslr
     exact PPost.ok (by rw [hv, if_neg hb3, if_pos hb4, hr29]; rfl) ⟨az, cz, hz, by omega, by omega, by show (1 : Int) ≤ _ - _; omega, hz ▸ hslr, hS41⟩ ((hle6.trans hle31).trans hle42)
    ·refine CW.sr (RL.m rfl rfl (RL.u (.eql (.t rfl) .c) rfl (RL.m rfl rfl (RL.v (.neg rfl rfl) (.move (.t rfl)) rfl ?_))))
     refine RL.callS (.neg rfl rfl) Tryz.call43 (.cons .c (.cons (.g rfl (fun h => h)) .nil)) (fun hW => by simp only [zb] at hW; exact (indexByte_c [48, 49, 50, 51, 52, 53, 54, 55, 56, 57] (byteAt s i) _)) rfl ?_
     refine RL.v (.neg rfl rfl) (.geq (.g rfl (fun h => h)) .c) rfl (RL.u (.or (.t rfl) (.g rfl (fun h => h))) rfl (RL.a rfl rfl ?_))
     refine RL.nil (CW.at [Y 0 (.pointer (some ⟨pb, 0, none⟩)), Y 1 (i64 d), Y 7 (.int .u8 (byteAt s i)), Y 54 (.bool (((byteAt s i) == 45) || (decide (0 ≤ (Lib.indexByte [48, 49, 50, 51, 52, 53, 54, 55, 56, 57] (byteAt s i).toNat.toUInt8)))))] rfl ?_)
     refine CW.cond rfl ?_ ?_ <;> intro hb5 <;> try simp only [zb] at hb5
     ·have h5 : byteAt s i = 45 ∨ isFig (byteAt s i) = true := by rw [← index_fig (byteAt s i) (by omega)]; omega
      refine CW.sr (RL.m rfl rfl ?_)
      replace hS23 := hS23.front 2 rfl rfl
      refine RL.callR Tryz.call44 (.cons (.t rfl) .nil) (numberP_c (Rs := (.own 9 1 v2 (([[110, 117, 108, 108], [102, 97, 108, 115, 101], [116, 114, 117, 101]] : List Str)).length ((([[110, 117, 108, 108], [102, 97, 108, 115, 101], [116, 114, 117, 101]] : List Str)).flatMap strC) :: .own 38 6 (.slice none 0 0) (([] : List Nd)).length ((([] : List Nd)).flatMap Nd.cells) :: Rs)) s i pb hS23 (by omega) (by omega) hb hg) rfl (fun ec p M52 w53 hr56 hS54 hle55 => ?_) (fun x43 j44 v45 M47 w46 hr48 hF51 hle50 => ?_)
      ·replace hS54 := hS54.drop Rs (List.sublist_append_right [_, _] _)
       exact hE.p (PPost.er (by rw [hv, if_neg hb3, if_neg hb4, if_pos h5, hr56]) hS54 (hle6.trans hle55))
      obtain ⟨hsl_v45, hF51a, hF51b, hS49⟩ := hF51
      refine RL.a rfl rfl ?_
      refine RL.nil (CW.at [Y 4 v45] rfl (CW.ret (hE.r1 rfl rfl ?_)))
      have hslr := hsl_v45
      replace hS49 := (hS49.erase 2 rfl).erase 1 rfl
      obtain ⟨az, cz, hz⟩ := Sl.shape hslr
      have hj := numT_j hr48
      have hrp := runN_pos h0 (by omega) h5
      exact PPost.ok (by rw [hv, if_neg hb3, if_neg hb4, if_pos h5, hr48]) ⟨az, cz, hz, by omega, by omega, by omega, hz ▸ hslr, hS49⟩ (hle6.trans hle50)
     ·have h5 : ¬ (byteAt s i = 45 ∨ isFig (byteAt s i) = true) := by rw [← index_fig (byteAt s i) (by omega)]; omega
      refine CW.sr (RL.m rfl rfl (RL.u (.neq (.t rfl) .c) rfl (RL.m rfl rfl (RL.v (.pos rfl rfl) (.move (.t rfl)) rfl (RL.v (.pos rfl rfl) (.neq (.g rfl (fun h => h)) .c) rfl (RL.u (.and (.t rfl) (.g rfl (fun h => h))) rfl (RL.a rfl rfl (RL.nil (CW.id ?_)))))))))
      refine CW.cond rfl ?_ ?_ <;> intro hb6 <;> try simp only [zb] at hb6
      ·have h6 : byteAt s i ≠ 91 ∧ byteAt s i ≠ 123 := by omega
       refine CW.region (RL.m rfl rfl (RL.m rfl rfl (RL.u (.nilP (.t rfl)) rfl (RL.u (.fldA (q := ⟨pb, 1, none⟩) (.t rfl) (fun w => by kernel_rfl)) rfl (RL.u (.loadB1 (v := (i64 i)) hS23 extEq (i := 2) rfl (.t rfl) Tryz.isAgg3 rfl) rfl ?_)))))
       refine RL.callF Tryz.call28 (.cons (.t rfl) (.cons .c (.cons (.t rfl) .nil))) (fail_c 1 i (.pointer (some ⟨pb, 0, none⟩)) _) ?_
       replace hS23 := hS23.drop Rs (List.sublist_append_right [_, _, _] _)
       exact hE.p (PPost.er (by rw [hv, if_neg hb3, if_neg hb4, if_neg h5, if_pos h6]) hS23 hle6)
      ·have h6 : ¬ (byteAt s i ≠ 91 ∧ byteAt s i ≠ 123) := by omega
       refine CW.sr (RL.m rfl rfl (RL.u (.geq (.t rfl) .c) rfl (RL.a rfl rfl (RL.nil (CW.at [Y 0 (.pointer (some ⟨pb, 0, none⟩)), Y 1 (i64 d), Y 7 (.int .u8 (byteAt s i)), Y 77 (.bool (decide (128 ≤ d)))] rfl ?_)))))
       refine CW.cond rfl ?_ ?_ <;> intro hb7 <;> try simp only [zb] at hb7
       ·refine CW.region (RL.m rfl rfl (RL.m rfl rfl (RL.u (.nilP (.t rfl)) rfl (RL.u (.fldA (q := ⟨pb, 1, none⟩) (.t rfl) (fun w => by kernel_rfl)) rfl (RL.u (.loadB1 (v := (i64 i)) hS23 extEq (i := 2) rfl (.t rfl) Tryz.isAgg3 rfl) rfl ?_)))))
        refine RL.callF Tryz.call28 (.cons (.t rfl) (.cons .c (.cons (.t rfl) .nil))) (fail_c 3 i (.pointer (some ⟨pb, 0, none⟩)) _) ?_
        replace hS23 := hS23.drop Rs (List.sublist_append_right [_, _, _] _)
        exact hE.p (PPost.er (by rw [hv, if_neg hb3, if_neg hb4, if_neg h5, if_neg h6, if_pos hb7]) hS23 hle6)
       ·replace hb7 : ¬ 128 ≤ d := by omega
        refine CW.sr (RL.m rfl rfl (RL.u (.eql (.t rfl) .c) rfl (RL.a rfl rfl (RL.nil (CW.at [Y 0 (.pointer (some ⟨pb, 0, none⟩)), Y 1 (i64 d), Y 86 (.bool ((byteAt s i) == 91))] rfl ?_)))))
        refine CW.cond rfl ?_ ?_ <;> intro hb8 <;> try simp only [zb] at hb8
        ·refine CW.sr (RL.m rfl rfl (RL.m rfl rfl ?_))
         replace hS23 := hS23.front 2 rfl rfl
         refine RL.callR Tryz.call45 (.cons (.t rfl) (.cons (.t rfl) .nil)) (listp_c (Rs := (.own 9 1 v2 (([[110, 117, 108, 108], [102, 97, 108, 115, 101], [116, 114, 117, 101]] : List Str)).length ((([[110, 117, 108, 108], [102, 97, 108, 115, 101], [116, 114, 117, 101]] : List Str)).flatMap strC) :: .own 38 6 (.slice none 0 0) (([] : List Nd)).length ((([] : List Nd)).flatMap Nd.cells) :: Rs)) s i d pb f hS23 h0 (by omega) hb (by omega) (by omega) hval) rfl (fun ec p M68 w69 hr72 hS70 hle71 => ?_) (fun x59 j60 v61 M63 w62 hr64 hF67 hle66 => ?_)
         ·replace hS70 := hS70.drop Rs (List.sublist_append_right [_, _] _)
          exact hE.p (PPost.er (by rw [hv, if_neg hb3, if_neg hb4, if_neg h5, if_neg h6, if_neg hb7, if_pos hb8, hr72]) hS70 (hle6.trans hle71))
         obtain ⟨a57, c58, rfl, hF67a, hF67b, hF67c, hsl_v61, hS65⟩ := hF67
         refine RL.a rfl rfl ?_
         refine RL.nil (CW.at [Y 4 (.slice a57 x59.length c58)] rfl (CW.ret (hE.r1 rfl rfl ?_)))
         have hslr := hsl_v61
         replace hS65 := (hS65.erase 2 rfl).erase 1 rfl
         exact PPost.ok (by rw [hv, if_neg hb3, if_neg hb4, if_neg h5, if_neg h6, if_neg hb7, if_pos hb8, hr64]) ⟨_, _, rfl, by omega, by omega, by omega, hslr, hS65⟩ (hle6.trans hle66)
        ·refine CW.skip (CW.id (CW.sr (RL.m rfl rfl (RL.m rfl rfl ?_))))
         replace hS23 := hS23.front 2 rfl rfl
         refine RL.callR Tryz.call46 (.cons (.t rfl) (.cons (.t rfl) .nil)) (hobj (Rs := (.own 9 1 v2 (([[110, 117, 108, 108], [102, 97, 108, 115, 101], [116, 114, 117, 101]] : List Str)).length ((([[110, 117, 108, 108], [102, 97, 108, 115, 101], [116, 114, 117, 101]] : List Str)).flatMap strC) :: .own 38 6 (.slice none 0 0) (([] : List Nd)).length ((([] : List Nd)).flatMap Nd.cells) :: Rs)) i d hS23 h0 (by omega) (by omega) (by omega)) rfl (fun ec p M84 w85 hr88 hS86 hle87 => ?_) (fun x75 j76 v77 M79 w78 hr80 hF83 hle82 => ?_)
         ·replace hS86 := hS86.drop Rs (List.sublist_append_right [_, _] _)
          exact hE.p (PPost.er (by rw [hv, if_neg hb3, if_neg hb4, if_neg h5, if_neg h6, if_neg hb7, if_neg hb8, hr88]) hS86 (hle6.trans hle87))
         obtain ⟨a73, c74, rfl, hF83a, hF83b, hF83c, hsl_v77, hS81⟩ := hF83
         refine RL.a rfl rfl ?_
         refine RL.nil (CW.at [Y 4 (.slice a73 x75.length c74)] rfl (CW.ret (hE.r1 rfl rfl ?_)))
         have hslr := hsl_v77
         replace hS81 := (hS81.erase 2 rfl).erase 1 rfl
         exact PPost.ok (by rw [hv, if_neg hb3, if_neg hb4, if_neg h5, if_neg h6, if_neg hb7, if_neg hb8, hr80]) ⟨_, _, rfl, by omega, by omega, by omega, hslr, hS81⟩ (hle6.trans hle82)

end Go.Proofs.YtjfaikgooldcbaaGreatDoor
