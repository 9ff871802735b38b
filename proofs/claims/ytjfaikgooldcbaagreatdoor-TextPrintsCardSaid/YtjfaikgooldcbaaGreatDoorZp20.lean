/-
  slices.Grow of the nil slice of nodes: its walk is turned from the kit's (SlicesGrow), to this program's body.
  A map ranged over: what has been visited; a map's keys. No program in it.
  What val.Object does with a map: plain laws. No program in it.
-/
import Derived.Test.YtjfaikgooldcbaaGreatDoorZp5
import Derived.Test.YtjfaikgooldcbaaGreatDoorProg
import Derived.Shelf.Spec.SlicesGrow
import Derived.Laws.BitsLemmas
import Derived.Test.YtjfaikgooldcbaaGreatDoorZp3
import Derived.Test.YtjfaikgooldcbaaGreatDoorZp19
import Derived.Test.YtjfaikgooldcbaaGreatDoorZp10
import Derived.Lib.ValidLaws
set_option linter.unusedVariables false
set_option linter.unusedSimpArgs false
namespace Go.Eng
open Go.RowKit
theorem St.newSpare {w0 w : World} {M0 M : Mem} {Hs : List HO} (h : St w0 M0 w M Hs) (e : TypeId) (sz cap : Nat) (cur : Array Value) (hc : cur.size = cap * sz) (hm : cap ≤ maxLen) :
    St w0 M0 (w.alloc (.cells cur e)) M (.own e sz (.slice (some ⟨w.heap.size, 0, none⟩) 0 cap) 0 [] :: Hs) := by
  have h1 := h.ext (Ext.alloc w (.cells cur e))
  refine ⟨h1.low, h1.sat, h1.old, fun x hx => ?_, List.pairwise_cons.2 ⟨fun y hy b hb => ?_, h.apart⟩⟩
  · rcases List.mem_cons.1 hx with rfl | hx
    · refine ⟨⟨by simp, .inr ⟨w.heap.size, cap, cur, rfl, h.size, heap_alloc_new _ _, Nat.zero_le _, hm, hc, by simp⟩⟩, fun b hb => ?_⟩
      simp only [Value.ownBlock, Option.some.injEq] at hb; subst hb
      exact ⟨fun o ho => by simp at ho, fun o _ => h.none_of_new (Nat.le_refl _) o⟩
    · exact h1.ok x hx
  · simp only [HO.blk, Value.ownBlock, Option.some.injEq] at hb; subst hb
    intro hy'
    have := (HO.ok.lt (h.ok y hy) hy').2
    omega
end Go.Eng
namespace Go.Proofs.YtjfaikgooldcbaaGreatDoor
open Go.Eng Go.RowKit

set_option maxHeartbeats 1000000 in
set_option maxRecDepth 100000 in
theorem grow_none (w : World) : Calls Tryz.prog 131 #[.slice none 0 0, .int .i64 0] w fun e w' => e = .returned (.slice none 0 0) ∧ w' = w := by
  have mixed : Tryz.prog.follows .mixedOrders = true := by kernel_rfl
  go_enter Tryz.func131, Tryz.ntmps131
  go_wp2
  all_goals (go_ret; exact ⟨rfl, rfl⟩)
set_option maxHeartbeats 4000000 in
set_option maxRecDepth 100000 in
theorem grow_some (n : Nat) (w : World) (h0 : 0 < n) (hbig : n * 64 ≤ 140737488355328) : Calls Tryz.prog 131 #[.slice none 0 0, .int .i64 n] w fun e w' =>
    ∃ cap cur, e = .returned (.slice (some ⟨w.heap.size, 0, none⟩) 0 cap) ∧ cap ≤ maxLen ∧ cur.size = cap * 6 ∧ w' = w.drew.alloc (.cells cur 38) := by
  obtain ⟨i0, hi0, hz0, hs6, hb64⟩ : ∃ i, Tryz.prog.info? 38 = some i ∧ i.zero.isSome = true ∧ i.size = 6 ∧ i.bytes = 64 := by
    obtain ⟨i, hi, he⟩ := Option.map_eq_some_iff.1 (show (Tryz.prog.info? 38).map (fun i => (i.zero.isSome, i.size, i.bytes)) = some (true, 6, 64) by kernel_rfl)
    exact ⟨i, hi, by simpa using congrArg (·.1) he, by simpa using congrArg (·.2.1) he, by simpa using congrArg (·.2.2) he⟩
  obtain ⟨z, hz⟩ := Option.isSome_iff_exists.1 hz0
  have hzc : z.cells.size = 6 := by
    have := show (Tryz.prog.info? 38).bind (fun i => i.zero.map (fun z => z.cells.size)) = some 6 by kernel_rfl
    rw [hi0] at this; simp only [Option.bind_some, hz, Option.map_some, Option.some.injEq] at this; exact this
  have mixed : Tryz.prog.follows .mixedOrders = true := by kernel_rfl
  have us := fun w => run_underlying (P := Tryz.prog) (w := w) Tryz.underlying24
  have ui := fun w => run_underlying (P := Tryz.prog) (w := w) Tryz.underlying3
  have h1 : ¬ ((n : Int) < 0) := by omega
  have h3 : wrap64 ((n : Int) - 0) = (n : Int) := by unfold wrap64; omega
  have h4 : (n : Int) > 0 := by omega
  have hold : (Builtin.firstCells i0.size 0 (.slice none 0 0)).run Tryz.prog w.drew = .ok #[] w.drew := run_firstCells_none w.drew i0.size 0 0 0
  have hrz : ∀ ty, (Builtin.append_ #[24, 3] ty #[.slice none 0 0, .int .i64 (n : Int)]).run Tryz.prog w =
      .ok (.slice (some ⟨w.heap.size, 0, none⟩) n (grownCap w n 0 38)) (w.drew.alloc (.cells (#[] ++ Builtin.zeroCells z.cells n ++ Builtin.zeroCells z.cells (grownCap w n 0 38 - n)) 38)) := fun ty => by
    have h := Lib.run_append_grow_zeros w 24 3 ty 38 i0 z .i64 .i64 Tryz.underlying24 Tryz.underlying3 hi0 hz none 0 0 [] hold n (by omega) (by omega) (by omega) (by omega)
      (by rw [hb64]; omega) (by rw [Nat.zero_add]; exact growslice_fits h0 (by rw [hb64]; omega))
    rw [Nat.zero_add] at h
    exact h
  have hGn : n ≤ grownCap w n 0 38 := grownCap_ge w _ _ _
  have hGm : grownCap w n 0 38 ≤ maxLen := grownCap_le_maxLen w n 0 38 (by unfold maxLen; omega)
  obtain ⟨G, hG⟩ : ∃ G, G = grownCap w n 0 38 := ⟨_, rfl⟩
  rw [← hG] at hrz hGn hGm
  have hG63 : G ≤ 9223372036854775807 := by unfold maxLen at hGm; omega
  have hzs : ∀ k, (Builtin.zeroCells z.cells k).size = k * 6 := fun k => by simp [Builtin.zeroCells, hzc]
  have hsz : (#[] ++ Builtin.zeroCells z.cells n ++ Builtin.zeroCells z.cells (G - n)).size = G * 6 := by rw [Array.size_append, Array.size_append, hzs, hzs]; simp; omega
  generalize (#[] ++ Builtin.zeroCells z.cells n ++ Builtin.zeroCells z.cells (G - n)) = cur at hrz hsz
  clear hold hG hi0
  go_enter Tryz.func131, Tryz.ntmps131
  go_wp2_with (at_builtin; refine Lib.wpList_append_run _ rfl _ _ _ _ rfl _ _ rfl rfl _ _ (hrz _) ?_)
  all_goals (go_ret; exact ⟨G, rfl, hGm, _, hsz, rfl⟩)
theorem grow_c {w wv : World} {M0 M : Mem} {Hs : List HO} (n : Int) (hS : St w M0 wv M Hs) (h0 : 0 ≤ n) (hb : n ≤ 1099511627776) :
    Calls Tryz.prog 131 [.slice none 0 0, i64 n].toArray wv fun e w' => ∃ u, e = .returned u ∧ St w M0 w' M (.own 38 6 u 0 [] :: Hs) := by
  by_cases hn : n = 0
  · subst hn
    exact (grow_none wv).mono fun e w' ⟨he, hw⟩ => ⟨_, he, hw ▸ hS.ownNil _ _⟩
  · have hg := grow_some n.toNat wv (by omega) (by omega)
    rw [show ((n.toNat : Nat) : Int) = n from by omega] at hg
    refine hg.mono fun e w' ⟨cap, cur, he, hc, hs, hw⟩ => ⟨_, he, ?_⟩
    subst hw
    exact (hS.ext (Ext.drew wv)).newSpare _ 6 cap cur hs hc
end Go.Proofs.YtjfaikgooldcbaaGreatDoor
namespace Go.Proofs.YtjfaikgooldcbaaGreatDoor
open Go.Eng

/- slices.Concat[loupe/api.Val,loupe/api.Node] -/
set_option maxRecDepth 100000 in
theorem concat_c {w wv : World} {M0 M : Mem} {Rs : List HO} (rs : List SlH) (xs : List Vl) (va : Value) (hS : St w M0 wv M Rs) (ha : Sl M 1 rs.length va (rs.flatMap valI)) (hrow : RowsV M 6 Nd.cells rs xs) (hbd : len xs.flatten ≤ 1099511627776) :
  Calls Tryz.prog 102 [va].toArray wv fun e w' => ∃ u, e = .returned u ∧ ∃ M', Sl M' 6 xs.flatten.length u (xs.flatten.flatMap Nd.cells) ∧ St w M0 w' M' Rs ∧ M.le M' := by
 refine CW.enter1 Tryz.func102 rfl Tryz.ntmps102 (Nat.le_of_ble_eq_true rfl) fun Q hE => ?_
 have hrl : len rs = len xs := by unfold len; rw [hrow.len]
 have hle9 : len rs ≤ 9223372036854775807 := ha.le
 have hn0 := len_nonneg rs
 refine CW.weaken [0] (L' := [Y 0 va]) ?_ rfl
 refine CW.sr ?_
 have hS1 := hS.ownNil 38 6
 replace hS1 : St w M0 wv M (.own 38 6 (.slice none 0 0) (([] : List Nd)).length ((([] : List Nd)).flatMap Nd.cells) :: Rs) := hS1
 refine RL.u (.assign .c) rfl ?_
 refine RL.nil (CW.id ?_)
 refine CW.sr ?_
 refine RL.u (.assign .c) rfl ?_
 refine RL.nil (CW.id ?_)
 refine CW.seq ?_
 refine CW.sr ?_
 refine RL.m rfl rfl (RL.u (.lenT ha (.t rfl) ⟨_, Tryz.underlying47⟩) rfl (RL.u (.move .c) rfl ?_))
 refine RL.nil (CW.id ?_)
 refine CW.block ?_
 refine CW.loop (σ := Int × Int) (fun (k, q) => [Y 0 va, Y 3 (i64 q), Y 9 va, Y 10 (i64 (len rs)), Y 11 (i64 k)]) (fun (k, q) wl => St w M0 wl M (.own 38 6 (.slice none 0 0) (([] : List Nd)).length ((([] : List Nd)).flatMap Nd.cells) :: Rs) ∧ Sl M 1 rs.length va (rs.flatMap valI) ∧ RowsV M 6 Nd.cells rs xs ∧ 0 ≤ k ∧ k ≤ len rs ∧ q = len (flatTo xs k)) (fun (k, q) => (len rs - k).toNat) ((0, 0)) [0, 3, 9, 10, 11] rfl ?_ ?_
 ·refine ⟨hS1, ha, hrow, ?_⟩; exact ⟨by omega, by omega, rfl⟩
 ·rintro ⟨k, q⟩ wl ⟨hS2, ha, hrow, hk0, hk1, hq⟩
  have hrk := fun h : k < len rs => hrow.at hk0 h
  refine CW.sr ?_
  refine RL.u (.lss (.t rfl) (.t rfl)) rfl ?_
  refine RL.nil (CW.id ?_)
  refine CW.seq ?_
  refine CW.cond rfl (fun hb1 => ?_) (fun hb1 => ?_)
  ·try simp only [zb] at hb1
   replace hrk := hrk hb1
   have hft := flatTo_step hk0 (by omega : k < len xs)
   have hfl := flatTo_le xs (k + 1)
   rw [hft, len_app] at hfl
   have hz := len_nonneg (at' xs k)
   have hz2 := len_nonneg (flatTo xs k)
   refine CW.skip (CW.id ?_)
   refine CW.seq ?_
   refine CW.block ?_
   refine CW.sr ?_
   refine RL.u (.idxT ha (.t rfl) (.t rfl) Tryz.underlying47 Tryz.sizeOf24 (fun _ => by first | omega | (subst hll; omega) | (subst hq; omega))) rfl (RL.u (.loadE1 (f := valI) (i := k) (j := 0) (u := ((at' rs k).v)) hS2 extEq ha valI_len (.t rfl) Tryz.isAgg24 (fun _ => by first | omega | (subst hll; omega) | (subst hq; omega)) rfl rfl) rfl (RL.a rfl rfl ?_))
   refine RL.nil (CW.id ?_)
   refine CW.sr ?_
   refine RL.m rfl rfl (RL.m rfl rfl (RL.u (.lenT hrk (.t rfl) ⟨_, Tryz.underlying24⟩) rfl (RL.u (.add (.t rfl) (.t rfl) (fun _ => by first | omega | (subst hll; omega) | (subst hq; omega))) rfl (RL.a rfl rfl ?_))))
   refine RL.nil (CW.id ?_)
   refine CW.sr ?_
   refine RL.m rfl rfl (RL.u (.lss (.t rfl) .c) rfl ?_)
   refine RL.nil (CW.id ?_)
   refine CW.cond rfl (fun hb2 => ?_) (fun hb2 => ?_)
   ·try simp only [zb] at hb2
    exfalso; omega
   ·try simp only [zb] at hb2
    refine CW.skip (CW.id ?_)
    refine CW.region ?_
    refine RL.u (.add (.t rfl) .c (fun _ => by first | omega | (subst hll; omega) | (subst hq; omega))) rfl (RL.m rfl rfl ?_)
    refine RL.nil fun a hs => Exists.intro ((k + 1, q + (len (at' xs k)))) ⟨hs.keep [0, 3, 9, 10, 11], ?_, ?_⟩
    ·refine ⟨hS2, ha, hrow, ?_⟩
     exact ⟨by omega, by omega, by rw [hft, len_app]; omega⟩
    ·show Int.toNat _ < Int.toNat _; omega
  ·try simp only [zb] at hb1
   have hfe : flatTo xs k = xs.flatten := flatTo_end (by omega)
   have hz3 := len_nonneg xs.flatten
   have hfe1 : len (flatTo xs k) = len xs.flatten := by rw [hfe]
   refine CW.exit (CW.at [Y 0 va, Y 3 (i64 q)] rfl ?_)
   refine CW.sr ?_
   refine RL.m rfl rfl ?_
   refine RL.callP Tryz.call131 (.cons .c (.cons (.t rfl) .nil)) (grow_c (Hs := (.own 38 6 (.slice none 0 0) (([] : List Nd)).length ((([] : List Nd)).flatMap Nd.cells) :: Rs)) q hS2 (by omega) (by omega)) rfl ?_
   rintro v3 w4 hS6
   replace hS6 : St w M0 w4 M (.own 38 6 v3 (([] : List Nd)).length ((([] : List Nd)).flatMap Nd.cells) :: .own 38 6 (.slice none 0 0) (([] : List Nd)).length ((([] : List Nd)).flatMap Nd.cells) :: Rs) := hS6
   refine RL.a rfl rfl ?_
   refine RL.nil (CW.at [Y 0 va, Y 6 v3] rfl ?_)
   refine CW.seq ?_
   refine CW.sr ?_
   refine RL.m rfl rfl (RL.u (.lenT ha (.t rfl) ⟨_, Tryz.underlying47⟩) rfl (RL.u (.move .c) rfl ?_))
   refine RL.nil (CW.id ?_)
   refine CW.block ?_
   refine CW.loop (σ := Int × Value × List Nd × Mem) (fun (k, vl, ll, Ml) => [Y 6 vl, Y 25 va, Y 26 (i64 (len rs)), Y 27 (i64 k)]) (fun (k, vl, ll, Ml) wl => St w M0 wl Ml (.own 38 6 vl ll.length (ll.flatMap Nd.cells) :: .own 38 6 (.slice none 0 0) (([] : List Nd)).length ((([] : List Nd)).flatMap Nd.cells) :: Rs) ∧ Sl Ml 1 rs.length va (rs.flatMap valI) ∧ RowsV Ml 6 Nd.cells rs xs ∧ 0 ≤ k ∧ k ≤ len rs ∧ ll = flatTo xs k ∧ M.le Ml) (fun (k, vl, ll, Ml) => (len rs - k).toNat) ((0, v3, ([] : List Nd), M)) [6, 25, 26, 27] rfl ?_ ?_
   ·refine ⟨hS6, ha, hrow, ?_⟩; exact ⟨by omega, by omega, rfl, (Mem.le.refl _)⟩
   ·rintro ⟨k, vl, ll, Ml⟩ wl ⟨hS8, ha, hrow, hk0, hk1, hll, hle0⟩
    have hrk := fun h : k < len rs => hrow.at hk0 h
    refine CW.sr ?_
    refine RL.u (.lss (.t rfl) (.t rfl)) rfl ?_
    refine RL.nil (CW.id ?_)
    refine CW.seq ?_
    refine CW.cond rfl (fun hb3 => ?_) (fun hb3 => ?_)
    ·try simp only [zb] at hb3
     replace hrk := hrk hb3
     have hft := flatTo_step hk0 (by omega : k < len xs)
     have hfl := flatTo_le xs (k + 1)
     rw [hft, len_app] at hfl
     have hz := len_nonneg (at' xs k)
     have hz2 := len_nonneg (flatTo xs k)
     refine CW.skip (CW.id ?_)
     refine CW.seq ?_
     refine CW.block ?_
     refine CW.sr ?_
     refine RL.u (.idxT ha (.t rfl) (.t rfl) Tryz.underlying47 Tryz.sizeOf24 (fun _ => by first | omega | (subst hll; omega) | (subst hq; omega))) rfl (RL.u (.loadE1 (f := valI) (i := k) (j := 0) (u := ((at' rs k).v)) hS8 extEq ha valI_len (.t rfl) Tryz.isAgg24 (fun _ => by first | omega | (subst hll; omega) | (subst hq; omega)) rfl rfl) rfl (RL.a rfl rfl ?_))
     refine RL.nil (CW.id ?_)
     refine CW.region ?_
     refine RL.m rfl rfl (RL.m rfl rfl ?_)
     refine RL.appendL (f := Nd.cells) (l := ll) (m := at' xs k) hS8 (k := 0) rfl (.t rfl) (.t rfl) hrk Tryz.underlying24 Tryz.type38 rfl rfl rfl Nd.cells_one (by' := 64) rfl rfl (by first | omega | (subst hll; omega) | (subst hq; omega)) rfl (Hs' := fun v' => (.own 38 6 v' (ll ++ at' xs k).length ((ll ++ at' xs k).flatMap Nd.cells) :: .own 38 6 (.slice none 0 0) (([] : List Nd)).length ((([] : List Nd)).flatMap Nd.cells) :: Rs)) (fun _ => rfl) (fun v9 w10 M11 hS12 hle13 => ?_)
     replace ha := ha.mono hle13
     replace hrow := hrow.mono hle13
     refine RL.a rfl rfl ?_
     refine RL.nil (CW.id ?_)
     refine CW.region ?_
     refine RL.u (.add (.t rfl) .c (fun _ => by first | omega | (subst hll; omega) | (subst hq; omega))) rfl (RL.m rfl rfl ?_)
     refine RL.nil fun a hs => Exists.intro ((k + 1, v9, ll ++ at' xs k, M11)) ⟨hs.keep [6, 25, 26, 27], ?_, ?_⟩
     ·refine ⟨hS12, ha, hrow, ?_⟩
      exact ⟨by omega, by omega, by rw [hft, hll], (hle0.trans hle13)⟩
     ·show Int.toNat _ < Int.toNat _; omega
    ·try simp only [zb] at hb3
     refine CW.exit (CW.at [Y 6 vl] rfl ?_)
     refine CW.sr ?_
     refine RL.m rfl rfl (RL.a rfl rfl ?_)
     refine RL.nil (CW.id ?_)
     refine CW.ret (hE.r1 rfl rfl ?_)
     have hslr := (hS8.sl (i := 0) rfl)
     replace hS8 : St w M0 wl Ml (.own 38 6 vl ll.length (ll.flatMap Nd.cells) :: Rs) := hS8.erase 1 rfl
     replace hS8 : St w M0 wl Ml Rs := hS8.erase 0 rfl
     have hfe2 : ll = xs.flatten := by rw [hll]; exact flatTo_end (by omega)
     subst hfe2
     exact ⟨_, rfl, Ml, hslr, hS8, hle0⟩

/- loupe/val.List -/
set_option maxRecDepth 100000 in
theorem vlist_c {w wv : World} {M0 M : Mem} {Rs : List HO} (rs : List SlH) (xs : List Vl) (va : Value) (hS : St w M0 wv M Rs) (ha : Sl M 1 rs.length va (rs.flatMap valI)) (hrow : RowsV M 6 Nd.cells rs xs) (hbd : len xs.flatten ≤ 1099511627776) :
  Calls Tryz.prog 74 [va].toArray wv fun e w' => ∃ u, e = .returned u ∧ ∃ a c M', u = .slice a (listV xs).length c ∧ Sl M' 6 (listV xs).length u ((listV xs).flatMap Nd.cells) ∧ St w M0 w' M' Rs ∧ M.le M' := by
 refine CW.enter1 Tryz.func74 rfl Tryz.ntmps74 (Nat.le_of_ble_eq_true rfl) fun Q hE => ?_
 have hrl : len rs = len xs := by unfold len; rw [hrow.len]
 have hn := len_nonneg xs.flatten
 refine CW.weaken [0] (L' := [Y 0 va]) ?_ rfl
 refine CW.sr ?_
 have hS1 := hS.ownNil 38 6
 replace hS1 : St w M0 wv M (.own 38 6 (.slice none 0 0) (([] : List Nd)).length ((([] : List Nd)).flatMap Nd.cells) :: Rs) := hS1
 refine RL.u (.assign .c) rfl ?_
 refine RL.nil (CW.id ?_)
 refine CW.sr ?_
 refine RL.m rfl rfl (RL.u (.lenT ha (.t rfl) ⟨_, Tryz.underlying47⟩) rfl (RL.u (.build (vs := [(0, (i64 5)), (1, (i64 (len rs)))]) (v := (.agg #[(i64 5), (i64 (len rs)), (str []), (str []), (.bool false), (i64 0)])) (.cons .c (.cons (.t rfl) .nil)) (fun w => by kernel_rfl)) rfl ?_))
 refine RL.buildSlice (n := 1) (sz := 6) (e := 38) (vs := [(0, (.agg #[(i64 5), (i64 (len rs)), (str []), (str []), (.bool false), (i64 0)]))]) (cs := [(i64 5), (i64 (len rs)), (str []), (str []), (.bool false), (i64 0)]) hS1 (.cons (.t rfl) .nil) rfl rfl (fun w => by kernel_rfl) rfl (fun v2 w3 M4 hS5 hle6 => ?_)
 replace hS5 : St w M0 w3 M4 (.own 38 6 v2 (([⟨5, len rs, [], [], false, 0⟩] : List Nd)).length ((([⟨5, len rs, [], [], false, 0⟩] : List Nd)).flatMap Nd.cells) :: .own 38 6 (.slice none 0 0) (([] : List Nd)).length ((([] : List Nd)).flatMap Nd.cells) :: Rs) := hS5
 replace ha := ha.mono hle6
 replace hrow := hrow.mono hle6
 refine RL.m rfl rfl ?_
 refine RL.callP Tryz.call102 (.cons (.t rfl) .nil) (concat_c (Rs := (.own 38 6 v2 (([⟨5, len rs, [], [], false, 0⟩] : List Nd)).length ((([⟨5, len rs, [], [], false, 0⟩] : List Nd)).flatMap Nd.cells) :: .own 38 6 (.slice none 0 0) (([] : List Nd)).length ((([] : List Nd)).flatMap Nd.cells) :: Rs)) rs xs va hS5 ha hrow (by assumption)) rfl ?_
 rintro v7 w8 ⟨M9, hsl_v7, hS10, hle11⟩
 replace hS10 : St w M0 w8 M9 (.own 38 6 v2 (([⟨5, len rs, [], [], false, 0⟩] : List Nd)).length ((([⟨5, len rs, [], [], false, 0⟩] : List Nd)).flatMap Nd.cells) :: .own 38 6 (.slice none 0 0) (([] : List Nd)).length ((([] : List Nd)).flatMap Nd.cells) :: Rs) := hS10
 replace ha := ha.mono hle11
 replace hrow := hrow.mono hle11
 refine RL.appendL (f := Nd.cells) (l := ([⟨5, len rs, [], [], false, 0⟩] : List Nd)) (m := xs.flatten) hS10 (k := 0) rfl (.t rfl) (.t rfl) hsl_v7 Tryz.underlying24 Tryz.type38 rfl rfl rfl Nd.cells_one (by' := 64) rfl rfl (by first | omega | (simp only [len_app, len_cons, len_nil] at *; omega)) rfl (Hs' := fun v' => (.own 38 6 v' (([⟨5, len rs, [], [], false, 0⟩] : List Nd) ++ xs.flatten).length ((([⟨5, len rs, [], [], false, 0⟩] : List Nd) ++ xs.flatten).flatMap Nd.cells) :: .own 38 6 (.slice none 0 0) (([] : List Nd)).length ((([] : List Nd)).flatMap Nd.cells) :: Rs)) (fun _ => rfl) (fun v12 w13 M14 hS15 hle16 => ?_)
 replace ha := ha.mono hle16
 replace hrow := hrow.mono hle16
 refine RL.a rfl rfl ?_
 refine RL.nil (CW.at [Y 2 v12] rfl ?_)
 refine CW.ret (hE.r1 rfl rfl ?_)
 have hslr := (hS15.sl (i := 0) rfl)
 replace hS15 : St w M0 w13 M14 (.own 38 6 v12 (([⟨5, len rs, [], [], false, 0⟩] : List Nd) ++ xs.flatten).length ((([⟨5, len rs, [], [], false, 0⟩] : List Nd) ++ xs.flatten).flatMap Nd.cells) :: Rs) := hS15.erase 1 rfl
 replace hS15 : St w M0 w13 M14 Rs := hS15.erase 0 rfl
 rw [hrl] at hslr
 obtain ⟨az, cz, hz⟩ := Sl.shape hslr
 exact ⟨_, rfl, az, cz, M14, hz, hslr, hS15, ((hle6.trans hle11).trans hle16)⟩

end Go.Proofs.YtjfaikgooldcbaaGreatDoor
namespace Go.Proofs.YtjfaikgooldcbaaGreatDoor
open Go.Eng

def ListI (pb bl b2 b3 : Nat) (d i0 : Int) (xs : List Vl) (j : Int) (M : Mem) (Hs : List HO) : Prop := (len xs ≤ j ∧ len xs.flatten + 1 ≤ j - i0) ∧ ∃ v rs, RowsV M 6 Nd.cells rs xs ∧ Hs = [.box bl [v] 47, .own 24 1 v rs.length (rs.flatMap valI), .box b2 [.pointer (some ⟨pb, 0, none⟩)] 53, .box b3 [i64 d] 3]
theorem list_part {w : World} {M0 : Mem} {Rs : List HO} (s : Str) (pb bl b2 b3 : Nat) (d i0 : Int) (hb : len s ≤ 1099511627776) (hd : 0 ≤ d ∧ d ≤ 900) (f : Nat) (hval : ValOK w M0 s pb f) :
    PartOK w M0 Rs s pb 73 [.pointer (some ⟨bl, 0, none⟩), .pointer (some ⟨b2, 0, none⟩), .pointer (some ⟨b3, 0, none⟩)] (ListI pb bl b2 b3 d i0) (fun f x i => mapR (fun y => x ++ [y]) (valT f s i (d + 1))) f := by
  intro xs i wv M Hs hI h0 h1 hf hS
  obtain ⟨hlx, v, rs, hrow, rfl⟩ := hI
  refine (listpart_c (Rs := Rs) s i d pb bl b2 b3 v rs xs f i0 hS hrow hlx h0 h1 hb hd hf hval).mono fun e w' h => ?_
  show PPost w M0 M Rs 51 _ (mapR (fun y => xs ++ [y]) (valT f s i (d + 1))) e w'
  revert h
  generalize mapR (fun y => xs ++ [y]) (valT f s i (d + 1)) = r
  intro h
  cases r with
  | ok x j => obtain ⟨v', M', he, ⟨h2, h3, h4, v2, rs2, hr2, hS2⟩, hle⟩ := h; exact ⟨v', M', he, ⟨by omega, h3, _, ⟨h4, v2, rs2, hr2, rfl⟩, hS2⟩, hle⟩
  | er ec p => exact h
theorem list_parts {w wv : World} {M0 M : Mem} {Rs : List HO} (s : Str) (i d : Int) (pb bl b2 b3 : Nat) (Fu : Nat) (hS : St w M0 wv M (.box pb [str s, i64 (i)] 55 :: .box bl [.slice none 0 0] 47 :: .own 24 1 (.slice none 0 0) ([] : List SlH).length (([] : List SlH).flatMap valI) :: .box b2 [.pointer (some ⟨pb, 0, none⟩)] 53 :: .box b3 [i64 d] 3 :: Rs))
    (h0 : 0 ≤ i) (h1 : i < len s) (hb : len s ≤ 1099511627776) (hd : 0 ≤ d ∧ d ≤ 900) (hf : 2 * (len s - i) ≤ Fu) (hval : ∀ f, f < Fu → ValOK w M0 s pb f) :
    Calls Tryz.prog 72 [.pointer (some ⟨pb, 0, none⟩), str [93], (.func (.func 73) #[] #[(.pointer (some ⟨bl, 0, none⟩)), (.pointer (some ⟨b2, 0, none⟩)), (.pointer (some ⟨b3, 0, none⟩))])].toArray wv (PPost w M0 M Rs 51 (fun x j v M' w' => i + 2 ≤ j ∧ j ≤ len s ∧ (len x ≤ j ∧ len x.flatten + 1 ≤ j - i) ∧ ∃ v2 rs2, RowsV M' 6 Nd.cells rs2 x ∧ St w M0 w' M' (.box pb [str s, i64 (j)] 55 :: .box bl [v2] 47 :: .own 24 1 v2 rs2.length (rs2.flatMap valI) :: .box b2 [.pointer (some ⟨pb, 0, none⟩)] 53 :: .box b3 [i64 d] 3 :: Rs)) (partsT s i [93] [] (itemsT Fu s d))) := by
  refine (parts_c (Rs := Rs) s [93] i pb 73 [.pointer (some ⟨bl, 0, none⟩), .pointer (some ⟨b2, 0, none⟩), .pointer (some ⟨b3, 0, none⟩)] (ListI pb bl b2 b3 d i) (fun f x i => mapR (fun y => x ++ [y]) (valT f s i (d + 1))) (fun f => itemsT f s d) [] Fu _ hS ⟨⟨by simp only [len_nil]; omega, by simp only [List.flatten_nil, len_nil]; omega⟩, _, [], trivial, rfl⟩ ?_ Tryz.call73 (fun f x i => by rw [itemsT]) (fun f hf => list_part s pb bl b2 b3 d i hb hd f (hval f hf)) rfl hf h0 h1 hb).mono fun e w' h => ?_
  · rintro x M Hs j j2 hj ⟨⟨h1, h2⟩, h3⟩; exact ⟨⟨by omega, by omega⟩, h3⟩
  · revert h
    show PPost _ _ _ _ _ _ _ _ _ → PPost _ _ _ _ _ _ _ _ _
    generalize partsT s i [93] [] (itemsT Fu s d) = r
    intro h
    cases r with
    | ok x j => obtain ⟨v', M', he, ⟨h2, h3, _, ⟨h4, v2, rs2, hr2, rfl⟩, hS2⟩, hle⟩ := h; exact ⟨v', M', he, ⟨h2, h3, h4, v2, rs2, hr2, hS2⟩, hle⟩
    | er ec p => exact h
/- (*loupe/text.parser).list -/
set_option maxRecDepth 100000 in
theorem listp_c {w wv : World} {M0 M : Mem} {Rs : List HO} (s : Str) (i d : Int) (pb : Nat) (Fu : Nat) (hS : St w M0 wv M (.box pb [(str s), (i64 i)] 55 :: Rs)) (h0 : 0 ≤ i) (h1 : i < len s) (hb : len s ≤ 1099511627776) (hd : 0 ≤ d ∧ d ≤ 900) (hf : 2 * (len s - i) ≤ Fu) (hval : ∀ f, f < Fu → ValOK w M0 s pb f) :
  Calls Tryz.prog 45 [(.pointer (some ⟨pb, 0, none⟩)), (i64 d)].toArray wv fun e w' => PPost w M0 M Rs 51 (fun x j v M' w' => ∃ a c, v = .slice a x.length c ∧ i + 1 ≤ j ∧ j ≤ len s ∧ len x ≤ j - i ∧ Sl M' 6 x.length (.slice a x.length c) (x.flatMap Nd.cells) ∧ St w M0 w' M' (.box pb [str s, i64 j] 55 :: Rs)) (mapR listV (partsT s i [93] [] (itemsT Fu s d))) e w' := by
 refine CW.enter1 Tryz.func45 rfl Tryz.ntmps45 (Nat.le_of_ble_eq_true rfl) fun Q hE => ?_
 refine CW.weaken [0, 1] (L' := [Y 0 (.pointer (some ⟨pb, 0, none⟩)), Y 1 (i64 d)]) ?_ rfl
 refine CW.sr ?_
 refine RL.box (v := (.pointer (some ⟨pb, 0, none⟩))) hS (.t rfl) rfl (fun w1 b2 hS3 => ?_)
 refine RL.box (v := (i64 d)) hS3 (.t rfl) rfl (fun w4 b5 hS6 => ?_)
 have hS7 := hS6.ownNil 38 6
 replace hS7 : St w M0 w4 M (.own 38 6 (.slice none 0 0) (([] : List Nd)).length ((([] : List Nd)).flatMap Nd.cells) :: .box b5 [(i64 d)] 3 :: .box b2 [(.pointer (some ⟨pb, 0, none⟩))] 53 :: .box pb [(str s), (i64 i)] 55 :: Rs) := hS7
 refine RL.u (.assign .c) rfl ?_
 refine RL.nil (CW.id ?_)
 refine CW.sr ?_
 refine RL.alloc hS7 Tryz.zeroValue47 rfl (fun w8 b9 hS10 => ?_)
 have hS11 := hS10.ownNil 24 1
 replace hS11 : St w M0 w8 M (.own 24 1 (.slice none 0 0) (([] : List SlH)).length ((([] : List SlH)).flatMap valI) :: .box b9 [(.slice none 0 0)] 47 :: .own 38 6 (.slice none 0 0) (([] : List Nd)).length ((([] : List Nd)).flatMap Nd.cells) :: .box b5 [(i64 d)] 3 :: .box b2 [(.pointer (some ⟨pb, 0, none⟩))] 53 :: .box pb [(str s), (i64 i)] 55 :: Rs) := hS11
 refine RL.nil (CW.id ?_)
 refine CW.sr ?_
 refine RL.u (.loadB1 (v := (.pointer (some ⟨pb, 0, none⟩))) hS11 extEq (i := 4) rfl (.t rfl) Tryz.isAgg53 rfl) rfl (RL.u (.makeFunc .nil (.cons (.t rfl) (.cons (.t rfl) (.cons (.t rfl) .nil)))) rfl ?_)
 replace hS11 : St w M0 w8 M (.box b5 [(i64 d)] 3 :: .own 24 1 (.slice none 0 0) (([] : List SlH)).length ((([] : List SlH)).flatMap valI) :: .box b9 [(.slice none 0 0)] 47 :: .own 38 6 (.slice none 0 0) (([] : List Nd)).length ((([] : List Nd)).flatMap Nd.cells) :: .box b2 [(.pointer (some ⟨pb, 0, none⟩))] 53 :: .box pb [(str s), (i64 i)] 55 :: Rs) := hS11.front 3 rfl rfl
 replace hS11 : St w M0 w8 M (.box b2 [(.pointer (some ⟨pb, 0, none⟩))] 53 :: .box b5 [(i64 d)] 3 :: .own 24 1 (.slice none 0 0) (([] : List SlH)).length ((([] : List SlH)).flatMap valI) :: .box b9 [(.slice none 0 0)] 47 :: .own 38 6 (.slice none 0 0) (([] : List Nd)).length ((([] : List Nd)).flatMap Nd.cells) :: .box pb [(str s), (i64 i)] 55 :: Rs) := hS11.front 4 rfl rfl
 replace hS11 : St w M0 w8 M (.own 24 1 (.slice none 0 0) (([] : List SlH)).length ((([] : List SlH)).flatMap valI) :: .box b2 [(.pointer (some ⟨pb, 0, none⟩))] 53 :: .box b5 [(i64 d)] 3 :: .box b9 [(.slice none 0 0)] 47 :: .own 38 6 (.slice none 0 0) (([] : List Nd)).length ((([] : List Nd)).flatMap Nd.cells) :: .box pb [(str s), (i64 i)] 55 :: Rs) := hS11.front 2 rfl rfl
 replace hS11 : St w M0 w8 M (.box b9 [(.slice none 0 0)] 47 :: .own 24 1 (.slice none 0 0) (([] : List SlH)).length ((([] : List SlH)).flatMap valI) :: .box b2 [(.pointer (some ⟨pb, 0, none⟩))] 53 :: .box b5 [(i64 d)] 3 :: .own 38 6 (.slice none 0 0) (([] : List Nd)).length ((([] : List Nd)).flatMap Nd.cells) :: .box pb [(str s), (i64 i)] 55 :: Rs) := hS11.front 3 rfl rfl
 replace hS11 : St w M0 w8 M (.box pb [(str s), (i64 i)] 55 :: .box b9 [(.slice none 0 0)] 47 :: .own 24 1 (.slice none 0 0) (([] : List SlH)).length ((([] : List SlH)).flatMap valI) :: .box b2 [(.pointer (some ⟨pb, 0, none⟩))] 53 :: .box b5 [(i64 d)] 3 :: .own 38 6 (.slice none 0 0) (([] : List Nd)).length ((([] : List Nd)).flatMap Nd.cells) :: Rs) := hS11.front 5 rfl rfl
 refine RL.callR Tryz.call72 (.cons (.t rfl) (.cons .c (.cons (.t rfl) .nil))) (list_parts (Rs := (.own 38 6 (.slice none 0 0) (([] : List Nd)).length ((([] : List Nd)).flatMap Nd.cells) :: Rs)) s i d pb b9 b2 b5 Fu hS11 h0 h1 hb hd hf hval) rfl (fun ec p M23 w24 hr27 hS25 hle26 => ?_) (fun x14 j15 v16 M18 w17 hr19 hF22 hle21 => ?_)
 ·replace hS25 := hS25.drop Rs (List.sublist_append_right [_] _)
  exact hE.p (PPost.er (show mapR _ _ = _ from by rw [hr27]; rfl) hS25 hle26)
 obtain ⟨hF22a, hF22b, ⟨hF22c, hF22d⟩, v12, rs13, hrow, hS20⟩ := hF22
 refine RL.nil (CW.at [Y 5 (.pointer (some ⟨b9, 0, none⟩))] rfl ?_)
 refine CW.sr ?_
 refine RL.u (.loadB1 (v := v12) hS20 extEq (i := 1) rfl (.t rfl) Tryz.isAgg47 rfl) rfl ?_
 refine RL.callP Tryz.call74 (.cons (.t rfl) .nil) (vlist_c (Rs := (.box pb [(str s), (i64 j15)] 55 :: .box b9 [v12] 47 :: .own 24 1 v12 rs13.length (rs13.flatMap valI) :: .box b2 [(.pointer (some ⟨pb, 0, none⟩))] 53 :: .box b5 [(i64 d)] 3 :: .own 38 6 (.slice none 0 0) (([] : List Nd)).length ((([] : List Nd)).flatMap Nd.cells) :: Rs)) rs13 x14 v12 hS20 (hS20.sl (i := 2) rfl) hrow (by omega)) rfl ?_
 rintro v30 w31 ⟨a28, c29, M32, rfl, hsl_v30, hS33, hle34⟩
 replace hS33 : St w M0 w31 M32 (.box pb [(str s), (i64 j15)] 55 :: .box b9 [v12] 47 :: .own 24 1 v12 rs13.length (rs13.flatMap valI) :: .box b2 [(.pointer (some ⟨pb, 0, none⟩))] 53 :: .box b5 [(i64 d)] 3 :: .own 38 6 (.slice none 0 0) (([] : List Nd)).length ((([] : List Nd)).flatMap Nd.cells) :: Rs) := hS33
 replace hrow := hrow.mono hle34
 refine RL.a rfl rfl ?_
 refine RL.nil (CW.at [Y 4 (.slice a28 (listV x14).length c29)] rfl ?_)
 refine CW.ret (hE.r1 rfl rfl ?_)
 have hslr := hsl_v30
 replace hS33 : St w M0 w31 M32 (.box pb [(str s), (i64 j15)] 55 :: .box b9 [v12] 47 :: .own 24 1 v12 rs13.length (rs13.flatMap valI) :: .box b2 [(.pointer (some ⟨pb, 0, none⟩))] 53 :: .box b5 [(i64 d)] 3 :: Rs) := hS33.erase 5 rfl
 replace hS33 : St w M0 w31 M32 (.box pb [(str s), (i64 j15)] 55 :: .box b9 [v12] 47 :: .own 24 1 v12 rs13.length (rs13.flatMap valI) :: .box b2 [(.pointer (some ⟨pb, 0, none⟩))] 53 :: Rs) := hS33.erase 4 rfl
 replace hS33 : St w M0 w31 M32 (.box pb [(str s), (i64 j15)] 55 :: .box b9 [v12] 47 :: .own 24 1 v12 rs13.length (rs13.flatMap valI) :: Rs) := hS33.erase 3 rfl
 replace hS33 : St w M0 w31 M32 (.box pb [(str s), (i64 j15)] 55 :: .box b9 [v12] 47 :: Rs) := hS33.erase 2 rfl
 replace hS33 : St w M0 w31 M32 (.box pb [(str s), (i64 j15)] 55 :: Rs) := hS33.erase 1 rfl
 have hlz : len (listV x14) = len x14.flatten + 1 := len_cons _ _
 exact PPost.ok (show mapR _ _ = _ from by rw [hr19]; rfl) ⟨_, _, rfl, by omega, by omega, by omega, hslr, hS33⟩ (hle21.trans hle34)

end Go.Proofs.YtjfaikgooldcbaaGreatDoor
namespace Go.Eng
open Go.RowKit

/-- The pairs that have been visited, and their births. -/
def Vis (seen : Array Nat) (bs : List Nat) (ps m : List (Str × Vl)) : Prop := seen.toList = bs ∧ bs.length = ps.length ∧ (∀ p ∈ ps, p ∈ m) ∧ (ps.map (·.1)).Nodup
def KeysOK (m : List (Str × Vl)) : Prop := (m.map (·.1)).Nodup
theorem putV_keys (n : Str) (x : Vl) : ∀ m : List (Str × Vl), (n ∈ m.map (·.1) → (putV m n x).map (·.1) = m.map (·.1)) ∧ (n ∉ m.map (·.1) → (putV m n x).map (·.1) = m.map (·.1) ++ [n])
  | [] => ⟨fun h => (by cases h), fun _ => rfl⟩
  | p :: m => by
    have ih := putV_keys n x m
    by_cases h : n = p.1
    · refine ⟨fun _ => ?_, fun hn => absurd ?_ hn⟩
      · unfold putV; rw [if_pos (by simpa using h)]; simp [h]
      · simp [h]
    · have e : putV (p :: m) n x = p :: putV m n x := by rw [putV, if_neg (by simpa using h)]
      rw [e]
      refine ⟨fun hn => ?_, fun hn => ?_⟩
      · simp only [List.map_cons, List.mem_cons] at hn ⊢
        rcases hn with hn | hn
        · exact absurd hn h
        · rw [ih.1 hn]
      · simp only [List.map_cons, List.mem_cons, not_or] at hn ⊢
        rw [ih.2 hn.2]; rfl
theorem KeysOK.put {m : List (Str × Vl)} (h : KeysOK m) (n : Str) (x : Vl) : KeysOK (putV m n x) := by
  unfold KeysOK at *
  by_cases hn : n ∈ m.map (·.1)
  · rw [(putV_keys n x m).1 hn]; exact h
  · rw [(putV_keys n x m).2 hn, List.nodup_append]
    refine ⟨h, by simp, fun a ha b hb => ?_⟩
    simp only [List.mem_singleton] at hb
    subst hb; intro e; subst e; exact hn ha
/-- Pairs of distinct keys within a map, as many as it has: the map, in some order. -/
theorem perm_of_sub {ps : List (Str × Vl)} : ∀ {m : List (Str × Vl)}, (ps.map (·.1)).Nodup → (∀ p ∈ ps, p ∈ m) → ps.length = m.length → ps.Perm m := by
  induction ps with
  | nil =>
    intro m _ _ hl
    have hm : m = [] := List.eq_nil_of_length_eq_zero (by simpa using hl.symm)
    subst hm; exact List.Perm.refl _
  | cons p ps ih =>
    intro m hk hs hl
    rw [List.map_cons, List.nodup_cons] at hk
    have hp := hs p List.mem_cons_self
    have h1 : ps.Perm (m.erase p) := ih hk.2 (fun q hq => (List.mem_erase_of_ne (fun e => hk.1 (List.mem_map.2 ⟨q, hq, by rw [e]⟩))).2 (hs q (List.mem_cons_of_mem _ hq))) (by rw [List.length_erase_of_mem hp]; simp only [List.length_cons] at hl; omega)
    exact (h1.cons p).trans (List.perm_cons_erase hp).symm
theorem getV_of_mem {m : List (Str × Vl)} (h : KeysOK m) {p : Str × Vl} (hp : p ∈ m) : getV m p.1 = some p.2 := by
  induction m with
  | nil => cases hp
  | cons q m ih =>
    unfold KeysOK at h
    rw [List.map_cons, List.nodup_cons] at h
    unfold getV
    rcases List.mem_cons.1 hp with rfl | hp
    · simp
    · have hne : ¬ (p.1 == q.1) = true := by
        intro e
        exact h.1 (List.mem_map.2 ⟨p, hp, by simpa using e⟩)
      rw [if_neg hne]; exact ih h.2 hp
theorem pairT_keys {s : Str} {i : Int} {val : Int → PR Vl} {m x : List (Str × Vl)} {j : Int} (hk : KeysOK m) (h : pairT s i val m = .ok x j) : KeysOK x := by
  unfold pairT at h
  split at h
  · cases h
  · split at h
    · rename_i n q _ _
      unfold mapR at h
      split at h
      · cases h
      · cases h; exact hk.put n _
    · cases h
theorem str_total (a b : Str) : (decide (a ≤ b) || decide (b ≤ a)) = true := by
  rcases Classical.em (a ≤ b) with h | h
  · simp [h]
  · simp [List.le_of_lt (List.not_le.1 h)]
theorem str_trans (a b c : Str) (h1 : decide (a ≤ b) = true) (h2 : decide (b ≤ c) = true) : decide (a ≤ c) = true := by
  simp only [decide_eq_true_eq] at *; exact List.le_trans h1 h2
theorem sortN_perm {a b : List Str} (h : a.Perm b) : sortN a = sortN b := by
  unfold sortN
  refine List.Perm.eq_of_pairwise (le := fun x y => decide (x ≤ y) = true) (fun x y _ _ h1 h2 => ?_) (List.pairwise_mergeSort str_trans str_total _) (List.pairwise_mergeSort str_trans str_total _) (((List.mergeSort_perm _ _).trans h).trans (List.mergeSort_perm _ _).symm)
  simp only [decide_eq_true_eq] at h1 h2
  exact List.le_antisymm h1 h2
/-- An object does not hang on the order in which a map is ranged over. -/
theorem objV_perm {ps m : List (Str × Vl)} (h : ps.Perm m) (hk : KeysOK m) : objV ps = objV m := by
  have hkp : KeysOK ps := (List.Perm.map (fun p : Str × Vl => p.1) h).symm.nodup hk
  unfold objV
  rw [sortN_perm (h.map (·.1))]
  congr 1
  refine List.map_congr_left fun n hn => ?_
  have hn' : n ∈ m.map (·.1) := (List.mergeSort_perm _ _).mem_iff.1 hn
  obtain ⟨q, hq, rfl⟩ := List.mem_map.1 hn'
  rw [getV_of_mem hk hq, getV_of_mem hkp (h.mem_iff.2 hq)]
end Go.Eng
namespace Go.Eng
open Go.RowKit

theorem dec_from (s : Str) (i : Int) (h0 : 0 ≤ i) : ((Lib.decodeL (from' s i)).1 : Int) = runeAt s i ∧ ((Lib.decodeL (from' s i)).2 : Int) = runeLen s i := by
  have h : Lib.decodeL (from' s i) = Utf8.decode ⟨⟨s⟩⟩ i.toNat := (decode_same s i h0).symm
  rw [h]; exact ⟨rfl, rfl⟩
theorem validD_from (s : Str) : ∀ (n : Nat) (i : Int), 0 ≤ i → (len s - i).toNat ≤ n → utfFrom s i = true → Lib.validD (from' s i) = true := by
  intro n
  induction n with
  | zero =>
    intro i h0 hn _
    have : from' s i = [] := by unfold from'; exact List.drop_eq_nil_of_le (by unfold len at hn; omega)
    rw [this]; rfl
  | succ n ih =>
    intro i h0 hn hu
    by_cases h1 : i < len s
    · have hne : from' s i ≠ [] := by
        intro e
        have : (from' s i).length = 0 := by rw [e]; rfl
        unfold from' at this; rw [List.length_drop] at this; unfold len at h1; omega
      unfold utfFrom at hu
      rw [dif_pos ⟨h0, h1⟩] at hu
      obtain ⟨d1, d2⟩ := dec_from s i h0
      rcases rune_dec h0 h1 with ⟨hr, _⟩ | ⟨hr, hl, hno, _⟩
      · rw [dif_neg (by omega)] at hu; cases hu
      · rw [dif_pos (by omega)] at hu
        rw [Lib.validD_step _ hne, if_neg (by intro h; exact hno ⟨by omega, by omega⟩)]
        have e : (from' s i).drop (Lib.decodeL (from' s i)).2 = from' s (i + rune s i) := by
          rw [← from_from s i (rune s i) h0 (by omega)]
          show _ = (from' s i).drop (rune s i).toNat
          rw [show (Lib.decodeL (from' s i)).2 = (rune s i).toNat by omega]
        rw [e]
        exact ih _ (by omega) (by omega) hu
    · have : from' s i = [] := by unfold from'; exact List.drop_eq_nil_of_le (by unfold len at h1; omega)
      rw [this]; rfl
theorem validD_utf {s : Str} (h : utf s = true) : Lib.validD s = true := by
  have := validD_from s (len s - 0).toNat 0 (by omega) (Nat.le_refl _) h
  simpa [from'] using this
/-- All keys are valid and not too long, all values are some. -/
def UtfK (m : List (Str × Vl)) : Prop := ∀ p ∈ m, utf p.1 = true ∧ len p.1 ≤ 4398046511104 ∧ p.2 ≠ []
theorem UtfK.put {n : Str} {x : Vl} (hn : utf n = true ∧ len n ≤ 4398046511104 ∧ x ≠ []) : ∀ {m : List (Str × Vl)}, UtfK m → UtfK (putV m n x)
  | [], _ => by intro p hp; simp [putV] at hp; subst hp; exact hn
  | q :: m, h => by
    intro p hp
    unfold putV at hp
    split at hp
    · rcases List.mem_cons.1 hp with rfl | hp
      · exact hn
      · exact h p (List.mem_cons_of_mem _ hp)
    · rcases List.mem_cons.1 hp with rfl | hp
      · exact h _ List.mem_cons_self
      · exact UtfK.put hn (fun p hp => h p (List.mem_cons_of_mem _ hp)) p hp
theorem pairT_utfk {s : Str} {i : Int} {val : Int → PR Vl} {m x : List (Str × Vl)} {j : Int} (hb : len s ≤ 1099511627776) (hv : ∀ k x j, val k = .ok x j → x ≠ []) (hk : UtfK m) (h : pairT s i val m = .ok x j) : UtfK x := by
  unfold pairT at h
  split at h
  · cases h
  · rename_i n q ht
    have hn : utf n = true ∧ len n ≤ 4398046511104 := by
      unfold textT at ht
      split at ht
      · cases ht
      · cases ht
        have h1 := unq_len (from' s i)
        have h2 : len (from' s i) ≤ len s := by unfold from' len; rw [List.length_drop]; omega
        exact ⟨unq_utf _, by omega⟩
    split at h
    · unfold mapR at h
      split at h
      · cases h
      · rename_i hval
        cases h; exact UtfK.put ⟨hn.1, hn.2, hv _ _ _ hval⟩ hk
    · cases h
theorem mapR_ok {α β : Type} {f : α → β} {r : PR α} {y : β} {j : Int} (h : mapR f r = .ok y j) : ∃ x, r = .ok x j ∧ y = f x := by
  cases r with
  | er c p => cases h
  | ok x k => cases h; exact ⟨x, rfl, rfl⟩
theorem valT_ne {f : Nat} {s : Str} {i d : Int} {x : Vl} {j : Int} (h : valT f s i d = .ok x j) : x ≠ [] := by
  cases f with
  | zero => rw [valT] at h; cases h
  | succ f =>
    rw [valT] at h
    repeat' split at h
    all_goals first
      | (cases h; done)
      | (cases h; intro e; cases e)
      | (unfold numT at h; split at h <;> cases h; intro e; cases e)
      | (obtain ⟨y, _, rfl⟩ := mapR_ok h; intro e; cases e)
theorem MapV.get {M : Mem} {n : Str} {x : Vl} : ∀ {l : List SV} {m : List (Str × Vl)}, MapV M l m → getV m n = some x → ∃ h : SlH, sget l n = some h.v ∧ Sl M 6 x.length h.v (x.flatMap Nd.cells)
  | [], [], _, h => by cases h
  | [], _ :: _, h, _ => h.elim
  | _ :: _, [], h, _ => h.elim
  | p :: l, q :: m, ⟨h1, ⟨h, h2, h3⟩, h4⟩, hg => by
    unfold getV at hg
    unfold sget
    by_cases hk : (n == q.1) = true
    · rw [if_pos hk] at hg; cases hg
      rw [if_pos (by rw [h1]; exact hk)]
      exact ⟨h, by rw [h2], h3⟩
    · rw [if_neg hk] at hg
      rw [if_neg (by rw [h1]; exact hk)]
      exact MapV.get h4 hg
theorem MapV.none {M : Mem} {n : Str} : ∀ {l : List SV} {m : List (Str × Vl)}, MapV M l m → n ∉ m.map (·.1) → sget l n = none
  | [], [], _, _ => rfl
  | [], _ :: _, h, _ => h.elim
  | _ :: _, [], h, _ => h.elim
  | p :: l, q :: m, ⟨h1, _, h4⟩, hg => by
    simp only [List.map_cons, List.mem_cons, not_or] at hg
    unfold sget
    rw [if_neg (by rw [h1]; simpa using hg.1)]
    exact MapV.none h4 hg.2
/-- The first so many pairs. -/
def zipT (ns : List Str) (xs : List Vl) (k : Int) : List (Str × Vl) := (ns.zip xs).take k.toNat
theorem zipT_step {ns : List Str} {xs : List Vl} {k : Int} (h0 : 0 ≤ k) (h1 : k < len ns) (h2 : len ns = len xs) : zipT ns xs (k + 1) = zipT ns xs k ++ [(at' ns k, at' xs k)] := by
  unfold zipT
  rw [show (k + 1).toNat = k.toNat + 1 by omega, List.take_add_one]
  congr 1
  have e1 : k.toNat < ns.length := by unfold len at h1; omega
  have e2 : k.toNat < xs.length := by unfold len at h1 h2; omega
  rw [List.getElem?_eq_getElem (by rw [List.length_zip]; omega)]
  simp [at', List.getD_eq_getElem?_getD, e1, e2]
theorem zipT_keys {ns : List Str} {xs : List Vl} (k : Int) (h2 : len ns = len xs) : (zipT ns xs k).map (·.1) = ns.take k.toNat := by
  unfold zipT
  rw [List.map_take, show (ns.zip xs).map (·.1) = ns from by have := List.map_fst_zip (l₁ := ns) (l₂ := xs) (by unfold len at h2; omega); exact this]
theorem zipT_new {ns : List Str} {xs : List Vl} {k : Int} (h0 : 0 ≤ k) (h1 : k < len ns) (h2 : len ns = len xs) (hnd : ns.Nodup) : at' ns k ∉ (zipT ns xs k).map (·.1) := by
  rw [zipT_keys k h2]
  intro hm
  have e1 : k.toNat < ns.length := by unfold len at h1; omega
  obtain ⟨j, hj, he⟩ := List.getElem_of_mem hm
  rw [List.length_take] at hj
  rw [List.getElem_take] at he
  have he2 : at' ns k = ns[k.toNat] := by simp [at', List.getD_eq_getElem?_getD, e1]
  rw [he2] at he
  have := (List.getElem_inj (h₀ := by omega) (h₁ := e1) hnd).1 he
  omega
theorem putV_new {n : Str} {x : Vl} : ∀ {m : List (Str × Vl)}, n ∉ m.map (·.1) → putV m n x = m ++ [(n, x)]
  | [], _ => rfl
  | q :: m, h => by
    simp only [List.map_cons, List.mem_cons, not_or] at h
    unfold putV
    rw [if_neg (by simpa using h.1), putV_new h.2]; rfl
theorem zipT_end {ns : List Str} {xs : List Vl} {k : Int} (h : len ns ≤ k) : zipT ns xs k = ns.zip xs := by
  unfold zipT; rw [List.take_of_length_le]; rw [List.length_zip]; unfold len at h; omega
theorem zip_keys {ns : List Str} {xs : List Vl} (h2 : len ns = len xs) : (ns.zip xs).map (·.1) = ns := List.map_fst_zip (l₁ := ns) (l₂ := xs) (by unfold len at h2; omega)
/-- The parts of the sorted names. -/
def partsL (sn : List Str) (m : List (Str × Vl)) : List Vl := sn.map fun n => (getV m n).getD []
theorem partsL_at {sn : List Str} {m : List (Str × Vl)} {k : Int} (h0 : 0 ≤ k) (h1 : k < len sn) : partsL (Eng.sub sn 0 (k + 1)) m = partsL (Eng.sub sn 0 k) m ++ [(getV m (at' sn k)).getD []] := by
  have e1 : k.toNat < sn.length := by unfold len at h1; omega
  unfold partsL Eng.sub
  rw [show (k + 1).toNat = k.toNat + 1 by omega]
  simp only [Int.toNat_zero, List.drop_zero, Nat.sub_zero]
  rw [List.take_add_one, List.getElem?_eq_getElem e1, List.map_append]
  simp [at', List.getD_eq_getElem?_getD, e1]
theorem partsL_sub {sn : List Str} {m : List (Str × Vl)} {k : Int} (h0 : 0 ≤ k) (h1 : k ≤ len sn) : ((partsL (Eng.sub sn 0 k) m).length : Int) = k := by
  unfold partsL Eng.sub; unfold len at h1
  simp only [List.length_map, Int.toNat_zero, List.drop_zero, Nat.sub_zero, List.length_take]; omega
theorem getV_in {m : List (Str × Vl)} {n : Str} (h : n ∈ m.map (·.1)) : ∃ x, getV m n = some x ∧ (n, x) ∈ m := by
  induction m with
  | nil => cases h
  | cons q m ih =>
    unfold getV
    by_cases hk : n = q.1
    · exact ⟨q.2, by rw [if_pos (by simpa using hk)], by rw [hk]; exact List.mem_cons_self⟩
    · rw [if_neg (by simpa using hk)]
      simp only [List.map_cons, List.mem_cons] at h
      obtain ⟨x, h1, h2⟩ := ih (h.resolve_left hk)
      exact ⟨x, h1, List.mem_cons_of_mem _ h2⟩
theorem sortN_mem {ns : List Str} {n : Str} : n ∈ sortN ns ↔ n ∈ ns := (List.mergeSort_perm ns _).mem_iff
theorem sortN_len (ns : List Str) : len (sortN ns) = len ns := by unfold len sortN; rw [List.length_mergeSort]
theorem partsL_keys {m : List (Str × Vl)} (hk : KeysOK m) : partsL (m.map (·.1)) m = m.map (·.2) := by
  unfold partsL
  rw [List.map_map]
  exact List.map_congr_left fun p hp => by show (getV m p.1).getD [] = p.2; rw [getV_of_mem hk hp]; rfl
theorem partsL_len {m : List (Str × Vl)} (hk : KeysOK m) : len (partsL (sortN (m.map (·.1))) m).flatten = len (m.map (·.2)).flatten := by
  rw [← partsL_keys hk]
  unfold len partsL sortN
  rw [List.Perm.length_eq (List.Perm.flatten ((List.mergeSort_perm (m.map (·.1)) _).map _))]
theorem laid_obj (m : List (Str × Vl)) : laidTo (sortN (m.map (·.1))) (partsL (sortN (m.map (·.1))) m) (len (partsL (sortN (m.map (·.1))) m)) = objV m := by
  unfold laidTo objV laidV
  have e : (sortN (m.map (·.1))).zip (partsL (sortN (m.map (·.1))) m) = (sortN (m.map (·.1))).map fun n => (n, (getV m n).getD []) := by
    unfold partsL
    generalize sortN (m.map (·.1)) = l
    induction l with
    | nil => rfl
    | cons a l ih => simp only [List.map_cons, List.zip_cons_cons, ih]
  rw [e, List.take_of_length_le (by unfold len partsL; simp)]
  congr 2
  unfold len partsL; simp
theorem zip_vals {ns : List Str} {xs : List Vl} (h2 : len ns = len xs) : (ns.zip xs).map (·.2) = xs := List.map_snd_zip (l₁ := ns) (l₂ := xs) (by unfold len at h2; omega)
/-! ### a map ranged over -/
theorem MapV.keys {M : Mem} : ∀ {l : List SV} {m : List (Str × Vl)}, MapV M l m → l.map (·.key) = m.map (·.1)
  | [], [], _ => rfl
  | [], _ :: _, h => h.elim
  | _ :: _, [], h => h.elim
  | p :: l, q :: m, ⟨h1, _, h4⟩ => by simp only [List.map_cons, h1, MapV.keys h4]
/-- What has been visited. -/
def VisS (l : List SV) (m : List (Str × Vl)) (seen : Array Nat) (ns : List Str) (xs : List Vl) : Prop :=
  ∃ vs : List SV, seen.toList = vs.map (·.born) ∧ (∀ p ∈ vs, p ∈ l) ∧ vs.map (·.key) = ns ∧ ns.length = xs.length ∧ (∀ p ∈ ns.zip xs, p ∈ m) ∧ ns.Nodup
theorem VisS.start (l : List SV) (m : List (Str × Vl)) : VisS l m #[] [] [] := ⟨[], rfl, fun _ h => (by cases h), rfl, rfl, fun _ h => (by cases h), List.nodup_nil⟩
theorem inj_of_nodup {α β : Type} {f : α → β} : ∀ {l : List α} {p q : α}, (l.map f).Nodup → p ∈ l → q ∈ l → f p = f q → p = q
  | [], _, _, _, h, _, _ => by cases h
  | a :: l, p, q, hn, hp, hq, he => by
    rw [List.map_cons, List.nodup_cons] at hn
    rcases List.mem_cons.1 hp with h1 | h1
    · rcases List.mem_cons.1 hq with h2 | h2
      · rw [h1, h2]
      · exact absurd (List.mem_map.2 ⟨q, h2, by rw [← he, h1]⟩) hn.1
    · rcases List.mem_cons.1 hq with h2 | h2
      · exact absurd (List.mem_map.2 ⟨p, h1, by rw [he, h2]⟩) hn.1
      · exact inj_of_nodup hn.2 h1 h2 he
theorem nodup_of_map {α β : Type} {f : α → β} : ∀ {l : List α}, (l.map f).Nodup → l.Nodup
  | [], _ => List.nodup_nil
  | a :: l, h => by
    rw [List.map_cons, List.nodup_cons] at h
    exact List.nodup_cons.2 ⟨fun ha => h.1 (List.mem_map.2 ⟨a, ha, rfl⟩), nodup_of_map h.2⟩
theorem sub_length {α : Type} : ∀ {l m : List α}, l.Nodup → (∀ p ∈ l, p ∈ m) → l.length ≤ m.length
  | [], _, _, _ => Nat.zero_le _
  | a :: l, m, hn, h => by
    obtain ⟨s, t, rfl⟩ := List.append_of_mem (h a List.mem_cons_self)
    rw [List.nodup_cons] at hn
    have := sub_length (m := s ++ t) hn.2 (fun p hp => by
      have h1 := h p (List.mem_cons_of_mem _ hp)
      rcases List.mem_append.1 h1 with h1 | h1
      · exact List.mem_append.2 (.inl h1)
      · rcases List.mem_cons.1 h1 with rfl | h1
        · exact absurd hp hn.1
        · exact List.mem_append.2 (.inr h1))
    simp only [List.length_append, List.length_cons] at *; omega
theorem VisS.step {M : Mem} {l : List SV} {m : List (Str × Vl)} {seen : Array Nat} {ns : List Str} {xs : List Vl} {p : SV} {x : Vl} (h : VisS l m seen ns xs) (hm : MapV M l m) (hk : KeysOK m) (hp : p ∈ l) (hns : ¬ seen.contains p.born = true) (hx : (p.key, x) ∈ m) :
    VisS l m (seen.push p.born) (ns ++ [p.key]) (xs ++ [x]) := by
  obtain ⟨vs, h1, h2, h3, h4, h5, h6⟩ := h
  have hkl : (l.map (·.key)).Nodup := by rw [hm.keys]; exact hk
  refine ⟨vs ++ [p], by simp [h1], fun q hq => ?_, by simp [h3], by simp [h4], ?_, ?_⟩
  · rcases List.mem_append.1 hq with hq | hq
    · exact h2 q hq
    · simp only [List.mem_singleton] at hq; subst hq; exact hp
  · intro q hq
    rw [List.zip_append h4] at hq
    rcases List.mem_append.1 hq with hq | hq
    · exact h5 q hq
    · simp at hq; subst hq; exact hx
  · rw [List.nodup_append]
    refine ⟨h6, by simp, fun a ha b hb => ?_⟩
    simp only [List.mem_singleton] at hb; subst hb
    intro e; subst e
    rw [← h3] at ha
    obtain ⟨q, hq, he⟩ := List.mem_map.1 ha
    have := inj_of_nodup hkl (h2 q hq) hp he
    subst this
    apply hns
    rw [Array.contains_iff_mem, Array.mem_def, h1]
    exact List.mem_map.2 ⟨q, hq, rfl⟩
theorem VisS.done {M : Mem} {l : List SV} {c : Nat} {m : List (Str × Vl)} {seen : Array Nat} {ns : List Str} {xs : List Vl} (h : VisS l m seen ns xs) (hm : MapV M l m) (hk : KeysOK m) (hb : BornOK l c) (hall : ∀ p ∈ l, seen.contains p.born = true) : (ns.zip xs).Perm m := by
  obtain ⟨vs, h1, h2, h3, h4, h5, h6⟩ := h
  have hsub : ∀ p ∈ l, p ∈ vs := by
    intro p hp
    have := hall p hp
    rw [Array.contains_iff_mem, Array.mem_def, h1] at this
    obtain ⟨q, hq, he⟩ := List.mem_map.1 this
    have := inj_of_nodup hb.2 (h2 q hq) hp he
    subst this; exact hq
  have hkl : (l.map (·.key)).Nodup := by rw [hm.keys]; exact hk
  have hln : l.Nodup := nodup_of_map hkl
  have hvn : vs.Nodup := nodup_of_map (f := (·.key)) (by rw [h3]; exact h6)
  have e1 : l.length ≤ vs.length := sub_length hln hsub
  have e2 : vs.length ≤ l.length := sub_length hvn h2
  have e3 : ns.length = vs.length := by rw [← h3, List.length_map]
  have e4 : m.length = l.length := by have := congrArg List.length hm.keys; simpa using this.symm
  have hz : (ns.zip xs).map (·.1) = ns := List.map_fst_zip (l₁ := ns) (l₂ := xs) (by omega)
  exact perm_of_sub (by rw [hz]; exact h6) h5 (by rw [List.length_zip]; omega)
theorem VisS.le {M : Mem} {l : List SV} {m : List (Str × Vl)} {seen : Array Nat} {ns : List Str} {xs : List Vl} (h : VisS l m seen ns xs) : ns.length ≤ m.length := by
  obtain ⟨vs, h1, h2, h3, h4, h5, h6⟩ := h
  have hz : (ns.zip xs).map (·.1) = ns := List.map_fst_zip (l₁ := ns) (l₂ := xs) (by omega)
  have := sub_length (l := ns.zip xs) (m := m) (nodup_of_map (f := (·.1)) (by rw [hz]; exact h6)) h5
  rw [List.length_zip] at this; omega
theorem VisS.eq {l : List SV} {m : List (Str × Vl)} {seen : Array Nat} {ns : List Str} {xs : List Vl} (h : VisS l m seen ns xs) : ns.length = xs.length := by
  obtain ⟨vs, h1, h2, h3, h4, h5, h6⟩ := h; exact h4
theorem objV_le {m : List (Str × Vl)} (hk : KeysOK m) : len (objV m) ≤ 1 + mapN m := by
  rw [← laid_obj m]
  have h1 := laidTo_le (sortN (m.map (·.1))) (partsL (sortN (m.map (·.1))) m) (len (partsL (sortN (m.map (·.1))) m))
  rw [partsL_len hk] at h1
  exact h1
/-- All have been visited: what val.Object asks. -/
theorem VisS.all {M : Mem} {l : List SV} {c : Nat} {m : List (Str × Vl)} {seen : Array Nat} {ns : List Str} {xs : List Vl} (h : VisS l m seen ns xs) (hm : MapV M l m) (hk : KeysOK m) (hu : UtfK m) (hb : BornOK l c) (hall : ∀ p ∈ l, seen.contains p.born = true) :
    len ns = len xs ∧ len ns = len m ∧ ns.Nodup ∧ (∀ n ∈ ns, utf n = true) ∧ (∀ n ∈ ns, len n ≤ 4398046511104) ∧ (∀ x ∈ xs, x ≠ []) ∧ len xs.flatten = mapN m ∧ objV (ns.zip xs) = objV m := by
  have hp := h.done hm hk hb hall
  obtain ⟨vs, h1, h2, h3, h4, h5, h6⟩ := h
  have hz : (ns.zip xs).map (·.1) = ns := List.map_fst_zip (l₁ := ns) (l₂ := xs) (by omega)
  have hz2 : (ns.zip xs).map (·.2) = xs := List.map_snd_zip (l₁ := ns) (l₂ := xs) (by omega)
  have hl := hp.length_eq
  rw [List.length_zip] at hl
  have hn : ∀ n ∈ ns, utf n = true ∧ len n ≤ 4398046511104 := fun n hn => by
    rw [← hz] at hn
    obtain ⟨q, hq, rfl⟩ := List.mem_map.1 hn
    exact ⟨(hu q (h5 q hq)).1, (hu q (h5 q hq)).2.1⟩
  refine ⟨by unfold len; omega, by unfold len; omega, h6, fun n h => (hn n h).1, fun n h => (hn n h).2, fun x hx => ?_, ?_, objV_perm hp hk⟩
  · rw [← hz2] at hx
    obtain ⟨q, hq, rfl⟩ := List.mem_map.1 hx
    exact (hu q (h5 q hq)).2.2
  · unfold mapN len
    rw [← (List.Perm.flatten (hp.map (·.2))).length_eq, hz2]
end Go.Eng
namespace Go.Proofs.YtjfaikgooldcbaaGreatDoor
open Go.Eng

def ObjI (pb b2 b3 bm mb : Nat) (d i0 : Int) (mp : List (Str × Vl)) (j : Int) (M : Mem) (Hs : List HO) : Prop := (len mp ≤ j ∧ mapN mp + 1 ≤ j - i0) ∧ KeysOK mp ∧ UtfK mp ∧ ∃ l c, MapV M l mp ∧ BornOK l c ∧ Hs = [.box b2 [.pointer (some ⟨pb, 0, none⟩)] 53, .box b3 [i64 d] 3, .box bm [.map (some mb)] 106, .raw mb (smobj l c)]
theorem obj_part {w : World} {M0 : Mem} {Rs : List HO} (s : Str) (pb b2 b3 bm mb : Nat) (d i0 : Int) (hb : len s ≤ 1099511627776) (hg : Gl w) (hd : 0 ≤ d ∧ d ≤ 900) (f : Nat) (hval : ValOK w M0 s pb f) :
    PartOK w M0 Rs s pb 75 [.pointer (some ⟨b2, 0, none⟩), .pointer (some ⟨b3, 0, none⟩), .pointer (some ⟨bm, 0, none⟩)] (ObjI pb b2 b3 bm mb d i0) (fun f m i => pairT s i (fun k => valT f s k (d + 1)) m) f := by
  intro mp i wv M Hs hI h0 h1 hf hS
  obtain ⟨hlx, hk, hu, l, c, hmap, hbo, rfl⟩ := hI
  have hkx : ∀ x j, pairT s i (fun k => valT f s k (d + 1)) mp = .ok x j → KeysOK x ∧ UtfK x := fun x j h => ⟨pairT_keys hk h, pairT_utfk hb (fun _ _ _ h => valT_ne h) hu h⟩
  refine (objpart_c (Rs := Rs) s i d i0 pb b2 b3 bm mb l c mp f hS hmap hbo hlx h0 h1 hb hg hd hf hval).mono fun e w' h => ?_
  show PPost w M0 M Rs 51 _ (pairT s i (fun k => valT f s k (d + 1)) mp) e w'
  revert h hkx
  generalize pairT s i (fun k => valT f s k (d + 1)) mp = r
  intro hkx h
  cases r with
  | ok x j => obtain ⟨v', M', he, ⟨h2, h3, h4, l2, c2, hm2, hb2, hS2⟩, hle⟩ := h; exact ⟨v', M', he, ⟨by omega, h3, _, ⟨h4, (hkx _ _ rfl).1, (hkx _ _ rfl).2, l2, c2, hm2, hb2, rfl⟩, hS2⟩, hle⟩
  | er ec p => exact h
theorem obj_parts {w wv : World} {M0 M : Mem} {Rs : List HO} (s : Str) (i d : Int) (pb b2 b3 bm mb : Nat) (Fu : Nat) (hS : St w M0 wv M (.box pb [str s, i64 (i)] 55 :: .box b2 [.pointer (some ⟨pb, 0, none⟩)] 53 :: .box b3 [i64 d] 3 :: .box bm [.map (some mb)] 106 :: .raw mb (smobj [] 0) :: Rs)) (h0 : 0 ≤ i) (h1 : i < len s) (hb : len s ≤ 1099511627776) (hg : Gl w) (hd : 0 ≤ d ∧ d ≤ 900) (hf : 2 * (len s - i) ≤ Fu) (hval : ∀ f, f < Fu → ValOK w M0 s pb f) :
    Calls Tryz.prog 72 [.pointer (some ⟨pb, 0, none⟩), str [125], (.func (.func 75) #[] #[.pointer (some ⟨b2, 0, none⟩), .pointer (some ⟨b3, 0, none⟩), .pointer (some ⟨bm, 0, none⟩)])].toArray wv (PPost w M0 M Rs 51 (fun x j v M' w' => i + 2 ≤ j ∧ j ≤ len s ∧ (len x ≤ j ∧ mapN x + 1 ≤ j - i) ∧ KeysOK x ∧ UtfK x ∧ ∃ l2 c2, MapV M' l2 x ∧ BornOK l2 c2 ∧ St w M0 w' M' (.box pb [str s, i64 (j)] 55 :: .box b2 [.pointer (some ⟨pb, 0, none⟩)] 53 :: .box b3 [i64 d] 3 :: .box bm [.map (some mb)] 106 :: .raw mb (smobj l2 c2) :: Rs)) (partsT s i [125] [] (pairsT Fu s d))) := by
  refine (parts_c (Rs := Rs) s [125] i pb 75 [.pointer (some ⟨b2, 0, none⟩), .pointer (some ⟨b3, 0, none⟩), .pointer (some ⟨bm, 0, none⟩)] (ObjI pb b2 b3 bm mb d i) (fun f m i => pairT s i (fun k => valT f s k (d + 1)) m) (fun f => pairsT f s d) [] Fu _ hS ⟨⟨by simp only [len_nil]; omega, by unfold mapN; simp only [List.map_nil, List.flatten_nil, len_nil]; omega⟩, List.nodup_nil, (fun p hp => by cases hp), [], 0, trivial, ⟨fun p hp => (by cases hp), List.nodup_nil⟩, rfl⟩ ?_ Tryz.call75 (fun f x i => by rw [pairsT]) (fun f hf => obj_part s pb b2 b3 bm mb d i hb hg hd f (hval f hf)) rfl hf h0 h1 hb).mono fun e w' h => ?_
  · rintro x M Hs j j2 hj ⟨⟨h1, h2⟩, h3⟩; exact ⟨⟨by omega, by omega⟩, h3⟩
  · revert h
    show PPost _ _ _ _ _ _ _ _ _ → PPost _ _ _ _ _ _ _ _ _
    generalize partsT s i [125] [] (pairsT Fu s d) = r
    intro h
    cases r with
    | ok x j => obtain ⟨v', M', he, ⟨h2, h3, _, ⟨h4, hk, hu, l2, c2, hm2, hb2, rfl⟩, hS2⟩, hle⟩ := h; exact ⟨v', M', he, ⟨h2, h3, h4, hk, hu, l2, c2, hm2, hb2, hS2⟩, hle⟩
    | er ec p => exact h
end Go.Proofs.YtjfaikgooldcbaaGreatDoor
