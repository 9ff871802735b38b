/-
  slices.Sorted(slices.Values(names)): a new row that holds the names, sorted. The walks of AppendSeq, Collect and Sorted are turned from the kit's (SlIter), to an iterator that reads a row between its rounds.
-/
import Derived.Test.YtjfaikgooldcbaaGreatDoorZt4
import Derived.Laws.BitsLemmas
import Derived.Test.YtjfaikgooldcbaaGreatDoorZt3
import Derived.Test.YtjfaikgooldcbaaGreatDoorProg
import Derived.Test.YtjfaikgooldcbaaGreatDoorZt19
import Derived.Test.YtjfaikgooldcbaaGreatDoorZt12
import Derived.Test.YtjfaikgooldcbaaGreatDoorZt6
import Derived.Test.YtjfaikgooldcbaaGreatDoorZt0
import Derived.Test.YtjfaikgooldcbaaGreatDoorZt11
import Derived.Shelf.SlIter.Sorted
import Derived.OwnWalkIn
import Derived.TacticsInMore
import Derived.LoopNIn
import Derived.LoopIn
set_option linter.unusedVariables false
set_option linter.unusedSimpArgs false
set_option maxRecDepth 100000
namespace Go.Proofs.YtjfaikgooldcbaaGreatDoor
open Go.Eng

/- slices.Concat[loupe/api.Val,loupe/api.Node] -/
theorem concat_c {w wv : World} {M0 M : Mem} {Rs : List HO} (rs : List SlH) (xs : List Vl) (va : Value) (hS : St w M0 wv M Rs) (ha : Sl M 1 rs.length va (rs.flatMap valI)) (hrow : RowsV M 6 Nd.cells rs xs) (hbd : len xs.flatten ≤ 1099511627776) :
  Calls Tryz.prog 102 [va].toArray wv fun e w' => ∃ u, e = .returned u ∧ ∃ M', Sl M' 6 xs.flatten.length u (xs.flatten.flatMap Nd.cells) ∧ St w M0 w' M' Rs ∧ M.le M' := by
 refine CW.enter1 Tryz.func102 rfl Tryz.ntmps102 (Nat.le_of_ble_eq_true rfl) fun Q hE => ?_
 have hrl : len rs = len xs := by unfold len; rw [hrow.len]
 have hle9 : len rs ≤ 9223372036854775807 := ha.le
 have hn0 := len_nonneg rs
 refine CW.weaken [0] (L' := [Y 0 va]) ?_ rfl
 refine CW.sr ?_
 have hS1 := hS.ownNil 38 6
 refine RL.u (.assign .c) rfl (RL.nil (CW.id ?_))
 refine CW.sr (RL.u (.assign .c) rfl (RL.nil (CW.id (CW.seq ?_))))
 refine CW.sr (RL.m rfl rfl (RL.u (.lenT ha (.t rfl) ⟨_, Tryz.underlying47⟩) rfl (RL.u (.move .c) rfl (RL.nil (CW.id (CW.block ?_))))))
 refine CW.loop (σ := Int × Int) (fun (k, q) => [Y 0 va, Y 3 (i64 q), Y 9 va, Y 10 (i64 (len rs)), Y 11 (i64 k)]) (fun (k, q) wl => St w M0 wl M (.own 38 6 (.slice none 0 0) (([] : List Nd)).length ((([] : List Nd)).flatMap Nd.cells) :: Rs) ∧ Sl M 1 rs.length va (rs.flatMap valI) ∧ RowsV M 6 Nd.cells rs xs ∧ 0 ≤ k ∧ k ≤ len rs ∧ q = len (flatTo xs k)) (fun (k, q) => (len rs - k).toNat) ((0, 0)) [0, 3, 9, 10, 11] rfl ?_ ?_
 ·refine ⟨hS1, ha, hrow, ?_⟩; exact ⟨by omega, by omega, rfl⟩
 ·rintro ⟨k, q⟩ wl ⟨hS2, ha, hrow, hk0, hk1, hq⟩
  have hrk := fun h : k < len rs => hrow.at hk0 h
  refine CW.sr (RL.u (.lss (.t rfl) (.t rfl)) rfl (RL.nil (CW.id (CW.seq ?_))))
  refine CW.cond rfl ?_ ?_ <;> intro hb1 <;> try simp only [zb] at hb1
  ·replace hrk := hrk hb1
   have hft := flatTo_step hk0 (by omega : k < len xs)
   have hfl := flatTo_le xs (k + 1)
   rw [hft, len_app] at hfl
   have hz := len_nonneg (at' xs k)
   have hz2 := len_nonneg (flatTo xs k)
   refine CW.skip (CW.id (CW.seq (CW.block (CW.sr ?_))))
   refine RL.u (.idxT ha (.t rfl) (.t rfl) Tryz.underlying47 Tryz.sizeOf24 (fun _ => by omega)) rfl (RL.u (.loadE1 (f := valI) (i := k) (j := 0) (u := ((at' rs k).v)) hS2 extEq ha valI_len (.t rfl) Tryz.isAgg24 (fun _ => by omega) rfl rfl) rfl (RL.a rfl rfl (RL.nil (CW.id ?_))))
   refine CW.sr (RL.m rfl rfl (RL.m rfl rfl (RL.u (.lenT hrk (.t rfl) ⟨_, Tryz.underlying24⟩) rfl (RL.u (.add (.t rfl) (.t rfl) (fun _ => by omega)) rfl (RL.a rfl rfl (RL.nil (CW.id (CW.sr ?_))))))))
   refine RL.m rfl rfl (RL.u (.lss (.t rfl) .c) rfl (RL.nil (CW.id ?_)))
   refine CW.cond rfl ?_ ?_ <;> intro hb2 <;> try simp only [zb] at hb2
   ·exfalso; omega
   ·refine CW.skip (CW.id ?_)
    refine CW.region (RL.u (.add (.t rfl) .c (fun _ => by omega)) rfl (RL.m rfl rfl ?_))
    refine RL.nil fun a hs => Exists.intro ((k + 1, q + (len (at' xs k)))) ⟨hs.keep [0, 3, 9, 10, 11], ?_, ?_⟩
    ·refine ⟨hS2, ha, hrow, ?_⟩
     exact ⟨by omega, by omega, by rw [hft, len_app]; omega⟩
    ·show Int.toNat _ < Int.toNat _; omega
  ·have hfe : flatTo xs k = xs.flatten := flatTo_end (by omega)
   have hz3 := len_nonneg xs.flatten
   have hfe1 : len (flatTo xs k) = len xs.flatten := by rw [hfe]
   refine CW.exit (CW.at [Y 0 va, Y 3 (i64 q)] rfl ?_)
   refine CW.sr (RL.m rfl rfl ?_)
   refine RL.callP Tryz.call131 (.cons .c (.cons (.t rfl) .nil)) (grow_c (Hs := (.own 38 6 (.slice none 0 0) (([] : List Nd)).length ((([] : List Nd)).flatMap Nd.cells) :: Rs)) q hS2 (by omega) (by omega)) rfl ?_
   rintro v3 w4 hS6
   refine RL.a rfl rfl ?_
   refine RL.nil (CW.at [Y 0 va, Y 6 v3] rfl (CW.seq (CW.sr (RL.m rfl rfl (RL.u (.lenT ha (.t rfl) ⟨_, Tryz.underlying47⟩) rfl (RL.u (.move .c) rfl (RL.nil (CW.id ?_))))))))
   refine CW.block ?_
   refine CW.loop (σ := Int × Value × List Nd × Mem) (fun (k, vl, ll, Ml) => [Y 6 vl, Y 25 va, Y 26 (i64 (len rs)), Y 27 (i64 k)]) (fun (k, vl, ll, Ml) wl => St w M0 wl Ml (.own 38 6 vl ll.length (ll.flatMap Nd.cells) :: .own 38 6 (.slice none 0 0) (([] : List Nd)).length ((([] : List Nd)).flatMap Nd.cells) :: Rs) ∧ Sl Ml 1 rs.length va (rs.flatMap valI) ∧ RowsV Ml 6 Nd.cells rs xs ∧ 0 ≤ k ∧ k ≤ len rs ∧ ll = flatTo xs k ∧ M.le Ml) (fun (k, vl, ll, Ml) => (len rs - k).toNat) ((0, v3, ([] : List Nd), M)) [6, 25, 26, 27] rfl ?_ ?_
   ·refine ⟨hS6, ha, hrow, ?_⟩; exact ⟨by omega, by omega, rfl, (Mem.le.refl _)⟩
   ·rintro ⟨k, vl, ll, Ml⟩ wl ⟨hS8, ha, hrow, hk0, hk1, hll, hle0⟩
    have hrk := fun h : k < len rs => hrow.at hk0 h
    refine CW.sr (RL.u (.lss (.t rfl) (.t rfl)) rfl (RL.nil (CW.id (CW.seq ?_))))
    refine CW.cond rfl ?_ ?_ <;> intro hb3 <;> try simp only [zb] at hb3
    ·replace hrk := hrk hb3
     have hft := flatTo_step hk0 (by omega : k < len xs)
     have hfl := flatTo_le xs (k + 1)
     rw [hft, len_app] at hfl
     have hz := len_nonneg (at' xs k)
     have hz2 := len_nonneg (flatTo xs k)
     refine CW.skip (CW.id (CW.seq (CW.block (CW.sr ?_))))
     refine RL.u (.idxT ha (.t rfl) (.t rfl) Tryz.underlying47 Tryz.sizeOf24 (fun _ => by omega)) rfl (RL.u (.loadE1 (f := valI) (i := k) (j := 0) (u := ((at' rs k).v)) hS8 extEq ha valI_len (.t rfl) Tryz.isAgg24 (fun _ => by omega) rfl rfl) rfl (RL.a rfl rfl (RL.nil (CW.id ?_))))
     refine CW.region (RL.m rfl rfl (RL.m rfl rfl ?_))
     refine RL.appendL (f := Nd.cells) (l := ll) (m := at' xs k) hS8 (k := 0) rfl (.t rfl) (.t rfl) hrk Tryz.underlying24 Tryz.type38 rfl rfl rfl Nd.cells_one (by' := 64) rfl rfl (by first | omega | (subst hll; omega) | (subst hq; omega)) rfl (Hs' := fun v' => (.own 38 6 v' (ll ++ at' xs k).length ((ll ++ at' xs k).flatMap Nd.cells) :: .own 38 6 (.slice none 0 0) (([] : List Nd)).length ((([] : List Nd)).flatMap Nd.cells) :: Rs)) (fun _ => rfl) (fun v9 w10 M11 hS12 hle13 => ?_)
     replace ha := ha.mono hle13
     replace hrow := hrow.mono hle13
     refine RL.a rfl rfl (RL.nil (CW.id ?_))
     refine CW.region (RL.u (.add (.t rfl) .c (fun _ => by omega)) rfl (RL.m rfl rfl ?_))
     refine RL.nil fun a hs => Exists.intro ((k + 1, v9, ll ++ at' xs k, M11)) ⟨hs.keep [6, 25, 26, 27], ?_, ?_⟩
     ·refine ⟨hS12, ha, hrow, ?_⟩
      exact ⟨by omega, by omega, by rw [hft, hll], (hle0.trans hle13)⟩
     ·show Int.toNat _ < Int.toNat _; omega
    ·refine CW.exit (CW.at [Y 6 vl] rfl ?_)
     refine CW.sr (RL.m rfl rfl (RL.a rfl rfl (RL.nil (CW.id (CW.ret (hE.r1 rfl rfl ?_))))))
     have hslr := (hS8.sl (i := 0) rfl)
     replace hS8 := (hS8.erase 1 rfl).erase 0 rfl
     have hfe2 : ll = xs.flatten := by rw [hll]; exact flatTo_end (by omega)
     subst hfe2
     exact ⟨_, rfl, Ml, hslr, hS8, hle0⟩

/- loupe/val.List -/
theorem vlist_c {w wv : World} {M0 M : Mem} {Rs : List HO} (rs : List SlH) (xs : List Vl) (va : Value) (hS : St w M0 wv M Rs) (ha : Sl M 1 rs.length va (rs.flatMap valI)) (hrow : RowsV M 6 Nd.cells rs xs) (hbd : len xs.flatten ≤ 1099511627776) :
  Calls Tryz.prog 74 [va].toArray wv fun e w' => ∃ u, e = .returned u ∧ ∃ a c M', u = .slice a (listV xs).length c ∧ Sl M' 6 (listV xs).length u ((listV xs).flatMap Nd.cells) ∧ St w M0 w' M' Rs ∧ M.le M' := by
 refine CW.enter1 Tryz.func74 rfl Tryz.ntmps74 (Nat.le_of_ble_eq_true rfl) fun Q hE => ?_
 have hrl : len rs = len xs := by unfold len; rw [hrow.len]
 have hn := len_nonneg xs.flatten
 refine CW.weaken [0] (L' := [Y 0 va]) ?_ rfl
 refine CW.sr ?_
 have hS1 := hS.ownNil 38 6
 refine RL.u (.assign .c) rfl (RL.nil (CW.id ?_))
 refine CW.sr (RL.m rfl rfl (RL.u (.lenT ha (.t rfl) ⟨_, Tryz.underlying47⟩) rfl (RL.u (.build (vs := [(0, (i64 5)), (1, (i64 (len rs)))]) (v := (.agg #[(i64 5), (i64 (len rs)), (str []), (str []), (.bool false), (i64 0)])) (.cons .c (.cons (.t rfl) .nil)) (fun w => by kernel_rfl)) rfl ?_)))
 refine RL.buildSlice (n := 1) (sz := 6) (e := 38) (vs := [(0, (.agg #[(i64 5), (i64 (len rs)), (str []), (str []), (.bool false), (i64 0)]))]) (cs := [(i64 5), (i64 (len rs)), (str []), (str []), (.bool false), (i64 0)]) hS1 (.cons (.t rfl) .nil) rfl rfl (fun w => by kernel_rfl) rfl (fun v2 w3 M4 hS5 hle6 => ?_)
 replace ha := ha.mono hle6
 replace hrow := hrow.mono hle6
 refine RL.m rfl rfl ?_
 refine RL.callP Tryz.call102 (.cons (.t rfl) .nil) (concat_c (Rs := (.own 38 6 v2 (([⟨5, len rs, [], [], false, 0⟩] : List Nd)).length ((([⟨5, len rs, [], [], false, 0⟩] : List Nd)).flatMap Nd.cells) :: .own 38 6 (.slice none 0 0) (([] : List Nd)).length ((([] : List Nd)).flatMap Nd.cells) :: Rs)) rs xs va hS5 ha hrow (by assumption)) rfl ?_
 rintro v7 w8 ⟨M9, hsl_v7, hS10, hle11⟩
 replace ha := ha.mono hle11
 replace hrow := hrow.mono hle11
 refine RL.appendL (f := Nd.cells) (l := ([⟨5, len rs, [], [], false, 0⟩] : List Nd)) (m := xs.flatten) hS10 (k := 0) rfl (.t rfl) (.t rfl) hsl_v7 Tryz.underlying24 Tryz.type38 rfl rfl rfl Nd.cells_one (by' := 64) rfl rfl (by first | omega | (simp only [len_app, len_cons, len_nil] at *; omega)) rfl (Hs' := fun v' => (.own 38 6 v' (([⟨5, len rs, [], [], false, 0⟩] : List Nd) ++ xs.flatten).length ((([⟨5, len rs, [], [], false, 0⟩] : List Nd) ++ xs.flatten).flatMap Nd.cells) :: .own 38 6 (.slice none 0 0) (([] : List Nd)).length ((([] : List Nd)).flatMap Nd.cells) :: Rs)) (fun _ => rfl) (fun v12 w13 M14 hS15 hle16 => ?_)
 replace ha := ha.mono hle16
 replace hrow := hrow.mono hle16
 refine RL.a rfl rfl ?_
 refine RL.nil (CW.at [Y 2 v12] rfl (CW.ret (hE.r1 rfl rfl ?_)))
 have hslr := (hS15.sl (i := 0) rfl)
 replace hS15 := (hS15.erase 1 rfl).erase 0 rfl
 rw [hrl] at hslr
 obtain ⟨az, cz, hz⟩ := Sl.shape hslr
 exact ⟨_, rfl, az, cz, M14, hz, hslr, hS15, ((hle6.trans hle11).trans hle16)⟩

end Go.Proofs.YtjfaikgooldcbaaGreatDoor
set_option maxRecDepth 100000
namespace Go.Proofs.YtjfaikgooldcbaaGreatDoor
open Go.Eng

def ListI (pb bl b2 b3 : Nat) (d i0 : Int) (xs : List Vl) (j : Int) (M : Mem) (Hs : List HO) : Prop := (len xs ≤ j ∧ len xs.flatten + 1 ≤ j - i0) ∧ ∃ v rs, RowsV M 6 Nd.cells rs xs ∧ Hs = [.box bl [v] 47, .own 24 1 v rs.length (rs.flatMap valI), .box b2 [.pointer (some ⟨pb, 0, none⟩)] 53, .box b3 [i64 d] 3]
theorem list_part {w : World} {M0 : Mem} {Rs : List HO} (s : Str) (pb bl b2 b3 : Nat) (d i0 : Int) (hb : len s ≤ 1099511627776) (hd : 0 ≤ d ∧ d ≤ 900) (f : Nat) (hval : ValOK w M0 s pb f) :
    PartOK w M0 Rs s pb 73 [.pointer (some ⟨bl, 0, none⟩), .pointer (some ⟨b2, 0, none⟩), .pointer (some ⟨b3, 0, none⟩)] (ListI pb bl b2 b3 d i0) (fun f x i => mapR (fun y => x ++ [y]) (valT f s i (d + 1))) f := by
  intro xs i wv M Hs hI h0 h1 hf hS
  obtain ⟨hlx, v, rs, hrow, rfl⟩ := hI
  refine (listpart_c (Rs := Rs) s i d pb bl b2 b3 v rs xs f i0 hS hrow hlx h0 h1 hb hd hf hval).mono fun e w' h => ?_
  show PPost w M0 M Rs 51 _ (mapR (fun y => xs ++ [y]) (valT f s i (d + 1))) e w'
  revert h
  generalize mapR (fun y => xs ++ [y]) (valT f s i (d + 1)) = r
  intro h
  cases r with
  | ok x j => obtain ⟨v', M', he, ⟨h2, h3, h4, v2, rs2, hr2, hS2⟩, hle⟩ := h; exact ⟨v', M', he, ⟨by omega, h3, _, ⟨h4, v2, rs2, hr2, rfl⟩, hS2⟩, hle⟩
  | er ec p => exact h
theorem list_parts {w wv : World} {M0 M : Mem} {Rs : List HO} (s : Str) (i d : Int) (pb bl b2 b3 : Nat) (Fu : Nat) (hS : St w M0 wv M (.box pb [str s, i64 (i)] 55 :: .box bl [.slice none 0 0] 47 :: .own 24 1 (.slice none 0 0) ([] : List SlH).length (([] : List SlH).flatMap valI) :: .box b2 [.pointer (some ⟨pb, 0, none⟩)] 53 :: .box b3 [i64 d] 3 :: Rs))
    (h0 : 0 ≤ i) (h1 : i < len s) (hb : len s ≤ 1099511627776) (hd : 0 ≤ d ∧ d ≤ 900) (hf : 2 * (len s - i) ≤ Fu) (hval : ∀ f, f < Fu → ValOK w M0 s pb f) :
    Calls Tryz.prog 72 [.pointer (some ⟨pb, 0, none⟩), str [93], (.func (.func 73) #[] #[(.pointer (some ⟨bl, 0, none⟩)), (.pointer (some ⟨b2, 0, none⟩)), (.pointer (some ⟨b3, 0, none⟩))])].toArray wv (PPost w M0 M Rs 51 (fun x j v M' w' => i + 2 ≤ j ∧ j ≤ len s ∧ (len x ≤ j ∧ len x.flatten + 1 ≤ j - i) ∧ ∃ v2 rs2, RowsV M' 6 Nd.cells rs2 x ∧ St w M0 w' M' (.box pb [str s, i64 (j)] 55 :: .box bl [v2] 47 :: .own 24 1 v2 rs2.length (rs2.flatMap valI) :: .box b2 [.pointer (some ⟨pb, 0, none⟩)] 53 :: .box b3 [i64 d] 3 :: Rs)) (partsT s i [93] [] (itemsT Fu s d))) := by
  refine (parts_c (Rs := Rs) s [93] i pb 73 [.pointer (some ⟨bl, 0, none⟩), .pointer (some ⟨b2, 0, none⟩), .pointer (some ⟨b3, 0, none⟩)] (ListI pb bl b2 b3 d i) (fun f x i => mapR (fun y => x ++ [y]) (valT f s i (d + 1))) (fun f => itemsT f s d) [] Fu _ hS ⟨⟨by simp only [len_nil]; omega, by simp only [List.flatten_nil, len_nil]; omega⟩, _, [], trivial, rfl⟩ ?_ Tryz.call73 (fun f x i => by rw [itemsT]) (fun f hf => list_part s pb bl b2 b3 d i hb hd f (hval f hf)) rfl hf h0 h1 hb).mono fun e w' h => ?_
  · rintro x M Hs j j2 hj ⟨⟨h1, h2⟩, h3⟩; exact ⟨⟨by omega, by omega⟩, h3⟩
  · revert h
    show PPost _ _ _ _ _ _ _ _ _ → PPost _ _ _ _ _ _ _ _ _
    generalize partsT s i [93] [] (itemsT Fu s d) = r
    intro h
    cases r with
    | ok x j => obtain ⟨v', M', he, ⟨h2, h3, _, ⟨h4, v2, rs2, hr2, rfl⟩, hS2⟩, hle⟩ := h; exact ⟨v', M', he, ⟨h2, h3, h4, v2, rs2, hr2, hS2⟩, hle⟩
    | er ec p => exact h
/- (*loupe/text.parser).list -/
theorem listp_c {w wv : World} {M0 M : Mem} {Rs : List HO} (s : Str) (i d : Int) (pb : Nat) (Fu : Nat) (hS : St w M0 wv M (.box pb [(str s), (i64 i)] 55 :: Rs)) (h0 : 0 ≤ i) (h1 : i < len s) (hb : len s ≤ 1099511627776) (hd : 0 ≤ d ∧ d ≤ 900) (hf : 2 * (len s - i) ≤ Fu) (hval : ∀ f, f < Fu → ValOK w M0 s pb f) :
  Calls Tryz.prog 45 [(.pointer (some ⟨pb, 0, none⟩)), (i64 d)].toArray wv fun e w' => PPost w M0 M Rs 51 (fun x j v M' w' => ∃ a c, v = .slice a x.length c ∧ i + 1 ≤ j ∧ j ≤ len s ∧ len x ≤ j - i ∧ Sl M' 6 x.length (.slice a x.length c) (x.flatMap Nd.cells) ∧ St w M0 w' M' (.box pb [str s, i64 j] 55 :: Rs)) (mapR listV (partsT s i [93] [] (itemsT Fu s d))) e w' := by
 refine CW.enter1 Tryz.func45 rfl Tryz.ntmps45 (Nat.le_of_ble_eq_true rfl) fun Q hE => ?_
 refine CW.weaken [0, 1] (L' := [Y 0 (.pointer (some ⟨pb, 0, none⟩)), Y 1 (i64 d)]) ?_ rfl
 refine CW.sr ?_
 refine RL.box (v := (.pointer (some ⟨pb, 0, none⟩))) hS (.t rfl) rfl (fun w1 b2 hS3 => ?_)
 refine RL.box (v := (i64 d)) hS3 (.t rfl) rfl (fun w4 b5 hS6 => ?_)
 have hS7 := hS6.ownNil 38 6
 refine RL.u (.assign .c) rfl (RL.nil (CW.id ?_))
 refine CW.sr ?_
 refine RL.alloc hS7 Tryz.zeroValue47 rfl (fun w8 b9 hS10 => ?_)
 have hS11 := hS10.ownNil 24 1
 refine RL.nil (CW.id (CW.sr (RL.u (.loadB1 (v := (.pointer (some ⟨pb, 0, none⟩))) hS11 extEq (i := 4) rfl (.t rfl) Tryz.isAgg53 rfl) rfl (RL.u (.makeFunc .nil (.cons (.t rfl) (.cons (.t rfl) (.cons (.t rfl) .nil)))) rfl ?_))))
 replace hS11 := (hS11.front 3 rfl rfl).front 4 rfl rfl
 replace hS11 := (hS11.front 2 rfl rfl).front 3 rfl rfl
 replace hS11 := hS11.front 5 rfl rfl
 refine RL.callR Tryz.call72 (.cons (.t rfl) (.cons .c (.cons (.t rfl) .nil))) (list_parts (Rs := (.own 38 6 (.slice none 0 0) (([] : List Nd)).length ((([] : List Nd)).flatMap Nd.cells) :: Rs)) s i d pb b9 b2 b5 Fu hS11 h0 h1 hb hd hf hval) rfl (fun ec p M23 w24 hr27 hS25 hle26 => ?_) (fun x14 j15 v16 M18 w17 hr19 hF22 hle21 => ?_)
 ·replace hS25 := hS25.drop Rs (List.sublist_append_right [_] _)
  exact hE.p (PPost.er (show mapR _ _ = _ from by rw [hr27]; rfl) hS25 hle26)
 obtain ⟨hF22a, hF22b, ⟨hF22c, hF22d⟩, v12, rs13, hrow, hS20⟩ := hF22
 refine RL.nil (CW.at [Y 5 (.pointer (some ⟨b9, 0, none⟩))] rfl (CW.sr (RL.u (.loadB1 (v := v12) hS20 extEq (i := 1) rfl (.t rfl) Tryz.isAgg47 rfl) rfl ?_)))
 refine RL.callP Tryz.call74 (.cons (.t rfl) .nil) (vlist_c (Rs := (.box pb [(str s), (i64 j15)] 55 :: .box b9 [v12] 47 :: .own 24 1 v12 rs13.length (rs13.flatMap valI) :: .box b2 [(.pointer (some ⟨pb, 0, none⟩))] 53 :: .box b5 [(i64 d)] 3 :: .own 38 6 (.slice none 0 0) (([] : List Nd)).length ((([] : List Nd)).flatMap Nd.cells) :: Rs)) rs13 x14 v12 hS20 (hS20.sl (i := 2) rfl) hrow (by omega)) rfl ?_
 rintro v30 w31 ⟨a28, c29, M32, rfl, hsl_v30, hS33, hle34⟩
 replace hrow := hrow.mono hle34
 refine RL.a rfl rfl ?_
 refine RL.nil (CW.at [Y 4 (.slice a28 (listV x14).length c29)] rfl (CW.ret (hE.r1 rfl rfl ?_)))
 have hslr := hsl_v30
 replace hS33 := (hS33.erase 5 rfl).erase 4 rfl
 replace hS33 := (hS33.erase 3 rfl).erase 2 rfl
 replace hS33 := hS33.erase 1 rfl
 have hlz : len (listV x14) = len x14.flatten + 1 := len_cons _ _
 exact PPost.ok (show mapR _ _ = _ from by rw [hr19]; rfl) ⟨_, _, rfl, by omega, by omega, by omega, hslr, hS33⟩ (hle21.trans hle34)

end Go.Proofs.YtjfaikgooldcbaaGreatDoor
set_option maxRecDepth 100000
namespace Go.Proofs.YtjfaikgooldcbaaGreatDoor
open Go.Eng

def ObjI (pb b2 b3 bm mb : Nat) (d i0 : Int) (mp : List (Str × Vl)) (j : Int) (M : Mem) (Hs : List HO) : Prop := (len mp ≤ j ∧ mapN mp + 1 ≤ j - i0) ∧ KeysOK mp ∧ UtfK mp ∧ ∃ l c, MapV M l mp ∧ BornOK l c ∧ Hs = [.box b2 [.pointer (some ⟨pb, 0, none⟩)] 53, .box b3 [i64 d] 3, .box bm [.map (some mb)] 106, .raw mb (smobj l c)]
theorem obj_part {w : World} {M0 : Mem} {Rs : List HO} (s : Str) (pb b2 b3 bm mb : Nat) (d i0 : Int) (hb : len s ≤ 1099511627776) (hg : Gl w) (hd : 0 ≤ d ∧ d ≤ 900) (f : Nat) (hval : ValOK w M0 s pb f) :
    PartOK w M0 Rs s pb 75 [.pointer (some ⟨b2, 0, none⟩), .pointer (some ⟨b3, 0, none⟩), .pointer (some ⟨bm, 0, none⟩)] (ObjI pb b2 b3 bm mb d i0) (fun f m i => pairT s i (fun k => valT f s k (d + 1)) m) f := by
  intro mp i wv M Hs hI h0 h1 hf hS
  obtain ⟨hlx, hk, hu, l, c, hmap, hbo, rfl⟩ := hI
  have hkx : ∀ x j, pairT s i (fun k => valT f s k (d + 1)) mp = .ok x j → KeysOK x ∧ UtfK x := fun x j h => ⟨pairT_keys hk h, pairT_utfk hb (fun _ _ _ h => valT_ne h) hu h⟩
  refine (objpart_c (Rs := Rs) s i d i0 pb b2 b3 bm mb l c mp f hS hmap hbo hlx h0 h1 hb hg hd hf hval).mono fun e w' h => ?_
  show PPost w M0 M Rs 51 _ (pairT s i (fun k => valT f s k (d + 1)) mp) e w'
  revert h hkx
  generalize pairT s i (fun k => valT f s k (d + 1)) mp = r
  intro hkx h
  cases r with
  | ok x j => obtain ⟨v', M', he, ⟨h2, h3, h4, l2, c2, hm2, hb2, hS2⟩, hle⟩ := h; exact ⟨v', M', he, ⟨by omega, h3, _, ⟨h4, (hkx _ _ rfl).1, (hkx _ _ rfl).2, l2, c2, hm2, hb2, rfl⟩, hS2⟩, hle⟩
  | er ec p => exact h
theorem obj_parts {w wv : World} {M0 M : Mem} {Rs : List HO} (s : Str) (i d : Int) (pb b2 b3 bm mb : Nat) (Fu : Nat) (hS : St w M0 wv M (.box pb [str s, i64 (i)] 55 :: .box b2 [.pointer (some ⟨pb, 0, none⟩)] 53 :: .box b3 [i64 d] 3 :: .box bm [.map (some mb)] 106 :: .raw mb (smobj [] 0) :: Rs)) (h0 : 0 ≤ i) (h1 : i < len s) (hb : len s ≤ 1099511627776) (hg : Gl w) (hd : 0 ≤ d ∧ d ≤ 900) (hf : 2 * (len s - i) ≤ Fu) (hval : ∀ f, f < Fu → ValOK w M0 s pb f) :
    Calls Tryz.prog 72 [.pointer (some ⟨pb, 0, none⟩), str [125], (.func (.func 75) #[] #[.pointer (some ⟨b2, 0, none⟩), .pointer (some ⟨b3, 0, none⟩), .pointer (some ⟨bm, 0, none⟩)])].toArray wv (PPost w M0 M Rs 51 (fun x j v M' w' => i + 2 ≤ j ∧ j ≤ len s ∧ (len x ≤ j ∧ mapN x + 1 ≤ j - i) ∧ KeysOK x ∧ UtfK x ∧ ∃ l2 c2, MapV M' l2 x ∧ BornOK l2 c2 ∧ St w M0 w' M' (.box pb [str s, i64 (j)] 55 :: .box b2 [.pointer (some ⟨pb, 0, none⟩)] 53 :: .box b3 [i64 d] 3 :: .box bm [.map (some mb)] 106 :: .raw mb (smobj l2 c2) :: Rs)) (partsT s i [125] [] (pairsT Fu s d))) := by
  refine (parts_c (Rs := Rs) s [125] i pb 75 [.pointer (some ⟨b2, 0, none⟩), .pointer (some ⟨b3, 0, none⟩), .pointer (some ⟨bm, 0, none⟩)] (ObjI pb b2 b3 bm mb d i) (fun f m i => pairT s i (fun k => valT f s k (d + 1)) m) (fun f => pairsT f s d) [] Fu _ hS ⟨⟨by simp only [len_nil]; omega, by unfold mapN; simp only [List.map_nil, List.flatten_nil, len_nil]; omega⟩, List.nodup_nil, (fun p hp => by cases hp), [], 0, trivial, ⟨fun p hp => (by cases hp), List.nodup_nil⟩, rfl⟩ ?_ Tryz.call75 (fun f x i => by rw [pairsT]) (fun f hf => obj_part s pb b2 b3 bm mb d i hb hg hd f (hval f hf)) rfl hf h0 h1 hb).mono fun e w' h => ?_
  · rintro x M Hs j j2 hj ⟨⟨h1, h2⟩, h3⟩; exact ⟨⟨by omega, by omega⟩, h3⟩
  · revert h
    show PPost _ _ _ _ _ _ _ _ _ → PPost _ _ _ _ _ _ _ _ _
    generalize partsT s i [125] [] (pairsT Fu s d) = r
    intro h
    cases r with
    | ok x j => obtain ⟨v', M', he, ⟨h2, h3, _, ⟨h4, hk, hu, l2, c2, hm2, hb2, rfl⟩, hS2⟩, hle⟩ := h; exact ⟨v', M', he, ⟨h2, h3, h4, hk, hu, l2, c2, hm2, hb2, hS2⟩, hle⟩
    | er ec p => exact h
end Go.Proofs.YtjfaikgooldcbaaGreatDoor
set_option maxRecDepth 100000
namespace Go.Proofs.YtjfaikgooldcbaaGreatDoor
open Go.Eng

/- loupe/val.laid -/
theorem laid_c {w wv : World} {M0 M : Mem} {Rs : List HO} (ns : List Str) (rs : List SlH) (xs : List Vl) (vn va : Value) (hS : St w M0 wv M Rs) (hn : Sl M 1 ns.length vn (ns.flatMap strC)) (ha : Sl M 1 rs.length va (rs.flatMap valI)) (hrow : RowsV M 6 Nd.cells rs xs) (hnl : len ns = len rs) (hne : ∀ x ∈ xs, x ≠ []) (hbd : len xs.flatten ≤ 1099511627776) :
  Calls Tryz.prog 106 [vn, va].toArray wv fun e w' => ∃ u, e = .returned u ∧ ∃ a c M', u = .slice a (laidTo ns xs (len xs)).length c ∧ Sl M' 6 (laidTo ns xs (len xs)).length u ((laidTo ns xs (len xs)).flatMap Nd.cells) ∧ St w M0 w' M' Rs ∧ M.le M' := by
 refine CW.enter1 Tryz.func106 rfl Tryz.ntmps106 (Nat.le_of_ble_eq_true rfl) fun Q hE => ?_
 have hrl : len rs = len xs := by unfold len; rw [hrow.len]
 have hle9 : len rs ≤ 9223372036854775807 := ha.le
 have hn0 := len_nonneg rs
 refine CW.weaken [0, 1] (L' := [Y 0 vn, Y 1 va]) ?_ rfl
 refine CW.sr ?_
 have hS1 := hS.ownNil 38 6
 refine RL.u (.assign .c) rfl (RL.nil (CW.id ?_))
 refine CW.sr (RL.m rfl rfl (RL.u (.lenT ha (.t rfl) ⟨_, Tryz.underlying47⟩) rfl (RL.u (.build (vs := [(0, (i64 6)), (1, (i64 (len rs)))]) (v := (.agg #[(i64 6), (i64 (len rs)), (str []), (str []), (.bool false), (i64 0)])) (.cons .c (.cons (.t rfl) .nil)) (fun w => by kernel_rfl)) rfl ?_)))
 refine RL.buildSliceP (n := 1) (sz := 6) (e := 38) (vs := [(0, (.agg #[(i64 6), (i64 (len rs)), (str []), (str []), (.bool false), (i64 0)]))]) (cs := [(i64 6), (i64 (len rs)), (str []), (str []), (.bool false), (i64 0)]) hS1 (.cons (.t rfl) .nil) rfl rfl (fun w => by kernel_rfl) rfl (fun v2 w3 hS4 => ?_)
 refine RL.a rfl rfl (RL.nil (CW.id ?_))
 refine CW.seq (CW.sr (RL.m rfl rfl (RL.u (.lenT ha (.t rfl) ⟨_, Tryz.underlying47⟩) rfl (RL.u (.move .c) rfl (RL.nil (CW.id ?_))))))
 refine CW.block ?_
 refine CW.loop (σ := Int × Value × List Nd) (fun (k, vl, ll) => [Y 0 vn, Y 5 vl, Y 13 va, Y 14 (i64 (len rs)), Y 15 (i64 k)]) (fun (k, vl, ll) wl => St w M0 wl M (.priv 38 6 vl ll.length (ll.flatMap Nd.cells) :: .own 38 6 (.slice none 0 0) (([] : List Nd)).length ((([] : List Nd)).flatMap Nd.cells) :: Rs) ∧ Sl M 1 ns.length vn (ns.flatMap strC) ∧ Sl M 1 rs.length va (rs.flatMap valI) ∧ RowsV M 6 Nd.cells rs xs ∧ 0 ≤ k ∧ k ≤ len rs ∧ ll = laidTo ns xs k) (fun (k, vl, ll) => (len rs - k).toNat) ((0, v2, ([⟨6, len rs, [], [], false, 0⟩] : List Nd))) [0, 5, 13, 14, 15] rfl ?_ ?_
 ·refine ⟨hS4, hn, ha, hrow, ?_⟩; exact ⟨by omega, by omega, by rw [hrl]; rfl⟩
 ·rintro ⟨k, vl, ll⟩ wl ⟨hS5, hn, ha, hrow, hk0, hk1, hll⟩
  have hrk := fun h : k < len rs => hrow.at hk0 h
  refine CW.sr (RL.u (.lss (.t rfl) (.t rfl)) rfl (RL.nil (CW.id (CW.seq ?_))))
  refine CW.cond rfl ?_ ?_ <;> intro hb1 <;> try simp only [zb] at hb1
  ·replace hrk := hrk hb1
   have hxn : at' xs k ≠ [] := hne _ (at'_mem hk0 (by omega))
   have hxp : 1 ≤ len (at' xs k) := by cases hx : at' xs k with | nil => exact absurd hx hxn | cons y r => (rw [len_cons]; have := len_nonneg r; omega)
   have hl0 := len_nonneg ll
   have hl1 := laidTo_le ns xs (k + 1)
   rw [laidTo_step hk0 (by omega) (by omega), ← hll, len_app, nameV_len] at hl1
   refine CW.skip (CW.id (CW.seq (CW.block (CW.sr ?_))))
   refine RL.m rfl rfl (RL.u (.idxT ha (.t rfl) (.t rfl) Tryz.underlying47 Tryz.sizeOf24 (fun _ => by omega)) rfl (RL.u (.loadE1 (f := valI) (i := k) (j := 0) (u := ((at' rs k).v)) hS5 extEq ha valI_len (.t rfl) Tryz.isAgg24 (fun _ => by omega) rfl rfl) rfl (RL.a rfl rfl (RL.a rfl rfl (RL.nil (CW.id ?_))))))
   refine CW.sr (RL.m rfl rfl (RL.u (.lenT ((hS5.told (k := 0) rfl).sl (i := 0) rfl) (.t rfl) ⟨_, Tryz.underlying24⟩) rfl (RL.a rfl rfl (RL.nil (CW.id (CW.sr ?_))))))
   refine RL.m rfl rfl (RL.m rfl rfl ?_)
   refine RL.appendLP (f := Nd.cells) (l := ll) (m := at' xs k) hS5 (k := 0) rfl (.t rfl) (.t rfl) hrk Tryz.underlying24 Tryz.type38 rfl rfl rfl Nd.cells_one (by' := 64) rfl rfl (by omega) rfl (Hs' := fun v' => (.priv 38 6 v' (ll ++ at' xs k).length ((ll ++ at' xs k).flatMap Nd.cells) :: .own 38 6 (.slice none 0 0) (([] : List Nd)).length ((([] : List Nd)).flatMap Nd.cells) :: Rs)) (fun _ => rfl) (fun v6 w7 hS8 => ?_)
   refine RL.a rfl rfl (RL.nil (CW.id ?_))
   refine CW.region (RL.m rfl rfl (RL.m rfl rfl (RL.m rfl rfl (RL.m rfl rfl (RL.u (.idxT hn (.t rfl) (.t rfl) Tryz.underlying46 Tryz.sizeOf9 (fun _ => by first | omega | (simp only [len_app, len_cons, len_nil]; omega) | (simp only [len_app, len_cons, len_nil] at *; omega))) rfl (RL.u (.loadE1 (f := strC) (i := k) (j := 0) (u := (str (at' ns k))) hS8 extEq hn strC_len (.t rfl) Tryz.isAgg9 (fun _ => by first | omega | (simp only [len_app, len_cons, len_nil]; omega) | (simp only [len_app, len_cons, len_nil] at *; omega)) rfl rfl) rfl (RL.u (.idxT ((hS8.told (k := 0) rfl).sl (i := 0) rfl) (.t rfl) (.t rfl) Tryz.underlying24 Tryz.sizeOf38 (fun _ => by first | omega | (simp only [len_app, len_cons, len_nil]; omega) | (simp only [len_app, len_cons, len_nil] at *; omega))) rfl (RL.u (.fldA (q := ⟨sb v6, so v6 + (len ll : Int).toNat * 6 + 2, none⟩) (.t rfl) (fun w => by kernel_rfl)) rfl ?_))))))))
   refine RL.storeP (o := (len ll : Int).toNat * 6 + 2) (xs' := ((ll ++ at' xs k).set (len ll : Int).toNat { at' (ll ++ at' xs k) (len ll) with name := at' ns k }).flatMap Nd.cells) (Hs' := (.priv 38 6 v6 ((ll ++ at' xs k).set (len ll : Int).toNat { at' (ll ++ at' xs k) (len ll) with name := at' ns k }).length (((ll ++ at' xs k).set (len ll : Int).toNat { at' (ll ++ at' xs k) (len ll) with name := at' ns k }).flatMap Nd.cells) :: .own 38 6 (.slice none 0 0) (([] : List Nd)).length ((([] : List Nd)).flatMap Nd.cells) :: Rs)) hS8 (k := 0) rfl (.t rfl) (.t rfl) Tryz.sizeOf9 rfl rfl (by rw [flat_len Nd.cells 6 Nd.cells_len]; simp only [List.length_append]; unfold len at *; omega) rfl (splice_set (f := Nd.cells) (sz := 6) Nd.cells_len (ll ++ at' xs k) (len ll : Int).toNat { at' (ll ++ at' xs k) (len ll) with name := at' ns k } 2 [(str (at' ns k))] (by simp only [List.length_append]; unfold len at *; omega) rfl (Nat.le_of_ble_eq_true rfl)) (by rw [List.length_set]; rfl) (fun w9 hS10 => (RL.nil (CW.id ?_)))
   refine CW.region (RL.u (.add (.t rfl) .c (fun _ => by omega)) rfl (RL.m rfl rfl ?_))
   refine RL.nil fun a hs => Exists.intro ((k + 1, v6, (ll ++ at' xs k).set (len ll : Int).toNat { at' (ll ++ at' xs k) (len ll) with name := at' ns k })) ⟨hs.keep [0, 5, 13, 14, 15], ?_, ?_⟩
   ·refine ⟨hS10, hn, ha, hrow, ?_⟩
    exact ⟨by omega, by omega, by rw [set_name _ _ _ hxn, hll, laidTo_step hk0 (by omega) (by omega)]⟩
   ·show Int.toNat _ < Int.toNat _; omega
  ·refine CW.exit (CW.at [Y 5 vl] rfl ?_)
   refine CW.sr (RL.m rfl rfl (RL.a rfl rfl (RL.nil (CW.id (CW.ret (hE.r1 rfl rfl ?_))))))
   obtain ⟨M12, hS11, hle13⟩ := hS5.show (k := 0) rfl
   have hslr := (hS11.sl (i := 0) rfl)
   replace hS11 := (hS11.erase 1 rfl).erase 0 rfl
   obtain ⟨az, cz, hz⟩ := Sl.shape hslr
   have hke : k = len xs := by omega
   subst hke
   subst hll
   exact ⟨_, rfl, az, cz, M12, hz, hslr, hS11, hle13⟩

end Go.Proofs.YtjfaikgooldcbaaGreatDoor
namespace Go.Proofs.YtjfaikgooldcbaaGreatDoor
open Go.RowKit Go.Shelf Go.Eng Go.Maps Go.Sort
variable {P : Program} {ρ : Ren}
attribute [local go_sem] Oper.semAt_some
/-- What an iterator gives a body that leaves all that was there before. -/
def SeqB (F : Fence) (n : Nat) (P : Program) (g : Nat) (lb : Array Value) (S : List (List UInt8) → Prop) (N : Nat) (w : World) : Prop :=
  ∀ (l : Nat) (J : List (List UInt8) → World → Prop) (W : World), Below w.heap.size w W → AbidesFrom W.heap.size J → (∀ ss W1, J ss W1 → Below w.heap.size w W1) →
    (∀ pre x W1, J pre W1 → pre.length < N → YieldAt F (n - 1) P l #[encStr x] W1 fun e W' => e = .returned (.bool true) ∧ J (pre ++ [x]) W' ∧ KeepsWalks W1 W') →
    J [] W →
    CallsIn F n P g (#[.func (.yield l) #[] #[]] ++ lb) W fun e W' => (∃ v, e = .returned v) ∧ ∃ xs, S xs ∧ J xs W'
set_option maxRecDepth 100000 in
set_option maxHeartbeats 2000000 in
theorem appendSeqB (L : SlLaysZ.n11 P ρ) (F : Fence) (n : Nat) (h11 : F.fn (ρ.f 11)) (hro : F.round = none) (hn : 2 ≤ n) (g : Nat) (lb : Array Value) (hFg : F.fn g) (eg : ∀ args w, (callFunc g args).run P w = .ok (.enter g args) w)
    (S : List (List UInt8) → Prop) (N : Nat) (hN : N ≤ maxLen) (hNb : N * 16 ≤ 140737488355328) (w : World) (hseq : SeqB F (n - 1) P g lb S N w) :
    CallsIn F n P (ρ.f 11) #[.slice none 0 0, .func (.func g) #[] lb] w fun e w' => ∃ (v : Value) (ss : List (List UInt8)), e = .returned v ∧ S ss ∧ w'.ownsRow w.heap.size (ρ.t 26) 1 v ss.length (ss.map encStr) ∧ (v = .slice none 0 0 ↔ ss = []) ∧ Below w.heap.size w w' := by
  have h1 : 1 ≤ n := by omega
  have mixed := L.mixed; have t0 := L.t0; have a0 := L.a0; have z0 := L.z0; have v0 := L.v0; have t24 := L.t24; have a24 := L.a24; have z24 := L.z24; have v24 := L.v24; have t26 := L.t26; have a26 := L.a26; have z26 := L.z26; have v26 := L.v26; have t28 := L.t28; have a28 := L.a28; have z28 := L.z28; have v28 := L.v28
  have hne : ρ.t 24 ≠ ρ.t 26 := fun e => by have h := L.t24; rw [e, L.t26] at h; cases h
  have u0 := run_underlying L.t0; have u24 := run_underlying L.t24; have u26 := run_underlying L.t26; have u28 := run_underlying L.t28
  obtain ⟨_, _, FG⟩ := L.f11
  refine callsIn_of_wp_marks FG rfl h11 ?_ hro
  simp only [SlBodyZ.n11_ntmps ρ, List.size_toArray, List.length_cons, List.length_nil, Nat.reduceAdd, Nat.reduceSub, Array.replicate_succ, Array.replicate_zero, List.push_toArray, List.append_toArray, List.nil_append, List.cons_append]
  gi_wp2
  refine wpIn_rangeFunc ?_
  intro fn hfn
  rw [hro]
  obtain ⟨W0, hW0⟩ : ∃ W0, w.alloc (.cells #[.slice none 0 0] (ρ.t 24)) = W0 := ⟨_, rfl⟩
  have hs0 : W0.heap.size = w.heap.size + 1 := by rw [← hW0]; simp
  have hv0 : W0.heap[w.heap.size]? = some (.cells #[.slice none 0 0] (ρ.t 24) (0, 0)) := by rw [← hW0]; exact World.alloc_heap_new w _
  have hb0 : Below w.heap.size w W0 := by rw [← hW0]; exact (Below.refl _ w).alloc (Nat.le_refl _) _
  rw [hW0]
  obtain ⟨W1, hW1⟩ : ∃ W1, (W0.alloc (.deferred (some []))).alloc (.loop (AnyZ.apRec ρ fn (.func (.func g) #[] lb) w.heap.size W0.heap.size .ready none)) = W1 := ⟨_, rfl⟩
  have hold : ∀ k, k < W0.heap.size → W1.heap[k]? = W0.heap[k]? := fun k hk => by
    rw [← hW1]; exact (Below.heap_alloc _ _ k (by simp; omega)).trans (Below.heap_alloc _ _ k hk)
  have hb1 : Below w.heap.size w W1 := by rw [← hW1]; exact (hb0.alloc hb0.size _).alloc (by have := hb0.size; simp; omega) _
  have hs1 : W1.heap.size = W0.heap.size + 2 := by rw [← hW1]; simp
  have hM : AnyZ.ApAt ρ w fn (.func (.func g) #[] lb) w.heap.size (W0.heap.size + 1) W0.heap.size [] W1 :=
    ⟨⟨_, (hold w.heap.size (by omega)).trans hv0, ⟨rfl, .inl ⟨rfl, rfl⟩⟩, by simp⟩,
     by rw [← hW1]; have := World.alloc_heap_new (W0.alloc (.deferred (some []))) (.loop (AnyZ.apRec ρ fn (.func (.func g) #[] lb) w.heap.size W0.heap.size .ready none)); rwa [World.size_alloc] at this,
     by rw [← hW1]; exact (Below.heap_alloc _ _ _ (by simp)).trans (World.alloc_heap_new W0 _), hb1⟩
  refine ⟨W0.heap.size + 1, [{ target := .collected W0.heap.size, args := #[] }], W1, { target := .fn (.func g) lb, args := #[.func (.yield (W0.heap.size + 1)) #[] #[]] }, W1, g,
    #[.func (.yield (W0.heap.size + 1)) #[] #[]] ++ lb, W1, ?_, ?_, ?_, ?_, fun _ => h1, ?_⟩
  · rw [← hW1]; exact run_enterLoop_outer _ _ _ _ _
  · simp [resolve, go_sem]
  · intro f' hf'; simp [Target.leads] at hf'; subst hf'; exact hFg
  · simp [invoke, go_sem, eg]
  · refine (hseq (W0.heap.size + 1) (AnyZ.ApAt ρ w fn (.func (.func g) #[] lb) w.heap.size (W0.heap.size + 1) W0.heap.size) W1 hb1 (AnyZ.ap_abides ρ _ _ _ _ _ _ _ hb1.size) (fun ss W h => h.below)
      (fun pre x W hJ hl => AnyZ.apYield { L with } F (n - 1 - 1) w fn hfn _ w.heap.size (W0.heap.size + 1) W0.heap.size (by omega) (by omega) (by omega) (Nat.le_refl _) (by omega) N hN hNb pre x W hJ hl) hM).mono ?_
    rintro e W2 ⟨⟨v0, rfl⟩, ss, hS, h2⟩
    obtain ⟨v, hv, hrow, hnil⟩ := h2.box
    have hend := run_endLoop (P := P) h2.L (by simp [AnyZ.apRec])
    obtain ⟨W3, hW3⟩ : ∃ W3, W2.putObj (W0.heap.size + 1) (.loop { AnyZ.apRec ρ fn (.func (.func g) #[] lb) w.heap.size W0.heap.size .ready none with state := .exhausted }) = W3 := ⟨_, rfl⟩
    rw [hW3] at hend
    have hg3 : W2.grownBy W3 (some (W0.heap.size + 1)) := by rw [← hW3]; exact grownBy_putObj_a _ _ _
    have hv3 : W3.heap[w.heap.size]? = some (.cells #[v] (ρ.t 24) (0, 0)) := by rw [← hW3]; exact (World.putObj_heap_other (by omega)).trans hv
    have hK3 : W3.heap[W0.heap.size]? = some (.deferred (some [])) := by rw [← hW3]; exact (World.putObj_heap_other (by omega)).trans h2.K
    have hrow3 := hrow.kept hg3 (ownsRow_ne_a hrow h2.L (fun cur e => by first | cases e | exact hne (Obj.cells.inj e).2.1))
    have hb3 : Below w.heap.size w W3 := h2.below.grown hg3 h2.below.size (fun k e => by cases e; omega)
    obtain ⟨hc3, hf3⟩ := cell_of_box_a hv3
    clear hW3
    refine ⟨none, W3, hend, ?_⟩
    gi_wp2
    rw [← hs0]
    refine ⟨by simp, .inl ⟨_, _, rfl, run_takeDeferred hK3, ?_⟩⟩
    exact ⟨_, results_tmp rfl _ _ _, v, ss, rfl, hS, hrow3.kept (grownBy_putObj_a _ _ _) (ownsRow_ne_a hrow3 hK3 (fun cur e => by first | cases e | exact hne (Obj.cells.inj e).2.1)), hnil, hb3.grown (grownBy_putObj_a _ _ _) hb3.size (fun k e => by cases e; omega)⟩

set_option maxRecDepth 100000 in
set_option maxHeartbeats 2000000 in
theorem collectB (L : SlLaysZ.n8 P ρ) (F : Fence) (n : Nat) (h8 : F.fn (ρ.f 8)) (h11 : F.fn (ρ.f 11)) (hro : F.round = none) (hn : 3 ≤ n) (g : Nat) (lb : Array Value) (hFg : F.fn g) (eg : ∀ args w, (callFunc g args).run P w = .ok (.enter g args) w)
    (S : List (List UInt8) → Prop) (N : Nat) (hN : N ≤ maxLen) (hNb : N * 16 ≤ 140737488355328) (w : World) (hseq : SeqB F (n - 1 - 1) P g lb S N w) :
    CallsIn F n P (ρ.f 8) #[.func (.func g) #[] lb] w fun e w' => ∃ (v : Value) (ss : List (List UInt8)), e = .returned v ∧ S ss ∧ w'.ownsRow w.heap.size (ρ.t 26) 1 v ss.length (ss.map encStr) ∧ (v = .slice none 0 0 ↔ ss = []) ∧ Below w.heap.size w w' := by
  have h1 : 1 ≤ n := by omega
  have e11 : ∀ args w, (callFunc (ρ.f 11) args).run P w = .ok (.enter (ρ.f 11) args) w := L.f11.enters rfl
  have mixed := L.mixed; have t0 := L.t0; have a0 := L.a0; have z0 := L.z0; have v0 := L.v0; have t24 := L.t24; have a24 := L.a24; have z24 := L.z24; have v24 := L.v24; have t26 := L.t26; have a26 := L.a26; have z26 := L.z26; have v26 := L.v26; have t28 := L.t28; have a28 := L.a28; have z28 := L.z28; have v28 := L.v28
  have u0 := run_underlying L.t0; have u24 := run_underlying L.t24; have u26 := run_underlying L.t26; have u28 := run_underlying L.t28
  obtain ⟨_, _, FG⟩ := L.f8
  refine callsIn_of_wp FG rfl h8 ?_ hro
  simp only [SlBodyZ.n8_ntmps ρ, List.size_toArray, List.length_cons, List.length_nil, Nat.reduceAdd, Nat.reduceSub, Array.replicate_succ, Array.replicate_zero, List.push_toArray, List.append_toArray, List.nil_append, List.cons_append]
  gi_wp2_with (gi_at_fn (ρ.f 11); refine (appendSeqB { L with } F (n - 1) h11 hro (by omega) g lb hFg eg S N hN hNb _ hseq).mono ?_; rintro e w' ⟨v, ss, rfl, hS, hrow, hnil, hb⟩)
  go_ret
  exact ⟨v, ss, rfl, hS, hrow, hnil, hb⟩
set_option maxRecDepth 100000 in
set_option maxHeartbeats 2000000 in
theorem sortedB (L : SlLaysZ.n6 P ρ) (F : Fence) (n : Nat) (h6 : F.fn (ρ.f 6)) (h8 : F.fn (ρ.f 8)) (h9 : F.fn (ρ.f 9)) (h11 : F.fn (ρ.f 11)) (hro : F.round = none) (hn : 4 ≤ n) (hsort : AnyZ.SortsIn P ρ F (n - 1)) (e9 : ∀ args w, (callFunc (ρ.f 9) args).run P w = .ok (.enter (ρ.f 9) args) w) (g : Nat) (lb : Array Value) (hFg : F.fn g) (eg : ∀ args w, (callFunc g args).run P w = .ok (.enter g args) w)
    (S : List (List UInt8) → Prop) (N : Nat) (hN : N ≤ maxLen) (hNb : N * 16 ≤ 140737488355328) (w : World) (hseq : SeqB F (n - 1 - 1 - 1) P g lb S N w) (hSN : ∀ ss, S ss → ss.length < 4611686018427387904) :
    CallsIn F n P (ρ.f 6) #[.func (.func g) #[] lb] w fun e w' => ∃ (v : Value) (ss : List (List UInt8)), e = .returned v ∧ S ss ∧
      w'.ownsRow w.heap.size (ρ.t 26) 1 v ss.length ((ss.mergeSort (fun x y => decide (x ≤ y))).map encStr) ∧ (v = .slice none 0 0 ↔ ss = []) ∧ Below w.heap.size w w' := by
  have h1 : 1 ≤ n := by omega
  have e8 : ∀ args w, (callFunc (ρ.f 8) args).run P w = .ok (.enter (ρ.f 8) args) w := L.f8.enters rfl
  have mixed := L.mixed; have t0 := L.t0; have a0 := L.a0; have z0 := L.z0; have v0 := L.v0; have t24 := L.t24; have a24 := L.a24; have z24 := L.z24; have v24 := L.v24; have t26 := L.t26; have a26 := L.a26; have z26 := L.z26; have v26 := L.v26; have t28 := L.t28; have a28 := L.a28; have z28 := L.z28; have v28 := L.v28
  have u0 := run_underlying L.t0; have u24 := run_underlying L.t24; have u26 := run_underlying L.t26; have u28 := run_underlying L.t28
  obtain ⟨_, _, FG⟩ := L.f6
  refine callsIn_of_wp FG rfl h6 ?_ hro
  simp only [SlBodyZ.n6_ntmps ρ, List.size_toArray, List.length_cons, List.length_nil, Nat.reduceAdd, Nat.reduceSub, Array.replicate_succ, Array.replicate_zero, List.push_toArray, List.append_toArray, List.nil_append, List.cons_append]
  gi_wp2_with (gi_at_fn (ρ.f 8); refine (collectB { L with } F (n - 1) h8 h11 hro (by omega) g lb hFg eg S N hN hNb _ hseq).mono ?_; rintro e W ⟨v, ss, rfl, hS, hrow, hnil, hb⟩)
  have hlen := hSN ss hS
  rcases hrow.2 with ⟨rfl, hz⟩ | ⟨gb, cap, cur, rfl, hbase, hgb, r1, r2, r3, r4⟩
  · have hss : ss = [] := List.eq_nil_of_length_eq_zero hz
    subst hss
    gi_wp2_with (gi_at_fn (ρ.f 9); refine (hsort.2 none 0 W).mono ?_; rintro e w' ⟨rfl, rfl⟩)
    go_ret
    exact ⟨.slice none 0 0, [], rfl, hS, by simpa using hrow, by simp, hb⟩
  · have hH : Holds encStr W gb 0 ss.toArray := holds_of_block hgb (by simpa using r4)
    have hgl : gb < W.heap.size := (Array.getElem?_eq_some_iff.1 hgb).1
    have cS := hsort.1 gb 0 cap ss W hH hgl hlen
    gi_wp2_with (gi_at_fn (ρ.f 9); refine cS.mono ?_; rintro e w' ⟨rfl, nn, os, rfl⟩)
    go_ret
    exact ⟨_, ss, rfl, hS, ownsRow_sorted (by simp) hbase hgb r1 r2 r3, hnil, hb.grown (grownBy_sorted _) hb.size (fun j hj => by cases hj; exact hbase)⟩
/-! ### the iterator of slices.Values -/
theorem take_snoc (zs : List (List UInt8)) {k : Nat} (hk : k < zs.length) : zs.take (k + 1) = zs.take k ++ [zs[k]?.getD []] := by
  rw [List.take_add_one, List.getElem?_eq_getElem hk]; rfl
set_option maxRecDepth 100000 in
set_option maxHeartbeats 2000000 in
theorem values1 (F : Fence) (n : Nat) (h7 : F.fn 135) (hro : F.round = none) (hn : 1 ≤ n) (Bs : Nat) (p : Option Addr) (cap : Nat) (zs : List (List UInt8)) (hmx : zs.length ≤ 1099511627776) (w : World)
    (hB : Bs < w.heap.size) (hBs : w.cell? ⟨Bs, 0, none⟩ = some (.slice p zs.length cap)) (hc : 0 < zs.length → ∃ b off, p = some ⟨b, off, none⟩ ∧ ∀ j, j < zs.length → w.cell? ⟨b, off + j, none⟩ = some (encStr (zs[j]?.getD []))) :
    SeqB F n Tryz.prog 135 #[.pointer (some ⟨Bs, 0, none⟩)] (fun ys => ys = zs) zs.length w := fun l J W hW _ hJB hY h0 => by
  have mixed : Tryz.prog.follows .mixedOrders = true := by kernel_rfl
  have hBs' := (hW.cell (p := ⟨Bs, 0, none⟩) hB).trans hBs
  refine callsIn_of_wp Tryz.func135 rfl h7 ?_ hro
  simp only [Tryz.ntmps135, List.size_toArray, List.length_cons, List.length_nil, Nat.reduceAdd, Nat.reduceSub, Array.replicate_succ, Array.replicate_zero, List.push_toArray, List.append_toArray, List.nil_append, List.cons_append]
  gi_wp2
  gi_loopw [7] (fun i wr => ∃ k : Nat, k ≤ zs.length ∧ i = .int .i64 k ∧ J (zs.take k) wr)
    (fun i _ => zs.length - (intOf i).toNat)
  case atStart => exact ⟨0, Nat.zero_le _, rfl, by simpa using h0⟩
  case round =>
    obtain ⟨k, hk, rfl, hJs⟩ := hrel
    have hnx := hJB _ _ hJs
    by_cases hlt : k < zs.length
    · obtain ⟨b, off, rfl, hcs⟩ := hc (by omega)
      have hcx' : wr.cell? ⟨b, off + k, none⟩ = some (encStr (zs[k]?.getD [])) := (hnx.cell (p := ⟨b, off + k, none⟩) (lt_of_cell (hcs k hlt))).trans (hcs k hlt)
      have htk := take_snoc zs hlt
      generalize zs[k]?.getD [] = x at hcx' htk
      obtain ⟨fn, tmps, assign, body, hy, hR⟩ := hY _ x wr hJs (by rw [List.length_take]; omega)
      gi_wp2
      refine hR.mono ?_
      rintro e W3 ⟨rfl, hJ3, hk3⟩
      gi_wp2
      go_roundw
      case rel => exact ⟨k + 1, by omega, by simp, by rw [htk]; exact hJ3⟩
      case measure => simp [intOf]; omega
    · obtain rfl : k = zs.length := by omega
      gi_wp2
      go_end0
      exact ⟨⟨_, rfl⟩, _, rfl, by simpa using hJs⟩
theorem flat_str (l : List Str) : l.flatMap strC = l.map encStr := by
  induction l with
  | nil => rfl
  | cons a l ih => simp only [List.flatMap_cons, List.map_cons, ih]; rfl
theorem newPriv {w0 w w' : World} {M0 M : Mem} {Hs : List HO} {e : TypeId} {sz n : Nat} {v : Value} {xs : List Value} (h : St w0 M0 w M Hs) (hx : Ext w w') (hr : w'.ownsRow w.heap.size e sz v n xs) : St w0 M0 w' M (.priv e sz v n xs :: Hs) := by
  have h1 := h.ext hx
  have hb : ∀ b, v.ownBlock = some b → w.heap.size ≤ b := fun b hb => (World.ownsRow.lt hr b hb).1
  refine ⟨h1.low, h1.sat, h1.old, fun x hx => ?_, List.pairwise_cons.2 ⟨fun y hy b hv => ?_, h.apart⟩⟩
  · rcases List.mem_cons.1 hx with rfl | hx
    · exact ⟨ownsRow_base_a hr h.size, fun b hv o => h.none_of_new (hb b hv) o⟩
    · exact h1.ok x hx
  · intro hy'
    have := (HO.ok.lt (h.ok y hy) hy').2
    have := hb b hv
    omega
set_option maxRecDepth 100000 in
theorem values_c {w wv : World} {M0 M : Mem} {Rs : List HO} (ns : List Str) (vn : Value) (hS : St w M0 wv M Rs) (hn : Sl M 1 ns.length vn (ns.flatMap strC)) : Calls Tryz.prog 105 [vn].toArray wv fun e w' => ∃ u, e = .returned u ∧ ∃ b, u = .func (.func 135) #[] #[.pointer (some ⟨b, 0, none⟩)] ∧ St w M0 w' M (.box b [vn] 46 :: Rs) := by
  have mixed : Tryz.prog.follows .mixedOrders = true := by kernel_rfl
  obtain ⟨p, cap, rfl, _⟩ := hn.val
  have key : Calls Tryz.prog 105 #[.slice p ns.length cap] wv fun e w' => e = .returned (.func (.func 135) #[] #[.pointer (some ⟨wv.heap.size, 0, none⟩)]) ∧ w' = wv.alloc (.cells #[.slice p ns.length cap] 46) := by
    go_enter Tryz.func105, Tryz.ntmps105
    go_wp2
    go_ret
    exact ⟨rfl, rfl⟩
  refine key.mono ?_
  rintro e w' ⟨rfl, rfl⟩
  exact ⟨_, rfl, _, rfl, hS.newBox [.slice p ns.length cap] 46⟩
set_option maxRecDepth 100000 in
theorem sorted_c {w wv : World} {M0 M : Mem} {Rs : List HO} (ns : List Str) (b : Nat) (vn : Value) (hS : St w M0 wv M (.box b [vn] 46 :: Rs)) (hn : Sl M 1 ns.length vn (ns.flatMap strC)) (hmx : len ns ≤ 1099511627776) :
    Calls Tryz.prog 104 [.func (.func 135) #[] #[.pointer (some ⟨b, 0, none⟩)]].toArray wv fun e w' => ∃ u, e = .returned u ∧ ∃ M', St w M0 w' M' (.own 9 1 u (sortN ns).length ((sortN ns).flatMap strC) :: .box b [vn] 46 :: Rs) ∧ M.le M' := by
  have hmx' : ns.length ≤ 1099511627776 := by unfold len at hmx; omega
  obtain ⟨p, cap, rfl, hc1, hc2, hc3⟩ := hn.val
  have hbx := hS.obj (i := 0) rfl
  have hbc : wv.cell? ⟨b, 0, none⟩ = some (.slice p ns.length cap) := (cell_of_box_a hbx.2.1).1
  have hbl : b < wv.heap.size := lt_of_cell hbc
  have hseq := values1 Fence.wide 2 trivial rfl (by omega) b p cap ns hmx' wv hbl hbc (fun h0 => by
    obtain ⟨b2, o, rfl, hj⟩ := hc3 h0
    refine ⟨b2, o, rfl, fun j hlt => ?_⟩
    have h1 := hj j (by rw [flat_str, List.length_map]; exact hlt)
    have h2 : (ns.flatMap strC)[j]? = some (encStr (ns[j]?.getD [])) := by rw [flat_str, List.getElem?_map, List.getElem?_eq_getElem hlt]; rfl
    rw [h2] at h1
    exact hS.sat.cell _ _ _ h1)
  have hS5 := sortedB Tryz.sortedA Fence.wide 5 trivial trivial trivial trivial rfl (by omega) (Tryz.sortsA _) (enters_of Tryz.func134 (by kernel_rfl) rfl) 135 #[.pointer (some ⟨b, 0, none⟩)] trivial (enters_of Tryz.func135 (by kernel_rfl) rfl) (fun ys => ys = ns) ns.length (by unfold maxLen; omega) (by omega) wv hseq (fun ss h => by subst h; omega)
  refine (callsIn_wide.1 hS5).mono ?_
  rintro e w' ⟨v, ss, rfl, rfl, hr, hnil, hb⟩
  have hr2 : w'.ownsRow wv.heap.size 9 1 v (sortN ss).length ((sortN ss).flatMap strC) := by
    rw [flat_str]; unfold sortN; rw [List.length_mergeSort]; exact hr
  obtain ⟨M', h2, hle⟩ := (newPriv hS hb hr2).show (k := 0) rfl
  exact ⟨v, rfl, M', h2, hle⟩
end Go.Proofs.YtjfaikgooldcbaaGreatDoor
