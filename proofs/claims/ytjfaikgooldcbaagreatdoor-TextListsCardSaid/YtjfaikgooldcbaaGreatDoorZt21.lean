/-

-/
import Derived.Test.YtjfaikgooldcbaaGreatDoorZt4
import Derived.Laws.BitsLemmas
import Derived.Test.YtjfaikgooldcbaaGreatDoorZt3
import Derived.Test.YtjfaikgooldcbaaGreatDoorProg
import Derived.Test.YtjfaikgooldcbaaGreatDoorZt20
import Derived.Test.YtjfaikgooldcbaaGreatDoorZt12
set_option linter.unusedVariables false
set_option linter.unusedSimpArgs false
set_option maxRecDepth 100000
namespace Go.Proofs.YtjfaikgooldcbaaGreatDoor
open Go.Eng

theorem valid_c (s : Str) (w : World) (hg : Gl w) (hb : len s ≤ 9223372036854775807) : Calls Tryz.prog 103 [str s].toArray w fun e w' => e = .returned (.bool (Lib.validD s)) ∧ Ext w w' :=
  Tryz.utf8_ValidString ⟨⟨s⟩⟩ w (by unfold len at hb; have h : s.length ≤ 9223372036854775807 := (by omega); exact h) hg.u8
theorem laid_c3 {w wv : World} {M0 M : Mem} {Rs : List HO} (ns : List Str) (rs : List SlH) (xs : List Vl) (vn va : Value) (hS : St w M0 wv M Rs) (hn : Sl M 1 (sortN ns).length vn ((sortN ns).flatMap strC)) (ha : Sl M 1 rs.length va (rs.flatMap valI)) (hrow : RowsV M 6 Nd.cells rs (partsL (sortN ns) (ns.zip xs)))
    (hnx : len ns = len xs) (hnd : ns.Nodup) (hne : ∀ x ∈ xs, x ≠ []) (hbd : len xs.flatten ≤ 1099511627776) :
    Calls Tryz.prog 106 [vn, va].toArray wv fun e w' => ∃ u, e = .returned u ∧ ∃ a c M', u = .slice a (objV (ns.zip xs)).length c ∧ Sl M' 6 (objV (ns.zip xs)).length u ((objV (ns.zip xs)).flatMap Nd.cells) ∧ St w M0 w' M' Rs ∧ M.le M' := by
  have hk : KeysOK (ns.zip xs) := by unfold KeysOK; rw [zip_keys hnx]; exact hnd
  have e := laid_obj (ns.zip xs)
  have e2 := partsL_len hk
  rw [zip_keys hnx] at e e2
  rw [zip_vals hnx] at e2
  rw [← e]
  refine laid_c (sortN ns) rs _ vn va hS hn ha hrow ?_ ?_ (by rw [e2]; exact hbd)
  · have := hrow.len; unfold partsL at this; rw [List.length_map] at this; unfold len; omega
  · intro x hx
    unfold partsL at hx
    obtain ⟨n, hn, rfl⟩ := List.mem_map.1 hx
    obtain ⟨y, h1, h2⟩ := getV_in (m := ns.zip xs) (n := n) (by rw [zip_keys hnx]; exact sortN_mem.1 hn)
    rw [h1]
    exact hne _ (List.of_mem_zip h2).2
/- loupe/val.Object -/
theorem vobject_c {w wv : World} {M0 M : Mem} {Rs : List HO} (ns : List Str) (rs : List SlH) (xs : List Vl) (vn va : Value) (hS : St w M0 wv M Rs) (hn : Sl M 1 ns.length vn (ns.flatMap strC)) (ha : Sl M 1 rs.length va (rs.flatMap valI)) (hrow : RowsV M 6 Nd.cells rs xs) (hnl : len ns = len rs) (hg : Gl w) (hnd : ns.Nodup) (hu : ∀ n ∈ ns, utf n = true) (hsz : ∀ n ∈ ns, len n ≤ 4398046511104) (hmx : len ns ≤ 1099511627776) (hne : ∀ x ∈ xs, x ≠ []) (hbd : len xs.flatten ≤ 1099511627776) :
  Calls Tryz.prog 76 [vn, va].toArray wv fun e w' => ∃ u, e = .returned u ∧ ∃ a c M', u = .tuple #[.slice a (objV (ns.zip xs)).length c, i64 0] ∧ Sl M' 6 (objV (ns.zip xs)).length (.slice a (objV (ns.zip xs)).length c) ((objV (ns.zip xs)).flatMap Nd.cells) ∧ St w M0 w' M' Rs ∧ M.le M' := by
 refine CW.enter1 Tryz.func76 rfl Tryz.ntmps76 (Nat.le_of_ble_eq_true rfl) fun Q hE => ?_
 have hrl : len rs = len xs := by unfold len; rw [hrow.len]
 have hnx : len ns = len xs := by omega
 have hn0 := len_nonneg rs
 have hsl := sortN_len ns
 refine CW.weaken [0, 1] (L' := [Y 0 vn, Y 1 va]) ?_ rfl
 refine CW.sr ?_
 have hS1 := hS.ownNil 38 6
 refine RL.u (.assign .c) rfl (RL.u (.assign .c) rfl (RL.nil (CW.id ?_)))
 refine CW.seq (CW.sr (RL.m rfl rfl (RL.u (.lenT hn (.t rfl) ⟨_, Tryz.underlying46⟩) rfl (RL.m rfl rfl (RL.u (.lenT ha (.t rfl) ⟨_, Tryz.underlying47⟩) rfl (RL.u (.neq (.t rfl) (.t rfl)) rfl (RL.nil (CW.id ?_))))))))
 refine CW.cond rfl ?_ ?_ <;> intro hb1 <;> try simp only [zb] at hb1
 ·exfalso; omega
 ·refine CW.skip (CW.id (CW.sr ?_))
  refine RL.smakeMap hS1 rfl (fun w2 b3 hS4 => ?_)
  refine RL.a rfl rfl (RL.nil (CW.id ?_))
  refine CW.seq (CW.sr (RL.m rfl rfl (RL.u (.lenT hn (.t rfl) ⟨_, Tryz.underlying46⟩) rfl (RL.u (.move .c) rfl (RL.nil (CW.id ?_))))))
  refine CW.block ?_
  refine CW.loop (σ := Int × List SV × Nat) (fun (k, l, c) => [Y 0 vn, Y 1 va, Y 6 (.map (some b3)), Y 21 vn, Y 22 (i64 (len ns)), Y 23 (i64 k)]) (fun (k, l, c) wl => St w M0 wl M (.raw b3 (smobj l c) :: .own 38 6 (.slice none 0 0) (([] : List Nd)).length ((([] : List Nd)).flatMap Nd.cells) :: Rs) ∧ Sl M 1 ns.length vn (ns.flatMap strC) ∧ Sl M 1 rs.length va (rs.flatMap valI) ∧ RowsV M 6 Nd.cells rs xs ∧ 0 ≤ k ∧ k ≤ len ns ∧ MapV M l (zipT ns xs k)) (fun (k, l, c) => (len ns - k).toNat) ((0, [], 0)) [0, 1, 6, 21, 22, 23] rfl ?_ ?_
  ·refine ⟨hS4, hn, ha, hrow, ?_⟩; exact ⟨by omega, by omega, trivial⟩
  ·rintro ⟨k, l, c⟩ wl ⟨hS5, hn, ha, hrow, hk0, hk1, hmap⟩
   have hrk := fun h : k < len rs => hrow.at hk0 h
   refine CW.sr (RL.u (.lss (.t rfl) (.t rfl)) rfl (RL.nil (CW.id (CW.seq ?_))))
   refine CW.cond rfl ?_ ?_ <;> intro hb2 <;> try simp only [zb] at hb2
   ·have hgn : sget l (at' ns k) = none := hmap.none (zipT_new hk0 (by omega) hnx hnd)
    have hsk : len (at' ns k) ≤ 4398046511104 := hsz _ (at'_mem hk0 (by omega))
    have hvu : Lib.validD (at' ns k) = true := validD_utf (hu _ (at'_mem hk0 (by omega)))
    replace hrk := hrk (by omega)
    refine CW.skip (CW.id (CW.seq (CW.block (CW.sr ?_))))
    refine RL.m rfl rfl (RL.u (.idxT hn (.t rfl) (.t rfl) Tryz.underlying46 Tryz.sizeOf9 (fun _ => by omega)) rfl (RL.u (.loadE1 (f := strC) (i := k) (j := 0) (u := (str (at' ns k))) hS5 extEq hn strC_len (.t rfl) Tryz.isAgg9 (fun _ => by omega) rfl rfl) rfl (RL.a rfl rfl (RL.a rfl rfl (RL.nil (CW.id ?_))))))
    refine CW.seq (CW.sr (RL.m rfl rfl (RL.m rfl rfl (RL.u (.slookupOk (v := ((.slice none 0 0))) (q := false) hS5 extEq (i := 0) rfl (.t rfl) (.t rfl) Tryz.underlying106 Tryz.underlying9 Tryz.zeroValue24 (by rw [hgn]; rfl) (by rw [hgn]; rfl)) rfl (RL.m rfl rfl (RL.u (.ex (.t rfl) rfl) rfl (RL.u (.ex (.t rfl) rfl) rfl (RL.a rfl rfl (RL.a rfl rfl (RL.nil (CW.id ?_)))))))))))
    refine CW.sr (RL.m rfl rfl (RL.m rfl rfl (RL.v (.neg rfl rfl) (.move (.t rfl)) rfl ?_)))
    refine RL.callE hS5 (.neg rfl rfl) Tryz.call103 (.cons (.g rfl (fun h => h)) .nil) (fun hW => by simp only [zb] at hW; exact (valid_c (at' ns k) _ (hg.low hS5.low) (by omega))) rfl (fun w6 hS7 => ?_)
    refine RL.v (.neg rfl rfl) (.not (.g rfl (fun h => h))) rfl (RL.u (.or (.t rfl) (.g rfl (fun h => h))) rfl ?_)
    refine RL.nil (CW.at [Y 0 vn, Y 1 va, Y 6 (.map (some b3)), Y 7 (i64 k), Y 8 (str (at' ns k)), Y 21 vn, Y 22 (i64 (len ns)), Y 23 (i64 k), Y 39 (.bool (false || (!(Lib.validD (at' ns k)))))] rfl ?_)
    refine CW.cond rfl ?_ ?_ <;> intro hb3 <;> try simp only [zb] at hb3
    ·exfalso; rw [hvu] at hb3; simp at hb3
    ·refine CW.skip (CW.id ?_)
     refine CW.region (RL.m rfl rfl (RL.m rfl rfl (RL.m rfl rfl (RL.m rfl rfl (RL.u (.idxT ha (.t rfl) (.t rfl) Tryz.underlying47 Tryz.sizeOf24 (fun _ => by omega)) rfl (RL.u (.loadE1 (f := valI) (i := k) (j := 0) (u := ((at' rs k).v)) hS7 extEq ha valI_len (.t rfl) Tryz.isAgg24 (fun _ => by omega) rfl rfl) rfl ?_))))))
     refine RL.smapUpdate false hS7 (i := 0) rfl (.t rfl) (.t rfl) (.t rfl) Tryz.underlying106 Tryz.underlying9 rfl rfl rfl (fun w8 hS9 => ?_)
     refine RL.nil (CW.id ?_)
     refine CW.region (RL.u (.add (.t rfl) .c (fun _ => by omega)) rfl (RL.m rfl rfl ?_))
     refine RL.nil fun a hs => Exists.intro ((k + 1, sset l c (at' ns k) ((at' rs k).v), sclk l c (at' ns k) ((at' rs k).v))) ⟨hs.keep [0, 1, 6, 21, 22, 23], ?_, ?_⟩
     ·refine ⟨hS9, hn, ha, hrow, ?_⟩
      exact ⟨by omega, by omega, by rw [zipT_step hk0 (by omega) hnx, ← putV_new (zipT_new hk0 (by omega) hnx hnd)]; exact hmap.put hrk⟩
     ·show Int.toNat _ < Int.toNat _; omega
   ·have hke := zipT_end (ns := ns) (xs := xs) (k := k) (by omega)
    rw [hke] at hmap
    refine CW.exit (CW.at [Y 0 vn, Y 6 (.map (some b3))] rfl ?_)
    refine CW.sr (RL.m rfl rfl ?_)
    refine RL.callP Tryz.call105 (.cons (.t rfl) .nil) (values_c (Rs := (.raw b3 (smobj l c) :: .own 38 6 (.slice none 0 0) (([] : List Nd)).length ((([] : List Nd)).flatMap Nd.cells) :: Rs)) ns vn hS5 hn) rfl ?_
    rintro v11 w12 ⟨b10, rfl, hS14⟩
    replace hS14 := hS14.front 0 rfl rfl
    refine RL.callP Tryz.call104 (.cons (.t rfl) .nil) (sorted_c (Rs := (.raw b3 (smobj l c) :: .own 38 6 (.slice none 0 0) (([] : List Nd)).length ((([] : List Nd)).flatMap Nd.cells) :: Rs)) ns b10 vn hS14 hn (by omega)) rfl ?_
    rintro v16 w17 ⟨M18, hS19, hle20⟩
    replace hn := hn.mono hle20
    replace ha := ha.mono hle20
    replace hrow := hrow.mono hle20
    refine RL.a rfl rfl ?_
    refine RL.nil (CW.at [Y 6 (.map (some b3)), Y 11 v16] rfl (CW.sr ?_))
    have hS21 := hS19.ownNil 24 1
    refine RL.u (.assign .c) rfl (RL.nil (CW.id ?_))
    refine CW.seq (CW.sr (RL.m rfl rfl (RL.u (.lenT (hS21.sl (i := 1) rfl) (.t rfl) ⟨_, Tryz.underlying46⟩) rfl (RL.u (.move .c) rfl (RL.nil (CW.id ?_))))))
    refine CW.block ?_
    refine CW.loop (σ := Int × Value × List SlH × Mem) (fun (k2, vo, lo, Ml) => [Y 6 (.map (some b3)), Y 11 v16, Y 12 vo, Y 50 v16, Y 51 (i64 (len (sortN ns))), Y 52 (i64 k2)]) (fun (k2, vo, lo, Ml) wl => St w M0 wl Ml (.own 24 1 vo lo.length (lo.flatMap valI) :: .own 9 1 v16 (sortN ns).length ((sortN ns).flatMap strC) :: .box b10 [vn] 46 :: .raw b3 (smobj l c) :: .own 38 6 (.slice none 0 0) (([] : List Nd)).length ((([] : List Nd)).flatMap Nd.cells) :: Rs) ∧ Sl Ml 1 ns.length vn (ns.flatMap strC) ∧ Sl Ml 1 rs.length va (rs.flatMap valI) ∧ RowsV Ml 6 Nd.cells rs xs ∧ 0 ≤ k2 ∧ k2 ≤ len ns ∧ RowsV Ml 6 Nd.cells lo (partsL (Eng.sub (sortN ns) 0 k2) (ns.zip xs)) ∧ MapV Ml l (ns.zip xs) ∧ M.le Ml) (fun (k2, vo, lo, Ml) => (len ns - k2).toNat) ((0, .slice none 0 0, ([] : List SlH), M18)) [6, 11, 12, 50, 51, 52] rfl ?_ ?_
    ·refine ⟨hS21, hn, ha, hrow, ?_⟩; exact ⟨by omega, by omega, trivial, hmap.mono hle20, hle20⟩
    ·rintro ⟨k2, vo, lo, Ml⟩ wl ⟨hS22, hn, ha, hrow, hk0, hk1, hro2, hmap, hle0⟩
     refine CW.sr (RL.u (.lss (.t rfl) (.t rfl)) rfl (RL.nil (CW.id (CW.seq ?_))))
     refine CW.cond rfl ?_ ?_ <;> intro hb4 <;> try simp only [zb] at hb4
     ·obtain ⟨gx, hgv, _⟩ := getV_in (m := ns.zip xs) (n := at' (sortN ns) k2) (by rw [zip_keys hnx]; exact sortN_mem.1 (at'_mem hk0 (by omega)))
      obtain ⟨gh, hgs0, hgs⟩ := hmap.get hgv
      have hlo : len lo = k2 := by unfold len; rw [hro2.len]; exact partsL_sub hk0 (by omega)
      refine CW.skip (CW.id (CW.seq (CW.block (CW.sr ?_))))
      refine RL.u (.idxT (hS22.sl (i := 1) rfl) (.t rfl) (.t rfl) Tryz.underlying46 Tryz.sizeOf9 (fun _ => by omega)) rfl (RL.u (.loadE1 (f := strC) (i := k2) (j := 0) (u := (str (at' (sortN ns) k2))) hS22 extEq (hS22.sl (i := 1) rfl) strC_len (.t rfl) Tryz.isAgg9 (fun _ => by omega) rfl rfl) rfl (RL.a rfl rfl (RL.nil (CW.id ?_))))
      refine CW.region (RL.m rfl rfl (RL.m rfl rfl (RL.m rfl rfl (RL.u (.slookup (v := (SlH.v gh)) hS22 extEq (i := 3) rfl (.t rfl) (.t rfl) Tryz.underlying106 Tryz.underlying9 Tryz.zeroValue24 (by rw [hgs0]; rfl)) rfl ?_))))
      refine RL.buildSlice (n := 1) (sz := 1) (e := 24) (vs := [(0, (SlH.v gh))]) (cs := [(SlH.v gh)]) hS22 (.cons (.t rfl) .nil) rfl rfl (fun w => by kernel_rfl) rfl (fun v23 w24 M25 hS26 hle27 => ?_)
      replace hn := hn.mono hle27
      replace ha := ha.mono hle27
      replace hrow := hrow.mono hle27
      refine RL.append1 (f := valI) (l := lo) (y := gh) hS26 (k := 1) rfl (.t rfl) (.t rfl) (hS26.sl (i := 0) rfl) Tryz.underlying47 Tryz.type24 rfl rfl rfl valI_one (by' := 24) rfl rfl (by omega) rfl (Hs' := fun v' => (.own 24 1 v23 (([gh] : List SlH)).length ((([gh] : List SlH)).flatMap valI) :: .own 24 1 v' (lo ++ [gh]).length ((lo ++ [gh]).flatMap valI) :: .own 9 1 v16 (sortN ns).length ((sortN ns).flatMap strC) :: .box b10 [vn] 46 :: .raw b3 (smobj l c) :: .own 38 6 (.slice none 0 0) (([] : List Nd)).length ((([] : List Nd)).flatMap Nd.cells) :: Rs)) (fun _ => rfl) (fun v28 w29 M30 hS31 hle32 => ?_)
      replace hS31 := hS31.erase 0 rfl
      replace hn := hn.mono hle32
      replace ha := ha.mono hle32
      replace hrow := hrow.mono hle32
      refine RL.a rfl rfl (RL.nil (CW.id ?_))
      refine CW.region (RL.u (.add (.t rfl) .c (fun _ => by omega)) rfl (RL.m rfl rfl ?_))
      refine RL.nil fun a hs => Exists.intro ((k2 + 1, v28, lo ++ [gh], M30)) ⟨hs.keep [6, 11, 12, 50, 51, 52], ?_, ?_⟩
      ·refine ⟨hS31, hn, ha, hrow, ?_⟩
       exact ⟨by omega, by omega, by rw [partsL_at hk0 (by omega), hgv]; exact RowsV.snoc (hgs.mono (hle27.trans hle32)) (hro2.mono (hle27.trans hle32)), hmap.mono (hle27.trans hle32), ((hle0.trans hle27).trans hle32)⟩
      ·show Int.toNat _ < Int.toNat _; omega
     ·have hk2e : k2 = len (sortN ns) := by omega
      rw [show Eng.sub (sortN ns) 0 k2 = sortN ns from by unfold Eng.sub; rw [hk2e]; simp [len]] at hro2
      refine CW.exit (CW.at [Y 11 v16, Y 12 vo] rfl ?_)
      refine CW.sr (RL.m rfl rfl (RL.m rfl rfl ?_))
      refine RL.callP Tryz.call106 (.cons (.t rfl) (.cons (.t rfl) .nil)) (laid_c3 (Rs := (.own 24 1 vo lo.length (lo.flatMap valI) :: .own 9 1 v16 (sortN ns).length ((sortN ns).flatMap strC) :: .box b10 [vn] 46 :: .raw b3 (smobj l c) :: .own 38 6 (.slice none 0 0) (([] : List Nd)).length ((([] : List Nd)).flatMap Nd.cells) :: Rs)) ns lo xs v16 vo hS22 (hS22.sl (i := 1) rfl) (hS22.sl (i := 0) rfl) hro2 hnx hnd hne hbd) rfl ?_
      rintro v35 w36 ⟨a33, c34, M37, rfl, hsl_v35, hS38, hle39⟩
      replace hn := hn.mono hle39
      replace ha := ha.mono hle39
      replace hrow := hrow.mono hle39
      refine RL.a rfl rfl (RL.u (.assign .c) rfl ?_)
      refine RL.nil (CW.at [Y 4 (.slice a33 (objV (ns.zip xs)).length c34), Y 5 (i64 0)] rfl (CW.ret (hE.r2 rfl rfl rfl ?_)))
      have hslr := hsl_v35
      replace hS38 := (hS38.erase 4 rfl).erase 3 rfl
      replace hS38 := (hS38.erase 2 rfl).erase 1 rfl
      replace hS38 := hS38.erase 0 rfl
      exact ⟨_, rfl, _, _, M37, rfl, hslr, hS38, (hle0.trans hle39)⟩

end Go.Proofs.YtjfaikgooldcbaaGreatDoor
set_option maxRecDepth 100000
namespace Go.Proofs.YtjfaikgooldcbaaGreatDoor
open Go.Eng

/-- What object does, given so much fuel. -/
def ObjOK (w : World) (M0 : Mem) (s : Str) (pb : Nat) (Fu : Nat) : Prop := ∀ {Rs : List HO} {wv : World} {M : Mem} (i d : Int), St w M0 wv M (.box pb [str s, i64 (i)] 55 :: Rs) → 0 ≤ i → i < len s → (0 ≤ d ∧ d ≤ 900) → 2 * (len s - i) ≤ Fu →
    Calls Tryz.prog 46 [.pointer (some ⟨pb, 0, none⟩), i64 d].toArray wv (PPost w M0 M Rs 51 (fun x j v M' w' => ∃ a c, v = .slice a x.length c ∧ i + 1 ≤ j ∧ j ≤ len s ∧ len x ≤ j - i ∧ Sl M' 6 x.length (.slice a x.length c) (x.flatMap Nd.cells) ∧ St w M0 w' M' (.box pb [str s, i64 (j)] 55 :: Rs)) (mapR objV (partsT s i [125] [] (pairsT Fu s d))))
/- (*loupe/text.parser).value -/
theorem value_c {w wv : World} {M0 M : Mem} {Rs : List HO} (s : Str) (i d : Int) (pb : Nat) (f : Nat) (hS : St w M0 wv M (.box pb [(str s), (i64 i)] 55 :: Rs)) (h0 : 0 ≤ i) (h1 : i ≤ len s) (hb : len s ≤ 1099511627776) (hg : Gl w) (hd : 0 ≤ d ∧ d ≤ 1000) (hf : 2 * (len s - i) ≤ f) (hval : ∀ f2, f2 < f → ValOK w M0 s pb f2) (hobj : ObjOK w M0 s pb f) :
  Calls Tryz.prog 27 [(.pointer (some ⟨pb, 0, none⟩)), (i64 d)].toArray wv fun e w' => PPost w M0 M Rs 51 (fun x j v M' w' => ∃ a c, v = .slice a x.length c ∧ i + 1 ≤ j ∧ j ≤ len s ∧ len x ≤ j - i ∧ Sl M' 6 x.length (.slice a x.length c) (x.flatMap Nd.cells) ∧ St w M0 w' M' (.box pb [str s, i64 j] 55 :: Rs)) (valT (f + 1) s i d) e w' := by
 refine CW.enter1 Tryz.func27 rfl Tryz.ntmps27 (Nat.le_of_ble_eq_true rfl) fun Q hE => ?_
 have hw3 := words_len
 have hbd := byteAt_bd s i
 have hwl : len ([[110, 117, 108, 108], [102, 97, 108, 115, 101], [116, 114, 117, 101]] : List Str) = 3 := rfl
 refine CW.weaken [0, 1] (L' := [Y 0 (.pointer (some ⟨pb, 0, none⟩)), Y 1 (i64 d)]) ?_ rfl
 refine CW.sr ?_
 have hS1 := hS.ownNil 38 6
 refine RL.u (.assign .c) rfl (RL.nil (CW.id ?_))
 refine CW.seq (CW.sr ?_)
 refine RL.buildSlice (n := 3) (sz := 1) (e := 9) (vs := [(0, (str [110, 117, 108, 108])), (1, (str [102, 97, 108, 115, 101])), (2, (str [116, 114, 117, 101]))]) (cs := [(str [110, 117, 108, 108]), (str [102, 97, 108, 115, 101]), (str [116, 114, 117, 101])]) hS1 (.cons .c (.cons .c (.cons .c .nil))) rfl rfl (fun w => by kernel_rfl) rfl (fun v2 w3 M4 hS5 hle6 => ?_)
 replace hS5 : St w M0 w3 M4 (.own 9 1 v2 (([[110, 117, 108, 108], [102, 97, 108, 115, 101], [116, 114, 117, 101]] : List Str)).length ((([[110, 117, 108, 108], [102, 97, 108, 115, 101], [116, 114, 117, 101]] : List Str)).flatMap strC) :: .own 38 6 (.slice none 0 0) (([] : List Nd)).length ((([] : List Nd)).flatMap Nd.cells) :: .box pb [(str s), (i64 i)] 55 :: Rs) := hS5
 refine RL.u (.lenT (hS5.sl (i := 0) rfl) (.t rfl) ⟨_, Tryz.underlying46⟩) rfl (RL.u (.move .c) rfl (RL.nil (CW.id ?_)))
 refine CW.block ?_
 refine CW.loop (σ := Int) (fun k => [Y 0 (.pointer (some ⟨pb, 0, none⟩)), Y 1 (i64 d), Y 8 v2, Y 9 (i64 (len (([[110, 117, 108, 108], [102, 97, 108, 115, 101], [116, 114, 117, 101]] : List Str)))), Y 10 (i64 k)]) (fun k wl => St w M0 wl M4 (.own 9 1 v2 (([[110, 117, 108, 108], [102, 97, 108, 115, 101], [116, 114, 117, 101]] : List Str)).length ((([[110, 117, 108, 108], [102, 97, 108, 115, 101], [116, 114, 117, 101]] : List Str)).flatMap strC) :: .own 38 6 (.slice none 0 0) (([] : List Nd)).length ((([] : List Nd)).flatMap Nd.cells) :: .box pb [(str s), (i64 i)] 55 :: Rs) ∧ 0 ≤ k ∧ k ≤ 3 ∧ NoW s i k) (fun k => (3 - k).toNat) 0 [0, 1, 8, 9, 10] rfl ?_ ?_
 ·refine ⟨hS5, ?_⟩; exact ⟨by omega, by omega, fun m h0 h1 => by omega⟩
 ·rintro k wl ⟨hS7, hk0, hk1, hno⟩
  refine CW.sr (RL.u (.lss (.t rfl) (.t rfl)) rfl (RL.nil (CW.id (CW.seq ?_))))
  refine CW.cond rfl ?_ ?_ <;> intro hb1 <;> try simp only [zb] at hb1
  ·refine CW.skip (CW.id (CW.seq (CW.block (CW.sr ?_))))
   refine RL.m rfl rfl (RL.u (.idxT (hS7.sl (i := 0) rfl) (.t rfl) (.t rfl) Tryz.underlying46 Tryz.sizeOf9 (fun _ => by omega)) rfl (RL.u (.loadE1 (f := strC) (i := k) (j := 0) (u := (str (at' (([[110, 117, 108, 108], [102, 97, 108, 115, 101], [116, 114, 117, 101]] : List Str)) k))) hS7 extEq (hS7.sl (i := 0) rfl) strC_len (.t rfl) Tryz.isAgg9 (fun _ => by omega) rfl rfl) rfl (RL.a rfl rfl (RL.a rfl rfl (RL.nil (CW.id ?_))))))
   refine CW.sr (RL.m rfl rfl (RL.m rfl rfl ?_))
   replace hS7 := hS7.front 2 rfl rfl
   refine RL.callP Tryz.call41 (.cons (.t rfl) (.cons (.t rfl) .nil)) (isP_c (Rs := (.own 9 1 v2 (([[110, 117, 108, 108], [102, 97, 108, 115, 101], [116, 114, 117, 101]] : List Str)).length ((([[110, 117, 108, 108], [102, 97, 108, 115, 101], [116, 114, 117, 101]] : List Str)).flatMap strC) :: .own 38 6 (.slice none 0 0) (([] : List Nd)).length ((([] : List Nd)).flatMap Nd.cells) :: Rs)) s (at' (([[110, 117, 108, 108], [102, 97, 108, 115, 101], [116, 114, 117, 101]] : List Str)) k) i pb hS7 (by omega) (by omega) hb) rfl ?_
   rintro v10 w11 ⟨q8, c9, hc9, hq8a, hq8b, hc9y, hc9n, rfl, hS13⟩
   refine RL.nil (CW.at [Y 0 (.pointer (some ⟨pb, 0, none⟩)), Y 1 (i64 d), Y 5 (i64 k), Y 8 v2, Y 9 (i64 (len (([[110, 117, 108, 108], [102, 97, 108, 115, 101], [116, 114, 117, 101]] : List Str)))), Y 10 (i64 k), Y 17 (.bool c9)] rfl ?_)
   refine CW.cond rfl ?_ ?_ <;> intro hb2 <;> try simp only [zb] at hb2
   ·refine CW.sr (RL.m rfl rfl (RL.u (.build (vs := [(0, (i64 k))]) (v := (.agg #[(i64 k), (i64 0), (str []), (str []), (.bool false), (i64 0)])) (.cons (.t rfl) .nil) (fun w => by kernel_rfl)) rfl ?_))
    refine RL.buildSlice (n := 1) (sz := 6) (e := 38) (vs := [(0, (.agg #[(i64 k), (i64 0), (str []), (str []), (.bool false), (i64 0)]))]) (cs := [(i64 k), (i64 0), (str []), (str []), (.bool false), (i64 0)]) hS13 (.cons (.t rfl) .nil) rfl rfl (fun w => by kernel_rfl) rfl (fun v15 w16 M17 hS18 hle19 => ?_)
    replace hS18 : St w M0 w16 M17 (.own 38 6 v15 (([⟨k, 0, [], [], false, 0⟩] : List Nd)).length ((([⟨k, 0, [], [], false, 0⟩] : List Nd)).flatMap Nd.cells) :: .box pb [(str s), (i64 q8)] 55 :: .own 9 1 v2 (([[110, 117, 108, 108], [102, 97, 108, 115, 101], [116, 114, 117, 101]] : List Str)).length ((([[110, 117, 108, 108], [102, 97, 108, 115, 101], [116, 114, 117, 101]] : List Str)).flatMap strC) :: .own 38 6 (.slice none 0 0) (([] : List Nd)).length ((([] : List Nd)).flatMap Nd.cells) :: Rs) := hS18
    refine RL.a rfl rfl (RL.nil (CW.id ?_))
    refine CW.ret (hE.r1 rfl rfl ?_)
    have hslr := (hS18.sl (i := 0) rfl)
    replace hS18 : St w M0 w16 M17 (.own 38 6 v15 (([⟨k, 0, [], [], false, 0⟩] : List Nd)).length ((([⟨k, 0, [], [], false, 0⟩] : List Nd)).flatMap Nd.cells) :: .box pb [(str s), (i64 q8)] 55 :: Rs) := (hS18.erase 3 rfl).erase 2 rfl
    replace hS18 : St w M0 w16 M17 (.box pb [(str s), (i64 q8)] 55 :: Rs) := hS18.erase 0 rfl
    have h9 := hc9.symm.trans hb2
    have hq := hc9y hb2
    have hw4 : 4 ≤ len (at' ([[110, 117, 108, 108], [102, 97, 108, 115, 101], [116, 114, 117, 101]] : List Str) k) ∧ len (at' ([[110, 117, 108, 108], [102, 97, 108, 115, 101], [116, 114, 117, 101]] : List Str) k) ≤ 5 := hw3 k hk0 (by omega)
    obtain ⟨az, cz, hz⟩ := Sl.shape hslr
    exact PPost.ok (by rw [hq]; exact valT_word hk0 (by omega) hno h9) ⟨az, cz, hz, by omega, by omega, by show (1 : Int) ≤ _ - _; omega, hz ▸ hslr, hS18⟩ (hle6.trans hle19)
   ·refine CW.skip (CW.id ?_)
    refine CW.region (RL.u (.add (.t rfl) .c (fun _ => by omega)) rfl (RL.m rfl rfl ?_))
    obtain rfl : i = q8 := (hc9n hb2).symm
    replace hS13 := (hS13.front 2 rfl rfl).front 2 rfl rfl
    refine RL.nil fun a hs => Exists.intro (k + 1) ⟨hs.keep [0, 1, 8, 9, 10], ?_, ?_⟩
    ·refine ⟨hS13, ?_⟩
     exact ⟨by omega, by omega, hno.step (hc9.symm.trans hb2)⟩
    ·show Int.toNat _ < Int.toNat _; omega
  ·obtain rfl : k = 3 := by omega
   have hv := valT_go f d hno
   refine CW.exit (CW.at [Y 0 (.pointer (some ⟨pb, 0, none⟩)), Y 1 (i64 d)] rfl ?_)
   refine CW.seq (CW.seq ?_)
   refine CW.regionD hS7 tryz_mixed (by decide +kernel) ?_
   refine RQ.v .none (.move (.t rfl)) rfl ?_
   refine RQ.v .none (.nilP (.t rfl)) rfl ?_
   refine RQ.v .none (.fldA (q := ⟨pb, 1, none⟩) (.t rfl) (fun w => by kernel_rfl)) rfl ?_
   refine RQ.v .none (.loadB1 (v := (i64 i)) hS7 (fun _ h => h) (i := 2) rfl (.t rfl) Tryz.isAgg3 rfl) rfl ?_
   refine RQ.v .none (.move (.t rfl)) rfl ?_
   refine RQ.v .none (.nilP (.t rfl)) rfl ?_
   refine RQ.v .none (.fldA (q := ⟨pb, 0, none⟩) (.t rfl) (fun w => by kernel_rfl)) rfl ?_
   refine RQ.v .none (.loadB1 (v := (str s)) hS7 (fun _ h => h) (i := 2) rfl (.t rfl) Tryz.isAgg9 rfl) rfl ?_
   refine RQ.v .none (.lenS (.t rfl) Tryz.underlying9) rfl ?_
   refine RQ.v .none (.eql (.t rfl) (.t rfl)) rfl ?_
   refine RQ.nil (fun a hs w20 hS21 => CW.at [Y 0 (.pointer (some ⟨pb, 0, none⟩)), Y 1 (i64 d), Y 31 (.bool (i == (len s)))] rfl ?_ a hs)
   refine CW.cond rfl ?_ ?_ <;> intro hb3 <;> try simp only [zb] at hb3
   ·refine CW.region (RL.m rfl rfl (RL.m rfl rfl (RL.u (.nilP (.t rfl)) rfl (RL.u (.fldA (q := ⟨pb, 1, none⟩) (.t rfl) (fun w => by kernel_rfl)) rfl (RL.u (.loadB1 (v := (i64 i)) hS21 extEq (i := 2) rfl (.t rfl) Tryz.isAgg3 rfl) rfl ?_)))))
    refine RL.callF Tryz.call28 (.cons (.t rfl) (.cons .c (.cons (.t rfl) .nil))) (fail_c 1 i (.pointer (some ⟨pb, 0, none⟩)) _) ?_
    replace hS21 := hS21.drop Rs (List.sublist_append_right [_, _, _] _)
    exact hE.p (PPost.er (by rw [hv, if_pos hb3]) hS21 hle6)
   ·refine CW.skip (CW.at [Y 0 (.pointer (some ⟨pb, 0, none⟩)), Y 1 (i64 d)] rfl (CW.seq (CW.seq ?_)))
    refine CW.regionD hS21 tryz_mixed (by decide +kernel) ?_
    refine RQ.v .none (.move (.t rfl)) rfl ?_
    refine RQ.v .none (.nilP (.t rfl)) rfl ?_
    refine RQ.v .none (.fldA (q := ⟨pb, 0, none⟩) (.t rfl) (fun w => by kernel_rfl)) rfl ?_
    refine RQ.v .none (.loadB1 (v := (str s)) hS21 (fun _ h => h) (i := 2) rfl (.t rfl) Tryz.isAgg9 rfl) rfl ?_
    refine RQ.v .none (.move (.t rfl)) rfl ?_
    refine RQ.v .none (.nilP (.t rfl)) rfl ?_
    refine RQ.v .none (.fldA (q := ⟨pb, 1, none⟩) (.t rfl) (fun w => by kernel_rfl)) rfl ?_
    refine RQ.v .none (.loadB1 (v := (i64 i)) hS21 (fun _ h => h) (i := 2) rfl (.t rfl) Tryz.isAgg3 rfl) rfl ?_
    refine RQ.v .none (.idxS (.t rfl) (.t rfl) Tryz.underlying9 (fun _ => by omega)) rfl ?_
    refine RQ.v .none (.assign (.t rfl)) rfl ?_
    refine RQ.nil (fun a hs w22 hS23 => CW.at [Y 0 (.pointer (some ⟨pb, 0, none⟩)), Y 1 (i64 d), Y 7 (.int .u8 (byteAt s i))] rfl ?_ a hs)
    refine CW.block (CW.sr (RL.m rfl rfl (RL.u (.eql (.t rfl) .c) rfl (RL.a rfl rfl (RL.nil (CW.id ?_))))))
    refine CW.cond rfl ?_ ?_ <;> intro hb4 <;> try simp only [zb] at hb4
    ·refine CW.sr (RL.m rfl rfl ?_)
     replace hS23 := hS23.front 2 rfl rfl
     refine RL.callR Tryz.call42 (.cons (.t rfl) .nil) (text_c (Rs := (.own 9 1 v2 (([[110, 117, 108, 108], [102, 97, 108, 115, 101], [116, 114, 117, 101]] : List Str)).length ((([[110, 117, 108, 108], [102, 97, 108, 115, 101], [116, 114, 117, 101]] : List Str)).flatMap strC) :: .own 38 6 (.slice none 0 0) (([] : List Nd)).length ((([] : List Nd)).flatMap Nd.cells) :: Rs)) s i pb hS23 (by omega) (by omega) hb hg) rfl (fun ec p M33 w34 hr37 hS35 hle36 => ?_) (fun x24 j25 v26 M28 w27 hr29 hF32 hle31 => ?_)
     ·replace hS35 := hS35.drop Rs (List.sublist_append_right [_, _] _)
      exact hE.p (PPost.er (by rw [hv, if_neg hb3, if_pos hb4, hr37]; rfl) hS35 (hle6.trans hle36))
     obtain ⟨rfl, hF32a, hF32b, hS30⟩ := hF32
     refine RL.u (.build (vs := [(0, (i64 4)), (3, (str x24))]) (v := (.agg #[(i64 4), (i64 0), (str []), (str x24), (.bool false), (i64 0)])) (.cons .c (.cons (.t rfl) .nil)) (fun w => by kernel_rfl)) rfl ?_
     refine RL.buildSlice (n := 1) (sz := 6) (e := 38) (vs := [(0, (.agg #[(i64 4), (i64 0), (str []), (str x24), (.bool false), (i64 0)]))]) (cs := [(i64 4), (i64 0), (str []), (str x24), (.bool false), (i64 0)]) hS30 (.cons (.t rfl) .nil) rfl rfl (fun w => by kernel_rfl) rfl (fun v38 w39 M40 hS41 hle42 => ?_)
     replace hS41 : St w M0 w39 M40 (.own 38 6 v38 (([⟨4, 0, [], x24, false, 0⟩] : List Nd)).length ((([⟨4, 0, [], x24, false, 0⟩] : List Nd)).flatMap Nd.cells) :: .box pb [(str s), (i64 j25)] 55 :: .own 9 1 v2 (([[110, 117, 108, 108], [102, 97, 108, 115, 101], [116, 114, 117, 101]] : List Str)).length ((([[110, 117, 108, 108], [102, 97, 108, 115, 101], [116, 114, 117, 101]] : List Str)).flatMap strC) :: .own 38 6 (.slice none 0 0) (([] : List Nd)).length ((([] : List Nd)).flatMap Nd.cells) :: Rs) := hS41
     refine RL.a rfl rfl ?_
     refine RL.nil (CW.at [Y 4 v38] rfl (CW.ret (hE.r1 rfl rfl ?_)))
     have hslr := (hS41.sl (i := 0) rfl)
     replace hS41 : St w M0 w39 M40 (.own 38 6 v38 (([⟨4, 0, [], x24, false, 0⟩] : List Nd)).length ((([⟨4, 0, [], x24, false, 0⟩] : List Nd)).flatMap Nd.cells) :: .box pb [(str s), (i64 j25)] 55 :: Rs) := (hS41.erase 3 rfl).erase 2 rfl
     replace hS41 : St w M0 w39 M40 (.box pb [(str s), (i64 j25)] 55 :: Rs) := hS41.erase 0 rfl
     obtain ⟨az, cz, hz⟩ := Sl.shape hslr
     exact PPost.ok (by rw [hv, if_neg hb3, if_pos hb4, hr29]; rfl) ⟨az, cz, hz, by omega, by omega, by show (1 : Int) ≤ _ - _; omega, hz ▸ hslr, hS41⟩ ((hle6.trans hle31).trans hle42)
    ·refine CW.sr (RL.m rfl rfl (RL.u (.eql (.t rfl) .c) rfl (RL.m rfl rfl (RL.v (.neg rfl rfl) (.move (.t rfl)) rfl ?_))))
     refine RL.callS (.neg rfl rfl) Tryz.call43 (.cons .c (.cons (.g rfl (fun h => h)) .nil)) (fun hW => by simp only [zb] at hW; exact (indexByte_c [48, 49, 50, 51, 52, 53, 54, 55, 56, 57] (byteAt s i) _)) rfl ?_
     refine RL.v (.neg rfl rfl) (.geq (.g rfl (fun h => h)) .c) rfl (RL.u (.or (.t rfl) (.g rfl (fun h => h))) rfl (RL.a rfl rfl ?_))
     refine RL.nil (CW.at [Y 0 (.pointer (some ⟨pb, 0, none⟩)), Y 1 (i64 d), Y 7 (.int .u8 (byteAt s i)), Y 54 (.bool (((byteAt s i) == 45) || (decide (0 ≤ (Lib.indexByte [48, 49, 50, 51, 52, 53, 54, 55, 56, 57] (byteAt s i).toNat.toUInt8)))))] rfl ?_)
     refine CW.cond rfl ?_ ?_ <;> intro hb5 <;> try simp only [zb] at hb5
     ·have h5 : byteAt s i = 45 ∨ isFig (byteAt s i) = true := by rw [← index_fig (byteAt s i) (by omega)]; omega
      refine CW.sr (RL.m rfl rfl ?_)
      replace hS23 := hS23.front 2 rfl rfl
      refine RL.callR Tryz.call44 (.cons (.t rfl) .nil) (numberP_c (Rs := (.own 9 1 v2 (([[110, 117, 108, 108], [102, 97, 108, 115, 101], [116, 114, 117, 101]] : List Str)).length ((([[110, 117, 108, 108], [102, 97, 108, 115, 101], [116, 114, 117, 101]] : List Str)).flatMap strC) :: .own 38 6 (.slice none 0 0) (([] : List Nd)).length ((([] : List Nd)).flatMap Nd.cells) :: Rs)) s i pb hS23 (by omega) (by omega) hb hg) rfl (fun ec p M52 w53 hr56 hS54 hle55 => ?_) (fun x43 j44 v45 M47 w46 hr48 hF51 hle50 => ?_)
      ·replace hS54 := hS54.drop Rs (List.sublist_append_right [_, _] _)
       exact hE.p (PPost.er (by rw [hv, if_neg hb3, if_neg hb4, if_pos h5, hr56]) hS54 (hle6.trans hle55))
      obtain ⟨hsl_v45, hF51a, hF51b, hS49⟩ := hF51
      refine RL.a rfl rfl ?_
      refine RL.nil (CW.at [Y 4 v45] rfl (CW.ret (hE.r1 rfl rfl ?_)))
      have hslr := hsl_v45
      replace hS49 := (hS49.erase 2 rfl).erase 1 rfl
      obtain ⟨az, cz, hz⟩ := Sl.shape hslr
      have hj := numT_j hr48
      have hrp := runN_pos h0 (by omega) h5
      exact PPost.ok (by rw [hv, if_neg hb3, if_neg hb4, if_pos h5, hr48]) ⟨az, cz, hz, by omega, by omega, by omega, hz ▸ hslr, hS49⟩ (hle6.trans hle50)
     ·have h5 : ¬ (byteAt s i = 45 ∨ isFig (byteAt s i) = true) := by rw [← index_fig (byteAt s i) (by omega)]; omega
      refine CW.sr (RL.m rfl rfl (RL.u (.neq (.t rfl) .c) rfl (RL.m rfl rfl (RL.v (.pos rfl rfl) (.move (.t rfl)) rfl (RL.v (.pos rfl rfl) (.neq (.g rfl (fun h => h)) .c) rfl (RL.u (.and (.t rfl) (.g rfl (fun h => h))) rfl (RL.a rfl rfl (RL.nil (CW.id ?_)))))))))
      refine CW.cond rfl ?_ ?_ <;> intro hb6 <;> try simp only [zb] at hb6
      ·have h6 : byteAt s i ≠ 91 ∧ byteAt s i ≠ 123 := by omega
       refine CW.region (RL.m rfl rfl (RL.m rfl rfl (RL.u (.nilP (.t rfl)) rfl (RL.u (.fldA (q := ⟨pb, 1, none⟩) (.t rfl) (fun w => by kernel_rfl)) rfl (RL.u (.loadB1 (v := (i64 i)) hS23 extEq (i := 2) rfl (.t rfl) Tryz.isAgg3 rfl) rfl ?_)))))
       refine RL.callF Tryz.call28 (.cons (.t rfl) (.cons .c (.cons (.t rfl) .nil))) (fail_c 1 i (.pointer (some ⟨pb, 0, none⟩)) _) ?_
       replace hS23 := hS23.drop Rs (List.sublist_append_right [_, _, _] _)
       exact hE.p (PPost.er (by rw [hv, if_neg hb3, if_neg hb4, if_neg h5, if_pos h6]) hS23 hle6)
      ·have h6 : ¬ (byteAt s i ≠ 91 ∧ byteAt s i ≠ 123) := by omega
       refine CW.sr (RL.m rfl rfl (RL.u (.geq (.t rfl) .c) rfl (RL.a rfl rfl (RL.nil (CW.at [Y 0 (.pointer (some ⟨pb, 0, none⟩)), Y 1 (i64 d), Y 7 (.int .u8 (byteAt s i)), Y 77 (.bool (decide (128 ≤ d)))] rfl ?_)))))
       refine CW.cond rfl ?_ ?_ <;> intro hb7 <;> try simp only [zb] at hb7
       ·refine CW.region (RL.m rfl rfl (RL.m rfl rfl (RL.u (.nilP (.t rfl)) rfl (RL.u (.fldA (q := ⟨pb, 1, none⟩) (.t rfl) (fun w => by kernel_rfl)) rfl (RL.u (.loadB1 (v := (i64 i)) hS23 extEq (i := 2) rfl (.t rfl) Tryz.isAgg3 rfl) rfl ?_)))))
        refine RL.callF Tryz.call28 (.cons (.t rfl) (.cons .c (.cons (.t rfl) .nil))) (fail_c 3 i (.pointer (some ⟨pb, 0, none⟩)) _) ?_
        replace hS23 := hS23.drop Rs (List.sublist_append_right [_, _, _] _)
        exact hE.p (PPost.er (by rw [hv, if_neg hb3, if_neg hb4, if_neg h5, if_neg h6, if_pos hb7]) hS23 hle6)
       ·replace hb7 : ¬ 128 ≤ d := by omega
        refine CW.sr (RL.m rfl rfl (RL.u (.eql (.t rfl) .c) rfl (RL.a rfl rfl (RL.nil (CW.at [Y 0 (.pointer (some ⟨pb, 0, none⟩)), Y 1 (i64 d), Y 86 (.bool ((byteAt s i) == 91))] rfl ?_)))))
        refine CW.cond rfl ?_ ?_ <;> intro hb8 <;> try simp only [zb] at hb8
        ·refine CW.sr (RL.m rfl rfl (RL.m rfl rfl ?_))
         replace hS23 := hS23.front 2 rfl rfl
         refine RL.callR Tryz.call45 (.cons (.t rfl) (.cons (.t rfl) .nil)) (listp_c (Rs := (.own 9 1 v2 (([[110, 117, 108, 108], [102, 97, 108, 115, 101], [116, 114, 117, 101]] : List Str)).length ((([[110, 117, 108, 108], [102, 97, 108, 115, 101], [116, 114, 117, 101]] : List Str)).flatMap strC) :: .own 38 6 (.slice none 0 0) (([] : List Nd)).length ((([] : List Nd)).flatMap Nd.cells) :: Rs)) s i d pb f hS23 h0 (by omega) hb (by omega) (by omega) hval) rfl (fun ec p M68 w69 hr72 hS70 hle71 => ?_) (fun x59 j60 v61 M63 w62 hr64 hF67 hle66 => ?_)
         ·replace hS70 := hS70.drop Rs (List.sublist_append_right [_, _] _)
          exact hE.p (PPost.er (by rw [hv, if_neg hb3, if_neg hb4, if_neg h5, if_neg h6, if_neg hb7, if_pos hb8, hr72]) hS70 (hle6.trans hle71))
         obtain ⟨a57, c58, rfl, hF67a, hF67b, hF67c, hsl_v61, hS65⟩ := hF67
         refine RL.a rfl rfl ?_
         refine RL.nil (CW.at [Y 4 (.slice a57 x59.length c58)] rfl (CW.ret (hE.r1 rfl rfl ?_)))
         have hslr := hsl_v61
         replace hS65 := (hS65.erase 2 rfl).erase 1 rfl
         exact PPost.ok (by rw [hv, if_neg hb3, if_neg hb4, if_neg h5, if_neg h6, if_neg hb7, if_pos hb8, hr64]) ⟨_, _, rfl, by omega, by omega, by omega, hslr, hS65⟩ (hle6.trans hle66)
        ·refine CW.skip (CW.id (CW.sr (RL.m rfl rfl (RL.m rfl rfl ?_))))
         replace hS23 := hS23.front 2 rfl rfl
         refine RL.callR Tryz.call46 (.cons (.t rfl) (.cons (.t rfl) .nil)) (hobj (Rs := (.own 9 1 v2 (([[110, 117, 108, 108], [102, 97, 108, 115, 101], [116, 114, 117, 101]] : List Str)).length ((([[110, 117, 108, 108], [102, 97, 108, 115, 101], [116, 114, 117, 101]] : List Str)).flatMap strC) :: .own 38 6 (.slice none 0 0) (([] : List Nd)).length ((([] : List Nd)).flatMap Nd.cells) :: Rs)) i d hS23 h0 (by omega) (by omega) (by omega)) rfl (fun ec p M84 w85 hr88 hS86 hle87 => ?_) (fun x75 j76 v77 M79 w78 hr80 hF83 hle82 => ?_)
         ·replace hS86 := hS86.drop Rs (List.sublist_append_right [_, _] _)
          exact hE.p (PPost.er (by rw [hv, if_neg hb3, if_neg hb4, if_neg h5, if_neg h6, if_neg hb7, if_neg hb8, hr88]) hS86 (hle6.trans hle87))
         obtain ⟨a73, c74, rfl, hF83a, hF83b, hF83c, hsl_v77, hS81⟩ := hF83
         refine RL.a rfl rfl ?_
         refine RL.nil (CW.at [Y 4 (.slice a73 x75.length c74)] rfl (CW.ret (hE.r1 rfl rfl ?_)))
         have hslr := hsl_v77
         replace hS81 := (hS81.erase 2 rfl).erase 1 rfl
         exact PPost.ok (by rw [hv, if_neg hb3, if_neg hb4, if_neg h5, if_neg h6, if_neg hb7, if_neg hb8, hr80]) ⟨_, _, rfl, by omega, by omega, by omega, hslr, hS81⟩ (hle6.trans hle82)

end Go.Proofs.YtjfaikgooldcbaaGreatDoor
set_option maxRecDepth 100000
namespace Go.Proofs.YtjfaikgooldcbaaGreatDoor
open Go.Eng

/- (*loupe/text.parser).object -/
theorem objectp_c {w wv : World} {M0 M : Mem} {Rs : List HO} (s : Str) (i d : Int) (pb : Nat) (Fu : Nat) (hS : St w M0 wv M (.box pb [(str s), (i64 i)] 55 :: Rs)) (h0 : 0 ≤ i) (h1 : i < len s) (hb : len s ≤ 1099511627776) (hg : Gl w) (hd : 0 ≤ d ∧ d ≤ 900) (hf : 2 * (len s - i) ≤ Fu) (hval : ∀ f, f < Fu → ValOK w M0 s pb f) :
  Calls Tryz.prog 46 [(.pointer (some ⟨pb, 0, none⟩)), (i64 d)].toArray wv fun e w' => PPost w M0 M Rs 51 (fun x j v M' w' => ∃ a c, v = .slice a x.length c ∧ i + 1 ≤ j ∧ j ≤ len s ∧ len x ≤ j - i ∧ Sl M' 6 x.length (.slice a x.length c) (x.flatMap Nd.cells) ∧ St w M0 w' M' (.box pb [str s, i64 j] 55 :: Rs)) (mapR objV (partsT s i [125] [] (pairsT Fu s d))) e w' := by
 refine CW.enter1 Tryz.func46 rfl Tryz.ntmps46 (Nat.le_of_ble_eq_true rfl) fun Q hE => ?_
 refine CW.weaken [0, 1] (L' := [Y 0 (.pointer (some ⟨pb, 0, none⟩)), Y 1 (i64 d)]) ?_ rfl
 refine CW.sr ?_
 refine RL.box (v := (.pointer (some ⟨pb, 0, none⟩))) hS (.t rfl) rfl (fun w1 b2 hS3 => ?_)
 refine RL.box (v := (i64 d)) hS3 (.t rfl) rfl (fun w4 b5 hS6 => ?_)
 have hS7 := hS6.ownNil 38 6
 refine RL.u (.assign .c) rfl (RL.nil (CW.id ?_))
 refine CW.sr ?_
 refine RL.smakeMap hS7 rfl (fun w8 b9 hS10 => ?_)
 refine RL.alloc hS10 Tryz.zeroValue106 rfl (fun w11 b12 hS13 => ?_)
 refine RL.st hS13 (i := 0) rfl (.t rfl) (.t rfl) Tryz.sizeOf106 rfl rfl rfl rfl rfl (fun w14 hS15 => (RL.nil (CW.id ?_)))
 refine CW.sr (RL.u (.loadB1 (v := (.pointer (some ⟨pb, 0, none⟩))) hS15 extEq (i := 4) rfl (.t rfl) Tryz.isAgg53 rfl) rfl (RL.u (.makeFunc .nil (.cons (.t rfl) (.cons (.t rfl) (.cons (.t rfl) .nil)))) rfl ?_))
 replace hS15 := (hS15.front 1 rfl rfl).front 1 rfl rfl
 replace hS15 := (hS15.front 3 rfl rfl).front 4 rfl rfl
 replace hS15 := hS15.front 5 rfl rfl
 refine RL.callR Tryz.call72 (.cons (.t rfl) (.cons .c (.cons (.t rfl) .nil))) (obj_parts (Rs := (.own 38 6 (.slice none 0 0) (([] : List Nd)).length ((([] : List Nd)).flatMap Nd.cells) :: Rs)) s i d pb b2 b5 b12 b9 Fu hS15 h0 h1 hb hg hd hf hval) rfl (fun ec p M25 w26 hr29 hS27 hle28 => ?_) (fun x16 j17 v18 M20 w19 hr21 hF24 hle23 => ?_)
 ·replace hS27 := hS27.drop Rs (List.sublist_append_right [_] _)
  exact hE.p (PPost.er (show mapR _ _ = _ from by rw [hr29]; rfl) hS27 hle28)
 obtain ⟨hF24a, hF24b, ⟨hF24c, hF24d⟩, hk, hut, l2, c2, hmap, hbo, hS22⟩ := hF24
 refine RL.nil (CW.at [Y 5 (.pointer (some ⟨b12, 0, none⟩))] rfl (CW.sr ?_))
 have hS30 := hS22.ownNil 9 1
 refine RL.u (.assign .c) rfl (RL.nil (CW.id ?_))
 refine CW.sr ?_
 have hS31 := hS30.ownNil 24 1
 refine RL.u (.assign .c) rfl (RL.nil (CW.id ?_))
 refine CW.seq (CW.sr (RL.u (.loadB1 (v := (.map (some b9))) hS31 extEq (i := 5) rfl (.t rfl) Tryz.isAgg106 rfl) rfl ?_))
 refine RL.srangeM hS31 (i := 6) rfl (.t rfl) Tryz.underlying106 rfl (fun w32 b33 hS34 => ?_)
 refine RL.nil (CW.id (CW.block ?_))
 refine CW.loop (σ := List Str × List Vl × Value × Value × List SlH × Array Nat × Mem) (fun (ns, xs, v6, v7, rs, sn, Ml) => [Y 6 v6, Y 7 v7, Y 17 (.pointer (some ⟨b33, 0, none⟩))]) (fun (ns, xs, v6, v7, rs, sn, Ml) wl => St w M0 wl Ml (.raw b33 (.mapIter (some b9) c2 sn c2) :: .own 24 1 v7 rs.length (rs.flatMap valI) :: .own 9 1 v6 ns.length (ns.flatMap strC) :: .box pb [(str s), (i64 j17)] 55 :: .box b2 [(.pointer (some ⟨pb, 0, none⟩))] 53 :: .box b5 [(i64 d)] 3 :: .box b12 [(.map (some b9))] 106 :: .raw b9 (smobj l2 c2) :: .own 38 6 (.slice none 0 0) (([] : List Nd)).length ((([] : List Nd)).flatMap Nd.cells) :: Rs) ∧ MapV Ml l2 x16 ∧ VisS l2 x16 sn ns xs ∧ RowsV Ml 6 Nd.cells rs xs ∧ M.le Ml) (fun (ns, xs, v6, v7, rs, sn, Ml) => x16.length - ns.length) (([], [], .slice none 0 0, .slice none 0 0, ([] : List SlH), #[], M20)) [6, 7, 17] rfl ?_ ?_
 ·refine ⟨hS34, hmap, ?_⟩; exact ⟨VisS.start _ _, trivial, hle23⟩
 ·rintro ⟨ns, xs, v6, v7, rs, sn, Ml⟩ wl ⟨hS35, hmap, hvs, hro, hle0⟩
  have hvn : len ns ≤ 1099511627776 := by have := hvs.le (M := Ml); unfold len at *; omega
  have hrn : len rs = len ns := by unfold len; rw [hro.len, hvs.eq]
  refine CW.sr ?_
  refine RL.snextM hS35 (i := 7) (j := 0) rfl rfl (.t rfl) hbo.1 (Nat.le_refl _) rfl (fun p38 hp39 hns40 w36 hS37 => ?_) (fun hall => ?_)
  ·obtain ⟨pk41, ph42, pb43, px44, rfl, hm45, hsl46⟩ := hmap.mem hp39
   refine RL.u (.ex (.t rfl) rfl) rfl (RL.nil (CW.id ?_))
   refine CW.seq (CW.cond rfl (fun _ => ?_) (fun h => by cases h))
   refine CW.skip (CW.id (CW.block (CW.sr (RL.u (.sentry hS37 extEq (i := 7) (j := 0) rfl rfl (.t rfl) hp39 hbo.2) rfl (RL.u (.ex (.t rfl) rfl) rfl (RL.u (.ex (.t rfl) rfl) rfl (RL.a rfl rfl (RL.a rfl rfl (RL.nil (CW.id ?_))))))))))
   refine CW.region (RL.m rfl rfl (RL.m rfl rfl ?_))
   refine RL.buildSlice (n := 1) (sz := 1) (e := 9) (vs := [(0, (str pk41))]) (cs := [(str pk41)]) hS37 (.cons (.t rfl) .nil) rfl rfl (fun w => by kernel_rfl) rfl (fun v47 w48 M49 hS50 hle51 => ?_)
   replace hmap := hmap.mono hle51
   replace hsl46 := hsl46.mono hle51
   refine RL.append1 (f := strC) (l := ns) (y := pk41) hS50 (k := 3) rfl (.t rfl) (.t rfl) (hS50.sl (i := 0) rfl) Tryz.underlying46 Tryz.type9 rfl rfl rfl strC_one (by' := 16) rfl rfl (by omega) rfl (Hs' := fun v' => (.own 9 1 v47 (([pk41] : List Str)).length ((([pk41] : List Str)).flatMap strC) :: .raw b33 (.mapIter (some b9) c2 (sn.push pb43) c2) :: .own 24 1 v7 rs.length (rs.flatMap valI) :: .own 9 1 v' (ns ++ [pk41]).length ((ns ++ [pk41]).flatMap strC) :: .box pb [(str s), (i64 j17)] 55 :: .box b2 [(.pointer (some ⟨pb, 0, none⟩))] 53 :: .box b5 [(i64 d)] 3 :: .box b12 [(.map (some b9))] 106 :: .raw b9 (smobj l2 c2) :: .own 38 6 (.slice none 0 0) (([] : List Nd)).length ((([] : List Nd)).flatMap Nd.cells) :: Rs)) (fun _ => rfl) (fun v52 w53 M54 hS55 hle56 => ?_)
   replace hS55 := hS55.erase 0 rfl
   replace hmap := hmap.mono hle56
   replace hsl46 := hsl46.mono hle56
   refine RL.m rfl rfl (RL.m rfl rfl ?_)
   refine RL.buildSlice (n := 1) (sz := 1) (e := 24) (vs := [(0, ph42.v)]) (cs := [ph42.v]) hS55 (.cons (.t rfl) .nil) rfl rfl (fun w => by kernel_rfl) rfl (fun v57 w58 M59 hS60 hle61 => ?_)
   replace hmap := hmap.mono hle61
   replace hsl46 := hsl46.mono hle61
   refine RL.append1 (f := valI) (l := rs) (y := ph42) hS60 (k := 2) rfl (.t rfl) (.t rfl) (hS60.sl (i := 0) rfl) Tryz.underlying47 Tryz.type24 rfl rfl rfl valI_one (by' := 24) rfl rfl (by omega) rfl (Hs' := fun v' => (.own 24 1 v57 (([ph42] : List SlH)).length ((([ph42] : List SlH)).flatMap valI) :: .raw b33 (.mapIter (some b9) c2 (sn.push pb43) c2) :: .own 24 1 v' (rs ++ [ph42]).length ((rs ++ [ph42]).flatMap valI) :: .own 9 1 v52 (ns ++ [pk41]).length ((ns ++ [pk41]).flatMap strC) :: .box pb [(str s), (i64 j17)] 55 :: .box b2 [(.pointer (some ⟨pb, 0, none⟩))] 53 :: .box b5 [(i64 d)] 3 :: .box b12 [(.map (some b9))] 106 :: .raw b9 (smobj l2 c2) :: .own 38 6 (.slice none 0 0) (([] : List Nd)).length ((([] : List Nd)).flatMap Nd.cells) :: Rs)) (fun _ => rfl) (fun v62 w63 M64 hS65 hle66 => ?_)
   replace hS65 := hS65.erase 0 rfl
   replace hmap := hmap.mono hle66
   replace hsl46 := hsl46.mono hle66
   refine RL.a rfl rfl (RL.a rfl rfl ?_)
   refine RL.nil fun a hs => Exists.intro ((ns ++ [pk41], xs ++ [px44], v52, v62, rs ++ [ph42], sn.push pb43, M64)) ⟨hs.keep [6, 7, 17], ?_, ?_⟩
   ·refine ⟨hS65, hmap, ?_⟩
    exact ⟨hvs.step hmap hk hp39 hns40 hm45, RowsV.snoc hsl46 (hro.mono ((((hle51.trans hle56).trans hle61).trans hle66))), ((((hle0.trans hle51).trans hle56).trans hle61).trans hle66)⟩
   ·have hvl := (hvs.step hmap hk hp39 hns40 hm45).le (M := Ml); simp only [List.length_append, List.length_cons, List.length_nil] at *; omega
  ·obtain ⟨hal1, hal2, hal3, hal4, hal5, hal6, hal7, hal8⟩ := hvs.all hmap hk hut hbo hall
   refine RL.u (.ex (.t rfl) rfl) rfl (RL.nil (CW.id ?_))
   refine CW.seq (CW.cond rfl (fun h => by cases h) (fun _ => (CW.exit (CW.at [Y 6 v6, Y 7 v7] rfl (CW.sr ?_)))))
   refine RL.m rfl rfl (RL.m rfl rfl ?_)
   refine RL.callP Tryz.call76 (.cons (.t rfl) (.cons (.t rfl) .nil)) (vobject_c (Rs := (.raw b33 (.mapIter (some b9) c2 sn c2) :: .own 24 1 v7 rs.length (rs.flatMap valI) :: .own 9 1 v6 ns.length (ns.flatMap strC) :: .box pb [(str s), (i64 j17)] 55 :: .box b2 [(.pointer (some ⟨pb, 0, none⟩))] 53 :: .box b5 [(i64 d)] 3 :: .box b12 [(.map (some b9))] 106 :: .raw b9 (smobj l2 c2) :: .own 38 6 (.slice none 0 0) (([] : List Nd)).length ((([] : List Nd)).flatMap Nd.cells) :: Rs)) ns rs xs v6 v7 hS35 (hS35.sl (i := 2) rfl) (hS35.sl (i := 1) rfl) hro (by omega) hg hal3 hal4 hal5 (by omega) hal6 (by omega)) rfl ?_
   rintro v69 w70 ⟨a67, c68, M71, rfl, hsl_o, hS72, hle73⟩
   replace hmap := hmap.mono hle73
   refine RL.m rfl rfl (RL.u (.ex (.t rfl) rfl) rfl (RL.u (.ex (.t rfl) rfl) rfl (RL.a rfl rfl (RL.a rfl rfl ?_))))
   refine RL.nil (CW.at [Y 10 (.slice a67 (objV (ns.zip xs)).length c68)] rfl (CW.sr (RL.m rfl rfl (RL.a rfl rfl (RL.nil (CW.id ?_))))))
   refine CW.ret (hE.r1 rfl rfl ?_)
   have hslr := hsl_o
   replace hS72 := (hS72.erase 8 rfl).erase 7 rfl
   replace hS72 := (hS72.erase 6 rfl).erase 5 rfl
   replace hS72 := (hS72.erase 4 rfl).erase 2 rfl
   replace hS72 := (hS72.erase 1 rfl).erase 0 rfl
   have hole := objV_le hk
   rw [hal8] at hslr
   exact PPost.ok (show mapR _ _ = _ from by rw [hr21]; rfl) ⟨_, _, by rw [hal8], by omega, by omega, by omega, hslr, hS72⟩ (hle0.trans hle73)

end Go.Proofs.YtjfaikgooldcbaaGreatDoor
set_option maxRecDepth 100000
namespace Go.Proofs.YtjfaikgooldcbaaGreatDoor
open Go.Eng

theorem obj_ok {w : World} {M0 : Mem} (s : Str) (pb Fu : Nat) (hg : Gl w) (hb : len s ≤ 1099511627776) (hval : ∀ f, f < Fu → ValOK w M0 s pb f) : ObjOK w M0 s pb Fu :=
  fun i d hS h0 h1 hd hf => objectp_c s i d pb Fu hS h0 h1 hb hg hd hf hval
/-- value, at every fuel. -/
theorem val_all {w : World} {M0 : Mem} (s : Str) (pb : Nat) (hg : Gl w) (hb : len s ≤ 1099511627776) : ∀ f, ValOK w M0 s pb f := by
  intro f
  induction f using Nat.strongRecOn with
  | _ f ih =>
    cases f with
    | zero => intro Rs wv M i d hS h0 h1 hd0 hd1 hf; omega
    | succ f =>
      intro Rs wv M i d hS h0 h1 hd0 hd1 hf
      exact value_c s i d pb f hS h0 h1 hb hg ⟨hd0, hd1⟩ (by omega) (fun f2 h => ih f2 (by omega)) (obj_ok s pb f hg hb fun f2 h => ih f2 (by omega))
end Go.Proofs.YtjfaikgooldcbaaGreatDoor
