/-
  THE LIBRARY's CONTRACTS, in the engine's words: each off the kit's shelf.
-/
import Derived.Test.YthdialbnlnjgpaaGreatDoorShelf
import Derived.Test.YthdialbnlnjgpaaGreatDoorPure
import Derived.Test.YthdialbnlnjgpaaGreatDoorR1
import Derived.Shelf.Strings.SlTrimAscii
import Derived.WalkSmall
import Derived.Lib.SmallJoins
set_option linter.unusedVariables false
set_option linter.unusedSimpArgs false
namespace Go.Proofs.YthdialbnlnjgpaaGreatDoor
open Go.Eng Go.RowKit Go.Sort

/-- What the listed variables of the library hold. -/
structure Gl (w : World) : Prop where
  big : 0 < w.heap.size ∧ 4 < w.heap.size
  u8 : Lib.Utf8Tabs 1 2 w
  space : Lib.TabIs Tryz.prog w "strings.asciiSpace" .u8 Lib.asciiSpaceTab
  pow : Lib.TabIs Tryz.prog w "internal/strconv.uint64pow10" .u64 Lib.pow10Tab
  deb : w.cell? ⟨9, 15, none⟩ = some (.int .u8 4)
  err : ∃ ev, w.cell? ⟨6, 0, none⟩ = some ev ∧ (ev = .nilIface ∨ ∃ t p, ev = .iface t p)

theorem cellLow {w w' : World} (h : Below w.heap.size w w') {a : Addr} {v : Value} (hv : w.cell? a = some v) : w'.cell? a = some v := by
  have hlt : a.block < w.heap.size := by
    rcases Nat.lt_or_ge a.block w.heap.size with h' | h'
    · exact h'
    · simp [World.cell?, h'] at hv
  exact (h.cell hlt).trans hv
theorem Gl.low {w w' : World} (g : Gl w) (h : Below w.heap.size w w') : Gl w' := by
  have hb := g.big
  have hs := h.size
  refine ⟨⟨by omega, by omega⟩, ⟨fun c hc => cellLow h (g.u8.1 c hc), fun i hi => ⟨cellLow h (g.u8.2 i hi).1, cellLow h (g.u8.2 i hi).2⟩⟩, ?_, ?_, cellLow h g.deb, by obtain ⟨ev, h1, h2⟩ := g.err; exact ⟨ev, cellLow h h1, h2⟩⟩
  · exact var?_below h (show Tryz.prog.globalNamed "strings.asciiSpace" = some 0 by kernel_rfl) hb.1 g.space
  · exact var?_below h (show Tryz.prog.globalNamed "internal/strconv.uint64pow10" = some 4 by kernel_rfl) hb.2 g.pow

theorem hasPrefix_c (s p : Str) (w : World) : Calls Tryz.prog 29 [str s, str p].toArray w fun e w' => e = .returned (.bool (Lib.hasPrefix s p)) ∧ w' = w := Tryz.strings_HasPrefix ⟨⟨s⟩⟩ ⟨⟨p⟩⟩ w
theorem trimLeft_c (s cut : Str) (w : World) (hc : len cut < 4294967281) (ha : ∀ (j : Nat) (b : UInt8), cut[j]? = some b → b.toNat < 128) :
    Calls Tryz.prog 15 [str s, str cut].toArray w fun e w' => e = .returned (str (s.dropWhile (cut.contains ·))) ∧ Ext w w' :=
  (Any.strings_TrimLeft_laid Tryz.lays161 (by kernel_rfl) ⟨⟨s⟩⟩ ⟨⟨cut⟩⟩ w (by unfold len at hc; show cut.length < _; omega) ha)
theorem trimRight_c (s cut : Str) (w : World) (hs : len s ≤ 9223372036854775807) (hc : len cut < 4294967281) (ha : ∀ (j : Nat) (b : UInt8), cut[j]? = some b → b.toNat < 128) :
    Calls Tryz.prog 93 [str s, str cut].toArray w fun e w' => e = .returned (str (Lib.trimRightS s cut)) ∧ Ext w w' :=
  (Any.strings_TrimRight_laid Tryz.lays162 (by kernel_rfl) ⟨⟨s⟩⟩ ⟨⟨cut⟩⟩ w (by unfold len at hs; show s.length ≤ _; omega) (by unfold len at hc; show cut.length < _; omega) ha)
theorem decodeRune_c (s : Str) (w : World) (g : Gl w) (h : 0 < len s) :
    Calls Tryz.prog 55 [str s].toArray w fun e w' => e = .returned (.tuple #[.int .i32 (runeAt s 0), i64 (runeLen s 0)]) ∧ Ext w w' := by
  have h0 : ¬ (ByteArray.mk ⟨s⟩).size = 0 := by show ¬ s.length = 0; unfold len at h; omega
  have := Tryz.utf8_DecodeRuneInString ⟨⟨s⟩⟩ w g.u8
  rw [show Lib.decodeGo ⟨⟨s⟩⟩ = Utf8.decode ⟨⟨s⟩⟩ 0 from by unfold Lib.decodeGo; rw [if_neg h0]] at this
  exact this
theorem indexByte_c (s : Str) (c : Int) (w : World) : Calls Tryz.prog 65 [str s, .int .u8 c].toArray w fun e w' => e = .returned (i64 (Lib.indexByte s c.toNat.toUInt8)) ∧ w' = w := Tryz.strings_IndexByte ⟨⟨s⟩⟩ c w
theorem join_c (M : Mem) (l : List Str) (v : Value) (sep : Str) (w : World) (hM : Sat w M) (h : Sl M 1 l.length v (l.flatMap strC)) (hl : len (Lib.join l sep) ≤ 140737488355328) (hn : len l ≤ 140737488355328) :
    Calls Tryz.prog 23 [v, str sep].toArray w fun e w' => e = .returned (str (Lib.join l sep)) ∧ Ext w w' := by
  by_cases hc : 0 < l.length
  · obtain ⟨cap, hv, h1, h2, h3⟩ := h.at hc
    have hlen : (l.flatMap strC).length = l.length * 1 := h.len
    have cell : ∀ (j : Nat) x, (l.map (fun s => ByteArray.mk ⟨s⟩))[j]? = some x → w.cell? ⟨sb v, so v + j, none⟩ = some (.string x) := by
      intro j x hx
      rw [List.getElem?_map] at hx
      cases hj : l[j]? with
      | none => rw [hj] at hx; cases hx
      | some s =>
        rw [hj] at hx; cases hx
        have hjl : j < l.length := by
          rcases Nat.lt_or_ge j l.length with hh | hh
          · exact hh
          · rw [List.getElem?_eq_none hh] at hj; cases hj
        refine hM.cell _ _ _ ?_
        rw [h3 j (by omega), show j = j * 1 + 0 from by omega, flat_get strC 1 strC_len l j 0 hjl (by omega)]
        rw [List.getElem?_eq_getElem hjl] at hj; cases hj; rfl
    have h0 : sb v < w.heap.size := lt_of_cell (cell 0 _ (by rw [List.getElem?_map, List.getElem?_eq_getElem hc]; rfl))
    have e1 : (l.map (fun s => ByteArray.mk ⟨s⟩)).map (·.data.toList) = l := by rw [List.map_map]; exact List.map_id _
    have := Tryz.strings_Join (sb v) (so v) cap (l.map (fun s => ByteArray.mk ⟨s⟩)) ⟨⟨sep⟩⟩ w cell h0 (by rw [List.length_map]; unfold len at hn; omega) (by rw [List.length_map]; exact h1) (by rw [e1]; unfold len at hl; show (Lib.join l sep).length ≤ _; omega)
    rw [List.length_map, e1] at this
    rw [hv]; exact this
  · have hl0 : l = [] := by cases l with | nil => rfl | cons a b => simp at hc
    subst hl0
    obtain ⟨p, cap, hv, _⟩ := h.val
    subst hv
    exact (Tryz.strings_Join_none p cap ⟨⟨sep⟩⟩ w).mono fun e w' ⟨he, hw⟩ => ⟨he, hw ▸ Ext.refl _⟩
theorem repeatL_one (c : UInt8) : ∀ n, Lib.repeatL [c] n = List.replicate n c
  | 0 => rfl
  | n + 1 => by rw [Lib.repeatL, repeatL_one c n]; rfl
theorem repeat1_c (c : UInt8) (n : Int) (w : World) (h0 : 0 ≤ n) (h1 : n ≤ 140737488355328) :
    Calls Tryz.prog 48 [str [c], i64 n].toArray w fun e w' => e = .returned (str (List.replicate n.toNat c)) ∧ Ext w w' := by
  by_cases ha : n = 0
  · subst ha; exact (Tryz.strings_Repeat_zero ⟨⟨[c]⟩⟩ w).mono fun e w' ⟨he, hw⟩ => ⟨he, hw ▸ Ext.refl _⟩
  · by_cases hb : n = 1
    · subst hb; exact (Tryz.strings_Repeat_one ⟨⟨[c]⟩⟩ w).mono fun e w' ⟨he, hw⟩ => ⟨he, hw ▸ Ext.refl _⟩
    · have := Tryz.strings_Repeat_main ⟨⟨[c]⟩⟩ n.toNat w (by omega) (by omega) (by show 1 * _ ≤ _; omega) (by show 0 < 1; omega)
      rw [show ((n.toNat : Nat) : Int) = n from by omega] at this
      refine this.mono fun e w' ⟨he, hw⟩ => ⟨?_, hw⟩
      rw [he]; show Ending.returned (str (Lib.repeatL [c] n.toNat)) = _; rw [repeatL_one]
theorem ext_drewN {w w' : World} (h : Ext w w') (k : Nat) : Ext w (w'.drewN k) := ⟨h.os, h.tape, h.output, h.size, h.block⟩
theorem ext_grow (w : World) (os : Array Obj) : Ext w (grow w os) := ⟨rfl, rfl, rfl, by show w.heap.size ≤ (w.heap ++ os).size; rw [Array.size_append]; omega, fun _ hj => by show (w.heap ++ os)[_]? = _; rw [Array.getElem?_append_left hj]⟩
theorem itoa_c (n : Int) (w : World) (g : Gl w) (h0 : -9223372036854775808 ≤ n) (h1 : n ≤ 9223372036854775807) :
    Calls Tryz.prog 49 [i64 n].toArray w fun e w' => e = .returned (str (Lib.itoa n)) ∧ Ext w w' :=
  (Tryz.strconv_Itoa n h0 h1 w g.pow).mono fun e w' ⟨he, k, os, hw⟩ => ⟨he, hw ▸ Ext.trans (ext_drewN (Ext.refl w) k) (ext_grow _ os)⟩
theorem atoi_c (s : Str) (v : Int) (w : World) (hs : len s ≤ 9223372036854775806) (h : Lib.atoiAll s = .ok v) :
    Calls Tryz.prog 66 [str s].toArray w fun e w' => e = .returned (.tuple #[i64 v, .nilIface]) ∧ Ext w w' :=
  (Tryz.strconv_Atoi_ok ⟨⟨s⟩⟩ (by show s.length ≤ _; unfold len at hs; omega) v h w).mono fun e w' ⟨he, hw⟩ => ⟨he, by
    rcases hw with hw | ⟨t, hw⟩
    · exact hw ▸ Ext.refl _
    · exact hw ▸ Joins.below_bytesWorld _ _ _ _ (Nat.le_refl _)⟩
theorem trimFunc_c (g : Nat) (p : Nat → Bool) (s : Str) (w : World) (hg : Gl w) (eg : ∀ args w, (callFunc g args).run Tryz.prog w = .ok (.enter g args) w) (hs : len s ≤ 9223372036854775807)
    (hp : ∀ (x : Nat) (w : World), x ≤ 1114111 → Calls Tryz.prog g [.int .i32 x].toArray w fun e w' => e = .returned (.bool (p x)) ∧ w' = w) :
    Calls Tryz.prog 127 [str s, .func (.func g) #[] #[]].toArray w fun e w' => e = .returned (str (Lib.trimF p ⟨⟨s⟩⟩).data.toList) ∧ Ext w w' :=
by
  have hq : PredAtRunes Tryz.prog g #[] p w := by
    intro W x hx _
    show Calls Tryz.prog g (#[encR x] ++ #[]) W _
    exact (hp x W hx).mono fun e w' ⟨he, hw⟩ => ⟨he, 0, hw⟩
  refine (Tryz.strings_TrimFunc_runes g #[] eg p ⟨⟨s⟩⟩ w (by show s.length ≤ _; unfold len at hs; omega) hg.u8 hq).mono fun e w' ⟨he, hw⟩ => ⟨?_, hw⟩
  rw [he]
theorem cut_low8 {cut : Str} (h : ∀ b ∈ cut, b.toNat < 128) : ∀ (j : Nat) (b : UInt8), cut[j]? = some b → b.toNat < 128 := fun _ b hb => h b (List.mem_of_getElem? hb)
/-- The marks, as strings.Fields has them. -/
theorem fields_c (M : Mem) (s : Str) (w : World) (hM : Sat w M) (hg : Gl w) (hs : len s < 4294967281) (ha : ∀ (j : Nat) (b : UInt8), s[j]? = some b → b.toNat < 128) (hn : (Lib.fields s).length ≤ maxLen) :
    Calls Tryz.prog 61 [str s].toArray w fun e w' => ∃ v M', e = .returned v ∧ Sl M' 1 (Lib.fields s).length v ((Lib.fields s).flatMap strC) ∧ Grow w M w' M' := by
  refine (Tryz.strings_Fields ⟨⟨s⟩⟩ w (by show s.length < _; unfold len at hs; omega) ha hg.space).mono fun e w' ⟨he, hw⟩ => ?_
  have hf : (Lib.fields s).map (fun l => Value.string ⟨l.toArray⟩) = (Lib.fields s).flatMap strC := by
    induction Lib.fields s with
    | nil => rfl
    | cons a b ih => rw [List.map_cons, ih]; rfl
  have hN := (St.start hM).newRow 9 1 (Lib.fields s).length ((Lib.fields s).flatMap strC) (by rw [flat_len strC 1 strC_len]) hn
  refine ⟨_, _, he, hN.1.sl (i := 0) rfl, ?_⟩
  rw [hw]
  show Grow w M (w.alloc (.cells (((Lib.fields s)).map fun l => Value.string ⟨l.toArray⟩).toArray 9)) _
  rw [hf]; exact hN.1.done
end Go.Proofs.YthdialbnlnjgpaaGreatDoor
