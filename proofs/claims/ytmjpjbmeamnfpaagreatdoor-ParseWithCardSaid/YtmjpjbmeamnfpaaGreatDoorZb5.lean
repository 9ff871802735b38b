/-
  THE LIBRARY's CONTRACTS, in the engine's words: each off the kit's shelf.
  THE WORLD IN WHICH A CALL BEGINS: what the listed variables give the walks; a world for the witness, in which they hold what the program's text lays.
  THE EXECUTOR, PART 1: what is known, as data; operations that only compute, found out by evaluation. Over any program.
  THE EXECUTOR, PART 2: each operation that only computes, of what is known. Over any program.
-/
import Derived.Test.YtmjpjbmeamnfpaaGreatDoorZb0
import Derived.Test.YtmjpjbmeamnfpaaGreatDoorZb3
import Derived.Test.YtmjpjbmeamnfpaaGreatDoorZb4
import Derived.Shelf.Strings.SlTrimAscii
import Derived.WalkSmall
import Derived.Lib.SmallJoins
import Derived.Test.YtmjpjbmeamnfpaaGreatDoorCards
import Derived.Test.YtmjpjbmeamnfpaaGreatDoorTie
import Derived.WalkKit
import Derived.ProofKit
import Derived.OpenShut
import Derived.Deep.DeepHandedRow
import Derived.Deep.DeepWitnessRowRef
import Derived.Lib.LaidTab
import Derived.Lib.LaidU8T
import Derived.Lib.LaidIn
import Derived.Lib.TrailingZeros
import Derived.Stop.LaidErr
import Derived.ChangeBears2
set_option linter.unusedVariables false
set_option linter.unusedSimpArgs false
namespace Go.Proofs.YtmjpjbmeamnfpaaGreatDoor
open Go.Eng Go.RowKit Go.Sort

/-- What the listed variables of the library hold. -/
structure Gl (w : World) : Prop where
  big : 0 < w.heap.size ∧ 7 < w.heap.size
  u8 : Lib.Utf8Tabs 1 2 w
  space : Lib.TabIs Tryz.prog w "strings.asciiSpace" .u8 Lib.asciiSpaceTab
  pow : Lib.TabIs Tryz.prog w "internal/strconv.uint64pow10" .u64 Lib.pow10Tab
  deb : w.cell? ⟨9, 15, none⟩ = some (.int .u8 4)
  err : ∃ ev, w.cell? ⟨5, 0, none⟩ = some ev ∧ (ev = .nilIface ∨ ∃ t p, ev = .iface t p)

theorem cellLow {w w' : World} (h : Below w.heap.size w w') {a : Addr} {v : Value} (hv : w.cell? a = some v) : w'.cell? a = some v := by
  have hlt : a.block < w.heap.size := by
    rcases Nat.lt_or_ge a.block w.heap.size with h' | h'
    · exact h'
    · simp [World.cell?, h'] at hv
  exact (h.cell hlt).trans hv
theorem Gl.low {w w' : World} (g : Gl w) (h : Below w.heap.size w w') : Gl w' := by
  have hb := g.big
  have hs := h.size
  refine ⟨⟨by omega, by omega⟩, ⟨fun c hc => cellLow h (g.u8.1 c hc), fun i hi => ⟨cellLow h (g.u8.2 i hi).1, cellLow h (g.u8.2 i hi).2⟩⟩, ?_, ?_, cellLow h g.deb, by obtain ⟨ev, h1, h2⟩ := g.err; exact ⟨ev, cellLow h h1, h2⟩⟩
  · exact var?_below h (show Tryz.prog.globalNamed "strings.asciiSpace" = some 0 by kernel_rfl) hb.1 g.space
  · exact var?_below h (show Tryz.prog.globalNamed "internal/strconv.uint64pow10" = some 7 by kernel_rfl) hb.2 g.pow

theorem hasPrefix_c (s p : Str) (w : World) : Calls Tryz.prog 77 [str s, str p].toArray w fun e w' => e = .returned (.bool (Lib.hasPrefix s p)) ∧ w' = w := Tryz.strings_HasPrefix ⟨⟨s⟩⟩ ⟨⟨p⟩⟩ w
theorem trimLeft_c (s cut : Str) (w : World) (hc : len cut < 4294967281) (ha : ∀ (j : Nat) (b : UInt8), cut[j]? = some b → b.toNat < 128) :
    Calls Tryz.prog 47 [str s, str cut].toArray w fun e w' => e = .returned (str (s.dropWhile (cut.contains ·))) ∧ Ext w w' :=
  (Any.strings_TrimLeft_laid Tryz.lays161 (by kernel_rfl) ⟨⟨s⟩⟩ ⟨⟨cut⟩⟩ w (by unfold len at hc; show cut.length < _; omega) ha)
theorem trimRight_c (s cut : Str) (w : World) (hs : len s ≤ 9223372036854775807) (hc : len cut < 4294967281) (ha : ∀ (j : Nat) (b : UInt8), cut[j]? = some b → b.toNat < 128) :
    Calls Tryz.prog 159 [str s, str cut].toArray w fun e w' => e = .returned (str (Lib.trimRightS s cut)) ∧ Ext w w' :=
  (Any.strings_TrimRight_laid Tryz.lays162 (by kernel_rfl) ⟨⟨s⟩⟩ ⟨⟨cut⟩⟩ w (by unfold len at hs; show s.length ≤ _; omega) (by unfold len at hc; show cut.length < _; omega) ha)
theorem decodeRune_c (s : Str) (w : World) (g : Gl w) (h : 0 < len s) :
    Calls Tryz.prog 106 [str s].toArray w fun e w' => e = .returned (.tuple #[.int .i32 (runeAt s 0), i64 (runeLen s 0)]) ∧ Ext w w' := by
  have h0 : ¬ (ByteArray.mk ⟨s⟩).size = 0 := by show ¬ s.length = 0; unfold len at h; omega
  have := Tryz.utf8_DecodeRuneInString ⟨⟨s⟩⟩ w g.u8
  rw [show Lib.decodeGo ⟨⟨s⟩⟩ = Utf8.decode ⟨⟨s⟩⟩ 0 from by unfold Lib.decodeGo; rw [if_neg h0]] at this
  exact this
theorem indexByte_c (s : Str) (c : Int) (w : World) : Calls Tryz.prog 119 [str s, .int .u8 c].toArray w fun e w' => e = .returned (i64 (Lib.indexByte s c.toNat.toUInt8)) ∧ w' = w := Tryz.strings_IndexByte ⟨⟨s⟩⟩ c w
theorem repeatL_one (c : UInt8) : ∀ n, Lib.repeatL [c] n = List.replicate n c
  | 0 => rfl
  | n + 1 => by rw [Lib.repeatL, repeatL_one c n]; rfl
theorem repeat1_c (c : UInt8) (n : Int) (w : World) (h0 : 0 ≤ n) (h1 : n ≤ 140737488355328) :
    Calls Tryz.prog 169 [str [c], i64 n].toArray w fun e w' => e = .returned (str (List.replicate n.toNat c)) ∧ Ext w w' := by
  by_cases ha : n = 0
  · subst ha; exact (Tryz.strings_Repeat_zero ⟨⟨[c]⟩⟩ w).mono fun e w' ⟨he, hw⟩ => ⟨he, hw ▸ Ext.refl _⟩
  · by_cases hb : n = 1
    · subst hb; exact (Tryz.strings_Repeat_one ⟨⟨[c]⟩⟩ w).mono fun e w' ⟨he, hw⟩ => ⟨he, hw ▸ Ext.refl _⟩
    · have := Tryz.strings_Repeat_main ⟨⟨[c]⟩⟩ n.toNat w (by omega) (by omega) (by show 1 * _ ≤ _; omega) (by show 0 < 1; omega)
      rw [show ((n.toNat : Nat) : Int) = n from by omega] at this
      refine this.mono fun e w' ⟨he, hw⟩ => ⟨?_, hw⟩
      rw [he]; show Ending.returned (str (Lib.repeatL [c] n.toNat)) = _; rw [repeatL_one]
theorem ext_drewN {w w' : World} (h : Ext w w') (k : Nat) : Ext w (w'.drewN k) := ⟨h.os, h.tape, h.output, h.size, h.block⟩
theorem ext_grow (w : World) (os : Array Obj) : Ext w (grow w os) := ⟨rfl, rfl, rfl, by show w.heap.size ≤ (w.heap ++ os).size; rw [Array.size_append]; omega, fun _ hj => by show (w.heap ++ os)[_]? = _; rw [Array.getElem?_append_left hj]⟩
theorem itoa_c (n : Int) (w : World) (g : Gl w) (h0 : -9223372036854775808 ≤ n) (h1 : n ≤ 9223372036854775807) :
    Calls Tryz.prog 245 [i64 n].toArray w fun e w' => e = .returned (str (Lib.itoa n)) ∧ Ext w w' :=
  (Tryz.strconv_Itoa n h0 h1 w g.pow).mono fun e w' ⟨he, k, os, hw⟩ => ⟨he, hw ▸ Ext.trans (ext_drewN (Ext.refl w) k) (ext_grow _ os)⟩
theorem atoi_c (s : Str) (v : Int) (w : World) (hs : len s ≤ 9223372036854775806) (h : Lib.atoiAll s = .ok v) :
    Calls Tryz.prog 120 [str s].toArray w fun e w' => e = .returned (.tuple #[i64 v, .nilIface]) ∧ Ext w w' :=
  (Tryz.strconv_Atoi_ok ⟨⟨s⟩⟩ (by show s.length ≤ _; unfold len at hs; omega) v h w).mono fun e w' ⟨he, hw⟩ => ⟨he, by
    rcases hw with hw | ⟨t, hw⟩
    · exact hw ▸ Ext.refl _
    · exact hw ▸ Joins.below_bytesWorld _ _ _ _ (Nat.le_refl _)⟩
theorem trimFunc_c (g : Nat) (p : Nat → Bool) (s : Str) (w : World) (hg : Gl w) (eg : ∀ args w, (callFunc g args).run Tryz.prog w = .ok (.enter g args) w) (hs : len s ≤ 9223372036854775807)
    (hp : ∀ (x : Nat) (w : World), x ≤ 1114111 → Calls Tryz.prog g [.int .i32 x].toArray w fun e w' => e = .returned (.bool (p x)) ∧ w' = w) :
    Calls Tryz.prog 210 [str s, .func (.func g) #[] #[]].toArray w fun e w' => e = .returned (str (Lib.trimF p ⟨⟨s⟩⟩).data.toList) ∧ Ext w w' :=
by
  have hq : PredAtRunes Tryz.prog g #[] p w := by
    intro W x hx _
    show Calls Tryz.prog g (#[encR x] ++ #[]) W _
    exact (hp x W hx).mono fun e w' ⟨he, hw⟩ => ⟨he, 0, hw⟩
  refine (Tryz.strings_TrimFunc_runes g #[] eg p ⟨⟨s⟩⟩ w (by show s.length ≤ _; unfold len at hs; omega) hg.u8 hq).mono fun e w' ⟨he, hw⟩ => ⟨?_, hw⟩
  rw [he]
theorem cut_low8 {cut : Str} (h : ∀ b ∈ cut, b.toNat < 128) : ∀ (j : Nat) (b : UInt8), cut[j]? = some b → b.toNat < 128 := fun _ b hb => h b (List.mem_of_getElem? hb)
/-- The marks, as strings.Fields has them. -/
theorem fields_c (M : Mem) (s : Str) (w : World) (hM : Sat w M) (hg : Gl w) (hs : len s < 4294967281) (ha : ∀ (j : Nat) (b : UInt8), s[j]? = some b → b.toNat < 128) (hn : (Lib.fields s).length ≤ maxLen) :
    Calls Tryz.prog 115 [str s].toArray w fun e w' => ∃ v M', e = .returned v ∧ Sl M' 1 (Lib.fields s).length v ((Lib.fields s).flatMap strC) ∧ Grow w M w' M' := by
  refine (Tryz.strings_Fields ⟨⟨s⟩⟩ w (by show s.length < _; unfold len at hs; omega) ha hg.space).mono fun e w' ⟨he, hw⟩ => ?_
  have hf : (Lib.fields s).map (fun l => Value.string ⟨l.toArray⟩) = (Lib.fields s).flatMap strC := by
    induction Lib.fields s with
    | nil => rfl
    | cons a b ih => rw [List.map_cons, ih]; rfl
  have hN := (St.start hM).newRow 9 1 (Lib.fields s).length ((Lib.fields s).flatMap strC) (by rw [flat_len strC 1 strC_len]) hn
  refine ⟨_, _, he, hN.1.sl (i := 0) rfl, ?_⟩
  rw [hw]
  show Grow w M (w.alloc (.cells (((Lib.fields s)).map fun l => Value.string ⟨l.toArray⟩).toArray 9)) _
  rw [hf]; exact hN.1.done
end Go.Proofs.YtmjpjbmeamnfpaaGreatDoor
namespace Go.Proofs.YtmjpjbmeamnfpaaGreatDoor
open Go.ChangeShapes Go.WideShapes Go.ChangeAt Go.RowKit Go.Eng

theorem own : ownKnob Tryz.prog.godebug = none := by kernel_rfl
abbrev Laid : List (String × DataW Unit) := [("math/bits.deBruijn32tab", Rows.laid_math_bits_deBruijn32tab), ("math/bits.deBruijn64tab", Rows.laid_math_bits_deBruijn64tab), ("internal/strconv.uint64pow10", Rows.laid_internal_strconv_uint64pow10), ("unicode/utf8.acceptRanges", Rows.laid_unicode_utf8_acceptRanges), ("strconv.ErrRange", Rows.laid_strconv_ErrRange), ("strconv.ErrSyntax", Rows.laid_strconv_ErrSyntax), ("unicode.White_Space", Rows.laid_unicode_White_Space), ("strings.asciiSpace", Rows.laid_strings_asciiSpace), ("unicode/utf8.first", Rows.laid_unicode_utf8_first)]
theorem tabIs_of_reads {P : Program} {W : World} {name : String} {k : IntKind} {zs : List Int} {g : Nat} {t e : TypeId} {n : Nat}
    (hg : P.globalNamed name = some g) (hty : (P.globals[g]?).map (·.type) = some t) (ht : P.underlying t = some (.array n e)) (he : P.underlying e = some (.int k)) (hce : P.cellsOf e = 1) (hct : P.cellsOf t = n)
    (h : Lib.VarReads P W name (Lib.tabData k zs)) : Lib.TabIs P W name k zs := by
  obtain ⟨g', t', cs, fuel, p, hg', ht', hvar, hd⟩ := h
  obtain rfl := Option.some.inj (hg.symm.trans hg')
  obtain rfl := Option.some.inj (hty.symm.trans ht')
  unfold Lib.TabIs
  rw [hvar, ← Lib.cells_of_tab ht he hce hct hd]
theorem tab_size {P : Program} {W : World} {name : String} {k : IntKind} {zs : List Int} {g : Nat} (h : Lib.TabIs P W name k zs) (hg : P.globalNamed name = some g) (h0 : 0 < zs.length) : g < W.heap.size := lt_of_cell (h.cell hg 0 h0)
theorem u8X : U8Extra Tryz.prog Tryz.lays260_ren := ⟨by kernel_rfl, by kernel_rfl, by kernel_rfl, by kernel_rfl, by kernel_rfl, by kernel_rfl, by kernel_rfl⟩
theorem e1 : (Rows.laid_strings_asciiSpace : DataW Unit) = Lib.tabData .u8 Lib.asciiSpaceTab := by kernel_rfl
theorem e2 : (Rows.laid_internal_strconv_uint64pow10 : DataW Unit) = Lib.tabData .u64 Lib.pow10Tab := by kernel_rfl
theorem e3 : (Rows.laid_unicode_utf8_first : DataW Unit) = Lib.firstData := by kernel_rfl
theorem e4 : (Rows.laid_unicode_utf8_acceptRanges : DataW Unit) = Lib.acceptData := by kernel_rfl
abbrev debTab : List Int := Lib.deBruijn64tab.map (fun n : Nat => (n : Int))
theorem e5 : (Rows.laid_math_bits_deBruijn64tab : DataW Unit) = Lib.tabData .u8 debTab := by kernel_rfl
theorem starE : "*" ++ "errors.errorString" = "*errors.errorString" := by decide
theorem rowE (u : TypeId) (h : Tryz.prog.typeName? 3 u = some "*errors.errorString") : u = 305 :=
  typeName_ptr_named (nm := "errors.errorString") (by rw [starE]; kernel_rfl) (by kernel_rfl) (by decide) u (by rw [starE]; exact h)
theorem gl_of {W : World} (h : laidMet Tryz.prog Laid W) : Gl W := by
  have r1 := Lib.laidMet.reads h (show ("strings.asciiSpace", Rows.laid_strings_asciiSpace) ∈ Laid from .tail _ (.tail _ (.tail _ (.tail _ (.tail _ (.tail _ (.tail _ (.head _))))))))
  have r2 := Lib.laidMet.reads h (show ("internal/strconv.uint64pow10", Rows.laid_internal_strconv_uint64pow10) ∈ Laid from .tail _ (.tail _ (.head _)))
  have r3 := Lib.laidMet.reads h (show ("unicode/utf8.first", Rows.laid_unicode_utf8_first) ∈ Laid from .tail _ (.tail _ (.tail _ (.tail _ (.tail _ (.tail _ (.tail _ (.tail _ (.head _)))))))))
  have r4 := Lib.laidMet.reads h (show ("unicode/utf8.acceptRanges", Rows.laid_unicode_utf8_acceptRanges) ∈ Laid from .tail _ (.tail _ (.tail _ (.head _))))
  rw [e1] at r1
  rw [e2] at r2
  rw [e3] at r3
  rw [e4] at r4
  have h1 : Lib.TabIs Tryz.prog W "strings.asciiSpace" .u8 Lib.asciiSpaceTab :=
    tabIs_of_reads (g := 0) (by kernel_rfl) (by kernel_rfl) Tryz.underlying203 Tryz.underlying5 (by kernel_rfl) (by kernel_rfl) r1
  have h2 : Lib.TabIs Tryz.prog W "internal/strconv.uint64pow10" .u64 Lib.pow10Tab :=
    tabIs_of_reads (g := 7) (by kernel_rfl) (by kernel_rfl) Tryz.underlying330 Tryz.underlying230 (by kernel_rfl) (by kernel_rfl) r2
  have h3 : Lib.Utf8Tabs 1 2 W := utf8Tabs_of_readsT (.of260 Tryz.lays260) u8X r3 r4
  refine ⟨⟨tab_size h1 (by kernel_rfl) (of_decide_eq_true (by kernel_rfl)), tab_size h2 (by kernel_rfl) (of_decide_eq_true (by kernel_rfl))⟩, h3, h1, h2, ?_, ?_⟩
  · have r5 := Lib.laidMet.reads h (show ("math/bits.deBruijn64tab", Rows.laid_math_bits_deBruijn64tab) ∈ Laid from .tail _ (.head _))
    rw [e5] at r5
    have h5 : Lib.TabIs Tryz.prog W "math/bits.deBruijn64tab" .u8 debTab := tabIs_of_reads (g := 9) (by kernel_rfl) (by kernel_rfl) Tryz.underlying340 Tryz.underlying5 (by kernel_rfl) (by kernel_rfl) r5
    exact h5.cell (by kernel_rfl) 15 (of_decide_eq_true (by kernel_rfl))
  · obtain ⟨a, s, hv, _⟩ := laid_sentinel (te := 307) (ts := 9) (f := (Tryz.prog.fieldsOf 307)[0]!) h.tail.tail.tail.tail.tail (show Tryz.prog.globalNamed "strconv.ErrSyntax" = some 5 by kernel_rfl) (by kernel_rfl) Tryz.underlying166 rowE Tryz.underlying305 (by kernel_rfl) (by kernel_rfl) (by kernel_rfl) Tryz.underlying9 (by kernel_rfl) (by kernel_rfl)
    exact ⟨_, var?_cell (by kernel_rfl) hv 0, .inr ⟨_, _, rfl⟩⟩

/-! ### The witness's world -/
def lits (l : List (DataW Unit)) : List Value := l.filterMap fun | .lit (.int k z) => some (.int k z) | _ => none
def partsOf : DataW Unit → List (DataW Unit) | .agg ps => ps | _ => []
def tabCells (d : DataW Unit) : Array Value := (lits (partsOf d)).toArray
def rowCells (l : List (DataW Unit)) : Array Value := (l.flatMap fun p => lits (partsOf p)).toArray
def whiteRows : List (DataW Unit) := match Rows.laid_unicode_White_Space with | .ptr (.agg (.slice rows _ :: _)) => rows | _ => []
def textOf : DataW Unit → Str | .iface _ (.ptr (.agg [.lit (.string s)])) => s | _ => []
noncomputable def laidWorld (os : Os) : World :=
  let N := (World.settled Tryz.prog os).heap.size
  let w0 := World.holding Tryz.prog os ⟨#[.cells (rowCells whiteRows) 280, .cells #[.slice (some ⟨N, 0, none⟩) 7 7, .slice none 0 0, .int .i64 2] 277, .cells #[str (textOf Rows.laid_strconv_ErrRange)] 307, .cells #[str (textOf Rows.laid_strconv_ErrSyntax)] 307], #[], []⟩
  let put (h : Array Obj) (g : Nat) (cs : Array Value) : Array Obj := h.modify g fun
    | .cells _ t frozen => .cells cs t frozen
    | o => o
  let h1 := put w0.heap 8 (tabCells Rows.laid_math_bits_deBruijn32tab)
  let h2 := put h1 9 (tabCells Rows.laid_math_bits_deBruijn64tab)
  let h3 := put h2 7 (tabCells Rows.laid_internal_strconv_uint64pow10)
  let h4 := put h3 2 (rowCells (partsOf Rows.laid_unicode_utf8_acceptRanges))
  let h5 := put h4 6 #[.iface 305 (.pointer (some ⟨N + 2, 0, none⟩))]
  let h6 := put h5 5 #[.iface 305 (.pointer (some ⟨N + 3, 0, none⟩))]
  let h7 := put h6 3 #[.pointer (some ⟨N + 1, 0, none⟩)]
  let h8 := put h7 0 (tabCells Rows.laid_strings_asciiSpace)
  let h9 := put h8 1 (tabCells Rows.laid_unicode_utf8_first)
  { w0 with heap := h9 }
noncomputable abbrev N0 : Nat := (World.settled Tryz.prog default).heap.size
set_option maxRecDepth 100000 in
theorem laid_met (os : Os) (args : Array Value) : laidMet Tryz.prog Laid ((laidWorld os).forCall (fun _ _ => 0) ⟨#[], args, []⟩).memory :=
  (LaidIn.of_run [8, 9, 7, 2, 6, N0 + 2, 5, N0 + 3, 3, N0 + 1, N0, 0, 1] 12 (by kernel_rfl) (by kernel_rfl) (by kernel_rfl) (by kernel_rfl)).met
end Go.Proofs.YtmjpjbmeamnfpaaGreatDoor
namespace Go.Eng
open Go.RowKit

/-- A row that is read: its value, how many cells a thing has, the things, a thing's cells. -/
structure Kn : Type 1 where
  {α : Type}
  [inh : Inhabited α]
  v : Value
  sz : Nat
  l : List α
  f : α → List Value
  g : Mem → Prop
  hg : ∀ M M', M.le M' → g M → g M'
/-- .. with no more to be said of it. -/
abbrev kn {α : Type} [Inhabited α] (v : Value) (sz : Nat) (l : List α) (f : α → List Value) : Kn := ⟨v, sz, l, f, fun _ => True, fun _ _ _ _ => trivial⟩
structure Kn.ok (M : Mem) (k : Kn) : Prop where
  sl : Sl M k.sz k.l.length k.v (k.l.flatMap k.f)
  sz : ∀ x, (k.f x).length = k.sz
  more : k.g M
theorem Kn.ok.mono {M M' : Mem} {k : Kn} (h : k.ok M) (hm : M.le M') : k.ok M' := ⟨h.sl.mono hm, h.sz, k.hg _ _ hm h.more⟩
/-- A value, as far as it is known: plain; a row; an address in a row, in a box; cells; several values. -/
inductive XV where
  | v (x : Value)
  | sl (k : Nat) (x : Value)
  | el (k : Nat) (x : Value) (sz : Nat) (i : Int) (j : Nat)
  | bx (k b o : Nat)
  | ag (cs : List XV)
  | tu (vs : List XV)
def XV.d0 : XV → Value
  | .v x => x
  | .sl _ x => x
  | .el _ x sz i j => .pointer (some ⟨sb x, so x + i.toNat * sz + j, none⟩)
  | .bx _ b o => .pointer (some ⟨b, o, none⟩)
  | _ => undef
def XV.d1 : XV → Value
  | .ag cs => .agg (cs.map XV.d0).toArray
  | x => x.d0
def XV.d : XV → Value
  | .tu vs => .tuple (vs.map XV.d1).toArray
  | x => x.d1
/-- Whether it is there: surely; if this holds. -/
inductive Gd where
  | t
  | g (b : Bool)
def Gd.d : Gd → Bool
  | .t => true
  | .g b => b
abbrev XE := List (Nat × Gd × XV)
def XE.d (L : XE) : Env := L.map fun x => (x.1, x.2.1.d, x.2.2.d)
def xlook : XE → Nat → Option (Gd × XV)
  | [], _ => none
  | (t, g, v) :: L, k => match Nat.beq t k with
    | true => some (g, v)
    | false => xlook L k
theorem xlook_d : ∀ {L : XE} {k : Nat} {g : Gd} {v : XV}, xlook L k = some (g, v) → look L.d k = some (g.d, v.d)
  | [], _, _, _, h => by cases h
  | (t, g', v') :: L, k, g, v, h => by
    unfold xlook at h
    show look ((t, g'.d, v'.d) :: XE.d L) k = _
    unfold look
    split at h <;> rename_i e <;> rw [e]
    · cases h; rfl
    · exact xlook_d h
/-- What is to be the same. -/
inductive Ck where
  | b (x y : Bool)
  | n (x y : Nat)
  | v (x y : Value)
def Ck.holds : Ck → Prop
  | .b x y => x = true → y = true
  | .n x y => x = y
  | .v x y => x = y
def Ck.diag : Ck → Ck
  | .b x _ => .b x x
  | .n x _ => .n x x
  | .v x _ => .v x x
abbrev EOk (E : List Ck) : Prop := ∀ c ∈ E, c.holds
theorem eok {E : List Ck} (h : E.map Ck.diag = E) : EOk E := by
  intro c hc
  obtain ⟨i, hi⟩ := List.getElem?_of_mem hc
  have h2 : (E.map Ck.diag)[i]? = some c := by rw [h]; exact hi
  rw [List.getElem?_map, hi] at h2
  simp only [Option.map_some, Option.some.injEq] at h2
  cases c with
  | b x y => simp only [Ck.diag, Ck.b.injEq, true_and] at h2; subst h2; exact id
  | n x y => simp only [Ck.diag, Ck.n.injEq, true_and] at h2; subst h2; rfl
  | v x y => simp only [Ck.diag, Ck.v.injEq, true_and] at h2; subst h2; rfl
/-- Types, as far as they are asked about. -/
inductive TK where
  | str | bool | int (k : IntKind) | row (e : TypeId) (esz : Nat) | st (fs : List (Nat × Nat × Bool)) (zs : List Value) | any
structure TD where
  k : TK
  sz : Nat
  agg : Bool
/-- The cells with others put in, part by part. -/
def fillL (fs : List (Nat × Nat × Bool)) : List Value → List (Nat × Value) → Option (List Value)
  | cs, [] => some cs
  | cs, (i, v) :: ps => match fs[i]? with
    | some (off, n, _) => if v.cells.toList.length = n ∧ off + n ≤ cs.length then fillL fs (splice cs off v.cells.toList) ps else none
    | none => none
def TK.ok (P : Program) (t : TypeId) (sz : Nat) : TK → Prop
  | .str => P.underlying t = some .string
  | .bool => P.underlying t = some .bool
  | .int k => P.underlying t = some (.int k)
  | .row e esz => P.underlying t = some (.slice e) ∧ ∀ w, (sizeOf e).run P w = .ok esz w
  | .st fs zs => (∀ (ps : List (Nat × Value)) (cs : List Value) w, fillL fs zs ps = some cs → (Instr.build t ps.toArray).run P w = .ok (.agg cs.toArray) w) ∧ ∀ i off n g, fs[i]? = some (off, n, g) →
      (∀ b o w, (Instr.fieldAt t (.pointer (some ⟨b, o, none⟩)) i).run P w = .ok (.pointer (some ⟨b, o + off, none⟩)) w) ∧
      (∀ (cs : List Value) w, cs.length = sz → off + n ≤ sz ∧ (Instr.field t (.agg cs.toArray) i).run P w = .ok (if g then .agg ((cs.drop off).take n).toArray else cs.getD off undef) w)
  | .any => True
structure TD.ok (P : Program) (t : TypeId) (d : TD) : Prop where
  agg : ∀ w, (isAgg t).run P w = .ok d.agg w
  size : ∀ w, (sizeOf t).run P w = .ok d.sz w
  kind : d.k.ok P t d.sz
abbrev TT := List (Nat × TD)
def tlook : TT → Nat → Option TD
  | [], _ => none
  | (t, d) :: T, k => match Nat.beq t k with
    | true => some d
    | false => tlook T k
def klook : List (Nat × Kn) → Nat → Option Kn
  | [], _ => none
  | (t, d) :: F, k => match Nat.beq t k with
    | true => some d
    | false => klook F k
theorem klook_mem : ∀ {F : List (Nat × Kn)} {k : Nat} {x : Kn}, klook F k = some x → ∃ i, (i, x) ∈ F
  | [], _, _, h => by cases h
  | (t, d) :: F, k, x, h => by
    unfold klook at h
    split at h
    · cases h; exact ⟨t, .head _⟩
    · obtain ⟨i, hi⟩ := klook_mem h; exact ⟨i, .tail _ hi⟩
/-- A thing of one's own: a box; a row that nobody else knows of; another one. -/
inductive HX : Type 1 where
  | box (b : Nat) (cs : List XV) (t : TypeId)
  | pv (e : TypeId) (K : Kn) (h : ∀ x, (K.f x).length = K.sz)
  | ho (x : HO)
def HX.d : HX → HO
  | .box b cs t => .box b (cs.map XV.d0) t
  | .pv e (@Kn.mk α inh v sz l f _ _) _ => .priv e sz v l.length (l.flatMap f)
  | .ho x => x
def hlook : List (Nat × HX) → Nat → Option HX
  | [], _ => none
  | (t, d) :: H, k => match Nat.beq t k with
    | true => some d
    | false => hlook H k
def hset : List (Nat × HX) → Nat → HX → List (Nat × HX)
  | [], _, _ => []
  | (t, d) :: H, k, x => match Nat.beq t k with
    | true => (t, x) :: H
    | false => (t, d) :: hset H k x
def HD (H : List (Nat × HX)) : List HO := H.map fun x => x.2.d
theorem hlook_at : ∀ {H : List (Nat × HX)} {k : Nat} {x : HX}, hlook H k = some x → ∃ i : Nat, (HD H)[i]? = some x.d ∧ ∀ y, HD (hset H k y) = (HD H).set i y.d
  | [], _, _, h => by cases h
  | (t, d) :: H, k, x, h => by
    unfold hlook at h
    split at h <;> rename_i e
    · cases h
      refine ⟨0, rfl, fun y => ?_⟩
      simp only [hset, e]; rfl
    · obtain ⟨i, h1, h2⟩ := hlook_at h
      refine ⟨i + 1, by simpa [HD] using h1, fun y => ?_⟩
      simp only [hset, e]
      show d.d :: HD (hset H k y) = _
      rw [h2 y]; rfl

/-! ### Lists of cells -/
def nth {α : Type} : List α → Nat → Option α
  | [], _ => none
  | x :: _, 0 => some x
  | _ :: l, n + 1 => nth l n
theorem nth_eq {α : Type} : ∀ (l : List α) (n : Nat), nth l n = l[n]?
  | [], _ => by simp [nth]
  | _ :: _, 0 => by simp [nth]
  | _ :: l, n + 1 => by simp [nth, nth_eq l n]
/-- So many, from a place on. -/
def part' {α : Type} : List α → Nat → Nat → Option (List α)
  | _, 0, 0 => some []
  | [], _, _ => none
  | x :: l, 0, n + 1 => match part' l 0 n with
    | some r => some (x :: r)
    | none => none
  | _ :: l, o + 1, n => part' l o n
theorem part_eq {α : Type} : ∀ (l : List α) (o n : Nat) (r : List α), part' l o n = some r → r = (l.drop o).take n ∧ r.length = n ∧ o + n ≤ l.length
  | l, 0, 0, r, h => by unfold part' at h; cases h; simp
  | [], o + 1, n, r, h => by simp [part'] at h
  | [], 0, n + 1, r, h => by simp [part'] at h
  | x :: l, 0, n + 1, r, h => by
    unfold part' at h
    split at h
    · rename_i r' hr
      cases h
      obtain ⟨h1, h2, h3⟩ := part_eq l 0 n r' hr
      refine ⟨by rw [h1]; simp, by simp [h2], by simp at h3 ⊢; omega⟩
    · cases h
  | x :: l, o + 1, n, r, h => by
    have h' : part' l o n = some r := by unfold part' at h; exact h
    obtain ⟨h1, h2, h3⟩ := part_eq l o n r h'
    exact ⟨by rw [h1]; simp, h2, by simp; omega⟩
/-- Others in the stead of some. -/
def put' {α : Type} : List α → Nat → List α → Option (List α)
  | l, 0, [] => some l
  | [], _, _ => none
  | _ :: l, 0, v :: vs => match put' l 0 vs with
    | some r => some (v :: r)
    | none => none
  | x :: l, o + 1, vs => match put' l o vs with
    | some r => some (x :: r)
    | none => none
theorem put_eq {α : Type} : ∀ (l : List α) (o : Nat) (vs r : List α), put' l o vs = some r → r = l.take o ++ vs ++ l.drop (o + vs.length) ∧ o + vs.length ≤ l.length
  | l, 0, [], r, h => by unfold put' at h; cases h; simp
  | [], o + 1, vs, r, h => by simp [put'] at h
  | [], 0, v :: vs, r, h => by simp [put'] at h
  | x :: l, 0, v :: vs, r, h => by
    unfold put' at h
    split at h
    · rename_i r' hr
      cases h
      obtain ⟨h1, h2⟩ := put_eq l 0 vs r' hr
      simp at h1 h2
      exact ⟨by rw [h1]; simp, by simp; omega⟩
    · cases h
  | x :: l, o + 1, vs, r, h => by
    unfold put' at h
    split at h
    · rename_i r' hr
      cases h
      obtain ⟨h1, h2⟩ := put_eq l o vs r' hr
      refine ⟨?_, by simp; omega⟩
      rw [h1, show o + 1 + vs.length = (o + vs.length) + 1 from by omega]; simp
    · cases h
def mapv : List Value → List XV
  | [] => []
  | x :: l => .v x :: mapv l
def agv : List Value → Option (List XV)
  | [] => some []
  | x :: l => match agv l with
    | some r => some (.v x :: r)
    | none => none
theorem agv_eq : ∀ (l : List Value) (r : List XV), agv l = some r → r.map XV.d0 = l
  | [], r, h => by cases h; rfl
  | x :: l, r, h => by
    unfold agv at h
    split at h
    · rename_i r' hr; cases h; simp [agv_eq l r' hr, XV.d0]
    · cases h

/-! ### Operands -/
/-- An operand's value, and what is to be seen to. -/
def opd (L : XE) (W : Gd) : Operand → Option (XV × List Ck)
  | .tmp k => match xlook L k with
    | some (.t, v) => some (v, [])
    | some (.g b, v) => match W with
      | .t => some (v, [.b true b])
      | .g a => some (v, [.b a b])
    | none => none
  | .const v => some (.v v, [])
  | .global k => some (.v (.pointer (some ⟨k, 0, none⟩)), [])
  | .func f => some (.v (.func (.func f) #[] #[]), [])
theorem opd_d {L : XE} {W : Gd} {x : Operand} {v : XV} {E : List Ck} (h : opd L W x = some (v, E)) (hE : EOk E) : Opd L.d W.d x v.d := by
  cases x with
  | tmp k =>
    simp only [opd] at h
    split at h
    · rename_i v' e; simp only [Option.some.injEq, Prod.mk.injEq] at h; obtain ⟨rfl, rfl⟩ := h; exact .t (xlook_d e)
    · rename_i b v' e
      cases W with
      | t => simp only [Option.some.injEq, Prod.mk.injEq] at h; obtain ⟨rfl, rfl⟩ := h; exact .g (xlook_d e) (hE _ (.head _))
      | g a => simp only [Option.some.injEq, Prod.mk.injEq] at h; obtain ⟨rfl, rfl⟩ := h; exact .g (xlook_d e) (hE _ (.head _))
    · cases h
  | const v' => simp only [opd, Option.some.injEq, Prod.mk.injEq] at h; obtain ⟨rfl, rfl⟩ := h; exact .c
  | global k => simp only [opd, Option.some.injEq, Prod.mk.injEq] at h; obtain ⟨rfl, rfl⟩ := h; exact .gl
  | func f => simp only [opd, Option.some.injEq, Prod.mk.injEq] at h; obtain ⟨rfl, rfl⟩ := h; exact .f
theorem EOk.app {E E' : List Ck} (h : EOk (E ++ E')) : EOk E ∧ EOk E' := ⟨fun c hc => h c (List.mem_append_left _ hc), fun c hc => h c (List.mem_append_right _ hc)⟩

/-! ### What an operation gives: its value, what is to be shown, what is to be seen to -/
abbrev GotX := Option (XV × List Prop × List Ck)
def rng (k : IntKind) (r : Int) : List Prop := match k with
  | .i64 => [-9223372036854775808 ≤ r ∧ r ≤ 9223372036854775807]
  | .u8 => [0 ≤ r ∧ r ≤ 255]
  | .i32 => [-2147483648 ≤ r ∧ r ≤ 2147483647]
  | .u32 => [0 ≤ r ∧ r ≤ 4294967295]
  | .u64 => [0 ≤ r ∧ r ≤ 18446744073709551615]
  | k => [k.wrap r = r]
def allP : List Prop → Prop
  | [] => True
  | p :: ps => p ∧ allP ps
theorem rng_wrap {k : IntKind} {r : Int} (h : allP (rng k r)) : k.wrap r = r := by
  cases k <;> simp only [rng, allP, and_true] at h <;> first | exact h | (simp [IntKind.wrap, IntKind.signed, IntKind.bits]; omega)
def arith (op : BinOp) (k : IntKind) (a b : Int) : Option (Int × List Prop) :=
  match op with
  | .add => some (a + b, rng k (a + b))
  | .sub => some (a - b, rng k (a - b))
  | .mul => some (a * b, rng k (a * b))
  | .quo => match k with
    | .i64 => some (a / b, [0 ≤ a ∧ a ≤ 9223372036854775807 ∧ 0 < b])
    | _ => none
  | .rem => match k with
    | .i64 => some (a % b, [0 ≤ a ∧ 0 < b])
    | _ => none
  | _ => none
def cmpI (op : BinOp) (a b : Int) : Option Bool :=
  match op with
  | .lss => some (decide (a < b))
  | .leq => some (decide (a ≤ b))
  | .gtr => some (decide (b < a))
  | .geq => some (decide (b ≤ a))
  | .eql => some (a == b)
  | .neq => some (a != b)
  | _ => none
def cmpS (op : BinOp) (a b : Str) : Option Bool :=
  match op with
  | .lss => some (Op.bytesLess a b)
  | .leq => some (Op.bytesLess a b || a == b)
  | .gtr => some (!(Op.bytesLess a b || a == b))
  | .geq => some (!Op.bytesLess a b)
  | .eql => some (a == b)
  | .neq => some (!(a == b))
  | _ => none
/-- The kinds of integers are the same. -/
def sameK : IntKind → IntKind → Bool
  | .i64, .i64 => true
  | .u8, .u8 => true
  | .i32, .i32 => true
  | .u32, .u32 => true
  | .u64, .u64 => true
  | .i8, .i8 => true
  | .i16, .i16 => true
  | .u16, .u16 => true
  | _, _ => false
theorem sameK_eq {a b : IntKind} (h : sameK a b = true) : a = b := by cases a <;> cases b <;> first | rfl | (exact absurd h (by decide)) | cases h
def binV (op : BinOp) : XV → XV → Option (XV × List Prop)
  | .v (.int k a), .v (.int k' b) => match sameK k k' with
    | true => match cmpI op a b with
      | some r => some (.v (.bool r), [])
      | none => match arith op k a b with
        | some (r, p) => some (.v (.int k r), p)
        | none => none
    | false => none
  | .v (.string ⟨⟨a⟩⟩), .v (.string ⟨⟨b⟩⟩) => match cmpS op a b with
    | some r => some (.v (.bool r), [])
    | none => match op with
      | .add => some (.v (.string ⟨⟨a ++ b⟩⟩), [len a + len b ≤ 9223372036854775807])
      | _ => none
  | _, _ => none
section
variable {P : Program} {C : World → Prop} {L : Env} {W : Bool} {d : Option Tmp} {ty : TypeId} {ps : String} {af : Array Edge} {gd : Option (Nat × Bool)}
theorem binV_d {op : BinOp} {t t' : TypeId} {x y : Operand} {a b v : XV} {p : List Prop} (h : binV op a b = some (v, p)) (hx : Opd L W x a.d) (hy : Opd L W y b.d) (hp : W = true → allP p) : PV P C L W ⟨d, .binOp op t x y t', ty, ps, af, gd⟩ v.d := by
  unfold binV at h
  split at h
  · rename_i k a' k' b'
    split at h
    · rename_i hk
      have := sameK_eq hk; subst this
      split at h
      · rename_i r hr
        simp only [Option.some.injEq, Prod.mk.injEq] at h; obtain ⟨rfl, rfl⟩ := h
        cases op <;> simp only [cmpI, Option.some.injEq, reduceCtorEq] at hr <;> subst hr
        · exact .eql hx hy
        · exact .neq hx hy
        · exact .lss hx hy
        · exact .leq hx hy
        · exact .gtr hx hy
        · exact .geq hx hy
      · split at h
        · rename_i r p' hr
          simp only [Option.some.injEq, Prod.mk.injEq] at h; obtain ⟨rfl, rfl⟩ := h
          cases op <;> simp only [arith, Option.some.injEq, Prod.mk.injEq, reduceCtorEq] at hr
          · obtain ⟨rfl, rfl⟩ := hr; exact .addK hx hy fun hW => rng_wrap (hp hW)
          · obtain ⟨rfl, rfl⟩ := hr; exact .subK hx hy fun hW => rng_wrap (hp hW)
          · obtain ⟨rfl, rfl⟩ := hr; exact .mulK hx hy fun hW => rng_wrap (hp hW)
          · split at hr <;> simp only [Option.some.injEq, Prod.mk.injEq, reduceCtorEq] at hr
            obtain ⟨rfl, rfl⟩ := hr; exact .quo hx hy fun hW => (hp hW).1
          · split at hr <;> simp only [Option.some.injEq, Prod.mk.injEq, reduceCtorEq] at hr
            obtain ⟨rfl, rfl⟩ := hr; exact .rem hx hy fun hW => (hp hW).1
        · cases h
    · cases h
  · rename_i a' b'
    split at h
    · rename_i r hr
      simp only [Option.some.injEq, Prod.mk.injEq] at h; obtain ⟨rfl, rfl⟩ := h
      cases op <;> simp only [cmpS, Option.some.injEq, reduceCtorEq] at hr <;> subst hr
      · exact .seql hx hy
      · exact .sneq hx hy
      · exact .slss hx hy
      · exact .sleq hx hy
      · exact .sgtr hx hy
      · exact .sgeq hx hy
    · split at h
      · simp only [Option.some.injEq, Prod.mk.injEq] at h; obtain ⟨rfl, rfl⟩ := h
        exact .sadd hx hy fun hW => (hp hW).1
      · cases h
  · cases h
end
end Go.Eng
namespace Go.Eng
open Go.RowKit

/-- A row: one that is read, or one's own. -/
def rowOfX (F : List (Nat × Kn)) (H : List (Nat × HX)) (k : Nat) : Option Kn :=
  match klook F k with
  | some K => some K
  | none => match hlook H k with
    | some (.pv _ (@Kn.mk α inh v sz l f g' hg') _) => some (@kn α inh v sz l f)
    | _ => none
/-- Of two operands. -/
def opd2 (L : XE) (W : Gd) (x y : Operand) : Option (XV × XV × List Ck) :=
  match opd L W x with
  | some (a, E) => match opd L W y with
    | some (b, E') => some (a, b, E ++ E')
    | none => none
  | none => none
theorem opd2_d {L : XE} {W : Gd} {x y : Operand} {a b : XV} {E : List Ck} (h : opd2 L W x y = some (a, b, E)) (hE : EOk E) : Opd L.d W.d x a.d ∧ Opd L.d W.d y b.d := by
  unfold opd2 at h
  split at h
  · rename_i a' E1 h1
    split at h
    · rename_i b' E2 h2
      simp only [Option.some.injEq, Prod.mk.injEq] at h; obtain ⟨rfl, rfl, rfl⟩ := h
      exact ⟨opd_d h1 hE.app.1, opd_d h2 hE.app.2⟩
    · cases h
  · cases h
/-- .. where it is surely there, or if this holds, too. -/
def Gd.and (W : Gd) (b : Bool) : Gd := match W with
  | .t => .g b
  | .g a => .g (a && b)
theorem Gd.and_d (W : Gd) (b : Bool) : (W.and b).d = (W.d && b) := by cases W <;> simp [Gd.and, Gd.d]
def asB : XV → Option Bool
  | .v (.bool b) => some b
  | _ => none
theorem asB_eq {v : XV} {b : Bool} (h : asB v = some b) : v = .v (.bool b) := by unfold asB at h; split at h <;> simp_all
def asI : XV → Option (IntKind × Int)
  | .v (.int k b) => some (k, b)
  | _ => none
theorem asI_eq {v : XV} {k : IntKind} {b : Int} (h : asI v = some (k, b)) : v = .v (.int k b) := by unfold asI at h; split at h <;> simp_all
/-- 'a && b', 'a || b'. -/
def pickV (L : XE) (W : Gd) (c x y : Operand) : GotX :=
  match opd L W c with
  | some (vc, E) => match asB vc with
    | some p => match y with
      | .const (.bool false) => match opd L (W.and p) x with
        | some (vx, E') => match asB vx with
          | some q => some (.v (.bool (p && q)), [], E ++ E')
          | none => none
        | none => none
      | _ => match x with
        | .const (.bool true) => match opd L (W.and (!p)) y with
          | some (vy, E') => match asB vy with
            | some q => some (.v (.bool (p || q)), [], E ++ E')
            | none => none
          | none => none
        | _ => none
    | none => none
  | none => none
def cvt (T : TT) (s t : TypeId) (a : XV) : Option (XV × List Prop) :=
  match asI a with
  | some (k, n) => match tlook T s with
    | some ⟨.int k1, _, _⟩ => match tlook T t with
      | some ⟨.int k2, _, _⟩ => match sameK k k1 with
        | true => some (.v (.int k2 n), rng k2 n)
        | false => none
      | _ => none
    | _ => none
  | none => none
def asS : XV → Option Str
  | .v (.string ⟨⟨a⟩⟩) => some a
  | _ => none
theorem asS_eq {v : XV} {a : Str} (h : asS v = some a) : v = .v (str a) := by unfold asS at h; split at h <;> simp_all
def lenV (T : TT) (F : List (Nat × Kn)) (H : List (Nat × HX)) (t : TypeId) (a : XV) : Option (XV × List Ck) :=
  match tlook T t with
  | some ⟨.str, _, _⟩ => match asS a with
    | some l => some (.v (i64 (len l)), [])
    | none => none
  | some ⟨.row e esz, _, _⟩ => match a with
    | .sl k x => match rowOfX F H k with
      | some (@Kn.mk α inh kv sz l f g' hg') => some (.v (i64 (len l)), [.v x kv])
      | none => none
    | _ => none
  | _ => none
/-- The address of a thing. -/
def idxV (T : TT) (F : List (Nat × Kn)) (H : List (Nat × HX)) (t : TypeId) (a b : XV) : GotX :=
  match a with
  | .sl k x => match tlook T t with
    | some ⟨.row e esz, _, _⟩ => match asI b with
      | some (_, i) => match rowOfX F H k with
        | some (@Kn.mk α inh kv sz l f g' hg') => some (.el k x esz i 0, [0 ≤ i ∧ i < len l], [.v x kv, .n esz sz])
        | none => none
      | none => none
    | _ => none
  | _ => none
def fldV (T : TT) (t : TypeId) (a : XV) (f : Nat) : Option XV :=
  match tlook T t with
  | some ⟨.st fs _, _, _⟩ => match nth fs f with
    | some (off, _, _) => match a with
      | .el k x sz i j => some (.el k x sz i (j + off))
      | .bx k b o => some (.bx k b (o + off))
      | _ => none
    | none => none
  | _ => none
def isCell : XV → Bool
  | .ag _ => false
  | .tu _ => false
  | _ => true
def partV (T : TT) (t : TypeId) (a : XV) (f : Nat) : Option XV :=
  match tlook T t with
  | some ⟨.st fs _, sz, _⟩ => match nth fs f with
    | some (off, n, g) => match a with
      | .ag cs => match Nat.beq cs.length sz with
        | true => match g with
          | true => match part' cs off n with
            | some r => some (.ag r)
            | none => none
          | false => match nth cs off with
            | some c => match isCell c with
              | true => some c
              | false => none
            | none => none
        | false => none
      | _ => none
    | none => none
  | _ => none
/-- What stands at an address. -/
def loadV (T : TT) (F : List (Nat × Kn)) (H : List (Nat × HX)) (t : TypeId) (a : XV) : GotX :=
  match tlook T t with
  | some ⟨_, n, g⟩ => match a with
    | .el k x sz i j => match rowOfX F H k with
      | some (@Kn.mk α inh kv ksz l f g' hg') => match g with
        | false => match nth (f (@at' α inh l i)) j with
          | some c => some (.v c, [0 ≤ i ∧ i < len l], [.v x kv, .n sz ksz])
          | none => none
        | true => match part' (f (@at' α inh l i)) j n with
          | some r => match agv r with
            | some r' => some (.ag r', [0 ≤ i ∧ i < len l], [.v x kv, .n sz ksz])
            | none => none
          | none => none
      | none => none
    | .bx k b o => match hlook H k with
      | some (.box b' cs _) => match g with
        | false => match nth cs o with
          | some c => match isCell c with
            | true => some (c, [], [.n b b'])
            | false => none
          | none => none
        | true => match part' cs o n with
          | some r => some (.ag r, [], [.n b b'])
          | none => none
      | _ => none
    | _ => none
  | none => none
def slS (T : TT) (L : XE) (W : Gd) (t : TypeId) (x : Operand) (lo hi : Option Operand) : GotX :=
  match tlook T t with
  | some ⟨.str, _, _⟩ => match opd L W x with
    | some (vx, E) => match asS vx with
      | some a => match lo, hi with
        | some y, some z => match opd L W y with
          | some (vy, E1) => match opd L W z with
            | some (vz, E2) => match asI vy with
              | some (_, i) => match asI vz with
                | some (_, j) => some (.v (str (Eng.sub a i j)), [0 ≤ i ∧ i ≤ j ∧ j ≤ len a], E ++ (E1 ++ E2))
                | none => none
              | none => none
            | none => none
          | none => none
        | some y, none => match opd L W y with
          | some (vy, E1) => match asI vy with
            | some (_, i) => some (.v (str (from' a i)), [0 ≤ i ∧ i ≤ len a], E ++ E1)
            | none => none
          | none => none
        | none, some z => match opd L W z with
          | some (vz, E1) => match asI vz with
            | some (_, j) => some (.v (str (Eng.sub a 0 j)), [0 ≤ j ∧ j ≤ len a], E ++ E1)
            | none => none
          | none => none
        | none, none => none
      | none => none
    | none => none
  | _ => none
def notV : XV → Option XV
  | .v (.bool b) => some (.v (.bool (!b)))
  | _ => none
def negV : XV → Option (XV × List Prop)
  | .v (.int k a) => some (.v (.int k (-a)), rng k (-a))
  | _ => none
def boolV (T : TT) (op : BinOp) (t : TypeId) (a b : XV) : Option XV :=
  match asB a with
  | some p => match asB b with
    | some q => match tlook T t with
      | some ⟨.bool, _, _⟩ => match op with
        | .eql => some (.v (.bool (p == q)))
        | .neq => some (.v (.bool (p != q)))
        | _ => none
      | _ => none
    | none => none
  | none => none
def idxS (T : TT) (t : TypeId) (a b : XV) : Option (XV × List Prop) :=
  match tlook T t with
  | some ⟨.str, _, _⟩ => match asS a with
    | some s => match asI b with
      | some (_, i) => some (.v (.int .u8 (byteAt s i)), [0 ≤ i ∧ i < len s])
      | none => none
    | none => none
  | _ => none
def cellsOf : XV → Option (List XV)
  | .ag cs => some cs
  | .tu _ => none
  | x => some [x]
/-- It takes one cell. -/
def oneC (F : List (Nat × Kn)) (H : List (Nat × HX)) : XV → Option (List Ck)
  | .v u => match u.oneCell' with
    | true => some []
    | false => none
  | .sl k u => match rowOfX F H k with
    | some (@Kn.mk α inh kv sz l f g' hg') => some [.v u kv]
    | none => none
  | .el _ _ _ _ _ => some []
  | .bx _ _ _ => some []
  | _ => none
/-- A record, its parts put in one behind the other. -/
def buildX (F : List (Nat × Kn)) (H : List (Nat × HX)) (L : XE) (W : Gd) (fs : List (Nat × Nat × Bool)) : List XV → List (Nat × Operand) → Option (List XV × List Ck)
  | cs, [] => some (cs, [])
  | cs, (i, x) :: ps => match nth fs i with
    | some (off, n, g) => match opd L W x with
      | some (v, E) => match g with
        | true => match v with
          | .ag vs => match Nat.beq vs.length n with
            | true => match put' cs off vs with
              | some cs' => match buildX F H L W fs cs' ps with
                | some (r, E') => some (r, E ++ E')
                | none => none
              | none => none
            | false => none
          | _ => none
        | false => match oneC F H v with
          | some E1 => match Nat.beq 1 n with
            | true => match put' cs off [v] with
              | some cs' => match buildX F H L W fs cs' ps with
                | some (r, E') => some (r, E1 ++ (E ++ E'))
                | none => none
              | none => none
            | false => none
          | none => none
      | none => none
    | none => none
def buildV (T : TT) (F : List (Nat × Kn)) (H : List (Nat × HX)) (L : XE) (W : Gd) (t : TypeId) (ps : Array (Nat × Operand)) : GotX :=
  match tlook T t with
  | some ⟨.st fs zs, _, _⟩ => match ps with
    | ⟨l⟩ => match agv zs with
      | some cs => match buildX F H L W fs cs l with
        | some (r, E) => some (.ag r, [], E)
        | none => none
      | none => none
  | _ => none
def exV (a : XV) (i : Nat) : Option XV :=
  match a with
  | .tu vs => match nth vs i with
    | some (.tu _) => none
    | r => r
  | _ => none
/-- An operation that only computes. -/
def ptrV : XV → Bool
  | .bx _ _ _ => true
  | _ => false
def opV (T : TT) (F : List (Nat × Kn)) (H : List (Nat × HX)) (L : XE) (W : Gd) : Op → GotX
  | .move x => match opd L W x with
    | some (v, E) => some (v, [], E)
    | none => none
  | .assign x => match opd L W x with
    | some (v, E) => some (v, [], E)
    | none => none
  | .pick c x y => pickV L W c x y
  | .binOp op t x y _ => match opd2 L W x y with
    | some (a, b, E) => match binV op a b with
      | some (v, p) => some (v, p, E)
      | none => match boolV T op t a b with
        | some v => some (v, [], E)
        | none => none
    | none => none
  | .unOp op _ x => match opd L W x with
    | some (a, E) => match op with
      | .not => match notV a with
        | some v => some (v, [], E)
        | none => none
      | .neg => match negV a with
        | some (v, p) => some (v, p, E)
        | none => none
      | _ => none
    | none => none
  | .convert s t x => match opd L W x with
    | some (a, E) => match cvt T s t a with
      | some (v, p) => some (v, p, E)
      | none => none
    | none => none
  | .slice t x lo hi none => slS T L W t x lo hi
  | .fieldAddr t x f => match opd L W x with
    | some (a, E) => match fldV T t a f with
      | some v => some (v, [], E)
      | none => none
    | none => none
  | .field t x f => match opd L W x with
    | some (a, E) => match partV T t a f with
      | some v => some (v, [], E)
      | none => none
    | none => none
  | .indexAddr t x y => match opd2 L W x y with
    | some (a, b, E) => match idxV T F H t a b with
      | some (v, p, E') => some (v, p, E ++ E')
      | none => none
    | none => none
  | .index t x y => match opd2 L W x y with
    | some (a, b, E) => match idxS T t a b with
      | some (v, p) => some (v, p, E)
      | none => none
    | none => none
  | .load t x => match opd L W x with
    | some (a, E) => match loadV T F H t a with
      | some (v, p, E') => some (v, p, E ++ E')
      | none => none
    | none => none
  | .build t ps => buildV T F H L W t ps
  | .extract x i => match opd L W x with
    | some (a, E) => match exV a i with
      | some v => some (v, [], E)
      | none => none
    | none => none
  | .call ⟨.builtin .len, ⟨[x]⟩, ⟨[t]⟩⟩ => match opd L W x with
    | some (a, E) => match lenV T F H t a with
      | some (v, E') => some (v, [], E ++ E')
      | none => none
    | none => none
  | .nilCheck x => match opd L W x with
    | some (a, E) => match ptrV a with
      | true => some (a, [], E)
      | false => none
    | none => none
  | _ => none
end Go.Eng
