/-
  THE WORLD IN WHICH A CALL BEGINS: what the listed variables give the walks; a world for the witness, in which they hold what the program's text lays.
-/
import Derived.Test.YthdialbnlnjgpaaGreatDoorCards
import Derived.Test.YthdialbnlnjgpaaGreatDoorTie
import Derived.Test.YthdialbnlnjgpaaGreatDoorLib
import Derived.WalkKit
import Derived.ProofKit
import Derived.OpenShut
import Derived.Deep.DeepHandedRow
import Derived.Deep.DeepWitnessRowRef
import Derived.Lib.LaidTab
import Derived.Lib.LaidU8T
import Derived.Lib.LaidIn
import Derived.Lib.TrailingZeros
import Derived.Stop.LaidErr
import Derived.ChangeBears2
set_option linter.unusedVariables false
set_option linter.unusedSimpArgs false
namespace Go.Proofs.YthdialbnlnjgpaaGreatDoor
open Go.ChangeShapes Go.WideShapes Go.ChangeAt Go.RowKit Go.Eng

theorem own : ownKnob Tryz.prog.godebug = none := by kernel_rfl
abbrev Laid : List (String × DataW Unit) := [("math/bits.deBruijn32tab", Rows.laid_math_bits_deBruijn32tab), ("math/bits.deBruijn64tab", Rows.laid_math_bits_deBruijn64tab), ("internal/strconv.uint64pow10", Rows.laid_internal_strconv_uint64pow10), ("unicode/utf8.acceptRanges", Rows.laid_unicode_utf8_acceptRanges), ("strconv.ErrRange", Rows.laid_strconv_ErrRange), ("strconv.ErrSyntax", Rows.laid_strconv_ErrSyntax), ("unicode.White_Space", Rows.laid_unicode_White_Space), ("strings.asciiSpace", Rows.laid_strings_asciiSpace), ("unicode/utf8.first", Rows.laid_unicode_utf8_first)]
theorem tabIs_of_reads {P : Program} {W : World} {name : String} {k : IntKind} {zs : List Int} {g : Nat} {t e : TypeId} {n : Nat}
    (hg : P.globalNamed name = some g) (hty : (P.globals[g]?).map (·.type) = some t) (ht : P.underlying t = some (.array n e)) (he : P.underlying e = some (.int k)) (hce : P.cellsOf e = 1) (hct : P.cellsOf t = n)
    (h : Lib.VarReads P W name (Lib.tabData k zs)) : Lib.TabIs P W name k zs := by
  obtain ⟨g', t', cs, fuel, p, hg', ht', hvar, hd⟩ := h
  obtain rfl := Option.some.inj (hg.symm.trans hg')
  obtain rfl := Option.some.inj (hty.symm.trans ht')
  unfold Lib.TabIs
  rw [hvar, ← Lib.cells_of_tab ht he hce hct hd]
theorem tab_size {P : Program} {W : World} {name : String} {k : IntKind} {zs : List Int} {g : Nat} (h : Lib.TabIs P W name k zs) (hg : P.globalNamed name = some g) (h0 : 0 < zs.length) : g < W.heap.size := lt_of_cell (h.cell hg 0 h0)
theorem u8X : U8Extra Tryz.prog Tryz.lays260_ren := ⟨by kernel_rfl, by kernel_rfl, by kernel_rfl, by kernel_rfl, by kernel_rfl, by kernel_rfl, by kernel_rfl⟩
theorem e1 : (Rows.laid_strings_asciiSpace : DataW Unit) = Lib.tabData .u8 Lib.asciiSpaceTab := by kernel_rfl
theorem e2 : (Rows.laid_internal_strconv_uint64pow10 : DataW Unit) = Lib.tabData .u64 Lib.pow10Tab := by kernel_rfl
theorem e3 : (Rows.laid_unicode_utf8_first : DataW Unit) = Lib.firstData := by kernel_rfl
theorem e4 : (Rows.laid_unicode_utf8_acceptRanges : DataW Unit) = Lib.acceptData := by kernel_rfl
abbrev debTab : List Int := Lib.deBruijn64tab.map (fun n : Nat => (n : Int))
theorem e5 : (Rows.laid_math_bits_deBruijn64tab : DataW Unit) = Lib.tabData .u8 debTab := by kernel_rfl
theorem starE : "*" ++ "errors.errorString" = "*errors.errorString" := by decide
theorem rowE (u : TypeId) (h : Tryz.prog.typeName? 3 u = some "*errors.errorString") : u = 202 :=
  typeName_ptr_named (nm := "errors.errorString") (by rw [starE]; kernel_rfl) (by kernel_rfl) (by decide) u (by rw [starE]; exact h)
theorem gl_of {W : World} (h : laidMet Tryz.prog Laid W) : Gl W := by
  have r1 := Lib.laidMet.reads h (show ("strings.asciiSpace", Rows.laid_strings_asciiSpace) ∈ Laid from .tail _ (.tail _ (.tail _ (.tail _ (.tail _ (.tail _ (.tail _ (.head _))))))))
  have r2 := Lib.laidMet.reads h (show ("internal/strconv.uint64pow10", Rows.laid_internal_strconv_uint64pow10) ∈ Laid from .tail _ (.tail _ (.head _)))
  have r3 := Lib.laidMet.reads h (show ("unicode/utf8.first", Rows.laid_unicode_utf8_first) ∈ Laid from .tail _ (.tail _ (.tail _ (.tail _ (.tail _ (.tail _ (.tail _ (.tail _ (.head _)))))))))
  have r4 := Lib.laidMet.reads h (show ("unicode/utf8.acceptRanges", Rows.laid_unicode_utf8_acceptRanges) ∈ Laid from .tail _ (.tail _ (.tail _ (.head _))))
  rw [e1] at r1
  rw [e2] at r2
  rw [e3] at r3
  rw [e4] at r4
  have h1 : Lib.TabIs Tryz.prog W "strings.asciiSpace" .u8 Lib.asciiSpaceTab :=
    tabIs_of_reads (g := 0) (by kernel_rfl) (by kernel_rfl) Tryz.underlying123 Tryz.underlying5 (by kernel_rfl) (by kernel_rfl) r1
  have h2 : Lib.TabIs Tryz.prog W "internal/strconv.uint64pow10" .u64 Lib.pow10Tab :=
    tabIs_of_reads (g := 4) (by kernel_rfl) (by kernel_rfl) Tryz.underlying171 Tryz.underlying137 (by kernel_rfl) (by kernel_rfl) r2
  have h3 : Lib.Utf8Tabs 1 2 W := utf8Tabs_of_readsT (.of260 Tryz.lays260) u8X r3 r4
  refine ⟨⟨tab_size h1 (by kernel_rfl) (of_decide_eq_true (by kernel_rfl)), tab_size h2 (by kernel_rfl) (of_decide_eq_true (by kernel_rfl))⟩, h3, h1, h2, ?_, ?_⟩
  · have r5 := Lib.laidMet.reads h (show ("math/bits.deBruijn64tab", Rows.laid_math_bits_deBruijn64tab) ∈ Laid from .tail _ (.head _))
    rw [e5] at r5
    have h5 : Lib.TabIs Tryz.prog W "math/bits.deBruijn64tab" .u8 debTab := tabIs_of_reads (g := 9) (by kernel_rfl) (by kernel_rfl) Tryz.underlying207 Tryz.underlying5 (by kernel_rfl) (by kernel_rfl) r5
    exact h5.cell (by kernel_rfl) 15 (of_decide_eq_true (by kernel_rfl))
  · obtain ⟨a, s, hv, _⟩ := laid_sentinel (te := 204) (ts := 9) (f := (Tryz.prog.fieldsOf 204)[0]!) h.tail.tail.tail.tail.tail (show Tryz.prog.globalNamed "strconv.ErrSyntax" = some 6 by kernel_rfl) (by kernel_rfl) Tryz.underlying89 rowE Tryz.underlying202 (by kernel_rfl) (by kernel_rfl) (by kernel_rfl) Tryz.underlying9 (by kernel_rfl) (by kernel_rfl)
    exact ⟨_, var?_cell (by kernel_rfl) hv 0, .inr ⟨_, _, rfl⟩⟩

/-! ### The witness's world -/
def lits (l : List (DataW Unit)) : List Value := l.filterMap fun | .lit (.int k z) => some (.int k z) | _ => none
def partsOf : DataW Unit → List (DataW Unit) | .agg ps => ps | _ => []
def tabCells (d : DataW Unit) : Array Value := (lits (partsOf d)).toArray
def rowCells (l : List (DataW Unit)) : Array Value := (l.flatMap fun p => lits (partsOf p)).toArray
def whiteRows : List (DataW Unit) := match Rows.laid_unicode_White_Space with | .ptr (.agg (.slice rows _ :: _)) => rows | _ => []
def textOf : DataW Unit → Str | .iface _ (.ptr (.agg [.lit (.string s)])) => s | _ => []
noncomputable def laidWorld (os : Os) : World :=
  let N := (World.settled Tryz.prog os).heap.size
  let w0 := World.holding Tryz.prog os ⟨#[.cells (rowCells whiteRows) 184, .cells #[.slice (some ⟨N, 0, none⟩) 7 7, .slice none 0 0, .int .i64 2] 181, .cells #[str (textOf Rows.laid_strconv_ErrRange)] 204, .cells #[str (textOf Rows.laid_strconv_ErrSyntax)] 204], #[], []⟩
  let put (h : Array Obj) (g : Nat) (cs : Array Value) : Array Obj := h.modify g fun
    | .cells _ t frozen => .cells cs t frozen
    | o => o
  let h1 := put w0.heap 8 (tabCells Rows.laid_math_bits_deBruijn32tab)
  let h2 := put h1 9 (tabCells Rows.laid_math_bits_deBruijn64tab)
  let h3 := put h2 4 (tabCells Rows.laid_internal_strconv_uint64pow10)
  let h4 := put h3 2 (rowCells (partsOf Rows.laid_unicode_utf8_acceptRanges))
  let h5 := put h4 7 #[.iface 202 (.pointer (some ⟨N + 2, 0, none⟩))]
  let h6 := put h5 6 #[.iface 202 (.pointer (some ⟨N + 3, 0, none⟩))]
  let h7 := put h6 3 #[.pointer (some ⟨N + 1, 0, none⟩)]
  let h8 := put h7 0 (tabCells Rows.laid_strings_asciiSpace)
  let h9 := put h8 1 (tabCells Rows.laid_unicode_utf8_first)
  { w0 with heap := h9 }
noncomputable abbrev N0 : Nat := (World.settled Tryz.prog default).heap.size
set_option maxRecDepth 100000 in
theorem laid_met (os : Os) (args : Array Value) : laidMet Tryz.prog Laid ((laidWorld os).forCall (fun _ _ => 0) ⟨#[], args, []⟩).memory :=
  (LaidIn.of_run [8, 9, 4, 2, 7, N0 + 2, 6, N0 + 3, 3, N0 + 1, N0, 0, 1] 12 (by kernel_rfl) (by kernel_rfl) (by kernel_rfl) (by kernel_rfl)).met
end Go.Proofs.YthdialbnlnjgpaaGreatDoor
