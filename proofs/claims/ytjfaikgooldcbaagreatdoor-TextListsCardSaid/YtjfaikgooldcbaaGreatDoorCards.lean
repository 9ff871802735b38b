/-
  DERIVED. GIVEN WITH THE SEED: THE CARDS: each row of YtjfaikgooldcbaaGreatDoorRows.lean that lists a variable, with what it lists TIED to the program's text (the seventh form; the later family's looks); each row that meets fmt, with fmt's text TOLD by the authors' own Lean function (tested against real Go, not proved from fmt's source: count such statements apart). THE CARD IS WHAT COUNTS. Prove the row's statement (the work); the ties are given (YtjfaikgooldcbaaGreatDoorTie.lean); close each card by the builder's one call (the guide's Derived/Test/ToyasCard.lean, 'card_holds'). Laid BY PROGRAM, IN A SANDBOX (cutbox-door.mjs). By AI agents, Wed Nov 11 2026. No macro, syntax, notation, axiom, sorry.
-/
import Derived.Test.YtjfaikgooldcbaaGreatDoorRows
import GoSem.ClaimSeven
namespace Go.Proofs.YtjfaikgooldcbaaGreatDoor
namespace Rows

/-- THE TIED CARD OF 'loupelaw04.TextParses'. -/
def textParsesCard : Claim7 := { stood := { row := textParsesRow, standIns := [], harness := (true, "c6ee8255a7b0f799c9a60b003ce307a329dd7b912a01cb8c389149fba8a3f8c7"), looks := true }, kinds := [], alts := [], laidByText := true, laidKinds := [.data, .data, .data, .data, .sentinel, .sentinel, .pinned], laidTests := true, laidLooks := .later }
def TextParsesCardSaid : Prop := Claim7.holds Tryz.pinned (.plain (OpenSpec.ofChange textParsesSpec)) textParsesCard

/-- THE TIED CARD OF 'loupelaw04.TextPrints'. -/
def textPrintsCard : Claim7 := { stood := { row := textPrintsRow, standIns := [], harness := (true, "c6ee8255a7b0f799c9a60b003ce307a329dd7b912a01cb8c389149fba8a3f8c7"), looks := true }, kinds := [], alts := [], laidByText := true, laidKinds := [.data, .data, .data, .data, .sentinel, .sentinel, .pinned], laidTests := true, laidLooks := .later }
def TextPrintsCardSaid : Prop := Claim7.holds Tryz.pinned (.plain (OpenSpec.ofChange textPrintsSpec)) textPrintsCard

/-- THE TIED CARD OF 'loupelaw04.TextBack'. -/
def textBackCard : Claim7 := { stood := { row := textBackRow, standIns := [], harness := (true, "c6ee8255a7b0f799c9a60b003ce307a329dd7b912a01cb8c389149fba8a3f8c7"), looks := true }, kinds := [], alts := [], laidByText := true, laidKinds := [.data, .data, .data, .data, .sentinel, .sentinel, .pinned], laidTests := true, laidLooks := .later }
def TextBackCardSaid : Prop := Claim7.holds Tryz.pinned (.plain (OpenSpec.ofChange textBackSpec)) textBackCard

/-- THE TIED CARD OF 'loupelaw04.TextBlanks'. -/
def textBlanksCard : Claim7 := { stood := { row := textBlanksRow, standIns := [], harness := (true, "c6ee8255a7b0f799c9a60b003ce307a329dd7b912a01cb8c389149fba8a3f8c7"), looks := true }, kinds := [], alts := [], laidByText := true, laidKinds := [.data, .data, .data, .data, .sentinel, .sentinel, .pinned], laidTests := true, laidLooks := .later }
def TextBlanksCardSaid : Prop := Claim7.holds Tryz.pinned (.plain (OpenSpec.ofChange textBlanksSpec)) textBlanksCard

/-- THE TIED CARD OF 'loupelaw04.TextDeep'. -/
def textDeepCard : Claim7 := { stood := { row := textDeepRow, standIns := [], harness := (true, "c6ee8255a7b0f799c9a60b003ce307a329dd7b912a01cb8c389149fba8a3f8c7"), looks := true }, kinds := [], alts := [], laidByText := true, laidKinds := [.data, .data, .data, .data, .sentinel, .sentinel, .pinned], laidTests := true, laidLooks := .later }
def TextDeepCardSaid : Prop := Claim7.holds Tryz.pinned (.plain (OpenSpec.ofChange textDeepSpec)) textDeepCard

/-- THE TIED CARD OF 'loupelaw04.TextCut'. -/
def textCutCard : Claim7 := { stood := { row := textCutRow, standIns := [], harness := (true, "c6ee8255a7b0f799c9a60b003ce307a329dd7b912a01cb8c389149fba8a3f8c7"), looks := true }, kinds := [], alts := [], laidByText := true, laidKinds := [.data, .data, .data, .data, .sentinel, .sentinel, .pinned], laidTests := true, laidLooks := .later }
def TextCutCardSaid : Prop := Claim7.holds Tryz.pinned (.plain (OpenSpec.ofChange textCutSpec)) textCutCard

/-- THE TIED CARD OF 'loupelaw04.TextLists'. -/
def textListsCard : Claim7 := { stood := { row := textListsRow, standIns := [], harness := (true, "c6ee8255a7b0f799c9a60b003ce307a329dd7b912a01cb8c389149fba8a3f8c7"), looks := true }, kinds := [], alts := [], laidByText := true, laidKinds := [.data, .data, .data, .data, .sentinel, .sentinel, .pinned], laidTests := true, laidLooks := .later }
def TextListsCardSaid : Prop := Claim7.holds Tryz.pinned (.plain (OpenSpec.ofChange textListsSpec)) textListsCard

/-- THE SECOND FORM's CARD OF 'loupelaw04.TextParses'. -/
def textParsesUptoCard : Claim7 := { stood := { row := textParsesUptoRow, standIns := [], harness := (true, "c6ee8255a7b0f799c9a60b003ce307a329dd7b912a01cb8c389149fba8a3f8c7"), looks := true }, kinds := [], alts := [], laidByText := true, laidKinds := [.data, .data, .data, .data, .sentinel, .sentinel, .pinned], laidTests := true, laidLooks := .later }
def TextParsesUptoCardSaid : Prop := Claim7.holds Tryz.pinned (.plain (OpenSpec.upto textParsesSpec)) textParsesUptoCard

/-- THE SECOND FORM's CARD OF 'loupelaw04.TextPrints'. -/
def textPrintsUptoCard : Claim7 := { stood := { row := textPrintsUptoRow, standIns := [], harness := (true, "c6ee8255a7b0f799c9a60b003ce307a329dd7b912a01cb8c389149fba8a3f8c7"), looks := true }, kinds := [], alts := [], laidByText := true, laidKinds := [.data, .data, .data, .data, .sentinel, .sentinel, .pinned], laidTests := true, laidLooks := .later }
def TextPrintsUptoCardSaid : Prop := Claim7.holds Tryz.pinned (.plain (OpenSpec.upto textPrintsSpec)) textPrintsUptoCard

/-- THE SECOND FORM's CARD OF 'loupelaw04.TextBack'. -/
def textBackUptoCard : Claim7 := { stood := { row := textBackUptoRow, standIns := [], harness := (true, "c6ee8255a7b0f799c9a60b003ce307a329dd7b912a01cb8c389149fba8a3f8c7"), looks := true }, kinds := [], alts := [], laidByText := true, laidKinds := [.data, .data, .data, .data, .sentinel, .sentinel, .pinned], laidTests := true, laidLooks := .later }
def TextBackUptoCardSaid : Prop := Claim7.holds Tryz.pinned (.plain (OpenSpec.upto textBackSpec)) textBackUptoCard

/-- THE SECOND FORM's CARD OF 'loupelaw04.TextBlanks'. -/
def textBlanksUptoCard : Claim7 := { stood := { row := textBlanksUptoRow, standIns := [], harness := (true, "c6ee8255a7b0f799c9a60b003ce307a329dd7b912a01cb8c389149fba8a3f8c7"), looks := true }, kinds := [], alts := [], laidByText := true, laidKinds := [.data, .data, .data, .data, .sentinel, .sentinel, .pinned], laidTests := true, laidLooks := .later }
def TextBlanksUptoCardSaid : Prop := Claim7.holds Tryz.pinned (.plain (OpenSpec.upto textBlanksSpec)) textBlanksUptoCard

/-- THE SECOND FORM's CARD OF 'loupelaw04.TextDeep'. -/
def textDeepUptoCard : Claim7 := { stood := { row := textDeepUptoRow, standIns := [], harness := (true, "c6ee8255a7b0f799c9a60b003ce307a329dd7b912a01cb8c389149fba8a3f8c7"), looks := true }, kinds := [], alts := [], laidByText := true, laidKinds := [.data, .data, .data, .data, .sentinel, .sentinel, .pinned], laidTests := true, laidLooks := .later }
def TextDeepUptoCardSaid : Prop := Claim7.holds Tryz.pinned (.plain (OpenSpec.upto textDeepSpec)) textDeepUptoCard

/-- THE SECOND FORM's CARD OF 'loupelaw04.TextCut'. -/
def textCutUptoCard : Claim7 := { stood := { row := textCutUptoRow, standIns := [], harness := (true, "c6ee8255a7b0f799c9a60b003ce307a329dd7b912a01cb8c389149fba8a3f8c7"), looks := true }, kinds := [], alts := [], laidByText := true, laidKinds := [.data, .data, .data, .data, .sentinel, .sentinel, .pinned], laidTests := true, laidLooks := .later }
def TextCutUptoCardSaid : Prop := Claim7.holds Tryz.pinned (.plain (OpenSpec.upto textCutSpec)) textCutUptoCard

/-- THE SECOND FORM's CARD OF 'loupelaw04.TextLists'. -/
def textListsUptoCard : Claim7 := { stood := { row := textListsUptoRow, standIns := [], harness := (true, "c6ee8255a7b0f799c9a60b003ce307a329dd7b912a01cb8c389149fba8a3f8c7"), looks := true }, kinds := [], alts := [], laidByText := true, laidKinds := [.data, .data, .data, .data, .sentinel, .sentinel, .pinned], laidTests := true, laidLooks := .later }
def TextListsUptoCardSaid : Prop := Claim7.holds Tryz.pinned (.plain (OpenSpec.upto textListsSpec)) textListsUptoCard
end Rows
end Go.Proofs.YtjfaikgooldcbaaGreatDoor
