/-
  DERIVED. GIVEN WITH THE SEED: THE CARDS: each row of YtmjpjbmeamnfpaaGreatDoorRows.lean that lists a variable, with what it lists TIED to the program's text (the seventh form; the later family's looks); each row that meets fmt, with fmt's text TOLD by the authors' own Lean function (tested against real Go, not proved from fmt's source: count such statements apart). THE CARD IS WHAT COUNTS. Prove the row's statement (the work); the ties are given (YtmjpjbmeamnfpaaGreatDoorTie.lean); close each card by the builder's one call (the guide's Derived/Test/ToyasCard.lean, 'card_holds'). Laid BY PROGRAM, IN A SANDBOX (cutbox-door.mjs). By AI agents, Wed Nov 11 2026. No macro, syntax, notation, axiom, sorry.
-/
import Derived.Test.YtmjpjbmeamnfpaaGreatDoorRows
import GoSem.ClaimSeven
namespace Go.Proofs.YtmjpjbmeamnfpaaGreatDoor
namespace Rows

/-- THE TIED CARD OF 'loupelaw09.ParseBack'. -/
def parseBackCard : Claim7 := { stood := { row := parseBackRow, standIns := [], harness := (true, "1bbd99575f26633bf5e9c191501f4b2bca1057f4fb2ec02ab5b247032cb57521"), looks := true }, kinds := [], alts := [], laidByText := true, laidKinds := [.data, .data, .data, .data, .sentinel, .sentinel, .listed, .data, .pinned], laidTests := true, laidLooks := .later }
def ParseBackCardSaid : Prop := Claim7.holds Tryz.pinned (.plain (OpenSpec.ofChange parseBackSpec)) parseBackCard

/-- THE TIED CARD OF 'loupelaw09.ParseNest'. -/
def parseNestCard : Claim7 := { stood := { row := parseNestRow, standIns := [], harness := (true, "1bbd99575f26633bf5e9c191501f4b2bca1057f4fb2ec02ab5b247032cb57521"), looks := true }, kinds := [], alts := [], laidByText := true, laidKinds := [.data, .data, .data, .data, .sentinel, .sentinel, .listed, .data, .pinned], laidTests := true, laidLooks := .later }
def ParseNestCardSaid : Prop := Claim7.holds Tryz.pinned (.plain (OpenSpec.ofChange parseNestSpec)) parseNestCard

/-- THE TIED CARD OF 'loupelaw09.ParseWith'. -/
def parseWithCard : Claim7 := { stood := { row := parseWithRow, standIns := [], harness := (true, "1bbd99575f26633bf5e9c191501f4b2bca1057f4fb2ec02ab5b247032cb57521"), looks := true }, kinds := [], alts := [], laidByText := true, laidKinds := [.data, .data, .data, .data, .sentinel, .sentinel, .listed, .data, .pinned], laidTests := true, laidLooks := .later }
def ParseWithCardSaid : Prop := Claim7.holds Tryz.pinned (.plain (OpenSpec.ofChange parseWithSpec)) parseWithCard

/-- THE TIED CARD OF 'loupelaw13.SchemaBack'. -/
def schemaBackCard : Claim7 := { stood := { row := schemaBackRow, standIns := [], harness := (true, "1bbd99575f26633bf5e9c191501f4b2bca1057f4fb2ec02ab5b247032cb57521"), looks := true }, kinds := [], alts := [], laidByText := true, laidKinds := [.data, .data, .data, .data, .sentinel, .sentinel, .listed, .data, .pinned], laidTests := true, laidLooks := .later }
def SchemaBackCardSaid : Prop := Claim7.holds Tryz.pinned (.plain (OpenSpec.ofChange schemaBackSpec)) schemaBackCard

/-- THE TIED CARD OF 'loupelaw13.SchemaJoins'. -/
def schemaJoinsCard : Claim7 := { stood := { row := schemaJoinsRow, standIns := [], harness := (true, "1bbd99575f26633bf5e9c191501f4b2bca1057f4fb2ec02ab5b247032cb57521"), looks := true }, kinds := [], alts := [], laidByText := true, laidKinds := [.data, .data, .data, .data, .sentinel, .sentinel, .listed, .data, .pinned], laidTests := true, laidLooks := .later }
def SchemaJoinsCardSaid : Prop := Claim7.holds Tryz.pinned (.plain (OpenSpec.ofChange schemaJoinsSpec)) schemaJoinsCard

/-- THE TIED CARD OF 'loupelaw13.SchemaNest'. -/
def schemaNestCard : Claim7 := { stood := { row := schemaNestRow, standIns := [], harness := (true, "1bbd99575f26633bf5e9c191501f4b2bca1057f4fb2ec02ab5b247032cb57521"), looks := true }, kinds := [], alts := [], laidByText := true, laidKinds := [.data, .data, .data, .data, .sentinel, .sentinel, .listed, .data, .pinned], laidTests := true, laidLooks := .later }
def SchemaNestCardSaid : Prop := Claim7.holds Tryz.pinned (.plain (OpenSpec.ofChange schemaNestSpec)) schemaNestCard

/-- THE SECOND FORM's CARD OF 'loupelaw09.ParseBack'. -/
def parseBackUptoCard : Claim7 := { stood := { row := parseBackUptoRow, standIns := [], harness := (true, "1bbd99575f26633bf5e9c191501f4b2bca1057f4fb2ec02ab5b247032cb57521"), looks := true }, kinds := [], alts := [], laidByText := true, laidKinds := [.data, .data, .data, .data, .sentinel, .sentinel, .listed, .data, .pinned], laidTests := true, laidLooks := .later }
def ParseBackUptoCardSaid : Prop := Claim7.holds Tryz.pinned (.plain (OpenSpec.upto parseBackSpec)) parseBackUptoCard

/-- THE SECOND FORM's CARD OF 'loupelaw09.ParseNest'. -/
def parseNestUptoCard : Claim7 := { stood := { row := parseNestUptoRow, standIns := [], harness := (true, "1bbd99575f26633bf5e9c191501f4b2bca1057f4fb2ec02ab5b247032cb57521"), looks := true }, kinds := [], alts := [], laidByText := true, laidKinds := [.data, .data, .data, .data, .sentinel, .sentinel, .listed, .data, .pinned], laidTests := true, laidLooks := .later }
def ParseNestUptoCardSaid : Prop := Claim7.holds Tryz.pinned (.plain (OpenSpec.upto parseNestSpec)) parseNestUptoCard

/-- THE SECOND FORM's CARD OF 'loupelaw09.ParseWith'. -/
def parseWithUptoCard : Claim7 := { stood := { row := parseWithUptoRow, standIns := [], harness := (true, "1bbd99575f26633bf5e9c191501f4b2bca1057f4fb2ec02ab5b247032cb57521"), looks := true }, kinds := [], alts := [], laidByText := true, laidKinds := [.data, .data, .data, .data, .sentinel, .sentinel, .listed, .data, .pinned], laidTests := true, laidLooks := .later }
def ParseWithUptoCardSaid : Prop := Claim7.holds Tryz.pinned (.plain (OpenSpec.upto parseWithSpec)) parseWithUptoCard

/-- THE SECOND FORM's CARD OF 'loupelaw13.SchemaBack'. -/
def schemaBackUptoCard : Claim7 := { stood := { row := schemaBackUptoRow, standIns := [], harness := (true, "1bbd99575f26633bf5e9c191501f4b2bca1057f4fb2ec02ab5b247032cb57521"), looks := true }, kinds := [], alts := [], laidByText := true, laidKinds := [.data, .data, .data, .data, .sentinel, .sentinel, .listed, .data, .pinned], laidTests := true, laidLooks := .later }
def SchemaBackUptoCardSaid : Prop := Claim7.holds Tryz.pinned (.plain (OpenSpec.upto schemaBackSpec)) schemaBackUptoCard

/-- THE SECOND FORM's CARD OF 'loupelaw13.SchemaJoins'. -/
def schemaJoinsUptoCard : Claim7 := { stood := { row := schemaJoinsUptoRow, standIns := [], harness := (true, "1bbd99575f26633bf5e9c191501f4b2bca1057f4fb2ec02ab5b247032cb57521"), looks := true }, kinds := [], alts := [], laidByText := true, laidKinds := [.data, .data, .data, .data, .sentinel, .sentinel, .listed, .data, .pinned], laidTests := true, laidLooks := .later }
def SchemaJoinsUptoCardSaid : Prop := Claim7.holds Tryz.pinned (.plain (OpenSpec.upto schemaJoinsSpec)) schemaJoinsUptoCard

/-- THE SECOND FORM's CARD OF 'loupelaw13.SchemaNest'. -/
def schemaNestUptoCard : Claim7 := { stood := { row := schemaNestUptoRow, standIns := [], harness := (true, "1bbd99575f26633bf5e9c191501f4b2bca1057f4fb2ec02ab5b247032cb57521"), looks := true }, kinds := [], alts := [], laidByText := true, laidKinds := [.data, .data, .data, .data, .sentinel, .sentinel, .listed, .data, .pinned], laidTests := true, laidLooks := .later }
def SchemaNestUptoCardSaid : Prop := Claim7.holds Tryz.pinned (.plain (OpenSpec.upto schemaNestSpec)) schemaNestUptoCard
end Rows
end Go.Proofs.YtmjpjbmeamnfpaaGreatDoor
