/-
  DERIVED. GIVEN WITH THE SEED: THE CARDS: each row of YtnoegalemkbbbaaGreatDoorRows.lean that lists a variable, with what it lists TIED to the program's text (the seventh form; the later family's looks); each row that meets fmt, with fmt's text TOLD by the authors' own Lean function (tested against real Go, not proved from fmt's source: count such statements apart). THE CARD IS WHAT COUNTS. Prove the row's statement (the work); the ties are given (YtnoegalemkbbbaaGreatDoorTie.lean); close each card by the builder's one call (the guide's Derived/Test/ToyasCard.lean, 'card_holds'). Laid BY PROGRAM, IN A SANDBOX (cutbox-door.mjs). By AI agents, Wed Nov 11 2026. No macro, syntax, notation, axiom, sorry.
-/
import Derived.Test.YtnoegalemkbbbaaGreatDoorRows
import GoSem.ClaimSeven
namespace Go.Proofs.YtnoegalemkbbbaaGreatDoor
namespace Rows

/-- THE TIED CARD OF 'loupelaw17.CheckSelects'. -/
def checkSelectsCard : Claim7 := { stood := { row := checkSelectsRow, standIns := [], harness := (true, "a1f9a37d821b26df07c79ed42200ad60ac1aade63d16cd0c585d4f902d2b7517"), looks := true }, kinds := [], alts := [], laidByText := true, laidKinds := [.data, .data, .data, .data, .sentinel, .sentinel, .pinned], laidTests := true, laidLooks := .later }
def CheckSelectsCardSaid : Prop := Claim7.holds Tryz.pinned (.plain (OpenSpec.ofChange checkSelectsSpec)) checkSelectsCard

/-- THE TIED CARD OF 'loupelaw17.CheckSound'. -/
def checkSoundCard : Claim7 := { stood := { row := checkSoundRow, standIns := [], harness := (true, "a1f9a37d821b26df07c79ed42200ad60ac1aade63d16cd0c585d4f902d2b7517"), looks := true }, kinds := [], alts := [], laidByText := true, laidKinds := [.data, .data, .data, .data, .sentinel, .sentinel, .pinned], laidTests := true, laidLooks := .later }
def CheckSoundCardSaid : Prop := Claim7.holds Tryz.pinned (.plain (OpenSpec.ofChange checkSoundSpec)) checkSoundCard

/-- THE TIED CARD OF 'loupelaw17.CheckSelect'. -/
def checkSelectCard : Claim7 := { stood := { row := checkSelectRow, standIns := [], harness := (true, "a1f9a37d821b26df07c79ed42200ad60ac1aade63d16cd0c585d4f902d2b7517"), looks := true }, kinds := [], alts := [], laidByText := true, laidKinds := [.data, .data, .data, .data, .sentinel, .sentinel, .pinned], laidTests := true, laidLooks := .later }
def CheckSelectCardSaid : Prop := Claim7.holds Tryz.pinned (.plain (OpenSpec.ofChange checkSelectSpec)) checkSelectCard

/-- THE TIED CARD OF 'loupelaw17.CheckPipe'. -/
def checkPipeCard : Claim7 := { stood := { row := checkPipeRow, standIns := [], harness := (true, "a1f9a37d821b26df07c79ed42200ad60ac1aade63d16cd0c585d4f902d2b7517"), looks := true }, kinds := [], alts := [], laidByText := true, laidKinds := [.data, .data, .data, .data, .sentinel, .sentinel, .pinned], laidTests := true, laidLooks := .later }
def CheckPipeCardSaid : Prop := Claim7.holds Tryz.pinned (.plain (OpenSpec.ofChange checkPipeSpec)) checkPipeCard

/-- THE TIED CARD OF 'loupelaw17.CheckSees'. -/
def checkSeesCard : Claim7 := { stood := { row := checkSeesRow, standIns := [], harness := (true, "a1f9a37d821b26df07c79ed42200ad60ac1aade63d16cd0c585d4f902d2b7517"), looks := true }, kinds := [], alts := [], laidByText := true, laidKinds := [.data, .data, .data, .data, .sentinel, .sentinel, .pinned], laidTests := true, laidLooks := .later }
def CheckSeesCardSaid : Prop := Claim7.holds Tryz.pinned (.plain (OpenSpec.ofChange checkSeesSpec)) checkSeesCard

/-- THE TIED CARD OF 'loupelaw17.CheckValues'. -/
def checkValuesCard : Claim7 := { stood := { row := checkValuesRow, standIns := [], harness := (true, "a1f9a37d821b26df07c79ed42200ad60ac1aade63d16cd0c585d4f902d2b7517"), looks := true }, kinds := [], alts := [], laidByText := true, laidKinds := [.data, .data, .data, .data, .sentinel, .sentinel, .pinned], laidTests := true, laidLooks := .later }
def CheckValuesCardSaid : Prop := Claim7.holds Tryz.pinned (.plain (OpenSpec.ofChange checkValuesSpec)) checkValuesCard

/-- THE SECOND FORM's CARD OF 'loupelaw17.CheckSelects'. -/
def checkSelectsUptoCard : Claim7 := { stood := { row := checkSelectsUptoRow, standIns := [], harness := (true, "a1f9a37d821b26df07c79ed42200ad60ac1aade63d16cd0c585d4f902d2b7517"), looks := true }, kinds := [], alts := [], laidByText := true, laidKinds := [.data, .data, .data, .data, .sentinel, .sentinel, .pinned], laidTests := true, laidLooks := .later }
def CheckSelectsUptoCardSaid : Prop := Claim7.holds Tryz.pinned (.plain (OpenSpec.upto checkSelectsSpec)) checkSelectsUptoCard

/-- THE SECOND FORM's CARD OF 'loupelaw17.CheckSound'. -/
def checkSoundUptoCard : Claim7 := { stood := { row := checkSoundUptoRow, standIns := [], harness := (true, "a1f9a37d821b26df07c79ed42200ad60ac1aade63d16cd0c585d4f902d2b7517"), looks := true }, kinds := [], alts := [], laidByText := true, laidKinds := [.data, .data, .data, .data, .sentinel, .sentinel, .pinned], laidTests := true, laidLooks := .later }
def CheckSoundUptoCardSaid : Prop := Claim7.holds Tryz.pinned (.plain (OpenSpec.upto checkSoundSpec)) checkSoundUptoCard

/-- THE SECOND FORM's CARD OF 'loupelaw17.CheckSelect'. -/
def checkSelectUptoCard : Claim7 := { stood := { row := checkSelectUptoRow, standIns := [], harness := (true, "a1f9a37d821b26df07c79ed42200ad60ac1aade63d16cd0c585d4f902d2b7517"), looks := true }, kinds := [], alts := [], laidByText := true, laidKinds := [.data, .data, .data, .data, .sentinel, .sentinel, .pinned], laidTests := true, laidLooks := .later }
def CheckSelectUptoCardSaid : Prop := Claim7.holds Tryz.pinned (.plain (OpenSpec.upto checkSelectSpec)) checkSelectUptoCard

/-- THE SECOND FORM's CARD OF 'loupelaw17.CheckPipe'. -/
def checkPipeUptoCard : Claim7 := { stood := { row := checkPipeUptoRow, standIns := [], harness := (true, "a1f9a37d821b26df07c79ed42200ad60ac1aade63d16cd0c585d4f902d2b7517"), looks := true }, kinds := [], alts := [], laidByText := true, laidKinds := [.data, .data, .data, .data, .sentinel, .sentinel, .pinned], laidTests := true, laidLooks := .later }
def CheckPipeUptoCardSaid : Prop := Claim7.holds Tryz.pinned (.plain (OpenSpec.upto checkPipeSpec)) checkPipeUptoCard

/-- THE SECOND FORM's CARD OF 'loupelaw17.CheckSees'. -/
def checkSeesUptoCard : Claim7 := { stood := { row := checkSeesUptoRow, standIns := [], harness := (true, "a1f9a37d821b26df07c79ed42200ad60ac1aade63d16cd0c585d4f902d2b7517"), looks := true }, kinds := [], alts := [], laidByText := true, laidKinds := [.data, .data, .data, .data, .sentinel, .sentinel, .pinned], laidTests := true, laidLooks := .later }
def CheckSeesUptoCardSaid : Prop := Claim7.holds Tryz.pinned (.plain (OpenSpec.upto checkSeesSpec)) checkSeesUptoCard

/-- THE SECOND FORM's CARD OF 'loupelaw17.CheckValues'. -/
def checkValuesUptoCard : Claim7 := { stood := { row := checkValuesUptoRow, standIns := [], harness := (true, "a1f9a37d821b26df07c79ed42200ad60ac1aade63d16cd0c585d4f902d2b7517"), looks := true }, kinds := [], alts := [], laidByText := true, laidKinds := [.data, .data, .data, .data, .sentinel, .sentinel, .pinned], laidTests := true, laidLooks := .later }
def CheckValuesUptoCardSaid : Prop := Claim7.holds Tryz.pinned (.plain (OpenSpec.upto checkValuesSpec)) checkValuesUptoCard
end Rows
end Go.Proofs.YtnoegalemkbbbaaGreatDoor
