/-
  DERIVED. GIVEN WITH THE SEED: THE CARDS: each row of YthpanohdfelkhaaGreatDoorRows.lean that lists a variable, with what it lists TIED to the program's text (the seventh form; the later family's looks); each row that meets fmt, with fmt's text TOLD by the authors' own Lean function (tested against real Go, not proved from fmt's source: count such statements apart). THE CARD IS WHAT COUNTS. Prove the row's statement (the work); the ties are given (YthpanohdfelkhaaGreatDoorTie.lean); close each card by the builder's one call (the guide's Derived/Test/ToyasCard.lean, 'card_holds'). Laid BY PROGRAM, IN A SANDBOX (cutbox-door.mjs). By AI agents, Wed Nov 11 2026. No macro, syntax, notation, axiom, sorry.
-/
import Derived.Test.YthpanohdfelkhaaGreatDoorRows
import GoSem.ClaimSeven
namespace Go.Proofs.YthpanohdfelkhaaGreatDoor
namespace Rows

/-- THE TIED CARD OF 'mirtowerlaw21.ParserSpaces'. -/
def parserSpacesCard : Claim7 := { stood := { row := parserSpacesRow, standIns := [], harness := (true, "df01220c62650b915774a4dba82612e2ecbba2808916eaa0cd78d64bdc1a0cf6"), looks := true }, kinds := [], alts := [], laidByText := true, laidKinds := [.data, .data, .data, .data, .sentinel, .sentinel, .listed, .data, .widerDeep, .widerDeep, .pinned], laidTests := true, laidLooks := .later }
def ParserSpacesCardSaid : Prop := Claim7.holds Tryz.pinned (.plain (OpenSpec.ofChange parserSpacesSpec)) parserSpacesCard

/-- THE TIED CARD OF 'mirtowerlaw21.ParserDepth'. -/
def parserDepthCard : Claim7 := { stood := { row := parserDepthRow, standIns := [], harness := (true, "df01220c62650b915774a4dba82612e2ecbba2808916eaa0cd78d64bdc1a0cf6"), looks := true }, kinds := [], alts := [], laidByText := true, laidKinds := [.data, .data, .data, .data, .sentinel, .sentinel, .listed, .data, .widerDeep, .widerDeep, .pinned], laidTests := true, laidLooks := .later }
def ParserDepthCardSaid : Prop := Claim7.holds Tryz.pinned (.plain (OpenSpec.ofChange parserDepthSpec)) parserDepthCard

/-- THE SECOND FORM's CARD OF 'mirtowerlaw21.ParserSpaces'. -/
def parserSpacesUptoCard : Claim7 := { stood := { row := parserSpacesUptoRow, standIns := [], harness := (true, "df01220c62650b915774a4dba82612e2ecbba2808916eaa0cd78d64bdc1a0cf6"), looks := true }, kinds := [], alts := [], laidByText := true, laidKinds := [.data, .data, .data, .data, .sentinel, .sentinel, .listed, .data, .widerDeep, .widerDeep, .pinned], laidTests := true, laidLooks := .later }
def ParserSpacesUptoCardSaid : Prop := Claim7.holds Tryz.pinned (.plain (OpenSpec.upto parserSpacesSpec)) parserSpacesUptoCard

/-- THE SECOND FORM's CARD OF 'mirtowerlaw21.ParserDepth'. -/
def parserDepthUptoCard : Claim7 := { stood := { row := parserDepthUptoRow, standIns := [], harness := (true, "df01220c62650b915774a4dba82612e2ecbba2808916eaa0cd78d64bdc1a0cf6"), looks := true }, kinds := [], alts := [], laidByText := true, laidKinds := [.data, .data, .data, .data, .sentinel, .sentinel, .listed, .data, .widerDeep, .widerDeep, .pinned], laidTests := true, laidLooks := .later }
def ParserDepthUptoCardSaid : Prop := Claim7.holds Tryz.pinned (.plain (OpenSpec.upto parserDepthSpec)) parserDepthUptoCard
end Rows
end Go.Proofs.YthpanohdfelkhaaGreatDoor
