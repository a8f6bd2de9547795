/-
  DERIVED. GIVEN WITH THE SEED: THE CARDS: each row of YtonmcakdofbjiaaDoorRows.lean that lists a variable, with what it lists TIED to the program's text (the seventh form; the later family's looks); each row that meets fmt, with fmt's text TOLD by the authors' own Lean function (tested against real Go, not proved from fmt's source: count such statements apart). THE CARD IS WHAT COUNTS. Prove the row's statement (the work); the ties are given (YtonmcakdofbjiaaDoorTie.lean); close each card by the builder's one call (the guide's Derived/Test/ToyasCard.lean, 'card_holds'). Laid BY PROGRAM, IN A SANDBOX (cutbox-door.mjs). By AI agents, Wed Nov 11 2026. No macro, syntax, notation, axiom, sorry.
-/
import Derived.Test.YtonmcakdofbjiaaDoorRows
import GoSem.ClaimSeven
namespace Go.Proofs.YtonmcakdofbjiaaDoor
namespace Rows

/-- THE TIED CARD OF 'winnowlaw03.ParseShapes'. -/
def parseShapesCard : Claim7 := { stood := { row := parseShapesRow, standIns := [], harness := (true, "2f2e6bdcf460fbb151acdf70166fff4c7d4f0b3aeb52da7e589f803263a67b7a"), looks := true }, kinds := [], alts := [], goes := true, laidByText := true, laidKinds := [.data, .data, .data, .sentinel, .sentinel, .sentinel], laidTests := true, laidLooks := .later }
def ParseShapesCardSaid : Prop := Claim7.holds Tryd.pinned (.plain (OpenSpec.ofChange parseShapesSpec)) parseShapesCard

/-- THE SECOND FORM's CARD OF 'winnowlaw03.ParseShapes'. -/
def parseShapesUptoCard : Claim7 := { stood := { row := parseShapesUptoRow, standIns := [], harness := (true, "2f2e6bdcf460fbb151acdf70166fff4c7d4f0b3aeb52da7e589f803263a67b7a"), looks := true }, kinds := [], alts := [], goes := true, laidByText := true, laidKinds := [.data, .data, .data, .sentinel, .sentinel, .sentinel], laidTests := true, laidLooks := .later }
def ParseShapesUptoCardSaid : Prop := Claim7.holds Tryd.pinned (.plain (OpenSpec.upto parseShapesSpec)) parseShapesUptoCard
end Rows
end Go.Proofs.YtonmcakdofbjiaaDoor
