/-
  DERIVED. GIVEN WITH THE SEED: THE CARDS: each row of YtonmcakdofbjiaaGreatDoorRows.lean that lists a variable, with what it lists TIED to the program's text (the seventh form; the later family's looks); each row that meets fmt, with fmt's text TOLD by the authors' own Lean function (tested against real Go, not proved from fmt's source: count such statements apart). THE CARD IS WHAT COUNTS. Prove the row's statement (the work); the ties are given (YtonmcakdofbjiaaGreatDoorTie.lean); close each card by the builder's one call (the guide's Derived/Test/ToyasCard.lean, 'card_holds'). Laid BY PROGRAM, IN A SANDBOX (cutbox-door.mjs). By AI agents, Wed Nov 11 2026. No macro, syntax, notation, axiom, sorry.
-/
import Derived.Test.YtonmcakdofbjiaaGreatDoorRows
import GoSem.ClaimSeven
namespace Go.Proofs.YtonmcakdofbjiaaGreatDoor
namespace Rows

/-- THE TIED CARD OF 'winnowlaw03.ParseKept'. -/
def parseKeptCard : Claim7 := { stood := { row := parseKeptRow, standIns := [], harness := (true, "074e5f031ab4408176da533a2cefdc3afa561c3d929ccf1498e46e2ed11c108f"), looks := true }, kinds := [], alts := [], goes := true, laidByText := true, laidKinds := [.data, .data, .data, .sentinel, .sentinel, .sentinel], laidTests := true, laidLooks := .later }
def ParseKeptCardSaid : Prop := Claim7.holds Tryz.pinned (.plain (OpenSpec.ofChange parseKeptSpec)) parseKeptCard

/-- THE TIED CARD OF 'winnowlaw03.ParseMade'. -/
def parseMadeCard : Claim7 := { stood := { row := parseMadeRow, standIns := [], harness := (true, "074e5f031ab4408176da533a2cefdc3afa561c3d929ccf1498e46e2ed11c108f"), looks := true }, kinds := [], alts := [], goes := true, laidByText := true, laidKinds := [.data, .data, .data, .sentinel, .sentinel, .sentinel, .data, .data], laidTests := true, laidLooks := .later }
def ParseMadeCardSaid : Prop := Claim7.holds Tryz.pinned (.plain (OpenSpec.ofChange parseMadeSpec)) parseMadeCard

/-- THE TIED CARD OF 'winnowlaw03.ParseWraps'. -/
def parseWrapsCard : Claim7 := { stood := { row := parseWrapsRow, standIns := [], harness := (true, "074e5f031ab4408176da533a2cefdc3afa561c3d929ccf1498e46e2ed11c108f"), looks := true }, kinds := [], alts := [], goes := true, laidByText := true, laidKinds := [.data, .data, .data, .sentinel, .sentinel, .sentinel, .sentinel], laidTests := true, laidLooks := .later }
def ParseWrapsCardSaid : Prop := Claim7.holds Tryz.pinned (.plain (OpenSpec.ofChange parseWrapsSpec)) parseWrapsCard

/-- THE TIED CARD OF 'winnowlaw03.ParseParses'. -/
def parseParsesCard : Claim7 := { stood := { row := parseParsesRow, standIns := [], harness := (true, "074e5f031ab4408176da533a2cefdc3afa561c3d929ccf1498e46e2ed11c108f"), looks := true }, kinds := [], alts := [], goes := true, laidByText := true, laidKinds := [.data, .data, .data, .handle, .sentinel, .sentinel, .sentinel], laidTests := true, laidLooks := .later }
def ParseParsesCardSaid : Prop := Claim7.holds Tryz.pinned (.plain (OpenSpec.ofChange parseParsesSpec)) parseParsesCard

/-- THE TIED CARD OF 'winnowlaw03.ParseFront'. -/
def parseFrontCard : Claim7 := { stood := { row := parseFrontRow, standIns := [], harness := (true, "074e5f031ab4408176da533a2cefdc3afa561c3d929ccf1498e46e2ed11c108f"), looks := true }, kinds := [], alts := [], goes := true, laidByText := true, laidKinds := [.data, .data, .data, .handle, .sentinel, .sentinel, .sentinel], laidTests := true, laidLooks := .later }
def ParseFrontCardSaid : Prop := Claim7.holds Tryz.pinned (.plain (OpenSpec.ofChange parseFrontSpec)) parseFrontCard

/-- THE TIED CARD OF 'winnowlaw03.ParseNests'. -/
def parseNestsCard : Claim7 := { stood := { row := parseNestsRow, standIns := [], harness := (true, "074e5f031ab4408176da533a2cefdc3afa561c3d929ccf1498e46e2ed11c108f"), looks := true }, kinds := [], alts := [], goes := true, laidByText := true, laidKinds := [.data, .data, .data, .handle, .sentinel, .sentinel, .sentinel], laidTests := true, laidLooks := .later }
def ParseNestsCardSaid : Prop := Claim7.holds Tryz.pinned (.plain (OpenSpec.ofChange parseNestsSpec)) parseNestsCard

/-- THE TIED CARD OF 'winnowlaw04.CheckSites'. -/
def checkSitesCard : Claim7 := { stood := { row := checkSitesRow, standIns := [], harness := (true, "074e5f031ab4408176da533a2cefdc3afa561c3d929ccf1498e46e2ed11c108f"), looks := true }, kinds := [], alts := [], goes := true, laidByText := true, laidKinds := [.data, .data, .data, .handle, .sentinel, .sentinel, .sentinel], laidTests := true, laidLooks := .later }
def CheckSitesCardSaid : Prop := Claim7.holds Tryz.pinned (.plain (OpenSpec.ofChange checkSitesSpec)) checkSitesCard

/-- THE TIED CARD OF 'winnowlaw04.CheckOwn'. -/
def checkOwnCard : Claim7 := { stood := { row := checkOwnRow, standIns := [], harness := (true, "074e5f031ab4408176da533a2cefdc3afa561c3d929ccf1498e46e2ed11c108f"), looks := true }, kinds := [], alts := [], goes := true, laidByText := true, laidKinds := [.data, .data, .data, .handle, .sentinel, .sentinel, .sentinel], laidTests := true, laidLooks := .later }
def CheckOwnCardSaid : Prop := Claim7.holds Tryz.pinned (.plain (OpenSpec.ofChange checkOwnSpec)) checkOwnCard

/-- THE TIED CARD OF 'winnowlaw04.CheckAll'. -/
def checkAllCard : Claim7 := { stood := { row := checkAllRow, standIns := [], harness := (true, "074e5f031ab4408176da533a2cefdc3afa561c3d929ccf1498e46e2ed11c108f"), looks := true }, kinds := [], alts := [], goes := true, laidByText := true, laidKinds := [.data, .data, .data, .handle, .sentinel, .sentinel, .sentinel], laidTests := true, laidLooks := .later }
def CheckAllCardSaid : Prop := Claim7.holds Tryz.pinned (.plain (OpenSpec.ofChange checkAllSpec)) checkAllCard

/-- THE TIED CARD OF 'winnowlaw04.CheckNames'. -/
def checkNamesCard : Claim7 := { stood := { row := checkNamesRow, standIns := [], harness := (true, "074e5f031ab4408176da533a2cefdc3afa561c3d929ccf1498e46e2ed11c108f"), looks := true }, kinds := [], alts := [], goes := true, laidByText := true, laidKinds := [.data, .data, .data, .handle, .sentinel, .sentinel, .sentinel], laidTests := true, laidLooks := .later }
def CheckNamesCardSaid : Prop := Claim7.holds Tryz.pinned (.plain (OpenSpec.ofChange checkNamesSpec)) checkNamesCard

/-- THE SECOND FORM's CARD OF 'winnowlaw03.ParseKept'. -/
def parseKeptUptoCard : Claim7 := { stood := { row := parseKeptUptoRow, standIns := [], harness := (true, "074e5f031ab4408176da533a2cefdc3afa561c3d929ccf1498e46e2ed11c108f"), looks := true }, kinds := [], alts := [], goes := true, laidByText := true, laidKinds := [.data, .data, .data, .sentinel, .sentinel, .sentinel], laidTests := true, laidLooks := .later }
def ParseKeptUptoCardSaid : Prop := Claim7.holds Tryz.pinned (.plain (OpenSpec.upto parseKeptSpec)) parseKeptUptoCard

/-- THE SECOND FORM's CARD OF 'winnowlaw03.ParseMade'. -/
def parseMadeUptoCard : Claim7 := { stood := { row := parseMadeUptoRow, standIns := [], harness := (true, "074e5f031ab4408176da533a2cefdc3afa561c3d929ccf1498e46e2ed11c108f"), looks := true }, kinds := [], alts := [], goes := true, laidByText := true, laidKinds := [.data, .data, .data, .sentinel, .sentinel, .sentinel, .data, .data], laidTests := true, laidLooks := .later }
def ParseMadeUptoCardSaid : Prop := Claim7.holds Tryz.pinned (.plain (OpenSpec.upto parseMadeSpec)) parseMadeUptoCard

/-- THE SECOND FORM's CARD OF 'winnowlaw03.ParseWraps'. -/
def parseWrapsUptoCard : Claim7 := { stood := { row := parseWrapsUptoRow, standIns := [], harness := (true, "074e5f031ab4408176da533a2cefdc3afa561c3d929ccf1498e46e2ed11c108f"), looks := true }, kinds := [], alts := [], goes := true, laidByText := true, laidKinds := [.data, .data, .data, .sentinel, .sentinel, .sentinel, .sentinel], laidTests := true, laidLooks := .later }
def ParseWrapsUptoCardSaid : Prop := Claim7.holds Tryz.pinned (.plain (OpenSpec.upto parseWrapsSpec)) parseWrapsUptoCard

/-- THE SECOND FORM's CARD OF 'winnowlaw03.ParseParses'. -/
def parseParsesUptoCard : Claim7 := { stood := { row := parseParsesUptoRow, standIns := [], harness := (true, "074e5f031ab4408176da533a2cefdc3afa561c3d929ccf1498e46e2ed11c108f"), looks := true }, kinds := [], alts := [], goes := true, laidByText := true, laidKinds := [.data, .data, .data, .handle, .sentinel, .sentinel, .sentinel], laidTests := true, laidLooks := .later }
def ParseParsesUptoCardSaid : Prop := Claim7.holds Tryz.pinned (.plain (OpenSpec.upto parseParsesSpec)) parseParsesUptoCard

/-- THE SECOND FORM's CARD OF 'winnowlaw03.ParseFront'. -/
def parseFrontUptoCard : Claim7 := { stood := { row := parseFrontUptoRow, standIns := [], harness := (true, "074e5f031ab4408176da533a2cefdc3afa561c3d929ccf1498e46e2ed11c108f"), looks := true }, kinds := [], alts := [], goes := true, laidByText := true, laidKinds := [.data, .data, .data, .handle, .sentinel, .sentinel, .sentinel], laidTests := true, laidLooks := .later }
def ParseFrontUptoCardSaid : Prop := Claim7.holds Tryz.pinned (.plain (OpenSpec.upto parseFrontSpec)) parseFrontUptoCard

/-- THE SECOND FORM's CARD OF 'winnowlaw03.ParseNests'. -/
def parseNestsUptoCard : Claim7 := { stood := { row := parseNestsUptoRow, standIns := [], harness := (true, "074e5f031ab4408176da533a2cefdc3afa561c3d929ccf1498e46e2ed11c108f"), looks := true }, kinds := [], alts := [], goes := true, laidByText := true, laidKinds := [.data, .data, .data, .handle, .sentinel, .sentinel, .sentinel], laidTests := true, laidLooks := .later }
def ParseNestsUptoCardSaid : Prop := Claim7.holds Tryz.pinned (.plain (OpenSpec.upto parseNestsSpec)) parseNestsUptoCard

/-- THE SECOND FORM's CARD OF 'winnowlaw04.CheckSites'. -/
def checkSitesUptoCard : Claim7 := { stood := { row := checkSitesUptoRow, standIns := [], harness := (true, "074e5f031ab4408176da533a2cefdc3afa561c3d929ccf1498e46e2ed11c108f"), looks := true }, kinds := [], alts := [], goes := true, laidByText := true, laidKinds := [.data, .data, .data, .handle, .sentinel, .sentinel, .sentinel], laidTests := true, laidLooks := .later }
def CheckSitesUptoCardSaid : Prop := Claim7.holds Tryz.pinned (.plain (OpenSpec.upto checkSitesSpec)) checkSitesUptoCard

/-- THE SECOND FORM's CARD OF 'winnowlaw04.CheckOwn'. -/
def checkOwnUptoCard : Claim7 := { stood := { row := checkOwnUptoRow, standIns := [], harness := (true, "074e5f031ab4408176da533a2cefdc3afa561c3d929ccf1498e46e2ed11c108f"), looks := true }, kinds := [], alts := [], goes := true, laidByText := true, laidKinds := [.data, .data, .data, .handle, .sentinel, .sentinel, .sentinel], laidTests := true, laidLooks := .later }
def CheckOwnUptoCardSaid : Prop := Claim7.holds Tryz.pinned (.plain (OpenSpec.upto checkOwnSpec)) checkOwnUptoCard

/-- THE SECOND FORM's CARD OF 'winnowlaw04.CheckAll'. -/
def checkAllUptoCard : Claim7 := { stood := { row := checkAllUptoRow, standIns := [], harness := (true, "074e5f031ab4408176da533a2cefdc3afa561c3d929ccf1498e46e2ed11c108f"), looks := true }, kinds := [], alts := [], goes := true, laidByText := true, laidKinds := [.data, .data, .data, .handle, .sentinel, .sentinel, .sentinel], laidTests := true, laidLooks := .later }
def CheckAllUptoCardSaid : Prop := Claim7.holds Tryz.pinned (.plain (OpenSpec.upto checkAllSpec)) checkAllUptoCard

/-- THE SECOND FORM's CARD OF 'winnowlaw04.CheckNames'. -/
def checkNamesUptoCard : Claim7 := { stood := { row := checkNamesUptoRow, standIns := [], harness := (true, "074e5f031ab4408176da533a2cefdc3afa561c3d929ccf1498e46e2ed11c108f"), looks := true }, kinds := [], alts := [], goes := true, laidByText := true, laidKinds := [.data, .data, .data, .handle, .sentinel, .sentinel, .sentinel], laidTests := true, laidLooks := .later }
def CheckNamesUptoCardSaid : Prop := Claim7.holds Tryz.pinned (.plain (OpenSpec.upto checkNamesSpec)) checkNamesUptoCard
end Rows
end Go.Proofs.YtonmcakdofbjiaaGreatDoor
