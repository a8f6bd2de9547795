/-
  NARROWER THAN 'FOR EVERY INPUT', by the rows' own cells (each row's printed sentence says how): ParseKept: laid · ParseMade: laid · ParseWraps: laid · ParseParses: laid · ParseFront: laid · ParseNests: laid · CheckSites: laid · CheckOwn: laid · CheckAll: laid · CheckNames: laid.
  DERIVED. THE GIVEN ROWS OF THIS SEAT. 10 by the template 'for every input the law returns true; each argument reads behind the call as it read before'; 0 by the template 'total and deterministic' (their statements: YtonmcakdofbjiaaGreatDoorTotals.lean).
  GIVEN WITH THE SEED: the statements are not yours to turn. If you find one false, say at which input.
  Laid BY PROGRAM, IN A SANDBOX (cutbox-rows.mjs): the forced cells as the released guide's own fill.sh prints them over the translation d4a066ebaf15e76f… (all of the seat's roots in one cut). By AI agents, Wed Nov 11 2026. No macro, syntax, notation, axiom, sorry.
-/
import Derived.Test.YtonmcakdofbjiaaGreatDoorChecked
import GoSem.Claim
import GoSem.ClaimJoined
import GoSem.ClaimMapViews
import Derived.JoinedTies
import Derived.KernelRfl
namespace Go.Proofs.YtonmcakdofbjiaaGreatDoor
/- THE CELL 'sum', in the pinned program and in every row, IS THE sha256 OF THE DUMP (.gsa) THAT YtonmcakdofbjiaaGreatDoorProg.lean LOADS. Nothing in Lean hashes anything: it is a label: what it is worth is what the hold of that sum in a sandbox is worth. -/
noncomputable def Tryz.pinned : Pinned := { name := "ytonmcakdofbjiaagreatdoor", sum := "d4a066ebaf15e76fe378dae59503895f754059554f5fcc44ce1496e047cc9a9d", checked := Tryz.checked }
namespace Rows
def none {H : Type} : Left H := { results := [], args := [] }

/- WHAT THE LISTED PACKAGE-LEVEL VARIABLES READ AS WHEN THE CALL BEGINS. Each datum BY PROGRAM (the guide's laid-datum.mjs) off the statement by which the dump's own 'gosem.cut.vars' lays the variable. In a bare row this is a premise. The card (YtonmcakdofbjiaaGreatDoorCards.lean) ties it to the program's text. -/
def laid_math_bits_deBruijn32tab {H : Type} : DataW H := .agg [.lit (.int .u8 0), .lit (.int .u8 1), .lit (.int .u8 28), .lit (.int .u8 2), .lit (.int .u8 29), .lit (.int .u8 14), .lit (.int .u8 24), .lit (.int .u8 3), .lit (.int .u8 30), .lit (.int .u8 22), .lit (.int .u8 20), .lit (.int .u8 15), .lit (.int .u8 25), .lit (.int .u8 17), .lit (.int .u8 4), .lit (.int .u8 8), .lit (.int .u8 31), .lit (.int .u8 27), .lit (.int .u8 13), .lit (.int .u8 23), .lit (.int .u8 21), .lit (.int .u8 19), .lit (.int .u8 16), .lit (.int .u8 7), .lit (.int .u8 26), .lit (.int .u8 12), .lit (.int .u8 18), .lit (.int .u8 6), .lit (.int .u8 11), .lit (.int .u8 5), .lit (.int .u8 10), .lit (.int .u8 9)]
def laid_math_bits_deBruijn64tab {H : Type} : DataW H := .agg [.lit (.int .u8 0), .lit (.int .u8 1), .lit (.int .u8 56), .lit (.int .u8 2), .lit (.int .u8 57), .lit (.int .u8 49), .lit (.int .u8 28), .lit (.int .u8 3), .lit (.int .u8 61), .lit (.int .u8 58), .lit (.int .u8 42), .lit (.int .u8 50), .lit (.int .u8 38), .lit (.int .u8 29), .lit (.int .u8 17), .lit (.int .u8 4), .lit (.int .u8 62), .lit (.int .u8 47), .lit (.int .u8 59), .lit (.int .u8 36), .lit (.int .u8 45), .lit (.int .u8 43), .lit (.int .u8 51), .lit (.int .u8 22), .lit (.int .u8 53), .lit (.int .u8 39), .lit (.int .u8 33), .lit (.int .u8 30), .lit (.int .u8 24), .lit (.int .u8 18), .lit (.int .u8 12), .lit (.int .u8 5), .lit (.int .u8 63), .lit (.int .u8 55), .lit (.int .u8 48), .lit (.int .u8 27), .lit (.int .u8 60), .lit (.int .u8 41), .lit (.int .u8 37), .lit (.int .u8 16), .lit (.int .u8 46), .lit (.int .u8 35), .lit (.int .u8 44), .lit (.int .u8 21), .lit (.int .u8 52), .lit (.int .u8 32), .lit (.int .u8 23), .lit (.int .u8 11), .lit (.int .u8 54), .lit (.int .u8 26), .lit (.int .u8 40), .lit (.int .u8 15), .lit (.int .u8 34), .lit (.int .u8 20), .lit (.int .u8 31), .lit (.int .u8 10), .lit (.int .u8 25), .lit (.int .u8 14), .lit (.int .u8 19), .lit (.int .u8 9), .lit (.int .u8 13), .lit (.int .u8 8), .lit (.int .u8 7), .lit (.int .u8 6)]
def laid_internal_strconv_uint64pow10 {H : Type} : DataW H := .agg [.lit (.int .u64 1), .lit (.int .u64 10), .lit (.int .u64 100), .lit (.int .u64 1000), .lit (.int .u64 10000), .lit (.int .u64 100000), .lit (.int .u64 1000000), .lit (.int .u64 10000000), .lit (.int .u64 100000000), .lit (.int .u64 1000000000), .lit (.int .u64 10000000000), .lit (.int .u64 100000000000), .lit (.int .u64 1000000000000), .lit (.int .u64 10000000000000), .lit (.int .u64 100000000000000), .lit (.int .u64 1000000000000000), .lit (.int .u64 10000000000000000), .lit (.int .u64 100000000000000000), .lit (.int .u64 1000000000000000000), .lit (.int .u64 10000000000000000000)]
def laid_strconv_ErrRange {H : Type} : DataW H := .iface "*errors.errorString" (.ptr (.agg [.lit (.string [118, 97, 108, 117, 101, 32, 111, 117, 116, 32, 111, 102, 32, 114, 97, 110, 103, 101])]))
def laid_strconv_ErrSyntax {H : Type} : DataW H := .iface "*errors.errorString" (.ptr (.agg [.lit (.string [105, 110, 118, 97, 108, 105, 100, 32, 115, 121, 110, 116, 97, 120])]))
def laid_winnow_api_ErrReject {H : Type} : DataW H := .iface "*errors.errorString" (.ptr (.agg [.lit (.string [116, 104, 101, 32, 112, 114, 111, 103, 114, 97, 109, 32, 105, 115, 32, 114, 101, 102, 117, 115, 101, 100])]))
def laid_winnow_winnowlaw03_fills {H : Type} : DataW H := .agg [.lit (.string [32]), .lit (.string [10]), .lit (.string [9, 13]), .lit (.string [32, 35, 59, 32, 125, 10]), .lit (.string [32, 32])]
def laid_winnow_winnowlaw03_names {H : Type} : DataW H := .agg [.lit (.string []), .lit (.string [45]), .lit (.string [33]), .lit (.string [43]), .lit (.string [45]), .lit (.string [42]), .lit (.string [47]), .lit (.string [37]), .lit (.string [60]), .lit (.string [60, 61]), .lit (.string [62]), .lit (.string [62, 61]), .lit (.string [61, 61]), .lit (.string [33, 61]), .lit (.string [38, 38]), .lit (.string [124, 124])]
def laid_winnow_api_ErrConfig {H : Type} : DataW H := .iface "*errors.errorString" (.ptr (.agg [.lit (.string [116, 104, 101, 32, 99, 111, 110, 102, 105, 103, 117, 114, 97, 116, 105, 111, 110, 32, 105, 115, 32, 114, 101, 102, 117, 115, 101, 100])]))
def laid_errors_errorType {H : Type} : DataW H := .iface "internal/reflectlite.rtype" (.agg [.ptr (.lit (.string [101, 114, 114, 111, 114]))])

/-- 'winnowlaw03.ParseKept': WHATEVER THE INPUT: true; the input reads as it did. -/
def parseKeptSpec : ChangeSpec := { name := "parseKept", fn := fun _ => fun
  | [d1, d2] => { results := [.lit (.bool true)], args := [d1, d2] }
  | _ => none }
def parseKeptRow : OpenClaim := { program := "ytonmcakdofbjiaagreatdoor", sum := "d4a066ebaf15e76fe378dae59503895f754059554f5fcc44ce1496e047cc9a9d", func := "winnow/winnowlaw03.ParseKept", spec := "parseKept", unfollowed := true, recurses := true, named := ["strconv.ErrSyntax", "strconv.ErrRange", "internal/strconv.uint64pow10", "math/bits.deBruijn32tab", "math/bits.deBruijn64tab", "winnow/api.ErrReject"], leaving := true, apart := false, laid := [("math/bits.deBruijn32tab", laid_math_bits_deBruijn32tab), ("math/bits.deBruijn64tab", laid_math_bits_deBruijn64tab), ("internal/strconv.uint64pow10", laid_internal_strconv_uint64pow10), ("strconv.ErrRange", laid_strconv_ErrRange), ("strconv.ErrSyntax", laid_strconv_ErrSyntax), ("winnow/api.ErrReject", laid_winnow_api_ErrReject)] }
def ParseKeptSaid : Prop := parseKeptRow.holds Tryz.pinned (OpenSpec.ofChange parseKeptSpec)

/-- ITS FALSE NEIGHBOUR: 'it returns false'. Refute it at one input. -/
def parseKeptWrong : ChangeSpec := { name := "parseKept", fn := fun _ => fun
  | [d1, d2] => { results := [.lit (.bool false)], args := [d1, d2] }
  | _ => none }
def ParseKeptWrongFalsely : Prop := parseKeptRow.holds Tryz.pinned (OpenSpec.ofChange parseKeptWrong)

/-- 'winnowlaw03.ParseMade': WHATEVER THE INPUT: true; the input reads as it did. -/
def parseMadeSpec : ChangeSpec := { name := "parseMade", fn := fun _ => fun
  | [d1, d2] => { results := [.lit (.bool true)], args := [d1, d2] }
  | _ => none }
def parseMadeRow : OpenClaim := { program := "ytonmcakdofbjiaagreatdoor", sum := "d4a066ebaf15e76fe378dae59503895f754059554f5fcc44ce1496e047cc9a9d", func := "winnow/winnowlaw03.ParseMade", spec := "parseMade", unfollowed := true, recurses := true, named := ["strconv.ErrSyntax", "strconv.ErrRange", "internal/strconv.uint64pow10", "math/bits.deBruijn32tab", "math/bits.deBruijn64tab", "winnow/api.ErrReject", "winnow/winnowlaw03.fills", "winnow/winnowlaw03.names"], leaving := true, apart := false, laid := [("math/bits.deBruijn32tab", laid_math_bits_deBruijn32tab), ("math/bits.deBruijn64tab", laid_math_bits_deBruijn64tab), ("internal/strconv.uint64pow10", laid_internal_strconv_uint64pow10), ("strconv.ErrRange", laid_strconv_ErrRange), ("strconv.ErrSyntax", laid_strconv_ErrSyntax), ("winnow/api.ErrReject", laid_winnow_api_ErrReject), ("winnow/winnowlaw03.fills", laid_winnow_winnowlaw03_fills), ("winnow/winnowlaw03.names", laid_winnow_winnowlaw03_names)] }
def ParseMadeSaid : Prop := parseMadeRow.holds Tryz.pinned (OpenSpec.ofChange parseMadeSpec)

/-- ITS FALSE NEIGHBOUR: 'it returns false'. Refute it at one input. -/
def parseMadeWrong : ChangeSpec := { name := "parseMade", fn := fun _ => fun
  | [d1, d2] => { results := [.lit (.bool false)], args := [d1, d2] }
  | _ => none }
def ParseMadeWrongFalsely : Prop := parseMadeRow.holds Tryz.pinned (OpenSpec.ofChange parseMadeWrong)

/-- 'winnowlaw03.ParseWraps': WHATEVER THE INPUT: true; the input reads as it did. -/
def parseWrapsSpec : ChangeSpec := { name := "parseWraps", fn := fun _ => fun
  | [d] => { results := [.lit (.bool true)], args := [d] }
  | _ => none }
def parseWrapsRow : OpenClaim := { program := "ytonmcakdofbjiaagreatdoor", sum := "d4a066ebaf15e76fe378dae59503895f754059554f5fcc44ce1496e047cc9a9d", func := "winnow/winnowlaw03.ParseWraps", spec := "parseWraps", inPlace := ["internal/reflectlite.TypeOf"], unfollowed := true, recurses := true, named := ["winnow/api.ErrReject", "winnow/api.ErrConfig", "strconv.ErrSyntax", "strconv.ErrRange", "internal/strconv.uint64pow10", "math/bits.deBruijn32tab", "math/bits.deBruijn64tab"], leaving := true, apart := false, laid := [("math/bits.deBruijn32tab", laid_math_bits_deBruijn32tab), ("math/bits.deBruijn64tab", laid_math_bits_deBruijn64tab), ("internal/strconv.uint64pow10", laid_internal_strconv_uint64pow10), ("strconv.ErrRange", laid_strconv_ErrRange), ("strconv.ErrSyntax", laid_strconv_ErrSyntax), ("winnow/api.ErrReject", laid_winnow_api_ErrReject), ("winnow/api.ErrConfig", laid_winnow_api_ErrConfig)] }
def ParseWrapsSaid : Prop := parseWrapsRow.holds Tryz.pinned (OpenSpec.ofChange parseWrapsSpec)

/-- ITS FALSE NEIGHBOUR: 'it returns false'. Refute it at one input. -/
def parseWrapsWrong : ChangeSpec := { name := "parseWraps", fn := fun _ => fun
  | [d] => { results := [.lit (.bool false)], args := [d] }
  | _ => none }
def ParseWrapsWrongFalsely : Prop := parseWrapsRow.holds Tryz.pinned (OpenSpec.ofChange parseWrapsWrong)

/-- 'winnowlaw03.ParseParses': WHATEVER THE INPUT: true; the input reads as it did. -/
def parseParsesSpec : ChangeSpec := { name := "parseParses", fn := fun _ => fun
  | [d] => { results := [.lit (.bool true)], args := [d] }
  | _ => none }
def parseParsesRow : OpenClaim := { program := "ytonmcakdofbjiaagreatdoor", sum := "d4a066ebaf15e76fe378dae59503895f754059554f5fcc44ce1496e047cc9a9d", func := "winnow/winnowlaw03.ParseParses", spec := "parseParses", inPlace := ["internal/reflectlite.ValueOf", "(internal/reflectlite.Value).Type", "(internal/reflectlite.Value).IsNil", "internal/reflectlite.TypeOf", "(internal/reflectlite.Value).Elem", "(internal/reflectlite.Value).Set"], unfollowed := true, recurses := true, named := ["strconv.ErrSyntax", "strconv.ErrRange", "internal/strconv.uint64pow10", "math/bits.deBruijn32tab", "math/bits.deBruijn64tab", "winnow/api.ErrReject", "errors.errorType"], leaving := true, apart := false, laid := [("math/bits.deBruijn32tab", laid_math_bits_deBruijn32tab), ("math/bits.deBruijn64tab", laid_math_bits_deBruijn64tab), ("internal/strconv.uint64pow10", laid_internal_strconv_uint64pow10), ("errors.errorType", laid_errors_errorType), ("strconv.ErrRange", laid_strconv_ErrRange), ("strconv.ErrSyntax", laid_strconv_ErrSyntax), ("winnow/api.ErrReject", laid_winnow_api_ErrReject)] }
def ParseParsesSaid : Prop := parseParsesRow.holds Tryz.pinned (OpenSpec.ofChange parseParsesSpec)

/-- ITS FALSE NEIGHBOUR: 'it returns false'. Refute it at one input. -/
def parseParsesWrong : ChangeSpec := { name := "parseParses", fn := fun _ => fun
  | [d] => { results := [.lit (.bool false)], args := [d] }
  | _ => none }
def ParseParsesWrongFalsely : Prop := parseParsesRow.holds Tryz.pinned (OpenSpec.ofChange parseParsesWrong)

/-- 'winnowlaw03.ParseFront': WHATEVER THE INPUT: true; the input reads as it did. -/
def parseFrontSpec : ChangeSpec := { name := "parseFront", fn := fun _ => fun
  | [d1, d2] => { results := [.lit (.bool true)], args := [d1, d2] }
  | _ => none }
def parseFrontRow : OpenClaim := { program := "ytonmcakdofbjiaagreatdoor", sum := "d4a066ebaf15e76fe378dae59503895f754059554f5fcc44ce1496e047cc9a9d", func := "winnow/winnowlaw03.ParseFront", spec := "parseFront", inPlace := ["internal/reflectlite.ValueOf", "(internal/reflectlite.Value).Type", "(internal/reflectlite.Value).IsNil", "internal/reflectlite.TypeOf", "(internal/reflectlite.Value).Elem", "(internal/reflectlite.Value).Set"], unfollowed := true, recurses := true, named := ["strconv.ErrSyntax", "strconv.ErrRange", "internal/strconv.uint64pow10", "math/bits.deBruijn32tab", "math/bits.deBruijn64tab", "winnow/api.ErrReject", "errors.errorType"], leaving := true, apart := false, laid := [("math/bits.deBruijn32tab", laid_math_bits_deBruijn32tab), ("math/bits.deBruijn64tab", laid_math_bits_deBruijn64tab), ("internal/strconv.uint64pow10", laid_internal_strconv_uint64pow10), ("errors.errorType", laid_errors_errorType), ("strconv.ErrRange", laid_strconv_ErrRange), ("strconv.ErrSyntax", laid_strconv_ErrSyntax), ("winnow/api.ErrReject", laid_winnow_api_ErrReject)] }
def ParseFrontSaid : Prop := parseFrontRow.holds Tryz.pinned (OpenSpec.ofChange parseFrontSpec)

/-- ITS FALSE NEIGHBOUR: 'it returns false'. Refute it at one input. -/
def parseFrontWrong : ChangeSpec := { name := "parseFront", fn := fun _ => fun
  | [d1, d2] => { results := [.lit (.bool false)], args := [d1, d2] }
  | _ => none }
def ParseFrontWrongFalsely : Prop := parseFrontRow.holds Tryz.pinned (OpenSpec.ofChange parseFrontWrong)

/-- 'winnowlaw03.ParseNests': WHATEVER THE INPUT: true; the input reads as it did. -/
def parseNestsSpec : ChangeSpec := { name := "parseNests", fn := fun _ => fun
  | [d] => { results := [.lit (.bool true)], args := [d] }
  | _ => none }
def parseNestsRow : OpenClaim := { program := "ytonmcakdofbjiaagreatdoor", sum := "d4a066ebaf15e76fe378dae59503895f754059554f5fcc44ce1496e047cc9a9d", func := "winnow/winnowlaw03.ParseNests", spec := "parseNests", inPlace := ["internal/reflectlite.ValueOf", "(internal/reflectlite.Value).Type", "(internal/reflectlite.Value).IsNil", "internal/reflectlite.TypeOf", "(internal/reflectlite.Value).Elem", "(internal/reflectlite.Value).Set"], unfollowed := true, recurses := true, named := ["strconv.ErrSyntax", "strconv.ErrRange", "internal/strconv.uint64pow10", "math/bits.deBruijn32tab", "math/bits.deBruijn64tab", "winnow/api.ErrReject", "errors.errorType"], leaving := true, apart := false, laid := [("math/bits.deBruijn32tab", laid_math_bits_deBruijn32tab), ("math/bits.deBruijn64tab", laid_math_bits_deBruijn64tab), ("internal/strconv.uint64pow10", laid_internal_strconv_uint64pow10), ("errors.errorType", laid_errors_errorType), ("strconv.ErrRange", laid_strconv_ErrRange), ("strconv.ErrSyntax", laid_strconv_ErrSyntax), ("winnow/api.ErrReject", laid_winnow_api_ErrReject)] }
def ParseNestsSaid : Prop := parseNestsRow.holds Tryz.pinned (OpenSpec.ofChange parseNestsSpec)

/-- ITS FALSE NEIGHBOUR: 'it returns false'. Refute it at one input. -/
def parseNestsWrong : ChangeSpec := { name := "parseNests", fn := fun _ => fun
  | [d] => { results := [.lit (.bool false)], args := [d] }
  | _ => none }
def ParseNestsWrongFalsely : Prop := parseNestsRow.holds Tryz.pinned (OpenSpec.ofChange parseNestsWrong)

/-- 'winnowlaw04.CheckSites': WHATEVER THE INPUT: true; the input reads as it did. -/
def checkSitesSpec : ChangeSpec := { name := "checkSites", fn := fun _ => fun
  | [d] => { results := [.lit (.bool true)], args := [d] }
  | _ => none }
def checkSitesRow : OpenClaim := { program := "ytonmcakdofbjiaagreatdoor", sum := "d4a066ebaf15e76fe378dae59503895f754059554f5fcc44ce1496e047cc9a9d", func := "winnow/winnowlaw04.CheckSites", spec := "checkSites", inPlace := ["internal/reflectlite.ValueOf", "(internal/reflectlite.Value).Type", "(internal/reflectlite.Value).IsNil", "internal/reflectlite.TypeOf", "(internal/reflectlite.Value).Elem", "(internal/reflectlite.Value).Set"], unfollowed := true, recurses := true, named := ["strconv.ErrSyntax", "strconv.ErrRange", "internal/strconv.uint64pow10", "math/bits.deBruijn32tab", "math/bits.deBruijn64tab", "winnow/api.ErrReject", "errors.errorType"], leaving := true, apart := false, laid := [("math/bits.deBruijn32tab", laid_math_bits_deBruijn32tab), ("math/bits.deBruijn64tab", laid_math_bits_deBruijn64tab), ("internal/strconv.uint64pow10", laid_internal_strconv_uint64pow10), ("errors.errorType", laid_errors_errorType), ("strconv.ErrRange", laid_strconv_ErrRange), ("strconv.ErrSyntax", laid_strconv_ErrSyntax), ("winnow/api.ErrReject", laid_winnow_api_ErrReject)] }
def CheckSitesSaid : Prop := checkSitesRow.holds Tryz.pinned (OpenSpec.ofChange checkSitesSpec)

/-- ITS FALSE NEIGHBOUR: 'it returns false'. Refute it at one input. -/
def checkSitesWrong : ChangeSpec := { name := "checkSites", fn := fun _ => fun
  | [d] => { results := [.lit (.bool false)], args := [d] }
  | _ => none }
def CheckSitesWrongFalsely : Prop := checkSitesRow.holds Tryz.pinned (OpenSpec.ofChange checkSitesWrong)

/-- 'winnowlaw04.CheckOwn': WHATEVER THE INPUT: true; the input reads as it did. -/
def checkOwnSpec : ChangeSpec := { name := "checkOwn", fn := fun _ => fun
  | [d1, d2] => { results := [.lit (.bool true)], args := [d1, d2] }
  | _ => none }
def checkOwnRow : OpenClaim := { program := "ytonmcakdofbjiaagreatdoor", sum := "d4a066ebaf15e76fe378dae59503895f754059554f5fcc44ce1496e047cc9a9d", func := "winnow/winnowlaw04.CheckOwn", spec := "checkOwn", inPlace := ["internal/reflectlite.ValueOf", "(internal/reflectlite.Value).Type", "(internal/reflectlite.Value).IsNil", "internal/reflectlite.TypeOf", "(internal/reflectlite.Value).Elem", "(internal/reflectlite.Value).Set"], unfollowed := true, recurses := true, named := ["strconv.ErrSyntax", "strconv.ErrRange", "internal/strconv.uint64pow10", "math/bits.deBruijn32tab", "math/bits.deBruijn64tab", "winnow/api.ErrReject", "errors.errorType"], leaving := true, apart := false, laid := [("math/bits.deBruijn32tab", laid_math_bits_deBruijn32tab), ("math/bits.deBruijn64tab", laid_math_bits_deBruijn64tab), ("internal/strconv.uint64pow10", laid_internal_strconv_uint64pow10), ("errors.errorType", laid_errors_errorType), ("strconv.ErrRange", laid_strconv_ErrRange), ("strconv.ErrSyntax", laid_strconv_ErrSyntax), ("winnow/api.ErrReject", laid_winnow_api_ErrReject)] }
def CheckOwnSaid : Prop := checkOwnRow.holds Tryz.pinned (OpenSpec.ofChange checkOwnSpec)

/-- ITS FALSE NEIGHBOUR: 'it returns false'. Refute it at one input. -/
def checkOwnWrong : ChangeSpec := { name := "checkOwn", fn := fun _ => fun
  | [d1, d2] => { results := [.lit (.bool false)], args := [d1, d2] }
  | _ => none }
def CheckOwnWrongFalsely : Prop := checkOwnRow.holds Tryz.pinned (OpenSpec.ofChange checkOwnWrong)

/-- 'winnowlaw04.CheckAll': WHATEVER THE INPUT: true; the input reads as it did. -/
def checkAllSpec : ChangeSpec := { name := "checkAll", fn := fun _ => fun
  | [d1, d2, d3] => { results := [.lit (.bool true)], args := [d1, d2, d3] }
  | _ => none }
def checkAllRow : OpenClaim := { program := "ytonmcakdofbjiaagreatdoor", sum := "d4a066ebaf15e76fe378dae59503895f754059554f5fcc44ce1496e047cc9a9d", func := "winnow/winnowlaw04.CheckAll", spec := "checkAll", inPlace := ["internal/reflectlite.ValueOf", "(internal/reflectlite.Value).Type", "(internal/reflectlite.Value).IsNil", "internal/reflectlite.TypeOf", "(internal/reflectlite.Value).Elem", "(internal/reflectlite.Value).Set"], unfollowed := true, recurses := true, named := ["winnow/api.ErrReject", "strconv.ErrSyntax", "strconv.ErrRange", "internal/strconv.uint64pow10", "math/bits.deBruijn32tab", "math/bits.deBruijn64tab", "errors.errorType"], leaving := true, apart := false, laid := [("math/bits.deBruijn32tab", laid_math_bits_deBruijn32tab), ("math/bits.deBruijn64tab", laid_math_bits_deBruijn64tab), ("internal/strconv.uint64pow10", laid_internal_strconv_uint64pow10), ("errors.errorType", laid_errors_errorType), ("strconv.ErrRange", laid_strconv_ErrRange), ("strconv.ErrSyntax", laid_strconv_ErrSyntax), ("winnow/api.ErrReject", laid_winnow_api_ErrReject)] }
def CheckAllSaid : Prop := checkAllRow.holds Tryz.pinned (OpenSpec.ofChange checkAllSpec)

/-- ITS FALSE NEIGHBOUR: 'it returns false'. Refute it at one input. -/
def checkAllWrong : ChangeSpec := { name := "checkAll", fn := fun _ => fun
  | [d1, d2, d3] => { results := [.lit (.bool false)], args := [d1, d2, d3] }
  | _ => none }
def CheckAllWrongFalsely : Prop := checkAllRow.holds Tryz.pinned (OpenSpec.ofChange checkAllWrong)

/-- 'winnowlaw04.CheckNames': WHATEVER THE INPUT: true; the input reads as it did. -/
def checkNamesSpec : ChangeSpec := { name := "checkNames", fn := fun _ => fun
  | [d] => { results := [.lit (.bool true)], args := [d] }
  | _ => none }
def checkNamesRow : OpenClaim := { program := "ytonmcakdofbjiaagreatdoor", sum := "d4a066ebaf15e76fe378dae59503895f754059554f5fcc44ce1496e047cc9a9d", func := "winnow/winnowlaw04.CheckNames", spec := "checkNames", inPlace := ["internal/reflectlite.ValueOf", "(internal/reflectlite.Value).Type", "(internal/reflectlite.Value).IsNil", "internal/reflectlite.TypeOf", "(internal/reflectlite.Value).Elem", "(internal/reflectlite.Value).Set"], unfollowed := true, recurses := true, named := ["strconv.ErrSyntax", "strconv.ErrRange", "internal/strconv.uint64pow10", "math/bits.deBruijn32tab", "math/bits.deBruijn64tab", "winnow/api.ErrReject", "errors.errorType"], leaving := true, apart := false, laid := [("math/bits.deBruijn32tab", laid_math_bits_deBruijn32tab), ("math/bits.deBruijn64tab", laid_math_bits_deBruijn64tab), ("internal/strconv.uint64pow10", laid_internal_strconv_uint64pow10), ("errors.errorType", laid_errors_errorType), ("strconv.ErrRange", laid_strconv_ErrRange), ("strconv.ErrSyntax", laid_strconv_ErrSyntax), ("winnow/api.ErrReject", laid_winnow_api_ErrReject)] }
def CheckNamesSaid : Prop := checkNamesRow.holds Tryz.pinned (OpenSpec.ofChange checkNamesSpec)

/-- ITS FALSE NEIGHBOUR: 'it returns false'. Refute it at one input. -/
def checkNamesWrong : ChangeSpec := { name := "checkNames", fn := fun _ => fun
  | [d] => { results := [.lit (.bool false)], args := [d] }
  | _ => none }
def CheckNamesWrongFalsely : Prop := checkNamesRow.holds Tryz.pinned (OpenSpec.ofChange checkNamesWrong)

/- THE SECOND FORM. 'bulk': how many values and letters a reading holds, each counted each time it is reached (what is shared counts as often as it is met; a slice's spare places count too). A statement '..UptoSaid' is the law's where the arguments, and the package variables that the reading takes, are together of bulk at most 1048576: NARROWER than '..Said'. Prove '..Said' where nothing that the law and all that it calls make is longer than what came in: it says more and counts as full. Else prove '..UptoSaid'. A law counts once. -/
mutual
def uptoBulk {H : Type} : DataW H → Nat
  | .lit (.string bytes) => bytes.length + 1
  | .lit _ => 1
  | .nil => 1
  | .ptr d => uptoBulk d + 1
  | .slice elems spare => uptoBulkAll elems + uptoBulkAll spare + 1
  | .agg parts => uptoBulkAll parts + 1
  | .iface _ d => uptoBulk d + 1
  | .map entries => uptoBulkEntries entries + 1
  | .held _ => 1
def uptoBulkAll {H : Type} : List (DataW H) → Nat
  | [] => 0
  | d :: r => uptoBulk d + uptoBulkAll r
def uptoBulkEntries {H : Type} : List (Lit × DataW H) → Nat
  | [] => 0
  | x :: r => uptoBulkEntry x + uptoBulkEntries r
def uptoBulkEntry {H : Type} : Lit × DataW H → Nat
  | (.string bytes, d) => bytes.length + uptoBulk d + 1
  | (_, d) => uptoBulk d + 1
 end
def uptoSmall : (H : Type) → List (DataW H) → Bool := fun _ ds => decide (uptoBulkAll ds ≤ 1048576)
def OpenSpec.upto (s : _root_.Go.ChangeSpec) : _root_.Go.OpenSpec := { _root_.Go.OpenSpec.ofChange s with cond := some uptoSmall }

/-- 'winnowlaw03.ParseKept', WHERE WHAT IT READS IS OF BULK AT MOST 1048576: true; the input reads as it did. -/
def parseKeptUptoRow : OpenClaim := { program := "ytonmcakdofbjiaagreatdoor", sum := "d4a066ebaf15e76fe378dae59503895f754059554f5fcc44ce1496e047cc9a9d", func := "winnow/winnowlaw03.ParseKept", spec := "parseKept", unfollowed := true, recurses := true, named := ["strconv.ErrSyntax", "strconv.ErrRange", "internal/strconv.uint64pow10", "math/bits.deBruijn32tab", "math/bits.deBruijn64tab", "winnow/api.ErrReject"], leaving := true, apart := false, laid := [("math/bits.deBruijn32tab", laid_math_bits_deBruijn32tab), ("math/bits.deBruijn64tab", laid_math_bits_deBruijn64tab), ("internal/strconv.uint64pow10", laid_internal_strconv_uint64pow10), ("strconv.ErrRange", laid_strconv_ErrRange), ("strconv.ErrSyntax", laid_strconv_ErrSyntax), ("winnow/api.ErrReject", laid_winnow_api_ErrReject)], narrowed := true }
def ParseKeptUptoSaid : Prop := parseKeptUptoRow.holds Tryz.pinned (OpenSpec.upto parseKeptSpec)

/-- 'winnowlaw03.ParseMade', WHERE WHAT IT READS IS OF BULK AT MOST 1048576: true; the input reads as it did. -/
def parseMadeUptoRow : OpenClaim := { program := "ytonmcakdofbjiaagreatdoor", sum := "d4a066ebaf15e76fe378dae59503895f754059554f5fcc44ce1496e047cc9a9d", func := "winnow/winnowlaw03.ParseMade", spec := "parseMade", unfollowed := true, recurses := true, named := ["strconv.ErrSyntax", "strconv.ErrRange", "internal/strconv.uint64pow10", "math/bits.deBruijn32tab", "math/bits.deBruijn64tab", "winnow/api.ErrReject", "winnow/winnowlaw03.fills", "winnow/winnowlaw03.names"], leaving := true, apart := false, laid := [("math/bits.deBruijn32tab", laid_math_bits_deBruijn32tab), ("math/bits.deBruijn64tab", laid_math_bits_deBruijn64tab), ("internal/strconv.uint64pow10", laid_internal_strconv_uint64pow10), ("strconv.ErrRange", laid_strconv_ErrRange), ("strconv.ErrSyntax", laid_strconv_ErrSyntax), ("winnow/api.ErrReject", laid_winnow_api_ErrReject), ("winnow/winnowlaw03.fills", laid_winnow_winnowlaw03_fills), ("winnow/winnowlaw03.names", laid_winnow_winnowlaw03_names)], narrowed := true }
def ParseMadeUptoSaid : Prop := parseMadeUptoRow.holds Tryz.pinned (OpenSpec.upto parseMadeSpec)

/-- 'winnowlaw03.ParseWraps', WHERE WHAT IT READS IS OF BULK AT MOST 1048576: true; the input reads as it did. -/
def parseWrapsUptoRow : OpenClaim := { program := "ytonmcakdofbjiaagreatdoor", sum := "d4a066ebaf15e76fe378dae59503895f754059554f5fcc44ce1496e047cc9a9d", func := "winnow/winnowlaw03.ParseWraps", spec := "parseWraps", inPlace := ["internal/reflectlite.TypeOf"], unfollowed := true, recurses := true, named := ["winnow/api.ErrReject", "winnow/api.ErrConfig", "strconv.ErrSyntax", "strconv.ErrRange", "internal/strconv.uint64pow10", "math/bits.deBruijn32tab", "math/bits.deBruijn64tab"], leaving := true, apart := false, laid := [("math/bits.deBruijn32tab", laid_math_bits_deBruijn32tab), ("math/bits.deBruijn64tab", laid_math_bits_deBruijn64tab), ("internal/strconv.uint64pow10", laid_internal_strconv_uint64pow10), ("strconv.ErrRange", laid_strconv_ErrRange), ("strconv.ErrSyntax", laid_strconv_ErrSyntax), ("winnow/api.ErrReject", laid_winnow_api_ErrReject), ("winnow/api.ErrConfig", laid_winnow_api_ErrConfig)], narrowed := true }
def ParseWrapsUptoSaid : Prop := parseWrapsUptoRow.holds Tryz.pinned (OpenSpec.upto parseWrapsSpec)

/-- 'winnowlaw03.ParseParses', WHERE WHAT IT READS IS OF BULK AT MOST 1048576: true; the input reads as it did. -/
def parseParsesUptoRow : OpenClaim := { program := "ytonmcakdofbjiaagreatdoor", sum := "d4a066ebaf15e76fe378dae59503895f754059554f5fcc44ce1496e047cc9a9d", func := "winnow/winnowlaw03.ParseParses", spec := "parseParses", inPlace := ["internal/reflectlite.ValueOf", "(internal/reflectlite.Value).Type", "(internal/reflectlite.Value).IsNil", "internal/reflectlite.TypeOf", "(internal/reflectlite.Value).Elem", "(internal/reflectlite.Value).Set"], unfollowed := true, recurses := true, named := ["strconv.ErrSyntax", "strconv.ErrRange", "internal/strconv.uint64pow10", "math/bits.deBruijn32tab", "math/bits.deBruijn64tab", "winnow/api.ErrReject", "errors.errorType"], leaving := true, apart := false, laid := [("math/bits.deBruijn32tab", laid_math_bits_deBruijn32tab), ("math/bits.deBruijn64tab", laid_math_bits_deBruijn64tab), ("internal/strconv.uint64pow10", laid_internal_strconv_uint64pow10), ("errors.errorType", laid_errors_errorType), ("strconv.ErrRange", laid_strconv_ErrRange), ("strconv.ErrSyntax", laid_strconv_ErrSyntax), ("winnow/api.ErrReject", laid_winnow_api_ErrReject)], narrowed := true }
def ParseParsesUptoSaid : Prop := parseParsesUptoRow.holds Tryz.pinned (OpenSpec.upto parseParsesSpec)

/-- 'winnowlaw03.ParseFront', WHERE WHAT IT READS IS OF BULK AT MOST 1048576: true; the input reads as it did. -/
def parseFrontUptoRow : OpenClaim := { program := "ytonmcakdofbjiaagreatdoor", sum := "d4a066ebaf15e76fe378dae59503895f754059554f5fcc44ce1496e047cc9a9d", func := "winnow/winnowlaw03.ParseFront", spec := "parseFront", inPlace := ["internal/reflectlite.ValueOf", "(internal/reflectlite.Value).Type", "(internal/reflectlite.Value).IsNil", "internal/reflectlite.TypeOf", "(internal/reflectlite.Value).Elem", "(internal/reflectlite.Value).Set"], unfollowed := true, recurses := true, named := ["strconv.ErrSyntax", "strconv.ErrRange", "internal/strconv.uint64pow10", "math/bits.deBruijn32tab", "math/bits.deBruijn64tab", "winnow/api.ErrReject", "errors.errorType"], leaving := true, apart := false, laid := [("math/bits.deBruijn32tab", laid_math_bits_deBruijn32tab), ("math/bits.deBruijn64tab", laid_math_bits_deBruijn64tab), ("internal/strconv.uint64pow10", laid_internal_strconv_uint64pow10), ("errors.errorType", laid_errors_errorType), ("strconv.ErrRange", laid_strconv_ErrRange), ("strconv.ErrSyntax", laid_strconv_ErrSyntax), ("winnow/api.ErrReject", laid_winnow_api_ErrReject)], narrowed := true }
def ParseFrontUptoSaid : Prop := parseFrontUptoRow.holds Tryz.pinned (OpenSpec.upto parseFrontSpec)

/-- 'winnowlaw03.ParseNests', WHERE WHAT IT READS IS OF BULK AT MOST 1048576: true; the input reads as it did. -/
def parseNestsUptoRow : OpenClaim := { program := "ytonmcakdofbjiaagreatdoor", sum := "d4a066ebaf15e76fe378dae59503895f754059554f5fcc44ce1496e047cc9a9d", func := "winnow/winnowlaw03.ParseNests", spec := "parseNests", inPlace := ["internal/reflectlite.ValueOf", "(internal/reflectlite.Value).Type", "(internal/reflectlite.Value).IsNil", "internal/reflectlite.TypeOf", "(internal/reflectlite.Value).Elem", "(internal/reflectlite.Value).Set"], unfollowed := true, recurses := true, named := ["strconv.ErrSyntax", "strconv.ErrRange", "internal/strconv.uint64pow10", "math/bits.deBruijn32tab", "math/bits.deBruijn64tab", "winnow/api.ErrReject", "errors.errorType"], leaving := true, apart := false, laid := [("math/bits.deBruijn32tab", laid_math_bits_deBruijn32tab), ("math/bits.deBruijn64tab", laid_math_bits_deBruijn64tab), ("internal/strconv.uint64pow10", laid_internal_strconv_uint64pow10), ("errors.errorType", laid_errors_errorType), ("strconv.ErrRange", laid_strconv_ErrRange), ("strconv.ErrSyntax", laid_strconv_ErrSyntax), ("winnow/api.ErrReject", laid_winnow_api_ErrReject)], narrowed := true }
def ParseNestsUptoSaid : Prop := parseNestsUptoRow.holds Tryz.pinned (OpenSpec.upto parseNestsSpec)

/-- 'winnowlaw04.CheckSites', WHERE WHAT IT READS IS OF BULK AT MOST 1048576: true; the input reads as it did. -/
def checkSitesUptoRow : OpenClaim := { program := "ytonmcakdofbjiaagreatdoor", sum := "d4a066ebaf15e76fe378dae59503895f754059554f5fcc44ce1496e047cc9a9d", func := "winnow/winnowlaw04.CheckSites", spec := "checkSites", inPlace := ["internal/reflectlite.ValueOf", "(internal/reflectlite.Value).Type", "(internal/reflectlite.Value).IsNil", "internal/reflectlite.TypeOf", "(internal/reflectlite.Value).Elem", "(internal/reflectlite.Value).Set"], unfollowed := true, recurses := true, named := ["strconv.ErrSyntax", "strconv.ErrRange", "internal/strconv.uint64pow10", "math/bits.deBruijn32tab", "math/bits.deBruijn64tab", "winnow/api.ErrReject", "errors.errorType"], leaving := true, apart := false, laid := [("math/bits.deBruijn32tab", laid_math_bits_deBruijn32tab), ("math/bits.deBruijn64tab", laid_math_bits_deBruijn64tab), ("internal/strconv.uint64pow10", laid_internal_strconv_uint64pow10), ("errors.errorType", laid_errors_errorType), ("strconv.ErrRange", laid_strconv_ErrRange), ("strconv.ErrSyntax", laid_strconv_ErrSyntax), ("winnow/api.ErrReject", laid_winnow_api_ErrReject)], narrowed := true }
def CheckSitesUptoSaid : Prop := checkSitesUptoRow.holds Tryz.pinned (OpenSpec.upto checkSitesSpec)

/-- 'winnowlaw04.CheckOwn', WHERE WHAT IT READS IS OF BULK AT MOST 1048576: true; the input reads as it did. -/
def checkOwnUptoRow : OpenClaim := { program := "ytonmcakdofbjiaagreatdoor", sum := "d4a066ebaf15e76fe378dae59503895f754059554f5fcc44ce1496e047cc9a9d", func := "winnow/winnowlaw04.CheckOwn", spec := "checkOwn", inPlace := ["internal/reflectlite.ValueOf", "(internal/reflectlite.Value).Type", "(internal/reflectlite.Value).IsNil", "internal/reflectlite.TypeOf", "(internal/reflectlite.Value).Elem", "(internal/reflectlite.Value).Set"], unfollowed := true, recurses := true, named := ["strconv.ErrSyntax", "strconv.ErrRange", "internal/strconv.uint64pow10", "math/bits.deBruijn32tab", "math/bits.deBruijn64tab", "winnow/api.ErrReject", "errors.errorType"], leaving := true, apart := false, laid := [("math/bits.deBruijn32tab", laid_math_bits_deBruijn32tab), ("math/bits.deBruijn64tab", laid_math_bits_deBruijn64tab), ("internal/strconv.uint64pow10", laid_internal_strconv_uint64pow10), ("errors.errorType", laid_errors_errorType), ("strconv.ErrRange", laid_strconv_ErrRange), ("strconv.ErrSyntax", laid_strconv_ErrSyntax), ("winnow/api.ErrReject", laid_winnow_api_ErrReject)], narrowed := true }
def CheckOwnUptoSaid : Prop := checkOwnUptoRow.holds Tryz.pinned (OpenSpec.upto checkOwnSpec)

/-- 'winnowlaw04.CheckAll', WHERE WHAT IT READS IS OF BULK AT MOST 1048576: true; the input reads as it did. -/
def checkAllUptoRow : OpenClaim := { program := "ytonmcakdofbjiaagreatdoor", sum := "d4a066ebaf15e76fe378dae59503895f754059554f5fcc44ce1496e047cc9a9d", func := "winnow/winnowlaw04.CheckAll", spec := "checkAll", inPlace := ["internal/reflectlite.ValueOf", "(internal/reflectlite.Value).Type", "(internal/reflectlite.Value).IsNil", "internal/reflectlite.TypeOf", "(internal/reflectlite.Value).Elem", "(internal/reflectlite.Value).Set"], unfollowed := true, recurses := true, named := ["winnow/api.ErrReject", "strconv.ErrSyntax", "strconv.ErrRange", "internal/strconv.uint64pow10", "math/bits.deBruijn32tab", "math/bits.deBruijn64tab", "errors.errorType"], leaving := true, apart := false, laid := [("math/bits.deBruijn32tab", laid_math_bits_deBruijn32tab), ("math/bits.deBruijn64tab", laid_math_bits_deBruijn64tab), ("internal/strconv.uint64pow10", laid_internal_strconv_uint64pow10), ("errors.errorType", laid_errors_errorType), ("strconv.ErrRange", laid_strconv_ErrRange), ("strconv.ErrSyntax", laid_strconv_ErrSyntax), ("winnow/api.ErrReject", laid_winnow_api_ErrReject)], narrowed := true }
def CheckAllUptoSaid : Prop := checkAllUptoRow.holds Tryz.pinned (OpenSpec.upto checkAllSpec)

/-- 'winnowlaw04.CheckNames', WHERE WHAT IT READS IS OF BULK AT MOST 1048576: true; the input reads as it did. -/
def checkNamesUptoRow : OpenClaim := { program := "ytonmcakdofbjiaagreatdoor", sum := "d4a066ebaf15e76fe378dae59503895f754059554f5fcc44ce1496e047cc9a9d", func := "winnow/winnowlaw04.CheckNames", spec := "checkNames", inPlace := ["internal/reflectlite.ValueOf", "(internal/reflectlite.Value).Type", "(internal/reflectlite.Value).IsNil", "internal/reflectlite.TypeOf", "(internal/reflectlite.Value).Elem", "(internal/reflectlite.Value).Set"], unfollowed := true, recurses := true, named := ["strconv.ErrSyntax", "strconv.ErrRange", "internal/strconv.uint64pow10", "math/bits.deBruijn32tab", "math/bits.deBruijn64tab", "winnow/api.ErrReject", "errors.errorType"], leaving := true, apart := false, laid := [("math/bits.deBruijn32tab", laid_math_bits_deBruijn32tab), ("math/bits.deBruijn64tab", laid_math_bits_deBruijn64tab), ("internal/strconv.uint64pow10", laid_internal_strconv_uint64pow10), ("errors.errorType", laid_errors_errorType), ("strconv.ErrRange", laid_strconv_ErrRange), ("strconv.ErrSyntax", laid_strconv_ErrSyntax), ("winnow/api.ErrReject", laid_winnow_api_ErrReject)], narrowed := true }
def CheckNamesUptoSaid : Prop := checkNamesUptoRow.holds Tryz.pinned (OpenSpec.upto checkNamesSpec)

end Rows
end Go.Proofs.YtonmcakdofbjiaaGreatDoor
