/-
  NARROWER THAN 'FOR EVERY INPUT', by the rows' own cells (each row's printed sentence says how): QueryFilters: laid · QuerySelects: laid · QueryOpens: laid · QuerySplits: laid · QueryValues: laid · VerifyReports: laid · VerifyTexts: laid · VerifyAccepts: laid · VerifyFindsDamage: laid · VerifyClasses: laid · VerifyChecks: laid · DecodeChunks: laid.
  DERIVED. THE GIVEN ROWS OF THIS SEAT. 12 by the template 'for every input the law returns true; each argument reads behind the call as it read before'; 0 by the template 'total and deterministic' (their statements: YtaaeeabpbmigoaaGreatDoorTotals.lean).
  GIVEN WITH THE SEED: the statements are not yours to turn. If you find one false, say at which input.
  Laid BY PROGRAM, IN A SANDBOX (cutbox-rows.mjs): the forced cells as the released guide's own fill.sh prints them over the translation 8fa6f8b91b9d3b9b… (all of the seat's roots in one cut). By AI agents, Wed Nov 11 2026. No macro, syntax, notation, axiom, sorry.
-/
import Derived.Test.YtaaeeabpbmigoaaGreatDoorChecked
import GoSem.Claim
import GoSem.ClaimJoined
import GoSem.ClaimMapViews
import Derived.JoinedTies
import Derived.KernelRfl
namespace Go.Proofs.YtaaeeabpbmigoaaGreatDoor
/- THE CELL 'sum', in the pinned program and in every row, IS THE sha256 OF THE DUMP (.gsa) THAT YtaaeeabpbmigoaaGreatDoorProg.lean LOADS. Nothing in Lean hashes anything: it is a label: what it is worth is what the hold of that sum in a sandbox is worth. -/
noncomputable def Tryz.pinned : Pinned := { name := "ytaaeeabpbmigoaagreatdoor", sum := "8fa6f8b91b9d3b9b1f281fdb5aae4a5f31d17738c9f7a1d98928d9a14be2ba85", checked := Tryz.checked }
namespace Rows
def none {H : Type} : Left H := { results := [], args := [] }

/- WHAT THE LISTED PACKAGE-LEVEL VARIABLES READ AS WHEN THE CALL BEGINS. Each datum BY PROGRAM (the guide's laid-datum.mjs) off the statement by which the dump's own 'gosem.cut.vars' lays the variable. In a bare row this is a premise. The card (YtaaeeabpbmigoaaGreatDoorCards.lean) ties it to the program's text. -/
def laid_math_bits_deBruijn64tab {H : Type} : DataW H := .agg [.lit (.int .u8 0), .lit (.int .u8 1), .lit (.int .u8 56), .lit (.int .u8 2), .lit (.int .u8 57), .lit (.int .u8 49), .lit (.int .u8 28), .lit (.int .u8 3), .lit (.int .u8 61), .lit (.int .u8 58), .lit (.int .u8 42), .lit (.int .u8 50), .lit (.int .u8 38), .lit (.int .u8 29), .lit (.int .u8 17), .lit (.int .u8 4), .lit (.int .u8 62), .lit (.int .u8 47), .lit (.int .u8 59), .lit (.int .u8 36), .lit (.int .u8 45), .lit (.int .u8 43), .lit (.int .u8 51), .lit (.int .u8 22), .lit (.int .u8 53), .lit (.int .u8 39), .lit (.int .u8 33), .lit (.int .u8 30), .lit (.int .u8 24), .lit (.int .u8 18), .lit (.int .u8 12), .lit (.int .u8 5), .lit (.int .u8 63), .lit (.int .u8 55), .lit (.int .u8 48), .lit (.int .u8 27), .lit (.int .u8 60), .lit (.int .u8 41), .lit (.int .u8 37), .lit (.int .u8 16), .lit (.int .u8 46), .lit (.int .u8 35), .lit (.int .u8 44), .lit (.int .u8 21), .lit (.int .u8 52), .lit (.int .u8 32), .lit (.int .u8 23), .lit (.int .u8 11), .lit (.int .u8 54), .lit (.int .u8 26), .lit (.int .u8 40), .lit (.int .u8 15), .lit (.int .u8 34), .lit (.int .u8 20), .lit (.int .u8 31), .lit (.int .u8 10), .lit (.int .u8 25), .lit (.int .u8 14), .lit (.int .u8 19), .lit (.int .u8 9), .lit (.int .u8 13), .lit (.int .u8 8), .lit (.int .u8 7), .lit (.int .u8 6)]
def laid_tsblock_crc_table {H : Type} : DataW H := .agg [.lit (.int .u32 0), .lit (.int .u32 498536548), .lit (.int .u32 997073096), .lit (.int .u32 651767980), .lit (.int .u32 1994146192), .lit (.int .u32 1802195444), .lit (.int .u32 1303535960), .lit (.int .u32 1342533948), .lit (.int .u32 3988292384), .lit (.int .u32 4027552580), .lit (.int .u32 3604390888), .lit (.int .u32 3412177804), .lit (.int .u32 2607071920), .lit (.int .u32 2262029012), .lit (.int .u32 2685067896), .lit (.int .u32 3183342108)]
def laid_tsblock_times_forms {H : Type} : DataW H := .agg [.agg [.lit (.int .u64 0), .lit (.int .i64 1), .lit (.int .i64 0)], .agg [.lit (.int .u64 2), .lit (.int .i64 2), .lit (.int .i64 7)], .agg [.lit (.int .u64 6), .lit (.int .i64 3), .lit (.int .i64 12)], .agg [.lit (.int .u64 14), .lit (.int .i64 4), .lit (.int .i64 32)], .agg [.lit (.int .u64 15), .lit (.int .i64 4), .lit (.int .i64 64)]]
def laid_errors_errorType {H : Type} : DataW H := .iface "internal/reflectlite.rtype" (.agg [.ptr (.lit (.string [101, 114, 114, 111, 114]))])
def laid_math_bits_deBruijn32tab {H : Type} : DataW H := .agg [.lit (.int .u8 0), .lit (.int .u8 1), .lit (.int .u8 28), .lit (.int .u8 2), .lit (.int .u8 29), .lit (.int .u8 14), .lit (.int .u8 24), .lit (.int .u8 3), .lit (.int .u8 30), .lit (.int .u8 22), .lit (.int .u8 20), .lit (.int .u8 15), .lit (.int .u8 25), .lit (.int .u8 17), .lit (.int .u8 4), .lit (.int .u8 8), .lit (.int .u8 31), .lit (.int .u8 27), .lit (.int .u8 13), .lit (.int .u8 23), .lit (.int .u8 21), .lit (.int .u8 19), .lit (.int .u8 16), .lit (.int .u8 7), .lit (.int .u8 26), .lit (.int .u8 12), .lit (.int .u8 18), .lit (.int .u8 6), .lit (.int .u8 11), .lit (.int .u8 5), .lit (.int .u8 10), .lit (.int .u8 9)]
def laid_internal_strconv_uint64pow10 {H : Type} : DataW H := .agg [.lit (.int .u64 1), .lit (.int .u64 10), .lit (.int .u64 100), .lit (.int .u64 1000), .lit (.int .u64 10000), .lit (.int .u64 100000), .lit (.int .u64 1000000), .lit (.int .u64 10000000), .lit (.int .u64 100000000), .lit (.int .u64 1000000000), .lit (.int .u64 10000000000), .lit (.int .u64 100000000000), .lit (.int .u64 1000000000000), .lit (.int .u64 10000000000000), .lit (.int .u64 100000000000000), .lit (.int .u64 1000000000000000), .lit (.int .u64 10000000000000000), .lit (.int .u64 100000000000000000), .lit (.int .u64 1000000000000000000), .lit (.int .u64 10000000000000000000)]
def laid_tsblock_verify_words {H : Type} : DataW H := .agg [.lit (.string [102, 105, 108, 101]), .lit (.string [116, 114, 117, 110, 99, 97, 116, 101, 100]), .lit (.string [102, 114, 97, 109, 105, 110, 103]), .lit (.string [99, 104, 101, 99, 107, 115, 117, 109]), .lit (.string [99, 111, 110, 116, 101, 110, 116])]

/-- 'tsblocklaw21.QueryFilters': WHATEVER THE INPUT: true; the input reads as it did. -/
def queryFiltersSpec : ChangeSpec := { name := "queryFilters", fn := fun _ => fun
  | [d1, d2] => { results := [.lit (.bool true)], args := [d1, d2] }
  | _ => none }
def queryFiltersRow : OpenClaim := { program := "ytaaeeabpbmigoaagreatdoor", sum := "8fa6f8b91b9d3b9b1f281fdb5aae4a5f31d17738c9f7a1d98928d9a14be2ba85", func := "tsblock/tsblocklaw21.QueryFilters", spec := "queryFilters", unfollowed := true, recurses := true, named := ["tsblock/crc.table", "tsblock/times.forms", "math/bits.deBruijn64tab"], plainKeys := false, apart := false, laid := [("math/bits.deBruijn64tab", laid_math_bits_deBruijn64tab), ("tsblock/crc.table", laid_tsblock_crc_table), ("tsblock/times.forms", laid_tsblock_times_forms)] }
def QueryFiltersSaid : Prop := queryFiltersRow.holds Tryz.pinned (OpenSpec.ofChange queryFiltersSpec)

/-- ITS FALSE NEIGHBOUR: 'it returns false'. Refute it at one input. -/
def queryFiltersWrong : ChangeSpec := { name := "queryFilters", fn := fun _ => fun
  | [d1, d2] => { results := [.lit (.bool false)], args := [d1, d2] }
  | _ => none }
def QueryFiltersWrongFalsely : Prop := queryFiltersRow.holds Tryz.pinned (OpenSpec.ofChange queryFiltersWrong)

/-- 'tsblocklaw21.QuerySelects': WHATEVER THE INPUT: true; the input reads as it did. -/
def querySelectsSpec : ChangeSpec := { name := "querySelects", fn := fun _ => fun
  | [d1, d2] => { results := [.lit (.bool true)], args := [d1, d2] }
  | _ => none }
def querySelectsRow : OpenClaim := { program := "ytaaeeabpbmigoaagreatdoor", sum := "8fa6f8b91b9d3b9b1f281fdb5aae4a5f31d17738c9f7a1d98928d9a14be2ba85", func := "tsblock/tsblocklaw21.QuerySelects", spec := "querySelects", unfollowed := true, recurses := true, named := ["tsblock/crc.table", "tsblock/times.forms", "math/bits.deBruijn64tab"], plainKeys := false, apart := false, laid := [("math/bits.deBruijn64tab", laid_math_bits_deBruijn64tab), ("tsblock/crc.table", laid_tsblock_crc_table), ("tsblock/times.forms", laid_tsblock_times_forms)] }
def QuerySelectsSaid : Prop := querySelectsRow.holds Tryz.pinned (OpenSpec.ofChange querySelectsSpec)

/-- ITS FALSE NEIGHBOUR: 'it returns false'. Refute it at one input. -/
def querySelectsWrong : ChangeSpec := { name := "querySelects", fn := fun _ => fun
  | [d1, d2] => { results := [.lit (.bool false)], args := [d1, d2] }
  | _ => none }
def QuerySelectsWrongFalsely : Prop := querySelectsRow.holds Tryz.pinned (OpenSpec.ofChange querySelectsWrong)

/-- 'tsblocklaw21.QueryOpens': WHATEVER THE INPUT: true; the input reads as it did. -/
def queryOpensSpec : ChangeSpec := { name := "queryOpens", fn := fun _ => fun
  | [d] => { results := [.lit (.bool true)], args := [d] }
  | _ => none }
def queryOpensRow : OpenClaim := { program := "ytaaeeabpbmigoaagreatdoor", sum := "8fa6f8b91b9d3b9b1f281fdb5aae4a5f31d17738c9f7a1d98928d9a14be2ba85", func := "tsblock/tsblocklaw21.QueryOpens", spec := "queryOpens", unfollowed := true, recurses := true, named := ["tsblock/crc.table", "tsblock/times.forms", "math/bits.deBruijn64tab"], plainKeys := false, apart := false, laid := [("math/bits.deBruijn64tab", laid_math_bits_deBruijn64tab), ("tsblock/crc.table", laid_tsblock_crc_table), ("tsblock/times.forms", laid_tsblock_times_forms)] }
def QueryOpensSaid : Prop := queryOpensRow.holds Tryz.pinned (OpenSpec.ofChange queryOpensSpec)

/-- ITS FALSE NEIGHBOUR: 'it returns false'. Refute it at one input. -/
def queryOpensWrong : ChangeSpec := { name := "queryOpens", fn := fun _ => fun
  | [d] => { results := [.lit (.bool false)], args := [d] }
  | _ => none }
def QueryOpensWrongFalsely : Prop := queryOpensRow.holds Tryz.pinned (OpenSpec.ofChange queryOpensWrong)

/-- 'tsblocklaw21.QuerySplits': WHATEVER THE INPUT: true; the input reads as it did. -/
def querySplitsSpec : ChangeSpec := { name := "querySplits", fn := fun _ => fun
  | [d1, d2, d3] => { results := [.lit (.bool true)], args := [d1, d2, d3] }
  | _ => none }
def querySplitsRow : OpenClaim := { program := "ytaaeeabpbmigoaagreatdoor", sum := "8fa6f8b91b9d3b9b1f281fdb5aae4a5f31d17738c9f7a1d98928d9a14be2ba85", func := "tsblock/tsblocklaw21.QuerySplits", spec := "querySplits", unfollowed := true, recurses := true, named := ["tsblock/crc.table", "tsblock/times.forms", "math/bits.deBruijn64tab"], plainKeys := false, apart := false, laid := [("math/bits.deBruijn64tab", laid_math_bits_deBruijn64tab), ("tsblock/crc.table", laid_tsblock_crc_table), ("tsblock/times.forms", laid_tsblock_times_forms)] }
def QuerySplitsSaid : Prop := querySplitsRow.holds Tryz.pinned (OpenSpec.ofChange querySplitsSpec)

/-- ITS FALSE NEIGHBOUR: 'it returns false'. Refute it at one input. -/
def querySplitsWrong : ChangeSpec := { name := "querySplits", fn := fun _ => fun
  | [d1, d2, d3] => { results := [.lit (.bool false)], args := [d1, d2, d3] }
  | _ => none }
def QuerySplitsWrongFalsely : Prop := querySplitsRow.holds Tryz.pinned (OpenSpec.ofChange querySplitsWrong)

/-- 'tsblocklaw21.QueryValues': WHATEVER THE INPUT: true; the input reads as it did. -/
def queryValuesSpec : ChangeSpec := { name := "queryValues", fn := fun _ => fun
  | [d1, d2] => { results := [.lit (.bool true)], args := [d1, d2] }
  | _ => none }
def queryValuesRow : OpenClaim := { program := "ytaaeeabpbmigoaagreatdoor", sum := "8fa6f8b91b9d3b9b1f281fdb5aae4a5f31d17738c9f7a1d98928d9a14be2ba85", func := "tsblock/tsblocklaw21.QueryValues", spec := "queryValues", unfollowed := true, recurses := true, named := ["tsblock/crc.table", "tsblock/times.forms", "math/bits.deBruijn64tab"], plainKeys := false, apart := false, laid := [("math/bits.deBruijn64tab", laid_math_bits_deBruijn64tab), ("tsblock/crc.table", laid_tsblock_crc_table), ("tsblock/times.forms", laid_tsblock_times_forms)] }
def QueryValuesSaid : Prop := queryValuesRow.holds Tryz.pinned (OpenSpec.ofChange queryValuesSpec)

/-- ITS FALSE NEIGHBOUR: 'it returns false'. Refute it at one input. -/
def queryValuesWrong : ChangeSpec := { name := "queryValues", fn := fun _ => fun
  | [d1, d2] => { results := [.lit (.bool false)], args := [d1, d2] }
  | _ => none }
def QueryValuesWrongFalsely : Prop := queryValuesRow.holds Tryz.pinned (OpenSpec.ofChange queryValuesWrong)

/-- 'tsblocklaw20.VerifyReports': WHATEVER THE INPUT: true; the input reads as it did. -/
def verifyReportsSpec : ChangeSpec := { name := "verifyReports", fn := fun _ => fun
  | [d] => { results := [.lit (.bool true)], args := [d] }
  | _ => none }
def verifyReportsRow : OpenClaim := { program := "ytaaeeabpbmigoaagreatdoor", sum := "8fa6f8b91b9d3b9b1f281fdb5aae4a5f31d17738c9f7a1d98928d9a14be2ba85", func := "tsblock/tsblocklaw20.VerifyReports", spec := "verifyReports", inPlace := ["internal/reflectlite.ValueOf", "(internal/reflectlite.Value).Type", "(internal/reflectlite.Value).IsNil", "internal/reflectlite.TypeOf", "(internal/reflectlite.Value).Elem", "(internal/reflectlite.Value).Set"], unfollowed := true, recurses := true, named := ["tsblock/crc.table", "tsblock/times.forms", "math/bits.deBruijn64tab", "errors.errorType"], plainKeys := false, apart := false, laid := [("math/bits.deBruijn64tab", laid_math_bits_deBruijn64tab), ("tsblock/crc.table", laid_tsblock_crc_table), ("errors.errorType", laid_errors_errorType), ("tsblock/times.forms", laid_tsblock_times_forms)] }
def VerifyReportsSaid : Prop := verifyReportsRow.holds Tryz.pinned (OpenSpec.ofChange verifyReportsSpec)

/-- ITS FALSE NEIGHBOUR: 'it returns false'. Refute it at one input. -/
def verifyReportsWrong : ChangeSpec := { name := "verifyReports", fn := fun _ => fun
  | [d] => { results := [.lit (.bool false)], args := [d] }
  | _ => none }
def VerifyReportsWrongFalsely : Prop := verifyReportsRow.holds Tryz.pinned (OpenSpec.ofChange verifyReportsWrong)

/-- 'tsblocklaw20.VerifyTexts': WHATEVER THE INPUT: true; the input reads as it did. -/
def verifyTextsSpec : ChangeSpec := { name := "verifyTexts", fn := fun _ => fun
  | [d1, d2] => { results := [.lit (.bool true)], args := [d1, d2] }
  | _ => none }
def verifyTextsRow : OpenClaim := { program := "ytaaeeabpbmigoaagreatdoor", sum := "8fa6f8b91b9d3b9b1f281fdb5aae4a5f31d17738c9f7a1d98928d9a14be2ba85", func := "tsblock/tsblocklaw20.VerifyTexts", spec := "verifyTexts", inPlace := ["internal/reflectlite.ValueOf", "(internal/reflectlite.Value).Type", "(internal/reflectlite.Value).IsNil", "internal/reflectlite.TypeOf", "(internal/reflectlite.Value).Elem", "(internal/reflectlite.Value).Set"], unfollowed := true, recurses := true, named := ["tsblock/crc.table", "tsblock/times.forms", "math/bits.deBruijn64tab", "errors.errorType", "tsblock/verify.words", "internal/strconv.uint64pow10", "math/bits.deBruijn32tab"], plainKeys := false, apart := false, laid := [("math/bits.deBruijn32tab", laid_math_bits_deBruijn32tab), ("math/bits.deBruijn64tab", laid_math_bits_deBruijn64tab), ("internal/strconv.uint64pow10", laid_internal_strconv_uint64pow10), ("tsblock/crc.table", laid_tsblock_crc_table), ("errors.errorType", laid_errors_errorType), ("tsblock/times.forms", laid_tsblock_times_forms), ("tsblock/verify.words", laid_tsblock_verify_words)] }
def VerifyTextsSaid : Prop := verifyTextsRow.holds Tryz.pinned (OpenSpec.ofChange verifyTextsSpec)

/-- ITS FALSE NEIGHBOUR: 'it returns false'. Refute it at one input. -/
def verifyTextsWrong : ChangeSpec := { name := "verifyTexts", fn := fun _ => fun
  | [d1, d2] => { results := [.lit (.bool false)], args := [d1, d2] }
  | _ => none }
def VerifyTextsWrongFalsely : Prop := verifyTextsRow.holds Tryz.pinned (OpenSpec.ofChange verifyTextsWrong)

/-- 'tsblocklaw20.VerifyAccepts': WHATEVER THE INPUT: true; the input reads as it did. -/
def verifyAcceptsSpec : ChangeSpec := { name := "verifyAccepts", fn := fun _ => fun
  | [d] => { results := [.lit (.bool true)], args := [d] }
  | _ => none }
def verifyAcceptsRow : OpenClaim := { program := "ytaaeeabpbmigoaagreatdoor", sum := "8fa6f8b91b9d3b9b1f281fdb5aae4a5f31d17738c9f7a1d98928d9a14be2ba85", func := "tsblock/tsblocklaw20.VerifyAccepts", spec := "verifyAccepts", inPlace := ["internal/reflectlite.ValueOf", "(internal/reflectlite.Value).Type", "(internal/reflectlite.Value).IsNil", "internal/reflectlite.TypeOf", "(internal/reflectlite.Value).Elem", "(internal/reflectlite.Value).Set"], unfollowed := true, recurses := true, named := ["tsblock/crc.table", "tsblock/times.forms", "math/bits.deBruijn64tab", "errors.errorType"], plainKeys := false, apart := false, laid := [("math/bits.deBruijn64tab", laid_math_bits_deBruijn64tab), ("tsblock/crc.table", laid_tsblock_crc_table), ("errors.errorType", laid_errors_errorType), ("tsblock/times.forms", laid_tsblock_times_forms)] }
def VerifyAcceptsSaid : Prop := verifyAcceptsRow.holds Tryz.pinned (OpenSpec.ofChange verifyAcceptsSpec)

/-- ITS FALSE NEIGHBOUR: 'it returns false'. Refute it at one input. -/
def verifyAcceptsWrong : ChangeSpec := { name := "verifyAccepts", fn := fun _ => fun
  | [d] => { results := [.lit (.bool false)], args := [d] }
  | _ => none }
def VerifyAcceptsWrongFalsely : Prop := verifyAcceptsRow.holds Tryz.pinned (OpenSpec.ofChange verifyAcceptsWrong)

/-- 'tsblocklaw20.VerifyFindsDamage': WHATEVER THE INPUT: true; the input reads as it did. -/
def verifyFindsDamageSpec : ChangeSpec := { name := "verifyFindsDamage", fn := fun _ => fun
  | [d1, d2, d3] => { results := [.lit (.bool true)], args := [d1, d2, d3] }
  | _ => none }
def verifyFindsDamageRow : OpenClaim := { program := "ytaaeeabpbmigoaagreatdoor", sum := "8fa6f8b91b9d3b9b1f281fdb5aae4a5f31d17738c9f7a1d98928d9a14be2ba85", func := "tsblock/tsblocklaw20.VerifyFindsDamage", spec := "verifyFindsDamage", inPlace := ["internal/reflectlite.ValueOf", "(internal/reflectlite.Value).Type", "(internal/reflectlite.Value).IsNil", "internal/reflectlite.TypeOf", "(internal/reflectlite.Value).Elem", "(internal/reflectlite.Value).Set"], unfollowed := true, recurses := true, named := ["tsblock/crc.table", "tsblock/times.forms", "math/bits.deBruijn64tab", "errors.errorType"], plainKeys := false, apart := false, laid := [("math/bits.deBruijn64tab", laid_math_bits_deBruijn64tab), ("tsblock/crc.table", laid_tsblock_crc_table), ("errors.errorType", laid_errors_errorType), ("tsblock/times.forms", laid_tsblock_times_forms)] }
def VerifyFindsDamageSaid : Prop := verifyFindsDamageRow.holds Tryz.pinned (OpenSpec.ofChange verifyFindsDamageSpec)

/-- ITS FALSE NEIGHBOUR: 'it returns false'. Refute it at one input. -/
def verifyFindsDamageWrong : ChangeSpec := { name := "verifyFindsDamage", fn := fun _ => fun
  | [d1, d2, d3] => { results := [.lit (.bool false)], args := [d1, d2, d3] }
  | _ => none }
def VerifyFindsDamageWrongFalsely : Prop := verifyFindsDamageRow.holds Tryz.pinned (OpenSpec.ofChange verifyFindsDamageWrong)

/-- 'tsblocklaw20.VerifyClasses': WHATEVER THE INPUT: true; the input reads as it did. -/
def verifyClassesSpec : ChangeSpec := { name := "verifyClasses", fn := fun _ => fun
  | [d1, d2] => { results := [.lit (.bool true)], args := [d1, d2] }
  | _ => none }
def verifyClassesRow : OpenClaim := { program := "ytaaeeabpbmigoaagreatdoor", sum := "8fa6f8b91b9d3b9b1f281fdb5aae4a5f31d17738c9f7a1d98928d9a14be2ba85", func := "tsblock/tsblocklaw20.VerifyClasses", spec := "verifyClasses", inPlace := ["internal/reflectlite.ValueOf", "(internal/reflectlite.Value).Type", "(internal/reflectlite.Value).IsNil", "internal/reflectlite.TypeOf", "(internal/reflectlite.Value).Elem", "(internal/reflectlite.Value).Set"], unfollowed := true, recurses := true, named := ["tsblock/crc.table", "tsblock/times.forms", "math/bits.deBruijn64tab", "errors.errorType"], plainKeys := false, apart := false, laid := [("math/bits.deBruijn64tab", laid_math_bits_deBruijn64tab), ("tsblock/crc.table", laid_tsblock_crc_table), ("errors.errorType", laid_errors_errorType), ("tsblock/times.forms", laid_tsblock_times_forms)] }
def VerifyClassesSaid : Prop := verifyClassesRow.holds Tryz.pinned (OpenSpec.ofChange verifyClassesSpec)

/-- ITS FALSE NEIGHBOUR: 'it returns false'. Refute it at one input. -/
def verifyClassesWrong : ChangeSpec := { name := "verifyClasses", fn := fun _ => fun
  | [d1, d2] => { results := [.lit (.bool false)], args := [d1, d2] }
  | _ => none }
def VerifyClassesWrongFalsely : Prop := verifyClassesRow.holds Tryz.pinned (OpenSpec.ofChange verifyClassesWrong)

/-- 'tsblocklaw20.VerifyChecks': WHATEVER THE INPUT: true; the input reads as it did. -/
def verifyChecksSpec : ChangeSpec := { name := "verifyChecks", fn := fun _ => fun
  | [d] => { results := [.lit (.bool true)], args := [d] }
  | _ => none }
def verifyChecksRow : OpenClaim := { program := "ytaaeeabpbmigoaagreatdoor", sum := "8fa6f8b91b9d3b9b1f281fdb5aae4a5f31d17738c9f7a1d98928d9a14be2ba85", func := "tsblock/tsblocklaw20.VerifyChecks", spec := "verifyChecks", inPlace := ["internal/reflectlite.ValueOf", "(internal/reflectlite.Value).Type", "(internal/reflectlite.Value).IsNil", "internal/reflectlite.TypeOf", "(internal/reflectlite.Value).Elem", "(internal/reflectlite.Value).Set"], unfollowed := true, recurses := true, named := ["tsblock/crc.table", "tsblock/times.forms", "math/bits.deBruijn64tab", "errors.errorType"], plainKeys := false, apart := false, laid := [("math/bits.deBruijn64tab", laid_math_bits_deBruijn64tab), ("tsblock/crc.table", laid_tsblock_crc_table), ("errors.errorType", laid_errors_errorType), ("tsblock/times.forms", laid_tsblock_times_forms)] }
def VerifyChecksSaid : Prop := verifyChecksRow.holds Tryz.pinned (OpenSpec.ofChange verifyChecksSpec)

/-- ITS FALSE NEIGHBOUR: 'it returns false'. Refute it at one input. -/
def verifyChecksWrong : ChangeSpec := { name := "verifyChecks", fn := fun _ => fun
  | [d] => { results := [.lit (.bool false)], args := [d] }
  | _ => none }
def VerifyChecksWrongFalsely : Prop := verifyChecksRow.holds Tryz.pinned (OpenSpec.ofChange verifyChecksWrong)

/-- 'tsblocklaw18.DecodeChunks': WHATEVER THE INPUT: true; the input reads as it did. -/
def decodeChunksSpec : ChangeSpec := { name := "decodeChunks", fn := fun _ => fun
  | [d1, d2] => { results := [.lit (.bool true)], args := [d1, d2] }
  | _ => none }
def decodeChunksRow : OpenClaim := { program := "ytaaeeabpbmigoaagreatdoor", sum := "8fa6f8b91b9d3b9b1f281fdb5aae4a5f31d17738c9f7a1d98928d9a14be2ba85", func := "tsblock/tsblocklaw18.DecodeChunks", spec := "decodeChunks", unfollowed := true, recurses := true, named := ["math/bits.deBruijn64tab", "tsblock/times.forms", "tsblock/crc.table"], plainKeys := false, apart := false, laid := [("math/bits.deBruijn64tab", laid_math_bits_deBruijn64tab), ("tsblock/crc.table", laid_tsblock_crc_table), ("tsblock/times.forms", laid_tsblock_times_forms)] }
def DecodeChunksSaid : Prop := decodeChunksRow.holds Tryz.pinned (OpenSpec.ofChange decodeChunksSpec)

/-- ITS FALSE NEIGHBOUR: 'it returns false'. Refute it at one input. -/
def decodeChunksWrong : ChangeSpec := { name := "decodeChunks", fn := fun _ => fun
  | [d1, d2] => { results := [.lit (.bool false)], args := [d1, d2] }
  | _ => none }
def DecodeChunksWrongFalsely : Prop := decodeChunksRow.holds Tryz.pinned (OpenSpec.ofChange decodeChunksWrong)

/- THE SECOND FORM. 'bulk': how many values and letters a reading holds, each counted each time it is reached (what is shared counts as often as it is met; a slice's spare places count too). A statement '..UptoSaid' is the law's where the arguments, and the package variables that the reading takes, are together of bulk at most 1048576: NARROWER than '..Said'. Prove '..Said' where nothing that the law and all that it calls make is longer than what came in: it says more and counts as full. Else prove '..UptoSaid'. A law counts once. -/
mutual
def uptoBulk {H : Type} : DataW H → Nat
  | .lit (.string bytes) => bytes.length + 1
  | .lit _ => 1
  | .nil => 1
  | .ptr d => uptoBulk d + 1
  | .slice elems spare => uptoBulkAll elems + uptoBulkAll spare + 1
  | .agg parts => uptoBulkAll parts + 1
  | .iface _ d => uptoBulk d + 1
  | .map entries => uptoBulkEntries entries + 1
  | .held _ => 1
def uptoBulkAll {H : Type} : List (DataW H) → Nat
  | [] => 0
  | d :: r => uptoBulk d + uptoBulkAll r
def uptoBulkEntries {H : Type} : List (Lit × DataW H) → Nat
  | [] => 0
  | x :: r => uptoBulkEntry x + uptoBulkEntries r
def uptoBulkEntry {H : Type} : Lit × DataW H → Nat
  | (.string bytes, d) => bytes.length + uptoBulk d + 1
  | (_, d) => uptoBulk d + 1
 end
def uptoSmall : (H : Type) → List (DataW H) → Bool := fun _ ds => decide (uptoBulkAll ds ≤ 1048576)
def OpenSpec.upto (s : _root_.Go.ChangeSpec) : _root_.Go.OpenSpec := { _root_.Go.OpenSpec.ofChange s with cond := some uptoSmall }

/-- 'tsblocklaw21.QueryFilters', WHERE WHAT IT READS IS OF BULK AT MOST 1048576: true; the input reads as it did. -/
def queryFiltersUptoRow : OpenClaim := { program := "ytaaeeabpbmigoaagreatdoor", sum := "8fa6f8b91b9d3b9b1f281fdb5aae4a5f31d17738c9f7a1d98928d9a14be2ba85", func := "tsblock/tsblocklaw21.QueryFilters", spec := "queryFilters", unfollowed := true, recurses := true, named := ["tsblock/crc.table", "tsblock/times.forms", "math/bits.deBruijn64tab"], plainKeys := false, apart := false, laid := [("math/bits.deBruijn64tab", laid_math_bits_deBruijn64tab), ("tsblock/crc.table", laid_tsblock_crc_table), ("tsblock/times.forms", laid_tsblock_times_forms)], narrowed := true }
def QueryFiltersUptoSaid : Prop := queryFiltersUptoRow.holds Tryz.pinned (OpenSpec.upto queryFiltersSpec)

/-- 'tsblocklaw21.QuerySelects', WHERE WHAT IT READS IS OF BULK AT MOST 1048576: true; the input reads as it did. -/
def querySelectsUptoRow : OpenClaim := { program := "ytaaeeabpbmigoaagreatdoor", sum := "8fa6f8b91b9d3b9b1f281fdb5aae4a5f31d17738c9f7a1d98928d9a14be2ba85", func := "tsblock/tsblocklaw21.QuerySelects", spec := "querySelects", unfollowed := true, recurses := true, named := ["tsblock/crc.table", "tsblock/times.forms", "math/bits.deBruijn64tab"], plainKeys := false, apart := false, laid := [("math/bits.deBruijn64tab", laid_math_bits_deBruijn64tab), ("tsblock/crc.table", laid_tsblock_crc_table), ("tsblock/times.forms", laid_tsblock_times_forms)], narrowed := true }
def QuerySelectsUptoSaid : Prop := querySelectsUptoRow.holds Tryz.pinned (OpenSpec.upto querySelectsSpec)

/-- 'tsblocklaw21.QueryOpens', WHERE WHAT IT READS IS OF BULK AT MOST 1048576: true; the input reads as it did. -/
def queryOpensUptoRow : OpenClaim := { program := "ytaaeeabpbmigoaagreatdoor", sum := "8fa6f8b91b9d3b9b1f281fdb5aae4a5f31d17738c9f7a1d98928d9a14be2ba85", func := "tsblock/tsblocklaw21.QueryOpens", spec := "queryOpens", unfollowed := true, recurses := true, named := ["tsblock/crc.table", "tsblock/times.forms", "math/bits.deBruijn64tab"], plainKeys := false, apart := false, laid := [("math/bits.deBruijn64tab", laid_math_bits_deBruijn64tab), ("tsblock/crc.table", laid_tsblock_crc_table), ("tsblock/times.forms", laid_tsblock_times_forms)], narrowed := true }
def QueryOpensUptoSaid : Prop := queryOpensUptoRow.holds Tryz.pinned (OpenSpec.upto queryOpensSpec)

/-- 'tsblocklaw21.QuerySplits', WHERE WHAT IT READS IS OF BULK AT MOST 1048576: true; the input reads as it did. -/
def querySplitsUptoRow : OpenClaim := { program := "ytaaeeabpbmigoaagreatdoor", sum := "8fa6f8b91b9d3b9b1f281fdb5aae4a5f31d17738c9f7a1d98928d9a14be2ba85", func := "tsblock/tsblocklaw21.QuerySplits", spec := "querySplits", unfollowed := true, recurses := true, named := ["tsblock/crc.table", "tsblock/times.forms", "math/bits.deBruijn64tab"], plainKeys := false, apart := false, laid := [("math/bits.deBruijn64tab", laid_math_bits_deBruijn64tab), ("tsblock/crc.table", laid_tsblock_crc_table), ("tsblock/times.forms", laid_tsblock_times_forms)], narrowed := true }
def QuerySplitsUptoSaid : Prop := querySplitsUptoRow.holds Tryz.pinned (OpenSpec.upto querySplitsSpec)

/-- 'tsblocklaw21.QueryValues', WHERE WHAT IT READS IS OF BULK AT MOST 1048576: true; the input reads as it did. -/
def queryValuesUptoRow : OpenClaim := { program := "ytaaeeabpbmigoaagreatdoor", sum := "8fa6f8b91b9d3b9b1f281fdb5aae4a5f31d17738c9f7a1d98928d9a14be2ba85", func := "tsblock/tsblocklaw21.QueryValues", spec := "queryValues", unfollowed := true, recurses := true, named := ["tsblock/crc.table", "tsblock/times.forms", "math/bits.deBruijn64tab"], plainKeys := false, apart := false, laid := [("math/bits.deBruijn64tab", laid_math_bits_deBruijn64tab), ("tsblock/crc.table", laid_tsblock_crc_table), ("tsblock/times.forms", laid_tsblock_times_forms)], narrowed := true }
def QueryValuesUptoSaid : Prop := queryValuesUptoRow.holds Tryz.pinned (OpenSpec.upto queryValuesSpec)

/-- 'tsblocklaw20.VerifyReports', WHERE WHAT IT READS IS OF BULK AT MOST 1048576: true; the input reads as it did. -/
def verifyReportsUptoRow : OpenClaim := { program := "ytaaeeabpbmigoaagreatdoor", sum := "8fa6f8b91b9d3b9b1f281fdb5aae4a5f31d17738c9f7a1d98928d9a14be2ba85", func := "tsblock/tsblocklaw20.VerifyReports", spec := "verifyReports", inPlace := ["internal/reflectlite.ValueOf", "(internal/reflectlite.Value).Type", "(internal/reflectlite.Value).IsNil", "internal/reflectlite.TypeOf", "(internal/reflectlite.Value).Elem", "(internal/reflectlite.Value).Set"], unfollowed := true, recurses := true, named := ["tsblock/crc.table", "tsblock/times.forms", "math/bits.deBruijn64tab", "errors.errorType"], plainKeys := false, apart := false, laid := [("math/bits.deBruijn64tab", laid_math_bits_deBruijn64tab), ("tsblock/crc.table", laid_tsblock_crc_table), ("errors.errorType", laid_errors_errorType), ("tsblock/times.forms", laid_tsblock_times_forms)], narrowed := true }
def VerifyReportsUptoSaid : Prop := verifyReportsUptoRow.holds Tryz.pinned (OpenSpec.upto verifyReportsSpec)

/-- 'tsblocklaw20.VerifyTexts', WHERE WHAT IT READS IS OF BULK AT MOST 1048576: true; the input reads as it did. -/
def verifyTextsUptoRow : OpenClaim := { program := "ytaaeeabpbmigoaagreatdoor", sum := "8fa6f8b91b9d3b9b1f281fdb5aae4a5f31d17738c9f7a1d98928d9a14be2ba85", func := "tsblock/tsblocklaw20.VerifyTexts", spec := "verifyTexts", inPlace := ["internal/reflectlite.ValueOf", "(internal/reflectlite.Value).Type", "(internal/reflectlite.Value).IsNil", "internal/reflectlite.TypeOf", "(internal/reflectlite.Value).Elem", "(internal/reflectlite.Value).Set"], unfollowed := true, recurses := true, named := ["tsblock/crc.table", "tsblock/times.forms", "math/bits.deBruijn64tab", "errors.errorType", "tsblock/verify.words", "internal/strconv.uint64pow10", "math/bits.deBruijn32tab"], plainKeys := false, apart := false, laid := [("math/bits.deBruijn32tab", laid_math_bits_deBruijn32tab), ("math/bits.deBruijn64tab", laid_math_bits_deBruijn64tab), ("internal/strconv.uint64pow10", laid_internal_strconv_uint64pow10), ("tsblock/crc.table", laid_tsblock_crc_table), ("errors.errorType", laid_errors_errorType), ("tsblock/times.forms", laid_tsblock_times_forms), ("tsblock/verify.words", laid_tsblock_verify_words)], narrowed := true }
def VerifyTextsUptoSaid : Prop := verifyTextsUptoRow.holds Tryz.pinned (OpenSpec.upto verifyTextsSpec)

/-- 'tsblocklaw20.VerifyAccepts', WHERE WHAT IT READS IS OF BULK AT MOST 1048576: true; the input reads as it did. -/
def verifyAcceptsUptoRow : OpenClaim := { program := "ytaaeeabpbmigoaagreatdoor", sum := "8fa6f8b91b9d3b9b1f281fdb5aae4a5f31d17738c9f7a1d98928d9a14be2ba85", func := "tsblock/tsblocklaw20.VerifyAccepts", spec := "verifyAccepts", inPlace := ["internal/reflectlite.ValueOf", "(internal/reflectlite.Value).Type", "(internal/reflectlite.Value).IsNil", "internal/reflectlite.TypeOf", "(internal/reflectlite.Value).Elem", "(internal/reflectlite.Value).Set"], unfollowed := true, recurses := true, named := ["tsblock/crc.table", "tsblock/times.forms", "math/bits.deBruijn64tab", "errors.errorType"], plainKeys := false, apart := false, laid := [("math/bits.deBruijn64tab", laid_math_bits_deBruijn64tab), ("tsblock/crc.table", laid_tsblock_crc_table), ("errors.errorType", laid_errors_errorType), ("tsblock/times.forms", laid_tsblock_times_forms)], narrowed := true }
def VerifyAcceptsUptoSaid : Prop := verifyAcceptsUptoRow.holds Tryz.pinned (OpenSpec.upto verifyAcceptsSpec)

/-- 'tsblocklaw20.VerifyFindsDamage', WHERE WHAT IT READS IS OF BULK AT MOST 1048576: true; the input reads as it did. -/
def verifyFindsDamageUptoRow : OpenClaim := { program := "ytaaeeabpbmigoaagreatdoor", sum := "8fa6f8b91b9d3b9b1f281fdb5aae4a5f31d17738c9f7a1d98928d9a14be2ba85", func := "tsblock/tsblocklaw20.VerifyFindsDamage", spec := "verifyFindsDamage", inPlace := ["internal/reflectlite.ValueOf", "(internal/reflectlite.Value).Type", "(internal/reflectlite.Value).IsNil", "internal/reflectlite.TypeOf", "(internal/reflectlite.Value).Elem", "(internal/reflectlite.Value).Set"], unfollowed := true, recurses := true, named := ["tsblock/crc.table", "tsblock/times.forms", "math/bits.deBruijn64tab", "errors.errorType"], plainKeys := false, apart := false, laid := [("math/bits.deBruijn64tab", laid_math_bits_deBruijn64tab), ("tsblock/crc.table", laid_tsblock_crc_table), ("errors.errorType", laid_errors_errorType), ("tsblock/times.forms", laid_tsblock_times_forms)], narrowed := true }
def VerifyFindsDamageUptoSaid : Prop := verifyFindsDamageUptoRow.holds Tryz.pinned (OpenSpec.upto verifyFindsDamageSpec)

/-- 'tsblocklaw20.VerifyClasses', WHERE WHAT IT READS IS OF BULK AT MOST 1048576: true; the input reads as it did. -/
def verifyClassesUptoRow : OpenClaim := { program := "ytaaeeabpbmigoaagreatdoor", sum := "8fa6f8b91b9d3b9b1f281fdb5aae4a5f31d17738c9f7a1d98928d9a14be2ba85", func := "tsblock/tsblocklaw20.VerifyClasses", spec := "verifyClasses", inPlace := ["internal/reflectlite.ValueOf", "(internal/reflectlite.Value).Type", "(internal/reflectlite.Value).IsNil", "internal/reflectlite.TypeOf", "(internal/reflectlite.Value).Elem", "(internal/reflectlite.Value).Set"], unfollowed := true, recurses := true, named := ["tsblock/crc.table", "tsblock/times.forms", "math/bits.deBruijn64tab", "errors.errorType"], plainKeys := false, apart := false, laid := [("math/bits.deBruijn64tab", laid_math_bits_deBruijn64tab), ("tsblock/crc.table", laid_tsblock_crc_table), ("errors.errorType", laid_errors_errorType), ("tsblock/times.forms", laid_tsblock_times_forms)], narrowed := true }
def VerifyClassesUptoSaid : Prop := verifyClassesUptoRow.holds Tryz.pinned (OpenSpec.upto verifyClassesSpec)

/-- 'tsblocklaw20.VerifyChecks', WHERE WHAT IT READS IS OF BULK AT MOST 1048576: true; the input reads as it did. -/
def verifyChecksUptoRow : OpenClaim := { program := "ytaaeeabpbmigoaagreatdoor", sum := "8fa6f8b91b9d3b9b1f281fdb5aae4a5f31d17738c9f7a1d98928d9a14be2ba85", func := "tsblock/tsblocklaw20.VerifyChecks", spec := "verifyChecks", inPlace := ["internal/reflectlite.ValueOf", "(internal/reflectlite.Value).Type", "(internal/reflectlite.Value).IsNil", "internal/reflectlite.TypeOf", "(internal/reflectlite.Value).Elem", "(internal/reflectlite.Value).Set"], unfollowed := true, recurses := true, named := ["tsblock/crc.table", "tsblock/times.forms", "math/bits.deBruijn64tab", "errors.errorType"], plainKeys := false, apart := false, laid := [("math/bits.deBruijn64tab", laid_math_bits_deBruijn64tab), ("tsblock/crc.table", laid_tsblock_crc_table), ("errors.errorType", laid_errors_errorType), ("tsblock/times.forms", laid_tsblock_times_forms)], narrowed := true }
def VerifyChecksUptoSaid : Prop := verifyChecksUptoRow.holds Tryz.pinned (OpenSpec.upto verifyChecksSpec)

/-- 'tsblocklaw18.DecodeChunks', WHERE WHAT IT READS IS OF BULK AT MOST 1048576: true; the input reads as it did. -/
def decodeChunksUptoRow : OpenClaim := { program := "ytaaeeabpbmigoaagreatdoor", sum := "8fa6f8b91b9d3b9b1f281fdb5aae4a5f31d17738c9f7a1d98928d9a14be2ba85", func := "tsblock/tsblocklaw18.DecodeChunks", spec := "decodeChunks", unfollowed := true, recurses := true, named := ["math/bits.deBruijn64tab", "tsblock/times.forms", "tsblock/crc.table"], plainKeys := false, apart := false, laid := [("math/bits.deBruijn64tab", laid_math_bits_deBruijn64tab), ("tsblock/crc.table", laid_tsblock_crc_table), ("tsblock/times.forms", laid_tsblock_times_forms)], narrowed := true }
def DecodeChunksUptoSaid : Prop := decodeChunksUptoRow.holds Tryz.pinned (OpenSpec.upto decodeChunksSpec)

end Rows
end Go.Proofs.YtaaeeabpbmigoaaGreatDoor
