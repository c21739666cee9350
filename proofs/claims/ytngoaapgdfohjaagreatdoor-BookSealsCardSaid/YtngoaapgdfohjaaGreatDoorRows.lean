/-
  NARROWER THAN 'FOR EVERY INPUT', by the rows' own cells (each row's printed sentence says how): NamesBuild: laid · NamesClash: laid · NamesBack: laid · BookPrints: laid · BookParses: laid · BookSeals: laid · BookOne: laid.
  DERIVED. THE GIVEN ROWS OF THIS SEAT. 7 by the template 'for every input the law returns true; each argument reads behind the call as it read before'; 0 by the template 'total and deterministic' (their statements: YtngoaapgdfohjaaGreatDoorTotals.lean).
  GIVEN WITH THE SEED: the statements are not yours to turn. If you find one false, say at which input.
  Laid BY PROGRAM, IN A SANDBOX (cutbox-rows.mjs): the forced cells as the released guide's own fill.sh prints them over the translation fa2b93ad86ec24d5… (all of the seat's roots in one cut). By AI agents, Wed Nov 11 2026. No macro, syntax, notation, axiom, sorry.
-/
import Derived.Test.YtngoaapgdfohjaaGreatDoorChecked
import GoSem.PinnedTables
import GoSem.Claim
import GoSem.ClaimJoined
import GoSem.ClaimMapViews
import Derived.JoinedTies
import Derived.KernelRfl
namespace Go.Proofs.YtngoaapgdfohjaaGreatDoor
/- THE CELL 'sum', in the pinned program and in every row, IS THE sha256 OF THE DUMP (.gsa) THAT YtngoaapgdfohjaaGreatDoorProg.lean LOADS. Nothing in Lean hashes anything: it is a label: what it is worth is what the hold of that sum in a sandbox is worth. -/
noncomputable def Tryz.pinned : Pinned := { name := "ytngoaapgdfohjaagreatdoor", sum := "fa2b93ad86ec24d5a3b153d0b091eb43fd8a0af7be4af97c4b43539386c57c42", checked := Tryz.checked }
namespace Rows
def none {H : Type} : Left H := { results := [], args := [] }

/- WHAT THE LISTED PACKAGE-LEVEL VARIABLES READ AS WHEN THE CALL BEGINS. Each datum BY PROGRAM (the guide's laid-datum.mjs) off the statement by which the dump's own 'gosem.cut.vars' lays the variable. In a bare row this is a premise. The card (YtngoaapgdfohjaaGreatDoorCards.lean) ties it to the program's text. -/
def laid_math_bits_deBruijn32tab {H : Type} : DataW H := .agg [.lit (.int .u8 0), .lit (.int .u8 1), .lit (.int .u8 28), .lit (.int .u8 2), .lit (.int .u8 29), .lit (.int .u8 14), .lit (.int .u8 24), .lit (.int .u8 3), .lit (.int .u8 30), .lit (.int .u8 22), .lit (.int .u8 20), .lit (.int .u8 15), .lit (.int .u8 25), .lit (.int .u8 17), .lit (.int .u8 4), .lit (.int .u8 8), .lit (.int .u8 31), .lit (.int .u8 27), .lit (.int .u8 13), .lit (.int .u8 23), .lit (.int .u8 21), .lit (.int .u8 19), .lit (.int .u8 16), .lit (.int .u8 7), .lit (.int .u8 26), .lit (.int .u8 12), .lit (.int .u8 18), .lit (.int .u8 6), .lit (.int .u8 11), .lit (.int .u8 5), .lit (.int .u8 10), .lit (.int .u8 9)]
def laid_math_bits_deBruijn64tab {H : Type} : DataW H := .agg [.lit (.int .u8 0), .lit (.int .u8 1), .lit (.int .u8 56), .lit (.int .u8 2), .lit (.int .u8 57), .lit (.int .u8 49), .lit (.int .u8 28), .lit (.int .u8 3), .lit (.int .u8 61), .lit (.int .u8 58), .lit (.int .u8 42), .lit (.int .u8 50), .lit (.int .u8 38), .lit (.int .u8 29), .lit (.int .u8 17), .lit (.int .u8 4), .lit (.int .u8 62), .lit (.int .u8 47), .lit (.int .u8 59), .lit (.int .u8 36), .lit (.int .u8 45), .lit (.int .u8 43), .lit (.int .u8 51), .lit (.int .u8 22), .lit (.int .u8 53), .lit (.int .u8 39), .lit (.int .u8 33), .lit (.int .u8 30), .lit (.int .u8 24), .lit (.int .u8 18), .lit (.int .u8 12), .lit (.int .u8 5), .lit (.int .u8 63), .lit (.int .u8 55), .lit (.int .u8 48), .lit (.int .u8 27), .lit (.int .u8 60), .lit (.int .u8 41), .lit (.int .u8 37), .lit (.int .u8 16), .lit (.int .u8 46), .lit (.int .u8 35), .lit (.int .u8 44), .lit (.int .u8 21), .lit (.int .u8 52), .lit (.int .u8 32), .lit (.int .u8 23), .lit (.int .u8 11), .lit (.int .u8 54), .lit (.int .u8 26), .lit (.int .u8 40), .lit (.int .u8 15), .lit (.int .u8 34), .lit (.int .u8 20), .lit (.int .u8 31), .lit (.int .u8 10), .lit (.int .u8 25), .lit (.int .u8 14), .lit (.int .u8 19), .lit (.int .u8 9), .lit (.int .u8 13), .lit (.int .u8 8), .lit (.int .u8 7), .lit (.int .u8 6)]
def laid_internal_strconv_uint64pow10 {H : Type} : DataW H := .agg [.lit (.int .u64 1), .lit (.int .u64 10), .lit (.int .u64 100), .lit (.int .u64 1000), .lit (.int .u64 10000), .lit (.int .u64 100000), .lit (.int .u64 1000000), .lit (.int .u64 10000000), .lit (.int .u64 100000000), .lit (.int .u64 1000000000), .lit (.int .u64 10000000000), .lit (.int .u64 100000000000), .lit (.int .u64 1000000000000), .lit (.int .u64 10000000000000), .lit (.int .u64 100000000000000), .lit (.int .u64 1000000000000000), .lit (.int .u64 10000000000000000), .lit (.int .u64 100000000000000000), .lit (.int .u64 1000000000000000000), .lit (.int .u64 10000000000000000000)]
def laid_incognito_sha_rounds {H : Type} : DataW H := .agg [.lit (.int .u32 1116352408), .lit (.int .u32 1899447441), .lit (.int .u32 3049323471), .lit (.int .u32 3921009573), .lit (.int .u32 961987163), .lit (.int .u32 1508970993), .lit (.int .u32 2453635748), .lit (.int .u32 2870763221), .lit (.int .u32 3624381080), .lit (.int .u32 310598401), .lit (.int .u32 607225278), .lit (.int .u32 1426881987), .lit (.int .u32 1925078388), .lit (.int .u32 2162078206), .lit (.int .u32 2614888103), .lit (.int .u32 3248222580), .lit (.int .u32 3835390401), .lit (.int .u32 4022224774), .lit (.int .u32 264347078), .lit (.int .u32 604807628), .lit (.int .u32 770255983), .lit (.int .u32 1249150122), .lit (.int .u32 1555081692), .lit (.int .u32 1996064986), .lit (.int .u32 2554220882), .lit (.int .u32 2821834349), .lit (.int .u32 2952996808), .lit (.int .u32 3210313671), .lit (.int .u32 3336571891), .lit (.int .u32 3584528711), .lit (.int .u32 113926993), .lit (.int .u32 338241895), .lit (.int .u32 666307205), .lit (.int .u32 773529912), .lit (.int .u32 1294757372), .lit (.int .u32 1396182291), .lit (.int .u32 1695183700), .lit (.int .u32 1986661051), .lit (.int .u32 2177026350), .lit (.int .u32 2456956037), .lit (.int .u32 2730485921), .lit (.int .u32 2820302411), .lit (.int .u32 3259730800), .lit (.int .u32 3345764771), .lit (.int .u32 3516065817), .lit (.int .u32 3600352804), .lit (.int .u32 4094571909), .lit (.int .u32 275423344), .lit (.int .u32 430227734), .lit (.int .u32 506948616), .lit (.int .u32 659060556), .lit (.int .u32 883997877), .lit (.int .u32 958139571), .lit (.int .u32 1322822218), .lit (.int .u32 1537002063), .lit (.int .u32 1747873779), .lit (.int .u32 1955562222), .lit (.int .u32 2024104815), .lit (.int .u32 2227730452), .lit (.int .u32 2361852424), .lit (.int .u32 2428436474), .lit (.int .u32 2756734187), .lit (.int .u32 3204031479), .lit (.int .u32 3329325298)]
def laid_incognito_value_yes {H : Type} : DataW H := .agg [.lit (.int .i64 3), .lit (.int .i64 1), .lit (.string [])]
def laid_incognito_value_no {H : Type} : DataW H := .agg [.lit (.int .i64 3), .lit (.int .i64 0), .lit (.string [])]
def laid_unicode_utf8_acceptRanges {H : Type} : DataW H := .agg [.agg [.lit (.int .u8 128), .lit (.int .u8 191)], .agg [.lit (.int .u8 160), .lit (.int .u8 191)], .agg [.lit (.int .u8 128), .lit (.int .u8 159)], .agg [.lit (.int .u8 144), .lit (.int .u8 191)], .agg [.lit (.int .u8 128), .lit (.int .u8 143)], .agg [.lit (.int .u8 0), .lit (.int .u8 0)], .agg [.lit (.int .u8 0), .lit (.int .u8 0)], .agg [.lit (.int .u8 0), .lit (.int .u8 0)], .agg [.lit (.int .u8 0), .lit (.int .u8 0)], .agg [.lit (.int .u8 0), .lit (.int .u8 0)], .agg [.lit (.int .u8 0), .lit (.int .u8 0)], .agg [.lit (.int .u8 0), .lit (.int .u8 0)], .agg [.lit (.int .u8 0), .lit (.int .u8 0)], .agg [.lit (.int .u8 0), .lit (.int .u8 0)], .agg [.lit (.int .u8 0), .lit (.int .u8 0)], .agg [.lit (.int .u8 0), .lit (.int .u8 0)]]
def laid_incognito_policy_domains {H : Type} : DataW H := .agg [.lit (.string [99, 108, 105, 101, 110, 116]), .lit (.string [111, 98, 106, 101, 99, 116]), .lit (.string [118, 97, 108, 117, 101]), .lit (.string [102, 105, 101, 108, 100]), .lit (.string [111, 114, 100, 101, 114])]
def laid_incognito_policy_ways {H : Type} : DataW H := .agg [.lit (.string [107, 101, 101, 112]), .lit (.string [111, 114, 100, 105, 110, 97, 108]), .lit (.string [107, 101, 121, 101, 100]), .lit (.string [114, 97, 110, 107]), .lit (.string [100, 114, 111, 112])]
/-- One of Go's own tables, pinned by name: the form's constant. -/
def laid_unicode_utf8_first : DataW Unit := Go.Pinned.utf8First

/-- 'incognitolaw27.NamesBuild': WHATEVER THE INPUT: true; the input reads as it did. -/
def namesBuildSpec : ChangeSpec := { name := "namesBuild", fn := fun _ => fun
  | [d1, d2] => { results := [.lit (.bool true)], args := [d1, d2] }
  | _ => none }
def namesBuildRow : OpenClaim := { program := "ytngoaapgdfohjaagreatdoor", sum := "fa2b93ad86ec24d5a3b153d0b091eb43fd8a0af7be4af97c4b43539386c57c42", func := "incognito/incognitolaw27.NamesBuild", spec := "namesBuild", inPlace := ["internal/bytealg.abigen_runtime_cmpstring"], unfollowed := true, recurses := true, named := ["incognito/value.yes", "incognito/value.no", "internal/strconv.uint64pow10", "math/bits.deBruijn32tab", "math/bits.deBruijn64tab", "incognito/sha.rounds"], plainKeys := false, apart := false, laid := [("math/bits.deBruijn32tab", laid_math_bits_deBruijn32tab), ("math/bits.deBruijn64tab", laid_math_bits_deBruijn64tab), ("internal/strconv.uint64pow10", laid_internal_strconv_uint64pow10), ("incognito/sha.rounds", laid_incognito_sha_rounds), ("incognito/value.yes", laid_incognito_value_yes), ("incognito/value.no", laid_incognito_value_no)] }
def NamesBuildSaid : Prop := namesBuildRow.holds Tryz.pinned (OpenSpec.ofChange namesBuildSpec)

/-- ITS FALSE NEIGHBOUR: 'it returns false'. Refute it at one input. -/
def namesBuildWrong : ChangeSpec := { name := "namesBuild", fn := fun _ => fun
  | [d1, d2] => { results := [.lit (.bool false)], args := [d1, d2] }
  | _ => none }
def NamesBuildWrongFalsely : Prop := namesBuildRow.holds Tryz.pinned (OpenSpec.ofChange namesBuildWrong)

/-- 'incognitolaw27.NamesClash': WHATEVER THE INPUT: true; the input reads as it did. -/
def namesClashSpec : ChangeSpec := { name := "namesClash", fn := fun _ => fun
  | [d1, d2] => { results := [.lit (.bool true)], args := [d1, d2] }
  | _ => none }
def namesClashRow : OpenClaim := { program := "ytngoaapgdfohjaagreatdoor", sum := "fa2b93ad86ec24d5a3b153d0b091eb43fd8a0af7be4af97c4b43539386c57c42", func := "incognito/incognitolaw27.NamesClash", spec := "namesClash", inPlace := ["internal/bytealg.abigen_runtime_cmpstring"], unfollowed := true, recurses := true, named := ["incognito/value.yes", "incognito/value.no", "internal/strconv.uint64pow10", "math/bits.deBruijn32tab", "math/bits.deBruijn64tab", "incognito/sha.rounds"], plainKeys := false, apart := false, laid := [("math/bits.deBruijn32tab", laid_math_bits_deBruijn32tab), ("math/bits.deBruijn64tab", laid_math_bits_deBruijn64tab), ("internal/strconv.uint64pow10", laid_internal_strconv_uint64pow10), ("incognito/sha.rounds", laid_incognito_sha_rounds), ("incognito/value.yes", laid_incognito_value_yes), ("incognito/value.no", laid_incognito_value_no)] }
def NamesClashSaid : Prop := namesClashRow.holds Tryz.pinned (OpenSpec.ofChange namesClashSpec)

/-- ITS FALSE NEIGHBOUR: 'it returns false'. Refute it at one input. -/
def namesClashWrong : ChangeSpec := { name := "namesClash", fn := fun _ => fun
  | [d1, d2] => { results := [.lit (.bool false)], args := [d1, d2] }
  | _ => none }
def NamesClashWrongFalsely : Prop := namesClashRow.holds Tryz.pinned (OpenSpec.ofChange namesClashWrong)

/-- 'incognitolaw27.NamesBack': WHATEVER THE INPUT: true; the input reads as it did. -/
def namesBackSpec : ChangeSpec := { name := "namesBack", fn := fun _ => fun
  | [d1, d2, d3] => { results := [.lit (.bool true)], args := [d1, d2, d3] }
  | _ => none }
def namesBackRow : OpenClaim := { program := "ytngoaapgdfohjaagreatdoor", sum := "fa2b93ad86ec24d5a3b153d0b091eb43fd8a0af7be4af97c4b43539386c57c42", func := "incognito/incognitolaw27.NamesBack", spec := "namesBack", inPlace := ["internal/bytealg.abigen_runtime_cmpstring"], unfollowed := true, recurses := true, named := ["incognito/value.yes", "incognito/value.no", "internal/strconv.uint64pow10", "math/bits.deBruijn32tab", "math/bits.deBruijn64tab", "incognito/sha.rounds"], plainKeys := false, apart := false, laid := [("math/bits.deBruijn32tab", laid_math_bits_deBruijn32tab), ("math/bits.deBruijn64tab", laid_math_bits_deBruijn64tab), ("internal/strconv.uint64pow10", laid_internal_strconv_uint64pow10), ("incognito/sha.rounds", laid_incognito_sha_rounds), ("incognito/value.yes", laid_incognito_value_yes), ("incognito/value.no", laid_incognito_value_no)] }
def NamesBackSaid : Prop := namesBackRow.holds Tryz.pinned (OpenSpec.ofChange namesBackSpec)

/-- ITS FALSE NEIGHBOUR: 'it returns false'. Refute it at one input. -/
def namesBackWrong : ChangeSpec := { name := "namesBack", fn := fun _ => fun
  | [d1, d2, d3] => { results := [.lit (.bool false)], args := [d1, d2, d3] }
  | _ => none }
def NamesBackWrongFalsely : Prop := namesBackRow.holds Tryz.pinned (OpenSpec.ofChange namesBackWrong)

/-- 'incognitolaw29.BookPrints': WHATEVER THE INPUT: true; the input reads as it did. -/
def bookPrintsSpec : ChangeSpec := { name := "bookPrints", fn := fun _ => fun
  | [d1, d2] => { results := [.lit (.bool true)], args := [d1, d2] }
  | _ => none }
def bookPrintsRow : OpenClaim := { program := "ytngoaapgdfohjaagreatdoor", sum := "fa2b93ad86ec24d5a3b153d0b091eb43fd8a0af7be4af97c4b43539386c57c42", func := "incognito/incognitolaw29.BookPrints", spec := "bookPrints", inPlace := ["internal/bytealg.IndexByteString", "internal/bytealg.IndexString", "internal/abi.NoEscape", "internal/bytealg.MakeNoZero", "internal/bytealg.CountString"], unfollowed := true, recurses := true, named := ["incognito/value.yes", "incognito/value.no", "internal/bytealg.MaxLen", "incognito/policy.domains", "incognito/policy.ways", "internal/strconv.uint64pow10", "math/bits.deBruijn32tab", "math/bits.deBruijn64tab", "incognito/sha.rounds", "unicode/utf8.first", "unicode/utf8.acceptRanges"], plainKeys := false, apart := false, laid := [("math/bits.deBruijn32tab", laid_math_bits_deBruijn32tab), ("math/bits.deBruijn64tab", laid_math_bits_deBruijn64tab), ("internal/strconv.uint64pow10", laid_internal_strconv_uint64pow10), ("unicode/utf8.acceptRanges", laid_unicode_utf8_acceptRanges), ("incognito/sha.rounds", laid_incognito_sha_rounds), ("incognito/policy.domains", laid_incognito_policy_domains), ("incognito/policy.ways", laid_incognito_policy_ways), ("incognito/value.yes", laid_incognito_value_yes), ("incognito/value.no", laid_incognito_value_no), ("unicode/utf8.first", laid_unicode_utf8_first)] }
def BookPrintsSaid : Prop := bookPrintsRow.holds Tryz.pinned (OpenSpec.ofChange bookPrintsSpec)

/-- ITS FALSE NEIGHBOUR: 'it returns false'. Refute it at one input. -/
def bookPrintsWrong : ChangeSpec := { name := "bookPrints", fn := fun _ => fun
  | [d1, d2] => { results := [.lit (.bool false)], args := [d1, d2] }
  | _ => none }
def BookPrintsWrongFalsely : Prop := bookPrintsRow.holds Tryz.pinned (OpenSpec.ofChange bookPrintsWrong)

/-- 'incognitolaw29.BookParses': WHATEVER THE INPUT: true; the input reads as it did. -/
def bookParsesSpec : ChangeSpec := { name := "bookParses", fn := fun _ => fun
  | [d1, d2] => { results := [.lit (.bool true)], args := [d1, d2] }
  | _ => none }
def bookParsesRow : OpenClaim := { program := "ytngoaapgdfohjaagreatdoor", sum := "fa2b93ad86ec24d5a3b153d0b091eb43fd8a0af7be4af97c4b43539386c57c42", func := "incognito/incognitolaw29.BookParses", spec := "bookParses", inPlace := ["internal/bytealg.IndexByteString", "internal/bytealg.IndexString", "internal/abi.NoEscape", "internal/bytealg.MakeNoZero", "internal/bytealg.CountString"], unfollowed := true, recurses := true, named := ["incognito/value.yes", "incognito/value.no", "internal/bytealg.MaxLen", "incognito/policy.domains", "incognito/policy.ways", "internal/strconv.uint64pow10", "math/bits.deBruijn32tab", "math/bits.deBruijn64tab", "incognito/sha.rounds", "unicode/utf8.first", "unicode/utf8.acceptRanges"], plainKeys := false, apart := false, laid := [("math/bits.deBruijn32tab", laid_math_bits_deBruijn32tab), ("math/bits.deBruijn64tab", laid_math_bits_deBruijn64tab), ("internal/strconv.uint64pow10", laid_internal_strconv_uint64pow10), ("unicode/utf8.acceptRanges", laid_unicode_utf8_acceptRanges), ("incognito/sha.rounds", laid_incognito_sha_rounds), ("incognito/policy.domains", laid_incognito_policy_domains), ("incognito/policy.ways", laid_incognito_policy_ways), ("incognito/value.yes", laid_incognito_value_yes), ("incognito/value.no", laid_incognito_value_no), ("unicode/utf8.first", laid_unicode_utf8_first)] }
def BookParsesSaid : Prop := bookParsesRow.holds Tryz.pinned (OpenSpec.ofChange bookParsesSpec)

/-- ITS FALSE NEIGHBOUR: 'it returns false'. Refute it at one input. -/
def bookParsesWrong : ChangeSpec := { name := "bookParses", fn := fun _ => fun
  | [d1, d2] => { results := [.lit (.bool false)], args := [d1, d2] }
  | _ => none }
def BookParsesWrongFalsely : Prop := bookParsesRow.holds Tryz.pinned (OpenSpec.ofChange bookParsesWrong)

/-- 'incognitolaw29.BookSeals': WHATEVER THE INPUT: true; the input reads as it did. -/
def bookSealsSpec : ChangeSpec := { name := "bookSeals", fn := fun _ => fun
  | [d1, d2, d3] => { results := [.lit (.bool true)], args := [d1, d2, d3] }
  | _ => none }
def bookSealsRow : OpenClaim := { program := "ytngoaapgdfohjaagreatdoor", sum := "fa2b93ad86ec24d5a3b153d0b091eb43fd8a0af7be4af97c4b43539386c57c42", func := "incognito/incognitolaw29.BookSeals", spec := "bookSeals", inPlace := ["internal/bytealg.IndexByteString", "internal/bytealg.IndexString", "internal/abi.NoEscape", "internal/bytealg.MakeNoZero", "internal/bytealg.CountString"], unfollowed := true, recurses := true, named := ["incognito/value.yes", "incognito/value.no", "internal/bytealg.MaxLen", "incognito/policy.domains", "incognito/policy.ways", "internal/strconv.uint64pow10", "math/bits.deBruijn32tab", "math/bits.deBruijn64tab", "incognito/sha.rounds", "unicode/utf8.first", "unicode/utf8.acceptRanges"], plainKeys := false, apart := false, laid := [("math/bits.deBruijn32tab", laid_math_bits_deBruijn32tab), ("math/bits.deBruijn64tab", laid_math_bits_deBruijn64tab), ("internal/strconv.uint64pow10", laid_internal_strconv_uint64pow10), ("unicode/utf8.acceptRanges", laid_unicode_utf8_acceptRanges), ("incognito/sha.rounds", laid_incognito_sha_rounds), ("incognito/policy.domains", laid_incognito_policy_domains), ("incognito/policy.ways", laid_incognito_policy_ways), ("incognito/value.yes", laid_incognito_value_yes), ("incognito/value.no", laid_incognito_value_no), ("unicode/utf8.first", laid_unicode_utf8_first)] }
def BookSealsSaid : Prop := bookSealsRow.holds Tryz.pinned (OpenSpec.ofChange bookSealsSpec)

/-- ITS FALSE NEIGHBOUR: 'it returns false'. Refute it at one input. -/
def bookSealsWrong : ChangeSpec := { name := "bookSeals", fn := fun _ => fun
  | [d1, d2, d3] => { results := [.lit (.bool false)], args := [d1, d2, d3] }
  | _ => none }
def BookSealsWrongFalsely : Prop := bookSealsRow.holds Tryz.pinned (OpenSpec.ofChange bookSealsWrong)

/-- 'incognitolaw29.BookOne': WHATEVER THE INPUT: true; the input reads as it did. -/
def bookOneSpec : ChangeSpec := { name := "bookOne", fn := fun _ => fun
  | [d1, d2] => { results := [.lit (.bool true)], args := [d1, d2] }
  | _ => none }
def bookOneRow : OpenClaim := { program := "ytngoaapgdfohjaagreatdoor", sum := "fa2b93ad86ec24d5a3b153d0b091eb43fd8a0af7be4af97c4b43539386c57c42", func := "incognito/incognitolaw29.BookOne", spec := "bookOne", inPlace := ["internal/bytealg.IndexByteString", "internal/bytealg.IndexString", "internal/abi.NoEscape", "internal/bytealg.MakeNoZero", "internal/bytealg.CountString"], unfollowed := true, recurses := true, named := ["incognito/value.yes", "incognito/value.no", "internal/bytealg.MaxLen", "incognito/policy.domains", "incognito/policy.ways", "internal/strconv.uint64pow10", "math/bits.deBruijn32tab", "math/bits.deBruijn64tab", "incognito/sha.rounds", "unicode/utf8.first", "unicode/utf8.acceptRanges"], plainKeys := false, apart := false, laid := [("math/bits.deBruijn32tab", laid_math_bits_deBruijn32tab), ("math/bits.deBruijn64tab", laid_math_bits_deBruijn64tab), ("internal/strconv.uint64pow10", laid_internal_strconv_uint64pow10), ("unicode/utf8.acceptRanges", laid_unicode_utf8_acceptRanges), ("incognito/sha.rounds", laid_incognito_sha_rounds), ("incognito/policy.domains", laid_incognito_policy_domains), ("incognito/policy.ways", laid_incognito_policy_ways), ("incognito/value.yes", laid_incognito_value_yes), ("incognito/value.no", laid_incognito_value_no), ("unicode/utf8.first", laid_unicode_utf8_first)] }
def BookOneSaid : Prop := bookOneRow.holds Tryz.pinned (OpenSpec.ofChange bookOneSpec)

/-- ITS FALSE NEIGHBOUR: 'it returns false'. Refute it at one input. -/
def bookOneWrong : ChangeSpec := { name := "bookOne", fn := fun _ => fun
  | [d1, d2] => { results := [.lit (.bool false)], args := [d1, d2] }
  | _ => none }
def BookOneWrongFalsely : Prop := bookOneRow.holds Tryz.pinned (OpenSpec.ofChange bookOneWrong)

/- THE SECOND FORM. 'bulk': how many values and letters a reading holds, each counted each time it is reached (what is shared counts as often as it is met; a slice's spare places count too). A statement '..UptoSaid' is the law's where the arguments, and the package variables that the reading takes, are together of bulk at most 1048576: NARROWER than '..Said'. Prove '..Said' where nothing that the law and all that it calls make is longer than what came in: it says more and counts as full. Else prove '..UptoSaid'. A law counts once. -/
mutual
def uptoBulk {H : Type} : DataW H → Nat
  | .lit (.string bytes) => bytes.length + 1
  | .lit _ => 1
  | .nil => 1
  | .ptr d => uptoBulk d + 1
  | .slice elems spare => uptoBulkAll elems + uptoBulkAll spare + 1
  | .agg parts => uptoBulkAll parts + 1
  | .iface _ d => uptoBulk d + 1
  | .map entries => uptoBulkEntries entries + 1
  | .held _ => 1
def uptoBulkAll {H : Type} : List (DataW H) → Nat
  | [] => 0
  | d :: r => uptoBulk d + uptoBulkAll r
def uptoBulkEntries {H : Type} : List (Lit × DataW H) → Nat
  | [] => 0
  | x :: r => uptoBulkEntry x + uptoBulkEntries r
def uptoBulkEntry {H : Type} : Lit × DataW H → Nat
  | (.string bytes, d) => bytes.length + uptoBulk d + 1
  | (_, d) => uptoBulk d + 1
 end
def uptoSmall : (H : Type) → List (DataW H) → Bool := fun _ ds => decide (uptoBulkAll ds ≤ 1048576)
def OpenSpec.upto (s : _root_.Go.ChangeSpec) : _root_.Go.OpenSpec := { _root_.Go.OpenSpec.ofChange s with cond := some uptoSmall }

/-- 'incognitolaw27.NamesBuild', WHERE WHAT IT READS IS OF BULK AT MOST 1048576: true; the input reads as it did. -/
def namesBuildUptoRow : OpenClaim := { program := "ytngoaapgdfohjaagreatdoor", sum := "fa2b93ad86ec24d5a3b153d0b091eb43fd8a0af7be4af97c4b43539386c57c42", func := "incognito/incognitolaw27.NamesBuild", spec := "namesBuild", inPlace := ["internal/bytealg.abigen_runtime_cmpstring"], unfollowed := true, recurses := true, named := ["incognito/value.yes", "incognito/value.no", "internal/strconv.uint64pow10", "math/bits.deBruijn32tab", "math/bits.deBruijn64tab", "incognito/sha.rounds"], plainKeys := false, apart := false, laid := [("math/bits.deBruijn32tab", laid_math_bits_deBruijn32tab), ("math/bits.deBruijn64tab", laid_math_bits_deBruijn64tab), ("internal/strconv.uint64pow10", laid_internal_strconv_uint64pow10), ("incognito/sha.rounds", laid_incognito_sha_rounds), ("incognito/value.yes", laid_incognito_value_yes), ("incognito/value.no", laid_incognito_value_no)], narrowed := true }
def NamesBuildUptoSaid : Prop := namesBuildUptoRow.holds Tryz.pinned (OpenSpec.upto namesBuildSpec)

/-- 'incognitolaw27.NamesClash', WHERE WHAT IT READS IS OF BULK AT MOST 1048576: true; the input reads as it did. -/
def namesClashUptoRow : OpenClaim := { program := "ytngoaapgdfohjaagreatdoor", sum := "fa2b93ad86ec24d5a3b153d0b091eb43fd8a0af7be4af97c4b43539386c57c42", func := "incognito/incognitolaw27.NamesClash", spec := "namesClash", inPlace := ["internal/bytealg.abigen_runtime_cmpstring"], unfollowed := true, recurses := true, named := ["incognito/value.yes", "incognito/value.no", "internal/strconv.uint64pow10", "math/bits.deBruijn32tab", "math/bits.deBruijn64tab", "incognito/sha.rounds"], plainKeys := false, apart := false, laid := [("math/bits.deBruijn32tab", laid_math_bits_deBruijn32tab), ("math/bits.deBruijn64tab", laid_math_bits_deBruijn64tab), ("internal/strconv.uint64pow10", laid_internal_strconv_uint64pow10), ("incognito/sha.rounds", laid_incognito_sha_rounds), ("incognito/value.yes", laid_incognito_value_yes), ("incognito/value.no", laid_incognito_value_no)], narrowed := true }
def NamesClashUptoSaid : Prop := namesClashUptoRow.holds Tryz.pinned (OpenSpec.upto namesClashSpec)

/-- 'incognitolaw27.NamesBack', WHERE WHAT IT READS IS OF BULK AT MOST 1048576: true; the input reads as it did. -/
def namesBackUptoRow : OpenClaim := { program := "ytngoaapgdfohjaagreatdoor", sum := "fa2b93ad86ec24d5a3b153d0b091eb43fd8a0af7be4af97c4b43539386c57c42", func := "incognito/incognitolaw27.NamesBack", spec := "namesBack", inPlace := ["internal/bytealg.abigen_runtime_cmpstring"], unfollowed := true, recurses := true, named := ["incognito/value.yes", "incognito/value.no", "internal/strconv.uint64pow10", "math/bits.deBruijn32tab", "math/bits.deBruijn64tab", "incognito/sha.rounds"], plainKeys := false, apart := false, laid := [("math/bits.deBruijn32tab", laid_math_bits_deBruijn32tab), ("math/bits.deBruijn64tab", laid_math_bits_deBruijn64tab), ("internal/strconv.uint64pow10", laid_internal_strconv_uint64pow10), ("incognito/sha.rounds", laid_incognito_sha_rounds), ("incognito/value.yes", laid_incognito_value_yes), ("incognito/value.no", laid_incognito_value_no)], narrowed := true }
def NamesBackUptoSaid : Prop := namesBackUptoRow.holds Tryz.pinned (OpenSpec.upto namesBackSpec)

/-- 'incognitolaw29.BookPrints', WHERE WHAT IT READS IS OF BULK AT MOST 1048576: true; the input reads as it did. -/
def bookPrintsUptoRow : OpenClaim := { program := "ytngoaapgdfohjaagreatdoor", sum := "fa2b93ad86ec24d5a3b153d0b091eb43fd8a0af7be4af97c4b43539386c57c42", func := "incognito/incognitolaw29.BookPrints", spec := "bookPrints", inPlace := ["internal/bytealg.IndexByteString", "internal/bytealg.IndexString", "internal/abi.NoEscape", "internal/bytealg.MakeNoZero", "internal/bytealg.CountString"], unfollowed := true, recurses := true, named := ["incognito/value.yes", "incognito/value.no", "internal/bytealg.MaxLen", "incognito/policy.domains", "incognito/policy.ways", "internal/strconv.uint64pow10", "math/bits.deBruijn32tab", "math/bits.deBruijn64tab", "incognito/sha.rounds", "unicode/utf8.first", "unicode/utf8.acceptRanges"], plainKeys := false, apart := false, laid := [("math/bits.deBruijn32tab", laid_math_bits_deBruijn32tab), ("math/bits.deBruijn64tab", laid_math_bits_deBruijn64tab), ("internal/strconv.uint64pow10", laid_internal_strconv_uint64pow10), ("unicode/utf8.acceptRanges", laid_unicode_utf8_acceptRanges), ("incognito/sha.rounds", laid_incognito_sha_rounds), ("incognito/policy.domains", laid_incognito_policy_domains), ("incognito/policy.ways", laid_incognito_policy_ways), ("incognito/value.yes", laid_incognito_value_yes), ("incognito/value.no", laid_incognito_value_no), ("unicode/utf8.first", laid_unicode_utf8_first)], narrowed := true }
def BookPrintsUptoSaid : Prop := bookPrintsUptoRow.holds Tryz.pinned (OpenSpec.upto bookPrintsSpec)

/-- 'incognitolaw29.BookParses', WHERE WHAT IT READS IS OF BULK AT MOST 1048576: true; the input reads as it did. -/
def bookParsesUptoRow : OpenClaim := { program := "ytngoaapgdfohjaagreatdoor", sum := "fa2b93ad86ec24d5a3b153d0b091eb43fd8a0af7be4af97c4b43539386c57c42", func := "incognito/incognitolaw29.BookParses", spec := "bookParses", inPlace := ["internal/bytealg.IndexByteString", "internal/bytealg.IndexString", "internal/abi.NoEscape", "internal/bytealg.MakeNoZero", "internal/bytealg.CountString"], unfollowed := true, recurses := true, named := ["incognito/value.yes", "incognito/value.no", "internal/bytealg.MaxLen", "incognito/policy.domains", "incognito/policy.ways", "internal/strconv.uint64pow10", "math/bits.deBruijn32tab", "math/bits.deBruijn64tab", "incognito/sha.rounds", "unicode/utf8.first", "unicode/utf8.acceptRanges"], plainKeys := false, apart := false, laid := [("math/bits.deBruijn32tab", laid_math_bits_deBruijn32tab), ("math/bits.deBruijn64tab", laid_math_bits_deBruijn64tab), ("internal/strconv.uint64pow10", laid_internal_strconv_uint64pow10), ("unicode/utf8.acceptRanges", laid_unicode_utf8_acceptRanges), ("incognito/sha.rounds", laid_incognito_sha_rounds), ("incognito/policy.domains", laid_incognito_policy_domains), ("incognito/policy.ways", laid_incognito_policy_ways), ("incognito/value.yes", laid_incognito_value_yes), ("incognito/value.no", laid_incognito_value_no), ("unicode/utf8.first", laid_unicode_utf8_first)], narrowed := true }
def BookParsesUptoSaid : Prop := bookParsesUptoRow.holds Tryz.pinned (OpenSpec.upto bookParsesSpec)

/-- 'incognitolaw29.BookSeals', WHERE WHAT IT READS IS OF BULK AT MOST 1048576: true; the input reads as it did. -/
def bookSealsUptoRow : OpenClaim := { program := "ytngoaapgdfohjaagreatdoor", sum := "fa2b93ad86ec24d5a3b153d0b091eb43fd8a0af7be4af97c4b43539386c57c42", func := "incognito/incognitolaw29.BookSeals", spec := "bookSeals", inPlace := ["internal/bytealg.IndexByteString", "internal/bytealg.IndexString", "internal/abi.NoEscape", "internal/bytealg.MakeNoZero", "internal/bytealg.CountString"], unfollowed := true, recurses := true, named := ["incognito/value.yes", "incognito/value.no", "internal/bytealg.MaxLen", "incognito/policy.domains", "incognito/policy.ways", "internal/strconv.uint64pow10", "math/bits.deBruijn32tab", "math/bits.deBruijn64tab", "incognito/sha.rounds", "unicode/utf8.first", "unicode/utf8.acceptRanges"], plainKeys := false, apart := false, laid := [("math/bits.deBruijn32tab", laid_math_bits_deBruijn32tab), ("math/bits.deBruijn64tab", laid_math_bits_deBruijn64tab), ("internal/strconv.uint64pow10", laid_internal_strconv_uint64pow10), ("unicode/utf8.acceptRanges", laid_unicode_utf8_acceptRanges), ("incognito/sha.rounds", laid_incognito_sha_rounds), ("incognito/policy.domains", laid_incognito_policy_domains), ("incognito/policy.ways", laid_incognito_policy_ways), ("incognito/value.yes", laid_incognito_value_yes), ("incognito/value.no", laid_incognito_value_no), ("unicode/utf8.first", laid_unicode_utf8_first)], narrowed := true }
def BookSealsUptoSaid : Prop := bookSealsUptoRow.holds Tryz.pinned (OpenSpec.upto bookSealsSpec)

/-- 'incognitolaw29.BookOne', WHERE WHAT IT READS IS OF BULK AT MOST 1048576: true; the input reads as it did. -/
def bookOneUptoRow : OpenClaim := { program := "ytngoaapgdfohjaagreatdoor", sum := "fa2b93ad86ec24d5a3b153d0b091eb43fd8a0af7be4af97c4b43539386c57c42", func := "incognito/incognitolaw29.BookOne", spec := "bookOne", inPlace := ["internal/bytealg.IndexByteString", "internal/bytealg.IndexString", "internal/abi.NoEscape", "internal/bytealg.MakeNoZero", "internal/bytealg.CountString"], unfollowed := true, recurses := true, named := ["incognito/value.yes", "incognito/value.no", "internal/bytealg.MaxLen", "incognito/policy.domains", "incognito/policy.ways", "internal/strconv.uint64pow10", "math/bits.deBruijn32tab", "math/bits.deBruijn64tab", "incognito/sha.rounds", "unicode/utf8.first", "unicode/utf8.acceptRanges"], plainKeys := false, apart := false, laid := [("math/bits.deBruijn32tab", laid_math_bits_deBruijn32tab), ("math/bits.deBruijn64tab", laid_math_bits_deBruijn64tab), ("internal/strconv.uint64pow10", laid_internal_strconv_uint64pow10), ("unicode/utf8.acceptRanges", laid_unicode_utf8_acceptRanges), ("incognito/sha.rounds", laid_incognito_sha_rounds), ("incognito/policy.domains", laid_incognito_policy_domains), ("incognito/policy.ways", laid_incognito_policy_ways), ("incognito/value.yes", laid_incognito_value_yes), ("incognito/value.no", laid_incognito_value_no), ("unicode/utf8.first", laid_unicode_utf8_first)], narrowed := true }
def BookOneUptoSaid : Prop := bookOneUptoRow.holds Tryz.pinned (OpenSpec.upto bookOneSpec)

end Rows
end Go.Proofs.YtngoaapgdfohjaaGreatDoor
