/-
  NARROWER THAN 'FOR EVERY INPUT', by the rows' own cells (each row's printed sentence says how): ValidAre: laid · ValidWrong: laid · ValidEach: laid · ValidNames: laid · ValidPeers: laid · ValidRules: laid · ValidAlone: laid · PruneReaches: laid · PruneKeeps: laid · PruneNone: laid · PruneAgain: laid · DedupeAre: laid · DedupeMakes: laid · DedupeLeast: laid · DedupeCuts: laid · PruneWhole: laid · DedupeLifts: laid · PruneLeads: laid.
  DERIVED. THE GIVEN ROWS OF THIS SEAT. 18 by the template 'for every input the law returns true; each argument reads behind the call as it read before'; 0 by the template 'total and deterministic' (their statements: YtgipehooceecpaaGreatDoorTotals.lean).
  GIVEN WITH THE SEED: the statements are not yours to turn. If you find one false, say at which input.
  Laid BY PROGRAM, IN A SANDBOX (cutbox-rows.mjs): the forced cells as the released guide's own fill.sh prints them over the translation b9c5006baa26e2de… (all of the seat's roots in one cut). By AI agents, Wed Nov 11 2026. No macro, syntax, notation, axiom, sorry.
-/
import Derived.Test.YtgipehooceecpaaGreatDoorChecked
import GoSem.PinnedTables
import GoSem.Claim
import GoSem.ClaimJoined
import GoSem.ClaimMapViews
import Derived.JoinedTies
import Derived.KernelRfl
namespace Go.Proofs.YtgipehooceecpaaGreatDoor
/- THE CELL 'sum', in the pinned program and in every row, IS THE sha256 OF THE DUMP (.gsa) THAT YtgipehooceecpaaGreatDoorProg.lean LOADS. Nothing in Lean hashes anything: it is a label: what it is worth is what the hold of that sum in a sandbox is worth. -/
noncomputable def Tryz.pinned : Pinned := { name := "ytgipehooceecpaagreatdoor", sum := "b9c5006baa26e2de8e2b5737e41b4962ea946b2944e450dea6555806c80f22c1", checked := Tryz.checked }
namespace Rows
def none {H : Type} : Left H := { results := [], args := [] }

/- WHAT THE LISTED PACKAGE-LEVEL VARIABLES READ AS WHEN THE CALL BEGINS. Each datum BY PROGRAM (the guide's laid-datum.mjs) off the statement by which the dump's own 'gosem.cut.vars' lays the variable. In a bare row this is a premise. The card (YtgipehooceecpaaGreatDoorCards.lean) ties it to the program's text. -/
def laid_math_bits_deBruijn32tab {H : Type} : DataW H := .agg [.lit (.int .u8 0), .lit (.int .u8 1), .lit (.int .u8 28), .lit (.int .u8 2), .lit (.int .u8 29), .lit (.int .u8 14), .lit (.int .u8 24), .lit (.int .u8 3), .lit (.int .u8 30), .lit (.int .u8 22), .lit (.int .u8 20), .lit (.int .u8 15), .lit (.int .u8 25), .lit (.int .u8 17), .lit (.int .u8 4), .lit (.int .u8 8), .lit (.int .u8 31), .lit (.int .u8 27), .lit (.int .u8 13), .lit (.int .u8 23), .lit (.int .u8 21), .lit (.int .u8 19), .lit (.int .u8 16), .lit (.int .u8 7), .lit (.int .u8 26), .lit (.int .u8 12), .lit (.int .u8 18), .lit (.int .u8 6), .lit (.int .u8 11), .lit (.int .u8 5), .lit (.int .u8 10), .lit (.int .u8 9)]
def laid_math_bits_deBruijn64tab {H : Type} : DataW H := .agg [.lit (.int .u8 0), .lit (.int .u8 1), .lit (.int .u8 56), .lit (.int .u8 2), .lit (.int .u8 57), .lit (.int .u8 49), .lit (.int .u8 28), .lit (.int .u8 3), .lit (.int .u8 61), .lit (.int .u8 58), .lit (.int .u8 42), .lit (.int .u8 50), .lit (.int .u8 38), .lit (.int .u8 29), .lit (.int .u8 17), .lit (.int .u8 4), .lit (.int .u8 62), .lit (.int .u8 47), .lit (.int .u8 59), .lit (.int .u8 36), .lit (.int .u8 45), .lit (.int .u8 43), .lit (.int .u8 51), .lit (.int .u8 22), .lit (.int .u8 53), .lit (.int .u8 39), .lit (.int .u8 33), .lit (.int .u8 30), .lit (.int .u8 24), .lit (.int .u8 18), .lit (.int .u8 12), .lit (.int .u8 5), .lit (.int .u8 63), .lit (.int .u8 55), .lit (.int .u8 48), .lit (.int .u8 27), .lit (.int .u8 60), .lit (.int .u8 41), .lit (.int .u8 37), .lit (.int .u8 16), .lit (.int .u8 46), .lit (.int .u8 35), .lit (.int .u8 44), .lit (.int .u8 21), .lit (.int .u8 52), .lit (.int .u8 32), .lit (.int .u8 23), .lit (.int .u8 11), .lit (.int .u8 54), .lit (.int .u8 26), .lit (.int .u8 40), .lit (.int .u8 15), .lit (.int .u8 34), .lit (.int .u8 20), .lit (.int .u8 31), .lit (.int .u8 10), .lit (.int .u8 25), .lit (.int .u8 14), .lit (.int .u8 19), .lit (.int .u8 9), .lit (.int .u8 13), .lit (.int .u8 8), .lit (.int .u8 7), .lit (.int .u8 6)]
def laid_internal_strconv_uint64pow10 {H : Type} : DataW H := .agg [.lit (.int .u64 1), .lit (.int .u64 10), .lit (.int .u64 100), .lit (.int .u64 1000), .lit (.int .u64 10000), .lit (.int .u64 100000), .lit (.int .u64 1000000), .lit (.int .u64 10000000), .lit (.int .u64 100000000), .lit (.int .u64 1000000000), .lit (.int .u64 10000000000), .lit (.int .u64 100000000000), .lit (.int .u64 1000000000000), .lit (.int .u64 10000000000000), .lit (.int .u64 100000000000000), .lit (.int .u64 1000000000000000), .lit (.int .u64 10000000000000000), .lit (.int .u64 100000000000000000), .lit (.int .u64 1000000000000000000), .lit (.int .u64 10000000000000000000)]
def laid_unicode_utf8_acceptRanges {H : Type} : DataW H := .agg [.agg [.lit (.int .u8 128), .lit (.int .u8 191)], .agg [.lit (.int .u8 160), .lit (.int .u8 191)], .agg [.lit (.int .u8 128), .lit (.int .u8 159)], .agg [.lit (.int .u8 144), .lit (.int .u8 191)], .agg [.lit (.int .u8 128), .lit (.int .u8 143)], .agg [.lit (.int .u8 0), .lit (.int .u8 0)], .agg [.lit (.int .u8 0), .lit (.int .u8 0)], .agg [.lit (.int .u8 0), .lit (.int .u8 0)], .agg [.lit (.int .u8 0), .lit (.int .u8 0)], .agg [.lit (.int .u8 0), .lit (.int .u8 0)], .agg [.lit (.int .u8 0), .lit (.int .u8 0)], .agg [.lit (.int .u8 0), .lit (.int .u8 0)], .agg [.lit (.int .u8 0), .lit (.int .u8 0)], .agg [.lit (.int .u8 0), .lit (.int .u8 0)], .agg [.lit (.int .u8 0), .lit (.int .u8 0)], .agg [.lit (.int .u8 0), .lit (.int .u8 0)]]
def laid_strconv_ErrRange {H : Type} : DataW H := .iface "*errors.errorString" (.ptr (.agg [.lit (.string [118, 97, 108, 117, 101, 32, 111, 117, 116, 32, 111, 102, 32, 114, 97, 110, 103, 101])]))
def laid_strconv_ErrSyntax {H : Type} : DataW H := .iface "*errors.errorString" (.ptr (.agg [.lit (.string [105, 110, 118, 97, 108, 105, 100, 32, 115, 121, 110, 116, 97, 120])]))
def laid_hogget_span_signs {H : Type} : DataW H := .agg [.agg [.lit (.int .i64 3), .lit (.string [60, 61])], .agg [.lit (.int .i64 5), .lit (.string [62, 61])], .agg [.lit (.int .i64 2), .lit (.string [60])], .agg [.lit (.int .i64 4), .lit (.string [62])], .agg [.lit (.int .i64 1), .lit (.string [61])]]
/-- One of Go's own tables, pinned by name: the form's constant. -/
def laid_unicode_utf8_first : DataW Unit := Go.Pinned.utf8First

/-- 'hoggetlaw16.ValidAre': WHATEVER THE INPUT: true; the input reads as it did. -/
def validAreSpec : ChangeSpec := { name := "validAre", fn := fun _ => fun
  | [d1, d2, d3, d4, d5] => { results := [.lit (.bool true)], args := [d1, d2, d3, d4, d5] }
  | _ => none }
def validAreRow : OpenClaim := { program := "ytgipehooceecpaagreatdoor", sum := "b9c5006baa26e2de8e2b5737e41b4962ea946b2944e450dea6555806c80f22c1", func := "hogget/hoggetlaw16.ValidAre", spec := "validAre", inPlace := ["internal/bytealg.IndexByteString", "internal/bytealg.IndexString", "internal/abi.NoEscape", "internal/bytealg.MakeNoZero", "internal/bytealg.CountString"], unfollowed := true, recurses := true, named := ["unicode/utf8.first", "unicode/utf8.acceptRanges", "internal/bytealg.MaxLen", "strconv.ErrSyntax", "strconv.ErrRange", "internal/strconv.uint64pow10", "math/bits.deBruijn32tab", "math/bits.deBruijn64tab", "hogget/span.signs"], plainKeys := false, apart := false, laid := [("math/bits.deBruijn32tab", laid_math_bits_deBruijn32tab), ("math/bits.deBruijn64tab", laid_math_bits_deBruijn64tab), ("internal/strconv.uint64pow10", laid_internal_strconv_uint64pow10), ("unicode/utf8.acceptRanges", laid_unicode_utf8_acceptRanges), ("strconv.ErrRange", laid_strconv_ErrRange), ("strconv.ErrSyntax", laid_strconv_ErrSyntax), ("hogget/span.signs", laid_hogget_span_signs), ("unicode/utf8.first", laid_unicode_utf8_first)] }
def ValidAreSaid : Prop := validAreRow.holds Tryz.pinned (OpenSpec.ofChange validAreSpec)

/-- ITS FALSE NEIGHBOUR: 'it returns false'. Refute it at one input. -/
def validAreWrong : ChangeSpec := { name := "validAre", fn := fun _ => fun
  | [d1, d2, d3, d4, d5] => { results := [.lit (.bool false)], args := [d1, d2, d3, d4, d5] }
  | _ => none }
def ValidAreWrongFalsely : Prop := validAreRow.holds Tryz.pinned (OpenSpec.ofChange validAreWrong)

/-- 'hoggetlaw16.ValidWrong': WHATEVER THE INPUT: true; the input reads as it did. -/
def validWrongSpec : ChangeSpec := { name := "validWrong", fn := fun _ => fun
  | [d1, d2, d3] => { results := [.lit (.bool true)], args := [d1, d2, d3] }
  | _ => none }
def validWrongRow : OpenClaim := { program := "ytgipehooceecpaagreatdoor", sum := "b9c5006baa26e2de8e2b5737e41b4962ea946b2944e450dea6555806c80f22c1", func := "hogget/hoggetlaw16.ValidWrong", spec := "validWrong", inPlace := ["internal/bytealg.IndexByteString", "internal/bytealg.IndexString", "internal/abi.NoEscape", "internal/bytealg.MakeNoZero", "internal/bytealg.CountString"], unfollowed := true, recurses := true, named := ["unicode/utf8.first", "unicode/utf8.acceptRanges", "internal/bytealg.MaxLen", "strconv.ErrSyntax", "strconv.ErrRange", "internal/strconv.uint64pow10", "math/bits.deBruijn32tab", "math/bits.deBruijn64tab", "hogget/span.signs"], plainKeys := false, apart := false, laid := [("math/bits.deBruijn32tab", laid_math_bits_deBruijn32tab), ("math/bits.deBruijn64tab", laid_math_bits_deBruijn64tab), ("internal/strconv.uint64pow10", laid_internal_strconv_uint64pow10), ("unicode/utf8.acceptRanges", laid_unicode_utf8_acceptRanges), ("strconv.ErrRange", laid_strconv_ErrRange), ("strconv.ErrSyntax", laid_strconv_ErrSyntax), ("hogget/span.signs", laid_hogget_span_signs), ("unicode/utf8.first", laid_unicode_utf8_first)] }
def ValidWrongSaid : Prop := validWrongRow.holds Tryz.pinned (OpenSpec.ofChange validWrongSpec)

/-- ITS FALSE NEIGHBOUR: 'it returns false'. Refute it at one input. -/
def validWrongWrong : ChangeSpec := { name := "validWrong", fn := fun _ => fun
  | [d1, d2, d3] => { results := [.lit (.bool false)], args := [d1, d2, d3] }
  | _ => none }
def ValidWrongWrongFalsely : Prop := validWrongRow.holds Tryz.pinned (OpenSpec.ofChange validWrongWrong)

/-- 'hoggetlaw16.ValidEach': WHATEVER THE INPUT: true; the input reads as it did. -/
def validEachSpec : ChangeSpec := { name := "validEach", fn := fun _ => fun
  | [d1, d2, d3, d4] => { results := [.lit (.bool true)], args := [d1, d2, d3, d4] }
  | _ => none }
def validEachRow : OpenClaim := { program := "ytgipehooceecpaagreatdoor", sum := "b9c5006baa26e2de8e2b5737e41b4962ea946b2944e450dea6555806c80f22c1", func := "hogget/hoggetlaw16.ValidEach", spec := "validEach", inPlace := ["internal/bytealg.IndexByteString", "internal/bytealg.IndexString", "internal/abi.NoEscape", "internal/bytealg.MakeNoZero", "internal/bytealg.CountString"], unfollowed := true, recurses := true, named := ["unicode/utf8.first", "unicode/utf8.acceptRanges", "internal/bytealg.MaxLen", "strconv.ErrSyntax", "strconv.ErrRange", "internal/strconv.uint64pow10", "math/bits.deBruijn32tab", "math/bits.deBruijn64tab", "hogget/span.signs"], plainKeys := false, apart := false, laid := [("math/bits.deBruijn32tab", laid_math_bits_deBruijn32tab), ("math/bits.deBruijn64tab", laid_math_bits_deBruijn64tab), ("internal/strconv.uint64pow10", laid_internal_strconv_uint64pow10), ("unicode/utf8.acceptRanges", laid_unicode_utf8_acceptRanges), ("strconv.ErrRange", laid_strconv_ErrRange), ("strconv.ErrSyntax", laid_strconv_ErrSyntax), ("hogget/span.signs", laid_hogget_span_signs), ("unicode/utf8.first", laid_unicode_utf8_first)] }
def ValidEachSaid : Prop := validEachRow.holds Tryz.pinned (OpenSpec.ofChange validEachSpec)

/-- ITS FALSE NEIGHBOUR: 'it returns false'. Refute it at one input. -/
def validEachWrong : ChangeSpec := { name := "validEach", fn := fun _ => fun
  | [d1, d2, d3, d4] => { results := [.lit (.bool false)], args := [d1, d2, d3, d4] }
  | _ => none }
def ValidEachWrongFalsely : Prop := validEachRow.holds Tryz.pinned (OpenSpec.ofChange validEachWrong)

/-- 'hoggetlaw16.ValidNames': WHATEVER THE INPUT: true; the input reads as it did. -/
def validNamesSpec : ChangeSpec := { name := "validNames", fn := fun _ => fun
  | [d1, d2, d3] => { results := [.lit (.bool true)], args := [d1, d2, d3] }
  | _ => none }
def validNamesRow : OpenClaim := { program := "ytgipehooceecpaagreatdoor", sum := "b9c5006baa26e2de8e2b5737e41b4962ea946b2944e450dea6555806c80f22c1", func := "hogget/hoggetlaw16.ValidNames", spec := "validNames", inPlace := ["internal/bytealg.IndexByteString", "internal/bytealg.IndexString", "internal/abi.NoEscape", "internal/bytealg.MakeNoZero", "internal/bytealg.CountString"], unfollowed := true, recurses := true, named := ["unicode/utf8.first", "unicode/utf8.acceptRanges", "internal/bytealg.MaxLen", "strconv.ErrSyntax", "strconv.ErrRange", "internal/strconv.uint64pow10", "math/bits.deBruijn32tab", "math/bits.deBruijn64tab", "hogget/span.signs"], plainKeys := false, apart := false, laid := [("math/bits.deBruijn32tab", laid_math_bits_deBruijn32tab), ("math/bits.deBruijn64tab", laid_math_bits_deBruijn64tab), ("internal/strconv.uint64pow10", laid_internal_strconv_uint64pow10), ("unicode/utf8.acceptRanges", laid_unicode_utf8_acceptRanges), ("strconv.ErrRange", laid_strconv_ErrRange), ("strconv.ErrSyntax", laid_strconv_ErrSyntax), ("hogget/span.signs", laid_hogget_span_signs), ("unicode/utf8.first", laid_unicode_utf8_first)] }
def ValidNamesSaid : Prop := validNamesRow.holds Tryz.pinned (OpenSpec.ofChange validNamesSpec)

/-- ITS FALSE NEIGHBOUR: 'it returns false'. Refute it at one input. -/
def validNamesWrong : ChangeSpec := { name := "validNames", fn := fun _ => fun
  | [d1, d2, d3] => { results := [.lit (.bool false)], args := [d1, d2, d3] }
  | _ => none }
def ValidNamesWrongFalsely : Prop := validNamesRow.holds Tryz.pinned (OpenSpec.ofChange validNamesWrong)

/-- 'hoggetlaw16.ValidPeers': WHATEVER THE INPUT: true; the input reads as it did. -/
def validPeersSpec : ChangeSpec := { name := "validPeers", fn := fun _ => fun
  | [d1, d2, d3] => { results := [.lit (.bool true)], args := [d1, d2, d3] }
  | _ => none }
def validPeersRow : OpenClaim := { program := "ytgipehooceecpaagreatdoor", sum := "b9c5006baa26e2de8e2b5737e41b4962ea946b2944e450dea6555806c80f22c1", func := "hogget/hoggetlaw16.ValidPeers", spec := "validPeers", inPlace := ["internal/bytealg.IndexByteString", "internal/bytealg.IndexString", "internal/abi.NoEscape", "internal/bytealg.MakeNoZero", "internal/bytealg.CountString"], unfollowed := true, recurses := true, named := ["unicode/utf8.first", "unicode/utf8.acceptRanges", "internal/bytealg.MaxLen", "strconv.ErrSyntax", "strconv.ErrRange", "internal/strconv.uint64pow10", "math/bits.deBruijn32tab", "math/bits.deBruijn64tab", "hogget/span.signs"], plainKeys := false, apart := false, laid := [("math/bits.deBruijn32tab", laid_math_bits_deBruijn32tab), ("math/bits.deBruijn64tab", laid_math_bits_deBruijn64tab), ("internal/strconv.uint64pow10", laid_internal_strconv_uint64pow10), ("unicode/utf8.acceptRanges", laid_unicode_utf8_acceptRanges), ("strconv.ErrRange", laid_strconv_ErrRange), ("strconv.ErrSyntax", laid_strconv_ErrSyntax), ("hogget/span.signs", laid_hogget_span_signs), ("unicode/utf8.first", laid_unicode_utf8_first)] }
def ValidPeersSaid : Prop := validPeersRow.holds Tryz.pinned (OpenSpec.ofChange validPeersSpec)

/-- ITS FALSE NEIGHBOUR: 'it returns false'. Refute it at one input. -/
def validPeersWrong : ChangeSpec := { name := "validPeers", fn := fun _ => fun
  | [d1, d2, d3] => { results := [.lit (.bool false)], args := [d1, d2, d3] }
  | _ => none }
def ValidPeersWrongFalsely : Prop := validPeersRow.holds Tryz.pinned (OpenSpec.ofChange validPeersWrong)

/-- 'hoggetlaw16.ValidRules': WHATEVER THE INPUT: true; the input reads as it did. -/
def validRulesSpec : ChangeSpec := { name := "validRules", fn := fun _ => fun
  | [d1, d2, d3, d4] => { results := [.lit (.bool true)], args := [d1, d2, d3, d4] }
  | _ => none }
def validRulesRow : OpenClaim := { program := "ytgipehooceecpaagreatdoor", sum := "b9c5006baa26e2de8e2b5737e41b4962ea946b2944e450dea6555806c80f22c1", func := "hogget/hoggetlaw16.ValidRules", spec := "validRules", inPlace := ["internal/bytealg.IndexByteString", "internal/bytealg.IndexString", "internal/abi.NoEscape", "internal/bytealg.MakeNoZero", "internal/bytealg.CountString"], unfollowed := true, recurses := true, named := ["unicode/utf8.first", "unicode/utf8.acceptRanges", "internal/bytealg.MaxLen", "strconv.ErrSyntax", "strconv.ErrRange", "internal/strconv.uint64pow10", "math/bits.deBruijn32tab", "math/bits.deBruijn64tab", "hogget/span.signs"], plainKeys := false, apart := false, laid := [("math/bits.deBruijn32tab", laid_math_bits_deBruijn32tab), ("math/bits.deBruijn64tab", laid_math_bits_deBruijn64tab), ("internal/strconv.uint64pow10", laid_internal_strconv_uint64pow10), ("unicode/utf8.acceptRanges", laid_unicode_utf8_acceptRanges), ("strconv.ErrRange", laid_strconv_ErrRange), ("strconv.ErrSyntax", laid_strconv_ErrSyntax), ("hogget/span.signs", laid_hogget_span_signs), ("unicode/utf8.first", laid_unicode_utf8_first)] }
def ValidRulesSaid : Prop := validRulesRow.holds Tryz.pinned (OpenSpec.ofChange validRulesSpec)

/-- ITS FALSE NEIGHBOUR: 'it returns false'. Refute it at one input. -/
def validRulesWrong : ChangeSpec := { name := "validRules", fn := fun _ => fun
  | [d1, d2, d3, d4] => { results := [.lit (.bool false)], args := [d1, d2, d3, d4] }
  | _ => none }
def ValidRulesWrongFalsely : Prop := validRulesRow.holds Tryz.pinned (OpenSpec.ofChange validRulesWrong)

/-- 'hoggetlaw16.ValidAlone': WHATEVER THE INPUT: true; the input reads as it did. -/
def validAloneSpec : ChangeSpec := { name := "validAlone", fn := fun _ => fun
  | [d1, d2] => { results := [.lit (.bool true)], args := [d1, d2] }
  | _ => none }
def validAloneRow : OpenClaim := { program := "ytgipehooceecpaagreatdoor", sum := "b9c5006baa26e2de8e2b5737e41b4962ea946b2944e450dea6555806c80f22c1", func := "hogget/hoggetlaw16.ValidAlone", spec := "validAlone", inPlace := ["internal/bytealg.IndexByteString", "internal/bytealg.IndexString", "internal/abi.NoEscape", "internal/bytealg.MakeNoZero", "internal/bytealg.CountString"], unfollowed := true, recurses := true, named := ["unicode/utf8.first", "unicode/utf8.acceptRanges", "internal/bytealg.MaxLen", "strconv.ErrSyntax", "strconv.ErrRange", "internal/strconv.uint64pow10", "math/bits.deBruijn32tab", "math/bits.deBruijn64tab", "hogget/span.signs"], plainKeys := false, apart := false, laid := [("math/bits.deBruijn32tab", laid_math_bits_deBruijn32tab), ("math/bits.deBruijn64tab", laid_math_bits_deBruijn64tab), ("internal/strconv.uint64pow10", laid_internal_strconv_uint64pow10), ("unicode/utf8.acceptRanges", laid_unicode_utf8_acceptRanges), ("strconv.ErrRange", laid_strconv_ErrRange), ("strconv.ErrSyntax", laid_strconv_ErrSyntax), ("hogget/span.signs", laid_hogget_span_signs), ("unicode/utf8.first", laid_unicode_utf8_first)] }
def ValidAloneSaid : Prop := validAloneRow.holds Tryz.pinned (OpenSpec.ofChange validAloneSpec)

/-- ITS FALSE NEIGHBOUR: 'it returns false'. Refute it at one input. -/
def validAloneWrong : ChangeSpec := { name := "validAlone", fn := fun _ => fun
  | [d1, d2] => { results := [.lit (.bool false)], args := [d1, d2] }
  | _ => none }
def ValidAloneWrongFalsely : Prop := validAloneRow.holds Tryz.pinned (OpenSpec.ofChange validAloneWrong)

/-- 'hoggetlaw19.PruneReaches': WHATEVER THE INPUT: true; the input reads as it did. -/
def pruneReachesSpec : ChangeSpec := { name := "pruneReaches", fn := fun _ => fun
  | [d1, d2, d3] => { results := [.lit (.bool true)], args := [d1, d2, d3] }
  | _ => none }
def pruneReachesRow : OpenClaim := { program := "ytgipehooceecpaagreatdoor", sum := "b9c5006baa26e2de8e2b5737e41b4962ea946b2944e450dea6555806c80f22c1", func := "hogget/hoggetlaw19.PruneReaches", spec := "pruneReaches", inPlace := ["internal/bytealg.IndexByteString", "internal/bytealg.IndexString", "internal/abi.NoEscape", "internal/bytealg.MakeNoZero", "internal/bytealg.CountString"], unfollowed := true, recurses := true, named := ["unicode/utf8.first", "unicode/utf8.acceptRanges", "internal/bytealg.MaxLen", "strconv.ErrSyntax", "strconv.ErrRange", "internal/strconv.uint64pow10", "math/bits.deBruijn32tab", "math/bits.deBruijn64tab", "hogget/span.signs"], plainKeys := false, apart := false, laid := [("math/bits.deBruijn32tab", laid_math_bits_deBruijn32tab), ("math/bits.deBruijn64tab", laid_math_bits_deBruijn64tab), ("internal/strconv.uint64pow10", laid_internal_strconv_uint64pow10), ("unicode/utf8.acceptRanges", laid_unicode_utf8_acceptRanges), ("strconv.ErrRange", laid_strconv_ErrRange), ("strconv.ErrSyntax", laid_strconv_ErrSyntax), ("hogget/span.signs", laid_hogget_span_signs), ("unicode/utf8.first", laid_unicode_utf8_first)] }
def PruneReachesSaid : Prop := pruneReachesRow.holds Tryz.pinned (OpenSpec.ofChange pruneReachesSpec)

/-- ITS FALSE NEIGHBOUR: 'it returns false'. Refute it at one input. -/
def pruneReachesWrong : ChangeSpec := { name := "pruneReaches", fn := fun _ => fun
  | [d1, d2, d3] => { results := [.lit (.bool false)], args := [d1, d2, d3] }
  | _ => none }
def PruneReachesWrongFalsely : Prop := pruneReachesRow.holds Tryz.pinned (OpenSpec.ofChange pruneReachesWrong)

/-- 'hoggetlaw19.PruneKeeps': WHATEVER THE INPUT: true; the input reads as it did. -/
def pruneKeepsSpec : ChangeSpec := { name := "pruneKeeps", fn := fun _ => fun
  | [d1, d2] => { results := [.lit (.bool true)], args := [d1, d2] }
  | _ => none }
def pruneKeepsRow : OpenClaim := { program := "ytgipehooceecpaagreatdoor", sum := "b9c5006baa26e2de8e2b5737e41b4962ea946b2944e450dea6555806c80f22c1", func := "hogget/hoggetlaw19.PruneKeeps", spec := "pruneKeeps", inPlace := ["internal/bytealg.IndexByteString", "internal/bytealg.IndexString", "internal/abi.NoEscape", "internal/bytealg.MakeNoZero", "internal/bytealg.CountString"], unfollowed := true, recurses := true, named := ["unicode/utf8.first", "unicode/utf8.acceptRanges", "internal/bytealg.MaxLen", "strconv.ErrSyntax", "strconv.ErrRange", "internal/strconv.uint64pow10", "math/bits.deBruijn32tab", "math/bits.deBruijn64tab", "hogget/span.signs"], plainKeys := false, apart := false, laid := [("math/bits.deBruijn32tab", laid_math_bits_deBruijn32tab), ("math/bits.deBruijn64tab", laid_math_bits_deBruijn64tab), ("internal/strconv.uint64pow10", laid_internal_strconv_uint64pow10), ("unicode/utf8.acceptRanges", laid_unicode_utf8_acceptRanges), ("strconv.ErrRange", laid_strconv_ErrRange), ("strconv.ErrSyntax", laid_strconv_ErrSyntax), ("hogget/span.signs", laid_hogget_span_signs), ("unicode/utf8.first", laid_unicode_utf8_first)] }
def PruneKeepsSaid : Prop := pruneKeepsRow.holds Tryz.pinned (OpenSpec.ofChange pruneKeepsSpec)

/-- ITS FALSE NEIGHBOUR: 'it returns false'. Refute it at one input. -/
def pruneKeepsWrong : ChangeSpec := { name := "pruneKeeps", fn := fun _ => fun
  | [d1, d2] => { results := [.lit (.bool false)], args := [d1, d2] }
  | _ => none }
def PruneKeepsWrongFalsely : Prop := pruneKeepsRow.holds Tryz.pinned (OpenSpec.ofChange pruneKeepsWrong)

/-- 'hoggetlaw19.PruneNone': WHATEVER THE INPUT: true; the input reads as it did. -/
def pruneNoneSpec : ChangeSpec := { name := "pruneNone", fn := fun _ => fun
  | [d1, d2, d3] => { results := [.lit (.bool true)], args := [d1, d2, d3] }
  | _ => none }
def pruneNoneRow : OpenClaim := { program := "ytgipehooceecpaagreatdoor", sum := "b9c5006baa26e2de8e2b5737e41b4962ea946b2944e450dea6555806c80f22c1", func := "hogget/hoggetlaw19.PruneNone", spec := "pruneNone", inPlace := ["internal/bytealg.IndexByteString", "internal/bytealg.IndexString", "internal/abi.NoEscape", "internal/bytealg.MakeNoZero", "internal/bytealg.CountString"], unfollowed := true, recurses := true, named := ["unicode/utf8.first", "unicode/utf8.acceptRanges", "internal/bytealg.MaxLen", "strconv.ErrSyntax", "strconv.ErrRange", "internal/strconv.uint64pow10", "math/bits.deBruijn32tab", "math/bits.deBruijn64tab", "hogget/span.signs"], plainKeys := false, apart := false, laid := [("math/bits.deBruijn32tab", laid_math_bits_deBruijn32tab), ("math/bits.deBruijn64tab", laid_math_bits_deBruijn64tab), ("internal/strconv.uint64pow10", laid_internal_strconv_uint64pow10), ("unicode/utf8.acceptRanges", laid_unicode_utf8_acceptRanges), ("strconv.ErrRange", laid_strconv_ErrRange), ("strconv.ErrSyntax", laid_strconv_ErrSyntax), ("hogget/span.signs", laid_hogget_span_signs), ("unicode/utf8.first", laid_unicode_utf8_first)] }
def PruneNoneSaid : Prop := pruneNoneRow.holds Tryz.pinned (OpenSpec.ofChange pruneNoneSpec)

/-- ITS FALSE NEIGHBOUR: 'it returns false'. Refute it at one input. -/
def pruneNoneWrong : ChangeSpec := { name := "pruneNone", fn := fun _ => fun
  | [d1, d2, d3] => { results := [.lit (.bool false)], args := [d1, d2, d3] }
  | _ => none }
def PruneNoneWrongFalsely : Prop := pruneNoneRow.holds Tryz.pinned (OpenSpec.ofChange pruneNoneWrong)

/-- 'hoggetlaw19.PruneAgain': WHATEVER THE INPUT: true; the input reads as it did. -/
def pruneAgainSpec : ChangeSpec := { name := "pruneAgain", fn := fun _ => fun
  | [d1, d2, d3] => { results := [.lit (.bool true)], args := [d1, d2, d3] }
  | _ => none }
def pruneAgainRow : OpenClaim := { program := "ytgipehooceecpaagreatdoor", sum := "b9c5006baa26e2de8e2b5737e41b4962ea946b2944e450dea6555806c80f22c1", func := "hogget/hoggetlaw19.PruneAgain", spec := "pruneAgain", inPlace := ["internal/bytealg.IndexByteString", "internal/bytealg.IndexString", "internal/abi.NoEscape", "internal/bytealg.MakeNoZero", "internal/bytealg.CountString"], unfollowed := true, recurses := true, named := ["unicode/utf8.first", "unicode/utf8.acceptRanges", "internal/bytealg.MaxLen", "strconv.ErrSyntax", "strconv.ErrRange", "internal/strconv.uint64pow10", "math/bits.deBruijn32tab", "math/bits.deBruijn64tab", "hogget/span.signs"], plainKeys := false, apart := false, laid := [("math/bits.deBruijn32tab", laid_math_bits_deBruijn32tab), ("math/bits.deBruijn64tab", laid_math_bits_deBruijn64tab), ("internal/strconv.uint64pow10", laid_internal_strconv_uint64pow10), ("unicode/utf8.acceptRanges", laid_unicode_utf8_acceptRanges), ("strconv.ErrRange", laid_strconv_ErrRange), ("strconv.ErrSyntax", laid_strconv_ErrSyntax), ("hogget/span.signs", laid_hogget_span_signs), ("unicode/utf8.first", laid_unicode_utf8_first)] }
def PruneAgainSaid : Prop := pruneAgainRow.holds Tryz.pinned (OpenSpec.ofChange pruneAgainSpec)

/-- ITS FALSE NEIGHBOUR: 'it returns false'. Refute it at one input. -/
def pruneAgainWrong : ChangeSpec := { name := "pruneAgain", fn := fun _ => fun
  | [d1, d2, d3] => { results := [.lit (.bool false)], args := [d1, d2, d3] }
  | _ => none }
def PruneAgainWrongFalsely : Prop := pruneAgainRow.holds Tryz.pinned (OpenSpec.ofChange pruneAgainWrong)

/-- 'hoggetlaw20.DedupeAre': WHATEVER THE INPUT: true; the input reads as it did. -/
def dedupeAreSpec : ChangeSpec := { name := "dedupeAre", fn := fun _ => fun
  | [d1, d2, d3, d4] => { results := [.lit (.bool true)], args := [d1, d2, d3, d4] }
  | _ => none }
def dedupeAreRow : OpenClaim := { program := "ytgipehooceecpaagreatdoor", sum := "b9c5006baa26e2de8e2b5737e41b4962ea946b2944e450dea6555806c80f22c1", func := "hogget/hoggetlaw20.DedupeAre", spec := "dedupeAre", inPlace := ["internal/bytealg.IndexByteString", "internal/bytealg.IndexString", "internal/abi.NoEscape", "internal/bytealg.MakeNoZero", "internal/bytealg.CountString"], unfollowed := true, recurses := true, named := ["unicode/utf8.first", "unicode/utf8.acceptRanges", "internal/bytealg.MaxLen", "strconv.ErrSyntax", "strconv.ErrRange", "internal/strconv.uint64pow10", "math/bits.deBruijn32tab", "math/bits.deBruijn64tab", "hogget/span.signs"], plainKeys := false, apart := false, laid := [("math/bits.deBruijn32tab", laid_math_bits_deBruijn32tab), ("math/bits.deBruijn64tab", laid_math_bits_deBruijn64tab), ("internal/strconv.uint64pow10", laid_internal_strconv_uint64pow10), ("unicode/utf8.acceptRanges", laid_unicode_utf8_acceptRanges), ("strconv.ErrRange", laid_strconv_ErrRange), ("strconv.ErrSyntax", laid_strconv_ErrSyntax), ("hogget/span.signs", laid_hogget_span_signs), ("unicode/utf8.first", laid_unicode_utf8_first)] }
def DedupeAreSaid : Prop := dedupeAreRow.holds Tryz.pinned (OpenSpec.ofChange dedupeAreSpec)

/-- ITS FALSE NEIGHBOUR: 'it returns false'. Refute it at one input. -/
def dedupeAreWrong : ChangeSpec := { name := "dedupeAre", fn := fun _ => fun
  | [d1, d2, d3, d4] => { results := [.lit (.bool false)], args := [d1, d2, d3, d4] }
  | _ => none }
def DedupeAreWrongFalsely : Prop := dedupeAreRow.holds Tryz.pinned (OpenSpec.ofChange dedupeAreWrong)

/-- 'hoggetlaw20.DedupeMakes': WHATEVER THE INPUT: true; the input reads as it did. -/
def dedupeMakesSpec : ChangeSpec := { name := "dedupeMakes", fn := fun _ => fun
  | [d1, d2, d3] => { results := [.lit (.bool true)], args := [d1, d2, d3] }
  | _ => none }
def dedupeMakesRow : OpenClaim := { program := "ytgipehooceecpaagreatdoor", sum := "b9c5006baa26e2de8e2b5737e41b4962ea946b2944e450dea6555806c80f22c1", func := "hogget/hoggetlaw20.DedupeMakes", spec := "dedupeMakes", inPlace := ["internal/bytealg.IndexByteString", "internal/bytealg.IndexString", "internal/abi.NoEscape", "internal/bytealg.MakeNoZero", "internal/bytealg.CountString"], unfollowed := true, recurses := true, named := ["unicode/utf8.first", "unicode/utf8.acceptRanges", "internal/bytealg.MaxLen", "strconv.ErrSyntax", "strconv.ErrRange", "internal/strconv.uint64pow10", "math/bits.deBruijn32tab", "math/bits.deBruijn64tab", "hogget/span.signs"], plainKeys := false, apart := false, laid := [("math/bits.deBruijn32tab", laid_math_bits_deBruijn32tab), ("math/bits.deBruijn64tab", laid_math_bits_deBruijn64tab), ("internal/strconv.uint64pow10", laid_internal_strconv_uint64pow10), ("unicode/utf8.acceptRanges", laid_unicode_utf8_acceptRanges), ("strconv.ErrRange", laid_strconv_ErrRange), ("strconv.ErrSyntax", laid_strconv_ErrSyntax), ("hogget/span.signs", laid_hogget_span_signs), ("unicode/utf8.first", laid_unicode_utf8_first)] }
def DedupeMakesSaid : Prop := dedupeMakesRow.holds Tryz.pinned (OpenSpec.ofChange dedupeMakesSpec)

/-- ITS FALSE NEIGHBOUR: 'it returns false'. Refute it at one input. -/
def dedupeMakesWrong : ChangeSpec := { name := "dedupeMakes", fn := fun _ => fun
  | [d1, d2, d3] => { results := [.lit (.bool false)], args := [d1, d2, d3] }
  | _ => none }
def DedupeMakesWrongFalsely : Prop := dedupeMakesRow.holds Tryz.pinned (OpenSpec.ofChange dedupeMakesWrong)

/-- 'hoggetlaw20.DedupeLeast': WHATEVER THE INPUT: true; the input reads as it did. -/
def dedupeLeastSpec : ChangeSpec := { name := "dedupeLeast", fn := fun _ => fun
  | [d1, d2, d3] => { results := [.lit (.bool true)], args := [d1, d2, d3] }
  | _ => none }
def dedupeLeastRow : OpenClaim := { program := "ytgipehooceecpaagreatdoor", sum := "b9c5006baa26e2de8e2b5737e41b4962ea946b2944e450dea6555806c80f22c1", func := "hogget/hoggetlaw20.DedupeLeast", spec := "dedupeLeast", inPlace := ["internal/bytealg.IndexByteString", "internal/bytealg.IndexString", "internal/abi.NoEscape", "internal/bytealg.MakeNoZero", "internal/bytealg.CountString"], unfollowed := true, recurses := true, named := ["unicode/utf8.first", "unicode/utf8.acceptRanges", "internal/bytealg.MaxLen", "strconv.ErrSyntax", "strconv.ErrRange", "internal/strconv.uint64pow10", "math/bits.deBruijn32tab", "math/bits.deBruijn64tab", "hogget/span.signs"], plainKeys := false, apart := false, laid := [("math/bits.deBruijn32tab", laid_math_bits_deBruijn32tab), ("math/bits.deBruijn64tab", laid_math_bits_deBruijn64tab), ("internal/strconv.uint64pow10", laid_internal_strconv_uint64pow10), ("unicode/utf8.acceptRanges", laid_unicode_utf8_acceptRanges), ("strconv.ErrRange", laid_strconv_ErrRange), ("strconv.ErrSyntax", laid_strconv_ErrSyntax), ("hogget/span.signs", laid_hogget_span_signs), ("unicode/utf8.first", laid_unicode_utf8_first)] }
def DedupeLeastSaid : Prop := dedupeLeastRow.holds Tryz.pinned (OpenSpec.ofChange dedupeLeastSpec)

/-- ITS FALSE NEIGHBOUR: 'it returns false'. Refute it at one input. -/
def dedupeLeastWrong : ChangeSpec := { name := "dedupeLeast", fn := fun _ => fun
  | [d1, d2, d3] => { results := [.lit (.bool false)], args := [d1, d2, d3] }
  | _ => none }
def DedupeLeastWrongFalsely : Prop := dedupeLeastRow.holds Tryz.pinned (OpenSpec.ofChange dedupeLeastWrong)

/-- 'hoggetlaw20.DedupeCuts': WHATEVER THE INPUT: true; the input reads as it did. -/
def dedupeCutsSpec : ChangeSpec := { name := "dedupeCuts", fn := fun _ => fun
  | [d1, d2, d3, d4] => { results := [.lit (.bool true)], args := [d1, d2, d3, d4] }
  | _ => none }
def dedupeCutsRow : OpenClaim := { program := "ytgipehooceecpaagreatdoor", sum := "b9c5006baa26e2de8e2b5737e41b4962ea946b2944e450dea6555806c80f22c1", func := "hogget/hoggetlaw20.DedupeCuts", spec := "dedupeCuts", inPlace := ["internal/bytealg.IndexByteString", "internal/bytealg.IndexString", "internal/abi.NoEscape", "internal/bytealg.MakeNoZero", "internal/bytealg.CountString"], unfollowed := true, recurses := true, named := ["unicode/utf8.first", "unicode/utf8.acceptRanges", "internal/bytealg.MaxLen", "strconv.ErrSyntax", "strconv.ErrRange", "internal/strconv.uint64pow10", "math/bits.deBruijn32tab", "math/bits.deBruijn64tab", "hogget/span.signs"], plainKeys := false, apart := false, laid := [("math/bits.deBruijn32tab", laid_math_bits_deBruijn32tab), ("math/bits.deBruijn64tab", laid_math_bits_deBruijn64tab), ("internal/strconv.uint64pow10", laid_internal_strconv_uint64pow10), ("unicode/utf8.acceptRanges", laid_unicode_utf8_acceptRanges), ("strconv.ErrRange", laid_strconv_ErrRange), ("strconv.ErrSyntax", laid_strconv_ErrSyntax), ("hogget/span.signs", laid_hogget_span_signs), ("unicode/utf8.first", laid_unicode_utf8_first)] }
def DedupeCutsSaid : Prop := dedupeCutsRow.holds Tryz.pinned (OpenSpec.ofChange dedupeCutsSpec)

/-- ITS FALSE NEIGHBOUR: 'it returns false'. Refute it at one input. -/
def dedupeCutsWrong : ChangeSpec := { name := "dedupeCuts", fn := fun _ => fun
  | [d1, d2, d3, d4] => { results := [.lit (.bool false)], args := [d1, d2, d3, d4] }
  | _ => none }
def DedupeCutsWrongFalsely : Prop := dedupeCutsRow.holds Tryz.pinned (OpenSpec.ofChange dedupeCutsWrong)

/-- 'hoggetlaw19.PruneWhole': WHATEVER THE INPUT: true; the input reads as it did. -/
def pruneWholeSpec : ChangeSpec := { name := "pruneWhole", fn := fun _ => fun
  | [d1, d2, d3, d4] => { results := [.lit (.bool true)], args := [d1, d2, d3, d4] }
  | _ => none }
def pruneWholeRow : OpenClaim := { program := "ytgipehooceecpaagreatdoor", sum := "b9c5006baa26e2de8e2b5737e41b4962ea946b2944e450dea6555806c80f22c1", func := "hogget/hoggetlaw19.PruneWhole", spec := "pruneWhole", inPlace := ["internal/bytealg.IndexByteString", "internal/bytealg.IndexString", "internal/abi.NoEscape", "internal/bytealg.MakeNoZero", "internal/bytealg.CountString"], unfollowed := true, recurses := true, named := ["unicode/utf8.first", "unicode/utf8.acceptRanges", "internal/bytealg.MaxLen", "strconv.ErrSyntax", "strconv.ErrRange", "internal/strconv.uint64pow10", "math/bits.deBruijn32tab", "math/bits.deBruijn64tab", "hogget/span.signs"], plainKeys := false, apart := false, laid := [("math/bits.deBruijn32tab", laid_math_bits_deBruijn32tab), ("math/bits.deBruijn64tab", laid_math_bits_deBruijn64tab), ("internal/strconv.uint64pow10", laid_internal_strconv_uint64pow10), ("unicode/utf8.acceptRanges", laid_unicode_utf8_acceptRanges), ("strconv.ErrRange", laid_strconv_ErrRange), ("strconv.ErrSyntax", laid_strconv_ErrSyntax), ("hogget/span.signs", laid_hogget_span_signs), ("unicode/utf8.first", laid_unicode_utf8_first)] }
def PruneWholeSaid : Prop := pruneWholeRow.holds Tryz.pinned (OpenSpec.ofChange pruneWholeSpec)

/-- ITS FALSE NEIGHBOUR: 'it returns false'. Refute it at one input. -/
def pruneWholeWrong : ChangeSpec := { name := "pruneWhole", fn := fun _ => fun
  | [d1, d2, d3, d4] => { results := [.lit (.bool false)], args := [d1, d2, d3, d4] }
  | _ => none }
def PruneWholeWrongFalsely : Prop := pruneWholeRow.holds Tryz.pinned (OpenSpec.ofChange pruneWholeWrong)

/-- 'hoggetlaw20.DedupeLifts': WHATEVER THE INPUT: true; the input reads as it did. -/
def dedupeLiftsSpec : ChangeSpec := { name := "dedupeLifts", fn := fun _ => fun
  | [d1, d2] => { results := [.lit (.bool true)], args := [d1, d2] }
  | _ => none }
def dedupeLiftsRow : OpenClaim := { program := "ytgipehooceecpaagreatdoor", sum := "b9c5006baa26e2de8e2b5737e41b4962ea946b2944e450dea6555806c80f22c1", func := "hogget/hoggetlaw20.DedupeLifts", spec := "dedupeLifts", inPlace := ["internal/bytealg.IndexByteString", "internal/bytealg.IndexString", "internal/abi.NoEscape", "internal/bytealg.MakeNoZero", "internal/bytealg.CountString"], unfollowed := true, recurses := true, named := ["unicode/utf8.first", "unicode/utf8.acceptRanges", "internal/bytealg.MaxLen", "strconv.ErrSyntax", "strconv.ErrRange", "internal/strconv.uint64pow10", "math/bits.deBruijn32tab", "math/bits.deBruijn64tab", "hogget/span.signs"], plainKeys := false, apart := false, laid := [("math/bits.deBruijn32tab", laid_math_bits_deBruijn32tab), ("math/bits.deBruijn64tab", laid_math_bits_deBruijn64tab), ("internal/strconv.uint64pow10", laid_internal_strconv_uint64pow10), ("unicode/utf8.acceptRanges", laid_unicode_utf8_acceptRanges), ("strconv.ErrRange", laid_strconv_ErrRange), ("strconv.ErrSyntax", laid_strconv_ErrSyntax), ("hogget/span.signs", laid_hogget_span_signs), ("unicode/utf8.first", laid_unicode_utf8_first)] }
def DedupeLiftsSaid : Prop := dedupeLiftsRow.holds Tryz.pinned (OpenSpec.ofChange dedupeLiftsSpec)

/-- ITS FALSE NEIGHBOUR: 'it returns false'. Refute it at one input. -/
def dedupeLiftsWrong : ChangeSpec := { name := "dedupeLifts", fn := fun _ => fun
  | [d1, d2] => { results := [.lit (.bool false)], args := [d1, d2] }
  | _ => none }
def DedupeLiftsWrongFalsely : Prop := dedupeLiftsRow.holds Tryz.pinned (OpenSpec.ofChange dedupeLiftsWrong)

/-- 'hoggetlaw19.PruneLeads': WHATEVER THE INPUT: true; the input reads as it did. -/
def pruneLeadsSpec : ChangeSpec := { name := "pruneLeads", fn := fun _ => fun
  | [d1, d2, d3, d4] => { results := [.lit (.bool true)], args := [d1, d2, d3, d4] }
  | _ => none }
def pruneLeadsRow : OpenClaim := { program := "ytgipehooceecpaagreatdoor", sum := "b9c5006baa26e2de8e2b5737e41b4962ea946b2944e450dea6555806c80f22c1", func := "hogget/hoggetlaw19.PruneLeads", spec := "pruneLeads", inPlace := ["internal/bytealg.IndexByteString", "internal/bytealg.IndexString", "internal/abi.NoEscape", "internal/bytealg.MakeNoZero", "internal/bytealg.CountString"], unfollowed := true, recurses := true, named := ["unicode/utf8.first", "unicode/utf8.acceptRanges", "internal/bytealg.MaxLen", "strconv.ErrSyntax", "strconv.ErrRange", "internal/strconv.uint64pow10", "math/bits.deBruijn32tab", "math/bits.deBruijn64tab", "hogget/span.signs"], plainKeys := false, apart := false, laid := [("math/bits.deBruijn32tab", laid_math_bits_deBruijn32tab), ("math/bits.deBruijn64tab", laid_math_bits_deBruijn64tab), ("internal/strconv.uint64pow10", laid_internal_strconv_uint64pow10), ("unicode/utf8.acceptRanges", laid_unicode_utf8_acceptRanges), ("strconv.ErrRange", laid_strconv_ErrRange), ("strconv.ErrSyntax", laid_strconv_ErrSyntax), ("hogget/span.signs", laid_hogget_span_signs), ("unicode/utf8.first", laid_unicode_utf8_first)] }
def PruneLeadsSaid : Prop := pruneLeadsRow.holds Tryz.pinned (OpenSpec.ofChange pruneLeadsSpec)

/-- ITS FALSE NEIGHBOUR: 'it returns false'. Refute it at one input. -/
def pruneLeadsWrong : ChangeSpec := { name := "pruneLeads", fn := fun _ => fun
  | [d1, d2, d3, d4] => { results := [.lit (.bool false)], args := [d1, d2, d3, d4] }
  | _ => none }
def PruneLeadsWrongFalsely : Prop := pruneLeadsRow.holds Tryz.pinned (OpenSpec.ofChange pruneLeadsWrong)

/- THE SECOND FORM. 'bulk': how many values and letters a reading holds, each counted each time it is reached (what is shared counts as often as it is met; a slice's spare places count too). A statement '..UptoSaid' is the law's where the arguments, and the package variables that the reading takes, are together of bulk at most 1048576: NARROWER than '..Said'. Prove '..Said' where nothing that the law and all that it calls make is longer than what came in: it says more and counts as full. Else prove '..UptoSaid'. A law counts once. -/
mutual
def uptoBulk {H : Type} : DataW H → Nat
  | .lit (.string bytes) => bytes.length + 1
  | .lit _ => 1
  | .nil => 1
  | .ptr d => uptoBulk d + 1
  | .slice elems spare => uptoBulkAll elems + uptoBulkAll spare + 1
  | .agg parts => uptoBulkAll parts + 1
  | .iface _ d => uptoBulk d + 1
  | .map entries => uptoBulkEntries entries + 1
  | .held _ => 1
def uptoBulkAll {H : Type} : List (DataW H) → Nat
  | [] => 0
  | d :: r => uptoBulk d + uptoBulkAll r
def uptoBulkEntries {H : Type} : List (Lit × DataW H) → Nat
  | [] => 0
  | x :: r => uptoBulkEntry x + uptoBulkEntries r
def uptoBulkEntry {H : Type} : Lit × DataW H → Nat
  | (.string bytes, d) => bytes.length + uptoBulk d + 1
  | (_, d) => uptoBulk d + 1
 end
def uptoSmall : (H : Type) → List (DataW H) → Bool := fun _ ds => decide (uptoBulkAll ds ≤ 1048576)
def OpenSpec.upto (s : _root_.Go.ChangeSpec) : _root_.Go.OpenSpec := { _root_.Go.OpenSpec.ofChange s with cond := some uptoSmall }

/-- 'hoggetlaw16.ValidAre', WHERE WHAT IT READS IS OF BULK AT MOST 1048576: true; the input reads as it did. -/
def validAreUptoRow : OpenClaim := { program := "ytgipehooceecpaagreatdoor", sum := "b9c5006baa26e2de8e2b5737e41b4962ea946b2944e450dea6555806c80f22c1", func := "hogget/hoggetlaw16.ValidAre", spec := "validAre", inPlace := ["internal/bytealg.IndexByteString", "internal/bytealg.IndexString", "internal/abi.NoEscape", "internal/bytealg.MakeNoZero", "internal/bytealg.CountString"], unfollowed := true, recurses := true, named := ["unicode/utf8.first", "unicode/utf8.acceptRanges", "internal/bytealg.MaxLen", "strconv.ErrSyntax", "strconv.ErrRange", "internal/strconv.uint64pow10", "math/bits.deBruijn32tab", "math/bits.deBruijn64tab", "hogget/span.signs"], plainKeys := false, apart := false, laid := [("math/bits.deBruijn32tab", laid_math_bits_deBruijn32tab), ("math/bits.deBruijn64tab", laid_math_bits_deBruijn64tab), ("internal/strconv.uint64pow10", laid_internal_strconv_uint64pow10), ("unicode/utf8.acceptRanges", laid_unicode_utf8_acceptRanges), ("strconv.ErrRange", laid_strconv_ErrRange), ("strconv.ErrSyntax", laid_strconv_ErrSyntax), ("hogget/span.signs", laid_hogget_span_signs), ("unicode/utf8.first", laid_unicode_utf8_first)], narrowed := true }
def ValidAreUptoSaid : Prop := validAreUptoRow.holds Tryz.pinned (OpenSpec.upto validAreSpec)

/-- 'hoggetlaw16.ValidWrong', WHERE WHAT IT READS IS OF BULK AT MOST 1048576: true; the input reads as it did. -/
def validWrongUptoRow : OpenClaim := { program := "ytgipehooceecpaagreatdoor", sum := "b9c5006baa26e2de8e2b5737e41b4962ea946b2944e450dea6555806c80f22c1", func := "hogget/hoggetlaw16.ValidWrong", spec := "validWrong", inPlace := ["internal/bytealg.IndexByteString", "internal/bytealg.IndexString", "internal/abi.NoEscape", "internal/bytealg.MakeNoZero", "internal/bytealg.CountString"], unfollowed := true, recurses := true, named := ["unicode/utf8.first", "unicode/utf8.acceptRanges", "internal/bytealg.MaxLen", "strconv.ErrSyntax", "strconv.ErrRange", "internal/strconv.uint64pow10", "math/bits.deBruijn32tab", "math/bits.deBruijn64tab", "hogget/span.signs"], plainKeys := false, apart := false, laid := [("math/bits.deBruijn32tab", laid_math_bits_deBruijn32tab), ("math/bits.deBruijn64tab", laid_math_bits_deBruijn64tab), ("internal/strconv.uint64pow10", laid_internal_strconv_uint64pow10), ("unicode/utf8.acceptRanges", laid_unicode_utf8_acceptRanges), ("strconv.ErrRange", laid_strconv_ErrRange), ("strconv.ErrSyntax", laid_strconv_ErrSyntax), ("hogget/span.signs", laid_hogget_span_signs), ("unicode/utf8.first", laid_unicode_utf8_first)], narrowed := true }
def ValidWrongUptoSaid : Prop := validWrongUptoRow.holds Tryz.pinned (OpenSpec.upto validWrongSpec)

/-- 'hoggetlaw16.ValidEach', WHERE WHAT IT READS IS OF BULK AT MOST 1048576: true; the input reads as it did. -/
def validEachUptoRow : OpenClaim := { program := "ytgipehooceecpaagreatdoor", sum := "b9c5006baa26e2de8e2b5737e41b4962ea946b2944e450dea6555806c80f22c1", func := "hogget/hoggetlaw16.ValidEach", spec := "validEach", inPlace := ["internal/bytealg.IndexByteString", "internal/bytealg.IndexString", "internal/abi.NoEscape", "internal/bytealg.MakeNoZero", "internal/bytealg.CountString"], unfollowed := true, recurses := true, named := ["unicode/utf8.first", "unicode/utf8.acceptRanges", "internal/bytealg.MaxLen", "strconv.ErrSyntax", "strconv.ErrRange", "internal/strconv.uint64pow10", "math/bits.deBruijn32tab", "math/bits.deBruijn64tab", "hogget/span.signs"], plainKeys := false, apart := false, laid := [("math/bits.deBruijn32tab", laid_math_bits_deBruijn32tab), ("math/bits.deBruijn64tab", laid_math_bits_deBruijn64tab), ("internal/strconv.uint64pow10", laid_internal_strconv_uint64pow10), ("unicode/utf8.acceptRanges", laid_unicode_utf8_acceptRanges), ("strconv.ErrRange", laid_strconv_ErrRange), ("strconv.ErrSyntax", laid_strconv_ErrSyntax), ("hogget/span.signs", laid_hogget_span_signs), ("unicode/utf8.first", laid_unicode_utf8_first)], narrowed := true }
def ValidEachUptoSaid : Prop := validEachUptoRow.holds Tryz.pinned (OpenSpec.upto validEachSpec)

/-- 'hoggetlaw16.ValidNames', WHERE WHAT IT READS IS OF BULK AT MOST 1048576: true; the input reads as it did. -/
def validNamesUptoRow : OpenClaim := { program := "ytgipehooceecpaagreatdoor", sum := "b9c5006baa26e2de8e2b5737e41b4962ea946b2944e450dea6555806c80f22c1", func := "hogget/hoggetlaw16.ValidNames", spec := "validNames", inPlace := ["internal/bytealg.IndexByteString", "internal/bytealg.IndexString", "internal/abi.NoEscape", "internal/bytealg.MakeNoZero", "internal/bytealg.CountString"], unfollowed := true, recurses := true, named := ["unicode/utf8.first", "unicode/utf8.acceptRanges", "internal/bytealg.MaxLen", "strconv.ErrSyntax", "strconv.ErrRange", "internal/strconv.uint64pow10", "math/bits.deBruijn32tab", "math/bits.deBruijn64tab", "hogget/span.signs"], plainKeys := false, apart := false, laid := [("math/bits.deBruijn32tab", laid_math_bits_deBruijn32tab), ("math/bits.deBruijn64tab", laid_math_bits_deBruijn64tab), ("internal/strconv.uint64pow10", laid_internal_strconv_uint64pow10), ("unicode/utf8.acceptRanges", laid_unicode_utf8_acceptRanges), ("strconv.ErrRange", laid_strconv_ErrRange), ("strconv.ErrSyntax", laid_strconv_ErrSyntax), ("hogget/span.signs", laid_hogget_span_signs), ("unicode/utf8.first", laid_unicode_utf8_first)], narrowed := true }
def ValidNamesUptoSaid : Prop := validNamesUptoRow.holds Tryz.pinned (OpenSpec.upto validNamesSpec)

/-- 'hoggetlaw16.ValidPeers', WHERE WHAT IT READS IS OF BULK AT MOST 1048576: true; the input reads as it did. -/
def validPeersUptoRow : OpenClaim := { program := "ytgipehooceecpaagreatdoor", sum := "b9c5006baa26e2de8e2b5737e41b4962ea946b2944e450dea6555806c80f22c1", func := "hogget/hoggetlaw16.ValidPeers", spec := "validPeers", inPlace := ["internal/bytealg.IndexByteString", "internal/bytealg.IndexString", "internal/abi.NoEscape", "internal/bytealg.MakeNoZero", "internal/bytealg.CountString"], unfollowed := true, recurses := true, named := ["unicode/utf8.first", "unicode/utf8.acceptRanges", "internal/bytealg.MaxLen", "strconv.ErrSyntax", "strconv.ErrRange", "internal/strconv.uint64pow10", "math/bits.deBruijn32tab", "math/bits.deBruijn64tab", "hogget/span.signs"], plainKeys := false, apart := false, laid := [("math/bits.deBruijn32tab", laid_math_bits_deBruijn32tab), ("math/bits.deBruijn64tab", laid_math_bits_deBruijn64tab), ("internal/strconv.uint64pow10", laid_internal_strconv_uint64pow10), ("unicode/utf8.acceptRanges", laid_unicode_utf8_acceptRanges), ("strconv.ErrRange", laid_strconv_ErrRange), ("strconv.ErrSyntax", laid_strconv_ErrSyntax), ("hogget/span.signs", laid_hogget_span_signs), ("unicode/utf8.first", laid_unicode_utf8_first)], narrowed := true }
def ValidPeersUptoSaid : Prop := validPeersUptoRow.holds Tryz.pinned (OpenSpec.upto validPeersSpec)

/-- 'hoggetlaw16.ValidRules', WHERE WHAT IT READS IS OF BULK AT MOST 1048576: true; the input reads as it did. -/
def validRulesUptoRow : OpenClaim := { program := "ytgipehooceecpaagreatdoor", sum := "b9c5006baa26e2de8e2b5737e41b4962ea946b2944e450dea6555806c80f22c1", func := "hogget/hoggetlaw16.ValidRules", spec := "validRules", inPlace := ["internal/bytealg.IndexByteString", "internal/bytealg.IndexString", "internal/abi.NoEscape", "internal/bytealg.MakeNoZero", "internal/bytealg.CountString"], unfollowed := true, recurses := true, named := ["unicode/utf8.first", "unicode/utf8.acceptRanges", "internal/bytealg.MaxLen", "strconv.ErrSyntax", "strconv.ErrRange", "internal/strconv.uint64pow10", "math/bits.deBruijn32tab", "math/bits.deBruijn64tab", "hogget/span.signs"], plainKeys := false, apart := false, laid := [("math/bits.deBruijn32tab", laid_math_bits_deBruijn32tab), ("math/bits.deBruijn64tab", laid_math_bits_deBruijn64tab), ("internal/strconv.uint64pow10", laid_internal_strconv_uint64pow10), ("unicode/utf8.acceptRanges", laid_unicode_utf8_acceptRanges), ("strconv.ErrRange", laid_strconv_ErrRange), ("strconv.ErrSyntax", laid_strconv_ErrSyntax), ("hogget/span.signs", laid_hogget_span_signs), ("unicode/utf8.first", laid_unicode_utf8_first)], narrowed := true }
def ValidRulesUptoSaid : Prop := validRulesUptoRow.holds Tryz.pinned (OpenSpec.upto validRulesSpec)

/-- 'hoggetlaw16.ValidAlone', WHERE WHAT IT READS IS OF BULK AT MOST 1048576: true; the input reads as it did. -/
def validAloneUptoRow : OpenClaim := { program := "ytgipehooceecpaagreatdoor", sum := "b9c5006baa26e2de8e2b5737e41b4962ea946b2944e450dea6555806c80f22c1", func := "hogget/hoggetlaw16.ValidAlone", spec := "validAlone", inPlace := ["internal/bytealg.IndexByteString", "internal/bytealg.IndexString", "internal/abi.NoEscape", "internal/bytealg.MakeNoZero", "internal/bytealg.CountString"], unfollowed := true, recurses := true, named := ["unicode/utf8.first", "unicode/utf8.acceptRanges", "internal/bytealg.MaxLen", "strconv.ErrSyntax", "strconv.ErrRange", "internal/strconv.uint64pow10", "math/bits.deBruijn32tab", "math/bits.deBruijn64tab", "hogget/span.signs"], plainKeys := false, apart := false, laid := [("math/bits.deBruijn32tab", laid_math_bits_deBruijn32tab), ("math/bits.deBruijn64tab", laid_math_bits_deBruijn64tab), ("internal/strconv.uint64pow10", laid_internal_strconv_uint64pow10), ("unicode/utf8.acceptRanges", laid_unicode_utf8_acceptRanges), ("strconv.ErrRange", laid_strconv_ErrRange), ("strconv.ErrSyntax", laid_strconv_ErrSyntax), ("hogget/span.signs", laid_hogget_span_signs), ("unicode/utf8.first", laid_unicode_utf8_first)], narrowed := true }
def ValidAloneUptoSaid : Prop := validAloneUptoRow.holds Tryz.pinned (OpenSpec.upto validAloneSpec)

/-- 'hoggetlaw19.PruneReaches', WHERE WHAT IT READS IS OF BULK AT MOST 1048576: true; the input reads as it did. -/
def pruneReachesUptoRow : OpenClaim := { program := "ytgipehooceecpaagreatdoor", sum := "b9c5006baa26e2de8e2b5737e41b4962ea946b2944e450dea6555806c80f22c1", func := "hogget/hoggetlaw19.PruneReaches", spec := "pruneReaches", inPlace := ["internal/bytealg.IndexByteString", "internal/bytealg.IndexString", "internal/abi.NoEscape", "internal/bytealg.MakeNoZero", "internal/bytealg.CountString"], unfollowed := true, recurses := true, named := ["unicode/utf8.first", "unicode/utf8.acceptRanges", "internal/bytealg.MaxLen", "strconv.ErrSyntax", "strconv.ErrRange", "internal/strconv.uint64pow10", "math/bits.deBruijn32tab", "math/bits.deBruijn64tab", "hogget/span.signs"], plainKeys := false, apart := false, laid := [("math/bits.deBruijn32tab", laid_math_bits_deBruijn32tab), ("math/bits.deBruijn64tab", laid_math_bits_deBruijn64tab), ("internal/strconv.uint64pow10", laid_internal_strconv_uint64pow10), ("unicode/utf8.acceptRanges", laid_unicode_utf8_acceptRanges), ("strconv.ErrRange", laid_strconv_ErrRange), ("strconv.ErrSyntax", laid_strconv_ErrSyntax), ("hogget/span.signs", laid_hogget_span_signs), ("unicode/utf8.first", laid_unicode_utf8_first)], narrowed := true }
def PruneReachesUptoSaid : Prop := pruneReachesUptoRow.holds Tryz.pinned (OpenSpec.upto pruneReachesSpec)

/-- 'hoggetlaw19.PruneKeeps', WHERE WHAT IT READS IS OF BULK AT MOST 1048576: true; the input reads as it did. -/
def pruneKeepsUptoRow : OpenClaim := { program := "ytgipehooceecpaagreatdoor", sum := "b9c5006baa26e2de8e2b5737e41b4962ea946b2944e450dea6555806c80f22c1", func := "hogget/hoggetlaw19.PruneKeeps", spec := "pruneKeeps", inPlace := ["internal/bytealg.IndexByteString", "internal/bytealg.IndexString", "internal/abi.NoEscape", "internal/bytealg.MakeNoZero", "internal/bytealg.CountString"], unfollowed := true, recurses := true, named := ["unicode/utf8.first", "unicode/utf8.acceptRanges", "internal/bytealg.MaxLen", "strconv.ErrSyntax", "strconv.ErrRange", "internal/strconv.uint64pow10", "math/bits.deBruijn32tab", "math/bits.deBruijn64tab", "hogget/span.signs"], plainKeys := false, apart := false, laid := [("math/bits.deBruijn32tab", laid_math_bits_deBruijn32tab), ("math/bits.deBruijn64tab", laid_math_bits_deBruijn64tab), ("internal/strconv.uint64pow10", laid_internal_strconv_uint64pow10), ("unicode/utf8.acceptRanges", laid_unicode_utf8_acceptRanges), ("strconv.ErrRange", laid_strconv_ErrRange), ("strconv.ErrSyntax", laid_strconv_ErrSyntax), ("hogget/span.signs", laid_hogget_span_signs), ("unicode/utf8.first", laid_unicode_utf8_first)], narrowed := true }
def PruneKeepsUptoSaid : Prop := pruneKeepsUptoRow.holds Tryz.pinned (OpenSpec.upto pruneKeepsSpec)

/-- 'hoggetlaw19.PruneNone', WHERE WHAT IT READS IS OF BULK AT MOST 1048576: true; the input reads as it did. -/
def pruneNoneUptoRow : OpenClaim := { program := "ytgipehooceecpaagreatdoor", sum := "b9c5006baa26e2de8e2b5737e41b4962ea946b2944e450dea6555806c80f22c1", func := "hogget/hoggetlaw19.PruneNone", spec := "pruneNone", inPlace := ["internal/bytealg.IndexByteString", "internal/bytealg.IndexString", "internal/abi.NoEscape", "internal/bytealg.MakeNoZero", "internal/bytealg.CountString"], unfollowed := true, recurses := true, named := ["unicode/utf8.first", "unicode/utf8.acceptRanges", "internal/bytealg.MaxLen", "strconv.ErrSyntax", "strconv.ErrRange", "internal/strconv.uint64pow10", "math/bits.deBruijn32tab", "math/bits.deBruijn64tab", "hogget/span.signs"], plainKeys := false, apart := false, laid := [("math/bits.deBruijn32tab", laid_math_bits_deBruijn32tab), ("math/bits.deBruijn64tab", laid_math_bits_deBruijn64tab), ("internal/strconv.uint64pow10", laid_internal_strconv_uint64pow10), ("unicode/utf8.acceptRanges", laid_unicode_utf8_acceptRanges), ("strconv.ErrRange", laid_strconv_ErrRange), ("strconv.ErrSyntax", laid_strconv_ErrSyntax), ("hogget/span.signs", laid_hogget_span_signs), ("unicode/utf8.first", laid_unicode_utf8_first)], narrowed := true }
def PruneNoneUptoSaid : Prop := pruneNoneUptoRow.holds Tryz.pinned (OpenSpec.upto pruneNoneSpec)

/-- 'hoggetlaw19.PruneAgain', WHERE WHAT IT READS IS OF BULK AT MOST 1048576: true; the input reads as it did. -/
def pruneAgainUptoRow : OpenClaim := { program := "ytgipehooceecpaagreatdoor", sum := "b9c5006baa26e2de8e2b5737e41b4962ea946b2944e450dea6555806c80f22c1", func := "hogget/hoggetlaw19.PruneAgain", spec := "pruneAgain", inPlace := ["internal/bytealg.IndexByteString", "internal/bytealg.IndexString", "internal/abi.NoEscape", "internal/bytealg.MakeNoZero", "internal/bytealg.CountString"], unfollowed := true, recurses := true, named := ["unicode/utf8.first", "unicode/utf8.acceptRanges", "internal/bytealg.MaxLen", "strconv.ErrSyntax", "strconv.ErrRange", "internal/strconv.uint64pow10", "math/bits.deBruijn32tab", "math/bits.deBruijn64tab", "hogget/span.signs"], plainKeys := false, apart := false, laid := [("math/bits.deBruijn32tab", laid_math_bits_deBruijn32tab), ("math/bits.deBruijn64tab", laid_math_bits_deBruijn64tab), ("internal/strconv.uint64pow10", laid_internal_strconv_uint64pow10), ("unicode/utf8.acceptRanges", laid_unicode_utf8_acceptRanges), ("strconv.ErrRange", laid_strconv_ErrRange), ("strconv.ErrSyntax", laid_strconv_ErrSyntax), ("hogget/span.signs", laid_hogget_span_signs), ("unicode/utf8.first", laid_unicode_utf8_first)], narrowed := true }
def PruneAgainUptoSaid : Prop := pruneAgainUptoRow.holds Tryz.pinned (OpenSpec.upto pruneAgainSpec)

/-- 'hoggetlaw20.DedupeAre', WHERE WHAT IT READS IS OF BULK AT MOST 1048576: true; the input reads as it did. -/
def dedupeAreUptoRow : OpenClaim := { program := "ytgipehooceecpaagreatdoor", sum := "b9c5006baa26e2de8e2b5737e41b4962ea946b2944e450dea6555806c80f22c1", func := "hogget/hoggetlaw20.DedupeAre", spec := "dedupeAre", inPlace := ["internal/bytealg.IndexByteString", "internal/bytealg.IndexString", "internal/abi.NoEscape", "internal/bytealg.MakeNoZero", "internal/bytealg.CountString"], unfollowed := true, recurses := true, named := ["unicode/utf8.first", "unicode/utf8.acceptRanges", "internal/bytealg.MaxLen", "strconv.ErrSyntax", "strconv.ErrRange", "internal/strconv.uint64pow10", "math/bits.deBruijn32tab", "math/bits.deBruijn64tab", "hogget/span.signs"], plainKeys := false, apart := false, laid := [("math/bits.deBruijn32tab", laid_math_bits_deBruijn32tab), ("math/bits.deBruijn64tab", laid_math_bits_deBruijn64tab), ("internal/strconv.uint64pow10", laid_internal_strconv_uint64pow10), ("unicode/utf8.acceptRanges", laid_unicode_utf8_acceptRanges), ("strconv.ErrRange", laid_strconv_ErrRange), ("strconv.ErrSyntax", laid_strconv_ErrSyntax), ("hogget/span.signs", laid_hogget_span_signs), ("unicode/utf8.first", laid_unicode_utf8_first)], narrowed := true }
def DedupeAreUptoSaid : Prop := dedupeAreUptoRow.holds Tryz.pinned (OpenSpec.upto dedupeAreSpec)

/-- 'hoggetlaw20.DedupeMakes', WHERE WHAT IT READS IS OF BULK AT MOST 1048576: true; the input reads as it did. -/
def dedupeMakesUptoRow : OpenClaim := { program := "ytgipehooceecpaagreatdoor", sum := "b9c5006baa26e2de8e2b5737e41b4962ea946b2944e450dea6555806c80f22c1", func := "hogget/hoggetlaw20.DedupeMakes", spec := "dedupeMakes", inPlace := ["internal/bytealg.IndexByteString", "internal/bytealg.IndexString", "internal/abi.NoEscape", "internal/bytealg.MakeNoZero", "internal/bytealg.CountString"], unfollowed := true, recurses := true, named := ["unicode/utf8.first", "unicode/utf8.acceptRanges", "internal/bytealg.MaxLen", "strconv.ErrSyntax", "strconv.ErrRange", "internal/strconv.uint64pow10", "math/bits.deBruijn32tab", "math/bits.deBruijn64tab", "hogget/span.signs"], plainKeys := false, apart := false, laid := [("math/bits.deBruijn32tab", laid_math_bits_deBruijn32tab), ("math/bits.deBruijn64tab", laid_math_bits_deBruijn64tab), ("internal/strconv.uint64pow10", laid_internal_strconv_uint64pow10), ("unicode/utf8.acceptRanges", laid_unicode_utf8_acceptRanges), ("strconv.ErrRange", laid_strconv_ErrRange), ("strconv.ErrSyntax", laid_strconv_ErrSyntax), ("hogget/span.signs", laid_hogget_span_signs), ("unicode/utf8.first", laid_unicode_utf8_first)], narrowed := true }
def DedupeMakesUptoSaid : Prop := dedupeMakesUptoRow.holds Tryz.pinned (OpenSpec.upto dedupeMakesSpec)

/-- 'hoggetlaw20.DedupeLeast', WHERE WHAT IT READS IS OF BULK AT MOST 1048576: true; the input reads as it did. -/
def dedupeLeastUptoRow : OpenClaim := { program := "ytgipehooceecpaagreatdoor", sum := "b9c5006baa26e2de8e2b5737e41b4962ea946b2944e450dea6555806c80f22c1", func := "hogget/hoggetlaw20.DedupeLeast", spec := "dedupeLeast", inPlace := ["internal/bytealg.IndexByteString", "internal/bytealg.IndexString", "internal/abi.NoEscape", "internal/bytealg.MakeNoZero", "internal/bytealg.CountString"], unfollowed := true, recurses := true, named := ["unicode/utf8.first", "unicode/utf8.acceptRanges", "internal/bytealg.MaxLen", "strconv.ErrSyntax", "strconv.ErrRange", "internal/strconv.uint64pow10", "math/bits.deBruijn32tab", "math/bits.deBruijn64tab", "hogget/span.signs"], plainKeys := false, apart := false, laid := [("math/bits.deBruijn32tab", laid_math_bits_deBruijn32tab), ("math/bits.deBruijn64tab", laid_math_bits_deBruijn64tab), ("internal/strconv.uint64pow10", laid_internal_strconv_uint64pow10), ("unicode/utf8.acceptRanges", laid_unicode_utf8_acceptRanges), ("strconv.ErrRange", laid_strconv_ErrRange), ("strconv.ErrSyntax", laid_strconv_ErrSyntax), ("hogget/span.signs", laid_hogget_span_signs), ("unicode/utf8.first", laid_unicode_utf8_first)], narrowed := true }
def DedupeLeastUptoSaid : Prop := dedupeLeastUptoRow.holds Tryz.pinned (OpenSpec.upto dedupeLeastSpec)

/-- 'hoggetlaw20.DedupeCuts', WHERE WHAT IT READS IS OF BULK AT MOST 1048576: true; the input reads as it did. -/
def dedupeCutsUptoRow : OpenClaim := { program := "ytgipehooceecpaagreatdoor", sum := "b9c5006baa26e2de8e2b5737e41b4962ea946b2944e450dea6555806c80f22c1", func := "hogget/hoggetlaw20.DedupeCuts", spec := "dedupeCuts", inPlace := ["internal/bytealg.IndexByteString", "internal/bytealg.IndexString", "internal/abi.NoEscape", "internal/bytealg.MakeNoZero", "internal/bytealg.CountString"], unfollowed := true, recurses := true, named := ["unicode/utf8.first", "unicode/utf8.acceptRanges", "internal/bytealg.MaxLen", "strconv.ErrSyntax", "strconv.ErrRange", "internal/strconv.uint64pow10", "math/bits.deBruijn32tab", "math/bits.deBruijn64tab", "hogget/span.signs"], plainKeys := false, apart := false, laid := [("math/bits.deBruijn32tab", laid_math_bits_deBruijn32tab), ("math/bits.deBruijn64tab", laid_math_bits_deBruijn64tab), ("internal/strconv.uint64pow10", laid_internal_strconv_uint64pow10), ("unicode/utf8.acceptRanges", laid_unicode_utf8_acceptRanges), ("strconv.ErrRange", laid_strconv_ErrRange), ("strconv.ErrSyntax", laid_strconv_ErrSyntax), ("hogget/span.signs", laid_hogget_span_signs), ("unicode/utf8.first", laid_unicode_utf8_first)], narrowed := true }
def DedupeCutsUptoSaid : Prop := dedupeCutsUptoRow.holds Tryz.pinned (OpenSpec.upto dedupeCutsSpec)

/-- 'hoggetlaw19.PruneWhole', WHERE WHAT IT READS IS OF BULK AT MOST 1048576: true; the input reads as it did. -/
def pruneWholeUptoRow : OpenClaim := { program := "ytgipehooceecpaagreatdoor", sum := "b9c5006baa26e2de8e2b5737e41b4962ea946b2944e450dea6555806c80f22c1", func := "hogget/hoggetlaw19.PruneWhole", spec := "pruneWhole", inPlace := ["internal/bytealg.IndexByteString", "internal/bytealg.IndexString", "internal/abi.NoEscape", "internal/bytealg.MakeNoZero", "internal/bytealg.CountString"], unfollowed := true, recurses := true, named := ["unicode/utf8.first", "unicode/utf8.acceptRanges", "internal/bytealg.MaxLen", "strconv.ErrSyntax", "strconv.ErrRange", "internal/strconv.uint64pow10", "math/bits.deBruijn32tab", "math/bits.deBruijn64tab", "hogget/span.signs"], plainKeys := false, apart := false, laid := [("math/bits.deBruijn32tab", laid_math_bits_deBruijn32tab), ("math/bits.deBruijn64tab", laid_math_bits_deBruijn64tab), ("internal/strconv.uint64pow10", laid_internal_strconv_uint64pow10), ("unicode/utf8.acceptRanges", laid_unicode_utf8_acceptRanges), ("strconv.ErrRange", laid_strconv_ErrRange), ("strconv.ErrSyntax", laid_strconv_ErrSyntax), ("hogget/span.signs", laid_hogget_span_signs), ("unicode/utf8.first", laid_unicode_utf8_first)], narrowed := true }
def PruneWholeUptoSaid : Prop := pruneWholeUptoRow.holds Tryz.pinned (OpenSpec.upto pruneWholeSpec)

/-- 'hoggetlaw20.DedupeLifts', WHERE WHAT IT READS IS OF BULK AT MOST 1048576: true; the input reads as it did. -/
def dedupeLiftsUptoRow : OpenClaim := { program := "ytgipehooceecpaagreatdoor", sum := "b9c5006baa26e2de8e2b5737e41b4962ea946b2944e450dea6555806c80f22c1", func := "hogget/hoggetlaw20.DedupeLifts", spec := "dedupeLifts", inPlace := ["internal/bytealg.IndexByteString", "internal/bytealg.IndexString", "internal/abi.NoEscape", "internal/bytealg.MakeNoZero", "internal/bytealg.CountString"], unfollowed := true, recurses := true, named := ["unicode/utf8.first", "unicode/utf8.acceptRanges", "internal/bytealg.MaxLen", "strconv.ErrSyntax", "strconv.ErrRange", "internal/strconv.uint64pow10", "math/bits.deBruijn32tab", "math/bits.deBruijn64tab", "hogget/span.signs"], plainKeys := false, apart := false, laid := [("math/bits.deBruijn32tab", laid_math_bits_deBruijn32tab), ("math/bits.deBruijn64tab", laid_math_bits_deBruijn64tab), ("internal/strconv.uint64pow10", laid_internal_strconv_uint64pow10), ("unicode/utf8.acceptRanges", laid_unicode_utf8_acceptRanges), ("strconv.ErrRange", laid_strconv_ErrRange), ("strconv.ErrSyntax", laid_strconv_ErrSyntax), ("hogget/span.signs", laid_hogget_span_signs), ("unicode/utf8.first", laid_unicode_utf8_first)], narrowed := true }
def DedupeLiftsUptoSaid : Prop := dedupeLiftsUptoRow.holds Tryz.pinned (OpenSpec.upto dedupeLiftsSpec)

/-- 'hoggetlaw19.PruneLeads', WHERE WHAT IT READS IS OF BULK AT MOST 1048576: true; the input reads as it did. -/
def pruneLeadsUptoRow : OpenClaim := { program := "ytgipehooceecpaagreatdoor", sum := "b9c5006baa26e2de8e2b5737e41b4962ea946b2944e450dea6555806c80f22c1", func := "hogget/hoggetlaw19.PruneLeads", spec := "pruneLeads", inPlace := ["internal/bytealg.IndexByteString", "internal/bytealg.IndexString", "internal/abi.NoEscape", "internal/bytealg.MakeNoZero", "internal/bytealg.CountString"], unfollowed := true, recurses := true, named := ["unicode/utf8.first", "unicode/utf8.acceptRanges", "internal/bytealg.MaxLen", "strconv.ErrSyntax", "strconv.ErrRange", "internal/strconv.uint64pow10", "math/bits.deBruijn32tab", "math/bits.deBruijn64tab", "hogget/span.signs"], plainKeys := false, apart := false, laid := [("math/bits.deBruijn32tab", laid_math_bits_deBruijn32tab), ("math/bits.deBruijn64tab", laid_math_bits_deBruijn64tab), ("internal/strconv.uint64pow10", laid_internal_strconv_uint64pow10), ("unicode/utf8.acceptRanges", laid_unicode_utf8_acceptRanges), ("strconv.ErrRange", laid_strconv_ErrRange), ("strconv.ErrSyntax", laid_strconv_ErrSyntax), ("hogget/span.signs", laid_hogget_span_signs), ("unicode/utf8.first", laid_unicode_utf8_first)], narrowed := true }
def PruneLeadsUptoSaid : Prop := pruneLeadsUptoRow.holds Tryz.pinned (OpenSpec.upto pruneLeadsSpec)

end Rows
end Go.Proofs.YtgipehooceecpaaGreatDoor
