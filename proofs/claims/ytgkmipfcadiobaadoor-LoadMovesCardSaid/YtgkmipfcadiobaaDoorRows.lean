/-
  NARROWER THAN 'FOR EVERY INPUT', by the rows' own cells (each row's printed sentence says how): LoadTells: laid · LoadMoves: laid · LoadLess: laid · LoadSettles: laid · LoadEven: laid · LoadChoice: laid · MaskBack: laid · MaskUps: laid · MaskPairs: laid · MaskReads: laid · MaskRanks: laid · MaskMoves: laid · MaskTells: laid.
  DERIVED. THE GIVEN ROWS OF THIS SEAT. 13 by the template 'for every input the law returns true; each argument reads behind the call as it read before'; 0 by the template 'total and deterministic' (their statements: YtgkmipfcadiobaaDoorTotals.lean).
  GIVEN WITH THE SEED: the statements are not yours to turn. If you find one false, say at which input.
  Laid BY PROGRAM, IN A SANDBOX (cutbox-rows.mjs): the forced cells as the released guide's own fill.sh prints them over the translation f0236b866f7cdb8f… (all of the seat's roots in one cut). By AI agents, Wed Nov 11 2026. No macro, syntax, notation, axiom, sorry.
-/
import Derived.Test.YtgkmipfcadiobaaDoorChecked
import GoSem.PinnedTables
import GoSem.Claim
import GoSem.ClaimJoined
import GoSem.ClaimMapViews
import Derived.JoinedTies
import Derived.KernelRfl
namespace Go.Proofs.YtgkmipfcadiobaaDoor
/- THE CELL 'sum', in the pinned program and in every row, IS THE sha256 OF THE DUMP (.gsa) THAT YtgkmipfcadiobaaDoorProg.lean LOADS. Nothing in Lean hashes anything: it is a label: what it is worth is what the hold of that sum in a sandbox is worth. -/
noncomputable def Tryd.pinned : Pinned := { name := "ytgkmipfcadiobaadoor", sum := "f0236b866f7cdb8f02dfbb3a9e84e7c6fe6907eed7536b44aff86c10db8d4761", checked := Tryd.checked }
namespace Rows
def none {H : Type} : Left H := { results := [], args := [] }

/- WHAT THE LISTED PACKAGE-LEVEL VARIABLES READ AS WHEN THE CALL BEGINS. Each datum BY PROGRAM (the guide's laid-datum.mjs) off the statement by which the dump's own 'gosem.cut.vars' lays the variable. In a bare row this is a premise. The card (YtgkmipfcadiobaaDoorCards.lean) ties it to the program's text. -/
def laid_math_bits_deBruijn64tab {H : Type} : DataW H := .agg [.lit (.int .u8 0), .lit (.int .u8 1), .lit (.int .u8 56), .lit (.int .u8 2), .lit (.int .u8 57), .lit (.int .u8 49), .lit (.int .u8 28), .lit (.int .u8 3), .lit (.int .u8 61), .lit (.int .u8 58), .lit (.int .u8 42), .lit (.int .u8 50), .lit (.int .u8 38), .lit (.int .u8 29), .lit (.int .u8 17), .lit (.int .u8 4), .lit (.int .u8 62), .lit (.int .u8 47), .lit (.int .u8 59), .lit (.int .u8 36), .lit (.int .u8 45), .lit (.int .u8 43), .lit (.int .u8 51), .lit (.int .u8 22), .lit (.int .u8 53), .lit (.int .u8 39), .lit (.int .u8 33), .lit (.int .u8 30), .lit (.int .u8 24), .lit (.int .u8 18), .lit (.int .u8 12), .lit (.int .u8 5), .lit (.int .u8 63), .lit (.int .u8 55), .lit (.int .u8 48), .lit (.int .u8 27), .lit (.int .u8 60), .lit (.int .u8 41), .lit (.int .u8 37), .lit (.int .u8 16), .lit (.int .u8 46), .lit (.int .u8 35), .lit (.int .u8 44), .lit (.int .u8 21), .lit (.int .u8 52), .lit (.int .u8 32), .lit (.int .u8 23), .lit (.int .u8 11), .lit (.int .u8 54), .lit (.int .u8 26), .lit (.int .u8 40), .lit (.int .u8 15), .lit (.int .u8 34), .lit (.int .u8 20), .lit (.int .u8 31), .lit (.int .u8 10), .lit (.int .u8 25), .lit (.int .u8 14), .lit (.int .u8 19), .lit (.int .u8 9), .lit (.int .u8 13), .lit (.int .u8 8), .lit (.int .u8 7), .lit (.int .u8 6)]
def laid_math_bits_deBruijn32tab {H : Type} : DataW H := .agg [.lit (.int .u8 0), .lit (.int .u8 1), .lit (.int .u8 28), .lit (.int .u8 2), .lit (.int .u8 29), .lit (.int .u8 14), .lit (.int .u8 24), .lit (.int .u8 3), .lit (.int .u8 30), .lit (.int .u8 22), .lit (.int .u8 20), .lit (.int .u8 15), .lit (.int .u8 25), .lit (.int .u8 17), .lit (.int .u8 4), .lit (.int .u8 8), .lit (.int .u8 31), .lit (.int .u8 27), .lit (.int .u8 13), .lit (.int .u8 23), .lit (.int .u8 21), .lit (.int .u8 19), .lit (.int .u8 16), .lit (.int .u8 7), .lit (.int .u8 26), .lit (.int .u8 12), .lit (.int .u8 18), .lit (.int .u8 6), .lit (.int .u8 11), .lit (.int .u8 5), .lit (.int .u8 10), .lit (.int .u8 9)]
def laid_internal_strconv_uint64pow10 {H : Type} : DataW H := .agg [.lit (.int .u64 1), .lit (.int .u64 10), .lit (.int .u64 100), .lit (.int .u64 1000), .lit (.int .u64 10000), .lit (.int .u64 100000), .lit (.int .u64 1000000), .lit (.int .u64 10000000), .lit (.int .u64 100000000), .lit (.int .u64 1000000000), .lit (.int .u64 10000000000), .lit (.int .u64 100000000000), .lit (.int .u64 1000000000000), .lit (.int .u64 10000000000000), .lit (.int .u64 100000000000000), .lit (.int .u64 1000000000000000), .lit (.int .u64 10000000000000000), .lit (.int .u64 100000000000000000), .lit (.int .u64 1000000000000000000), .lit (.int .u64 10000000000000000000)]
def laid_unicode_utf8_acceptRanges {H : Type} : DataW H := .agg [.agg [.lit (.int .u8 128), .lit (.int .u8 191)], .agg [.lit (.int .u8 160), .lit (.int .u8 191)], .agg [.lit (.int .u8 128), .lit (.int .u8 159)], .agg [.lit (.int .u8 144), .lit (.int .u8 191)], .agg [.lit (.int .u8 128), .lit (.int .u8 143)], .agg [.lit (.int .u8 0), .lit (.int .u8 0)], .agg [.lit (.int .u8 0), .lit (.int .u8 0)], .agg [.lit (.int .u8 0), .lit (.int .u8 0)], .agg [.lit (.int .u8 0), .lit (.int .u8 0)], .agg [.lit (.int .u8 0), .lit (.int .u8 0)], .agg [.lit (.int .u8 0), .lit (.int .u8 0)], .agg [.lit (.int .u8 0), .lit (.int .u8 0)], .agg [.lit (.int .u8 0), .lit (.int .u8 0)], .agg [.lit (.int .u8 0), .lit (.int .u8 0)], .agg [.lit (.int .u8 0), .lit (.int .u8 0)], .agg [.lit (.int .u8 0), .lit (.int .u8 0)]]
def laid_strconv_ErrRange {H : Type} : DataW H := .iface "*errors.errorString" (.ptr (.agg [.lit (.string [118, 97, 108, 117, 101, 32, 111, 117, 116, 32, 111, 102, 32, 114, 97, 110, 103, 101])]))
def laid_strconv_ErrSyntax {H : Type} : DataW H := .iface "*errors.errorString" (.ptr (.agg [.lit (.string [105, 110, 118, 97, 108, 105, 100, 32, 115, 121, 110, 116, 97, 120])]))
/-- One of Go's own tables, pinned by name: the form's constant. -/
def laid_unicode_utf8_first : DataW Unit := Go.Pinned.utf8First

/-- 'diapauselaw15.LoadTells': WHATEVER THE INPUT: true; the input reads as it did. -/
def loadTellsSpec : ChangeSpec := { name := "loadTells", fn := fun _ => fun
  | [d1, d2, d3, d4] => { results := [.lit (.bool true)], args := [d1, d2, d3, d4] }
  | _ => none }
def loadTellsRow : OpenClaim := { program := "ytgkmipfcadiobaadoor", sum := "f0236b866f7cdb8f02dfbb3a9e84e7c6fe6907eed7536b44aff86c10db8d4761", func := "diapause/diapauselaw15.LoadTells", spec := "loadTells", unfollowed := true, recurses := true, named := ["math/bits.deBruijn64tab"], apart := false, laid := [("math/bits.deBruijn64tab", laid_math_bits_deBruijn64tab)] }
def LoadTellsSaid : Prop := loadTellsRow.holds Tryd.pinned (OpenSpec.ofChange loadTellsSpec)

/-- ITS FALSE NEIGHBOUR: 'it returns false'. Refute it at one input. -/
def loadTellsWrong : ChangeSpec := { name := "loadTells", fn := fun _ => fun
  | [d1, d2, d3, d4] => { results := [.lit (.bool false)], args := [d1, d2, d3, d4] }
  | _ => none }
def LoadTellsWrongFalsely : Prop := loadTellsRow.holds Tryd.pinned (OpenSpec.ofChange loadTellsWrong)

/-- 'diapauselaw15.LoadMoves': WHATEVER THE INPUT: true; the input reads as it did. -/
def loadMovesSpec : ChangeSpec := { name := "loadMoves", fn := fun _ => fun
  | [d1, d2] => { results := [.lit (.bool true)], args := [d1, d2] }
  | _ => none }
def loadMovesRow : OpenClaim := { program := "ytgkmipfcadiobaadoor", sum := "f0236b866f7cdb8f02dfbb3a9e84e7c6fe6907eed7536b44aff86c10db8d4761", func := "diapause/diapauselaw15.LoadMoves", spec := "loadMoves", unfollowed := true, recurses := true, named := ["math/bits.deBruijn64tab"], apart := false, laid := [("math/bits.deBruijn64tab", laid_math_bits_deBruijn64tab)] }
def LoadMovesSaid : Prop := loadMovesRow.holds Tryd.pinned (OpenSpec.ofChange loadMovesSpec)

/-- ITS FALSE NEIGHBOUR: 'it returns false'. Refute it at one input. -/
def loadMovesWrong : ChangeSpec := { name := "loadMoves", fn := fun _ => fun
  | [d1, d2] => { results := [.lit (.bool false)], args := [d1, d2] }
  | _ => none }
def LoadMovesWrongFalsely : Prop := loadMovesRow.holds Tryd.pinned (OpenSpec.ofChange loadMovesWrong)

/-- 'diapauselaw15.LoadLess': WHATEVER THE INPUT: true; the input reads as it did. -/
def loadLessSpec : ChangeSpec := { name := "loadLess", fn := fun _ => fun
  | [d1, d2] => { results := [.lit (.bool true)], args := [d1, d2] }
  | _ => none }
def loadLessRow : OpenClaim := { program := "ytgkmipfcadiobaadoor", sum := "f0236b866f7cdb8f02dfbb3a9e84e7c6fe6907eed7536b44aff86c10db8d4761", func := "diapause/diapauselaw15.LoadLess", spec := "loadLess", unfollowed := true, recurses := true, named := ["math/bits.deBruijn64tab"], apart := false, laid := [("math/bits.deBruijn64tab", laid_math_bits_deBruijn64tab)] }
def LoadLessSaid : Prop := loadLessRow.holds Tryd.pinned (OpenSpec.ofChange loadLessSpec)

/-- ITS FALSE NEIGHBOUR: 'it returns false'. Refute it at one input. -/
def loadLessWrong : ChangeSpec := { name := "loadLess", fn := fun _ => fun
  | [d1, d2] => { results := [.lit (.bool false)], args := [d1, d2] }
  | _ => none }
def LoadLessWrongFalsely : Prop := loadLessRow.holds Tryd.pinned (OpenSpec.ofChange loadLessWrong)

/-- 'diapauselaw15.LoadSettles': WHATEVER THE INPUT: true; the input reads as it did. -/
def loadSettlesSpec : ChangeSpec := { name := "loadSettles", fn := fun _ => fun
  | [d1, d2] => { results := [.lit (.bool true)], args := [d1, d2] }
  | _ => none }
def loadSettlesRow : OpenClaim := { program := "ytgkmipfcadiobaadoor", sum := "f0236b866f7cdb8f02dfbb3a9e84e7c6fe6907eed7536b44aff86c10db8d4761", func := "diapause/diapauselaw15.LoadSettles", spec := "loadSettles", unfollowed := true, recurses := true, named := ["math/bits.deBruijn64tab"], apart := false, laid := [("math/bits.deBruijn64tab", laid_math_bits_deBruijn64tab)] }
def LoadSettlesSaid : Prop := loadSettlesRow.holds Tryd.pinned (OpenSpec.ofChange loadSettlesSpec)

/-- ITS FALSE NEIGHBOUR: 'it returns false'. Refute it at one input. -/
def loadSettlesWrong : ChangeSpec := { name := "loadSettles", fn := fun _ => fun
  | [d1, d2] => { results := [.lit (.bool false)], args := [d1, d2] }
  | _ => none }
def LoadSettlesWrongFalsely : Prop := loadSettlesRow.holds Tryd.pinned (OpenSpec.ofChange loadSettlesWrong)

/-- 'diapauselaw15.LoadEven': WHATEVER THE INPUT: true; the input reads as it did. -/
def loadEvenSpec : ChangeSpec := { name := "loadEven", fn := fun _ => fun
  | [d1, d2] => { results := [.lit (.bool true)], args := [d1, d2] }
  | _ => none }
def loadEvenRow : OpenClaim := { program := "ytgkmipfcadiobaadoor", sum := "f0236b866f7cdb8f02dfbb3a9e84e7c6fe6907eed7536b44aff86c10db8d4761", func := "diapause/diapauselaw15.LoadEven", spec := "loadEven", unfollowed := true, recurses := true, named := ["math/bits.deBruijn64tab"], apart := false, laid := [("math/bits.deBruijn64tab", laid_math_bits_deBruijn64tab)] }
def LoadEvenSaid : Prop := loadEvenRow.holds Tryd.pinned (OpenSpec.ofChange loadEvenSpec)

/-- ITS FALSE NEIGHBOUR: 'it returns false'. Refute it at one input. -/
def loadEvenWrong : ChangeSpec := { name := "loadEven", fn := fun _ => fun
  | [d1, d2] => { results := [.lit (.bool false)], args := [d1, d2] }
  | _ => none }
def LoadEvenWrongFalsely : Prop := loadEvenRow.holds Tryd.pinned (OpenSpec.ofChange loadEvenWrong)

/-- 'diapauselaw15.LoadChoice': WHATEVER THE INPUT: true; the input reads as it did. -/
def loadChoiceSpec : ChangeSpec := { name := "loadChoice", fn := fun _ => fun
  | [d1, d2] => { results := [.lit (.bool true)], args := [d1, d2] }
  | _ => none }
def loadChoiceRow : OpenClaim := { program := "ytgkmipfcadiobaadoor", sum := "f0236b866f7cdb8f02dfbb3a9e84e7c6fe6907eed7536b44aff86c10db8d4761", func := "diapause/diapauselaw15.LoadChoice", spec := "loadChoice", unfollowed := true, recurses := true, named := ["math/bits.deBruijn64tab"], apart := false, laid := [("math/bits.deBruijn64tab", laid_math_bits_deBruijn64tab)] }
def LoadChoiceSaid : Prop := loadChoiceRow.holds Tryd.pinned (OpenSpec.ofChange loadChoiceSpec)

/-- ITS FALSE NEIGHBOUR: 'it returns false'. Refute it at one input. -/
def loadChoiceWrong : ChangeSpec := { name := "loadChoice", fn := fun _ => fun
  | [d1, d2] => { results := [.lit (.bool false)], args := [d1, d2] }
  | _ => none }
def LoadChoiceWrongFalsely : Prop := loadChoiceRow.holds Tryd.pinned (OpenSpec.ofChange loadChoiceWrong)

/-- 'diapauselaw03.MaskBack': WHATEVER THE INPUT: true; the input reads as it did. -/
def maskBackSpec : ChangeSpec := { name := "maskBack", fn := fun _ => fun
  | [d1, d2] => { results := [.lit (.bool true)], args := [d1, d2] }
  | _ => none }
def maskBackRow : OpenClaim := { program := "ytgkmipfcadiobaadoor", sum := "f0236b866f7cdb8f02dfbb3a9e84e7c6fe6907eed7536b44aff86c10db8d4761", func := "diapause/diapauselaw03.MaskBack", spec := "maskBack", inPlace := ["internal/bytealg.CountString", "internal/bytealg.IndexByteString", "internal/bytealg.IndexString", "internal/abi.NoEscape", "internal/bytealg.MakeNoZero"], unfollowed := true, recurses := true, named := ["unicode/utf8.first", "unicode/utf8.acceptRanges", "internal/bytealg.MaxLen", "strconv.ErrSyntax", "strconv.ErrRange", "internal/strconv.uint64pow10", "math/bits.deBruijn32tab", "math/bits.deBruijn64tab"], apart := false, laid := [("math/bits.deBruijn32tab", laid_math_bits_deBruijn32tab), ("math/bits.deBruijn64tab", laid_math_bits_deBruijn64tab), ("internal/strconv.uint64pow10", laid_internal_strconv_uint64pow10), ("unicode/utf8.acceptRanges", laid_unicode_utf8_acceptRanges), ("strconv.ErrRange", laid_strconv_ErrRange), ("strconv.ErrSyntax", laid_strconv_ErrSyntax), ("unicode/utf8.first", laid_unicode_utf8_first)] }
def MaskBackSaid : Prop := maskBackRow.holds Tryd.pinned (OpenSpec.ofChange maskBackSpec)

/-- ITS FALSE NEIGHBOUR: 'it returns false'. Refute it at one input. -/
def maskBackWrong : ChangeSpec := { name := "maskBack", fn := fun _ => fun
  | [d1, d2] => { results := [.lit (.bool false)], args := [d1, d2] }
  | _ => none }
def MaskBackWrongFalsely : Prop := maskBackRow.holds Tryd.pinned (OpenSpec.ofChange maskBackWrong)

/-- 'diapauselaw03.MaskUps': WHATEVER THE INPUT: true; the input reads as it did. -/
def maskUpsSpec : ChangeSpec := { name := "maskUps", fn := fun _ => fun
  | [d1, d2] => { results := [.lit (.bool true)], args := [d1, d2] }
  | _ => none }
def maskUpsRow : OpenClaim := { program := "ytgkmipfcadiobaadoor", sum := "f0236b866f7cdb8f02dfbb3a9e84e7c6fe6907eed7536b44aff86c10db8d4761", func := "diapause/diapauselaw03.MaskUps", spec := "maskUps", inPlace := ["internal/bytealg.CountString", "internal/bytealg.IndexByteString", "internal/bytealg.IndexString", "internal/abi.NoEscape", "internal/bytealg.MakeNoZero"], unfollowed := true, recurses := true, named := ["unicode/utf8.first", "unicode/utf8.acceptRanges", "internal/bytealg.MaxLen", "strconv.ErrSyntax", "strconv.ErrRange", "internal/strconv.uint64pow10", "math/bits.deBruijn32tab", "math/bits.deBruijn64tab"], apart := false, laid := [("math/bits.deBruijn32tab", laid_math_bits_deBruijn32tab), ("math/bits.deBruijn64tab", laid_math_bits_deBruijn64tab), ("internal/strconv.uint64pow10", laid_internal_strconv_uint64pow10), ("unicode/utf8.acceptRanges", laid_unicode_utf8_acceptRanges), ("strconv.ErrRange", laid_strconv_ErrRange), ("strconv.ErrSyntax", laid_strconv_ErrSyntax), ("unicode/utf8.first", laid_unicode_utf8_first)] }
def MaskUpsSaid : Prop := maskUpsRow.holds Tryd.pinned (OpenSpec.ofChange maskUpsSpec)

/-- ITS FALSE NEIGHBOUR: 'it returns false'. Refute it at one input. -/
def maskUpsWrong : ChangeSpec := { name := "maskUps", fn := fun _ => fun
  | [d1, d2] => { results := [.lit (.bool false)], args := [d1, d2] }
  | _ => none }
def MaskUpsWrongFalsely : Prop := maskUpsRow.holds Tryd.pinned (OpenSpec.ofChange maskUpsWrong)

/-- 'diapauselaw03.MaskPairs': WHATEVER THE INPUT: true; the input reads as it did. -/
def maskPairsSpec : ChangeSpec := { name := "maskPairs", fn := fun _ => fun
  | [d1, d2, d3] => { results := [.lit (.bool true)], args := [d1, d2, d3] }
  | _ => none }
def maskPairsRow : OpenClaim := { program := "ytgkmipfcadiobaadoor", sum := "f0236b866f7cdb8f02dfbb3a9e84e7c6fe6907eed7536b44aff86c10db8d4761", func := "diapause/diapauselaw03.MaskPairs", spec := "maskPairs", inPlace := ["internal/bytealg.CountString", "internal/bytealg.IndexByteString", "internal/bytealg.IndexString", "internal/abi.NoEscape", "internal/bytealg.MakeNoZero"], unfollowed := true, recurses := true, named := ["unicode/utf8.first", "unicode/utf8.acceptRanges", "internal/bytealg.MaxLen", "strconv.ErrSyntax", "strconv.ErrRange", "internal/strconv.uint64pow10", "math/bits.deBruijn32tab", "math/bits.deBruijn64tab"], apart := false, laid := [("math/bits.deBruijn32tab", laid_math_bits_deBruijn32tab), ("math/bits.deBruijn64tab", laid_math_bits_deBruijn64tab), ("internal/strconv.uint64pow10", laid_internal_strconv_uint64pow10), ("unicode/utf8.acceptRanges", laid_unicode_utf8_acceptRanges), ("strconv.ErrRange", laid_strconv_ErrRange), ("strconv.ErrSyntax", laid_strconv_ErrSyntax), ("unicode/utf8.first", laid_unicode_utf8_first)] }
def MaskPairsSaid : Prop := maskPairsRow.holds Tryd.pinned (OpenSpec.ofChange maskPairsSpec)

/-- ITS FALSE NEIGHBOUR: 'it returns false'. Refute it at one input. -/
def maskPairsWrong : ChangeSpec := { name := "maskPairs", fn := fun _ => fun
  | [d1, d2, d3] => { results := [.lit (.bool false)], args := [d1, d2, d3] }
  | _ => none }
def MaskPairsWrongFalsely : Prop := maskPairsRow.holds Tryd.pinned (OpenSpec.ofChange maskPairsWrong)

/-- 'diapauselaw03.MaskReads': WHATEVER THE INPUT: true; the input reads as it did. -/
def maskReadsSpec : ChangeSpec := { name := "maskReads", fn := fun _ => fun
  | [d1, d2, d3, d4] => { results := [.lit (.bool true)], args := [d1, d2, d3, d4] }
  | _ => none }
def maskReadsRow : OpenClaim := { program := "ytgkmipfcadiobaadoor", sum := "f0236b866f7cdb8f02dfbb3a9e84e7c6fe6907eed7536b44aff86c10db8d4761", func := "diapause/diapauselaw03.MaskReads", spec := "maskReads", inPlace := ["internal/bytealg.CountString", "internal/bytealg.IndexByteString", "internal/bytealg.IndexString", "internal/abi.NoEscape", "internal/bytealg.MakeNoZero"], unfollowed := true, recurses := true, named := ["unicode/utf8.first", "unicode/utf8.acceptRanges", "internal/bytealg.MaxLen", "strconv.ErrSyntax", "strconv.ErrRange", "internal/strconv.uint64pow10", "math/bits.deBruijn32tab", "math/bits.deBruijn64tab"], apart := false, laid := [("math/bits.deBruijn32tab", laid_math_bits_deBruijn32tab), ("math/bits.deBruijn64tab", laid_math_bits_deBruijn64tab), ("internal/strconv.uint64pow10", laid_internal_strconv_uint64pow10), ("unicode/utf8.acceptRanges", laid_unicode_utf8_acceptRanges), ("strconv.ErrRange", laid_strconv_ErrRange), ("strconv.ErrSyntax", laid_strconv_ErrSyntax), ("unicode/utf8.first", laid_unicode_utf8_first)] }
def MaskReadsSaid : Prop := maskReadsRow.holds Tryd.pinned (OpenSpec.ofChange maskReadsSpec)

/-- ITS FALSE NEIGHBOUR: 'it returns false'. Refute it at one input. -/
def maskReadsWrong : ChangeSpec := { name := "maskReads", fn := fun _ => fun
  | [d1, d2, d3, d4] => { results := [.lit (.bool false)], args := [d1, d2, d3, d4] }
  | _ => none }
def MaskReadsWrongFalsely : Prop := maskReadsRow.holds Tryd.pinned (OpenSpec.ofChange maskReadsWrong)

/-- 'diapauselaw03.MaskRanks': WHATEVER THE INPUT: true; the input reads as it did. -/
def maskRanksSpec : ChangeSpec := { name := "maskRanks", fn := fun _ => fun
  | [d] => { results := [.lit (.bool true)], args := [d] }
  | _ => none }
def maskRanksRow : OpenClaim := { program := "ytgkmipfcadiobaadoor", sum := "f0236b866f7cdb8f02dfbb3a9e84e7c6fe6907eed7536b44aff86c10db8d4761", func := "diapause/diapauselaw03.MaskRanks", spec := "maskRanks", inPlace := ["internal/bytealg.CountString", "internal/bytealg.IndexByteString", "internal/bytealg.IndexString", "internal/abi.NoEscape", "internal/bytealg.MakeNoZero"], unfollowed := true, recurses := true, named := ["unicode/utf8.first", "unicode/utf8.acceptRanges", "internal/bytealg.MaxLen", "strconv.ErrSyntax", "strconv.ErrRange", "internal/strconv.uint64pow10", "math/bits.deBruijn32tab", "math/bits.deBruijn64tab"], apart := false, laid := [("math/bits.deBruijn32tab", laid_math_bits_deBruijn32tab), ("math/bits.deBruijn64tab", laid_math_bits_deBruijn64tab), ("internal/strconv.uint64pow10", laid_internal_strconv_uint64pow10), ("unicode/utf8.acceptRanges", laid_unicode_utf8_acceptRanges), ("strconv.ErrRange", laid_strconv_ErrRange), ("strconv.ErrSyntax", laid_strconv_ErrSyntax), ("unicode/utf8.first", laid_unicode_utf8_first)] }
def MaskRanksSaid : Prop := maskRanksRow.holds Tryd.pinned (OpenSpec.ofChange maskRanksSpec)

/-- ITS FALSE NEIGHBOUR: 'it returns false'. Refute it at one input. -/
def maskRanksWrong : ChangeSpec := { name := "maskRanks", fn := fun _ => fun
  | [d] => { results := [.lit (.bool false)], args := [d] }
  | _ => none }
def MaskRanksWrongFalsely : Prop := maskRanksRow.holds Tryd.pinned (OpenSpec.ofChange maskRanksWrong)

/-- 'diapauselaw03.MaskMoves': WHATEVER THE INPUT: true; the input reads as it did. -/
def maskMovesSpec : ChangeSpec := { name := "maskMoves", fn := fun _ => fun
  | [d1, d2, d3] => { results := [.lit (.bool true)], args := [d1, d2, d3] }
  | _ => none }
def maskMovesRow : OpenClaim := { program := "ytgkmipfcadiobaadoor", sum := "f0236b866f7cdb8f02dfbb3a9e84e7c6fe6907eed7536b44aff86c10db8d4761", func := "diapause/diapauselaw03.MaskMoves", spec := "maskMoves", inPlace := ["internal/bytealg.CountString", "internal/bytealg.IndexByteString", "internal/bytealg.IndexString", "internal/abi.NoEscape", "internal/bytealg.MakeNoZero"], unfollowed := true, recurses := true, named := ["unicode/utf8.first", "unicode/utf8.acceptRanges", "internal/bytealg.MaxLen", "strconv.ErrSyntax", "strconv.ErrRange", "internal/strconv.uint64pow10", "math/bits.deBruijn32tab", "math/bits.deBruijn64tab"], apart := false, laid := [("math/bits.deBruijn32tab", laid_math_bits_deBruijn32tab), ("math/bits.deBruijn64tab", laid_math_bits_deBruijn64tab), ("internal/strconv.uint64pow10", laid_internal_strconv_uint64pow10), ("unicode/utf8.acceptRanges", laid_unicode_utf8_acceptRanges), ("strconv.ErrRange", laid_strconv_ErrRange), ("strconv.ErrSyntax", laid_strconv_ErrSyntax), ("unicode/utf8.first", laid_unicode_utf8_first)] }
def MaskMovesSaid : Prop := maskMovesRow.holds Tryd.pinned (OpenSpec.ofChange maskMovesSpec)

/-- ITS FALSE NEIGHBOUR: 'it returns false'. Refute it at one input. -/
def maskMovesWrong : ChangeSpec := { name := "maskMoves", fn := fun _ => fun
  | [d1, d2, d3] => { results := [.lit (.bool false)], args := [d1, d2, d3] }
  | _ => none }
def MaskMovesWrongFalsely : Prop := maskMovesRow.holds Tryd.pinned (OpenSpec.ofChange maskMovesWrong)

/-- 'diapauselaw03.MaskTells': WHATEVER THE INPUT: true; the input reads as it did. -/
def maskTellsSpec : ChangeSpec := { name := "maskTells", fn := fun _ => fun
  | [d1, d2, d3, d4] => { results := [.lit (.bool true)], args := [d1, d2, d3, d4] }
  | _ => none }
def maskTellsRow : OpenClaim := { program := "ytgkmipfcadiobaadoor", sum := "f0236b866f7cdb8f02dfbb3a9e84e7c6fe6907eed7536b44aff86c10db8d4761", func := "diapause/diapauselaw03.MaskTells", spec := "maskTells", inPlace := ["internal/bytealg.CountString", "internal/bytealg.IndexByteString", "internal/bytealg.IndexString", "internal/abi.NoEscape", "internal/bytealg.MakeNoZero"], unfollowed := true, recurses := true, named := ["unicode/utf8.first", "unicode/utf8.acceptRanges", "internal/bytealg.MaxLen", "strconv.ErrSyntax", "strconv.ErrRange", "internal/strconv.uint64pow10", "math/bits.deBruijn32tab", "math/bits.deBruijn64tab"], apart := false, laid := [("math/bits.deBruijn32tab", laid_math_bits_deBruijn32tab), ("math/bits.deBruijn64tab", laid_math_bits_deBruijn64tab), ("internal/strconv.uint64pow10", laid_internal_strconv_uint64pow10), ("unicode/utf8.acceptRanges", laid_unicode_utf8_acceptRanges), ("strconv.ErrRange", laid_strconv_ErrRange), ("strconv.ErrSyntax", laid_strconv_ErrSyntax), ("unicode/utf8.first", laid_unicode_utf8_first)] }
def MaskTellsSaid : Prop := maskTellsRow.holds Tryd.pinned (OpenSpec.ofChange maskTellsSpec)

/-- ITS FALSE NEIGHBOUR: 'it returns false'. Refute it at one input. -/
def maskTellsWrong : ChangeSpec := { name := "maskTells", fn := fun _ => fun
  | [d1, d2, d3, d4] => { results := [.lit (.bool false)], args := [d1, d2, d3, d4] }
  | _ => none }
def MaskTellsWrongFalsely : Prop := maskTellsRow.holds Tryd.pinned (OpenSpec.ofChange maskTellsWrong)

/- THE SECOND FORM. 'bulk': how many values and letters a reading holds, each counted each time it is reached (what is shared counts as often as it is met; a slice's spare places count too). A statement '..UptoSaid' is the law's where the arguments, and the package variables that the reading takes, are together of bulk at most 1048576: NARROWER than '..Said'. Prove '..Said' where nothing that the law and all that it calls make is longer than what came in: it says more and counts as full. Else prove '..UptoSaid'. A law counts once. -/
mutual
def uptoBulk {H : Type} : DataW H → Nat
  | .lit (.string bytes) => bytes.length + 1
  | .lit _ => 1
  | .nil => 1
  | .ptr d => uptoBulk d + 1
  | .slice elems spare => uptoBulkAll elems + uptoBulkAll spare + 1
  | .agg parts => uptoBulkAll parts + 1
  | .iface _ d => uptoBulk d + 1
  | .map entries => uptoBulkEntries entries + 1
  | .held _ => 1
def uptoBulkAll {H : Type} : List (DataW H) → Nat
  | [] => 0
  | d :: r => uptoBulk d + uptoBulkAll r
def uptoBulkEntries {H : Type} : List (Lit × DataW H) → Nat
  | [] => 0
  | x :: r => uptoBulkEntry x + uptoBulkEntries r
def uptoBulkEntry {H : Type} : Lit × DataW H → Nat
  | (.string bytes, d) => bytes.length + uptoBulk d + 1
  | (_, d) => uptoBulk d + 1
 end
def uptoSmall : (H : Type) → List (DataW H) → Bool := fun _ ds => decide (uptoBulkAll ds ≤ 1048576)
def OpenSpec.upto (s : _root_.Go.ChangeSpec) : _root_.Go.OpenSpec := { _root_.Go.OpenSpec.ofChange s with cond := some uptoSmall }

/-- 'diapauselaw15.LoadTells', WHERE WHAT IT READS IS OF BULK AT MOST 1048576: true; the input reads as it did. -/
def loadTellsUptoRow : OpenClaim := { program := "ytgkmipfcadiobaadoor", sum := "f0236b866f7cdb8f02dfbb3a9e84e7c6fe6907eed7536b44aff86c10db8d4761", func := "diapause/diapauselaw15.LoadTells", spec := "loadTells", unfollowed := true, recurses := true, named := ["math/bits.deBruijn64tab"], apart := false, laid := [("math/bits.deBruijn64tab", laid_math_bits_deBruijn64tab)], narrowed := true }
def LoadTellsUptoSaid : Prop := loadTellsUptoRow.holds Tryd.pinned (OpenSpec.upto loadTellsSpec)

/-- 'diapauselaw15.LoadMoves', WHERE WHAT IT READS IS OF BULK AT MOST 1048576: true; the input reads as it did. -/
def loadMovesUptoRow : OpenClaim := { program := "ytgkmipfcadiobaadoor", sum := "f0236b866f7cdb8f02dfbb3a9e84e7c6fe6907eed7536b44aff86c10db8d4761", func := "diapause/diapauselaw15.LoadMoves", spec := "loadMoves", unfollowed := true, recurses := true, named := ["math/bits.deBruijn64tab"], apart := false, laid := [("math/bits.deBruijn64tab", laid_math_bits_deBruijn64tab)], narrowed := true }
def LoadMovesUptoSaid : Prop := loadMovesUptoRow.holds Tryd.pinned (OpenSpec.upto loadMovesSpec)

/-- 'diapauselaw15.LoadLess', WHERE WHAT IT READS IS OF BULK AT MOST 1048576: true; the input reads as it did. -/
def loadLessUptoRow : OpenClaim := { program := "ytgkmipfcadiobaadoor", sum := "f0236b866f7cdb8f02dfbb3a9e84e7c6fe6907eed7536b44aff86c10db8d4761", func := "diapause/diapauselaw15.LoadLess", spec := "loadLess", unfollowed := true, recurses := true, named := ["math/bits.deBruijn64tab"], apart := false, laid := [("math/bits.deBruijn64tab", laid_math_bits_deBruijn64tab)], narrowed := true }
def LoadLessUptoSaid : Prop := loadLessUptoRow.holds Tryd.pinned (OpenSpec.upto loadLessSpec)

/-- 'diapauselaw15.LoadSettles', WHERE WHAT IT READS IS OF BULK AT MOST 1048576: true; the input reads as it did. -/
def loadSettlesUptoRow : OpenClaim := { program := "ytgkmipfcadiobaadoor", sum := "f0236b866f7cdb8f02dfbb3a9e84e7c6fe6907eed7536b44aff86c10db8d4761", func := "diapause/diapauselaw15.LoadSettles", spec := "loadSettles", unfollowed := true, recurses := true, named := ["math/bits.deBruijn64tab"], apart := false, laid := [("math/bits.deBruijn64tab", laid_math_bits_deBruijn64tab)], narrowed := true }
def LoadSettlesUptoSaid : Prop := loadSettlesUptoRow.holds Tryd.pinned (OpenSpec.upto loadSettlesSpec)

/-- 'diapauselaw15.LoadEven', WHERE WHAT IT READS IS OF BULK AT MOST 1048576: true; the input reads as it did. -/
def loadEvenUptoRow : OpenClaim := { program := "ytgkmipfcadiobaadoor", sum := "f0236b866f7cdb8f02dfbb3a9e84e7c6fe6907eed7536b44aff86c10db8d4761", func := "diapause/diapauselaw15.LoadEven", spec := "loadEven", unfollowed := true, recurses := true, named := ["math/bits.deBruijn64tab"], apart := false, laid := [("math/bits.deBruijn64tab", laid_math_bits_deBruijn64tab)], narrowed := true }
def LoadEvenUptoSaid : Prop := loadEvenUptoRow.holds Tryd.pinned (OpenSpec.upto loadEvenSpec)

/-- 'diapauselaw15.LoadChoice', WHERE WHAT IT READS IS OF BULK AT MOST 1048576: true; the input reads as it did. -/
def loadChoiceUptoRow : OpenClaim := { program := "ytgkmipfcadiobaadoor", sum := "f0236b866f7cdb8f02dfbb3a9e84e7c6fe6907eed7536b44aff86c10db8d4761", func := "diapause/diapauselaw15.LoadChoice", spec := "loadChoice", unfollowed := true, recurses := true, named := ["math/bits.deBruijn64tab"], apart := false, laid := [("math/bits.deBruijn64tab", laid_math_bits_deBruijn64tab)], narrowed := true }
def LoadChoiceUptoSaid : Prop := loadChoiceUptoRow.holds Tryd.pinned (OpenSpec.upto loadChoiceSpec)

/-- 'diapauselaw03.MaskBack', WHERE WHAT IT READS IS OF BULK AT MOST 1048576: true; the input reads as it did. -/
def maskBackUptoRow : OpenClaim := { program := "ytgkmipfcadiobaadoor", sum := "f0236b866f7cdb8f02dfbb3a9e84e7c6fe6907eed7536b44aff86c10db8d4761", func := "diapause/diapauselaw03.MaskBack", spec := "maskBack", inPlace := ["internal/bytealg.CountString", "internal/bytealg.IndexByteString", "internal/bytealg.IndexString", "internal/abi.NoEscape", "internal/bytealg.MakeNoZero"], unfollowed := true, recurses := true, named := ["unicode/utf8.first", "unicode/utf8.acceptRanges", "internal/bytealg.MaxLen", "strconv.ErrSyntax", "strconv.ErrRange", "internal/strconv.uint64pow10", "math/bits.deBruijn32tab", "math/bits.deBruijn64tab"], apart := false, laid := [("math/bits.deBruijn32tab", laid_math_bits_deBruijn32tab), ("math/bits.deBruijn64tab", laid_math_bits_deBruijn64tab), ("internal/strconv.uint64pow10", laid_internal_strconv_uint64pow10), ("unicode/utf8.acceptRanges", laid_unicode_utf8_acceptRanges), ("strconv.ErrRange", laid_strconv_ErrRange), ("strconv.ErrSyntax", laid_strconv_ErrSyntax), ("unicode/utf8.first", laid_unicode_utf8_first)], narrowed := true }
def MaskBackUptoSaid : Prop := maskBackUptoRow.holds Tryd.pinned (OpenSpec.upto maskBackSpec)

/-- 'diapauselaw03.MaskUps', WHERE WHAT IT READS IS OF BULK AT MOST 1048576: true; the input reads as it did. -/
def maskUpsUptoRow : OpenClaim := { program := "ytgkmipfcadiobaadoor", sum := "f0236b866f7cdb8f02dfbb3a9e84e7c6fe6907eed7536b44aff86c10db8d4761", func := "diapause/diapauselaw03.MaskUps", spec := "maskUps", inPlace := ["internal/bytealg.CountString", "internal/bytealg.IndexByteString", "internal/bytealg.IndexString", "internal/abi.NoEscape", "internal/bytealg.MakeNoZero"], unfollowed := true, recurses := true, named := ["unicode/utf8.first", "unicode/utf8.acceptRanges", "internal/bytealg.MaxLen", "strconv.ErrSyntax", "strconv.ErrRange", "internal/strconv.uint64pow10", "math/bits.deBruijn32tab", "math/bits.deBruijn64tab"], apart := false, laid := [("math/bits.deBruijn32tab", laid_math_bits_deBruijn32tab), ("math/bits.deBruijn64tab", laid_math_bits_deBruijn64tab), ("internal/strconv.uint64pow10", laid_internal_strconv_uint64pow10), ("unicode/utf8.acceptRanges", laid_unicode_utf8_acceptRanges), ("strconv.ErrRange", laid_strconv_ErrRange), ("strconv.ErrSyntax", laid_strconv_ErrSyntax), ("unicode/utf8.first", laid_unicode_utf8_first)], narrowed := true }
def MaskUpsUptoSaid : Prop := maskUpsUptoRow.holds Tryd.pinned (OpenSpec.upto maskUpsSpec)

/-- 'diapauselaw03.MaskPairs', WHERE WHAT IT READS IS OF BULK AT MOST 1048576: true; the input reads as it did. -/
def maskPairsUptoRow : OpenClaim := { program := "ytgkmipfcadiobaadoor", sum := "f0236b866f7cdb8f02dfbb3a9e84e7c6fe6907eed7536b44aff86c10db8d4761", func := "diapause/diapauselaw03.MaskPairs", spec := "maskPairs", inPlace := ["internal/bytealg.CountString", "internal/bytealg.IndexByteString", "internal/bytealg.IndexString", "internal/abi.NoEscape", "internal/bytealg.MakeNoZero"], unfollowed := true, recurses := true, named := ["unicode/utf8.first", "unicode/utf8.acceptRanges", "internal/bytealg.MaxLen", "strconv.ErrSyntax", "strconv.ErrRange", "internal/strconv.uint64pow10", "math/bits.deBruijn32tab", "math/bits.deBruijn64tab"], apart := false, laid := [("math/bits.deBruijn32tab", laid_math_bits_deBruijn32tab), ("math/bits.deBruijn64tab", laid_math_bits_deBruijn64tab), ("internal/strconv.uint64pow10", laid_internal_strconv_uint64pow10), ("unicode/utf8.acceptRanges", laid_unicode_utf8_acceptRanges), ("strconv.ErrRange", laid_strconv_ErrRange), ("strconv.ErrSyntax", laid_strconv_ErrSyntax), ("unicode/utf8.first", laid_unicode_utf8_first)], narrowed := true }
def MaskPairsUptoSaid : Prop := maskPairsUptoRow.holds Tryd.pinned (OpenSpec.upto maskPairsSpec)

/-- 'diapauselaw03.MaskReads', WHERE WHAT IT READS IS OF BULK AT MOST 1048576: true; the input reads as it did. -/
def maskReadsUptoRow : OpenClaim := { program := "ytgkmipfcadiobaadoor", sum := "f0236b866f7cdb8f02dfbb3a9e84e7c6fe6907eed7536b44aff86c10db8d4761", func := "diapause/diapauselaw03.MaskReads", spec := "maskReads", inPlace := ["internal/bytealg.CountString", "internal/bytealg.IndexByteString", "internal/bytealg.IndexString", "internal/abi.NoEscape", "internal/bytealg.MakeNoZero"], unfollowed := true, recurses := true, named := ["unicode/utf8.first", "unicode/utf8.acceptRanges", "internal/bytealg.MaxLen", "strconv.ErrSyntax", "strconv.ErrRange", "internal/strconv.uint64pow10", "math/bits.deBruijn32tab", "math/bits.deBruijn64tab"], apart := false, laid := [("math/bits.deBruijn32tab", laid_math_bits_deBruijn32tab), ("math/bits.deBruijn64tab", laid_math_bits_deBruijn64tab), ("internal/strconv.uint64pow10", laid_internal_strconv_uint64pow10), ("unicode/utf8.acceptRanges", laid_unicode_utf8_acceptRanges), ("strconv.ErrRange", laid_strconv_ErrRange), ("strconv.ErrSyntax", laid_strconv_ErrSyntax), ("unicode/utf8.first", laid_unicode_utf8_first)], narrowed := true }
def MaskReadsUptoSaid : Prop := maskReadsUptoRow.holds Tryd.pinned (OpenSpec.upto maskReadsSpec)

/-- 'diapauselaw03.MaskRanks', WHERE WHAT IT READS IS OF BULK AT MOST 1048576: true; the input reads as it did. -/
def maskRanksUptoRow : OpenClaim := { program := "ytgkmipfcadiobaadoor", sum := "f0236b866f7cdb8f02dfbb3a9e84e7c6fe6907eed7536b44aff86c10db8d4761", func := "diapause/diapauselaw03.MaskRanks", spec := "maskRanks", inPlace := ["internal/bytealg.CountString", "internal/bytealg.IndexByteString", "internal/bytealg.IndexString", "internal/abi.NoEscape", "internal/bytealg.MakeNoZero"], unfollowed := true, recurses := true, named := ["unicode/utf8.first", "unicode/utf8.acceptRanges", "internal/bytealg.MaxLen", "strconv.ErrSyntax", "strconv.ErrRange", "internal/strconv.uint64pow10", "math/bits.deBruijn32tab", "math/bits.deBruijn64tab"], apart := false, laid := [("math/bits.deBruijn32tab", laid_math_bits_deBruijn32tab), ("math/bits.deBruijn64tab", laid_math_bits_deBruijn64tab), ("internal/strconv.uint64pow10", laid_internal_strconv_uint64pow10), ("unicode/utf8.acceptRanges", laid_unicode_utf8_acceptRanges), ("strconv.ErrRange", laid_strconv_ErrRange), ("strconv.ErrSyntax", laid_strconv_ErrSyntax), ("unicode/utf8.first", laid_unicode_utf8_first)], narrowed := true }
def MaskRanksUptoSaid : Prop := maskRanksUptoRow.holds Tryd.pinned (OpenSpec.upto maskRanksSpec)

/-- 'diapauselaw03.MaskMoves', WHERE WHAT IT READS IS OF BULK AT MOST 1048576: true; the input reads as it did. -/
def maskMovesUptoRow : OpenClaim := { program := "ytgkmipfcadiobaadoor", sum := "f0236b866f7cdb8f02dfbb3a9e84e7c6fe6907eed7536b44aff86c10db8d4761", func := "diapause/diapauselaw03.MaskMoves", spec := "maskMoves", inPlace := ["internal/bytealg.CountString", "internal/bytealg.IndexByteString", "internal/bytealg.IndexString", "internal/abi.NoEscape", "internal/bytealg.MakeNoZero"], unfollowed := true, recurses := true, named := ["unicode/utf8.first", "unicode/utf8.acceptRanges", "internal/bytealg.MaxLen", "strconv.ErrSyntax", "strconv.ErrRange", "internal/strconv.uint64pow10", "math/bits.deBruijn32tab", "math/bits.deBruijn64tab"], apart := false, laid := [("math/bits.deBruijn32tab", laid_math_bits_deBruijn32tab), ("math/bits.deBruijn64tab", laid_math_bits_deBruijn64tab), ("internal/strconv.uint64pow10", laid_internal_strconv_uint64pow10), ("unicode/utf8.acceptRanges", laid_unicode_utf8_acceptRanges), ("strconv.ErrRange", laid_strconv_ErrRange), ("strconv.ErrSyntax", laid_strconv_ErrSyntax), ("unicode/utf8.first", laid_unicode_utf8_first)], narrowed := true }
def MaskMovesUptoSaid : Prop := maskMovesUptoRow.holds Tryd.pinned (OpenSpec.upto maskMovesSpec)

/-- 'diapauselaw03.MaskTells', WHERE WHAT IT READS IS OF BULK AT MOST 1048576: true; the input reads as it did. -/
def maskTellsUptoRow : OpenClaim := { program := "ytgkmipfcadiobaadoor", sum := "f0236b866f7cdb8f02dfbb3a9e84e7c6fe6907eed7536b44aff86c10db8d4761", func := "diapause/diapauselaw03.MaskTells", spec := "maskTells", inPlace := ["internal/bytealg.CountString", "internal/bytealg.IndexByteString", "internal/bytealg.IndexString", "internal/abi.NoEscape", "internal/bytealg.MakeNoZero"], unfollowed := true, recurses := true, named := ["unicode/utf8.first", "unicode/utf8.acceptRanges", "internal/bytealg.MaxLen", "strconv.ErrSyntax", "strconv.ErrRange", "internal/strconv.uint64pow10", "math/bits.deBruijn32tab", "math/bits.deBruijn64tab"], apart := false, laid := [("math/bits.deBruijn32tab", laid_math_bits_deBruijn32tab), ("math/bits.deBruijn64tab", laid_math_bits_deBruijn64tab), ("internal/strconv.uint64pow10", laid_internal_strconv_uint64pow10), ("unicode/utf8.acceptRanges", laid_unicode_utf8_acceptRanges), ("strconv.ErrRange", laid_strconv_ErrRange), ("strconv.ErrSyntax", laid_strconv_ErrSyntax), ("unicode/utf8.first", laid_unicode_utf8_first)], narrowed := true }
def MaskTellsUptoSaid : Prop := maskTellsUptoRow.holds Tryd.pinned (OpenSpec.upto maskTellsSpec)

end Rows
end Go.Proofs.YtgkmipfcadiobaaDoor
