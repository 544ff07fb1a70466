/-
  NARROWER THAN 'FOR EVERY INPUT', by the rows' own cells (each row's printed sentence says how): NnfAgain: loops, laid · NnfMeans: loops, laid · PatternsMean: loops, laid · PatternsOthers: loops, laid · TreeRights: loops, laid · TreeTells: loops, laid · TreeOrders: loops, laid · TreeAlls: loops, laid · TreePuts: loops, laid · TreeRenames: loops, laid · TreePaths: loops, laid · TreeBack: loops, laid.
  DERIVED. THE GIVEN ROWS OF THIS SEAT. 12 by the template 'for every input the law returns true; each argument reads behind the call as it read before'; 0 by the template 'total and deterministic' (their statements: YtmmakkaolknbaaaGreatDoorTotals.lean).
  GIVEN WITH THE SEED: the statements are not yours to turn. If you find one false, say at which input.
  Laid BY PROGRAM, IN A SANDBOX (cutbox-rows.mjs): the forced cells as the released guide's own fill.sh prints them over the translation 667432377fac5033… (all of the seat's roots in one cut). By AI agents, Wed Nov 11 2026. No macro, syntax, notation, axiom, sorry.
-/
import Derived.Test.YtmmakkaolknbaaaGreatDoorChecked
import GoSem.PinnedTables
import GoSem.Claim
import GoSem.ClaimJoined
import GoSem.ClaimMapViews
import Derived.JoinedTies
import Derived.KernelRfl
namespace Go.Proofs.YtmmakkaolknbaaaGreatDoor
/- THE CELL 'sum', in the pinned program and in every row, IS THE sha256 OF THE DUMP (.gsa) THAT YtmmakkaolknbaaaGreatDoorProg.lean LOADS. Nothing in Lean hashes anything: it is a label: what it is worth is what the hold of that sum in a sandbox is worth. -/
noncomputable def Tryz.pinned : Pinned := { name := "ytmmakkaolknbaaagreatdoor", sum := "667432377fac5033c9a879138d964b48c9efe493b9179dfe85def62770630809", checked := Tryz.checked }
namespace Rows
def none {H : Type} : Left H := { results := [], args := [] }

/- WHAT THE LISTED PACKAGE-LEVEL VARIABLES READ AS WHEN THE CALL BEGINS. Each datum BY PROGRAM (the guide's laid-datum.mjs) off the statement by which the dump's own 'gosem.cut.vars' lays the variable. In a bare row this is a premise. The card (YtmmakkaolknbaaaGreatDoorCards.lean) ties it to the program's text. -/
def laid_math_bits_deBruijn32tab {H : Type} : DataW H := .agg [.lit (.int .u8 0), .lit (.int .u8 1), .lit (.int .u8 28), .lit (.int .u8 2), .lit (.int .u8 29), .lit (.int .u8 14), .lit (.int .u8 24), .lit (.int .u8 3), .lit (.int .u8 30), .lit (.int .u8 22), .lit (.int .u8 20), .lit (.int .u8 15), .lit (.int .u8 25), .lit (.int .u8 17), .lit (.int .u8 4), .lit (.int .u8 8), .lit (.int .u8 31), .lit (.int .u8 27), .lit (.int .u8 13), .lit (.int .u8 23), .lit (.int .u8 21), .lit (.int .u8 19), .lit (.int .u8 16), .lit (.int .u8 7), .lit (.int .u8 26), .lit (.int .u8 12), .lit (.int .u8 18), .lit (.int .u8 6), .lit (.int .u8 11), .lit (.int .u8 5), .lit (.int .u8 10), .lit (.int .u8 9)]
def laid_math_bits_deBruijn64tab {H : Type} : DataW H := .agg [.lit (.int .u8 0), .lit (.int .u8 1), .lit (.int .u8 56), .lit (.int .u8 2), .lit (.int .u8 57), .lit (.int .u8 49), .lit (.int .u8 28), .lit (.int .u8 3), .lit (.int .u8 61), .lit (.int .u8 58), .lit (.int .u8 42), .lit (.int .u8 50), .lit (.int .u8 38), .lit (.int .u8 29), .lit (.int .u8 17), .lit (.int .u8 4), .lit (.int .u8 62), .lit (.int .u8 47), .lit (.int .u8 59), .lit (.int .u8 36), .lit (.int .u8 45), .lit (.int .u8 43), .lit (.int .u8 51), .lit (.int .u8 22), .lit (.int .u8 53), .lit (.int .u8 39), .lit (.int .u8 33), .lit (.int .u8 30), .lit (.int .u8 24), .lit (.int .u8 18), .lit (.int .u8 12), .lit (.int .u8 5), .lit (.int .u8 63), .lit (.int .u8 55), .lit (.int .u8 48), .lit (.int .u8 27), .lit (.int .u8 60), .lit (.int .u8 41), .lit (.int .u8 37), .lit (.int .u8 16), .lit (.int .u8 46), .lit (.int .u8 35), .lit (.int .u8 44), .lit (.int .u8 21), .lit (.int .u8 52), .lit (.int .u8 32), .lit (.int .u8 23), .lit (.int .u8 11), .lit (.int .u8 54), .lit (.int .u8 26), .lit (.int .u8 40), .lit (.int .u8 15), .lit (.int .u8 34), .lit (.int .u8 20), .lit (.int .u8 31), .lit (.int .u8 10), .lit (.int .u8 25), .lit (.int .u8 14), .lit (.int .u8 19), .lit (.int .u8 9), .lit (.int .u8 13), .lit (.int .u8 8), .lit (.int .u8 7), .lit (.int .u8 6)]
def laid_internal_strconv_uint64pow10 {H : Type} : DataW H := .agg [.lit (.int .u64 1), .lit (.int .u64 10), .lit (.int .u64 100), .lit (.int .u64 1000), .lit (.int .u64 10000), .lit (.int .u64 100000), .lit (.int .u64 1000000), .lit (.int .u64 10000000), .lit (.int .u64 100000000), .lit (.int .u64 1000000000), .lit (.int .u64 10000000000), .lit (.int .u64 100000000000), .lit (.int .u64 1000000000000), .lit (.int .u64 10000000000000), .lit (.int .u64 100000000000000), .lit (.int .u64 1000000000000000), .lit (.int .u64 10000000000000000), .lit (.int .u64 100000000000000000), .lit (.int .u64 1000000000000000000), .lit (.int .u64 10000000000000000000)]
def laid_augur_tree_kids {H : Type} : DataW H := .agg [.lit (.int .i8 (-1)), .lit (.int .i8 0), .lit (.int .i8 0), .lit (.int .i8 0), .lit (.int .i8 1), .lit (.int .i8 2), .lit (.int .i8 2), .lit (.int .i8 2), .lit (.int .i8 2), .lit (.int .i8 1), .lit (.int .i8 1), .lit (.int .i8 1), .lit (.int .i8 2), .lit (.int .i8 2), .lit (.int .i8 2), .lit (.int .i8 2), .lit (.int .i8 1), .lit (.int .i8 1), .lit (.int .i8 1), .lit (.int .i8 1), .lit (.int .i8 2), .lit (.int .i8 2)]
def laid_unicode_utf8_acceptRanges {H : Type} : DataW H := .agg [.agg [.lit (.int .u8 128), .lit (.int .u8 191)], .agg [.lit (.int .u8 160), .lit (.int .u8 191)], .agg [.lit (.int .u8 128), .lit (.int .u8 159)], .agg [.lit (.int .u8 144), .lit (.int .u8 191)], .agg [.lit (.int .u8 128), .lit (.int .u8 143)], .agg [.lit (.int .u8 0), .lit (.int .u8 0)], .agg [.lit (.int .u8 0), .lit (.int .u8 0)], .agg [.lit (.int .u8 0), .lit (.int .u8 0)], .agg [.lit (.int .u8 0), .lit (.int .u8 0)], .agg [.lit (.int .u8 0), .lit (.int .u8 0)], .agg [.lit (.int .u8 0), .lit (.int .u8 0)], .agg [.lit (.int .u8 0), .lit (.int .u8 0)], .agg [.lit (.int .u8 0), .lit (.int .u8 0)], .agg [.lit (.int .u8 0), .lit (.int .u8 0)], .agg [.lit (.int .u8 0), .lit (.int .u8 0)], .agg [.lit (.int .u8 0), .lit (.int .u8 0)]]
def laid_strconv_ErrRange {H : Type} : DataW H := .iface "*errors.errorString" (.ptr (.agg [.lit (.string [118, 97, 108, 117, 101, 32, 111, 117, 116, 32, 111, 102, 32, 114, 97, 110, 103, 101])]))
def laid_strconv_ErrSyntax {H : Type} : DataW H := .iface "*errors.errorString" (.ptr (.agg [.lit (.string [105, 110, 118, 97, 108, 105, 100, 32, 115, 121, 110, 116, 97, 120])]))
/-- One of Go's own tables, pinned by name: the form's constant. -/
def laid_unicode_utf8_first : DataW Unit := Go.Pinned.utf8First

/-- 'augurlaw07.NnfAgain': WHATEVER THE INPUT: true; the input reads as it did. -/
def nnfAgainSpec : ChangeSpec := { name := "nnfAgain", fn := fun _ => fun
  | [d] => { results := [.lit (.bool true)], args := [d] }
  | _ => none }
def nnfAgainRow : OpenClaim := { program := "ytmmakkaolknbaaagreatdoor", sum := "667432377fac5033c9a879138d964b48c9efe493b9179dfe85def62770630809", func := "augur/augurlaw07.NnfAgain", spec := "nnfAgain", inPlace := ["internal/bytealg.abigen_runtime_cmpstring"], unfollowed := true, recurses := true, named := ["augur/tree.kids", "internal/strconv.uint64pow10", "math/bits.deBruijn32tab", "math/bits.deBruijn64tab"], loops := true, apart := false, laid := [("math/bits.deBruijn32tab", laid_math_bits_deBruijn32tab), ("math/bits.deBruijn64tab", laid_math_bits_deBruijn64tab), ("internal/strconv.uint64pow10", laid_internal_strconv_uint64pow10), ("augur/tree.kids", laid_augur_tree_kids)] }
def NnfAgainSaid : Prop := nnfAgainRow.holds Tryz.pinned (OpenSpec.ofChange nnfAgainSpec)

/-- ITS FALSE NEIGHBOUR: 'it returns false'. Refute it at one input. -/
def nnfAgainWrong : ChangeSpec := { name := "nnfAgain", fn := fun _ => fun
  | [d] => { results := [.lit (.bool false)], args := [d] }
  | _ => none }
def NnfAgainWrongFalsely : Prop := nnfAgainRow.holds Tryz.pinned (OpenSpec.ofChange nnfAgainWrong)

/-- 'augurlaw07.NnfMeans': WHATEVER THE INPUT: true; the input reads as it did. -/
def nnfMeansSpec : ChangeSpec := { name := "nnfMeans", fn := fun _ => fun
  | [d1, d2, d3] => { results := [.lit (.bool true)], args := [d1, d2, d3] }
  | _ => none }
def nnfMeansRow : OpenClaim := { program := "ytmmakkaolknbaaagreatdoor", sum := "667432377fac5033c9a879138d964b48c9efe493b9179dfe85def62770630809", func := "augur/augurlaw07.NnfMeans", spec := "nnfMeans", inPlace := ["internal/bytealg.abigen_runtime_cmpstring"], unfollowed := true, recurses := true, named := ["augur/tree.kids", "internal/strconv.uint64pow10", "math/bits.deBruijn32tab", "math/bits.deBruijn64tab"], loops := true, apart := false, laid := [("math/bits.deBruijn32tab", laid_math_bits_deBruijn32tab), ("math/bits.deBruijn64tab", laid_math_bits_deBruijn64tab), ("internal/strconv.uint64pow10", laid_internal_strconv_uint64pow10), ("augur/tree.kids", laid_augur_tree_kids)] }
def NnfMeansSaid : Prop := nnfMeansRow.holds Tryz.pinned (OpenSpec.ofChange nnfMeansSpec)

/-- ITS FALSE NEIGHBOUR: 'it returns false'. Refute it at one input. -/
def nnfMeansWrong : ChangeSpec := { name := "nnfMeans", fn := fun _ => fun
  | [d1, d2, d3] => { results := [.lit (.bool false)], args := [d1, d2, d3] }
  | _ => none }
def NnfMeansWrongFalsely : Prop := nnfMeansRow.holds Tryz.pinned (OpenSpec.ofChange nnfMeansWrong)

/-- 'augurlaw21.PatternsMean': WHATEVER THE INPUT: true; the input reads as it did. -/
def patternsMeanSpec : ChangeSpec := { name := "patternsMean", fn := fun _ => fun
  | [d1, d2, d3] => { results := [.lit (.bool true)], args := [d1, d2, d3] }
  | _ => none }
def patternsMeanRow : OpenClaim := { program := "ytmmakkaolknbaaagreatdoor", sum := "667432377fac5033c9a879138d964b48c9efe493b9179dfe85def62770630809", func := "augur/augurlaw21.PatternsMean", spec := "patternsMean", unfollowed := true, recurses := true, named := ["augur/tree.kids", "internal/strconv.uint64pow10", "math/bits.deBruijn32tab", "math/bits.deBruijn64tab"], loops := true, apart := false, laid := [("math/bits.deBruijn32tab", laid_math_bits_deBruijn32tab), ("math/bits.deBruijn64tab", laid_math_bits_deBruijn64tab), ("internal/strconv.uint64pow10", laid_internal_strconv_uint64pow10), ("augur/tree.kids", laid_augur_tree_kids)] }
def PatternsMeanSaid : Prop := patternsMeanRow.holds Tryz.pinned (OpenSpec.ofChange patternsMeanSpec)

/-- ITS FALSE NEIGHBOUR: 'it returns false'. Refute it at one input. -/
def patternsMeanWrong : ChangeSpec := { name := "patternsMean", fn := fun _ => fun
  | [d1, d2, d3] => { results := [.lit (.bool false)], args := [d1, d2, d3] }
  | _ => none }
def PatternsMeanWrongFalsely : Prop := patternsMeanRow.holds Tryz.pinned (OpenSpec.ofChange patternsMeanWrong)

/-- 'augurlaw21.PatternsOthers': WHATEVER THE INPUT: true; the input reads as it did. -/
def patternsOthersSpec : ChangeSpec := { name := "patternsOthers", fn := fun _ => fun
  | [d1, d2, d3] => { results := [.lit (.bool true)], args := [d1, d2, d3] }
  | _ => none }
def patternsOthersRow : OpenClaim := { program := "ytmmakkaolknbaaagreatdoor", sum := "667432377fac5033c9a879138d964b48c9efe493b9179dfe85def62770630809", func := "augur/augurlaw21.PatternsOthers", spec := "patternsOthers", unfollowed := true, recurses := true, named := ["augur/tree.kids", "internal/strconv.uint64pow10", "math/bits.deBruijn32tab", "math/bits.deBruijn64tab"], loops := true, apart := false, laid := [("math/bits.deBruijn32tab", laid_math_bits_deBruijn32tab), ("math/bits.deBruijn64tab", laid_math_bits_deBruijn64tab), ("internal/strconv.uint64pow10", laid_internal_strconv_uint64pow10), ("augur/tree.kids", laid_augur_tree_kids)] }
def PatternsOthersSaid : Prop := patternsOthersRow.holds Tryz.pinned (OpenSpec.ofChange patternsOthersSpec)

/-- ITS FALSE NEIGHBOUR: 'it returns false'. Refute it at one input. -/
def patternsOthersWrong : ChangeSpec := { name := "patternsOthers", fn := fun _ => fun
  | [d1, d2, d3] => { results := [.lit (.bool false)], args := [d1, d2, d3] }
  | _ => none }
def PatternsOthersWrongFalsely : Prop := patternsOthersRow.holds Tryz.pinned (OpenSpec.ofChange patternsOthersWrong)

/-- 'augurlaw03.TreeRights': WHATEVER THE INPUT: true; the input reads as it did. -/
def treeRightsSpec : ChangeSpec := { name := "treeRights", fn := fun _ => fun
  | [d] => { results := [.lit (.bool true)], args := [d] }
  | _ => none }
def treeRightsRow : OpenClaim := { program := "ytmmakkaolknbaaagreatdoor", sum := "667432377fac5033c9a879138d964b48c9efe493b9179dfe85def62770630809", func := "augur/augurlaw03.TreeRights", spec := "treeRights", inPlace := ["internal/bytealg.abigen_runtime_cmpstring", "internal/bytealg.IndexByteString", "internal/bytealg.IndexString"], unfollowed := true, recurses := true, named := ["internal/strconv.uint64pow10", "math/bits.deBruijn32tab", "math/bits.deBruijn64tab", "unicode/utf8.first", "unicode/utf8.acceptRanges", "internal/bytealg.MaxLen", "strconv.ErrSyntax", "strconv.ErrRange", "augur/tree.kids"], loops := true, apart := false, laid := [("math/bits.deBruijn32tab", laid_math_bits_deBruijn32tab), ("math/bits.deBruijn64tab", laid_math_bits_deBruijn64tab), ("internal/strconv.uint64pow10", laid_internal_strconv_uint64pow10), ("unicode/utf8.acceptRanges", laid_unicode_utf8_acceptRanges), ("strconv.ErrRange", laid_strconv_ErrRange), ("strconv.ErrSyntax", laid_strconv_ErrSyntax), ("augur/tree.kids", laid_augur_tree_kids), ("unicode/utf8.first", laid_unicode_utf8_first)] }
def TreeRightsSaid : Prop := treeRightsRow.holds Tryz.pinned (OpenSpec.ofChange treeRightsSpec)

/-- ITS FALSE NEIGHBOUR: 'it returns false'. Refute it at one input. -/
def treeRightsWrong : ChangeSpec := { name := "treeRights", fn := fun _ => fun
  | [d] => { results := [.lit (.bool false)], args := [d] }
  | _ => none }
def TreeRightsWrongFalsely : Prop := treeRightsRow.holds Tryz.pinned (OpenSpec.ofChange treeRightsWrong)

/-- 'augurlaw03.TreeTells': WHATEVER THE INPUT: true; the input reads as it did. -/
def treeTellsSpec : ChangeSpec := { name := "treeTells", fn := fun _ => fun
  | [d] => { results := [.lit (.bool true)], args := [d] }
  | _ => none }
def treeTellsRow : OpenClaim := { program := "ytmmakkaolknbaaagreatdoor", sum := "667432377fac5033c9a879138d964b48c9efe493b9179dfe85def62770630809", func := "augur/augurlaw03.TreeTells", spec := "treeTells", inPlace := ["internal/bytealg.abigen_runtime_cmpstring", "internal/bytealg.IndexByteString", "internal/bytealg.IndexString"], unfollowed := true, recurses := true, named := ["internal/strconv.uint64pow10", "math/bits.deBruijn32tab", "math/bits.deBruijn64tab", "unicode/utf8.first", "unicode/utf8.acceptRanges", "internal/bytealg.MaxLen", "strconv.ErrSyntax", "strconv.ErrRange", "augur/tree.kids"], loops := true, apart := false, laid := [("math/bits.deBruijn32tab", laid_math_bits_deBruijn32tab), ("math/bits.deBruijn64tab", laid_math_bits_deBruijn64tab), ("internal/strconv.uint64pow10", laid_internal_strconv_uint64pow10), ("unicode/utf8.acceptRanges", laid_unicode_utf8_acceptRanges), ("strconv.ErrRange", laid_strconv_ErrRange), ("strconv.ErrSyntax", laid_strconv_ErrSyntax), ("augur/tree.kids", laid_augur_tree_kids), ("unicode/utf8.first", laid_unicode_utf8_first)] }
def TreeTellsSaid : Prop := treeTellsRow.holds Tryz.pinned (OpenSpec.ofChange treeTellsSpec)

/-- ITS FALSE NEIGHBOUR: 'it returns false'. Refute it at one input. -/
def treeTellsWrong : ChangeSpec := { name := "treeTells", fn := fun _ => fun
  | [d] => { results := [.lit (.bool false)], args := [d] }
  | _ => none }
def TreeTellsWrongFalsely : Prop := treeTellsRow.holds Tryz.pinned (OpenSpec.ofChange treeTellsWrong)

/-- 'augurlaw03.TreeOrders': WHATEVER THE INPUT: true; the input reads as it did. -/
def treeOrdersSpec : ChangeSpec := { name := "treeOrders", fn := fun _ => fun
  | [d1, d2] => { results := [.lit (.bool true)], args := [d1, d2] }
  | _ => none }
def treeOrdersRow : OpenClaim := { program := "ytmmakkaolknbaaagreatdoor", sum := "667432377fac5033c9a879138d964b48c9efe493b9179dfe85def62770630809", func := "augur/augurlaw03.TreeOrders", spec := "treeOrders", inPlace := ["internal/bytealg.abigen_runtime_cmpstring", "internal/bytealg.IndexByteString", "internal/bytealg.IndexString"], unfollowed := true, recurses := true, named := ["internal/strconv.uint64pow10", "math/bits.deBruijn32tab", "math/bits.deBruijn64tab", "unicode/utf8.first", "unicode/utf8.acceptRanges", "internal/bytealg.MaxLen", "strconv.ErrSyntax", "strconv.ErrRange", "augur/tree.kids"], loops := true, apart := false, laid := [("math/bits.deBruijn32tab", laid_math_bits_deBruijn32tab), ("math/bits.deBruijn64tab", laid_math_bits_deBruijn64tab), ("internal/strconv.uint64pow10", laid_internal_strconv_uint64pow10), ("unicode/utf8.acceptRanges", laid_unicode_utf8_acceptRanges), ("strconv.ErrRange", laid_strconv_ErrRange), ("strconv.ErrSyntax", laid_strconv_ErrSyntax), ("augur/tree.kids", laid_augur_tree_kids), ("unicode/utf8.first", laid_unicode_utf8_first)] }
def TreeOrdersSaid : Prop := treeOrdersRow.holds Tryz.pinned (OpenSpec.ofChange treeOrdersSpec)

/-- ITS FALSE NEIGHBOUR: 'it returns false'. Refute it at one input. -/
def treeOrdersWrong : ChangeSpec := { name := "treeOrders", fn := fun _ => fun
  | [d1, d2] => { results := [.lit (.bool false)], args := [d1, d2] }
  | _ => none }
def TreeOrdersWrongFalsely : Prop := treeOrdersRow.holds Tryz.pinned (OpenSpec.ofChange treeOrdersWrong)

/-- 'augurlaw03.TreeAlls': WHATEVER THE INPUT: true; the input reads as it did. -/
def treeAllsSpec : ChangeSpec := { name := "treeAlls", fn := fun _ => fun
  | [d1, d2, d3] => { results := [.lit (.bool true)], args := [d1, d2, d3] }
  | _ => none }
def treeAllsRow : OpenClaim := { program := "ytmmakkaolknbaaagreatdoor", sum := "667432377fac5033c9a879138d964b48c9efe493b9179dfe85def62770630809", func := "augur/augurlaw03.TreeAlls", spec := "treeAlls", inPlace := ["internal/bytealg.abigen_runtime_cmpstring", "internal/bytealg.IndexByteString", "internal/bytealg.IndexString"], unfollowed := true, recurses := true, named := ["internal/strconv.uint64pow10", "math/bits.deBruijn32tab", "math/bits.deBruijn64tab", "unicode/utf8.first", "unicode/utf8.acceptRanges", "internal/bytealg.MaxLen", "strconv.ErrSyntax", "strconv.ErrRange", "augur/tree.kids"], loops := true, apart := false, laid := [("math/bits.deBruijn32tab", laid_math_bits_deBruijn32tab), ("math/bits.deBruijn64tab", laid_math_bits_deBruijn64tab), ("internal/strconv.uint64pow10", laid_internal_strconv_uint64pow10), ("unicode/utf8.acceptRanges", laid_unicode_utf8_acceptRanges), ("strconv.ErrRange", laid_strconv_ErrRange), ("strconv.ErrSyntax", laid_strconv_ErrSyntax), ("augur/tree.kids", laid_augur_tree_kids), ("unicode/utf8.first", laid_unicode_utf8_first)] }
def TreeAllsSaid : Prop := treeAllsRow.holds Tryz.pinned (OpenSpec.ofChange treeAllsSpec)

/-- ITS FALSE NEIGHBOUR: 'it returns false'. Refute it at one input. -/
def treeAllsWrong : ChangeSpec := { name := "treeAlls", fn := fun _ => fun
  | [d1, d2, d3] => { results := [.lit (.bool false)], args := [d1, d2, d3] }
  | _ => none }
def TreeAllsWrongFalsely : Prop := treeAllsRow.holds Tryz.pinned (OpenSpec.ofChange treeAllsWrong)

/-- 'augurlaw03.TreePuts': WHATEVER THE INPUT: true; the input reads as it did. -/
def treePutsSpec : ChangeSpec := { name := "treePuts", fn := fun _ => fun
  | [d1, d2, d3] => { results := [.lit (.bool true)], args := [d1, d2, d3] }
  | _ => none }
def treePutsRow : OpenClaim := { program := "ytmmakkaolknbaaagreatdoor", sum := "667432377fac5033c9a879138d964b48c9efe493b9179dfe85def62770630809", func := "augur/augurlaw03.TreePuts", spec := "treePuts", inPlace := ["internal/bytealg.abigen_runtime_cmpstring", "internal/bytealg.IndexByteString", "internal/bytealg.IndexString"], unfollowed := true, recurses := true, named := ["internal/strconv.uint64pow10", "math/bits.deBruijn32tab", "math/bits.deBruijn64tab", "unicode/utf8.first", "unicode/utf8.acceptRanges", "internal/bytealg.MaxLen", "strconv.ErrSyntax", "strconv.ErrRange", "augur/tree.kids"], loops := true, apart := false, laid := [("math/bits.deBruijn32tab", laid_math_bits_deBruijn32tab), ("math/bits.deBruijn64tab", laid_math_bits_deBruijn64tab), ("internal/strconv.uint64pow10", laid_internal_strconv_uint64pow10), ("unicode/utf8.acceptRanges", laid_unicode_utf8_acceptRanges), ("strconv.ErrRange", laid_strconv_ErrRange), ("strconv.ErrSyntax", laid_strconv_ErrSyntax), ("augur/tree.kids", laid_augur_tree_kids), ("unicode/utf8.first", laid_unicode_utf8_first)] }
def TreePutsSaid : Prop := treePutsRow.holds Tryz.pinned (OpenSpec.ofChange treePutsSpec)

/-- ITS FALSE NEIGHBOUR: 'it returns false'. Refute it at one input. -/
def treePutsWrong : ChangeSpec := { name := "treePuts", fn := fun _ => fun
  | [d1, d2, d3] => { results := [.lit (.bool false)], args := [d1, d2, d3] }
  | _ => none }
def TreePutsWrongFalsely : Prop := treePutsRow.holds Tryz.pinned (OpenSpec.ofChange treePutsWrong)

/-- 'augurlaw03.TreeRenames': WHATEVER THE INPUT: true; the input reads as it did. -/
def treeRenamesSpec : ChangeSpec := { name := "treeRenames", fn := fun _ => fun
  | [d1, d2, d3] => { results := [.lit (.bool true)], args := [d1, d2, d3] }
  | _ => none }
def treeRenamesRow : OpenClaim := { program := "ytmmakkaolknbaaagreatdoor", sum := "667432377fac5033c9a879138d964b48c9efe493b9179dfe85def62770630809", func := "augur/augurlaw03.TreeRenames", spec := "treeRenames", inPlace := ["internal/bytealg.abigen_runtime_cmpstring", "internal/bytealg.IndexByteString", "internal/bytealg.IndexString"], unfollowed := true, recurses := true, named := ["internal/strconv.uint64pow10", "math/bits.deBruijn32tab", "math/bits.deBruijn64tab", "unicode/utf8.first", "unicode/utf8.acceptRanges", "internal/bytealg.MaxLen", "strconv.ErrSyntax", "strconv.ErrRange", "augur/tree.kids"], loops := true, apart := false, laid := [("math/bits.deBruijn32tab", laid_math_bits_deBruijn32tab), ("math/bits.deBruijn64tab", laid_math_bits_deBruijn64tab), ("internal/strconv.uint64pow10", laid_internal_strconv_uint64pow10), ("unicode/utf8.acceptRanges", laid_unicode_utf8_acceptRanges), ("strconv.ErrRange", laid_strconv_ErrRange), ("strconv.ErrSyntax", laid_strconv_ErrSyntax), ("augur/tree.kids", laid_augur_tree_kids), ("unicode/utf8.first", laid_unicode_utf8_first)] }
def TreeRenamesSaid : Prop := treeRenamesRow.holds Tryz.pinned (OpenSpec.ofChange treeRenamesSpec)

/-- ITS FALSE NEIGHBOUR: 'it returns false'. Refute it at one input. -/
def treeRenamesWrong : ChangeSpec := { name := "treeRenames", fn := fun _ => fun
  | [d1, d2, d3] => { results := [.lit (.bool false)], args := [d1, d2, d3] }
  | _ => none }
def TreeRenamesWrongFalsely : Prop := treeRenamesRow.holds Tryz.pinned (OpenSpec.ofChange treeRenamesWrong)

/-- 'augurlaw03.TreePaths': WHATEVER THE INPUT: true; the input reads as it did. -/
def treePathsSpec : ChangeSpec := { name := "treePaths", fn := fun _ => fun
  | [d] => { results := [.lit (.bool true)], args := [d] }
  | _ => none }
def treePathsRow : OpenClaim := { program := "ytmmakkaolknbaaagreatdoor", sum := "667432377fac5033c9a879138d964b48c9efe493b9179dfe85def62770630809", func := "augur/augurlaw03.TreePaths", spec := "treePaths", inPlace := ["internal/bytealg.abigen_runtime_cmpstring", "internal/bytealg.IndexByteString", "internal/bytealg.IndexString"], unfollowed := true, recurses := true, named := ["internal/strconv.uint64pow10", "math/bits.deBruijn32tab", "math/bits.deBruijn64tab", "unicode/utf8.first", "unicode/utf8.acceptRanges", "internal/bytealg.MaxLen", "strconv.ErrSyntax", "strconv.ErrRange", "augur/tree.kids"], loops := true, apart := false, laid := [("math/bits.deBruijn32tab", laid_math_bits_deBruijn32tab), ("math/bits.deBruijn64tab", laid_math_bits_deBruijn64tab), ("internal/strconv.uint64pow10", laid_internal_strconv_uint64pow10), ("unicode/utf8.acceptRanges", laid_unicode_utf8_acceptRanges), ("strconv.ErrRange", laid_strconv_ErrRange), ("strconv.ErrSyntax", laid_strconv_ErrSyntax), ("augur/tree.kids", laid_augur_tree_kids), ("unicode/utf8.first", laid_unicode_utf8_first)] }
def TreePathsSaid : Prop := treePathsRow.holds Tryz.pinned (OpenSpec.ofChange treePathsSpec)

/-- ITS FALSE NEIGHBOUR: 'it returns false'. Refute it at one input. -/
def treePathsWrong : ChangeSpec := { name := "treePaths", fn := fun _ => fun
  | [d] => { results := [.lit (.bool false)], args := [d] }
  | _ => none }
def TreePathsWrongFalsely : Prop := treePathsRow.holds Tryz.pinned (OpenSpec.ofChange treePathsWrong)

/-- 'augurlaw03.TreeBack': WHATEVER THE INPUT: true; the input reads as it did. -/
def treeBackSpec : ChangeSpec := { name := "treeBack", fn := fun _ => fun
  | [d1, d2] => { results := [.lit (.bool true)], args := [d1, d2] }
  | _ => none }
def treeBackRow : OpenClaim := { program := "ytmmakkaolknbaaagreatdoor", sum := "667432377fac5033c9a879138d964b48c9efe493b9179dfe85def62770630809", func := "augur/augurlaw03.TreeBack", spec := "treeBack", inPlace := ["internal/bytealg.abigen_runtime_cmpstring", "internal/bytealg.IndexByteString", "internal/bytealg.IndexString"], unfollowed := true, recurses := true, named := ["internal/strconv.uint64pow10", "math/bits.deBruijn32tab", "math/bits.deBruijn64tab", "unicode/utf8.first", "unicode/utf8.acceptRanges", "internal/bytealg.MaxLen", "strconv.ErrSyntax", "strconv.ErrRange", "augur/tree.kids"], loops := true, apart := false, laid := [("math/bits.deBruijn32tab", laid_math_bits_deBruijn32tab), ("math/bits.deBruijn64tab", laid_math_bits_deBruijn64tab), ("internal/strconv.uint64pow10", laid_internal_strconv_uint64pow10), ("unicode/utf8.acceptRanges", laid_unicode_utf8_acceptRanges), ("strconv.ErrRange", laid_strconv_ErrRange), ("strconv.ErrSyntax", laid_strconv_ErrSyntax), ("augur/tree.kids", laid_augur_tree_kids), ("unicode/utf8.first", laid_unicode_utf8_first)] }
def TreeBackSaid : Prop := treeBackRow.holds Tryz.pinned (OpenSpec.ofChange treeBackSpec)

/-- ITS FALSE NEIGHBOUR: 'it returns false'. Refute it at one input. -/
def treeBackWrong : ChangeSpec := { name := "treeBack", fn := fun _ => fun
  | [d1, d2] => { results := [.lit (.bool false)], args := [d1, d2] }
  | _ => none }
def TreeBackWrongFalsely : Prop := treeBackRow.holds Tryz.pinned (OpenSpec.ofChange treeBackWrong)

/- THE SECOND FORM. 'bulk': how many values and letters a reading holds, each counted each time it is reached (what is shared counts as often as it is met; a slice's spare places count too). A statement '..UptoSaid' is the law's where the arguments, and the package variables that the reading takes, are together of bulk at most 1048576: NARROWER than '..Said'. Prove '..Said' where nothing that the law and all that it calls make is longer than what came in: it says more and counts as full. Else prove '..UptoSaid'. A law counts once. -/
mutual
def uptoBulk {H : Type} : DataW H → Nat
  | .lit (.string bytes) => bytes.length + 1
  | .lit _ => 1
  | .nil => 1
  | .ptr d => uptoBulk d + 1
  | .slice elems spare => uptoBulkAll elems + uptoBulkAll spare + 1
  | .agg parts => uptoBulkAll parts + 1
  | .iface _ d => uptoBulk d + 1
  | .map entries => uptoBulkEntries entries + 1
  | .held _ => 1
def uptoBulkAll {H : Type} : List (DataW H) → Nat
  | [] => 0
  | d :: r => uptoBulk d + uptoBulkAll r
def uptoBulkEntries {H : Type} : List (Lit × DataW H) → Nat
  | [] => 0
  | x :: r => uptoBulkEntry x + uptoBulkEntries r
def uptoBulkEntry {H : Type} : Lit × DataW H → Nat
  | (.string bytes, d) => bytes.length + uptoBulk d + 1
  | (_, d) => uptoBulk d + 1
 end
def uptoSmall : (H : Type) → List (DataW H) → Bool := fun _ ds => decide (uptoBulkAll ds ≤ 1048576)
def OpenSpec.upto (s : _root_.Go.ChangeSpec) : _root_.Go.OpenSpec := { _root_.Go.OpenSpec.ofChange s with cond := some uptoSmall }

/-- 'augurlaw07.NnfAgain', WHERE WHAT IT READS IS OF BULK AT MOST 1048576: true; the input reads as it did. -/
def nnfAgainUptoRow : OpenClaim := { program := "ytmmakkaolknbaaagreatdoor", sum := "667432377fac5033c9a879138d964b48c9efe493b9179dfe85def62770630809", func := "augur/augurlaw07.NnfAgain", spec := "nnfAgain", inPlace := ["internal/bytealg.abigen_runtime_cmpstring"], unfollowed := true, recurses := true, named := ["augur/tree.kids", "internal/strconv.uint64pow10", "math/bits.deBruijn32tab", "math/bits.deBruijn64tab"], loops := true, apart := false, laid := [("math/bits.deBruijn32tab", laid_math_bits_deBruijn32tab), ("math/bits.deBruijn64tab", laid_math_bits_deBruijn64tab), ("internal/strconv.uint64pow10", laid_internal_strconv_uint64pow10), ("augur/tree.kids", laid_augur_tree_kids)], narrowed := true }
def NnfAgainUptoSaid : Prop := nnfAgainUptoRow.holds Tryz.pinned (OpenSpec.upto nnfAgainSpec)

/-- 'augurlaw07.NnfMeans', WHERE WHAT IT READS IS OF BULK AT MOST 1048576: true; the input reads as it did. -/
def nnfMeansUptoRow : OpenClaim := { program := "ytmmakkaolknbaaagreatdoor", sum := "667432377fac5033c9a879138d964b48c9efe493b9179dfe85def62770630809", func := "augur/augurlaw07.NnfMeans", spec := "nnfMeans", inPlace := ["internal/bytealg.abigen_runtime_cmpstring"], unfollowed := true, recurses := true, named := ["augur/tree.kids", "internal/strconv.uint64pow10", "math/bits.deBruijn32tab", "math/bits.deBruijn64tab"], loops := true, apart := false, laid := [("math/bits.deBruijn32tab", laid_math_bits_deBruijn32tab), ("math/bits.deBruijn64tab", laid_math_bits_deBruijn64tab), ("internal/strconv.uint64pow10", laid_internal_strconv_uint64pow10), ("augur/tree.kids", laid_augur_tree_kids)], narrowed := true }
def NnfMeansUptoSaid : Prop := nnfMeansUptoRow.holds Tryz.pinned (OpenSpec.upto nnfMeansSpec)

/-- 'augurlaw21.PatternsMean', WHERE WHAT IT READS IS OF BULK AT MOST 1048576: true; the input reads as it did. -/
def patternsMeanUptoRow : OpenClaim := { program := "ytmmakkaolknbaaagreatdoor", sum := "667432377fac5033c9a879138d964b48c9efe493b9179dfe85def62770630809", func := "augur/augurlaw21.PatternsMean", spec := "patternsMean", unfollowed := true, recurses := true, named := ["augur/tree.kids", "internal/strconv.uint64pow10", "math/bits.deBruijn32tab", "math/bits.deBruijn64tab"], loops := true, apart := false, laid := [("math/bits.deBruijn32tab", laid_math_bits_deBruijn32tab), ("math/bits.deBruijn64tab", laid_math_bits_deBruijn64tab), ("internal/strconv.uint64pow10", laid_internal_strconv_uint64pow10), ("augur/tree.kids", laid_augur_tree_kids)], narrowed := true }
def PatternsMeanUptoSaid : Prop := patternsMeanUptoRow.holds Tryz.pinned (OpenSpec.upto patternsMeanSpec)

/-- 'augurlaw21.PatternsOthers', WHERE WHAT IT READS IS OF BULK AT MOST 1048576: true; the input reads as it did. -/
def patternsOthersUptoRow : OpenClaim := { program := "ytmmakkaolknbaaagreatdoor", sum := "667432377fac5033c9a879138d964b48c9efe493b9179dfe85def62770630809", func := "augur/augurlaw21.PatternsOthers", spec := "patternsOthers", unfollowed := true, recurses := true, named := ["augur/tree.kids", "internal/strconv.uint64pow10", "math/bits.deBruijn32tab", "math/bits.deBruijn64tab"], loops := true, apart := false, laid := [("math/bits.deBruijn32tab", laid_math_bits_deBruijn32tab), ("math/bits.deBruijn64tab", laid_math_bits_deBruijn64tab), ("internal/strconv.uint64pow10", laid_internal_strconv_uint64pow10), ("augur/tree.kids", laid_augur_tree_kids)], narrowed := true }
def PatternsOthersUptoSaid : Prop := patternsOthersUptoRow.holds Tryz.pinned (OpenSpec.upto patternsOthersSpec)

/-- 'augurlaw03.TreeRights', WHERE WHAT IT READS IS OF BULK AT MOST 1048576: true; the input reads as it did. -/
def treeRightsUptoRow : OpenClaim := { program := "ytmmakkaolknbaaagreatdoor", sum := "667432377fac5033c9a879138d964b48c9efe493b9179dfe85def62770630809", func := "augur/augurlaw03.TreeRights", spec := "treeRights", inPlace := ["internal/bytealg.abigen_runtime_cmpstring", "internal/bytealg.IndexByteString", "internal/bytealg.IndexString"], unfollowed := true, recurses := true, named := ["internal/strconv.uint64pow10", "math/bits.deBruijn32tab", "math/bits.deBruijn64tab", "unicode/utf8.first", "unicode/utf8.acceptRanges", "internal/bytealg.MaxLen", "strconv.ErrSyntax", "strconv.ErrRange", "augur/tree.kids"], loops := true, apart := false, laid := [("math/bits.deBruijn32tab", laid_math_bits_deBruijn32tab), ("math/bits.deBruijn64tab", laid_math_bits_deBruijn64tab), ("internal/strconv.uint64pow10", laid_internal_strconv_uint64pow10), ("unicode/utf8.acceptRanges", laid_unicode_utf8_acceptRanges), ("strconv.ErrRange", laid_strconv_ErrRange), ("strconv.ErrSyntax", laid_strconv_ErrSyntax), ("augur/tree.kids", laid_augur_tree_kids), ("unicode/utf8.first", laid_unicode_utf8_first)], narrowed := true }
def TreeRightsUptoSaid : Prop := treeRightsUptoRow.holds Tryz.pinned (OpenSpec.upto treeRightsSpec)

/-- 'augurlaw03.TreeTells', WHERE WHAT IT READS IS OF BULK AT MOST 1048576: true; the input reads as it did. -/
def treeTellsUptoRow : OpenClaim := { program := "ytmmakkaolknbaaagreatdoor", sum := "667432377fac5033c9a879138d964b48c9efe493b9179dfe85def62770630809", func := "augur/augurlaw03.TreeTells", spec := "treeTells", inPlace := ["internal/bytealg.abigen_runtime_cmpstring", "internal/bytealg.IndexByteString", "internal/bytealg.IndexString"], unfollowed := true, recurses := true, named := ["internal/strconv.uint64pow10", "math/bits.deBruijn32tab", "math/bits.deBruijn64tab", "unicode/utf8.first", "unicode/utf8.acceptRanges", "internal/bytealg.MaxLen", "strconv.ErrSyntax", "strconv.ErrRange", "augur/tree.kids"], loops := true, apart := false, laid := [("math/bits.deBruijn32tab", laid_math_bits_deBruijn32tab), ("math/bits.deBruijn64tab", laid_math_bits_deBruijn64tab), ("internal/strconv.uint64pow10", laid_internal_strconv_uint64pow10), ("unicode/utf8.acceptRanges", laid_unicode_utf8_acceptRanges), ("strconv.ErrRange", laid_strconv_ErrRange), ("strconv.ErrSyntax", laid_strconv_ErrSyntax), ("augur/tree.kids", laid_augur_tree_kids), ("unicode/utf8.first", laid_unicode_utf8_first)], narrowed := true }
def TreeTellsUptoSaid : Prop := treeTellsUptoRow.holds Tryz.pinned (OpenSpec.upto treeTellsSpec)

/-- 'augurlaw03.TreeOrders', WHERE WHAT IT READS IS OF BULK AT MOST 1048576: true; the input reads as it did. -/
def treeOrdersUptoRow : OpenClaim := { program := "ytmmakkaolknbaaagreatdoor", sum := "667432377fac5033c9a879138d964b48c9efe493b9179dfe85def62770630809", func := "augur/augurlaw03.TreeOrders", spec := "treeOrders", inPlace := ["internal/bytealg.abigen_runtime_cmpstring", "internal/bytealg.IndexByteString", "internal/bytealg.IndexString"], unfollowed := true, recurses := true, named := ["internal/strconv.uint64pow10", "math/bits.deBruijn32tab", "math/bits.deBruijn64tab", "unicode/utf8.first", "unicode/utf8.acceptRanges", "internal/bytealg.MaxLen", "strconv.ErrSyntax", "strconv.ErrRange", "augur/tree.kids"], loops := true, apart := false, laid := [("math/bits.deBruijn32tab", laid_math_bits_deBruijn32tab), ("math/bits.deBruijn64tab", laid_math_bits_deBruijn64tab), ("internal/strconv.uint64pow10", laid_internal_strconv_uint64pow10), ("unicode/utf8.acceptRanges", laid_unicode_utf8_acceptRanges), ("strconv.ErrRange", laid_strconv_ErrRange), ("strconv.ErrSyntax", laid_strconv_ErrSyntax), ("augur/tree.kids", laid_augur_tree_kids), ("unicode/utf8.first", laid_unicode_utf8_first)], narrowed := true }
def TreeOrdersUptoSaid : Prop := treeOrdersUptoRow.holds Tryz.pinned (OpenSpec.upto treeOrdersSpec)

/-- 'augurlaw03.TreeAlls', WHERE WHAT IT READS IS OF BULK AT MOST 1048576: true; the input reads as it did. -/
def treeAllsUptoRow : OpenClaim := { program := "ytmmakkaolknbaaagreatdoor", sum := "667432377fac5033c9a879138d964b48c9efe493b9179dfe85def62770630809", func := "augur/augurlaw03.TreeAlls", spec := "treeAlls", inPlace := ["internal/bytealg.abigen_runtime_cmpstring", "internal/bytealg.IndexByteString", "internal/bytealg.IndexString"], unfollowed := true, recurses := true, named := ["internal/strconv.uint64pow10", "math/bits.deBruijn32tab", "math/bits.deBruijn64tab", "unicode/utf8.first", "unicode/utf8.acceptRanges", "internal/bytealg.MaxLen", "strconv.ErrSyntax", "strconv.ErrRange", "augur/tree.kids"], loops := true, apart := false, laid := [("math/bits.deBruijn32tab", laid_math_bits_deBruijn32tab), ("math/bits.deBruijn64tab", laid_math_bits_deBruijn64tab), ("internal/strconv.uint64pow10", laid_internal_strconv_uint64pow10), ("unicode/utf8.acceptRanges", laid_unicode_utf8_acceptRanges), ("strconv.ErrRange", laid_strconv_ErrRange), ("strconv.ErrSyntax", laid_strconv_ErrSyntax), ("augur/tree.kids", laid_augur_tree_kids), ("unicode/utf8.first", laid_unicode_utf8_first)], narrowed := true }
def TreeAllsUptoSaid : Prop := treeAllsUptoRow.holds Tryz.pinned (OpenSpec.upto treeAllsSpec)

/-- 'augurlaw03.TreePuts', WHERE WHAT IT READS IS OF BULK AT MOST 1048576: true; the input reads as it did. -/
def treePutsUptoRow : OpenClaim := { program := "ytmmakkaolknbaaagreatdoor", sum := "667432377fac5033c9a879138d964b48c9efe493b9179dfe85def62770630809", func := "augur/augurlaw03.TreePuts", spec := "treePuts", inPlace := ["internal/bytealg.abigen_runtime_cmpstring", "internal/bytealg.IndexByteString", "internal/bytealg.IndexString"], unfollowed := true, recurses := true, named := ["internal/strconv.uint64pow10", "math/bits.deBruijn32tab", "math/bits.deBruijn64tab", "unicode/utf8.first", "unicode/utf8.acceptRanges", "internal/bytealg.MaxLen", "strconv.ErrSyntax", "strconv.ErrRange", "augur/tree.kids"], loops := true, apart := false, laid := [("math/bits.deBruijn32tab", laid_math_bits_deBruijn32tab), ("math/bits.deBruijn64tab", laid_math_bits_deBruijn64tab), ("internal/strconv.uint64pow10", laid_internal_strconv_uint64pow10), ("unicode/utf8.acceptRanges", laid_unicode_utf8_acceptRanges), ("strconv.ErrRange", laid_strconv_ErrRange), ("strconv.ErrSyntax", laid_strconv_ErrSyntax), ("augur/tree.kids", laid_augur_tree_kids), ("unicode/utf8.first", laid_unicode_utf8_first)], narrowed := true }
def TreePutsUptoSaid : Prop := treePutsUptoRow.holds Tryz.pinned (OpenSpec.upto treePutsSpec)

/-- 'augurlaw03.TreeRenames', WHERE WHAT IT READS IS OF BULK AT MOST 1048576: true; the input reads as it did. -/
def treeRenamesUptoRow : OpenClaim := { program := "ytmmakkaolknbaaagreatdoor", sum := "667432377fac5033c9a879138d964b48c9efe493b9179dfe85def62770630809", func := "augur/augurlaw03.TreeRenames", spec := "treeRenames", inPlace := ["internal/bytealg.abigen_runtime_cmpstring", "internal/bytealg.IndexByteString", "internal/bytealg.IndexString"], unfollowed := true, recurses := true, named := ["internal/strconv.uint64pow10", "math/bits.deBruijn32tab", "math/bits.deBruijn64tab", "unicode/utf8.first", "unicode/utf8.acceptRanges", "internal/bytealg.MaxLen", "strconv.ErrSyntax", "strconv.ErrRange", "augur/tree.kids"], loops := true, apart := false, laid := [("math/bits.deBruijn32tab", laid_math_bits_deBruijn32tab), ("math/bits.deBruijn64tab", laid_math_bits_deBruijn64tab), ("internal/strconv.uint64pow10", laid_internal_strconv_uint64pow10), ("unicode/utf8.acceptRanges", laid_unicode_utf8_acceptRanges), ("strconv.ErrRange", laid_strconv_ErrRange), ("strconv.ErrSyntax", laid_strconv_ErrSyntax), ("augur/tree.kids", laid_augur_tree_kids), ("unicode/utf8.first", laid_unicode_utf8_first)], narrowed := true }
def TreeRenamesUptoSaid : Prop := treeRenamesUptoRow.holds Tryz.pinned (OpenSpec.upto treeRenamesSpec)

/-- 'augurlaw03.TreePaths', WHERE WHAT IT READS IS OF BULK AT MOST 1048576: true; the input reads as it did. -/
def treePathsUptoRow : OpenClaim := { program := "ytmmakkaolknbaaagreatdoor", sum := "667432377fac5033c9a879138d964b48c9efe493b9179dfe85def62770630809", func := "augur/augurlaw03.TreePaths", spec := "treePaths", inPlace := ["internal/bytealg.abigen_runtime_cmpstring", "internal/bytealg.IndexByteString", "internal/bytealg.IndexString"], unfollowed := true, recurses := true, named := ["internal/strconv.uint64pow10", "math/bits.deBruijn32tab", "math/bits.deBruijn64tab", "unicode/utf8.first", "unicode/utf8.acceptRanges", "internal/bytealg.MaxLen", "strconv.ErrSyntax", "strconv.ErrRange", "augur/tree.kids"], loops := true, apart := false, laid := [("math/bits.deBruijn32tab", laid_math_bits_deBruijn32tab), ("math/bits.deBruijn64tab", laid_math_bits_deBruijn64tab), ("internal/strconv.uint64pow10", laid_internal_strconv_uint64pow10), ("unicode/utf8.acceptRanges", laid_unicode_utf8_acceptRanges), ("strconv.ErrRange", laid_strconv_ErrRange), ("strconv.ErrSyntax", laid_strconv_ErrSyntax), ("augur/tree.kids", laid_augur_tree_kids), ("unicode/utf8.first", laid_unicode_utf8_first)], narrowed := true }
def TreePathsUptoSaid : Prop := treePathsUptoRow.holds Tryz.pinned (OpenSpec.upto treePathsSpec)

/-- 'augurlaw03.TreeBack', WHERE WHAT IT READS IS OF BULK AT MOST 1048576: true; the input reads as it did. -/
def treeBackUptoRow : OpenClaim := { program := "ytmmakkaolknbaaagreatdoor", sum := "667432377fac5033c9a879138d964b48c9efe493b9179dfe85def62770630809", func := "augur/augurlaw03.TreeBack", spec := "treeBack", inPlace := ["internal/bytealg.abigen_runtime_cmpstring", "internal/bytealg.IndexByteString", "internal/bytealg.IndexString"], unfollowed := true, recurses := true, named := ["internal/strconv.uint64pow10", "math/bits.deBruijn32tab", "math/bits.deBruijn64tab", "unicode/utf8.first", "unicode/utf8.acceptRanges", "internal/bytealg.MaxLen", "strconv.ErrSyntax", "strconv.ErrRange", "augur/tree.kids"], loops := true, apart := false, laid := [("math/bits.deBruijn32tab", laid_math_bits_deBruijn32tab), ("math/bits.deBruijn64tab", laid_math_bits_deBruijn64tab), ("internal/strconv.uint64pow10", laid_internal_strconv_uint64pow10), ("unicode/utf8.acceptRanges", laid_unicode_utf8_acceptRanges), ("strconv.ErrRange", laid_strconv_ErrRange), ("strconv.ErrSyntax", laid_strconv_ErrSyntax), ("augur/tree.kids", laid_augur_tree_kids), ("unicode/utf8.first", laid_unicode_utf8_first)], narrowed := true }
def TreeBackUptoSaid : Prop := treeBackUptoRow.holds Tryz.pinned (OpenSpec.upto treeBackSpec)

end Rows
end Go.Proofs.YtmmakkaolknbaaaGreatDoor
