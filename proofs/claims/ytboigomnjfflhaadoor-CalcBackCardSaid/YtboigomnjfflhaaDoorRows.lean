/-
  NARROWER THAN 'FOR EVERY INPUT', by the rows' own cells (each row's printed sentence says how): CalcDoes: laid · CalcRounds: laid · CalcOrders: laid · CalcOnes: laid · CalcTexts: laid · CalcBack: laid.
  DERIVED. THE GIVEN ROWS OF THIS SEAT. 6 by the template 'for every input the law returns true; each argument reads behind the call as it read before'; 0 by the template 'total and deterministic' (their statements: YtboigomnjfflhaaDoorTotals.lean).
  GIVEN WITH THE SEED: the statements are not yours to turn. If you find one false, say at which input.
  Laid BY PROGRAM, IN A SANDBOX (cutbox-rows.mjs): the forced cells as the released guide's own fill.sh prints them over the translation b37b5f4da2a1467b… (all of the seat's roots in one cut). By AI agents, Wed Nov 11 2026. No macro, syntax, notation, axiom, sorry.
-/
import Derived.Test.YtboigomnjfflhaaDoorChecked
import GoSem.Claim
import GoSem.ClaimJoined
import GoSem.ClaimMapViews
import Derived.JoinedTies
import Derived.KernelRfl
namespace Go.Proofs.YtboigomnjfflhaaDoor
/- THE CELL 'sum', in the pinned program and in every row, IS THE sha256 OF THE DUMP (.gsa) THAT YtboigomnjfflhaaDoorProg.lean LOADS. Nothing in Lean hashes anything: it is a label: what it is worth is what the hold of that sum in a sandbox is worth. -/
noncomputable def Tryd.pinned : Pinned := { name := "ytboigomnjfflhaadoor", sum := "b37b5f4da2a1467bff02768a0453c255945e747dd72bc5c3f5c8b97dfe3365d7", checked := Tryd.checked }
namespace Rows
def none {H : Type} : Left H := { results := [], args := [] }

/- WHAT THE LISTED PACKAGE-LEVEL VARIABLES READ AS WHEN THE CALL BEGINS. Each datum BY PROGRAM (the guide's laid-datum.mjs) off the statement by which the dump's own 'gosem.cut.vars' lays the variable. In a bare row this is a premise. The card (YtboigomnjfflhaaDoorCards.lean) ties it to the program's text. -/
def laid_math_bits_deBruijn32tab {H : Type} : DataW H := .agg [.lit (.int .u8 0), .lit (.int .u8 1), .lit (.int .u8 28), .lit (.int .u8 2), .lit (.int .u8 29), .lit (.int .u8 14), .lit (.int .u8 24), .lit (.int .u8 3), .lit (.int .u8 30), .lit (.int .u8 22), .lit (.int .u8 20), .lit (.int .u8 15), .lit (.int .u8 25), .lit (.int .u8 17), .lit (.int .u8 4), .lit (.int .u8 8), .lit (.int .u8 31), .lit (.int .u8 27), .lit (.int .u8 13), .lit (.int .u8 23), .lit (.int .u8 21), .lit (.int .u8 19), .lit (.int .u8 16), .lit (.int .u8 7), .lit (.int .u8 26), .lit (.int .u8 12), .lit (.int .u8 18), .lit (.int .u8 6), .lit (.int .u8 11), .lit (.int .u8 5), .lit (.int .u8 10), .lit (.int .u8 9)]
def laid_math_bits_deBruijn64tab {H : Type} : DataW H := .agg [.lit (.int .u8 0), .lit (.int .u8 1), .lit (.int .u8 56), .lit (.int .u8 2), .lit (.int .u8 57), .lit (.int .u8 49), .lit (.int .u8 28), .lit (.int .u8 3), .lit (.int .u8 61), .lit (.int .u8 58), .lit (.int .u8 42), .lit (.int .u8 50), .lit (.int .u8 38), .lit (.int .u8 29), .lit (.int .u8 17), .lit (.int .u8 4), .lit (.int .u8 62), .lit (.int .u8 47), .lit (.int .u8 59), .lit (.int .u8 36), .lit (.int .u8 45), .lit (.int .u8 43), .lit (.int .u8 51), .lit (.int .u8 22), .lit (.int .u8 53), .lit (.int .u8 39), .lit (.int .u8 33), .lit (.int .u8 30), .lit (.int .u8 24), .lit (.int .u8 18), .lit (.int .u8 12), .lit (.int .u8 5), .lit (.int .u8 63), .lit (.int .u8 55), .lit (.int .u8 48), .lit (.int .u8 27), .lit (.int .u8 60), .lit (.int .u8 41), .lit (.int .u8 37), .lit (.int .u8 16), .lit (.int .u8 46), .lit (.int .u8 35), .lit (.int .u8 44), .lit (.int .u8 21), .lit (.int .u8 52), .lit (.int .u8 32), .lit (.int .u8 23), .lit (.int .u8 11), .lit (.int .u8 54), .lit (.int .u8 26), .lit (.int .u8 40), .lit (.int .u8 15), .lit (.int .u8 34), .lit (.int .u8 20), .lit (.int .u8 31), .lit (.int .u8 10), .lit (.int .u8 25), .lit (.int .u8 14), .lit (.int .u8 19), .lit (.int .u8 9), .lit (.int .u8 13), .lit (.int .u8 8), .lit (.int .u8 7), .lit (.int .u8 6)]
def laid_internal_strconv_uint64pow10 {H : Type} : DataW H := .agg [.lit (.int .u64 1), .lit (.int .u64 10), .lit (.int .u64 100), .lit (.int .u64 1000), .lit (.int .u64 10000), .lit (.int .u64 100000), .lit (.int .u64 1000000), .lit (.int .u64 10000000), .lit (.int .u64 100000000), .lit (.int .u64 1000000000), .lit (.int .u64 10000000000), .lit (.int .u64 100000000000), .lit (.int .u64 1000000000000), .lit (.int .u64 10000000000000), .lit (.int .u64 100000000000000), .lit (.int .u64 1000000000000000), .lit (.int .u64 10000000000000000), .lit (.int .u64 100000000000000000), .lit (.int .u64 1000000000000000000), .lit (.int .u64 10000000000000000000)]
def laid_strconv_ErrRange {H : Type} : DataW H := .iface "*errors.errorString" (.ptr (.agg [.lit (.string [118, 97, 108, 117, 101, 32, 111, 117, 116, 32, 111, 102, 32, 114, 97, 110, 103, 101])]))
def laid_strconv_ErrSyntax {H : Type} : DataW H := .iface "*errors.errorString" (.ptr (.agg [.lit (.string [105, 110, 118, 97, 108, 105, 100, 32, 115, 121, 110, 116, 97, 120])]))

/-- 'pavanelaw03.CalcDoes': WHATEVER THE INPUT: true; the input reads as it did. -/
def calcDoesSpec : ChangeSpec := { name := "calcDoes", fn := fun _ => fun
  | [d1, d2, d3] => { results := [.lit (.bool true)], args := [d1, d2, d3] }
  | _ => none }
def calcDoesRow : OpenClaim := { program := "ytboigomnjfflhaadoor", sum := "b37b5f4da2a1467bff02768a0453c255945e747dd72bc5c3f5c8b97dfe3365d7", func := "pavane/pavanelaw03.CalcDoes", spec := "calcDoes", named := ["internal/strconv.uint64pow10", "math/bits.deBruijn32tab", "math/bits.deBruijn64tab"], apart := false, laid := [("math/bits.deBruijn32tab", laid_math_bits_deBruijn32tab), ("math/bits.deBruijn64tab", laid_math_bits_deBruijn64tab), ("internal/strconv.uint64pow10", laid_internal_strconv_uint64pow10)] }
def CalcDoesSaid : Prop := calcDoesRow.holds Tryd.pinned (OpenSpec.ofChange calcDoesSpec)

/-- ITS FALSE NEIGHBOUR: 'it returns false'. Refute it at one input. -/
def calcDoesWrong : ChangeSpec := { name := "calcDoes", fn := fun _ => fun
  | [d1, d2, d3] => { results := [.lit (.bool false)], args := [d1, d2, d3] }
  | _ => none }
def CalcDoesWrongFalsely : Prop := calcDoesRow.holds Tryd.pinned (OpenSpec.ofChange calcDoesWrong)

/-- 'pavanelaw03.CalcRounds': WHATEVER THE INPUT: true; the input reads as it did. -/
def calcRoundsSpec : ChangeSpec := { name := "calcRounds", fn := fun _ => fun
  | [d1, d2, d3] => { results := [.lit (.bool true)], args := [d1, d2, d3] }
  | _ => none }
def calcRoundsRow : OpenClaim := { program := "ytboigomnjfflhaadoor", sum := "b37b5f4da2a1467bff02768a0453c255945e747dd72bc5c3f5c8b97dfe3365d7", func := "pavane/pavanelaw03.CalcRounds", spec := "calcRounds", named := ["internal/strconv.uint64pow10", "math/bits.deBruijn32tab", "math/bits.deBruijn64tab"], apart := false, laid := [("math/bits.deBruijn32tab", laid_math_bits_deBruijn32tab), ("math/bits.deBruijn64tab", laid_math_bits_deBruijn64tab), ("internal/strconv.uint64pow10", laid_internal_strconv_uint64pow10)] }
def CalcRoundsSaid : Prop := calcRoundsRow.holds Tryd.pinned (OpenSpec.ofChange calcRoundsSpec)

/-- ITS FALSE NEIGHBOUR: 'it returns false'. Refute it at one input. -/
def calcRoundsWrong : ChangeSpec := { name := "calcRounds", fn := fun _ => fun
  | [d1, d2, d3] => { results := [.lit (.bool false)], args := [d1, d2, d3] }
  | _ => none }
def CalcRoundsWrongFalsely : Prop := calcRoundsRow.holds Tryd.pinned (OpenSpec.ofChange calcRoundsWrong)

/-- 'pavanelaw03.CalcOrders': WHATEVER THE INPUT: true; the input reads as it did. -/
def calcOrdersSpec : ChangeSpec := { name := "calcOrders", fn := fun _ => fun
  | [d1, d2] => { results := [.lit (.bool true)], args := [d1, d2] }
  | _ => none }
def calcOrdersRow : OpenClaim := { program := "ytboigomnjfflhaadoor", sum := "b37b5f4da2a1467bff02768a0453c255945e747dd72bc5c3f5c8b97dfe3365d7", func := "pavane/pavanelaw03.CalcOrders", spec := "calcOrders", named := ["internal/strconv.uint64pow10", "math/bits.deBruijn32tab", "math/bits.deBruijn64tab"], apart := false, laid := [("math/bits.deBruijn32tab", laid_math_bits_deBruijn32tab), ("math/bits.deBruijn64tab", laid_math_bits_deBruijn64tab), ("internal/strconv.uint64pow10", laid_internal_strconv_uint64pow10)] }
def CalcOrdersSaid : Prop := calcOrdersRow.holds Tryd.pinned (OpenSpec.ofChange calcOrdersSpec)

/-- ITS FALSE NEIGHBOUR: 'it returns false'. Refute it at one input. -/
def calcOrdersWrong : ChangeSpec := { name := "calcOrders", fn := fun _ => fun
  | [d1, d2] => { results := [.lit (.bool false)], args := [d1, d2] }
  | _ => none }
def CalcOrdersWrongFalsely : Prop := calcOrdersRow.holds Tryd.pinned (OpenSpec.ofChange calcOrdersWrong)

/-- 'pavanelaw03.CalcOnes': WHATEVER THE INPUT: true; the input reads as it did. -/
def calcOnesSpec : ChangeSpec := { name := "calcOnes", fn := fun _ => fun
  | [d1, d2] => { results := [.lit (.bool true)], args := [d1, d2] }
  | _ => none }
def calcOnesRow : OpenClaim := { program := "ytboigomnjfflhaadoor", sum := "b37b5f4da2a1467bff02768a0453c255945e747dd72bc5c3f5c8b97dfe3365d7", func := "pavane/pavanelaw03.CalcOnes", spec := "calcOnes", named := ["internal/strconv.uint64pow10", "math/bits.deBruijn32tab", "math/bits.deBruijn64tab"], apart := false, laid := [("math/bits.deBruijn32tab", laid_math_bits_deBruijn32tab), ("math/bits.deBruijn64tab", laid_math_bits_deBruijn64tab), ("internal/strconv.uint64pow10", laid_internal_strconv_uint64pow10)] }
def CalcOnesSaid : Prop := calcOnesRow.holds Tryd.pinned (OpenSpec.ofChange calcOnesSpec)

/-- ITS FALSE NEIGHBOUR: 'it returns false'. Refute it at one input. -/
def calcOnesWrong : ChangeSpec := { name := "calcOnes", fn := fun _ => fun
  | [d1, d2] => { results := [.lit (.bool false)], args := [d1, d2] }
  | _ => none }
def CalcOnesWrongFalsely : Prop := calcOnesRow.holds Tryd.pinned (OpenSpec.ofChange calcOnesWrong)

/-- 'pavanelaw03.CalcTexts': WHATEVER THE INPUT: true; the input reads as it did. -/
def calcTextsSpec : ChangeSpec := { name := "calcTexts", fn := fun _ => fun
  | [d1, d2] => { results := [.lit (.bool true)], args := [d1, d2] }
  | _ => none }
def calcTextsRow : OpenClaim := { program := "ytboigomnjfflhaadoor", sum := "b37b5f4da2a1467bff02768a0453c255945e747dd72bc5c3f5c8b97dfe3365d7", func := "pavane/pavanelaw03.CalcTexts", spec := "calcTexts", recurses := true, named := ["internal/strconv.uint64pow10", "math/bits.deBruijn32tab", "math/bits.deBruijn64tab", "strconv.ErrSyntax", "strconv.ErrRange"], apart := false, laid := [("math/bits.deBruijn32tab", laid_math_bits_deBruijn32tab), ("math/bits.deBruijn64tab", laid_math_bits_deBruijn64tab), ("internal/strconv.uint64pow10", laid_internal_strconv_uint64pow10), ("strconv.ErrRange", laid_strconv_ErrRange), ("strconv.ErrSyntax", laid_strconv_ErrSyntax)] }
def CalcTextsSaid : Prop := calcTextsRow.holds Tryd.pinned (OpenSpec.ofChange calcTextsSpec)

/-- ITS FALSE NEIGHBOUR: 'it returns false'. Refute it at one input. -/
def calcTextsWrong : ChangeSpec := { name := "calcTexts", fn := fun _ => fun
  | [d1, d2] => { results := [.lit (.bool false)], args := [d1, d2] }
  | _ => none }
def CalcTextsWrongFalsely : Prop := calcTextsRow.holds Tryd.pinned (OpenSpec.ofChange calcTextsWrong)

/-- 'pavanelaw03.CalcBack': WHATEVER THE INPUT: true; the input reads as it did. -/
def calcBackSpec : ChangeSpec := { name := "calcBack", fn := fun _ => fun
  | [d1, d2] => { results := [.lit (.bool true)], args := [d1, d2] }
  | _ => none }
def calcBackRow : OpenClaim := { program := "ytboigomnjfflhaadoor", sum := "b37b5f4da2a1467bff02768a0453c255945e747dd72bc5c3f5c8b97dfe3365d7", func := "pavane/pavanelaw03.CalcBack", spec := "calcBack", named := ["internal/strconv.uint64pow10", "math/bits.deBruijn32tab", "math/bits.deBruijn64tab", "strconv.ErrSyntax", "strconv.ErrRange"], apart := false, laid := [("math/bits.deBruijn32tab", laid_math_bits_deBruijn32tab), ("math/bits.deBruijn64tab", laid_math_bits_deBruijn64tab), ("internal/strconv.uint64pow10", laid_internal_strconv_uint64pow10), ("strconv.ErrRange", laid_strconv_ErrRange), ("strconv.ErrSyntax", laid_strconv_ErrSyntax)] }
def CalcBackSaid : Prop := calcBackRow.holds Tryd.pinned (OpenSpec.ofChange calcBackSpec)

/-- ITS FALSE NEIGHBOUR: 'it returns false'. Refute it at one input. -/
def calcBackWrong : ChangeSpec := { name := "calcBack", fn := fun _ => fun
  | [d1, d2] => { results := [.lit (.bool false)], args := [d1, d2] }
  | _ => none }
def CalcBackWrongFalsely : Prop := calcBackRow.holds Tryd.pinned (OpenSpec.ofChange calcBackWrong)

/- THE SECOND FORM. 'bulk': how many values and letters a reading holds, each counted each time it is reached (what is shared counts as often as it is met; a slice's spare places count too). A statement '..UptoSaid' is the law's where the arguments, and the package variables that the reading takes, are together of bulk at most 1048576: NARROWER than '..Said'. Prove '..Said' where nothing that the law and all that it calls make is longer than what came in: it says more and counts as full. Else prove '..UptoSaid'. A law counts once. -/
mutual
def uptoBulk {H : Type} : DataW H → Nat
  | .lit (.string bytes) => bytes.length + 1
  | .lit _ => 1
  | .nil => 1
  | .ptr d => uptoBulk d + 1
  | .slice elems spare => uptoBulkAll elems + uptoBulkAll spare + 1
  | .agg parts => uptoBulkAll parts + 1
  | .iface _ d => uptoBulk d + 1
  | .map entries => uptoBulkEntries entries + 1
  | .held _ => 1
def uptoBulkAll {H : Type} : List (DataW H) → Nat
  | [] => 0
  | d :: r => uptoBulk d + uptoBulkAll r
def uptoBulkEntries {H : Type} : List (Lit × DataW H) → Nat
  | [] => 0
  | x :: r => uptoBulkEntry x + uptoBulkEntries r
def uptoBulkEntry {H : Type} : Lit × DataW H → Nat
  | (.string bytes, d) => bytes.length + uptoBulk d + 1
  | (_, d) => uptoBulk d + 1
 end
def uptoSmall : (H : Type) → List (DataW H) → Bool := fun _ ds => decide (uptoBulkAll ds ≤ 1048576)
def OpenSpec.upto (s : _root_.Go.ChangeSpec) : _root_.Go.OpenSpec := { _root_.Go.OpenSpec.ofChange s with cond := some uptoSmall }

/-- 'pavanelaw03.CalcDoes', WHERE WHAT IT READS IS OF BULK AT MOST 1048576: true; the input reads as it did. -/
def calcDoesUptoRow : OpenClaim := { program := "ytboigomnjfflhaadoor", sum := "b37b5f4da2a1467bff02768a0453c255945e747dd72bc5c3f5c8b97dfe3365d7", func := "pavane/pavanelaw03.CalcDoes", spec := "calcDoes", named := ["internal/strconv.uint64pow10", "math/bits.deBruijn32tab", "math/bits.deBruijn64tab"], apart := false, laid := [("math/bits.deBruijn32tab", laid_math_bits_deBruijn32tab), ("math/bits.deBruijn64tab", laid_math_bits_deBruijn64tab), ("internal/strconv.uint64pow10", laid_internal_strconv_uint64pow10)], narrowed := true }
def CalcDoesUptoSaid : Prop := calcDoesUptoRow.holds Tryd.pinned (OpenSpec.upto calcDoesSpec)

/-- 'pavanelaw03.CalcRounds', WHERE WHAT IT READS IS OF BULK AT MOST 1048576: true; the input reads as it did. -/
def calcRoundsUptoRow : OpenClaim := { program := "ytboigomnjfflhaadoor", sum := "b37b5f4da2a1467bff02768a0453c255945e747dd72bc5c3f5c8b97dfe3365d7", func := "pavane/pavanelaw03.CalcRounds", spec := "calcRounds", named := ["internal/strconv.uint64pow10", "math/bits.deBruijn32tab", "math/bits.deBruijn64tab"], apart := false, laid := [("math/bits.deBruijn32tab", laid_math_bits_deBruijn32tab), ("math/bits.deBruijn64tab", laid_math_bits_deBruijn64tab), ("internal/strconv.uint64pow10", laid_internal_strconv_uint64pow10)], narrowed := true }
def CalcRoundsUptoSaid : Prop := calcRoundsUptoRow.holds Tryd.pinned (OpenSpec.upto calcRoundsSpec)

/-- 'pavanelaw03.CalcOrders', WHERE WHAT IT READS IS OF BULK AT MOST 1048576: true; the input reads as it did. -/
def calcOrdersUptoRow : OpenClaim := { program := "ytboigomnjfflhaadoor", sum := "b37b5f4da2a1467bff02768a0453c255945e747dd72bc5c3f5c8b97dfe3365d7", func := "pavane/pavanelaw03.CalcOrders", spec := "calcOrders", named := ["internal/strconv.uint64pow10", "math/bits.deBruijn32tab", "math/bits.deBruijn64tab"], apart := false, laid := [("math/bits.deBruijn32tab", laid_math_bits_deBruijn32tab), ("math/bits.deBruijn64tab", laid_math_bits_deBruijn64tab), ("internal/strconv.uint64pow10", laid_internal_strconv_uint64pow10)], narrowed := true }
def CalcOrdersUptoSaid : Prop := calcOrdersUptoRow.holds Tryd.pinned (OpenSpec.upto calcOrdersSpec)

/-- 'pavanelaw03.CalcOnes', WHERE WHAT IT READS IS OF BULK AT MOST 1048576: true; the input reads as it did. -/
def calcOnesUptoRow : OpenClaim := { program := "ytboigomnjfflhaadoor", sum := "b37b5f4da2a1467bff02768a0453c255945e747dd72bc5c3f5c8b97dfe3365d7", func := "pavane/pavanelaw03.CalcOnes", spec := "calcOnes", named := ["internal/strconv.uint64pow10", "math/bits.deBruijn32tab", "math/bits.deBruijn64tab"], apart := false, laid := [("math/bits.deBruijn32tab", laid_math_bits_deBruijn32tab), ("math/bits.deBruijn64tab", laid_math_bits_deBruijn64tab), ("internal/strconv.uint64pow10", laid_internal_strconv_uint64pow10)], narrowed := true }
def CalcOnesUptoSaid : Prop := calcOnesUptoRow.holds Tryd.pinned (OpenSpec.upto calcOnesSpec)

/-- 'pavanelaw03.CalcTexts', WHERE WHAT IT READS IS OF BULK AT MOST 1048576: true; the input reads as it did. -/
def calcTextsUptoRow : OpenClaim := { program := "ytboigomnjfflhaadoor", sum := "b37b5f4da2a1467bff02768a0453c255945e747dd72bc5c3f5c8b97dfe3365d7", func := "pavane/pavanelaw03.CalcTexts", spec := "calcTexts", recurses := true, named := ["internal/strconv.uint64pow10", "math/bits.deBruijn32tab", "math/bits.deBruijn64tab", "strconv.ErrSyntax", "strconv.ErrRange"], apart := false, laid := [("math/bits.deBruijn32tab", laid_math_bits_deBruijn32tab), ("math/bits.deBruijn64tab", laid_math_bits_deBruijn64tab), ("internal/strconv.uint64pow10", laid_internal_strconv_uint64pow10), ("strconv.ErrRange", laid_strconv_ErrRange), ("strconv.ErrSyntax", laid_strconv_ErrSyntax)], narrowed := true }
def CalcTextsUptoSaid : Prop := calcTextsUptoRow.holds Tryd.pinned (OpenSpec.upto calcTextsSpec)

/-- 'pavanelaw03.CalcBack', WHERE WHAT IT READS IS OF BULK AT MOST 1048576: true; the input reads as it did. -/
def calcBackUptoRow : OpenClaim := { program := "ytboigomnjfflhaadoor", sum := "b37b5f4da2a1467bff02768a0453c255945e747dd72bc5c3f5c8b97dfe3365d7", func := "pavane/pavanelaw03.CalcBack", spec := "calcBack", named := ["internal/strconv.uint64pow10", "math/bits.deBruijn32tab", "math/bits.deBruijn64tab", "strconv.ErrSyntax", "strconv.ErrRange"], apart := false, laid := [("math/bits.deBruijn32tab", laid_math_bits_deBruijn32tab), ("math/bits.deBruijn64tab", laid_math_bits_deBruijn64tab), ("internal/strconv.uint64pow10", laid_internal_strconv_uint64pow10), ("strconv.ErrRange", laid_strconv_ErrRange), ("strconv.ErrSyntax", laid_strconv_ErrSyntax)], narrowed := true }
def CalcBackUptoSaid : Prop := calcBackUptoRow.holds Tryd.pinned (OpenSpec.upto calcBackSpec)

end Rows
end Go.Proofs.YtboigomnjfflhaaDoor
