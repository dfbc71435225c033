/-
  No cell of these rows narrows 'for every input' (looked for: loops, veiled, ifaces, maps, wideKeys, modest, calm, conditions, laid).
  DERIVED. THE GIVEN ROWS OF THIS SEAT. 17 by the template 'for every input the law returns true; each argument reads behind the call as it read before'; 0 by the template 'total and deterministic' (their statements: YtaadbklimfngiaaTotals.lean).
  GIVEN WITH THE SEED: the statements are not yours to turn. If you find one false, say at which input.
  Laid BY PROGRAM, IN A SANDBOX (cutbox-rows.mjs): the forced cells as the released guide's own fill.sh prints them over the translation 61ab84750bd55343… (all of the seat's roots in one cut). By AI agents, Wed Nov 11 2026. No macro, syntax, notation, axiom, sorry.
-/
import Derived.Test.YtaadbklimfngiaaChecked
import GoSem.Claim
import GoSem.ClaimJoined
import GoSem.ClaimMapViews
import Derived.JoinedTies
import Derived.KernelRfl
namespace Go.Proofs.Ytaadbklimfngiaa
/- THE CELL 'sum', in the pinned program and in every row, IS THE sha256 OF THE DUMP (.gsa) THAT YtaadbklimfngiaaProg.lean LOADS. Nothing in Lean hashes anything: it is a label: what it is worth is what the hold of that sum in a sandbox is worth. -/
noncomputable def Try.pinned : Pinned := { name := "ytaadbklimfngiaa", sum := "61ab84750bd55343145cf3f502925ecc059e88bceade2a5e03906ff1a6b2783a", checked := Try.checked }
namespace Rows
def none {H : Type} : Left H := { results := [], args := [] }

/-- 'pavanelaw01.OctetLong': WHATEVER THE INPUT: true; the input reads as it did. -/
def octetLongSpec : ChangeSpec := { name := "octetLong", fn := fun _ => fun
  | [d1, d2] => { results := [.lit (.bool true)], args := [d1, d2] }
  | _ => none }
def octetLongRow : OpenClaim := { program := "ytaadbklimfngiaa", sum := "61ab84750bd55343145cf3f502925ecc059e88bceade2a5e03906ff1a6b2783a", func := "pavane/pavanelaw01.OctetLong", spec := "octetLong", apart := false }
def OctetLongSaid : Prop := octetLongRow.holds Try.pinned (OpenSpec.ofChange octetLongSpec)

/-- ITS FALSE NEIGHBOUR: 'it returns false'. Refute it at one input. -/
def octetLongWrong : ChangeSpec := { name := "octetLong", fn := fun _ => fun
  | [d1, d2] => { results := [.lit (.bool false)], args := [d1, d2] }
  | _ => none }
def OctetLongWrongFalsely : Prop := octetLongRow.holds Try.pinned (OpenSpec.ofChange octetLongWrong)

/-- 'pavanelaw02.SealSums': WHATEVER THE INPUT: true; the input reads as it did. -/
def sealSumsSpec : ChangeSpec := { name := "sealSums", fn := fun _ => fun
  | [d1, d2] => { results := [.lit (.bool true)], args := [d1, d2] }
  | _ => none }
def sealSumsRow : OpenClaim := { program := "ytaadbklimfngiaa", sum := "61ab84750bd55343145cf3f502925ecc059e88bceade2a5e03906ff1a6b2783a", func := "pavane/pavanelaw02.SealSums", spec := "sealSums", apart := false }
def SealSumsSaid : Prop := sealSumsRow.holds Try.pinned (OpenSpec.ofChange sealSumsSpec)

/-- ITS FALSE NEIGHBOUR: 'it returns false'. Refute it at one input. -/
def sealSumsWrong : ChangeSpec := { name := "sealSums", fn := fun _ => fun
  | [d1, d2] => { results := [.lit (.bool false)], args := [d1, d2] }
  | _ => none }
def SealSumsWrongFalsely : Prop := sealSumsRow.holds Try.pinned (OpenSpec.ofChange sealSumsWrong)

/-- 'pavanelaw01.OctetCounts': WHATEVER THE INPUT: true; the input reads as it did. -/
def octetCountsSpec : ChangeSpec := { name := "octetCounts", fn := fun _ => fun
  | [d1, d2] => { results := [.lit (.bool true)], args := [d1, d2] }
  | _ => none }
def octetCountsRow : OpenClaim := { program := "ytaadbklimfngiaa", sum := "61ab84750bd55343145cf3f502925ecc059e88bceade2a5e03906ff1a6b2783a", func := "pavane/pavanelaw01.OctetCounts", spec := "octetCounts", recurses := true, apart := false }
def OctetCountsSaid : Prop := octetCountsRow.holds Try.pinned (OpenSpec.ofChange octetCountsSpec)

/-- ITS FALSE NEIGHBOUR: 'it returns false'. Refute it at one input. -/
def octetCountsWrong : ChangeSpec := { name := "octetCounts", fn := fun _ => fun
  | [d1, d2] => { results := [.lit (.bool false)], args := [d1, d2] }
  | _ => none }
def OctetCountsWrongFalsely : Prop := octetCountsRow.holds Try.pinned (OpenSpec.ofChange octetCountsWrong)

/-- 'pavanelaw01.OctetNumbers': WHATEVER THE INPUT: true; the input reads as it did. -/
def octetNumbersSpec : ChangeSpec := { name := "octetNumbers", fn := fun _ => fun
  | [d1, d2] => { results := [.lit (.bool true)], args := [d1, d2] }
  | _ => none }
def octetNumbersRow : OpenClaim := { program := "ytaadbklimfngiaa", sum := "61ab84750bd55343145cf3f502925ecc059e88bceade2a5e03906ff1a6b2783a", func := "pavane/pavanelaw01.OctetNumbers", spec := "octetNumbers", recurses := true, apart := false }
def OctetNumbersSaid : Prop := octetNumbersRow.holds Try.pinned (OpenSpec.ofChange octetNumbersSpec)

/-- ITS FALSE NEIGHBOUR: 'it returns false'. Refute it at one input. -/
def octetNumbersWrong : ChangeSpec := { name := "octetNumbers", fn := fun _ => fun
  | [d1, d2] => { results := [.lit (.bool false)], args := [d1, d2] }
  | _ => none }
def OctetNumbersWrongFalsely : Prop := octetNumbersRow.holds Try.pinned (OpenSpec.ofChange octetNumbersWrong)

/-- 'pavanelaw01.OctetTexts': WHATEVER THE INPUT: true; the input reads as it did. -/
def octetTextsSpec : ChangeSpec := { name := "octetTexts", fn := fun _ => fun
  | [d1, d2] => { results := [.lit (.bool true)], args := [d1, d2] }
  | _ => none }
def octetTextsRow : OpenClaim := { program := "ytaadbklimfngiaa", sum := "61ab84750bd55343145cf3f502925ecc059e88bceade2a5e03906ff1a6b2783a", func := "pavane/pavanelaw01.OctetTexts", spec := "octetTexts", recurses := true, apart := false }
def OctetTextsSaid : Prop := octetTextsRow.holds Try.pinned (OpenSpec.ofChange octetTextsSpec)

/-- ITS FALSE NEIGHBOUR: 'it returns false'. Refute it at one input. -/
def octetTextsWrong : ChangeSpec := { name := "octetTexts", fn := fun _ => fun
  | [d1, d2] => { results := [.lit (.bool false)], args := [d1, d2] }
  | _ => none }
def OctetTextsWrongFalsely : Prop := octetTextsRow.holds Try.pinned (OpenSpec.ofChange octetTextsWrong)

/-- 'pavanelaw01.OctetRows': WHATEVER THE INPUT: true; the input reads as it did. -/
def octetRowsSpec : ChangeSpec := { name := "octetRows", fn := fun _ => fun
  | [d1, d2] => { results := [.lit (.bool true)], args := [d1, d2] }
  | _ => none }
def octetRowsRow : OpenClaim := { program := "ytaadbklimfngiaa", sum := "61ab84750bd55343145cf3f502925ecc059e88bceade2a5e03906ff1a6b2783a", func := "pavane/pavanelaw01.OctetRows", spec := "octetRows", recurses := true, apart := false }
def OctetRowsSaid : Prop := octetRowsRow.holds Try.pinned (OpenSpec.ofChange octetRowsSpec)

/-- ITS FALSE NEIGHBOUR: 'it returns false'. Refute it at one input. -/
def octetRowsWrong : ChangeSpec := { name := "octetRows", fn := fun _ => fun
  | [d1, d2] => { results := [.lit (.bool false)], args := [d1, d2] }
  | _ => none }
def OctetRowsWrongFalsely : Prop := octetRowsRow.holds Try.pinned (OpenSpec.ofChange octetRowsWrong)

/-- 'pavanelaw01.OctetBack': WHATEVER THE INPUT: true; the input reads as it did. -/
def octetBackSpec : ChangeSpec := { name := "octetBack", fn := fun _ => fun
  | [d1, d2, d3, d4] => { results := [.lit (.bool true)], args := [d1, d2, d3, d4] }
  | _ => none }
def octetBackRow : OpenClaim := { program := "ytaadbklimfngiaa", sum := "61ab84750bd55343145cf3f502925ecc059e88bceade2a5e03906ff1a6b2783a", func := "pavane/pavanelaw01.OctetBack", spec := "octetBack", apart := false }
def OctetBackSaid : Prop := octetBackRow.holds Try.pinned (OpenSpec.ofChange octetBackSpec)

/-- ITS FALSE NEIGHBOUR: 'it returns false'. Refute it at one input. -/
def octetBackWrong : ChangeSpec := { name := "octetBack", fn := fun _ => fun
  | [d1, d2, d3, d4] => { results := [.lit (.bool false)], args := [d1, d2, d3, d4] }
  | _ => none }
def OctetBackWrongFalsely : Prop := octetBackRow.holds Try.pinned (OpenSpec.ofChange octetBackWrong)

/-- 'pavanelaw01.OctetForms': WHATEVER THE INPUT: true; the input reads as it did. -/
def octetFormsSpec : ChangeSpec := { name := "octetForms", fn := fun _ => fun
  | [d] => { results := [.lit (.bool true)], args := [d] }
  | _ => none }
def octetFormsRow : OpenClaim := { program := "ytaadbklimfngiaa", sum := "61ab84750bd55343145cf3f502925ecc059e88bceade2a5e03906ff1a6b2783a", func := "pavane/pavanelaw01.OctetForms", spec := "octetForms", apart := false }
def OctetFormsSaid : Prop := octetFormsRow.holds Try.pinned (OpenSpec.ofChange octetFormsSpec)

/-- ITS FALSE NEIGHBOUR: 'it returns false'. Refute it at one input. -/
def octetFormsWrong : ChangeSpec := { name := "octetForms", fn := fun _ => fun
  | [d] => { results := [.lit (.bool false)], args := [d] }
  | _ => none }
def OctetFormsWrongFalsely : Prop := octetFormsRow.holds Try.pinned (OpenSpec.ofChange octetFormsWrong)

/-- 'pavanelaw02.SealCloses': WHATEVER THE INPUT: true; the input reads as it did. -/
def sealClosesSpec : ChangeSpec := { name := "sealCloses", fn := fun _ => fun
  | [d1, d2] => { results := [.lit (.bool true)], args := [d1, d2] }
  | _ => none }
def sealClosesRow : OpenClaim := { program := "ytaadbklimfngiaa", sum := "61ab84750bd55343145cf3f502925ecc059e88bceade2a5e03906ff1a6b2783a", func := "pavane/pavanelaw02.SealCloses", spec := "sealCloses", inPlace := ["internal/bytealg.MakeNoZero"], recurses := true, apart := false }
def SealClosesSaid : Prop := sealClosesRow.holds Try.pinned (OpenSpec.ofChange sealClosesSpec)

/-- ITS FALSE NEIGHBOUR: 'it returns false'. Refute it at one input. -/
def sealClosesWrong : ChangeSpec := { name := "sealCloses", fn := fun _ => fun
  | [d1, d2] => { results := [.lit (.bool false)], args := [d1, d2] }
  | _ => none }
def SealClosesWrongFalsely : Prop := sealClosesRow.holds Try.pinned (OpenSpec.ofChange sealClosesWrong)

/-- 'pavanelaw02.SealBack': WHATEVER THE INPUT: true; the input reads as it did. -/
def sealBackSpec : ChangeSpec := { name := "sealBack", fn := fun _ => fun
  | [d1, d2] => { results := [.lit (.bool true)], args := [d1, d2] }
  | _ => none }
def sealBackRow : OpenClaim := { program := "ytaadbklimfngiaa", sum := "61ab84750bd55343145cf3f502925ecc059e88bceade2a5e03906ff1a6b2783a", func := "pavane/pavanelaw02.SealBack", spec := "sealBack", inPlace := ["internal/bytealg.MakeNoZero"], apart := false }
def SealBackSaid : Prop := sealBackRow.holds Try.pinned (OpenSpec.ofChange sealBackSpec)

/-- ITS FALSE NEIGHBOUR: 'it returns false'. Refute it at one input. -/
def sealBackWrong : ChangeSpec := { name := "sealBack", fn := fun _ => fun
  | [d1, d2] => { results := [.lit (.bool false)], args := [d1, d2] }
  | _ => none }
def SealBackWrongFalsely : Prop := sealBackRow.holds Try.pinned (OpenSpec.ofChange sealBackWrong)

/-- 'pavanelaw02.SealRows': WHATEVER THE INPUT: true; the input reads as it did. -/
def sealRowsSpec : ChangeSpec := { name := "sealRows", fn := fun _ => fun
  | [d1, d2, d3, d4, d5] => { results := [.lit (.bool true)], args := [d1, d2, d3, d4, d5] }
  | _ => none }
def sealRowsRow : OpenClaim := { program := "ytaadbklimfngiaa", sum := "61ab84750bd55343145cf3f502925ecc059e88bceade2a5e03906ff1a6b2783a", func := "pavane/pavanelaw02.SealRows", spec := "sealRows", inPlace := ["internal/bytealg.MakeNoZero"], recurses := true, apart := false }
def SealRowsSaid : Prop := sealRowsRow.holds Try.pinned (OpenSpec.ofChange sealRowsSpec)

/-- ITS FALSE NEIGHBOUR: 'it returns false'. Refute it at one input. -/
def sealRowsWrong : ChangeSpec := { name := "sealRows", fn := fun _ => fun
  | [d1, d2, d3, d4, d5] => { results := [.lit (.bool false)], args := [d1, d2, d3, d4, d5] }
  | _ => none }
def SealRowsWrongFalsely : Prop := sealRowsRow.holds Try.pinned (OpenSpec.ofChange sealRowsWrong)

/-- 'pavanelaw02.SealTorn': WHATEVER THE INPUT: true; the input reads as it did. -/
def sealTornSpec : ChangeSpec := { name := "sealTorn", fn := fun _ => fun
  | [d1, d2] => { results := [.lit (.bool true)], args := [d1, d2] }
  | _ => none }
def sealTornRow : OpenClaim := { program := "ytaadbklimfngiaa", sum := "61ab84750bd55343145cf3f502925ecc059e88bceade2a5e03906ff1a6b2783a", func := "pavane/pavanelaw02.SealTorn", spec := "sealTorn", inPlace := ["internal/bytealg.MakeNoZero"], apart := false }
def SealTornSaid : Prop := sealTornRow.holds Try.pinned (OpenSpec.ofChange sealTornSpec)

/-- ITS FALSE NEIGHBOUR: 'it returns false'. Refute it at one input. -/
def sealTornWrong : ChangeSpec := { name := "sealTorn", fn := fun _ => fun
  | [d1, d2] => { results := [.lit (.bool false)], args := [d1, d2] }
  | _ => none }
def SealTornWrongFalsely : Prop := sealTornRow.holds Try.pinned (OpenSpec.ofChange sealTornWrong)

/-- 'pavanelaw02.SealJoins': WHATEVER THE INPUT: true; the input reads as it did. -/
def sealJoinsSpec : ChangeSpec := { name := "sealJoins", fn := fun _ => fun
  | [d1, d2] => { results := [.lit (.bool true)], args := [d1, d2] }
  | _ => none }
def sealJoinsRow : OpenClaim := { program := "ytaadbklimfngiaa", sum := "61ab84750bd55343145cf3f502925ecc059e88bceade2a5e03906ff1a6b2783a", func := "pavane/pavanelaw02.SealJoins", spec := "sealJoins", inPlace := ["internal/bytealg.MakeNoZero"], apart := false }
def SealJoinsSaid : Prop := sealJoinsRow.holds Try.pinned (OpenSpec.ofChange sealJoinsSpec)

/-- ITS FALSE NEIGHBOUR: 'it returns false'. Refute it at one input. -/
def sealJoinsWrong : ChangeSpec := { name := "sealJoins", fn := fun _ => fun
  | [d1, d2] => { results := [.lit (.bool false)], args := [d1, d2] }
  | _ => none }
def SealJoinsWrongFalsely : Prop := sealJoinsRow.holds Try.pinned (OpenSpec.ofChange sealJoinsWrong)

/-- 'pavanelaw23.KeepCodes': WHATEVER THE INPUT: true; the input reads as it did. -/
def keepCodesSpec : ChangeSpec := { name := "keepCodes", fn := fun _ => fun
  | [d1, d2] => { results := [.lit (.bool true)], args := [d1, d2] }
  | _ => none }
def keepCodesRow : OpenClaim := { program := "ytaadbklimfngiaa", sum := "61ab84750bd55343145cf3f502925ecc059e88bceade2a5e03906ff1a6b2783a", func := "pavane/pavanelaw23.KeepCodes", spec := "keepCodes", inPlace := ["internal/bytealg.MakeNoZero"], unfollowed := true, recurses := true, apart := false }
def KeepCodesSaid : Prop := keepCodesRow.holds Try.pinned (OpenSpec.ofChange keepCodesSpec)

/-- ITS FALSE NEIGHBOUR: 'it returns false'. Refute it at one input. -/
def keepCodesWrong : ChangeSpec := { name := "keepCodes", fn := fun _ => fun
  | [d1, d2] => { results := [.lit (.bool false)], args := [d1, d2] }
  | _ => none }
def KeepCodesWrongFalsely : Prop := keepCodesRow.holds Try.pinned (OpenSpec.ofChange keepCodesWrong)

/-- 'pavanelaw23.KeepBack': WHATEVER THE INPUT: true; the input reads as it did. -/
def keepBackSpec : ChangeSpec := { name := "keepBack", fn := fun _ => fun
  | [d1, d2] => { results := [.lit (.bool true)], args := [d1, d2] }
  | _ => none }
def keepBackRow : OpenClaim := { program := "ytaadbklimfngiaa", sum := "61ab84750bd55343145cf3f502925ecc059e88bceade2a5e03906ff1a6b2783a", func := "pavane/pavanelaw23.KeepBack", spec := "keepBack", inPlace := ["internal/bytealg.MakeNoZero"], unfollowed := true, recurses := true, apart := false }
def KeepBackSaid : Prop := keepBackRow.holds Try.pinned (OpenSpec.ofChange keepBackSpec)

/-- ITS FALSE NEIGHBOUR: 'it returns false'. Refute it at one input. -/
def keepBackWrong : ChangeSpec := { name := "keepBack", fn := fun _ => fun
  | [d1, d2] => { results := [.lit (.bool false)], args := [d1, d2] }
  | _ => none }
def KeepBackWrongFalsely : Prop := keepBackRow.holds Try.pinned (OpenSpec.ofChange keepBackWrong)

/-- 'pavanelaw23.KeepCollects': WHATEVER THE INPUT: true; the input reads as it did. -/
def keepCollectsSpec : ChangeSpec := { name := "keepCollects", fn := fun _ => fun
  | [d] => { results := [.lit (.bool true)], args := [d] }
  | _ => none }
def keepCollectsRow : OpenClaim := { program := "ytaadbklimfngiaa", sum := "61ab84750bd55343145cf3f502925ecc059e88bceade2a5e03906ff1a6b2783a", func := "pavane/pavanelaw23.KeepCollects", spec := "keepCollects", inPlace := ["internal/bytealg.MakeNoZero"], unfollowed := true, recurses := true, apart := false }
def KeepCollectsSaid : Prop := keepCollectsRow.holds Try.pinned (OpenSpec.ofChange keepCollectsSpec)

/-- ITS FALSE NEIGHBOUR: 'it returns false'. Refute it at one input. -/
def keepCollectsWrong : ChangeSpec := { name := "keepCollects", fn := fun _ => fun
  | [d] => { results := [.lit (.bool false)], args := [d] }
  | _ => none }
def KeepCollectsWrongFalsely : Prop := keepCollectsRow.holds Try.pinned (OpenSpec.ofChange keepCollectsWrong)

/-- 'pavanelaw18.ImageCodes': WHATEVER THE INPUT: true; the input reads as it did. -/
def imageCodesSpec : ChangeSpec := { name := "imageCodes", fn := fun _ => fun
  | [d1, d2] => { results := [.lit (.bool true)], args := [d1, d2] }
  | _ => none }
def imageCodesRow : OpenClaim := { program := "ytaadbklimfngiaa", sum := "61ab84750bd55343145cf3f502925ecc059e88bceade2a5e03906ff1a6b2783a", func := "pavane/pavanelaw18.ImageCodes", spec := "imageCodes", inPlace := ["internal/bytealg.MakeNoZero"], unfollowed := true, recurses := true, apart := false }
def ImageCodesSaid : Prop := imageCodesRow.holds Try.pinned (OpenSpec.ofChange imageCodesSpec)

/-- ITS FALSE NEIGHBOUR: 'it returns false'. Refute it at one input. -/
def imageCodesWrong : ChangeSpec := { name := "imageCodes", fn := fun _ => fun
  | [d1, d2] => { results := [.lit (.bool false)], args := [d1, d2] }
  | _ => none }
def ImageCodesWrongFalsely : Prop := imageCodesRow.holds Try.pinned (OpenSpec.ofChange imageCodesWrong)

/- THE SECOND FORM. 'bulk': how many values and letters a reading holds, each counted each time it is reached (what is shared counts as often as it is met; a slice's spare places count too). A statement '..UptoSaid' is the law's where the arguments, and the package variables that the reading takes, are together of bulk at most 1048576: NARROWER than '..Said'. Prove '..Said' where nothing that the law and all that it calls make is longer than what came in: it says more and counts as full. Else prove '..UptoSaid'. A law counts once. -/
mutual
def uptoBulk {H : Type} : DataW H → Nat
  | .lit (.string bytes) => bytes.length + 1
  | .lit _ => 1
  | .nil => 1
  | .ptr d => uptoBulk d + 1
  | .slice elems spare => uptoBulkAll elems + uptoBulkAll spare + 1
  | .agg parts => uptoBulkAll parts + 1
  | .iface _ d => uptoBulk d + 1
  | .map entries => uptoBulkEntries entries + 1
  | .held _ => 1
def uptoBulkAll {H : Type} : List (DataW H) → Nat
  | [] => 0
  | d :: r => uptoBulk d + uptoBulkAll r
def uptoBulkEntries {H : Type} : List (Lit × DataW H) → Nat
  | [] => 0
  | x :: r => uptoBulkEntry x + uptoBulkEntries r
def uptoBulkEntry {H : Type} : Lit × DataW H → Nat
  | (.string bytes, d) => bytes.length + uptoBulk d + 1
  | (_, d) => uptoBulk d + 1
 end
def uptoSmall : (H : Type) → List (DataW H) → Bool := fun _ ds => decide (uptoBulkAll ds ≤ 1048576)
def OpenSpec.upto (s : _root_.Go.ChangeSpec) : _root_.Go.OpenSpec := { _root_.Go.OpenSpec.ofChange s with cond := some uptoSmall }

/-- 'pavanelaw01.OctetLong', WHERE WHAT IT READS IS OF BULK AT MOST 1048576: true; the input reads as it did. -/
def octetLongUptoRow : OpenClaim := { program := "ytaadbklimfngiaa", sum := "61ab84750bd55343145cf3f502925ecc059e88bceade2a5e03906ff1a6b2783a", func := "pavane/pavanelaw01.OctetLong", spec := "octetLong", apart := false, narrowed := true }
def OctetLongUptoSaid : Prop := octetLongUptoRow.holds Try.pinned (OpenSpec.upto octetLongSpec)

/-- 'pavanelaw02.SealSums', WHERE WHAT IT READS IS OF BULK AT MOST 1048576: true; the input reads as it did. -/
def sealSumsUptoRow : OpenClaim := { program := "ytaadbklimfngiaa", sum := "61ab84750bd55343145cf3f502925ecc059e88bceade2a5e03906ff1a6b2783a", func := "pavane/pavanelaw02.SealSums", spec := "sealSums", apart := false, narrowed := true }
def SealSumsUptoSaid : Prop := sealSumsUptoRow.holds Try.pinned (OpenSpec.upto sealSumsSpec)

/-- 'pavanelaw01.OctetCounts', WHERE WHAT IT READS IS OF BULK AT MOST 1048576: true; the input reads as it did. -/
def octetCountsUptoRow : OpenClaim := { program := "ytaadbklimfngiaa", sum := "61ab84750bd55343145cf3f502925ecc059e88bceade2a5e03906ff1a6b2783a", func := "pavane/pavanelaw01.OctetCounts", spec := "octetCounts", recurses := true, apart := false, narrowed := true }
def OctetCountsUptoSaid : Prop := octetCountsUptoRow.holds Try.pinned (OpenSpec.upto octetCountsSpec)

/-- 'pavanelaw01.OctetNumbers', WHERE WHAT IT READS IS OF BULK AT MOST 1048576: true; the input reads as it did. -/
def octetNumbersUptoRow : OpenClaim := { program := "ytaadbklimfngiaa", sum := "61ab84750bd55343145cf3f502925ecc059e88bceade2a5e03906ff1a6b2783a", func := "pavane/pavanelaw01.OctetNumbers", spec := "octetNumbers", recurses := true, apart := false, narrowed := true }
def OctetNumbersUptoSaid : Prop := octetNumbersUptoRow.holds Try.pinned (OpenSpec.upto octetNumbersSpec)

/-- 'pavanelaw01.OctetTexts', WHERE WHAT IT READS IS OF BULK AT MOST 1048576: true; the input reads as it did. -/
def octetTextsUptoRow : OpenClaim := { program := "ytaadbklimfngiaa", sum := "61ab84750bd55343145cf3f502925ecc059e88bceade2a5e03906ff1a6b2783a", func := "pavane/pavanelaw01.OctetTexts", spec := "octetTexts", recurses := true, apart := false, narrowed := true }
def OctetTextsUptoSaid : Prop := octetTextsUptoRow.holds Try.pinned (OpenSpec.upto octetTextsSpec)

/-- 'pavanelaw01.OctetRows', WHERE WHAT IT READS IS OF BULK AT MOST 1048576: true; the input reads as it did. -/
def octetRowsUptoRow : OpenClaim := { program := "ytaadbklimfngiaa", sum := "61ab84750bd55343145cf3f502925ecc059e88bceade2a5e03906ff1a6b2783a", func := "pavane/pavanelaw01.OctetRows", spec := "octetRows", recurses := true, apart := false, narrowed := true }
def OctetRowsUptoSaid : Prop := octetRowsUptoRow.holds Try.pinned (OpenSpec.upto octetRowsSpec)

/-- 'pavanelaw01.OctetBack', WHERE WHAT IT READS IS OF BULK AT MOST 1048576: true; the input reads as it did. -/
def octetBackUptoRow : OpenClaim := { program := "ytaadbklimfngiaa", sum := "61ab84750bd55343145cf3f502925ecc059e88bceade2a5e03906ff1a6b2783a", func := "pavane/pavanelaw01.OctetBack", spec := "octetBack", apart := false, narrowed := true }
def OctetBackUptoSaid : Prop := octetBackUptoRow.holds Try.pinned (OpenSpec.upto octetBackSpec)

/-- 'pavanelaw01.OctetForms', WHERE WHAT IT READS IS OF BULK AT MOST 1048576: true; the input reads as it did. -/
def octetFormsUptoRow : OpenClaim := { program := "ytaadbklimfngiaa", sum := "61ab84750bd55343145cf3f502925ecc059e88bceade2a5e03906ff1a6b2783a", func := "pavane/pavanelaw01.OctetForms", spec := "octetForms", apart := false, narrowed := true }
def OctetFormsUptoSaid : Prop := octetFormsUptoRow.holds Try.pinned (OpenSpec.upto octetFormsSpec)

/-- 'pavanelaw02.SealCloses', WHERE WHAT IT READS IS OF BULK AT MOST 1048576: true; the input reads as it did. -/
def sealClosesUptoRow : OpenClaim := { program := "ytaadbklimfngiaa", sum := "61ab84750bd55343145cf3f502925ecc059e88bceade2a5e03906ff1a6b2783a", func := "pavane/pavanelaw02.SealCloses", spec := "sealCloses", inPlace := ["internal/bytealg.MakeNoZero"], recurses := true, apart := false, narrowed := true }
def SealClosesUptoSaid : Prop := sealClosesUptoRow.holds Try.pinned (OpenSpec.upto sealClosesSpec)

/-- 'pavanelaw02.SealBack', WHERE WHAT IT READS IS OF BULK AT MOST 1048576: true; the input reads as it did. -/
def sealBackUptoRow : OpenClaim := { program := "ytaadbklimfngiaa", sum := "61ab84750bd55343145cf3f502925ecc059e88bceade2a5e03906ff1a6b2783a", func := "pavane/pavanelaw02.SealBack", spec := "sealBack", inPlace := ["internal/bytealg.MakeNoZero"], apart := false, narrowed := true }
def SealBackUptoSaid : Prop := sealBackUptoRow.holds Try.pinned (OpenSpec.upto sealBackSpec)

/-- 'pavanelaw02.SealRows', WHERE WHAT IT READS IS OF BULK AT MOST 1048576: true; the input reads as it did. -/
def sealRowsUptoRow : OpenClaim := { program := "ytaadbklimfngiaa", sum := "61ab84750bd55343145cf3f502925ecc059e88bceade2a5e03906ff1a6b2783a", func := "pavane/pavanelaw02.SealRows", spec := "sealRows", inPlace := ["internal/bytealg.MakeNoZero"], recurses := true, apart := false, narrowed := true }
def SealRowsUptoSaid : Prop := sealRowsUptoRow.holds Try.pinned (OpenSpec.upto sealRowsSpec)

/-- 'pavanelaw02.SealTorn', WHERE WHAT IT READS IS OF BULK AT MOST 1048576: true; the input reads as it did. -/
def sealTornUptoRow : OpenClaim := { program := "ytaadbklimfngiaa", sum := "61ab84750bd55343145cf3f502925ecc059e88bceade2a5e03906ff1a6b2783a", func := "pavane/pavanelaw02.SealTorn", spec := "sealTorn", inPlace := ["internal/bytealg.MakeNoZero"], apart := false, narrowed := true }
def SealTornUptoSaid : Prop := sealTornUptoRow.holds Try.pinned (OpenSpec.upto sealTornSpec)

/-- 'pavanelaw02.SealJoins', WHERE WHAT IT READS IS OF BULK AT MOST 1048576: true; the input reads as it did. -/
def sealJoinsUptoRow : OpenClaim := { program := "ytaadbklimfngiaa", sum := "61ab84750bd55343145cf3f502925ecc059e88bceade2a5e03906ff1a6b2783a", func := "pavane/pavanelaw02.SealJoins", spec := "sealJoins", inPlace := ["internal/bytealg.MakeNoZero"], apart := false, narrowed := true }
def SealJoinsUptoSaid : Prop := sealJoinsUptoRow.holds Try.pinned (OpenSpec.upto sealJoinsSpec)

/-- 'pavanelaw23.KeepCodes', WHERE WHAT IT READS IS OF BULK AT MOST 1048576: true; the input reads as it did. -/
def keepCodesUptoRow : OpenClaim := { program := "ytaadbklimfngiaa", sum := "61ab84750bd55343145cf3f502925ecc059e88bceade2a5e03906ff1a6b2783a", func := "pavane/pavanelaw23.KeepCodes", spec := "keepCodes", inPlace := ["internal/bytealg.MakeNoZero"], unfollowed := true, recurses := true, apart := false, narrowed := true }
def KeepCodesUptoSaid : Prop := keepCodesUptoRow.holds Try.pinned (OpenSpec.upto keepCodesSpec)

/-- 'pavanelaw23.KeepBack', WHERE WHAT IT READS IS OF BULK AT MOST 1048576: true; the input reads as it did. -/
def keepBackUptoRow : OpenClaim := { program := "ytaadbklimfngiaa", sum := "61ab84750bd55343145cf3f502925ecc059e88bceade2a5e03906ff1a6b2783a", func := "pavane/pavanelaw23.KeepBack", spec := "keepBack", inPlace := ["internal/bytealg.MakeNoZero"], unfollowed := true, recurses := true, apart := false, narrowed := true }
def KeepBackUptoSaid : Prop := keepBackUptoRow.holds Try.pinned (OpenSpec.upto keepBackSpec)

/-- 'pavanelaw23.KeepCollects', WHERE WHAT IT READS IS OF BULK AT MOST 1048576: true; the input reads as it did. -/
def keepCollectsUptoRow : OpenClaim := { program := "ytaadbklimfngiaa", sum := "61ab84750bd55343145cf3f502925ecc059e88bceade2a5e03906ff1a6b2783a", func := "pavane/pavanelaw23.KeepCollects", spec := "keepCollects", inPlace := ["internal/bytealg.MakeNoZero"], unfollowed := true, recurses := true, apart := false, narrowed := true }
def KeepCollectsUptoSaid : Prop := keepCollectsUptoRow.holds Try.pinned (OpenSpec.upto keepCollectsSpec)

/-- 'pavanelaw18.ImageCodes', WHERE WHAT IT READS IS OF BULK AT MOST 1048576: true; the input reads as it did. -/
def imageCodesUptoRow : OpenClaim := { program := "ytaadbklimfngiaa", sum := "61ab84750bd55343145cf3f502925ecc059e88bceade2a5e03906ff1a6b2783a", func := "pavane/pavanelaw18.ImageCodes", spec := "imageCodes", inPlace := ["internal/bytealg.MakeNoZero"], unfollowed := true, recurses := true, apart := false, narrowed := true }
def ImageCodesUptoSaid : Prop := imageCodesUptoRow.holds Try.pinned (OpenSpec.upto imageCodesSpec)

end Rows
end Go.Proofs.Ytaadbklimfngiaa
