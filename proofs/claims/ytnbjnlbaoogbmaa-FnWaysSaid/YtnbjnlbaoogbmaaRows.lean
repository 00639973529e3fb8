/-
  No cell of these rows narrows 'for every input' (looked for: loops, veiled, ifaces, maps, wideKeys, modest, calm, conditions, laid).
  DERIVED. THE GIVEN ROWS OF THIS SEAT. 12 by the template 'for every input the law returns true; each argument reads behind the call as it read before'; 0 by the template 'total and deterministic' (their statements: YtnbjnlbaoogbmaaTotals.lean).
  GIVEN WITH THE SEED: the statements are not yours to turn. If you find one false, say at which input.
  Laid BY PROGRAM, IN A SANDBOX (cutbox-rows.mjs): the forced cells as the released guide's own fill.sh prints them over the translation 52a48bed450c314a… (all of the seat's roots in one cut). By AI agents, Wed Nov 11 2026. No macro, syntax, notation, axiom, sorry.
-/
import Derived.Test.YtnbjnlbaoogbmaaChecked
import GoSem.Claim
import GoSem.ClaimJoined
import GoSem.ClaimMapViews
import Derived.JoinedTies
import Derived.KernelRfl
namespace Go.Proofs.Ytnbjnlbaoogbmaa
/- THE CELL 'sum', in the pinned program and in every row, IS THE sha256 OF THE DUMP (.gsa) THAT YtnbjnlbaoogbmaaProg.lean LOADS. Nothing in Lean hashes anything: it is a label: what it is worth is what the hold of that sum in a sandbox is worth. -/
noncomputable def Try.pinned : Pinned := { name := "ytnbjnlbaoogbmaa", sum := "52a48bed450c314a8a63257eac4af2f49f19a91e1495dafb7817f620dc711c00", checked := Try.checked }
namespace Rows
def none {H : Type} : Left H := { results := [], args := [] }

/-- 'laws.FnValuation': WHATEVER THE INPUT: true; the input reads as it did. -/
def fnValuationSpec : ChangeSpec := { name := "fnValuation", fn := fun _ => fun
  | [d] => { results := [.lit (.bool true)], args := [d] }
  | _ => none }
def fnValuationRow : OpenClaim := { program := "ytnbjnlbaoogbmaa", sum := "52a48bed450c314a8a63257eac4af2f49f19a91e1495dafb7817f620dc711c00", func := "loop.example/localglobal/laws.FnValuation", spec := "fnValuation", apart := false }
def FnValuationSaid : Prop := fnValuationRow.holds Try.pinned (OpenSpec.ofChange fnValuationSpec)

/-- ITS FALSE NEIGHBOUR: 'it returns false'. Refute it at one input. -/
def fnValuationWrong : ChangeSpec := { name := "fnValuation", fn := fun _ => fun
  | [d] => { results := [.lit (.bool false)], args := [d] }
  | _ => none }
def FnValuationWrongFalsely : Prop := fnValuationRow.holds Try.pinned (OpenSpec.ofChange fnValuationWrong)

/-- 'laws.FnUnit': WHATEVER THE INPUT: true; the input reads as it did. -/
def fnUnitSpec : ChangeSpec := { name := "fnUnit", fn := fun _ => fun
  | [d] => { results := [.lit (.bool true)], args := [d] }
  | _ => none }
def fnUnitRow : OpenClaim := { program := "ytnbjnlbaoogbmaa", sum := "52a48bed450c314a8a63257eac4af2f49f19a91e1495dafb7817f620dc711c00", func := "loop.example/localglobal/laws.FnUnit", spec := "fnUnit", apart := false }
def FnUnitSaid : Prop := fnUnitRow.holds Try.pinned (OpenSpec.ofChange fnUnitSpec)

/-- ITS FALSE NEIGHBOUR: 'it returns false'. Refute it at one input. -/
def fnUnitWrong : ChangeSpec := { name := "fnUnit", fn := fun _ => fun
  | [d] => { results := [.lit (.bool false)], args := [d] }
  | _ => none }
def FnUnitWrongFalsely : Prop := fnUnitRow.holds Try.pinned (OpenSpec.ofChange fnUnitWrong)

/-- 'laws.FnNonResidue': WHATEVER THE INPUT: true; the input reads as it did. -/
def fnNonResidueSpec : ChangeSpec := { name := "fnNonResidue", fn := fun _ => fun
  | [d] => { results := [.lit (.bool true)], args := [d] }
  | _ => none }
def fnNonResidueRow : OpenClaim := { program := "ytnbjnlbaoogbmaa", sum := "52a48bed450c314a8a63257eac4af2f49f19a91e1495dafb7817f620dc711c00", func := "loop.example/localglobal/laws.FnNonResidue", spec := "fnNonResidue", apart := false }
def FnNonResidueSaid : Prop := fnNonResidueRow.holds Try.pinned (OpenSpec.ofChange fnNonResidueSpec)

/-- ITS FALSE NEIGHBOUR: 'it returns false'. Refute it at one input. -/
def fnNonResidueWrong : ChangeSpec := { name := "fnNonResidue", fn := fun _ => fun
  | [d] => { results := [.lit (.bool false)], args := [d] }
  | _ => none }
def FnNonResidueWrongFalsely : Prop := fnNonResidueRow.holds Try.pinned (OpenSpec.ofChange fnNonResidueWrong)

/-- 'laws.FnCore': WHATEVER THE INPUT: true; the input reads as it did. -/
def fnCoreSpec : ChangeSpec := { name := "fnCore", fn := fun _ => fun
  | [d] => { results := [.lit (.bool true)], args := [d] }
  | _ => none }
def fnCoreRow : OpenClaim := { program := "ytnbjnlbaoogbmaa", sum := "52a48bed450c314a8a63257eac4af2f49f19a91e1495dafb7817f620dc711c00", func := "loop.example/localglobal/laws.FnCore", spec := "fnCore", apart := false }
def FnCoreSaid : Prop := fnCoreRow.holds Try.pinned (OpenSpec.ofChange fnCoreSpec)

/-- ITS FALSE NEIGHBOUR: 'it returns false'. Refute it at one input. -/
def fnCoreWrong : ChangeSpec := { name := "fnCore", fn := fun _ => fun
  | [d] => { results := [.lit (.bool false)], args := [d] }
  | _ => none }
def FnCoreWrongFalsely : Prop := fnCoreRow.holds Try.pinned (OpenSpec.ofChange fnCoreWrong)

/-- 'laws.FnExactLocalSame': WHATEVER THE INPUT: true; the input reads as it did. -/
def fnExactLocalSameSpec : ChangeSpec := { name := "fnExactLocalSame", fn := fun _ => fun
  | [d1, d2, d3] => { results := [.lit (.bool true)], args := [d1, d2, d3] }
  | _ => none }
def fnExactLocalSameRow : OpenClaim := { program := "ytnbjnlbaoogbmaa", sum := "52a48bed450c314a8a63257eac4af2f49f19a91e1495dafb7817f620dc711c00", func := "loop.example/localglobal/laws.FnExactLocalSame", spec := "fnExactLocalSame", apart := false }
def FnExactLocalSameSaid : Prop := fnExactLocalSameRow.holds Try.pinned (OpenSpec.ofChange fnExactLocalSameSpec)

/-- ITS FALSE NEIGHBOUR: 'it returns false'. Refute it at one input. -/
def fnExactLocalSameWrong : ChangeSpec := { name := "fnExactLocalSame", fn := fun _ => fun
  | [d1, d2, d3] => { results := [.lit (.bool false)], args := [d1, d2, d3] }
  | _ => none }
def FnExactLocalSameWrongFalsely : Prop := fnExactLocalSameRow.holds Try.pinned (OpenSpec.ofChange fnExactLocalSameWrong)

/-- 'laws.FnExactLocalSquare': WHATEVER THE INPUT: true; the input reads as it did. -/
def fnExactLocalSquareSpec : ChangeSpec := { name := "fnExactLocalSquare", fn := fun _ => fun
  | [d1, d2] => { results := [.lit (.bool true)], args := [d1, d2] }
  | _ => none }
def fnExactLocalSquareRow : OpenClaim := { program := "ytnbjnlbaoogbmaa", sum := "52a48bed450c314a8a63257eac4af2f49f19a91e1495dafb7817f620dc711c00", func := "loop.example/localglobal/laws.FnExactLocalSquare", spec := "fnExactLocalSquare", apart := false }
def FnExactLocalSquareSaid : Prop := fnExactLocalSquareRow.holds Try.pinned (OpenSpec.ofChange fnExactLocalSquareSpec)

/-- ITS FALSE NEIGHBOUR: 'it returns false'. Refute it at one input. -/
def fnExactLocalSquareWrong : ChangeSpec := { name := "fnExactLocalSquare", fn := fun _ => fun
  | [d1, d2] => { results := [.lit (.bool false)], args := [d1, d2] }
  | _ => none }
def FnExactLocalSquareWrongFalsely : Prop := fnExactLocalSquareRow.holds Try.pinned (OpenSpec.ofChange fnExactLocalSquareWrong)

/-- 'laws.FnPrime': WHATEVER THE INPUT: true; the input reads as it did. -/
def fnPrimeSpec : ChangeSpec := { name := "fnPrime", fn := fun _ => fun
  | [d] => { results := [.lit (.bool true)], args := [d] }
  | _ => none }
def fnPrimeRow : OpenClaim := { program := "ytnbjnlbaoogbmaa", sum := "52a48bed450c314a8a63257eac4af2f49f19a91e1495dafb7817f620dc711c00", func := "loop.example/localglobal/laws.FnPrime", spec := "fnPrime", apart := false }
def FnPrimeSaid : Prop := fnPrimeRow.holds Try.pinned (OpenSpec.ofChange fnPrimeSpec)

/-- ITS FALSE NEIGHBOUR: 'it returns false'. Refute it at one input. -/
def fnPrimeWrong : ChangeSpec := { name := "fnPrime", fn := fun _ => fun
  | [d] => { results := [.lit (.bool false)], args := [d] }
  | _ => none }
def FnPrimeWrongFalsely : Prop := fnPrimeRow.holds Try.pinned (OpenSpec.ofChange fnPrimeWrong)

/-- 'laws.FnExactJacobiOf': WHATEVER THE INPUT: true; the input reads as it did. -/
def fnExactJacobiOfSpec : ChangeSpec := { name := "fnExactJacobiOf", fn := fun _ => fun
  | [d1, d2] => { results := [.lit (.bool true)], args := [d1, d2] }
  | _ => none }
def fnExactJacobiOfRow : OpenClaim := { program := "ytnbjnlbaoogbmaa", sum := "52a48bed450c314a8a63257eac4af2f49f19a91e1495dafb7817f620dc711c00", func := "loop.example/localglobal/laws.FnExactJacobiOf", spec := "fnExactJacobiOf", apart := false }
def FnExactJacobiOfSaid : Prop := fnExactJacobiOfRow.holds Try.pinned (OpenSpec.ofChange fnExactJacobiOfSpec)

/-- ITS FALSE NEIGHBOUR: 'it returns false'. Refute it at one input. -/
def fnExactJacobiOfWrong : ChangeSpec := { name := "fnExactJacobiOf", fn := fun _ => fun
  | [d1, d2] => { results := [.lit (.bool false)], args := [d1, d2] }
  | _ => none }
def FnExactJacobiOfWrongFalsely : Prop := fnExactJacobiOfRow.holds Try.pinned (OpenSpec.ofChange fnExactJacobiOfWrong)

/-- 'laws.FnPrimesOf': WHATEVER THE INPUT: true; the input reads as it did. -/
def fnPrimesOfSpec : ChangeSpec := { name := "fnPrimesOf", fn := fun _ => fun
  | [d] => { results := [.lit (.bool true)], args := [d] }
  | _ => none }
def fnPrimesOfRow : OpenClaim := { program := "ytnbjnlbaoogbmaa", sum := "52a48bed450c314a8a63257eac4af2f49f19a91e1495dafb7817f620dc711c00", func := "loop.example/localglobal/laws.FnPrimesOf", spec := "fnPrimesOf", apart := false }
def FnPrimesOfSaid : Prop := fnPrimesOfRow.holds Try.pinned (OpenSpec.ofChange fnPrimesOfSpec)

/-- ITS FALSE NEIGHBOUR: 'it returns false'. Refute it at one input. -/
def fnPrimesOfWrong : ChangeSpec := { name := "fnPrimesOf", fn := fun _ => fun
  | [d] => { results := [.lit (.bool false)], args := [d] }
  | _ => none }
def FnPrimesOfWrongFalsely : Prop := fnPrimesOfRow.holds Try.pinned (OpenSpec.ofChange fnPrimesOfWrong)

/-- 'laws.FnWays': WHATEVER THE INPUT: true; the input reads as it did. -/
def fnWaysSpec : ChangeSpec := { name := "fnWays", fn := fun _ => fun
  | [d] => { results := [.lit (.bool true)], args := [d] }
  | _ => none }
def fnWaysRow : OpenClaim := { program := "ytnbjnlbaoogbmaa", sum := "52a48bed450c314a8a63257eac4af2f49f19a91e1495dafb7817f620dc711c00", func := "loop.example/localglobal/laws.FnWays", spec := "fnWays", apart := false }
def FnWaysSaid : Prop := fnWaysRow.holds Try.pinned (OpenSpec.ofChange fnWaysSpec)

/-- ITS FALSE NEIGHBOUR: 'it returns false'. Refute it at one input. -/
def fnWaysWrong : ChangeSpec := { name := "fnWays", fn := fun _ => fun
  | [d] => { results := [.lit (.bool false)], args := [d] }
  | _ => none }
def FnWaysWrongFalsely : Prop := fnWaysRow.holds Try.pinned (OpenSpec.ofChange fnWaysWrong)

/-- 'laws.FnResidue': WHATEVER THE INPUT: true; the input reads as it did. -/
def fnResidueSpec : ChangeSpec := { name := "fnResidue", fn := fun _ => fun
  | [d1, d2] => { results := [.lit (.bool true)], args := [d1, d2] }
  | _ => none }
def fnResidueRow : OpenClaim := { program := "ytnbjnlbaoogbmaa", sum := "52a48bed450c314a8a63257eac4af2f49f19a91e1495dafb7817f620dc711c00", func := "loop.example/localglobal/laws.FnResidue", spec := "fnResidue", apart := false }
def FnResidueSaid : Prop := fnResidueRow.holds Try.pinned (OpenSpec.ofChange fnResidueSpec)

/-- ITS FALSE NEIGHBOUR: 'it returns false'. Refute it at one input. -/
def fnResidueWrong : ChangeSpec := { name := "fnResidue", fn := fun _ => fun
  | [d1, d2] => { results := [.lit (.bool false)], args := [d1, d2] }
  | _ => none }
def FnResidueWrongFalsely : Prop := fnResidueRow.holds Try.pinned (OpenSpec.ofChange fnResidueWrong)

/-- 'laws.FnSquare': WHATEVER THE INPUT: true; the input reads as it did. -/
def fnSquareSpec : ChangeSpec := { name := "fnSquare", fn := fun _ => fun
  | [d1, d2] => { results := [.lit (.bool true)], args := [d1, d2] }
  | _ => none }
def fnSquareRow : OpenClaim := { program := "ytnbjnlbaoogbmaa", sum := "52a48bed450c314a8a63257eac4af2f49f19a91e1495dafb7817f620dc711c00", func := "loop.example/localglobal/laws.FnSquare", spec := "fnSquare", apart := false }
def FnSquareSaid : Prop := fnSquareRow.holds Try.pinned (OpenSpec.ofChange fnSquareSpec)

/-- ITS FALSE NEIGHBOUR: 'it returns false'. Refute it at one input. -/
def fnSquareWrong : ChangeSpec := { name := "fnSquare", fn := fun _ => fun
  | [d1, d2] => { results := [.lit (.bool false)], args := [d1, d2] }
  | _ => none }
def FnSquareWrongFalsely : Prop := fnSquareRow.holds Try.pinned (OpenSpec.ofChange fnSquareWrong)

/- THE SECOND FORM. 'bulk': how many values and letters a reading holds, each counted each time it is reached (what is shared counts as often as it is met; a slice's spare places count too). A statement '..UptoSaid' is the law's where the arguments, and the package variables that the reading takes, are together of bulk at most 1048576: NARROWER than '..Said'. Prove '..Said' where nothing that the law and all that it calls make is longer than what came in: it says more and counts as full. Else prove '..UptoSaid'. A law counts once. -/
mutual
def uptoBulk {H : Type} : DataW H → Nat
  | .lit (.string bytes) => bytes.length + 1
  | .lit _ => 1
  | .nil => 1
  | .ptr d => uptoBulk d + 1
  | .slice elems spare => uptoBulkAll elems + uptoBulkAll spare + 1
  | .agg parts => uptoBulkAll parts + 1
  | .iface _ d => uptoBulk d + 1
  | .map entries => uptoBulkEntries entries + 1
  | .held _ => 1
def uptoBulkAll {H : Type} : List (DataW H) → Nat
  | [] => 0
  | d :: r => uptoBulk d + uptoBulkAll r
def uptoBulkEntries {H : Type} : List (Lit × DataW H) → Nat
  | [] => 0
  | x :: r => uptoBulkEntry x + uptoBulkEntries r
def uptoBulkEntry {H : Type} : Lit × DataW H → Nat
  | (.string bytes, d) => bytes.length + uptoBulk d + 1
  | (_, d) => uptoBulk d + 1
 end
def uptoSmall : (H : Type) → List (DataW H) → Bool := fun _ ds => decide (uptoBulkAll ds ≤ 1048576)
def OpenSpec.upto (s : _root_.Go.ChangeSpec) : _root_.Go.OpenSpec := { _root_.Go.OpenSpec.ofChange s with cond := some uptoSmall }

/-- 'laws.FnValuation', WHERE WHAT IT READS IS OF BULK AT MOST 1048576: true; the input reads as it did. -/
def fnValuationUptoRow : OpenClaim := { program := "ytnbjnlbaoogbmaa", sum := "52a48bed450c314a8a63257eac4af2f49f19a91e1495dafb7817f620dc711c00", func := "loop.example/localglobal/laws.FnValuation", spec := "fnValuation", apart := false, narrowed := true }
def FnValuationUptoSaid : Prop := fnValuationUptoRow.holds Try.pinned (OpenSpec.upto fnValuationSpec)

/-- 'laws.FnUnit', WHERE WHAT IT READS IS OF BULK AT MOST 1048576: true; the input reads as it did. -/
def fnUnitUptoRow : OpenClaim := { program := "ytnbjnlbaoogbmaa", sum := "52a48bed450c314a8a63257eac4af2f49f19a91e1495dafb7817f620dc711c00", func := "loop.example/localglobal/laws.FnUnit", spec := "fnUnit", apart := false, narrowed := true }
def FnUnitUptoSaid : Prop := fnUnitUptoRow.holds Try.pinned (OpenSpec.upto fnUnitSpec)

/-- 'laws.FnNonResidue', WHERE WHAT IT READS IS OF BULK AT MOST 1048576: true; the input reads as it did. -/
def fnNonResidueUptoRow : OpenClaim := { program := "ytnbjnlbaoogbmaa", sum := "52a48bed450c314a8a63257eac4af2f49f19a91e1495dafb7817f620dc711c00", func := "loop.example/localglobal/laws.FnNonResidue", spec := "fnNonResidue", apart := false, narrowed := true }
def FnNonResidueUptoSaid : Prop := fnNonResidueUptoRow.holds Try.pinned (OpenSpec.upto fnNonResidueSpec)

/-- 'laws.FnCore', WHERE WHAT IT READS IS OF BULK AT MOST 1048576: true; the input reads as it did. -/
def fnCoreUptoRow : OpenClaim := { program := "ytnbjnlbaoogbmaa", sum := "52a48bed450c314a8a63257eac4af2f49f19a91e1495dafb7817f620dc711c00", func := "loop.example/localglobal/laws.FnCore", spec := "fnCore", apart := false, narrowed := true }
def FnCoreUptoSaid : Prop := fnCoreUptoRow.holds Try.pinned (OpenSpec.upto fnCoreSpec)

/-- 'laws.FnExactLocalSame', WHERE WHAT IT READS IS OF BULK AT MOST 1048576: true; the input reads as it did. -/
def fnExactLocalSameUptoRow : OpenClaim := { program := "ytnbjnlbaoogbmaa", sum := "52a48bed450c314a8a63257eac4af2f49f19a91e1495dafb7817f620dc711c00", func := "loop.example/localglobal/laws.FnExactLocalSame", spec := "fnExactLocalSame", apart := false, narrowed := true }
def FnExactLocalSameUptoSaid : Prop := fnExactLocalSameUptoRow.holds Try.pinned (OpenSpec.upto fnExactLocalSameSpec)

/-- 'laws.FnExactLocalSquare', WHERE WHAT IT READS IS OF BULK AT MOST 1048576: true; the input reads as it did. -/
def fnExactLocalSquareUptoRow : OpenClaim := { program := "ytnbjnlbaoogbmaa", sum := "52a48bed450c314a8a63257eac4af2f49f19a91e1495dafb7817f620dc711c00", func := "loop.example/localglobal/laws.FnExactLocalSquare", spec := "fnExactLocalSquare", apart := false, narrowed := true }
def FnExactLocalSquareUptoSaid : Prop := fnExactLocalSquareUptoRow.holds Try.pinned (OpenSpec.upto fnExactLocalSquareSpec)

/-- 'laws.FnPrime', WHERE WHAT IT READS IS OF BULK AT MOST 1048576: true; the input reads as it did. -/
def fnPrimeUptoRow : OpenClaim := { program := "ytnbjnlbaoogbmaa", sum := "52a48bed450c314a8a63257eac4af2f49f19a91e1495dafb7817f620dc711c00", func := "loop.example/localglobal/laws.FnPrime", spec := "fnPrime", apart := false, narrowed := true }
def FnPrimeUptoSaid : Prop := fnPrimeUptoRow.holds Try.pinned (OpenSpec.upto fnPrimeSpec)

/-- 'laws.FnExactJacobiOf', WHERE WHAT IT READS IS OF BULK AT MOST 1048576: true; the input reads as it did. -/
def fnExactJacobiOfUptoRow : OpenClaim := { program := "ytnbjnlbaoogbmaa", sum := "52a48bed450c314a8a63257eac4af2f49f19a91e1495dafb7817f620dc711c00", func := "loop.example/localglobal/laws.FnExactJacobiOf", spec := "fnExactJacobiOf", apart := false, narrowed := true }
def FnExactJacobiOfUptoSaid : Prop := fnExactJacobiOfUptoRow.holds Try.pinned (OpenSpec.upto fnExactJacobiOfSpec)

/-- 'laws.FnPrimesOf', WHERE WHAT IT READS IS OF BULK AT MOST 1048576: true; the input reads as it did. -/
def fnPrimesOfUptoRow : OpenClaim := { program := "ytnbjnlbaoogbmaa", sum := "52a48bed450c314a8a63257eac4af2f49f19a91e1495dafb7817f620dc711c00", func := "loop.example/localglobal/laws.FnPrimesOf", spec := "fnPrimesOf", apart := false, narrowed := true }
def FnPrimesOfUptoSaid : Prop := fnPrimesOfUptoRow.holds Try.pinned (OpenSpec.upto fnPrimesOfSpec)

/-- 'laws.FnWays', WHERE WHAT IT READS IS OF BULK AT MOST 1048576: true; the input reads as it did. -/
def fnWaysUptoRow : OpenClaim := { program := "ytnbjnlbaoogbmaa", sum := "52a48bed450c314a8a63257eac4af2f49f19a91e1495dafb7817f620dc711c00", func := "loop.example/localglobal/laws.FnWays", spec := "fnWays", apart := false, narrowed := true }
def FnWaysUptoSaid : Prop := fnWaysUptoRow.holds Try.pinned (OpenSpec.upto fnWaysSpec)

/-- 'laws.FnResidue', WHERE WHAT IT READS IS OF BULK AT MOST 1048576: true; the input reads as it did. -/
def fnResidueUptoRow : OpenClaim := { program := "ytnbjnlbaoogbmaa", sum := "52a48bed450c314a8a63257eac4af2f49f19a91e1495dafb7817f620dc711c00", func := "loop.example/localglobal/laws.FnResidue", spec := "fnResidue", apart := false, narrowed := true }
def FnResidueUptoSaid : Prop := fnResidueUptoRow.holds Try.pinned (OpenSpec.upto fnResidueSpec)

/-- 'laws.FnSquare', WHERE WHAT IT READS IS OF BULK AT MOST 1048576: true; the input reads as it did. -/
def fnSquareUptoRow : OpenClaim := { program := "ytnbjnlbaoogbmaa", sum := "52a48bed450c314a8a63257eac4af2f49f19a91e1495dafb7817f620dc711c00", func := "loop.example/localglobal/laws.FnSquare", spec := "fnSquare", apart := false, narrowed := true }
def FnSquareUptoSaid : Prop := fnSquareUptoRow.holds Try.pinned (OpenSpec.upto fnSquareSpec)

end Rows
end Go.Proofs.Ytnbjnlbaoogbmaa
