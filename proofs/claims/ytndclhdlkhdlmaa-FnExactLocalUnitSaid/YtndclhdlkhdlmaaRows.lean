/-
  No cell of these rows narrows 'for every input' (looked for: loops, veiled, ifaces, maps, wideKeys, modest, calm, conditions, laid).
  DERIVED. THE GIVEN ROWS OF THIS SEAT. 12 by the template 'for every input the law returns true; each argument reads behind the call as it read before'; 0 by the template 'total and deterministic' (their statements: YtndclhdlkhdlmaaTotals.lean).
  GIVEN WITH THE SEED: the statements are not yours to turn. If you find one false, say at which input.
  Laid BY PROGRAM, IN A SANDBOX (cutbox-rows.mjs): the forced cells as the released guide's own fill.sh prints them over the translation 30dfe9bd82102142… (all of the seat's roots in one cut). By AI agents, Wed Nov 11 2026. No macro, syntax, notation, axiom, sorry.
-/
import Derived.Test.YtndclhdlkhdlmaaChecked
import GoSem.Claim
import GoSem.ClaimJoined
import GoSem.ClaimMapViews
import Derived.JoinedTies
import Derived.KernelRfl
namespace Go.Proofs.Ytndclhdlkhdlmaa
/- THE CELL 'sum', in the pinned program and in every row, IS THE sha256 OF THE DUMP (.gsa) THAT YtndclhdlkhdlmaaProg.lean LOADS. Nothing in Lean hashes anything: it is a label: what it is worth is what the hold of that sum in a sandbox is worth. -/
noncomputable def Try.pinned : Pinned := { name := "ytndclhdlkhdlmaa", sum := "30dfe9bd82102142b3bcad641f1e30d815a7595e9735c5d18145ea28db8a707a", checked := Try.checked }
namespace Rows
def none {H : Type} : Left H := { results := [], args := [] }

/-- 'laws.FnExactConstants': WHATEVER THE INPUT: true; the input reads as it did. -/
def fnExactConstantsSpec : ChangeSpec := { name := "fnExactConstants", fn := fun _ => fun
  | [] => { results := [.lit (.bool true)], args := [] }
  | _ => none }
def fnExactConstantsRow : OpenClaim := { program := "ytndclhdlkhdlmaa", sum := "30dfe9bd82102142b3bcad641f1e30d815a7595e9735c5d18145ea28db8a707a", func := "loop.example/localglobal/laws.FnExactConstants", spec := "fnExactConstants", apart := false }
def FnExactConstantsSaid : Prop := fnExactConstantsRow.holds Try.pinned (OpenSpec.ofChange fnExactConstantsSpec)

/-- ITS FALSE NEIGHBOUR: 'it returns false'. Refute it at one input. -/
def fnExactConstantsWrong : ChangeSpec := { name := "fnExactConstants", fn := fun _ => fun
  | [] => { results := [.lit (.bool false)], args := [] }
  | _ => none }
def FnExactConstantsWrongFalsely : Prop := fnExactConstantsRow.holds Try.pinned (OpenSpec.ofChange fnExactConstantsWrong)

/-- 'laws.FnExactSymbolSolved': WHATEVER THE INPUT: true; the input reads as it did. -/
def fnExactSymbolSolvedSpec : ChangeSpec := { name := "fnExactSymbolSolved", fn := fun _ => fun
  | [d1, d2, d3, d4, d5] => { results := [.lit (.bool true)], args := [d1, d2, d3, d4, d5] }
  | _ => none }
def fnExactSymbolSolvedRow : OpenClaim := { program := "ytndclhdlkhdlmaa", sum := "30dfe9bd82102142b3bcad641f1e30d815a7595e9735c5d18145ea28db8a707a", func := "loop.example/localglobal/laws.FnExactSymbolSolved", spec := "fnExactSymbolSolved", apart := false }
def FnExactSymbolSolvedSaid : Prop := fnExactSymbolSolvedRow.holds Try.pinned (OpenSpec.ofChange fnExactSymbolSolvedSpec)

/-- ITS FALSE NEIGHBOUR: 'it returns false'. Refute it at one input. -/
def fnExactSymbolSolvedWrong : ChangeSpec := { name := "fnExactSymbolSolved", fn := fun _ => fun
  | [d1, d2, d3, d4, d5] => { results := [.lit (.bool false)], args := [d1, d2, d3, d4, d5] }
  | _ => none }
def FnExactSymbolSolvedWrongFalsely : Prop := fnExactSymbolSolvedRow.holds Try.pinned (OpenSpec.ofChange fnExactSymbolSolvedWrong)

/-- 'laws.FnExactPrimeIs': WHATEVER THE INPUT: true; the input reads as it did. -/
def fnExactPrimeIsSpec : ChangeSpec := { name := "fnExactPrimeIs", fn := fun _ => fun
  | [d] => { results := [.lit (.bool true)], args := [d] }
  | _ => none }
def fnExactPrimeIsRow : OpenClaim := { program := "ytndclhdlkhdlmaa", sum := "30dfe9bd82102142b3bcad641f1e30d815a7595e9735c5d18145ea28db8a707a", func := "loop.example/localglobal/laws.FnExactPrimeIs", spec := "fnExactPrimeIs", apart := false }
def FnExactPrimeIsSaid : Prop := fnExactPrimeIsRow.holds Try.pinned (OpenSpec.ofChange fnExactPrimeIsSpec)

/-- ITS FALSE NEIGHBOUR: 'it returns false'. Refute it at one input. -/
def fnExactPrimeIsWrong : ChangeSpec := { name := "fnExactPrimeIs", fn := fun _ => fun
  | [d] => { results := [.lit (.bool false)], args := [d] }
  | _ => none }
def FnExactPrimeIsWrongFalsely : Prop := fnExactPrimeIsRow.holds Try.pinned (OpenSpec.ofChange fnExactPrimeIsWrong)

/-- 'laws.FnExactPlaceValid': WHATEVER THE INPUT: true; the input reads as it did. -/
def fnExactPlaceValidSpec : ChangeSpec := { name := "fnExactPlaceValid", fn := fun _ => fun
  | [d] => { results := [.lit (.bool true)], args := [d] }
  | _ => none }
def fnExactPlaceValidRow : OpenClaim := { program := "ytndclhdlkhdlmaa", sum := "30dfe9bd82102142b3bcad641f1e30d815a7595e9735c5d18145ea28db8a707a", func := "loop.example/localglobal/laws.FnExactPlaceValid", spec := "fnExactPlaceValid", apart := false }
def FnExactPlaceValidSaid : Prop := fnExactPlaceValidRow.holds Try.pinned (OpenSpec.ofChange fnExactPlaceValidSpec)

/-- ITS FALSE NEIGHBOUR: 'it returns false'. Refute it at one input. -/
def fnExactPlaceValidWrong : ChangeSpec := { name := "fnExactPlaceValid", fn := fun _ => fun
  | [d] => { results := [.lit (.bool false)], args := [d] }
  | _ => none }
def FnExactPlaceValidWrongFalsely : Prop := fnExactPlaceValidRow.holds Try.pinned (OpenSpec.ofChange fnExactPlaceValidWrong)

/-- 'laws.FnExactInverseMod': WHATEVER THE INPUT: true; the input reads as it did. -/
def fnExactInverseModSpec : ChangeSpec := { name := "fnExactInverseMod", fn := fun _ => fun
  | [d1, d2] => { results := [.lit (.bool true)], args := [d1, d2] }
  | _ => none }
def fnExactInverseModRow : OpenClaim := { program := "ytndclhdlkhdlmaa", sum := "30dfe9bd82102142b3bcad641f1e30d815a7595e9735c5d18145ea28db8a707a", func := "loop.example/localglobal/laws.FnExactInverseMod", spec := "fnExactInverseMod", apart := false }
def FnExactInverseModSaid : Prop := fnExactInverseModRow.holds Try.pinned (OpenSpec.ofChange fnExactInverseModSpec)

/-- ITS FALSE NEIGHBOUR: 'it returns false'. Refute it at one input. -/
def fnExactInverseModWrong : ChangeSpec := { name := "fnExactInverseMod", fn := fun _ => fun
  | [d1, d2] => { results := [.lit (.bool false)], args := [d1, d2] }
  | _ => none }
def FnExactInverseModWrongFalsely : Prop := fnExactInverseModRow.holds Try.pinned (OpenSpec.ofChange fnExactInverseModWrong)

/-- 'laws.FnExactRootMod': WHATEVER THE INPUT: true; the input reads as it did. -/
def fnExactRootModSpec : ChangeSpec := { name := "fnExactRootMod", fn := fun _ => fun
  | [d1, d2] => { results := [.lit (.bool true)], args := [d1, d2] }
  | _ => none }
def fnExactRootModRow : OpenClaim := { program := "ytndclhdlkhdlmaa", sum := "30dfe9bd82102142b3bcad641f1e30d815a7595e9735c5d18145ea28db8a707a", func := "loop.example/localglobal/laws.FnExactRootMod", spec := "fnExactRootMod", apart := false }
def FnExactRootModSaid : Prop := fnExactRootModRow.holds Try.pinned (OpenSpec.ofChange fnExactRootModSpec)

/-- ITS FALSE NEIGHBOUR: 'it returns false'. Refute it at one input. -/
def fnExactRootModWrong : ChangeSpec := { name := "fnExactRootMod", fn := fun _ => fun
  | [d1, d2] => { results := [.lit (.bool false)], args := [d1, d2] }
  | _ => none }
def FnExactRootModWrongFalsely : Prop := fnExactRootModRow.holds Try.pinned (OpenSpec.ofChange fnExactRootModWrong)

/-- 'laws.FnExactSquareIs': WHATEVER THE INPUT: true; the input reads as it did. -/
def fnExactSquareIsSpec : ChangeSpec := { name := "fnExactSquareIs", fn := fun _ => fun
  | [d] => { results := [.lit (.bool true)], args := [d] }
  | _ => none }
def fnExactSquareIsRow : OpenClaim := { program := "ytndclhdlkhdlmaa", sum := "30dfe9bd82102142b3bcad641f1e30d815a7595e9735c5d18145ea28db8a707a", func := "loop.example/localglobal/laws.FnExactSquareIs", spec := "fnExactSquareIs", apart := false }
def FnExactSquareIsSaid : Prop := fnExactSquareIsRow.holds Try.pinned (OpenSpec.ofChange fnExactSquareIsSpec)

/-- ITS FALSE NEIGHBOUR: 'it returns false'. Refute it at one input. -/
def fnExactSquareIsWrong : ChangeSpec := { name := "fnExactSquareIs", fn := fun _ => fun
  | [d] => { results := [.lit (.bool false)], args := [d] }
  | _ => none }
def FnExactSquareIsWrongFalsely : Prop := fnExactSquareIsRow.holds Try.pinned (OpenSpec.ofChange fnExactSquareIsWrong)

/-- 'laws.FnExactPowerMod': WHATEVER THE INPUT: true; the input reads as it did. -/
def fnExactPowerModSpec : ChangeSpec := { name := "fnExactPowerMod", fn := fun _ => fun
  | [d1, d2, d3] => { results := [.lit (.bool true)], args := [d1, d2, d3] }
  | _ => none }
def fnExactPowerModRow : OpenClaim := { program := "ytndclhdlkhdlmaa", sum := "30dfe9bd82102142b3bcad641f1e30d815a7595e9735c5d18145ea28db8a707a", func := "loop.example/localglobal/laws.FnExactPowerMod", spec := "fnExactPowerMod", apart := false }
def FnExactPowerModSaid : Prop := fnExactPowerModRow.holds Try.pinned (OpenSpec.ofChange fnExactPowerModSpec)

/-- ITS FALSE NEIGHBOUR: 'it returns false'. Refute it at one input. -/
def fnExactPowerModWrong : ChangeSpec := { name := "fnExactPowerMod", fn := fun _ => fun
  | [d1, d2, d3] => { results := [.lit (.bool false)], args := [d1, d2, d3] }
  | _ => none }
def FnExactPowerModWrongFalsely : Prop := fnExactPowerModRow.holds Try.pinned (OpenSpec.ofChange fnExactPowerModWrong)

/-- 'laws.FnExactGcdOf': WHATEVER THE INPUT: true; the input reads as it did. -/
def fnExactGcdOfSpec : ChangeSpec := { name := "fnExactGcdOf", fn := fun _ => fun
  | [d1, d2] => { results := [.lit (.bool true)], args := [d1, d2] }
  | _ => none }
def fnExactGcdOfRow : OpenClaim := { program := "ytndclhdlkhdlmaa", sum := "30dfe9bd82102142b3bcad641f1e30d815a7595e9735c5d18145ea28db8a707a", func := "loop.example/localglobal/laws.FnExactGcdOf", spec := "fnExactGcdOf", apart := false }
def FnExactGcdOfSaid : Prop := fnExactGcdOfRow.holds Try.pinned (OpenSpec.ofChange fnExactGcdOfSpec)

/-- ITS FALSE NEIGHBOUR: 'it returns false'. Refute it at one input. -/
def fnExactGcdOfWrong : ChangeSpec := { name := "fnExactGcdOf", fn := fun _ => fun
  | [d1, d2] => { results := [.lit (.bool false)], args := [d1, d2] }
  | _ => none }
def FnExactGcdOfWrongFalsely : Prop := fnExactGcdOfRow.holds Try.pinned (OpenSpec.ofChange fnExactGcdOfWrong)

/-- 'laws.FnExactValuationOf': WHATEVER THE INPUT: true; the input reads as it did. -/
def fnExactValuationOfSpec : ChangeSpec := { name := "fnExactValuationOf", fn := fun _ => fun
  | [d1, d2] => { results := [.lit (.bool true)], args := [d1, d2] }
  | _ => none }
def fnExactValuationOfRow : OpenClaim := { program := "ytndclhdlkhdlmaa", sum := "30dfe9bd82102142b3bcad641f1e30d815a7595e9735c5d18145ea28db8a707a", func := "loop.example/localglobal/laws.FnExactValuationOf", spec := "fnExactValuationOf", apart := false }
def FnExactValuationOfSaid : Prop := fnExactValuationOfRow.holds Try.pinned (OpenSpec.ofChange fnExactValuationOfSpec)

/-- ITS FALSE NEIGHBOUR: 'it returns false'. Refute it at one input. -/
def fnExactValuationOfWrong : ChangeSpec := { name := "fnExactValuationOf", fn := fun _ => fun
  | [d1, d2] => { results := [.lit (.bool false)], args := [d1, d2] }
  | _ => none }
def FnExactValuationOfWrongFalsely : Prop := fnExactValuationOfRow.holds Try.pinned (OpenSpec.ofChange fnExactValuationOfWrong)

/-- 'laws.FnExactCoreOf': WHATEVER THE INPUT: true; the input reads as it did. -/
def fnExactCoreOfSpec : ChangeSpec := { name := "fnExactCoreOf", fn := fun _ => fun
  | [d] => { results := [.lit (.bool true)], args := [d] }
  | _ => none }
def fnExactCoreOfRow : OpenClaim := { program := "ytndclhdlkhdlmaa", sum := "30dfe9bd82102142b3bcad641f1e30d815a7595e9735c5d18145ea28db8a707a", func := "loop.example/localglobal/laws.FnExactCoreOf", spec := "fnExactCoreOf", apart := false }
def FnExactCoreOfSaid : Prop := fnExactCoreOfRow.holds Try.pinned (OpenSpec.ofChange fnExactCoreOfSpec)

/-- ITS FALSE NEIGHBOUR: 'it returns false'. Refute it at one input. -/
def fnExactCoreOfWrong : ChangeSpec := { name := "fnExactCoreOf", fn := fun _ => fun
  | [d] => { results := [.lit (.bool false)], args := [d] }
  | _ => none }
def FnExactCoreOfWrongFalsely : Prop := fnExactCoreOfRow.holds Try.pinned (OpenSpec.ofChange fnExactCoreOfWrong)

/-- 'laws.FnExactLocalUnit': WHATEVER THE INPUT: true; the input reads as it did. -/
def fnExactLocalUnitSpec : ChangeSpec := { name := "fnExactLocalUnit", fn := fun _ => fun
  | [d1, d2] => { results := [.lit (.bool true)], args := [d1, d2] }
  | _ => none }
def fnExactLocalUnitRow : OpenClaim := { program := "ytndclhdlkhdlmaa", sum := "30dfe9bd82102142b3bcad641f1e30d815a7595e9735c5d18145ea28db8a707a", func := "loop.example/localglobal/laws.FnExactLocalUnit", spec := "fnExactLocalUnit", apart := false }
def FnExactLocalUnitSaid : Prop := fnExactLocalUnitRow.holds Try.pinned (OpenSpec.ofChange fnExactLocalUnitSpec)

/-- ITS FALSE NEIGHBOUR: 'it returns false'. Refute it at one input. -/
def fnExactLocalUnitWrong : ChangeSpec := { name := "fnExactLocalUnit", fn := fun _ => fun
  | [d1, d2] => { results := [.lit (.bool false)], args := [d1, d2] }
  | _ => none }
def FnExactLocalUnitWrongFalsely : Prop := fnExactLocalUnitRow.holds Try.pinned (OpenSpec.ofChange fnExactLocalUnitWrong)

/- THE SECOND FORM. 'bulk': how many values and letters a reading holds, each counted each time it is reached (what is shared counts as often as it is met; a slice's spare places count too). A statement '..UptoSaid' is the law's where the arguments, and the package variables that the reading takes, are together of bulk at most 1048576: NARROWER than '..Said'. Prove '..Said' where nothing that the law and all that it calls make is longer than what came in: it says more and counts as full. Else prove '..UptoSaid'. A law counts once. -/
mutual
def uptoBulk {H : Type} : DataW H → Nat
  | .lit (.string bytes) => bytes.length + 1
  | .lit _ => 1
  | .nil => 1
  | .ptr d => uptoBulk d + 1
  | .slice elems spare => uptoBulkAll elems + uptoBulkAll spare + 1
  | .agg parts => uptoBulkAll parts + 1
  | .iface _ d => uptoBulk d + 1
  | .map entries => uptoBulkEntries entries + 1
  | .held _ => 1
def uptoBulkAll {H : Type} : List (DataW H) → Nat
  | [] => 0
  | d :: r => uptoBulk d + uptoBulkAll r
def uptoBulkEntries {H : Type} : List (Lit × DataW H) → Nat
  | [] => 0
  | x :: r => uptoBulkEntry x + uptoBulkEntries r
def uptoBulkEntry {H : Type} : Lit × DataW H → Nat
  | (.string bytes, d) => bytes.length + uptoBulk d + 1
  | (_, d) => uptoBulk d + 1
 end
def uptoSmall : (H : Type) → List (DataW H) → Bool := fun _ ds => decide (uptoBulkAll ds ≤ 1048576)
def OpenSpec.upto (s : _root_.Go.ChangeSpec) : _root_.Go.OpenSpec := { _root_.Go.OpenSpec.ofChange s with cond := some uptoSmall }

/-- 'laws.FnExactConstants', WHERE WHAT IT READS IS OF BULK AT MOST 1048576: true; the input reads as it did. -/
def fnExactConstantsUptoRow : OpenClaim := { program := "ytndclhdlkhdlmaa", sum := "30dfe9bd82102142b3bcad641f1e30d815a7595e9735c5d18145ea28db8a707a", func := "loop.example/localglobal/laws.FnExactConstants", spec := "fnExactConstants", apart := false, narrowed := true }
def FnExactConstantsUptoSaid : Prop := fnExactConstantsUptoRow.holds Try.pinned (OpenSpec.upto fnExactConstantsSpec)

/-- 'laws.FnExactSymbolSolved', WHERE WHAT IT READS IS OF BULK AT MOST 1048576: true; the input reads as it did. -/
def fnExactSymbolSolvedUptoRow : OpenClaim := { program := "ytndclhdlkhdlmaa", sum := "30dfe9bd82102142b3bcad641f1e30d815a7595e9735c5d18145ea28db8a707a", func := "loop.example/localglobal/laws.FnExactSymbolSolved", spec := "fnExactSymbolSolved", apart := false, narrowed := true }
def FnExactSymbolSolvedUptoSaid : Prop := fnExactSymbolSolvedUptoRow.holds Try.pinned (OpenSpec.upto fnExactSymbolSolvedSpec)

/-- 'laws.FnExactPrimeIs', WHERE WHAT IT READS IS OF BULK AT MOST 1048576: true; the input reads as it did. -/
def fnExactPrimeIsUptoRow : OpenClaim := { program := "ytndclhdlkhdlmaa", sum := "30dfe9bd82102142b3bcad641f1e30d815a7595e9735c5d18145ea28db8a707a", func := "loop.example/localglobal/laws.FnExactPrimeIs", spec := "fnExactPrimeIs", apart := false, narrowed := true }
def FnExactPrimeIsUptoSaid : Prop := fnExactPrimeIsUptoRow.holds Try.pinned (OpenSpec.upto fnExactPrimeIsSpec)

/-- 'laws.FnExactPlaceValid', WHERE WHAT IT READS IS OF BULK AT MOST 1048576: true; the input reads as it did. -/
def fnExactPlaceValidUptoRow : OpenClaim := { program := "ytndclhdlkhdlmaa", sum := "30dfe9bd82102142b3bcad641f1e30d815a7595e9735c5d18145ea28db8a707a", func := "loop.example/localglobal/laws.FnExactPlaceValid", spec := "fnExactPlaceValid", apart := false, narrowed := true }
def FnExactPlaceValidUptoSaid : Prop := fnExactPlaceValidUptoRow.holds Try.pinned (OpenSpec.upto fnExactPlaceValidSpec)

/-- 'laws.FnExactInverseMod', WHERE WHAT IT READS IS OF BULK AT MOST 1048576: true; the input reads as it did. -/
def fnExactInverseModUptoRow : OpenClaim := { program := "ytndclhdlkhdlmaa", sum := "30dfe9bd82102142b3bcad641f1e30d815a7595e9735c5d18145ea28db8a707a", func := "loop.example/localglobal/laws.FnExactInverseMod", spec := "fnExactInverseMod", apart := false, narrowed := true }
def FnExactInverseModUptoSaid : Prop := fnExactInverseModUptoRow.holds Try.pinned (OpenSpec.upto fnExactInverseModSpec)

/-- 'laws.FnExactRootMod', WHERE WHAT IT READS IS OF BULK AT MOST 1048576: true; the input reads as it did. -/
def fnExactRootModUptoRow : OpenClaim := { program := "ytndclhdlkhdlmaa", sum := "30dfe9bd82102142b3bcad641f1e30d815a7595e9735c5d18145ea28db8a707a", func := "loop.example/localglobal/laws.FnExactRootMod", spec := "fnExactRootMod", apart := false, narrowed := true }
def FnExactRootModUptoSaid : Prop := fnExactRootModUptoRow.holds Try.pinned (OpenSpec.upto fnExactRootModSpec)

/-- 'laws.FnExactSquareIs', WHERE WHAT IT READS IS OF BULK AT MOST 1048576: true; the input reads as it did. -/
def fnExactSquareIsUptoRow : OpenClaim := { program := "ytndclhdlkhdlmaa", sum := "30dfe9bd82102142b3bcad641f1e30d815a7595e9735c5d18145ea28db8a707a", func := "loop.example/localglobal/laws.FnExactSquareIs", spec := "fnExactSquareIs", apart := false, narrowed := true }
def FnExactSquareIsUptoSaid : Prop := fnExactSquareIsUptoRow.holds Try.pinned (OpenSpec.upto fnExactSquareIsSpec)

/-- 'laws.FnExactPowerMod', WHERE WHAT IT READS IS OF BULK AT MOST 1048576: true; the input reads as it did. -/
def fnExactPowerModUptoRow : OpenClaim := { program := "ytndclhdlkhdlmaa", sum := "30dfe9bd82102142b3bcad641f1e30d815a7595e9735c5d18145ea28db8a707a", func := "loop.example/localglobal/laws.FnExactPowerMod", spec := "fnExactPowerMod", apart := false, narrowed := true }
def FnExactPowerModUptoSaid : Prop := fnExactPowerModUptoRow.holds Try.pinned (OpenSpec.upto fnExactPowerModSpec)

/-- 'laws.FnExactGcdOf', WHERE WHAT IT READS IS OF BULK AT MOST 1048576: true; the input reads as it did. -/
def fnExactGcdOfUptoRow : OpenClaim := { program := "ytndclhdlkhdlmaa", sum := "30dfe9bd82102142b3bcad641f1e30d815a7595e9735c5d18145ea28db8a707a", func := "loop.example/localglobal/laws.FnExactGcdOf", spec := "fnExactGcdOf", apart := false, narrowed := true }
def FnExactGcdOfUptoSaid : Prop := fnExactGcdOfUptoRow.holds Try.pinned (OpenSpec.upto fnExactGcdOfSpec)

/-- 'laws.FnExactValuationOf', WHERE WHAT IT READS IS OF BULK AT MOST 1048576: true; the input reads as it did. -/
def fnExactValuationOfUptoRow : OpenClaim := { program := "ytndclhdlkhdlmaa", sum := "30dfe9bd82102142b3bcad641f1e30d815a7595e9735c5d18145ea28db8a707a", func := "loop.example/localglobal/laws.FnExactValuationOf", spec := "fnExactValuationOf", apart := false, narrowed := true }
def FnExactValuationOfUptoSaid : Prop := fnExactValuationOfUptoRow.holds Try.pinned (OpenSpec.upto fnExactValuationOfSpec)

/-- 'laws.FnExactCoreOf', WHERE WHAT IT READS IS OF BULK AT MOST 1048576: true; the input reads as it did. -/
def fnExactCoreOfUptoRow : OpenClaim := { program := "ytndclhdlkhdlmaa", sum := "30dfe9bd82102142b3bcad641f1e30d815a7595e9735c5d18145ea28db8a707a", func := "loop.example/localglobal/laws.FnExactCoreOf", spec := "fnExactCoreOf", apart := false, narrowed := true }
def FnExactCoreOfUptoSaid : Prop := fnExactCoreOfUptoRow.holds Try.pinned (OpenSpec.upto fnExactCoreOfSpec)

/-- 'laws.FnExactLocalUnit', WHERE WHAT IT READS IS OF BULK AT MOST 1048576: true; the input reads as it did. -/
def fnExactLocalUnitUptoRow : OpenClaim := { program := "ytndclhdlkhdlmaa", sum := "30dfe9bd82102142b3bcad641f1e30d815a7595e9735c5d18145ea28db8a707a", func := "loop.example/localglobal/laws.FnExactLocalUnit", spec := "fnExactLocalUnit", apart := false, narrowed := true }
def FnExactLocalUnitUptoSaid : Prop := fnExactLocalUnitUptoRow.holds Try.pinned (OpenSpec.upto fnExactLocalUnitSpec)

end Rows
end Go.Proofs.Ytndclhdlkhdlmaa
