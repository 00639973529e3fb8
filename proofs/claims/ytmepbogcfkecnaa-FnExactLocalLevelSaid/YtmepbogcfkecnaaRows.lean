/-
  No cell of these rows narrows 'for every input' (looked for: loops, veiled, ifaces, maps, wideKeys, modest, calm, conditions, laid).
  DERIVED. THE GIVEN ROWS OF THIS SEAT. 12 by the template 'for every input the law returns true; each argument reads behind the call as it read before'; 0 by the template 'total and deterministic' (their statements: YtmepbogcfkecnaaTotals.lean).
  GIVEN WITH THE SEED: the statements are not yours to turn. If you find one false, say at which input.
  Laid BY PROGRAM, IN A SANDBOX (cutbox-rows.mjs): the forced cells as the released guide's own fill.sh prints them over the translation fda4ab931ec36516… (all of the seat's roots in one cut). By AI agents, Wed Nov 11 2026. No macro, syntax, notation, axiom, sorry.
-/
import Derived.Test.YtmepbogcfkecnaaChecked
import GoSem.Claim
import GoSem.ClaimJoined
import GoSem.ClaimMapViews
import Derived.JoinedTies
import Derived.KernelRfl
namespace Go.Proofs.Ytmepbogcfkecnaa
/- THE CELL 'sum', in the pinned program and in every row, IS THE sha256 OF THE DUMP (.gsa) THAT YtmepbogcfkecnaaProg.lean LOADS. Nothing in Lean hashes anything: it is a label: what it is worth is what the hold of that sum in a sandbox is worth. -/
noncomputable def Try.pinned : Pinned := { name := "ytmepbogcfkecnaa", sum := "fda4ab931ec365160eafa9b619187908f86400bcc89bfd02a3aceb24e6307bfa", checked := Try.checked }
namespace Rows
def none {H : Type} : Left H := { results := [], args := [] }

/-- 'laws.FnName': WHATEVER THE INPUT: true; the input reads as it did. -/
def fnNameSpec : ChangeSpec := { name := "fnName", fn := fun _ => fun
  | [d] => { results := [.lit (.bool true)], args := [d] }
  | _ => none }
def fnNameRow : OpenClaim := { program := "ytmepbogcfkecnaa", sum := "fda4ab931ec365160eafa9b619187908f86400bcc89bfd02a3aceb24e6307bfa", func := "loop.example/localglobal/laws.FnName", spec := "fnName", apart := false }
def FnNameSaid : Prop := fnNameRow.holds Try.pinned (OpenSpec.ofChange fnNameSpec)

/-- ITS FALSE NEIGHBOUR: 'it returns false'. Refute it at one input. -/
def fnNameWrong : ChangeSpec := { name := "fnName", fn := fun _ => fun
  | [d] => { results := [.lit (.bool false)], args := [d] }
  | _ => none }
def FnNameWrongFalsely : Prop := fnNameRow.holds Try.pinned (OpenSpec.ofChange fnNameWrong)

/-- 'laws.FnExactSymbolWays': WHATEVER THE INPUT: true; the input reads as it did. -/
def fnExactSymbolWaysSpec : ChangeSpec := { name := "fnExactSymbolWays", fn := fun _ => fun
  | [d1, d2, d3] => { results := [.lit (.bool true)], args := [d1, d2, d3] }
  | _ => none }
def fnExactSymbolWaysRow : OpenClaim := { program := "ytmepbogcfkecnaa", sum := "fda4ab931ec365160eafa9b619187908f86400bcc89bfd02a3aceb24e6307bfa", func := "loop.example/localglobal/laws.FnExactSymbolWays", spec := "fnExactSymbolWays", apart := false }
def FnExactSymbolWaysSaid : Prop := fnExactSymbolWaysRow.holds Try.pinned (OpenSpec.ofChange fnExactSymbolWaysSpec)

/-- ITS FALSE NEIGHBOUR: 'it returns false'. Refute it at one input. -/
def fnExactSymbolWaysWrong : ChangeSpec := { name := "fnExactSymbolWays", fn := fun _ => fun
  | [d1, d2, d3] => { results := [.lit (.bool false)], args := [d1, d2, d3] }
  | _ => none }
def FnExactSymbolWaysWrongFalsely : Prop := fnExactSymbolWaysRow.holds Try.pinned (OpenSpec.ofChange fnExactSymbolWaysWrong)

/-- 'laws.FnRoot': WHATEVER THE INPUT: true; the input reads as it did. -/
def fnRootSpec : ChangeSpec := { name := "fnRoot", fn := fun _ => fun
  | [d] => { results := [.lit (.bool true)], args := [d] }
  | _ => none }
def fnRootRow : OpenClaim := { program := "ytmepbogcfkecnaa", sum := "fda4ab931ec365160eafa9b619187908f86400bcc89bfd02a3aceb24e6307bfa", func := "loop.example/localglobal/laws.FnRoot", spec := "fnRoot", apart := false }
def FnRootSaid : Prop := fnRootRow.holds Try.pinned (OpenSpec.ofChange fnRootSpec)

/-- ITS FALSE NEIGHBOUR: 'it returns false'. Refute it at one input. -/
def fnRootWrong : ChangeSpec := { name := "fnRoot", fn := fun _ => fun
  | [d] => { results := [.lit (.bool false)], args := [d] }
  | _ => none }
def FnRootWrongFalsely : Prop := fnRootRow.holds Try.pinned (OpenSpec.ofChange fnRootWrong)

/-- 'laws.FnExactResidueIs': WHATEVER THE INPUT: true; the input reads as it did. -/
def fnExactResidueIsSpec : ChangeSpec := { name := "fnExactResidueIs", fn := fun _ => fun
  | [d1, d2] => { results := [.lit (.bool true)], args := [d1, d2] }
  | _ => none }
def fnExactResidueIsRow : OpenClaim := { program := "ytmepbogcfkecnaa", sum := "fda4ab931ec365160eafa9b619187908f86400bcc89bfd02a3aceb24e6307bfa", func := "loop.example/localglobal/laws.FnExactResidueIs", spec := "fnExactResidueIs", apart := false }
def FnExactResidueIsSaid : Prop := fnExactResidueIsRow.holds Try.pinned (OpenSpec.ofChange fnExactResidueIsSpec)

/-- ITS FALSE NEIGHBOUR: 'it returns false'. Refute it at one input. -/
def fnExactResidueIsWrong : ChangeSpec := { name := "fnExactResidueIs", fn := fun _ => fun
  | [d1, d2] => { results := [.lit (.bool false)], args := [d1, d2] }
  | _ => none }
def FnExactResidueIsWrongFalsely : Prop := fnExactResidueIsRow.holds Try.pinned (OpenSpec.ofChange fnExactResidueIsWrong)

/-- 'laws.FnPowerMod': WHATEVER THE INPUT: true; the input reads as it did. -/
def fnPowerModSpec : ChangeSpec := { name := "fnPowerMod", fn := fun _ => fun
  | [d] => { results := [.lit (.bool true)], args := [d] }
  | _ => none }
def fnPowerModRow : OpenClaim := { program := "ytmepbogcfkecnaa", sum := "fda4ab931ec365160eafa9b619187908f86400bcc89bfd02a3aceb24e6307bfa", func := "loop.example/localglobal/laws.FnPowerMod", spec := "fnPowerMod", apart := false }
def FnPowerModSaid : Prop := fnPowerModRow.holds Try.pinned (OpenSpec.ofChange fnPowerModSpec)

/-- ITS FALSE NEIGHBOUR: 'it returns false'. Refute it at one input. -/
def fnPowerModWrong : ChangeSpec := { name := "fnPowerMod", fn := fun _ => fun
  | [d] => { results := [.lit (.bool false)], args := [d] }
  | _ => none }
def FnPowerModWrongFalsely : Prop := fnPowerModRow.holds Try.pinned (OpenSpec.ofChange fnPowerModWrong)

/-- 'laws.FnGcd': WHATEVER THE INPUT: true; the input reads as it did. -/
def fnGcdSpec : ChangeSpec := { name := "fnGcd", fn := fun _ => fun
  | [d] => { results := [.lit (.bool true)], args := [d] }
  | _ => none }
def fnGcdRow : OpenClaim := { program := "ytmepbogcfkecnaa", sum := "fda4ab931ec365160eafa9b619187908f86400bcc89bfd02a3aceb24e6307bfa", func := "loop.example/localglobal/laws.FnGcd", spec := "fnGcd", apart := false }
def FnGcdSaid : Prop := fnGcdRow.holds Try.pinned (OpenSpec.ofChange fnGcdSpec)

/-- ITS FALSE NEIGHBOUR: 'it returns false'. Refute it at one input. -/
def fnGcdWrong : ChangeSpec := { name := "fnGcd", fn := fun _ => fun
  | [d] => { results := [.lit (.bool false)], args := [d] }
  | _ => none }
def FnGcdWrongFalsely : Prop := fnGcdRow.holds Try.pinned (OpenSpec.ofChange fnGcdWrong)

/-- 'laws.FnExactSymbolModulo': WHATEVER THE INPUT: true; the input reads as it did. -/
def fnExactSymbolModuloSpec : ChangeSpec := { name := "fnExactSymbolModulo", fn := fun _ => fun
  | [d1, d2, d3, d4] => { results := [.lit (.bool true)], args := [d1, d2, d3, d4] }
  | _ => none }
def fnExactSymbolModuloRow : OpenClaim := { program := "ytmepbogcfkecnaa", sum := "fda4ab931ec365160eafa9b619187908f86400bcc89bfd02a3aceb24e6307bfa", func := "loop.example/localglobal/laws.FnExactSymbolModulo", spec := "fnExactSymbolModulo", apart := false }
def FnExactSymbolModuloSaid : Prop := fnExactSymbolModuloRow.holds Try.pinned (OpenSpec.ofChange fnExactSymbolModuloSpec)

/-- ITS FALSE NEIGHBOUR: 'it returns false'. Refute it at one input. -/
def fnExactSymbolModuloWrong : ChangeSpec := { name := "fnExactSymbolModulo", fn := fun _ => fun
  | [d1, d2, d3, d4] => { results := [.lit (.bool false)], args := [d1, d2, d3, d4] }
  | _ => none }
def FnExactSymbolModuloWrongFalsely : Prop := fnExactSymbolModuloRow.holds Try.pinned (OpenSpec.ofChange fnExactSymbolModuloWrong)

/-- 'laws.FnExactNonResidue': WHATEVER THE INPUT: true; the input reads as it did. -/
def fnExactNonResidueSpec : ChangeSpec := { name := "fnExactNonResidue", fn := fun _ => fun
  | [d] => { results := [.lit (.bool true)], args := [d] }
  | _ => none }
def fnExactNonResidueRow : OpenClaim := { program := "ytmepbogcfkecnaa", sum := "fda4ab931ec365160eafa9b619187908f86400bcc89bfd02a3aceb24e6307bfa", func := "loop.example/localglobal/laws.FnExactNonResidue", spec := "fnExactNonResidue", apart := false }
def FnExactNonResidueSaid : Prop := fnExactNonResidueRow.holds Try.pinned (OpenSpec.ofChange fnExactNonResidueSpec)

/-- ITS FALSE NEIGHBOUR: 'it returns false'. Refute it at one input. -/
def fnExactNonResidueWrong : ChangeSpec := { name := "fnExactNonResidue", fn := fun _ => fun
  | [d] => { results := [.lit (.bool false)], args := [d] }
  | _ => none }
def FnExactNonResidueWrongFalsely : Prop := fnExactNonResidueRow.holds Try.pinned (OpenSpec.ofChange fnExactNonResidueWrong)

/-- 'laws.FnExactLocalLevel': WHATEVER THE INPUT: true; the input reads as it did. -/
def fnExactLocalLevelSpec : ChangeSpec := { name := "fnExactLocalLevel", fn := fun _ => fun
  | [d] => { results := [.lit (.bool true)], args := [d] }
  | _ => none }
def fnExactLocalLevelRow : OpenClaim := { program := "ytmepbogcfkecnaa", sum := "fda4ab931ec365160eafa9b619187908f86400bcc89bfd02a3aceb24e6307bfa", func := "loop.example/localglobal/laws.FnExactLocalLevel", spec := "fnExactLocalLevel", apart := false }
def FnExactLocalLevelSaid : Prop := fnExactLocalLevelRow.holds Try.pinned (OpenSpec.ofChange fnExactLocalLevelSpec)

/-- ITS FALSE NEIGHBOUR: 'it returns false'. Refute it at one input. -/
def fnExactLocalLevelWrong : ChangeSpec := { name := "fnExactLocalLevel", fn := fun _ => fun
  | [d] => { results := [.lit (.bool false)], args := [d] }
  | _ => none }
def FnExactLocalLevelWrongFalsely : Prop := fnExactLocalLevelRow.holds Try.pinned (OpenSpec.ofChange fnExactLocalLevelWrong)

/-- 'laws.FnInverse': WHATEVER THE INPUT: true; the input reads as it did. -/
def fnInverseSpec : ChangeSpec := { name := "fnInverse", fn := fun _ => fun
  | [d] => { results := [.lit (.bool true)], args := [d] }
  | _ => none }
def fnInverseRow : OpenClaim := { program := "ytmepbogcfkecnaa", sum := "fda4ab931ec365160eafa9b619187908f86400bcc89bfd02a3aceb24e6307bfa", func := "loop.example/localglobal/laws.FnInverse", spec := "fnInverse", apart := false }
def FnInverseSaid : Prop := fnInverseRow.holds Try.pinned (OpenSpec.ofChange fnInverseSpec)

/-- ITS FALSE NEIGHBOUR: 'it returns false'. Refute it at one input. -/
def fnInverseWrong : ChangeSpec := { name := "fnInverse", fn := fun _ => fun
  | [d] => { results := [.lit (.bool false)], args := [d] }
  | _ => none }
def FnInverseWrongFalsely : Prop := fnInverseRow.holds Try.pinned (OpenSpec.ofChange fnInverseWrong)

/-- 'laws.FnExactPrimesOf': WHATEVER THE INPUT: true; the input reads as it did. -/
def fnExactPrimesOfSpec : ChangeSpec := { name := "fnExactPrimesOf", fn := fun _ => fun
  | [d] => { results := [.lit (.bool true)], args := [d] }
  | _ => none }
def fnExactPrimesOfRow : OpenClaim := { program := "ytmepbogcfkecnaa", sum := "fda4ab931ec365160eafa9b619187908f86400bcc89bfd02a3aceb24e6307bfa", func := "loop.example/localglobal/laws.FnExactPrimesOf", spec := "fnExactPrimesOf", apart := false }
def FnExactPrimesOfSaid : Prop := fnExactPrimesOfRow.holds Try.pinned (OpenSpec.ofChange fnExactPrimesOfSpec)

/-- ITS FALSE NEIGHBOUR: 'it returns false'. Refute it at one input. -/
def fnExactPrimesOfWrong : ChangeSpec := { name := "fnExactPrimesOf", fn := fun _ => fun
  | [d] => { results := [.lit (.bool false)], args := [d] }
  | _ => none }
def FnExactPrimesOfWrongFalsely : Prop := fnExactPrimesOfRow.holds Try.pinned (OpenSpec.ofChange fnExactPrimesOfWrong)

/-- 'laws.FnExactLocalRoot': WHATEVER THE INPUT: true; the input reads as it did. -/
def fnExactLocalRootSpec : ChangeSpec := { name := "fnExactLocalRoot", fn := fun _ => fun
  | [d1, d2, d3] => { results := [.lit (.bool true)], args := [d1, d2, d3] }
  | _ => none }
def fnExactLocalRootRow : OpenClaim := { program := "ytmepbogcfkecnaa", sum := "fda4ab931ec365160eafa9b619187908f86400bcc89bfd02a3aceb24e6307bfa", func := "loop.example/localglobal/laws.FnExactLocalRoot", spec := "fnExactLocalRoot", apart := false }
def FnExactLocalRootSaid : Prop := fnExactLocalRootRow.holds Try.pinned (OpenSpec.ofChange fnExactLocalRootSpec)

/-- ITS FALSE NEIGHBOUR: 'it returns false'. Refute it at one input. -/
def fnExactLocalRootWrong : ChangeSpec := { name := "fnExactLocalRoot", fn := fun _ => fun
  | [d1, d2, d3] => { results := [.lit (.bool false)], args := [d1, d2, d3] }
  | _ => none }
def FnExactLocalRootWrongFalsely : Prop := fnExactLocalRootRow.holds Try.pinned (OpenSpec.ofChange fnExactLocalRootWrong)

/- THE SECOND FORM. 'bulk': how many values and letters a reading holds, each counted each time it is reached (what is shared counts as often as it is met; a slice's spare places count too). A statement '..UptoSaid' is the law's where the arguments, and the package variables that the reading takes, are together of bulk at most 1048576: NARROWER than '..Said'. Prove '..Said' where nothing that the law and all that it calls make is longer than what came in: it says more and counts as full. Else prove '..UptoSaid'. A law counts once. -/
mutual
def uptoBulk {H : Type} : DataW H → Nat
  | .lit (.string bytes) => bytes.length + 1
  | .lit _ => 1
  | .nil => 1
  | .ptr d => uptoBulk d + 1
  | .slice elems spare => uptoBulkAll elems + uptoBulkAll spare + 1
  | .agg parts => uptoBulkAll parts + 1
  | .iface _ d => uptoBulk d + 1
  | .map entries => uptoBulkEntries entries + 1
  | .held _ => 1
def uptoBulkAll {H : Type} : List (DataW H) → Nat
  | [] => 0
  | d :: r => uptoBulk d + uptoBulkAll r
def uptoBulkEntries {H : Type} : List (Lit × DataW H) → Nat
  | [] => 0
  | x :: r => uptoBulkEntry x + uptoBulkEntries r
def uptoBulkEntry {H : Type} : Lit × DataW H → Nat
  | (.string bytes, d) => bytes.length + uptoBulk d + 1
  | (_, d) => uptoBulk d + 1
 end
def uptoSmall : (H : Type) → List (DataW H) → Bool := fun _ ds => decide (uptoBulkAll ds ≤ 1048576)
def OpenSpec.upto (s : _root_.Go.ChangeSpec) : _root_.Go.OpenSpec := { _root_.Go.OpenSpec.ofChange s with cond := some uptoSmall }

/-- 'laws.FnName', WHERE WHAT IT READS IS OF BULK AT MOST 1048576: true; the input reads as it did. -/
def fnNameUptoRow : OpenClaim := { program := "ytmepbogcfkecnaa", sum := "fda4ab931ec365160eafa9b619187908f86400bcc89bfd02a3aceb24e6307bfa", func := "loop.example/localglobal/laws.FnName", spec := "fnName", apart := false, narrowed := true }
def FnNameUptoSaid : Prop := fnNameUptoRow.holds Try.pinned (OpenSpec.upto fnNameSpec)

/-- 'laws.FnExactSymbolWays', WHERE WHAT IT READS IS OF BULK AT MOST 1048576: true; the input reads as it did. -/
def fnExactSymbolWaysUptoRow : OpenClaim := { program := "ytmepbogcfkecnaa", sum := "fda4ab931ec365160eafa9b619187908f86400bcc89bfd02a3aceb24e6307bfa", func := "loop.example/localglobal/laws.FnExactSymbolWays", spec := "fnExactSymbolWays", apart := false, narrowed := true }
def FnExactSymbolWaysUptoSaid : Prop := fnExactSymbolWaysUptoRow.holds Try.pinned (OpenSpec.upto fnExactSymbolWaysSpec)

/-- 'laws.FnRoot', WHERE WHAT IT READS IS OF BULK AT MOST 1048576: true; the input reads as it did. -/
def fnRootUptoRow : OpenClaim := { program := "ytmepbogcfkecnaa", sum := "fda4ab931ec365160eafa9b619187908f86400bcc89bfd02a3aceb24e6307bfa", func := "loop.example/localglobal/laws.FnRoot", spec := "fnRoot", apart := false, narrowed := true }
def FnRootUptoSaid : Prop := fnRootUptoRow.holds Try.pinned (OpenSpec.upto fnRootSpec)

/-- 'laws.FnExactResidueIs', WHERE WHAT IT READS IS OF BULK AT MOST 1048576: true; the input reads as it did. -/
def fnExactResidueIsUptoRow : OpenClaim := { program := "ytmepbogcfkecnaa", sum := "fda4ab931ec365160eafa9b619187908f86400bcc89bfd02a3aceb24e6307bfa", func := "loop.example/localglobal/laws.FnExactResidueIs", spec := "fnExactResidueIs", apart := false, narrowed := true }
def FnExactResidueIsUptoSaid : Prop := fnExactResidueIsUptoRow.holds Try.pinned (OpenSpec.upto fnExactResidueIsSpec)

/-- 'laws.FnPowerMod', WHERE WHAT IT READS IS OF BULK AT MOST 1048576: true; the input reads as it did. -/
def fnPowerModUptoRow : OpenClaim := { program := "ytmepbogcfkecnaa", sum := "fda4ab931ec365160eafa9b619187908f86400bcc89bfd02a3aceb24e6307bfa", func := "loop.example/localglobal/laws.FnPowerMod", spec := "fnPowerMod", apart := false, narrowed := true }
def FnPowerModUptoSaid : Prop := fnPowerModUptoRow.holds Try.pinned (OpenSpec.upto fnPowerModSpec)

/-- 'laws.FnGcd', WHERE WHAT IT READS IS OF BULK AT MOST 1048576: true; the input reads as it did. -/
def fnGcdUptoRow : OpenClaim := { program := "ytmepbogcfkecnaa", sum := "fda4ab931ec365160eafa9b619187908f86400bcc89bfd02a3aceb24e6307bfa", func := "loop.example/localglobal/laws.FnGcd", spec := "fnGcd", apart := false, narrowed := true }
def FnGcdUptoSaid : Prop := fnGcdUptoRow.holds Try.pinned (OpenSpec.upto fnGcdSpec)

/-- 'laws.FnExactSymbolModulo', WHERE WHAT IT READS IS OF BULK AT MOST 1048576: true; the input reads as it did. -/
def fnExactSymbolModuloUptoRow : OpenClaim := { program := "ytmepbogcfkecnaa", sum := "fda4ab931ec365160eafa9b619187908f86400bcc89bfd02a3aceb24e6307bfa", func := "loop.example/localglobal/laws.FnExactSymbolModulo", spec := "fnExactSymbolModulo", apart := false, narrowed := true }
def FnExactSymbolModuloUptoSaid : Prop := fnExactSymbolModuloUptoRow.holds Try.pinned (OpenSpec.upto fnExactSymbolModuloSpec)

/-- 'laws.FnExactNonResidue', WHERE WHAT IT READS IS OF BULK AT MOST 1048576: true; the input reads as it did. -/
def fnExactNonResidueUptoRow : OpenClaim := { program := "ytmepbogcfkecnaa", sum := "fda4ab931ec365160eafa9b619187908f86400bcc89bfd02a3aceb24e6307bfa", func := "loop.example/localglobal/laws.FnExactNonResidue", spec := "fnExactNonResidue", apart := false, narrowed := true }
def FnExactNonResidueUptoSaid : Prop := fnExactNonResidueUptoRow.holds Try.pinned (OpenSpec.upto fnExactNonResidueSpec)

/-- 'laws.FnExactLocalLevel', WHERE WHAT IT READS IS OF BULK AT MOST 1048576: true; the input reads as it did. -/
def fnExactLocalLevelUptoRow : OpenClaim := { program := "ytmepbogcfkecnaa", sum := "fda4ab931ec365160eafa9b619187908f86400bcc89bfd02a3aceb24e6307bfa", func := "loop.example/localglobal/laws.FnExactLocalLevel", spec := "fnExactLocalLevel", apart := false, narrowed := true }
def FnExactLocalLevelUptoSaid : Prop := fnExactLocalLevelUptoRow.holds Try.pinned (OpenSpec.upto fnExactLocalLevelSpec)

/-- 'laws.FnInverse', WHERE WHAT IT READS IS OF BULK AT MOST 1048576: true; the input reads as it did. -/
def fnInverseUptoRow : OpenClaim := { program := "ytmepbogcfkecnaa", sum := "fda4ab931ec365160eafa9b619187908f86400bcc89bfd02a3aceb24e6307bfa", func := "loop.example/localglobal/laws.FnInverse", spec := "fnInverse", apart := false, narrowed := true }
def FnInverseUptoSaid : Prop := fnInverseUptoRow.holds Try.pinned (OpenSpec.upto fnInverseSpec)

/-- 'laws.FnExactPrimesOf', WHERE WHAT IT READS IS OF BULK AT MOST 1048576: true; the input reads as it did. -/
def fnExactPrimesOfUptoRow : OpenClaim := { program := "ytmepbogcfkecnaa", sum := "fda4ab931ec365160eafa9b619187908f86400bcc89bfd02a3aceb24e6307bfa", func := "loop.example/localglobal/laws.FnExactPrimesOf", spec := "fnExactPrimesOf", apart := false, narrowed := true }
def FnExactPrimesOfUptoSaid : Prop := fnExactPrimesOfUptoRow.holds Try.pinned (OpenSpec.upto fnExactPrimesOfSpec)

/-- 'laws.FnExactLocalRoot', WHERE WHAT IT READS IS OF BULK AT MOST 1048576: true; the input reads as it did. -/
def fnExactLocalRootUptoRow : OpenClaim := { program := "ytmepbogcfkecnaa", sum := "fda4ab931ec365160eafa9b619187908f86400bcc89bfd02a3aceb24e6307bfa", func := "loop.example/localglobal/laws.FnExactLocalRoot", spec := "fnExactLocalRoot", apart := false, narrowed := true }
def FnExactLocalRootUptoSaid : Prop := fnExactLocalRootUptoRow.holds Try.pinned (OpenSpec.upto fnExactLocalRootSpec)

end Rows
end Go.Proofs.Ytmepbogcfkecnaa
