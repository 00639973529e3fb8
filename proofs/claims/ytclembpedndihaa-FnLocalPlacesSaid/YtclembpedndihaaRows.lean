/-
  No cell of these rows narrows 'for every input' (looked for: loops, veiled, ifaces, maps, wideKeys, modest, calm, conditions, laid).
  DERIVED. THE GIVEN ROWS OF THIS SEAT. 3 by the template 'for every input the law returns true; each argument reads behind the call as it read before'; 0 by the template 'total and deterministic' (their statements: YtclembpedndihaaTotals.lean).
  GIVEN WITH THE SEED: the statements are not yours to turn. If you find one false, say at which input.
  Laid BY PROGRAM, IN A SANDBOX (cutbox-rows.mjs): the forced cells as the released guide's own fill.sh prints them over the translation ca9ff8b669fd11ee… (all of the seat's roots in one cut). By AI agents, Wed Nov 11 2026. No macro, syntax, notation, axiom, sorry.
-/
import Derived.Test.YtclembpedndihaaChecked
import GoSem.Claim
import GoSem.ClaimJoined
import GoSem.ClaimMapViews
import Derived.JoinedTies
import Derived.KernelRfl
namespace Go.Proofs.Ytclembpedndihaa
/- THE CELL 'sum', in the pinned program and in every row, IS THE sha256 OF THE DUMP (.gsa) THAT YtclembpedndihaaProg.lean LOADS. Nothing in Lean hashes anything: it is a label: what it is worth is what the hold of that sum in a sandbox is worth. -/
noncomputable def Try.pinned : Pinned := { name := "ytclembpedndihaa", sum := "ca9ff8b669fd11ee016d4d3999526e309e5546d33c0f53e12917e16ffb101a5a", checked := Try.checked }
namespace Rows
def none {H : Type} : Left H := { results := [], args := [] }

/-- 'laws.FnMul': WHATEVER THE INPUT: true; the input reads as it did. -/
def fnMulSpec : ChangeSpec := { name := "fnMul", fn := fun _ => fun
  | [d] => { results := [.lit (.bool true)], args := [d] }
  | _ => none }
def fnMulRow : OpenClaim := { program := "ytclembpedndihaa", sum := "ca9ff8b669fd11ee016d4d3999526e309e5546d33c0f53e12917e16ffb101a5a", func := "loop.example/localglobal/laws.FnMul", spec := "fnMul", apart := false }
def FnMulSaid : Prop := fnMulRow.holds Try.pinned (OpenSpec.ofChange fnMulSpec)

/-- ITS FALSE NEIGHBOUR: 'it returns false'. Refute it at one input. -/
def fnMulWrong : ChangeSpec := { name := "fnMul", fn := fun _ => fun
  | [d] => { results := [.lit (.bool false)], args := [d] }
  | _ => none }
def FnMulWrongFalsely : Prop := fnMulRow.holds Try.pinned (OpenSpec.ofChange fnMulWrong)

/-- 'laws.FnExactLocalPlaces': WHATEVER THE INPUT: true; the input reads as it did. -/
def fnExactLocalPlacesSpec : ChangeSpec := { name := "fnExactLocalPlaces", fn := fun _ => fun
  | [d] => { results := [.lit (.bool true)], args := [d] }
  | _ => none }
def fnExactLocalPlacesRow : OpenClaim := { program := "ytclembpedndihaa", sum := "ca9ff8b669fd11ee016d4d3999526e309e5546d33c0f53e12917e16ffb101a5a", func := "loop.example/localglobal/laws.FnExactLocalPlaces", spec := "fnExactLocalPlaces", recurses := true, apart := false }
def FnExactLocalPlacesSaid : Prop := fnExactLocalPlacesRow.holds Try.pinned (OpenSpec.ofChange fnExactLocalPlacesSpec)

/-- ITS FALSE NEIGHBOUR: 'it returns false'. Refute it at one input. -/
def fnExactLocalPlacesWrong : ChangeSpec := { name := "fnExactLocalPlaces", fn := fun _ => fun
  | [d] => { results := [.lit (.bool false)], args := [d] }
  | _ => none }
def FnExactLocalPlacesWrongFalsely : Prop := fnExactLocalPlacesRow.holds Try.pinned (OpenSpec.ofChange fnExactLocalPlacesWrong)

/-- 'laws.FnLocalPlaces': WHATEVER THE INPUT: true; the input reads as it did. -/
def fnLocalPlacesSpec : ChangeSpec := { name := "fnLocalPlaces", fn := fun _ => fun
  | [d] => { results := [.lit (.bool true)], args := [d] }
  | _ => none }
def fnLocalPlacesRow : OpenClaim := { program := "ytclembpedndihaa", sum := "ca9ff8b669fd11ee016d4d3999526e309e5546d33c0f53e12917e16ffb101a5a", func := "loop.example/localglobal/laws.FnLocalPlaces", spec := "fnLocalPlaces", recurses := true, apart := false }
def FnLocalPlacesSaid : Prop := fnLocalPlacesRow.holds Try.pinned (OpenSpec.ofChange fnLocalPlacesSpec)

/-- ITS FALSE NEIGHBOUR: 'it returns false'. Refute it at one input. -/
def fnLocalPlacesWrong : ChangeSpec := { name := "fnLocalPlaces", fn := fun _ => fun
  | [d] => { results := [.lit (.bool false)], args := [d] }
  | _ => none }
def FnLocalPlacesWrongFalsely : Prop := fnLocalPlacesRow.holds Try.pinned (OpenSpec.ofChange fnLocalPlacesWrong)

/- THE SECOND FORM. 'bulk': how many values and letters a reading holds, each counted each time it is reached (what is shared counts as often as it is met; a slice's spare places count too). A statement '..UptoSaid' is the law's where the arguments, and the package variables that the reading takes, are together of bulk at most 1048576: NARROWER than '..Said'. Prove '..Said' where nothing that the law and all that it calls make is longer than what came in: it says more and counts as full. Else prove '..UptoSaid'. A law counts once. -/
mutual
def uptoBulk {H : Type} : DataW H → Nat
  | .lit (.string bytes) => bytes.length + 1
  | .lit _ => 1
  | .nil => 1
  | .ptr d => uptoBulk d + 1
  | .slice elems spare => uptoBulkAll elems + uptoBulkAll spare + 1
  | .agg parts => uptoBulkAll parts + 1
  | .iface _ d => uptoBulk d + 1
  | .map entries => uptoBulkEntries entries + 1
  | .held _ => 1
def uptoBulkAll {H : Type} : List (DataW H) → Nat
  | [] => 0
  | d :: r => uptoBulk d + uptoBulkAll r
def uptoBulkEntries {H : Type} : List (Lit × DataW H) → Nat
  | [] => 0
  | x :: r => uptoBulkEntry x + uptoBulkEntries r
def uptoBulkEntry {H : Type} : Lit × DataW H → Nat
  | (.string bytes, d) => bytes.length + uptoBulk d + 1
  | (_, d) => uptoBulk d + 1
 end
def uptoSmall : (H : Type) → List (DataW H) → Bool := fun _ ds => decide (uptoBulkAll ds ≤ 1048576)
def OpenSpec.upto (s : _root_.Go.ChangeSpec) : _root_.Go.OpenSpec := { _root_.Go.OpenSpec.ofChange s with cond := some uptoSmall }

/-- 'laws.FnMul', WHERE WHAT IT READS IS OF BULK AT MOST 1048576: true; the input reads as it did. -/
def fnMulUptoRow : OpenClaim := { program := "ytclembpedndihaa", sum := "ca9ff8b669fd11ee016d4d3999526e309e5546d33c0f53e12917e16ffb101a5a", func := "loop.example/localglobal/laws.FnMul", spec := "fnMul", apart := false, narrowed := true }
def FnMulUptoSaid : Prop := fnMulUptoRow.holds Try.pinned (OpenSpec.upto fnMulSpec)

/-- 'laws.FnExactLocalPlaces', WHERE WHAT IT READS IS OF BULK AT MOST 1048576: true; the input reads as it did. -/
def fnExactLocalPlacesUptoRow : OpenClaim := { program := "ytclembpedndihaa", sum := "ca9ff8b669fd11ee016d4d3999526e309e5546d33c0f53e12917e16ffb101a5a", func := "loop.example/localglobal/laws.FnExactLocalPlaces", spec := "fnExactLocalPlaces", recurses := true, apart := false, narrowed := true }
def FnExactLocalPlacesUptoSaid : Prop := fnExactLocalPlacesUptoRow.holds Try.pinned (OpenSpec.upto fnExactLocalPlacesSpec)

/-- 'laws.FnLocalPlaces', WHERE WHAT IT READS IS OF BULK AT MOST 1048576: true; the input reads as it did. -/
def fnLocalPlacesUptoRow : OpenClaim := { program := "ytclembpedndihaa", sum := "ca9ff8b669fd11ee016d4d3999526e309e5546d33c0f53e12917e16ffb101a5a", func := "loop.example/localglobal/laws.FnLocalPlaces", spec := "fnLocalPlaces", recurses := true, apart := false, narrowed := true }
def FnLocalPlacesUptoSaid : Prop := fnLocalPlacesUptoRow.holds Try.pinned (OpenSpec.upto fnLocalPlacesSpec)

end Rows
end Go.Proofs.Ytclembpedndihaa
