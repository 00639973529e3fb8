/-
  No cell of these rows narrows 'for every input' (looked for: loops, veiled, ifaces, maps, wideKeys, modest, calm, conditions, laid).
  DERIVED. THE GIVEN ROWS OF THIS SEAT. 12 by the template 'for every input the law returns true; each argument reads behind the call as it read before'; 0 by the template 'total and deterministic' (their statements: YtpcocojkhcokmaaTotals.lean).
  GIVEN WITH THE SEED: the statements are not yours to turn. If you find one false, say at which input.
  Laid BY PROGRAM, IN A SANDBOX (cutbox-rows.mjs): the forced cells as the released guide's own fill.sh prints them over the translation 3d6f22493b1cac3a… (all of the seat's roots in one cut). By AI agents, Wed Nov 11 2026. No macro, syntax, notation, axiom, sorry.
-/
import Derived.Test.YtpcocojkhcokmaaChecked
import GoSem.Claim
import GoSem.ClaimJoined
import GoSem.ClaimMapViews
import Derived.JoinedTies
import Derived.KernelRfl
namespace Go.Proofs.Ytpcocojkhcokmaa
/- THE CELL 'sum', in the pinned program and in every row, IS THE sha256 OF THE DUMP (.gsa) THAT YtpcocojkhcokmaaProg.lean LOADS. Nothing in Lean hashes anything: it is a label: what it is worth is what the hold of that sum in a sandbox is worth. -/
noncomputable def Try.pinned : Pinned := { name := "ytpcocojkhcokmaa", sum := "3d6f22493b1cac3afafd4c05f37b933a0578598175cc7d93a5e042010698389a", checked := Try.checked }
namespace Rows
def none {H : Type} : Left H := { results := [], args := [] }

/-- 'laws.FnExactLocalNames': WHATEVER THE INPUT: true; the input reads as it did. -/
def fnExactLocalNamesSpec : ChangeSpec := { name := "fnExactLocalNames", fn := fun _ => fun
  | [d] => { results := [.lit (.bool true)], args := [d] }
  | _ => none }
def fnExactLocalNamesRow : OpenClaim := { program := "ytpcocojkhcokmaa", sum := "3d6f22493b1cac3afafd4c05f37b933a0578598175cc7d93a5e042010698389a", func := "loop.example/localglobal/laws.FnExactLocalNames", spec := "fnExactLocalNames", apart := false }
def FnExactLocalNamesSaid : Prop := fnExactLocalNamesRow.holds Try.pinned (OpenSpec.ofChange fnExactLocalNamesSpec)

/-- ITS FALSE NEIGHBOUR: 'it returns false'. Refute it at one input. -/
def fnExactLocalNamesWrong : ChangeSpec := { name := "fnExactLocalNames", fn := fun _ => fun
  | [d] => { results := [.lit (.bool false)], args := [d] }
  | _ => none }
def FnExactLocalNamesWrongFalsely : Prop := fnExactLocalNamesRow.holds Try.pinned (OpenSpec.ofChange fnExactLocalNamesWrong)

/-- 'laws.FnLocalRoot': WHATEVER THE INPUT: true; the input reads as it did. -/
def fnLocalRootSpec : ChangeSpec := { name := "fnLocalRoot", fn := fun _ => fun
  | [d] => { results := [.lit (.bool true)], args := [d] }
  | _ => none }
def fnLocalRootRow : OpenClaim := { program := "ytpcocojkhcokmaa", sum := "3d6f22493b1cac3afafd4c05f37b933a0578598175cc7d93a5e042010698389a", func := "loop.example/localglobal/laws.FnLocalRoot", spec := "fnLocalRoot", apart := false }
def FnLocalRootSaid : Prop := fnLocalRootRow.holds Try.pinned (OpenSpec.ofChange fnLocalRootSpec)

/-- ITS FALSE NEIGHBOUR: 'it returns false'. Refute it at one input. -/
def fnLocalRootWrong : ChangeSpec := { name := "fnLocalRoot", fn := fun _ => fun
  | [d] => { results := [.lit (.bool false)], args := [d] }
  | _ => none }
def FnLocalRootWrongFalsely : Prop := fnLocalRootRow.holds Try.pinned (OpenSpec.ofChange fnLocalRootWrong)

/-- 'laws.FnExactSymbolOf': WHATEVER THE INPUT: true; the input reads as it did. -/
def fnExactSymbolOfSpec : ChangeSpec := { name := "fnExactSymbolOf", fn := fun _ => fun
  | [d1, d2, d3] => { results := [.lit (.bool true)], args := [d1, d2, d3] }
  | _ => none }
def fnExactSymbolOfRow : OpenClaim := { program := "ytpcocojkhcokmaa", sum := "3d6f22493b1cac3afafd4c05f37b933a0578598175cc7d93a5e042010698389a", func := "loop.example/localglobal/laws.FnExactSymbolOf", spec := "fnExactSymbolOf", apart := false }
def FnExactSymbolOfSaid : Prop := fnExactSymbolOfRow.holds Try.pinned (OpenSpec.ofChange fnExactSymbolOfSpec)

/-- ITS FALSE NEIGHBOUR: 'it returns false'. Refute it at one input. -/
def fnExactSymbolOfWrong : ChangeSpec := { name := "fnExactSymbolOf", fn := fun _ => fun
  | [d1, d2, d3] => { results := [.lit (.bool false)], args := [d1, d2, d3] }
  | _ => none }
def FnExactSymbolOfWrongFalsely : Prop := fnExactSymbolOfRow.holds Try.pinned (OpenSpec.ofChange fnExactSymbolOfWrong)

/-- 'laws.FnJacobi': WHATEVER THE INPUT: true; the input reads as it did. -/
def fnJacobiSpec : ChangeSpec := { name := "fnJacobi", fn := fun _ => fun
  | [d1, d2] => { results := [.lit (.bool true)], args := [d1, d2] }
  | _ => none }
def fnJacobiRow : OpenClaim := { program := "ytpcocojkhcokmaa", sum := "3d6f22493b1cac3afafd4c05f37b933a0578598175cc7d93a5e042010698389a", func := "loop.example/localglobal/laws.FnJacobi", spec := "fnJacobi", apart := false }
def FnJacobiSaid : Prop := fnJacobiRow.holds Try.pinned (OpenSpec.ofChange fnJacobiSpec)

/-- ITS FALSE NEIGHBOUR: 'it returns false'. Refute it at one input. -/
def fnJacobiWrong : ChangeSpec := { name := "fnJacobi", fn := fun _ => fun
  | [d1, d2] => { results := [.lit (.bool false)], args := [d1, d2] }
  | _ => none }
def FnJacobiWrongFalsely : Prop := fnJacobiRow.holds Try.pinned (OpenSpec.ofChange fnJacobiWrong)

/-- 'laws.FnReciprocity': WHATEVER THE INPUT: true; the input reads as it did. -/
def fnReciprocitySpec : ChangeSpec := { name := "fnReciprocity", fn := fun _ => fun
  | [d] => { results := [.lit (.bool true)], args := [d] }
  | _ => none }
def fnReciprocityRow : OpenClaim := { program := "ytpcocojkhcokmaa", sum := "3d6f22493b1cac3afafd4c05f37b933a0578598175cc7d93a5e042010698389a", func := "loop.example/localglobal/laws.FnReciprocity", spec := "fnReciprocity", apart := false }
def FnReciprocitySaid : Prop := fnReciprocityRow.holds Try.pinned (OpenSpec.ofChange fnReciprocitySpec)

/-- ITS FALSE NEIGHBOUR: 'it returns false'. Refute it at one input. -/
def fnReciprocityWrong : ChangeSpec := { name := "fnReciprocity", fn := fun _ => fun
  | [d] => { results := [.lit (.bool false)], args := [d] }
  | _ => none }
def FnReciprocityWrongFalsely : Prop := fnReciprocityRow.holds Try.pinned (OpenSpec.ofChange fnReciprocityWrong)

/-- 'laws.FnExactLocalMul': WHATEVER THE INPUT: true; the input reads as it did. -/
def fnExactLocalMulSpec : ChangeSpec := { name := "fnExactLocalMul", fn := fun _ => fun
  | [d1, d2, d3] => { results := [.lit (.bool true)], args := [d1, d2, d3] }
  | _ => none }
def fnExactLocalMulRow : OpenClaim := { program := "ytpcocojkhcokmaa", sum := "3d6f22493b1cac3afafd4c05f37b933a0578598175cc7d93a5e042010698389a", func := "loop.example/localglobal/laws.FnExactLocalMul", spec := "fnExactLocalMul", apart := false }
def FnExactLocalMulSaid : Prop := fnExactLocalMulRow.holds Try.pinned (OpenSpec.ofChange fnExactLocalMulSpec)

/-- ITS FALSE NEIGHBOUR: 'it returns false'. Refute it at one input. -/
def fnExactLocalMulWrong : ChangeSpec := { name := "fnExactLocalMul", fn := fun _ => fun
  | [d1, d2, d3] => { results := [.lit (.bool false)], args := [d1, d2, d3] }
  | _ => none }
def FnExactLocalMulWrongFalsely : Prop := fnExactLocalMulRow.holds Try.pinned (OpenSpec.ofChange fnExactLocalMulWrong)

/-- 'laws.FnExactLocalName': WHATEVER THE INPUT: true; the input reads as it did. -/
def fnExactLocalNameSpec : ChangeSpec := { name := "fnExactLocalName", fn := fun _ => fun
  | [d1, d2] => { results := [.lit (.bool true)], args := [d1, d2] }
  | _ => none }
def fnExactLocalNameRow : OpenClaim := { program := "ytpcocojkhcokmaa", sum := "3d6f22493b1cac3afafd4c05f37b933a0578598175cc7d93a5e042010698389a", func := "loop.example/localglobal/laws.FnExactLocalName", spec := "fnExactLocalName", apart := false }
def FnExactLocalNameSaid : Prop := fnExactLocalNameRow.holds Try.pinned (OpenSpec.ofChange fnExactLocalNameSpec)

/-- ITS FALSE NEIGHBOUR: 'it returns false'. Refute it at one input. -/
def fnExactLocalNameWrong : ChangeSpec := { name := "fnExactLocalName", fn := fun _ => fun
  | [d1, d2] => { results := [.lit (.bool false)], args := [d1, d2] }
  | _ => none }
def FnExactLocalNameWrongFalsely : Prop := fnExactLocalNameRow.holds Try.pinned (OpenSpec.ofChange fnExactLocalNameWrong)

/-- 'laws.FnRootLift': WHATEVER THE INPUT: true; the input reads as it did. -/
def fnRootLiftSpec : ChangeSpec := { name := "fnRootLift", fn := fun _ => fun
  | [d] => { results := [.lit (.bool true)], args := [d] }
  | _ => none }
def fnRootLiftRow : OpenClaim := { program := "ytpcocojkhcokmaa", sum := "3d6f22493b1cac3afafd4c05f37b933a0578598175cc7d93a5e042010698389a", func := "loop.example/localglobal/laws.FnRootLift", spec := "fnRootLift", apart := false }
def FnRootLiftSaid : Prop := fnRootLiftRow.holds Try.pinned (OpenSpec.ofChange fnRootLiftSpec)

/-- ITS FALSE NEIGHBOUR: 'it returns false'. Refute it at one input. -/
def fnRootLiftWrong : ChangeSpec := { name := "fnRootLift", fn := fun _ => fun
  | [d] => { results := [.lit (.bool false)], args := [d] }
  | _ => none }
def FnRootLiftWrongFalsely : Prop := fnRootLiftRow.holds Try.pinned (OpenSpec.ofChange fnRootLiftWrong)

/-- 'laws.FnExactSymbolNorm': WHATEVER THE INPUT: true; the input reads as it did. -/
def fnExactSymbolNormSpec : ChangeSpec := { name := "fnExactSymbolNorm", fn := fun _ => fun
  | [d1, d2] => { results := [.lit (.bool true)], args := [d1, d2] }
  | _ => none }
def fnExactSymbolNormRow : OpenClaim := { program := "ytpcocojkhcokmaa", sum := "3d6f22493b1cac3afafd4c05f37b933a0578598175cc7d93a5e042010698389a", func := "loop.example/localglobal/laws.FnExactSymbolNorm", spec := "fnExactSymbolNorm", apart := false }
def FnExactSymbolNormSaid : Prop := fnExactSymbolNormRow.holds Try.pinned (OpenSpec.ofChange fnExactSymbolNormSpec)

/-- ITS FALSE NEIGHBOUR: 'it returns false'. Refute it at one input. -/
def fnExactSymbolNormWrong : ChangeSpec := { name := "fnExactSymbolNorm", fn := fun _ => fun
  | [d1, d2] => { results := [.lit (.bool false)], args := [d1, d2] }
  | _ => none }
def FnExactSymbolNormWrongFalsely : Prop := fnExactSymbolNormRow.holds Try.pinned (OpenSpec.ofChange fnExactSymbolNormWrong)

/-- 'laws.FnNames': WHATEVER THE INPUT: true; the input reads as it did. -/
def fnNamesSpec : ChangeSpec := { name := "fnNames", fn := fun _ => fun
  | [d] => { results := [.lit (.bool true)], args := [d] }
  | _ => none }
def fnNamesRow : OpenClaim := { program := "ytpcocojkhcokmaa", sum := "3d6f22493b1cac3afafd4c05f37b933a0578598175cc7d93a5e042010698389a", func := "loop.example/localglobal/laws.FnNames", spec := "fnNames", apart := false }
def FnNamesSaid : Prop := fnNamesRow.holds Try.pinned (OpenSpec.ofChange fnNamesSpec)

/-- ITS FALSE NEIGHBOUR: 'it returns false'. Refute it at one input. -/
def fnNamesWrong : ChangeSpec := { name := "fnNames", fn := fun _ => fun
  | [d] => { results := [.lit (.bool false)], args := [d] }
  | _ => none }
def FnNamesWrongFalsely : Prop := fnNamesRow.holds Try.pinned (OpenSpec.ofChange fnNamesWrong)

/-- 'laws.FnLocalSame': WHATEVER THE INPUT: true; the input reads as it did. -/
def fnLocalSameSpec : ChangeSpec := { name := "fnLocalSame", fn := fun _ => fun
  | [d] => { results := [.lit (.bool true)], args := [d] }
  | _ => none }
def fnLocalSameRow : OpenClaim := { program := "ytpcocojkhcokmaa", sum := "3d6f22493b1cac3afafd4c05f37b933a0578598175cc7d93a5e042010698389a", func := "loop.example/localglobal/laws.FnLocalSame", spec := "fnLocalSame", apart := false }
def FnLocalSameSaid : Prop := fnLocalSameRow.holds Try.pinned (OpenSpec.ofChange fnLocalSameSpec)

/-- ITS FALSE NEIGHBOUR: 'it returns false'. Refute it at one input. -/
def fnLocalSameWrong : ChangeSpec := { name := "fnLocalSame", fn := fun _ => fun
  | [d] => { results := [.lit (.bool false)], args := [d] }
  | _ => none }
def FnLocalSameWrongFalsely : Prop := fnLocalSameRow.holds Try.pinned (OpenSpec.ofChange fnLocalSameWrong)

/-- 'laws.FnLocalSquare': WHATEVER THE INPUT: true; the input reads as it did. -/
def fnLocalSquareSpec : ChangeSpec := { name := "fnLocalSquare", fn := fun _ => fun
  | [d1, d2] => { results := [.lit (.bool true)], args := [d1, d2] }
  | _ => none }
def fnLocalSquareRow : OpenClaim := { program := "ytpcocojkhcokmaa", sum := "3d6f22493b1cac3afafd4c05f37b933a0578598175cc7d93a5e042010698389a", func := "loop.example/localglobal/laws.FnLocalSquare", spec := "fnLocalSquare", apart := false }
def FnLocalSquareSaid : Prop := fnLocalSquareRow.holds Try.pinned (OpenSpec.ofChange fnLocalSquareSpec)

/-- ITS FALSE NEIGHBOUR: 'it returns false'. Refute it at one input. -/
def fnLocalSquareWrong : ChangeSpec := { name := "fnLocalSquare", fn := fun _ => fun
  | [d1, d2] => { results := [.lit (.bool false)], args := [d1, d2] }
  | _ => none }
def FnLocalSquareWrongFalsely : Prop := fnLocalSquareRow.holds Try.pinned (OpenSpec.ofChange fnLocalSquareWrong)

/- THE SECOND FORM. 'bulk': how many values and letters a reading holds, each counted each time it is reached (what is shared counts as often as it is met; a slice's spare places count too). A statement '..UptoSaid' is the law's where the arguments, and the package variables that the reading takes, are together of bulk at most 1048576: NARROWER than '..Said'. Prove '..Said' where nothing that the law and all that it calls make is longer than what came in: it says more and counts as full. Else prove '..UptoSaid'. A law counts once. -/
mutual
def uptoBulk {H : Type} : DataW H → Nat
  | .lit (.string bytes) => bytes.length + 1
  | .lit _ => 1
  | .nil => 1
  | .ptr d => uptoBulk d + 1
  | .slice elems spare => uptoBulkAll elems + uptoBulkAll spare + 1
  | .agg parts => uptoBulkAll parts + 1
  | .iface _ d => uptoBulk d + 1
  | .map entries => uptoBulkEntries entries + 1
  | .held _ => 1
def uptoBulkAll {H : Type} : List (DataW H) → Nat
  | [] => 0
  | d :: r => uptoBulk d + uptoBulkAll r
def uptoBulkEntries {H : Type} : List (Lit × DataW H) → Nat
  | [] => 0
  | x :: r => uptoBulkEntry x + uptoBulkEntries r
def uptoBulkEntry {H : Type} : Lit × DataW H → Nat
  | (.string bytes, d) => bytes.length + uptoBulk d + 1
  | (_, d) => uptoBulk d + 1
 end
def uptoSmall : (H : Type) → List (DataW H) → Bool := fun _ ds => decide (uptoBulkAll ds ≤ 1048576)
def OpenSpec.upto (s : _root_.Go.ChangeSpec) : _root_.Go.OpenSpec := { _root_.Go.OpenSpec.ofChange s with cond := some uptoSmall }

/-- 'laws.FnExactLocalNames', WHERE WHAT IT READS IS OF BULK AT MOST 1048576: true; the input reads as it did. -/
def fnExactLocalNamesUptoRow : OpenClaim := { program := "ytpcocojkhcokmaa", sum := "3d6f22493b1cac3afafd4c05f37b933a0578598175cc7d93a5e042010698389a", func := "loop.example/localglobal/laws.FnExactLocalNames", spec := "fnExactLocalNames", apart := false, narrowed := true }
def FnExactLocalNamesUptoSaid : Prop := fnExactLocalNamesUptoRow.holds Try.pinned (OpenSpec.upto fnExactLocalNamesSpec)

/-- 'laws.FnLocalRoot', WHERE WHAT IT READS IS OF BULK AT MOST 1048576: true; the input reads as it did. -/
def fnLocalRootUptoRow : OpenClaim := { program := "ytpcocojkhcokmaa", sum := "3d6f22493b1cac3afafd4c05f37b933a0578598175cc7d93a5e042010698389a", func := "loop.example/localglobal/laws.FnLocalRoot", spec := "fnLocalRoot", apart := false, narrowed := true }
def FnLocalRootUptoSaid : Prop := fnLocalRootUptoRow.holds Try.pinned (OpenSpec.upto fnLocalRootSpec)

/-- 'laws.FnExactSymbolOf', WHERE WHAT IT READS IS OF BULK AT MOST 1048576: true; the input reads as it did. -/
def fnExactSymbolOfUptoRow : OpenClaim := { program := "ytpcocojkhcokmaa", sum := "3d6f22493b1cac3afafd4c05f37b933a0578598175cc7d93a5e042010698389a", func := "loop.example/localglobal/laws.FnExactSymbolOf", spec := "fnExactSymbolOf", apart := false, narrowed := true }
def FnExactSymbolOfUptoSaid : Prop := fnExactSymbolOfUptoRow.holds Try.pinned (OpenSpec.upto fnExactSymbolOfSpec)

/-- 'laws.FnJacobi', WHERE WHAT IT READS IS OF BULK AT MOST 1048576: true; the input reads as it did. -/
def fnJacobiUptoRow : OpenClaim := { program := "ytpcocojkhcokmaa", sum := "3d6f22493b1cac3afafd4c05f37b933a0578598175cc7d93a5e042010698389a", func := "loop.example/localglobal/laws.FnJacobi", spec := "fnJacobi", apart := false, narrowed := true }
def FnJacobiUptoSaid : Prop := fnJacobiUptoRow.holds Try.pinned (OpenSpec.upto fnJacobiSpec)

/-- 'laws.FnReciprocity', WHERE WHAT IT READS IS OF BULK AT MOST 1048576: true; the input reads as it did. -/
def fnReciprocityUptoRow : OpenClaim := { program := "ytpcocojkhcokmaa", sum := "3d6f22493b1cac3afafd4c05f37b933a0578598175cc7d93a5e042010698389a", func := "loop.example/localglobal/laws.FnReciprocity", spec := "fnReciprocity", apart := false, narrowed := true }
def FnReciprocityUptoSaid : Prop := fnReciprocityUptoRow.holds Try.pinned (OpenSpec.upto fnReciprocitySpec)

/-- 'laws.FnExactLocalMul', WHERE WHAT IT READS IS OF BULK AT MOST 1048576: true; the input reads as it did. -/
def fnExactLocalMulUptoRow : OpenClaim := { program := "ytpcocojkhcokmaa", sum := "3d6f22493b1cac3afafd4c05f37b933a0578598175cc7d93a5e042010698389a", func := "loop.example/localglobal/laws.FnExactLocalMul", spec := "fnExactLocalMul", apart := false, narrowed := true }
def FnExactLocalMulUptoSaid : Prop := fnExactLocalMulUptoRow.holds Try.pinned (OpenSpec.upto fnExactLocalMulSpec)

/-- 'laws.FnExactLocalName', WHERE WHAT IT READS IS OF BULK AT MOST 1048576: true; the input reads as it did. -/
def fnExactLocalNameUptoRow : OpenClaim := { program := "ytpcocojkhcokmaa", sum := "3d6f22493b1cac3afafd4c05f37b933a0578598175cc7d93a5e042010698389a", func := "loop.example/localglobal/laws.FnExactLocalName", spec := "fnExactLocalName", apart := false, narrowed := true }
def FnExactLocalNameUptoSaid : Prop := fnExactLocalNameUptoRow.holds Try.pinned (OpenSpec.upto fnExactLocalNameSpec)

/-- 'laws.FnRootLift', WHERE WHAT IT READS IS OF BULK AT MOST 1048576: true; the input reads as it did. -/
def fnRootLiftUptoRow : OpenClaim := { program := "ytpcocojkhcokmaa", sum := "3d6f22493b1cac3afafd4c05f37b933a0578598175cc7d93a5e042010698389a", func := "loop.example/localglobal/laws.FnRootLift", spec := "fnRootLift", apart := false, narrowed := true }
def FnRootLiftUptoSaid : Prop := fnRootLiftUptoRow.holds Try.pinned (OpenSpec.upto fnRootLiftSpec)

/-- 'laws.FnExactSymbolNorm', WHERE WHAT IT READS IS OF BULK AT MOST 1048576: true; the input reads as it did. -/
def fnExactSymbolNormUptoRow : OpenClaim := { program := "ytpcocojkhcokmaa", sum := "3d6f22493b1cac3afafd4c05f37b933a0578598175cc7d93a5e042010698389a", func := "loop.example/localglobal/laws.FnExactSymbolNorm", spec := "fnExactSymbolNorm", apart := false, narrowed := true }
def FnExactSymbolNormUptoSaid : Prop := fnExactSymbolNormUptoRow.holds Try.pinned (OpenSpec.upto fnExactSymbolNormSpec)

/-- 'laws.FnNames', WHERE WHAT IT READS IS OF BULK AT MOST 1048576: true; the input reads as it did. -/
def fnNamesUptoRow : OpenClaim := { program := "ytpcocojkhcokmaa", sum := "3d6f22493b1cac3afafd4c05f37b933a0578598175cc7d93a5e042010698389a", func := "loop.example/localglobal/laws.FnNames", spec := "fnNames", apart := false, narrowed := true }
def FnNamesUptoSaid : Prop := fnNamesUptoRow.holds Try.pinned (OpenSpec.upto fnNamesSpec)

/-- 'laws.FnLocalSame', WHERE WHAT IT READS IS OF BULK AT MOST 1048576: true; the input reads as it did. -/
def fnLocalSameUptoRow : OpenClaim := { program := "ytpcocojkhcokmaa", sum := "3d6f22493b1cac3afafd4c05f37b933a0578598175cc7d93a5e042010698389a", func := "loop.example/localglobal/laws.FnLocalSame", spec := "fnLocalSame", apart := false, narrowed := true }
def FnLocalSameUptoSaid : Prop := fnLocalSameUptoRow.holds Try.pinned (OpenSpec.upto fnLocalSameSpec)

/-- 'laws.FnLocalSquare', WHERE WHAT IT READS IS OF BULK AT MOST 1048576: true; the input reads as it did. -/
def fnLocalSquareUptoRow : OpenClaim := { program := "ytpcocojkhcokmaa", sum := "3d6f22493b1cac3afafd4c05f37b933a0578598175cc7d93a5e042010698389a", func := "loop.example/localglobal/laws.FnLocalSquare", spec := "fnLocalSquare", apart := false, narrowed := true }
def FnLocalSquareUptoSaid : Prop := fnLocalSquareUptoRow.holds Try.pinned (OpenSpec.upto fnLocalSquareSpec)

end Rows
end Go.Proofs.Ytpcocojkhcokmaa
