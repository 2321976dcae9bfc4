/-
  No cell of these rows narrows 'for every input' (looked for: loops, veiled, ifaces, maps, wideKeys, modest, calm, conditions, laid).
  DERIVED. THE GIVEN ROWS OF THIS SEAT. 7 by the template 'for every input the law returns true; each argument reads behind the call as it read before'; 0 by the template 'total and deterministic' (their statements: YtokjmppkiihdlaaTotals.lean).
  GIVEN WITH THE SEED: the statements are not yours to turn. If you find one false, say at which input.
  Laid BY PROGRAM, IN A SANDBOX (cutbox-rows.mjs): the forced cells as the released guide's own fill.sh prints them over the translation a7584e4ff53543fe… (all of the seat's roots in one cut). By AI agents, Wed Nov 11 2026. No macro, syntax, notation, axiom, sorry.
-/
import Derived.Test.YtokjmppkiihdlaaChecked
import GoSem.Claim
import GoSem.ClaimJoined
import GoSem.ClaimMapViews
import Derived.JoinedTies
import Derived.KernelRfl
namespace Go.Proofs.Ytokjmppkiihdlaa
/- THE CELL 'sum', in the pinned program and in every row, IS THE sha256 OF THE DUMP (.gsa) THAT YtokjmppkiihdlaaProg.lean LOADS. Nothing in Lean hashes anything: it is a label: what it is worth is what the hold of that sum in a sandbox is worth. -/
noncomputable def Try.pinned : Pinned := { name := "ytokjmppkiihdlaa", sum := "a7584e4ff53543fe2158110fd687e756cea71cbead1def37e9a01ca0fb545f85", checked := Try.checked }
namespace Rows
def none {H : Type} : Left H := { results := [], args := [] }

/-- 'laws.FnExactTotalValid': WHATEVER THE INPUT: true; the input reads as it did. -/
def fnExactTotalValidSpec : ChangeSpec := { name := "fnExactTotalValid", fn := fun _ => fun
  | [d] => { results := [.lit (.bool true)], args := [d] }
  | _ => none }
def fnExactTotalValidRow : OpenClaim := { program := "ytokjmppkiihdlaa", sum := "a7584e4ff53543fe2158110fd687e756cea71cbead1def37e9a01ca0fb545f85", func := "loop.example/graphcluster/laws.FnExactTotalValid", spec := "fnExactTotalValid", apart := false }
def FnExactTotalValidSaid : Prop := fnExactTotalValidRow.holds Try.pinned (OpenSpec.ofChange fnExactTotalValidSpec)

/-- ITS FALSE NEIGHBOUR: 'it returns false'. Refute it at one input. -/
def fnExactTotalValidWrong : ChangeSpec := { name := "fnExactTotalValid", fn := fun _ => fun
  | [d] => { results := [.lit (.bool false)], args := [d] }
  | _ => none }
def FnExactTotalValidWrongFalsely : Prop := fnExactTotalValidRow.holds Try.pinned (OpenSpec.ofChange fnExactTotalValidWrong)

/-- 'laws.FnExactCanCombine': WHATEVER THE INPUT: true; the input reads as it did. -/
def fnExactCanCombineSpec : ChangeSpec := { name := "fnExactCanCombine", fn := fun _ => fun
  | [d] => { results := [.lit (.bool true)], args := [d] }
  | _ => none }
def fnExactCanCombineRow : OpenClaim := { program := "ytokjmppkiihdlaa", sum := "a7584e4ff53543fe2158110fd687e756cea71cbead1def37e9a01ca0fb545f85", func := "loop.example/graphcluster/laws.FnExactCanCombine", spec := "fnExactCanCombine", apart := false }
def FnExactCanCombineSaid : Prop := fnExactCanCombineRow.holds Try.pinned (OpenSpec.ofChange fnExactCanCombineSpec)

/-- ITS FALSE NEIGHBOUR: 'it returns false'. Refute it at one input. -/
def fnExactCanCombineWrong : ChangeSpec := { name := "fnExactCanCombine", fn := fun _ => fun
  | [d] => { results := [.lit (.bool false)], args := [d] }
  | _ => none }
def FnExactCanCombineWrongFalsely : Prop := fnExactCanCombineRow.holds Try.pinned (OpenSpec.ofChange fnExactCanCombineWrong)

/-- 'laws.FnExactOrderValid': WHATEVER THE INPUT: true; the input reads as it did. -/
def fnExactOrderValidSpec : ChangeSpec := { name := "fnExactOrderValid", fn := fun _ => fun
  | [d1, d2] => { results := [.lit (.bool true)], args := [d1, d2] }
  | _ => none }
def fnExactOrderValidRow : OpenClaim := { program := "ytokjmppkiihdlaa", sum := "a7584e4ff53543fe2158110fd687e756cea71cbead1def37e9a01ca0fb545f85", func := "loop.example/graphcluster/laws.FnExactOrderValid", spec := "fnExactOrderValid", apart := false }
def FnExactOrderValidSaid : Prop := fnExactOrderValidRow.holds Try.pinned (OpenSpec.ofChange fnExactOrderValidSpec)

/-- ITS FALSE NEIGHBOUR: 'it returns false'. Refute it at one input. -/
def fnExactOrderValidWrong : ChangeSpec := { name := "fnExactOrderValid", fn := fun _ => fun
  | [d1, d2] => { results := [.lit (.bool false)], args := [d1, d2] }
  | _ => none }
def FnExactOrderValidWrongFalsely : Prop := fnExactOrderValidRow.holds Try.pinned (OpenSpec.ofChange fnExactOrderValidWrong)

/-- 'laws.FnExactTurnOrder': WHATEVER THE INPUT: true; the input reads as it did. -/
def fnExactTurnOrderSpec : ChangeSpec := { name := "fnExactTurnOrder", fn := fun _ => fun
  | [d1, d2] => { results := [.lit (.bool true)], args := [d1, d2] }
  | _ => none }
def fnExactTurnOrderRow : OpenClaim := { program := "ytokjmppkiihdlaa", sum := "a7584e4ff53543fe2158110fd687e756cea71cbead1def37e9a01ca0fb545f85", func := "loop.example/graphcluster/laws.FnExactTurnOrder", spec := "fnExactTurnOrder", apart := false }
def FnExactTurnOrderSaid : Prop := fnExactTurnOrderRow.holds Try.pinned (OpenSpec.ofChange fnExactTurnOrderSpec)

/-- ITS FALSE NEIGHBOUR: 'it returns false'. Refute it at one input. -/
def fnExactTurnOrderWrong : ChangeSpec := { name := "fnExactTurnOrder", fn := fun _ => fun
  | [d1, d2] => { results := [.lit (.bool false)], args := [d1, d2] }
  | _ => none }
def FnExactTurnOrderWrongFalsely : Prop := fnExactTurnOrderRow.holds Try.pinned (OpenSpec.ofChange fnExactTurnOrderWrong)

/-- 'laws.FnExactMovedVertices': WHATEVER THE INPUT: true; the input reads as it did. -/
def fnExactMovedVerticesSpec : ChangeSpec := { name := "fnExactMovedVertices", fn := fun _ => fun
  | [d1, d2, d3] => { results := [.lit (.bool true)], args := [d1, d2, d3] }
  | _ => none }
def fnExactMovedVerticesRow : OpenClaim := { program := "ytokjmppkiihdlaa", sum := "a7584e4ff53543fe2158110fd687e756cea71cbead1def37e9a01ca0fb545f85", func := "loop.example/graphcluster/laws.FnExactMovedVertices", spec := "fnExactMovedVertices", apart := false }
def FnExactMovedVerticesSaid : Prop := fnExactMovedVerticesRow.holds Try.pinned (OpenSpec.ofChange fnExactMovedVerticesSpec)

/-- ITS FALSE NEIGHBOUR: 'it returns false'. Refute it at one input. -/
def fnExactMovedVerticesWrong : ChangeSpec := { name := "fnExactMovedVertices", fn := fun _ => fun
  | [d1, d2, d3] => { results := [.lit (.bool false)], args := [d1, d2, d3] }
  | _ => none }
def FnExactMovedVerticesWrongFalsely : Prop := fnExactMovedVerticesRow.holds Try.pinned (OpenSpec.ofChange fnExactMovedVerticesWrong)

/-- 'laws.FnExactJoinTotals': WHATEVER THE INPUT: true; the input reads as it did. -/
def fnExactJoinTotalsSpec : ChangeSpec := { name := "fnExactJoinTotals", fn := fun _ => fun
  | [d1, d2] => { results := [.lit (.bool true)], args := [d1, d2] }
  | _ => none }
def fnExactJoinTotalsRow : OpenClaim := { program := "ytokjmppkiihdlaa", sum := "a7584e4ff53543fe2158110fd687e756cea71cbead1def37e9a01ca0fb545f85", func := "loop.example/graphcluster/laws.FnExactJoinTotals", spec := "fnExactJoinTotals", apart := false }
def FnExactJoinTotalsSaid : Prop := fnExactJoinTotalsRow.holds Try.pinned (OpenSpec.ofChange fnExactJoinTotalsSpec)

/-- ITS FALSE NEIGHBOUR: 'it returns false'. Refute it at one input. -/
def fnExactJoinTotalsWrong : ChangeSpec := { name := "fnExactJoinTotals", fn := fun _ => fun
  | [d1, d2] => { results := [.lit (.bool false)], args := [d1, d2] }
  | _ => none }
def FnExactJoinTotalsWrongFalsely : Prop := fnExactJoinTotalsRow.holds Try.pinned (OpenSpec.ofChange fnExactJoinTotalsWrong)

/-- 'laws.FnExactLettersValid': WHATEVER THE INPUT: true; the input reads as it did. -/
def fnExactLettersValidSpec : ChangeSpec := { name := "fnExactLettersValid", fn := fun _ => fun
  | [d] => { results := [.lit (.bool true)], args := [d] }
  | _ => none }
def fnExactLettersValidRow : OpenClaim := { program := "ytokjmppkiihdlaa", sum := "a7584e4ff53543fe2158110fd687e756cea71cbead1def37e9a01ca0fb545f85", func := "loop.example/graphcluster/laws.FnExactLettersValid", spec := "fnExactLettersValid", apart := false }
def FnExactLettersValidSaid : Prop := fnExactLettersValidRow.holds Try.pinned (OpenSpec.ofChange fnExactLettersValidSpec)

/-- ITS FALSE NEIGHBOUR: 'it returns false'. Refute it at one input. -/
def fnExactLettersValidWrong : ChangeSpec := { name := "fnExactLettersValid", fn := fun _ => fun
  | [d] => { results := [.lit (.bool false)], args := [d] }
  | _ => none }
def FnExactLettersValidWrongFalsely : Prop := fnExactLettersValidRow.holds Try.pinned (OpenSpec.ofChange fnExactLettersValidWrong)

/- THE SECOND FORM. 'bulk': how many values and letters a reading holds, each counted each time it is reached (what is shared counts as often as it is met; a slice's spare places count too). A statement '..UptoSaid' is the law's where the arguments, and the package variables that the reading takes, are together of bulk at most 1048576: NARROWER than '..Said'. Prove '..Said' where nothing that the law and all that it calls make is longer than what came in: it says more and counts as full. Else prove '..UptoSaid'. A law counts once. -/
mutual
def uptoBulk {H : Type} : DataW H → Nat
  | .lit (.string bytes) => bytes.length + 1
  | .lit _ => 1
  | .nil => 1
  | .ptr d => uptoBulk d + 1
  | .slice elems spare => uptoBulkAll elems + uptoBulkAll spare + 1
  | .agg parts => uptoBulkAll parts + 1
  | .iface _ d => uptoBulk d + 1
  | .map entries => uptoBulkEntries entries + 1
  | .held _ => 1
def uptoBulkAll {H : Type} : List (DataW H) → Nat
  | [] => 0
  | d :: r => uptoBulk d + uptoBulkAll r
def uptoBulkEntries {H : Type} : List (Lit × DataW H) → Nat
  | [] => 0
  | x :: r => uptoBulkEntry x + uptoBulkEntries r
def uptoBulkEntry {H : Type} : Lit × DataW H → Nat
  | (.string bytes, d) => bytes.length + uptoBulk d + 1
  | (_, d) => uptoBulk d + 1
 end
def uptoSmall : (H : Type) → List (DataW H) → Bool := fun _ ds => decide (uptoBulkAll ds ≤ 1048576)
def OpenSpec.upto (s : _root_.Go.ChangeSpec) : _root_.Go.OpenSpec := { _root_.Go.OpenSpec.ofChange s with cond := some uptoSmall }

/-- 'laws.FnExactTotalValid', WHERE WHAT IT READS IS OF BULK AT MOST 1048576: true; the input reads as it did. -/
def fnExactTotalValidUptoRow : OpenClaim := { program := "ytokjmppkiihdlaa", sum := "a7584e4ff53543fe2158110fd687e756cea71cbead1def37e9a01ca0fb545f85", func := "loop.example/graphcluster/laws.FnExactTotalValid", spec := "fnExactTotalValid", apart := false, narrowed := true }
def FnExactTotalValidUptoSaid : Prop := fnExactTotalValidUptoRow.holds Try.pinned (OpenSpec.upto fnExactTotalValidSpec)

/-- 'laws.FnExactCanCombine', WHERE WHAT IT READS IS OF BULK AT MOST 1048576: true; the input reads as it did. -/
def fnExactCanCombineUptoRow : OpenClaim := { program := "ytokjmppkiihdlaa", sum := "a7584e4ff53543fe2158110fd687e756cea71cbead1def37e9a01ca0fb545f85", func := "loop.example/graphcluster/laws.FnExactCanCombine", spec := "fnExactCanCombine", apart := false, narrowed := true }
def FnExactCanCombineUptoSaid : Prop := fnExactCanCombineUptoRow.holds Try.pinned (OpenSpec.upto fnExactCanCombineSpec)

/-- 'laws.FnExactOrderValid', WHERE WHAT IT READS IS OF BULK AT MOST 1048576: true; the input reads as it did. -/
def fnExactOrderValidUptoRow : OpenClaim := { program := "ytokjmppkiihdlaa", sum := "a7584e4ff53543fe2158110fd687e756cea71cbead1def37e9a01ca0fb545f85", func := "loop.example/graphcluster/laws.FnExactOrderValid", spec := "fnExactOrderValid", apart := false, narrowed := true }
def FnExactOrderValidUptoSaid : Prop := fnExactOrderValidUptoRow.holds Try.pinned (OpenSpec.upto fnExactOrderValidSpec)

/-- 'laws.FnExactTurnOrder', WHERE WHAT IT READS IS OF BULK AT MOST 1048576: true; the input reads as it did. -/
def fnExactTurnOrderUptoRow : OpenClaim := { program := "ytokjmppkiihdlaa", sum := "a7584e4ff53543fe2158110fd687e756cea71cbead1def37e9a01ca0fb545f85", func := "loop.example/graphcluster/laws.FnExactTurnOrder", spec := "fnExactTurnOrder", apart := false, narrowed := true }
def FnExactTurnOrderUptoSaid : Prop := fnExactTurnOrderUptoRow.holds Try.pinned (OpenSpec.upto fnExactTurnOrderSpec)

/-- 'laws.FnExactMovedVertices', WHERE WHAT IT READS IS OF BULK AT MOST 1048576: true; the input reads as it did. -/
def fnExactMovedVerticesUptoRow : OpenClaim := { program := "ytokjmppkiihdlaa", sum := "a7584e4ff53543fe2158110fd687e756cea71cbead1def37e9a01ca0fb545f85", func := "loop.example/graphcluster/laws.FnExactMovedVertices", spec := "fnExactMovedVertices", apart := false, narrowed := true }
def FnExactMovedVerticesUptoSaid : Prop := fnExactMovedVerticesUptoRow.holds Try.pinned (OpenSpec.upto fnExactMovedVerticesSpec)

/-- 'laws.FnExactJoinTotals', WHERE WHAT IT READS IS OF BULK AT MOST 1048576: true; the input reads as it did. -/
def fnExactJoinTotalsUptoRow : OpenClaim := { program := "ytokjmppkiihdlaa", sum := "a7584e4ff53543fe2158110fd687e756cea71cbead1def37e9a01ca0fb545f85", func := "loop.example/graphcluster/laws.FnExactJoinTotals", spec := "fnExactJoinTotals", apart := false, narrowed := true }
def FnExactJoinTotalsUptoSaid : Prop := fnExactJoinTotalsUptoRow.holds Try.pinned (OpenSpec.upto fnExactJoinTotalsSpec)

/-- 'laws.FnExactLettersValid', WHERE WHAT IT READS IS OF BULK AT MOST 1048576: true; the input reads as it did. -/
def fnExactLettersValidUptoRow : OpenClaim := { program := "ytokjmppkiihdlaa", sum := "a7584e4ff53543fe2158110fd687e756cea71cbead1def37e9a01ca0fb545f85", func := "loop.example/graphcluster/laws.FnExactLettersValid", spec := "fnExactLettersValid", apart := false, narrowed := true }
def FnExactLettersValidUptoSaid : Prop := fnExactLettersValidUptoRow.holds Try.pinned (OpenSpec.upto fnExactLettersValidSpec)

end Rows
end Go.Proofs.Ytokjmppkiihdlaa
