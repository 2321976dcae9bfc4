/-
  No cell of these rows narrows 'for every input' (looked for: loops, veiled, ifaces, maps, wideKeys, modest, calm, conditions, laid).
  DERIVED. THE GIVEN ROWS OF THIS SEAT. 12 by the template 'for every input the law returns true; each argument reads behind the call as it read before'; 0 by the template 'total and deterministic' (their statements: YtloiafnoekpaoaaTotals.lean).
  GIVEN WITH THE SEED: the statements are not yours to turn. If you find one false, say at which input.
  Laid BY PROGRAM, IN A SANDBOX (cutbox-rows.mjs): the forced cells as the released guide's own fill.sh prints them over the translation 787207fcc105e07e… (all of the seat's roots in one cut). By AI agents, Wed Nov 11 2026. No macro, syntax, notation, axiom, sorry.
-/
import Derived.Test.YtloiafnoekpaoaaChecked
import GoSem.Claim
import GoSem.ClaimJoined
import GoSem.ClaimMapViews
import Derived.JoinedTies
import Derived.KernelRfl
namespace Go.Proofs.Ytloiafnoekpaoaa
/- THE CELL 'sum', in the pinned program and in every row, IS THE sha256 OF THE DUMP (.gsa) THAT YtloiafnoekpaoaaProg.lean LOADS. Nothing in Lean hashes anything: it is a label: what it is worth is what the hold of that sum in a sandbox is worth. -/
noncomputable def Try.pinned : Pinned := { name := "ytloiafnoekpaoaa", sum := "787207fcc105e07e409c6141cee97eb3e789ff15411804f6a882b9bab957f308", checked := Try.checked }
namespace Rows
def none {H : Type} : Left H := { results := [], args := [] }

/-- 'laws.FnLettersValid': WHATEVER THE INPUT: true; the input reads as it did. -/
def fnLettersValidSpec : ChangeSpec := { name := "fnLettersValid", fn := fun _ => fun
  | [d] => { results := [.lit (.bool true)], args := [d] }
  | _ => none }
def fnLettersValidRow : OpenClaim := { program := "ytloiafnoekpaoaa", sum := "787207fcc105e07e409c6141cee97eb3e789ff15411804f6a882b9bab957f308", func := "loop.example/graphcluster/laws.FnLettersValid", spec := "fnLettersValid", apart := false }
def FnLettersValidSaid : Prop := fnLettersValidRow.holds Try.pinned (OpenSpec.ofChange fnLettersValidSpec)

/-- ITS FALSE NEIGHBOUR: 'it returns false'. Refute it at one input. -/
def fnLettersValidWrong : ChangeSpec := { name := "fnLettersValid", fn := fun _ => fun
  | [d] => { results := [.lit (.bool false)], args := [d] }
  | _ => none }
def FnLettersValidWrongFalsely : Prop := fnLettersValidRow.holds Try.pinned (OpenSpec.ofChange fnLettersValidWrong)

/-- 'laws.FnExactTotalOf': WHATEVER THE INPUT: true; the input reads as it did. -/
def fnExactTotalOfSpec : ChangeSpec := { name := "fnExactTotalOf", fn := fun _ => fun
  | [d] => { results := [.lit (.bool true)], args := [d] }
  | _ => none }
def fnExactTotalOfRow : OpenClaim := { program := "ytloiafnoekpaoaa", sum := "787207fcc105e07e409c6141cee97eb3e789ff15411804f6a882b9bab957f308", func := "loop.example/graphcluster/laws.FnExactTotalOf", spec := "fnExactTotalOf", apart := false }
def FnExactTotalOfSaid : Prop := fnExactTotalOfRow.holds Try.pinned (OpenSpec.ofChange fnExactTotalOfSpec)

/-- ITS FALSE NEIGHBOUR: 'it returns false'. Refute it at one input. -/
def fnExactTotalOfWrong : ChangeSpec := { name := "fnExactTotalOf", fn := fun _ => fun
  | [d] => { results := [.lit (.bool false)], args := [d] }
  | _ => none }
def FnExactTotalOfWrongFalsely : Prop := fnExactTotalOfRow.holds Try.pinned (OpenSpec.ofChange fnExactTotalOfWrong)

/-- 'laws.FnCanCombine': WHATEVER THE INPUT: true; the input reads as it did. -/
def fnCanCombineSpec : ChangeSpec := { name := "fnCanCombine", fn := fun _ => fun
  | [d] => { results := [.lit (.bool true)], args := [d] }
  | _ => none }
def fnCanCombineRow : OpenClaim := { program := "ytloiafnoekpaoaa", sum := "787207fcc105e07e409c6141cee97eb3e789ff15411804f6a882b9bab957f308", func := "loop.example/graphcluster/laws.FnCanCombine", spec := "fnCanCombine", apart := false }
def FnCanCombineSaid : Prop := fnCanCombineRow.holds Try.pinned (OpenSpec.ofChange fnCanCombineSpec)

/-- ITS FALSE NEIGHBOUR: 'it returns false'. Refute it at one input. -/
def fnCanCombineWrong : ChangeSpec := { name := "fnCanCombine", fn := fun _ => fun
  | [d] => { results := [.lit (.bool false)], args := [d] }
  | _ => none }
def FnCanCombineWrongFalsely : Prop := fnCanCombineRow.holds Try.pinned (OpenSpec.ofChange fnCanCombineWrong)

/-- 'laws.FnTurnOrder': WHATEVER THE INPUT: true; the input reads as it did. -/
def fnTurnOrderSpec : ChangeSpec := { name := "fnTurnOrder", fn := fun _ => fun
  | [d] => { results := [.lit (.bool true)], args := [d] }
  | _ => none }
def fnTurnOrderRow : OpenClaim := { program := "ytloiafnoekpaoaa", sum := "787207fcc105e07e409c6141cee97eb3e789ff15411804f6a882b9bab957f308", func := "loop.example/graphcluster/laws.FnTurnOrder", spec := "fnTurnOrder", apart := false }
def FnTurnOrderSaid : Prop := fnTurnOrderRow.holds Try.pinned (OpenSpec.ofChange fnTurnOrderSpec)

/-- ITS FALSE NEIGHBOUR: 'it returns false'. Refute it at one input. -/
def fnTurnOrderWrong : ChangeSpec := { name := "fnTurnOrder", fn := fun _ => fun
  | [d] => { results := [.lit (.bool false)], args := [d] }
  | _ => none }
def FnTurnOrderWrongFalsely : Prop := fnTurnOrderRow.holds Try.pinned (OpenSpec.ofChange fnTurnOrderWrong)

/-- 'laws.FnOrderValid': WHATEVER THE INPUT: true; the input reads as it did. -/
def fnOrderValidSpec : ChangeSpec := { name := "fnOrderValid", fn := fun _ => fun
  | [d] => { results := [.lit (.bool true)], args := [d] }
  | _ => none }
def fnOrderValidRow : OpenClaim := { program := "ytloiafnoekpaoaa", sum := "787207fcc105e07e409c6141cee97eb3e789ff15411804f6a882b9bab957f308", func := "loop.example/graphcluster/laws.FnOrderValid", spec := "fnOrderValid", apart := false }
def FnOrderValidSaid : Prop := fnOrderValidRow.holds Try.pinned (OpenSpec.ofChange fnOrderValidSpec)

/-- ITS FALSE NEIGHBOUR: 'it returns false'. Refute it at one input. -/
def fnOrderValidWrong : ChangeSpec := { name := "fnOrderValid", fn := fun _ => fun
  | [d] => { results := [.lit (.bool false)], args := [d] }
  | _ => none }
def FnOrderValidWrongFalsely : Prop := fnOrderValidRow.holds Try.pinned (OpenSpec.ofChange fnOrderValidWrong)

/-- 'laws.FnMovedVertices': WHATEVER THE INPUT: true; the input reads as it did. -/
def fnMovedVerticesSpec : ChangeSpec := { name := "fnMovedVertices", fn := fun _ => fun
  | [d] => { results := [.lit (.bool true)], args := [d] }
  | _ => none }
def fnMovedVerticesRow : OpenClaim := { program := "ytloiafnoekpaoaa", sum := "787207fcc105e07e409c6141cee97eb3e789ff15411804f6a882b9bab957f308", func := "loop.example/graphcluster/laws.FnMovedVertices", spec := "fnMovedVertices", apart := false }
def FnMovedVerticesSaid : Prop := fnMovedVerticesRow.holds Try.pinned (OpenSpec.ofChange fnMovedVerticesSpec)

/-- ITS FALSE NEIGHBOUR: 'it returns false'. Refute it at one input. -/
def fnMovedVerticesWrong : ChangeSpec := { name := "fnMovedVertices", fn := fun _ => fun
  | [d] => { results := [.lit (.bool false)], args := [d] }
  | _ => none }
def FnMovedVerticesWrongFalsely : Prop := fnMovedVerticesRow.holds Try.pinned (OpenSpec.ofChange fnMovedVerticesWrong)

/-- 'laws.FnExactStaleCount': WHATEVER THE INPUT: true; the input reads as it did. -/
def fnExactStaleCountSpec : ChangeSpec := { name := "fnExactStaleCount", fn := fun _ => fun
  | [d1, d2] => { results := [.lit (.bool true)], args := [d1, d2] }
  | _ => none }
def fnExactStaleCountRow : OpenClaim := { program := "ytloiafnoekpaoaa", sum := "787207fcc105e07e409c6141cee97eb3e789ff15411804f6a882b9bab957f308", func := "loop.example/graphcluster/laws.FnExactStaleCount", spec := "fnExactStaleCount", unfollowed := true, recurses := true, apart := false }
def FnExactStaleCountSaid : Prop := fnExactStaleCountRow.holds Try.pinned (OpenSpec.ofChange fnExactStaleCountSpec)

/-- ITS FALSE NEIGHBOUR: 'it returns false'. Refute it at one input. -/
def fnExactStaleCountWrong : ChangeSpec := { name := "fnExactStaleCount", fn := fun _ => fun
  | [d1, d2] => { results := [.lit (.bool false)], args := [d1, d2] }
  | _ => none }
def FnExactStaleCountWrongFalsely : Prop := fnExactStaleCountRow.holds Try.pinned (OpenSpec.ofChange fnExactStaleCountWrong)

/-- 'laws.FnTotalValid': WHATEVER THE INPUT: true; the input reads as it did. -/
def fnTotalValidSpec : ChangeSpec := { name := "fnTotalValid", fn := fun _ => fun
  | [d] => { results := [.lit (.bool true)], args := [d] }
  | _ => none }
def fnTotalValidRow : OpenClaim := { program := "ytloiafnoekpaoaa", sum := "787207fcc105e07e409c6141cee97eb3e789ff15411804f6a882b9bab957f308", func := "loop.example/graphcluster/laws.FnTotalValid", spec := "fnTotalValid", apart := false }
def FnTotalValidSaid : Prop := fnTotalValidRow.holds Try.pinned (OpenSpec.ofChange fnTotalValidSpec)

/-- ITS FALSE NEIGHBOUR: 'it returns false'. Refute it at one input. -/
def fnTotalValidWrong : ChangeSpec := { name := "fnTotalValid", fn := fun _ => fun
  | [d] => { results := [.lit (.bool false)], args := [d] }
  | _ => none }
def FnTotalValidWrongFalsely : Prop := fnTotalValidRow.holds Try.pinned (OpenSpec.ofChange fnTotalValidWrong)

/-- 'laws.FnExactStampMessages': WHATEVER THE INPUT: true; the input reads as it did. -/
def fnExactStampMessagesSpec : ChangeSpec := { name := "fnExactStampMessages", fn := fun _ => fun
  | [d1, d2] => { results := [.lit (.bool true)], args := [d1, d2] }
  | _ => none }
def fnExactStampMessagesRow : OpenClaim := { program := "ytloiafnoekpaoaa", sum := "787207fcc105e07e409c6141cee97eb3e789ff15411804f6a882b9bab957f308", func := "loop.example/graphcluster/laws.FnExactStampMessages", spec := "fnExactStampMessages", apart := false }
def FnExactStampMessagesSaid : Prop := fnExactStampMessagesRow.holds Try.pinned (OpenSpec.ofChange fnExactStampMessagesSpec)

/-- ITS FALSE NEIGHBOUR: 'it returns false'. Refute it at one input. -/
def fnExactStampMessagesWrong : ChangeSpec := { name := "fnExactStampMessages", fn := fun _ => fun
  | [d1, d2] => { results := [.lit (.bool false)], args := [d1, d2] }
  | _ => none }
def FnExactStampMessagesWrongFalsely : Prop := fnExactStampMessagesRow.holds Try.pinned (OpenSpec.ofChange fnExactStampMessagesWrong)

/-- 'laws.FnTotalOf': WHATEVER THE INPUT: true; the input reads as it did. -/
def fnTotalOfSpec : ChangeSpec := { name := "fnTotalOf", fn := fun _ => fun
  | [d] => { results := [.lit (.bool true)], args := [d] }
  | _ => none }
def fnTotalOfRow : OpenClaim := { program := "ytloiafnoekpaoaa", sum := "787207fcc105e07e409c6141cee97eb3e789ff15411804f6a882b9bab957f308", func := "loop.example/graphcluster/laws.FnTotalOf", spec := "fnTotalOf", apart := false }
def FnTotalOfSaid : Prop := fnTotalOfRow.holds Try.pinned (OpenSpec.ofChange fnTotalOfSpec)

/-- ITS FALSE NEIGHBOUR: 'it returns false'. Refute it at one input. -/
def fnTotalOfWrong : ChangeSpec := { name := "fnTotalOf", fn := fun _ => fun
  | [d] => { results := [.lit (.bool false)], args := [d] }
  | _ => none }
def FnTotalOfWrongFalsely : Prop := fnTotalOfRow.holds Try.pinned (OpenSpec.ofChange fnTotalOfWrong)

/-- 'laws.FnJoinTotals': WHATEVER THE INPUT: true; the input reads as it did. -/
def fnJoinTotalsSpec : ChangeSpec := { name := "fnJoinTotals", fn := fun _ => fun
  | [d] => { results := [.lit (.bool true)], args := [d] }
  | _ => none }
def fnJoinTotalsRow : OpenClaim := { program := "ytloiafnoekpaoaa", sum := "787207fcc105e07e409c6141cee97eb3e789ff15411804f6a882b9bab957f308", func := "loop.example/graphcluster/laws.FnJoinTotals", spec := "fnJoinTotals", apart := false }
def FnJoinTotalsSaid : Prop := fnJoinTotalsRow.holds Try.pinned (OpenSpec.ofChange fnJoinTotalsSpec)

/-- ITS FALSE NEIGHBOUR: 'it returns false'. Refute it at one input. -/
def fnJoinTotalsWrong : ChangeSpec := { name := "fnJoinTotals", fn := fun _ => fun
  | [d] => { results := [.lit (.bool false)], args := [d] }
  | _ => none }
def FnJoinTotalsWrongFalsely : Prop := fnJoinTotalsRow.holds Try.pinned (OpenSpec.ofChange fnJoinTotalsWrong)

/-- 'laws.FnChannelOf': WHATEVER THE INPUT: true; the input reads as it did. -/
def fnChannelOfSpec : ChangeSpec := { name := "fnChannelOf", fn := fun _ => fun
  | [d] => { results := [.lit (.bool true)], args := [d] }
  | _ => none }
def fnChannelOfRow : OpenClaim := { program := "ytloiafnoekpaoaa", sum := "787207fcc105e07e409c6141cee97eb3e789ff15411804f6a882b9bab957f308", func := "loop.example/graphcluster/laws.FnChannelOf", spec := "fnChannelOf", apart := false }
def FnChannelOfSaid : Prop := fnChannelOfRow.holds Try.pinned (OpenSpec.ofChange fnChannelOfSpec)

/-- ITS FALSE NEIGHBOUR: 'it returns false'. Refute it at one input. -/
def fnChannelOfWrong : ChangeSpec := { name := "fnChannelOf", fn := fun _ => fun
  | [d] => { results := [.lit (.bool false)], args := [d] }
  | _ => none }
def FnChannelOfWrongFalsely : Prop := fnChannelOfRow.holds Try.pinned (OpenSpec.ofChange fnChannelOfWrong)

/- THE SECOND FORM. 'bulk': how many values and letters a reading holds, each counted each time it is reached (what is shared counts as often as it is met; a slice's spare places count too). A statement '..UptoSaid' is the law's where the arguments, and the package variables that the reading takes, are together of bulk at most 1048576: NARROWER than '..Said'. Prove '..Said' where nothing that the law and all that it calls make is longer than what came in: it says more and counts as full. Else prove '..UptoSaid'. A law counts once. -/
mutual
def uptoBulk {H : Type} : DataW H → Nat
  | .lit (.string bytes) => bytes.length + 1
  | .lit _ => 1
  | .nil => 1
  | .ptr d => uptoBulk d + 1
  | .slice elems spare => uptoBulkAll elems + uptoBulkAll spare + 1
  | .agg parts => uptoBulkAll parts + 1
  | .iface _ d => uptoBulk d + 1
  | .map entries => uptoBulkEntries entries + 1
  | .held _ => 1
def uptoBulkAll {H : Type} : List (DataW H) → Nat
  | [] => 0
  | d :: r => uptoBulk d + uptoBulkAll r
def uptoBulkEntries {H : Type} : List (Lit × DataW H) → Nat
  | [] => 0
  | x :: r => uptoBulkEntry x + uptoBulkEntries r
def uptoBulkEntry {H : Type} : Lit × DataW H → Nat
  | (.string bytes, d) => bytes.length + uptoBulk d + 1
  | (_, d) => uptoBulk d + 1
 end
def uptoSmall : (H : Type) → List (DataW H) → Bool := fun _ ds => decide (uptoBulkAll ds ≤ 1048576)
def OpenSpec.upto (s : _root_.Go.ChangeSpec) : _root_.Go.OpenSpec := { _root_.Go.OpenSpec.ofChange s with cond := some uptoSmall }

/-- 'laws.FnLettersValid', WHERE WHAT IT READS IS OF BULK AT MOST 1048576: true; the input reads as it did. -/
def fnLettersValidUptoRow : OpenClaim := { program := "ytloiafnoekpaoaa", sum := "787207fcc105e07e409c6141cee97eb3e789ff15411804f6a882b9bab957f308", func := "loop.example/graphcluster/laws.FnLettersValid", spec := "fnLettersValid", apart := false, narrowed := true }
def FnLettersValidUptoSaid : Prop := fnLettersValidUptoRow.holds Try.pinned (OpenSpec.upto fnLettersValidSpec)

/-- 'laws.FnExactTotalOf', WHERE WHAT IT READS IS OF BULK AT MOST 1048576: true; the input reads as it did. -/
def fnExactTotalOfUptoRow : OpenClaim := { program := "ytloiafnoekpaoaa", sum := "787207fcc105e07e409c6141cee97eb3e789ff15411804f6a882b9bab957f308", func := "loop.example/graphcluster/laws.FnExactTotalOf", spec := "fnExactTotalOf", apart := false, narrowed := true }
def FnExactTotalOfUptoSaid : Prop := fnExactTotalOfUptoRow.holds Try.pinned (OpenSpec.upto fnExactTotalOfSpec)

/-- 'laws.FnCanCombine', WHERE WHAT IT READS IS OF BULK AT MOST 1048576: true; the input reads as it did. -/
def fnCanCombineUptoRow : OpenClaim := { program := "ytloiafnoekpaoaa", sum := "787207fcc105e07e409c6141cee97eb3e789ff15411804f6a882b9bab957f308", func := "loop.example/graphcluster/laws.FnCanCombine", spec := "fnCanCombine", apart := false, narrowed := true }
def FnCanCombineUptoSaid : Prop := fnCanCombineUptoRow.holds Try.pinned (OpenSpec.upto fnCanCombineSpec)

/-- 'laws.FnTurnOrder', WHERE WHAT IT READS IS OF BULK AT MOST 1048576: true; the input reads as it did. -/
def fnTurnOrderUptoRow : OpenClaim := { program := "ytloiafnoekpaoaa", sum := "787207fcc105e07e409c6141cee97eb3e789ff15411804f6a882b9bab957f308", func := "loop.example/graphcluster/laws.FnTurnOrder", spec := "fnTurnOrder", apart := false, narrowed := true }
def FnTurnOrderUptoSaid : Prop := fnTurnOrderUptoRow.holds Try.pinned (OpenSpec.upto fnTurnOrderSpec)

/-- 'laws.FnOrderValid', WHERE WHAT IT READS IS OF BULK AT MOST 1048576: true; the input reads as it did. -/
def fnOrderValidUptoRow : OpenClaim := { program := "ytloiafnoekpaoaa", sum := "787207fcc105e07e409c6141cee97eb3e789ff15411804f6a882b9bab957f308", func := "loop.example/graphcluster/laws.FnOrderValid", spec := "fnOrderValid", apart := false, narrowed := true }
def FnOrderValidUptoSaid : Prop := fnOrderValidUptoRow.holds Try.pinned (OpenSpec.upto fnOrderValidSpec)

/-- 'laws.FnMovedVertices', WHERE WHAT IT READS IS OF BULK AT MOST 1048576: true; the input reads as it did. -/
def fnMovedVerticesUptoRow : OpenClaim := { program := "ytloiafnoekpaoaa", sum := "787207fcc105e07e409c6141cee97eb3e789ff15411804f6a882b9bab957f308", func := "loop.example/graphcluster/laws.FnMovedVertices", spec := "fnMovedVertices", apart := false, narrowed := true }
def FnMovedVerticesUptoSaid : Prop := fnMovedVerticesUptoRow.holds Try.pinned (OpenSpec.upto fnMovedVerticesSpec)

/-- 'laws.FnExactStaleCount', WHERE WHAT IT READS IS OF BULK AT MOST 1048576: true; the input reads as it did. -/
def fnExactStaleCountUptoRow : OpenClaim := { program := "ytloiafnoekpaoaa", sum := "787207fcc105e07e409c6141cee97eb3e789ff15411804f6a882b9bab957f308", func := "loop.example/graphcluster/laws.FnExactStaleCount", spec := "fnExactStaleCount", unfollowed := true, recurses := true, apart := false, narrowed := true }
def FnExactStaleCountUptoSaid : Prop := fnExactStaleCountUptoRow.holds Try.pinned (OpenSpec.upto fnExactStaleCountSpec)

/-- 'laws.FnTotalValid', WHERE WHAT IT READS IS OF BULK AT MOST 1048576: true; the input reads as it did. -/
def fnTotalValidUptoRow : OpenClaim := { program := "ytloiafnoekpaoaa", sum := "787207fcc105e07e409c6141cee97eb3e789ff15411804f6a882b9bab957f308", func := "loop.example/graphcluster/laws.FnTotalValid", spec := "fnTotalValid", apart := false, narrowed := true }
def FnTotalValidUptoSaid : Prop := fnTotalValidUptoRow.holds Try.pinned (OpenSpec.upto fnTotalValidSpec)

/-- 'laws.FnExactStampMessages', WHERE WHAT IT READS IS OF BULK AT MOST 1048576: true; the input reads as it did. -/
def fnExactStampMessagesUptoRow : OpenClaim := { program := "ytloiafnoekpaoaa", sum := "787207fcc105e07e409c6141cee97eb3e789ff15411804f6a882b9bab957f308", func := "loop.example/graphcluster/laws.FnExactStampMessages", spec := "fnExactStampMessages", apart := false, narrowed := true }
def FnExactStampMessagesUptoSaid : Prop := fnExactStampMessagesUptoRow.holds Try.pinned (OpenSpec.upto fnExactStampMessagesSpec)

/-- 'laws.FnTotalOf', WHERE WHAT IT READS IS OF BULK AT MOST 1048576: true; the input reads as it did. -/
def fnTotalOfUptoRow : OpenClaim := { program := "ytloiafnoekpaoaa", sum := "787207fcc105e07e409c6141cee97eb3e789ff15411804f6a882b9bab957f308", func := "loop.example/graphcluster/laws.FnTotalOf", spec := "fnTotalOf", apart := false, narrowed := true }
def FnTotalOfUptoSaid : Prop := fnTotalOfUptoRow.holds Try.pinned (OpenSpec.upto fnTotalOfSpec)

/-- 'laws.FnJoinTotals', WHERE WHAT IT READS IS OF BULK AT MOST 1048576: true; the input reads as it did. -/
def fnJoinTotalsUptoRow : OpenClaim := { program := "ytloiafnoekpaoaa", sum := "787207fcc105e07e409c6141cee97eb3e789ff15411804f6a882b9bab957f308", func := "loop.example/graphcluster/laws.FnJoinTotals", spec := "fnJoinTotals", apart := false, narrowed := true }
def FnJoinTotalsUptoSaid : Prop := fnJoinTotalsUptoRow.holds Try.pinned (OpenSpec.upto fnJoinTotalsSpec)

/-- 'laws.FnChannelOf', WHERE WHAT IT READS IS OF BULK AT MOST 1048576: true; the input reads as it did. -/
def fnChannelOfUptoRow : OpenClaim := { program := "ytloiafnoekpaoaa", sum := "787207fcc105e07e409c6141cee97eb3e789ff15411804f6a882b9bab957f308", func := "loop.example/graphcluster/laws.FnChannelOf", spec := "fnChannelOf", apart := false, narrowed := true }
def FnChannelOfUptoSaid : Prop := fnChannelOfUptoRow.holds Try.pinned (OpenSpec.upto fnChannelOfSpec)

end Rows
end Go.Proofs.Ytloiafnoekpaoaa
