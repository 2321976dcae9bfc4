/-
  No cell of these rows narrows 'for every input' (looked for: loops, veiled, ifaces, maps, wideKeys, modest, calm, conditions, laid).
  DERIVED. THE GIVEN ROWS OF THIS SEAT. 12 by the template 'for every input the law returns true; each argument reads behind the call as it read before'; 0 by the template 'total and deterministic' (their statements: YtloiafnoekpaoabTotals.lean).
  GIVEN WITH THE SEED: the statements are not yours to turn. If you find one false, say at which input.
  Laid BY PROGRAM, IN A SANDBOX (cutbox-rows.mjs): the forced cells as the released guide's own fill.sh prints them over the translation ea1fe4156f1cf282… (all of the seat's roots in one cut). By AI agents, Wed Nov 11 2026. No macro, syntax, notation, axiom, sorry.
-/
import Derived.Test.YtloiafnoekpaoabChecked
import GoSem.Claim
import GoSem.ClaimJoined
import GoSem.ClaimMapViews
import Derived.JoinedTies
import Derived.KernelRfl
namespace Go.Proofs.Ytloiafnoekpaoab
/- THE CELL 'sum', in the pinned program and in every row, IS THE sha256 OF THE DUMP (.gsa) THAT YtloiafnoekpaoabProg.lean LOADS. Nothing in Lean hashes anything: it is a label: what it is worth is what the hold of that sum in a sandbox is worth. -/
noncomputable def Try.pinned : Pinned := { name := "ytloiafnoekpaoab", sum := "ea1fe4156f1cf282d9f055898064a46dc2af20fcb624f6c453b29608d91c1ae4", checked := Try.checked }
namespace Rows
def none {H : Type} : Left H := { results := [], args := [] }

/-- 'laws.FnExactChannelOf': WHATEVER THE INPUT: true; the input reads as it did. -/
def fnExactChannelOfSpec : ChangeSpec := { name := "fnExactChannelOf", fn := fun _ => fun
  | [d] => { results := [.lit (.bool true)], args := [d] }
  | _ => none }
def fnExactChannelOfRow : OpenClaim := { program := "ytloiafnoekpaoab", sum := "ea1fe4156f1cf282d9f055898064a46dc2af20fcb624f6c453b29608d91c1ae4", func := "loop.example/graphcluster/laws.FnExactChannelOf", spec := "fnExactChannelOf", apart := false }
def FnExactChannelOfSaid : Prop := fnExactChannelOfRow.holds Try.pinned (OpenSpec.ofChange fnExactChannelOfSpec)

/-- ITS FALSE NEIGHBOUR: 'it returns false'. Refute it at one input. -/
def fnExactChannelOfWrong : ChangeSpec := { name := "fnExactChannelOf", fn := fun _ => fun
  | [d] => { results := [.lit (.bool false)], args := [d] }
  | _ => none }
def FnExactChannelOfWrongFalsely : Prop := fnExactChannelOfRow.holds Try.pinned (OpenSpec.ofChange fnExactChannelOfWrong)

/-- 'laws.FnExactChannelValid': WHATEVER THE INPUT: true; the input reads as it did. -/
def fnExactChannelValidSpec : ChangeSpec := { name := "fnExactChannelValid", fn := fun _ => fun
  | [d] => { results := [.lit (.bool true)], args := [d] }
  | _ => none }
def fnExactChannelValidRow : OpenClaim := { program := "ytloiafnoekpaoab", sum := "ea1fe4156f1cf282d9f055898064a46dc2af20fcb624f6c453b29608d91c1ae4", func := "loop.example/graphcluster/laws.FnExactChannelValid", spec := "fnExactChannelValid", apart := false }
def FnExactChannelValidSaid : Prop := fnExactChannelValidRow.holds Try.pinned (OpenSpec.ofChange fnExactChannelValidSpec)

/-- ITS FALSE NEIGHBOUR: 'it returns false'. Refute it at one input. -/
def fnExactChannelValidWrong : ChangeSpec := { name := "fnExactChannelValid", fn := fun _ => fun
  | [d] => { results := [.lit (.bool false)], args := [d] }
  | _ => none }
def FnExactChannelValidWrongFalsely : Prop := fnExactChannelValidRow.holds Try.pinned (OpenSpec.ofChange fnExactChannelValidWrong)

/-- 'laws.FnExactTotalsOf': WHATEVER THE INPUT: true; the input reads as it did. -/
def fnExactTotalsOfSpec : ChangeSpec := { name := "fnExactTotalsOf", fn := fun _ => fun
  | [d1, d2] => { results := [.lit (.bool true)], args := [d1, d2] }
  | _ => none }
def fnExactTotalsOfRow : OpenClaim := { program := "ytloiafnoekpaoab", sum := "ea1fe4156f1cf282d9f055898064a46dc2af20fcb624f6c453b29608d91c1ae4", func := "loop.example/graphcluster/laws.FnExactTotalsOf", spec := "fnExactTotalsOf", apart := false }
def FnExactTotalsOfSaid : Prop := fnExactTotalsOfRow.holds Try.pinned (OpenSpec.ofChange fnExactTotalsOfSpec)

/-- ITS FALSE NEIGHBOUR: 'it returns false'. Refute it at one input. -/
def fnExactTotalsOfWrong : ChangeSpec := { name := "fnExactTotalsOf", fn := fun _ => fun
  | [d1, d2] => { results := [.lit (.bool false)], args := [d1, d2] }
  | _ => none }
def FnExactTotalsOfWrongFalsely : Prop := fnExactTotalsOfRow.holds Try.pinned (OpenSpec.ofChange fnExactTotalsOfWrong)

/-- 'laws.FnExactChannelDone': WHATEVER THE INPUT: true; the input reads as it did. -/
def fnExactChannelDoneSpec : ChangeSpec := { name := "fnExactChannelDone", fn := fun _ => fun
  | [d] => { results := [.lit (.bool true)], args := [d] }
  | _ => none }
def fnExactChannelDoneRow : OpenClaim := { program := "ytloiafnoekpaoab", sum := "ea1fe4156f1cf282d9f055898064a46dc2af20fcb624f6c453b29608d91c1ae4", func := "loop.example/graphcluster/laws.FnExactChannelDone", spec := "fnExactChannelDone", apart := false }
def FnExactChannelDoneSaid : Prop := fnExactChannelDoneRow.holds Try.pinned (OpenSpec.ofChange fnExactChannelDoneSpec)

/-- ITS FALSE NEIGHBOUR: 'it returns false'. Refute it at one input. -/
def fnExactChannelDoneWrong : ChangeSpec := { name := "fnExactChannelDone", fn := fun _ => fun
  | [d] => { results := [.lit (.bool false)], args := [d] }
  | _ => none }
def FnExactChannelDoneWrongFalsely : Prop := fnExactChannelDoneRow.holds Try.pinned (OpenSpec.ofChange fnExactChannelDoneWrong)

/-- 'laws.FnChannelValid': WHATEVER THE INPUT: true; the input reads as it did. -/
def fnChannelValidSpec : ChangeSpec := { name := "fnChannelValid", fn := fun _ => fun
  | [d] => { results := [.lit (.bool true)], args := [d] }
  | _ => none }
def fnChannelValidRow : OpenClaim := { program := "ytloiafnoekpaoab", sum := "ea1fe4156f1cf282d9f055898064a46dc2af20fcb624f6c453b29608d91c1ae4", func := "loop.example/graphcluster/laws.FnChannelValid", spec := "fnChannelValid", apart := false }
def FnChannelValidSaid : Prop := fnChannelValidRow.holds Try.pinned (OpenSpec.ofChange fnChannelValidSpec)

/-- ITS FALSE NEIGHBOUR: 'it returns false'. Refute it at one input. -/
def fnChannelValidWrong : ChangeSpec := { name := "fnChannelValid", fn := fun _ => fun
  | [d] => { results := [.lit (.bool false)], args := [d] }
  | _ => none }
def FnChannelValidWrongFalsely : Prop := fnChannelValidRow.holds Try.pinned (OpenSpec.ofChange fnChannelValidWrong)

/-- 'laws.FnTotalsOf': WHATEVER THE INPUT: true; the input reads as it did. -/
def fnTotalsOfSpec : ChangeSpec := { name := "fnTotalsOf", fn := fun _ => fun
  | [d] => { results := [.lit (.bool true)], args := [d] }
  | _ => none }
def fnTotalsOfRow : OpenClaim := { program := "ytloiafnoekpaoab", sum := "ea1fe4156f1cf282d9f055898064a46dc2af20fcb624f6c453b29608d91c1ae4", func := "loop.example/graphcluster/laws.FnTotalsOf", spec := "fnTotalsOf", apart := false }
def FnTotalsOfSaid : Prop := fnTotalsOfRow.holds Try.pinned (OpenSpec.ofChange fnTotalsOfSpec)

/-- ITS FALSE NEIGHBOUR: 'it returns false'. Refute it at one input. -/
def fnTotalsOfWrong : ChangeSpec := { name := "fnTotalsOf", fn := fun _ => fun
  | [d] => { results := [.lit (.bool false)], args := [d] }
  | _ => none }
def FnTotalsOfWrongFalsely : Prop := fnTotalsOfRow.holds Try.pinned (OpenSpec.ofChange fnTotalsOfWrong)

/-- 'laws.FnExactStateDone': WHATEVER THE INPUT: true; the input reads as it did. -/
def fnExactStateDoneSpec : ChangeSpec := { name := "fnExactStateDone", fn := fun _ => fun
  | [d] => { results := [.lit (.bool true)], args := [d] }
  | _ => none }
def fnExactStateDoneRow : OpenClaim := { program := "ytloiafnoekpaoab", sum := "ea1fe4156f1cf282d9f055898064a46dc2af20fcb624f6c453b29608d91c1ae4", func := "loop.example/graphcluster/laws.FnExactStateDone", spec := "fnExactStateDone", unfollowed := true, recurses := true, apart := false }
def FnExactStateDoneSaid : Prop := fnExactStateDoneRow.holds Try.pinned (OpenSpec.ofChange fnExactStateDoneSpec)

/-- ITS FALSE NEIGHBOUR: 'it returns false'. Refute it at one input. -/
def fnExactStateDoneWrong : ChangeSpec := { name := "fnExactStateDone", fn := fun _ => fun
  | [d] => { results := [.lit (.bool false)], args := [d] }
  | _ => none }
def FnExactStateDoneWrongFalsely : Prop := fnExactStateDoneRow.holds Try.pinned (OpenSpec.ofChange fnExactStateDoneWrong)

/-- 'laws.FnExactPiecesValid': WHATEVER THE INPUT: true; the input reads as it did. -/
def fnExactPiecesValidSpec : ChangeSpec := { name := "fnExactPiecesValid", fn := fun _ => fun
  | [d1, d2] => { results := [.lit (.bool true)], args := [d1, d2] }
  | _ => none }
def fnExactPiecesValidRow : OpenClaim := { program := "ytloiafnoekpaoab", sum := "ea1fe4156f1cf282d9f055898064a46dc2af20fcb624f6c453b29608d91c1ae4", func := "loop.example/graphcluster/laws.FnExactPiecesValid", spec := "fnExactPiecesValid", unfollowed := true, recurses := true, apart := false }
def FnExactPiecesValidSaid : Prop := fnExactPiecesValidRow.holds Try.pinned (OpenSpec.ofChange fnExactPiecesValidSpec)

/-- ITS FALSE NEIGHBOUR: 'it returns false'. Refute it at one input. -/
def fnExactPiecesValidWrong : ChangeSpec := { name := "fnExactPiecesValid", fn := fun _ => fun
  | [d1, d2] => { results := [.lit (.bool false)], args := [d1, d2] }
  | _ => none }
def FnExactPiecesValidWrongFalsely : Prop := fnExactPiecesValidRow.holds Try.pinned (OpenSpec.ofChange fnExactPiecesValidWrong)

/-- 'laws.FnExactStateBodies': WHATEVER THE INPUT: true; the input reads as it did. -/
def fnExactStateBodiesSpec : ChangeSpec := { name := "fnExactStateBodies", fn := fun _ => fun
  | [d] => { results := [.lit (.bool true)], args := [d] }
  | _ => none }
def fnExactStateBodiesRow : OpenClaim := { program := "ytloiafnoekpaoab", sum := "ea1fe4156f1cf282d9f055898064a46dc2af20fcb624f6c453b29608d91c1ae4", func := "loop.example/graphcluster/laws.FnExactStateBodies", spec := "fnExactStateBodies", unfollowed := true, recurses := true, apart := false }
def FnExactStateBodiesSaid : Prop := fnExactStateBodiesRow.holds Try.pinned (OpenSpec.ofChange fnExactStateBodiesSpec)

/-- ITS FALSE NEIGHBOUR: 'it returns false'. Refute it at one input. -/
def fnExactStateBodiesWrong : ChangeSpec := { name := "fnExactStateBodies", fn := fun _ => fun
  | [d] => { results := [.lit (.bool false)], args := [d] }
  | _ => none }
def FnExactStateBodiesWrongFalsely : Prop := fnExactStateBodiesRow.holds Try.pinned (OpenSpec.ofChange fnExactStateBodiesWrong)

/-- 'laws.FnExactSplitState': WHATEVER THE INPUT: true; the input reads as it did. -/
def fnExactSplitStateSpec : ChangeSpec := { name := "fnExactSplitState", fn := fun _ => fun
  | [d1, d2] => { results := [.lit (.bool true)], args := [d1, d2] }
  | _ => none }
def fnExactSplitStateRow : OpenClaim := { program := "ytloiafnoekpaoab", sum := "ea1fe4156f1cf282d9f055898064a46dc2af20fcb624f6c453b29608d91c1ae4", func := "loop.example/graphcluster/laws.FnExactSplitState", spec := "fnExactSplitState", unfollowed := true, recurses := true, apart := false }
def FnExactSplitStateSaid : Prop := fnExactSplitStateRow.holds Try.pinned (OpenSpec.ofChange fnExactSplitStateSpec)

/-- ITS FALSE NEIGHBOUR: 'it returns false'. Refute it at one input. -/
def fnExactSplitStateWrong : ChangeSpec := { name := "fnExactSplitState", fn := fun _ => fun
  | [d1, d2] => { results := [.lit (.bool false)], args := [d1, d2] }
  | _ => none }
def FnExactSplitStateWrongFalsely : Prop := fnExactSplitStateRow.holds Try.pinned (OpenSpec.ofChange fnExactSplitStateWrong)

/-- 'laws.FnStateValid': WHATEVER THE INPUT: true; the input reads as it did. -/
def fnStateValidSpec : ChangeSpec := { name := "fnStateValid", fn := fun _ => fun
  | [d] => { results := [.lit (.bool true)], args := [d] }
  | _ => none }
def fnStateValidRow : OpenClaim := { program := "ytloiafnoekpaoab", sum := "ea1fe4156f1cf282d9f055898064a46dc2af20fcb624f6c453b29608d91c1ae4", func := "loop.example/graphcluster/laws.FnStateValid", spec := "fnStateValid", unfollowed := true, recurses := true, apart := false }
def FnStateValidSaid : Prop := fnStateValidRow.holds Try.pinned (OpenSpec.ofChange fnStateValidSpec)

/-- ITS FALSE NEIGHBOUR: 'it returns false'. Refute it at one input. -/
def fnStateValidWrong : ChangeSpec := { name := "fnStateValid", fn := fun _ => fun
  | [d] => { results := [.lit (.bool false)], args := [d] }
  | _ => none }
def FnStateValidWrongFalsely : Prop := fnStateValidRow.holds Try.pinned (OpenSpec.ofChange fnStateValidWrong)

/-- 'laws.FnStateDone': WHATEVER THE INPUT: true; the input reads as it did. -/
def fnStateDoneSpec : ChangeSpec := { name := "fnStateDone", fn := fun _ => fun
  | [d] => { results := [.lit (.bool true)], args := [d] }
  | _ => none }
def fnStateDoneRow : OpenClaim := { program := "ytloiafnoekpaoab", sum := "ea1fe4156f1cf282d9f055898064a46dc2af20fcb624f6c453b29608d91c1ae4", func := "loop.example/graphcluster/laws.FnStateDone", spec := "fnStateDone", unfollowed := true, recurses := true, apart := false }
def FnStateDoneSaid : Prop := fnStateDoneRow.holds Try.pinned (OpenSpec.ofChange fnStateDoneSpec)

/-- ITS FALSE NEIGHBOUR: 'it returns false'. Refute it at one input. -/
def fnStateDoneWrong : ChangeSpec := { name := "fnStateDone", fn := fun _ => fun
  | [d] => { results := [.lit (.bool false)], args := [d] }
  | _ => none }
def FnStateDoneWrongFalsely : Prop := fnStateDoneRow.holds Try.pinned (OpenSpec.ofChange fnStateDoneWrong)

/- THE SECOND FORM. 'bulk': how many values and letters a reading holds, each counted each time it is reached (what is shared counts as often as it is met; a slice's spare places count too). A statement '..UptoSaid' is the law's where the arguments, and the package variables that the reading takes, are together of bulk at most 1048576: NARROWER than '..Said'. Prove '..Said' where nothing that the law and all that it calls make is longer than what came in: it says more and counts as full. Else prove '..UptoSaid'. A law counts once. -/
mutual
def uptoBulk {H : Type} : DataW H → Nat
  | .lit (.string bytes) => bytes.length + 1
  | .lit _ => 1
  | .nil => 1
  | .ptr d => uptoBulk d + 1
  | .slice elems spare => uptoBulkAll elems + uptoBulkAll spare + 1
  | .agg parts => uptoBulkAll parts + 1
  | .iface _ d => uptoBulk d + 1
  | .map entries => uptoBulkEntries entries + 1
  | .held _ => 1
def uptoBulkAll {H : Type} : List (DataW H) → Nat
  | [] => 0
  | d :: r => uptoBulk d + uptoBulkAll r
def uptoBulkEntries {H : Type} : List (Lit × DataW H) → Nat
  | [] => 0
  | x :: r => uptoBulkEntry x + uptoBulkEntries r
def uptoBulkEntry {H : Type} : Lit × DataW H → Nat
  | (.string bytes, d) => bytes.length + uptoBulk d + 1
  | (_, d) => uptoBulk d + 1
 end
def uptoSmall : (H : Type) → List (DataW H) → Bool := fun _ ds => decide (uptoBulkAll ds ≤ 1048576)
def OpenSpec.upto (s : _root_.Go.ChangeSpec) : _root_.Go.OpenSpec := { _root_.Go.OpenSpec.ofChange s with cond := some uptoSmall }

/-- 'laws.FnExactChannelOf', WHERE WHAT IT READS IS OF BULK AT MOST 1048576: true; the input reads as it did. -/
def fnExactChannelOfUptoRow : OpenClaim := { program := "ytloiafnoekpaoab", sum := "ea1fe4156f1cf282d9f055898064a46dc2af20fcb624f6c453b29608d91c1ae4", func := "loop.example/graphcluster/laws.FnExactChannelOf", spec := "fnExactChannelOf", apart := false, narrowed := true }
def FnExactChannelOfUptoSaid : Prop := fnExactChannelOfUptoRow.holds Try.pinned (OpenSpec.upto fnExactChannelOfSpec)

/-- 'laws.FnExactChannelValid', WHERE WHAT IT READS IS OF BULK AT MOST 1048576: true; the input reads as it did. -/
def fnExactChannelValidUptoRow : OpenClaim := { program := "ytloiafnoekpaoab", sum := "ea1fe4156f1cf282d9f055898064a46dc2af20fcb624f6c453b29608d91c1ae4", func := "loop.example/graphcluster/laws.FnExactChannelValid", spec := "fnExactChannelValid", apart := false, narrowed := true }
def FnExactChannelValidUptoSaid : Prop := fnExactChannelValidUptoRow.holds Try.pinned (OpenSpec.upto fnExactChannelValidSpec)

/-- 'laws.FnExactTotalsOf', WHERE WHAT IT READS IS OF BULK AT MOST 1048576: true; the input reads as it did. -/
def fnExactTotalsOfUptoRow : OpenClaim := { program := "ytloiafnoekpaoab", sum := "ea1fe4156f1cf282d9f055898064a46dc2af20fcb624f6c453b29608d91c1ae4", func := "loop.example/graphcluster/laws.FnExactTotalsOf", spec := "fnExactTotalsOf", apart := false, narrowed := true }
def FnExactTotalsOfUptoSaid : Prop := fnExactTotalsOfUptoRow.holds Try.pinned (OpenSpec.upto fnExactTotalsOfSpec)

/-- 'laws.FnExactChannelDone', WHERE WHAT IT READS IS OF BULK AT MOST 1048576: true; the input reads as it did. -/
def fnExactChannelDoneUptoRow : OpenClaim := { program := "ytloiafnoekpaoab", sum := "ea1fe4156f1cf282d9f055898064a46dc2af20fcb624f6c453b29608d91c1ae4", func := "loop.example/graphcluster/laws.FnExactChannelDone", spec := "fnExactChannelDone", apart := false, narrowed := true }
def FnExactChannelDoneUptoSaid : Prop := fnExactChannelDoneUptoRow.holds Try.pinned (OpenSpec.upto fnExactChannelDoneSpec)

/-- 'laws.FnChannelValid', WHERE WHAT IT READS IS OF BULK AT MOST 1048576: true; the input reads as it did. -/
def fnChannelValidUptoRow : OpenClaim := { program := "ytloiafnoekpaoab", sum := "ea1fe4156f1cf282d9f055898064a46dc2af20fcb624f6c453b29608d91c1ae4", func := "loop.example/graphcluster/laws.FnChannelValid", spec := "fnChannelValid", apart := false, narrowed := true }
def FnChannelValidUptoSaid : Prop := fnChannelValidUptoRow.holds Try.pinned (OpenSpec.upto fnChannelValidSpec)

/-- 'laws.FnTotalsOf', WHERE WHAT IT READS IS OF BULK AT MOST 1048576: true; the input reads as it did. -/
def fnTotalsOfUptoRow : OpenClaim := { program := "ytloiafnoekpaoab", sum := "ea1fe4156f1cf282d9f055898064a46dc2af20fcb624f6c453b29608d91c1ae4", func := "loop.example/graphcluster/laws.FnTotalsOf", spec := "fnTotalsOf", apart := false, narrowed := true }
def FnTotalsOfUptoSaid : Prop := fnTotalsOfUptoRow.holds Try.pinned (OpenSpec.upto fnTotalsOfSpec)

/-- 'laws.FnExactStateDone', WHERE WHAT IT READS IS OF BULK AT MOST 1048576: true; the input reads as it did. -/
def fnExactStateDoneUptoRow : OpenClaim := { program := "ytloiafnoekpaoab", sum := "ea1fe4156f1cf282d9f055898064a46dc2af20fcb624f6c453b29608d91c1ae4", func := "loop.example/graphcluster/laws.FnExactStateDone", spec := "fnExactStateDone", unfollowed := true, recurses := true, apart := false, narrowed := true }
def FnExactStateDoneUptoSaid : Prop := fnExactStateDoneUptoRow.holds Try.pinned (OpenSpec.upto fnExactStateDoneSpec)

/-- 'laws.FnExactPiecesValid', WHERE WHAT IT READS IS OF BULK AT MOST 1048576: true; the input reads as it did. -/
def fnExactPiecesValidUptoRow : OpenClaim := { program := "ytloiafnoekpaoab", sum := "ea1fe4156f1cf282d9f055898064a46dc2af20fcb624f6c453b29608d91c1ae4", func := "loop.example/graphcluster/laws.FnExactPiecesValid", spec := "fnExactPiecesValid", unfollowed := true, recurses := true, apart := false, narrowed := true }
def FnExactPiecesValidUptoSaid : Prop := fnExactPiecesValidUptoRow.holds Try.pinned (OpenSpec.upto fnExactPiecesValidSpec)

/-- 'laws.FnExactStateBodies', WHERE WHAT IT READS IS OF BULK AT MOST 1048576: true; the input reads as it did. -/
def fnExactStateBodiesUptoRow : OpenClaim := { program := "ytloiafnoekpaoab", sum := "ea1fe4156f1cf282d9f055898064a46dc2af20fcb624f6c453b29608d91c1ae4", func := "loop.example/graphcluster/laws.FnExactStateBodies", spec := "fnExactStateBodies", unfollowed := true, recurses := true, apart := false, narrowed := true }
def FnExactStateBodiesUptoSaid : Prop := fnExactStateBodiesUptoRow.holds Try.pinned (OpenSpec.upto fnExactStateBodiesSpec)

/-- 'laws.FnExactSplitState', WHERE WHAT IT READS IS OF BULK AT MOST 1048576: true; the input reads as it did. -/
def fnExactSplitStateUptoRow : OpenClaim := { program := "ytloiafnoekpaoab", sum := "ea1fe4156f1cf282d9f055898064a46dc2af20fcb624f6c453b29608d91c1ae4", func := "loop.example/graphcluster/laws.FnExactSplitState", spec := "fnExactSplitState", unfollowed := true, recurses := true, apart := false, narrowed := true }
def FnExactSplitStateUptoSaid : Prop := fnExactSplitStateUptoRow.holds Try.pinned (OpenSpec.upto fnExactSplitStateSpec)

/-- 'laws.FnStateValid', WHERE WHAT IT READS IS OF BULK AT MOST 1048576: true; the input reads as it did. -/
def fnStateValidUptoRow : OpenClaim := { program := "ytloiafnoekpaoab", sum := "ea1fe4156f1cf282d9f055898064a46dc2af20fcb624f6c453b29608d91c1ae4", func := "loop.example/graphcluster/laws.FnStateValid", spec := "fnStateValid", unfollowed := true, recurses := true, apart := false, narrowed := true }
def FnStateValidUptoSaid : Prop := fnStateValidUptoRow.holds Try.pinned (OpenSpec.upto fnStateValidSpec)

/-- 'laws.FnStateDone', WHERE WHAT IT READS IS OF BULK AT MOST 1048576: true; the input reads as it did. -/
def fnStateDoneUptoRow : OpenClaim := { program := "ytloiafnoekpaoab", sum := "ea1fe4156f1cf282d9f055898064a46dc2af20fcb624f6c453b29608d91c1ae4", func := "loop.example/graphcluster/laws.FnStateDone", spec := "fnStateDone", unfollowed := true, recurses := true, apart := false, narrowed := true }
def FnStateDoneUptoSaid : Prop := fnStateDoneUptoRow.holds Try.pinned (OpenSpec.upto fnStateDoneSpec)

end Rows
end Go.Proofs.Ytloiafnoekpaoab
