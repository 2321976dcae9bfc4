/-
  No cell of these rows narrows 'for every input' (looked for: loops, veiled, ifaces, maps, wideKeys, modest, calm, conditions, laid).
  DERIVED. THE GIVEN ROWS OF THIS SEAT. 12 by the template 'for every input the law returns true; each argument reads behind the call as it read before'; 0 by the template 'total and deterministic' (their statements: YtgdcnlmhdbdijaaTotals.lean).
  GIVEN WITH THE SEED: the statements are not yours to turn. If you find one false, say at which input.
  Laid BY PROGRAM, IN A SANDBOX (cutbox-rows.mjs): the forced cells as the released guide's own fill.sh prints them over the translation d3ff5d738dd036a6… (all of the seat's roots in one cut). By AI agents, Wed Nov 11 2026. No macro, syntax, notation, axiom, sorry.
-/
import Derived.Test.YtgdcnlmhdbdijaaChecked
import GoSem.Claim
import GoSem.ClaimJoined
import GoSem.ClaimMapViews
import Derived.JoinedTies
import Derived.KernelRfl
namespace Go.Proofs.Ytgdcnlmhdbdijaa
/- THE CELL 'sum', in the pinned program and in every row, IS THE sha256 OF THE DUMP (.gsa) THAT YtgdcnlmhdbdijaaProg.lean LOADS. Nothing in Lean hashes anything: it is a label: what it is worth is what the hold of that sum in a sandbox is worth. -/
noncomputable def Try.pinned : Pinned := { name := "ytgdcnlmhdbdijaa", sum := "d3ff5d738dd036a626bfb193ab92e7809f9ebee95a48f9b54935ae1034c08f11", checked := Try.checked }
namespace Rows
def none {H : Type} : Left H := { results := [], args := [] }

/-- 'laws.FnStaleCount': WHATEVER THE INPUT: true; the input reads as it did. -/
def fnStaleCountSpec : ChangeSpec := { name := "fnStaleCount", fn := fun _ => fun
  | [d] => { results := [.lit (.bool true)], args := [d] }
  | _ => none }
def fnStaleCountRow : OpenClaim := { program := "ytgdcnlmhdbdijaa", sum := "d3ff5d738dd036a626bfb193ab92e7809f9ebee95a48f9b54935ae1034c08f11", func := "loop.example/graphcluster/laws.FnStaleCount", spec := "fnStaleCount", unfollowed := true, recurses := true, apart := false }
def FnStaleCountSaid : Prop := fnStaleCountRow.holds Try.pinned (OpenSpec.ofChange fnStaleCountSpec)

/-- ITS FALSE NEIGHBOUR: 'it returns false'. Refute it at one input. -/
def fnStaleCountWrong : ChangeSpec := { name := "fnStaleCount", fn := fun _ => fun
  | [d] => { results := [.lit (.bool false)], args := [d] }
  | _ => none }
def FnStaleCountWrongFalsely : Prop := fnStaleCountRow.holds Try.pinned (OpenSpec.ofChange fnStaleCountWrong)

/-- 'laws.FnOpenLetters': WHATEVER THE INPUT: true; the input reads as it did. -/
def fnOpenLettersSpec : ChangeSpec := { name := "fnOpenLetters", fn := fun _ => fun
  | [d] => { results := [.lit (.bool true)], args := [d] }
  | _ => none }
def fnOpenLettersRow : OpenClaim := { program := "ytgdcnlmhdbdijaa", sum := "d3ff5d738dd036a626bfb193ab92e7809f9ebee95a48f9b54935ae1034c08f11", func := "loop.example/graphcluster/laws.FnOpenLetters", spec := "fnOpenLetters", unfollowed := true, recurses := true, apart := false }
def FnOpenLettersSaid : Prop := fnOpenLettersRow.holds Try.pinned (OpenSpec.ofChange fnOpenLettersSpec)

/-- ITS FALSE NEIGHBOUR: 'it returns false'. Refute it at one input. -/
def fnOpenLettersWrong : ChangeSpec := { name := "fnOpenLetters", fn := fun _ => fun
  | [d] => { results := [.lit (.bool false)], args := [d] }
  | _ => none }
def FnOpenLettersWrongFalsely : Prop := fnOpenLettersRow.holds Try.pinned (OpenSpec.ofChange fnOpenLettersWrong)

/-- 'laws.FnStaleLetters': WHATEVER THE INPUT: true; the input reads as it did. -/
def fnStaleLettersSpec : ChangeSpec := { name := "fnStaleLetters", fn := fun _ => fun
  | [d] => { results := [.lit (.bool true)], args := [d] }
  | _ => none }
def fnStaleLettersRow : OpenClaim := { program := "ytgdcnlmhdbdijaa", sum := "d3ff5d738dd036a626bfb193ab92e7809f9ebee95a48f9b54935ae1034c08f11", func := "loop.example/graphcluster/laws.FnStaleLetters", spec := "fnStaleLetters", unfollowed := true, recurses := true, apart := false }
def FnStaleLettersSaid : Prop := fnStaleLettersRow.holds Try.pinned (OpenSpec.ofChange fnStaleLettersSpec)

/-- ITS FALSE NEIGHBOUR: 'it returns false'. Refute it at one input. -/
def fnStaleLettersWrong : ChangeSpec := { name := "fnStaleLetters", fn := fun _ => fun
  | [d] => { results := [.lit (.bool false)], args := [d] }
  | _ => none }
def FnStaleLettersWrongFalsely : Prop := fnStaleLettersRow.holds Try.pinned (OpenSpec.ofChange fnStaleLettersWrong)

/-- 'laws.FnStampMessages': WHATEVER THE INPUT: true; the input reads as it did. -/
def fnStampMessagesSpec : ChangeSpec := { name := "fnStampMessages", fn := fun _ => fun
  | [d] => { results := [.lit (.bool true)], args := [d] }
  | _ => none }
def fnStampMessagesRow : OpenClaim := { program := "ytgdcnlmhdbdijaa", sum := "d3ff5d738dd036a626bfb193ab92e7809f9ebee95a48f9b54935ae1034c08f11", func := "loop.example/graphcluster/laws.FnStampMessages", spec := "fnStampMessages", unfollowed := true, recurses := true, apart := false }
def FnStampMessagesSaid : Prop := fnStampMessagesRow.holds Try.pinned (OpenSpec.ofChange fnStampMessagesSpec)

/-- ITS FALSE NEIGHBOUR: 'it returns false'. Refute it at one input. -/
def fnStampMessagesWrong : ChangeSpec := { name := "fnStampMessages", fn := fun _ => fun
  | [d] => { results := [.lit (.bool false)], args := [d] }
  | _ => none }
def FnStampMessagesWrongFalsely : Prop := fnStampMessagesRow.holds Try.pinned (OpenSpec.ofChange fnStampMessagesWrong)

/-- 'laws.FnExactCombineMessages': WHATEVER THE INPUT: true; the input reads as it did. -/
def fnExactCombineMessagesSpec : ChangeSpec := { name := "fnExactCombineMessages", fn := fun _ => fun
  | [d1, d2] => { results := [.lit (.bool true)], args := [d1, d2] }
  | _ => none }
def fnExactCombineMessagesRow : OpenClaim := { program := "ytgdcnlmhdbdijaa", sum := "d3ff5d738dd036a626bfb193ab92e7809f9ebee95a48f9b54935ae1034c08f11", func := "loop.example/graphcluster/laws.FnExactCombineMessages", spec := "fnExactCombineMessages", unfollowed := true, recurses := true, apart := false }
def FnExactCombineMessagesSaid : Prop := fnExactCombineMessagesRow.holds Try.pinned (OpenSpec.ofChange fnExactCombineMessagesSpec)

/-- ITS FALSE NEIGHBOUR: 'it returns false'. Refute it at one input. -/
def fnExactCombineMessagesWrong : ChangeSpec := { name := "fnExactCombineMessages", fn := fun _ => fun
  | [d1, d2] => { results := [.lit (.bool false)], args := [d1, d2] }
  | _ => none }
def FnExactCombineMessagesWrongFalsely : Prop := fnExactCombineMessagesRow.holds Try.pinned (OpenSpec.ofChange fnExactCombineMessagesWrong)

/-- 'laws.FnExactOpenLetters': WHATEVER THE INPUT: true; the input reads as it did. -/
def fnExactOpenLettersSpec : ChangeSpec := { name := "fnExactOpenLetters", fn := fun _ => fun
  | [d1, d2] => { results := [.lit (.bool true)], args := [d1, d2] }
  | _ => none }
def fnExactOpenLettersRow : OpenClaim := { program := "ytgdcnlmhdbdijaa", sum := "d3ff5d738dd036a626bfb193ab92e7809f9ebee95a48f9b54935ae1034c08f11", func := "loop.example/graphcluster/laws.FnExactOpenLetters", spec := "fnExactOpenLetters", unfollowed := true, recurses := true, apart := false }
def FnExactOpenLettersSaid : Prop := fnExactOpenLettersRow.holds Try.pinned (OpenSpec.ofChange fnExactOpenLettersSpec)

/-- ITS FALSE NEIGHBOUR: 'it returns false'. Refute it at one input. -/
def fnExactOpenLettersWrong : ChangeSpec := { name := "fnExactOpenLetters", fn := fun _ => fun
  | [d1, d2] => { results := [.lit (.bool false)], args := [d1, d2] }
  | _ => none }
def FnExactOpenLettersWrongFalsely : Prop := fnExactOpenLettersRow.holds Try.pinned (OpenSpec.ofChange fnExactOpenLettersWrong)

/-- 'laws.FnCombineMessages': WHATEVER THE INPUT: true; the input reads as it did. -/
def fnCombineMessagesSpec : ChangeSpec := { name := "fnCombineMessages", fn := fun _ => fun
  | [d] => { results := [.lit (.bool true)], args := [d] }
  | _ => none }
def fnCombineMessagesRow : OpenClaim := { program := "ytgdcnlmhdbdijaa", sum := "d3ff5d738dd036a626bfb193ab92e7809f9ebee95a48f9b54935ae1034c08f11", func := "loop.example/graphcluster/laws.FnCombineMessages", spec := "fnCombineMessages", unfollowed := true, recurses := true, apart := false }
def FnCombineMessagesSaid : Prop := fnCombineMessagesRow.holds Try.pinned (OpenSpec.ofChange fnCombineMessagesSpec)

/-- ITS FALSE NEIGHBOUR: 'it returns false'. Refute it at one input. -/
def fnCombineMessagesWrong : ChangeSpec := { name := "fnCombineMessages", fn := fun _ => fun
  | [d] => { results := [.lit (.bool false)], args := [d] }
  | _ => none }
def FnCombineMessagesWrongFalsely : Prop := fnCombineMessagesRow.holds Try.pinned (OpenSpec.ofChange fnCombineMessagesWrong)

/-- 'laws.FnExactCombineAtOwners': WHATEVER THE INPUT: true; the input reads as it did. -/
def fnExactCombineAtOwnersSpec : ChangeSpec := { name := "fnExactCombineAtOwners", fn := fun _ => fun
  | [d1, d2, d3] => { results := [.lit (.bool true)], args := [d1, d2, d3] }
  | _ => none }
def fnExactCombineAtOwnersRow : OpenClaim := { program := "ytgdcnlmhdbdijaa", sum := "d3ff5d738dd036a626bfb193ab92e7809f9ebee95a48f9b54935ae1034c08f11", func := "loop.example/graphcluster/laws.FnExactCombineAtOwners", spec := "fnExactCombineAtOwners", unfollowed := true, recurses := true, apart := false }
def FnExactCombineAtOwnersSaid : Prop := fnExactCombineAtOwnersRow.holds Try.pinned (OpenSpec.ofChange fnExactCombineAtOwnersSpec)

/-- ITS FALSE NEIGHBOUR: 'it returns false'. Refute it at one input. -/
def fnExactCombineAtOwnersWrong : ChangeSpec := { name := "fnExactCombineAtOwners", fn := fun _ => fun
  | [d1, d2, d3] => { results := [.lit (.bool false)], args := [d1, d2, d3] }
  | _ => none }
def FnExactCombineAtOwnersWrongFalsely : Prop := fnExactCombineAtOwnersRow.holds Try.pinned (OpenSpec.ofChange fnExactCombineAtOwnersWrong)

/-- 'laws.FnCombineAtOwners': WHATEVER THE INPUT: true; the input reads as it did. -/
def fnCombineAtOwnersSpec : ChangeSpec := { name := "fnCombineAtOwners", fn := fun _ => fun
  | [d] => { results := [.lit (.bool true)], args := [d] }
  | _ => none }
def fnCombineAtOwnersRow : OpenClaim := { program := "ytgdcnlmhdbdijaa", sum := "d3ff5d738dd036a626bfb193ab92e7809f9ebee95a48f9b54935ae1034c08f11", func := "loop.example/graphcluster/laws.FnCombineAtOwners", spec := "fnCombineAtOwners", unfollowed := true, recurses := true, apart := false }
def FnCombineAtOwnersSaid : Prop := fnCombineAtOwnersRow.holds Try.pinned (OpenSpec.ofChange fnCombineAtOwnersSpec)

/-- ITS FALSE NEIGHBOUR: 'it returns false'. Refute it at one input. -/
def fnCombineAtOwnersWrong : ChangeSpec := { name := "fnCombineAtOwners", fn := fun _ => fun
  | [d] => { results := [.lit (.bool false)], args := [d] }
  | _ => none }
def FnCombineAtOwnersWrongFalsely : Prop := fnCombineAtOwnersRow.holds Try.pinned (OpenSpec.ofChange fnCombineAtOwnersWrong)

/-- 'laws.FnExactJoinPieces': WHATEVER THE INPUT: true; the input reads as it did. -/
def fnExactJoinPiecesSpec : ChangeSpec := { name := "fnExactJoinPieces", fn := fun _ => fun
  | [d1, d2, d3] => { results := [.lit (.bool true)], args := [d1, d2, d3] }
  | _ => none }
def fnExactJoinPiecesRow : OpenClaim := { program := "ytgdcnlmhdbdijaa", sum := "d3ff5d738dd036a626bfb193ab92e7809f9ebee95a48f9b54935ae1034c08f11", func := "loop.example/graphcluster/laws.FnExactJoinPieces", spec := "fnExactJoinPieces", unfollowed := true, recurses := true, apart := false }
def FnExactJoinPiecesSaid : Prop := fnExactJoinPiecesRow.holds Try.pinned (OpenSpec.ofChange fnExactJoinPiecesSpec)

/-- ITS FALSE NEIGHBOUR: 'it returns false'. Refute it at one input. -/
def fnExactJoinPiecesWrong : ChangeSpec := { name := "fnExactJoinPieces", fn := fun _ => fun
  | [d1, d2, d3] => { results := [.lit (.bool false)], args := [d1, d2, d3] }
  | _ => none }
def FnExactJoinPiecesWrongFalsely : Prop := fnExactJoinPiecesRow.holds Try.pinned (OpenSpec.ofChange fnExactJoinPiecesWrong)

/-- 'laws.FnExactMovePieces': WHATEVER THE INPUT: true; the input reads as it did. -/
def fnExactMovePiecesSpec : ChangeSpec := { name := "fnExactMovePieces", fn := fun _ => fun
  | [d1, d2, d3] => { results := [.lit (.bool true)], args := [d1, d2, d3] }
  | _ => none }
def fnExactMovePiecesRow : OpenClaim := { program := "ytgdcnlmhdbdijaa", sum := "d3ff5d738dd036a626bfb193ab92e7809f9ebee95a48f9b54935ae1034c08f11", func := "loop.example/graphcluster/laws.FnExactMovePieces", spec := "fnExactMovePieces", unfollowed := true, recurses := true, apart := false }
def FnExactMovePiecesSaid : Prop := fnExactMovePiecesRow.holds Try.pinned (OpenSpec.ofChange fnExactMovePiecesSpec)

/-- ITS FALSE NEIGHBOUR: 'it returns false'. Refute it at one input. -/
def fnExactMovePiecesWrong : ChangeSpec := { name := "fnExactMovePieces", fn := fun _ => fun
  | [d1, d2, d3] => { results := [.lit (.bool false)], args := [d1, d2, d3] }
  | _ => none }
def FnExactMovePiecesWrongFalsely : Prop := fnExactMovePiecesRow.holds Try.pinned (OpenSpec.ofChange fnExactMovePiecesWrong)

/-- 'laws.FnPiecesValid': WHATEVER THE INPUT: true; the input reads as it did. -/
def fnPiecesValidSpec : ChangeSpec := { name := "fnPiecesValid", fn := fun _ => fun
  | [d] => { results := [.lit (.bool true)], args := [d] }
  | _ => none }
def fnPiecesValidRow : OpenClaim := { program := "ytgdcnlmhdbdijaa", sum := "d3ff5d738dd036a626bfb193ab92e7809f9ebee95a48f9b54935ae1034c08f11", func := "loop.example/graphcluster/laws.FnPiecesValid", spec := "fnPiecesValid", unfollowed := true, recurses := true, apart := false }
def FnPiecesValidSaid : Prop := fnPiecesValidRow.holds Try.pinned (OpenSpec.ofChange fnPiecesValidSpec)

/-- ITS FALSE NEIGHBOUR: 'it returns false'. Refute it at one input. -/
def fnPiecesValidWrong : ChangeSpec := { name := "fnPiecesValid", fn := fun _ => fun
  | [d] => { results := [.lit (.bool false)], args := [d] }
  | _ => none }
def FnPiecesValidWrongFalsely : Prop := fnPiecesValidRow.holds Try.pinned (OpenSpec.ofChange fnPiecesValidWrong)

/- THE SECOND FORM. 'bulk': how many values and letters a reading holds, each counted each time it is reached (what is shared counts as often as it is met; a slice's spare places count too). A statement '..UptoSaid' is the law's where the arguments, and the package variables that the reading takes, are together of bulk at most 1048576: NARROWER than '..Said'. Prove '..Said' where nothing that the law and all that it calls make is longer than what came in: it says more and counts as full. Else prove '..UptoSaid'. A law counts once. -/
mutual
def uptoBulk {H : Type} : DataW H → Nat
  | .lit (.string bytes) => bytes.length + 1
  | .lit _ => 1
  | .nil => 1
  | .ptr d => uptoBulk d + 1
  | .slice elems spare => uptoBulkAll elems + uptoBulkAll spare + 1
  | .agg parts => uptoBulkAll parts + 1
  | .iface _ d => uptoBulk d + 1
  | .map entries => uptoBulkEntries entries + 1
  | .held _ => 1
def uptoBulkAll {H : Type} : List (DataW H) → Nat
  | [] => 0
  | d :: r => uptoBulk d + uptoBulkAll r
def uptoBulkEntries {H : Type} : List (Lit × DataW H) → Nat
  | [] => 0
  | x :: r => uptoBulkEntry x + uptoBulkEntries r
def uptoBulkEntry {H : Type} : Lit × DataW H → Nat
  | (.string bytes, d) => bytes.length + uptoBulk d + 1
  | (_, d) => uptoBulk d + 1
 end
def uptoSmall : (H : Type) → List (DataW H) → Bool := fun _ ds => decide (uptoBulkAll ds ≤ 1048576)
def OpenSpec.upto (s : _root_.Go.ChangeSpec) : _root_.Go.OpenSpec := { _root_.Go.OpenSpec.ofChange s with cond := some uptoSmall }

/-- 'laws.FnStaleCount', WHERE WHAT IT READS IS OF BULK AT MOST 1048576: true; the input reads as it did. -/
def fnStaleCountUptoRow : OpenClaim := { program := "ytgdcnlmhdbdijaa", sum := "d3ff5d738dd036a626bfb193ab92e7809f9ebee95a48f9b54935ae1034c08f11", func := "loop.example/graphcluster/laws.FnStaleCount", spec := "fnStaleCount", unfollowed := true, recurses := true, apart := false, narrowed := true }
def FnStaleCountUptoSaid : Prop := fnStaleCountUptoRow.holds Try.pinned (OpenSpec.upto fnStaleCountSpec)

/-- 'laws.FnOpenLetters', WHERE WHAT IT READS IS OF BULK AT MOST 1048576: true; the input reads as it did. -/
def fnOpenLettersUptoRow : OpenClaim := { program := "ytgdcnlmhdbdijaa", sum := "d3ff5d738dd036a626bfb193ab92e7809f9ebee95a48f9b54935ae1034c08f11", func := "loop.example/graphcluster/laws.FnOpenLetters", spec := "fnOpenLetters", unfollowed := true, recurses := true, apart := false, narrowed := true }
def FnOpenLettersUptoSaid : Prop := fnOpenLettersUptoRow.holds Try.pinned (OpenSpec.upto fnOpenLettersSpec)

/-- 'laws.FnStaleLetters', WHERE WHAT IT READS IS OF BULK AT MOST 1048576: true; the input reads as it did. -/
def fnStaleLettersUptoRow : OpenClaim := { program := "ytgdcnlmhdbdijaa", sum := "d3ff5d738dd036a626bfb193ab92e7809f9ebee95a48f9b54935ae1034c08f11", func := "loop.example/graphcluster/laws.FnStaleLetters", spec := "fnStaleLetters", unfollowed := true, recurses := true, apart := false, narrowed := true }
def FnStaleLettersUptoSaid : Prop := fnStaleLettersUptoRow.holds Try.pinned (OpenSpec.upto fnStaleLettersSpec)

/-- 'laws.FnStampMessages', WHERE WHAT IT READS IS OF BULK AT MOST 1048576: true; the input reads as it did. -/
def fnStampMessagesUptoRow : OpenClaim := { program := "ytgdcnlmhdbdijaa", sum := "d3ff5d738dd036a626bfb193ab92e7809f9ebee95a48f9b54935ae1034c08f11", func := "loop.example/graphcluster/laws.FnStampMessages", spec := "fnStampMessages", unfollowed := true, recurses := true, apart := false, narrowed := true }
def FnStampMessagesUptoSaid : Prop := fnStampMessagesUptoRow.holds Try.pinned (OpenSpec.upto fnStampMessagesSpec)

/-- 'laws.FnExactCombineMessages', WHERE WHAT IT READS IS OF BULK AT MOST 1048576: true; the input reads as it did. -/
def fnExactCombineMessagesUptoRow : OpenClaim := { program := "ytgdcnlmhdbdijaa", sum := "d3ff5d738dd036a626bfb193ab92e7809f9ebee95a48f9b54935ae1034c08f11", func := "loop.example/graphcluster/laws.FnExactCombineMessages", spec := "fnExactCombineMessages", unfollowed := true, recurses := true, apart := false, narrowed := true }
def FnExactCombineMessagesUptoSaid : Prop := fnExactCombineMessagesUptoRow.holds Try.pinned (OpenSpec.upto fnExactCombineMessagesSpec)

/-- 'laws.FnExactOpenLetters', WHERE WHAT IT READS IS OF BULK AT MOST 1048576: true; the input reads as it did. -/
def fnExactOpenLettersUptoRow : OpenClaim := { program := "ytgdcnlmhdbdijaa", sum := "d3ff5d738dd036a626bfb193ab92e7809f9ebee95a48f9b54935ae1034c08f11", func := "loop.example/graphcluster/laws.FnExactOpenLetters", spec := "fnExactOpenLetters", unfollowed := true, recurses := true, apart := false, narrowed := true }
def FnExactOpenLettersUptoSaid : Prop := fnExactOpenLettersUptoRow.holds Try.pinned (OpenSpec.upto fnExactOpenLettersSpec)

/-- 'laws.FnCombineMessages', WHERE WHAT IT READS IS OF BULK AT MOST 1048576: true; the input reads as it did. -/
def fnCombineMessagesUptoRow : OpenClaim := { program := "ytgdcnlmhdbdijaa", sum := "d3ff5d738dd036a626bfb193ab92e7809f9ebee95a48f9b54935ae1034c08f11", func := "loop.example/graphcluster/laws.FnCombineMessages", spec := "fnCombineMessages", unfollowed := true, recurses := true, apart := false, narrowed := true }
def FnCombineMessagesUptoSaid : Prop := fnCombineMessagesUptoRow.holds Try.pinned (OpenSpec.upto fnCombineMessagesSpec)

/-- 'laws.FnExactCombineAtOwners', WHERE WHAT IT READS IS OF BULK AT MOST 1048576: true; the input reads as it did. -/
def fnExactCombineAtOwnersUptoRow : OpenClaim := { program := "ytgdcnlmhdbdijaa", sum := "d3ff5d738dd036a626bfb193ab92e7809f9ebee95a48f9b54935ae1034c08f11", func := "loop.example/graphcluster/laws.FnExactCombineAtOwners", spec := "fnExactCombineAtOwners", unfollowed := true, recurses := true, apart := false, narrowed := true }
def FnExactCombineAtOwnersUptoSaid : Prop := fnExactCombineAtOwnersUptoRow.holds Try.pinned (OpenSpec.upto fnExactCombineAtOwnersSpec)

/-- 'laws.FnCombineAtOwners', WHERE WHAT IT READS IS OF BULK AT MOST 1048576: true; the input reads as it did. -/
def fnCombineAtOwnersUptoRow : OpenClaim := { program := "ytgdcnlmhdbdijaa", sum := "d3ff5d738dd036a626bfb193ab92e7809f9ebee95a48f9b54935ae1034c08f11", func := "loop.example/graphcluster/laws.FnCombineAtOwners", spec := "fnCombineAtOwners", unfollowed := true, recurses := true, apart := false, narrowed := true }
def FnCombineAtOwnersUptoSaid : Prop := fnCombineAtOwnersUptoRow.holds Try.pinned (OpenSpec.upto fnCombineAtOwnersSpec)

/-- 'laws.FnExactJoinPieces', WHERE WHAT IT READS IS OF BULK AT MOST 1048576: true; the input reads as it did. -/
def fnExactJoinPiecesUptoRow : OpenClaim := { program := "ytgdcnlmhdbdijaa", sum := "d3ff5d738dd036a626bfb193ab92e7809f9ebee95a48f9b54935ae1034c08f11", func := "loop.example/graphcluster/laws.FnExactJoinPieces", spec := "fnExactJoinPieces", unfollowed := true, recurses := true, apart := false, narrowed := true }
def FnExactJoinPiecesUptoSaid : Prop := fnExactJoinPiecesUptoRow.holds Try.pinned (OpenSpec.upto fnExactJoinPiecesSpec)

/-- 'laws.FnExactMovePieces', WHERE WHAT IT READS IS OF BULK AT MOST 1048576: true; the input reads as it did. -/
def fnExactMovePiecesUptoRow : OpenClaim := { program := "ytgdcnlmhdbdijaa", sum := "d3ff5d738dd036a626bfb193ab92e7809f9ebee95a48f9b54935ae1034c08f11", func := "loop.example/graphcluster/laws.FnExactMovePieces", spec := "fnExactMovePieces", unfollowed := true, recurses := true, apart := false, narrowed := true }
def FnExactMovePiecesUptoSaid : Prop := fnExactMovePiecesUptoRow.holds Try.pinned (OpenSpec.upto fnExactMovePiecesSpec)

/-- 'laws.FnPiecesValid', WHERE WHAT IT READS IS OF BULK AT MOST 1048576: true; the input reads as it did. -/
def fnPiecesValidUptoRow : OpenClaim := { program := "ytgdcnlmhdbdijaa", sum := "d3ff5d738dd036a626bfb193ab92e7809f9ebee95a48f9b54935ae1034c08f11", func := "loop.example/graphcluster/laws.FnPiecesValid", spec := "fnPiecesValid", unfollowed := true, recurses := true, apart := false, narrowed := true }
def FnPiecesValidUptoSaid : Prop := fnPiecesValidUptoRow.holds Try.pinned (OpenSpec.upto fnPiecesValidSpec)

end Rows
end Go.Proofs.Ytgdcnlmhdbdijaa
