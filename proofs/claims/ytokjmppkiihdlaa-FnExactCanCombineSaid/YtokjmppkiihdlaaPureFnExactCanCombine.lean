/- The program's CanCombine returns what the reference's returns, for all arguments. No further condition. -/
import Derived.Test.YtokjmppkiihdlaaPFnExactCanCombinex
import Derived.Test.YtokjmppkiihdlaaL
set_option linter.unusedVariables false
set_option linter.unusedSimpArgs false
namespace Go.Proofs.Ytokjmppkiihdlaa.PFnExactCanCombine
open Go.RowKit Go.Proofs.YtokjmppkiihdlaaW.PrintWords Go.Proofs.YtokjmppkiihdlaaW.PrintLast Go.Proofs.YtokjmppkiihdlaaW.PrintMore
theorem l1In_f (a b c : Int) : spec_l1In.f a b c = some (decide (b ≤ a ∧ a ≤ c)) := by
  unfold spec_l1In.f
  by_cases h : b ≤ a
  · rw [if_pos h]; simp [h]
  · rw [if_neg h]; simp [h]

end Go.Proofs.Ytokjmppkiihdlaa.PFnExactCanCombine
namespace Go.Proofs.Ytokjmppkiihdlaa.Pure
open Go.RowKit Go.Proofs.Ytokjmppkiihdlaa.PFnExactCanCombine Go.Proofs.YtokjmppkiihdlaaW.PrintWords Go.Proofs.YtokjmppkiihdlaaW.PrintLast Go.Proofs.YtokjmppkiihdlaaW.PrintMore
theorem both (a b c : Int) : laws_FnExactCanCombine.f 2 a b c = some true := by
  simp only [laws_FnExactCanCombine.f, laws_toProgram.f, spec_CanCombine.f, spec_ProgramValid.f, spec_ProgramValid.j0, impl_CanCombine.f, impl_ProgramValid.f, impl_ProgramValid.j0, impl_ProgramValid.j1, spec_l1In.f, Option.bind_some, o_beq, o_dand, o_and, o_nand, o_or, o_ite, o_tf, o_ft, o_dne, decide_eq_true_eq, Option.some.injEq, not_true, false_and, imp_false]
  omega
theorem FnExactCanCombine (a b c : Int) {p : Prop} (_h : p) : ∃ k, laws_FnExactCanCombine.f k a b c = some true := ⟨2, both a b c⟩

end Go.Proofs.Ytokjmppkiihdlaa.Pure
