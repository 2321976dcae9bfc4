/- The program's TotalValid returns what the reference's returns, for all arguments. No further condition. -/
import Derived.Test.YtokjmppkiihdlaaPFnExactTotalValidx
import Derived.Test.YtokjmppkiihdlaaL
set_option linter.unusedVariables false
set_option linter.unusedSimpArgs false
namespace Go.Proofs.Ytokjmppkiihdlaa.PFnExactTotalValid
open Go.RowKit Go.Proofs.YtokjmppkiihdlaaW.PrintWords Go.Proofs.YtokjmppkiihdlaaW.PrintLast Go.Proofs.YtokjmppkiihdlaaW.PrintMore
theorem l1In_f (a b c : Int) : spec_l1In.f a b c = some (decide (b ≤ a ∧ a ≤ c)) := by
  unfold spec_l1In.f
  by_cases h : b ≤ a
  · rw [if_pos h]; simp [h]
  · rw [if_neg h]; simp [h]

end Go.Proofs.Ytokjmppkiihdlaa.PFnExactTotalValid
namespace Go.Proofs.Ytokjmppkiihdlaa.Pure
open Go.RowKit Go.Proofs.Ytokjmppkiihdlaa.PFnExactTotalValid Go.Proofs.YtokjmppkiihdlaaW.PrintWords Go.Proofs.YtokjmppkiihdlaaW.PrintLast Go.Proofs.YtokjmppkiihdlaaW.PrintMore
theorem both (a b c d : Int) : laws_FnExactTotalValid.f 1 a b c d = some true := by
  simp only [laws_FnExactTotalValid.f, laws_toTotal.f, spec_TotalValid.f, impl_TotalValid.f, impl_TotalValid.j0, spec_l1In.f, impl_noTotal.f, Option.bind_some, o_beq, o_dand, o_and, o_nand, o_or, o_ite, o_tf, o_ft, o_dne, decide_eq_true_eq, Option.some.injEq, not_true, false_and, imp_false]
  omega
theorem FnExactTotalValid (a b c d : Int) {p : Prop} (_h : p) : ∃ k, laws_FnExactTotalValid.f k a b c d = some true := ⟨1, both a b c d⟩

end Go.Proofs.Ytokjmppkiihdlaa.Pure
