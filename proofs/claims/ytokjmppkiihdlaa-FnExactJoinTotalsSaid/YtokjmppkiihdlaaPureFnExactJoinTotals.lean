/- The program's JoinTotals returns what the reference's returns, for all arguments. No further condition. -/
import Derived.Test.YtokjmppkiihdlaaPFnExactJoinTotalsx
import Derived.Test.YtokjmppkiihdlaaL
set_option linter.unusedVariables false
set_option linter.unusedSimpArgs false
namespace Go.Proofs.Ytokjmppkiihdlaa.PFnExactJoinTotals
open Go.RowKit Go.Proofs.YtokjmppkiihdlaaW.PrintWords Go.Proofs.YtokjmppkiihdlaaW.PrintLast Go.Proofs.YtokjmppkiihdlaaW.PrintMore
theorem l1In_f (a b c : Int) : spec_l1In.f a b c = some (decide (b ≤ a ∧ a ≤ c)) := by
  unfold spec_l1In.f
  by_cases h : b ≤ a
  · rw [if_pos h]; simp [h]
  · rw [if_neg h]; simp [h]

end Go.Proofs.Ytokjmppkiihdlaa.PFnExactJoinTotals
namespace Go.Proofs.Ytokjmppkiihdlaa.Pure
open Go.RowKit Go.Proofs.Ytokjmppkiihdlaa.PFnExactJoinTotals Go.Proofs.YtokjmppkiihdlaaW.PrintWords Go.Proofs.YtokjmppkiihdlaaW.PrintLast Go.Proofs.YtokjmppkiihdlaaW.PrintMore
def V (a b c d : Int) : Prop := a = 0 ∧ b = 0 ∧ c = -1 ∧ d = -1 ∨ 1 ≤ a ∧ a ≤ 16 ∧ 0 ≤ d ∧ d ≤ 999999 ∧ 0 ≤ c ∧ c ≤ d ∧ wrap64 (a * c) ≤ b ∧ b ≤ wrap64 (a * d)
instance (a b c d : Int) : Decidable (V a b c d) := by unfold V; infer_instance
theorem iV (k : Nat) (a b c d : Int) : impl_TotalValid.f (k + 1) a b c d = some (decide (V a b c d)) := by
  simp only [V, impl_TotalValid.f, impl_TotalValid.j0, impl_noTotal.f, Option.bind_some, o_beq, o_dand, o_and, o_nand, o_or, o_ite, o_tf, o_ft, decide_eq_true_eq, not_true, false_and, imp_false]
  refine congrArg some (decide_eq_decide.2 ?_)
  omega
theorem sV (a b c d : Int) : spec_TotalValid.f a b c d = some (decide (V a b c d)) := by
  simp only [V, spec_TotalValid.f, spec_l1In.f, Option.bind_some, o_beq, o_dand, o_and, o_nand, o_or, o_ite, o_tf, o_ft, decide_eq_true_eq, not_true, false_and, imp_false]
  refine congrArg some (decide_eq_decide.2 ?_)
  omega
theorem V_known {a b c d : Int} (h : V a b c d) : (a = 0 ∧ b = 0 ∧ c = -1 ∧ d = -1) ∨ (1 ≤ a ∧ a ≤ 16 ∧ 0 ≤ d ∧ 0 ≤ c ∧ c ≤ d ∧ -9223372036854775808 ≤ b ∧ b ≤ 9223372036854775807) := by
  unfold V wrap64 at h
  omega
theorem join_eq (k : Nat) (a b c d a' b' c' d' : Int) : spec_JoinTotals.f (k + 2) a b c d a' b' c' d' = impl_JoinTotals.f (k + 2) a b c d a' b' c' d' := by
  simp only [spec_JoinTotals.f, spec_JoinTotals.j0, spec_JoinTotals.j1, impl_JoinTotals.f, impl_JoinTotals.j0, impl_Total_joined.f, sV, iV, Option.bind_some]
  by_cases va : V a b c d
  · by_cases vb : V a' b' c' d'
    · have ha := V_known va
      have hb := V_known vb
      simp only [va, vb, decide_true, if_true, Bool.not_true, Bool.false_eq_true, if_false]
      by_cases h0 : a = 0
      · have e1 : wrap64 (a + a') = a' := by unfold wrap64; omega
        have e2 : wrap64 (b + b') = b' := by unfold wrap64; omega
        have e3 : mx c c' = c' := by unfold mx; split <;> omega
        have e4 : mx d d' = d' := by unfold mx; split <;> omega
        subst h0
        simp only [if_true, Option.bind_some, iV]
        simp only [e1, e2, e3, e4]
      · by_cases h1 : a' = 0
        · have e1 : wrap64 (a + a') = a := by unfold wrap64; omega
          have e2 : wrap64 (b + b') = b := by unfold wrap64; omega
          have e3 : mx c c' = c := by unfold mx; split <;> omega
          have e4 : mx d d' = d := by unfold mx; split <;> omega
          subst h1
          simp only [h0, if_true, if_false, Option.bind_some, iV, e1, e2, e3, e4, beq_self_eq_true]
        · have e : (a' == 0) = false := by simp [h1]
          simp only [h0, h1, if_false, Option.bind_some, iV, e, Bool.false_eq_true]
    · simp [va, vb]
  · simp [va]
theorem both (a b c d a' b' c' d' : Int) : laws_FnExactJoinTotals.f 2 a b c d a' b' c' d' = some true := by
  simp only [laws_FnExactJoinTotals.f, laws_toTotal.f, Option.bind_some, join_eq 0]
  have h : ∃ r, impl_JoinTotals.f 2 a b c d a' b' c' d' = some r := by
    simp only [impl_JoinTotals.f, impl_JoinTotals.j0, impl_Total_joined.f, iV, Option.bind_some]
    repeat' split
    all_goals first | exact ⟨_, rfl⟩ | skip
    all_goals (simp only [Option.bind_some, iV]; split <;> exact ⟨_, rfl⟩)
  obtain ⟨r, hr⟩ := h
  rw [hr]
  simp [laws_eqTotal.f]
theorem FnExactJoinTotals (a b c d a' b' c' d' : Int) {p q : Prop} (_h : p) (_h' : q) : ∃ k, laws_FnExactJoinTotals.f k a b c d a' b' c' d' = some true := ⟨2, both a b c d a' b' c' d'⟩

end Go.Proofs.Ytokjmppkiihdlaa.Pure
