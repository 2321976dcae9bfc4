/- Laid by a program of this session out of the translation: functions, their contracts, the row. Lean checks it. -/
import Derived.Test.YtgdcnlmhdbdijaaRows
import Derived.Test.YtgdcnlmhdbdijaaPFnExactCombineMessagesx9
import Derived.Test.YtgdcnlmhdbdijaaPureFnExactCombineMessages
import Derived.Test.YtgdcnlmhdbdijaaR
import Derived.WalkKit
import Derived.ProofKit
import Derived.OpenShut
import Derived.ShutString
import Derived.ChangeOld
import Derived.Below
import Derived.SizedLaws
namespace Go.Proofs.Ytgdcnlmhdbdijaa.fnExactCombineMessages
open Go.ChangeShapes Go.WideShapes Go.ChangeAt Go.RowKit Go.Proofs.Ytgdcnlmhdbdijaa.PFnExactCombineMessages Go.Proofs.YtgdcnlmhdbdijaaW.PrintWords Go.Proofs.YtgdcnlmhdbdijaaW.PrintLast Go.Proofs.YtgdcnlmhdbdijaaW.PrintMore
open Go.ChangeMaps (open_string shut_string)
set_option linter.unusedVariables false
theorem own : ownKnob Try.prog.godebug = none := by kernel_rfl
theorem laidOut : laidOutB Try.prog = true := by kernel_rfl
set_option maxRecDepth 100000 in
theorem lifted (os : Os) (started : os.Started) (H : Type) (enc : TypeId × Value → H) :
    ReturnsInHanded {} Try.checked os 7 .any (Rows.fnExactCombineMessagesSpec.pre6 enc Try.prog Try.f7 Rows.fnExactCombineMessagesRow.domain false) (Rows.fnExactCombineMessagesSpec.post enc Try.prog Try.f7 false true false false) := by
  refine returnsInHanded_of_change_sized (C := Try.checked) own started (by kernel_rfl) Try.func7
    (ChangeSpec.witness6 (enc := enc) (C := Try.checked) false ⟨#[], #[.agg #[.int .i64 0, .int .i64 0, .int .i64 0], .slice none 0 0], []⟩ 8 (by kernel_rfl) (by kernel_rfl) (by kernel_rfl) (by kernel_rfl)) ?_
  intro W base args ds gs before hval0 hW hcnd hsz0 _
  have hval : ∀ (j : Nat) t v, Try.f7.params[j]? = some t → args[j]? = some v → Value.okWide Try.prog W .any base t v := hval0
  have hW' := hW
  obtain ⟨p, q, hA0, hV, rfl, hfz, hnd⟩ := hW
  have hA : DataW.TrodAll enc Try.prog W 0 (fun _ => true) true Try.f7.params.toList args.toList ds p := hA0
  rw [Try.params7] at hA hval
  obtain ⟨v0, vs0, d0, ds0, p0, q0, hargs, rfl, rfl, h0, r0⟩ := trodAll_cons hA
  obtain ⟨v1, vs1, d1, ds1, p1, q1, rfl, rfl, rfl, h1, r1⟩ := trodAll_cons r0
  obtain ⟨rfl, rfl, rfl⟩ := trodAll_nil r1
  obtain rfl : args = #[v0, v1] := by cases args; simp_all
  obtain ⟨rfl, rfl⟩ := trodVars_none hV
  have reads0 := (Reads.struct Try.underlying43 (by kernel_rfl) (ReadsFs.cons rfl (by kernel_rfl) (Reads.int Try.underlying3) (ReadsFs.cons rfl (by kernel_rfl) (Reads.int Try.underlying3) (ReadsFs.one rfl (by kernel_rfl) (Reads.int Try.underlying3)))))
  have k0 := h0
  have lt0 : ∀ x ∈ p0, x.block < W.heap.size := by obtain ⟨m, hm⟩ := k0; exact DataW.trod_lt m _ _ _ hm
  obtain ⟨cs0, rfl, _⟩ := okWide_struct Try.underlying43 (hval 0 43 v0 rfl rfl)
  obtain ⟨fuel0, hf0⟩ := h0
  obtain ⟨x0, hK0, w0⟩ := reads0 H enc W _ _ _ hf0
  obtain ⟨_, _, e0, rfl, ⟨_, _, rfl, rfl, rfl⟩⟩ := hK0
  obtain rfl : cs0 = #[.int .i64 x0.1, .int .i64 x0.2.1, .int .i64 x0.2.2] := by apply Array.toList_inj.1; simpa [Value.cells] using e0
  have reads1 := (Reads.slice Try.underlying44 (by kernel_rfl) (Reads.iso (fun x : S95 => (x.f0, x.f1, x.f2)) (fun p => ⟨p.1, p.2.1, p.2.2⟩) (fun _ => rfl) (Reads.struct Try.underlying95 (by kernel_rfl) (ReadsFs.cons rfl (by kernel_rfl) (Reads.int Try.underlying3) (ReadsFs.cons rfl (by kernel_rfl) (Reads.int Try.underlying3) (ReadsFs.one rfl (by kernel_rfl) (Reads.int Try.underlying3)))))))
  have k1 := h1
  have lt1 : ∀ x ∈ p1, x.block < W.heap.size := by obtain ⟨m, hm⟩ := k1; exact DataW.trod_lt m _ _ _ hm
  obtain ⟨a1, len1, cap1, rfl⟩ := okWide_slice Try.underlying44 (hval 1 44 v1 rfl rfl)
  obtain ⟨fuel1, hf1⟩ := h1
  obtain ⟨l1, ⟨A1, c1, e1, hc1, hr1⟩, w1⟩ := reads1 H enc W _ _ _ hf1
  obtain ⟨rfl, rfl, rfl⟩ : A1 = a1 ∧ len1 = l1.length ∧ c1 = cap1 := by simp [Value.cells] at e1; exact ⟨e1.1.symm, e1.2.1, e1.2.2.symm⟩
  clear hA0 hval0 hsz0
  obtain ⟨k, h⟩ := Pure.FnExactCombineMessages (x0.1) (x0.2.1) (x0.2.2) l1 w0 w1
  refine (laws_FnExactCombineMessages.calls k (x0.1) (x0.2.1) (x0.2.2) A1 c1 l1 true W hr1 hc1 h).mono fun e W' ⟨he, bel0⟩ => ?_
  have bel : Below W.heap.size W W' := bel0
  subst he
  exact ⟨_, rfl, _, _, _, [], _, [], hW', trodAll_mk1 (shut_bool Try.underlying4 _), (trodAll_cons_mk (Below.trod laidOut (by kernel_rfl) (of_decide_eq_true (by kernel_rfl)) k0 bel lt0) (trodAll_cons_mk (Below.trod laidOut (by kernel_rfl) (of_decide_eq_true (by kernel_rfl)) k1 bel lt1) trodAll_mk0)), rfl, bel.frame _, fun h => by cases h⟩
theorem and_intro_ {a b : Bool} (ha : a = true) (hb : b = true) : (a && b) = true := by rw [ha, hb]; rfl
set_option maxHeartbeats 8000000 in
theorem joined : joinedFacts Try.pinned.checked.prog 7 Try.f7 Rows.fnExactCombineMessagesSpec Rows.fnExactCombineMessagesRow = true := by
  unfold joinedFacts
  repeat' (with_reducible refine and_intro_ ?_ ?_)
  all_goals as_aux_lemma => kernel_rfl
theorem over : Rows.fnExactCombineMessagesRow.holds Try.pinned (OpenSpec.ofChange Rows.fnExactCombineMessagesSpec) :=
  OpenClaim.holds_of_wide 7 Try.f7 rfl rfl rfl rfl rfl rfl rfl ⟨rfl, rfl, rfl, rfl, rfl⟩ rfl rfl rfl rfl rfl (by kernel_rfl) Try.func7 joined
    (of_decide_eq_true (by kernel_rfl)) (by unfold Func.isWrapper; first | (rw [if_pos (by decide +kernel)]; kernel_rfl) | (rw [if_neg (by decide +kernel)]; exact ⟨rfl, rfl⟩))
    (fun os started H enc _ => lifted os started H enc)
theorem proved : Rows.FnExactCombineMessagesSaid := over
end Go.Proofs.Ytgdcnlmhdbdijaa.fnExactCombineMessages
namespace Go.Proofs.Ytgdcnlmhdbdijaa
/-- The row, under a short name, for the claim. -/
theorem fnExactCombineMessages_holds : Rows.FnExactCombineMessagesSaid := fnExactCombineMessages.proved
end Go.Proofs.Ytgdcnlmhdbdijaa
