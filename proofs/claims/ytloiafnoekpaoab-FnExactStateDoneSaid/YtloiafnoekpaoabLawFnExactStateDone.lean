/- Laid by a program of this session out of the translation: functions, their contracts, the row. Lean checks it. -/
import Derived.Test.YtloiafnoekpaoabRows
import Derived.Test.YtloiafnoekpaoabPFnExactStateDonex7
import Derived.Test.YtloiafnoekpaoabPureFnExactStateDone
import Derived.Test.YtloiafnoekpaoabR
import Derived.WalkKit
import Derived.ProofKit
import Derived.OpenShut
import Derived.ShutString
import Derived.ChangeOld
import Derived.Below
import Derived.SizedLaws
namespace Go.Proofs.Ytloiafnoekpaoab.fnExactStateDone
open Go.ChangeShapes Go.WideShapes Go.ChangeAt Go.RowKit Go.Proofs.Ytloiafnoekpaoab.PFnExactStateDone Go.Proofs.YtloiafnoekpaoabW.PrintWords Go.Proofs.YtloiafnoekpaoabW.PrintLast Go.Proofs.YtloiafnoekpaoabW.PrintMore
open Go.ChangeMaps (open_string shut_string)
set_option linter.unusedVariables false
theorem own : ownKnob Try.prog.godebug = none := by kernel_rfl
theorem laidOut : laidOutB Try.prog = true := by kernel_rfl
set_option maxRecDepth 100000 in
theorem lifted (os : Os) (started : os.Started) (H : Type) (enc : TypeId × Value → H) :
    ReturnsInHanded {} Try.checked os 9 .any (Rows.fnExactStateDoneSpec.pre6 enc Try.prog Try.f9 Rows.fnExactStateDoneRow.domain false) (Rows.fnExactStateDoneSpec.post enc Try.prog Try.f9 false true false false) := by
  refine returnsInHanded_of_change_sized (C := Try.checked) own started (by kernel_rfl) Try.func9
    (ChangeSpec.witness6 (enc := enc) (C := Try.checked) false ⟨#[], #[.agg #[.int .i64 0, .slice none 0 0, .slice none 0 0, .slice none 0 0]], []⟩ 8 (by kernel_rfl) (by kernel_rfl) (by kernel_rfl) (by kernel_rfl)) ?_
  intro W base args ds gs before hval0 hW hcnd hsz0 _
  have hval : ∀ (j : Nat) t v, Try.f9.params[j]? = some t → args[j]? = some v → Value.okWide Try.prog W .any base t v := hval0
  have hW' := hW
  obtain ⟨p, q, hA0, hV, rfl, hfz, hnd⟩ := hW
  have hA : DataW.TrodAll enc Try.prog W 0 (fun _ => true) true Try.f9.params.toList args.toList ds p := hA0
  rw [Try.params9] at hA hval
  obtain ⟨v0, vs0, d0, ds0, p0, q0, hargs, rfl, rfl, h0, r0⟩ := trodAll_cons hA
  obtain ⟨rfl, rfl, rfl⟩ := trodAll_nil r0
  obtain rfl : args = #[v0] := by cases args; simp_all
  obtain ⟨rfl, rfl⟩ := trodVars_none hV
  have reads0 := (Reads.struct Try.underlying58 (by kernel_rfl) (ReadsFs.cons rfl (by kernel_rfl) (Reads.int Try.underlying3) (ReadsFs.cons rfl (by kernel_rfl) (Reads.slice Try.underlying22 (by kernel_rfl) (Reads.int Try.underlying3)) (ReadsFs.cons rfl (by kernel_rfl) (Reads.slice Try.underlying55 (by kernel_rfl) (Reads.bool Try.underlying4)) (ReadsFs.one rfl (by kernel_rfl) (Reads.slice Try.underlying56 (by kernel_rfl) (Reads.iso (fun x : S157 => (x.f0, x.f1, x.f2)) (fun p => ⟨p.1, p.2.1, p.2.2⟩) (fun _ => rfl) (Reads.struct Try.underlying157 (by kernel_rfl) (ReadsFs.cons rfl (by kernel_rfl) (Reads.int Try.underlying3) (ReadsFs.cons rfl (by kernel_rfl) (Reads.int Try.underlying3) (ReadsFs.one rfl (by kernel_rfl) (Reads.int Try.underlying3))))))))))))
  have k0 := h0
  have lt0 : ∀ x ∈ p0, x.block < W.heap.size := by obtain ⟨m, hm⟩ := k0; exact DataW.trod_lt m _ _ _ hm
  obtain ⟨cs0, rfl, _⟩ := okWide_struct Try.underlying58 (hval 0 58 v0 rfl rfl)
  obtain ⟨fuel0, hf0⟩ := h0
  obtain ⟨x0, hK0, w0⟩ := reads0 H enc W _ _ _ hf0
  obtain ⟨_, _, e0, rfl, ⟨_, _, rfl, ⟨A0_1, c0_1, rfl, hc0_1, hr0_1⟩, ⟨_, _, rfl, ⟨A0_2, c0_2, rfl, hc0_2, hr0_2⟩, ⟨A0_3, c0_3, rfl, hc0_3, hr0_3⟩⟩⟩⟩ := hK0
  obtain rfl : cs0 = #[.int .i64 x0.1, .slice A0_1 x0.2.1.length c0_1, .slice A0_2 x0.2.2.1.length c0_2, .slice A0_3 x0.2.2.2.length c0_3] := by apply Array.toList_inj.1; simpa [Value.cells] using e0
  clear hA0 hval0 hsz0
  obtain ⟨k, h⟩ := Pure.FnExactStateDone (x0.1) (x0.2.1) (x0.2.2.1) (x0.2.2.2) w0
  refine (laws_FnExactStateDone.calls k (x0.1) A0_1 c0_1 x0.2.1 A0_2 c0_2 x0.2.2.1 A0_3 c0_3 x0.2.2.2 true W hr0_1 hc0_1 hr0_2 hc0_2 hr0_3 hc0_3 h).mono fun e W' ⟨he, bel0⟩ => ?_
  have bel : Below W.heap.size W W' := bel0
  subst he
  exact ⟨_, rfl, _, _, _, [], _, [], hW', trodAll_mk1 (shut_bool Try.underlying4 _), (trodAll_cons_mk (Below.trod laidOut (by kernel_rfl) (of_decide_eq_true (by kernel_rfl)) k0 bel lt0) trodAll_mk0), rfl, bel.frame _, fun h => by cases h⟩
theorem and_intro_ {a b : Bool} (ha : a = true) (hb : b = true) : (a && b) = true := by rw [ha, hb]; rfl
set_option maxHeartbeats 8000000 in
theorem joined : joinedFacts Try.pinned.checked.prog 9 Try.f9 Rows.fnExactStateDoneSpec Rows.fnExactStateDoneRow = true := by
  unfold joinedFacts
  repeat' (with_reducible refine and_intro_ ?_ ?_)
  all_goals as_aux_lemma => kernel_rfl
theorem over : Rows.fnExactStateDoneRow.holds Try.pinned (OpenSpec.ofChange Rows.fnExactStateDoneSpec) :=
  OpenClaim.holds_of_wide 9 Try.f9 rfl rfl rfl rfl rfl rfl rfl ⟨rfl, rfl, rfl, rfl, rfl⟩ rfl rfl rfl rfl rfl (by kernel_rfl) Try.func9 joined
    (of_decide_eq_true (by kernel_rfl)) (by unfold Func.isWrapper; first | (rw [if_pos (by decide +kernel)]; kernel_rfl) | (rw [if_neg (by decide +kernel)]; exact ⟨rfl, rfl⟩))
    (fun os started H enc _ => lifted os started H enc)
theorem proved : Rows.FnExactStateDoneSaid := over
end Go.Proofs.Ytloiafnoekpaoab.fnExactStateDone
namespace Go.Proofs.Ytloiafnoekpaoab
/-- The row, under a short name, for the claim. -/
theorem fnExactStateDone_holds : Rows.FnExactStateDoneSaid := fnExactStateDone.proved
end Go.Proofs.Ytloiafnoekpaoab
