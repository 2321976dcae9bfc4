/- Laid by a program of this session out of the translation: functions, their contracts, the row. Lean checks it. -/
import Derived.Test.YtloiafnoekpaoabRows
import Derived.Test.YtloiafnoekpaoabPFnExactPiecesValidx10
import Derived.Test.YtloiafnoekpaoabPureFnExactPiecesValid
import Derived.Test.YtloiafnoekpaoabR
import Derived.WalkKit
import Derived.ProofKit
import Derived.OpenShut
import Derived.ShutString
import Derived.ChangeOld
import Derived.Below
import Derived.SizedLaws
namespace Go.Proofs.Ytloiafnoekpaoab.fnExactPiecesValid
open Go.ChangeShapes Go.WideShapes Go.ChangeAt Go.RowKit Go.Proofs.Ytloiafnoekpaoab.PFnExactPiecesValid Go.Proofs.YtloiafnoekpaoabW.PrintWords Go.Proofs.YtloiafnoekpaoabW.PrintLast Go.Proofs.YtloiafnoekpaoabW.PrintMore
open Go.ChangeMaps (open_string shut_string)
set_option linter.unusedVariables false
theorem own : ownKnob Try.prog.godebug = none := by kernel_rfl
theorem laidOut : laidOutB Try.prog = true := by kernel_rfl
set_option maxRecDepth 100000 in
theorem lifted (os : Os) (started : os.Started) (H : Type) (enc : TypeId × Value → H) :
    ReturnsInHanded {} Try.checked os 10 .any (Rows.fnExactPiecesValidSpec.pre6 enc Try.prog Try.f10 Rows.fnExactPiecesValidRow.domain false) (Rows.fnExactPiecesValidSpec.post enc Try.prog Try.f10 false true false false) := by
  refine returnsInHanded_of_change_sized (C := Try.checked) own started (by kernel_rfl) Try.func10
    (ChangeSpec.witness6 (enc := enc) (C := Try.checked) false ⟨#[], #[.slice none 0 0, .int .i64 0], []⟩ 8 (by kernel_rfl) (by kernel_rfl) (by kernel_rfl) (by kernel_rfl)) ?_
  intro W base args ds gs before hval0 hW hcnd hsz0 _
  have hval : ∀ (j : Nat) t v, Try.f10.params[j]? = some t → args[j]? = some v → Value.okWide Try.prog W .any base t v := hval0
  have hW' := hW
  obtain ⟨p, q, hA0, hV, rfl, hfz, hnd⟩ := hW
  have hA : DataW.TrodAll enc Try.prog W 0 (fun _ => true) true Try.f10.params.toList args.toList ds p := hA0
  rw [Try.params10] at hA hval
  obtain ⟨v0, vs0, d0, ds0, p0, q0, hargs, rfl, rfl, h0, r0⟩ := trodAll_cons hA
  obtain ⟨v1, vs1, d1, ds1, p1, q1, rfl, rfl, rfl, h1, r1⟩ := trodAll_cons r0
  obtain ⟨rfl, rfl, rfl⟩ := trodAll_nil r1
  obtain rfl : args = #[v0, v1] := by cases args; simp_all
  obtain ⟨rfl, rfl⟩ := trodVars_none hV
  have reads0 := (Reads.slice Try.underlying67 (by kernel_rfl) (Reads.iso (fun x : S117 => (x.f0, x.f1, x.f2, x.f3, x.f4)) (fun p => ⟨p.1, p.2.1, p.2.2.1, p.2.2.2.1, p.2.2.2.2⟩) (fun _ => rfl) (Reads.struct Try.underlying117 (by kernel_rfl) (ReadsFs.cons rfl (by kernel_rfl) (Reads.int Try.underlying3) (ReadsFs.cons rfl (by kernel_rfl) (Reads.slice Try.underlying22 (by kernel_rfl) (Reads.int Try.underlying3)) (ReadsFs.cons rfl (by kernel_rfl) (Reads.slice Try.underlying22 (by kernel_rfl) (Reads.int Try.underlying3)) (ReadsFs.cons rfl (by kernel_rfl) (Reads.slice Try.underlying55 (by kernel_rfl) (Reads.bool Try.underlying4)) (ReadsFs.one rfl (by kernel_rfl) (Reads.slice Try.underlying56 (by kernel_rfl) (Reads.iso (fun x : S157 => (x.f0, x.f1, x.f2)) (fun p => ⟨p.1, p.2.1, p.2.2⟩) (fun _ => rfl) (Reads.struct Try.underlying157 (by kernel_rfl) (ReadsFs.cons rfl (by kernel_rfl) (Reads.int Try.underlying3) (ReadsFs.cons rfl (by kernel_rfl) (Reads.int Try.underlying3) (ReadsFs.one rfl (by kernel_rfl) (Reads.int Try.underlying3)))))))))))))))
  have k0 := h0
  have lt0 : ∀ x ∈ p0, x.block < W.heap.size := by obtain ⟨m, hm⟩ := k0; exact DataW.trod_lt m _ _ _ hm
  obtain ⟨a0, len0, cap0, rfl⟩ := okWide_slice Try.underlying67 (hval 0 67 v0 rfl rfl)
  obtain ⟨fuel0, hf0⟩ := h0
  obtain ⟨l0, ⟨A0, c0, e0, hc0, hr0⟩, w0⟩ := reads0 H enc W _ _ _ hf0
  obtain ⟨rfl, rfl, rfl⟩ : A0 = a0 ∧ len0 = l0.length ∧ c0 = cap0 := by simp [Value.cells] at e0; exact ⟨e0.1.symm, e0.2.1, e0.2.2.symm⟩
  obtain ⟨a1, rfl, rfl, rfl, w1⟩ := open_int Try.underlying3 (hval 1 3 v1 rfl rfl) h1
  clear hA0 hval0 hsz0
  obtain ⟨k, h⟩ := Pure.FnExactPiecesValid l0 a1 w0 w1
  refine (laws_FnExactPiecesValid.calls k A0 c0 l0 a1 true W hr0 hc0 h).mono fun e W' ⟨he, bel0⟩ => ?_
  have bel : Below W.heap.size W W' := bel0
  subst he
  exact ⟨_, rfl, _, _, _, [], _, [], hW', trodAll_mk1 (shut_bool Try.underlying4 _), (trodAll_cons_mk (Below.trod laidOut (by kernel_rfl) (of_decide_eq_true (by kernel_rfl)) k0 bel lt0) (trodAll_cons_mk (shut_int Try.underlying3 w1) trodAll_mk0)), rfl, bel.frame _, fun h => by cases h⟩
theorem and_intro_ {a b : Bool} (ha : a = true) (hb : b = true) : (a && b) = true := by rw [ha, hb]; rfl
set_option maxHeartbeats 8000000 in
theorem joined : joinedFacts Try.pinned.checked.prog 10 Try.f10 Rows.fnExactPiecesValidSpec Rows.fnExactPiecesValidRow = true := by
  unfold joinedFacts
  repeat' (with_reducible refine and_intro_ ?_ ?_)
  all_goals as_aux_lemma => kernel_rfl
theorem over : Rows.fnExactPiecesValidRow.holds Try.pinned (OpenSpec.ofChange Rows.fnExactPiecesValidSpec) :=
  OpenClaim.holds_of_wide 10 Try.f10 rfl rfl rfl rfl rfl rfl rfl ⟨rfl, rfl, rfl, rfl, rfl⟩ rfl rfl rfl rfl rfl (by kernel_rfl) Try.func10 joined
    (of_decide_eq_true (by kernel_rfl)) (by unfold Func.isWrapper; first | (rw [if_pos (by decide +kernel)]; kernel_rfl) | (rw [if_neg (by decide +kernel)]; exact ⟨rfl, rfl⟩))
    (fun os started H enc _ => lifted os started H enc)
theorem proved : Rows.FnExactPiecesValidSaid := over
end Go.Proofs.Ytloiafnoekpaoab.fnExactPiecesValid
namespace Go.Proofs.Ytloiafnoekpaoab
/-- The row, under a short name, for the claim. -/
theorem fnExactPiecesValid_holds : Rows.FnExactPiecesValidSaid := fnExactPiecesValid.proved
end Go.Proofs.Ytloiafnoekpaoab
