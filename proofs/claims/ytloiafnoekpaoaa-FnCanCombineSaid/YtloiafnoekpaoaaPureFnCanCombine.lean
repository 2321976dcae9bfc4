/- Some programs combine: only valid ones do. No further condition. -/
import Derived.Test.YtloiafnoekpaoaaPFnCanCombinex
import Derived.Test.YtloiafnoekpaoaaL
import Derived.Test.YtloiafnoekpaoaaT
set_option linter.unusedVariables false
set_option linter.unusedSimpArgs false
namespace Go.Proofs.Ytloiafnoekpaoaa.PFnCanCombine
open Go.RowKit Go.Proofs.YtloiafnoekpaoaaW.PrintWords Go.Proofs.YtloiafnoekpaoaaW.PrintLast Go.Proofs.YtloiafnoekpaoaaW.PrintMore
theorem alive_f {k : Nat} (hk : 2 < k) : laws_alive.f k = some true := by
  obtain ⟨k, rfl, hk⟩ := kk_pred hk
  obtain ⟨k, rfl, hk⟩ := kk_pred (show 1 < k by omega)
  simp [laws_alive.f, impl_CheckSum.f, impl_BytesValid.f, impl_BytesValid.l0, impl_CheckSum.l0]

theorem open_d {l : List Int} (hl : ∀ x ∈ l, (Lit.int .u8 x).wf = true) : Dw (spec_l20Open.f l) (fun r => Bytes r.1 ∧ r.2 = 0) := by
  have hb : ∀ x ∈ l, 0 ≤ x ∧ x ≤ 255 := fun x hx => by
    have := hl x hx
    simp [Lit.wf, IntKind.min, IntKind.max, IntKind.bits, IntKind.signed] at this
    omega
  unfold spec_l20Open.f
  refine Dw.ite (fun h => Dw.pos (by omega) (Dw.some ⟨⟨fun x hx => hb x (List.mem_of_mem_take hx), by simp; omega⟩, rfl⟩)) (fun h => Dw.some ⟨⟨hb, by show l.length ≤ 2000; omega⟩, rfl⟩)

theorem pick_d {b : List Int} (hb : Bytes b) {p : Int} (h0 : 0 ≤ p) (h1 : p ≤ 1000000000) (n : Int) {k : Nat} (hk : 0 < k) : Dw (spec_l20Rd_pick.f k b p n) (PickOk n p) := by
  obtain ⟨k, rfl, _⟩ := kk_pred hk
  have e1 : wrap64 (p + 1) = p + 1 := by unfold wrap64; omega
  have e2 : wrap64 (p + 1 - 1) = p := by unfold wrap64; omega
  have e3 : wrap64 (p * 7) = p * 7 := by unfold wrap64; omega
  have e4 : wrap64 (p * 7 + 3) = p * 7 + 3 := by unfold wrap64; omega
  have hj : ∀ c : Bool, (c = false → 1 ≤ n ∧ 0 < b.length) → Dw (spec_l20Rd_pick.j0 (k + 1) n c b (p + 1)) (PickOk n p) := by
    intro c hc
    simp only [spec_l20Rd_pick.j0, e2, e3, e4]
    refine Dw.ite (fun _ => Dw.some ⟨rfl, by omega, fun h => by omega⟩) (fun h => ?_)
    obtain ⟨hn, hl⟩ := hc (by simpa using h)
    refine Dw.ite (fun hlt => ?_) (fun hge => ?_)
    · refine Dw.pos h0 (Dw.neg (by omega) (Dw.some ⟨rfl, ?_, fun _ => ?_⟩))
      · have hr := rd_byte hb.1 p
        have : wrap64 (rd b p) = rd b p := by unfold wrap64; omega
        simp only [this]
        exact Int.tmod_nonneg _ hr.1
      · exact Int.tmod_lt_of_pos _ (by omega)
    · have hlp : (0 : Int) < (b.length : Int) := by omega
      refine Dw.neg (by omega) (Dw.pos (Int.tmod_nonneg _ h0) (Dw.pos (Int.tmod_lt_of_pos _ hlp) (Dw.pos (Int.tmod_nonneg _ (by omega)) (Dw.pos (Int.tmod_lt_of_pos _ hlp) (Dw.neg (by omega) (Dw.some ⟨rfl, ?_, fun _ => Int.tmod_lt_of_pos _ (by omega)⟩))))))
      have hx := rd_byte hb.1 (Int.tmod p b.length)
      have hy := rd_byte hb.1 (Int.tmod (p * 7 + 3) b.length)
      have hd0 : 0 ≤ Int.tdiv p b.length := Int.tdiv_nonneg h0 (by omega)
      have hd1 : Int.tdiv p b.length ≤ p := Int.tdiv_le_self _ h0
      refine Int.tmod_nonneg _ ?_
      generalize rd b (Int.tmod p b.length) = x at *
      generalize rd b (Int.tmod (p * 7 + 3) b.length) = y at *
      generalize Int.tdiv p b.length = d at *
      have w1 : wrap64 x = x := by unfold wrap64; omega
      have w2 : wrap64 y = y := by unfold wrap64; omega
      have w3 : wrap64 d = d := by unfold wrap64; omega
      have w4 : wrap64 (x * 131) = x * 131 := by unfold wrap64; omega
      have w5 : wrap64 (y * 1117) = y * 1117 := by unfold wrap64; omega
      have w6 : wrap64 (p * 29) = p * 29 := by unfold wrap64; omega
      have w7 : wrap64 (d * 53) = d * 53 := by unfold wrap64; omega
      have w8 : wrap64 (x * 131 + y * 1117) = x * 131 + y * 1117 := by unfold wrap64; omega
      have w9 : wrap64 (x * 131 + y * 1117 + p * 29) = x * 131 + y * 1117 + p * 29 := by unfold wrap64; omega
      have w10 : wrap64 (x * 131 + y * 1117 + p * 29 + d * 53) = x * 131 + y * 1117 + p * 29 + d * 53 := by unfold wrap64; omega
      simp only [w1, w2, w3, w4, w5, w6, w7, w8, w9, w10]
      generalize hz : x * 131 + y * 1117 + p * 29 + d * 53 = z
      have hz0 : 0 ≤ z := by omega
      have hz1 : z ≤ 1000000000000 := by omega
      have hd2 : 0 ≤ Int.tdiv z 64 := Int.tdiv_nonneg hz0 (by omega)
      have hd3 : Int.tdiv z 64 ≤ z := Int.tdiv_le_self _ hz0
      have w11 : wrap64 (Int.tdiv z 64) = Int.tdiv z 64 := by unfold wrap64; omega
      rw [w11]
      exact xor_i64 _ _ hz0 (by omega) hd2 (by omega)
  unfold spec_l20Rd_pick.f
  rw [e1]
  refine Dw.ite (fun _ => hj _ (by simp)) (fun h => hj _ (fun h2 => ⟨by omega, ?_⟩))
  have : ¬ (b.length : Int) = 0 := by simpa using h2
  omega

theorem odd_d {b : List Int} (hb : Bytes b) {p : Int} (h0 : 0 ≤ p) (h1 : p ≤ 1000000000) (n : Int) {k : Nat} (hk : 0 < k) : Dw (spec_l20Rd_odd.f k b p n) (fun r => p ≤ r.2 ∧ r.2 ≤ p + 1) := by
  unfold spec_l20Rd_odd.f
  refine Dw.ite (fun _ => (pick_d hb h0 h1 n hk).bind fun r ⟨h2, _, _⟩ => Dw.some ?_) (fun _ => Dw.some ?_)
  · simp only; omega
  · simp only; omega

theorem program2_d {b : List Int} (hb : Bytes b) (n : Int) {p : Int} (h0 : 0 ≤ p) (h1 : p ≤ 800000000) {k : Nat} (hk : 3 < k) (a c d : Int) : Dw (spec_l20Program.j2 k n b p a c d) (fun r => p ≤ r.2.2.2 ∧ r.2.2.2 ≤ p + 10) := by
  obtain ⟨k, rfl, hk⟩ := kk_pred hk
  simp only [spec_l20Program.j2]
  refine (odd_d hb h0 (by omega) n (by omega)).bind fun r1 ⟨a1, a2⟩ => Dw.ite (fun _ => (pick_d hb (by omega) (by omega) 3 (by omega)).bind fun r2 ⟨b1, b2, b3⟩ => ?_) (fun _ => Dw.some (by simp only; omega))
  refine Dw.ite (fun _ => ?_) (fun _ => Dw.ite (fun _ => ?_) (fun _ => ?_))
  all_goals exact (pick_d hb (by omega) (by omega) 2 (by omega)).bind fun r3 ⟨c1, c2, c3⟩ => Dw.pos c2 (Dw.pos (by simp only [List.length_cons, List.length_nil]; omega) (Dw.some (by simp only; omega)))
theorem program1_d {b : List Int} (hb : Bytes b) (n : Int) {p : Int} (h0 : 0 ≤ p) (h1 : p ≤ 700000000) {k : Nat} (hk : 5 < k) (q : Bool) (a c d : Int) : Dw (spec_l20Program.j1 k n q b p a c d) (fun r => p ≤ r.2.2.2 ∧ r.2.2.2 ≤ p + 20) := by
  obtain ⟨k, rfl, hk⟩ := kk_pred hk
  simp only [spec_l20Program.j1]
  refine Dw.ite (fun _ => (pick_d hb h0 (by omega) 6 (by omega)).bind fun r2 ⟨b1, b2, b3⟩ => ?_) (fun _ => (program2_d hb n h0 (by omega) (by omega) a c d).mono fun r h => by omega)
  simp only [Option.bind_some]
  refine (pick_d hb (by omega) (by omega) 3 (by omega)).bind fun r3 ⟨c1, c2, c3⟩ => Dw.pos c2 (Dw.pos (by simp only [List.length_cons, List.length_nil]; omega) ((program2_d hb n (by omega) (by omega) (by omega) _ _ _).mono fun r h => by omega))
theorem program0_d {b : List Int} (hb : Bytes b) (m n : Int) {p : Int} (h0 : 0 ≤ p) (h1 : p ≤ 600000000) {k : Nat} (hk : 7 < k) (z : Int) (q : Bool) (a c d : Int) : Dw (spec_l20Program.j0 k m n z q b p a c d) (fun r => p ≤ r.2.2.2 ∧ r.2.2.2 ≤ p + 30) := by
  obtain ⟨k, rfl, hk⟩ := kk_pred hk
  simp only [spec_l20Program.j0]
  refine Dw.ite (fun _ => (pick_d hb h0 (by omega) _ (by omega)).bind fun r2 ⟨b1, b2, b3⟩ => (program2_d hb n (by omega) (by omega) (by omega) _ _ _).mono fun r h => by omega) (fun _ => Dw.ite (fun _ => ?_) (fun _ => ?_))
  all_goals exact (program1_d hb n h0 (by omega) (by omega) _ _ _ _).mono fun r h => by omega
theorem program_d {b : List Int} (hb : Bytes b) (m n : Int) {p : Int} (h0 : 0 ≤ p) (h1 : p ≤ 500000000) {k : Nat} (hk : 9 < k) : Dw (spec_l20Program.f k b p m n) (fun r => p ≤ r.2.2.2 ∧ r.2.2.2 ≤ p + 40) := by
  unfold spec_l20Program.f
  refine (pick_d hb h0 (by omega) 6 (by omega)).bind fun r2 ⟨b1, b2, b3⟩ => Dw.ite (fun _ => ?_) (fun _ => ?_)
  all_goals exact (program0_d hb m n (by omega) (by omega) (by omega) _ _ _ _ _).mono fun r h => by omega

/-- What the program and the reference call a valid program. -/
def Vp (a b c : Int) : Prop := (a = 1 ∨ a = 2) ∧ 0 ≤ b ∧ b ≤ 15 ∧ c = 0 ∨ (a = 3 ∨ a = 5) ∧ b = 0 ∧ c = 0 ∨ (a = 4 ∨ a = 6) ∧ b = 0 ∧ 1 ≤ c ∧ c ≤ 20
instance (a b c : Int) : Decidable (Vp a b c) := by unfold Vp; infer_instance
theorem implProgram_f (a b c : Int) (k : Nat) (hk : 1 < k) : impl_ProgramValid.f k a b c = some (decide (Vp a b c)) := by
  obtain ⟨k, rfl, hk⟩ := kk_pred hk
  obtain ⟨k, rfl, hk⟩ := kk_pred (show 0 < k by omega)
  simp only [Vp, impl_ProgramValid.f, impl_ProgramValid.j0, impl_ProgramValid.j1, Option.bind_some, o_beq, o_dand, o_and, o_nand, o_or, o_ite, o_tf, o_ft, decide_eq_true_eq, not_true, false_and, imp_false]
  refine congrArg some (decide_eq_decide.2 ?_)
  omega

theorem l1In_f (a b c : Int) : spec_l1In.f a b c = some (decide (b ≤ a ∧ a ≤ c)) := by
  unfold spec_l1In.f
  by_cases h : b ≤ a
  · rw [if_pos h]; simp [h]
  · rw [if_neg h]; simp [h]

theorem specProgram_f (a b c : Int) (k : Nat) (hk : 1 < k) : spec_ProgramValid.f k a b c = some (decide ((a = 1 ∨ a = 2) ∧ 0 ≤ b ∧ b ≤ 15 ∧ c = 0 ∨ (a = 3 ∨ a = 5) ∧ b = 0 ∧ c = 0 ∨ (a = 4 ∨ a = 6) ∧ b = 0 ∧ 1 ≤ c ∧ c ≤ 20)) := by
  obtain ⟨k, rfl, hk⟩ := kk_pred hk
  simp only [spec_ProgramValid.f, spec_ProgramValid.j0, spec_l1In.f, Option.bind_some, o_beq, o_dand, o_and, o_nand, o_or, o_ite, o_tf, o_ft, decide_eq_true_eq, not_true, false_and, imp_false]
  refine congrArg some (decide_eq_decide.2 ?_)
  omega

end Go.Proofs.Ytloiafnoekpaoaa.PFnCanCombine
namespace Go.Proofs.Ytloiafnoekpaoaa.Pure
open Go.RowKit Go.Proofs.Ytloiafnoekpaoaa.PFnCanCombine Go.Proofs.YtloiafnoekpaoaaW.PrintWords Go.Proofs.YtloiafnoekpaoaaW.PrintLast Go.Proofs.YtloiafnoekpaoaaW.PrintMore
theorem implCan_f (a b c : Int) (k : Nat) (hk : 1 < k) : impl_CanCombine.f k a b c = some (decide (Vp a b c ∧ (a = 1 ∨ a = 2 ∨ a = 3))) := by
  simp only [impl_CanCombine.f, implProgram_f a b c k hk, Option.bind_some, o_beq, o_and, o_nand, o_or, o_ite, o_tf, o_ft, decide_eq_true_eq]
theorem specCan_f (a b c : Int) (k : Nat) (hk : 1 < k) : spec_CanCombine.f k a b c = some (decide (Vp a b c ∧ (a = 1 ∨ a = 2 ∨ a = 3))) := by
  simp only [spec_CanCombine.f, specProgram_f a b c k hk, spec_l1In.f, Option.bind_some, o_beq, o_and, o_nand, o_or, o_ite, o_tf, o_ft, decide_eq_true_eq]
  refine congrArg some (decide_eq_decide.2 ?_)
  unfold Vp
  omega
theorem FnCanCombine : laws_FnCanCombine.Pure := by
  intro l hl hl8 hw
  refine ⟨1000, ?_⟩
  unfold laws_FnCanCombine.f
  by_cases h : (l.length : Int) > 1048576
  · rw [if_pos h]
  · rw [if_neg h]
    obtain ⟨r, hr, _⟩ : Dw (spec_DrawCanCombine.f 1000 l) (fun _ => True) := by
      unfold spec_DrawCanCombine.f
      exact (open_d hw).bind fun r ⟨hb, hp⟩ => (program_d hb 5 6 (by omega) (by omega) (by omega)).bind fun r' h' => Dw.some trivial
    rw [hr]
    obtain ⟨a, b, c⟩ := r
    simp only [Option.bind_some, implCan_f _ _ _ 1000 (by omega), specCan_f _ _ _ 1000 (by omega), implProgram_f _ _ _ 1000 (by omega)]
    rw [if_neg (by simp)]
    have h3 : decide (Vp 3 0 0 ∧ ((3 : Int) = 1 ∨ (3 : Int) = 2 ∨ True)) = true := by decide
    have h5 : decide (Vp 5 0 0 ∧ ((5 : Int) = 1 ∨ (5 : Int) = 2 ∨ (5 : Int) = 3)) = false := by decide
    rw [h3, h5]
    by_cases hv : Vp a b c ∧ (a = 1 ∨ a = 2 ∨ a = 3)
    · rw [if_pos (decide_eq_true hv), if_pos (decide_eq_true hv.1)]
      simp [alive_f]
    · rw [if_neg (by simpa using hv)]
      simp [alive_f]

end Go.Proofs.Ytloiafnoekpaoaa.Pure
