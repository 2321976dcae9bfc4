/- Letters have epochs: a part of valid letters is valid; with the epoch -1 they are not. No further condition. -/
import Derived.Test.YtloiafnoekpaoaaPFnLettersValidx
import Derived.Test.YtloiafnoekpaoaaL
import Derived.Test.YtloiafnoekpaoaaT
set_option linter.unusedVariables false
set_option linter.unusedSimpArgs false
namespace Go.Proofs.Ytloiafnoekpaoaa.PFnLettersValid
open Go.RowKit Go.Proofs.YtloiafnoekpaoaaW.PrintWords Go.Proofs.YtloiafnoekpaoaaW.PrintLast Go.Proofs.YtloiafnoekpaoaaW.PrintMore
theorem pick_d {b : List Int} (hb : Bytes b) {p : Int} (h0 : 0 ≤ p) (h1 : p ≤ 1000000000) (n : Int) {k : Nat} (hk : 0 < k) : Dw (spec_l20Rd_pick.f k b p n) (PickOk n p) := by
  obtain ⟨k, rfl, _⟩ := kk_pred hk
  have e1 : wrap64 (p + 1) = p + 1 := by unfold wrap64; omega
  have e2 : wrap64 (p + 1 - 1) = p := by unfold wrap64; omega
  have e3 : wrap64 (p * 7) = p * 7 := by unfold wrap64; omega
  have e4 : wrap64 (p * 7 + 3) = p * 7 + 3 := by unfold wrap64; omega
  have hj : ∀ c : Bool, (c = false → 1 ≤ n ∧ 0 < b.length) → Dw (spec_l20Rd_pick.j0 (k + 1) n c b (p + 1)) (PickOk n p) := by
    intro c hc
    simp only [spec_l20Rd_pick.j0, e2, e3, e4]
    refine Dw.ite (fun _ => Dw.some ⟨rfl, by omega, fun h => by omega⟩) (fun h => ?_)
    obtain ⟨hn, hl⟩ := hc (by simpa using h)
    refine Dw.ite (fun hlt => ?_) (fun hge => ?_)
    · refine Dw.pos h0 (Dw.neg (by omega) (Dw.some ⟨rfl, ?_, fun _ => ?_⟩))
      · have hr := rd_byte hb.1 p
        have : wrap64 (rd b p) = rd b p := by unfold wrap64; omega
        simp only [this]
        exact Int.tmod_nonneg _ hr.1
      · exact Int.tmod_lt_of_pos _ (by omega)
    · have hlp : (0 : Int) < (b.length : Int) := by omega
      refine Dw.neg (by omega) (Dw.pos (Int.tmod_nonneg _ h0) (Dw.pos (Int.tmod_lt_of_pos _ hlp) (Dw.pos (Int.tmod_nonneg _ (by omega)) (Dw.pos (Int.tmod_lt_of_pos _ hlp) (Dw.neg (by omega) (Dw.some ⟨rfl, ?_, fun _ => Int.tmod_lt_of_pos _ (by omega)⟩))))))
      have hx := rd_byte hb.1 (Int.tmod p b.length)
      have hy := rd_byte hb.1 (Int.tmod (p * 7 + 3) b.length)
      have hd0 : 0 ≤ Int.tdiv p b.length := Int.tdiv_nonneg h0 (by omega)
      have hd1 : Int.tdiv p b.length ≤ p := Int.tdiv_le_self _ h0
      refine Int.tmod_nonneg _ ?_
      generalize rd b (Int.tmod p b.length) = x at *
      generalize rd b (Int.tmod (p * 7 + 3) b.length) = y at *
      generalize Int.tdiv p b.length = d at *
      have w1 : wrap64 x = x := by unfold wrap64; omega
      have w2 : wrap64 y = y := by unfold wrap64; omega
      have w3 : wrap64 d = d := by unfold wrap64; omega
      have w4 : wrap64 (x * 131) = x * 131 := by unfold wrap64; omega
      have w5 : wrap64 (y * 1117) = y * 1117 := by unfold wrap64; omega
      have w6 : wrap64 (p * 29) = p * 29 := by unfold wrap64; omega
      have w7 : wrap64 (d * 53) = d * 53 := by unfold wrap64; omega
      have w8 : wrap64 (x * 131 + y * 1117) = x * 131 + y * 1117 := by unfold wrap64; omega
      have w9 : wrap64 (x * 131 + y * 1117 + p * 29) = x * 131 + y * 1117 + p * 29 := by unfold wrap64; omega
      have w10 : wrap64 (x * 131 + y * 1117 + p * 29 + d * 53) = x * 131 + y * 1117 + p * 29 + d * 53 := by unfold wrap64; omega
      simp only [w1, w2, w3, w4, w5, w6, w7, w8, w9, w10]
      generalize hz : x * 131 + y * 1117 + p * 29 + d * 53 = z
      have hz0 : 0 ≤ z := by omega
      have hz1 : z ≤ 1000000000000 := by omega
      have hd2 : 0 ≤ Int.tdiv z 64 := Int.tdiv_nonneg hz0 (by omega)
      have hd3 : Int.tdiv z 64 ≤ z := Int.tdiv_le_self _ hz0
      have w11 : wrap64 (Int.tdiv z 64) = Int.tdiv z 64 := by unfold wrap64; omega
      rw [w11]
      exact xor_i64 _ _ hz0 (by omega) hd2 (by omega)
  unfold spec_l20Rd_pick.f
  rw [e1]
  refine Dw.ite (fun _ => hj _ (by simp)) (fun h => hj _ (fun h2 => ⟨by omega, ?_⟩))
  have : ¬ (b.length : Int) = 0 := by simpa using h2
  omega

theorem odd_d {b : List Int} (hb : Bytes b) {p : Int} (h0 : 0 ≤ p) (h1 : p ≤ 1000000000) (n : Int) {k : Nat} (hk : 0 < k) : Dw (spec_l20Rd_odd.f k b p n) (fun r => p ≤ r.2 ∧ r.2 ≤ p + 1) := by
  unfold spec_l20Rd_odd.f
  refine Dw.ite (fun _ => (pick_d hb h0 h1 n hk).bind fun r ⟨h2, _, _⟩ => Dw.some ?_) (fun _ => Dw.some ?_)
  · simp only; omega
  · simp only; omega

theorem letters_l {b : List Int} (hb : Bytes b) (n : Int) : ∀ d k : Nat, ∀ (o : List S29) (p : Int), 0 ≤ p → p + 4 * d ≤ 900000000 → o.length + d ≤ 100 → d + 3 < k → Dw (spec_l20Letters.l0 k n o d b p) (fun r => p ≤ r.2 ∧ r.2 ≤ p + 4 * d + 2 ∧ r.1.length ≤ 117) := by
  intro d
  induction d with
  | zero =>
    intro k o p h0 h1 hl hk
    obtain ⟨k, rfl, hk⟩ := kk_pred hk
    simp only [spec_l20Letters.l0]
    refine Dw.neg (by omega) ((odd_d hb h0 (by omega) n (by omega)).bind fun r1 ⟨a1, a2⟩ => Dw.ite (fun _ => ?_) (fun _ => Dw.some ⟨a1, by omega, by simp only; omega⟩))
    refine (pick_d hb (by omega) (by omega) 2 (by omega)).bind fun r2 ⟨c1, c2, c3⟩ => Dw.pos c2 (Dw.pos (by simp only [List.length_cons, List.length_nil]; omega) (Dw.pos (by omega) (Dw.some ?_)))
    simp only [List.length_append, List.length_cons, List.length_nil]
    omega
  | succ d ih =>
    intro k o p h0 h1 hl hk
    obtain ⟨k, rfl, hk⟩ := kk_pred hk
    simp only [spec_l20Letters.l0]
    refine Dw.pos (by omega) ((pick_d hb h0 (by omega) 4 (by omega)).bind fun r1 ⟨a1, a2, a3⟩ => (pick_d hb (by omega) (by omega) 4 (by omega)).bind fun r2 ⟨b1, b2, b3⟩ => (pick_d hb (by omega) (by omega) 9 (by omega)).bind fun r3 ⟨c1, c2, c3⟩ => (pick_d hb (by omega) (by omega) 4 (by omega)).bind fun r4 ⟨d1, d2, d3⟩ => Dw.pos (by omega) ?_)
    have e : wrap64 (((d + 1 : Nat) : Int) - 1) = (d : Int) := by unfold wrap64; omega
    rw [e]
    refine (ih k _ r4.2 (by omega) (by omega) (by simp only [List.length_append, List.length_cons, List.length_nil]; omega) (by omega)).mono fun r ⟨h2, h3, h4⟩ => ⟨by omega, by omega, h4⟩
theorem letters_d {b : List Int} (hb : Bytes b) (n : Int) {p : Int} (h0 : 0 ≤ p) (h1 : p ≤ 800000000) {k : Nat} (hk : 20 < k) : Dw (spec_l20Letters.f k b p n) (fun r => p ≤ r.2 ∧ r.2 ≤ p + 50 ∧ r.1.length ≤ 117) := by
  unfold spec_l20Letters.f
  refine (pick_d hb h0 (by omega) 8 (by omega)).bind fun r1 ⟨a1, a2, a3⟩ => ?_
  obtain ⟨d, hd⟩ := Int.eq_ofNat_of_zero_le a2
  have := a3 (by omega)
  rw [hd]
  refine (letters_l hb n d k [] r1.2 (by omega) (by omega) (by simp; omega) (by omega)).mono fun r ⟨h2, h3, h4⟩ => ⟨by omega, by omega, h4⟩

theorem open_d {l : List Int} (hl : ∀ x ∈ l, (Lit.int .u8 x).wf = true) : Dw (spec_l20Open.f l) (fun r => Bytes r.1 ∧ r.2 = 0) := by
  have hb : ∀ x ∈ l, 0 ≤ x ∧ x ≤ 255 := fun x hx => by
    have := hl x hx
    simp [Lit.wf, IntKind.min, IntKind.max, IntKind.bits, IntKind.signed] at this
    omega
  unfold spec_l20Open.f
  refine Dw.ite (fun h => Dw.pos (by omega) (Dw.some ⟨⟨fun x hx => hb x (List.mem_of_mem_take hx), by simp; omega⟩, rfl⟩)) (fun h => Dw.some ⟨⟨hb, by show l.length ≤ 2000; omega⟩, rfl⟩)

theorem rdI_29 (xs : List S29) (i : Nat) (h : i < xs.length) : rd_T29 xs (i : Int) = xs[i] := by simp [rd_T29, h]
def lettersOk (l : List S29) : Bool := l.all fun x => decide (0 ≤ x.f0 ∧ x.f0 ≤ 1000)
theorem lettersValid_l (l : List S29) (hb : l.length < 4611686018427387904) : ∀ d k i : Nat, l.length = i + d → d < k → impl_LettersValid.l0 k l l.length i = some (lettersOk (l.drop i)) := by
  intro d
  induction d with
  | zero =>
    intro k i hi hk
    obtain ⟨k, rfl, hk⟩ := kk_pred hk
    simp only [impl_LettersValid.l0]
    rw [if_neg (by omega), List.drop_of_length_le (by omega)]
    rfl
  | succ d ih =>
    intro k i hi hk
    obtain ⟨k, rfl, hk⟩ := kk_pred hk
    have e : impl_epochFits.f (rd_T29 l (i : Int)).f0 = some (decide (0 ≤ (rd_T29 l (i : Int)).f0 ∧ (rd_T29 l (i : Int)).f0 ≤ 1000)) := by
      unfold impl_epochFits.f
      by_cases h : 0 ≤ (rd_T29 l (i : Int)).f0
      · rw [if_pos h]; simp [h]
      · rw [if_neg h]; simp [h]
    simp only [impl_LettersValid.l0, e, Option.bind_some, decide_eq_true_eq]
    rw [if_pos (by omega), if_pos (by omega), if_pos (by omega), wS _ (by omega), ih k (i + 1) (by omega) (by omega), rdI_29 _ _ (by omega), List.drop_eq_getElem_cons (by omega : i < l.length)]
    unfold lettersOk
    rw [List.all_cons]
    by_cases h : 0 ≤ l[i].f0 ∧ l[i].f0 ≤ 1000
    · rw [if_pos h, decide_eq_true h, Bool.true_and]
    · rw [if_neg h, decide_eq_false h, Bool.false_and]
theorem lettersValid_f (l : List S29) (hb : l.length < 4611686018427387904) (k : Nat) (hk : l.length < k) : impl_LettersValid.f k l = some (decide (l.length ≤ 2000) && lettersOk l) := by
  unfold impl_LettersValid.f
  by_cases h : (l.length : Int) > 2000
  · rw [if_pos h, decide_eq_false (by omega), Bool.false_and]
  · rw [if_neg h, decide_eq_true (by omega), Bool.true_and]
    have := lettersValid_l l hb l.length k 0 (by omega) hk
    simpa using this

theorem l1In_f (a b c : Int) : spec_l1In.f a b c = some (decide (b ≤ a ∧ a ≤ c)) := by
  unfold spec_l1In.f
  by_cases h : b ≤ a
  · rw [if_pos h]; simp [h]
  · rw [if_neg h]; simp [h]

theorem rdT_29 (xs : List S29) (i : Nat) (h : i < xs.length) : rd_T29 xs (i : Int) = xs[i] := by simp [rd_T29, h]
theorem specLetters_l (l : List S29) (hb : l.length < 4611686018427387904) : ∀ d k i : Nat, l.length = i + d → d < k → spec_LettersValid.l0 k l i = some (((l.drop i).all fun x => decide (0 ≤ x.f0 ∧ x.f0 ≤ 1000)) && decide (l.length ≤ 2000)) := by
  intro d
  induction d with
  | zero =>
    intro k i hi hk
    obtain ⟨k, rfl, hk⟩ := kk_pred hk
    simp only [spec_LettersValid.l0]
    rw [if_neg (by omega), List.drop_of_length_le (by omega)]
    simp
    omega
  | succ d ih =>
    intro k i hi hk
    obtain ⟨k, rfl, hk⟩ := kk_pred hk
    simp only [spec_LettersValid.l0, l1In_f, Option.bind_some, decide_eq_true_eq]
    rw [if_pos (by omega), if_pos (by omega), wS _ (by omega), ih k (i + 1) (by omega) (by omega), rdT_29 _ _ (by omega), List.drop_eq_getElem_cons (by omega : i < l.length), List.all_cons]
    by_cases h : 0 ≤ l[i].f0 ∧ l[i].f0 ≤ 1000
    · rw [if_pos h, decide_eq_true h, Bool.true_and]
    · rw [if_neg h, decide_eq_false h, Bool.false_and, Bool.false_and]
theorem specLetters_f (l : List S29) (hb : l.length < 4611686018427387904) (k : Nat) (hk : l.length < k) : spec_LettersValid.f k l = some ((l.all fun x => decide (0 ≤ x.f0 ∧ x.f0 ≤ 1000)) && decide (l.length ≤ 2000)) := by
  have := specLetters_l l hb l.length k 0 (by omega) hk
  simpa [spec_LettersValid.f] using this

theorem alive_f {k : Nat} (hk : 2 < k) : laws_alive.f k = some true := by
  obtain ⟨k, rfl, hk⟩ := kk_pred hk
  obtain ⟨k, rfl, hk⟩ := kk_pred (show 1 < k by omega)
  simp [laws_alive.f, impl_CheckSum.f, impl_BytesValid.f, impl_BytesValid.l0, impl_CheckSum.l0]

end Go.Proofs.Ytloiafnoekpaoaa.PFnLettersValid
namespace Go.Proofs.Ytloiafnoekpaoaa.Pure
open Go.RowKit Go.Proofs.Ytloiafnoekpaoaa.PFnLettersValid Go.Proofs.YtloiafnoekpaoaaW.PrintWords Go.Proofs.YtloiafnoekpaoaaW.PrintLast Go.Proofs.YtloiafnoekpaoaaW.PrintMore
theorem FnLettersValid : laws_FnLettersValid.Pure := by
  intro l hl hl8 hw
  refine ⟨1000, ?_⟩
  unfold laws_FnLettersValid.f
  by_cases h : (l.length : Int) > 1048576
  · rw [if_pos h]
  · rw [if_neg h]
    obtain ⟨v, hv, hvl⟩ : Dw (spec_DrawLettersValid.f 1000 l) (fun v => v.length ≤ 117) := by
      unfold spec_DrawLettersValid.f
      exact (open_d hw).bind fun r ⟨hb, hp⟩ => (letters_d hb 2 (by omega) (by omega) (by omega)).bind fun r' h' => Dw.some h'.2.2
    have hd2 : wrap64 ((v.length : Int) / 2) = ((v.length / 2 : Nat) : Int) := by unfold wrap64; omega
    simp only [hv, Option.bind_some, lettersValid_f v (by omega) 1000 (by omega), specLetters_f v (by omega) 1000 (by omega), hd2, List.nil_append, List.length_nil, Int.toNat_natCast]
    have hbad : lettersOk (v ++ [(⟨(-1), (⟨0, 0, 0⟩ : S27)⟩ : S29)]) = false := by simp [lettersOk]
    have hb : impl_LettersValid.f 1000 (v ++ [(⟨(-1), (⟨0, 0, 0⟩ : S27)⟩ : S29)]) = some false := by
      rw [lettersValid_f _ (by simp; omega) 1000 (by simp; omega), hbad, Bool.and_false]
    rw [if_neg (by unfold lettersOk; rw [Bool.and_comm]; simp)]
    by_cases ho : lettersOk v = true
    · rw [if_pos (by simp [ho]; omega), if_pos (by omega), if_pos (by omega), lettersValid_f _ (by simp; omega) 1000 (by simp; omega)]
      have hp : lettersOk (v.take (v.length / 2)) = true := by
        unfold lettersOk at ho ⊢
        rw [List.all_eq_true] at ho ⊢
        exact fun x hx => ho x (List.mem_of_mem_take hx)
      rw [hp]
      simp only [Option.bind_some, List.length_take]
      rw [if_pos (by simp; omega), if_pos (by omega), if_pos (by omega), hb]
      simp [alive_f]
    · rw [if_neg (by simp [ho]), if_pos (by omega), if_pos (by omega), hb]
      simp [alive_f]

end Go.Proofs.Ytloiafnoekpaoaa.Pure
