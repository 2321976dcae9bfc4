/- Totals are valid: the order of the values does not matter; with an unknown value more it is the same. No further condition. -/
import Derived.Test.YtloiafnoekpaoaaPFnTotalOfx
import Derived.Test.YtloiafnoekpaoaaL
import Derived.Test.YtloiafnoekpaoaaT
set_option linter.unusedVariables false
set_option linter.unusedSimpArgs false
namespace Go.Proofs.Ytloiafnoekpaoaa.PFnTotalOf
open Go.RowKit Go.Proofs.YtloiafnoekpaoaaW.PrintWords Go.Proofs.YtloiafnoekpaoaaW.PrintLast Go.Proofs.YtloiafnoekpaoaaW.PrintMore
theorem alive_f {k : Nat} (hk : 2 < k) : laws_alive.f k = some true := by
  obtain ⟨k, rfl, hk⟩ := kk_pred hk
  obtain ⟨k, rfl, hk⟩ := kk_pred (show 1 < k by omega)
  simp [laws_alive.f, impl_CheckSum.f, impl_BytesValid.f, impl_BytesValid.l0, impl_CheckSum.l0]

theorem l1In_f (a b c : Int) : spec_l1In.f a b c = some (decide (b ≤ a ∧ a ≤ c)) := by
  unfold spec_l1In.f
  by_cases h : b ≤ a
  · rw [if_pos h]; simp [h]
  · rw [if_neg h]; simp [h]

theorem specTotal_l (l : List Int) (hl : l.length ≤ 16) : ∀ d k i : Nat, l.length = i + d → 2 * d + 1 < k → fitV (l.take i) → spec_TotalOf.l0 k l i (tot (known (l.take i))).1 (tot (known (l.take i))).2.1 (tot (known (l.take i))).2.2.1 (tot (known (l.take i))).2.2.2 = some (if fitV l then tot (known l) else (0, 0, 0, 0)) := by
  intro d
  induction d with
  | zero =>
    intro k i hi hk hf
    obtain ⟨k, rfl, hk⟩ := kk_pred hk
    simp only [spec_TotalOf.l0]
    rw [List.take_of_length_le (by omega)] at *
    rw [if_neg (by omega), if_pos hf]
  | succ d ih =>
    intro k i hi hk hf
    obtain ⟨k, rfl, hk⟩ := kk_pred hk
    obtain ⟨k, rfl, hk⟩ := kk_pred (show 2 * d + 1 < k by omega)
    have hi' : i < l.length := by omega
    simp only [spec_TotalOf.l0, spec_TotalOf.j1, l1In_f, Option.bind_some, decide_eq_true_eq]
    rw [if_pos (by omega), if_pos (by omega), wS _ (by omega), rdN _ _ hi']
    by_cases hv : -1 ≤ l[i] ∧ l[i] ≤ 999999
    · have hf' : fitV (l.take (i + 1)) := by
        intro x hx
        rw [List.take_succ_eq_append_getElem hi'] at hx
        rcases List.mem_append.1 hx with hx | hx
        · exact hf x hx
        · rw [List.mem_singleton.1 hx]; exact hv
      have ih' := ih k (i + 1) (by omega) (by omega) hf'
      rw [known_take_succ l i hi'] at ih'
      have ht := isTot (known (l.take i))
      have hkn : Kn (known (l.take i)) := kn_known hf
      have hkl := known_len (l.take i)
      have hs := kn_sum hkn
      rw [List.length_take] at hkl
      rw [if_pos hv, if_neg (by omega)]
      by_cases e : l[i] = -1
      · rw [if_pos e] at ih'
        rw [if_pos (by omega), ← ih']
        simp
      · rw [if_neg e, tot_snoc] at ih'
        rw [if_neg (by omega), ← ih']
        clear ih'
        generalize tot (known (l.take i)) = t at *
        obtain ⟨t1, t2, t3, t4⟩ := ht
        have w1 : wrap64 (t.1 + 1) = t.1 + 1 := wsm (by omega) (by omega)
        have w2 : wrap64 (t.2.1 + l[i]) = t.2.1 + l[i] := wsm (by omega) (by omega)
        rw [w1, w2]
        unfold stp
        by_cases hF : known (l.take i) = []
        · have h3 := t3 hF
          have z1 : t.1 = 0 := by rw [t1, hF]; rfl
          have z2 : t.2.1 = 0 := by rw [t2, hF]; rfl
          have z3 : mx t.2.2.2 l[i] = l[i] := by unfold mx; split <;> omega
          rw [if_pos (by omega), if_pos z1, z1, z2, z3]
          simp
        · have h4 := t4 hF
          have k1 := hkn _ h4.1
          have z1 : t.1 ≠ 0 := by have := List.length_pos_iff.2 hF; omega
          rw [if_neg (by omega), if_neg z1]
          by_cases hlt : l[i] < t.2.2.1
          · have z3 : mn t.2.2.1 l[i] = l[i] := by unfold mn; split <;> omega
            rw [if_pos hlt]
            simp only [z3]
          · have z3 : mn t.2.2.1 l[i] = t.2.2.1 := by unfold mn; split <;> omega
            rw [if_neg hlt]
            simp only [z3]
    · rw [if_neg hv, if_pos trivial, if_neg (fun g => hv (g _ (List.getElem_mem hi')))]
theorem specTotal_f (l : List Int) (hb : l.length < 4611686018427387904) (k : Nat) (hk : 40 < k) : spec_TotalOf.f k l = some (totalOf l) := by
  unfold totalOf spec_TotalOf.f
  by_cases h : l.length ≤ 16
  · have := specTotal_l l h l.length k 0 (by omega) (by omega) (by simp [fitV])
    refine Eq.trans this ?_
    simp [h]
  · rw [if_neg (fun g => h g.1)]
    obtain ⟨k, rfl, hk⟩ := kk_pred hk
    obtain ⟨k, rfl, hk⟩ := kk_pred (show 10 < k by omega)
    simp only [spec_TotalOf.l0, spec_TotalOf.j1, l1In_f, Option.bind_some, decide_eq_true_eq]
    rw [if_pos (by omega), if_pos (by omega)]
    by_cases hv : -1 ≤ rd l 0 ∧ rd l 0 ≤ 999999
    · rw [if_pos hv, if_pos (by omega)]
    · rw [if_neg hv, if_pos trivial]

theorem valueFits_f (a : Int) : impl_valueFits.f a = some (decide (-1 ≤ a ∧ a ≤ 999999)) := by
  unfold impl_valueFits.f
  by_cases h : -1 ≤ a
  · rw [if_pos h]
    refine congrArg some (decide_eq_decide.2 ?_)
    omega
  · rw [if_neg h, decide_eq_false (fun g => h g.1)]
theorem valuesFit_l (l : List Int) (hb : l.length < 4611686018427387904) : ∀ d k i : Nat, l.length = i + d → d < k → impl_valuesFit.l0 k l l.length i = some (decide (fitV (l.drop i))) := by
  intro d
  induction d with
  | zero =>
    intro k i hi hk
    obtain ⟨k, rfl, hk⟩ := kk_pred hk
    simp only [impl_valuesFit.l0]
    rw [if_neg (by omega), List.drop_of_length_le (by omega), decide_eq_true (by simp [fitV])]
  | succ d ih =>
    intro k i hi hk
    obtain ⟨k, rfl, hk⟩ := kk_pred hk
    simp only [impl_valuesFit.l0, valueFits_f, Option.bind_some, decide_eq_true_eq]
    rw [if_pos (by omega), if_pos (by omega), if_pos (by omega), wS _ (by omega), ih k (i + 1) (by omega) (by omega), rdN _ _ (by omega), List.drop_eq_getElem_cons (by omega : i < l.length)]
    by_cases h : -1 ≤ l[i] ∧ l[i] ≤ 999999
    · rw [if_pos h]
      refine congrArg some (decide_eq_decide.2 ?_)
      simp only [fitV, List.forall_mem_cons, h, true_and]
    · rw [if_neg h, decide_eq_false]
      intro g
      exact h (g _ List.mem_cons_self)
theorem valuesFit_f (l : List Int) (hb : l.length < 4611686018427387904) (k : Nat) (hk : l.length < k) : impl_valuesFit.f k l = some (decide (fitV l)) := by
  have := valuesFit_l l hb l.length k 0 (by omega) hk
  simpa [impl_valuesFit.f] using this

theorem implTotal_l (l : List Int) (hl : l.length ≤ 16) (hf : fitV l) : ∀ d k i : Nat, l.length = i + d → d < k → impl_TotalOf.l0 k l l.length i (tot (known (l.take i))).1 (tot (known (l.take i))).2.1 (tot (known (l.take i))).2.2.1 (tot (known (l.take i))).2.2.2 = some (tot (known l)) := by
  intro d
  induction d with
  | zero =>
    intro k i hi hk
    obtain ⟨k, rfl, hk⟩ := kk_pred hk
    simp only [impl_TotalOf.l0]
    rw [if_neg (by omega), List.take_of_length_le (by omega)]
  | succ d ih =>
    intro k i hi hk
    obtain ⟨k, rfl, hk⟩ := kk_pred hk
    have hi' : i < l.length := by omega
    simp only [impl_TotalOf.l0]
    rw [if_pos (by omega), if_pos (by omega), if_pos (by omega), wS _ (by omega), rdN _ _ hi', ← ih k (i + 1) (by omega) (by omega), known_take_succ l i hi']
    have ht := isTot (known (l.take i))
    have hkn : Kn (known (l.take i)) := kn_known (fun x hx => hf x (List.mem_of_mem_take hx))
    have hkl := known_len (l.take i)
    have hs := kn_sum hkn
    have hv := hf l[i] (List.getElem_mem hi')
    rw [List.length_take] at hkl
    unfold impl_Total_with.f
    by_cases e : l[i] = -1
    · rw [if_pos e, if_pos e]
      simp
    · rw [if_neg e, if_neg e, tot_snoc]
      generalize tot (known (l.take i)) = t at *
      unfold stp
      by_cases h0 : t.1 = 0
      · rw [if_pos h0, if_pos h0]
        rfl
      · rw [if_neg h0, if_neg h0, wsm (n := t.1 + 1) (by have := ht.1; omega) (by have := ht.1; omega), wsm (n := t.2.1 + l[i]) (by have := ht.2.1; omega) (by have := ht.2.1; omega)]
        rfl
theorem implTotal_f (l : List Int) (hb : l.length < 4611686018427387904) (k : Nat) (hk : l.length + 2 < k) : impl_TotalOf.f k l = some (totalOf l) := by
  obtain ⟨k, rfl, hk⟩ := kk_pred hk
  unfold totalOf
  simp only [impl_TotalOf.f, impl_TotalOf.j0, impl_noTotal.f, Option.bind_some, valuesFit_f l hb (k + 1) (by omega)]
  by_cases h : l.length ≤ 16
  · rw [if_neg (by omega : ¬ (l.length : Int) > 16)]
    by_cases hf : fitV l
    · have e : (if l.length ≤ 16 ∧ fitV l then tot (known l) else (0, 0, 0, 0)) = tot (known l) := if_pos ⟨h, hf⟩
      have e2 : (!decide (fitV l)) = false := by simp [hf]
      rw [e, e2]
      simp only [Bool.false_eq_true, if_false]
      exact implTotal_l l h hf l.length k 0 (by omega) (by omega)
    · have e : (if l.length ≤ 16 ∧ fitV l then tot (known l) else (0, 0, 0, 0)) = (0, 0, 0, 0) := if_neg (fun g => hf g.2)
      have e2 : (!decide (fitV l)) = true := by simp [hf]
      rw [e, e2]
      simp only [if_true]
  · have e : (if l.length ≤ 16 ∧ fitV l then tot (known l) else (0, 0, 0, 0)) = (0, 0, 0, 0) := if_neg (fun g => h g.1)
    rw [e, if_pos (by omega : (l.length : Int) > 16)]
    simp only [if_true]

theorem implValid_f (a b c d : Int) (k : Nat) (hk : 0 < k) : impl_TotalValid.f k a b c d = some (decide (Vt (a, b, c, d))) := by
  obtain ⟨k, rfl, hk⟩ := kk_pred hk
  simp only [Vt, impl_TotalValid.f, impl_TotalValid.j0, impl_noTotal.f, Option.bind_some, o_beq, o_dand, o_and, o_nand, o_or, o_ite, o_tf, o_ft, decide_eq_true_eq, not_true, false_and, imp_false]
  refine congrArg some (decide_eq_decide.2 ?_)
  omega

theorem open_d {l : List Int} (hl : ∀ x ∈ l, (Lit.int .u8 x).wf = true) : Dw (spec_l20Open.f l) (fun r => Bytes r.1 ∧ r.2 = 0) := by
  have hb : ∀ x ∈ l, 0 ≤ x ∧ x ≤ 255 := fun x hx => by
    have := hl x hx
    simp [Lit.wf, IntKind.min, IntKind.max, IntKind.bits, IntKind.signed] at this
    omega
  unfold spec_l20Open.f
  refine Dw.ite (fun h => Dw.pos (by omega) (Dw.some ⟨⟨fun x hx => hb x (List.mem_of_mem_take hx), by simp; omega⟩, rfl⟩)) (fun h => Dw.some ⟨⟨hb, by show l.length ≤ 2000; omega⟩, rfl⟩)

theorem pick_d {b : List Int} (hb : Bytes b) {p : Int} (h0 : 0 ≤ p) (h1 : p ≤ 1000000000) (n : Int) {k : Nat} (hk : 0 < k) : Dw (spec_l20Rd_pick.f k b p n) (PickOk n p) := by
  obtain ⟨k, rfl, _⟩ := kk_pred hk
  have e1 : wrap64 (p + 1) = p + 1 := by unfold wrap64; omega
  have e2 : wrap64 (p + 1 - 1) = p := by unfold wrap64; omega
  have e3 : wrap64 (p * 7) = p * 7 := by unfold wrap64; omega
  have e4 : wrap64 (p * 7 + 3) = p * 7 + 3 := by unfold wrap64; omega
  have hj : ∀ c : Bool, (c = false → 1 ≤ n ∧ 0 < b.length) → Dw (spec_l20Rd_pick.j0 (k + 1) n c b (p + 1)) (PickOk n p) := by
    intro c hc
    simp only [spec_l20Rd_pick.j0, e2, e3, e4]
    refine Dw.ite (fun _ => Dw.some ⟨rfl, by omega, fun h => by omega⟩) (fun h => ?_)
    obtain ⟨hn, hl⟩ := hc (by simpa using h)
    refine Dw.ite (fun hlt => ?_) (fun hge => ?_)
    · refine Dw.pos h0 (Dw.neg (by omega) (Dw.some ⟨rfl, ?_, fun _ => ?_⟩))
      · have hr := rd_byte hb.1 p
        have : wrap64 (rd b p) = rd b p := by unfold wrap64; omega
        simp only [this]
        exact Int.tmod_nonneg _ hr.1
      · exact Int.tmod_lt_of_pos _ (by omega)
    · have hlp : (0 : Int) < (b.length : Int) := by omega
      refine Dw.neg (by omega) (Dw.pos (Int.tmod_nonneg _ h0) (Dw.pos (Int.tmod_lt_of_pos _ hlp) (Dw.pos (Int.tmod_nonneg _ (by omega)) (Dw.pos (Int.tmod_lt_of_pos _ hlp) (Dw.neg (by omega) (Dw.some ⟨rfl, ?_, fun _ => Int.tmod_lt_of_pos _ (by omega)⟩))))))
      have hx := rd_byte hb.1 (Int.tmod p b.length)
      have hy := rd_byte hb.1 (Int.tmod (p * 7 + 3) b.length)
      have hd0 : 0 ≤ Int.tdiv p b.length := Int.tdiv_nonneg h0 (by omega)
      have hd1 : Int.tdiv p b.length ≤ p := Int.tdiv_le_self _ h0
      refine Int.tmod_nonneg _ ?_
      generalize rd b (Int.tmod p b.length) = x at *
      generalize rd b (Int.tmod (p * 7 + 3) b.length) = y at *
      generalize Int.tdiv p b.length = d at *
      have w1 : wrap64 x = x := by unfold wrap64; omega
      have w2 : wrap64 y = y := by unfold wrap64; omega
      have w3 : wrap64 d = d := by unfold wrap64; omega
      have w4 : wrap64 (x * 131) = x * 131 := by unfold wrap64; omega
      have w5 : wrap64 (y * 1117) = y * 1117 := by unfold wrap64; omega
      have w6 : wrap64 (p * 29) = p * 29 := by unfold wrap64; omega
      have w7 : wrap64 (d * 53) = d * 53 := by unfold wrap64; omega
      have w8 : wrap64 (x * 131 + y * 1117) = x * 131 + y * 1117 := by unfold wrap64; omega
      have w9 : wrap64 (x * 131 + y * 1117 + p * 29) = x * 131 + y * 1117 + p * 29 := by unfold wrap64; omega
      have w10 : wrap64 (x * 131 + y * 1117 + p * 29 + d * 53) = x * 131 + y * 1117 + p * 29 + d * 53 := by unfold wrap64; omega
      simp only [w1, w2, w3, w4, w5, w6, w7, w8, w9, w10]
      generalize hz : x * 131 + y * 1117 + p * 29 + d * 53 = z
      have hz0 : 0 ≤ z := by omega
      have hz1 : z ≤ 1000000000000 := by omega
      have hd2 : 0 ≤ Int.tdiv z 64 := Int.tdiv_nonneg hz0 (by omega)
      have hd3 : Int.tdiv z 64 ≤ z := Int.tdiv_le_self _ hz0
      have w11 : wrap64 (Int.tdiv z 64) = Int.tdiv z 64 := by unfold wrap64; omega
      rw [w11]
      exact xor_i64 _ _ hz0 (by omega) hd2 (by omega)
  unfold spec_l20Rd_pick.f
  rw [e1]
  refine Dw.ite (fun _ => hj _ (by simp)) (fun h => hj _ (fun h2 => ⟨by omega, ?_⟩))
  have : ¬ (b.length : Int) = 0 := by simpa using h2
  omega

theorem odd_d {b : List Int} (hb : Bytes b) {p : Int} (h0 : 0 ≤ p) (h1 : p ≤ 1000000000) (n : Int) {k : Nat} (hk : 0 < k) : Dw (spec_l20Rd_odd.f k b p n) (fun r => p ≤ r.2 ∧ r.2 ≤ p + 1) := by
  unfold spec_l20Rd_odd.f
  refine Dw.ite (fun _ => (pick_d hb h0 h1 n hk).bind fun r ⟨h2, _, _⟩ => Dw.some ?_) (fun _ => Dw.some ?_)
  · simp only; omega
  · simp only; omega

theorem values_l {b : List Int} (hb : Bytes b) (n : Int) : ∀ d k : Nat, ∀ (o : List Int) (p : Int), 0 ≤ p → p + 3 * d ≤ 900000000 → o.length + d ≤ 100 → d + 3 < k → Dw (spec_l20Values.l0 k n o d b p) (fun r => p ≤ r.2 ∧ r.2 ≤ p + 3 * d + 2 ∧ r.1.length ≤ 117) := by
  intro d
  induction d with
  | zero =>
    intro k o p h0 h1 hl hk
    obtain ⟨k, rfl, hk⟩ := kk_pred hk
    simp only [spec_l20Values.l0]
    refine Dw.neg (by omega) ((odd_d hb h0 (by omega) n (by omega)).bind fun r1 ⟨a1, a2⟩ => Dw.ite (fun _ => (pick_d hb (by omega) (by omega) 3 (by omega)).bind fun r2 ⟨c1, c2, c3⟩ => ?_) (fun _ => Dw.some ⟨a1, by omega, by simp only; omega⟩))
    refine Dw.ite (fun _ => Dw.pos (by omega) (Dw.some ?_)) (fun _ => Dw.ite (fun _ => Dw.pos (by omega) (Dw.some ?_)) (fun _ => Dw.pos (by omega) (Dw.some ?_)))
    all_goals (simp only [List.length_append, List.length_replicate, List.length_cons, List.length_nil]; omega)
  | succ d ih =>
    intro k o p h0 h1 hl hk
    obtain ⟨k, rfl, hk⟩ := kk_pred hk
    simp only [spec_l20Values.l0]
    refine Dw.pos (by omega) ((pick_d hb h0 (by omega) 9 (by omega)).bind fun r1 ⟨a1, a2, a3⟩ => (pick_d hb (by omega) (by omega) 256 (by omega)).bind fun r2 ⟨b1, b2, b3⟩ => ?_)
    simp only [Option.bind_some]
    refine (pick_d hb (by omega) (by omega) 3 (by omega)).bind fun r3 ⟨c1, c2, c3⟩ => Dw.pos c2 (Dw.pos (by simp only [List.length_cons, List.length_nil]; omega) (Dw.pos (by omega) ?_))
    have e : wrap64 (((d + 1 : Nat) : Int) - 1) = (d : Int) := by unfold wrap64; omega
    rw [e]
    refine (ih k _ r3.2 (by omega) (by omega) (by simp only [List.length_append, List.length_cons, List.length_nil]; omega) (by omega)).mono fun r ⟨h2, h3, h4⟩ => ⟨by omega, by omega, h4⟩
theorem values_d {b : List Int} (hb : Bytes b) (n : Int) {p : Int} (h0 : 0 ≤ p) (h1 : p ≤ 800000000) {k : Nat} (hk : 20 < k) : Dw (spec_l20Values.f k b p n) (fun r => p ≤ r.2 ∧ r.2 ≤ p + 40 ∧ r.1.length ≤ 117) := by
  unfold spec_l20Values.f
  refine (pick_d hb h0 (by omega) 10 (by omega)).bind fun r1 ⟨a1, a2, a3⟩ => ?_
  obtain ⟨d, hd⟩ := Int.eq_ofNat_of_zero_le a2
  have := a3 (by omega)
  rw [hd]
  refine (values_l hb n d k [] r1.2 (by omega) (by omega) (by simp; omega) (by omega)).mono fun r ⟨h2, h3, h4⟩ => ⟨by omega, by omega, h4⟩

end Go.Proofs.Ytloiafnoekpaoaa.PFnTotalOf
namespace Go.Proofs.Ytloiafnoekpaoaa.Pure
open Go.RowKit Go.Proofs.Ytloiafnoekpaoaa.PFnTotalOf Go.Proofs.YtloiafnoekpaoaaW.PrintWords Go.Proofs.YtloiafnoekpaoaaW.PrintLast Go.Proofs.YtloiafnoekpaoaaW.PrintMore
theorem turned_l (v : List Int) (hv : v.length ≤ 16) : ∀ d k : Nat, ∀ o : List Int, o ++ (v.take d).reverse = v.reverse → d ≤ v.length → d + 60 < k → laws_FnTotalOf.l0 k v o ((d : Int) - 1) (totalOf v).1 (totalOf v).2.1 (totalOf v).2.2.1 (totalOf v).2.2.2 = some true := by
  intro d
  induction d with
  | zero =>
    intro k o ho hd hk
    obtain ⟨k, rfl, hk⟩ := kk_pred hk
    have e : o = v.reverse := by simpa using ho
    subst e
    simp only [laws_FnTotalOf.l0]
    rw [if_neg (by omega), implTotal_f v.reverse (by simp; omega) k (by simp; omega), totalOf_reverse]
    simp only [Option.bind_some, beq_self_eq_true, Bool.and_self, if_true, List.length_nil, List.nil_append, List.length_cons]
    by_cases h : (v.length : Int) = 16
    · rw [if_pos h]
    · rw [if_neg h, if_pos (by omega), if_pos (by omega), implTotal_f _ (by simp; omega) k (by simp; omega), totalOf_more v (by omega)]
      simp
  | succ d ih =>
    intro k o ho hd hk
    obtain ⟨k, rfl, hk⟩ := kk_pred hk
    have hd' : d < v.length := by omega
    have hol : o.length ≤ 16 := by
      have := congrArg List.length ho
      simp at this
      omega
    have e1 : wrap64 ((d : Int) - 1) = (d : Int) - 1 := by unfold wrap64; omega
    have e2 : (((d + 1 : Nat) : Int) - 1) = (d : Int) := by omega
    simp only [laws_FnTotalOf.l0, Option.bind_some, List.length_cons, List.length_nil, e1, e2]
    rw [if_pos (by omega), if_pos (by omega), if_pos (by omega), if_pos (by omega), rdN _ _ hd']
    refine ih k _ ?_ (by omega) (by omega)
    rw [← ho, List.append_assoc, List.take_succ_eq_append_getElem hd', List.reverse_append]
    rfl
theorem FnTotalOf : laws_FnTotalOf.Pure := by
  intro l hl hl8 hw
  refine ⟨1000, ?_⟩
  unfold laws_FnTotalOf.f
  by_cases h : (l.length : Int) > 1048576
  · rw [if_pos h]
  · rw [if_neg h]
    obtain ⟨v, hv, hvl⟩ : Dw (spec_DrawTotalOf.f 1000 l) (fun v => v.length ≤ 117) := by
      unfold spec_DrawTotalOf.f
      exact (open_d hw).bind fun r ⟨hb, hp⟩ => (values_d hb 6 (by omega) (by omega) (by omega)).bind fun r' h' => Dw.some h'.2.2
    simp only [hv, Option.bind_some, implTotal_f v (by omega) 1000 (by omega), specTotal_f v (by omega) 1000 (by omega), implValid_f _ _ _ _ 1000 (by omega)]
    rw [if_neg (by simp)]
    rcases totalOf_cases v with ⟨h1, h2, h3, h4⟩ | ⟨h1, h2⟩
    · rw [if_pos (by simpa using h4)]
      have e : wrap64 ((v.length : Int) - 1) = (v.length : Int) - 1 := by unfold wrap64; omega
      rw [e]
      exact turned_l v h1 v.length 1000 [] (by simp) (by omega) (by omega)
    · rw [if_neg (by simpa using h2), h1]
      simp [alive_f]

end Go.Proofs.Ytloiafnoekpaoaa.Pure
