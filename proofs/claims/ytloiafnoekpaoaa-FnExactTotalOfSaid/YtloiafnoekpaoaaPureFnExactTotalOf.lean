/- The program's TotalOf returns what the reference's returns, for all arguments. No further condition. -/
import Derived.Test.YtloiafnoekpaoaaPFnExactTotalOfx
import Derived.Test.YtloiafnoekpaoaaL
import Derived.Test.YtloiafnoekpaoaaT
set_option linter.unusedVariables false
set_option linter.unusedSimpArgs false
namespace Go.Proofs.Ytloiafnoekpaoaa.PFnExactTotalOf
open Go.RowKit Go.Proofs.YtloiafnoekpaoaaW.PrintWords Go.Proofs.YtloiafnoekpaoaaW.PrintLast Go.Proofs.YtloiafnoekpaoaaW.PrintMore
theorem l1In_f (a b c : Int) : spec_l1In.f a b c = some (decide (b ≤ a ∧ a ≤ c)) := by
  unfold spec_l1In.f
  by_cases h : b ≤ a
  · rw [if_pos h]; simp [h]
  · rw [if_neg h]; simp [h]

theorem specTotal_l (l : List Int) (hl : l.length ≤ 16) : ∀ d k i : Nat, l.length = i + d → 2 * d + 1 < k → fitV (l.take i) → spec_TotalOf.l0 k l i (tot (known (l.take i))).1 (tot (known (l.take i))).2.1 (tot (known (l.take i))).2.2.1 (tot (known (l.take i))).2.2.2 = some (if fitV l then tot (known l) else (0, 0, 0, 0)) := by
  intro d
  induction d with
  | zero =>
    intro k i hi hk hf
    obtain ⟨k, rfl, hk⟩ := kk_pred hk
    simp only [spec_TotalOf.l0]
    rw [List.take_of_length_le (by omega)] at *
    rw [if_neg (by omega), if_pos hf]
  | succ d ih =>
    intro k i hi hk hf
    obtain ⟨k, rfl, hk⟩ := kk_pred hk
    obtain ⟨k, rfl, hk⟩ := kk_pred (show 2 * d + 1 < k by omega)
    have hi' : i < l.length := by omega
    simp only [spec_TotalOf.l0, spec_TotalOf.j1, l1In_f, Option.bind_some, decide_eq_true_eq]
    rw [if_pos (by omega), if_pos (by omega), wS _ (by omega), rdN _ _ hi']
    by_cases hv : -1 ≤ l[i] ∧ l[i] ≤ 999999
    · have hf' : fitV (l.take (i + 1)) := by
        intro x hx
        rw [List.take_succ_eq_append_getElem hi'] at hx
        rcases List.mem_append.1 hx with hx | hx
        · exact hf x hx
        · rw [List.mem_singleton.1 hx]; exact hv
      have ih' := ih k (i + 1) (by omega) (by omega) hf'
      rw [known_take_succ l i hi'] at ih'
      have ht := isTot (known (l.take i))
      have hkn : Kn (known (l.take i)) := kn_known hf
      have hkl := known_len (l.take i)
      have hs := kn_sum hkn
      rw [List.length_take] at hkl
      rw [if_pos hv, if_neg (by omega)]
      by_cases e : l[i] = -1
      · rw [if_pos e] at ih'
        rw [if_pos (by omega), ← ih']
        simp
      · rw [if_neg e, tot_snoc] at ih'
        rw [if_neg (by omega), ← ih']
        clear ih'
        generalize tot (known (l.take i)) = t at *
        obtain ⟨t1, t2, t3, t4⟩ := ht
        have w1 : wrap64 (t.1 + 1) = t.1 + 1 := wsm (by omega) (by omega)
        have w2 : wrap64 (t.2.1 + l[i]) = t.2.1 + l[i] := wsm (by omega) (by omega)
        rw [w1, w2]
        unfold stp
        by_cases hF : known (l.take i) = []
        · have h3 := t3 hF
          have z1 : t.1 = 0 := by rw [t1, hF]; rfl
          have z2 : t.2.1 = 0 := by rw [t2, hF]; rfl
          have z3 : mx t.2.2.2 l[i] = l[i] := by unfold mx; split <;> omega
          rw [if_pos (by omega), if_pos z1, z1, z2, z3]
          simp
        · have h4 := t4 hF
          have k1 := hkn _ h4.1
          have z1 : t.1 ≠ 0 := by have := List.length_pos_iff.2 hF; omega
          rw [if_neg (by omega), if_neg z1]
          by_cases hlt : l[i] < t.2.2.1
          · have z3 : mn t.2.2.1 l[i] = l[i] := by unfold mn; split <;> omega
            rw [if_pos hlt]
            simp only [z3]
          · have z3 : mn t.2.2.1 l[i] = t.2.2.1 := by unfold mn; split <;> omega
            rw [if_neg hlt]
            simp only [z3]
    · rw [if_neg hv, if_pos trivial, if_neg (fun g => hv (g _ (List.getElem_mem hi')))]
theorem specTotal_f (l : List Int) (hb : l.length < 4611686018427387904) (k : Nat) (hk : 40 < k) : spec_TotalOf.f k l = some (totalOf l) := by
  unfold totalOf spec_TotalOf.f
  by_cases h : l.length ≤ 16
  · have := specTotal_l l h l.length k 0 (by omega) (by omega) (by simp [fitV])
    refine Eq.trans this ?_
    simp [h]
  · rw [if_neg (fun g => h g.1)]
    obtain ⟨k, rfl, hk⟩ := kk_pred hk
    obtain ⟨k, rfl, hk⟩ := kk_pred (show 10 < k by omega)
    simp only [spec_TotalOf.l0, spec_TotalOf.j1, l1In_f, Option.bind_some, decide_eq_true_eq]
    rw [if_pos (by omega), if_pos (by omega)]
    by_cases hv : -1 ≤ rd l 0 ∧ rd l 0 ≤ 999999
    · rw [if_pos hv, if_pos (by omega)]
    · rw [if_neg hv, if_pos trivial]

theorem toIntS_l (l : List Int) (hb : l.length < 4611686018427387904) : ∀ d k i : Nat, ∀ o : List Int, o.length = l.length → o.take i = l.take i → l.length = i + d → d < k → laws_toIntS.l0 k l o i = some l := by
  intro d
  induction d with
  | zero =>
    intro k i o ho ht hi hk
    obtain ⟨k, rfl, hk⟩ := kk_pred hk
    simp only [laws_toIntS.l0]
    rw [if_neg (by omega)]
    obtain rfl : l.length = i := by omega
    rw [List.take_length, ← ho, List.take_length] at ht
    rw [ht]
  | succ d ih =>
    intro k i o ho ht hi hk
    obtain ⟨k, rfl, hk⟩ := kk_pred hk
    simp only [laws_toIntS.l0]
    rw [if_pos (by omega), if_pos (by omega), if_pos (by omega), wS _ (by omega), Int.toNat_natCast, rdN _ _ (by omega)]
    exact ih k (i + 1) _ (by simpa using ho) (by rw [take_set_succ _ _ _ (by omega), ht, List.take_succ_eq_append_getElem (by omega)]) (by omega) (by omega)
theorem toIntS_f (l : List Int) (hb : l.length ≤ 1048576) (k : Nat) (hk : l.length < k) : laws_toIntS.f k l = some l := by
  have := toIntS_l l (by omega) l.length k 0 (List.replicate l.length 0) (by simp) (by simp) (by omega) hk
  unfold laws_toIntS.f
  rw [if_pos (by omega), if_pos (by omega)]
  simpa using this

theorem valueFits_f (a : Int) : impl_valueFits.f a = some (decide (-1 ≤ a ∧ a ≤ 999999)) := by
  unfold impl_valueFits.f
  by_cases h : -1 ≤ a
  · rw [if_pos h]
    refine congrArg some (decide_eq_decide.2 ?_)
    omega
  · rw [if_neg h, decide_eq_false (fun g => h g.1)]
theorem valuesFit_l (l : List Int) (hb : l.length < 4611686018427387904) : ∀ d k i : Nat, l.length = i + d → d < k → impl_valuesFit.l0 k l l.length i = some (decide (fitV (l.drop i))) := by
  intro d
  induction d with
  | zero =>
    intro k i hi hk
    obtain ⟨k, rfl, hk⟩ := kk_pred hk
    simp only [impl_valuesFit.l0]
    rw [if_neg (by omega), List.drop_of_length_le (by omega), decide_eq_true (by simp [fitV])]
  | succ d ih =>
    intro k i hi hk
    obtain ⟨k, rfl, hk⟩ := kk_pred hk
    simp only [impl_valuesFit.l0, valueFits_f, Option.bind_some, decide_eq_true_eq]
    rw [if_pos (by omega), if_pos (by omega), if_pos (by omega), wS _ (by omega), ih k (i + 1) (by omega) (by omega), rdN _ _ (by omega), List.drop_eq_getElem_cons (by omega : i < l.length)]
    by_cases h : -1 ≤ l[i] ∧ l[i] ≤ 999999
    · rw [if_pos h]
      refine congrArg some (decide_eq_decide.2 ?_)
      simp only [fitV, List.forall_mem_cons, h, true_and]
    · rw [if_neg h, decide_eq_false]
      intro g
      exact h (g _ List.mem_cons_self)
theorem valuesFit_f (l : List Int) (hb : l.length < 4611686018427387904) (k : Nat) (hk : l.length < k) : impl_valuesFit.f k l = some (decide (fitV l)) := by
  have := valuesFit_l l hb l.length k 0 (by omega) hk
  simpa [impl_valuesFit.f] using this

theorem implTotal_l (l : List Int) (hl : l.length ≤ 16) (hf : fitV l) : ∀ d k i : Nat, l.length = i + d → d < k → impl_TotalOf.l0 k l l.length i (tot (known (l.take i))).1 (tot (known (l.take i))).2.1 (tot (known (l.take i))).2.2.1 (tot (known (l.take i))).2.2.2 = some (tot (known l)) := by
  intro d
  induction d with
  | zero =>
    intro k i hi hk
    obtain ⟨k, rfl, hk⟩ := kk_pred hk
    simp only [impl_TotalOf.l0]
    rw [if_neg (by omega), List.take_of_length_le (by omega)]
  | succ d ih =>
    intro k i hi hk
    obtain ⟨k, rfl, hk⟩ := kk_pred hk
    have hi' : i < l.length := by omega
    simp only [impl_TotalOf.l0]
    rw [if_pos (by omega), if_pos (by omega), if_pos (by omega), wS _ (by omega), rdN _ _ hi', ← ih k (i + 1) (by omega) (by omega), known_take_succ l i hi']
    have ht := isTot (known (l.take i))
    have hkn : Kn (known (l.take i)) := kn_known (fun x hx => hf x (List.mem_of_mem_take hx))
    have hkl := known_len (l.take i)
    have hs := kn_sum hkn
    have hv := hf l[i] (List.getElem_mem hi')
    rw [List.length_take] at hkl
    unfold impl_Total_with.f
    by_cases e : l[i] = -1
    · rw [if_pos e, if_pos e]
      simp
    · rw [if_neg e, if_neg e, tot_snoc]
      generalize tot (known (l.take i)) = t at *
      unfold stp
      by_cases h0 : t.1 = 0
      · rw [if_pos h0, if_pos h0]
        rfl
      · rw [if_neg h0, if_neg h0, wsm (n := t.1 + 1) (by have := ht.1; omega) (by have := ht.1; omega), wsm (n := t.2.1 + l[i]) (by have := ht.2.1; omega) (by have := ht.2.1; omega)]
        rfl
theorem implTotal_f (l : List Int) (hb : l.length < 4611686018427387904) (k : Nat) (hk : l.length + 2 < k) : impl_TotalOf.f k l = some (totalOf l) := by
  obtain ⟨k, rfl, hk⟩ := kk_pred hk
  unfold totalOf
  simp only [impl_TotalOf.f, impl_TotalOf.j0, impl_noTotal.f, Option.bind_some, valuesFit_f l hb (k + 1) (by omega)]
  by_cases h : l.length ≤ 16
  · rw [if_neg (by omega : ¬ (l.length : Int) > 16)]
    by_cases hf : fitV l
    · have e : (if l.length ≤ 16 ∧ fitV l then tot (known l) else (0, 0, 0, 0)) = tot (known l) := if_pos ⟨h, hf⟩
      have e2 : (!decide (fitV l)) = false := by simp [hf]
      rw [e, e2]
      simp only [Bool.false_eq_true, if_false]
      exact implTotal_l l h hf l.length k 0 (by omega) (by omega)
    · have e : (if l.length ≤ 16 ∧ fitV l then tot (known l) else (0, 0, 0, 0)) = (0, 0, 0, 0) := if_neg (fun g => hf g.2)
      have e2 : (!decide (fitV l)) = true := by simp [hf]
      rw [e, e2]
      simp only [if_true]
  · have e : (if l.length ≤ 16 ∧ fitV l then tot (known l) else (0, 0, 0, 0)) = (0, 0, 0, 0) := if_neg (fun g => h g.1)
    rw [e, if_pos (by omega : (l.length : Int) > 16)]
    simp only [if_true]

theorem eqIntS_l (l m : List Int) (hl : l.length = m.length) (hb : l.length < 4611686018427387904) : ∀ d k i : Nat, l.length = i + d → d < k → laws_eqIntS.l0 k l m i = some (decide (l.drop i = m.drop i)) := by
  intro d
  induction d with
  | zero =>
    intro k i hi hk
    obtain ⟨k, rfl, hk⟩ := kk_pred hk
    simp only [laws_eqIntS.l0]
    rw [if_neg (by omega), List.drop_of_length_le (by omega), List.drop_of_length_le (by omega)]
    simp
  | succ d ih =>
    intro k i hi hk
    obtain ⟨k, rfl, hk⟩ := kk_pred hk
    simp only [laws_eqIntS.l0]
    rw [if_pos (by omega), if_pos (by omega), if_pos (by omega), rdN _ _ (by omega), rdN _ _ (by omega), wS _ (by omega), List.drop_eq_getElem_cons (by omega : i < l.length), List.drop_eq_getElem_cons (by omega : i < m.length)]
    by_cases e : l[i] = m[i]
    · rw [if_pos e, ih k (i + 1) (by omega) (by omega), e]
      simp only [List.cons.injEq, true_and]
    · rw [if_neg e]
      simp only [List.cons.injEq, e, false_and, decide_false]
theorem eqIntS_f (l m : List Int) (hb : l.length < 4611686018427387904) (k : Nat) (hk : l.length < k) : laws_eqIntS.f k l m = some (decide (l = m)) := by
  unfold laws_eqIntS.f
  by_cases h : l.length = m.length
  · rw [if_pos (by omega)]
    have := eqIntS_l l m h hb l.length k 0 (by omega) hk
    simpa using this
  · rw [if_neg (by omega)]
    have : ¬ l = m := fun e => h (by rw [e])
    simp [this]

end Go.Proofs.Ytloiafnoekpaoaa.PFnExactTotalOf
namespace Go.Proofs.Ytloiafnoekpaoaa.Pure
open Go.RowKit Go.Proofs.Ytloiafnoekpaoaa.PFnExactTotalOf Go.Proofs.YtloiafnoekpaoaaW.PrintWords Go.Proofs.YtloiafnoekpaoaaW.PrintLast Go.Proofs.YtloiafnoekpaoaaW.PrintMore
theorem FnExactTotalOf : laws_FnExactTotalOf.Pure := by
  intro l hl hl8 hw
  refine ⟨l.length + 50, ?_⟩
  unfold laws_FnExactTotalOf.f
  by_cases h : (l.length : Int) > 1048576
  · rw [if_pos h]
  · rw [if_neg h]
    simp only [toIntS_f l (by omega) (l.length + 50) (by omega), Option.bind_some, specTotal_f l (by omega) (l.length + 50) (by omega), implTotal_f l (by omega) (l.length + 50) (by omega), eqIntS_f l l (by omega) (l.length + 50) (by omega), laws_eqTotal.f, if_true, decide_true]

end Go.Proofs.Ytloiafnoekpaoaa.Pure
