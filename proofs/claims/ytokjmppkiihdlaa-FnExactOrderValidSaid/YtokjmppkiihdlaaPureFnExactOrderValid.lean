/- The program's OrderValid returns what the reference's returns, for all arguments. No further condition. -/
import Derived.Test.YtokjmppkiihdlaaPFnExactOrderValidx1
import Derived.Test.YtokjmppkiihdlaaL
set_option linter.unusedVariables false
set_option linter.unusedSimpArgs false
namespace Go.Proofs.Ytokjmppkiihdlaa.PFnExactOrderValid
open Go.RowKit Go.Proofs.YtokjmppkiihdlaaW.PrintWords Go.Proofs.YtokjmppkiihdlaaW.PrintLast Go.Proofs.YtokjmppkiihdlaaW.PrintMore
theorem l1In_f (a b c : Int) : spec_l1In.f a b c = some (decide (b ≤ a ∧ a ≤ c)) := by
  unfold spec_l1In.f
  by_cases h : b ≤ a
  · rw [if_pos h]; simp [h]
  · rw [if_neg h]; simp [h]

def seenL (l : List Int) : List Bool := (List.range 6).map fun (i : Nat) => decide ((i : Int) ∈ l)
theorem seenL_length (l : List Int) : (seenL l).length = 6 := by simp [seenL]
theorem seenL_rd (l : List Int) (x : Nat) (h : x < 6) : rdOf false (seenL l) (x : Int) = decide ((x : Int) ∈ l) := by
  rw [rdOfN _ _ _ (by simpa [seenL] using h)]
  simp [seenL]
theorem seenL_set (l : List Int) (x : Nat) (h : x < 6) : (seenL l).set x true = seenL (l ++ [(x : Int)]) := by
  apply List.ext_getElem
  · simp [seenL]
  · intro j h1 h2
    rw [List.getElem_set]
    simp only [seenL, List.getElem_map, List.getElem_range, List.mem_append, List.mem_singleton]
    by_cases e : x = j
    · subst e; simp
    · rw [if_neg e]
      have : ¬ (j : Int) = (x : Int) := by omega
      simp [this]
theorem specOrder_l (l : List Int) (n : Int) (h1 : 1 ≤ n) (h6 : n ≤ 6) (hl : l.length ≤ 6) : ∀ d k i : Nat, l.length = i + d → d < k → (∀ j : Nat, j < i → 0 ≤ rd l j ∧ rd l j < n ∧ rd l j ∉ l.take j) → spec_OrderValid.l0 k l n (seenL (l.take i)) i = some (ordOk l n) := by
  intro d
  induction d with
  | zero =>
    intro k i hi hk hg
    obtain ⟨k, rfl, hk⟩ := kk_pred hk
    simp only [spec_OrderValid.l0]
    rw [if_neg (by omega), ordOk_all (fun j hj => hg j (by omega))]
  | succ d ih =>
    intro k i hi hk hg
    obtain ⟨k, rfl, hk⟩ := kk_pred hk
    have hw : wrap64 (n - 1) = n - 1 := by unfold wrap64; omega
    simp only [spec_OrderValid.l0, l1In_f, Option.bind_some, decide_eq_true_eq, hw]
    rw [if_pos (by omega), if_pos (by omega)]
    by_cases hr : 0 ≤ rd l i ∧ rd l i ≤ n - 1
    · obtain ⟨x, hx⟩ : ∃ x : Nat, rd l i = (x : Int) := ⟨(rd l i).toNat, by omega⟩
      have hx6 : x < 6 := by omega
      rw [if_pos hr, if_pos hr.1, if_pos (by rw [seenL_length]; omega), hx, seenL_rd _ _ hx6]
      by_cases hm : (x : Int) ∈ l.take i
      · rw [if_pos (by simpa using hm), ordOk_bad (k := i) (by omega) (fun h => h.2.2 (by rw [hx]; exact hm))]
      · rw [if_neg (by simpa using hm), Int.toNat_natCast, seenL_set _ _ hx6, wS _ (by omega), ← hx, ← take_snoc_rd l i (by omega)]
        exact ih k (i + 1) (by omega) (by omega) (fun j hj => if e : j = i then e ▸ ⟨hr.1, by omega, by rw [hx]; exact hm⟩ else hg j (by omega))
    · rw [if_neg hr, ordOk_bad (k := i) (by omega) (fun h => hr ⟨h.1, by omega⟩)]
theorem specOrder_f (l : List Int) (n : Int) (k : Nat) (hk : 20 < k) : spec_OrderValid.f k l n = impl_OrderValid.f l n := by
  obtain ⟨k, rfl, hk⟩ := kk_pred hk
  simp only [spec_OrderValid.f, impl_OrderValid.f, l1In_f, Option.bind_some, decide_eq_true_eq, spec_OrderValid.j0]
  by_cases h1 : 1 ≤ n ∧ n ≤ 6
  · rw [if_pos h1]
    by_cases h2 : (l.length : Int) = n
    · rw [if_neg (by simp [h2]), if_pos (by omega)]
      have hz : List.replicate 6 false = seenL (l.take 0) := by simp [seenL]; rfl
      have := specOrder_l l n h1.1 h1.2 (by omega) l.length k 0 (by omega) (by omega) (fun j hj => by omega)
      rw [hz]
      refine Eq.trans this ?_
      simp [h1, h2]
    · rw [if_pos (by simp [h2])]
      simp [h2]
  · rw [if_neg h1]
    have : ¬ (1 ≤ n ∧ n ≤ 6 ∧ (l.length : Int) = n) := fun h => h1 ⟨h.1, h.2.1⟩
    simp [this]

theorem toIntS_l (l : List Int) (hb : l.length < 4611686018427387904) : ∀ d k i : Nat, ∀ o : List Int, o.length = l.length → o.take i = l.take i → l.length = i + d → d < k → laws_toIntS.l0 k l o i = some l := by
  intro d
  induction d with
  | zero =>
    intro k i o ho ht hi hk
    obtain ⟨k, rfl, hk⟩ := kk_pred hk
    simp only [laws_toIntS.l0]
    rw [if_neg (by omega)]
    obtain rfl : l.length = i := by omega
    rw [List.take_length, ← ho, List.take_length] at ht
    rw [ht]
  | succ d ih =>
    intro k i o ho ht hi hk
    obtain ⟨k, rfl, hk⟩ := kk_pred hk
    simp only [laws_toIntS.l0]
    rw [if_pos (by omega), if_pos (by omega), if_pos (by omega), wS _ (by omega), Int.toNat_natCast, rdN _ _ (by omega)]
    exact ih k (i + 1) _ (by simpa using ho) (by rw [take_set_succ _ _ _ (by omega), ht, List.take_succ_eq_append_getElem (by omega)]) (by omega) (by omega)
theorem toIntS_f (l : List Int) (hb : l.length ≤ 1048576) (k : Nat) (hk : l.length < k) : laws_toIntS.f k l = some l := by
  have := toIntS_l l (by omega) l.length k 0 (List.replicate l.length 0) (by simp) (by simp) (by omega) hk
  unfold laws_toIntS.f
  rw [if_pos (by omega), if_pos (by omega)]
  simpa using this

theorem eqIntS_l (l m : List Int) (hl : l.length = m.length) (hb : l.length < 4611686018427387904) : ∀ d k i : Nat, l.length = i + d → d < k → laws_eqIntS.l0 k l m i = some (decide (l.drop i = m.drop i)) := by
  intro d
  induction d with
  | zero =>
    intro k i hi hk
    obtain ⟨k, rfl, hk⟩ := kk_pred hk
    simp only [laws_eqIntS.l0]
    rw [if_neg (by omega), List.drop_of_length_le (by omega), List.drop_of_length_le (by omega)]
    simp
  | succ d ih =>
    intro k i hi hk
    obtain ⟨k, rfl, hk⟩ := kk_pred hk
    simp only [laws_eqIntS.l0]
    rw [if_pos (by omega), if_pos (by omega), if_pos (by omega), rdN _ _ (by omega), rdN _ _ (by omega), wS _ (by omega), List.drop_eq_getElem_cons (by omega : i < l.length), List.drop_eq_getElem_cons (by omega : i < m.length)]
    by_cases e : l[i] = m[i]
    · rw [if_pos e, ih k (i + 1) (by omega) (by omega), e]
      simp only [List.cons.injEq, true_and]
    · rw [if_neg e]
      simp only [List.cons.injEq, e, false_and, decide_false]
theorem eqIntS_f (l m : List Int) (hb : l.length < 4611686018427387904) (k : Nat) (hk : l.length < k) : laws_eqIntS.f k l m = some (decide (l = m)) := by
  unfold laws_eqIntS.f
  by_cases h : l.length = m.length
  · rw [if_pos (by omega)]
    have := eqIntS_l l m h hb l.length k 0 (by omega) hk
    simpa using this
  · rw [if_neg (by omega)]
    have : ¬ l = m := fun e => h (by rw [e])
    simp [this]

end Go.Proofs.Ytokjmppkiihdlaa.PFnExactOrderValid
namespace Go.Proofs.Ytokjmppkiihdlaa.Pure
open Go.RowKit Go.Proofs.Ytokjmppkiihdlaa.PFnExactOrderValid Go.Proofs.YtokjmppkiihdlaaW.PrintWords Go.Proofs.YtokjmppkiihdlaaW.PrintLast Go.Proofs.YtokjmppkiihdlaaW.PrintMore
theorem FnExactOrderValid : laws_FnExactOrderValid.Pure := by
  intro l n hl hl8 hw hn
  refine ⟨l.length + 30, ?_⟩
  unfold laws_FnExactOrderValid.f
  by_cases h : (l.length : Int) > 1048576
  · rw [if_pos h]
  · rw [if_neg h]
    simp only [toIntS_f l (by omega) (l.length + 30) (by omega), Option.bind_some, specOrder_f l n (l.length + 30) (by omega)]
    obtain ⟨r, hr⟩ : ∃ r, impl_OrderValid.f l n = some r := ⟨_, rfl⟩
    simp [hr, eqIntS_f l l (by omega) (l.length + 30) (by omega)]

end Go.Proofs.Ytokjmppkiihdlaa.Pure
