/- The program's TurnOrder returns what the reference's returns, for all arguments. No further condition. -/
import Derived.Test.YtokjmppkiihdlaaPFnExactTurnOrderx
import Derived.Test.YtokjmppkiihdlaaL
set_option linter.unusedVariables false
set_option linter.unusedSimpArgs false
namespace Go.Proofs.Ytokjmppkiihdlaa.PFnExactTurnOrder
open Go.RowKit Go.Proofs.YtokjmppkiihdlaaW.PrintWords Go.Proofs.YtokjmppkiihdlaaW.PrintLast Go.Proofs.YtokjmppkiihdlaaW.PrintMore
theorem eqIntS_l (l m : List Int) (hl : l.length = m.length) (hb : l.length < 4611686018427387904) : ∀ d k i : Nat, l.length = i + d → d < k → laws_eqIntS.l0 k l m i = some (decide (l.drop i = m.drop i)) := by
  intro d
  induction d with
  | zero =>
    intro k i hi hk
    obtain ⟨k, rfl, hk⟩ := kk_pred hk
    simp only [laws_eqIntS.l0]
    rw [if_neg (by omega), List.drop_of_length_le (by omega), List.drop_of_length_le (by omega)]
    simp
  | succ d ih =>
    intro k i hi hk
    obtain ⟨k, rfl, hk⟩ := kk_pred hk
    simp only [laws_eqIntS.l0]
    rw [if_pos (by omega), if_pos (by omega), if_pos (by omega), rdN _ _ (by omega), rdN _ _ (by omega), wS _ (by omega), List.drop_eq_getElem_cons (by omega : i < l.length), List.drop_eq_getElem_cons (by omega : i < m.length)]
    by_cases e : l[i] = m[i]
    · rw [if_pos e, ih k (i + 1) (by omega) (by omega), e]
      simp only [List.cons.injEq, true_and]
    · rw [if_neg e]
      simp only [List.cons.injEq, e, false_and, decide_false]
theorem eqIntS_f (l m : List Int) (hb : l.length < 4611686018427387904) (k : Nat) (hk : l.length < k) : laws_eqIntS.f k l m = some (decide (l = m)) := by
  unfold laws_eqIntS.f
  by_cases h : l.length = m.length
  · rw [if_pos (by omega)]
    have := eqIntS_l l m h hb l.length k 0 (by omega) hk
    simpa using this
  · rw [if_neg (by omega)]
    have : ¬ l = m := fun e => h (by rw [e])
    simp [this]

theorem l1In_f (a b c : Int) : spec_l1In.f a b c = some (decide (b ≤ a ∧ a ≤ c)) := by
  unfold spec_l1In.f
  by_cases h : b ≤ a
  · rw [if_pos h]; simp [h]
  · rw [if_neg h]; simp [h]

theorem specTurn_l (a : Int) (n : Nat) (b : Int) (h : a = n) (h1 : 1 ≤ n) (hn : n ≤ 6) (hb : 0 ≤ b) : ∀ d k i : Nat, n = i + d → d < k → spec_TurnOrder.l0 k a b ((List.range i).map fun (i : Nat) => Int.tmod (wrap64 (Int.tmod b a + (i : Int))) a) i = some ((List.range n).map fun (i : Nat) => Int.tmod (wrap64 (Int.tmod b a + (i : Int))) a) := by
  intro d
  induction d with
  | zero =>
    intro k i hi hk
    obtain ⟨k, rfl, hk⟩ := kk_pred hk
    obtain rfl : n = i := by omega
    simp only [spec_TurnOrder.l0]
    rw [if_neg (by omega)]
  | succ d ih =>
    intro k i hi hk
    obtain ⟨k, rfl, hk⟩ := kk_pred hk
    simp only [spec_TurnOrder.l0, l1In_f, Option.bind_some, decide_eq_true_eq]
    rw [if_pos (by omega), if_pos (by omega), if_pos (by omega), if_neg (by omega), if_pos (by simp; omega), wS _ (by omega), ← ih k (i + 1) (by omega) (by omega), List.range_succ, List.map_append]
    rfl
theorem specTurn_f (a b : Int) (k : Nat) (hk : 20 < k) : spec_TurnOrder.f k a b = some (if (1 ≤ a ∧ a ≤ 6) ∧ 0 ≤ b then (List.range a.toNat).map fun (i : Nat) => Int.tmod (wrap64 (Int.tmod b a + (i : Int))) a else []) := by
  unfold spec_TurnOrder.f
  by_cases h : (1 ≤ a ∧ a ≤ 6) ∧ 0 ≤ b
  · rw [if_pos h]
    obtain ⟨n, rfl⟩ := Int.eq_ofNat_of_zero_le (a := a) (by omega)
    exact specTurn_l n n b rfl (by omega) (by omega) h.2 n k 0 (by omega) (by omega)
  · rw [if_neg h]
    obtain ⟨k, rfl, hk⟩ := kk_pred hk
    simp only [spec_TurnOrder.l0, l1In_f, Option.bind_some, decide_eq_true_eq]
    by_cases h0 : 0 < a
    · rw [if_pos h0]
      by_cases h1 : 1 ≤ a ∧ a ≤ 6
      · rw [if_pos h1, if_neg (by omega)]
      · rw [if_neg h1]
    · rw [if_neg h0]

def turnL (a b : Int) (n : Nat) : List Int := (List.range n).map fun (i : Nat) => Int.tmod (wrap64 (Int.tmod b a + (i : Int))) a
theorem turnL_length (a b : Int) (n : Nat) : (turnL a b n).length = n := by simp [turnL]
theorem turnL_succ (a b : Int) (n : Nat) : turnL a b (n + 1) = turnL a b n ++ [Int.tmod (wrap64 (Int.tmod b a + (n : Int))) a] := by
  unfold turnL
  rw [List.range_succ, List.map_append]
  rfl
def turnR (a b : Int) : List Int := if (1 ≤ a ∧ a ≤ 6) ∧ 0 ≤ b then turnL a b a.toNat else []
theorem turnR_len (a b : Int) : (turnR a b).length ≤ 6 := by
  unfold turnR
  split
  · rw [turnL_length]; omega
  · simp
theorem turnOrder_l (a : Int) (n : Nat) (b : Int) (ha : a ≠ 0) (hn : n ≤ 6) : ∀ d k i : Nat, ∀ o : List Int, o.length = n → o.take i = turnL a b i → n = i + d → d < k → impl_TurnOrder.l0 k a b o n i = some (turnL a b n) := by
  intro d
  induction d with
  | zero =>
    intro k i o ho ht hi hk
    obtain ⟨k, rfl, hk⟩ := kk_pred hk
    obtain rfl : n = i := by omega
    simp only [impl_TurnOrder.l0]
    rw [if_neg (by omega), ← ht, ← ho, List.take_length]
  | succ d ih =>
    intro k i o ho ht hi hk
    obtain ⟨k, rfl, hk⟩ := kk_pred hk
    simp only [impl_TurnOrder.l0]
    rw [if_pos (by omega), if_neg ha, if_pos (by omega), if_pos (by omega), wS _ (by omega), Int.toNat_natCast]
    exact ih k (i + 1) _ (by simpa using ho) (by rw [take_set_succ _ _ _ (by omega), ht, turnL_succ]) (by omega) (by omega)
theorem turnOrder_f (a b : Int) (k : Nat) (hk : 20 < k) : impl_TurnOrder.f k a b = some (turnR a b) := by
  obtain ⟨k, rfl, hk⟩ := kk_pred hk
  unfold impl_TurnOrder.f impl_workersFit.f turnR
  by_cases h1 : 1 ≤ a ∧ a ≤ 6
  · rw [if_pos h1.1]
    simp only [Option.bind_some, decide_eq_true_eq, h1.2, if_true, impl_TurnOrder.j0]
    by_cases h2 : b < 0
    · rw [if_pos h2, if_neg (by omega)]
    · obtain ⟨n, rfl⟩ := Int.eq_ofNat_of_zero_le (a := a) (by omega)
      rw [if_neg h2, if_pos (by omega), if_pos (by omega), if_pos ⟨⟨h1.1, trivial⟩, by omega⟩, Int.toNat_natCast, List.length_replicate]
      exact turnOrder_l n n b (by omega) (by omega) n k 0 _ (by simp) (by simp [turnL]) (by omega) (by omega)
  · have e : (if a ≥ 1 then some (decide (a ≤ 6)) else some false) = some false := by
      by_cases h : 1 ≤ a
      · rw [if_pos h]; simp; omega
      · rw [if_neg h]
    rw [e, if_neg (fun h => h1 h.1)]
    simp [impl_TurnOrder.j0]

theorem markIntS_l (n : Nat) (m : Int) (h0 : 0 ≤ m) (hm : m + n < 4611686018427387904) : ∀ d k i : Nat, ∀ l : List Int, l.length = n → l.take i = iota m i → n = i + d → d < k → laws_markIntS.l0 k l (m + i) i = some (m + n, iota m n) := by
  intro d
  induction d with
  | zero =>
    intro k i l hl ht hi hk
    obtain ⟨k, rfl, hk⟩ := kk_pred hk
    simp only [laws_markIntS.l0]
    rw [if_neg (by omega)]
    obtain rfl : n = i := by omega
    rw [← ht, ← hl, List.take_length]
  | succ d ih =>
    intro k i l hl ht hi hk
    obtain ⟨k, rfl, hk⟩ := kk_pred hk
    simp only [laws_markIntS.l0]
    rw [if_pos (by omega), if_pos (by omega), wS _ (by omega), Int.toNat_natCast]
    have e : wrap64 (m + (i : Int) + 1) = m + ((i + 1 : Nat) : Int) := by unfold wrap64; omega
    rw [e]
    exact ih k (i + 1) _ (by simpa using hl) (by rw [take_set_succ _ _ _ (by omega), ht, iota_succ]) (by omega) (by omega)
theorem markIntS_f (l : List Int) (m : Int) (h0 : 0 ≤ m) (hm : m + l.length < 4611686018427387904) (k : Nat) (hk : l.length < k) : laws_markIntS.f k l m = some (m + l.length, iota m l.length) := by
  have := markIntS_l l.length m h0 hm l.length k 0 l rfl (by simp [iota]) (by omega) hk
  simpa [laws_markIntS.f] using this

theorem heldIntS_l (n : Nat) (m : Int) (h0 : 0 ≤ m) (hm : m + n < 4611686018427387904) : ∀ d k i : Nat, n = i + d → d < k → laws_heldIntS.l0 k (iota m n) (m + i) i = some (m + n) := by
  intro d
  induction d with
  | zero =>
    intro k i hi hk
    obtain ⟨k, rfl, hk⟩ := kk_pred hk
    simp only [laws_heldIntS.l0, iota_length]
    rw [if_neg (by omega)]
    obtain rfl : n = i := by omega
    rfl
  | succ d ih =>
    intro k i hi hk
    obtain ⟨k, rfl, hk⟩ := kk_pred hk
    simp only [laws_heldIntS.l0, iota_length]
    rw [if_pos (by omega), if_pos (by omega), wS _ (by omega), rdN _ _ (by simp [iota]; omega), iota_get, if_pos rfl]
    have e : wrap64 (m + (i : Int) + 1) = m + ((i + 1 : Nat) : Int) := by unfold wrap64; omega
    rw [e]
    exact ih k (i + 1) (by omega) (by omega)
theorem heldIntS_f (n : Nat) (m : Int) (h0 : 0 ≤ m) (hm : m + n < 4611686018427387904) (k : Nat) (hk : n < k) : laws_heldIntS.f k (iota m n) m = some (m + n) := by
  have := heldIntS_l n m h0 hm n k 0 (by omega) hk
  simpa [laws_heldIntS.f] using this

end Go.Proofs.Ytokjmppkiihdlaa.PFnExactTurnOrder
namespace Go.Proofs.Ytokjmppkiihdlaa.Pure
open Go.RowKit Go.Proofs.Ytokjmppkiihdlaa.PFnExactTurnOrder Go.Proofs.YtokjmppkiihdlaaW.PrintWords Go.Proofs.YtokjmppkiihdlaaW.PrintLast Go.Proofs.YtokjmppkiihdlaaW.PrintMore
theorem FnExactTurnOrder : laws_FnExactTurnOrder.Pure := by
  intro a b ha hb
  refine ⟨200, ?_⟩
  have hl := turnR_len a b
  have hs : spec_TurnOrder.f 200 a b = some (turnR a b) := specTurn_f a b 200 (by omega)
  simp only [laws_FnExactTurnOrder.f, hs, turnOrder_f a b 200 (by omega)]
  generalize turnR a b = r at *
  simp only [Option.bind_some, eqIntS_f _ _ (by omega : r.length < 4611686018427387904) 200 (by omega), decide_true, if_true, markIntS_f r 1 (by omega) (by omega) 200 (by omega), heldIntS_f r.length 1 (by omega) (by omega) 200 (by omega)]
  rw [if_neg (by omega), if_neg (by omega)]

end Go.Proofs.Ytokjmppkiihdlaa.Pure
