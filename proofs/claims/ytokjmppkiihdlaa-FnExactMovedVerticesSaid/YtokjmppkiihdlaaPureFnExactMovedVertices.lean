/- The program's MovedVertices returns what the reference's returns, for all arguments. No further condition. -/
import Derived.Test.YtokjmppkiihdlaaPFnExactMovedVerticesx2
import Derived.Test.YtokjmppkiihdlaaL
set_option linter.unusedVariables false
set_option linter.unusedSimpArgs false
namespace Go.Proofs.Ytokjmppkiihdlaa.PFnExactMovedVertices
open Go.RowKit Go.Proofs.YtokjmppkiihdlaaW.PrintWords Go.Proofs.YtokjmppkiihdlaaW.PrintLast Go.Proofs.YtokjmppkiihdlaaW.PrintMore
theorem eqIntS_l (l m : List Int) (hl : l.length = m.length) (hb : l.length < 4611686018427387904) : ∀ d k i : Nat, l.length = i + d → d < k → laws_eqIntS.l0 k l m i = some (decide (l.drop i = m.drop i)) := by
  intro d
  induction d with
  | zero =>
    intro k i hi hk
    obtain ⟨k, rfl, hk⟩ := kk_pred hk
    simp only [laws_eqIntS.l0]
    rw [if_neg (by omega), List.drop_of_length_le (by omega), List.drop_of_length_le (by omega)]
    simp
  | succ d ih =>
    intro k i hi hk
    obtain ⟨k, rfl, hk⟩ := kk_pred hk
    simp only [laws_eqIntS.l0]
    rw [if_pos (by omega), if_pos (by omega), if_pos (by omega), rdN _ _ (by omega), rdN _ _ (by omega), wS _ (by omega), List.drop_eq_getElem_cons (by omega : i < l.length), List.drop_eq_getElem_cons (by omega : i < m.length)]
    by_cases e : l[i] = m[i]
    · rw [if_pos e, ih k (i + 1) (by omega) (by omega), e]
      simp only [List.cons.injEq, true_and]
    · rw [if_neg e]
      simp only [List.cons.injEq, e, false_and, decide_false]
theorem eqIntS_f (l m : List Int) (hb : l.length < 4611686018427387904) (k : Nat) (hk : l.length < k) : laws_eqIntS.f k l m = some (decide (l = m)) := by
  unfold laws_eqIntS.f
  by_cases h : l.length = m.length
  · rw [if_pos (by omega)]
    have := eqIntS_l l m h hb l.length k 0 (by omega) hk
    simpa using this
  · rw [if_neg (by omega)]
    have : ¬ l = m := fun e => h (by rw [e])
    simp [this]

theorem markIntS_l (n : Nat) (m : Int) (h0 : 0 ≤ m) (hm : m + n < 4611686018427387904) : ∀ d k i : Nat, ∀ l : List Int, l.length = n → l.take i = iota m i → n = i + d → d < k → laws_markIntS.l0 k l (m + i) i = some (m + n, iota m n) := by
  intro d
  induction d with
  | zero =>
    intro k i l hl ht hi hk
    obtain ⟨k, rfl, hk⟩ := kk_pred hk
    simp only [laws_markIntS.l0]
    rw [if_neg (by omega)]
    obtain rfl : n = i := by omega
    rw [← ht, ← hl, List.take_length]
  | succ d ih =>
    intro k i l hl ht hi hk
    obtain ⟨k, rfl, hk⟩ := kk_pred hk
    simp only [laws_markIntS.l0]
    rw [if_pos (by omega), if_pos (by omega), wS _ (by omega), Int.toNat_natCast]
    have e : wrap64 (m + (i : Int) + 1) = m + ((i + 1 : Nat) : Int) := by unfold wrap64; omega
    rw [e]
    exact ih k (i + 1) _ (by simpa using hl) (by rw [take_set_succ _ _ _ (by omega), ht, iota_succ]) (by omega) (by omega)
theorem markIntS_f (l : List Int) (m : Int) (h0 : 0 ≤ m) (hm : m + l.length < 4611686018427387904) (k : Nat) (hk : l.length < k) : laws_markIntS.f k l m = some (m + l.length, iota m l.length) := by
  have := markIntS_l l.length m h0 hm l.length k 0 l rfl (by simp [iota]) (by omega) hk
  simpa [laws_markIntS.f] using this

theorem heldIntS_l (n : Nat) (m : Int) (h0 : 0 ≤ m) (hm : m + n < 4611686018427387904) : ∀ d k i : Nat, n = i + d → d < k → laws_heldIntS.l0 k (iota m n) (m + i) i = some (m + n) := by
  intro d
  induction d with
  | zero =>
    intro k i hi hk
    obtain ⟨k, rfl, hk⟩ := kk_pred hk
    simp only [laws_heldIntS.l0, iota_length]
    rw [if_neg (by omega)]
    obtain rfl : n = i := by omega
    rfl
  | succ d ih =>
    intro k i hi hk
    obtain ⟨k, rfl, hk⟩ := kk_pred hk
    simp only [laws_heldIntS.l0, iota_length]
    rw [if_pos (by omega), if_pos (by omega), wS _ (by omega), rdN _ _ (by simp [iota]; omega), iota_get, if_pos rfl]
    have e : wrap64 (m + (i : Int) + 1) = m + ((i + 1 : Nat) : Int) := by unfold wrap64; omega
    rw [e]
    exact ih k (i + 1) (by omega) (by omega)
theorem heldIntS_f (n : Nat) (m : Int) (h0 : 0 ≤ m) (hm : m + n < 4611686018427387904) (k : Nat) (hk : n < k) : laws_heldIntS.f k (iota m n) m = some (m + n) := by
  have := heldIntS_l n m h0 hm n k 0 (by omega) hk
  simpa [laws_heldIntS.f] using this

theorem l1In_f (a b c : Int) : spec_l1In.f a b c = some (decide (b ≤ a ∧ a ≤ c)) := by
  unfold spec_l1In.f
  by_cases h : b ≤ a
  · rw [if_pos h]; simp [h]
  · rw [if_neg h]; simp [h]

theorem specOwner_f (v n : Nat) (hv : v ≤ 15) (h1 : 1 ≤ n) (h6 : n ≤ 6) : spec_OwnerOf.f (v : Int) (n : Int) = some ((ownN n v : Nat) : Int) := by
  simp only [spec_OwnerOf.f, l1In_f, Option.bind_some]
  rw [if_pos (by simp; omega), if_pos (by simp; omega), if_neg (by omega)]
  have e : wrap64 (wrap64 (13 * (v : Int)) + 5) = ((13 * v + 5 : Nat) : Int) := by unfold wrap64; omega
  rw [e]
  rfl

theorem specMoved_bad (m a b : Int) (h : ¬ ((0 ≤ m ∧ m ≤ 16) ∧ (1 ≤ a ∧ a ≤ 6) ∧ 1 ≤ b ∧ b ≤ 6)) (k : Nat) (hk : 5 < k) : spec_MovedVertices.f k m a b = some [] := by
  obtain ⟨k, rfl, hk⟩ := kk_pred hk
  obtain ⟨k, rfl, hk⟩ := kk_pred (show 3 < k by omega)
  simp only [spec_MovedVertices.f, spec_MovedVertices.l0, spec_MovedVertices.j1, l1In_f, Option.bind_some, decide_eq_true_eq, Bool.false_eq_true, if_false]
  by_cases h0 : 0 < m
  · rw [if_pos h0]
    by_cases h1 : 0 ≤ m ∧ m ≤ 16
    · rw [if_pos h1]
      by_cases h2 : 1 ≤ a ∧ a ≤ 6
      · rw [if_pos h2, if_neg (by omega)]
      · rw [if_neg h2]
    · rw [if_neg h1]
  · rw [if_neg h0]
theorem specMoved_l (n a b : Nat) (hn : n ≤ 16) (ha : 1 ≤ a) (ha6 : a ≤ 6) (hb : 1 ≤ b) (hb6 : b ≤ 6) : ∀ d k i : Nat, n = i + d → 2 * d + 1 < k → spec_MovedVertices.l0 k n a b (movedL (i : Int) a b) i = some (movedL (n : Int) a b) := by
  intro d
  induction d with
  | zero =>
    intro k i hi hk
    obtain ⟨k, rfl, hk⟩ := kk_pred hk
    obtain ⟨k, rfl, hk⟩ := kk_pred (show 0 < k by omega)
    obtain rfl : n = i := by omega
    simp only [spec_MovedVertices.l0, spec_MovedVertices.j1, Bool.false_eq_true, if_false]
    rw [if_neg (by omega)]
  | succ d ih =>
    intro k i hi hk
    obtain ⟨k, rfl, hk⟩ := kk_pred hk
    obtain ⟨k, rfl, hk⟩ := kk_pred (show 2 * d + 1 < k by omega)
    simp only [spec_MovedVertices.l0, spec_MovedVertices.j1, l1In_f, Option.bind_some, decide_eq_true_eq]
    rw [if_pos (by omega), if_pos (by omega), if_pos (by omega), if_pos (by omega), specOwner_f i a (by omega) ha ha6, specOwner_f i b (by omega) hb hb6]
    simp only [Option.bind_some]
    rw [wS _ (by omega)]
    have hs := movedL_succ i a b
    have hl := movedL_len i a b
    rw [Int.toNat_natCast, Int.toNat_natCast] at hs
    by_cases e : ownN a i = ownN b i
    · rw [if_pos (by rw [e]), ← ih k (i + 1) (by omega) (by omega), hs]
      simp [e]
    · rw [if_neg (by omega), if_pos (by omega), ← ih k (i + 1) (by omega) (by omega), hs]
      simp [e]
theorem specMoved_f (m a b : Int) (k : Nat) (hk : 40 < k) : spec_MovedVertices.f k m a b = impl_MovedVertices.f m a b := by
  unfold impl_MovedVertices.f
  by_cases h : (0 ≤ m ∧ m ≤ 16) ∧ (1 ≤ a ∧ a ≤ 6) ∧ 1 ≤ b ∧ b ≤ 6
  · rw [if_pos h]
    obtain ⟨n, rfl⟩ := Int.eq_ofNat_of_zero_le h.1.1
    obtain ⟨a, rfl⟩ := Int.eq_ofNat_of_zero_le (a := a) (by omega)
    obtain ⟨b, rfl⟩ := Int.eq_ofNat_of_zero_le (a := b) (by omega)
    exact specMoved_l n a b (by omega) (by omega) (by omega) (by omega) (by omega) n k 0 (by omega) (by omega)
  · rw [if_neg h]
    exact specMoved_bad m a b h k (by omega)

end Go.Proofs.Ytokjmppkiihdlaa.PFnExactMovedVertices
namespace Go.Proofs.Ytokjmppkiihdlaa.Pure
open Go.RowKit Go.Proofs.Ytokjmppkiihdlaa.PFnExactMovedVertices Go.Proofs.YtokjmppkiihdlaaW.PrintWords Go.Proofs.YtokjmppkiihdlaaW.PrintLast Go.Proofs.YtokjmppkiihdlaaW.PrintMore
theorem FnExactMovedVertices : laws_FnExactMovedVertices.Pure := by
  intro a b c ha hb hc
  refine ⟨200, ?_⟩
  obtain ⟨r, hr, hl⟩ : ∃ r, impl_MovedVertices.f a b c = some r ∧ r.length ≤ 16 := by
    refine ⟨_, rfl, ?_⟩
    split
    · rename_i h
      obtain ⟨n, rfl⟩ := Int.eq_ofNat_of_zero_le h.1.1
      have := movedL_len n b c
      omega
    · simp
  simp only [laws_FnExactMovedVertices.f, specMoved_f a b c 200 (by omega), hr, Option.bind_some, eqIntS_f _ _ (by omega : r.length < 4611686018427387904) 200 (by omega), decide_true, if_true, markIntS_f r 1 (by omega) (by omega) 200 (by omega), heldIntS_f r.length 1 (by omega) (by omega) 200 (by omega)]
  rw [if_neg (by omega), if_neg (by omega)]

end Go.Proofs.Ytokjmppkiihdlaa.Pure
