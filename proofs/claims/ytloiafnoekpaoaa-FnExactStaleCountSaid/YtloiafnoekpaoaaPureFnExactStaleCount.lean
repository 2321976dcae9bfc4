/- The program's StaleCount returns what the reference's returns, for all arguments. No further condition. -/
import Derived.Test.YtloiafnoekpaoaaPFnExactStaleCountx
import Derived.Test.YtloiafnoekpaoaaL
import Derived.Test.YtloiafnoekpaoaaT
set_option linter.unusedVariables false
set_option linter.unusedSimpArgs false
namespace Go.Proofs.Ytloiafnoekpaoaa.PFnExactStaleCount
open Go.RowKit Go.Proofs.YtloiafnoekpaoaaW.PrintWords Go.Proofs.YtloiafnoekpaoaaW.PrintLast Go.Proofs.YtloiafnoekpaoaaW.PrintMore
theorem szLetterS_f (l : List S99) (hl : l.length ≤ 9223372036854775807) : laws_szLetterS.f l 1048576 = some (if l.length ≤ 1048576 then 1048576 - (l.length : Int) else -1) := by
  unfold laws_szLetterS.f
  have e : wrap64 (1048576 - (l.length : Int)) = 1048576 - (l.length : Int) := by unfold wrap64; omega
  rw [e]
  by_cases h : l.length ≤ 1048576
  · rw [if_neg (by omega), if_pos h]
  · rw [if_pos (by omega), if_neg h]
theorem szLetterS_g (l : List S99) (c : Int) (h0 : 0 ≤ c) (hc : c ≤ 1048576) (hl : l.length ≤ 9223372036854775807) : laws_szLetterS.f l c = some (if (l.length : Int) ≤ c then c - (l.length : Int) else -1) := by
  unfold laws_szLetterS.f
  have e : wrap64 (c - (l.length : Int)) = c - (l.length : Int) := by unfold wrap64; omega
  rw [e]
  by_cases h : (l.length : Int) ≤ c
  · rw [if_neg (by omega), if_pos h]
  · rw [if_pos (by omega), if_neg h]

theorem l1In_f (a b c : Int) : spec_l1In.f a b c = some (decide (b ≤ a ∧ a ≤ c)) := by
  unfold spec_l1In.f
  by_cases h : b ≤ a
  · rw [if_pos h]; simp [h]
  · rw [if_neg h]; simp [h]

theorem rdT_29 (xs : List S29) (i : Nat) (h : i < xs.length) : rd_T29 xs (i : Int) = xs[i] := by simp [rd_T29, h]
theorem specLetters_l (l : List S29) (hb : l.length < 4611686018427387904) : ∀ d k i : Nat, l.length = i + d → d < k → spec_LettersValid.l0 k l i = some (((l.drop i).all fun x => decide (0 ≤ x.f0 ∧ x.f0 ≤ 1000)) && decide (l.length ≤ 2000)) := by
  intro d
  induction d with
  | zero =>
    intro k i hi hk
    obtain ⟨k, rfl, hk⟩ := kk_pred hk
    simp only [spec_LettersValid.l0]
    rw [if_neg (by omega), List.drop_of_length_le (by omega)]
    simp
    omega
  | succ d ih =>
    intro k i hi hk
    obtain ⟨k, rfl, hk⟩ := kk_pred hk
    simp only [spec_LettersValid.l0, l1In_f, Option.bind_some, decide_eq_true_eq]
    rw [if_pos (by omega), if_pos (by omega), wS _ (by omega), ih k (i + 1) (by omega) (by omega), rdT_29 _ _ (by omega), List.drop_eq_getElem_cons (by omega : i < l.length), List.all_cons]
    by_cases h : 0 ≤ l[i].f0 ∧ l[i].f0 ≤ 1000
    · rw [if_pos h, decide_eq_true h, Bool.true_and]
    · rw [if_neg h, decide_eq_false h, Bool.false_and, Bool.false_and]
theorem specLetters_f (l : List S29) (hb : l.length < 4611686018427387904) (k : Nat) (hk : l.length < k) : spec_LettersValid.f k l = some ((l.all fun x => decide (0 ≤ x.f0 ∧ x.f0 ≤ 1000)) && decide (l.length ≤ 2000)) := by
  have := specLetters_l l hb l.length k 0 (by omega) hk
  simpa [spec_LettersValid.f] using this

theorem specStale_l (l : List S29) (a : Int) (hb : l.length < 4611686018427387904) : ∀ d k i : Nat, l.length = i + d → d < k → spec_StaleCount.l0 k l a (((l.take i).filter fun x => decide (x.f0 < a)).length : Nat) i = some ((l.filter fun x => decide (x.f0 < a)).length : Int) := by
  intro d
  induction d with
  | zero =>
    intro k i hi hk
    obtain ⟨k, rfl, hk⟩ := kk_pred hk
    simp only [spec_StaleCount.l0]
    rw [if_neg (by omega), List.take_of_length_le (by omega)]
  | succ d ih =>
    intro k i hi hk
    obtain ⟨k, rfl, hk⟩ := kk_pred hk
    have hi' : i < l.length := by omega
    have hr : rd_T29 l (i : Int) = l[i] := by simp [rd_T29, hi']
    have hlt := List.length_filter_le (fun x : S29 => decide (x.f0 < a)) (l.take i)
    rw [List.length_take] at hlt
    have e := ih k (i + 1) (by omega) (by omega)
    rw [List.take_succ_eq_append_getElem hi', List.filter_append, List.length_append] at e
    simp only [spec_StaleCount.l0, hr]
    rw [if_pos (by omega), if_pos (by omega)]
    rw [← e]
    have ei : wrap64 ((i : Int) + 1) = ((i + 1 : Nat) : Int) := wS _ (by omega)
    by_cases h : l[i].f0 < a
    · rw [if_pos h, wS _ (by omega), ei]
      simp [h]
    · rw [if_neg h, ei]
      simp [h]
def staleR (l : List S29) (a : Int) : Int := if ((l.all fun x => decide (0 ≤ x.f0 ∧ x.f0 ≤ 1000)) && decide (l.length ≤ 2000)) = true then ((l.filter fun x => decide (x.f0 < a)).length : Int) else -1
theorem specStale_f (l : List S29) (a : Int) (hb : l.length < 4611686018427387904) (k : Nat) (hk : l.length < k) : spec_StaleCount.f k l a = some (staleR l a) := by
  unfold spec_StaleCount.f staleR
  rw [specLetters_f l hb k hk, Option.bind_some]
  split
  · exact specStale_l l a hb l.length k 0 (by omega) hk
  · rfl

def toLetterC (x : S99) : S29 := ⟨x.f0, ⟨x.f1.f0, x.f1.f1, x.f1.f2⟩⟩
theorem rdS_99 (xs : List S99) (i : Nat) (h : i < xs.length) : rd_T99 xs (i : Int) = xs[i] := by simp [rd_T99, h]
theorem toLetterS_l (l : List S99) (hb : l.length < 4611686018427387904) : ∀ d k i : Nat, ∀ o : List S29, o.length = l.length → o.take i = (l.map toLetterC).take i → l.length = i + d → d < k → laws_toLetterS.l0 k l o i = some (l.map toLetterC) := by
  intro d
  induction d with
  | zero =>
    intro k i o ho ht hi hk
    obtain ⟨k, rfl, hk⟩ := kk_pred hk
    simp only [laws_toLetterS.l0]
    rw [if_neg (by omega)]
    obtain rfl : l.length = i := by omega
    exact congrArg some (eq_of_take (by simpa using ho) (by rw [ho]; exact ht))
  | succ d ih =>
    intro k i o ho ht hi hk
    obtain ⟨k, rfl, hk⟩ := kk_pred hk
    simp only [laws_toLetterS.l0, laws_toLetter.f, laws_toMessage.f, Option.bind_some]
    rw [if_pos (by omega), if_pos (by omega), if_pos (by omega), wS _ (by omega), Int.toNat_natCast, rdS_99 _ _ (by omega)]
    exact ih k (i + 1) _ (by simpa using ho) (by rw [take_set_succ _ _ _ (by omega), ht, List.take_succ_eq_append_getElem (by simp; omega), List.getElem_map]; rfl) (by omega) (by omega)
theorem toLetterS_f (l : List S99) (hb : l.length ≤ 1048576) (k : Nat) (hk : l.length < k) : laws_toLetterS.f k l = some (l.map toLetterC) := by
  have := toLetterS_l l (by omega) l.length k 0 (List.replicate l.length z29) (by simp) (by simp) (by omega) hk
  unfold laws_toLetterS.f
  rw [if_pos (by omega), if_pos (by omega)]
  simpa using this

theorem rdI_29 (xs : List S29) (i : Nat) (h : i < xs.length) : rd_T29 xs (i : Int) = xs[i] := by simp [rd_T29, h]
def lettersOk (l : List S29) : Bool := l.all fun x => decide (0 ≤ x.f0 ∧ x.f0 ≤ 1000)
theorem lettersValid_l (l : List S29) (hb : l.length < 4611686018427387904) : ∀ d k i : Nat, l.length = i + d → d < k → impl_LettersValid.l0 k l l.length i = some (lettersOk (l.drop i)) := by
  intro d
  induction d with
  | zero =>
    intro k i hi hk
    obtain ⟨k, rfl, hk⟩ := kk_pred hk
    simp only [impl_LettersValid.l0]
    rw [if_neg (by omega), List.drop_of_length_le (by omega)]
    rfl
  | succ d ih =>
    intro k i hi hk
    obtain ⟨k, rfl, hk⟩ := kk_pred hk
    have e : impl_epochFits.f (rd_T29 l (i : Int)).f0 = some (decide (0 ≤ (rd_T29 l (i : Int)).f0 ∧ (rd_T29 l (i : Int)).f0 ≤ 1000)) := by
      unfold impl_epochFits.f
      by_cases h : 0 ≤ (rd_T29 l (i : Int)).f0
      · rw [if_pos h]; simp [h]
      · rw [if_neg h]; simp [h]
    simp only [impl_LettersValid.l0, e, Option.bind_some, decide_eq_true_eq]
    rw [if_pos (by omega), if_pos (by omega), if_pos (by omega), wS _ (by omega), ih k (i + 1) (by omega) (by omega), rdI_29 _ _ (by omega), List.drop_eq_getElem_cons (by omega : i < l.length)]
    unfold lettersOk
    rw [List.all_cons]
    by_cases h : 0 ≤ l[i].f0 ∧ l[i].f0 ≤ 1000
    · rw [if_pos h, decide_eq_true h, Bool.true_and]
    · rw [if_neg h, decide_eq_false h, Bool.false_and]
theorem lettersValid_f (l : List S29) (hb : l.length < 4611686018427387904) (k : Nat) (hk : l.length < k) : impl_LettersValid.f k l = some (decide (l.length ≤ 2000) && lettersOk l) := by
  unfold impl_LettersValid.f
  by_cases h : (l.length : Int) > 2000
  · rw [if_pos h, decide_eq_false (by omega), Bool.false_and]
  · rw [if_neg h, decide_eq_true (by omega), Bool.true_and]
    have := lettersValid_l l hb l.length k 0 (by omega) hk
    simpa using this

theorem implStale_f (l : List S29) (a : Int) (hb : l.length < 4611686018427387904) (k : Nat) (hk : l.length < k) : impl_StaleCount.f k l a = some (staleR l a) := by
  have e : (decide (l.length ≤ 2000) && lettersOk l) = ((l.all fun x => decide (0 ≤ x.f0 ∧ x.f0 ≤ 1000)) && decide (l.length ≤ 2000)) := by unfold lettersOk; rw [Bool.and_comm]
  have e2 : wantedL (staleP a) l l.length = l.filter fun x => decide (x.f0 < a) := by
    unfold wantedL
    rw [List.take_length]
    rfl
  unfold impl_StaleCount.f staleR
  rw [lettersValid_f l hb k hk, Option.bind_some, e, e2]
  exact (apply_ite some _ _ _).symm

theorem eqLetterS_l (l : List S29) (hb : l.length < 4611686018427387904) : ∀ d k i : Nat, l.length = i + d → d < k → laws_eqLetterS.l0 k l l i = some true := by
  intro d
  induction d with
  | zero =>
    intro k i hi hk
    obtain ⟨k, rfl, hk⟩ := kk_pred hk
    simp only [laws_eqLetterS.l0]
    rw [if_neg (by omega)]
  | succ d ih =>
    intro k i hi hk
    obtain ⟨k, rfl, hk⟩ := kk_pred hk
    simp only [laws_eqLetterS.l0, laws_eqLetter.f, laws_eqMessage.f, if_true, Option.bind_some]
    rw [if_pos (by omega), if_pos (by omega), if_pos (by omega), wS _ (by omega)]
    exact ih k (i + 1) (by omega) (by omega)
theorem eqLetterS_f (l : List S29) (hb : l.length < 4611686018427387904) (k : Nat) (hk : l.length < k) : laws_eqLetterS.f k l l = some true := by
  have := eqLetterS_l l hb l.length k 0 (by omega) hk
  simpa [laws_eqLetterS.f] using this

end Go.Proofs.Ytloiafnoekpaoaa.PFnExactStaleCount
namespace Go.Proofs.Ytloiafnoekpaoaa.Pure
open Go.RowKit Go.Proofs.Ytloiafnoekpaoaa.PFnExactStaleCount Go.Proofs.YtloiafnoekpaoaaW.PrintWords Go.Proofs.YtloiafnoekpaoaaW.PrintLast Go.Proofs.YtloiafnoekpaoaaW.PrintMore
theorem FnExactStaleCount (l : List S99) (a : Int) {p q : Prop} (h0 : l.length ≤ maxLen ∧ p) (_ : q) : ∃ k, laws_FnExactStaleCount.f k l a = some true := by
  refine ⟨l.length + 1, ?_⟩
  have hl : l.length ≤ 9223372036854775807 := by have := h0.1; unfold maxLen at this; omega
  unfold laws_FnExactStaleCount.f
  rw [szLetterS_f l hl]
  by_cases h : l.length ≤ 1048576
  · simp only [if_pos h, Option.bind_some, toLetterS_f l h (l.length + 1) (by omega)]
    have hm : (l.map toLetterC).length = l.length := by simp
    generalize l.map toLetterC = m at *
    simp only [Option.bind_some, specStale_f m a (by omega) (l.length + 1) (by omega), implStale_f m a (by omega) (l.length + 1) (by omega), eqLetterS_f m (by omega) (l.length + 1) (by omega), if_true]
    rw [if_neg (by omega)]
  · simp only [if_neg h, Option.bind_some]
    rw [if_pos (by omega)]

end Go.Proofs.Ytloiafnoekpaoaa.Pure
