/- The program's StampMessages returns what the reference's returns, for all arguments. No further condition. -/
import Derived.Test.YtloiafnoekpaoaaPFnExactStampMessagesx
import Derived.Test.YtloiafnoekpaoaaL
import Derived.Test.YtloiafnoekpaoaaT
set_option linter.unusedVariables false
set_option linter.unusedSimpArgs false
namespace Go.Proofs.Ytloiafnoekpaoaa.PFnExactStampMessages
open Go.RowKit Go.Proofs.YtloiafnoekpaoaaW.PrintWords Go.Proofs.YtloiafnoekpaoaaW.PrintLast Go.Proofs.YtloiafnoekpaoaaW.PrintMore
theorem eqLetterS_l (l : List S29) (hb : l.length < 4611686018427387904) : ∀ d k i : Nat, l.length = i + d → d < k → laws_eqLetterS.l0 k l l i = some true := by
  intro d
  induction d with
  | zero =>
    intro k i hi hk
    obtain ⟨k, rfl, hk⟩ := kk_pred hk
    simp only [laws_eqLetterS.l0]
    rw [if_neg (by omega)]
  | succ d ih =>
    intro k i hi hk
    obtain ⟨k, rfl, hk⟩ := kk_pred hk
    simp only [laws_eqLetterS.l0, laws_eqLetter.f, laws_eqMessage.f, if_true, Option.bind_some]
    rw [if_pos (by omega), if_pos (by omega), if_pos (by omega), wS _ (by omega)]
    exact ih k (i + 1) (by omega) (by omega)
theorem eqLetterS_f (l : List S29) (hb : l.length < 4611686018427387904) (k : Nat) (hk : l.length < k) : laws_eqLetterS.f k l l = some true := by
  have := eqLetterS_l l hb l.length k 0 (by omega) hk
  simpa [laws_eqLetterS.f] using this

theorem szMessageS_f (l : List S97) (hl : l.length ≤ 9223372036854775807) : laws_szMessageS.f l 1048576 = some (if l.length ≤ 1048576 then 1048576 - (l.length : Int) else -1) := by
  unfold laws_szMessageS.f
  have e : wrap64 (1048576 - (l.length : Int)) = 1048576 - (l.length : Int) := by unfold wrap64; omega
  rw [e]
  by_cases h : l.length ≤ 1048576
  · rw [if_neg (by omega), if_pos h]
  · rw [if_pos (by omega), if_neg h]
theorem szMessageS_g (l : List S97) (c : Int) (h0 : 0 ≤ c) (hc : c ≤ 1048576) (hl : l.length ≤ 9223372036854775807) : laws_szMessageS.f l c = some (if (l.length : Int) ≤ c then c - (l.length : Int) else -1) := by
  unfold laws_szMessageS.f
  have e : wrap64 (c - (l.length : Int)) = c - (l.length : Int) := by unfold wrap64; omega
  rw [e]
  by_cases h : (l.length : Int) ≤ c
  · rw [if_neg (by omega), if_pos h]
  · rw [if_pos (by omega), if_neg h]

theorem l1In_f (a b c : Int) : spec_l1In.f a b c = some (decide (b ≤ a ∧ a ≤ c)) := by
  unfold spec_l1In.f
  by_cases h : b ≤ a
  · rw [if_pos h]; simp [h]
  · rw [if_neg h]; simp [h]

/-- The letters that are stamped. -/
def stampL (l : List S27) (e : Int) : List S29 := l.map fun x => ⟨e, x⟩
def stampR (l : List S27) (e : Int) : List S29 := if l.length ≤ 2000 ∧ 0 ≤ e ∧ e ≤ 1000 then stampL l e else []
theorem stampL_take (l : List S27) (e : Int) (i : Nat) (h : i < l.length) : stampL (l.take (i + 1)) e = stampL (l.take i) e ++ [⟨e, l[i]⟩] := by
  unfold stampL
  rw [List.take_succ_eq_append_getElem h, List.map_append]
  rfl
theorem rdMsg (xs : List S27) (i : Nat) (h : i < xs.length) : rd_T27 xs (i : Int) = xs[i] := by simp [rd_T27, h]
theorem specStamp_l (l : List S27) (e : Int) (hl : l.length ≤ 2000) (he : 0 ≤ e ∧ e ≤ 1000) : ∀ d k i : Nat, l.length = i + d → d < k → spec_StampMessages.l0 k l e (stampL (l.take i) e) i = some (stampL l e) := by
  intro d
  induction d with
  | zero =>
    intro k i hi hk
    obtain ⟨k, rfl, hk⟩ := kk_pred hk
    simp only [spec_StampMessages.l0]
    rw [if_neg (by omega), List.take_of_length_le (by omega)]
  | succ d ih =>
    intro k i hi hk
    obtain ⟨k, rfl, hk⟩ := kk_pred hk
    have hlen : (stampL (l.take i) e).length ≤ 2000 := by simp [stampL]; omega
    simp only [spec_StampMessages.l0, l1In_f, Option.bind_some]
    rw [if_pos (by omega), if_pos (by omega), if_pos (by simpa using he), if_pos (by omega), if_pos (by omega), wS _ (by omega), rdMsg _ _ (by omega), ← stampL_take _ _ _ (by omega)]
    exact ih k (i + 1) (by omega) (by omega)
theorem specStamp_f (l : List S27) (e : Int) (k : Nat) (hk : 2001 < k) : spec_StampMessages.f k l e = some (stampR l e) := by
  unfold spec_StampMessages.f stampR
  by_cases h : l.length ≤ 2000 ∧ 0 ≤ e ∧ e ≤ 1000
  · rw [if_pos h]
    exact specStamp_l l e h.1 h.2 l.length k 0 (by omega) (by omega)
  · rw [if_neg h]
    obtain ⟨k, rfl, hk⟩ := kk_pred hk
    simp only [spec_StampMessages.l0, l1In_f, Option.bind_some]
    by_cases h1 : l.length ≤ 2000
    · have h2 : ¬ (0 ≤ e ∧ e ≤ 1000) := fun g => h ⟨h1, g⟩
      split
      · rw [if_pos (by omega), if_neg (by simpa using h2)]
      · rfl
    · split
      · rw [if_neg (by omega)]
      · rfl

def toMessageC (x : S97) : S27 := ⟨x.f0, x.f1, x.f2⟩
theorem rdS_97 (xs : List S97) (i : Nat) (h : i < xs.length) : rd_T97 xs (i : Int) = xs[i] := by simp [rd_T97, h]
theorem toMessageS_l (l : List S97) (hb : l.length < 4611686018427387904) : ∀ d k i : Nat, ∀ o : List S27, o.length = l.length → o.take i = (l.map toMessageC).take i → l.length = i + d → d < k → laws_toMessageS.l0 k l o i = some (l.map toMessageC) := by
  intro d
  induction d with
  | zero =>
    intro k i o ho ht hi hk
    obtain ⟨k, rfl, hk⟩ := kk_pred hk
    simp only [laws_toMessageS.l0]
    rw [if_neg (by omega)]
    obtain rfl : l.length = i := by omega
    exact congrArg some (eq_of_take (by simpa using ho) (by rw [ho]; exact ht))
  | succ d ih =>
    intro k i o ho ht hi hk
    obtain ⟨k, rfl, hk⟩ := kk_pred hk
    simp only [laws_toMessageS.l0, laws_toMessage.f, Option.bind_some]
    rw [if_pos (by omega), if_pos (by omega), if_pos (by omega), wS _ (by omega), Int.toNat_natCast, rdS_97 _ _ (by omega)]
    exact ih k (i + 1) _ (by simpa using ho) (by rw [take_set_succ _ _ _ (by omega), ht, List.take_succ_eq_append_getElem (by simp; omega), List.getElem_map]; rfl) (by omega) (by omega)
theorem toMessageS_f (l : List S97) (hb : l.length ≤ 1048576) (k : Nat) (hk : l.length < k) : laws_toMessageS.f k l = some (l.map toMessageC) := by
  have := toMessageS_l l (by omega) l.length k 0 (List.replicate l.length z27) (by simp) (by simp) (by omega) hk
  unfold laws_toMessageS.f
  rw [if_pos (by omega), if_pos (by omega)]
  simpa using this

theorem implStamp_l (l : List S27) (e : Int) (hl : l.length ≤ 2000) : ∀ d k i : Nat, l.length = i + d → d < k → impl_StampMessages.l0 k e (stampL (l.take i) e) l l.length i = some (stampL l e) := by
  intro d
  induction d with
  | zero =>
    intro k i hi hk
    obtain ⟨k, rfl, hk⟩ := kk_pred hk
    simp only [impl_StampMessages.l0]
    rw [if_neg (by omega), List.take_of_length_le (by omega)]
  | succ d ih =>
    intro k i hi hk
    obtain ⟨k, rfl, hk⟩ := kk_pred hk
    have hlen : (stampL (l.take i) e).length ≤ 2000 := by simp [stampL]; omega
    simp only [impl_StampMessages.l0]
    rw [if_pos (by omega), if_pos (by omega), if_pos (by omega), if_pos (by omega), wS _ (by omega), rdMsg _ _ (by omega), ← stampL_take _ _ _ (by omega)]
    exact ih k (i + 1) (by omega) (by omega)
theorem epochFits_f (a : Int) : impl_epochFits.f a = some (decide (0 ≤ a ∧ a ≤ 1000)) := by
  unfold impl_epochFits.f
  by_cases h : a ≥ 0
  · rw [if_pos h]
    exact congrArg some (decide_eq_decide.2 ⟨fun g => ⟨h, g⟩, fun g => g.2⟩)
  · rw [if_neg h, decide_eq_false (fun g => h g.1)]
theorem implStamp_f (l : List S27) (e : Int) (k : Nat) (hk : 2002 < k) : impl_StampMessages.f k l e = some (stampR l e) := by
  obtain ⟨k, rfl, hk⟩ := kk_pred hk
  unfold impl_StampMessages.f stampR
  by_cases h1 : l.length ≤ 2000
  · rw [if_neg (by omega), epochFits_f, Option.bind_some]
    by_cases h2 : 0 ≤ e ∧ e ≤ 1000
    · rw [if_pos ⟨h1, h2⟩, decide_eq_true h2]
      simp only [impl_StampMessages.j0, Bool.not_true, Bool.false_eq_true, if_false]
      rw [if_pos (by omega), if_pos (by omega)]
      exact implStamp_l l e h1 l.length k 0 (by omega) (by omega)
    · rw [if_neg (fun g => h2 g.2), decide_eq_false h2]
      simp [impl_StampMessages.j0]
  · rw [if_pos (by omega), if_neg (fun g => h1 g.1)]
    simp [impl_StampMessages.j0]
theorem stampR_len (l : List S27) (e : Int) : (stampR l e).length ≤ 2000 := by
  unfold stampR
  split
  · rename_i h
    simp [stampL]; exact h.1
  · simp

theorem eqMessageS_l (l : List S27) (hb : l.length < 4611686018427387904) : ∀ d k i : Nat, l.length = i + d → d < k → laws_eqMessageS.l0 k l l i = some true := by
  intro d
  induction d with
  | zero =>
    intro k i hi hk
    obtain ⟨k, rfl, hk⟩ := kk_pred hk
    simp only [laws_eqMessageS.l0]
    rw [if_neg (by omega)]
  | succ d ih =>
    intro k i hi hk
    obtain ⟨k, rfl, hk⟩ := kk_pred hk
    simp only [laws_eqMessageS.l0, laws_eqMessage.f, if_true, Option.bind_some]
    rw [if_pos (by omega), if_pos (by omega), if_pos (by omega), wS _ (by omega)]
    exact ih k (i + 1) (by omega) (by omega)
theorem eqMessageS_f (l : List S27) (hb : l.length < 4611686018427387904) (k : Nat) (hk : l.length < k) : laws_eqMessageS.f k l l = some true := by
  have := eqMessageS_l l hb l.length k 0 (by omega) hk
  simpa [laws_eqMessageS.f] using this

/-- Messages with the numbers from m on in their fields. -/
def iotaMessage (m : Int) (n : Nat) : List S27 := (List.range n).map fun (i : Nat) => ⟨m + 3 * (i : Int), m + 3 * (i : Int) + 1, m + 3 * (i : Int) + 2⟩
theorem iotaMessage_length (m : Int) (n : Nat) : (iotaMessage m n).length = n := by simp [iotaMessage]
theorem iotaMessage_succ (m : Int) (n : Nat) : iotaMessage m (n + 1) = iotaMessage m n ++ [⟨m + 3 * (n : Int), m + 3 * (n : Int) + 1, m + 3 * (n : Int) + 2⟩] := by
  unfold iotaMessage
  rw [List.range_succ, List.map_append]
  rfl
theorem rdMessage_set (l : List S27) (i : Nat) (v : S27) (h : i < l.length) : rd_T27 (l.set i v) (i : Int) = v := by simp [rd_T27, h]
theorem markMessageS_l (n : Nat) (m : Int) (h0 : 0 ≤ m) (hm : m + 3 * n < 4611686018427387904) : ∀ d k i : Nat, ∀ l : List S27, l.length = n → l.take i = iotaMessage m i → n = i + d → d < k → laws_markMessageS.l0 k l (m + 3 * i) i = some (m + 3 * n, iotaMessage m n) := by
  intro d
  induction d with
  | zero =>
    intro k i l hl ht hi hk
    obtain ⟨k, rfl, hk⟩ := kk_pred hk
    simp only [laws_markMessageS.l0]
    rw [if_neg (by omega)]
    obtain rfl : n = i := by omega
    rw [← ht, ← hl, List.take_length]
  | succ d ih =>
    intro k i l hl ht hi hk
    obtain ⟨k, rfl, hk⟩ := kk_pred hk
    have e1 : wrap64 (m + 3 * (i : Int) + 1) = m + 3 * (i : Int) + 1 := by unfold wrap64; omega
    have e2 : wrap64 (m + 3 * (i : Int) + 1 + 1) = m + 3 * (i : Int) + 2 := by unfold wrap64; omega
    have e3 : wrap64 (m + 3 * (i : Int) + 2 + 1) = m + 3 * ((i + 1 : Nat) : Int) := by unfold wrap64; omega
    simp only [laws_markMessageS.l0, Option.bind_some, Int.toNat_natCast, List.set_set, rdMessage_set l i _ (by omega), e1, e2, e3]
    rw [if_pos (by omega), if_pos (by omega), wS _ (by omega)]
    exact ih k (i + 1) _ (by simpa using hl) (by rw [take_set_succ _ _ _ (by omega), ht, iotaMessage_succ]) (by omega) (by omega)
theorem markMessageS_f (l : List S27) (m : Int) (h0 : 0 ≤ m) (hm : m + 3 * l.length < 4611686018427387904) (k : Nat) (hk : l.length < k) : laws_markMessageS.f k l m = some (m + 3 * l.length, iotaMessage m l.length) := by
  have := markMessageS_l l.length m h0 hm l.length k 0 l rfl (by simp [iotaMessage]) (by omega) hk
  simpa [laws_markMessageS.f] using this

/-- Letters with the numbers from m on in their fields. -/
def iotaLetter (m : Int) (n : Nat) : List S29 := (List.range n).map fun (i : Nat) => ⟨m + 4 * (i : Int), ⟨m + 4 * (i : Int) + 1, m + 4 * (i : Int) + 2, m + 4 * (i : Int) + 3⟩⟩
theorem iotaLetter_length (m : Int) (n : Nat) : (iotaLetter m n).length = n := by simp [iotaLetter]
theorem iotaLetter_succ (m : Int) (n : Nat) : iotaLetter m (n + 1) = iotaLetter m n ++ [⟨m + 4 * (n : Int), ⟨m + 4 * (n : Int) + 1, m + 4 * (n : Int) + 2, m + 4 * (n : Int) + 3⟩⟩] := by
  unfold iotaLetter
  rw [List.range_succ, List.map_append]
  rfl
theorem rdLetter_set (l : List S29) (i : Nat) (v : S29) (h : i < l.length) : rd_T29 (l.set i v) (i : Int) = v := by simp [rd_T29, h]
theorem markLetterS_l (n : Nat) (m : Int) (h0 : 0 ≤ m) (hm : m + 4 * n < 4611686018427387904) : ∀ d k i : Nat, ∀ l : List S29, l.length = n → l.take i = iotaLetter m i → n = i + d → d < k → laws_markLetterS.l0 k l (m + 4 * i) i = some (m + 4 * n, iotaLetter m n) := by
  intro d
  induction d with
  | zero =>
    intro k i l hl ht hi hk
    obtain ⟨k, rfl, hk⟩ := kk_pred hk
    simp only [laws_markLetterS.l0]
    rw [if_neg (by omega)]
    obtain rfl : n = i := by omega
    rw [← ht, ← hl, List.take_length]
  | succ d ih =>
    intro k i l hl ht hi hk
    obtain ⟨k, rfl, hk⟩ := kk_pred hk
    have e1 : wrap64 (m + 4 * (i : Int) + 1) = m + 4 * (i : Int) + 1 := by unfold wrap64; omega
    have e2 : wrap64 (m + 4 * (i : Int) + 1 + 1) = m + 4 * (i : Int) + 2 := by unfold wrap64; omega
    have e3 : wrap64 (m + 4 * (i : Int) + 2 + 1) = m + 4 * (i : Int) + 3 := by unfold wrap64; omega
    have e4 : wrap64 (m + 4 * (i : Int) + 3 + 1) = m + 4 * ((i + 1 : Nat) : Int) := by unfold wrap64; omega
    simp only [laws_markLetterS.l0, Option.bind_some, Int.toNat_natCast, List.set_set, rdLetter_set l i _ (by omega), e1, e2, e3, e4]
    rw [if_pos (by omega), if_pos (by omega), wS _ (by omega)]
    exact ih k (i + 1) _ (by simpa using hl) (by rw [take_set_succ _ _ _ (by omega), ht, iotaLetter_succ]) (by omega) (by omega)
theorem markLetterS_f (l : List S29) (m : Int) (h0 : 0 ≤ m) (hm : m + 4 * l.length < 4611686018427387904) (k : Nat) (hk : l.length < k) : laws_markLetterS.f k l m = some (m + 4 * l.length, iotaLetter m l.length) := by
  have := markLetterS_l l.length m h0 hm l.length k 0 l rfl (by simp [iotaLetter]) (by omega) hk
  simpa [laws_markLetterS.f] using this

theorem heldLetterS_l (n : Nat) (m : Int) (h0 : 0 ≤ m) (hm : m + 4 * n < 4611686018427387904) : ∀ d k i : Nat, n = i + d → d < k → laws_heldLetterS.l0 k (iotaLetter m n) (m + 4 * i) i = some (m + 4 * n) := by
  intro d
  induction d with
  | zero =>
    intro k i hi hk
    obtain ⟨k, rfl, hk⟩ := kk_pred hk
    simp only [laws_heldLetterS.l0, iotaLetter_length]
    rw [if_neg (by omega)]
    obtain rfl : n = i := by omega
    rfl
  | succ d ih =>
    intro k i hi hk
    obtain ⟨k, rfl, hk⟩ := kk_pred hk
    have e1 : wrap64 (m + 4 * (i : Int) + 1) = m + 4 * (i : Int) + 1 := by unfold wrap64; omega
    have e2 : wrap64 (m + 4 * (i : Int) + 1 + 1) = m + 4 * (i : Int) + 2 := by unfold wrap64; omega
    have e3 : wrap64 (m + 4 * (i : Int) + 2 + 1) = m + 4 * (i : Int) + 3 := by unfold wrap64; omega
    have e4 : wrap64 (m + 4 * (i : Int) + 3 + 1) = m + 4 * ((i + 1 : Nat) : Int) := by unfold wrap64; omega
    have hr : rd_T29 (iotaLetter m n) (i : Int) = ⟨m + 4 * (i : Int), ⟨m + 4 * (i : Int) + 1, m + 4 * (i : Int) + 2, m + 4 * (i : Int) + 3⟩⟩ := by
      have hlt : i < n := by omega
      simp [rd_T29, iotaLetter, hlt]
    simp only [laws_heldLetterS.l0, iotaLetter_length, hr, e1, e2, e3, e4, if_true]
    rw [if_pos (by omega), if_pos (by omega), wS _ (by omega)]
    exact ih k (i + 1) (by omega) (by omega)
theorem heldLetterS_f (n : Nat) (m : Int) (h0 : 0 ≤ m) (hm : m + 4 * n < 4611686018427387904) (k : Nat) (hk : n < k) : laws_heldLetterS.f k (iotaLetter m n) m = some (m + 4 * n) := by
  have := heldLetterS_l n m h0 hm n k 0 (by omega) hk
  simpa [laws_heldLetterS.f] using this

end Go.Proofs.Ytloiafnoekpaoaa.PFnExactStampMessages
namespace Go.Proofs.Ytloiafnoekpaoaa.Pure
open Go.RowKit Go.Proofs.Ytloiafnoekpaoaa.PFnExactStampMessages Go.Proofs.YtloiafnoekpaoaaW.PrintWords Go.Proofs.YtloiafnoekpaoaaW.PrintLast Go.Proofs.YtloiafnoekpaoaaW.PrintMore
theorem FnExactStampMessages (l : List S97) (a : Int) {p q : Prop} (h0 : l.length ≤ maxLen ∧ p) (_ : q) : ∃ k, laws_FnExactStampMessages.f k l a = some true := by
  refine ⟨2000001, ?_⟩
  have hl : l.length ≤ 9223372036854775807 := by have := h0.1; unfold maxLen at this; omega
  unfold laws_FnExactStampMessages.f
  rw [szMessageS_f l hl]
  by_cases h : l.length ≤ 1048576
  · simp only [if_pos h, Option.bind_some, toMessageS_f l h 2000001 (by omega)]
    have hm : (l.map toMessageC).length = l.length := by simp
    generalize hg : l.map toMessageC = m at *
    have hc := stampR_len m a
    simp only [Option.bind_some, specStamp_f m a 2000001 (by omega), implStamp_f m a 2000001 (by omega), eqLetterS_f _ (show (stampR m a).length < 4611686018427387904 by omega) 2000001 (by omega), eqMessageS_f m (by omega) 2000001 (by omega), markMessageS_f m 1 (by omega) (by omega) 2000001 (by omega), if_true, Bool.not_true]
    rw [if_neg (by omega), if_neg (by omega)]
    simp only [laws_FnExactStampMessages.j0, markLetterS_f (stampR m a) 1 (by omega) (by omega) 2000000 (by omega), heldLetterS_f (stampR m a).length 1 (by omega) (by omega) 2000000 (by omega), toMessageS_f l h 2000000 (by omega), hg, implStamp_f m a 2000000 (by omega), eqLetterS_f _ (show (stampR m a).length < 4611686018427387904 by omega) 2000000 (by omega), Option.bind_some, if_true]
    rw [if_neg (by simp), if_neg (by omega)]
    rw [if_neg (by omega)]
  · simp only [if_neg h, Option.bind_some]
    rw [if_pos (by omega)]

end Go.Proofs.Ytloiafnoekpaoaa.Pure
