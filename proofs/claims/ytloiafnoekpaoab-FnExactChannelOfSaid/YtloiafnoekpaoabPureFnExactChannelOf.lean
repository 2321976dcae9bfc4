/- The program's ChannelOf returns what the reference's returns, for all arguments. No further condition. -/
import Derived.Test.YtloiafnoekpaoabPFnExactChannelOfx
import Derived.Test.YtloiafnoekpaoabL
import Derived.Test.YtloiafnoekpaoabT
set_option linter.unusedVariables false
set_option linter.unusedSimpArgs false
namespace Go.Proofs.Ytloiafnoekpaoab.PFnExactChannelOf
open Go.RowKit Go.Proofs.YtloiafnoekpaoabW.PrintWords Go.Proofs.YtloiafnoekpaoabW.PrintLast Go.Proofs.YtloiafnoekpaoabW.PrintMore
theorem l1In_f (a b c : Int) : spec_l1In.f a b c = some (decide (b ≤ a ∧ a ≤ c)) := by
  unfold spec_l1In.f
  by_cases h : b ≤ a
  · rw [if_pos h]; simp [h]
  · rw [if_neg h]; simp [h]

theorem rdQ_91 (xs : List S91) (i : Nat) (h : i < xs.length) : rd_T91 xs (i : Int) = xs[i] := by simp [rd_T91, h]
section
variable (vs : List Int) (kn : Int) (got : List Int) (ps : List S91) (rs : List Int)
def packB : Bool := ps.all fun p => decide (0 ≤ p.f0 ∧ p.f0 < vs.length ∧ p.f1 = rd vs p.f0)
def recB (n : Nat) (rs : List Int) : Bool := rs.all fun r => decide (0 ≤ r ∧ r ≤ n)
def numB (l : List Int) : Bool := l.all fun x => decide (0 ≤ x ∧ x ≤ 1000000)
theorem specChan_l3 (hb : rs.length < 4611686018427387904) : ∀ d k i : Nat, rs.length = i + d → d < k → spec_ChannelValid.l3 k i vs kn got ps rs = some (recB got.length (rs.drop i)) := by
  intro d
  induction d with
  | zero =>
    intro k i hi hk
    obtain ⟨k, rfl, hk⟩ := kk_pred hk
    simp only [spec_ChannelValid.l3]
    rw [if_neg (by omega), List.drop_of_length_le (by omega)]
    rfl
  | succ d ih =>
    intro k i hi hk
    obtain ⟨k, rfl, hk⟩ := kk_pred hk
    simp only [spec_ChannelValid.l3, l1In_f, Option.bind_some, decide_eq_true_eq]
    rw [if_pos (by omega), if_pos (by omega), wS _ (by omega), ih k (i + 1) (by omega) (by omega), rdN _ _ (by omega), List.drop_eq_getElem_cons (by omega : i < rs.length)]
    unfold recB
    rw [List.all_cons]
    by_cases h : 0 ≤ rs[i] ∧ rs[i] ≤ got.length
    · rw [if_pos h, decide_eq_true h, Bool.true_and]
    · rw [if_neg h, decide_eq_false h, Bool.false_and]
theorem specChan_l2 (hv : vs.length < 4611686018427387904) (hb : ps.length < 4611686018427387904) (hb' : rs.length < 4611686018427387904) : ∀ d k i : Nat, ps.length = i + d → d + rs.length + 1 < k → spec_ChannelValid.l2 k i vs kn got ps rs = some (packB vs (ps.drop i) && recB got.length rs) := by
  intro d
  induction d with
  | zero =>
    intro k i hi hk
    obtain ⟨k, rfl, hk⟩ := kk_pred hk
    simp only [spec_ChannelValid.l2]
    rw [if_neg (by omega), List.drop_of_length_le (by omega)]
    have := specChan_l3 vs kn got ps rs hb' rs.length k 0 (by omega) (by omega)
    refine Eq.trans this ?_
    simp [packB]
  | succ d ih =>
    intro k i hi hk
    obtain ⟨k, rfl, hk⟩ := kk_pred hk
    have e : wrap64 ((vs.length : Int) - 1) = (vs.length : Int) - 1 := by unfold wrap64; omega
    simp only [spec_ChannelValid.l2, l1In_f, Option.bind_some, decide_eq_true_eq, e]
    rw [if_pos (by omega), if_pos (by omega), wS _ (by omega), ih k (i + 1) (by omega) (by omega), rdQ_91 _ _ (by omega), List.drop_eq_getElem_cons (by omega : i < ps.length)]
    unfold packB
    rw [List.all_cons]
    by_cases h : 0 ≤ ps[i].f0 ∧ ps[i].f0 ≤ (vs.length : Int) - 1
    · rw [if_pos h, if_pos h.1, if_pos (by omega)]
      by_cases h2 : ps[i].f1 = rd vs ps[i].f0
      · rw [if_pos h2, decide_eq_true ⟨h.1, by omega, h2⟩, Bool.true_and]
      · rw [if_neg h2, decide_eq_false (fun g => h2 g.2.2), Bool.false_and, Bool.false_and]
    · rw [if_neg h, decide_eq_false (fun g => h ⟨g.1, by omega⟩), Bool.false_and, Bool.false_and]
theorem specChan_l1 (hg : got.length ≤ vs.length) (hv : vs.length < 4611686018427387904) (hb : ps.length < 4611686018427387904) (hb' : rs.length < 4611686018427387904) : ∀ d k i : Nat, got.length = i + d → d + ps.length + rs.length + 2 < k → got.take i = vs.take i → spec_ChannelValid.l1 k i vs kn got ps rs = some (decide (got = vs.take got.length) && (packB vs ps && recB got.length rs)) := by
  intro d
  induction d with
  | zero =>
    intro k i hi hk ht
    obtain ⟨k, rfl, hk⟩ := kk_pred hk
    simp only [spec_ChannelValid.l1]
    have e : got = vs.take got.length := by
      have : i = got.length := by omega
      rw [this, List.take_length] at ht
      exact ht
    rw [if_neg (by omega), decide_eq_true e, Bool.true_and]
    exact specChan_l2 vs kn got ps rs hv hb hb' ps.length k 0 (by omega) (by omega)
  | succ d ih =>
    intro k i hi hk ht
    obtain ⟨k, rfl, hk⟩ := kk_pred hk
    simp only [spec_ChannelValid.l1]
    rw [if_pos (by omega), if_pos (by omega), if_pos (by omega), rdN _ _ (by omega), rdN _ _ (by omega), wS _ (by omega)]
    by_cases h : got[i] = vs[i]
    · rw [if_pos h]
      exact ih k (i + 1) (by omega) (by omega) (by rw [List.take_succ_eq_append_getElem (by omega), List.take_succ_eq_append_getElem (by omega), ht, h])
    · rw [if_neg h, decide_eq_false, Bool.false_and]
      intro e
      apply h
      have : got[i] = (vs.take got.length)[i]'(by simp; omega) := by congr 1
      rw [this, List.getElem_take]
theorem specChan_l0 (h1 : vs.length < 4611686018427387904) (h2 : got.length < 4611686018427387904) (h3 : ps.length < 4611686018427387904) (h4 : rs.length < 4611686018427387904) : ∀ d k i : Nat, vs.length = i + d → d + got.length + ps.length + rs.length + 5 < k → spec_ChannelValid.l0 k i vs kn got ps rs = some (numB (vs.drop i) && (decide (vs.length ≤ 20 ∧ got.length ≤ vs.length ∧ (0 ≤ kn ∧ kn ≤ got.length) ∧ ps.length ≤ 100 ∧ rs.length ≤ 100) && (decide (got = vs.take got.length) && (packB vs ps && recB got.length rs)))) := by
  intro d
  induction d with
  | zero =>
    intro k i hi hk
    obtain ⟨k, rfl, hk⟩ := kk_pred hk
    obtain ⟨k, rfl, hk⟩ := kk_pred (show got.length + ps.length + rs.length + 4 < k by omega)
    simp only [spec_ChannelValid.l0, spec_ChannelValid.j1, l1In_f, Option.bind_some, decide_eq_true_eq, if_true]
    rw [if_neg (by omega), List.drop_of_length_le (by omega)]
    have e : numB [] = true := rfl
    rw [e, Bool.true_and]
    by_cases c : vs.length ≤ 20 ∧ got.length ≤ vs.length ∧ (0 ≤ kn ∧ kn ≤ got.length) ∧ ps.length ≤ 100 ∧ rs.length ≤ 100
    · rw [decide_eq_true c, Bool.true_and, if_neg (by omega), if_neg (by omega), if_pos c.2.2.1, if_neg (by omega), if_neg (by omega)]
      exact specChan_l1 vs kn got ps rs c.2.1 h1 h3 h4 got.length k 0 (by omega) (by omega) (by simp)
    · rw [decide_eq_false c, Bool.false_and]
      by_cases c1 : (vs.length : Int) > 20
      · rw [if_pos c1]
      · by_cases c2 : (got.length : Int) > vs.length
        · rw [if_neg c1, if_pos c2]
        · by_cases c3 : 0 ≤ kn ∧ kn ≤ got.length
          · by_cases c4 : (ps.length : Int) > 100
            · rw [if_neg c1, if_neg c2, if_pos c3, if_pos c4]
            · rw [if_neg c1, if_neg c2, if_pos c3, if_neg c4, if_pos (by omega)]
          · rw [if_neg c1, if_neg c2, if_neg c3]
  | succ d ih =>
    intro k i hi hk
    obtain ⟨k, rfl, hk⟩ := kk_pred hk
    simp only [spec_ChannelValid.l0, l1In_f, Option.bind_some, decide_eq_true_eq]
    rw [if_pos (by omega), if_pos (by omega), wS _ (by omega), ih k (i + 1) (by omega) (by omega), rdN _ _ (by omega), List.drop_eq_getElem_cons (by omega : i < vs.length)]
    have e : numB (vs[i] :: vs.drop (i + 1)) = (decide (0 ≤ vs[i] ∧ vs[i] ≤ 1000000) && numB (vs.drop (i + 1))) := by unfold numB; rw [List.all_cons]
    rw [e]
    by_cases h : 0 ≤ vs[i] ∧ vs[i] ≤ 1000000
    · rw [if_pos h, decide_eq_true h, Bool.true_and]
    · rw [if_neg h, decide_eq_false h, Bool.false_and, Bool.false_and]
/-- What the reference calls a valid channel. -/
def Vs : Bool := numB vs && (decide (vs.length ≤ 20 ∧ got.length ≤ vs.length ∧ (0 ≤ kn ∧ kn ≤ got.length) ∧ ps.length ≤ 100 ∧ rs.length ≤ 100) && (decide (got = vs.take got.length) && (packB vs ps && recB got.length rs)))
theorem specChan_f (h1 : vs.length < 4611686018427387904) (h2 : got.length < 4611686018427387904) (h3 : ps.length < 4611686018427387904) (h4 : rs.length < 4611686018427387904) (k : Nat) (hk : vs.length + got.length + ps.length + rs.length + 10 < k) : spec_ChannelValid.f k vs kn got ps rs = some (Vs vs kn got ps rs) := by
  have := specChan_l0 vs kn got ps rs h1 h2 h3 h4 vs.length k 0 (by omega) (by omega)
  rw [List.drop_zero] at this
  exact this
end

theorem toIntS_l (l : List Int) (hb : l.length < 4611686018427387904) : ∀ d k i : Nat, ∀ o : List Int, o.length = l.length → o.take i = l.take i → l.length = i + d → d < k → laws_toIntS.l0 k l o i = some l := by
  intro d
  induction d with
  | zero =>
    intro k i o ho ht hi hk
    obtain ⟨k, rfl, hk⟩ := kk_pred hk
    simp only [laws_toIntS.l0]
    rw [if_neg (by omega)]
    obtain rfl : l.length = i := by omega
    rw [List.take_length, ← ho, List.take_length] at ht
    rw [ht]
  | succ d ih =>
    intro k i o ho ht hi hk
    obtain ⟨k, rfl, hk⟩ := kk_pred hk
    simp only [laws_toIntS.l0]
    rw [if_pos (by omega), if_pos (by omega), if_pos (by omega), wS _ (by omega), Int.toNat_natCast, rdN _ _ (by omega)]
    exact ih k (i + 1) _ (by simpa using ho) (by rw [take_set_succ _ _ _ (by omega), ht, List.take_succ_eq_append_getElem (by omega)]) (by omega) (by omega)
theorem toIntS_f (l : List Int) (hb : l.length ≤ 1048576) (k : Nat) (hk : l.length < k) : laws_toIntS.f k l = some l := by
  have := toIntS_l l (by omega) l.length k 0 (List.replicate l.length 0) (by simp) (by simp) (by omega) hk
  unfold laws_toIntS.f
  rw [if_pos (by omega), if_pos (by omega)]
  simpa using this

def numOk (l : List Int) : Bool := l.all fun x => decide (0 ≤ x ∧ x ≤ 1000000)
theorem numberFits_f (a : Int) : impl_numberFits.f a = some (decide (0 ≤ a ∧ a ≤ 1000000)) := by
  unfold impl_numberFits.f
  by_cases h : 0 ≤ a
  · rw [if_pos h]; simp [h]
  · rw [if_neg h]; simp [h]
theorem chanValues_l (l : List Int) (hb : l.length < 4611686018427387904) : ∀ d k i : Nat, l.length = i + d → d < k → impl_channelValuesFit.l0 k l l.length i = some (numOk (l.drop i)) := by
  intro d
  induction d with
  | zero =>
    intro k i hi hk
    obtain ⟨k, rfl, hk⟩ := kk_pred hk
    simp only [impl_channelValuesFit.l0]
    rw [if_neg (by omega), List.drop_of_length_le (by omega)]
    rfl
  | succ d ih =>
    intro k i hi hk
    obtain ⟨k, rfl, hk⟩ := kk_pred hk
    simp only [impl_channelValuesFit.l0, numberFits_f, Option.bind_some, decide_eq_true_eq]
    rw [if_pos (by omega), if_pos (by omega), if_pos (by omega), wS _ (by omega), ih k (i + 1) (by omega) (by omega), rdN _ _ (by omega), List.drop_eq_getElem_cons (by omega : i < l.length)]
    unfold numOk
    rw [List.all_cons]
    by_cases h : 0 ≤ l[i] ∧ l[i] ≤ 1000000
    · rw [if_pos h, decide_eq_true h, Bool.true_and]
    · rw [if_neg h, decide_eq_false h, Bool.false_and]
theorem chanValues_f (l : List Int) (hb : l.length < 4611686018427387904) (k : Nat) (hk : l.length < k) : impl_channelValuesFit.f k l = some (decide (l.length ≤ 20) && numOk l) := by
  unfold impl_channelValuesFit.f
  by_cases h : (l.length : Int) > 20
  · rw [if_pos h, decide_eq_false (by omega), Bool.false_and]
  · rw [if_neg h, decide_eq_true (by omega), Bool.true_and]
    have := chanValues_l l hb l.length k 0 (by omega) hk
    simpa using this

theorem eqIntS_l (l m : List Int) (hl : l.length = m.length) (hb : l.length < 4611686018427387904) : ∀ d k i : Nat, l.length = i + d → d < k → laws_eqIntS.l0 k l m i = some (decide (l.drop i = m.drop i)) := by
  intro d
  induction d with
  | zero =>
    intro k i hi hk
    obtain ⟨k, rfl, hk⟩ := kk_pred hk
    simp only [laws_eqIntS.l0]
    rw [if_neg (by omega), List.drop_of_length_le (by omega), List.drop_of_length_le (by omega)]
    simp
  | succ d ih =>
    intro k i hi hk
    obtain ⟨k, rfl, hk⟩ := kk_pred hk
    simp only [laws_eqIntS.l0]
    rw [if_pos (by omega), if_pos (by omega), if_pos (by omega), rdN _ _ (by omega), rdN _ _ (by omega), wS _ (by omega), List.drop_eq_getElem_cons (by omega : i < l.length), List.drop_eq_getElem_cons (by omega : i < m.length)]
    by_cases e : l[i] = m[i]
    · rw [if_pos e, ih k (i + 1) (by omega) (by omega), e]
      simp only [List.cons.injEq, true_and]
    · rw [if_neg e]
      simp only [List.cons.injEq, e, false_and, decide_false]
theorem eqIntS_f (l m : List Int) (hb : l.length < 4611686018427387904) (k : Nat) (hk : l.length < k) : laws_eqIntS.f k l m = some (decide (l = m)) := by
  unfold laws_eqIntS.f
  by_cases h : l.length = m.length
  · rw [if_pos (by omega)]
    have := eqIntS_l l m h hb l.length k 0 (by omega) hk
    simpa using this
  · rw [if_neg (by omega)]
    have : ¬ l = m := fun e => h (by rw [e])
    simp [this]

theorem eqPacketS_l (l : List S91) (hb : l.length < 4611686018427387904) : ∀ d k i : Nat, l.length = i + d → d < k → laws_eqPacketS.l0 k l l i = some true := by
  intro d
  induction d with
  | zero =>
    intro k i hi hk
    obtain ⟨k, rfl, hk⟩ := kk_pred hk
    simp only [laws_eqPacketS.l0]
    rw [if_neg (by omega)]
  | succ d ih =>
    intro k i hi hk
    obtain ⟨k, rfl, hk⟩ := kk_pred hk
    simp only [laws_eqPacketS.l0, laws_eqPacket.f, if_true, Option.bind_some]
    rw [if_pos (by omega), if_pos (by omega), if_pos (by omega), wS _ (by omega)]
    exact ih k (i + 1) (by omega) (by omega)
theorem eqPacketS_f (l : List S91) (hb : l.length < 4611686018427387904) (k : Nat) (hk : l.length < k) : laws_eqPacketS.f k l l = some true := by
  have := eqPacketS_l l hb l.length k 0 (by omega) hk
  simpa [laws_eqPacketS.f] using this

theorem markIntS_l (n : Nat) (m : Int) (h0 : 0 ≤ m) (hm : m + n < 4611686018427387904) : ∀ d k i : Nat, ∀ l : List Int, l.length = n → l.take i = iota m i → n = i + d → d < k → laws_markIntS.l0 k l (m + i) i = some (m + n, iota m n) := by
  intro d
  induction d with
  | zero =>
    intro k i l hl ht hi hk
    obtain ⟨k, rfl, hk⟩ := kk_pred hk
    simp only [laws_markIntS.l0]
    rw [if_neg (by omega)]
    obtain rfl : n = i := by omega
    rw [← ht, ← hl, List.take_length]
  | succ d ih =>
    intro k i l hl ht hi hk
    obtain ⟨k, rfl, hk⟩ := kk_pred hk
    simp only [laws_markIntS.l0]
    rw [if_pos (by omega), if_pos (by omega), wS _ (by omega), Int.toNat_natCast]
    have e : wrap64 (m + (i : Int) + 1) = m + ((i + 1 : Nat) : Int) := by unfold wrap64; omega
    rw [e]
    exact ih k (i + 1) _ (by simpa using hl) (by rw [take_set_succ _ _ _ (by omega), ht, iota_succ]) (by omega) (by omega)
theorem markIntS_f (l : List Int) (m : Int) (h0 : 0 ≤ m) (hm : m + l.length < 4611686018427387904) (k : Nat) (hk : l.length < k) : laws_markIntS.f k l m = some (m + l.length, iota m l.length) := by
  have := markIntS_l l.length m h0 hm l.length k 0 l rfl (by simp [iota]) (by omega) hk
  simpa [laws_markIntS.f] using this

theorem heldIntS_l (n : Nat) (m : Int) (h0 : 0 ≤ m) (hm : m + n < 4611686018427387904) : ∀ d k i : Nat, n = i + d → d < k → laws_heldIntS.l0 k (iota m n) (m + i) i = some (m + n) := by
  intro d
  induction d with
  | zero =>
    intro k i hi hk
    obtain ⟨k, rfl, hk⟩ := kk_pred hk
    simp only [laws_heldIntS.l0, iota_length]
    rw [if_neg (by omega)]
    obtain rfl : n = i := by omega
    rfl
  | succ d ih =>
    intro k i hi hk
    obtain ⟨k, rfl, hk⟩ := kk_pred hk
    simp only [laws_heldIntS.l0, iota_length]
    rw [if_pos (by omega), if_pos (by omega), wS _ (by omega), rdN _ _ (by simp [iota]; omega), iota_get, if_pos rfl]
    have e : wrap64 (m + (i : Int) + 1) = m + ((i + 1 : Nat) : Int) := by unfold wrap64; omega
    rw [e]
    exact ih k (i + 1) (by omega) (by omega)
theorem heldIntS_f (n : Nat) (m : Int) (h0 : 0 ≤ m) (hm : m + n < 4611686018427387904) (k : Nat) (hk : n < k) : laws_heldIntS.f k (iota m n) m = some (m + n) := by
  have := heldIntS_l n m h0 hm n k 0 (by omega) hk
  simpa [laws_heldIntS.f] using this

end Go.Proofs.Ytloiafnoekpaoab.PFnExactChannelOf
namespace Go.Proofs.Ytloiafnoekpaoab.Pure
open Go.RowKit Go.Proofs.Ytloiafnoekpaoab.PFnExactChannelOf Go.Proofs.YtloiafnoekpaoabW.PrintWords Go.Proofs.YtloiafnoekpaoabW.PrintLast Go.Proofs.YtloiafnoekpaoabW.PrintMore
def ccL (l : List Int) : List Int := if decide (l.length ≤ 20) && numOk l then l else []
theorem ccL_len (l : List Int) : (ccL l).length ≤ 20 := by
  unfold ccL
  split
  · rename_i h
    simp only [Bool.and_eq_true, decide_eq_true_eq] at h
    exact h.1
  · simp
theorem implOf_f (l : List Int) (hl : l.length ≤ 1048576) (k : Nat) (hk : l.length < k) : impl_ChannelOf.f k l = some (ccL l, 0, [], [], []) := by
  unfold impl_ChannelOf.f ccL slices_Clone_int_int.f
  rw [chanValues_f l (by omega) k hk, Option.bind_some, if_pos (by omega : l.length < 17592186044416), Option.bind_some]
  split <;> rfl
theorem specOf_f (l : List Int) (hl : l.length ≤ 1048576) (k : Nat) (hk : l.length + 20 < k) : spec_ChannelOf.f k l = some (ccL l, 0, [], [], []) := by
  have e : Vs l 0 [] [] [] = (decide (l.length ≤ 20) && numOk l) := by
    unfold Vs numB numOk packB recB
    simp [Bool.and_comm]
  unfold spec_ChannelOf.f ccL
  simp only [Option.bind_some, List.nil_append, List.length_nil, Nat.zero_add]
  rw [if_pos (by omega), specChan_f l 0 [] [] [] (by omega) (by simp) (by simp) (by simp) k (by simp only [List.length_nil]; omega), e, Option.bind_some]
  split <;> rfl
theorem markP_nil (m : Int) (k : Nat) (hk : 0 < k) : laws_markPacketS.f k [] m = some (m, []) := by
  obtain ⟨k, rfl⟩ : ∃ j, k = j + 1 := ⟨k - 1, by omega⟩
  rfl
theorem heldP_nil (m : Int) (k : Nat) (hk : 0 < k) : laws_heldPacketS.f k [] m = some m := by
  obtain ⟨k, rfl⟩ : ∃ j, k = j + 1 := ⟨k - 1, by omega⟩
  rfl
theorem markI_nil (m : Int) (k : Nat) (hk : 0 < k) : laws_markIntS.f k [] m = some (m, []) := by
  obtain ⟨k, rfl⟩ : ∃ j, k = j + 1 := ⟨k - 1, by omega⟩
  rfl
theorem heldI_nil (m : Int) (k : Nat) (hk : 0 < k) : laws_heldIntS.f k [] m = some m := by
  obtain ⟨k, rfl⟩ : ∃ j, k = j + 1 := ⟨k - 1, by omega⟩
  rfl
theorem heldC (n : Nat) (hn : n ≤ 20) (k : Nat) (hk : 30 < k) : laws_heldChannel.f k (iota 1 n) 0 [] [] [] 1 = some (1 + (n : Int)) := by
  unfold laws_heldChannel.f
  simp only [heldIntS_f n 1 (by omega) (by omega) k (by omega), Option.bind_some, heldI_nil _ k (show 0 < k by omega), heldP_nil _ k (show 0 < k by omega)]
  rw [if_neg (by omega), if_neg (by omega), if_neg (by omega), if_neg (by omega)]
theorem eqC (l : List Int) (hl : l.length ≤ 20) (k : Nat) (hk : 30 < k) : laws_eqChannel.f k l 0 [] [] [] l 0 [] [] [] = some true := by
  unfold laws_eqChannel.f
  simp only [eqIntS_f l l (by omega) k (by omega), eqIntS_f ([] : List Int) [] (by simp) k (by simp; omega), eqPacketS_f [] (by simp) k (by simp; omega), Option.bind_some, decide_true, if_true]
theorem FnExactChannelOf : laws_FnExactChannelOf.Pure := by
  intro l hl hl8 hw
  refine ⟨2000001, ?_⟩
  unfold laws_FnExactChannelOf.f
  by_cases h : (l.length : Int) > 1048576
  · rw [if_pos h]
  · rw [if_neg h]
    have hc := ccL_len l
    simp only [toIntS_f l (by omega) 2000001 (by omega), specOf_f l (by omega) 2000001 (by omega), implOf_f l (by omega) 2000001 (by omega), eqC _ hc 2000001 (by omega), eqIntS_f l l (by omega) 2000001 (by omega), markIntS_f l 1 (by omega) (by omega) 2000001 (by omega), Option.bind_some, decide_true, if_true, Bool.not_true]
    rw [if_neg (by omega)]
    simp only [laws_FnExactChannelOf.j0, laws_markChannel.f, markIntS_f (ccL l) 1 (by omega) (by omega) 2000000 (by omega), markI_nil _ 2000000 (by omega), markP_nil _ 2000000 (by omega), Option.bind_some, heldC _ hc 2000000 (by omega), toIntS_f l (by omega) 2000000 (by omega), implOf_f l (by omega) 2000000 (by omega), eqC _ hc 2000000 (by omega), if_true]
    rw [if_neg (by simp), if_neg (by omega)]
    rw [if_neg (by omega)]

end Go.Proofs.Ytloiafnoekpaoab.Pure
