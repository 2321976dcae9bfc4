/- The program's ChannelDone returns what the reference's returns, for all arguments. No further condition. -/
import Derived.Test.YtloiafnoekpaoabPFnExactChannelDonex
import Derived.Test.YtloiafnoekpaoabL
import Derived.Test.YtloiafnoekpaoabT
set_option linter.unusedVariables false
set_option linter.unusedSimpArgs false
namespace Go.Proofs.Ytloiafnoekpaoab.PFnExactChannelDone
open Go.RowKit Go.Proofs.YtloiafnoekpaoabW.PrintWords Go.Proofs.YtloiafnoekpaoabW.PrintLast Go.Proofs.YtloiafnoekpaoabW.PrintMore
theorem eqIntS_l (l m : List Int) (hl : l.length = m.length) (hb : l.length < 4611686018427387904) : ∀ d k i : Nat, l.length = i + d → d < k → laws_eqIntS.l0 k l m i = some (decide (l.drop i = m.drop i)) := by
  intro d
  induction d with
  | zero =>
    intro k i hi hk
    obtain ⟨k, rfl, hk⟩ := kk_pred hk
    simp only [laws_eqIntS.l0]
    rw [if_neg (by omega), List.drop_of_length_le (by omega), List.drop_of_length_le (by omega)]
    simp
  | succ d ih =>
    intro k i hi hk
    obtain ⟨k, rfl, hk⟩ := kk_pred hk
    simp only [laws_eqIntS.l0]
    rw [if_pos (by omega), if_pos (by omega), if_pos (by omega), rdN _ _ (by omega), rdN _ _ (by omega), wS _ (by omega), List.drop_eq_getElem_cons (by omega : i < l.length), List.drop_eq_getElem_cons (by omega : i < m.length)]
    by_cases e : l[i] = m[i]
    · rw [if_pos e, ih k (i + 1) (by omega) (by omega), e]
      simp only [List.cons.injEq, true_and]
    · rw [if_neg e]
      simp only [List.cons.injEq, e, false_and, decide_false]
theorem eqIntS_f (l m : List Int) (hb : l.length < 4611686018427387904) (k : Nat) (hk : l.length < k) : laws_eqIntS.f k l m = some (decide (l = m)) := by
  unfold laws_eqIntS.f
  by_cases h : l.length = m.length
  · rw [if_pos (by omega)]
    have := eqIntS_l l m h hb l.length k 0 (by omega) hk
    simpa using this
  · rw [if_neg (by omega)]
    have : ¬ l = m := fun e => h (by rw [e])
    simp [this]

theorem eqPacketS_l (l : List S91) (hb : l.length < 4611686018427387904) : ∀ d k i : Nat, l.length = i + d → d < k → laws_eqPacketS.l0 k l l i = some true := by
  intro d
  induction d with
  | zero =>
    intro k i hi hk
    obtain ⟨k, rfl, hk⟩ := kk_pred hk
    simp only [laws_eqPacketS.l0]
    rw [if_neg (by omega)]
  | succ d ih =>
    intro k i hi hk
    obtain ⟨k, rfl, hk⟩ := kk_pred hk
    simp only [laws_eqPacketS.l0, laws_eqPacket.f, if_true, Option.bind_some]
    rw [if_pos (by omega), if_pos (by omega), if_pos (by omega), wS _ (by omega)]
    exact ih k (i + 1) (by omega) (by omega)
theorem eqPacketS_f (l : List S91) (hb : l.length < 4611686018427387904) (k : Nat) (hk : l.length < k) : laws_eqPacketS.f k l l = some true := by
  have := eqPacketS_l l hb l.length k 0 (by omega) hk
  simpa [laws_eqPacketS.f] using this

theorem szIntS_f (l : List Int) (a : Int) (ha : 0 ≤ a) (ha' : a ≤ 1048576) (hl : l.length ≤ 9223372036854775807) : laws_szIntS.f l a = some (if (l.length : Int) ≤ a then a - (l.length : Int) else -1) := by
  unfold laws_szIntS.f
  have e : wrap64 (a - (l.length : Int)) = a - (l.length : Int) := by unfold wrap64; omega
  rw [e]
  by_cases h : (l.length : Int) ≤ a
  · rw [if_neg (by omega), if_pos h]
  · rw [if_pos (by omega), if_neg h]
theorem szPacketS_f (l : List S150) (a : Int) (ha : 0 ≤ a) (ha' : a ≤ 1048576) (hl : l.length ≤ 9223372036854775807) : laws_szPacketS.f l a = some (if (l.length : Int) ≤ a then a - (l.length : Int) else -1) := by
  unfold laws_szPacketS.f
  have e : wrap64 (a - (l.length : Int)) = a - (l.length : Int) := by unfold wrap64; omega
  rw [e]
  by_cases h : (l.length : Int) ≤ a
  · rw [if_neg (by omega), if_pos h]
  · rw [if_pos (by omega), if_neg h]
/-- Either the four lists together are small, or the answer is -1. -/
theorem szChannel_f (vs : List Int) (kn : Int) (got : List Int) (ps : List S150) (rs : List Int) (h1 : vs.length ≤ 9223372036854775807) (h2 : got.length ≤ 9223372036854775807) (h3 : ps.length ≤ 9223372036854775807) (h4 : rs.length ≤ 9223372036854775807) :
    (vs.length + got.length + ps.length + rs.length ≤ 1048576 ∧ ∃ r, 0 ≤ r ∧ laws_szChannel.f vs kn got ps rs 1048576 = some r) ∨ laws_szChannel.f vs kn got ps rs 1048576 = some (-1) := by
  unfold laws_szChannel.f
  rw [szIntS_f vs _ (by omega) (by omega) h1]
  simp only [Option.bind_some]
  by_cases a1 : (vs.length : Int) ≤ 1048576
  · rw [if_pos a1, if_neg (by omega), szIntS_f got _ (by omega) (by omega) h2]
    simp only [Option.bind_some]
    by_cases a2 : (got.length : Int) ≤ 1048576 - (vs.length : Int)
    · rw [if_pos a2, if_neg (by omega), szPacketS_f ps _ (by omega) (by omega) h3]
      simp only [Option.bind_some]
      by_cases a3 : (ps.length : Int) ≤ 1048576 - (vs.length : Int) - (got.length : Int)
      · rw [if_pos a3, if_neg (by omega), szIntS_f rs _ (by omega) (by omega) h4]
        simp only [Option.bind_some]
        by_cases a4 : (rs.length : Int) ≤ 1048576 - (vs.length : Int) - (got.length : Int) - (ps.length : Int)
        · rw [if_pos a4, if_neg (by omega)]
          exact Or.inl ⟨by omega, _, by omega, rfl⟩
        · rw [if_neg a4]; exact Or.inr rfl
      · rw [if_neg a3]; exact Or.inr rfl
    · rw [if_neg a2]; exact Or.inr rfl
  · rw [if_neg a1]; exact Or.inr rfl

theorem toIntS_l (l : List Int) (hb : l.length < 4611686018427387904) : ∀ d k i : Nat, ∀ o : List Int, o.length = l.length → o.take i = l.take i → l.length = i + d → d < k → laws_toIntS.l0 k l o i = some l := by
  intro d
  induction d with
  | zero =>
    intro k i o ho ht hi hk
    obtain ⟨k, rfl, hk⟩ := kk_pred hk
    simp only [laws_toIntS.l0]
    rw [if_neg (by omega)]
    obtain rfl : l.length = i := by omega
    rw [List.take_length, ← ho, List.take_length] at ht
    rw [ht]
  | succ d ih =>
    intro k i o ho ht hi hk
    obtain ⟨k, rfl, hk⟩ := kk_pred hk
    simp only [laws_toIntS.l0]
    rw [if_pos (by omega), if_pos (by omega), if_pos (by omega), wS _ (by omega), Int.toNat_natCast, rdN _ _ (by omega)]
    exact ih k (i + 1) _ (by simpa using ho) (by rw [take_set_succ _ _ _ (by omega), ht, List.take_succ_eq_append_getElem (by omega)]) (by omega) (by omega)
theorem toIntS_f (l : List Int) (hb : l.length ≤ 1048576) (k : Nat) (hk : l.length < k) : laws_toIntS.f k l = some l := by
  have := toIntS_l l (by omega) l.length k 0 (List.replicate l.length 0) (by simp) (by simp) (by omega) hk
  unfold laws_toIntS.f
  rw [if_pos (by omega), if_pos (by omega)]
  simpa using this

def toPacketC (x : S150) : S91 := ⟨x.f0, x.f1⟩
theorem rdS_150 (xs : List S150) (i : Nat) (h : i < xs.length) : rd_T150 xs (i : Int) = xs[i] := by simp [rd_T150, h]
theorem toPacketS_l (l : List S150) (hb : l.length < 4611686018427387904) : ∀ d k i : Nat, ∀ o : List S91, o.length = l.length → o.take i = (l.map toPacketC).take i → l.length = i + d → d < k → laws_toPacketS.l0 k l o i = some (l.map toPacketC) := by
  intro d
  induction d with
  | zero =>
    intro k i o ho ht hi hk
    obtain ⟨k, rfl, hk⟩ := kk_pred hk
    simp only [laws_toPacketS.l0]
    rw [if_neg (by omega)]
    obtain rfl : l.length = i := by omega
    exact congrArg some (eq_of_take (by simpa using ho) (by rw [ho]; exact ht))
  | succ d ih =>
    intro k i o ho ht hi hk
    obtain ⟨k, rfl, hk⟩ := kk_pred hk
    simp only [laws_toPacketS.l0, laws_toPacket.f, Option.bind_some]
    rw [if_pos (by omega), if_pos (by omega), if_pos (by omega), wS _ (by omega), Int.toNat_natCast, rdS_150 _ _ (by omega)]
    exact ih k (i + 1) _ (by simpa using ho) (by rw [take_set_succ _ _ _ (by omega), ht, List.take_succ_eq_append_getElem (by simp; omega), List.getElem_map]; rfl) (by omega) (by omega)
theorem toPacketS_f (l : List S150) (hb : l.length ≤ 1048576) (k : Nat) (hk : l.length < k) : laws_toPacketS.f k l = some (l.map toPacketC) := by
  have := toPacketS_l l (by omega) l.length k 0 (List.replicate l.length z91) (by simp) (by simp) (by omega) hk
  unfold laws_toPacketS.f
  rw [if_pos (by omega), if_pos (by omega)]
  simpa using this

theorem l1In_f (a b c : Int) : spec_l1In.f a b c = some (decide (b ≤ a ∧ a ≤ c)) := by
  unfold spec_l1In.f
  by_cases h : b ≤ a
  · rw [if_pos h]; simp [h]
  · rw [if_neg h]; simp [h]

theorem rdQ_91 (xs : List S91) (i : Nat) (h : i < xs.length) : rd_T91 xs (i : Int) = xs[i] := by simp [rd_T91, h]
section
variable (vs : List Int) (kn : Int) (got : List Int) (ps : List S91) (rs : List Int)
def packB : Bool := ps.all fun p => decide (0 ≤ p.f0 ∧ p.f0 < vs.length ∧ p.f1 = rd vs p.f0)
def recB (n : Nat) (rs : List Int) : Bool := rs.all fun r => decide (0 ≤ r ∧ r ≤ n)
def numB (l : List Int) : Bool := l.all fun x => decide (0 ≤ x ∧ x ≤ 1000000)
theorem specChan_l3 (hb : rs.length < 4611686018427387904) : ∀ d k i : Nat, rs.length = i + d → d < k → spec_ChannelValid.l3 k i vs kn got ps rs = some (recB got.length (rs.drop i)) := by
  intro d
  induction d with
  | zero =>
    intro k i hi hk
    obtain ⟨k, rfl, hk⟩ := kk_pred hk
    simp only [spec_ChannelValid.l3]
    rw [if_neg (by omega), List.drop_of_length_le (by omega)]
    rfl
  | succ d ih =>
    intro k i hi hk
    obtain ⟨k, rfl, hk⟩ := kk_pred hk
    simp only [spec_ChannelValid.l3, l1In_f, Option.bind_some, decide_eq_true_eq]
    rw [if_pos (by omega), if_pos (by omega), wS _ (by omega), ih k (i + 1) (by omega) (by omega), rdN _ _ (by omega), List.drop_eq_getElem_cons (by omega : i < rs.length)]
    unfold recB
    rw [List.all_cons]
    by_cases h : 0 ≤ rs[i] ∧ rs[i] ≤ got.length
    · rw [if_pos h, decide_eq_true h, Bool.true_and]
    · rw [if_neg h, decide_eq_false h, Bool.false_and]
theorem specChan_l2 (hv : vs.length < 4611686018427387904) (hb : ps.length < 4611686018427387904) (hb' : rs.length < 4611686018427387904) : ∀ d k i : Nat, ps.length = i + d → d + rs.length + 1 < k → spec_ChannelValid.l2 k i vs kn got ps rs = some (packB vs (ps.drop i) && recB got.length rs) := by
  intro d
  induction d with
  | zero =>
    intro k i hi hk
    obtain ⟨k, rfl, hk⟩ := kk_pred hk
    simp only [spec_ChannelValid.l2]
    rw [if_neg (by omega), List.drop_of_length_le (by omega)]
    have := specChan_l3 vs kn got ps rs hb' rs.length k 0 (by omega) (by omega)
    refine Eq.trans this ?_
    simp [packB]
  | succ d ih =>
    intro k i hi hk
    obtain ⟨k, rfl, hk⟩ := kk_pred hk
    have e : wrap64 ((vs.length : Int) - 1) = (vs.length : Int) - 1 := by unfold wrap64; omega
    simp only [spec_ChannelValid.l2, l1In_f, Option.bind_some, decide_eq_true_eq, e]
    rw [if_pos (by omega), if_pos (by omega), wS _ (by omega), ih k (i + 1) (by omega) (by omega), rdQ_91 _ _ (by omega), List.drop_eq_getElem_cons (by omega : i < ps.length)]
    unfold packB
    rw [List.all_cons]
    by_cases h : 0 ≤ ps[i].f0 ∧ ps[i].f0 ≤ (vs.length : Int) - 1
    · rw [if_pos h, if_pos h.1, if_pos (by omega)]
      by_cases h2 : ps[i].f1 = rd vs ps[i].f0
      · rw [if_pos h2, decide_eq_true ⟨h.1, by omega, h2⟩, Bool.true_and]
      · rw [if_neg h2, decide_eq_false (fun g => h2 g.2.2), Bool.false_and, Bool.false_and]
    · rw [if_neg h, decide_eq_false (fun g => h ⟨g.1, by omega⟩), Bool.false_and, Bool.false_and]
theorem specChan_l1 (hg : got.length ≤ vs.length) (hv : vs.length < 4611686018427387904) (hb : ps.length < 4611686018427387904) (hb' : rs.length < 4611686018427387904) : ∀ d k i : Nat, got.length = i + d → d + ps.length + rs.length + 2 < k → got.take i = vs.take i → spec_ChannelValid.l1 k i vs kn got ps rs = some (decide (got = vs.take got.length) && (packB vs ps && recB got.length rs)) := by
  intro d
  induction d with
  | zero =>
    intro k i hi hk ht
    obtain ⟨k, rfl, hk⟩ := kk_pred hk
    simp only [spec_ChannelValid.l1]
    have e : got = vs.take got.length := by
      have : i = got.length := by omega
      rw [this, List.take_length] at ht
      exact ht
    rw [if_neg (by omega), decide_eq_true e, Bool.true_and]
    exact specChan_l2 vs kn got ps rs hv hb hb' ps.length k 0 (by omega) (by omega)
  | succ d ih =>
    intro k i hi hk ht
    obtain ⟨k, rfl, hk⟩ := kk_pred hk
    simp only [spec_ChannelValid.l1]
    rw [if_pos (by omega), if_pos (by omega), if_pos (by omega), rdN _ _ (by omega), rdN _ _ (by omega), wS _ (by omega)]
    by_cases h : got[i] = vs[i]
    · rw [if_pos h]
      exact ih k (i + 1) (by omega) (by omega) (by rw [List.take_succ_eq_append_getElem (by omega), List.take_succ_eq_append_getElem (by omega), ht, h])
    · rw [if_neg h, decide_eq_false, Bool.false_and]
      intro e
      apply h
      have : got[i] = (vs.take got.length)[i]'(by simp; omega) := by congr 1
      rw [this, List.getElem_take]
theorem specChan_l0 (h1 : vs.length < 4611686018427387904) (h2 : got.length < 4611686018427387904) (h3 : ps.length < 4611686018427387904) (h4 : rs.length < 4611686018427387904) : ∀ d k i : Nat, vs.length = i + d → d + got.length + ps.length + rs.length + 5 < k → spec_ChannelValid.l0 k i vs kn got ps rs = some (numB (vs.drop i) && (decide (vs.length ≤ 20 ∧ got.length ≤ vs.length ∧ (0 ≤ kn ∧ kn ≤ got.length) ∧ ps.length ≤ 100 ∧ rs.length ≤ 100) && (decide (got = vs.take got.length) && (packB vs ps && recB got.length rs)))) := by
  intro d
  induction d with
  | zero =>
    intro k i hi hk
    obtain ⟨k, rfl, hk⟩ := kk_pred hk
    obtain ⟨k, rfl, hk⟩ := kk_pred (show got.length + ps.length + rs.length + 4 < k by omega)
    simp only [spec_ChannelValid.l0, spec_ChannelValid.j1, l1In_f, Option.bind_some, decide_eq_true_eq, if_true]
    rw [if_neg (by omega), List.drop_of_length_le (by omega)]
    have e : numB [] = true := rfl
    rw [e, Bool.true_and]
    by_cases c : vs.length ≤ 20 ∧ got.length ≤ vs.length ∧ (0 ≤ kn ∧ kn ≤ got.length) ∧ ps.length ≤ 100 ∧ rs.length ≤ 100
    · rw [decide_eq_true c, Bool.true_and, if_neg (by omega), if_neg (by omega), if_pos c.2.2.1, if_neg (by omega), if_neg (by omega)]
      exact specChan_l1 vs kn got ps rs c.2.1 h1 h3 h4 got.length k 0 (by omega) (by omega) (by simp)
    · rw [decide_eq_false c, Bool.false_and]
      by_cases c1 : (vs.length : Int) > 20
      · rw [if_pos c1]
      · by_cases c2 : (got.length : Int) > vs.length
        · rw [if_neg c1, if_pos c2]
        · by_cases c3 : 0 ≤ kn ∧ kn ≤ got.length
          · by_cases c4 : (ps.length : Int) > 100
            · rw [if_neg c1, if_neg c2, if_pos c3, if_pos c4]
            · rw [if_neg c1, if_neg c2, if_pos c3, if_neg c4, if_pos (by omega)]
          · rw [if_neg c1, if_neg c2, if_neg c3]
  | succ d ih =>
    intro k i hi hk
    obtain ⟨k, rfl, hk⟩ := kk_pred hk
    simp only [spec_ChannelValid.l0, l1In_f, Option.bind_some, decide_eq_true_eq]
    rw [if_pos (by omega), if_pos (by omega), wS _ (by omega), ih k (i + 1) (by omega) (by omega), rdN _ _ (by omega), List.drop_eq_getElem_cons (by omega : i < vs.length)]
    have e : numB (vs[i] :: vs.drop (i + 1)) = (decide (0 ≤ vs[i] ∧ vs[i] ≤ 1000000) && numB (vs.drop (i + 1))) := by unfold numB; rw [List.all_cons]
    rw [e]
    by_cases h : 0 ≤ vs[i] ∧ vs[i] ≤ 1000000
    · rw [if_pos h, decide_eq_true h, Bool.true_and]
    · rw [if_neg h, decide_eq_false h, Bool.false_and, Bool.false_and]
/-- What the reference calls a valid channel. -/
def Vs : Bool := numB vs && (decide (vs.length ≤ 20 ∧ got.length ≤ vs.length ∧ (0 ≤ kn ∧ kn ≤ got.length) ∧ ps.length ≤ 100 ∧ rs.length ≤ 100) && (decide (got = vs.take got.length) && (packB vs ps && recB got.length rs)))
theorem specChan_f (h1 : vs.length < 4611686018427387904) (h2 : got.length < 4611686018427387904) (h3 : ps.length < 4611686018427387904) (h4 : rs.length < 4611686018427387904) (k : Nat) (hk : vs.length + got.length + ps.length + rs.length + 10 < k) : spec_ChannelValid.f k vs kn got ps rs = some (Vs vs kn got ps rs) := by
  have := specChan_l0 vs kn got ps rs h1 h2 h3 h4 vs.length k 0 (by omega) (by omega)
  rw [List.drop_zero] at this
  exact this
end

def numOk (l : List Int) : Bool := l.all fun x => decide (0 ≤ x ∧ x ≤ 1000000)
theorem numberFits_f (a : Int) : impl_numberFits.f a = some (decide (0 ≤ a ∧ a ≤ 1000000)) := by
  unfold impl_numberFits.f
  by_cases h : 0 ≤ a
  · rw [if_pos h]; simp [h]
  · rw [if_neg h]; simp [h]
theorem chanValues_l (l : List Int) (hb : l.length < 4611686018427387904) : ∀ d k i : Nat, l.length = i + d → d < k → impl_channelValuesFit.l0 k l l.length i = some (numOk (l.drop i)) := by
  intro d
  induction d with
  | zero =>
    intro k i hi hk
    obtain ⟨k, rfl, hk⟩ := kk_pred hk
    simp only [impl_channelValuesFit.l0]
    rw [if_neg (by omega), List.drop_of_length_le (by omega)]
    rfl
  | succ d ih =>
    intro k i hi hk
    obtain ⟨k, rfl, hk⟩ := kk_pred hk
    simp only [impl_channelValuesFit.l0, numberFits_f, Option.bind_some, decide_eq_true_eq]
    rw [if_pos (by omega), if_pos (by omega), if_pos (by omega), wS _ (by omega), ih k (i + 1) (by omega) (by omega), rdN _ _ (by omega), List.drop_eq_getElem_cons (by omega : i < l.length)]
    unfold numOk
    rw [List.all_cons]
    by_cases h : 0 ≤ l[i] ∧ l[i] ≤ 1000000
    · rw [if_pos h, decide_eq_true h, Bool.true_and]
    · rw [if_neg h, decide_eq_false h, Bool.false_and]
theorem chanValues_f (l : List Int) (hb : l.length < 4611686018427387904) (k : Nat) (hk : l.length < k) : impl_channelValuesFit.f k l = some (decide (l.length ≤ 20) && numOk l) := by
  unfold impl_channelValuesFit.f
  by_cases h : (l.length : Int) > 20
  · rw [if_pos h, decide_eq_false (by omega), Bool.false_and]
  · rw [if_neg h, decide_eq_true (by omega), Bool.true_and]
    have := chanValues_l l hb l.length k 0 (by omega) hk
    simpa using this

theorem slEqual_l (l m : List Int) (hl : l.length = m.length) (hb : l.length < 4611686018427387904) : ∀ d k i : Nat, l.length = i + d → d < k → slices_Equal_int_int.l0 k l m l.length i = some (decide (l.drop i = m.drop i)) := by
  intro d
  induction d with
  | zero =>
    intro k i hi hk
    obtain ⟨k, rfl, hk⟩ := kk_pred hk
    simp only [slices_Equal_int_int.l0]
    rw [if_neg (by omega), List.drop_of_length_le (by omega), List.drop_of_length_le (by omega)]
    simp
  | succ d ih =>
    intro k i hi hk
    obtain ⟨k, rfl, hk⟩ := kk_pred hk
    simp only [slices_Equal_int_int.l0]
    rw [if_pos (by omega), if_pos (by omega), if_pos (by omega), if_pos (by omega), rdN _ _ (by omega), rdN _ _ (by omega), wS _ (by omega), List.drop_eq_getElem_cons (by omega : i < l.length), List.drop_eq_getElem_cons (by omega : i < m.length)]
    by_cases e : l[i] = m[i]
    · rw [if_pos e, ih k (i + 1) (by omega) (by omega), e]
      simp only [List.cons.injEq, true_and]
    · rw [if_neg e]
      simp only [List.cons.injEq, e, false_and, decide_false]
theorem slEqual_f (l m : List Int) (hb : l.length < 4611686018427387904) (k : Nat) (hk : l.length < k) : slices_Equal_int_int.f k l m = some (decide (l = m)) := by
  unfold slices_Equal_int_int.f
  by_cases h : l.length = m.length
  · rw [if_pos (by omega)]
    have := slEqual_l l m h hb l.length k 0 (by omega) hk
    simpa using this
  · rw [if_neg (by omega)]
    have : ¬ l = m := fun e => h (by rw [e])
    simp [this]

theorem rdP_91 (xs : List S91) (i : Nat) (h : i < xs.length) : rd_T91 xs (i : Int) = xs[i] := by simp [rd_T91, h]
def packOk (vs : List Int) (ps : List S91) : Bool := ps.all fun p => decide (0 ≤ p.f0 ∧ p.f0 < vs.length ∧ p.f1 = rd vs p.f0)
def recOk (n : Nat) (rs : List Int) : Bool := rs.all fun r => decide (0 ≤ r ∧ r ≤ n)
/-- What the program and the reference call a valid channel. -/
def Vc (vs : List Int) (kn : Int) (got : List Int) (ps : List S91) (rs : List Int) : Bool :=
  (decide (vs.length ≤ 20) && numOk vs) && (decide (got.length ≤ vs.length) && (decide (got = vs.take got.length) && (decide (0 ≤ kn ∧ kn ≤ got.length) && (decide (ps.length ≤ 100 ∧ rs.length ≤ 100) && (packOk vs ps && recOk got.length rs)))))
theorem implChan_l1 (vs : List Int) (kn : Int) (got : List Int) (ps : List S91) (rs : List Int) (hb : rs.length < 4611686018427387904) : ∀ d k i : Nat, rs.length = i + d → d < k → impl_ChannelValid.l1 k rs rs.length i vs kn got ps rs = some (recOk got.length (rs.drop i)) := by
  intro d
  induction d with
  | zero =>
    intro k i hi hk
    obtain ⟨k, rfl, hk⟩ := kk_pred hk
    simp only [impl_ChannelValid.l1]
    rw [if_neg (by omega), List.drop_of_length_le (by omega)]
    rfl
  | succ d ih =>
    intro k i hi hk
    obtain ⟨k, rfl, hk⟩ := kk_pred hk
    simp only [impl_ChannelValid.l1]
    rw [if_pos (by omega), if_pos (by omega), if_pos (by omega), wS _ (by omega), ih k (i + 1) (by omega) (by omega), rdN _ _ (by omega), List.drop_eq_getElem_cons (by omega : i < rs.length)]
    unfold recOk
    rw [List.all_cons]
    by_cases h : 0 ≤ rs[i]
    · by_cases h' : rs[i] ≤ got.length
      · rw [if_neg (by omega), if_neg (by omega), decide_eq_true ⟨h, h'⟩, Bool.true_and]
      · rw [if_neg (by omega), if_pos (by omega), decide_eq_false (fun g => h' g.2), Bool.false_and]
    · rw [if_pos (by omega), decide_eq_false (fun g => h g.1), Bool.false_and]
theorem implChan_l0 (vs : List Int) (kn : Int) (got : List Int) (ps : List S91) (rs : List Int) (hb : ps.length < 4611686018427387904) (hb' : rs.length < 4611686018427387904) : ∀ d k i : Nat, ps.length = i + d → d + rs.length + 1 < k → impl_ChannelValid.l0 k ps ps.length i vs kn got ps rs = some (packOk vs (ps.drop i) && recOk got.length rs) := by
  intro d
  induction d with
  | zero =>
    intro k i hi hk
    obtain ⟨k, rfl, hk⟩ := kk_pred hk
    simp only [impl_ChannelValid.l0]
    rw [if_neg (by omega), List.drop_of_length_le (by omega)]
    have := implChan_l1 vs kn got ps rs hb' rs.length k 0 (by omega) (by omega)
    refine Eq.trans this ?_
    simp [packOk]
  | succ d ih =>
    intro k i hi hk
    obtain ⟨k, rfl, hk⟩ := kk_pred hk
    simp only [impl_ChannelValid.l0]
    rw [if_pos (by omega), if_pos (by omega), if_pos (by omega), wS _ (by omega), ih k (i + 1) (by omega) (by omega), rdP_91 _ _ (by omega), List.drop_eq_getElem_cons (by omega : i < ps.length)]
    unfold packOk
    rw [List.all_cons]
    by_cases h : 0 ≤ ps[i].f0
    · by_cases h' : ps[i].f0 < vs.length
      · rw [if_neg (by omega), if_neg (by omega), if_pos h, if_pos h']
        by_cases h2 : ps[i].f1 = rd vs ps[i].f0
        · rw [if_pos h2, decide_eq_true ⟨h, h', h2⟩, Bool.true_and]
        · rw [if_neg h2, decide_eq_false (fun g => h2 g.2.2), Bool.false_and, Bool.false_and]
      · rw [if_neg (by omega), if_pos (by omega), decide_eq_false (fun g => h' g.2.1), Bool.false_and, Bool.false_and]
    · rw [if_pos (by omega), decide_eq_false (fun g => h g.1), Bool.false_and, Bool.false_and]
theorem implChan_f (vs : List Int) (kn : Int) (got : List Int) (ps : List S91) (rs : List Int) (h1 : vs.length < 4611686018427387904) (h2 : got.length < 4611686018427387904) (h3 : ps.length < 4611686018427387904) (h4 : rs.length < 4611686018427387904) (k : Nat) (hk : vs.length + got.length + ps.length + rs.length + 10 < k) : impl_ChannelValid.f k vs kn got ps rs = some (Vc vs kn got ps rs) := by
  obtain ⟨k, rfl, hk⟩ := kk_pred hk
  obtain ⟨k, rfl, hk⟩ := kk_pred (show vs.length + got.length + ps.length + rs.length + 8 < k by omega)
  obtain ⟨k, rfl, hk⟩ := kk_pred (show vs.length + got.length + ps.length + rs.length + 6 < k by omega)
  simp only [impl_ChannelValid.f, impl_ChannelValid.j0, impl_ChannelValid.j1, impl_ChannelValid.j2, chanValues_f vs h1 _ (show vs.length < k + 1 + 1 + 1 by omega), Option.bind_some, Int.toNat_natCast, slEqual_f got _ h2 _ (show got.length < k + 1 + 1 by omega), Vc]
  have hl := implChan_l0 vs kn got ps rs h3 h4 ps.length k 0 (by omega) (by omega)
  rw [List.drop_zero] at hl
  have hl' : impl_ChannelValid.l0 k ps ps.length 0 vs kn got ps rs = some (packOk vs ps && recOk got.length rs) := hl
  by_cases c1 : (decide (vs.length ≤ 20) && numOk vs) = true
  · rw [c1]
    simp only [if_true, Bool.true_and, decide_eq_true_eq]
    by_cases c2 : got.length ≤ vs.length
    · rw [if_neg (by omega), if_pos (by omega), if_pos (by omega), decide_eq_true c2, Bool.true_and]
      by_cases c3 : got = vs.take got.length
      · rw [if_pos c3, decide_eq_true c3, Bool.true_and]
        by_cases c4 : kn < 0
        · rw [if_pos c4]
          have : ¬ (0 ≤ kn ∧ kn ≤ got.length) := by omega
          simp [this]
        · rw [if_neg c4]
          by_cases c5 : kn > got.length
          · rw [if_pos c5]
            have : ¬ (0 ≤ kn ∧ kn ≤ got.length) := by omega
            simp [this]
          · rw [if_neg c5, decide_eq_true (p := 0 ≤ kn ∧ kn ≤ got.length) (by omega), Bool.true_and]
            by_cases c6 : (ps.length : Int) > 100
            · rw [if_pos c6]
              have : ¬ (ps.length ≤ 100 ∧ rs.length ≤ 100) := by omega
              simp [this]
            · rw [if_neg c6]
              by_cases c7 : (rs.length : Int) > 100
              · rw [if_pos c7]
                have : ¬ (ps.length ≤ 100 ∧ rs.length ≤ 100) := by omega
                simp [this]
              · rw [if_neg c7, decide_eq_true (p := ps.length ≤ 100 ∧ rs.length ≤ 100) (by omega), Bool.true_and]
                exact hl'
      · rw [if_neg c3, decide_eq_false c3]
        simp
    · rw [if_pos (by omega), decide_eq_false c2]
      simp
  · rw [if_neg c1]
    have : (decide (vs.length ≤ 20) && numOk vs) = false := by simpa using c1
    rw [this]
    simp

end Go.Proofs.Ytloiafnoekpaoab.PFnExactChannelDone
namespace Go.Proofs.Ytloiafnoekpaoab.Pure
open Go.RowKit Go.Proofs.Ytloiafnoekpaoab.PFnExactChannelDone Go.Proofs.YtloiafnoekpaoabW.PrintWords Go.Proofs.YtloiafnoekpaoabW.PrintLast Go.Proofs.YtloiafnoekpaoabW.PrintMore
theorem Vc_Vs (vs : List Int) (kn : Int) (got : List Int) (ps : List S91) (rs : List Int) : Vc vs kn got ps rs = Vs vs kn got ps rs := by
  unfold Vc Vs packOk packB recOk recB numOk numB
  rw [Bool.eq_iff_iff]
  simp only [Bool.and_eq_true, decide_eq_true_eq]
  constructor
  · rintro ⟨⟨h1, h2⟩, h3, h4, h5, h6, h7, h8⟩
    exact ⟨h2, ⟨h1, h3, h5, h6⟩, h4, h7, h8⟩
  · rintro ⟨h2, ⟨h1, h3, h5, h6⟩, h4, h7, h8⟩
    exact ⟨⟨h1, h2⟩, h3, h4, h5, h6, h7, h8⟩
theorem FnExactChannelDone (vs : List Int) (kn : Int) (got : List Int) (ps : List S150) (rs : List Int) {p1 p2 p3 p4 p5 : Prop} (h : (vs.length ≤ maxLen ∧ p1) ∧ p2 ∧ (got.length ≤ maxLen ∧ p3) ∧ (ps.length ≤ maxLen ∧ p4) ∧ rs.length ≤ maxLen ∧ p5) : ∃ k, laws_FnExactChannelDone.f k vs kn got ps rs = some true := by
  obtain ⟨⟨h1, _⟩, _, ⟨h2, _⟩, ⟨h3, _⟩, h4, _⟩ := h
  unfold maxLen at h1 h2 h3 h4
  refine ⟨2000000, ?_⟩
  unfold laws_FnExactChannelDone.f
  rcases szChannel_f vs kn got ps rs (by omega) (by omega) (by omega) (by omega) with ⟨hs, r, hr0, hr⟩ | hr
  · rw [hr]
    have hm : (ps.map toPacketC).length = ps.length := by simp
    have e : laws_toChannel.f 2000000 vs kn got ps rs = some (vs, kn, got, ps.map toPacketC, rs) := by
      unfold laws_toChannel.f
      rw [toIntS_f vs (by omega) _ (by omega), toIntS_f got (by omega) _ (by omega), toPacketS_f ps (by omega) _ (by omega), toIntS_f rs (by omega) _ (by omega)]
      rfl
    rw [e]
    generalize ps.map toPacketC = qs at *
    simp only [Option.bind_some, spec_ChannelDone.f, impl_ChannelDone.f, specChan_f vs kn got qs rs (by omega) (by omega) (by omega) (by omega) 2000000 (by omega), implChan_f vs kn got qs rs (by omega) (by omega) (by omega) (by omega) 2000000 (by omega), Vc_Vs, laws_eqChannel.f, eqIntS_f vs vs (by omega) 2000000 (by omega), eqIntS_f got got (by omega) 2000000 (by omega), eqIntS_f rs rs (by omega) 2000000 (by omega), eqPacketS_f qs (by omega) 2000000 (by omega), if_true, decide_true]
    rw [if_neg (by omega)]
    by_cases hv : Vs vs kn got qs rs = true <;> simp [hv]
  · rw [hr]
    simp

end Go.Proofs.Ytloiafnoekpaoab.Pure
