/- The program's TotalsOf returns what the reference's returns, for all arguments. No further condition. -/
import Derived.Test.YtloiafnoekpaoabPFnExactTotalsOfx
import Derived.Test.YtloiafnoekpaoabL
import Derived.Test.YtloiafnoekpaoabT
set_option linter.unusedVariables false
set_option linter.unusedSimpArgs false
namespace Go.Proofs.Ytloiafnoekpaoab.PFnExactTotalsOf
open Go.RowKit Go.Proofs.YtloiafnoekpaoabW.PrintWords Go.Proofs.YtloiafnoekpaoabW.PrintLast Go.Proofs.YtloiafnoekpaoabW.PrintMore
theorem toIntS_l (l : List Int) (hb : l.length < 4611686018427387904) : ∀ d k i : Nat, ∀ o : List Int, o.length = l.length → o.take i = l.take i → l.length = i + d → d < k → laws_toIntS.l0 k l o i = some l := by
  intro d
  induction d with
  | zero =>
    intro k i o ho ht hi hk
    obtain ⟨k, rfl, hk⟩ := kk_pred hk
    simp only [laws_toIntS.l0]
    rw [if_neg (by omega)]
    obtain rfl : l.length = i := by omega
    rw [List.take_length, ← ho, List.take_length] at ht
    rw [ht]
  | succ d ih =>
    intro k i o ho ht hi hk
    obtain ⟨k, rfl, hk⟩ := kk_pred hk
    simp only [laws_toIntS.l0]
    rw [if_pos (by omega), if_pos (by omega), if_pos (by omega), wS _ (by omega), Int.toNat_natCast, rdN _ _ (by omega)]
    exact ih k (i + 1) _ (by simpa using ho) (by rw [take_set_succ _ _ _ (by omega), ht, List.take_succ_eq_append_getElem (by omega)]) (by omega) (by omega)
theorem toIntS_f (l : List Int) (hb : l.length ≤ 1048576) (k : Nat) (hk : l.length < k) : laws_toIntS.f k l = some l := by
  have := toIntS_l l (by omega) l.length k 0 (List.replicate l.length 0) (by simp) (by simp) (by omega) hk
  unfold laws_toIntS.f
  rw [if_pos (by omega), if_pos (by omega)]
  simpa using this

theorem eqIntS_l (l m : List Int) (hl : l.length = m.length) (hb : l.length < 4611686018427387904) : ∀ d k i : Nat, l.length = i + d → d < k → laws_eqIntS.l0 k l m i = some (decide (l.drop i = m.drop i)) := by
  intro d
  induction d with
  | zero =>
    intro k i hi hk
    obtain ⟨k, rfl, hk⟩ := kk_pred hk
    simp only [laws_eqIntS.l0]
    rw [if_neg (by omega), List.drop_of_length_le (by omega), List.drop_of_length_le (by omega)]
    simp
  | succ d ih =>
    intro k i hi hk
    obtain ⟨k, rfl, hk⟩ := kk_pred hk
    simp only [laws_eqIntS.l0]
    rw [if_pos (by omega), if_pos (by omega), if_pos (by omega), rdN _ _ (by omega), rdN _ _ (by omega), wS _ (by omega), List.drop_eq_getElem_cons (by omega : i < l.length), List.drop_eq_getElem_cons (by omega : i < m.length)]
    by_cases e : l[i] = m[i]
    · rw [if_pos e, ih k (i + 1) (by omega) (by omega), e]
      simp only [List.cons.injEq, true_and]
    · rw [if_neg e]
      simp only [List.cons.injEq, e, false_and, decide_false]
theorem eqIntS_f (l m : List Int) (hb : l.length < 4611686018427387904) (k : Nat) (hk : l.length < k) : laws_eqIntS.f k l m = some (decide (l = m)) := by
  unfold laws_eqIntS.f
  by_cases h : l.length = m.length
  · rw [if_pos (by omega)]
    have := eqIntS_l l m h hb l.length k 0 (by omega) hk
    simpa using this
  · rw [if_neg (by omega)]
    have : ¬ l = m := fun e => h (by rw [e])
    simp [this]

theorem markIntS_l (n : Nat) (m : Int) (h0 : 0 ≤ m) (hm : m + n < 4611686018427387904) : ∀ d k i : Nat, ∀ l : List Int, l.length = n → l.take i = iota m i → n = i + d → d < k → laws_markIntS.l0 k l (m + i) i = some (m + n, iota m n) := by
  intro d
  induction d with
  | zero =>
    intro k i l hl ht hi hk
    obtain ⟨k, rfl, hk⟩ := kk_pred hk
    simp only [laws_markIntS.l0]
    rw [if_neg (by omega)]
    obtain rfl : n = i := by omega
    rw [← ht, ← hl, List.take_length]
  | succ d ih =>
    intro k i l hl ht hi hk
    obtain ⟨k, rfl, hk⟩ := kk_pred hk
    simp only [laws_markIntS.l0]
    rw [if_pos (by omega), if_pos (by omega), wS _ (by omega), Int.toNat_natCast]
    have e : wrap64 (m + (i : Int) + 1) = m + ((i + 1 : Nat) : Int) := by unfold wrap64; omega
    rw [e]
    exact ih k (i + 1) _ (by simpa using hl) (by rw [take_set_succ _ _ _ (by omega), ht, iota_succ]) (by omega) (by omega)
theorem markIntS_f (l : List Int) (m : Int) (h0 : 0 ≤ m) (hm : m + l.length < 4611686018427387904) (k : Nat) (hk : l.length < k) : laws_markIntS.f k l m = some (m + l.length, iota m l.length) := by
  have := markIntS_l l.length m h0 hm l.length k 0 l rfl (by simp [iota]) (by omega) hk
  simpa [laws_markIntS.f] using this

theorem l1In_f (a b c : Int) : spec_l1In.f a b c = some (decide (b ≤ a ∧ a ≤ c)) := by
  unfold spec_l1In.f
  by_cases h : b ≤ a
  · rw [if_pos h]; simp [h]
  · rw [if_neg h]; simp [h]

theorem specTotal_l (l : List Int) (hl : l.length ≤ 16) : ∀ d k i : Nat, l.length = i + d → 2 * d + 1 < k → fitV (l.take i) → spec_TotalOf.l0 k l i (tot (known (l.take i))).1 (tot (known (l.take i))).2.1 (tot (known (l.take i))).2.2.1 (tot (known (l.take i))).2.2.2 = some (if fitV l then tot (known l) else (0, 0, 0, 0)) := by
  intro d
  induction d with
  | zero =>
    intro k i hi hk hf
    obtain ⟨k, rfl, hk⟩ := kk_pred hk
    simp only [spec_TotalOf.l0]
    rw [List.take_of_length_le (by omega)] at *
    rw [if_neg (by omega), if_pos hf]
  | succ d ih =>
    intro k i hi hk hf
    obtain ⟨k, rfl, hk⟩ := kk_pred hk
    obtain ⟨k, rfl, hk⟩ := kk_pred (show 2 * d + 1 < k by omega)
    have hi' : i < l.length := by omega
    simp only [spec_TotalOf.l0, spec_TotalOf.j1, l1In_f, Option.bind_some, decide_eq_true_eq]
    rw [if_pos (by omega), if_pos (by omega), wS _ (by omega), rdN _ _ hi']
    by_cases hv : -1 ≤ l[i] ∧ l[i] ≤ 999999
    · have hf' : fitV (l.take (i + 1)) := by
        intro x hx
        rw [List.take_succ_eq_append_getElem hi'] at hx
        rcases List.mem_append.1 hx with hx | hx
        · exact hf x hx
        · rw [List.mem_singleton.1 hx]; exact hv
      have ih' := ih k (i + 1) (by omega) (by omega) hf'
      rw [known_take_succ l i hi'] at ih'
      have ht := isTot (known (l.take i))
      have hkn : Kn (known (l.take i)) := kn_known hf
      have hkl := known_len (l.take i)
      have hs := kn_sum hkn
      rw [List.length_take] at hkl
      rw [if_pos hv, if_neg (by omega)]
      by_cases e : l[i] = -1
      · rw [if_pos e] at ih'
        rw [if_pos (by omega), ← ih']
        simp
      · rw [if_neg e, tot_snoc] at ih'
        rw [if_neg (by omega), ← ih']
        clear ih'
        generalize tot (known (l.take i)) = t at *
        obtain ⟨t1, t2, t3, t4⟩ := ht
        have w1 : wrap64 (t.1 + 1) = t.1 + 1 := wsm (by omega) (by omega)
        have w2 : wrap64 (t.2.1 + l[i]) = t.2.1 + l[i] := wsm (by omega) (by omega)
        rw [w1, w2]
        unfold stp
        by_cases hF : known (l.take i) = []
        · have h3 := t3 hF
          have z1 : t.1 = 0 := by rw [t1, hF]; rfl
          have z2 : t.2.1 = 0 := by rw [t2, hF]; rfl
          have z3 : mx t.2.2.2 l[i] = l[i] := by unfold mx; split <;> omega
          rw [if_pos (by omega), if_pos z1, z1, z2, z3]
          simp
        · have h4 := t4 hF
          have k1 := hkn _ h4.1
          have z1 : t.1 ≠ 0 := by have := List.length_pos_iff.2 hF; omega
          rw [if_neg (by omega), if_neg z1]
          by_cases hlt : l[i] < t.2.2.1
          · have z3 : mn t.2.2.1 l[i] = l[i] := by unfold mn; split <;> omega
            rw [if_pos hlt]
            simp only [z3]
          · have z3 : mn t.2.2.1 l[i] = t.2.2.1 := by unfold mn; split <;> omega
            rw [if_neg hlt]
            simp only [z3]
    · rw [if_neg hv, if_pos trivial, if_neg (fun g => hv (g _ (List.getElem_mem hi')))]
theorem specTotal_f (l : List Int) (hb : l.length < 4611686018427387904) (k : Nat) (hk : 40 < k) : spec_TotalOf.f k l = some (totalOf l) := by
  unfold totalOf spec_TotalOf.f
  by_cases h : l.length ≤ 16
  · have := specTotal_l l h l.length k 0 (by omega) (by omega) (by simp [fitV])
    refine Eq.trans this ?_
    simp [h]
  · rw [if_neg (fun g => h g.1)]
    obtain ⟨k, rfl, hk⟩ := kk_pred hk
    obtain ⟨k, rfl, hk⟩ := kk_pred (show 10 < k by omega)
    simp only [spec_TotalOf.l0, spec_TotalOf.j1, l1In_f, Option.bind_some, decide_eq_true_eq]
    rw [if_pos (by omega), if_pos (by omega)]
    by_cases hv : -1 ≤ rd l 0 ∧ rd l 0 ≤ 999999
    · rw [if_pos hv, if_pos (by omega)]
    · rw [if_neg hv, if_pos trivial]

theorem specOwner_f (v n : Nat) (hv : v ≤ 15) (h1 : 1 ≤ n) (h6 : n ≤ 6) : spec_OwnerOf.f (v : Int) (n : Int) = some ((ownN n v : Nat) : Int) := by
  simp only [spec_OwnerOf.f, l1In_f, Option.bind_some]
  rw [if_pos (by simp; omega), if_pos (by simp; omega), if_neg (by omega)]
  have e : wrap64 (wrap64 (13 * (v : Int)) + 5) = ((13 * v + 5 : Nat) : Int) := by unfold wrap64; omega
  rw [e]
  rfl

theorem ownN_lt' (b k : Nat) (h : 1 ≤ b) : ownN b k < b := by unfold ownN; exact Nat.mod_lt _ (by omega)
/-- The vertices of a worker, in order. -/
def ownL (b w n : Nat) : List Int := ((List.range n).filter fun v => ownN b v == w).map fun (v : Nat) => (v : Int)
theorem ownL_succ (b w n : Nat) : ownL b w (n + 1) = ownL b w n ++ if ownN b n = w then [(n : Int)] else [] := by
  unfold ownL
  rw [List.range_succ, List.filter_append, List.map_append]
  congr 1
  by_cases h : ownN b n = w <;> simp [h]
theorem ownL_len (b w n : Nat) : (ownL b w n).length ≤ n := by
  unfold ownL
  rw [List.length_map]
  refine Nat.le_trans (List.length_filter_le _ _) ?_
  simp
theorem ownL_mem (b w n : Nat) (x : Int) (h : x ∈ ownL b w n) : 0 ≤ x ∧ x < n := by
  unfold ownL at h
  obtain ⟨v, hv, rfl⟩ := List.mem_map.1 h
  have := List.mem_range.1 (List.mem_filter.1 hv).1
  omega
theorem ownedBy_l (n b w : Nat) (hn : n ≤ 16) (h1 : 1 ≤ b) (h6 : b ≤ 6) : ∀ d k i : Nat, n = i + d → 2 * d + 1 < k → spec_OwnedBy.l0 k n b w (ownL b w i) i = some (ownL b w n) := by
  intro d
  induction d with
  | zero =>
    intro k i hi hk
    obtain ⟨k, rfl, hk⟩ := kk_pred hk
    obtain ⟨k, rfl, hk⟩ := kk_pred (show 0 < k by omega)
    obtain rfl : n = i := by omega
    simp only [spec_OwnedBy.l0]
    rw [if_neg (by omega)]
    simp only [spec_OwnedBy.j1]
    simp
  | succ d ih =>
    intro k i hi hk
    obtain ⟨k, rfl, hk⟩ := kk_pred hk
    obtain ⟨k, rfl, hk⟩ := kk_pred (show 2 * d + 2 < k by omega)
    have ho := specOwner_f i b (by omega) h1 h6
    have hl := ownL_len b w i
    have e := wS i (by omega)
    simp only [spec_OwnedBy.l0, l1In_f, Option.bind_some]
    rw [if_pos (by omega), if_pos (by simp; omega)]
    simp only [spec_OwnedBy.j1]
    rw [if_pos (by simp; omega), ho, Option.bind_some, e, ← ih k (i + 1) (by omega) (by omega), ownL_succ]
    by_cases h : ownN b i = w
    · rw [if_pos (by omega), if_pos (by omega), if_pos h]
    · rw [if_neg (by omega), if_neg h, List.append_nil]
theorem ownedBy_f (n b w : Nat) (hn : n ≤ 16) (h1 : 1 ≤ b) (h6 : b ≤ 6) (k : Nat) (hk : 40 < k) : spec_OwnedBy.f k n b w = some (ownL b w n) :=
  ownedBy_l n b w hn h1 h6 n k 0 (by omega) (by omega)

/-- The values of a worker's vertices among the first n. -/
def ownV (l : List Int) (b w n : Nat) : List Int := (ownL b w n).map fun x => rd l x
theorem ownV_succ (l : List Int) (b w n : Nat) : ownV l b w (n + 1) = ownV l b w n ++ if ownN b n = w then [rd l (n : Int)] else [] := by
  unfold ownV
  rw [ownL_succ, List.map_append]
  congr 1
  split <;> rfl
theorem ownV_len (l : List Int) (b w n : Nat) : (ownV l b w n).length ≤ n := by
  unfold ownV
  rw [List.length_map]
  exact ownL_len b w n
theorem ownV_fit {l : List Int} (hf : fitV l) (b w n : Nat) (hn : n ≤ l.length) : fitV (ownV l b w n) := by
  intro x hx
  obtain ⟨y, hy, rfl⟩ := List.mem_map.1 hx
  have h := ownL_mem b w n y hy
  obtain ⟨v, rfl⟩ := Int.eq_ofNat_of_zero_le h.1
  rw [rdN _ _ (by omega)]
  exact hf _ (List.getElem_mem _)
def mkT (t : Int × Int × Int × Int) : S52 := ⟨t.1, t.2.1, t.2.2.1, t.2.2.2⟩
/-- The totals of the first m of b workers over the first n values. -/
def TS (l : List Int) (b n m : Nat) : List S52 := (List.range m).map fun w => mkT (tot (known (ownV l b w n)))
theorem TS_len (l : List Int) (b n m : Nat) : (TS l b n m).length = m := by simp [TS]
theorem TS_get (l : List Int) (b n m i : Nat) (h : i < (TS l b n m).length) : (TS l b n m)[i] = mkT (tot (known (ownV l b i n))) := by simp [TS]
theorem TS_succ (l : List Int) (b n m : Nat) : TS l b n (m + 1) = TS l b n m ++ [mkT (tot (known (ownV l b m n)))] := by simp [TS, List.range_succ]
theorem specTotals_l1 (l : List Int) (b w : Nat) (x5 : List S52) (o : List Int) (ho : ∀ x ∈ o, 0 ≤ x ∧ x < l.length) (hol : o.length ≤ 16) : ∀ d k j : Nat, o.length = j + d → spec_TotalsOf.l1 (k + d + 1) l b x5 w ((o.take j).map fun x => rd l x) o j = (spec_TotalOf.f k (o.map fun x => rd l x)).bind fun bt => (if x5.length < 4398046511104 then (spec_TotalsOf.l0 k l b (x5 ++ [mkT bt]) (wrap64 (w + 1))) else none) := by
  intro d
  induction d with
  | zero =>
    intro k j hj
    simp only [spec_TotalsOf.l1]
    rw [if_neg (by omega), List.take_of_length_le (by omega)]
    rfl
  | succ d ih =>
    intro k j hj
    have hj' : j < o.length := by omega
    have hm := ho o[j] (List.getElem_mem hj')
    rw [show k + (d + 1) + 1 = (k + d + 1) + 1 by omega]
    simp only [spec_TotalsOf.l1, rdN _ _ hj']
    rw [if_pos (by omega), if_pos (by omega), if_pos hm.1, if_pos hm.2, if_pos (by rw [List.length_map, List.length_take]; omega), wS _ (by omega), ← ih k (j + 1) (by omega), List.take_succ_eq_append_getElem hj', List.map_append]
    rfl
theorem specTotals_l0 (l : List Int) (hl : l.length ≤ 16) (hf : fitV l) (b : Nat) (h1 : 1 ≤ b) (h6 : b ≤ 6) : ∀ d k w : Nat, b = w + d → 20 * d + 50 < k → spec_TotalsOf.l0 k l b (TS l b l.length w) w = some (TS l b l.length b) := by
  intro d
  induction d with
  | zero =>
    intro k w hw hk
    obtain ⟨k, rfl, hk⟩ := kk_pred hk
    simp only [spec_TotalsOf.l0]
    obtain rfl : b = w := by omega
    rw [if_neg (by omega)]
  | succ d ih =>
    intro k w hw hk
    obtain ⟨k, rfl, hk⟩ := kk_pred hk
    simp only [spec_TotalsOf.l0]
    have hol := ownL_len b w l.length
    obtain ⟨e, he⟩ : ∃ e, (ownL b w l.length).length = e := ⟨_, rfl⟩
    obtain ⟨k, rfl⟩ : ∃ k', k = k' + e + 1 := ⟨k - e - 1, by omega⟩
    have h1' := specTotals_l1 l b w (TS l b l.length w) (ownL b w l.length) (ownL_mem b w l.length) (by omega) e k 0 (by omega)
    rw [if_pos (by omega), ownedBy_f l.length b w hl h1 h6 _ (by omega), Option.bind_some]
    rw [show (([] : List Int)) = ((ownL b w l.length).take 0).map fun x => rd l x from rfl]
    refine Eq.trans h1' ?_
    have hv := ownV_len l b w l.length
    have hT : spec_TotalOf.f k ((ownL b w l.length).map fun x => rd l x) = some (tot (known (ownV l b w l.length))) := by
      refine (specTotal_f (ownV l b w l.length) (by omega) k (by omega)).trans ?_
      unfold totalOf
      rw [if_pos ⟨by omega, ownV_fit hf b w _ (Nat.le_refl _)⟩]
    rw [hT, Option.bind_some, if_pos (by rw [TS_len]; omega), wS _ (by omega), ← TS_succ]
    exact ih k (w + 1) (by omega) (by omega)
def totalsR (l : List Int) (a : Int) : List S52 := if (l.length ≤ 16 ∧ fitV l) ∧ 1 ≤ a ∧ a ≤ 6 then TS l a.toNat l.length a.toNat else []
theorem totalsR_len (l : List Int) (a : Int) : (totalsR l a).length ≤ 6 := by
  unfold totalsR
  split
  · rw [TS_len]; omega
  · simp
theorem specTotals_f (l : List Int) (a : Int) (hb : l.length < 4611686018427387904) (k : Nat) (hk : 300 < k) : spec_TotalsOf.f k l a = some (totalsR l a) := by
  obtain ⟨k, rfl, hk⟩ := kk_pred hk
  unfold spec_TotalsOf.f totalsR
  simp only [Option.bind_some, specTotal_f l hb (k + 1) (by omega), l1In_f]
  by_cases hv : l.length ≤ 16 ∧ fitV l
  · have ht := isTot (known l)
    have e : totalOf l = tot (known l) := if_pos hv
    rw [e]
    have hne : ¬ ((tot (known l)).1 == 0 && ((tot (known l)).2.1 == 0 && ((tot (known l)).2.2.1 == 0 && (tot (known l)).2.2.2 == 0))) = true := by
      simp only [Bool.and_eq_true, beq_iff_eq]
      rintro ⟨g1, g2, g3, g4⟩
      by_cases c : known l = []
      · have := (ht.2.2.1 c).1; omega
      · have h3 := ht.1
        have : 0 < (known l).length := List.length_pos_iff.2 c
        omega
    rw [if_neg hne]
    by_cases ha : 1 ≤ a ∧ a ≤ 6
    · obtain ⟨b, rfl⟩ := Int.eq_ofNat_of_zero_le (a := a) (by omega)
      rw [if_pos ⟨hv, ha⟩, decide_eq_true ha]
      simp only [spec_TotalsOf.j0, Bool.not_true, Bool.false_eq_true, if_false, Int.toNat_natCast]
      exact specTotals_l0 l hv.1 hv.2 b (by omega) (by omega) b k 0 (by omega) (by omega)
    · rw [if_neg (fun h => ha h.2), decide_eq_false ha]
      simp only [spec_TotalsOf.j0, Bool.not_false, if_true]
  · have e : totalOf l = (0, 0, 0, 0) := if_neg hv
    rw [e, if_pos (by rfl), if_neg (fun h => hv h.1)]
    simp [spec_TotalsOf.j0]

theorem valueFits_f (a : Int) : impl_valueFits.f a = some (decide (-1 ≤ a ∧ a ≤ 999999)) := by
  unfold impl_valueFits.f
  by_cases h : -1 ≤ a
  · rw [if_pos h]
    refine congrArg some (decide_eq_decide.2 ?_)
    omega
  · rw [if_neg h, decide_eq_false (fun g => h g.1)]
theorem valuesFit_l (l : List Int) (hb : l.length < 4611686018427387904) : ∀ d k i : Nat, l.length = i + d → d < k → impl_valuesFit.l0 k l l.length i = some (decide (fitV (l.drop i))) := by
  intro d
  induction d with
  | zero =>
    intro k i hi hk
    obtain ⟨k, rfl, hk⟩ := kk_pred hk
    simp only [impl_valuesFit.l0]
    rw [if_neg (by omega), List.drop_of_length_le (by omega), decide_eq_true (by simp [fitV])]
  | succ d ih =>
    intro k i hi hk
    obtain ⟨k, rfl, hk⟩ := kk_pred hk
    simp only [impl_valuesFit.l0, valueFits_f, Option.bind_some, decide_eq_true_eq]
    rw [if_pos (by omega), if_pos (by omega), if_pos (by omega), wS _ (by omega), ih k (i + 1) (by omega) (by omega), rdN _ _ (by omega), List.drop_eq_getElem_cons (by omega : i < l.length)]
    by_cases h : -1 ≤ l[i] ∧ l[i] ≤ 999999
    · rw [if_pos h]
      refine congrArg some (decide_eq_decide.2 ?_)
      simp only [fitV, List.forall_mem_cons, h, true_and]
    · rw [if_neg h, decide_eq_false]
      intro g
      exact h (g _ List.mem_cons_self)
theorem valuesFit_f (l : List Int) (hb : l.length < 4611686018427387904) (k : Nat) (hk : l.length < k) : impl_valuesFit.f k l = some (decide (fitV l)) := by
  have := valuesFit_l l hb l.length k 0 (by omega) hk
  simpa [impl_valuesFit.f] using this

theorem with_tot (F : List Int) (hk : Kn F) (hl : F.length ≤ 16) (x : Int) (hx : -1 ≤ x ∧ x ≤ 999999) : impl_Total_with.f (tot F).1 (tot F).2.1 (tot F).2.2.1 (tot F).2.2.2 x = some (tot (F ++ known [x])) := by
  have ht := isTot F
  have hs := kn_sum hk
  unfold impl_Total_with.f
  by_cases e : x = -1
  · rw [if_pos e]
    subst e
    rw [show known [-1] = [] from rfl, List.append_nil]
  · rw [if_neg e, show known [x] = [x] from by simp [known, e], tot_snoc]
    generalize tot F = t at *
    unfold stp
    by_cases h0 : t.1 = 0
    · rw [if_pos h0, if_pos h0]
    · rw [if_neg h0, if_neg h0, wsm (n := t.1 + 1) (by have := ht.1; omega) (by have := ht.1; omega), wsm (n := t.2.1 + x) (by have := ht.2.1; omega) (by have := ht.2.1; omega)]
theorem TS_zero (l : List Int) (b : Nat) : TS l b 0 b = List.replicate b noT := by
  refine List.ext_getElem (by simp [TS_len]) fun i h1 h2 => ?_
  rw [TS_get, List.getElem_replicate]
  rfl
theorem tsStep_f (l : List Int) (hf : fitV l) (hl : l.length ≤ 16) (b q : Nat) (h1 : 1 ≤ b) (hq : q < l.length) : tsStep b (TS l b q b) q l[q] = some (TS l b (q + 1) b) := by
  have ho := ownN_lt' b q h1
  have hr : rd_T52 (TS l b q b) ((ownN b q : Nat) : Int) = mkT (tot (known (ownV l b (ownN b q) q))) := by
    have h : ownN b q < (TS l b q b).length := by rw [TS_len]; exact ho
    simp only [rd_T52, Int.toNat_natCast]
    rw [List.getD_eq_getElem?_getD, List.getElem?_eq_getElem h, Option.getD_some, TS_get]
  have hfit := ownV_fit hf b (ownN b q) q (by omega)
  have hw := with_tot (known (ownV l b (ownN b q) q)) (kn_known hfit) (by have := known_len (ownV l b (ownN b q) q); have := ownV_len l b (ownN b q) q; omega) l[q] (hf _ (List.getElem_mem hq))
  unfold tsStep
  rw [hr]
  simp only [mkT]
  rw [hw, Option.bind_some]
  congr 1
  refine List.ext_getElem (by simp [TS_len]) fun i h2 h3 => ?_
  rw [List.getElem_set, TS_get l b (q + 1) b i h3]
  by_cases e : ownN b q = i
  · rw [if_pos e]
    subst e
    rw [ownV_succ, if_pos rfl, known_append, rdN _ _ hq]
    rfl
  · rw [if_neg e, TS_get, ownV_succ, if_neg e, List.append_nil]
theorem tsGo_f (l : List Int) (hf : fitV l) (hl : l.length ≤ 16) (b : Nat) (h1 : 1 ≤ b) : ∀ d q : Nat, l.length = q + d → tsGo b (l.drop q) q (TS l b q b) = some (TS l b l.length b) := by
  intro d
  induction d with
  | zero =>
    intro q hq
    rw [List.drop_of_length_le (by omega)]
    obtain rfl : l.length = q := by omega
    rfl
  | succ d ih =>
    intro q hq
    rw [List.drop_eq_getElem_cons (by omega)]
    simp only [tsGo]
    rw [tsStep_f l hf hl b q h1 (by omega), Option.bind_some]
    exact ih (q + 1) (by omega)
theorem workersFit_f (a : Int) : impl_workersFit.f a = some (decide (1 ≤ a ∧ a ≤ 6)) := by
  unfold impl_workersFit.f
  by_cases h : a ≥ 1
  · rw [if_pos h]
    congr 1
    exact decide_eq_decide.2 ⟨fun g => ⟨h, g⟩, fun g => g.2⟩
  · rw [if_neg h, decide_eq_false (fun g => h g.1)]
theorem implTotals_f (l : List Int) (a : Int) (hb : l.length < 4611686018427387904) (k : Nat) (hk : l.length < k) : impl_TotalsOf.f k l a = some (totalsR l a) := by
  unfold impl_TotalsOf.f totalsR
  by_cases hl : (l.length : Int) > 16
  · rw [if_pos hl, if_neg (fun h => by have := h.1.1; omega)]
  · rw [if_neg hl, valuesFit_f l hb k hk, Option.bind_some, workersFit_f]
    by_cases hf : fitV l
    · rw [decide_eq_true hf, if_pos rfl, Option.bind_some]
      by_cases ha : 1 ≤ a ∧ a ≤ 6
      · rw [decide_eq_true ha, if_pos rfl, if_pos ⟨⟨by omega, hf⟩, ha⟩, ← TS_zero l]
        have := tsGo_f l hf (by omega) a.toNat (by omega) l.length 0 (by omega)
        simpa using this
      · rw [decide_eq_false ha, if_neg (by simp), if_neg (fun h => ha h.2)]
    · rw [decide_eq_false hf, if_neg (by simp), if_neg (fun h => hf h.1.2)]

theorem eqTotalS_l (l : List S52) (hb : l.length < 4611686018427387904) : ∀ d k i : Nat, l.length = i + d → d < k → laws_eqTotalS.l0 k l l i = some true := by
  intro d
  induction d with
  | zero =>
    intro k i hi hk
    obtain ⟨k, rfl, hk⟩ := kk_pred hk
    simp only [laws_eqTotalS.l0]
    rw [if_neg (by omega)]
  | succ d ih =>
    intro k i hi hk
    obtain ⟨k, rfl, hk⟩ := kk_pred hk
    simp only [laws_eqTotalS.l0, laws_eqTotal.f, if_true, Option.bind_some]
    rw [if_pos (by omega), if_pos (by omega), if_pos (by omega), wS _ (by omega)]
    exact ih k (i + 1) (by omega) (by omega)
theorem eqTotalS_f (l : List S52) (hb : l.length < 4611686018427387904) (k : Nat) (hk : l.length < k) : laws_eqTotalS.f k l l = some true := by
  have := eqTotalS_l l hb l.length k 0 (by omega) hk
  simpa [laws_eqTotalS.f] using this

/-- Totals with the numbers from m on in their fields. -/
def iotaT (m : Int) (n : Nat) : List S52 := (List.range n).map fun (i : Nat) => ⟨m + 4 * (i : Int), m + 4 * (i : Int) + 1, m + 4 * (i : Int) + 2, m + 4 * (i : Int) + 3⟩
theorem iotaT_length (m : Int) (n : Nat) : (iotaT m n).length = n := by simp [iotaT]
theorem iotaT_succ (m : Int) (n : Nat) : iotaT m (n + 1) = iotaT m n ++ [⟨m + 4 * (n : Int), m + 4 * (n : Int) + 1, m + 4 * (n : Int) + 2, m + 4 * (n : Int) + 3⟩] := by
  unfold iotaT
  rw [List.range_succ, List.map_append]
  rfl
theorem rdTot_set (l : List S52) (i : Nat) (v : S52) (h : i < l.length) : rd_T52 (l.set i v) (i : Int) = v := by simp [rd_T52, h]
theorem markTotalS_l (n : Nat) (m : Int) (h0 : 0 ≤ m) (hm : m + 4 * n < 4611686018427387904) : ∀ d k i : Nat, ∀ l : List S52, l.length = n → l.take i = iotaT m i → n = i + d → d < k → laws_markTotalS.l0 k l (m + 4 * i) i = some (m + 4 * n, iotaT m n) := by
  intro d
  induction d with
  | zero =>
    intro k i l hl ht hi hk
    obtain ⟨k, rfl, hk⟩ := kk_pred hk
    simp only [laws_markTotalS.l0]
    rw [if_neg (by omega)]
    obtain rfl : n = i := by omega
    rw [← ht, ← hl, List.take_length]
  | succ d ih =>
    intro k i l hl ht hi hk
    obtain ⟨k, rfl, hk⟩ := kk_pred hk
    have e1 : wrap64 (m + 4 * (i : Int) + 1) = m + 4 * (i : Int) + 1 := by unfold wrap64; omega
    have e2 : wrap64 (m + 4 * (i : Int) + 1 + 1) = m + 4 * (i : Int) + 2 := by unfold wrap64; omega
    have e3 : wrap64 (m + 4 * (i : Int) + 2 + 1) = m + 4 * (i : Int) + 3 := by unfold wrap64; omega
    have e4 : wrap64 (m + 4 * (i : Int) + 3 + 1) = m + 4 * ((i + 1 : Nat) : Int) := by unfold wrap64; omega
    simp only [laws_markTotalS.l0, Option.bind_some, Int.toNat_natCast, List.set_set, rdTot_set l i _ (by omega), e1, e2, e3, e4]
    rw [if_pos (by omega), if_pos (by omega), wS _ (by omega)]
    exact ih k (i + 1) _ (by simpa using hl) (by rw [take_set_succ _ _ _ (by omega), ht, iotaT_succ]) (by omega) (by omega)
theorem markTotalS_f (l : List S52) (m : Int) (h0 : 0 ≤ m) (hm : m + 4 * l.length < 4611686018427387904) (k : Nat) (hk : l.length < k) : laws_markTotalS.f k l m = some (m + 4 * l.length, iotaT m l.length) := by
  have := markTotalS_l l.length m h0 hm l.length k 0 l rfl (by simp [iotaT]) (by omega) hk
  simpa [laws_markTotalS.f] using this

theorem heldTotalS_l (n : Nat) (m : Int) (h0 : 0 ≤ m) (hm : m + 4 * n < 4611686018427387904) : ∀ d k i : Nat, n = i + d → d < k → laws_heldTotalS.l0 k (iotaT m n) (m + 4 * i) i = some (m + 4 * n) := by
  intro d
  induction d with
  | zero =>
    intro k i hi hk
    obtain ⟨k, rfl, hk⟩ := kk_pred hk
    simp only [laws_heldTotalS.l0, iotaT_length]
    rw [if_neg (by omega)]
    obtain rfl : n = i := by omega
    rfl
  | succ d ih =>
    intro k i hi hk
    obtain ⟨k, rfl, hk⟩ := kk_pred hk
    have e1 : wrap64 (m + 4 * (i : Int) + 1) = m + 4 * (i : Int) + 1 := by unfold wrap64; omega
    have e2 : wrap64 (m + 4 * (i : Int) + 1 + 1) = m + 4 * (i : Int) + 2 := by unfold wrap64; omega
    have e3 : wrap64 (m + 4 * (i : Int) + 2 + 1) = m + 4 * (i : Int) + 3 := by unfold wrap64; omega
    have e4 : wrap64 (m + 4 * (i : Int) + 3 + 1) = m + 4 * ((i + 1 : Nat) : Int) := by unfold wrap64; omega
    have hr : rd_T52 (iotaT m n) (i : Int) = ⟨m + 4 * (i : Int), m + 4 * (i : Int) + 1, m + 4 * (i : Int) + 2, m + 4 * (i : Int) + 3⟩ := by
      have hlt : i < n := by omega
      simp [rd_T52, iotaT, hlt]
    simp only [laws_heldTotalS.l0, iotaT_length, hr, e1, e2, e3, e4]
    simp only [if_true]
    rw [if_pos (by omega), if_pos (by omega), wS _ (by omega)]
    exact ih k (i + 1) (by omega) (by omega)
theorem heldTotalS_f (n : Nat) (m : Int) (h0 : 0 ≤ m) (hm : m + 4 * n < 4611686018427387904) (k : Nat) (hk : n < k) : laws_heldTotalS.f k (iotaT m n) m = some (m + 4 * n) := by
  have := heldTotalS_l n m h0 hm n k 0 (by omega) hk
  simpa [laws_heldTotalS.f] using this

end Go.Proofs.Ytloiafnoekpaoab.PFnExactTotalsOf
namespace Go.Proofs.Ytloiafnoekpaoab.Pure
open Go.RowKit Go.Proofs.Ytloiafnoekpaoab.PFnExactTotalsOf Go.Proofs.YtloiafnoekpaoabW.PrintWords Go.Proofs.YtloiafnoekpaoabW.PrintLast Go.Proofs.YtloiafnoekpaoabW.PrintMore
theorem FnExactTotalsOf : laws_FnExactTotalsOf.Pure := by
  intro l a hl hl8 hw ha
  refine ⟨2000001, ?_⟩
  unfold laws_FnExactTotalsOf.f
  by_cases h : (l.length : Int) > 1048576
  · rw [if_pos h]
  · rw [if_neg h]
    have hc := totalsR_len l a
    simp only [toIntS_f l (by omega) 2000001 (by omega), specTotals_f l a (by omega) 2000001 (by omega), implTotals_f l a (by omega) 2000001 (by omega), eqTotalS_f _ (show (totalsR l a).length < 4611686018427387904 by omega) 2000001 (by omega), eqIntS_f l l (by omega) 2000001 (by omega), markIntS_f l 1 (by omega) (by omega) 2000001 (by omega), Option.bind_some, decide_true, if_true, Bool.not_true]
    rw [if_neg (by omega)]
    simp only [laws_FnExactTotalsOf.j0, markTotalS_f (totalsR l a) 1 (by omega) (by omega) 2000000 (by omega), heldTotalS_f (totalsR l a).length 1 (by omega) (by omega) 2000000 (by omega), toIntS_f l (by omega) 2000000 (by omega), implTotals_f l a (by omega) 2000000 (by omega), eqTotalS_f _ (show (totalsR l a).length < 4611686018427387904 by omega) 2000000 (by omega), Option.bind_some, if_true]
    rw [if_neg (by simp), if_neg (by omega)]
    rw [if_neg (by omega)]

end Go.Proofs.Ytloiafnoekpaoab.Pure
