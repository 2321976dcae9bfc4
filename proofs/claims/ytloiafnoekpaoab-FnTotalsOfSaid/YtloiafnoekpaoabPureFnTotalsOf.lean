/- Workers have totals: joined, the totals of all workers are the total over all values. No further condition. -/
import Derived.Test.YtloiafnoekpaoabPFnTotalsOfx
import Derived.Test.YtloiafnoekpaoabL
import Derived.Test.YtloiafnoekpaoabT
set_option linter.unusedVariables false
set_option linter.unusedSimpArgs false
namespace Go.Proofs.Ytloiafnoekpaoab.PFnTotalsOf
open Go.RowKit Go.Proofs.YtloiafnoekpaoabW.PrintWords Go.Proofs.YtloiafnoekpaoabW.PrintLast Go.Proofs.YtloiafnoekpaoabW.PrintMore
theorem l1In_f (a b c : Int) : spec_l1In.f a b c = some (decide (b ≤ a ∧ a ≤ c)) := by
  unfold spec_l1In.f
  by_cases h : b ≤ a
  · rw [if_pos h]; simp [h]
  · rw [if_neg h]; simp [h]

theorem specTotal_l (l : List Int) (hl : l.length ≤ 16) : ∀ d k i : Nat, l.length = i + d → 2 * d + 1 < k → fitV (l.take i) → spec_TotalOf.l0 k l i (tot (known (l.take i))).1 (tot (known (l.take i))).2.1 (tot (known (l.take i))).2.2.1 (tot (known (l.take i))).2.2.2 = some (if fitV l then tot (known l) else (0, 0, 0, 0)) := by
  intro d
  induction d with
  | zero =>
    intro k i hi hk hf
    obtain ⟨k, rfl, hk⟩ := kk_pred hk
    simp only [spec_TotalOf.l0]
    rw [List.take_of_length_le (by omega)] at *
    rw [if_neg (by omega), if_pos hf]
  | succ d ih =>
    intro k i hi hk hf
    obtain ⟨k, rfl, hk⟩ := kk_pred hk
    obtain ⟨k, rfl, hk⟩ := kk_pred (show 2 * d + 1 < k by omega)
    have hi' : i < l.length := by omega
    simp only [spec_TotalOf.l0, spec_TotalOf.j1, l1In_f, Option.bind_some, decide_eq_true_eq]
    rw [if_pos (by omega), if_pos (by omega), wS _ (by omega), rdN _ _ hi']
    by_cases hv : -1 ≤ l[i] ∧ l[i] ≤ 999999
    · have hf' : fitV (l.take (i + 1)) := by
        intro x hx
        rw [List.take_succ_eq_append_getElem hi'] at hx
        rcases List.mem_append.1 hx with hx | hx
        · exact hf x hx
        · rw [List.mem_singleton.1 hx]; exact hv
      have ih' := ih k (i + 1) (by omega) (by omega) hf'
      rw [known_take_succ l i hi'] at ih'
      have ht := isTot (known (l.take i))
      have hkn : Kn (known (l.take i)) := kn_known hf
      have hkl := known_len (l.take i)
      have hs := kn_sum hkn
      rw [List.length_take] at hkl
      rw [if_pos hv, if_neg (by omega)]
      by_cases e : l[i] = -1
      · rw [if_pos e] at ih'
        rw [if_pos (by omega), ← ih']
        simp
      · rw [if_neg e, tot_snoc] at ih'
        rw [if_neg (by omega), ← ih']
        clear ih'
        generalize tot (known (l.take i)) = t at *
        obtain ⟨t1, t2, t3, t4⟩ := ht
        have w1 : wrap64 (t.1 + 1) = t.1 + 1 := wsm (by omega) (by omega)
        have w2 : wrap64 (t.2.1 + l[i]) = t.2.1 + l[i] := wsm (by omega) (by omega)
        rw [w1, w2]
        unfold stp
        by_cases hF : known (l.take i) = []
        · have h3 := t3 hF
          have z1 : t.1 = 0 := by rw [t1, hF]; rfl
          have z2 : t.2.1 = 0 := by rw [t2, hF]; rfl
          have z3 : mx t.2.2.2 l[i] = l[i] := by unfold mx; split <;> omega
          rw [if_pos (by omega), if_pos z1, z1, z2, z3]
          simp
        · have h4 := t4 hF
          have k1 := hkn _ h4.1
          have z1 : t.1 ≠ 0 := by have := List.length_pos_iff.2 hF; omega
          rw [if_neg (by omega), if_neg z1]
          by_cases hlt : l[i] < t.2.2.1
          · have z3 : mn t.2.2.1 l[i] = l[i] := by unfold mn; split <;> omega
            rw [if_pos hlt]
            simp only [z3]
          · have z3 : mn t.2.2.1 l[i] = t.2.2.1 := by unfold mn; split <;> omega
            rw [if_neg hlt]
            simp only [z3]
    · rw [if_neg hv, if_pos trivial, if_neg (fun g => hv (g _ (List.getElem_mem hi')))]
theorem specTotal_f (l : List Int) (hb : l.length < 4611686018427387904) (k : Nat) (hk : 40 < k) : spec_TotalOf.f k l = some (totalOf l) := by
  unfold totalOf spec_TotalOf.f
  by_cases h : l.length ≤ 16
  · have := specTotal_l l h l.length k 0 (by omega) (by omega) (by simp [fitV])
    refine Eq.trans this ?_
    simp [h]
  · rw [if_neg (fun g => h g.1)]
    obtain ⟨k, rfl, hk⟩ := kk_pred hk
    obtain ⟨k, rfl, hk⟩ := kk_pred (show 10 < k by omega)
    simp only [spec_TotalOf.l0, spec_TotalOf.j1, l1In_f, Option.bind_some, decide_eq_true_eq]
    rw [if_pos (by omega), if_pos (by omega)]
    by_cases hv : -1 ≤ rd l 0 ∧ rd l 0 ≤ 999999
    · rw [if_pos hv, if_pos (by omega)]
    · rw [if_neg hv, if_pos trivial]

theorem specOwner_f (v n : Nat) (hv : v ≤ 15) (h1 : 1 ≤ n) (h6 : n ≤ 6) : spec_OwnerOf.f (v : Int) (n : Int) = some ((ownN n v : Nat) : Int) := by
  simp only [spec_OwnerOf.f, l1In_f, Option.bind_some]
  rw [if_pos (by simp; omega), if_pos (by simp; omega), if_neg (by omega)]
  have e : wrap64 (wrap64 (13 * (v : Int)) + 5) = ((13 * v + 5 : Nat) : Int) := by unfold wrap64; omega
  rw [e]
  rfl

theorem ownN_lt' (b k : Nat) (h : 1 ≤ b) : ownN b k < b := by unfold ownN; exact Nat.mod_lt _ (by omega)
/-- The vertices of a worker, in order. -/
def ownL (b w n : Nat) : List Int := ((List.range n).filter fun v => ownN b v == w).map fun (v : Nat) => (v : Int)
theorem ownL_succ (b w n : Nat) : ownL b w (n + 1) = ownL b w n ++ if ownN b n = w then [(n : Int)] else [] := by
  unfold ownL
  rw [List.range_succ, List.filter_append, List.map_append]
  congr 1
  by_cases h : ownN b n = w <;> simp [h]
theorem ownL_len (b w n : Nat) : (ownL b w n).length ≤ n := by
  unfold ownL
  rw [List.length_map]
  refine Nat.le_trans (List.length_filter_le _ _) ?_
  simp
theorem ownL_mem (b w n : Nat) (x : Int) (h : x ∈ ownL b w n) : 0 ≤ x ∧ x < n := by
  unfold ownL at h
  obtain ⟨v, hv, rfl⟩ := List.mem_map.1 h
  have := List.mem_range.1 (List.mem_filter.1 hv).1
  omega
theorem ownedBy_l (n b w : Nat) (hn : n ≤ 16) (h1 : 1 ≤ b) (h6 : b ≤ 6) : ∀ d k i : Nat, n = i + d → 2 * d + 1 < k → spec_OwnedBy.l0 k n b w (ownL b w i) i = some (ownL b w n) := by
  intro d
  induction d with
  | zero =>
    intro k i hi hk
    obtain ⟨k, rfl, hk⟩ := kk_pred hk
    obtain ⟨k, rfl, hk⟩ := kk_pred (show 0 < k by omega)
    obtain rfl : n = i := by omega
    simp only [spec_OwnedBy.l0]
    rw [if_neg (by omega)]
    simp only [spec_OwnedBy.j1]
    simp
  | succ d ih =>
    intro k i hi hk
    obtain ⟨k, rfl, hk⟩ := kk_pred hk
    obtain ⟨k, rfl, hk⟩ := kk_pred (show 2 * d + 2 < k by omega)
    have ho := specOwner_f i b (by omega) h1 h6
    have hl := ownL_len b w i
    have e := wS i (by omega)
    simp only [spec_OwnedBy.l0, l1In_f, Option.bind_some]
    rw [if_pos (by omega), if_pos (by simp; omega)]
    simp only [spec_OwnedBy.j1]
    rw [if_pos (by simp; omega), ho, Option.bind_some, e, ← ih k (i + 1) (by omega) (by omega), ownL_succ]
    by_cases h : ownN b i = w
    · rw [if_pos (by omega), if_pos (by omega), if_pos h]
    · rw [if_neg (by omega), if_neg h, List.append_nil]
theorem ownedBy_f (n b w : Nat) (hn : n ≤ 16) (h1 : 1 ≤ b) (h6 : b ≤ 6) (k : Nat) (hk : 40 < k) : spec_OwnedBy.f k n b w = some (ownL b w n) :=
  ownedBy_l n b w hn h1 h6 n k 0 (by omega) (by omega)

/-- The values of a worker's vertices among the first n. -/
def ownV (l : List Int) (b w n : Nat) : List Int := (ownL b w n).map fun x => rd l x
theorem ownV_succ (l : List Int) (b w n : Nat) : ownV l b w (n + 1) = ownV l b w n ++ if ownN b n = w then [rd l (n : Int)] else [] := by
  unfold ownV
  rw [ownL_succ, List.map_append]
  congr 1
  split <;> rfl
theorem ownV_len (l : List Int) (b w n : Nat) : (ownV l b w n).length ≤ n := by
  unfold ownV
  rw [List.length_map]
  exact ownL_len b w n
theorem ownV_fit {l : List Int} (hf : fitV l) (b w n : Nat) (hn : n ≤ l.length) : fitV (ownV l b w n) := by
  intro x hx
  obtain ⟨y, hy, rfl⟩ := List.mem_map.1 hx
  have h := ownL_mem b w n y hy
  obtain ⟨v, rfl⟩ := Int.eq_ofNat_of_zero_le h.1
  rw [rdN _ _ (by omega)]
  exact hf _ (List.getElem_mem _)
def mkT (t : Int × Int × Int × Int) : S52 := ⟨t.1, t.2.1, t.2.2.1, t.2.2.2⟩
/-- The totals of the first m of b workers over the first n values. -/
def TS (l : List Int) (b n m : Nat) : List S52 := (List.range m).map fun w => mkT (tot (known (ownV l b w n)))
theorem TS_len (l : List Int) (b n m : Nat) : (TS l b n m).length = m := by simp [TS]
theorem TS_get (l : List Int) (b n m i : Nat) (h : i < (TS l b n m).length) : (TS l b n m)[i] = mkT (tot (known (ownV l b i n))) := by simp [TS]
theorem TS_succ (l : List Int) (b n m : Nat) : TS l b n (m + 1) = TS l b n m ++ [mkT (tot (known (ownV l b m n)))] := by simp [TS, List.range_succ]
theorem specTotals_l1 (l : List Int) (b w : Nat) (x5 : List S52) (o : List Int) (ho : ∀ x ∈ o, 0 ≤ x ∧ x < l.length) (hol : o.length ≤ 16) : ∀ d k j : Nat, o.length = j + d → spec_TotalsOf.l1 (k + d + 1) l b x5 w ((o.take j).map fun x => rd l x) o j = (spec_TotalOf.f k (o.map fun x => rd l x)).bind fun bt => (if x5.length < 4398046511104 then (spec_TotalsOf.l0 k l b (x5 ++ [mkT bt]) (wrap64 (w + 1))) else none) := by
  intro d
  induction d with
  | zero =>
    intro k j hj
    simp only [spec_TotalsOf.l1]
    rw [if_neg (by omega), List.take_of_length_le (by omega)]
    rfl
  | succ d ih =>
    intro k j hj
    have hj' : j < o.length := by omega
    have hm := ho o[j] (List.getElem_mem hj')
    rw [show k + (d + 1) + 1 = (k + d + 1) + 1 by omega]
    simp only [spec_TotalsOf.l1, rdN _ _ hj']
    rw [if_pos (by omega), if_pos (by omega), if_pos hm.1, if_pos hm.2, if_pos (by rw [List.length_map, List.length_take]; omega), wS _ (by omega), ← ih k (j + 1) (by omega), List.take_succ_eq_append_getElem hj', List.map_append]
    rfl
theorem specTotals_l0 (l : List Int) (hl : l.length ≤ 16) (hf : fitV l) (b : Nat) (h1 : 1 ≤ b) (h6 : b ≤ 6) : ∀ d k w : Nat, b = w + d → 20 * d + 50 < k → spec_TotalsOf.l0 k l b (TS l b l.length w) w = some (TS l b l.length b) := by
  intro d
  induction d with
  | zero =>
    intro k w hw hk
    obtain ⟨k, rfl, hk⟩ := kk_pred hk
    simp only [spec_TotalsOf.l0]
    obtain rfl : b = w := by omega
    rw [if_neg (by omega)]
  | succ d ih =>
    intro k w hw hk
    obtain ⟨k, rfl, hk⟩ := kk_pred hk
    simp only [spec_TotalsOf.l0]
    have hol := ownL_len b w l.length
    obtain ⟨e, he⟩ : ∃ e, (ownL b w l.length).length = e := ⟨_, rfl⟩
    obtain ⟨k, rfl⟩ : ∃ k', k = k' + e + 1 := ⟨k - e - 1, by omega⟩
    have h1' := specTotals_l1 l b w (TS l b l.length w) (ownL b w l.length) (ownL_mem b w l.length) (by omega) e k 0 (by omega)
    rw [if_pos (by omega), ownedBy_f l.length b w hl h1 h6 _ (by omega), Option.bind_some]
    rw [show (([] : List Int)) = ((ownL b w l.length).take 0).map fun x => rd l x from rfl]
    refine Eq.trans h1' ?_
    have hv := ownV_len l b w l.length
    have hT : spec_TotalOf.f k ((ownL b w l.length).map fun x => rd l x) = some (tot (known (ownV l b w l.length))) := by
      refine (specTotal_f (ownV l b w l.length) (by omega) k (by omega)).trans ?_
      unfold totalOf
      rw [if_pos ⟨by omega, ownV_fit hf b w _ (Nat.le_refl _)⟩]
    rw [hT, Option.bind_some, if_pos (by rw [TS_len]; omega), wS _ (by omega), ← TS_succ]
    exact ih k (w + 1) (by omega) (by omega)
def totalsR (l : List Int) (a : Int) : List S52 := if (l.length ≤ 16 ∧ fitV l) ∧ 1 ≤ a ∧ a ≤ 6 then TS l a.toNat l.length a.toNat else []
theorem totalsR_len (l : List Int) (a : Int) : (totalsR l a).length ≤ 6 := by
  unfold totalsR
  split
  · rw [TS_len]; omega
  · simp
theorem specTotals_f (l : List Int) (a : Int) (hb : l.length < 4611686018427387904) (k : Nat) (hk : 300 < k) : spec_TotalsOf.f k l a = some (totalsR l a) := by
  obtain ⟨k, rfl, hk⟩ := kk_pred hk
  unfold spec_TotalsOf.f totalsR
  simp only [Option.bind_some, specTotal_f l hb (k + 1) (by omega), l1In_f]
  by_cases hv : l.length ≤ 16 ∧ fitV l
  · have ht := isTot (known l)
    have e : totalOf l = tot (known l) := if_pos hv
    rw [e]
    have hne : ¬ ((tot (known l)).1 == 0 && ((tot (known l)).2.1 == 0 && ((tot (known l)).2.2.1 == 0 && (tot (known l)).2.2.2 == 0))) = true := by
      simp only [Bool.and_eq_true, beq_iff_eq]
      rintro ⟨g1, g2, g3, g4⟩
      by_cases c : known l = []
      · have := (ht.2.2.1 c).1; omega
      · have h3 := ht.1
        have : 0 < (known l).length := List.length_pos_iff.2 c
        omega
    rw [if_neg hne]
    by_cases ha : 1 ≤ a ∧ a ≤ 6
    · obtain ⟨b, rfl⟩ := Int.eq_ofNat_of_zero_le (a := a) (by omega)
      rw [if_pos ⟨hv, ha⟩, decide_eq_true ha]
      simp only [spec_TotalsOf.j0, Bool.not_true, Bool.false_eq_true, if_false, Int.toNat_natCast]
      exact specTotals_l0 l hv.1 hv.2 b (by omega) (by omega) b k 0 (by omega) (by omega)
    · rw [if_neg (fun h => ha h.2), decide_eq_false ha]
      simp only [spec_TotalsOf.j0, Bool.not_false, if_true]
  · have e : totalOf l = (0, 0, 0, 0) := if_neg hv
    rw [e, if_pos (by rfl), if_neg (fun h => hv h.1)]
    simp [spec_TotalsOf.j0]

theorem valueFits_f (a : Int) : impl_valueFits.f a = some (decide (-1 ≤ a ∧ a ≤ 999999)) := by
  unfold impl_valueFits.f
  by_cases h : -1 ≤ a
  · rw [if_pos h]
    refine congrArg some (decide_eq_decide.2 ?_)
    omega
  · rw [if_neg h, decide_eq_false (fun g => h g.1)]
theorem valuesFit_l (l : List Int) (hb : l.length < 4611686018427387904) : ∀ d k i : Nat, l.length = i + d → d < k → impl_valuesFit.l0 k l l.length i = some (decide (fitV (l.drop i))) := by
  intro d
  induction d with
  | zero =>
    intro k i hi hk
    obtain ⟨k, rfl, hk⟩ := kk_pred hk
    simp only [impl_valuesFit.l0]
    rw [if_neg (by omega), List.drop_of_length_le (by omega), decide_eq_true (by simp [fitV])]
  | succ d ih =>
    intro k i hi hk
    obtain ⟨k, rfl, hk⟩ := kk_pred hk
    simp only [impl_valuesFit.l0, valueFits_f, Option.bind_some, decide_eq_true_eq]
    rw [if_pos (by omega), if_pos (by omega), if_pos (by omega), wS _ (by omega), ih k (i + 1) (by omega) (by omega), rdN _ _ (by omega), List.drop_eq_getElem_cons (by omega : i < l.length)]
    by_cases h : -1 ≤ l[i] ∧ l[i] ≤ 999999
    · rw [if_pos h]
      refine congrArg some (decide_eq_decide.2 ?_)
      simp only [fitV, List.forall_mem_cons, h, true_and]
    · rw [if_neg h, decide_eq_false]
      intro g
      exact h (g _ List.mem_cons_self)
theorem valuesFit_f (l : List Int) (hb : l.length < 4611686018427387904) (k : Nat) (hk : l.length < k) : impl_valuesFit.f k l = some (decide (fitV l)) := by
  have := valuesFit_l l hb l.length k 0 (by omega) hk
  simpa [impl_valuesFit.f] using this

theorem with_tot (F : List Int) (hk : Kn F) (hl : F.length ≤ 16) (x : Int) (hx : -1 ≤ x ∧ x ≤ 999999) : impl_Total_with.f (tot F).1 (tot F).2.1 (tot F).2.2.1 (tot F).2.2.2 x = some (tot (F ++ known [x])) := by
  have ht := isTot F
  have hs := kn_sum hk
  unfold impl_Total_with.f
  by_cases e : x = -1
  · rw [if_pos e]
    subst e
    rw [show known [-1] = [] from rfl, List.append_nil]
  · rw [if_neg e, show known [x] = [x] from by simp [known, e], tot_snoc]
    generalize tot F = t at *
    unfold stp
    by_cases h0 : t.1 = 0
    · rw [if_pos h0, if_pos h0]
    · rw [if_neg h0, if_neg h0, wsm (n := t.1 + 1) (by have := ht.1; omega) (by have := ht.1; omega), wsm (n := t.2.1 + x) (by have := ht.2.1; omega) (by have := ht.2.1; omega)]
theorem TS_zero (l : List Int) (b : Nat) : TS l b 0 b = List.replicate b noT := by
  refine List.ext_getElem (by simp [TS_len]) fun i h1 h2 => ?_
  rw [TS_get, List.getElem_replicate]
  rfl
theorem tsStep_f (l : List Int) (hf : fitV l) (hl : l.length ≤ 16) (b q : Nat) (h1 : 1 ≤ b) (hq : q < l.length) : tsStep b (TS l b q b) q l[q] = some (TS l b (q + 1) b) := by
  have ho := ownN_lt' b q h1
  have hr : rd_T52 (TS l b q b) ((ownN b q : Nat) : Int) = mkT (tot (known (ownV l b (ownN b q) q))) := by
    have h : ownN b q < (TS l b q b).length := by rw [TS_len]; exact ho
    simp only [rd_T52, Int.toNat_natCast]
    rw [List.getD_eq_getElem?_getD, List.getElem?_eq_getElem h, Option.getD_some, TS_get]
  have hfit := ownV_fit hf b (ownN b q) q (by omega)
  have hw := with_tot (known (ownV l b (ownN b q) q)) (kn_known hfit) (by have := known_len (ownV l b (ownN b q) q); have := ownV_len l b (ownN b q) q; omega) l[q] (hf _ (List.getElem_mem hq))
  unfold tsStep
  rw [hr]
  simp only [mkT]
  rw [hw, Option.bind_some]
  congr 1
  refine List.ext_getElem (by simp [TS_len]) fun i h2 h3 => ?_
  rw [List.getElem_set, TS_get l b (q + 1) b i h3]
  by_cases e : ownN b q = i
  · rw [if_pos e]
    subst e
    rw [ownV_succ, if_pos rfl, known_append, rdN _ _ hq]
    rfl
  · rw [if_neg e, TS_get, ownV_succ, if_neg e, List.append_nil]
theorem tsGo_f (l : List Int) (hf : fitV l) (hl : l.length ≤ 16) (b : Nat) (h1 : 1 ≤ b) : ∀ d q : Nat, l.length = q + d → tsGo b (l.drop q) q (TS l b q b) = some (TS l b l.length b) := by
  intro d
  induction d with
  | zero =>
    intro q hq
    rw [List.drop_of_length_le (by omega)]
    obtain rfl : l.length = q := by omega
    rfl
  | succ d ih =>
    intro q hq
    rw [List.drop_eq_getElem_cons (by omega)]
    simp only [tsGo]
    rw [tsStep_f l hf hl b q h1 (by omega), Option.bind_some]
    exact ih (q + 1) (by omega)
theorem workersFit_f (a : Int) : impl_workersFit.f a = some (decide (1 ≤ a ∧ a ≤ 6)) := by
  unfold impl_workersFit.f
  by_cases h : a ≥ 1
  · rw [if_pos h]
    congr 1
    exact decide_eq_decide.2 ⟨fun g => ⟨h, g⟩, fun g => g.2⟩
  · rw [if_neg h, decide_eq_false (fun g => h g.1)]
theorem implTotals_f (l : List Int) (a : Int) (hb : l.length < 4611686018427387904) (k : Nat) (hk : l.length < k) : impl_TotalsOf.f k l a = some (totalsR l a) := by
  unfold impl_TotalsOf.f totalsR
  by_cases hl : (l.length : Int) > 16
  · rw [if_pos hl, if_neg (fun h => by have := h.1.1; omega)]
  · rw [if_neg hl, valuesFit_f l hb k hk, Option.bind_some, workersFit_f]
    by_cases hf : fitV l
    · rw [decide_eq_true hf, if_pos rfl, Option.bind_some]
      by_cases ha : 1 ≤ a ∧ a ≤ 6
      · rw [decide_eq_true ha, if_pos rfl, if_pos ⟨⟨by omega, hf⟩, ha⟩, ← TS_zero l]
        have := tsGo_f l hf (by omega) a.toNat (by omega) l.length 0 (by omega)
        simpa using this
      · rw [decide_eq_false ha, if_neg (by simp), if_neg (fun h => ha h.2)]
    · rw [decide_eq_false hf, if_neg (by simp), if_neg (fun h => hf h.1.2)]

theorem alive_f {k : Nat} (hk : 2 < k) : laws_alive.f k = some true := by
  obtain ⟨k, rfl, hk⟩ := kk_pred hk
  obtain ⟨k, rfl, hk⟩ := kk_pred (show 1 < k by omega)
  simp [laws_alive.f, impl_CheckSum.f, impl_BytesValid.f, impl_BytesValid.l0, impl_CheckSum.l0]

theorem open_d {l : List Int} (hl : ∀ x ∈ l, (Lit.int .u8 x).wf = true) : Dw (spec_l20Open.f l) (fun r => Bytes r.1 ∧ r.2 = 0) := by
  have hb : ∀ x ∈ l, 0 ≤ x ∧ x ≤ 255 := fun x hx => by
    have := hl x hx
    simp [Lit.wf, IntKind.min, IntKind.max, IntKind.bits, IntKind.signed] at this
    omega
  unfold spec_l20Open.f
  refine Dw.ite (fun h => Dw.pos (by omega) (Dw.some ⟨⟨fun x hx => hb x (List.mem_of_mem_take hx), by simp; omega⟩, rfl⟩)) (fun h => Dw.some ⟨⟨hb, by show l.length ≤ 2000; omega⟩, rfl⟩)

theorem pick_d {b : List Int} (hb : Bytes b) {p : Int} (h0 : 0 ≤ p) (h1 : p ≤ 1000000000) (n : Int) {k : Nat} (hk : 0 < k) : Dw (spec_l20Rd_pick.f k b p n) (PickOk n p) := by
  obtain ⟨k, rfl, _⟩ := kk_pred hk
  have e1 : wrap64 (p + 1) = p + 1 := by unfold wrap64; omega
  have e2 : wrap64 (p + 1 - 1) = p := by unfold wrap64; omega
  have e3 : wrap64 (p * 7) = p * 7 := by unfold wrap64; omega
  have e4 : wrap64 (p * 7 + 3) = p * 7 + 3 := by unfold wrap64; omega
  have hj : ∀ c : Bool, (c = false → 1 ≤ n ∧ 0 < b.length) → Dw (spec_l20Rd_pick.j0 (k + 1) n c b (p + 1)) (PickOk n p) := by
    intro c hc
    simp only [spec_l20Rd_pick.j0, e2, e3, e4]
    refine Dw.ite (fun _ => Dw.some ⟨rfl, by omega, fun h => by omega⟩) (fun h => ?_)
    obtain ⟨hn, hl⟩ := hc (by simpa using h)
    refine Dw.ite (fun hlt => ?_) (fun hge => ?_)
    · refine Dw.pos h0 (Dw.neg (by omega) (Dw.some ⟨rfl, ?_, fun _ => ?_⟩))
      · have hr := rd_byte hb.1 p
        have : wrap64 (rd b p) = rd b p := by unfold wrap64; omega
        simp only [this]
        exact Int.tmod_nonneg _ hr.1
      · exact Int.tmod_lt_of_pos _ (by omega)
    · have hlp : (0 : Int) < (b.length : Int) := by omega
      refine Dw.neg (by omega) (Dw.pos (Int.tmod_nonneg _ h0) (Dw.pos (Int.tmod_lt_of_pos _ hlp) (Dw.pos (Int.tmod_nonneg _ (by omega)) (Dw.pos (Int.tmod_lt_of_pos _ hlp) (Dw.neg (by omega) (Dw.some ⟨rfl, ?_, fun _ => Int.tmod_lt_of_pos _ (by omega)⟩))))))
      have hx := rd_byte hb.1 (Int.tmod p b.length)
      have hy := rd_byte hb.1 (Int.tmod (p * 7 + 3) b.length)
      have hd0 : 0 ≤ Int.tdiv p b.length := Int.tdiv_nonneg h0 (by omega)
      have hd1 : Int.tdiv p b.length ≤ p := Int.tdiv_le_self _ h0
      refine Int.tmod_nonneg _ ?_
      generalize rd b (Int.tmod p b.length) = x at *
      generalize rd b (Int.tmod (p * 7 + 3) b.length) = y at *
      generalize Int.tdiv p b.length = d at *
      have w1 : wrap64 x = x := by unfold wrap64; omega
      have w2 : wrap64 y = y := by unfold wrap64; omega
      have w3 : wrap64 d = d := by unfold wrap64; omega
      have w4 : wrap64 (x * 131) = x * 131 := by unfold wrap64; omega
      have w5 : wrap64 (y * 1117) = y * 1117 := by unfold wrap64; omega
      have w6 : wrap64 (p * 29) = p * 29 := by unfold wrap64; omega
      have w7 : wrap64 (d * 53) = d * 53 := by unfold wrap64; omega
      have w8 : wrap64 (x * 131 + y * 1117) = x * 131 + y * 1117 := by unfold wrap64; omega
      have w9 : wrap64 (x * 131 + y * 1117 + p * 29) = x * 131 + y * 1117 + p * 29 := by unfold wrap64; omega
      have w10 : wrap64 (x * 131 + y * 1117 + p * 29 + d * 53) = x * 131 + y * 1117 + p * 29 + d * 53 := by unfold wrap64; omega
      simp only [w1, w2, w3, w4, w5, w6, w7, w8, w9, w10]
      generalize hz : x * 131 + y * 1117 + p * 29 + d * 53 = z
      have hz0 : 0 ≤ z := by omega
      have hz1 : z ≤ 1000000000000 := by omega
      have hd2 : 0 ≤ Int.tdiv z 64 := Int.tdiv_nonneg hz0 (by omega)
      have hd3 : Int.tdiv z 64 ≤ z := Int.tdiv_le_self _ hz0
      have w11 : wrap64 (Int.tdiv z 64) = Int.tdiv z 64 := by unfold wrap64; omega
      rw [w11]
      exact xor_i64 _ _ hz0 (by omega) hd2 (by omega)
  unfold spec_l20Rd_pick.f
  rw [e1]
  refine Dw.ite (fun _ => hj _ (by simp)) (fun h => hj _ (fun h2 => ⟨by omega, ?_⟩))
  have : ¬ (b.length : Int) = 0 := by simpa using h2
  omega

theorem odd_d {b : List Int} (hb : Bytes b) {p : Int} (h0 : 0 ≤ p) (h1 : p ≤ 1000000000) (n : Int) {k : Nat} (hk : 0 < k) : Dw (spec_l20Rd_odd.f k b p n) (fun r => p ≤ r.2 ∧ r.2 ≤ p + 1) := by
  unfold spec_l20Rd_odd.f
  refine Dw.ite (fun _ => (pick_d hb h0 h1 n hk).bind fun r ⟨h2, _, _⟩ => Dw.some ?_) (fun _ => Dw.some ?_)
  · simp only; omega
  · simp only; omega

theorem values_l {b : List Int} (hb : Bytes b) (n : Int) : ∀ d k : Nat, ∀ (o : List Int) (p : Int), 0 ≤ p → p + 3 * d ≤ 900000000 → o.length + d ≤ 100 → d + 3 < k → Dw (spec_l20Values.l0 k n o d b p) (fun r => p ≤ r.2 ∧ r.2 ≤ p + 3 * d + 2 ∧ r.1.length ≤ 117) := by
  intro d
  induction d with
  | zero =>
    intro k o p h0 h1 hl hk
    obtain ⟨k, rfl, hk⟩ := kk_pred hk
    simp only [spec_l20Values.l0]
    refine Dw.neg (by omega) ((odd_d hb h0 (by omega) n (by omega)).bind fun r1 ⟨a1, a2⟩ => Dw.ite (fun _ => (pick_d hb (by omega) (by omega) 3 (by omega)).bind fun r2 ⟨c1, c2, c3⟩ => ?_) (fun _ => Dw.some ⟨a1, by omega, by simp only; omega⟩))
    refine Dw.ite (fun _ => Dw.pos (by omega) (Dw.some ?_)) (fun _ => Dw.ite (fun _ => Dw.pos (by omega) (Dw.some ?_)) (fun _ => Dw.pos (by omega) (Dw.some ?_)))
    all_goals (simp only [List.length_append, List.length_replicate, List.length_cons, List.length_nil]; omega)
  | succ d ih =>
    intro k o p h0 h1 hl hk
    obtain ⟨k, rfl, hk⟩ := kk_pred hk
    simp only [spec_l20Values.l0]
    refine Dw.pos (by omega) ((pick_d hb h0 (by omega) 9 (by omega)).bind fun r1 ⟨a1, a2, a3⟩ => (pick_d hb (by omega) (by omega) 256 (by omega)).bind fun r2 ⟨b1, b2, b3⟩ => ?_)
    simp only [Option.bind_some]
    refine (pick_d hb (by omega) (by omega) 3 (by omega)).bind fun r3 ⟨c1, c2, c3⟩ => Dw.pos c2 (Dw.pos (by simp only [List.length_cons, List.length_nil]; omega) (Dw.pos (by omega) ?_))
    have e : wrap64 (((d + 1 : Nat) : Int) - 1) = (d : Int) := by unfold wrap64; omega
    rw [e]
    refine (ih k _ r3.2 (by omega) (by omega) (by simp only [List.length_append, List.length_cons, List.length_nil]; omega) (by omega)).mono fun r ⟨h2, h3, h4⟩ => ⟨by omega, by omega, h4⟩
theorem values_d {b : List Int} (hb : Bytes b) (n : Int) {p : Int} (h0 : 0 ≤ p) (h1 : p ≤ 800000000) {k : Nat} (hk : 20 < k) : Dw (spec_l20Values.f k b p n) (fun r => p ≤ r.2 ∧ r.2 ≤ p + 40 ∧ r.1.length ≤ 117) := by
  unfold spec_l20Values.f
  refine (pick_d hb h0 (by omega) 10 (by omega)).bind fun r1 ⟨a1, a2, a3⟩ => ?_
  obtain ⟨d, hd⟩ := Int.eq_ofNat_of_zero_le a2
  have := a3 (by omega)
  rw [hd]
  refine (values_l hb n d k [] r1.2 (by omega) (by omega) (by simp; omega) (by omega)).mono fun r ⟨h2, h3, h4⟩ => ⟨by omega, by omega, h4⟩

theorem workers_d {b : List Int} (hb : Bytes b) (n : Int) {p : Int} (h0 : 0 ≤ p) (h1 : p ≤ 800000000) {k : Nat} (hk : 3 < k) : Dw (spec_l20Workers.f k b p n) (fun r => p ≤ r.2 ∧ r.2 ≤ p + 2 ∧ (-1 ≤ r.1 ∧ r.1 ≤ 7)) := by
  unfold spec_l20Workers.f
  refine (odd_d hb h0 (by omega) n (by omega)).bind fun r1 ⟨a1, a2⟩ => Dw.ite (fun _ => ?_) (fun _ => ?_)
  · simp only [Option.bind_some]
    refine (pick_d hb (by omega) (by omega) 3 (by omega)).bind fun r2 ⟨b1, b2, b3⟩ => Dw.pos b2 (Dw.pos (by simp only [List.length_cons, List.length_nil]; omega) (Dw.some ⟨by simp only; omega, by simp only; omega, ?_⟩))
    have := rd_mem (xs := [0, 7, -1]) b2 (by simp only [List.length_cons, List.length_nil]; omega)
    simp only [List.mem_cons, List.not_mem_nil, or_false] at this
    omega
  · refine (pick_d hb (by omega) (by omega) 6 (by omega)).bind fun r2 ⟨b1, b2, b3⟩ => Dw.some ⟨by simp only; omega, by simp only; omega, ?_⟩
    have : wrap64 (1 + r2.1) = 1 + r2.1 := by unfold wrap64; omega
    simp only [this]
    omega

theorem implValid_f (a b c d : Int) (k : Nat) (hk : 0 < k) : impl_TotalValid.f k a b c d = some (decide (Vt (a, b, c, d))) := by
  obtain ⟨k, rfl, hk⟩ := kk_pred hk
  simp only [Vt, impl_TotalValid.f, impl_TotalValid.j0, impl_noTotal.f, Option.bind_some, o_beq, o_dand, o_and, o_nand, o_or, o_ite, o_tf, o_ft, decide_eq_true_eq, not_true, false_and, imp_false]
  refine congrArg some (decide_eq_decide.2 ?_)
  omega

def joinT (t u : Int × Int × Int × Int) : Int × Int × Int × Int := if t.1 = 0 then u else if u.1 = 0 then t else (wrap64 (t.1 + u.1), wrap64 (t.2.1 + u.2.1), mn t.2.2.1 u.2.2.1, mx t.2.2.2 u.2.2.2)
def joined (t u : Int × Int × Int × Int) : Int × Int × Int × Int := if Vt t ∧ Vt u ∧ Vt (joinT t u) then joinT t u else (0, 0, 0, 0)
theorem implJoin_f (a b c d a' b' c' d' : Int) (k : Nat) (hk : 2 < k) : impl_JoinTotals.f k a b c d a' b' c' d' = some (joined (a, b, c, d) (a', b', c', d')) := by
  obtain ⟨k, rfl, hk⟩ := kk_pred hk
  obtain ⟨k, rfl, hk⟩ := kk_pred (show 1 < k by omega)
  have hj : impl_Total_joined.f a b c d a' b' c' d' = some (joinT (a, b, c, d) (a', b', c', d')) := by
    unfold impl_Total_joined.f joinT
    by_cases h0 : a = 0
    · rw [if_pos h0, if_pos h0]
    · rw [if_neg h0, if_neg h0]
      by_cases h1 : a' = 0
      · rw [if_pos h1, if_pos h1]
      · rw [if_neg h1, if_neg h1]
  simp only [impl_JoinTotals.f, impl_JoinTotals.j0, implValid_f _ _ _ _ (k + 1 + 1) (by omega), implValid_f _ _ _ _ (k + 1) (by omega), hj, Option.bind_some, joined]
  generalize joinT (a, b, c, d) (a', b', c', d') = t
  by_cases h1 : Vt (a, b, c, d)
  · by_cases h2 : Vt (a', b', c', d')
    · by_cases h3 : Vt t <;> simp [h1, h2, h3]
    · simp [h1, h2]
  · simp [h1]

theorem implTotal_l (l : List Int) (hl : l.length ≤ 16) (hf : fitV l) : ∀ d k i : Nat, l.length = i + d → d < k → impl_TotalOf.l0 k l l.length i (tot (known (l.take i))).1 (tot (known (l.take i))).2.1 (tot (known (l.take i))).2.2.1 (tot (known (l.take i))).2.2.2 = some (tot (known l)) := by
  intro d
  induction d with
  | zero =>
    intro k i hi hk
    obtain ⟨k, rfl, hk⟩ := kk_pred hk
    simp only [impl_TotalOf.l0]
    rw [if_neg (by omega), List.take_of_length_le (by omega)]
  | succ d ih =>
    intro k i hi hk
    obtain ⟨k, rfl, hk⟩ := kk_pred hk
    have hi' : i < l.length := by omega
    simp only [impl_TotalOf.l0]
    rw [if_pos (by omega), if_pos (by omega), if_pos (by omega), wS _ (by omega), rdN _ _ hi', ← ih k (i + 1) (by omega) (by omega), known_take_succ l i hi']
    have ht := isTot (known (l.take i))
    have hkn : Kn (known (l.take i)) := kn_known (fun x hx => hf x (List.mem_of_mem_take hx))
    have hkl := known_len (l.take i)
    have hs := kn_sum hkn
    have hv := hf l[i] (List.getElem_mem hi')
    rw [List.length_take] at hkl
    unfold impl_Total_with.f
    by_cases e : l[i] = -1
    · rw [if_pos e, if_pos e]
      simp
    · rw [if_neg e, if_neg e, tot_snoc]
      generalize tot (known (l.take i)) = t at *
      unfold stp
      by_cases h0 : t.1 = 0
      · rw [if_pos h0, if_pos h0]
        rfl
      · rw [if_neg h0, if_neg h0, wsm (n := t.1 + 1) (by have := ht.1; omega) (by have := ht.1; omega), wsm (n := t.2.1 + l[i]) (by have := ht.2.1; omega) (by have := ht.2.1; omega)]
        rfl
theorem implTotal_f (l : List Int) (hb : l.length < 4611686018427387904) (k : Nat) (hk : l.length + 2 < k) : impl_TotalOf.f k l = some (totalOf l) := by
  obtain ⟨k, rfl, hk⟩ := kk_pred hk
  unfold totalOf
  simp only [impl_TotalOf.f, impl_TotalOf.j0, impl_noTotal.f, Option.bind_some, valuesFit_f l hb (k + 1) (by omega)]
  by_cases h : l.length ≤ 16
  · rw [if_neg (by omega : ¬ (l.length : Int) > 16)]
    by_cases hf : fitV l
    · have e : (if l.length ≤ 16 ∧ fitV l then tot (known l) else (0, 0, 0, 0)) = tot (known l) := if_pos ⟨h, hf⟩
      have e2 : (!decide (fitV l)) = false := by simp [hf]
      rw [e, e2]
      simp only [Bool.false_eq_true, if_false]
      exact implTotal_l l h hf l.length k 0 (by omega) (by omega)
    · have e : (if l.length ≤ 16 ∧ fitV l then tot (known l) else (0, 0, 0, 0)) = (0, 0, 0, 0) := if_neg (fun g => hf g.2)
      have e2 : (!decide (fitV l)) = true := by simp [hf]
      rw [e, e2]
      simp only [if_true]
  · have e : (if l.length ≤ 16 ∧ fitV l then tot (known l) else (0, 0, 0, 0)) = (0, 0, 0, 0) := if_neg (fun g => h g.1)
    rw [e, if_pos (by omega : (l.length : Int) > 16)]
    simp only [if_true]

end Go.Proofs.Ytloiafnoekpaoab.PFnTotalsOf
namespace Go.Proofs.Ytloiafnoekpaoab.Pure
open Go.RowKit Go.Proofs.Ytloiafnoekpaoab.PFnTotalsOf Go.Proofs.YtloiafnoekpaoabW.PrintWords Go.Proofs.YtloiafnoekpaoabW.PrintLast Go.Proofs.YtloiafnoekpaoabW.PrintMore
theorem Vt_none : Vt (0, 0, -1, -1) := Or.inl ⟨rfl, rfl, rfl, rfl⟩
theorem joinT_isTot {F G : List Int} {t u : Int × Int × Int × Int} (h : IsTot F t) (g : IsTot G u) (hF : Kn F) (hG : Kn G) (hl : F.length + G.length ≤ 16) : IsTot (F ++ G) (joinT t u) := by
  have kF := kn_sum hF
  have kG := kn_sum hG
  obtain ⟨a1, a2, a3, a4⟩ := h
  obtain ⟨b1, b2, b3, b4⟩ := g
  unfold joinT
  by_cases hf : F = []
  · subst hf
    rw [if_pos (by simpa using a1)]
    exact ⟨b1, b2, b3, b4⟩
  · have hp : 0 < F.length := List.length_pos_iff.2 hf
    rw [if_neg (by omega)]
    by_cases hg : G = []
    · subst hg
      rw [if_pos (by simpa using b1), List.append_nil]
      exact ⟨a1, a2, a3, a4⟩
    · have hq : 0 < G.length := List.length_pos_iff.2 hg
      obtain ⟨c1, c2, c3, c4⟩ := a4 hf
      obtain ⟨d1, d2, d3, d4⟩ := b4 hg
      rw [if_neg (by omega), wsm (n := t.1 + u.1) (by omega) (by omega), wsm (n := t.2.1 + u.2.1) (by omega) (by omega)]
      refine ⟨by simp [a1, b1], by simp [a2, b2], fun e => absurd (List.append_eq_nil_iff.1 e).1 hf, fun _ => ⟨?_, fun x hx => ?_, ?_, fun x hx => ?_⟩⟩
      · simp only [mn]
        split
        · exact List.mem_append_right _ d1
        · exact List.mem_append_left _ c1
      · simp only [mn]
        rcases List.mem_append.1 hx with hx | hx
        · have := c2 x hx
          split <;> omega
        · have := d2 x hx
          split <;> omega
      · simp only [mx]
        split
        · exact List.mem_append_right _ d3
        · exact List.mem_append_left _ c3
      · simp only [mx]
        rcases List.mem_append.1 hx with hx | hx
        · have := c4 x hx
          split <;> omega
        · have := d4 x hx
          split <;> omega
theorem joined_tot {F G : List Int} (hF : Kn F) (hG : Kn G) (hl : F.length + G.length ≤ 16) : joined (tot F) (tot G) = tot (F ++ G) := by
  have hj := joinT_isTot (isTot F) (isTot G) hF hG hl
  have e : joinT (tot F) (tot G) = tot (F ++ G) := hj.uniq (isTot _) rfl rfl (fun _ => Iff.rfl)
  unfold joined
  rw [e, if_pos ⟨isTot_valid (isTot F) hF (by omega), isTot_valid (isTot G) hG (by omega), isTot_valid (isTot _) (fun x hx => by rcases List.mem_append.1 hx with h | h; exact hF x h; exact hG x h) (by simp; omega)⟩]
/-- The values of the first m of b workers' vertices among the first n. -/
def FM (v : List Int) (b n m : Nat) : List Int := (List.range m).flatMap fun w => ownV v b w n
theorem FM_succ (v : List Int) (b n m : Nat) : FM v b n (m + 1) = FM v b n m ++ ownV v b m n := by simp [FM, List.range_succ]
theorem flat_one (A : Nat → List Int) (o : Nat) (x : Int) : ∀ m : Nat, ((List.range m).flatMap fun w => A w ++ if o = w then [x] else []).Perm ((List.range m).flatMap A ++ if o < m then [x] else []) := by
  intro m
  induction m with
  | zero => simp
  | succ m ih =>
    rw [List.range_succ, List.flatMap_append, List.flatMap_append, List.flatMap_singleton, List.flatMap_singleton]
    by_cases h : o = m
    · subst h
      rw [if_pos rfl, if_pos (by omega)]
      rw [if_neg (by omega), List.append_nil] at ih
      refine (List.Perm.append_right _ ih).trans ?_
      rw [← List.append_assoc]
    · rw [if_neg h, List.append_nil]
      refine (List.Perm.append_right _ ih).trans ?_
      by_cases h2 : o < m
      · rw [if_pos h2, if_pos (by omega), List.append_assoc, List.append_assoc]
        exact List.Perm.append_left _ List.perm_append_comm
      · rw [if_neg h2, if_neg (by omega), List.append_nil, List.append_nil]
theorem FM_perm (v : List Int) (b : Nat) (h1 : 1 ≤ b) : ∀ n : Nat, n ≤ v.length → (FM v b n b).Perm (v.take n) := by
  intro n
  induction n with
  | zero => intro _; have : FM v b 0 b = [] := by unfold FM ownV ownL; simp
            rw [this]; simp
  | succ n ih =>
    intro hn
    have e : FM v b (n + 1) b = (List.range b).flatMap fun w => ownV v b w n ++ if ownN b n = w then [rd v (n : Int)] else [] := by
      unfold FM
      congr 1
      funext w
      exact ownV_succ v b w n
    rw [e]
    refine (flat_one _ _ _ b).trans ?_
    rw [if_pos (ownN_lt' b n h1), List.take_succ_eq_append_getElem (by omega), rdN _ _ (by omega)]
    exact List.Perm.append_right _ (ih (by omega))
theorem FM_len (v : List Int) (b n : Nat) (h1 : 1 ≤ b) (hn : n ≤ v.length) : (FM v b n b).length = n := by rw [(FM_perm v b h1 n hn).length_eq]; simp; omega
theorem FM_mono (v : List Int) (b n : Nat) : ∀ d m : Nat, (FM v b n m).length ≤ (FM v b n (m + d)).length := by
  intro d
  induction d with
  | zero => intro m; exact Nat.le_refl _
  | succ d ih => intro m; rw [show m + (d + 1) = (m + d) + 1 by omega, FM_succ, List.length_append]; have := ih m; omega
theorem FM_fit {v : List Int} (hf : fitV v) (b n m : Nat) (hn : n ≤ v.length) : fitV (FM v b n m) := by
  intro x hx
  obtain ⟨w, _, hw⟩ := List.mem_flatMap.1 hx
  exact ownV_fit hf b w n hn x hw
theorem totals_l (v : List Int) (b : Nat) (hv : v.length ≤ 16) (hf : fitV v) (h1 : 1 ≤ b) (h6 : b ≤ 6) : ∀ d k m : Nat, b = m + d → d + 60 < k →
    laws_FnTotalsOf.l0 k v b (TS v b v.length b) (TS v b v.length b) m (tot (known (FM v b v.length m))).1 (tot (known (FM v b v.length m))).2.1 (tot (known (FM v b v.length m))).2.2.1 (tot (known (FM v b v.length m))).2.2.2 = some true := by
  intro d
  induction d with
  | zero =>
    intro k m hm hk
    obtain ⟨k, rfl, hk⟩ := kk_pred hk
    obtain rfl : b = m := by omega
    have ht : totalOf v = tot (known v) := if_pos ⟨hv, hf⟩
    have e : tot (known (FM v b v.length b)) = tot (known v) := by
      have := (FM_perm v b h1 v.length (Nat.le_refl _)).filter (fun x => x != -1)
      rw [List.take_length] at this
      exact tot_perm this
    simp only [laws_FnTotalsOf.l0, TS_len, implTotal_f v (by omega) k (by omega), Option.bind_some, ht, e, beq_self_eq_true, Bool.and_self, if_true]
    rw [if_neg (by omega)]
  | succ d ih =>
    intro k m hm hk
    obtain ⟨k, rfl, hk⟩ := kk_pred hk
    have hlt : m < (TS v b v.length b).length := by rw [TS_len]; omega
    have hr : rd_T52 (TS v b v.length b) (m : Int) = mkT (tot (known (ownV v b m v.length))) := by
      simp only [rd_T52, Int.toNat_natCast]
      rw [List.getD_eq_getElem?_getD, List.getElem?_eq_getElem hlt, Option.getD_some, TS_get]
    have hl1 := FM_mono v b v.length d (m + 1)
    rw [show m + 1 + d = b by omega, FM_len v b v.length h1 (Nat.le_refl _), FM_succ, List.length_append] at hl1
    have k1 := known_len (FM v b v.length m)
    have k2 := known_len (ownV v b m v.length)
    have hj := joined_tot (kn_known (FM_fit hf b v.length m (Nat.le_refl _))) (kn_known (ownV_fit hf b m v.length (Nat.le_refl _))) (by omega)
    rw [← known_append, ← FM_succ] at hj
    simp only [laws_FnTotalsOf.l0, hr, mkT, implJoin_f _ _ _ _ _ _ _ _ k (by omega), Option.bind_some, beq_self_eq_true, Bool.not_true, Bool.or_self, Bool.false_eq_true, if_false, hj]
    rw [if_pos (by rw [TS_len]; omega), if_pos (by omega), if_pos (by rw [TS_len]; omega), wS _ (by omega)]
    exact ih k (m + 1) (by omega) (by omega)
theorem FnTotalsOf : laws_FnTotalsOf.Pure := by
  intro l hl hl8 hw
  refine ⟨1000, ?_⟩
  unfold laws_FnTotalsOf.f
  by_cases h : (l.length : Int) > 1048576
  · rw [if_pos h]
  · rw [if_neg h]
    obtain ⟨r, hr, hvl⟩ : Dw (spec_DrawTotalsOf.f 1000 l) (fun r => r.1.length ≤ 117) := by
      unfold spec_DrawTotalsOf.f
      exact (open_d hw).bind fun r ⟨hb, hp⟩ => (values_d hb 9 (by omega) (by omega) (by omega)).bind fun r1 h1 => (workers_d hb 9 (by omega) (by omega) (by omega)).bind fun r2 h2 => Dw.some h1.2.2
    obtain ⟨v, a⟩ := r
    simp only at hvl
    simp only [hr, Option.bind_some, implTotals_f v a (by omega) 1000 (by omega), specTotals_f v a (by omega) 1000 (by omega), if_true]
    unfold totalsR
    by_cases hv : (v.length ≤ 16 ∧ fitV v) ∧ 1 ≤ a ∧ a ≤ 6
    · obtain ⟨b, rfl⟩ := Int.eq_ofNat_of_zero_le (a := a) (by omega)
      simp only [if_pos hv, TS_len, Int.toNat_natCast]
      rw [if_neg (by omega)]
      have h0 : FM v b v.length 0 = [] := rfl
      have := totals_l v b hv.1.1 hv.1.2 (by omega) (by omega) b 1000 0 (by omega) (by omega)
      rw [h0] at this
      exact this
    · simp only [if_neg hv, List.length_nil]
      rw [if_pos (show ((0 : Nat) : Int) = 0 from rfl)]
      simp [alive_f]

end Go.Proofs.Ytloiafnoekpaoab.Pure
