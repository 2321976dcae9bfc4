/- Combined messages are some of them: combining again changes nothing; every vertex that gets a message still gets one; the least value stays. No further condition. -/
import Derived.Test.YtgdcnlmhdbdijaaPFnCombineMessagesx
import Derived.Test.YtgdcnlmhdbdijaaL
import Derived.Test.YtgdcnlmhdbdijaaT
set_option linter.unusedVariables false
set_option linter.unusedSimpArgs false
namespace Go.Proofs.Ytgdcnlmhdbdijaa.PFnCombineMessages
open Go.RowKit Go.Proofs.YtgdcnlmhdbdijaaW.PrintWords Go.Proofs.YtgdcnlmhdbdijaaW.PrintLast Go.Proofs.YtgdcnlmhdbdijaaW.PrintMore
/-- A message comes before another one. -/
def ltM (a b : S34) : Bool := decide (a.f0 < b.f0 ∨ a.f0 = b.f0 ∧ (a.f1 < b.f1 ∨ a.f1 = b.f1 ∧ a.f2 < b.f2))
theorem before_f (a b : S34) : spec_l9Before.f a.f0 a.f1 a.f2 b.f0 b.f1 b.f2 = some (ltM a b) := by
  unfold spec_l9Before.f ltM
  by_cases h0 : a.f0 = b.f0
  · rw [if_pos h0]
    by_cases h1 : a.f1 = b.f1
    · rw [if_pos h1]
      exact congrArg some (decide_eq_decide.2 (by omega))
    · rw [if_neg h1]
      exact congrArg some (decide_eq_decide.2 (by omega))
  · rw [if_neg h0]
    exact congrArg some (decide_eq_decide.2 (by omega))
def rdM' (l : List S34) (i : Nat) : S34 := rd_T34 l (i : Int)
def srtA' (l : List S34) (i : Nat) : Bool := i == 0 || !ltM (rdM' l i) (rdM' l (i - 1))

theorem alive_f {k : Nat} (hk : 2 < k) : laws_alive.f k = some true := by
  obtain ⟨k, rfl, hk⟩ := kk_pred hk
  obtain ⟨k, rfl, hk⟩ := kk_pred (show 1 < k by omega)
  simp [laws_alive.f, impl_CheckSum.f, impl_BytesValid.f, impl_BytesValid.l0, impl_CheckSum.l0]

theorem sameMessages_l (l : List S34) (hb : l.length < 4611686018427387904) : ∀ d k i : Nat, i + d = l.length → d < k → laws_sameMessages.l0 k l l (i : Int) = some true := by
  intro d
  induction d with
  | zero =>
    intro k i h hk
    obtain ⟨k, rfl, hk⟩ := kk_pred hk
    simp only [laws_sameMessages.l0]
    rw [if_neg (by omega)]
  | succ d ih =>
    intro k i h hk
    obtain ⟨k, rfl, hk⟩ := kk_pred (show 0 < k by omega)
    simp only [laws_sameMessages.l0, wS i (by omega)]
    rw [if_pos (by omega), if_pos (by omega), if_pos (by omega), if_neg (by simp)]
    exact ih k (i + 1) (by omega) (by omega)
theorem sameMessages_f (l : List S34) (hb : l.length < 4611686018427387904) (k : Nat) (hk : l.length < k) : laws_sameMessages.f k l l = some true := by
  unfold laws_sameMessages.f
  rw [if_pos rfl]
  exact sameMessages_l l hb l.length k 0 (by omega) hk

def cmpI (a b : Int) : Int := if a < b then -1 else if a > b then 1 else 0
theorem compare_f (a b : Int) : cmp_Compare_int.f a b = some (cmpI a b) := by
  unfold cmp_Compare_int.f cmp_isNaN_int.f cmpI
  simp only [Option.bind_some, bne_self_eq_false, Bool.false_eq_true, if_false]
  split
  · rfl
  · split <;> rfl
theorem or3_f (x y z : Int) (k : Nat) : cmp_Or_int.f (k + 4) [x, y, z] = some (if x = 0 then (if y = 0 then z else y) else x) := by
  have w1 : wrap64 (0 + 1) = 1 := by unfold wrap64; omega
  have w2 : wrap64 (1 + 1) = 2 := by unfold wrap64; omega
  have w3 : wrap64 (2 + 1) = 3 := by unfold wrap64; omega
  have r0 : rd [x, y, z] 0 = x := rfl
  have r1 : rd [x, y, z] 1 = y := rfl
  have r2 : rd [x, y, z] 2 = z := rfl
  have hl : (([x, y, z] : List Int).length : Int) = 3 := rfl
  unfold cmp_Or_int.f
  rw [hl]
  simp only [cmp_Or_int.l0, hl, w1, w2, w3, r0, r1, r2]
  rw [if_pos (by decide), if_pos (by decide), if_pos (by decide)]
  by_cases h0 : x = 0
  · rw [if_pos h0, if_pos h0, if_pos (by decide), if_pos (by decide), if_pos (by decide)]
    by_cases h1 : y = 0
    · rw [if_pos h1, if_pos h1, if_pos (by decide), if_pos (by decide), if_pos (by decide)]
      by_cases h2 : z = 0
      · rw [if_pos h2, if_neg (by decide), h2]
      · rw [if_neg h2]
    · rw [if_neg h1, if_neg h1]
  · rw [if_neg h0, if_neg h0]
/-- What the comparison of two messages tells. -/
def cmpM (a b : S34) : Int := if cmpI a.f0 b.f0 = 0 then (if cmpI a.f1 b.f1 = 0 then cmpI a.f2 b.f2 else cmpI a.f1 b.f1) else cmpI a.f0 b.f0
theorem cmpMsg_f (a b : S34) (k : Nat) (hk : 3 < k) : impl_compareMessages.f k a.f0 a.f1 a.f2 b.f0 b.f1 b.f2 = some (cmpM a b) := by
  obtain ⟨k, rfl⟩ : ∃ m, k = m + 4 := ⟨k - 4, by omega⟩
  simp only [impl_compareMessages.f, compare_f, Option.bind_some, or3_f]
  rfl
theorem cmpI_neg (a b : Int) : cmpI a b < 0 ↔ a < b := by
  unfold cmpI
  split
  · omega
  · split <;> omega
theorem cmpI_zero (a b : Int) : cmpI a b = 0 ↔ a = b := by
  unfold cmpI
  split
  · omega
  · split <;> omega
theorem cmpM_neg (a b : S34) : cmpM a b < 0 ↔ ltM a b = true := by
  unfold cmpM ltM
  rw [decide_eq_true_eq]
  by_cases h0 : a.f0 = b.f0
  · rw [if_pos ((cmpI_zero _ _).2 h0)]
    by_cases h1 : a.f1 = b.f1
    · rw [if_pos ((cmpI_zero _ _).2 h1), cmpI_neg]
      omega
    · rw [if_neg (fun h => h1 ((cmpI_zero _ _).1 h)), cmpI_neg]
      omega
  · rw [if_neg (fun h => h0 ((cmpI_zero _ _).1 h)), cmpI_neg]
    omega

theorem l1In_f (a b c : Int) : spec_l1In.f a b c = some (decide (b ≤ a ∧ a ≤ c)) := by
  unfold spec_l1In.f
  by_cases h : b ≤ a
  · rw [if_pos h]; simp [h]
  · rw [if_neg h]; simp [h]

theorem specProgram_f (a b c : Int) (k : Nat) (hk : 1 < k) : spec_ProgramValid.f k a b c = some (decide ((a = 1 ∨ a = 2) ∧ 0 ≤ b ∧ b ≤ 15 ∧ c = 0 ∨ (a = 3 ∨ a = 5) ∧ b = 0 ∧ c = 0 ∨ (a = 4 ∨ a = 6) ∧ b = 0 ∧ 1 ≤ c ∧ c ≤ 20)) := by
  obtain ⟨k, rfl, hk⟩ := kk_pred hk
  simp only [spec_ProgramValid.f, spec_ProgramValid.j0, spec_l1In.f, Option.bind_some, o_beq, o_dand, o_and, o_nand, o_or, o_ite, o_tf, o_ft, decide_eq_true_eq, not_true, false_and, imp_false]
  refine congrArg some (decide_eq_decide.2 ?_)
  omega

/-- Where x goes among the first p of l. -/
def insP (x : S34) (l : List S34) : Nat → Nat
  | 0 => 0
  | p + 1 => if ltM x (rdM' l p) then insP x l p else p + 1
theorem insP_le (x : S34) (l : List S34) : ∀ p, insP x l p ≤ p
  | 0 => Nat.le_refl _
  | p + 1 => by
    unfold insP
    have := insP_le x l p
    split <;> omega
theorem insP_before (x : S34) (l : List S34) : ∀ p i, insP x l p ≤ i → i < p → ltM x (rdM' l i) = true
  | 0, i, _, h => by omega
  | p + 1, i, h, hi => by
    unfold insP at h
    split at h
    · rename_i hl
      by_cases e : i = p
      · subst e
        exact hl
      · exact insP_before x l p i h (by omega)
    · omega
theorem insP_after (x : S34) (l : List S34) : ∀ p, insP x l p = 0 ∨ ltM x (rdM' l (insP x l p - 1)) = false
  | 0 => Or.inl rfl
  | p + 1 => by
    unfold insP
    split
    · exact insP_after x l p
    · rename_i hl
      exact Or.inr (by simpa using hl)
def insM (x : S34) (l : List S34) (q : Nat) : List S34 := l.take q ++ [x] ++ l.drop q
theorem rdM'_eq (l : List S34) (i : Nat) (h : i < l.length) : rdM' l i = l[i] := by simp [rdM', rd_T34, h]
theorem ltM_km (a b : S34) : ltM a b = ltOf kmC a b := by rw [ltOf_kmC]; rfl
theorem kmL_lt (a b : S34) : kmL a b = !ltM b a := by rw [ltM_km]; rfl
theorem kmL_trans {a b c : S34} (h1 : kmL a b = true) (h2 : kmL b c = true) : kmL a c = true := by
  rw [kmL_iff] at *
  omega
theorem kmL_of_lt {a b : S34} (h : ltM a b = true) : kmL a b = true := by
  rw [kmL_iff]
  unfold ltM at h
  simp only [decide_eq_true_eq] at h
  omega
theorem insM_sorted (x : S34) (l : List S34) (hs : l.Pairwise (fun a b => kmL a b = true)) : (insM x l (insP x l l.length)).Pairwise (fun a b => kmL a b = true) := by
  have hq := insP_le x l l.length
  have hb := insP_before x l l.length
  have ha := insP_after x l l.length
  generalize insP x l l.length = q at hq hb ha
  have hx1 : ∀ a ∈ l.take q, kmL a x = true := by
    intro a ham
    rcases ha with rfl | ha
    · simp at ham
    · by_cases q0 : q = 0
      · subst q0
        simp at ham
      · obtain ⟨q', rfl⟩ : ∃ q', q = q' + 1 := ⟨q - 1, by omega⟩
        rw [Nat.add_sub_cancel] at ha
        have h1 : kmL (rdM' l q') x = true := by rw [kmL_lt, ha]; rfl
        have h2 : l.take (q' + 1) = l.take q' ++ [rdM' l q'] := by rw [List.take_succ_eq_append_getElem (by omega), rdM'_eq _ _ (by omega)]
        have h3 : (l.take (q' + 1)).Pairwise (fun a b => kmL a b = true) := hs.sublist (List.take_sublist _ _)
        rw [h2] at h3 ham
        rcases List.mem_append.mp ham with h4 | h4
        · exact kmL_trans ((List.pairwise_append.mp h3).2.2 a h4 _ (by simp)) h1
        · simp only [List.mem_singleton] at h4
          rw [h4]
          exact h1
  have hx2 : ∀ c ∈ l.drop q, kmL x c = true := by
    intro c hc
    obtain ⟨i, hi, rfl⟩ := List.mem_iff_getElem.mp hc
    rw [List.length_drop] at hi
    rw [List.getElem_drop, ← rdM'_eq l (q + i) (by omega)]
    exact kmL_of_lt (hb (q + i) (by omega) (by omega))
  have hcr : ∀ a ∈ l.take q, ∀ c ∈ l.drop q, kmL a c = true := fun a h1 c h2 => kmL_trans (hx1 a h1) (hx2 c h2)
  unfold insM
  rw [List.append_assoc, List.pairwise_append]
  refine ⟨hs.sublist (List.take_sublist _ _), ?_, ?_⟩
  · rw [List.singleton_append, List.pairwise_cons]
    exact ⟨hx2, hs.sublist (List.drop_sublist _ _)⟩
  · intro a h1 c h2
    rcases List.mem_append.mp h2 with h3 | h3
    · simp only [List.mem_singleton] at h3
      rw [h3]
      exact hx1 a h1
    · exact hcr a h1 c h3
theorem insM_perm (x : S34) (l : List S34) (q : Nat) : (insM x l q).Perm (l ++ [x]) := by
  unfold insM
  have h1 : (l.take q ++ [x] ++ l.drop q).Perm (l.take q ++ (l.drop q ++ [x])) := by
    rw [List.append_assoc]
    exact (List.perm_append_comm).append_left _
  rw [← List.append_assoc, List.take_append_drop] at h1
  exact h1
theorem insM_km (x : S34) (l : List S34) : insM x (kmSort l) (insP x (kmSort l) (kmSort l).length) = kmSort (l ++ [x]) :=
  kmSort_unique ((insM_perm x _ _).trans ((kmSort_perm l).append_right _)) (insM_sorted x _ (kmSort_pairwise l))
theorem specSort_l1 (x0 out : List S34) (n : Nat) (hn : n < x0.length) (hn2 : n < 4611686018427387904) (ho : out.length ≤ 2000) (K0 : Nat) (r : List S34) :
    ∀ p, p ≤ out.length → (∀ k, K0 ≤ k → spec_SortMessages.l0 k x0 (insM (rdM' x0 n) out (insP (rdM' x0 n) out p)) ((n + 1 : Nat) : Int) = some r) → ∀ k, K0 + p + 1 ≤ k → spec_SortMessages.l1 k x0 out (n : Int) (p : Int) = some r
  | 0, hp, hnext, k, hk => by
    obtain ⟨k, rfl, hk⟩ := kk_pred (show 0 < k by omega)
    simp only [spec_SortMessages.l1, Option.bind_some, List.nil_append, wS n hn2, List.length_nil, Nat.zero_add, List.length_drop, List.length_take, List.length_append, List.length_singleton, Int.toNat_natCast]
    rw [if_neg (by omega), if_pos (by omega), if_pos (by omega), if_pos (by omega), if_pos (by omega), if_pos (by omega), if_pos (by omega), if_pos (by omega)]
    exact hnext k (by omega)
  | p + 1, hp, hnext, k, hk => by
    obtain ⟨k, rfl, hk⟩ := kk_pred (show 0 < k by omega)
    have hw : wrap64 (((p + 1 : Nat) : Int) - 1) = (p : Int) := by unfold wrap64; omega
    have hb := before_f (rd_T34 x0 (n : Int)) (rd_T34 out (p : Int))
    simp only [spec_SortMessages.l1, hw, hb, Option.bind_some, List.nil_append, wS n hn2, List.length_nil, Nat.zero_add, List.length_drop, List.length_take, List.length_append, List.length_singleton, Int.toNat_natCast]
    rw [if_pos (by omega), if_pos (by omega), if_pos (by omega), if_pos (by omega), if_pos (by omega)]
    unfold insP at hnext
    by_cases hl : ltM (rd_T34 x0 (n : Int)) (rd_T34 out (p : Int)) = true
    · rw [if_pos hl]
      rw [if_pos (show ltM (rdM' x0 n) (rdM' out p) = true from hl)] at hnext
      exact specSort_l1 x0 out n hn hn2 ho K0 r p (by omega) hnext k (by omega)
    · rw [if_neg hl, if_pos (by omega), if_pos (by omega), if_pos (by omega), if_pos (by omega), if_pos (by omega)]
      rw [if_neg (show ¬ ltM (rdM' x0 n) (rdM' out p) = true from hl)] at hnext
      exact hnext k (by omega)
theorem specSort_l0 (x0 : List S34) (h : x0.length ≤ 2000) (m : Nat) : ∀ (n : Nat), n + m = x0.length → ∀ k, 2010 * m + 2 ≤ k → spec_SortMessages.l0 k x0 (kmSort (x0.take n)) (n : Int) = some (kmSort x0) := by
  induction m with
  | zero =>
    intro n hn k hk
    obtain ⟨k, rfl, hk⟩ := kk_pred (show 1 < k by omega)
    obtain ⟨k, rfl, hk⟩ := kk_pred (show 0 < k by omega)
    rw [List.take_of_length_le (by omega)]
    simp only [spec_SortMessages.l0, spec_SortMessages.j1]
    rw [if_neg (by omega), if_neg (by simp)]
  | succ m ih =>
    intro n hn k hk
    obtain ⟨k, rfl, hk⟩ := kk_pred (show 1 < k by omega)
    obtain ⟨k, rfl, hk⟩ := kk_pred (show 0 < k by omega)
    simp only [spec_SortMessages.l0, spec_SortMessages.j1]
    rw [if_pos (by omega), if_pos (by simp; omega)]
    have hl : (kmSort (x0.take n)).length = n := by rw [kmSort_length, List.length_take]; omega
    have h1 := specSort_l1 x0 (kmSort (x0.take n)) n (by omega) (by omega) (by omega) (2010 * m + 2) (kmSort x0) (kmSort (x0.take n)).length (Nat.le_refl _) (fun k hk => by
      rw [insM_km, show x0.take n ++ [rdM' x0 n] = x0.take (n + 1) from (ko_take (by omega)).symm]
      exact ih (n + 1) (by omega) k hk) k (by rw [hl]; omega)
    exact h1
theorem specSort_f (l : List S34) (k : Nat) (hk : 5000000 ≤ k) : spec_SortMessages.f k l = some (if l.length ≤ 2000 then kmSort l else []) := by
  unfold spec_SortMessages.f
  by_cases h : l.length ≤ 2000
  · rw [if_pos h]
    have h0 := specSort_l0 l h l.length 0 (by omega) k (by omega)
    rw [show kmSort (l.take 0) = [] by simp [kmSort]] at h0
    exact h0
  · rw [if_neg h]
    obtain ⟨k, rfl, hk⟩ := kk_pred (show 1 < k by omega)
    obtain ⟨k, rfl, hk⟩ := kk_pred (show 0 < k by omega)
    simp only [spec_SortMessages.l0, spec_SortMessages.j1]
    rw [if_pos (by omega), if_neg (by simp; omega)]
/-- of the first n, those to another vertex than the one ahead. -/
def leP (l : List S34) : Nat → List S34
  | 0 => []
  | n + 1 => if n = 0 ∨ (rdM' l (n - 1)).f0 ≠ (rdM' l n).f0 then leP l n ++ [rdM' l n] else leP l n
theorem leP_len (l : List S34) : ∀ n, (leP l n).length ≤ n
  | 0 => Nat.le_refl _
  | n + 1 => by
    have := leP_len l n
    unfold leP
    split
    · simp; omega
    · omega
theorem leP_last (l : List S34) : ∀ n, 0 < n → 0 < (leP l n).length ∧ (rdM' (leP l n) ((leP l n).length - 1)).f0 = (rdM' l (n - 1)).f0
  | 0, h => by omega
  | n + 1, _ => by
    unfold leP
    by_cases c : n = 0 ∨ (rdM' l (n - 1)).f0 ≠ (rdM' l n).f0
    · rw [if_pos c]
      refine ⟨by simp, ?_⟩
      rw [List.length_append, List.length_singleton, Nat.add_sub_cancel, rdM'_eq _ _ (by simp)]
      simp
    · rw [if_neg c]
      have h1 := leP_last l n (by omega)
      refine ⟨h1.1, ?_⟩
      rw [h1.2, Nat.add_sub_cancel]
      omega
def cbP (C : Bool) (l : List S34) (n : Nat) : List S34 := if C = true then leP l n else l.take n
theorem cbP_len (C : Bool) (l : List S34) (n : Nat) : (cbP C l n).length ≤ n := by
  unfold cbP
  split
  · exact leP_len l n
  · rw [List.length_take]; omega
theorem take_snoc' (l : List S34) (n : Nat) (h : n < l.length) : l.take (n + 1) = l.take n ++ [rdM' l n] := by
  rw [List.take_succ_eq_append_getElem h, rdM'_eq _ _ h]

def Vs (a b c : Int) : Prop := (a = 1 ∨ a = 2) ∧ 0 ≤ b ∧ b ≤ 15 ∧ c = 0 ∨ (a = 3 ∨ a = 5) ∧ b = 0 ∧ c = 0 ∨ (a = 4 ∨ a = 6) ∧ b = 0 ∧ 1 ≤ c ∧ c ≤ 20
instance (a b c : Int) : Decidable (Vs a b c) := by unfold Vs; infer_instance
theorem specVs_f (a b c : Int) (k : Nat) (hk : 1 < k) : spec_ProgramValid.f k a b c = some (decide (Vs a b c)) := (specProgram_f a b c k hk).trans (congrArg some (decide_eq_decide.2 Iff.rfl))
def canC (a b c : Int) : Bool := decide (Vs a b c ∧ 1 ≤ a ∧ a ≤ 3)
theorem specCan_f (a b c : Int) (k : Nat) (hk : 1 < k) : spec_CanCombine.f k a b c = some (canC a b c) := by
  simp only [spec_CanCombine.f, specVs_f a b c k hk, l1In_f, Option.bind_some, decide_eq_true_eq, canC]
  by_cases h : Vs a b c
  · rw [if_pos h]
    exact congrArg some (decide_eq_decide.2 (by simp [h]))
  · rw [if_neg h]
    exact congrArg some (by simp [h])
theorem specComb_l (a b c : Int) (hv : Vs a b c) (s : List S34) (hs : s.length ≤ 2000) : ∀ d n : Nat, n + d = s.length → ∀ k, 2 * d + 4 ≤ k → spec_CombineMessages.l0 k (cbP (canC a b c) s n) s (n : Int) a b c = some (cbP (canC a b c) s s.length)
  | 0, n, hn, k, hk => by
    obtain ⟨k, rfl, hk⟩ := kk_pred (show 1 < k by omega)
    obtain ⟨k, rfl, hk⟩ := kk_pred (show 0 < k by omega)
    simp only [spec_CombineMessages.l0, spec_CombineMessages.j1]
    rw [if_neg (by omega), if_neg (by simp), show n = s.length by omega]
  | d + 1, n, hn, k, hk => by
    obtain ⟨k, rfl, hk⟩ := kk_pred (show 3 < k by omega)
    obtain ⟨k, rfl, hk⟩ := kk_pred (show 2 < k by omega)
    have ih := specComb_l a b c hv s hs d (n + 1) (by omega) k (by omega)
    have hl := cbP_len (canC a b c) s n
    have hw : wrap64 ((n : Int) + 1) = ((n + 1 : Nat) : Int) := wS n (by omega)
    have hx : (⟨(rd_T34 s (n : Int)).f0, (rd_T34 s (n : Int)).f1, (rd_T34 s (n : Int)).f2⟩ : S34) = rdM' s n := rfl
    simp only [spec_CombineMessages.l0, spec_CombineMessages.j1, specVs_f a b c (k + 1) (by omega), specCan_f a b c k (by omega), Option.bind_some, hw, hx]
    rw [if_pos (by omega), if_pos (by simpa using hv)]
    by_cases h0 : (cbP (canC a b c) s n).length = 0
    · have hw0 : wrap64 (((cbP (canC a b c) s n).length : Int) - 1) < 0 := by unfold wrap64; omega
      rw [if_pos hw0, if_pos (by omega), if_pos (by omega), if_pos (by omega)]
      have hn0 : n = 0 := by
        by_cases n0 : n = 0
        · exact n0
        · exfalso
          unfold cbP at h0
          split at h0
          · have := (leP_last s n (by omega)).1
            omega
          · rw [List.length_take] at h0
            omega
      have e : cbP (canC a b c) s n ++ [rdM' s n] = cbP (canC a b c) s (n + 1) := by
        unfold cbP
        split
        · subst hn0
          simp [leP]
        · exact (take_snoc' s n (by omega)).symm
      rw [e]
      exact ih
    · have hn0 : 0 < n := by omega
      have hw1 : wrap64 (((cbP (canC a b c) s n).length : Int) - 1) = (((cbP (canC a b c) s n).length - 1 : Nat) : Int) := by unfold wrap64; omega
      rw [hw1, if_neg (by omega), if_pos (by omega), if_pos (by omega), if_pos (by omega), if_pos (by omega)]
      by_cases hc : canC a b c = true
      · have hlast := (leP_last s n hn0).2
        have e : cbP (canC a b c) s n = leP s n := by unfold cbP; rw [if_pos hc]
        rw [hc, if_pos rfl]
        rw [hc] at e ih
        rw [e]
        have e1 : cbP true s (n + 1) = leP s (n + 1) := by unfold cbP; rw [if_pos rfl]
        rw [e1] at ih
        by_cases hq : (rd_T34 (leP s n) (((leP s n).length - 1 : Nat) : Int)).f0 = (rd_T34 s (n : Int)).f0
        · rw [if_pos hq]
          have e2 : leP s (n + 1) = leP s n := by
            rw [leP, if_neg]
            intro h
            rcases h with h | h
            · omega
            · exact h (hlast.symm.trans hq)
          rw [e2] at ih
          exact ih
        · rw [if_neg hq, if_pos (by have := leP_len s n; omega)]
          have e2 : leP s (n + 1) = leP s n ++ [rdM' s n] := by
            rw [leP, if_pos]
            exact Or.inr (fun h => hq (hlast.trans h))
          rw [e2] at ih
          exact ih
      · have hc' : canC a b c = false := by simpa using hc
        rw [hc']
        rw [hc'] at ih hl
        have e : cbP false s n ++ [rdM' s n] = cbP false s (n + 1) := by
          unfold cbP
          rw [if_neg (by simp), if_neg (by simp)]
          exact (take_snoc' s n (by omega)).symm
        by_cases hq : (rd_T34 (cbP false s n) (((cbP false s n).length - 1 : Nat) : Int)).f0 = (rd_T34 s (n : Int)).f0
        · rw [if_pos hq, if_neg (show ¬ (false = true) by simp), if_pos (by omega), e]
          exact ih
        · rw [if_neg hq, if_pos (by omega), e]
          exact ih
/-- What both hand back. -/
def combR (a b c : Int) (m : List S34) : List S34 := if Vs a b c ∧ m.length ≤ 2000 then cbP (canC a b c) (kmSort m) m.length else []
theorem specComb_f (a b c : Int) (m : List S34) (k : Nat) (hk : 5000000 ≤ k) : spec_CombineMessages.f k a b c m = some (combR a b c m) := by
  unfold spec_CombineMessages.f combR
  rw [specSort_f m k hk, Option.bind_some]
  have h0 : ∀ s, cbP (canC a b c) s 0 = [] := fun s => by unfold cbP; split <;> simp [leP]
  by_cases hl : m.length ≤ 2000
  · rw [if_pos hl]
    by_cases hv : Vs a b c
    · rw [if_pos ⟨hv, hl⟩]
      have h1 := specComb_l a b c hv (kmSort m) (by rw [kmSort_length]; omega) (kmSort m).length 0 (by omega) k (by rw [kmSort_length]; omega)
      rw [h0, kmSort_length] at h1
      exact h1
    · rw [if_neg (fun h => hv h.1)]
      obtain ⟨k, rfl, hk⟩ := kk_pred (show 3 < k by omega)
      obtain ⟨k, rfl, hk⟩ := kk_pred (show 2 < k by omega)
      simp only [spec_CombineMessages.l0, spec_CombineMessages.j1, specVs_f a b c (k + 1) (by omega), Option.bind_some]
      split
      · rw [if_neg (by simpa using hv)]
      · rw [if_neg (by simp)]
  · rw [if_neg hl, if_neg (fun h => hl h.2)]
    obtain ⟨k, rfl, hk⟩ := kk_pred (show 3 < k by omega)
    obtain ⟨k, rfl, hk⟩ := kk_pred (show 2 < k by omega)
    simp only [spec_CombineMessages.l0, spec_CombineMessages.j1]
    rw [if_neg (by simp), if_neg (by simp)]

/-- What the program and the reference call a valid program. -/
def Vp (a b c : Int) : Prop := (a = 1 ∨ a = 2) ∧ 0 ≤ b ∧ b ≤ 15 ∧ c = 0 ∨ (a = 3 ∨ a = 5) ∧ b = 0 ∧ c = 0 ∨ (a = 4 ∨ a = 6) ∧ b = 0 ∧ 1 ≤ c ∧ c ≤ 20
instance (a b c : Int) : Decidable (Vp a b c) := by unfold Vp; infer_instance
theorem implProgram_f (a b c : Int) (k : Nat) (hk : 1 < k) : impl_ProgramValid.f k a b c = some (decide (Vp a b c)) := by
  obtain ⟨k, rfl, hk⟩ := kk_pred hk
  obtain ⟨k, rfl, hk⟩ := kk_pred (show 0 < k by omega)
  simp only [Vp, impl_ProgramValid.f, impl_ProgramValid.j0, impl_ProgramValid.j1, Option.bind_some, o_beq, o_dand, o_and, o_nand, o_or, o_ite, o_tf, o_ft, decide_eq_true_eq, not_true, false_and, imp_false]
  refine congrArg some (decide_eq_decide.2 ?_)
  omega

theorem implLeast_l (l : List S34) (hl : l.length ≤ 1000000) : ∀ d n : Nat, n + d = l.length → ∀ k, d < k → impl_leastOnly.l0 k l (leP l n) l (l.length : Int) (n : Int) = some (leP l l.length)
  | 0, n, hn, k, hk => by
    obtain ⟨k, rfl, hk⟩ := kk_pred hk
    simp only [impl_leastOnly.l0]
    rw [if_neg (by omega), show n = l.length by omega]
  | d + 1, n, hn, k, hk => by
    obtain ⟨k, rfl, hk⟩ := kk_pred (show 0 < k by omega)
    have ih := implLeast_l l hl d (n + 1) (by omega) k (by omega)
    have hll := leP_len l n
    have hw : wrap64 ((n : Int) + 1) = ((n + 1 : Nat) : Int) := wS n (by omega)
    have hx : (⟨(rd_T34 l (n : Int)).f0, (rd_T34 l (n : Int)).f1, (rd_T34 l (n : Int)).f2⟩ : S34) = rdM' l n := rfl
    simp only [impl_leastOnly.l0, hw, hx]
    rw [if_pos (by omega), if_pos (by omega), if_pos (by omega)]
    by_cases h0 : n = 0
    · rw [if_pos (by omega), if_pos (by omega)]
      rw [leP, if_pos (Or.inl h0)] at ih
      exact ih
    · have hw1 : wrap64 ((n : Int) - 1) = ((n - 1 : Nat) : Int) := by unfold wrap64; omega
      rw [if_neg (by omega), hw1, if_pos (by omega), if_pos (by omega)]
      by_cases hq : (rd_T34 l ((n - 1 : Nat) : Int)).f0 = (rd_T34 l (n : Int)).f0
      · rw [if_pos hq]
        rw [leP, if_neg (by
          intro h
          rcases h with h | h
          · exact h0 h
          · exact h hq)] at ih
        exact ih
      · rw [if_neg hq, if_pos (by omega)]
        rw [leP, if_pos (show n = 0 ∨ (rdM' l (n - 1)).f0 ≠ (rdM' l n).f0 from Or.inr hq)] at ih
        exact ih
theorem implLeast_f (l : List S34) (hl : l.length ≤ 1000000) (k : Nat) (hk : l.length < k) : impl_leastOnly.f k l = some (leP l l.length) := implLeast_l l hl l.length 0 (by omega) k hk

theorem implCan_f (a b c : Int) (k : Nat) (hk : 1 < k) : impl_CanCombine.f k a b c = some (canC a b c) := by
  simp only [impl_CanCombine.f, implProgram_f a b c k hk, Option.bind_some, decide_eq_true_eq, canC]
  by_cases h : Vp a b c
  · have h' : Vs a b c := h
    rw [if_pos h]
    unfold Vp at h
    by_cases h1 : a = 1
    · rw [if_pos h1]
      simp only [h', true_and]
      exact congrArg some (by simp; omega)
    · rw [if_neg h1]
      by_cases h2 : a = 2
      · rw [if_pos h2]
        simp only [h', true_and]
        exact congrArg some (by simp; omega)
      · rw [if_neg h2]
        simp only [h', true_and, o_beq]
        exact congrArg some (decide_eq_decide.2 (by omega))
  · rw [if_neg h]
    have h' : ¬ Vs a b c := h
    exact congrArg some (by simp [h'])
theorem implComb_f (a b c : Int) (m : List S34) (hw : ∀ x ∈ m, -9223372036854775808 ≤ x.f0 ∧ x.f0 ≤ 9223372036854775807) (k : Nat) (hk : 5000 ≤ k) : impl_CombineMessages.f k a b c m = some (combR a b c m) := by
  unfold impl_CombineMessages.f combR
  obtain ⟨k, rfl, hk⟩ := kk_pred (show 3000 < k by omega)
  rw [implProgram_f a b c (k + 1) (by omega), Option.bind_some]
  by_cases hv : Vs a b c
  · rw [if_pos (show decide (Vp a b c) = true by exact decide_eq_true hv)]
    simp only [impl_CombineMessages.j0]
    by_cases hl : m.length ≤ 2000
    · rw [if_neg (by simp; omega), if_pos ⟨hv, hl⟩]
      unfold impl_inOrder.f
      rw [if_pos ⟨by omega, hw⟩, Option.bind_some, implCan_f a b c k (by omega), Option.bind_some]
      have hkl := kmSort_length m
      unfold cbP
      by_cases hc : canC a b c = true
      · rw [if_pos hc, if_pos hc, implLeast_f _ (by omega) k (by omega), Option.bind_some, hkl]
      · rw [if_neg hc, if_neg hc, List.take_of_length_le (by omega)]
    · rw [if_pos (by simp; omega), if_neg (fun h => hl h.2)]
  · rw [if_neg (show ¬ decide (Vp a b c) = true by rw [decide_eq_true_eq]; exact hv), if_neg (fun h => hv h.1)]
    simp only [impl_CombineMessages.j0, if_true]

theorem open_d {l : List Int} (hl : ∀ x ∈ l, (Lit.int .u8 x).wf = true) : Dw (spec_l20Open.f l) (fun r => Bytes r.1 ∧ r.2 = 0) := by
  have hb : ∀ x ∈ l, 0 ≤ x ∧ x ≤ 255 := fun x hx => by
    have := hl x hx
    simp [Lit.wf, IntKind.min, IntKind.max, IntKind.bits, IntKind.signed] at this
    omega
  unfold spec_l20Open.f
  refine Dw.ite (fun h => Dw.pos (by omega) (Dw.some ⟨⟨fun x hx => hb x (List.mem_of_mem_take hx), by simp; omega⟩, rfl⟩)) (fun h => Dw.some ⟨⟨hb, by show l.length ≤ 2000; omega⟩, rfl⟩)

theorem pick_d {b : List Int} (hb : Bytes b) {p : Int} (h0 : 0 ≤ p) (h1 : p ≤ 1000000000) (n : Int) {k : Nat} (hk : 0 < k) : Dw (spec_l20Rd_pick.f k b p n) (PickOk n p) := by
  obtain ⟨k, rfl, _⟩ := kk_pred hk
  have e1 : wrap64 (p + 1) = p + 1 := by unfold wrap64; omega
  have e2 : wrap64 (p + 1 - 1) = p := by unfold wrap64; omega
  have e3 : wrap64 (p * 7) = p * 7 := by unfold wrap64; omega
  have e4 : wrap64 (p * 7 + 3) = p * 7 + 3 := by unfold wrap64; omega
  have hj : ∀ c : Bool, (c = false → 1 ≤ n ∧ 0 < b.length) → Dw (spec_l20Rd_pick.j0 (k + 1) n c b (p + 1)) (PickOk n p) := by
    intro c hc
    simp only [spec_l20Rd_pick.j0, e2, e3, e4]
    refine Dw.ite (fun _ => Dw.some ⟨rfl, by omega, fun h => by omega⟩) (fun h => ?_)
    obtain ⟨hn, hl⟩ := hc (by simpa using h)
    refine Dw.ite (fun hlt => ?_) (fun hge => ?_)
    · refine Dw.pos h0 (Dw.neg (by omega) (Dw.some ⟨rfl, ?_, fun _ => ?_⟩))
      · have hr := rd_byte hb.1 p
        have : wrap64 (rd b p) = rd b p := by unfold wrap64; omega
        simp only [this]
        exact Int.tmod_nonneg _ hr.1
      · exact Int.tmod_lt_of_pos _ (by omega)
    · have hlp : (0 : Int) < (b.length : Int) := by omega
      refine Dw.neg (by omega) (Dw.pos (Int.tmod_nonneg _ h0) (Dw.pos (Int.tmod_lt_of_pos _ hlp) (Dw.pos (Int.tmod_nonneg _ (by omega)) (Dw.pos (Int.tmod_lt_of_pos _ hlp) (Dw.neg (by omega) (Dw.some ⟨rfl, ?_, fun _ => Int.tmod_lt_of_pos _ (by omega)⟩))))))
      have hx := rd_byte hb.1 (Int.tmod p b.length)
      have hy := rd_byte hb.1 (Int.tmod (p * 7 + 3) b.length)
      have hd0 : 0 ≤ Int.tdiv p b.length := Int.tdiv_nonneg h0 (by omega)
      have hd1 : Int.tdiv p b.length ≤ p := Int.tdiv_le_self _ h0
      refine Int.tmod_nonneg _ ?_
      generalize rd b (Int.tmod p b.length) = x at *
      generalize rd b (Int.tmod (p * 7 + 3) b.length) = y at *
      generalize Int.tdiv p b.length = d at *
      have w1 : wrap64 x = x := by unfold wrap64; omega
      have w2 : wrap64 y = y := by unfold wrap64; omega
      have w3 : wrap64 d = d := by unfold wrap64; omega
      have w4 : wrap64 (x * 131) = x * 131 := by unfold wrap64; omega
      have w5 : wrap64 (y * 1117) = y * 1117 := by unfold wrap64; omega
      have w6 : wrap64 (p * 29) = p * 29 := by unfold wrap64; omega
      have w7 : wrap64 (d * 53) = d * 53 := by unfold wrap64; omega
      have w8 : wrap64 (x * 131 + y * 1117) = x * 131 + y * 1117 := by unfold wrap64; omega
      have w9 : wrap64 (x * 131 + y * 1117 + p * 29) = x * 131 + y * 1117 + p * 29 := by unfold wrap64; omega
      have w10 : wrap64 (x * 131 + y * 1117 + p * 29 + d * 53) = x * 131 + y * 1117 + p * 29 + d * 53 := by unfold wrap64; omega
      simp only [w1, w2, w3, w4, w5, w6, w7, w8, w9, w10]
      generalize hz : x * 131 + y * 1117 + p * 29 + d * 53 = z
      have hz0 : 0 ≤ z := by omega
      have hz1 : z ≤ 1000000000000 := by omega
      have hd2 : 0 ≤ Int.tdiv z 64 := Int.tdiv_nonneg hz0 (by omega)
      have hd3 : Int.tdiv z 64 ≤ z := Int.tdiv_le_self _ hz0
      have w11 : wrap64 (Int.tdiv z 64) = Int.tdiv z 64 := by unfold wrap64; omega
      rw [w11]
      exact xor_i64 _ _ hz0 (by omega) hd2 (by omega)
  unfold spec_l20Rd_pick.f
  rw [e1]
  refine Dw.ite (fun _ => hj _ (by simp)) (fun h => hj _ (fun h2 => ⟨by omega, ?_⟩))
  have : ¬ (b.length : Int) = 0 := by simpa using h2
  omega

def MsgOk (x : S34) : Prop := -9223372036854775808 ≤ x.f0 ∧ x.f0 ≤ 9223372036854775807
theorem messages_l {b : List Int} (hb : Bytes b) (n : Int) (hn : n ≤ 1000000) : ∀ d k : Nat, ∀ (o : List S34) (p : Int), 0 ≤ p → p + 4 * d ≤ 900000000 → o.length + d ≤ 100 → (∀ x ∈ o, MsgOk x) → 2 * d + 3 < k → Dw (spec_l20Messages.l0 k n o d b p) (fun r => p ≤ r.2 ∧ r.2 ≤ p + 4 * d ∧ r.1.length ≤ 100 ∧ ∀ x ∈ r.1, MsgOk x) := by
  intro d
  induction d with
  | zero =>
    intro k o p h0 h1 hl ho hk
    obtain ⟨k, rfl, hk⟩ := kk_pred (show 1 < k by omega)
    obtain ⟨k, rfl, hk⟩ := kk_pred (show 0 < k by omega)
    simp only [spec_l20Messages.l0, spec_l20Messages.j1]
    exact Dw.neg (by omega) (Dw.neg (by simp) (Dw.some ⟨by omega, by simp only; omega, by simp only; omega, ho⟩))
  | succ d ih =>
    intro k o p h0 h1 hl ho hk
    obtain ⟨k, rfl, hk⟩ := kk_pred (show 1 < k by omega)
    obtain ⟨k, rfl, hk⟩ := kk_pred (show 0 < k by omega)
    simp only [spec_l20Messages.l0, spec_l20Messages.j1]
    refine Dw.pos (by omega) (Dw.ite (fun hx => ?_) (fun _ => Dw.some ⟨by omega, by simp only; omega, by simp only; omega, ho⟩))
    have hx' : 0 < n := by simpa using hx
    refine ((pick_d hb h0 (by omega) n (by omega)).bind fun r1 ⟨a1, a2, a3⟩ => (pick_d hb (by omega) (by omega) 9 (by omega)).bind fun r2 ⟨b1, b2, b3⟩ => (pick_d hb (by omega) (by omega) n (by omega)).bind fun r3 ⟨c1, c2, c3⟩ => Dw.pos (by omega) ?_)
    have e : wrap64 (((d + 1 : Nat) : Int) - 1) = (d : Int) := by unfold wrap64; omega
    rw [e]
    have ha := a3 (by omega)
    refine (ih k _ r3.2 (by omega) (by omega) (by simp only [List.length_append, List.length_cons, List.length_nil]; omega) (fun x hx => ?_) (by omega)).mono fun r ⟨h2, h3, h4, h5⟩ => ⟨by omega, by omega, h4, h5⟩
    rcases List.mem_append.mp hx with hx | hx
    · exact ho x hx
    · simp only [List.mem_singleton] at hx
      subst hx
      exact ⟨by show _ ≤ r1.1; omega, by show r1.1 ≤ _; omega⟩
theorem messages_d {b : List Int} (hb : Bytes b) (n : Int) (hn : n ≤ 1000000) {p : Int} (h0 : 0 ≤ p) (h1 : p ≤ 800000000) {k : Nat} (hk : 40 < k) : Dw (spec_l20Messages.f k b p n) (fun r => p ≤ r.2 ∧ r.2 ≤ p + 50 ∧ r.1.length ≤ 100 ∧ ∀ x ∈ r.1, MsgOk x) := by
  unfold spec_l20Messages.f
  refine (pick_d hb h0 (by omega) 9 (by omega)).bind fun r1 ⟨a1, a2, a3⟩ => ?_
  obtain ⟨d, hd⟩ := Int.eq_ofNat_of_zero_le a2
  have := a3 (by omega)
  rw [hd]
  refine (messages_l hb n hn d k [] r1.2 (by omega) (by omega) (by simp; omega) (fun x hx => by simp at hx) (by omega)).mono fun r ⟨h2, h3, h4, h5⟩ => ⟨by omega, by omega, h4, h5⟩

theorem odd_d {b : List Int} (hb : Bytes b) {p : Int} (h0 : 0 ≤ p) (h1 : p ≤ 1000000000) (n : Int) {k : Nat} (hk : 0 < k) : Dw (spec_l20Rd_odd.f k b p n) (fun r => p ≤ r.2 ∧ r.2 ≤ p + 1) := by
  unfold spec_l20Rd_odd.f
  refine Dw.ite (fun _ => (pick_d hb h0 h1 n hk).bind fun r ⟨h2, _, _⟩ => Dw.some ?_) (fun _ => Dw.some ?_)
  · simp only; omega
  · simp only; omega

theorem program2_d {b : List Int} (hb : Bytes b) (n : Int) {p : Int} (h0 : 0 ≤ p) (h1 : p ≤ 800000000) {k : Nat} (hk : 3 < k) (a c d : Int) : Dw (spec_l20Program.j2 k n b p a c d) (fun r => p ≤ r.2.2.2 ∧ r.2.2.2 ≤ p + 10) := by
  obtain ⟨k, rfl, hk⟩ := kk_pred hk
  simp only [spec_l20Program.j2]
  refine (odd_d hb h0 (by omega) n (by omega)).bind fun r1 ⟨a1, a2⟩ => Dw.ite (fun _ => (pick_d hb (by omega) (by omega) 3 (by omega)).bind fun r2 ⟨b1, b2, b3⟩ => ?_) (fun _ => Dw.some (by simp only; omega))
  refine Dw.ite (fun _ => ?_) (fun _ => Dw.ite (fun _ => ?_) (fun _ => ?_))
  all_goals exact (pick_d hb (by omega) (by omega) 2 (by omega)).bind fun r3 ⟨c1, c2, c3⟩ => Dw.pos c2 (Dw.pos (by simp only [List.length_cons, List.length_nil]; omega) (Dw.some (by simp only; omega)))
theorem program1_d {b : List Int} (hb : Bytes b) (n : Int) {p : Int} (h0 : 0 ≤ p) (h1 : p ≤ 700000000) {k : Nat} (hk : 5 < k) (q : Bool) (a c d : Int) : Dw (spec_l20Program.j1 k n q b p a c d) (fun r => p ≤ r.2.2.2 ∧ r.2.2.2 ≤ p + 20) := by
  obtain ⟨k, rfl, hk⟩ := kk_pred hk
  simp only [spec_l20Program.j1]
  refine Dw.ite (fun _ => (pick_d hb h0 (by omega) 6 (by omega)).bind fun r2 ⟨b1, b2, b3⟩ => ?_) (fun _ => (program2_d hb n h0 (by omega) (by omega) a c d).mono fun r h => by omega)
  simp only [Option.bind_some]
  refine (pick_d hb (by omega) (by omega) 3 (by omega)).bind fun r3 ⟨c1, c2, c3⟩ => Dw.pos c2 (Dw.pos (by simp only [List.length_cons, List.length_nil]; omega) ((program2_d hb n (by omega) (by omega) (by omega) _ _ _).mono fun r h => by omega))
theorem program0_d {b : List Int} (hb : Bytes b) (m n : Int) {p : Int} (h0 : 0 ≤ p) (h1 : p ≤ 600000000) {k : Nat} (hk : 7 < k) (z : Int) (q : Bool) (a c d : Int) : Dw (spec_l20Program.j0 k m n z q b p a c d) (fun r => p ≤ r.2.2.2 ∧ r.2.2.2 ≤ p + 30) := by
  obtain ⟨k, rfl, hk⟩ := kk_pred hk
  simp only [spec_l20Program.j0]
  refine Dw.ite (fun _ => (pick_d hb h0 (by omega) _ (by omega)).bind fun r2 ⟨b1, b2, b3⟩ => (program2_d hb n (by omega) (by omega) (by omega) _ _ _).mono fun r h => by omega) (fun _ => Dw.ite (fun _ => ?_) (fun _ => ?_))
  all_goals exact (program1_d hb n h0 (by omega) (by omega) _ _ _ _).mono fun r h => by omega
theorem program_d {b : List Int} (hb : Bytes b) (m n : Int) {p : Int} (h0 : 0 ≤ p) (h1 : p ≤ 500000000) {k : Nat} (hk : 9 < k) : Dw (spec_l20Program.f k b p m n) (fun r => p ≤ r.2.2.2 ∧ r.2.2.2 ≤ p + 40) := by
  unfold spec_l20Program.f
  refine (pick_d hb h0 (by omega) 6 (by omega)).bind fun r2 ⟨b1, b2, b3⟩ => Dw.ite (fun _ => ?_) (fun _ => ?_)
  all_goals exact (program0_d hb m n (by omega) (by omega) (by omega) _ _ _ _ _).mono fun r h => by omega

/-- The values that go to v. -/
def valsT (l : List S34) (v : Int) : List Int := (l.filter (fun x => decide (x.f0 = v))).map (fun x => x.f1)
theorem valsT_snoc (l : List S34) (x : S34) (v : Int) : valsT (l ++ [x]) v = if x.f0 = v then valsT l v ++ [x.f1] else valsT l v := by
  unfold valsT
  split
  · rename_i h
    simp [h]
  · rename_i h
    simp [h]
theorem valsT_len (l : List S34) (v : Int) : (valsT l v).length ≤ l.length := by
  unfold valsT
  rw [List.length_map]
  exact List.length_filter_le _ _
theorem valuesTo_l (l : List S34) (hb : l.length ≤ 1000000) (v : Int) : ∀ d k i : Nat, i + d = l.length → d < k → impl_valuesTo.l0 k v (valsT (l.take i) v) l (l.length : Int) (i : Int) = some (valsT l v) := by
  intro d
  induction d with
  | zero =>
    intro k i h hk
    obtain ⟨k, rfl, hk⟩ := kk_pred hk
    simp only [impl_valuesTo.l0]
    rw [if_neg (by omega), List.take_of_length_le (by omega)]
  | succ d ih =>
    intro k i h hk
    obtain ⟨k, rfl, hk⟩ := kk_pred (show 0 < k by omega)
    have h1 := ih k (i + 1) (by omega) (by omega)
    have hl := valsT_len (l.take i) v
    rw [List.length_take] at hl
    have e : l.take (i + 1) = l.take i ++ [rd_T34 l (i : Int)] := by
      rw [List.take_succ_eq_append_getElem (by omega)]
      congr 2
      simp [rd_T34, show i < l.length by omega]
    rw [e, valsT_snoc] at h1
    simp only [impl_valuesTo.l0, wS i (by omega)]
    rw [if_pos (by omega), if_pos (by omega), if_pos (by omega)]
    by_cases c : (rd_T34 l (i : Int)).f0 = v
    · rw [if_pos c, if_pos (by omega)]
      rw [if_pos c] at h1
      exact h1
    · rw [if_neg c]
      rw [if_neg c] at h1
      exact h1
theorem valuesTo_f (l : List S34) (hb : l.length ≤ 1000000) (v : Int) (k : Nat) (hk : l.length < k) : impl_valuesTo.f k l v = some (valsT l v) := valuesTo_l l hb v l.length k 0 (by omega) hk

end Go.Proofs.Ytgdcnlmhdbdijaa.PFnCombineMessages
namespace Go.Proofs.Ytgdcnlmhdbdijaa.Pure
open Go.RowKit Go.Proofs.Ytgdcnlmhdbdijaa.PFnCombineMessages Go.Proofs.YtgdcnlmhdbdijaaW.PrintWords Go.Proofs.YtgdcnlmhdbdijaaW.PrintLast Go.Proofs.YtgdcnlmhdbdijaaW.PrintMore
theorem leP_head (s : List S34) (v : Int) : ∀ n, n ≤ s.length → (valsT (leP s n) v).head? = (valsT (s.take n) v).head?
  | 0, _ => by simp [leP]
  | n + 1, hn => by
    have ih := leP_head s v n (by omega)
    rw [take_snoc' s n (by omega), valsT_snoc]
    by_cases c : n = 0 ∨ (rdM' s (n - 1)).f0 ≠ (rdM' s n).f0
    · rw [leP, if_pos c, valsT_snoc]
      split
      · rw [List.head?_append, List.head?_append, ih]
      · exact ih
    · rw [leP, if_neg c]
      split
      · rename_i hv
        have hc1 : n ≠ 0 := fun h => c (Or.inl h)
        have hc2 : (rdM' s (n - 1)).f0 = (rdM' s n).f0 := Classical.byContradiction (fun h => c (Or.inr h))
        rw [ih, List.head?_append]
        obtain ⟨m, rfl⟩ : ∃ m, n = m + 1 := ⟨n - 1, by omega⟩
        rw [Nat.add_sub_cancel] at hc2
        rw [take_snoc' s m (by omega), valsT_snoc, if_pos (hc2.trans hv)]
        cases h : valsT (s.take m) v with
        | nil => simp
        | cons y r => simp
      · exact ih
theorem leP_sub (s : List S34) : ∀ n, n ≤ s.length → (leP s n).Sublist (s.take n)
  | 0, _ => by simp [leP]
  | n + 1, hn => by
    have ih := leP_sub s n (by omega)
    rw [take_snoc' s n (by omega), leP]
    split
    · exact ih.append (List.Sublist.refl _)
    · exact ih.trans (List.sublist_append_left _ _)
theorem leP_lt (s : List S34) (hs : s.Pairwise (fun a b => kmL a b = true)) : ∀ n, n ≤ s.length → (leP s n).Pairwise (fun a b => a.f0 < b.f0)
  | 0, _ => by simp [leP]
  | n + 1, hn => by
    have ih := leP_lt s hs n (by omega)
    rw [leP]
    split
    · rename_i c
      rw [List.pairwise_append]
      refine ⟨ih, by simp, fun a ha b hb => ?_⟩
      simp only [List.mem_singleton] at hb
      subst hb
      have h1 := (leP_sub s n (by omega)).subset ha
      have hn0 : n ≠ 0 := by
        rintro rfl
        simp at h1
      rcases c with c | c
      · exact absurd c hn0
      · obtain ⟨m, rfl⟩ : ∃ m, n = m + 1 := ⟨n - 1, by omega⟩
        rw [Nat.add_sub_cancel] at c
        have h2 : (s.take (m + 1 + 1)).Pairwise (fun a b => kmL a b = true) := hs.sublist (List.take_sublist _ _)
        have e1 := take_snoc' s (m + 1) (by omega)
        have e2 := take_snoc' s m (by omega)
        rw [e1, e2] at h2
        have h3 := List.pairwise_append.mp h2
        have h4 := h3.2.2 (rdM' s m) (by simp) (rdM' s (m + 1)) (by simp)
        rw [kmL_iff] at h4
        rw [e2] at h1
        rcases List.mem_append.mp h1 with h5 | h5
        · have h6 := (List.pairwise_append.mp h3.1).2.2 a h5 (rdM' s m) (by simp)
          rw [kmL_iff] at h6
          omega
        · simp only [List.mem_singleton] at h5
          subst h5
          omega
    · exact ih
theorem leP_id (y : List S34) (hy : y.Pairwise (fun a b => a.f0 < b.f0)) : ∀ n, n ≤ y.length → leP y n = y.take n
  | 0, _ => by simp [leP]
  | n + 1, hn => by
    have ih := leP_id y hy n (by omega)
    rw [take_snoc' y n (by omega), leP, ih, if_pos]
    by_cases n0 : n = 0
    · exact Or.inl n0
    · right
      rw [rdM'_eq _ _ (by omega), rdM'_eq _ _ (by omega)]
      have := List.pairwise_iff_getElem.mp hy (n - 1) n (by omega) (by omega) (by omega)
      omega
theorem kmSort_id (y : List S34) (hy : y.Pairwise (fun a b => kmL a b = true)) : kmSort y = y := (kmSort_unique (List.Perm.refl y) hy).symm
theorem combR_again (a b c : Int) (m : List S34) : combR a b c (combR a b c m) = combR a b c m := by
  by_cases h : Vs a b c ∧ m.length ≤ 2000
  · have e : combR a b c m = cbP (canC a b c) (kmSort m) m.length := by unfold combR; rw [if_pos h]
    have hl := cbP_len (canC a b c) (kmSort m) m.length
    have hk := kmSort_length m
    rw [e]
    unfold combR
    rw [if_pos ⟨h.1, by omega⟩]
    unfold cbP
    by_cases hc : canC a b c = true
    · rw [if_pos hc, if_pos hc]
      have h1 := leP_lt (kmSort m) (kmSort_pairwise m) m.length (by omega)
      rw [kmSort_id _ (h1.imp (fun {x y} hxy => by rw [kmL_iff]; omega)), leP_id _ h1 _ (Nat.le_refl _), List.take_length]
    · have et : (kmSort m).take m.length = kmSort m := List.take_of_length_le (by omega)
      rw [if_neg hc, if_neg hc, et, kmSort_id _ (kmSort_pairwise m), List.take_length]
  · have e : combR a b c m = [] := by unfold combR; rw [if_neg h]
    rw [e]
    unfold combR cbP
    split
    · split
      · rfl
      · rfl
    · rfl
theorem combR_mem {a b c : Int} {m : List S34} {x : S34} (h : x ∈ combR a b c m) : x ∈ m := by
  unfold combR at h
  split at h
  · unfold cbP at h
    have hk := kmSort_length m
    split at h
    · exact (kmSort_perm m).mem_iff.mp (List.mem_of_mem_take ((leP_sub (kmSort m) m.length (by omega)).subset h))
    · exact (kmSort_perm m).mem_iff.mp (List.mem_of_mem_take h)
  · simp at h
theorem combR_head (a b c : Int) (hv : Vs a b c) (m : List S34) (hm : m.length ≤ 2000) (v : Int) : (valsT (combR a b c m) v).head? = (valsT (kmSort m) v).head? := by
  have hk := kmSort_length m
  unfold combR cbP
  rw [if_pos ⟨hv, hm⟩]
  split
  · rw [leP_head _ _ _ (by omega), List.take_of_length_le (by omega)]
  · rw [List.take_of_length_le (by omega)]
theorem combR_le (a b c : Int) (m : List S34) : (combR a b c m).length ≤ m.length := by
  unfold combR
  split
  · exact cbP_len _ _ _
  · simp
theorem implSort_f (m : List S34) (hm : m.length ≤ 2000) (hw : ∀ x ∈ m, MsgOk x) : impl_SortMessages.f m = some (kmSort m) := by
  unfold impl_SortMessages.f impl_inOrder.f
  rw [if_neg (by omega), if_pos ⟨by omega, hw⟩, Option.bind_some]
theorem valuesFor_f (l : List S34) (hb : l.length ≤ 2000) (v : Int) (k : Nat) (hk : l.length < k) : impl_ValuesFor.f k l v = some (valsT l v) := by
  unfold impl_ValuesFor.f
  rw [if_neg (by omega), valuesTo_f l (by omega) v k hk, Option.bind_some]
theorem combLoop (a b c : Int) (hv : Vs a b c) (m : List S34) (hm : m.length ≤ 2000) (hw : ∀ x ∈ m, MsgOk x) : ∀ d k i : Nat, i + d = 8 → 6000 + d ≤ k → laws_FnCombineMessages.l0 k m (combR a b c m) (i : Int) a b c = some true := by
  intro d
  have hle := combR_le a b c m
  induction d with
  | zero =>
    intro k i h hk
    obtain ⟨k, rfl, hk⟩ := kk_pred (show 0 < k by omega)
    simp only [laws_FnCombineMessages.l0]
    rw [if_neg (by omega), if_pos (by omega), implComb_f a b c _ (fun x hx => hw x (combR_mem hx)) k (by omega), Option.bind_some, combR_again, sameMessages_f _ (by omega) k (by omega), Option.bind_some, if_pos rfl, implCan_f a b c k (by omega), Option.bind_some]
    by_cases hc : canC a b c = true
    · rw [if_pos hc]
    · rw [if_neg hc]
      have hk := kmSort_length m
      have e : (combR a b c m).length = m.length := by
        unfold combR cbP
        rw [if_pos ⟨hv, hm⟩, if_neg hc, List.length_take]
        omega
      rw [e]
      simp
  | succ d ih =>
    intro k i h hk
    obtain ⟨k, rfl, hk⟩ := kk_pred (show 0 < k by omega)
    have hks := kmSort_length m
    have hh := combR_head a b c hv m hm (i : Int)
    have h1 := ih k (i + 1) (by omega) (by omega)
    simp only [laws_FnCombineMessages.l0, wS i (by omega)]
    rw [if_pos (by omega), implSort_f m hm hw, Option.bind_some, valuesFor_f _ (by omega) _ k (by omega), Option.bind_some, valuesFor_f _ (by omega) _ k (by omega), Option.bind_some]
    generalize valsT (combR a b c m) (i : Int) = B at hh
    generalize valsT (kmSort m) (i : Int) = A at hh
    cases A with
    | nil =>
      cases B with
      | nil => simpa using h1
      | cons y r => simp at hh
    | cons x q =>
      cases B with
      | nil => simp at hh
      | cons y r =>
        simp only [List.head?_cons, Option.some.injEq] at hh
        subst hh
        have e1 : ((((y :: q).length : Int) == 0) != (((y :: r).length : Int) == 0)) = false := by
          have h2 : (((y :: q).length : Int) == 0) = false := by simp; omega
          have h3 : (((y :: r).length : Int) == 0) = false := by simp; omega
          rw [h2, h3]
          rfl
        rw [e1, if_neg (by simp), if_pos (by simp), if_pos (by simp), if_pos (by simp), if_pos (show rd (y :: q) 0 = rd (y :: r) 0 from rfl)]
        exact h1
theorem FnCombineMessages : laws_FnCombineMessages.Pure := by
  intro l hl hl8 hw
  refine ⟨6000000, ?_⟩
  unfold laws_FnCombineMessages.f
  by_cases h : (l.length : Int) > 1048576
  · rw [if_pos h]
  · rw [if_neg h]
    obtain ⟨r, hr, hr2⟩ : Dw (spec_DrawCombineMessages.f 6000000 l) (fun r => r.2.2.2.length ≤ 100 ∧ ∀ x ∈ r.2.2.2, MsgOk x) := by
      unfold spec_DrawCombineMessages.f
      refine (open_d hw).bind fun r ⟨hb, hp⟩ => (program_d hb 5 9 (by omega) (by omega) (by omega)).bind fun r1 ⟨a1, a2⟩ => (pick_d hb (by omega) (by omega) 5 (by omega)).bind fun r2 ⟨b1, b2, b3⟩ => ?_
      have hb3 := b3 (by omega)
      have e : wrap64 (1 + r2.1) = 1 + r2.1 := by unfold wrap64; omega
      rw [e]
      exact (messages_d hb (1 + r2.1) (by omega) (by omega) (by omega) (by omega)).bind fun r3 ⟨c1, c2, c3, c4⟩ => Dw.some ⟨c3, c4⟩
    rw [hr]
    obtain ⟨a, b, c, m⟩ := r
    obtain ⟨hm, hok⟩ := hr2
    simp only at hm hok
    have hle := combR_le a b c m
    simp only [Option.bind_some, implComb_f a b c m hok 6000000 (by omega), specComb_f a b c m 6000000 (by omega), sameMessages_f _ (show (combR a b c m).length < 4611686018427387904 by omega) 6000000 (by omega), if_true, specVs_f a b c 6000000 (by omega)]
    by_cases hv : Vs a b c
    · rw [if_pos (decide_eq_true hv)]
      exact combLoop a b c hv m (by omega) hok 8 6000000 0 (by omega) (by omega)
    · rw [if_neg (by simpa using hv)]
      have e : combR a b c m = [] := by unfold combR; rw [if_neg (fun h => hv h.1)]
      rw [e]
      simp [alive_f]

end Go.Proofs.Ytgdcnlmhdbdijaa.Pure
