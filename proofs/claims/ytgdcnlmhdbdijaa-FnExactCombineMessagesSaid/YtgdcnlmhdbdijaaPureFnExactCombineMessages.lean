/- The program's CombineMessages returns what the reference's returns, for all arguments. No further condition. -/
import Derived.Test.YtgdcnlmhdbdijaaPFnExactCombineMessagesx
import Derived.Test.YtgdcnlmhdbdijaaL
import Derived.Test.YtgdcnlmhdbdijaaT
set_option linter.unusedVariables false
set_option linter.unusedSimpArgs false
namespace Go.Proofs.Ytgdcnlmhdbdijaa.PFnExactCombineMessages
open Go.RowKit Go.Proofs.YtgdcnlmhdbdijaaW.PrintWords Go.Proofs.YtgdcnlmhdbdijaaW.PrintLast Go.Proofs.YtgdcnlmhdbdijaaW.PrintMore
theorem szMessageS_f (l : List S95) (hl : l.length ≤ 9223372036854775807) : laws_szMessageS.f l 1048576 = some (if l.length ≤ 1048576 then 1048576 - (l.length : Int) else -1) := by
  unfold laws_szMessageS.f
  have e : wrap64 (1048576 - (l.length : Int)) = 1048576 - (l.length : Int) := by unfold wrap64; omega
  rw [e]
  by_cases h : l.length ≤ 1048576
  · rw [if_neg (by omega), if_pos h]
  · rw [if_pos (by omega), if_neg h]
theorem szMessageS_g (l : List S95) (c : Int) (h0 : 0 ≤ c) (hc : c ≤ 1048576) (hl : l.length ≤ 9223372036854775807) : laws_szMessageS.f l c = some (if (l.length : Int) ≤ c then c - (l.length : Int) else -1) := by
  unfold laws_szMessageS.f
  have e : wrap64 (c - (l.length : Int)) = c - (l.length : Int) := by unfold wrap64; omega
  rw [e]
  by_cases h : (l.length : Int) ≤ c
  · rw [if_neg (by omega), if_pos h]
  · rw [if_pos (by omega), if_neg h]

theorem l1In_f (a b c : Int) : spec_l1In.f a b c = some (decide (b ≤ a ∧ a ≤ c)) := by
  unfold spec_l1In.f
  by_cases h : b ≤ a
  · rw [if_pos h]; simp [h]
  · rw [if_neg h]; simp [h]

theorem specProgram_f (a b c : Int) (k : Nat) (hk : 1 < k) : spec_ProgramValid.f k a b c = some (decide ((a = 1 ∨ a = 2) ∧ 0 ≤ b ∧ b ≤ 15 ∧ c = 0 ∨ (a = 3 ∨ a = 5) ∧ b = 0 ∧ c = 0 ∨ (a = 4 ∨ a = 6) ∧ b = 0 ∧ 1 ≤ c ∧ c ≤ 20)) := by
  obtain ⟨k, rfl, hk⟩ := kk_pred hk
  simp only [spec_ProgramValid.f, spec_ProgramValid.j0, spec_l1In.f, Option.bind_some, o_beq, o_dand, o_and, o_nand, o_or, o_ite, o_tf, o_ft, decide_eq_true_eq, not_true, false_and, imp_false]
  refine congrArg some (decide_eq_decide.2 ?_)
  omega

/-- A message comes before another one. -/
def ltM (a b : S34) : Bool := decide (a.f0 < b.f0 ∨ a.f0 = b.f0 ∧ (a.f1 < b.f1 ∨ a.f1 = b.f1 ∧ a.f2 < b.f2))
theorem before_f (a b : S34) : spec_l9Before.f a.f0 a.f1 a.f2 b.f0 b.f1 b.f2 = some (ltM a b) := by
  unfold spec_l9Before.f ltM
  by_cases h0 : a.f0 = b.f0
  · rw [if_pos h0]
    by_cases h1 : a.f1 = b.f1
    · rw [if_pos h1]
      exact congrArg some (decide_eq_decide.2 (by omega))
    · rw [if_neg h1]
      exact congrArg some (decide_eq_decide.2 (by omega))
  · rw [if_neg h0]
    exact congrArg some (decide_eq_decide.2 (by omega))
def rdM' (l : List S34) (i : Nat) : S34 := rd_T34 l (i : Int)
def srtA' (l : List S34) (i : Nat) : Bool := i == 0 || !ltM (rdM' l i) (rdM' l (i - 1))

/-- Where x goes among the first p of l. -/
def insP (x : S34) (l : List S34) : Nat → Nat
  | 0 => 0
  | p + 1 => if ltM x (rdM' l p) then insP x l p else p + 1
theorem insP_le (x : S34) (l : List S34) : ∀ p, insP x l p ≤ p
  | 0 => Nat.le_refl _
  | p + 1 => by
    unfold insP
    have := insP_le x l p
    split <;> omega
theorem insP_before (x : S34) (l : List S34) : ∀ p i, insP x l p ≤ i → i < p → ltM x (rdM' l i) = true
  | 0, i, _, h => by omega
  | p + 1, i, h, hi => by
    unfold insP at h
    split at h
    · rename_i hl
      by_cases e : i = p
      · subst e
        exact hl
      · exact insP_before x l p i h (by omega)
    · omega
theorem insP_after (x : S34) (l : List S34) : ∀ p, insP x l p = 0 ∨ ltM x (rdM' l (insP x l p - 1)) = false
  | 0 => Or.inl rfl
  | p + 1 => by
    unfold insP
    split
    · exact insP_after x l p
    · rename_i hl
      exact Or.inr (by simpa using hl)
def insM (x : S34) (l : List S34) (q : Nat) : List S34 := l.take q ++ [x] ++ l.drop q
theorem rdM'_eq (l : List S34) (i : Nat) (h : i < l.length) : rdM' l i = l[i] := by simp [rdM', rd_T34, h]
theorem ltM_km (a b : S34) : ltM a b = ltOf kmC a b := by rw [ltOf_kmC]; rfl
theorem kmL_lt (a b : S34) : kmL a b = !ltM b a := by rw [ltM_km]; rfl
theorem kmL_trans {a b c : S34} (h1 : kmL a b = true) (h2 : kmL b c = true) : kmL a c = true := by
  rw [kmL_iff] at *
  omega
theorem kmL_of_lt {a b : S34} (h : ltM a b = true) : kmL a b = true := by
  rw [kmL_iff]
  unfold ltM at h
  simp only [decide_eq_true_eq] at h
  omega
theorem insM_sorted (x : S34) (l : List S34) (hs : l.Pairwise (fun a b => kmL a b = true)) : (insM x l (insP x l l.length)).Pairwise (fun a b => kmL a b = true) := by
  have hq := insP_le x l l.length
  have hb := insP_before x l l.length
  have ha := insP_after x l l.length
  generalize insP x l l.length = q at hq hb ha
  have hx1 : ∀ a ∈ l.take q, kmL a x = true := by
    intro a ham
    rcases ha with rfl | ha
    · simp at ham
    · by_cases q0 : q = 0
      · subst q0
        simp at ham
      · obtain ⟨q', rfl⟩ : ∃ q', q = q' + 1 := ⟨q - 1, by omega⟩
        rw [Nat.add_sub_cancel] at ha
        have h1 : kmL (rdM' l q') x = true := by rw [kmL_lt, ha]; rfl
        have h2 : l.take (q' + 1) = l.take q' ++ [rdM' l q'] := by rw [List.take_succ_eq_append_getElem (by omega), rdM'_eq _ _ (by omega)]
        have h3 : (l.take (q' + 1)).Pairwise (fun a b => kmL a b = true) := hs.sublist (List.take_sublist _ _)
        rw [h2] at h3 ham
        rcases List.mem_append.mp ham with h4 | h4
        · exact kmL_trans ((List.pairwise_append.mp h3).2.2 a h4 _ (by simp)) h1
        · simp only [List.mem_singleton] at h4
          rw [h4]
          exact h1
  have hx2 : ∀ c ∈ l.drop q, kmL x c = true := by
    intro c hc
    obtain ⟨i, hi, rfl⟩ := List.mem_iff_getElem.mp hc
    rw [List.length_drop] at hi
    rw [List.getElem_drop, ← rdM'_eq l (q + i) (by omega)]
    exact kmL_of_lt (hb (q + i) (by omega) (by omega))
  have hcr : ∀ a ∈ l.take q, ∀ c ∈ l.drop q, kmL a c = true := fun a h1 c h2 => kmL_trans (hx1 a h1) (hx2 c h2)
  unfold insM
  rw [List.append_assoc, List.pairwise_append]
  refine ⟨hs.sublist (List.take_sublist _ _), ?_, ?_⟩
  · rw [List.singleton_append, List.pairwise_cons]
    exact ⟨hx2, hs.sublist (List.drop_sublist _ _)⟩
  · intro a h1 c h2
    rcases List.mem_append.mp h2 with h3 | h3
    · simp only [List.mem_singleton] at h3
      rw [h3]
      exact hx1 a h1
    · exact hcr a h1 c h3
theorem insM_perm (x : S34) (l : List S34) (q : Nat) : (insM x l q).Perm (l ++ [x]) := by
  unfold insM
  have h1 : (l.take q ++ [x] ++ l.drop q).Perm (l.take q ++ (l.drop q ++ [x])) := by
    rw [List.append_assoc]
    exact (List.perm_append_comm).append_left _
  rw [← List.append_assoc, List.take_append_drop] at h1
  exact h1
theorem insM_km (x : S34) (l : List S34) : insM x (kmSort l) (insP x (kmSort l) (kmSort l).length) = kmSort (l ++ [x]) :=
  kmSort_unique ((insM_perm x _ _).trans ((kmSort_perm l).append_right _)) (insM_sorted x _ (kmSort_pairwise l))
theorem specSort_l1 (x0 out : List S34) (n : Nat) (hn : n < x0.length) (hn2 : n < 4611686018427387904) (ho : out.length ≤ 2000) (K0 : Nat) (r : List S34) :
    ∀ p, p ≤ out.length → (∀ k, K0 ≤ k → spec_SortMessages.l0 k x0 (insM (rdM' x0 n) out (insP (rdM' x0 n) out p)) ((n + 1 : Nat) : Int) = some r) → ∀ k, K0 + p + 1 ≤ k → spec_SortMessages.l1 k x0 out (n : Int) (p : Int) = some r
  | 0, hp, hnext, k, hk => by
    obtain ⟨k, rfl, hk⟩ := kk_pred (show 0 < k by omega)
    simp only [spec_SortMessages.l1, Option.bind_some, List.nil_append, wS n hn2, List.length_nil, Nat.zero_add, List.length_drop, List.length_take, List.length_append, List.length_singleton, Int.toNat_natCast]
    rw [if_neg (by omega), if_pos (by omega), if_pos (by omega), if_pos (by omega), if_pos (by omega), if_pos (by omega), if_pos (by omega), if_pos (by omega)]
    exact hnext k (by omega)
  | p + 1, hp, hnext, k, hk => by
    obtain ⟨k, rfl, hk⟩ := kk_pred (show 0 < k by omega)
    have hw : wrap64 (((p + 1 : Nat) : Int) - 1) = (p : Int) := by unfold wrap64; omega
    have hb := before_f (rd_T34 x0 (n : Int)) (rd_T34 out (p : Int))
    simp only [spec_SortMessages.l1, hw, hb, Option.bind_some, List.nil_append, wS n hn2, List.length_nil, Nat.zero_add, List.length_drop, List.length_take, List.length_append, List.length_singleton, Int.toNat_natCast]
    rw [if_pos (by omega), if_pos (by omega), if_pos (by omega), if_pos (by omega), if_pos (by omega)]
    unfold insP at hnext
    by_cases hl : ltM (rd_T34 x0 (n : Int)) (rd_T34 out (p : Int)) = true
    · rw [if_pos hl]
      rw [if_pos (show ltM (rdM' x0 n) (rdM' out p) = true from hl)] at hnext
      exact specSort_l1 x0 out n hn hn2 ho K0 r p (by omega) hnext k (by omega)
    · rw [if_neg hl, if_pos (by omega), if_pos (by omega), if_pos (by omega), if_pos (by omega), if_pos (by omega)]
      rw [if_neg (show ¬ ltM (rdM' x0 n) (rdM' out p) = true from hl)] at hnext
      exact hnext k (by omega)
theorem specSort_l0 (x0 : List S34) (h : x0.length ≤ 2000) (m : Nat) : ∀ (n : Nat), n + m = x0.length → ∀ k, 2010 * m + 2 ≤ k → spec_SortMessages.l0 k x0 (kmSort (x0.take n)) (n : Int) = some (kmSort x0) := by
  induction m with
  | zero =>
    intro n hn k hk
    obtain ⟨k, rfl, hk⟩ := kk_pred (show 1 < k by omega)
    obtain ⟨k, rfl, hk⟩ := kk_pred (show 0 < k by omega)
    rw [List.take_of_length_le (by omega)]
    simp only [spec_SortMessages.l0, spec_SortMessages.j1]
    rw [if_neg (by omega), if_neg (by simp)]
  | succ m ih =>
    intro n hn k hk
    obtain ⟨k, rfl, hk⟩ := kk_pred (show 1 < k by omega)
    obtain ⟨k, rfl, hk⟩ := kk_pred (show 0 < k by omega)
    simp only [spec_SortMessages.l0, spec_SortMessages.j1]
    rw [if_pos (by omega), if_pos (by simp; omega)]
    have hl : (kmSort (x0.take n)).length = n := by rw [kmSort_length, List.length_take]; omega
    have h1 := specSort_l1 x0 (kmSort (x0.take n)) n (by omega) (by omega) (by omega) (2010 * m + 2) (kmSort x0) (kmSort (x0.take n)).length (Nat.le_refl _) (fun k hk => by
      rw [insM_km, show x0.take n ++ [rdM' x0 n] = x0.take (n + 1) from (ko_take (by omega)).symm]
      exact ih (n + 1) (by omega) k hk) k (by rw [hl]; omega)
    exact h1
theorem specSort_f (l : List S34) (k : Nat) (hk : 5000000 ≤ k) : spec_SortMessages.f k l = some (if l.length ≤ 2000 then kmSort l else []) := by
  unfold spec_SortMessages.f
  by_cases h : l.length ≤ 2000
  · rw [if_pos h]
    have h0 := specSort_l0 l h l.length 0 (by omega) k (by omega)
    rw [show kmSort (l.take 0) = [] by simp [kmSort]] at h0
    exact h0
  · rw [if_neg h]
    obtain ⟨k, rfl, hk⟩ := kk_pred (show 1 < k by omega)
    obtain ⟨k, rfl, hk⟩ := kk_pred (show 0 < k by omega)
    simp only [spec_SortMessages.l0, spec_SortMessages.j1]
    rw [if_pos (by omega), if_neg (by simp; omega)]
/-- of the first n, those to another vertex than the one ahead. -/
def leP (l : List S34) : Nat → List S34
  | 0 => []
  | n + 1 => if n = 0 ∨ (rdM' l (n - 1)).f0 ≠ (rdM' l n).f0 then leP l n ++ [rdM' l n] else leP l n
theorem leP_len (l : List S34) : ∀ n, (leP l n).length ≤ n
  | 0 => Nat.le_refl _
  | n + 1 => by
    have := leP_len l n
    unfold leP
    split
    · simp; omega
    · omega
theorem leP_last (l : List S34) : ∀ n, 0 < n → 0 < (leP l n).length ∧ (rdM' (leP l n) ((leP l n).length - 1)).f0 = (rdM' l (n - 1)).f0
  | 0, h => by omega
  | n + 1, _ => by
    unfold leP
    by_cases c : n = 0 ∨ (rdM' l (n - 1)).f0 ≠ (rdM' l n).f0
    · rw [if_pos c]
      refine ⟨by simp, ?_⟩
      rw [List.length_append, List.length_singleton, Nat.add_sub_cancel, rdM'_eq _ _ (by simp)]
      simp
    · rw [if_neg c]
      have h1 := leP_last l n (by omega)
      refine ⟨h1.1, ?_⟩
      rw [h1.2, Nat.add_sub_cancel]
      omega
def cbP (C : Bool) (l : List S34) (n : Nat) : List S34 := if C = true then leP l n else l.take n
theorem cbP_len (C : Bool) (l : List S34) (n : Nat) : (cbP C l n).length ≤ n := by
  unfold cbP
  split
  · exact leP_len l n
  · rw [List.length_take]; omega
theorem take_snoc' (l : List S34) (n : Nat) (h : n < l.length) : l.take (n + 1) = l.take n ++ [rdM' l n] := by
  rw [List.take_succ_eq_append_getElem h, rdM'_eq _ _ h]

def Vs (a b c : Int) : Prop := (a = 1 ∨ a = 2) ∧ 0 ≤ b ∧ b ≤ 15 ∧ c = 0 ∨ (a = 3 ∨ a = 5) ∧ b = 0 ∧ c = 0 ∨ (a = 4 ∨ a = 6) ∧ b = 0 ∧ 1 ≤ c ∧ c ≤ 20
instance (a b c : Int) : Decidable (Vs a b c) := by unfold Vs; infer_instance
theorem specVs_f (a b c : Int) (k : Nat) (hk : 1 < k) : spec_ProgramValid.f k a b c = some (decide (Vs a b c)) := (specProgram_f a b c k hk).trans (congrArg some (decide_eq_decide.2 Iff.rfl))
def canC (a b c : Int) : Bool := decide (Vs a b c ∧ 1 ≤ a ∧ a ≤ 3)
theorem specCan_f (a b c : Int) (k : Nat) (hk : 1 < k) : spec_CanCombine.f k a b c = some (canC a b c) := by
  simp only [spec_CanCombine.f, specVs_f a b c k hk, l1In_f, Option.bind_some, decide_eq_true_eq, canC]
  by_cases h : Vs a b c
  · rw [if_pos h]
    exact congrArg some (decide_eq_decide.2 (by simp [h]))
  · rw [if_neg h]
    exact congrArg some (by simp [h])
theorem specComb_l (a b c : Int) (hv : Vs a b c) (s : List S34) (hs : s.length ≤ 2000) : ∀ d n : Nat, n + d = s.length → ∀ k, 2 * d + 4 ≤ k → spec_CombineMessages.l0 k (cbP (canC a b c) s n) s (n : Int) a b c = some (cbP (canC a b c) s s.length)
  | 0, n, hn, k, hk => by
    obtain ⟨k, rfl, hk⟩ := kk_pred (show 1 < k by omega)
    obtain ⟨k, rfl, hk⟩ := kk_pred (show 0 < k by omega)
    simp only [spec_CombineMessages.l0, spec_CombineMessages.j1]
    rw [if_neg (by omega), if_neg (by simp), show n = s.length by omega]
  | d + 1, n, hn, k, hk => by
    obtain ⟨k, rfl, hk⟩ := kk_pred (show 3 < k by omega)
    obtain ⟨k, rfl, hk⟩ := kk_pred (show 2 < k by omega)
    have ih := specComb_l a b c hv s hs d (n + 1) (by omega) k (by omega)
    have hl := cbP_len (canC a b c) s n
    have hw : wrap64 ((n : Int) + 1) = ((n + 1 : Nat) : Int) := wS n (by omega)
    have hx : (⟨(rd_T34 s (n : Int)).f0, (rd_T34 s (n : Int)).f1, (rd_T34 s (n : Int)).f2⟩ : S34) = rdM' s n := rfl
    simp only [spec_CombineMessages.l0, spec_CombineMessages.j1, specVs_f a b c (k + 1) (by omega), specCan_f a b c k (by omega), Option.bind_some, hw, hx]
    rw [if_pos (by omega), if_pos (by simpa using hv)]
    by_cases h0 : (cbP (canC a b c) s n).length = 0
    · have hw0 : wrap64 (((cbP (canC a b c) s n).length : Int) - 1) < 0 := by unfold wrap64; omega
      rw [if_pos hw0, if_pos (by omega), if_pos (by omega), if_pos (by omega)]
      have hn0 : n = 0 := by
        by_cases n0 : n = 0
        · exact n0
        · exfalso
          unfold cbP at h0
          split at h0
          · have := (leP_last s n (by omega)).1
            omega
          · rw [List.length_take] at h0
            omega
      have e : cbP (canC a b c) s n ++ [rdM' s n] = cbP (canC a b c) s (n + 1) := by
        unfold cbP
        split
        · subst hn0
          simp [leP]
        · exact (take_snoc' s n (by omega)).symm
      rw [e]
      exact ih
    · have hn0 : 0 < n := by omega
      have hw1 : wrap64 (((cbP (canC a b c) s n).length : Int) - 1) = (((cbP (canC a b c) s n).length - 1 : Nat) : Int) := by unfold wrap64; omega
      rw [hw1, if_neg (by omega), if_pos (by omega), if_pos (by omega), if_pos (by omega), if_pos (by omega)]
      by_cases hc : canC a b c = true
      · have hlast := (leP_last s n hn0).2
        have e : cbP (canC a b c) s n = leP s n := by unfold cbP; rw [if_pos hc]
        rw [hc, if_pos rfl]
        rw [hc] at e ih
        rw [e]
        have e1 : cbP true s (n + 1) = leP s (n + 1) := by unfold cbP; rw [if_pos rfl]
        rw [e1] at ih
        by_cases hq : (rd_T34 (leP s n) (((leP s n).length - 1 : Nat) : Int)).f0 = (rd_T34 s (n : Int)).f0
        · rw [if_pos hq]
          have e2 : leP s (n + 1) = leP s n := by
            rw [leP, if_neg]
            intro h
            rcases h with h | h
            · omega
            · exact h (hlast.symm.trans hq)
          rw [e2] at ih
          exact ih
        · rw [if_neg hq, if_pos (by have := leP_len s n; omega)]
          have e2 : leP s (n + 1) = leP s n ++ [rdM' s n] := by
            rw [leP, if_pos]
            exact Or.inr (fun h => hq (hlast.trans h))
          rw [e2] at ih
          exact ih
      · have hc' : canC a b c = false := by simpa using hc
        rw [hc']
        rw [hc'] at ih hl
        have e : cbP false s n ++ [rdM' s n] = cbP false s (n + 1) := by
          unfold cbP
          rw [if_neg (by simp), if_neg (by simp)]
          exact (take_snoc' s n (by omega)).symm
        by_cases hq : (rd_T34 (cbP false s n) (((cbP false s n).length - 1 : Nat) : Int)).f0 = (rd_T34 s (n : Int)).f0
        · rw [if_pos hq, if_neg (show ¬ (false = true) by simp), if_pos (by omega), e]
          exact ih
        · rw [if_neg hq, if_pos (by omega), e]
          exact ih
/-- What both hand back. -/
def combR (a b c : Int) (m : List S34) : List S34 := if Vs a b c ∧ m.length ≤ 2000 then cbP (canC a b c) (kmSort m) m.length else []
theorem specComb_f (a b c : Int) (m : List S34) (k : Nat) (hk : 5000000 ≤ k) : spec_CombineMessages.f k a b c m = some (combR a b c m) := by
  unfold spec_CombineMessages.f combR
  rw [specSort_f m k hk, Option.bind_some]
  have h0 : ∀ s, cbP (canC a b c) s 0 = [] := fun s => by unfold cbP; split <;> simp [leP]
  by_cases hl : m.length ≤ 2000
  · rw [if_pos hl]
    by_cases hv : Vs a b c
    · rw [if_pos ⟨hv, hl⟩]
      have h1 := specComb_l a b c hv (kmSort m) (by rw [kmSort_length]; omega) (kmSort m).length 0 (by omega) k (by rw [kmSort_length]; omega)
      rw [h0, kmSort_length] at h1
      exact h1
    · rw [if_neg (fun h => hv h.1)]
      obtain ⟨k, rfl, hk⟩ := kk_pred (show 3 < k by omega)
      obtain ⟨k, rfl, hk⟩ := kk_pred (show 2 < k by omega)
      simp only [spec_CombineMessages.l0, spec_CombineMessages.j1, specVs_f a b c (k + 1) (by omega), Option.bind_some]
      split
      · rw [if_neg (by simpa using hv)]
      · rw [if_neg (by simp)]
  · rw [if_neg hl, if_neg (fun h => hl h.2)]
    obtain ⟨k, rfl, hk⟩ := kk_pred (show 3 < k by omega)
    obtain ⟨k, rfl, hk⟩ := kk_pred (show 2 < k by omega)
    simp only [spec_CombineMessages.l0, spec_CombineMessages.j1]
    rw [if_neg (by simp), if_neg (by simp)]

def toMessageC (x : S95) : S34 := ⟨x.f0, x.f1, x.f2⟩
theorem rdS_95 (xs : List S95) (i : Nat) (h : i < xs.length) : rd_T95 xs (i : Int) = xs[i] := by simp [rd_T95, h]
theorem toMessageS_l (l : List S95) (hb : l.length < 4611686018427387904) : ∀ d k i : Nat, ∀ o : List S34, o.length = l.length → o.take i = (l.map toMessageC).take i → l.length = i + d → d < k → laws_toMessageS.l0 k l o i = some (l.map toMessageC) := by
  intro d
  induction d with
  | zero =>
    intro k i o ho ht hi hk
    obtain ⟨k, rfl, hk⟩ := kk_pred hk
    simp only [laws_toMessageS.l0]
    rw [if_neg (by omega)]
    obtain rfl : l.length = i := by omega
    exact congrArg some (eq_of_take (by simpa using ho) (by rw [ho]; exact ht))
  | succ d ih =>
    intro k i o ho ht hi hk
    obtain ⟨k, rfl, hk⟩ := kk_pred hk
    simp only [laws_toMessageS.l0, laws_toMessage.f, Option.bind_some]
    rw [if_pos (by omega), if_pos (by omega), if_pos (by omega), wS _ (by omega), Int.toNat_natCast, rdS_95 _ _ (by omega)]
    exact ih k (i + 1) _ (by simpa using ho) (by rw [take_set_succ _ _ _ (by omega), ht, List.take_succ_eq_append_getElem (by simp; omega), List.getElem_map]; rfl) (by omega) (by omega)
theorem toMessageS_f (l : List S95) (hb : l.length ≤ 1048576) (k : Nat) (hk : l.length < k) : laws_toMessageS.f k l = some (l.map toMessageC) := by
  have := toMessageS_l l (by omega) l.length k 0 (List.replicate l.length z34) (by simp) (by simp) (by omega) hk
  unfold laws_toMessageS.f
  rw [if_pos (by omega), if_pos (by omega)]
  simpa using this

/-- What the program and the reference call a valid program. -/
def Vp (a b c : Int) : Prop := (a = 1 ∨ a = 2) ∧ 0 ≤ b ∧ b ≤ 15 ∧ c = 0 ∨ (a = 3 ∨ a = 5) ∧ b = 0 ∧ c = 0 ∨ (a = 4 ∨ a = 6) ∧ b = 0 ∧ 1 ≤ c ∧ c ≤ 20
instance (a b c : Int) : Decidable (Vp a b c) := by unfold Vp; infer_instance
theorem implProgram_f (a b c : Int) (k : Nat) (hk : 1 < k) : impl_ProgramValid.f k a b c = some (decide (Vp a b c)) := by
  obtain ⟨k, rfl, hk⟩ := kk_pred hk
  obtain ⟨k, rfl, hk⟩ := kk_pred (show 0 < k by omega)
  simp only [Vp, impl_ProgramValid.f, impl_ProgramValid.j0, impl_ProgramValid.j1, Option.bind_some, o_beq, o_dand, o_and, o_nand, o_or, o_ite, o_tf, o_ft, decide_eq_true_eq, not_true, false_and, imp_false]
  refine congrArg some (decide_eq_decide.2 ?_)
  omega

def cmpI (a b : Int) : Int := if a < b then -1 else if a > b then 1 else 0
theorem compare_f (a b : Int) : cmp_Compare_int.f a b = some (cmpI a b) := by
  unfold cmp_Compare_int.f cmp_isNaN_int.f cmpI
  simp only [Option.bind_some, bne_self_eq_false, Bool.false_eq_true, if_false]
  split
  · rfl
  · split <;> rfl
theorem or3_f (x y z : Int) (k : Nat) : cmp_Or_int.f (k + 4) [x, y, z] = some (if x = 0 then (if y = 0 then z else y) else x) := by
  have w1 : wrap64 (0 + 1) = 1 := by unfold wrap64; omega
  have w2 : wrap64 (1 + 1) = 2 := by unfold wrap64; omega
  have w3 : wrap64 (2 + 1) = 3 := by unfold wrap64; omega
  have r0 : rd [x, y, z] 0 = x := rfl
  have r1 : rd [x, y, z] 1 = y := rfl
  have r2 : rd [x, y, z] 2 = z := rfl
  have hl : (([x, y, z] : List Int).length : Int) = 3 := rfl
  unfold cmp_Or_int.f
  rw [hl]
  simp only [cmp_Or_int.l0, hl, w1, w2, w3, r0, r1, r2]
  rw [if_pos (by decide), if_pos (by decide), if_pos (by decide)]
  by_cases h0 : x = 0
  · rw [if_pos h0, if_pos h0, if_pos (by decide), if_pos (by decide), if_pos (by decide)]
    by_cases h1 : y = 0
    · rw [if_pos h1, if_pos h1, if_pos (by decide), if_pos (by decide), if_pos (by decide)]
      by_cases h2 : z = 0
      · rw [if_pos h2, if_neg (by decide), h2]
      · rw [if_neg h2]
    · rw [if_neg h1, if_neg h1]
  · rw [if_neg h0, if_neg h0]
/-- What the comparison of two messages tells. -/
def cmpM (a b : S34) : Int := if cmpI a.f0 b.f0 = 0 then (if cmpI a.f1 b.f1 = 0 then cmpI a.f2 b.f2 else cmpI a.f1 b.f1) else cmpI a.f0 b.f0
theorem cmpMsg_f (a b : S34) (k : Nat) (hk : 3 < k) : impl_compareMessages.f k a.f0 a.f1 a.f2 b.f0 b.f1 b.f2 = some (cmpM a b) := by
  obtain ⟨k, rfl⟩ : ∃ m, k = m + 4 := ⟨k - 4, by omega⟩
  simp only [impl_compareMessages.f, compare_f, Option.bind_some, or3_f]
  rfl
theorem cmpI_neg (a b : Int) : cmpI a b < 0 ↔ a < b := by
  unfold cmpI
  split
  · omega
  · split <;> omega
theorem cmpI_zero (a b : Int) : cmpI a b = 0 ↔ a = b := by
  unfold cmpI
  split
  · omega
  · split <;> omega
theorem cmpM_neg (a b : S34) : cmpM a b < 0 ↔ ltM a b = true := by
  unfold cmpM ltM
  rw [decide_eq_true_eq]
  by_cases h0 : a.f0 = b.f0
  · rw [if_pos ((cmpI_zero _ _).2 h0)]
    by_cases h1 : a.f1 = b.f1
    · rw [if_pos ((cmpI_zero _ _).2 h1), cmpI_neg]
      omega
    · rw [if_neg (fun h => h1 ((cmpI_zero _ _).1 h)), cmpI_neg]
      omega
  · rw [if_neg (fun h => h0 ((cmpI_zero _ _).1 h)), cmpI_neg]
    omega

theorem implLeast_l (l : List S34) (hl : l.length ≤ 1000000) : ∀ d n : Nat, n + d = l.length → ∀ k, d < k → impl_leastOnly.l0 k l (leP l n) l (l.length : Int) (n : Int) = some (leP l l.length)
  | 0, n, hn, k, hk => by
    obtain ⟨k, rfl, hk⟩ := kk_pred hk
    simp only [impl_leastOnly.l0]
    rw [if_neg (by omega), show n = l.length by omega]
  | d + 1, n, hn, k, hk => by
    obtain ⟨k, rfl, hk⟩ := kk_pred (show 0 < k by omega)
    have ih := implLeast_l l hl d (n + 1) (by omega) k (by omega)
    have hll := leP_len l n
    have hw : wrap64 ((n : Int) + 1) = ((n + 1 : Nat) : Int) := wS n (by omega)
    have hx : (⟨(rd_T34 l (n : Int)).f0, (rd_T34 l (n : Int)).f1, (rd_T34 l (n : Int)).f2⟩ : S34) = rdM' l n := rfl
    simp only [impl_leastOnly.l0, hw, hx]
    rw [if_pos (by omega), if_pos (by omega), if_pos (by omega)]
    by_cases h0 : n = 0
    · rw [if_pos (by omega), if_pos (by omega)]
      rw [leP, if_pos (Or.inl h0)] at ih
      exact ih
    · have hw1 : wrap64 ((n : Int) - 1) = ((n - 1 : Nat) : Int) := by unfold wrap64; omega
      rw [if_neg (by omega), hw1, if_pos (by omega), if_pos (by omega)]
      by_cases hq : (rd_T34 l ((n - 1 : Nat) : Int)).f0 = (rd_T34 l (n : Int)).f0
      · rw [if_pos hq]
        rw [leP, if_neg (by
          intro h
          rcases h with h | h
          · exact h0 h
          · exact h hq)] at ih
        exact ih
      · rw [if_neg hq, if_pos (by omega)]
        rw [leP, if_pos (show n = 0 ∨ (rdM' l (n - 1)).f0 ≠ (rdM' l n).f0 from Or.inr hq)] at ih
        exact ih
theorem implLeast_f (l : List S34) (hl : l.length ≤ 1000000) (k : Nat) (hk : l.length < k) : impl_leastOnly.f k l = some (leP l l.length) := implLeast_l l hl l.length 0 (by omega) k hk

theorem implCan_f (a b c : Int) (k : Nat) (hk : 1 < k) : impl_CanCombine.f k a b c = some (canC a b c) := by
  simp only [impl_CanCombine.f, implProgram_f a b c k hk, Option.bind_some, decide_eq_true_eq, canC]
  by_cases h : Vp a b c
  · have h' : Vs a b c := h
    rw [if_pos h]
    unfold Vp at h
    by_cases h1 : a = 1
    · rw [if_pos h1]
      simp only [h', true_and]
      exact congrArg some (by simp; omega)
    · rw [if_neg h1]
      by_cases h2 : a = 2
      · rw [if_pos h2]
        simp only [h', true_and]
        exact congrArg some (by simp; omega)
      · rw [if_neg h2]
        simp only [h', true_and, o_beq]
        exact congrArg some (decide_eq_decide.2 (by omega))
  · rw [if_neg h]
    have h' : ¬ Vs a b c := h
    exact congrArg some (by simp [h'])
theorem implComb_f (a b c : Int) (m : List S34) (hw : ∀ x ∈ m, -9223372036854775808 ≤ x.f0 ∧ x.f0 ≤ 9223372036854775807) (k : Nat) (hk : 5000 ≤ k) : impl_CombineMessages.f k a b c m = some (combR a b c m) := by
  unfold impl_CombineMessages.f combR
  obtain ⟨k, rfl, hk⟩ := kk_pred (show 3000 < k by omega)
  rw [implProgram_f a b c (k + 1) (by omega), Option.bind_some]
  by_cases hv : Vs a b c
  · rw [if_pos (show decide (Vp a b c) = true by exact decide_eq_true hv)]
    simp only [impl_CombineMessages.j0]
    by_cases hl : m.length ≤ 2000
    · rw [if_neg (by simp; omega), if_pos ⟨hv, hl⟩]
      unfold impl_inOrder.f
      rw [if_pos ⟨by omega, hw⟩, Option.bind_some, implCan_f a b c k (by omega), Option.bind_some]
      have hkl := kmSort_length m
      unfold cbP
      by_cases hc : canC a b c = true
      · rw [if_pos hc, if_pos hc, implLeast_f _ (by omega) k (by omega), Option.bind_some, hkl]
      · rw [if_neg hc, if_neg hc, List.take_of_length_le (by omega)]
    · rw [if_pos (by simp; omega), if_neg (fun h => hl h.2)]
  · rw [if_neg (show ¬ decide (Vp a b c) = true by rw [decide_eq_true_eq]; exact hv), if_neg (fun h => hv h.1)]
    simp only [impl_CombineMessages.j0, if_true]

theorem eqMessageS_l (l : List S34) (hb : l.length < 4611686018427387904) : ∀ d k i : Nat, l.length = i + d → d < k → laws_eqMessageS.l0 k l l i = some true := by
  intro d
  induction d with
  | zero =>
    intro k i hi hk
    obtain ⟨k, rfl, hk⟩ := kk_pred hk
    simp only [laws_eqMessageS.l0]
    rw [if_neg (by omega)]
  | succ d ih =>
    intro k i hi hk
    obtain ⟨k, rfl, hk⟩ := kk_pred hk
    simp only [laws_eqMessageS.l0, laws_eqMessage.f, if_true, Option.bind_some]
    rw [if_pos (by omega), if_pos (by omega), if_pos (by omega), wS _ (by omega)]
    exact ih k (i + 1) (by omega) (by omega)
theorem eqMessageS_f (l : List S34) (hb : l.length < 4611686018427387904) (k : Nat) (hk : l.length < k) : laws_eqMessageS.f k l l = some true := by
  have := eqMessageS_l l hb l.length k 0 (by omega) hk
  simpa [laws_eqMessageS.f] using this

/-- Messages with the numbers from m on in their fields. -/
def iotaMessage (m : Int) (n : Nat) : List S34 := (List.range n).map fun (i : Nat) => ⟨m + 3 * (i : Int), m + 3 * (i : Int) + 1, m + 3 * (i : Int) + 2⟩
theorem iotaMessage_length (m : Int) (n : Nat) : (iotaMessage m n).length = n := by simp [iotaMessage]
theorem iotaMessage_succ (m : Int) (n : Nat) : iotaMessage m (n + 1) = iotaMessage m n ++ [⟨m + 3 * (n : Int), m + 3 * (n : Int) + 1, m + 3 * (n : Int) + 2⟩] := by
  unfold iotaMessage
  rw [List.range_succ, List.map_append]
  rfl
theorem rdMessage_set (l : List S34) (i : Nat) (v : S34) (h : i < l.length) : rd_T34 (l.set i v) (i : Int) = v := by simp [rd_T34, h]
theorem markMessageS_l (n : Nat) (m : Int) (h0 : 0 ≤ m) (hm : m + 3 * n < 4611686018427387904) : ∀ d k i : Nat, ∀ l : List S34, l.length = n → l.take i = iotaMessage m i → n = i + d → d < k → laws_markMessageS.l0 k l (m + 3 * i) i = some (m + 3 * n, iotaMessage m n) := by
  intro d
  induction d with
  | zero =>
    intro k i l hl ht hi hk
    obtain ⟨k, rfl, hk⟩ := kk_pred hk
    simp only [laws_markMessageS.l0]
    rw [if_neg (by omega)]
    obtain rfl : n = i := by omega
    rw [← ht, ← hl, List.take_length]
  | succ d ih =>
    intro k i l hl ht hi hk
    obtain ⟨k, rfl, hk⟩ := kk_pred hk
    have e1 : wrap64 (m + 3 * (i : Int) + 1) = m + 3 * (i : Int) + 1 := by unfold wrap64; omega
    have e2 : wrap64 (m + 3 * (i : Int) + 1 + 1) = m + 3 * (i : Int) + 2 := by unfold wrap64; omega
    have e3 : wrap64 (m + 3 * (i : Int) + 2 + 1) = m + 3 * ((i + 1 : Nat) : Int) := by unfold wrap64; omega
    simp only [laws_markMessageS.l0, Option.bind_some, Int.toNat_natCast, List.set_set, rdMessage_set l i _ (by omega), e1, e2, e3]
    rw [if_pos (by omega), if_pos (by omega), wS _ (by omega)]
    exact ih k (i + 1) _ (by simpa using hl) (by rw [take_set_succ _ _ _ (by omega), ht, iotaMessage_succ]) (by omega) (by omega)
theorem markMessageS_f (l : List S34) (m : Int) (h0 : 0 ≤ m) (hm : m + 3 * l.length < 4611686018427387904) (k : Nat) (hk : l.length < k) : laws_markMessageS.f k l m = some (m + 3 * l.length, iotaMessage m l.length) := by
  have := markMessageS_l l.length m h0 hm l.length k 0 l rfl (by simp [iotaMessage]) (by omega) hk
  simpa [laws_markMessageS.f] using this

theorem heldMessageS_l (n : Nat) (m : Int) (h0 : 0 ≤ m) (hm : m + 3 * n < 4611686018427387904) : ∀ d k i : Nat, n = i + d → d < k → laws_heldMessageS.l0 k (iotaMessage m n) (m + 3 * i) i = some (m + 3 * n) := by
  intro d
  induction d with
  | zero =>
    intro k i hi hk
    obtain ⟨k, rfl, hk⟩ := kk_pred hk
    simp only [laws_heldMessageS.l0, iotaMessage_length]
    rw [if_neg (by omega)]
    obtain rfl : n = i := by omega
    rfl
  | succ d ih =>
    intro k i hi hk
    obtain ⟨k, rfl, hk⟩ := kk_pred hk
    have e1 : wrap64 (m + 3 * (i : Int) + 1) = m + 3 * (i : Int) + 1 := by unfold wrap64; omega
    have e2 : wrap64 (m + 3 * (i : Int) + 1 + 1) = m + 3 * (i : Int) + 2 := by unfold wrap64; omega
    have e3 : wrap64 (m + 3 * (i : Int) + 2 + 1) = m + 3 * ((i + 1 : Nat) : Int) := by unfold wrap64; omega
    have hr : rd_T34 (iotaMessage m n) (i : Int) = ⟨m + 3 * (i : Int), m + 3 * (i : Int) + 1, m + 3 * (i : Int) + 2⟩ := by
      have hlt : i < n := by omega
      simp [rd_T34, iotaMessage, hlt]
    simp only [laws_heldMessageS.l0, iotaMessage_length, hr, e1, e2, e3, if_true]
    rw [if_pos (by omega), if_pos (by omega), wS _ (by omega)]
    exact ih k (i + 1) (by omega) (by omega)
theorem heldMessageS_f (n : Nat) (m : Int) (h0 : 0 ≤ m) (hm : m + 3 * n < 4611686018427387904) (k : Nat) (hk : n < k) : laws_heldMessageS.f k (iotaMessage m n) m = some (m + 3 * n) := by
  have := heldMessageS_l n m h0 hm n k 0 (by omega) hk
  simpa [laws_heldMessageS.f] using this

end Go.Proofs.Ytgdcnlmhdbdijaa.PFnExactCombineMessages
namespace Go.Proofs.Ytgdcnlmhdbdijaa.Pure
open Go.RowKit Go.Proofs.Ytgdcnlmhdbdijaa.PFnExactCombineMessages Go.Proofs.YtgdcnlmhdbdijaaW.PrintWords Go.Proofs.YtgdcnlmhdbdijaaW.PrintLast Go.Proofs.YtgdcnlmhdbdijaaW.PrintMore
theorem combR_len (a b c : Int) (m : List S34) : (combR a b c m).length ≤ 2000 := by
  unfold combR
  split
  · rename_i h
    have := cbP_len (canC a b c) (kmSort m) m.length
    omega
  · simp
theorem FnExactCombineMessages (a b c : Int) (l : List S95) {q : Prop} {p : S95 → Prop} (_ : q) (h1 : l.length ≤ maxLen ∧ ∀ x ∈ l, (Lit.int .i64 x.f0).wf = true ∧ p x) : ∃ k, laws_FnExactCombineMessages.f k a b c l = some true := by
  refine ⟨6000001, ?_⟩
  have hl : l.length ≤ 9223372036854775807 := by have := h1.1; unfold maxLen at this; omega
  have hw : ∀ x ∈ l.map toMessageC, -9223372036854775808 ≤ x.f0 ∧ x.f0 ≤ 9223372036854775807 := by
    intro x hx
    obtain ⟨y, hy, rfl⟩ := List.mem_map.mp hx
    have h2 := (h1.2 y hy).1
    simp [Lit.wf, IntKind.min, IntKind.max, IntKind.signed, IntKind.bits] at h2
    show -9223372036854775808 ≤ y.f0 ∧ y.f0 ≤ 9223372036854775807
    omega
  unfold laws_FnExactCombineMessages.f
  rw [szMessageS_f l hl]
  by_cases h : l.length ≤ 1048576
  · simp only [if_pos h, Option.bind_some, toMessageS_f l h 6000001 (by omega), laws_toProgram.f]
    have hm : (l.map toMessageC).length = l.length := by simp
    generalize hg : l.map toMessageC = m at *
    have hc := combR_len a b c m
    simp only [Option.bind_some, specComb_f a b c m 6000001 (by omega), implComb_f a b c m hw 6000001 (by omega), eqMessageS_f _ (show (combR a b c m).length < 4611686018427387904 by omega) 6000001 (by omega), eqMessageS_f m (by omega) 6000001 (by omega), markMessageS_f m 1 (by omega) (by omega) 6000001 (by omega), if_true, Bool.not_true]
    rw [if_neg (by omega), if_neg (by omega)]
    simp only [laws_FnExactCombineMessages.j0, laws_toProgram.f, markMessageS_f (combR a b c m) 1 (by omega) (by omega) 6000000 (by omega), heldMessageS_f (combR a b c m).length 1 (by omega) (by omega) 6000000 (by omega), toMessageS_f l h 6000000 (by omega), hg, implComb_f a b c m hw 6000000 (by omega), eqMessageS_f _ (show (combR a b c m).length < 4611686018427387904 by omega) 6000000 (by omega), Option.bind_some, if_true]
    rw [if_neg (by simp), if_neg (by omega)]
    rw [if_neg (by omega)]
  · simp only [if_neg h, Option.bind_some]
    rw [if_pos (by omega)]

end Go.Proofs.Ytgdcnlmhdbdijaa.Pure
