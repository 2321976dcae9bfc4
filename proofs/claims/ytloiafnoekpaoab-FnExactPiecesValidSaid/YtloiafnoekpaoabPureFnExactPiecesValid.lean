/- The program's PiecesValid returns what the reference's returns, for all arguments. No further condition. -/
import Derived.Test.YtloiafnoekpaoabPFnExactPiecesValidx
import Derived.Test.YtloiafnoekpaoabL
import Derived.Test.YtloiafnoekpaoabT
set_option linter.unusedVariables false
set_option linter.unusedSimpArgs false
namespace Go.Proofs.Ytloiafnoekpaoab.PFnExactPiecesValid
open Go.RowKit Go.Proofs.YtloiafnoekpaoabW.PrintWords Go.Proofs.YtloiafnoekpaoabW.PrintLast Go.Proofs.YtloiafnoekpaoabW.PrintMore
theorem szIntS_f (l : List Int) (a : Int) (ha : 0 ≤ a) (ha' : a ≤ 1048576) (hl : l.length ≤ 9223372036854775807) : laws_szIntS.f l a = some (if (l.length : Int) ≤ a then a - (l.length : Int) else -1) := by
  unfold laws_szIntS.f
  have e : wrap64 (a - (l.length : Int)) = a - (l.length : Int) := by unfold wrap64; omega
  rw [e]
  by_cases h : (l.length : Int) ≤ a
  · rw [if_neg (by omega), if_pos h]
  · rw [if_pos (by omega), if_neg h]

theorem szBoolS_f (l : List Bool) (a : Int) (ha : 0 ≤ a) (ha' : a ≤ 1048576) (hl : l.length ≤ 9223372036854775807) : laws_szBoolS.f l a = some (if (l.length : Int) ≤ a then a - (l.length : Int) else -1) := by
  unfold laws_szBoolS.f
  have e : wrap64 (a - (l.length : Int)) = a - (l.length : Int) := by unfold wrap64; omega
  rw [e]
  by_cases h : (l.length : Int) ≤ a
  · rw [if_neg (by omega), if_pos h]
  · rw [if_pos (by omega), if_neg h]

theorem szMessageS_f (l : List S157) (hl : l.length ≤ 9223372036854775807) : laws_szMessageS.f l 1048576 = some (if l.length ≤ 1048576 then 1048576 - (l.length : Int) else -1) := by
  unfold laws_szMessageS.f
  have e : wrap64 (1048576 - (l.length : Int)) = 1048576 - (l.length : Int) := by unfold wrap64; omega
  rw [e]
  by_cases h : l.length ≤ 1048576
  · rw [if_neg (by omega), if_pos h]
  · rw [if_pos (by omega), if_neg h]
theorem szMessageS_g (l : List S157) (c : Int) (h0 : 0 ≤ c) (hc : c ≤ 1048576) (hl : l.length ≤ 9223372036854775807) : laws_szMessageS.f l c = some (if (l.length : Int) ≤ c then c - (l.length : Int) else -1) := by
  unfold laws_szMessageS.f
  have e : wrap64 (c - (l.length : Int)) = c - (l.length : Int) := by unfold wrap64; omega
  rw [e]
  by_cases h : (l.length : Int) ≤ c
  · rw [if_neg (by omega), if_pos h]
  · rw [if_pos (by omega), if_neg h]

/-- How many values and messages the lists of pieces hold. -/
def bulkP : List S117 → Nat
  | [] => 0
  | x :: l => x.f1.length + x.f2.length + x.f3.length + x.f4.length + bulkP l
def WfP (x : S117) : Prop := x.f1.length ≤ 9223372036854775807 ∧ x.f2.length ≤ 9223372036854775807 ∧ x.f3.length ≤ 9223372036854775807 ∧ x.f4.length ≤ 9223372036854775807
theorem szPiece_f (x : S117) (hx : WfP x) (c : Int) (h0 : 0 ≤ c) (hc : c ≤ 1048576) : laws_szPiece.f x.f0 x.f1 x.f2 x.f3 x.f4 c = some (if (x.f1.length + x.f2.length + x.f3.length + x.f4.length : Int) ≤ c then c - (x.f1.length + x.f2.length + x.f3.length + x.f4.length) else -1) := by
  obtain ⟨h1, h2, h3, h4⟩ := hx
  unfold laws_szPiece.f
  rw [szIntS_f x.f1 c h0 hc h1, Option.bind_some]
  by_cases a1 : (x.f1.length : Int) ≤ c
  · rw [if_pos a1, if_neg (by omega), szIntS_f x.f2 _ (by omega) (by omega) h2, Option.bind_some]
    by_cases a2 : (x.f2.length : Int) ≤ c - (x.f1.length : Int)
    · rw [if_pos a2, if_neg (by omega), szBoolS_f x.f3 _ (by omega) (by omega) h3, Option.bind_some]
      by_cases a3 : (x.f3.length : Int) ≤ c - (x.f1.length : Int) - (x.f2.length : Int)
      · rw [if_pos a3, if_neg (by omega), szMessageS_g x.f4 _ (by omega) (by omega) h4, Option.bind_some]
        by_cases a4 : (x.f4.length : Int) ≤ c - (x.f1.length : Int) - (x.f2.length : Int) - (x.f3.length : Int)
        · rw [if_pos a4, if_neg (by omega), if_pos (by omega)]
          exact congrArg some (by omega)
        · rw [if_neg a4, if_pos (by omega), if_neg (by omega)]
      · rw [if_neg a3, if_pos (by omega), if_neg (by omega)]
    · rw [if_neg a2, if_pos (by omega), if_neg (by omega)]
  · rw [if_neg a1, if_pos (by omega), if_neg (by omega)]
theorem szPieceS_l (l : List S117) (hw : ∀ x ∈ l, WfP x) (hl : l.length ≤ 1048576) : ∀ d k i : Nat, ∀ c : Int, 0 ≤ c → c ≤ 1048576 → l.length = i + d → d < k → laws_szPieceS.l0 k l c i = some (if (bulkP (l.drop i) : Int) ≤ c then c - (bulkP (l.drop i) : Int) else -1) := by
  intro d
  induction d with
  | zero =>
    intro k i c h0 hc hi hk
    obtain ⟨k, rfl, hk⟩ := kk_pred hk
    simp only [laws_szPieceS.l0]
    rw [if_neg (by omega), List.drop_of_length_le (by omega)]
    have e : (bulkP ([] : List S117) : Int) = 0 := rfl
    rw [e, if_pos h0]
    exact congrArg some (by omega)
  | succ d ih =>
    intro k i c h0 hc hi hk
    obtain ⟨k, rfl, hk⟩ := kk_pred hk
    have hi' : i < l.length := by omega
    have hr : rd_T117 l (i : Int) = l[i] := by simp [rd_T117, hi']
    have hx := hw _ (List.getElem_mem hi')
    rw [List.drop_eq_getElem_cons hi']
    simp only [laws_szPieceS.l0, hr]
    generalize l[i] = x at *
    rw [if_pos (by omega), if_pos (by omega), szPiece_f x hx c h0 hc, Option.bind_some]
    have eb : ((bulkP (x :: l.drop (i + 1)) : Nat) : Int) = (x.f1.length + x.f2.length + x.f3.length + x.f4.length : Int) + (bulkP (l.drop (i + 1)) : Int) := by simp only [bulkP]; omega
    rw [eb]
    by_cases a : (x.f1.length + x.f2.length + x.f3.length + x.f4.length : Int) ≤ c
    · rw [if_pos a, if_neg (by omega), wS _ (by omega), ih k (i + 1) _ (by omega) (by omega) (by omega) (by omega)]
      by_cases b : (bulkP (l.drop (i + 1)) : Int) ≤ c - (x.f1.length + x.f2.length + x.f3.length + x.f4.length)
      · rw [if_pos b, if_pos (by omega)]
        exact congrArg some (by omega)
      · rw [if_neg b, if_neg (by omega)]
    · rw [if_neg a, if_pos (by omega), if_neg (by omega)]
/-- Either all lists together are small, or the answer is -1. -/
theorem szPieceS_f (l : List S117) (hw : ∀ x ∈ l, WfP x) (h0 : l.length ≤ 9223372036854775807) (k : Nat) (hk : 1048577 < k) :
    (l.length + bulkP l ≤ 1048576 ∧ ∃ r, 0 ≤ r ∧ laws_szPieceS.f k l 1048576 = some r) ∨ laws_szPieceS.f k l 1048576 = some (-1) := by
  unfold laws_szPieceS.f
  have e : wrap64 (1048576 - (l.length : Int)) = 1048576 - (l.length : Int) := by unfold wrap64; omega
  rw [e]
  by_cases h : l.length ≤ 1048576
  · rw [if_neg (by omega)]
    have := szPieceS_l l hw h l.length k 0 (1048576 - (l.length : Int)) (by omega) (by omega) (by omega) (by omega)
    simp only [List.drop_zero] at this
    rw [show ((0 : Nat) : Int) = 0 from rfl] at this
    rw [this]
    by_cases b : (bulkP l : Int) ≤ 1048576 - (l.length : Int)
    · rw [if_pos b]
      exact Or.inl ⟨by omega, _, by omega, rfl⟩
    · rw [if_neg b]
      exact Or.inr rfl
  · rw [if_pos (by omega)]
    exact Or.inr rfl
theorem bulkP_mem {l : List S117} {x : S117} (h : x ∈ l) : x.f1.length + x.f2.length + x.f3.length + x.f4.length ≤ bulkP l := by
  induction l with
  | nil => cases h
  | cons y l ih =>
    simp only [bulkP]
    rcases List.mem_cons.1 h with rfl | h
    · omega
    · have := ih h; omega

theorem l1In_f (a b c : Int) : spec_l1In.f a b c = some (decide (b ≤ a ∧ a ≤ c)) := by
  unfold spec_l1In.f
  by_cases h : b ≤ a
  · rw [if_pos h]; simp [h]
  · rw [if_neg h]; simp [h]

theorem specOwner_f (v n : Nat) (hv : v ≤ 15) (h1 : 1 ≤ n) (h6 : n ≤ 6) : spec_OwnerOf.f (v : Int) (n : Int) = some ((ownN n v : Nat) : Int) := by
  simp only [spec_OwnerOf.f, l1In_f, Option.bind_some]
  rw [if_pos (by simp; omega), if_pos (by simp; omega), if_neg (by omega)]
  have e : wrap64 (wrap64 (13 * (v : Int)) + 5) = ((13 * v + 5 : Nat) : Int) := by unfold wrap64; omega
  rw [e]
  rfl

theorem ownN_lt' (b k : Nat) (h : 1 ≤ b) : ownN b k < b := by unfold ownN; exact Nat.mod_lt _ (by omega)
/-- The vertices of a worker, in order. -/
def ownL (b w n : Nat) : List Int := ((List.range n).filter fun v => ownN b v == w).map fun (v : Nat) => (v : Int)
theorem ownL_succ (b w n : Nat) : ownL b w (n + 1) = ownL b w n ++ if ownN b n = w then [(n : Int)] else [] := by
  unfold ownL
  rw [List.range_succ, List.filter_append, List.map_append]
  congr 1
  by_cases h : ownN b n = w <;> simp [h]
theorem ownL_len (b w n : Nat) : (ownL b w n).length ≤ n := by
  unfold ownL
  rw [List.length_map]
  refine Nat.le_trans (List.length_filter_le _ _) ?_
  simp
theorem ownL_mem (b w n : Nat) (x : Int) (h : x ∈ ownL b w n) : 0 ≤ x ∧ x < n := by
  unfold ownL at h
  obtain ⟨v, hv, rfl⟩ := List.mem_map.1 h
  have := List.mem_range.1 (List.mem_filter.1 hv).1
  omega
theorem ownedBy_l (n b w : Nat) (hn : n ≤ 16) (h1 : 1 ≤ b) (h6 : b ≤ 6) : ∀ d k i : Nat, n = i + d → 2 * d + 1 < k → spec_OwnedBy.l0 k n b w (ownL b w i) i = some (ownL b w n) := by
  intro d
  induction d with
  | zero =>
    intro k i hi hk
    obtain ⟨k, rfl, hk⟩ := kk_pred hk
    obtain ⟨k, rfl, hk⟩ := kk_pred (show 0 < k by omega)
    obtain rfl : n = i := by omega
    simp only [spec_OwnedBy.l0]
    rw [if_neg (by omega)]
    simp only [spec_OwnedBy.j1]
    simp
  | succ d ih =>
    intro k i hi hk
    obtain ⟨k, rfl, hk⟩ := kk_pred hk
    obtain ⟨k, rfl, hk⟩ := kk_pred (show 2 * d + 2 < k by omega)
    have ho := specOwner_f i b (by omega) h1 h6
    have hl := ownL_len b w i
    have e := wS i (by omega)
    simp only [spec_OwnedBy.l0, l1In_f, Option.bind_some]
    rw [if_pos (by omega), if_pos (by simp; omega)]
    simp only [spec_OwnedBy.j1]
    rw [if_pos (by simp; omega), ho, Option.bind_some, e, ← ih k (i + 1) (by omega) (by omega), ownL_succ]
    by_cases h : ownN b i = w
    · rw [if_pos (by omega), if_pos (by omega), if_pos h]
    · rw [if_neg (by omega), if_neg h, List.append_nil]
theorem ownedBy_f (n b w : Nat) (hn : n ≤ 16) (h1 : 1 ≤ b) (h6 : b ≤ 6) (k : Nat) (hk : 40 < k) : spec_OwnedBy.f k n b w = some (ownL b w n) :=
  ownedBy_l n b w hn h1 h6 n k 0 (by omega) (by omega)

def msgFitS (many : Int) (x : S122) : Bool := decide (0 ≤ x.f0 ∧ x.f0 ≤ wrap64 (many - 1) ∧ 0 ≤ x.f2 ∧ x.f2 ≤ wrap64 (many - 1) ∧ 0 ≤ x.f1 ∧ x.f1 ≤ 999999)
theorem l11_f (x : S122) (many : Int) : spec_l11Message.f x.f0 x.f1 x.f2 many = some (msgFitS many x) := by
  simp only [spec_l11Message.f, l1In_f, Option.bind_some, decide_eq_true_eq, o_and]
  exact congrArg some (decide_eq_decide.2 (by omega))

theorem l7Has_l (l : List Int) (a : Int) (hb : l.length < 4611686018427387904) : ∀ d k i : Nat, l.length = i + d → d < k → spec_l7Has.l0 k l a i = some ((l.drop i).contains a) := by
  intro d
  induction d with
  | zero =>
    intro k i hi hk
    obtain ⟨k, rfl, hk⟩ := kk_pred hk
    simp only [spec_l7Has.l0]
    rw [if_neg (by omega), List.drop_of_length_le (by omega)]
    rfl
  | succ d ih =>
    intro k i hi hk
    obtain ⟨k, rfl, hk⟩ := kk_pred hk
    simp only [spec_l7Has.l0]
    rw [if_pos (by omega), if_pos (by omega), wS _ (by omega), ih k (i + 1) (by omega) (by omega), rdN _ _ (by omega), List.drop_eq_getElem_cons (by omega : i < l.length), List.contains_cons]
    by_cases h : l[i] = a
    · rw [if_pos h, h]
      simp
    · rw [if_neg h]
      have : (a == l[i]) = false := by simpa using fun e => h e.symm
      rw [this, Bool.false_or]
theorem l7Has_f (l : List Int) (a : Int) (hb : l.length < 4611686018427387904) (k : Nat) (hk : l.length < k) : spec_l7Has.f k l a = some (l.contains a) := by
  have := l7Has_l l a hb l.length k 0 (by omega) hk
  simpa [spec_l7Has.f] using this

/-- A message comes before another one. -/
def ltM (a b : S122) : Bool := decide (a.f0 < b.f0 ∨ a.f0 = b.f0 ∧ (a.f1 < b.f1 ∨ a.f1 = b.f1 ∧ a.f2 < b.f2))
theorem before_f (a b : S122) : spec_l9Before.f a.f0 a.f1 a.f2 b.f0 b.f1 b.f2 = some (ltM a b) := by
  unfold spec_l9Before.f ltM
  by_cases h0 : a.f0 = b.f0
  · rw [if_pos h0]
    by_cases h1 : a.f1 = b.f1
    · rw [if_pos h1]
      exact congrArg some (decide_eq_decide.2 (by omega))
    · rw [if_neg h1]
      exact congrArg some (decide_eq_decide.2 (by omega))
  · rw [if_neg h0]
    exact congrArg some (decide_eq_decide.2 (by omega))
def rdM' (l : List S122) (i : Nat) : S122 := rd_T122 l (i : Int)
def srtA' (l : List S122) (i : Nat) : Bool := i == 0 || !ltM (rdM' l i) (rdM' l (i - 1))

def rdP (l : List S119) (i : Nat) : S119 := rd_T119 l (i : Int)
theorem rdP_get (l : List S119) (i : Nat) (h : i < l.length) : rdP l i = l[i] := by simp [rdP, rd_T119, h]
def ownS (many : Int) (n w : Nat) : List Int := if (0 ≤ many ∧ many ≤ 16) ∧ 1 ≤ n ∧ n ≤ 6 then ownL n w many.toNat else []
theorem ownS_len (many : Int) (n w : Nat) : (ownS many n w).length ≤ 16 := by
  unfold ownS
  split
  · rename_i h
    have := ownL_len n w many.toNat
    omega
  · simp
theorem ownedBy_g (many : Int) (n w : Nat) (k : Nat) (hk : 40 < k) : spec_OwnedBy.f k many (n : Int) (w : Int) = some (ownS many n w) := by
  unfold ownS
  by_cases h : (0 ≤ many ∧ many ≤ 16) ∧ 1 ≤ n ∧ n ≤ 6
  · rw [if_pos h]
    obtain ⟨m, rfl⟩ := Int.eq_ofNat_of_zero_le h.1.1
    rw [Int.toNat_natCast]
    exact ownedBy_f m n w (by omega) h.2.1 h.2.2 k hk
  · rw [if_neg h]
    obtain ⟨k, rfl, hk⟩ := kk_pred hk
    obtain ⟨k, rfl, hk⟩ := kk_pred (show 39 < k by omega)
    simp only [spec_OwnedBy.f, spec_OwnedBy.l0, l1In_f, Option.bind_some]
    by_cases h0 : (0 : Int) < many
    · rw [if_pos h0]
      by_cases h1 : 0 ≤ many ∧ many ≤ 16
      · have h2 : ¬ (1 ≤ (n : Int) ∧ (n : Int) ≤ 6) := by omega
        rw [decide_eq_true h1, if_pos rfl, decide_eq_false h2]
        simp [spec_OwnedBy.j1]
      · rw [decide_eq_false h1]
        simp [spec_OwnedBy.j1]
    · rw [if_neg h0]
      try simp [spec_OwnedBy.j1]
def mOk (many : Int) (own : List Int) (b : List S122) (j : Nat) : Bool := msgFitS many (rdM' b j) && (own.contains (rdM' b j).f0 && srtA' b j)
theorem specP_m (l : List S119) (many s w : Int) (own : List Int) (ho : own.length ≤ 16) (a : Int) (vs vl : List Int) (g : List Bool) (b : List S122) (hb : b.length < 4611686018427387904) (k : Nat) (hk : 20 < k) : ∀ d i : Nat, b.length = i + d →
    spec_PiecesValid.l2 (k + d + 1) l many s w own i a vs vl g b = if (List.range' i d).all (mOk many own b) = true then spec_PiecesValid.l0 k l many (wrap64 (s + (b.length : Int))) (wrap64 (w + 1)) else some false := by
  intro d
  induction d with
  | zero =>
    intro i hi
    simp only [spec_PiecesValid.l2]
    rw [if_neg (by omega)]
    simp
  | succ d ih =>
    intro i hi
    rw [show k + (d + 1) + 1 = (k + d + 1) + 1 by omega]
    have hi1 := ih (i + 1) (by omega)
    generalize hq : k + d + 1 = q at *
    simp only [spec_PiecesValid.l2]
    rw [if_pos (by omega), if_pos (by omega), l11_f, Option.bind_some, wS _ (by omega), hi1, List.range'_succ, List.all_cons, l7Has_f own _ (by omega) _ (by omega), Option.bind_some]
    change (if msgFitS many (rdM' b i) = true then (if own.contains (rdM' b i).f0 = true then _ else _) else _) = _
    unfold mOk
    cases hm : msgFitS many (rdM' b i)
    · simp
    · simp only [if_true, Bool.true_and]
      cases hc : own.contains (rdM' b i).f0
      · simp
      · simp only [if_true, Bool.true_and]
        by_cases h0 : i = 0
        · subst h0
          have e0 : srtA' b 0 = true := rfl
          rw [if_neg (by omega), e0, Bool.true_and]
        · obtain ⟨j, rfl⟩ : ∃ j, i = j + 1 := ⟨i - 1, by omega⟩
          have e : wrap64 (((j + 1 : Nat) : Int) - 1) = (j : Int) := by unfold wrap64; omega
          have ea : srtA' b (j + 1) = !ltM (rdM' b (j + 1)) (rdM' b j) := by simp [srtA']
          rw [if_pos (by omega), e, if_pos (by omega), if_pos (by omega), before_f, Option.bind_some, ea]
          change (if ltM (rdM' b (j + 1)) (rdM' b j) = true then _ else _) = _
          cases ltM (rdM' b (j + 1)) (rdM' b j)
          · rw [if_neg (by simp), Bool.not_false, Bool.true_and]
          · rw [if_pos rfl, Bool.not_true, Bool.false_and, if_neg (by simp)]
def vOk (own vs vl : List Int) (j : Nat) : Bool := decide (rd own (j : Int) = rd vs (j : Int)) && decide (-1 ≤ rd vl (j : Int) ∧ rd vl (j : Int) ≤ 999999)
theorem specP_v (l : List S119) (many s w : Int) (own : List Int) (a : Int) (vs vl : List Int) (g : List Bool) (b : List S122) (ho : own.length ≤ 16) (h1 : vs.length = own.length) (h2 : vl.length = own.length) (k : Nat) : ∀ d i : Nat, own.length = i + d →
    spec_PiecesValid.l1 (k + d + 1) l many s w own i a vs vl g b = if (List.range' i d).all (vOk own vs vl) = true then spec_PiecesValid.l2 k l many s w own 0 a vs vl g b else some false := by
  intro d
  induction d with
  | zero =>
    intro i hi
    simp only [spec_PiecesValid.l1]
    rw [if_neg (by omega)]
    simp
  | succ d ih =>
    intro i hi
    rw [show k + (d + 1) + 1 = (k + d + 1) + 1 by omega]
    have hi1 := ih (i + 1) (by omega)
    generalize hq : k + d + 1 = q at *
    simp only [spec_PiecesValid.l1, l1In_f, Option.bind_some, decide_eq_true_eq]
    rw [if_pos (by omega), if_pos (by omega), if_pos (by omega), if_pos (show (i : Int) < (vl.length : Int) by omega), wS _ (by omega), hi1, List.range'_succ, List.all_cons]
    unfold vOk
    by_cases e1 : rd own (i : Int) = rd vs (i : Int)
    · rw [if_pos e1, decide_eq_true e1, Bool.true_and]
      by_cases e2 : -1 ≤ rd vl (i : Int) ∧ rd vl (i : Int) ≤ 999999
      · rw [if_pos e2, decide_eq_true e2, Bool.true_and]
      · rw [if_neg e2, decide_eq_false e2]
        simp
    · rw [if_neg e1, decide_eq_false e1]
      simp
/-- A piece is the one of worker w of n. -/
def pS (many : Int) (n w : Nat) (x : S119) : Bool :=
  decide (x.f0 = w) && decide ((ownS many n w).length = x.f1.length) && decide (x.f2.length = (ownS many n w).length) && decide (x.f3.length = (ownS many n w).length) && ((List.range' 0 (ownS many n w).length).all (vOk (ownS many n w) x.f1 x.f2) && (List.range' 0 x.f4.length).all (mOk many (ownS many n w) x.f4))
def tot4 : List S119 → Nat
  | [] => 0
  | x :: l => x.f4.length + tot4 l
def cst4 : List S119 → Nat
  | [] => 0
  | x :: l => x.f4.length + 30 + cst4 l
theorem specP_j (l : List S119) (many s : Int) (w : Nat) (own : List Int) (ho : own.length ≤ 16) (a : Int) (vs vl : List Int) (g : List Bool) (b : List S122) (c : Bool) (hb : b.length < 4611686018427387904) (k : Nat) (hk : 20 < k) (hc : c = false → vs.length = own.length ∧ vl.length = own.length) :
    spec_PiecesValid.j1 (k + b.length + 1 + own.length + 1 + 1) l many s w own c a vs vl g b = if c = false ∧ (List.range' 0 own.length).all (vOk own vs vl) = true ∧ (List.range' 0 b.length).all (mOk many own b) = true then spec_PiecesValid.l0 k l many (wrap64 (s + (b.length : Int))) (wrap64 ((w : Int) + 1)) else some false := by
  simp only [spec_PiecesValid.j1]
  cases c
  · obtain ⟨h1, h2⟩ := hc rfl
    have e1 := specP_v l many s w own a vs vl g b ho h1 h2 (k + b.length + 1) own.length 0 (by omega)
    have e2 := specP_m l many s w own ho a vs vl g b hb k hk b.length 0 (by omega)
    rw [if_neg (by simp)]
    refine e1.trans ?_
    by_cases c1 : (List.range' 0 own.length).all (vOk own vs vl) = true
    · rw [if_pos c1]
      refine e2.trans ?_
      by_cases c2 : (List.range' 0 b.length).all (mOk many own b) = true
      · rw [if_pos c2, if_pos ⟨rfl, c1, c2⟩]
      · rw [if_neg c2, if_neg (fun h => c2 h.2.2)]
    · rw [if_neg c1, if_neg (fun h => c1 h.2.1)]
  · rw [if_pos rfl, if_neg (fun h => by cases h.1)]
def finB (n : Nat) (many : Int) (t : Int) : Bool := decide (0 ≤ many ∧ many ≤ 16) && decide (1 ≤ (n : Int) ∧ (n : Int) ≤ 6) && decide (t ≤ 2000)
theorem LeO_eq {α : Type} {f : Nat → Option α} (hm : ∀ k, LeO (f k) (f (k + 1))) {k k' : Nat} {r : α} (h : f k = some r) (hk : k ≤ k') : f k' = some r := by
  obtain ⟨d, rfl⟩ : ∃ d, k' = k + d := ⟨k' - k, by omega⟩
  clear hk
  induction d with
  | zero => exact h
  | succ d ih => exact hm _ _ ih
theorem specPieces_l (l : List S119) (many : Int) (hl : l.length < 4611686018427387904) : ∀ d k w : Nat, ∀ s : Int, l.length = w + d → 0 ≤ s → s + tot4 (l.drop w) < 4611686018427387904 → cst4 (l.drop w) + 60 < k →
    spec_PiecesValid.l0 k l many s w = some ((List.range' w d).all (fun j => pS many l.length j (rdP l j)) && finB l.length many (s + tot4 (l.drop w))) := by
  intro d
  induction d with
  | zero =>
    intro k w s hw hs ht hk
    obtain ⟨k, rfl, hk⟩ := kk_pred hk
    simp only [spec_PiecesValid.l0]
    rw [if_neg (by omega), List.drop_of_length_le (by omega)]
    have e0 : s + ((tot4 ([] : List S119) : Nat) : Int) = s := by simp [tot4]
    rw [e0, List.range'_zero, List.all_nil, Bool.true_and, l1In_f, Option.bind_some]
    unfold finB
    by_cases a1 : 0 ≤ many ∧ many ≤ 16
    · rw [decide_eq_true a1, if_pos rfl, l1In_f, Option.bind_some]
      by_cases a2 : 1 ≤ (l.length : Int) ∧ (l.length : Int) ≤ 6
      · rw [decide_eq_true a2, if_pos rfl, Bool.true_and, Bool.true_and]
      · rw [decide_eq_false a2, if_neg (by simp), Bool.true_and, Bool.false_and]
    · rw [decide_eq_false a1, if_neg (by simp), Bool.false_and, Bool.false_and]
  | succ d ih =>
    intro k w s hw hs ht hk
    have hw' : w < l.length := by omega
    rw [List.drop_eq_getElem_cons hw'] at ht hk
    have hx : rd_T119 l (w : Int) = l[w] := rdP_get l w hw'
    have hx' : rdP l w = l[w] := rdP_get l w hw'
    simp only [tot4, cst4] at ht hk
    rw [List.drop_eq_getElem_cons hw', List.range'_succ, List.all_cons, hx']
    generalize hxe : l[w] = x at *
    have hol := ownS_len many l.length w
    generalize hoe : ownS many l.length w = own at *
    obtain ⟨k2, rfl⟩ : ∃ k2, k = (k2 + x.f4.length + 1 + own.length + 1 + 1) + 1 := ⟨k - (x.f4.length + 1 + own.length + 1 + 1) - 1, by omega⟩
    have hj : ∀ c : Bool, (c = false → x.f1.length = own.length ∧ x.f2.length = own.length) → spec_PiecesValid.j1 (k2 + x.f4.length + 1 + own.length + 1 + 1) l many s w own c x.f0 x.f1 x.f2 x.f3 x.f4 = some ((!c && ((List.range' 0 own.length).all (vOk own x.f1 x.f2) && (List.range' 0 x.f4.length).all (mOk many own x.f4))) && ((List.range' (w + 1) d).all (fun j => pS many l.length j (rdP l j)) && finB l.length many (s + (x.f4.length + tot4 (l.drop (w + 1)) : Nat)))) := by
      intro c hc
      rw [specP_j l many s w own hol x.f0 x.f1 x.f2 x.f3 x.f4 c (by omega) k2 (by omega) hc]
      have e1 : wrap64 (s + (x.f4.length : Int)) = s + (x.f4.length : Int) := by unfold wrap64; omega
      rw [e1, wS _ (by omega), ih k2 (w + 1) (s + (x.f4.length : Int)) (by omega) (by omega) (by omega) (by omega)]
      have e2 : s + (x.f4.length : Int) + (tot4 (l.drop (w + 1)) : Int) = s + ((x.f4.length + tot4 (l.drop (w + 1)) : Nat) : Int) := by omega
      rw [e2]
      by_cases c1 : c = false ∧ (List.range' 0 own.length).all (vOk own x.f1 x.f2) = true ∧ (List.range' 0 x.f4.length).all (mOk many own x.f4) = true
      · rw [if_pos c1, c1.1, c1.2.1, c1.2.2]
        simp
      · rw [if_neg c1]
        have : (!c && ((List.range' 0 own.length).all (vOk own x.f1 x.f2) && (List.range' 0 x.f4.length).all (mOk many own x.f4))) = false := by
          cases hh : (!c && ((List.range' 0 own.length).all (vOk own x.f1 x.f2) && (List.range' 0 x.f4.length).all (mOk many own x.f4)))
          · rfl
          · simp only [Bool.and_eq_true, Bool.not_eq_true'] at hh
            exact absurd hh c1
        rw [this, Bool.false_and]
    simp only [spec_PiecesValid.l0, ownedBy_g many l.length w _ (show 40 < k2 + x.f4.length + 1 + own.length + 1 + 1 by omega), hoe, hx, Option.bind_some]
    rw [if_pos (by omega), if_pos (by omega)]
    have hpe : pS many l.length w x = (decide (x.f0 = w) && decide (own.length = x.f1.length) && decide (x.f2.length = own.length) && decide (x.f3.length = own.length) && ((List.range' 0 own.length).all (vOk own x.f1 x.f2) && (List.range' 0 x.f4.length).all (mOk many own x.f4))) := by unfold pS; rw [hoe]
    rw [hpe, show tot4 (x :: l.drop (w + 1)) = x.f4.length + tot4 (l.drop (w + 1)) from rfl]
    by_cases g0 : x.f0 = w
    · rw [if_pos g0, decide_eq_true g0]
      by_cases g1 : own.length = x.f1.length
      · rw [if_pos (show (own.length : Int) = (x.f1.length : Int) by omega), decide_eq_true g1]
        by_cases g2 : x.f2.length = own.length
        · rw [if_pos (show (x.f2.length : Int) = (own.length : Int) by omega), decide_eq_true g2, hj _ (fun _ => ⟨g1.symm, g2⟩)]
          by_cases g3 : x.f3.length = own.length
          · have e : ((x.f3.length : Int) != (own.length : Int)) = false := by rw [g3]; simp
            rw [e, decide_eq_true g3]
            simp only [Bool.not_false, Bool.true_and, Bool.and_assoc]
          · have e : ((x.f3.length : Int) != (own.length : Int)) = true := by simp; omega
            rw [e, decide_eq_false g3]
            simp
        · rw [if_neg (show ¬ (x.f2.length : Int) = (own.length : Int) by omega), decide_eq_false g2, hj true (fun h => by cases h)]
          simp
      · rw [if_neg (show ¬ (own.length : Int) = (x.f1.length : Int) by omega), decide_eq_false g1, hj true (fun h => by cases h)]
        simp
    · rw [if_neg g0, decide_eq_false g0, hj true (fun h => by cases h)]
      simp
theorem cst4_le : ∀ l : List S119, cst4 l = tot4 l + 30 * l.length := by
  intro l
  induction l with
  | nil => rfl
  | cons x l ih => simp only [cst4, tot4, List.length_cons, ih]; omega
def pvS (l : List S119) (many : Int) : Bool := (List.range' 0 l.length).all (fun j => pS many l.length j (rdP l j)) && finB l.length many (tot4 l)
theorem specPieces_f (l : List S119) (many : Int) (hl : l.length + tot4 l < 46116860184273879) (k : Nat) (hk : tot4 l + 30 * l.length + 60 < k) : spec_PiecesValid.f k l many = some (pvS l many) := by
  have := specPieces_l l many (by omega) l.length k 0 0 (by omega) (by omega) (by simp; omega) (by simp [cst4_le]; omega)
  simpa [spec_PiecesValid.f, pvS] using this

theorem toIntS_l (l : List Int) (hb : l.length < 4611686018427387904) : ∀ d k i : Nat, ∀ o : List Int, o.length = l.length → o.take i = l.take i → l.length = i + d → d < k → laws_toIntS.l0 k l o i = some l := by
  intro d
  induction d with
  | zero =>
    intro k i o ho ht hi hk
    obtain ⟨k, rfl, hk⟩ := kk_pred hk
    simp only [laws_toIntS.l0]
    rw [if_neg (by omega)]
    obtain rfl : l.length = i := by omega
    rw [List.take_length, ← ho, List.take_length] at ht
    rw [ht]
  | succ d ih =>
    intro k i o ho ht hi hk
    obtain ⟨k, rfl, hk⟩ := kk_pred hk
    simp only [laws_toIntS.l0]
    rw [if_pos (by omega), if_pos (by omega), if_pos (by omega), wS _ (by omega), Int.toNat_natCast, rdN _ _ (by omega)]
    exact ih k (i + 1) _ (by simpa using ho) (by rw [take_set_succ _ _ _ (by omega), ht, List.take_succ_eq_append_getElem (by omega)]) (by omega) (by omega)
theorem toIntS_f (l : List Int) (hb : l.length ≤ 1048576) (k : Nat) (hk : l.length < k) : laws_toIntS.f k l = some l := by
  have := toIntS_l l (by omega) l.length k 0 (List.replicate l.length 0) (by simp) (by simp) (by omega) hk
  unfold laws_toIntS.f
  rw [if_pos (by omega), if_pos (by omega)]
  simpa using this

theorem toBoolS_l (l : List Bool) (hb : l.length < 4611686018427387904) : ∀ d k i : Nat, ∀ o : List Bool, o.length = l.length → o.take i = l.take i → l.length = i + d → d < k → laws_toBoolS.l0 k l o i = some l := by
  intro d
  induction d with
  | zero =>
    intro k i o ho ht hi hk
    obtain ⟨k, rfl, hk⟩ := kk_pred hk
    simp only [laws_toBoolS.l0]
    rw [if_neg (by omega)]
    obtain rfl : l.length = i := by omega
    rw [List.take_length, ← ho, List.take_length] at ht
    rw [ht]
  | succ d ih =>
    intro k i o ho ht hi hk
    obtain ⟨k, rfl, hk⟩ := kk_pred hk
    simp only [laws_toBoolS.l0]
    rw [if_pos (by omega), if_pos (by omega), if_pos (by omega), wS _ (by omega), Int.toNat_natCast, rdOfN _ _ _ (by omega)]
    exact ih k (i + 1) _ (by simpa using ho) (by rw [take_set_succ _ _ _ (by omega), ht, List.take_succ_eq_append_getElem (by omega)]) (by omega) (by omega)
theorem toBoolS_f (l : List Bool) (hb : l.length ≤ 1048576) (k : Nat) (hk : l.length < k) : laws_toBoolS.f k l = some l := by
  have := toBoolS_l l (by omega) l.length k 0 (List.replicate l.length false) (by simp) (by simp) (by omega) hk
  unfold laws_toBoolS.f
  rw [if_pos (by omega), if_pos (by omega)]
  simpa using this

def toMessageC (x : S157) : S122 := ⟨x.f0, x.f1, x.f2⟩
theorem rdS_157 (xs : List S157) (i : Nat) (h : i < xs.length) : rd_T157 xs (i : Int) = xs[i] := by simp [rd_T157, h]
theorem toMessageS_l (l : List S157) (hb : l.length < 4611686018427387904) : ∀ d k i : Nat, ∀ o : List S122, o.length = l.length → o.take i = (l.map toMessageC).take i → l.length = i + d → d < k → laws_toMessageS.l0 k l o i = some (l.map toMessageC) := by
  intro d
  induction d with
  | zero =>
    intro k i o ho ht hi hk
    obtain ⟨k, rfl, hk⟩ := kk_pred hk
    simp only [laws_toMessageS.l0]
    rw [if_neg (by omega)]
    obtain rfl : l.length = i := by omega
    exact congrArg some (eq_of_take (by simpa using ho) (by rw [ho]; exact ht))
  | succ d ih =>
    intro k i o ho ht hi hk
    obtain ⟨k, rfl, hk⟩ := kk_pred hk
    simp only [laws_toMessageS.l0, laws_toMessage.f, Option.bind_some]
    rw [if_pos (by omega), if_pos (by omega), if_pos (by omega), wS _ (by omega), Int.toNat_natCast, rdS_157 _ _ (by omega)]
    exact ih k (i + 1) _ (by simpa using ho) (by rw [take_set_succ _ _ _ (by omega), ht, List.take_succ_eq_append_getElem (by simp; omega), List.getElem_map]; rfl) (by omega) (by omega)
theorem toMessageS_f (l : List S157) (hb : l.length ≤ 1048576) (k : Nat) (hk : l.length < k) : laws_toMessageS.f k l = some (l.map toMessageC) := by
  have := toMessageS_l l (by omega) l.length k 0 (List.replicate l.length z122) (by simp) (by simp) (by omega) hk
  unfold laws_toMessageS.f
  rw [if_pos (by omega), if_pos (by omega)]
  simpa using this

def toPieceC (x : S117) : S119 := ⟨x.f0, x.f1, x.f2, x.f3, x.f4.map toMessageC⟩
theorem rdS_117 (xs : List S117) (i : Nat) (h : i < xs.length) : rd_T117 xs (i : Int) = xs[i] := by simp [rd_T117, h]
/-- No list of a piece is longer than n. -/
def SmallP (n : Nat) (x : S117) : Prop := x.f1.length ≤ n ∧ x.f2.length ≤ n ∧ x.f3.length ≤ n ∧ x.f4.length ≤ n
theorem toPiece_f (x : S117) (h : SmallP 1048576 x) (k : Nat) (hk : 1048576 < k) : laws_toPiece.f k x.f0 x.f1 x.f2 x.f3 x.f4 = some (x.f0, x.f1, x.f2, x.f3, x.f4.map toMessageC) := by
  obtain ⟨h1, h2, h3, h4⟩ := h
  simp only [laws_toPiece.f, toIntS_f _ h1 k (by omega), toIntS_f _ h2 k (by omega), toBoolS_f _ h3 k (by omega), toMessageS_f _ h4 k (by omega), Option.bind_some]
theorem toPieceS_l (l : List S117) (hb : l.length ≤ 1048576) (hs : ∀ x ∈ l, SmallP 1048576 x) : ∀ d k i : Nat, ∀ o : List S119, o.length = l.length → o.take i = (l.map toPieceC).take i → l.length = i + d → 1048576 + d < k → laws_toPieceS.l0 k l o i = some (l.map toPieceC) := by
  intro d
  induction d with
  | zero =>
    intro k i o ho ht hi hk
    obtain ⟨k, rfl, hk⟩ := kk_pred hk
    simp only [laws_toPieceS.l0]
    rw [if_neg (by omega)]
    obtain rfl : l.length = i := by omega
    exact congrArg some (eq_of_take (by simpa using ho) (by rw [ho]; exact ht))
  | succ d ih =>
    intro k i o ho ht hi hk
    obtain ⟨k, rfl, hk⟩ := kk_pred hk
    have hi' : i < l.length := by omega
    simp only [laws_toPieceS.l0, rdS_117 l i hi', toPiece_f l[i] (hs _ (List.getElem_mem hi')) k (by omega), Option.bind_some]
    rw [if_pos (by omega), if_pos (by omega), if_pos (by omega), wS _ (by omega), Int.toNat_natCast]
    exact ih k (i + 1) _ (by simpa using ho) (by rw [take_set_succ _ _ _ (by omega), ht, List.take_succ_eq_append_getElem (by simp; omega), List.getElem_map]; rfl) (by omega) (by omega)
theorem toPieceS_f (l : List S117) (hb : l.length ≤ 1048576) (hs : ∀ x ∈ l, SmallP 1048576 x) (k : Nat) (hk : 2097152 < k) : laws_toPieceS.f k l = some (l.map toPieceC) := by
  have := toPieceS_l l hb hs l.length k 0 (List.replicate l.length z119) (by simp) (by simp) (by omega) (by omega)
  unfold laws_toPieceS.f
  rw [if_pos (by omega), if_pos (by omega)]
  simpa using this

theorem workersFit_f (a : Int) : impl_workersFit.f a = some (decide (1 ≤ a ∧ a ≤ 6)) := by
  unfold impl_workersFit.f
  by_cases h : a ≥ 1
  · rw [if_pos h]
    congr 1
    exact decide_eq_decide.2 ⟨fun g => ⟨h, g⟩, fun g => g.2⟩
  · rw [if_neg h, decide_eq_false (fun g => h g.1)]

theorem slEqual_l (l m : List Int) (hl : l.length = m.length) (hb : l.length < 4611686018427387904) : ∀ d k i : Nat, l.length = i + d → d < k → slices_Equal_int_int.l0 k l m l.length i = some (decide (l.drop i = m.drop i)) := by
  intro d
  induction d with
  | zero =>
    intro k i hi hk
    obtain ⟨k, rfl, hk⟩ := kk_pred hk
    simp only [slices_Equal_int_int.l0]
    rw [if_neg (by omega), List.drop_of_length_le (by omega), List.drop_of_length_le (by omega)]
    simp
  | succ d ih =>
    intro k i hi hk
    obtain ⟨k, rfl, hk⟩ := kk_pred hk
    simp only [slices_Equal_int_int.l0]
    rw [if_pos (by omega), if_pos (by omega), if_pos (by omega), if_pos (by omega), rdN _ _ (by omega), rdN _ _ (by omega), wS _ (by omega), List.drop_eq_getElem_cons (by omega : i < l.length), List.drop_eq_getElem_cons (by omega : i < m.length)]
    by_cases e : l[i] = m[i]
    · rw [if_pos e, ih k (i + 1) (by omega) (by omega), e]
      simp only [List.cons.injEq, true_and]
    · rw [if_neg e]
      simp only [List.cons.injEq, e, false_and, decide_false]
theorem slEqual_f (l m : List Int) (hb : l.length < 4611686018427387904) (k : Nat) (hk : l.length < k) : slices_Equal_int_int.f k l m = some (decide (l = m)) := by
  unfold slices_Equal_int_int.f
  by_cases h : l.length = m.length
  · rw [if_pos (by omega)]
    have := slEqual_l l m h hb l.length k 0 (by omega) hk
    simpa using this
  · rw [if_neg (by omega)]
    have : ¬ l = m := fun e => h (by rw [e])
    simp [this]

theorem valueFits_f (a : Int) : impl_valueFits.f a = some (decide (-1 ≤ a ∧ a ≤ 999999)) := by
  unfold impl_valueFits.f
  by_cases h : -1 ≤ a
  · rw [if_pos h]
    refine congrArg some (decide_eq_decide.2 ?_)
    omega
  · rw [if_neg h, decide_eq_false (fun g => h g.1)]
theorem valuesFit_l (l : List Int) (hb : l.length < 4611686018427387904) : ∀ d k i : Nat, l.length = i + d → d < k → impl_valuesFit.l0 k l l.length i = some (decide (fitV (l.drop i))) := by
  intro d
  induction d with
  | zero =>
    intro k i hi hk
    obtain ⟨k, rfl, hk⟩ := kk_pred hk
    simp only [impl_valuesFit.l0]
    rw [if_neg (by omega), List.drop_of_length_le (by omega), decide_eq_true (by simp [fitV])]
  | succ d ih =>
    intro k i hi hk
    obtain ⟨k, rfl, hk⟩ := kk_pred hk
    simp only [impl_valuesFit.l0, valueFits_f, Option.bind_some, decide_eq_true_eq]
    rw [if_pos (by omega), if_pos (by omega), if_pos (by omega), wS _ (by omega), ih k (i + 1) (by omega) (by omega), rdN _ _ (by omega), List.drop_eq_getElem_cons (by omega : i < l.length)]
    by_cases h : -1 ≤ l[i] ∧ l[i] ≤ 999999
    · rw [if_pos h]
      refine congrArg some (decide_eq_decide.2 ?_)
      simp only [fitV, List.forall_mem_cons, h, true_and]
    · rw [if_neg h, decide_eq_false]
      intro g
      exact h (g _ List.mem_cons_self)
theorem valuesFit_f (l : List Int) (hb : l.length < 4611686018427387904) (k : Nat) (hk : l.length < k) : impl_valuesFit.f k l = some (decide (fitV l)) := by
  have := valuesFit_l l hb l.length k 0 (by omega) hk
  simpa [impl_valuesFit.f] using this

def cmpI (a b : Int) : Int := if a < b then -1 else if a > b then 1 else 0
theorem compare_f (a b : Int) : cmp_Compare_int.f a b = some (cmpI a b) := by
  unfold cmp_Compare_int.f cmp_isNaN_int.f cmpI
  simp only [Option.bind_some, bne_self_eq_false, Bool.false_eq_true, if_false]
  split
  · rfl
  · split <;> rfl
theorem or3_f (x y z : Int) (k : Nat) : cmp_Or_int.f (k + 4) [x, y, z] = some (if x = 0 then (if y = 0 then z else y) else x) := by
  have w1 : wrap64 (0 + 1) = 1 := by unfold wrap64; omega
  have w2 : wrap64 (1 + 1) = 2 := by unfold wrap64; omega
  have w3 : wrap64 (2 + 1) = 3 := by unfold wrap64; omega
  have r0 : rd [x, y, z] 0 = x := rfl
  have r1 : rd [x, y, z] 1 = y := rfl
  have r2 : rd [x, y, z] 2 = z := rfl
  have hl : (([x, y, z] : List Int).length : Int) = 3 := rfl
  unfold cmp_Or_int.f
  rw [hl]
  simp only [cmp_Or_int.l0, hl, w1, w2, w3, r0, r1, r2]
  rw [if_pos (by decide), if_pos (by decide), if_pos (by decide)]
  by_cases h0 : x = 0
  · rw [if_pos h0, if_pos h0, if_pos (by decide), if_pos (by decide), if_pos (by decide)]
    by_cases h1 : y = 0
    · rw [if_pos h1, if_pos h1, if_pos (by decide), if_pos (by decide), if_pos (by decide)]
      by_cases h2 : z = 0
      · rw [if_pos h2, if_neg (by decide), h2]
      · rw [if_neg h2]
    · rw [if_neg h1, if_neg h1]
  · rw [if_neg h0, if_neg h0]
/-- What the comparison of two messages tells. -/
def cmpM (a b : S122) : Int := if cmpI a.f0 b.f0 = 0 then (if cmpI a.f1 b.f1 = 0 then cmpI a.f2 b.f2 else cmpI a.f1 b.f1) else cmpI a.f0 b.f0
theorem cmpMsg_f (a b : S122) (k : Nat) (hk : 3 < k) : impl_compareMessages.f k a.f0 a.f1 a.f2 b.f0 b.f1 b.f2 = some (cmpM a b) := by
  obtain ⟨k, rfl⟩ : ∃ m, k = m + 4 := ⟨k - 4, by omega⟩
  simp only [impl_compareMessages.f, compare_f, Option.bind_some, or3_f]
  rfl
theorem cmpI_neg (a b : Int) : cmpI a b < 0 ↔ a < b := by
  unfold cmpI
  split
  · omega
  · split <;> omega
theorem cmpI_zero (a b : Int) : cmpI a b = 0 ↔ a = b := by
  unfold cmpI
  split
  · omega
  · split <;> omega
theorem cmpM_neg (a b : S122) : cmpM a b < 0 ↔ ltM a b = true := by
  unfold cmpM ltM
  rw [decide_eq_true_eq]
  by_cases h0 : a.f0 = b.f0
  · rw [if_pos ((cmpI_zero _ _).2 h0)]
    by_cases h1 : a.f1 = b.f1
    · rw [if_pos ((cmpI_zero _ _).2 h1), cmpI_neg]
      omega
    · rw [if_neg (fun h => h1 ((cmpI_zero _ _).1 h)), cmpI_neg]
      omega
  · rw [if_neg (fun h => h0 ((cmpI_zero _ _).1 h)), cmpI_neg]
    omega

def msgFit (many : Int) (x : S122) : Bool := decide (0 ≤ x.f0 ∧ x.f0 < many ∧ 0 ≤ x.f2 ∧ x.f2 < many ∧ 0 ≤ x.f1 ∧ x.f1 < 1000000)
theorem msgFit_f (x : S122) (many : Int) : impl_messageFits.f x.f0 x.f1 x.f2 many = some (msgFit many x) := by
  unfold impl_messageFits.f msgFit
  simp only [o_and]

def rdM (l : List S122) (i : Nat) : S122 := rd_T122 l (i : Int)
/-- The message at a place does not come before the one ahead of it. -/
def srtA (l : List S122) (i : Nat) : Bool := i == 0 || !ltM (rdM l i) (rdM l (i - 1))
theorem isSorted_l (l : List S122) (hb : l.length < 4611686018427387904) : ∀ i k : Nat, i < l.length → i + 4 < k → impl_Message.l0 k l i = some ((List.range (i + 1)).all (srtA l)) := by
  intro i
  induction i with
  | zero =>
    intro k hi hk
    obtain ⟨k, rfl, hk⟩ := kk_pred hk
    simp only [impl_Message.l0]
    rw [if_neg (by omega)]
    rfl
  | succ j ih =>
    intro k hi hk
    obtain ⟨k, rfl, hk⟩ := kk_pred hk
    have e : wrap64 (((j + 1 : Nat) : Int) - 1) = (j : Int) := by unfold wrap64; omega
    simp only [impl_Message.l0, e]
    rw [if_pos (by omega), if_pos (by omega), if_pos (by omega), if_pos (by omega), if_pos (by omega), cmpMsg_f _ _ k (by omega), Option.bind_some, ih k (by omega) (by omega), List.range_succ (n := j + 1), List.all_append]
    simp only [List.all_cons, List.all_nil, Bool.and_true]
    have ea : srtA l (j + 1) = !ltM (rdM l (j + 1)) (rdM l j) := by simp [srtA]
    rw [ea]
    by_cases h : cmpM (rd_T122 l ((j + 1 : Nat) : Int)) (rd_T122 l (j : Int)) < 0
    · rw [if_pos h]
      have h2 : ltM (rdM l (j + 1)) (rdM l j) = true := (cmpM_neg _ _).1 h
      rw [h2]
      simp
    · rw [if_neg h]
      have h2 : ltM (rdM l (j + 1)) (rdM l j) = false := by
        cases hh : ltM (rdM l (j + 1)) (rdM l j) with
        | true => exact absurd ((cmpM_neg _ _).2 hh) h
        | false => rfl
      rw [h2]
      simp
def srtB (l : List S122) : Bool := (List.range l.length).all (srtA l)
theorem isSorted_f (l : List S122) (a : Int) (hb : l.length < 4611686018427387904) (k : Nat) (hk : l.length + 5 < k) : impl_Message.f k l a = some (srtB l) := by
  unfold impl_Message.f srtB
  by_cases h : l.length = 0
  · obtain ⟨k, rfl, hk⟩ := kk_pred hk
    simp only [impl_Message.l0, h]
    rw [if_neg (by unfold wrap64; omega)]
    rfl
  · have e : wrap64 ((l.length : Int) - 1) = ((l.length - 1 : Nat) : Int) := by unfold wrap64; omega
    rw [e, isSorted_l l hb (l.length - 1) k (by omega) (by omega), Nat.sub_add_cancel (by omega)]
theorem inbox_l (l : List S122) (many : Int) (hb : l.length < 4611686018427387904) : ∀ d k i : Nat, l.length = i + d → d < k → impl_inboxFits.l0 k many l l.length i = some ((List.range' i d).all fun j => msgFit many (rdM l j)) := by
  intro d
  induction d with
  | zero =>
    intro k i hi hk
    obtain ⟨k, rfl, hk⟩ := kk_pred hk
    simp only [impl_inboxFits.l0]
    rw [if_neg (by omega)]
    rfl
  | succ d ih =>
    intro k i hi hk
    obtain ⟨k, rfl, hk⟩ := kk_pred hk
    simp only [impl_inboxFits.l0]
    rw [if_pos (by omega), if_pos (by omega), if_pos (by omega), msgFit_f, Option.bind_some, wS _ (by omega), ih k (i + 1) (by omega) (by omega), List.range'_succ, List.all_cons]
    change (if msgFit many (rdM l i) = true then _ else _) = _
    cases msgFit many (rdM l i) <;> simp
def fitB (many : Int) (l : List S122) : Bool := (List.range' 0 l.length).all fun j => msgFit many (rdM l j)
theorem inbox_f (l : List S122) (many : Int) (hb : l.length < 4611686018427387904) (k : Nat) (hk : l.length + 6 < k) : impl_inboxFits.f k l many = some (decide (l.length ≤ 2000) && srtB l && fitB many l) := by
  obtain ⟨k, rfl, hk⟩ := kk_pred hk
  unfold impl_inboxFits.f
  by_cases h : l.length ≤ 2000
  · rw [if_neg (by omega), isSorted_f l _ hb (k + 1) (by omega), Option.bind_some, decide_eq_true h]
    simp only [impl_inboxFits.j0]
    cases hs : srtB l
    · simp
    · simp only [Bool.not_true, Bool.false_eq_true, if_false, Bool.and_self, Bool.true_and]
      exact inbox_l l many hb l.length k 0 (by omega) (by omega)
  · rw [if_pos (by omega), decide_eq_false h]
    simp [impl_inboxFits.j0]

theorem ownI_eq (b w n : Nat) : ownI b w n = ownL b w n := rfl
/-- A piece fits, as the program tells it. -/
def pI (many : Int) (n w : Nat) (x : S119) : Bool :=
  decide (x.f0 = w) && decide (x.f1 = ownL n w many.toNat) && decide (x.f2.length = x.f1.length) && decide (x.f3.length = x.f1.length) && decide (fitV x.f2) && (decide (x.f4.length ≤ 2000) && srtB x.f4 && fitB many x.f4) && (List.range' 0 x.f4.length).all (fun j => decide ((rdM x.f4 j).f0 ≤ 15 ∧ ownN n (rdM x.f4 j).f0.toNat = w))
theorem implFits_m (n w : Nat) (hn : 1 ≤ n ∧ n ≤ 6) (b : List S122) (hb : b.length < 4611686018427387904) (h0 : ∀ j, j < b.length → 0 ≤ (rdM b j).f0) : ∀ d k i : Nat, b.length = i + d → d < k → impl_Piece_fits.l0 k n w b b.length i = some ((List.range' i d).all (fun j => decide ((rdM b j).f0 ≤ 15 ∧ ownN n (rdM b j).f0.toNat = w))) := by
  intro d
  induction d with
  | zero =>
    intro k i hi hk
    obtain ⟨k, rfl, hk⟩ := kk_pred hk
    simp only [impl_Piece_fits.l0]
    rw [if_neg (by omega)]
    rfl
  | succ d ih =>
    intro k i hi hk
    obtain ⟨k, rfl, hk⟩ := kk_pred hk
    have hp := h0 i (by omega)
    simp only [impl_Piece_fits.l0, impl_OwnerOf.f, Option.bind_some]
    rw [if_pos (by omega), if_pos (by omega), if_pos (by omega), wS _ (by omega), ih k (i + 1) (by omega) (by omega), List.range'_succ, List.all_cons]
    change (if (if (0 ≤ (rdM b i).f0 ∧ (rdM b i).f0 ≤ 15) ∧ 1 ≤ (n : Int) ∧ (n : Int) ≤ 6 then ((ownN (n : Int).toNat (rdM b i).f0.toNat : Nat) : Int) else -1) = (w : Int) then _ else _) = _
    by_cases h15 : (rdM b i).f0 ≤ 15
    · have e : (if (0 ≤ (rdM b i).f0 ∧ (rdM b i).f0 ≤ 15) ∧ 1 ≤ (n : Int) ∧ (n : Int) ≤ 6 then ((ownN (n : Int).toNat (rdM b i).f0.toNat : Nat) : Int) else -1) = ((ownN n (rdM b i).f0.toNat : Nat) : Int) := by rw [if_pos ⟨⟨hp, h15⟩, by omega, by omega⟩, Int.toNat_natCast]
      rw [e]
      by_cases hw : ownN n (rdM b i).f0.toNat = w
      · rw [if_pos (by omega), decide_eq_true ⟨h15, hw⟩, Bool.true_and]
      · rw [if_neg (by omega), decide_eq_false (fun g => hw g.2), Bool.false_and]
    · have e : (if (0 ≤ (rdM b i).f0 ∧ (rdM b i).f0 ≤ 15) ∧ 1 ≤ (n : Int) ∧ (n : Int) ≤ 6 then ((ownN (n : Int).toNat (rdM b i).f0.toNat : Nat) : Int) else -1) = -1 := if_neg (fun g => h15 g.1.2)
      rw [e, if_neg (by omega), decide_eq_false (fun g => h15 g.1), Bool.false_and]
theorem implFits_f (many : Int) (n w : Nat) (hm : 0 ≤ many ∧ many ≤ 16) (hn : 1 ≤ n ∧ n ≤ 6) (hw : w < n) (x : S119) (h1 : x.f1.length < 4611686018427387904) (h2 : x.f2.length < 4611686018427387904) (hb : x.f4.length < 4611686018427387904) (k : Nat) (hk : x.f1.length + x.f2.length + x.f4.length + 20 < k) :
    impl_Piece_fits.f k x.f0 x.f1 x.f2 x.f3 x.f4 many n w = some (pI many n w x) := by
  obtain ⟨k, rfl, hk⟩ := kk_pred hk
  obtain ⟨k, rfl, hk⟩ := kk_pred (show x.f1.length + x.f2.length + x.f4.length + 19 < k by omega)
  obtain ⟨k, rfl, hk⟩ := kk_pred (show x.f1.length + x.f2.length + x.f4.length + 18 < k by omega)
  have ho : impl_OwnedBy.f many (n : Int) (w : Int) = some (ownL n w many.toNat) := by
    unfold impl_OwnedBy.f
    rw [if_pos ⟨hm, by omega, by omega, by omega⟩, Int.toNat_natCast, Int.toNat_natCast]
    rfl
  have t1 : ∀ (a : Int) (b c : List Int) (d : List Bool) (e : List S122), impl_Piece_fits.j1 (k + 1 + 1) many n w true a b c d e = some false := fun a b c d e => by simp [impl_Piece_fits.j1]
  have t0 : ∀ (a : Int) (b c : List Int) (d : List Bool) (e : List S122), impl_Piece_fits.j0 (k + 1 + 1 + 1) many n w true a b c d e = some false := fun a b c d e => by simp [impl_Piece_fits.j0]
  have t2 : ∀ (a : Int) (b c : List Int) (d : List Bool) (e : List S122), impl_Piece_fits.j2 (k + 1) n w true a b c d e = some false := fun a b c d e => by simp [impl_Piece_fits.j2]
  have e1 : impl_Piece_fits.j1 (k + 1 + 1) many n w false x.f0 x.f1 x.f2 x.f3 x.f4 = some (decide (fitV x.f2) && (decide (x.f4.length ≤ 2000) && srtB x.f4 && fitB many x.f4) && (List.range' 0 x.f4.length).all (fun j => decide ((rdM x.f4 j).f0 ≤ 15 ∧ ownN n (rdM x.f4 j).f0.toNat = w))) := by
    simp only [impl_Piece_fits.j1, Bool.false_eq_true, if_false, valuesFit_f x.f2 h2 (k + 1) (by omega), inbox_f x.f4 many hb (k + 1) (by omega), Option.bind_some]
    cases hf : decide (fitV x.f2)
    · simp [impl_Piece_fits.j2]
    · simp only [if_true, Bool.true_and]
      cases hi : (decide (x.f4.length ≤ 2000) && srtB x.f4 && fitB many x.f4)
      · simp [impl_Piece_fits.j2]
      · simp only [impl_Piece_fits.j2, Bool.not_true, Bool.false_eq_true, if_false, Bool.true_and]
        refine implFits_m n w hn x.f4 hb (fun j hj => ?_) x.f4.length k 0 (by omega) (by omega)
        simp only [Bool.and_eq_true] at hi
        have h3 := List.all_eq_true.1 hi.2 j (by rw [List.mem_range'_1]; omega)
        unfold msgFit at h3
        have := of_decide_eq_true h3
        exact this.1
  unfold impl_Piece_fits.f pI
  by_cases g0 : x.f0 = w
  · rw [if_pos g0, decide_eq_true g0, ho, Option.bind_some, slEqual_f _ _ h1 _ (by omega), Option.bind_some]
    by_cases g1 : x.f1 = ownL n w many.toNat
    · rw [decide_eq_true g1]
      simp only [impl_Piece_fits.j0, Bool.not_true, Bool.false_eq_true, if_false, Bool.true_and]
      by_cases g2 : x.f2.length = x.f1.length
      · rw [if_pos (by omega), decide_eq_true g2]
        by_cases g3 : x.f3.length = x.f1.length
        · have e : ((x.f3.length : Int) != (x.f1.length : Int)) = false := by rw [g3]; simp
          rw [e, decide_eq_true g3, e1]
          simp only [Bool.true_and]
        · have e : ((x.f3.length : Int) != (x.f1.length : Int)) = true := by simp; omega
          rw [e, decide_eq_false g3, t1]
          simp
      · rw [if_neg (by omega), decide_eq_false g2, t1]
        simp
    · rw [decide_eq_false g1]
      simp only [Bool.not_false, t0]
      simp
  · rw [if_neg g0, decide_eq_false g0, t0]
    simp
theorem implPieces_l (l : List S119) (many : Int) (hm : 0 ≤ many ∧ many ≤ 16) (hn : 1 ≤ l.length ∧ l.length ≤ 6) (B : Nat) (hB : B < 1152921504606846976) (hsz : ∀ x ∈ l, x.f1.length + x.f2.length + x.f4.length ≤ B) : ∀ d k w : Nat, ∀ s : Int, l.length = w + d → 0 ≤ s → s + tot4 (l.drop w) < 4611686018427387904 → B + d + 30 < k →
    impl_PiecesValid.l0 k l many s l l.length w = some ((List.range' w d).all (fun j => pI many l.length j (rdP l j)) && decide (s + tot4 (l.drop w) ≤ 2000)) := by
  intro d
  induction d with
  | zero =>
    intro k w s hw hs ht hk
    obtain ⟨k, rfl, hk⟩ := kk_pred hk
    simp only [impl_PiecesValid.l0]
    rw [if_neg (by omega), List.drop_of_length_le (by omega)]
    simp only [List.range'_zero, List.all_nil, Bool.true_and, tot4]
    exact congrArg some (decide_eq_decide.2 (by omega))
  | succ d ih =>
    intro k w s hw hs ht hk
    obtain ⟨k, rfl, hk⟩ := kk_pred hk
    have hw' : w < l.length := by omega
    have hx : rd_T119 l (w : Int) = l[w] := rdP_get l w hw'
    have hx' : rdP l w = l[w] := rdP_get l w hw'
    have hs' := hsz l[w] (List.getElem_mem hw')
    rw [List.drop_eq_getElem_cons hw'] at ht
    simp only [tot4] at ht
    rw [List.drop_eq_getElem_cons hw', List.range'_succ, List.all_cons, hx']
    simp only [impl_PiecesValid.l0, hx]
    generalize l[w] = x at *
    have e1 : wrap64 (s + (x.f4.length : Int)) = s + (x.f4.length : Int) := by unfold wrap64; omega
    rw [if_pos (by omega), if_pos (by omega), if_pos (by omega), implFits_f many l.length w hm hn (by omega) x (by omega) (by omega) (by omega) k (by omega), Option.bind_some, e1, wS _ (by omega), ih k (w + 1) _ (by omega) (by omega) (by omega) (by omega)]
    have e2 : s + (x.f4.length : Int) + (tot4 (l.drop (w + 1)) : Int) = s + (tot4 (x :: l.drop (w + 1)) : Int) := by simp only [tot4]; omega
    rw [e2]
    cases pI many l.length w x <;> simp
theorem pI_pS (many : Int) (n w : Nat) (hm : 0 ≤ many ∧ many ≤ 16) (hn : 1 ≤ n ∧ n ≤ 6) (x : S119) : pI many n w x = (pS many n w x && decide (x.f4.length ≤ 2000)) := by
  have ho : ownS many n w = ownL n w many.toNat := by unfold ownS; rw [if_pos ⟨hm, hn⟩]
  unfold pI pS
  rw [ho]
  generalize hoe : ownL n w many.toNat = own
  by_cases h0 : x.f0 = w
  · by_cases h1 : own.length = x.f1.length
    · by_cases h2 : x.f2.length = own.length
      · by_cases h3 : x.f3.length = own.length
        · rw [decide_eq_true h0, decide_eq_true h1, decide_eq_true h2, decide_eq_true h3, decide_eq_true (show x.f2.length = x.f1.length by omega), decide_eq_true (show x.f3.length = x.f1.length by omega)]
          rw [Bool.eq_iff_iff]
          simp only [Bool.and_eq_true, Bool.true_and, Bool.and_true, decide_eq_true_eq, List.all_eq_true, List.mem_range'_1, srtB, fitB, List.mem_range, vOk, mOk]
          have e1 : wrap64 (many - 1) = many - 1 := by unfold wrap64; omega
          have e2 : ∀ y, msgFitS many y = msgFit many y := fun y => by
            unfold msgFitS msgFit
            rw [e1]
            exact decide_eq_decide.2 (by omega)
          have e3 : ∀ y : S122, msgFit many y = true → (own.contains y.f0 = true ↔ (y.f0 ≤ 15 ∧ ownN n y.f0.toNat = w)) := fun y hy => by
            have hy := of_decide_eq_true hy
            rw [List.contains_iff_mem, ← hoe]
            unfold ownL
            simp only [List.mem_map, List.mem_filter, List.mem_range, beq_iff_eq]
            constructor
            · rintro ⟨v, ⟨hv, hvw⟩, e⟩
              refine ⟨by omega, ?_⟩
              rw [← e, Int.toNat_natCast]
              exact hvw
            · rintro ⟨g1, g2⟩
              exact ⟨y.f0.toNat, ⟨by omega, g2⟩, by omega⟩
          constructor
          · rintro ⟨⟨⟨a1, a2⟩, ⟨a3, a4⟩, a5⟩, a6⟩
            refine ⟨⟨fun j hj => ⟨by rw [a1], a2 _ (rd_mem (by omega) (by omega))⟩, fun j hj => ⟨by rw [e2]; exact a5 j hj, (e3 _ (a5 j hj)).2 (a6 j hj), a4 j (by omega)⟩⟩, a3⟩
          · rintro ⟨⟨b1, b2⟩, b3⟩
            have hm' : ∀ j, 0 ≤ j ∧ j < 0 + x.f4.length → msgFit many (rdM x.f4 j) = true := fun j hj => by rw [← e2]; exact (b2 j hj).1
            refine ⟨⟨⟨?_, ?_⟩, ⟨b3, fun j hj => (b2 j (by omega)).2.2⟩, hm'⟩, fun j hj => (e3 _ (hm' j hj)).1 (b2 j hj).2.1⟩
            · refine List.ext_getElem (by omega) fun i g1 g2 => ?_
              have := (b1 i (by omega)).1
              rw [rdN _ _ g2, rdN _ _ g1] at this
              exact this.symm
            · intro v hv
              obtain ⟨i, hi, rfl⟩ := List.getElem_of_mem hv
              have := (b1 i (by omega)).2
              rw [rdN _ _ hi] at this
              exact this
        · rw [decide_eq_false h3]
          have : ¬ (x.f1 = own ∧ x.f3.length = x.f1.length) := fun g => h3 (by rw [g.2, g.1])
          by_cases g1 : x.f1 = own
          · rw [decide_eq_false (show ¬ x.f3.length = x.f1.length from fun g => this ⟨g1, g⟩)]
            simp
          · rw [decide_eq_false g1]
            simp
      · rw [decide_eq_false h2]
        by_cases g1 : x.f1 = own
        · rw [decide_eq_false (show ¬ x.f2.length = x.f1.length from fun g => h2 (by rw [g, g1]))]
          simp
        · rw [decide_eq_false g1]
          simp
    · rw [decide_eq_false h1, decide_eq_false (show ¬ x.f1 = own from fun g => h1 (by rw [g]))]
      simp
  · rw [decide_eq_false h0]
    simp
theorem tot4_mem {l : List S119} {x : S119} (h : x ∈ l) : x.f4.length ≤ tot4 l := by
  induction l with
  | nil => cases h
  | cons y l ih =>
    simp only [tot4]
    rcases List.mem_cons.1 h with rfl | h
    · omega
    · have := ih h; omega
theorem implPieces_f (l : List S119) (many : Int) (B : Nat) (hB : B < 1152921504606846976) (hsz : ∀ x ∈ l, x.f1.length + x.f2.length + x.f4.length ≤ B) (hl : l.length + tot4 l < 46116860184273879) (k : Nat) (hk : B + l.length + 40 < k) : impl_PiecesValid.f k l many = some (pvS l many) := by
  obtain ⟨k, rfl, hk⟩ := kk_pred hk
  unfold impl_PiecesValid.f pvS finB
  by_cases h0 : many < 0
  · rw [if_pos h0, decide_eq_false (show ¬ (0 ≤ many ∧ many ≤ 16) by omega)]
    simp [impl_PiecesValid.j0]
  · rw [if_neg h0]
    by_cases h1 : many > 16
    · rw [if_pos h1, decide_eq_false (show ¬ (0 ≤ many ∧ many ≤ 16) by omega)]
      simp [impl_PiecesValid.j0]
    · rw [if_neg h1, workersFit_f, Option.bind_some, decide_eq_true (show 0 ≤ many ∧ many ≤ 16 by omega)]
      by_cases h2 : 1 ≤ (l.length : Int) ∧ (l.length : Int) ≤ 6
      · rw [decide_eq_true h2]
        simp only [impl_PiecesValid.j0, Bool.not_true, Bool.false_eq_true, if_false, Bool.true_and]
        have := implPieces_l l many ⟨by omega, by omega⟩ ⟨by omega, by omega⟩ B hB hsz l.length k 0 0 (by omega) (by omega) (by simp; omega) (by omega)
        simp only [List.drop_zero, Int.zero_add] at this
        refine this.trans (congrArg some ?_)
        rw [Bool.eq_iff_iff]
        simp only [Bool.and_eq_true, decide_eq_true_eq, List.all_eq_true, List.mem_range'_1, pI_pS many l.length _ ⟨show 0 ≤ many by omega, by omega⟩ ⟨show 1 ≤ l.length by omega, by omega⟩]
        constructor
        · exact fun ⟨a, b⟩ => ⟨fun j hj => (a j hj).1, b⟩
        · refine fun ⟨a, b⟩ => ⟨fun j hj => ⟨a j hj, ?_⟩, b⟩
          have hj' : j < l.length := by omega
          rw [rdP_get l j hj']
          have := tot4_mem (List.getElem_mem hj')
          omega
      · rw [decide_eq_false h2]
        simp [impl_PiecesValid.j0]

theorem eqIntS_l (l m : List Int) (hl : l.length = m.length) (hb : l.length < 4611686018427387904) : ∀ d k i : Nat, l.length = i + d → d < k → laws_eqIntS.l0 k l m i = some (decide (l.drop i = m.drop i)) := by
  intro d
  induction d with
  | zero =>
    intro k i hi hk
    obtain ⟨k, rfl, hk⟩ := kk_pred hk
    simp only [laws_eqIntS.l0]
    rw [if_neg (by omega), List.drop_of_length_le (by omega), List.drop_of_length_le (by omega)]
    simp
  | succ d ih =>
    intro k i hi hk
    obtain ⟨k, rfl, hk⟩ := kk_pred hk
    simp only [laws_eqIntS.l0]
    rw [if_pos (by omega), if_pos (by omega), if_pos (by omega), rdN _ _ (by omega), rdN _ _ (by omega), wS _ (by omega), List.drop_eq_getElem_cons (by omega : i < l.length), List.drop_eq_getElem_cons (by omega : i < m.length)]
    by_cases e : l[i] = m[i]
    · rw [if_pos e, ih k (i + 1) (by omega) (by omega), e]
      simp only [List.cons.injEq, true_and]
    · rw [if_neg e]
      simp only [List.cons.injEq, e, false_and, decide_false]
theorem eqIntS_f (l m : List Int) (hb : l.length < 4611686018427387904) (k : Nat) (hk : l.length < k) : laws_eqIntS.f k l m = some (decide (l = m)) := by
  unfold laws_eqIntS.f
  by_cases h : l.length = m.length
  · rw [if_pos (by omega)]
    have := eqIntS_l l m h hb l.length k 0 (by omega) hk
    simpa using this
  · rw [if_neg (by omega)]
    have : ¬ l = m := fun e => h (by rw [e])
    simp [this]

theorem eqBoolS_l (l : List Bool) (hb : l.length < 4611686018427387904) : ∀ d k i : Nat, l.length = i + d → d < k → laws_eqBoolS.l0 k l l i = some true := by
  intro d
  induction d with
  | zero =>
    intro k i hi hk
    obtain ⟨k, rfl, hk⟩ := kk_pred hk
    simp only [laws_eqBoolS.l0]
    rw [if_neg (by omega)]
  | succ d ih =>
    intro k i hi hk
    obtain ⟨k, rfl, hk⟩ := kk_pred hk
    simp only [laws_eqBoolS.l0, bne_self_eq_false, Bool.false_eq_true, if_false]
    rw [if_pos (by omega), if_pos (by omega), if_pos (by omega), wS _ (by omega)]
    exact ih k (i + 1) (by omega) (by omega)
theorem eqBoolS_f (l : List Bool) (hb : l.length < 4611686018427387904) (k : Nat) (hk : l.length < k) : laws_eqBoolS.f k l l = some true := by
  have := eqBoolS_l l hb l.length k 0 (by omega) hk
  simpa [laws_eqBoolS.f] using this

theorem eqMessageS_l (l : List S122) (hb : l.length < 4611686018427387904) : ∀ d k i : Nat, l.length = i + d → d < k → laws_eqMessageS.l0 k l l i = some true := by
  intro d
  induction d with
  | zero =>
    intro k i hi hk
    obtain ⟨k, rfl, hk⟩ := kk_pred hk
    simp only [laws_eqMessageS.l0]
    rw [if_neg (by omega)]
  | succ d ih =>
    intro k i hi hk
    obtain ⟨k, rfl, hk⟩ := kk_pred hk
    simp only [laws_eqMessageS.l0, laws_eqMessage.f, if_true, Option.bind_some]
    rw [if_pos (by omega), if_pos (by omega), if_pos (by omega), wS _ (by omega)]
    exact ih k (i + 1) (by omega) (by omega)
theorem eqMessageS_f (l : List S122) (hb : l.length < 4611686018427387904) (k : Nat) (hk : l.length < k) : laws_eqMessageS.f k l l = some true := by
  have := eqMessageS_l l hb l.length k 0 (by omega) hk
  simpa [laws_eqMessageS.f] using this

theorem eqPieceS_l (l : List S119) (hb : l.length ≤ 1048576) (hs : ∀ x ∈ l, x.f1.length ≤ 1048576 ∧ x.f2.length ≤ 1048576 ∧ x.f3.length ≤ 1048576 ∧ x.f4.length ≤ 1048576) : ∀ d k i : Nat, l.length = i + d → d + 1048577 < k → laws_eqPieceS.l0 k l l i = some true := by
  intro d
  induction d with
  | zero =>
    intro k i hi hk
    obtain ⟨k, rfl, hk⟩ := kk_pred hk
    simp only [laws_eqPieceS.l0]
    rw [if_neg (by omega)]
  | succ d ih =>
    intro k i hi hk
    obtain ⟨k, rfl, hk⟩ := kk_pred hk
    have hi' : i < l.length := by omega
    have hr : rd_T119 l (i : Int) = l[i] := by simp [rd_T119, hi']
    obtain ⟨h1, h2, h3, h4⟩ := hs _ (List.getElem_mem hi')
    simp only [laws_eqPieceS.l0, laws_eqPiece.f, hr, eqIntS_f l[i].f1 _ (by omega) k (by omega), eqIntS_f l[i].f2 _ (by omega) k (by omega), eqBoolS_f l[i].f3 (by omega) k (by omega), eqMessageS_f l[i].f4 (by omega) k (by omega), decide_true, if_true, Option.bind_some]
    rw [if_pos (by omega), if_pos (by omega), if_pos (by omega), wS _ (by omega)]
    exact ih k (i + 1) (by omega) (by omega)
theorem eqPieceS_f (l : List S119) (hb : l.length ≤ 1048576) (hs : ∀ x ∈ l, x.f1.length ≤ 1048576 ∧ x.f2.length ≤ 1048576 ∧ x.f3.length ≤ 1048576 ∧ x.f4.length ≤ 1048576) (k : Nat) (hk : 2097154 < k) : laws_eqPieceS.f k l l = some true := by
  have := eqPieceS_l l hb hs l.length k 0 (by omega) (by omega)
  simpa [laws_eqPieceS.f] using this

end Go.Proofs.Ytloiafnoekpaoab.PFnExactPiecesValid
namespace Go.Proofs.Ytloiafnoekpaoab.Pure
open Go.RowKit Go.Proofs.Ytloiafnoekpaoab.PFnExactPiecesValid Go.Proofs.YtloiafnoekpaoabW.PrintWords Go.Proofs.YtloiafnoekpaoabW.PrintLast Go.Proofs.YtloiafnoekpaoabW.PrintMore
theorem tot4_map (l : List S117) : tot4 (l.map toPieceC) ≤ bulkP l := by
  induction l with
  | nil => exact Nat.le_refl _
  | cons x l ih => simp only [List.map_cons, tot4, bulkP, toPieceC, List.length_map]; omega
theorem FnExactPiecesValid (l : List S117) (a : Int) {P0 P1 P2 P3 P4 : S117 → Prop} {q : Prop} (h0 : l.length ≤ maxLen ∧ ∀ x ∈ l, P0 x ∧ (x.f1.length ≤ maxLen ∧ P1 x) ∧ (x.f2.length ≤ maxLen ∧ P2 x) ∧ (x.f3.length ≤ maxLen ∧ P3 x) ∧ x.f4.length ≤ maxLen ∧ P4 x) (_ : q) : ∃ k, laws_FnExactPiecesValid.f k l a = some true := by
  refine ⟨100000000, ?_⟩
  obtain ⟨hl, hx⟩ := h0
  unfold maxLen at hl hx
  unfold laws_FnExactPiecesValid.f
  rcases szPieceS_f l (fun x h => by have := hx x h; exact ⟨by omega, by omega, by omega, by omega⟩) (by omega) 100000000 (by omega) with ⟨hs, r', hr', e⟩ | e
  · have hsm : ∀ x ∈ l, SmallP 1048576 x := fun x h => by have := bulkP_mem h; exact ⟨by omega, by omega, by omega, by omega⟩
    rw [e, Option.bind_some, if_neg (by omega)]
    have hm : (l.map toPieceC).length = l.length := by simp
    have ht := tot4_map l
    have hsz : ∀ x ∈ l.map toPieceC, x.f1.length ≤ 1048576 ∧ x.f2.length ≤ 1048576 ∧ x.f3.length ≤ 1048576 ∧ x.f4.length ≤ 1048576 := by
      intro y hy
      obtain ⟨x, hx', rfl⟩ := List.mem_map.1 hy
      obtain ⟨h1, h2, h3, h4⟩ := hsm x hx'
      exact ⟨h1, h2, h3, by simpa [toPieceC] using h4⟩
    simp only [toPieceS_f l (by omega) hsm 100000000 (by omega), Option.bind_some]
    generalize l.map toPieceC = m at *
    simp only [specPieces_f m a (by omega) 100000000 (by omega), implPieces_f m a 4000000 (by omega) (fun x h => by have := hsz x h; omega) (by omega) 100000000 (by omega), Option.bind_some, bne_self_eq_false, Bool.false_eq_true, if_false, eqPieceS_f m (by omega) hsz 100000000 (by omega), if_true]
  · rw [e, Option.bind_some, if_pos (by omega)]

end Go.Proofs.Ytloiafnoekpaoab.Pure
