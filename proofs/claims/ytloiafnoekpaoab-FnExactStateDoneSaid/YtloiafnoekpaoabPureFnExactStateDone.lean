/- The program's StateDone returns what the reference's returns, for all arguments. No further condition. -/
import Derived.Test.YtloiafnoekpaoabPFnExactStateDonex
import Derived.Test.YtloiafnoekpaoabL
import Derived.Test.YtloiafnoekpaoabT
set_option linter.unusedVariables false
set_option linter.unusedSimpArgs false
namespace Go.Proofs.Ytloiafnoekpaoab.PFnExactStateDone
open Go.RowKit Go.Proofs.YtloiafnoekpaoabW.PrintWords Go.Proofs.YtloiafnoekpaoabW.PrintLast Go.Proofs.YtloiafnoekpaoabW.PrintMore
theorem szIntS_f (l : List Int) (a : Int) (ha : 0 ≤ a) (ha' : a ≤ 1048576) (hl : l.length ≤ 9223372036854775807) : laws_szIntS.f l a = some (if (l.length : Int) ≤ a then a - (l.length : Int) else -1) := by
  unfold laws_szIntS.f
  have e : wrap64 (a - (l.length : Int)) = a - (l.length : Int) := by unfold wrap64; omega
  rw [e]
  by_cases h : (l.length : Int) ≤ a
  · rw [if_neg (by omega), if_pos h]
  · rw [if_pos (by omega), if_neg h]

theorem szBoolS_f (l : List Bool) (a : Int) (ha : 0 ≤ a) (ha' : a ≤ 1048576) (hl : l.length ≤ 9223372036854775807) : laws_szBoolS.f l a = some (if (l.length : Int) ≤ a then a - (l.length : Int) else -1) := by
  unfold laws_szBoolS.f
  have e : wrap64 (a - (l.length : Int)) = a - (l.length : Int) := by unfold wrap64; omega
  rw [e]
  by_cases h : (l.length : Int) ≤ a
  · rw [if_neg (by omega), if_pos h]
  · rw [if_pos (by omega), if_neg h]

theorem szMessageS_f (l : List S157) (hl : l.length ≤ 9223372036854775807) : laws_szMessageS.f l 1048576 = some (if l.length ≤ 1048576 then 1048576 - (l.length : Int) else -1) := by
  unfold laws_szMessageS.f
  have e : wrap64 (1048576 - (l.length : Int)) = 1048576 - (l.length : Int) := by unfold wrap64; omega
  rw [e]
  by_cases h : l.length ≤ 1048576
  · rw [if_neg (by omega), if_pos h]
  · rw [if_pos (by omega), if_neg h]
theorem szMessageS_g (l : List S157) (c : Int) (h0 : 0 ≤ c) (hc : c ≤ 1048576) (hl : l.length ≤ 9223372036854775807) : laws_szMessageS.f l c = some (if (l.length : Int) ≤ c then c - (l.length : Int) else -1) := by
  unfold laws_szMessageS.f
  have e : wrap64 (c - (l.length : Int)) = c - (l.length : Int) := by unfold wrap64; omega
  rw [e]
  by_cases h : (l.length : Int) ≤ c
  · rw [if_neg (by omega), if_pos h]
  · rw [if_pos (by omega), if_neg h]

/-- Either the lists together are small, or the answer is -1. -/
theorem szState_f (r : Int) (v : List Int) (g : List Bool) (b : List S157) (h1 : v.length ≤ 9223372036854775807) (h2 : g.length ≤ 9223372036854775807) (h3 : b.length ≤ 9223372036854775807) :
    (v.length + g.length + b.length ≤ 1048576 ∧ ∃ r', 0 ≤ r' ∧ laws_szState.f r v g b 1048576 = some r') ∨ laws_szState.f r v g b 1048576 = some (-1) := by
  unfold laws_szState.f
  rw [szIntS_f v _ (by omega) (by omega) h1]
  simp only [Option.bind_some]
  by_cases a1 : (v.length : Int) ≤ 1048576
  · rw [if_pos a1, if_neg (by omega), szBoolS_f g _ (by omega) (by omega) h2]
    simp only [Option.bind_some]
    by_cases a2 : (g.length : Int) ≤ 1048576 - (v.length : Int)
    · rw [if_pos a2, if_neg (by omega), szMessageS_g b _ (by omega) (by omega) h3]
      simp only [Option.bind_some]
      by_cases a3 : (b.length : Int) ≤ 1048576 - (v.length : Int) - (g.length : Int)
      · rw [if_pos a3, if_neg (by omega)]
        exact Or.inl ⟨by omega, _, by omega, rfl⟩
      · rw [if_neg a3]; exact Or.inr rfl
    · rw [if_neg a2]; exact Or.inr rfl
  · rw [if_neg a1]; exact Or.inr rfl

theorem l1In_f (a b c : Int) : spec_l1In.f a b c = some (decide (b ≤ a ∧ a ≤ c)) := by
  unfold spec_l1In.f
  by_cases h : b ≤ a
  · rw [if_pos h]; simp [h]
  · rw [if_neg h]; simp [h]

/-- A message comes before another one. -/
def ltM (a b : S122) : Bool := decide (a.f0 < b.f0 ∨ a.f0 = b.f0 ∧ (a.f1 < b.f1 ∨ a.f1 = b.f1 ∧ a.f2 < b.f2))
theorem before_f (a b : S122) : spec_l9Before.f a.f0 a.f1 a.f2 b.f0 b.f1 b.f2 = some (ltM a b) := by
  unfold spec_l9Before.f ltM
  by_cases h0 : a.f0 = b.f0
  · rw [if_pos h0]
    by_cases h1 : a.f1 = b.f1
    · rw [if_pos h1]
      exact congrArg some (decide_eq_decide.2 (by omega))
    · rw [if_neg h1]
      exact congrArg some (decide_eq_decide.2 (by omega))
  · rw [if_neg h0]
    exact congrArg some (decide_eq_decide.2 (by omega))

def msgFitS (many : Int) (x : S122) : Bool := decide (0 ≤ x.f0 ∧ x.f0 ≤ wrap64 (many - 1) ∧ 0 ≤ x.f2 ∧ x.f2 ≤ wrap64 (many - 1) ∧ 0 ≤ x.f1 ∧ x.f1 ≤ 999999)
theorem l11_f (x : S122) (many : Int) : spec_l11Message.f x.f0 x.f1 x.f2 many = some (msgFitS many x) := by
  simp only [spec_l11Message.f, l1In_f, Option.bind_some, decide_eq_true_eq, o_and]
  exact congrArg some (decide_eq_decide.2 (by omega))
def rdM' (l : List S122) (i : Nat) : S122 := rd_T122 l (i : Int)
def srtA' (l : List S122) (i : Nat) : Bool := i == 0 || !ltM (rdM' l i) (rdM' l (i - 1))
def okB (r : Int) (v : List Int) (g : List Bool) (b : List S122) (many : Int) : Bool := decide (0 ≤ many ∧ many ≤ 16) && decide (0 ≤ r ∧ r ≤ 100) && decide ((v.length : Int) = many) && decide ((g.length : Int) = many) && decide (b.length ≤ 2000)
theorem specState_end (r : Int) (v : List Int) (g : List Bool) (b : List S122) (many : Int) : ((spec_l1In.f many 0 16).bind fun t114 => (if t114 = true then ((spec_l1In.f r 0 100).bind fun t115 => (if t115 = true then (if (v.length : Int) = many then (if (g.length : Int) = many then (some (decide ((b.length : Int) ≤ 2000))) else (some false)) else (some false)) else (some false))) else (some false))) = some (okB r v g b many) := by
  simp only [l1In_f, Option.bind_some, decide_eq_true_eq, okB, o_and, o_dand]
  exact congrArg some (decide_eq_decide.2 (by omega))
theorem specState_m (r : Int) (v : List Int) (g : List Bool) (b : List S122) (many : Int) (hb : b.length < 4611686018427387904) : ∀ d k i : Nat, b.length = i + d → d < k → spec_StateValid.l1 k many i r v g b = some ((List.range' i d).all (fun j => msgFitS many (rdM' b j) && srtA' b j) && okB r v g b many) := by
  intro d
  induction d with
  | zero =>
    intro k i hi hk
    obtain ⟨k, rfl, hk⟩ := kk_pred hk
    simp only [spec_StateValid.l1]
    rw [if_neg (by omega), specState_end]
    simp
  | succ d ih =>
    intro k i hi hk
    obtain ⟨k, rfl, hk⟩ := kk_pred hk
    simp only [spec_StateValid.l1]
    rw [if_pos (by omega), if_pos (by omega), l11_f, Option.bind_some, wS _ (by omega), ih k (i + 1) (by omega) (by omega), List.range'_succ, List.all_cons]
    change (if msgFitS many (rdM' b i) = true then _ else _) = _
    cases hm : msgFitS many (rdM' b i)
    · simp
    · simp only [if_true, Bool.true_and]
      by_cases h0 : i = 0
      · subst h0
        rw [if_neg (by omega)]
        simp [srtA']
      · obtain ⟨j, rfl⟩ : ∃ j, i = j + 1 := ⟨i - 1, by omega⟩
        have e : wrap64 (((j + 1 : Nat) : Int) - 1) = (j : Int) := by unfold wrap64; omega
        have ea : srtA' b (j + 1) = !ltM (rdM' b (j + 1)) (rdM' b j) := by simp [srtA']
        rw [if_pos (by omega), e, if_pos (by omega), if_pos (by omega), before_f, Option.bind_some, ea]
        change (if ltM (rdM' b (j + 1)) (rdM' b j) = true then _ else _) = _
        cases ltM (rdM' b (j + 1)) (rdM' b j) <;> simp
def stC (r : Int) (v : List Int) (g : List Bool) (b : List S122) (many : Int) : Bool := decide (fitV v) && ((List.range' 0 b.length).all (fun j => msgFitS many (rdM' b j) && srtA' b j) && okB r v g b many)
theorem specState_l (r : Int) (v : List Int) (g : List Bool) (b : List S122) (many : Int) (hv : v.length < 4611686018427387904) (hb : b.length < 4611686018427387904) : ∀ d k i : Nat, v.length = i + d → d + b.length + 1 < k → spec_StateValid.l0 k many i r v g b = some (decide (fitV (v.drop i)) && ((List.range' 0 b.length).all (fun j => msgFitS many (rdM' b j) && srtA' b j) && okB r v g b many)) := by
  intro d
  induction d with
  | zero =>
    intro k i hi hk
    obtain ⟨k, rfl, hk⟩ := kk_pred hk
    simp only [spec_StateValid.l0]
    rw [if_neg (by omega), List.drop_of_length_le (by omega), decide_eq_true (by simp [fitV]), Bool.true_and]
    exact specState_m r v g b many hb b.length k 0 (by omega) (by omega)
  | succ d ih =>
    intro k i hi hk
    obtain ⟨k, rfl, hk⟩ := kk_pred hk
    simp only [spec_StateValid.l0, l1In_f, Option.bind_some, decide_eq_true_eq]
    rw [if_pos (by omega), if_pos (by omega), wS _ (by omega), ih k (i + 1) (by omega) (by omega), rdN _ _ (by omega), List.drop_eq_getElem_cons (by omega : i < v.length)]
    by_cases h : -1 ≤ v[i] ∧ v[i] ≤ 999999
    · rw [if_pos h]
      congr 2
      refine decide_eq_decide.2 ?_
      simp only [fitV, List.forall_mem_cons, h, true_and, and_self]
    · rw [if_neg h, decide_eq_false (fun g => h (g _ List.mem_cons_self)), Bool.false_and]
theorem specState_f' (r : Int) (v : List Int) (g : List Bool) (b : List S122) (many : Int) (hv : v.length < 4611686018427387904) (hb : b.length < 4611686018427387904) (k : Nat) (hk : v.length + b.length + 1 < k) : spec_StateValid.f k r v g b many = some (stC r v g b many) := by
  have := specState_l r v g b many hv hb v.length k 0 (by omega) (by omega)
  simpa [spec_StateValid.f, stC] using this

theorem specDone_l (r : Int) (v : List Int) (g : List Bool) (b : List S122) (hg : g.length < 4611686018427387904) (hv : v.length < 4611686018427387904) (hb : b.length < 4611686018427387904) : ∀ d k i : Nat, g.length = i + d → d + v.length + b.length + 2 < k → spec_StateDone.l0 k i r v g b = some (!(g.drop i).contains true && (stC r v g b v.length && decide (b.length = 0))) := by
  intro d
  induction d with
  | zero =>
    intro k i hi hk
    obtain ⟨k, rfl, hk⟩ := kk_pred hk
    simp only [spec_StateDone.l0]
    rw [if_neg (by omega), List.drop_of_length_le (by omega), specState_f' r v g b _ hv hb k (by omega), Option.bind_some]
    have e : ((b.length : Int) == 0) = decide (b.length = 0) := by rw [o_beq]; exact decide_eq_decide.2 (by omega)
    rw [e]
    cases stC r v g b v.length <;> simp
  | succ d ih =>
    intro k i hi hk
    obtain ⟨k, rfl, hk⟩ := kk_pred hk
    simp only [spec_StateDone.l0]
    rw [if_pos (by omega), if_pos (by omega), wS _ (by omega), ih k (i + 1) (by omega) (by omega), rdOfN _ _ _ (by omega), List.drop_eq_getElem_cons (by omega : i < g.length)]
    cases g[i] <;> simp
theorem specDone_f (r : Int) (v : List Int) (g : List Bool) (b : List S122) (hg : g.length < 4611686018427387904) (hv : v.length < 4611686018427387904) (hb : b.length < 4611686018427387904) (k : Nat) (hk : g.length + v.length + b.length + 2 < k) : spec_StateDone.f k r v g b = some (!g.contains true && (stC r v g b v.length && decide (b.length = 0))) := by
  have := specDone_l r v g b hg hv hb g.length k 0 (by omega) (by omega)
  simpa [spec_StateDone.f] using this

theorem toIntS_l (l : List Int) (hb : l.length < 4611686018427387904) : ∀ d k i : Nat, ∀ o : List Int, o.length = l.length → o.take i = l.take i → l.length = i + d → d < k → laws_toIntS.l0 k l o i = some l := by
  intro d
  induction d with
  | zero =>
    intro k i o ho ht hi hk
    obtain ⟨k, rfl, hk⟩ := kk_pred hk
    simp only [laws_toIntS.l0]
    rw [if_neg (by omega)]
    obtain rfl : l.length = i := by omega
    rw [List.take_length, ← ho, List.take_length] at ht
    rw [ht]
  | succ d ih =>
    intro k i o ho ht hi hk
    obtain ⟨k, rfl, hk⟩ := kk_pred hk
    simp only [laws_toIntS.l0]
    rw [if_pos (by omega), if_pos (by omega), if_pos (by omega), wS _ (by omega), Int.toNat_natCast, rdN _ _ (by omega)]
    exact ih k (i + 1) _ (by simpa using ho) (by rw [take_set_succ _ _ _ (by omega), ht, List.take_succ_eq_append_getElem (by omega)]) (by omega) (by omega)
theorem toIntS_f (l : List Int) (hb : l.length ≤ 1048576) (k : Nat) (hk : l.length < k) : laws_toIntS.f k l = some l := by
  have := toIntS_l l (by omega) l.length k 0 (List.replicate l.length 0) (by simp) (by simp) (by omega) hk
  unfold laws_toIntS.f
  rw [if_pos (by omega), if_pos (by omega)]
  simpa using this

theorem toBoolS_l (l : List Bool) (hb : l.length < 4611686018427387904) : ∀ d k i : Nat, ∀ o : List Bool, o.length = l.length → o.take i = l.take i → l.length = i + d → d < k → laws_toBoolS.l0 k l o i = some l := by
  intro d
  induction d with
  | zero =>
    intro k i o ho ht hi hk
    obtain ⟨k, rfl, hk⟩ := kk_pred hk
    simp only [laws_toBoolS.l0]
    rw [if_neg (by omega)]
    obtain rfl : l.length = i := by omega
    rw [List.take_length, ← ho, List.take_length] at ht
    rw [ht]
  | succ d ih =>
    intro k i o ho ht hi hk
    obtain ⟨k, rfl, hk⟩ := kk_pred hk
    simp only [laws_toBoolS.l0]
    rw [if_pos (by omega), if_pos (by omega), if_pos (by omega), wS _ (by omega), Int.toNat_natCast, rdOfN _ _ _ (by omega)]
    exact ih k (i + 1) _ (by simpa using ho) (by rw [take_set_succ _ _ _ (by omega), ht, List.take_succ_eq_append_getElem (by omega)]) (by omega) (by omega)
theorem toBoolS_f (l : List Bool) (hb : l.length ≤ 1048576) (k : Nat) (hk : l.length < k) : laws_toBoolS.f k l = some l := by
  have := toBoolS_l l (by omega) l.length k 0 (List.replicate l.length false) (by simp) (by simp) (by omega) hk
  unfold laws_toBoolS.f
  rw [if_pos (by omega), if_pos (by omega)]
  simpa using this

def toMessageC (x : S157) : S122 := ⟨x.f0, x.f1, x.f2⟩
theorem rdS_157 (xs : List S157) (i : Nat) (h : i < xs.length) : rd_T157 xs (i : Int) = xs[i] := by simp [rd_T157, h]
theorem toMessageS_l (l : List S157) (hb : l.length < 4611686018427387904) : ∀ d k i : Nat, ∀ o : List S122, o.length = l.length → o.take i = (l.map toMessageC).take i → l.length = i + d → d < k → laws_toMessageS.l0 k l o i = some (l.map toMessageC) := by
  intro d
  induction d with
  | zero =>
    intro k i o ho ht hi hk
    obtain ⟨k, rfl, hk⟩ := kk_pred hk
    simp only [laws_toMessageS.l0]
    rw [if_neg (by omega)]
    obtain rfl : l.length = i := by omega
    exact congrArg some (eq_of_take (by simpa using ho) (by rw [ho]; exact ht))
  | succ d ih =>
    intro k i o ho ht hi hk
    obtain ⟨k, rfl, hk⟩ := kk_pred hk
    simp only [laws_toMessageS.l0, laws_toMessage.f, Option.bind_some]
    rw [if_pos (by omega), if_pos (by omega), if_pos (by omega), wS _ (by omega), Int.toNat_natCast, rdS_157 _ _ (by omega)]
    exact ih k (i + 1) _ (by simpa using ho) (by rw [take_set_succ _ _ _ (by omega), ht, List.take_succ_eq_append_getElem (by simp; omega), List.getElem_map]; rfl) (by omega) (by omega)
theorem toMessageS_f (l : List S157) (hb : l.length ≤ 1048576) (k : Nat) (hk : l.length < k) : laws_toMessageS.f k l = some (l.map toMessageC) := by
  have := toMessageS_l l (by omega) l.length k 0 (List.replicate l.length z122) (by simp) (by simp) (by omega) hk
  unfold laws_toMessageS.f
  rw [if_pos (by omega), if_pos (by omega)]
  simpa using this

theorem toState_f (r : Int) (v : List Int) (g : List Bool) (b : List S157) (h1 : v.length ≤ 1048576) (h2 : g.length ≤ 1048576) (h3 : b.length ≤ 1048576) (k : Nat) (hk : 1048576 < k) : laws_toState.f k r v g b = some (r, v, g, b.map toMessageC) := by
  simp only [laws_toState.f, toIntS_f v h1 k (by omega), toBoolS_f g h2 k (by omega), toMessageS_f b h3 k (by omega), Option.bind_some]

theorem valueFits_f (a : Int) : impl_valueFits.f a = some (decide (-1 ≤ a ∧ a ≤ 999999)) := by
  unfold impl_valueFits.f
  by_cases h : -1 ≤ a
  · rw [if_pos h]
    refine congrArg some (decide_eq_decide.2 ?_)
    omega
  · rw [if_neg h, decide_eq_false (fun g => h g.1)]
theorem valuesFit_l (l : List Int) (hb : l.length < 4611686018427387904) : ∀ d k i : Nat, l.length = i + d → d < k → impl_valuesFit.l0 k l l.length i = some (decide (fitV (l.drop i))) := by
  intro d
  induction d with
  | zero =>
    intro k i hi hk
    obtain ⟨k, rfl, hk⟩ := kk_pred hk
    simp only [impl_valuesFit.l0]
    rw [if_neg (by omega), List.drop_of_length_le (by omega), decide_eq_true (by simp [fitV])]
  | succ d ih =>
    intro k i hi hk
    obtain ⟨k, rfl, hk⟩ := kk_pred hk
    simp only [impl_valuesFit.l0, valueFits_f, Option.bind_some, decide_eq_true_eq]
    rw [if_pos (by omega), if_pos (by omega), if_pos (by omega), wS _ (by omega), ih k (i + 1) (by omega) (by omega), rdN _ _ (by omega), List.drop_eq_getElem_cons (by omega : i < l.length)]
    by_cases h : -1 ≤ l[i] ∧ l[i] ≤ 999999
    · rw [if_pos h]
      refine congrArg some (decide_eq_decide.2 ?_)
      simp only [fitV, List.forall_mem_cons, h, true_and]
    · rw [if_neg h, decide_eq_false]
      intro g
      exact h (g _ List.mem_cons_self)
theorem valuesFit_f (l : List Int) (hb : l.length < 4611686018427387904) (k : Nat) (hk : l.length < k) : impl_valuesFit.f k l = some (decide (fitV l)) := by
  have := valuesFit_l l hb l.length k 0 (by omega) hk
  simpa [impl_valuesFit.f] using this

def cmpI (a b : Int) : Int := if a < b then -1 else if a > b then 1 else 0
theorem compare_f (a b : Int) : cmp_Compare_int.f a b = some (cmpI a b) := by
  unfold cmp_Compare_int.f cmp_isNaN_int.f cmpI
  simp only [Option.bind_some, bne_self_eq_false, Bool.false_eq_true, if_false]
  split
  · rfl
  · split <;> rfl
theorem or3_f (x y z : Int) (k : Nat) : cmp_Or_int.f (k + 4) [x, y, z] = some (if x = 0 then (if y = 0 then z else y) else x) := by
  have w1 : wrap64 (0 + 1) = 1 := by unfold wrap64; omega
  have w2 : wrap64 (1 + 1) = 2 := by unfold wrap64; omega
  have w3 : wrap64 (2 + 1) = 3 := by unfold wrap64; omega
  have r0 : rd [x, y, z] 0 = x := rfl
  have r1 : rd [x, y, z] 1 = y := rfl
  have r2 : rd [x, y, z] 2 = z := rfl
  have hl : (([x, y, z] : List Int).length : Int) = 3 := rfl
  unfold cmp_Or_int.f
  rw [hl]
  simp only [cmp_Or_int.l0, hl, w1, w2, w3, r0, r1, r2]
  rw [if_pos (by decide), if_pos (by decide), if_pos (by decide)]
  by_cases h0 : x = 0
  · rw [if_pos h0, if_pos h0, if_pos (by decide), if_pos (by decide), if_pos (by decide)]
    by_cases h1 : y = 0
    · rw [if_pos h1, if_pos h1, if_pos (by decide), if_pos (by decide), if_pos (by decide)]
      by_cases h2 : z = 0
      · rw [if_pos h2, if_neg (by decide), h2]
      · rw [if_neg h2]
    · rw [if_neg h1, if_neg h1]
  · rw [if_neg h0, if_neg h0]
/-- What the comparison of two messages tells. -/
def cmpM (a b : S122) : Int := if cmpI a.f0 b.f0 = 0 then (if cmpI a.f1 b.f1 = 0 then cmpI a.f2 b.f2 else cmpI a.f1 b.f1) else cmpI a.f0 b.f0
theorem cmpMsg_f (a b : S122) (k : Nat) (hk : 3 < k) : impl_compareMessages.f k a.f0 a.f1 a.f2 b.f0 b.f1 b.f2 = some (cmpM a b) := by
  obtain ⟨k, rfl⟩ : ∃ m, k = m + 4 := ⟨k - 4, by omega⟩
  simp only [impl_compareMessages.f, compare_f, Option.bind_some, or3_f]
  rfl
theorem cmpI_neg (a b : Int) : cmpI a b < 0 ↔ a < b := by
  unfold cmpI
  split
  · omega
  · split <;> omega
theorem cmpI_zero (a b : Int) : cmpI a b = 0 ↔ a = b := by
  unfold cmpI
  split
  · omega
  · split <;> omega
theorem cmpM_neg (a b : S122) : cmpM a b < 0 ↔ ltM a b = true := by
  unfold cmpM ltM
  rw [decide_eq_true_eq]
  by_cases h0 : a.f0 = b.f0
  · rw [if_pos ((cmpI_zero _ _).2 h0)]
    by_cases h1 : a.f1 = b.f1
    · rw [if_pos ((cmpI_zero _ _).2 h1), cmpI_neg]
      omega
    · rw [if_neg (fun h => h1 ((cmpI_zero _ _).1 h)), cmpI_neg]
      omega
  · rw [if_neg (fun h => h0 ((cmpI_zero _ _).1 h)), cmpI_neg]
    omega

def msgFit (many : Int) (x : S122) : Bool := decide (0 ≤ x.f0 ∧ x.f0 < many ∧ 0 ≤ x.f2 ∧ x.f2 < many ∧ 0 ≤ x.f1 ∧ x.f1 < 1000000)
theorem msgFit_f (x : S122) (many : Int) : impl_messageFits.f x.f0 x.f1 x.f2 many = some (msgFit many x) := by
  unfold impl_messageFits.f msgFit
  simp only [o_and]

def rdM (l : List S122) (i : Nat) : S122 := rd_T122 l (i : Int)
/-- The message at a place does not come before the one ahead of it. -/
def srtA (l : List S122) (i : Nat) : Bool := i == 0 || !ltM (rdM l i) (rdM l (i - 1))
theorem isSorted_l (l : List S122) (hb : l.length < 4611686018427387904) : ∀ i k : Nat, i < l.length → i + 4 < k → impl_Message.l0 k l i = some ((List.range (i + 1)).all (srtA l)) := by
  intro i
  induction i with
  | zero =>
    intro k hi hk
    obtain ⟨k, rfl, hk⟩ := kk_pred hk
    simp only [impl_Message.l0]
    rw [if_neg (by omega)]
    rfl
  | succ j ih =>
    intro k hi hk
    obtain ⟨k, rfl, hk⟩ := kk_pred hk
    have e : wrap64 (((j + 1 : Nat) : Int) - 1) = (j : Int) := by unfold wrap64; omega
    simp only [impl_Message.l0, e]
    rw [if_pos (by omega), if_pos (by omega), if_pos (by omega), if_pos (by omega), if_pos (by omega), cmpMsg_f _ _ k (by omega), Option.bind_some, ih k (by omega) (by omega), List.range_succ (n := j + 1), List.all_append]
    simp only [List.all_cons, List.all_nil, Bool.and_true]
    have ea : srtA l (j + 1) = !ltM (rdM l (j + 1)) (rdM l j) := by simp [srtA]
    rw [ea]
    by_cases h : cmpM (rd_T122 l ((j + 1 : Nat) : Int)) (rd_T122 l (j : Int)) < 0
    · rw [if_pos h]
      have h2 : ltM (rdM l (j + 1)) (rdM l j) = true := (cmpM_neg _ _).1 h
      rw [h2]
      simp
    · rw [if_neg h]
      have h2 : ltM (rdM l (j + 1)) (rdM l j) = false := by
        cases hh : ltM (rdM l (j + 1)) (rdM l j) with
        | true => exact absurd ((cmpM_neg _ _).2 hh) h
        | false => rfl
      rw [h2]
      simp
def srtB (l : List S122) : Bool := (List.range l.length).all (srtA l)
theorem isSorted_f (l : List S122) (a : Int) (hb : l.length < 4611686018427387904) (k : Nat) (hk : l.length + 5 < k) : impl_Message.f k l a = some (srtB l) := by
  unfold impl_Message.f srtB
  by_cases h : l.length = 0
  · obtain ⟨k, rfl, hk⟩ := kk_pred hk
    simp only [impl_Message.l0, h]
    rw [if_neg (by unfold wrap64; omega)]
    rfl
  · have e : wrap64 ((l.length : Int) - 1) = ((l.length - 1 : Nat) : Int) := by unfold wrap64; omega
    rw [e, isSorted_l l hb (l.length - 1) k (by omega) (by omega), Nat.sub_add_cancel (by omega)]
theorem inbox_l (l : List S122) (many : Int) (hb : l.length < 4611686018427387904) : ∀ d k i : Nat, l.length = i + d → d < k → impl_inboxFits.l0 k many l l.length i = some ((List.range' i d).all fun j => msgFit many (rdM l j)) := by
  intro d
  induction d with
  | zero =>
    intro k i hi hk
    obtain ⟨k, rfl, hk⟩ := kk_pred hk
    simp only [impl_inboxFits.l0]
    rw [if_neg (by omega)]
    rfl
  | succ d ih =>
    intro k i hi hk
    obtain ⟨k, rfl, hk⟩ := kk_pred hk
    simp only [impl_inboxFits.l0]
    rw [if_pos (by omega), if_pos (by omega), if_pos (by omega), msgFit_f, Option.bind_some, wS _ (by omega), ih k (i + 1) (by omega) (by omega), List.range'_succ, List.all_cons]
    change (if msgFit many (rdM l i) = true then _ else _) = _
    cases msgFit many (rdM l i) <;> simp
def fitB (many : Int) (l : List S122) : Bool := (List.range' 0 l.length).all fun j => msgFit many (rdM l j)
theorem inbox_f (l : List S122) (many : Int) (hb : l.length < 4611686018427387904) (k : Nat) (hk : l.length + 6 < k) : impl_inboxFits.f k l many = some (decide (l.length ≤ 2000) && srtB l && fitB many l) := by
  obtain ⟨k, rfl, hk⟩ := kk_pred hk
  unfold impl_inboxFits.f
  by_cases h : l.length ≤ 2000
  · rw [if_neg (by omega), isSorted_f l _ hb (k + 1) (by omega), Option.bind_some, decide_eq_true h]
    simp only [impl_inboxFits.j0]
    cases hs : srtB l
    · simp
    · simp only [Bool.not_true, Bool.false_eq_true, if_false, Bool.and_self, Bool.true_and]
      exact inbox_l l many hb l.length k 0 (by omega) (by omega)
  · rw [if_pos (by omega), decide_eq_false h]
    simp [impl_inboxFits.j0]

theorem roundFits_f (a : Int) : impl_roundFits.f a = some (decide (0 ≤ a ∧ a ≤ 100)) := by
  unfold impl_roundFits.f
  by_cases h : a ≥ 0
  · rw [if_pos h]
    exact congrArg some (decide_eq_decide.2 ⟨fun g => ⟨h, g⟩, fun g => g.2⟩)
  · rw [if_neg h, decide_eq_false (fun g => h g.1)]
/-- A state is one for a number of vertices. -/
def stB (r : Int) (v : List Int) (g : List Bool) (b : List S122) (many : Int) : Bool :=
  decide (0 ≤ many ∧ many ≤ 16) && decide (0 ≤ r ∧ r ≤ 100) && decide ((v.length : Int) = many) && decide ((g.length : Int) = many) && decide (fitV v) && (decide (b.length ≤ 2000) && srtB b && fitB many b)
theorem implState_f (r : Int) (v : List Int) (g : List Bool) (b : List S122) (many : Int) (hv : v.length < 4611686018427387904) (hb : b.length < 4611686018427387904) (k : Nat) (hk : v.length + b.length + 10 < k) : impl_StateValid.f k r v g b many = some (stB r v g b many) := by
  obtain ⟨k, rfl, hk⟩ := kk_pred hk
  obtain ⟨k, rfl, hk⟩ := kk_pred (show v.length + b.length + 9 < k by omega)
  have j1 : impl_StateValid.j1 (k + 1) many false r v g b = some (decide (fitV v) && (decide (b.length ≤ 2000) && srtB b && fitB many b)) := by
    simp only [impl_StateValid.j1, Bool.false_eq_true, if_false, valuesFit_f v hv k (by omega), inbox_f b many hb k (by omega), Option.bind_some]
    cases hf : decide (fitV v) <;> simp
  have j1' : impl_StateValid.j1 (k + 1) many true r v g b = some false := by simp [impl_StateValid.j1]
  unfold impl_StateValid.f stB
  by_cases h0 : many < 0
  · rw [if_pos h0, decide_eq_false (show ¬ (0 ≤ many ∧ many ≤ 16) by omega)]
    simp [impl_StateValid.j0]
  · rw [if_neg h0]
    by_cases h1 : many > 16
    · rw [if_pos h1, decide_eq_false (show ¬ (0 ≤ many ∧ many ≤ 16) by omega)]
      simp [impl_StateValid.j0]
    · rw [if_neg h1, decide_eq_true (show 0 ≤ many ∧ many ≤ 16 by omega), roundFits_f, Option.bind_some]
      simp only [impl_StateValid.j0]
      by_cases h2 : 0 ≤ r ∧ r ≤ 100
      · rw [decide_eq_true h2]
        simp only [Bool.not_true, Bool.false_eq_true, if_false, Bool.true_and]
        by_cases h3 : (v.length : Int) = many
        · rw [if_pos h3, decide_eq_true h3]
          by_cases h4 : (g.length : Int) = many
          · rw [h4, bne_self_eq_false, j1]
            simp
          · have e : ((g.length : Int) != many) = true := by simpa using h4
            rw [e, j1', decide_eq_false h4]
            simp
        · rw [if_neg h3, decide_eq_false h3, j1']
          simp
      · rw [decide_eq_false h2]
        simp
theorem specState_f (r : Int) (v : List Int) (g : List Bool) (b : List S122) (many : Int) (hv : v.length < 4611686018427387904) (hb : b.length < 4611686018427387904) (k : Nat) (hk : v.length + b.length + 1 < k) : spec_StateValid.f k r v g b many = some (stB r v g b many) := by
  rw [specState_f' r v g b many hv hb k hk]
  refine congrArg some ?_
  unfold stC stB okB
  by_cases h : 0 ≤ many ∧ many ≤ 16
  · have e : (List.range' 0 b.length).all (fun j => msgFitS many (rdM' b j) && srtA' b j) = (srtB b && fitB many b) := by
      have e1 : wrap64 (many - 1) = many - 1 := by unfold wrap64; omega
      have e2 : ∀ x, msgFitS many x = msgFit many x := fun x => by
        unfold msgFitS msgFit
        rw [e1]
        exact decide_eq_decide.2 (by omega)
      rw [Bool.eq_iff_iff]
      simp only [srtB, fitB, List.all_eq_true, Bool.and_eq_true, List.range_eq_range', e2]
      exact ⟨fun h => ⟨fun j hj => (h j hj).2, fun j hj => (h j hj).1⟩, fun h j hj => ⟨h.2 j hj, h.1 j hj⟩⟩
    rw [e, decide_eq_true h]
    cases decide (fitV v) <;> cases srtB b <;> cases fitB many b <;> simp
  · rw [decide_eq_false h]
    simp

theorem indexBool_l (g : List Bool) (hg : g.length < 4611686018427387904) : ∀ d k i : Nat, g.length = i + d → d < k → ∃ x : Int, slices_Index_bool_bool.l0 k g true g.length i = some x ∧ decide (x ≥ 0) = (g.drop i).contains true := by
  intro d
  induction d with
  | zero =>
    intro k i hi hk
    obtain ⟨k, rfl, hk⟩ := kk_pred hk
    refine ⟨-1, ?_, ?_⟩
    · simp only [slices_Index_bool_bool.l0]
      rw [if_neg (by omega)]
    · rw [List.drop_of_length_le (by omega)]
      rfl
  | succ d ih =>
    intro k i hi hk
    obtain ⟨k, rfl, hk⟩ := kk_pred hk
    simp only [slices_Index_bool_bool.l0]
    rw [if_pos (by omega), if_pos (by omega), if_pos (by omega), wS _ (by omega), rdOfN _ _ _ (by omega), List.drop_eq_getElem_cons (by omega : i < g.length)]
    cases h : g[i]
    · obtain ⟨x, hx, hd⟩ := ih k (i + 1) (by omega) (by omega)
      refine ⟨x, ?_, ?_⟩
      · rw [if_neg (by decide)]; exact hx
      · rw [hd]; simp
    · refine ⟨(i : Int), ?_, ?_⟩
      · rw [if_pos (by decide)]
      · simp
theorem containsBool_f (g : List Bool) (hg : g.length < 4611686018427387904) (k : Nat) (hk : g.length < k) : slices_Contains_bool_bool.f k g true = some (g.contains true) := by
  obtain ⟨x, hx, hd⟩ := indexBool_l g hg g.length k 0 (by omega) hk
  simp only [slices_Contains_bool_bool.f, slices_Index_bool_bool.f]
  have e : slices_Index_bool_bool.l0 k g true (g.length : Int) 0 = some x := hx
  rw [e, Option.bind_some, hd]
  rfl

theorem implDone_f (r : Int) (v : List Int) (g : List Bool) (b : List S122) (hg : g.length < 4611686018427387904) (hv : v.length < 4611686018427387904) (hb : b.length < 4611686018427387904) (k : Nat) (hk : g.length + v.length + b.length + 10 < k) : impl_StateDone.f k r v g b = some (stB r v g b v.length && decide (b.length = 0) && !g.contains true) := by
  simp only [impl_StateDone.f, impl_State_ownValid.f, implState_f r v g b v.length hv hb k (by omega), containsBool_f g hg k (by omega), Option.bind_some]
  cases stB r v g b v.length
  · simp
  · simp only [if_true, Bool.true_and]
    by_cases h : b.length = 0
    · rw [if_pos (by omega), decide_eq_true h, Bool.true_and]
    · rw [if_neg (by omega), decide_eq_false h, Bool.false_and]
theorem specDone_g (r : Int) (v : List Int) (g : List Bool) (b : List S122) (hg : g.length < 4611686018427387904) (hv : v.length < 4611686018427387904) (hb : b.length < 4611686018427387904) (k : Nat) (hk : g.length + v.length + b.length + 2 < k) : spec_StateDone.f k r v g b = some (stB r v g b v.length && decide (b.length = 0) && !g.contains true) := by
  have e : stC r v g b v.length = stB r v g b v.length := Option.some.inj ((specState_f' r v g b v.length hv hb k (by omega)).symm.trans (specState_f r v g b v.length hv hb k (by omega)))
  rw [specDone_f r v g b hg hv hb k hk, e, Bool.and_comm]

theorem eqIntS_l (l m : List Int) (hl : l.length = m.length) (hb : l.length < 4611686018427387904) : ∀ d k i : Nat, l.length = i + d → d < k → laws_eqIntS.l0 k l m i = some (decide (l.drop i = m.drop i)) := by
  intro d
  induction d with
  | zero =>
    intro k i hi hk
    obtain ⟨k, rfl, hk⟩ := kk_pred hk
    simp only [laws_eqIntS.l0]
    rw [if_neg (by omega), List.drop_of_length_le (by omega), List.drop_of_length_le (by omega)]
    simp
  | succ d ih =>
    intro k i hi hk
    obtain ⟨k, rfl, hk⟩ := kk_pred hk
    simp only [laws_eqIntS.l0]
    rw [if_pos (by omega), if_pos (by omega), if_pos (by omega), rdN _ _ (by omega), rdN _ _ (by omega), wS _ (by omega), List.drop_eq_getElem_cons (by omega : i < l.length), List.drop_eq_getElem_cons (by omega : i < m.length)]
    by_cases e : l[i] = m[i]
    · rw [if_pos e, ih k (i + 1) (by omega) (by omega), e]
      simp only [List.cons.injEq, true_and]
    · rw [if_neg e]
      simp only [List.cons.injEq, e, false_and, decide_false]
theorem eqIntS_f (l m : List Int) (hb : l.length < 4611686018427387904) (k : Nat) (hk : l.length < k) : laws_eqIntS.f k l m = some (decide (l = m)) := by
  unfold laws_eqIntS.f
  by_cases h : l.length = m.length
  · rw [if_pos (by omega)]
    have := eqIntS_l l m h hb l.length k 0 (by omega) hk
    simpa using this
  · rw [if_neg (by omega)]
    have : ¬ l = m := fun e => h (by rw [e])
    simp [this]

theorem eqBoolS_l (l : List Bool) (hb : l.length < 4611686018427387904) : ∀ d k i : Nat, l.length = i + d → d < k → laws_eqBoolS.l0 k l l i = some true := by
  intro d
  induction d with
  | zero =>
    intro k i hi hk
    obtain ⟨k, rfl, hk⟩ := kk_pred hk
    simp only [laws_eqBoolS.l0]
    rw [if_neg (by omega)]
  | succ d ih =>
    intro k i hi hk
    obtain ⟨k, rfl, hk⟩ := kk_pred hk
    simp only [laws_eqBoolS.l0, bne_self_eq_false, Bool.false_eq_true, if_false]
    rw [if_pos (by omega), if_pos (by omega), if_pos (by omega), wS _ (by omega)]
    exact ih k (i + 1) (by omega) (by omega)
theorem eqBoolS_f (l : List Bool) (hb : l.length < 4611686018427387904) (k : Nat) (hk : l.length < k) : laws_eqBoolS.f k l l = some true := by
  have := eqBoolS_l l hb l.length k 0 (by omega) hk
  simpa [laws_eqBoolS.f] using this

theorem eqMessageS_l (l : List S122) (hb : l.length < 4611686018427387904) : ∀ d k i : Nat, l.length = i + d → d < k → laws_eqMessageS.l0 k l l i = some true := by
  intro d
  induction d with
  | zero =>
    intro k i hi hk
    obtain ⟨k, rfl, hk⟩ := kk_pred hk
    simp only [laws_eqMessageS.l0]
    rw [if_neg (by omega)]
  | succ d ih =>
    intro k i hi hk
    obtain ⟨k, rfl, hk⟩ := kk_pred hk
    simp only [laws_eqMessageS.l0, laws_eqMessage.f, if_true, Option.bind_some]
    rw [if_pos (by omega), if_pos (by omega), if_pos (by omega), wS _ (by omega)]
    exact ih k (i + 1) (by omega) (by omega)
theorem eqMessageS_f (l : List S122) (hb : l.length < 4611686018427387904) (k : Nat) (hk : l.length < k) : laws_eqMessageS.f k l l = some true := by
  have := eqMessageS_l l hb l.length k 0 (by omega) hk
  simpa [laws_eqMessageS.f] using this

theorem eqState_f (r : Int) (v : List Int) (g : List Bool) (b : List S122) (h1 : v.length ≤ 1048576) (h2 : g.length ≤ 1048576) (h3 : b.length ≤ 1048576) (k : Nat) (hk : 1048576 < k) : laws_eqState.f k r v g b r v g b = some true := by
  simp only [laws_eqState.f, eqIntS_f v v (by omega) k (by omega), eqBoolS_f g (by omega) k (by omega), eqMessageS_f b (by omega) k (by omega), Option.bind_some, decide_true, if_true]

end Go.Proofs.Ytloiafnoekpaoab.PFnExactStateDone
namespace Go.Proofs.Ytloiafnoekpaoab.Pure
open Go.RowKit Go.Proofs.Ytloiafnoekpaoab.PFnExactStateDone Go.Proofs.YtloiafnoekpaoabW.PrintWords Go.Proofs.YtloiafnoekpaoabW.PrintLast Go.Proofs.YtloiafnoekpaoabW.PrintMore
theorem FnExactStateDone (r : Int) (v : List Int) (g : List Bool) (b : List S157) {p q t u : Prop} (h0 : p ∧ (v.length ≤ maxLen ∧ q) ∧ (g.length ≤ maxLen ∧ t) ∧ b.length ≤ maxLen ∧ u) : ∃ k, laws_FnExactStateDone.f k r v g b = some true := by
  refine ⟨4000001, ?_⟩
  obtain ⟨_, ⟨hv, _⟩, ⟨hg, _⟩, hb, _⟩ := h0
  unfold maxLen at hv hg hb
  unfold laws_FnExactStateDone.f
  rcases szState_f r v g b (by omega) (by omega) (by omega) with ⟨hl, r', hr', e⟩ | e
  · rw [e, Option.bind_some, if_neg (by omega)]
    have hm : (b.map toMessageC).length = b.length := by simp
    simp only [toState_f r v g b (by omega) (by omega) (by omega) 4000001 (by omega), Option.bind_some]
    generalize b.map toMessageC = m at *
    simp only [specDone_g r v g m (by omega) (by omega) (by omega) 4000001 (by omega), implDone_f r v g m (by omega) (by omega) (by omega) 4000001 (by omega), Option.bind_some, bne_self_eq_false, Bool.false_eq_true, if_false, eqState_f r v g m (by omega) (by omega) (by omega) 4000001 (by omega), if_true]
  · rw [e, Option.bind_some, if_pos (by omega)]

end Go.Proofs.Ytloiafnoekpaoab.Pure
