/- Turned orders are orders: they are valid; beginning with as many as there are workers is beginning with 0. No further condition. -/
import Derived.Test.YtloiafnoekpaoaaPFnTurnOrderx
import Derived.Test.YtloiafnoekpaoaaL
import Derived.Test.YtloiafnoekpaoaaT
set_option linter.unusedVariables false
set_option linter.unusedSimpArgs false
namespace Go.Proofs.Ytloiafnoekpaoaa.PFnTurnOrder
open Go.RowKit Go.Proofs.YtloiafnoekpaoaaW.PrintWords Go.Proofs.YtloiafnoekpaoaaW.PrintLast Go.Proofs.YtloiafnoekpaoaaW.PrintMore
theorem alive_f {k : Nat} (hk : 2 < k) : laws_alive.f k = some true := by
  obtain ⟨k, rfl, hk⟩ := kk_pred hk
  obtain ⟨k, rfl, hk⟩ := kk_pred (show 1 < k by omega)
  simp [laws_alive.f, impl_CheckSum.f, impl_BytesValid.f, impl_BytesValid.l0, impl_CheckSum.l0]

theorem open_d {l : List Int} (hl : ∀ x ∈ l, (Lit.int .u8 x).wf = true) : Dw (spec_l20Open.f l) (fun r => Bytes r.1 ∧ r.2 = 0) := by
  have hb : ∀ x ∈ l, 0 ≤ x ∧ x ≤ 255 := fun x hx => by
    have := hl x hx
    simp [Lit.wf, IntKind.min, IntKind.max, IntKind.bits, IntKind.signed] at this
    omega
  unfold spec_l20Open.f
  refine Dw.ite (fun h => Dw.pos (by omega) (Dw.some ⟨⟨fun x hx => hb x (List.mem_of_mem_take hx), by simp; omega⟩, rfl⟩)) (fun h => Dw.some ⟨⟨hb, by show l.length ≤ 2000; omega⟩, rfl⟩)

theorem pick_d {b : List Int} (hb : Bytes b) {p : Int} (h0 : 0 ≤ p) (h1 : p ≤ 1000000000) (n : Int) {k : Nat} (hk : 0 < k) : Dw (spec_l20Rd_pick.f k b p n) (PickOk n p) := by
  obtain ⟨k, rfl, _⟩ := kk_pred hk
  have e1 : wrap64 (p + 1) = p + 1 := by unfold wrap64; omega
  have e2 : wrap64 (p + 1 - 1) = p := by unfold wrap64; omega
  have e3 : wrap64 (p * 7) = p * 7 := by unfold wrap64; omega
  have e4 : wrap64 (p * 7 + 3) = p * 7 + 3 := by unfold wrap64; omega
  have hj : ∀ c : Bool, (c = false → 1 ≤ n ∧ 0 < b.length) → Dw (spec_l20Rd_pick.j0 (k + 1) n c b (p + 1)) (PickOk n p) := by
    intro c hc
    simp only [spec_l20Rd_pick.j0, e2, e3, e4]
    refine Dw.ite (fun _ => Dw.some ⟨rfl, by omega, fun h => by omega⟩) (fun h => ?_)
    obtain ⟨hn, hl⟩ := hc (by simpa using h)
    refine Dw.ite (fun hlt => ?_) (fun hge => ?_)
    · refine Dw.pos h0 (Dw.neg (by omega) (Dw.some ⟨rfl, ?_, fun _ => ?_⟩))
      · have hr := rd_byte hb.1 p
        have : wrap64 (rd b p) = rd b p := by unfold wrap64; omega
        simp only [this]
        exact Int.tmod_nonneg _ hr.1
      · exact Int.tmod_lt_of_pos _ (by omega)
    · have hlp : (0 : Int) < (b.length : Int) := by omega
      refine Dw.neg (by omega) (Dw.pos (Int.tmod_nonneg _ h0) (Dw.pos (Int.tmod_lt_of_pos _ hlp) (Dw.pos (Int.tmod_nonneg _ (by omega)) (Dw.pos (Int.tmod_lt_of_pos _ hlp) (Dw.neg (by omega) (Dw.some ⟨rfl, ?_, fun _ => Int.tmod_lt_of_pos _ (by omega)⟩))))))
      have hx := rd_byte hb.1 (Int.tmod p b.length)
      have hy := rd_byte hb.1 (Int.tmod (p * 7 + 3) b.length)
      have hd0 : 0 ≤ Int.tdiv p b.length := Int.tdiv_nonneg h0 (by omega)
      have hd1 : Int.tdiv p b.length ≤ p := Int.tdiv_le_self _ h0
      refine Int.tmod_nonneg _ ?_
      generalize rd b (Int.tmod p b.length) = x at *
      generalize rd b (Int.tmod (p * 7 + 3) b.length) = y at *
      generalize Int.tdiv p b.length = d at *
      have w1 : wrap64 x = x := by unfold wrap64; omega
      have w2 : wrap64 y = y := by unfold wrap64; omega
      have w3 : wrap64 d = d := by unfold wrap64; omega
      have w4 : wrap64 (x * 131) = x * 131 := by unfold wrap64; omega
      have w5 : wrap64 (y * 1117) = y * 1117 := by unfold wrap64; omega
      have w6 : wrap64 (p * 29) = p * 29 := by unfold wrap64; omega
      have w7 : wrap64 (d * 53) = d * 53 := by unfold wrap64; omega
      have w8 : wrap64 (x * 131 + y * 1117) = x * 131 + y * 1117 := by unfold wrap64; omega
      have w9 : wrap64 (x * 131 + y * 1117 + p * 29) = x * 131 + y * 1117 + p * 29 := by unfold wrap64; omega
      have w10 : wrap64 (x * 131 + y * 1117 + p * 29 + d * 53) = x * 131 + y * 1117 + p * 29 + d * 53 := by unfold wrap64; omega
      simp only [w1, w2, w3, w4, w5, w6, w7, w8, w9, w10]
      generalize hz : x * 131 + y * 1117 + p * 29 + d * 53 = z
      have hz0 : 0 ≤ z := by omega
      have hz1 : z ≤ 1000000000000 := by omega
      have hd2 : 0 ≤ Int.tdiv z 64 := Int.tdiv_nonneg hz0 (by omega)
      have hd3 : Int.tdiv z 64 ≤ z := Int.tdiv_le_self _ hz0
      have w11 : wrap64 (Int.tdiv z 64) = Int.tdiv z 64 := by unfold wrap64; omega
      rw [w11]
      exact xor_i64 _ _ hz0 (by omega) hd2 (by omega)
  unfold spec_l20Rd_pick.f
  rw [e1]
  refine Dw.ite (fun _ => hj _ (by simp)) (fun h => hj _ (fun h2 => ⟨by omega, ?_⟩))
  have : ¬ (b.length : Int) = 0 := by simpa using h2
  omega

theorem odd_d {b : List Int} (hb : Bytes b) {p : Int} (h0 : 0 ≤ p) (h1 : p ≤ 1000000000) (n : Int) {k : Nat} (hk : 0 < k) : Dw (spec_l20Rd_odd.f k b p n) (fun r => p ≤ r.2 ∧ r.2 ≤ p + 1) := by
  unfold spec_l20Rd_odd.f
  refine Dw.ite (fun _ => (pick_d hb h0 h1 n hk).bind fun r ⟨h2, _, _⟩ => Dw.some ?_) (fun _ => Dw.some ?_)
  · simp only; omega
  · simp only; omega

theorem workers_d {b : List Int} (hb : Bytes b) (n : Int) {p : Int} (h0 : 0 ≤ p) (h1 : p ≤ 800000000) {k : Nat} (hk : 3 < k) : Dw (spec_l20Workers.f k b p n) (fun r => p ≤ r.2 ∧ r.2 ≤ p + 2 ∧ (-1 ≤ r.1 ∧ r.1 ≤ 7)) := by
  unfold spec_l20Workers.f
  refine (odd_d hb h0 (by omega) n (by omega)).bind fun r1 ⟨a1, a2⟩ => Dw.ite (fun _ => ?_) (fun _ => ?_)
  · simp only [Option.bind_some]
    refine (pick_d hb (by omega) (by omega) 3 (by omega)).bind fun r2 ⟨b1, b2, b3⟩ => Dw.pos b2 (Dw.pos (by simp only [List.length_cons, List.length_nil]; omega) (Dw.some ⟨by simp only; omega, by simp only; omega, ?_⟩))
    have := rd_mem (xs := [0, 7, -1]) b2 (by simp only [List.length_cons, List.length_nil]; omega)
    simp only [List.mem_cons, List.not_mem_nil, or_false] at this
    omega
  · refine (pick_d hb (by omega) (by omega) 6 (by omega)).bind fun r2 ⟨b1, b2, b3⟩ => Dw.some ⟨by simp only; omega, by simp only; omega, ?_⟩
    have : wrap64 (1 + r2.1) = 1 + r2.1 := by unfold wrap64; omega
    simp only [this]
    omega

def turnL (a b : Int) (n : Nat) : List Int := (List.range n).map fun (i : Nat) => Int.tmod (wrap64 (Int.tmod b a + (i : Int))) a
theorem turnL_length (a b : Int) (n : Nat) : (turnL a b n).length = n := by simp [turnL]
theorem turnL_succ (a b : Int) (n : Nat) : turnL a b (n + 1) = turnL a b n ++ [Int.tmod (wrap64 (Int.tmod b a + (n : Int))) a] := by
  unfold turnL
  rw [List.range_succ, List.map_append]
  rfl
def turnR (a b : Int) : List Int := if (1 ≤ a ∧ a ≤ 6) ∧ 0 ≤ b then turnL a b a.toNat else []
theorem turnR_len (a b : Int) : (turnR a b).length ≤ 6 := by
  unfold turnR
  split
  · rw [turnL_length]; omega
  · simp
theorem turnOrder_l (a : Int) (n : Nat) (b : Int) (ha : a ≠ 0) (hn : n ≤ 6) : ∀ d k i : Nat, ∀ o : List Int, o.length = n → o.take i = turnL a b i → n = i + d → d < k → impl_TurnOrder.l0 k a b o n i = some (turnL a b n) := by
  intro d
  induction d with
  | zero =>
    intro k i o ho ht hi hk
    obtain ⟨k, rfl, hk⟩ := kk_pred hk
    obtain rfl : n = i := by omega
    simp only [impl_TurnOrder.l0]
    rw [if_neg (by omega), ← ht, ← ho, List.take_length]
  | succ d ih =>
    intro k i o ho ht hi hk
    obtain ⟨k, rfl, hk⟩ := kk_pred hk
    simp only [impl_TurnOrder.l0]
    rw [if_pos (by omega), if_neg ha, if_pos (by omega), if_pos (by omega), wS _ (by omega), Int.toNat_natCast]
    exact ih k (i + 1) _ (by simpa using ho) (by rw [take_set_succ _ _ _ (by omega), ht, turnL_succ]) (by omega) (by omega)
theorem turnOrder_f (a b : Int) (k : Nat) (hk : 20 < k) : impl_TurnOrder.f k a b = some (turnR a b) := by
  obtain ⟨k, rfl, hk⟩ := kk_pred hk
  unfold impl_TurnOrder.f impl_workersFit.f turnR
  by_cases h1 : 1 ≤ a ∧ a ≤ 6
  · rw [if_pos h1.1]
    simp only [Option.bind_some, decide_eq_true_eq, h1.2, if_true, impl_TurnOrder.j0]
    by_cases h2 : b < 0
    · rw [if_pos h2, if_neg (by omega)]
    · obtain ⟨n, rfl⟩ := Int.eq_ofNat_of_zero_le (a := a) (by omega)
      rw [if_neg h2, if_pos (by omega), if_pos (by omega), if_pos ⟨⟨h1.1, trivial⟩, by omega⟩, Int.toNat_natCast, List.length_replicate]
      exact turnOrder_l n n b (by omega) (by omega) n k 0 _ (by simp) (by simp [turnL]) (by omega) (by omega)
  · have e : (if a ≥ 1 then some (decide (a ≤ 6)) else some false) = some false := by
      by_cases h : 1 ≤ a
      · rw [if_pos h]; simp; omega
      · rw [if_neg h]
    rw [e, if_neg (fun h => h1 h.1)]
    simp [impl_TurnOrder.j0]

theorem sameInts_l (l m : List Int) (hl : l.length = m.length) (hb : l.length < 4611686018427387904) : ∀ d k i : Nat, l.length = i + d → d < k → laws_sameInts.l0 k l m i = some (decide (l.drop i = m.drop i)) := by
  intro d
  induction d with
  | zero =>
    intro k i hi hk
    obtain ⟨k, rfl, hk⟩ := kk_pred hk
    simp only [laws_sameInts.l0]
    rw [if_neg (by omega), List.drop_of_length_le (by omega), List.drop_of_length_le (by omega)]
    simp
  | succ d ih =>
    intro k i hi hk
    obtain ⟨k, rfl, hk⟩ := kk_pred hk
    simp only [laws_sameInts.l0]
    rw [if_pos (by omega), if_pos (by omega), if_pos (by omega), rdN _ _ (by omega), rdN _ _ (by omega), wS _ (by omega), List.drop_eq_getElem_cons (by omega : i < l.length), List.drop_eq_getElem_cons (by omega : i < m.length)]
    by_cases e : l[i] = m[i]
    · rw [if_pos e, ih k (i + 1) (by omega) (by omega), e]
      simp only [List.cons.injEq, true_and]
    · rw [if_neg e]
      simp only [List.cons.injEq, e, false_and, decide_false]
theorem sameInts_f (l m : List Int) (hb : l.length < 4611686018427387904) (k : Nat) (hk : l.length < k) : laws_sameInts.f k l m = some (decide (l = m)) := by
  unfold laws_sameInts.f
  by_cases h : l.length = m.length
  · rw [if_pos (by omega)]
    have := sameInts_l l m h hb l.length k 0 (by omega) hk
    simpa using this
  · rw [if_neg (by omega)]
    have : ¬ l = m := fun e => h (by rw [e])
    simp [this]

theorem l1In_f (a b c : Int) : spec_l1In.f a b c = some (decide (b ≤ a ∧ a ≤ c)) := by
  unfold spec_l1In.f
  by_cases h : b ≤ a
  · rw [if_pos h]; simp [h]
  · rw [if_neg h]; simp [h]

theorem specTurn_l (a : Int) (n : Nat) (b : Int) (h : a = n) (h1 : 1 ≤ n) (hn : n ≤ 6) (hb : 0 ≤ b) : ∀ d k i : Nat, n = i + d → d < k → spec_TurnOrder.l0 k a b ((List.range i).map fun (i : Nat) => Int.tmod (wrap64 (Int.tmod b a + (i : Int))) a) i = some ((List.range n).map fun (i : Nat) => Int.tmod (wrap64 (Int.tmod b a + (i : Int))) a) := by
  intro d
  induction d with
  | zero =>
    intro k i hi hk
    obtain ⟨k, rfl, hk⟩ := kk_pred hk
    obtain rfl : n = i := by omega
    simp only [spec_TurnOrder.l0]
    rw [if_neg (by omega)]
  | succ d ih =>
    intro k i hi hk
    obtain ⟨k, rfl, hk⟩ := kk_pred hk
    simp only [spec_TurnOrder.l0, l1In_f, Option.bind_some, decide_eq_true_eq]
    rw [if_pos (by omega), if_pos (by omega), if_pos (by omega), if_neg (by omega), if_pos (by simp; omega), wS _ (by omega), ← ih k (i + 1) (by omega) (by omega), List.range_succ, List.map_append]
    rfl
theorem specTurn_f (a b : Int) (k : Nat) (hk : 20 < k) : spec_TurnOrder.f k a b = some (if (1 ≤ a ∧ a ≤ 6) ∧ 0 ≤ b then (List.range a.toNat).map fun (i : Nat) => Int.tmod (wrap64 (Int.tmod b a + (i : Int))) a else []) := by
  unfold spec_TurnOrder.f
  by_cases h : (1 ≤ a ∧ a ≤ 6) ∧ 0 ≤ b
  · rw [if_pos h]
    obtain ⟨n, rfl⟩ := Int.eq_ofNat_of_zero_le (a := a) (by omega)
    exact specTurn_l n n b rfl (by omega) (by omega) h.2 n k 0 (by omega) (by omega)
  · rw [if_neg h]
    obtain ⟨k, rfl, hk⟩ := kk_pred hk
    simp only [spec_TurnOrder.l0, l1In_f, Option.bind_some, decide_eq_true_eq]
    by_cases h0 : 0 < a
    · rw [if_pos h0]
      by_cases h1 : 1 ≤ a ∧ a ≤ 6
      · rw [if_pos h1, if_neg (by omega)]
      · rw [if_neg h1]
    · rw [if_neg h0]

end Go.Proofs.Ytloiafnoekpaoaa.PFnTurnOrder
namespace Go.Proofs.Ytloiafnoekpaoaa.Pure
open Go.RowKit Go.Proofs.Ytloiafnoekpaoaa.PFnTurnOrder Go.Proofs.YtloiafnoekpaoaaW.PrintWords Go.Proofs.YtloiafnoekpaoaaW.PrintLast Go.Proofs.YtloiafnoekpaoaaW.PrintMore
theorem turn_ok_all : ∀ n : Fin 7, ∀ m : Fin 6, 1 ≤ n.val → m.val < n.val → ordOk ((List.range n.val).map fun (i : Nat) => Int.tmod (wrap64 ((m.val : Int) + (i : Int))) (n.val : Int)) (n.val : Int) = true := by
  decide +kernel
theorem turn_ok (a b : Int) (h1 : 1 ≤ a) (h6 : a ≤ 6) (hb : 0 ≤ b) : ordOk (turnR a b) a = true := by
  obtain ⟨n, rfl⟩ := Int.eq_ofNat_of_zero_le (a := a) (by omega)
  have e : turnR n b = (List.range n).map fun (i : Nat) => Int.tmod (wrap64 (Int.tmod b n + (i : Int))) n := by
    unfold turnR turnL
    rw [if_pos (by omega)]
    simp
  have hm0 : 0 ≤ Int.tmod b n := Int.tmod_nonneg _ hb
  have hm1 : Int.tmod b n < n := Int.tmod_lt_of_pos _ (by omega)
  obtain ⟨m, hm⟩ := Int.eq_ofNat_of_zero_le hm0
  rw [e, hm]
  exact turn_ok_all ⟨n, by omega⟩ ⟨m, by omega⟩ (by simp only; omega) (by simp only; omega)
theorem FnTurnOrder : laws_FnTurnOrder.Pure := by
  intro l hl hl8 hw
  refine ⟨1000, ?_⟩
  unfold laws_FnTurnOrder.f
  by_cases h : (l.length : Int) > 1048576
  · rw [if_pos h]
  · rw [if_neg h]
    obtain ⟨r, hr, hrl⟩ : Dw (spec_DrawTurnOrder.f 1000 l) (fun r => True) := by
      unfold spec_DrawTurnOrder.f
      refine (open_d hw).bind fun r ⟨hb, hp⟩ => (workers_d hb 6 (by omega) (by omega) (by omega)).bind fun r1 ⟨h1, h2, h3⟩ => (pick_d hb (by omega) (by omega) 20 (by omega)).bind fun r2 h4 => ?_
      simp only [Option.bind_some]
      refine (pick_d hb (by have := h4.1; omega) (by have := h4.1; omega) 5 (by omega)).bind fun r3 h5 => ?_
      have h6 := h5.2.1
      have h7 := h5.2.2 (by omega)
      have hj : rd [0, 0, 0, 1, 2] r3.1 = 0 ∨ rd [0, 0, 0, 1, 2] r3.1 = 1 ∨ rd [0, 0, 0, 1, 2] r3.1 = 2 := by
        obtain hc | hc | hc | hc | hc : r3.1 = 0 ∨ r3.1 = 1 ∨ r3.1 = 2 ∨ r3.1 = 3 ∨ r3.1 = 4 := by omega
        all_goals (rw [hc]; decide)
      simp only [List.length_cons, List.length_nil]
      rw [if_pos h6, if_pos (by omega), if_pos (by omega), if_pos (by omega)]
      exact Dw.some trivial
    rw [hr]
    obtain ⟨a, b⟩ := r
    have hs : spec_TurnOrder.f 1000 a b = some (turnR a b) := specTurn_f a b 1000 (by omega)
    have hln := turnR_len a b
    have hln2 := turnR_len a a
    simp only [Option.bind_some, hs, turnOrder_f _ _ 1000 (by omega), sameInts_f (turnR a b) _ (by omega) 1000 (by omega), sameInts_f (turnR a a) _ (by omega) 1000 (by omega), decide_true, if_true]
    by_cases h0 : ((turnR a b).length : Int) = 0
    · rw [if_pos h0]
      simp [alive_f (show 2 < 1000 by omega)]
    · rw [if_neg h0]
      have hab : (1 ≤ a ∧ a ≤ 6) ∧ 0 ≤ b := by
        by_cases hc : (1 ≤ a ∧ a ≤ 6) ∧ 0 ≤ b
        · exact hc
        · exact absurd (by unfold turnR; rw [if_neg hc]; rfl) h0
      have hl : ((turnR a b).length : Int) = a := by unfold turnR; rw [if_pos hab, turnL_length]; omega
      have ho : impl_OrderValid.f (turnR a b) a = some true := by
        unfold impl_OrderValid.f
        rw [turn_ok a b hab.1.1 hab.1.2 hab.2, decide_eq_true ⟨hab.1.1, hab.1.2, hl⟩]
        rfl
      have he : turnR a a = turnR a 0 := by
        unfold turnR turnL
        rw [if_pos ⟨hab.1, by omega⟩, if_pos ⟨hab.1, by omega⟩, Int.tmod_self, Int.zero_tmod]
      have hr0 : rd (turnR a b) 0 = Int.tmod b a := by
        unfold turnR turnL
        rw [if_pos hab]
        obtain ⟨n, rfl⟩ : ∃ n : Nat, a = (n : Int) + 1 := ⟨(a - 1).toNat, by omega⟩
        have e : ((n : Int) + 1).toNat = n + 1 := by omega
        have hm0 : 0 ≤ Int.tmod b ((n : Int) + 1) := Int.tmod_nonneg _ hab.2
        have hm1 : Int.tmod b ((n : Int) + 1) < (n : Int) + 1 := Int.tmod_lt_of_pos _ (by omega)
        have e2 : wrap64 (Int.tmod b ((n : Int) + 1) + ((0 : Nat) : Int)) = Int.tmod b ((n : Int) + 1) := by unfold wrap64; omega
        rw [e, List.range_succ_eq_map, List.map_cons]
        show Int.tmod (wrap64 (Int.tmod b ((n : Int) + 1) + ((0 : Nat) : Int))) ((n : Int) + 1) = _
        rw [e2]
        exact Int.tmod_eq_of_lt hm0 hm1
      rw [ho]
      simp only [Option.bind_some, if_true, he, decide_true]
      rw [if_pos (by omega), if_neg (by omega), hr0]
      simp

end Go.Proofs.Ytloiafnoekpaoaa.Pure
