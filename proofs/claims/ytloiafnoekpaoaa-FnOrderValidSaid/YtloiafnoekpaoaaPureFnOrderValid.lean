/- Orders have all workers: an order in reverse order is valid exactly if it is; with its first number twice it is not. No further condition. -/
import Derived.Test.YtloiafnoekpaoaaPFnOrderValidx
import Derived.Test.YtloiafnoekpaoaaL
import Derived.Test.YtloiafnoekpaoaaT
set_option linter.unusedVariables false
set_option linter.unusedSimpArgs false
namespace Go.Proofs.Ytloiafnoekpaoaa.PFnOrderValid
open Go.RowKit Go.Proofs.YtloiafnoekpaoaaW.PrintWords Go.Proofs.YtloiafnoekpaoaaW.PrintLast Go.Proofs.YtloiafnoekpaoaaW.PrintMore
theorem alive_f {k : Nat} (hk : 2 < k) : laws_alive.f k = some true := by
  obtain ⟨k, rfl, hk⟩ := kk_pred hk
  obtain ⟨k, rfl, hk⟩ := kk_pred (show 1 < k by omega)
  simp [laws_alive.f, impl_CheckSum.f, impl_BytesValid.f, impl_BytesValid.l0, impl_CheckSum.l0]

theorem open_d {l : List Int} (hl : ∀ x ∈ l, (Lit.int .u8 x).wf = true) : Dw (spec_l20Open.f l) (fun r => Bytes r.1 ∧ r.2 = 0) := by
  have hb : ∀ x ∈ l, 0 ≤ x ∧ x ≤ 255 := fun x hx => by
    have := hl x hx
    simp [Lit.wf, IntKind.min, IntKind.max, IntKind.bits, IntKind.signed] at this
    omega
  unfold spec_l20Open.f
  refine Dw.ite (fun h => Dw.pos (by omega) (Dw.some ⟨⟨fun x hx => hb x (List.mem_of_mem_take hx), by simp; omega⟩, rfl⟩)) (fun h => Dw.some ⟨⟨hb, by show l.length ≤ 2000; omega⟩, rfl⟩)

theorem pick_d {b : List Int} (hb : Bytes b) {p : Int} (h0 : 0 ≤ p) (h1 : p ≤ 1000000000) (n : Int) {k : Nat} (hk : 0 < k) : Dw (spec_l20Rd_pick.f k b p n) (PickOk n p) := by
  obtain ⟨k, rfl, _⟩ := kk_pred hk
  have e1 : wrap64 (p + 1) = p + 1 := by unfold wrap64; omega
  have e2 : wrap64 (p + 1 - 1) = p := by unfold wrap64; omega
  have e3 : wrap64 (p * 7) = p * 7 := by unfold wrap64; omega
  have e4 : wrap64 (p * 7 + 3) = p * 7 + 3 := by unfold wrap64; omega
  have hj : ∀ c : Bool, (c = false → 1 ≤ n ∧ 0 < b.length) → Dw (spec_l20Rd_pick.j0 (k + 1) n c b (p + 1)) (PickOk n p) := by
    intro c hc
    simp only [spec_l20Rd_pick.j0, e2, e3, e4]
    refine Dw.ite (fun _ => Dw.some ⟨rfl, by omega, fun h => by omega⟩) (fun h => ?_)
    obtain ⟨hn, hl⟩ := hc (by simpa using h)
    refine Dw.ite (fun hlt => ?_) (fun hge => ?_)
    · refine Dw.pos h0 (Dw.neg (by omega) (Dw.some ⟨rfl, ?_, fun _ => ?_⟩))
      · have hr := rd_byte hb.1 p
        have : wrap64 (rd b p) = rd b p := by unfold wrap64; omega
        simp only [this]
        exact Int.tmod_nonneg _ hr.1
      · exact Int.tmod_lt_of_pos _ (by omega)
    · have hlp : (0 : Int) < (b.length : Int) := by omega
      refine Dw.neg (by omega) (Dw.pos (Int.tmod_nonneg _ h0) (Dw.pos (Int.tmod_lt_of_pos _ hlp) (Dw.pos (Int.tmod_nonneg _ (by omega)) (Dw.pos (Int.tmod_lt_of_pos _ hlp) (Dw.neg (by omega) (Dw.some ⟨rfl, ?_, fun _ => Int.tmod_lt_of_pos _ (by omega)⟩))))))
      have hx := rd_byte hb.1 (Int.tmod p b.length)
      have hy := rd_byte hb.1 (Int.tmod (p * 7 + 3) b.length)
      have hd0 : 0 ≤ Int.tdiv p b.length := Int.tdiv_nonneg h0 (by omega)
      have hd1 : Int.tdiv p b.length ≤ p := Int.tdiv_le_self _ h0
      refine Int.tmod_nonneg _ ?_
      generalize rd b (Int.tmod p b.length) = x at *
      generalize rd b (Int.tmod (p * 7 + 3) b.length) = y at *
      generalize Int.tdiv p b.length = d at *
      have w1 : wrap64 x = x := by unfold wrap64; omega
      have w2 : wrap64 y = y := by unfold wrap64; omega
      have w3 : wrap64 d = d := by unfold wrap64; omega
      have w4 : wrap64 (x * 131) = x * 131 := by unfold wrap64; omega
      have w5 : wrap64 (y * 1117) = y * 1117 := by unfold wrap64; omega
      have w6 : wrap64 (p * 29) = p * 29 := by unfold wrap64; omega
      have w7 : wrap64 (d * 53) = d * 53 := by unfold wrap64; omega
      have w8 : wrap64 (x * 131 + y * 1117) = x * 131 + y * 1117 := by unfold wrap64; omega
      have w9 : wrap64 (x * 131 + y * 1117 + p * 29) = x * 131 + y * 1117 + p * 29 := by unfold wrap64; omega
      have w10 : wrap64 (x * 131 + y * 1117 + p * 29 + d * 53) = x * 131 + y * 1117 + p * 29 + d * 53 := by unfold wrap64; omega
      simp only [w1, w2, w3, w4, w5, w6, w7, w8, w9, w10]
      generalize hz : x * 131 + y * 1117 + p * 29 + d * 53 = z
      have hz0 : 0 ≤ z := by omega
      have hz1 : z ≤ 1000000000000 := by omega
      have hd2 : 0 ≤ Int.tdiv z 64 := Int.tdiv_nonneg hz0 (by omega)
      have hd3 : Int.tdiv z 64 ≤ z := Int.tdiv_le_self _ hz0
      have w11 : wrap64 (Int.tdiv z 64) = Int.tdiv z 64 := by unfold wrap64; omega
      rw [w11]
      exact xor_i64 _ _ hz0 (by omega) hd2 (by omega)
  unfold spec_l20Rd_pick.f
  rw [e1]
  refine Dw.ite (fun _ => hj _ (by simp)) (fun h => hj _ (fun h2 => ⟨by omega, ?_⟩))
  have : ¬ (b.length : Int) = 0 := by simpa using h2
  omega

theorem odd_d {b : List Int} (hb : Bytes b) {p : Int} (h0 : 0 ≤ p) (h1 : p ≤ 1000000000) (n : Int) {k : Nat} (hk : 0 < k) : Dw (spec_l20Rd_odd.f k b p n) (fun r => p ≤ r.2 ∧ r.2 ≤ p + 1) := by
  unfold spec_l20Rd_odd.f
  refine Dw.ite (fun _ => (pick_d hb h0 h1 n hk).bind fun r ⟨h2, _, _⟩ => Dw.some ?_) (fun _ => Dw.some ?_)
  · simp only; omega
  · simp only; omega

theorem workers_d {b : List Int} (hb : Bytes b) (n : Int) {p : Int} (h0 : 0 ≤ p) (h1 : p ≤ 800000000) {k : Nat} (hk : 3 < k) : Dw (spec_l20Workers.f k b p n) (fun r => p ≤ r.2 ∧ r.2 ≤ p + 2 ∧ (-1 ≤ r.1 ∧ r.1 ≤ 7)) := by
  unfold spec_l20Workers.f
  refine (odd_d hb h0 (by omega) n (by omega)).bind fun r1 ⟨a1, a2⟩ => Dw.ite (fun _ => ?_) (fun _ => ?_)
  · simp only [Option.bind_some]
    refine (pick_d hb (by omega) (by omega) 3 (by omega)).bind fun r2 ⟨b1, b2, b3⟩ => Dw.pos b2 (Dw.pos (by simp only [List.length_cons, List.length_nil]; omega) (Dw.some ⟨by simp only; omega, by simp only; omega, ?_⟩))
    have := rd_mem (xs := [0, 7, -1]) b2 (by simp only [List.length_cons, List.length_nil]; omega)
    simp only [List.mem_cons, List.not_mem_nil, or_false] at this
    omega
  · refine (pick_d hb (by omega) (by omega) 6 (by omega)).bind fun r2 ⟨b1, b2, b3⟩ => Dw.some ⟨by simp only; omega, by simp only; omega, ?_⟩
    have : wrap64 (1 + r2.1) = 1 + r2.1 := by unfold wrap64; omega
    simp only [this]
    omega

theorem l1In_f (a b c : Int) : spec_l1In.f a b c = some (decide (b ≤ a ∧ a ≤ c)) := by
  unfold spec_l1In.f
  by_cases h : b ≤ a
  · rw [if_pos h]; simp [h]
  · rw [if_neg h]; simp [h]

theorem specTurn_l (a : Int) (n : Nat) (b : Int) (h : a = n) (h1 : 1 ≤ n) (hn : n ≤ 6) (hb : 0 ≤ b) : ∀ d k i : Nat, n = i + d → d < k → spec_TurnOrder.l0 k a b ((List.range i).map fun (i : Nat) => Int.tmod (wrap64 (Int.tmod b a + (i : Int))) a) i = some ((List.range n).map fun (i : Nat) => Int.tmod (wrap64 (Int.tmod b a + (i : Int))) a) := by
  intro d
  induction d with
  | zero =>
    intro k i hi hk
    obtain ⟨k, rfl, hk⟩ := kk_pred hk
    obtain rfl : n = i := by omega
    simp only [spec_TurnOrder.l0]
    rw [if_neg (by omega)]
  | succ d ih =>
    intro k i hi hk
    obtain ⟨k, rfl, hk⟩ := kk_pred hk
    simp only [spec_TurnOrder.l0, l1In_f, Option.bind_some, decide_eq_true_eq]
    rw [if_pos (by omega), if_pos (by omega), if_pos (by omega), if_neg (by omega), if_pos (by simp; omega), wS _ (by omega), ← ih k (i + 1) (by omega) (by omega), List.range_succ, List.map_append]
    rfl
theorem specTurn_f (a b : Int) (k : Nat) (hk : 20 < k) : spec_TurnOrder.f k a b = some (if (1 ≤ a ∧ a ≤ 6) ∧ 0 ≤ b then (List.range a.toNat).map fun (i : Nat) => Int.tmod (wrap64 (Int.tmod b a + (i : Int))) a else []) := by
  unfold spec_TurnOrder.f
  by_cases h : (1 ≤ a ∧ a ≤ 6) ∧ 0 ≤ b
  · rw [if_pos h]
    obtain ⟨n, rfl⟩ := Int.eq_ofNat_of_zero_le (a := a) (by omega)
    exact specTurn_l n n b rfl (by omega) (by omega) h.2 n k 0 (by omega) (by omega)
  · rw [if_neg h]
    obtain ⟨k, rfl, hk⟩ := kk_pred hk
    simp only [spec_TurnOrder.l0, l1In_f, Option.bind_some, decide_eq_true_eq]
    by_cases h0 : 0 < a
    · rw [if_pos h0]
      by_cases h1 : 1 ≤ a ∧ a ≤ 6
      · rw [if_pos h1, if_neg (by omega)]
      · rw [if_neg h1]
    · rw [if_neg h0]

theorem order2_d {b : List Int} (hb : Bytes b) {p : Int} (h0 : 0 ≤ p) (h1 : p ≤ 800000000) {k : Nat} (hk : 3 < k) (v : List Int) (q : Bool) (hq : q = true → 0 < v.length) : Dw (spec_l20Order.j2 k v q b p) (fun r => p ≤ r.2 ∧ r.2 ≤ p + 2 ∧ r.1.length = v.length) := by
  obtain ⟨k, rfl, hk⟩ := kk_pred hk
  simp only [spec_l20Order.j2]
  refine Dw.ite (fun hc => ?_) (fun _ => Dw.some ⟨by simp only; omega, by simp only; omega, rfl⟩)
  have hv := hq hc
  exact (pick_d hb h0 (by omega) _ (by omega)).bind fun r2 ⟨b1, b2, b3⟩ => (pick_d hb (by omega) (by omega) 8 (by omega)).bind fun r3 ⟨c1, c2, c3⟩ => Dw.pos b2 (Dw.pos (b3 (by omega)) (Dw.some ⟨by simp only; omega, by simp only; omega, by simp⟩))
theorem order1_d {b : List Int} (hb : Bytes b) (n : Int) {p : Int} (h0 : 0 ≤ p) (h1 : p ≤ 700000000) {k : Nat} (hk : 5 < k) (v : List Int) : Dw (spec_l20Order.j1 k n v b p) (fun r => p ≤ r.2 ∧ r.2 ≤ p + 3 ∧ r.1.length = v.length) := by
  obtain ⟨k, rfl, hk⟩ := kk_pred hk
  simp only [spec_l20Order.j1]
  refine Dw.ite (fun hc => (odd_d hb h0 (by omega) n (by omega)).bind fun r1 ⟨a1, a2⟩ => (order2_d hb (by omega) (by omega) (by omega) v _ (fun _ => by omega)).mono fun r h => by omega) (fun _ => (order2_d hb h0 (by omega) (by omega) v _ (fun h => by simp at h)).mono fun r h => by omega)
theorem order0_d {b : List Int} (hb : Bytes b) (n : Int) : ∀ d k i : Nat, ∀ (v : List Int) (p : Int), 0 ≤ p → p + d ≤ 600000000 → v.length = i + d + 1 → v.length ≤ 100 → d + 8 < k → Dw (spec_l20Order.l0 k n v i b p) (fun r => p ≤ r.2 ∧ r.2 ≤ p + d + 3 ∧ r.1.length = v.length) := by
  intro d
  induction d with
  | zero =>
    intro k i v p h0 h1 hv hl hk
    obtain ⟨k, rfl, hk⟩ := kk_pred hk
    simp only [spec_l20Order.l0]
    rw [wS _ (by omega)]
    exact Dw.neg (by omega) ((order1_d hb n h0 (by omega) (by omega) v).mono fun r h => by omega)
  | succ d ih =>
    intro k i v p h0 h1 hv hl hk
    obtain ⟨k, rfl, hk⟩ := kk_pred hk
    simp only [spec_l20Order.l0]
    rw [wS _ (by omega)]
    have e : wrap64 ((v.length : Int) - (i : Int)) = (v.length : Int) - (i : Int) := by unfold wrap64; omega
    rw [e]
    refine Dw.pos (by omega) ((pick_d hb h0 (by omega) _ (by omega)).bind fun r2 ⟨b1, b2, b3⟩ => ?_)
    have := b3 (by omega)
    have e2 : wrap64 ((i : Int) + r2.1) = (i : Int) + r2.1 := by unfold wrap64; omega
    rw [e2]
    exact Dw.pos (by omega) (Dw.pos (by omega) (Dw.pos (by omega) (Dw.pos (by omega) ((ih k (i + 1) _ r2.2 (by omega) (by omega) (by simp; omega) (by simp; omega) (by omega)).mono fun r h => by simp only [List.length_set] at h; omega))))
theorem order_d {b : List Int} (hb : Bytes b) (m n : Int) (hm : -1 ≤ m ∧ m ≤ 7) {p : Int} (h0 : 0 ≤ p) (h1 : p ≤ 500000000) {k : Nat} (hk : 60 < k) : Dw (spec_l20Order.f k b p m n) (fun r => p ≤ r.2 ∧ r.2 ≤ p + 30 ∧ r.1.length ≤ 7) := by
  unfold spec_l20Order.f
  refine (pick_d hb h0 (by omega) 9 (by omega)).bind fun r1 ⟨a1, a2, a3⟩ => ?_
  rw [specTurn_f m r1.1 k (by omega)]
  simp only [Option.bind_some]
  obtain ⟨v, hv, hvl⟩ : ∃ v, v = (if (1 ≤ m ∧ m ≤ 6) ∧ 0 ≤ r1.1 then (List.range m.toNat).map fun (i : Nat) => Int.tmod (wrap64 (Int.tmod r1.1 m + (i : Int))) m else []) ∧ v.length ≤ 7 := by
    refine ⟨_, rfl, ?_⟩
    split
    · simp; omega
    · simp
  rw [← hv]
  refine (pick_d hb (by omega) (by omega) 2 (by omega)).bind fun r2 ⟨b1, b2, b3⟩ => Dw.ite (fun _ => ?_) (fun _ => (order1_d hb n (by omega) (by omega) (by omega) v).mono fun r h => by omega)
  by_cases h7 : 0 < v.length
  · obtain ⟨d, hd⟩ : ∃ d, v.length = 0 + d + 1 := ⟨v.length - 1, by omega⟩
    exact (order0_d hb n d k 0 v r2.2 (by omega) (by omega) hd (by omega) (by omega)).mono fun r h => by omega
  · obtain ⟨k, rfl, hk⟩ := kk_pred hk
    simp only [spec_l20Order.l0]
    have e : wrap64 ((0 : Int) + 1) = 1 := by unfold wrap64; omega
    rw [e]
    exact Dw.neg (by omega) ((order1_d hb n (by omega) (by omega) (by omega) v).mono fun r h => by omega)

def seenL (l : List Int) : List Bool := (List.range 6).map fun (i : Nat) => decide ((i : Int) ∈ l)
theorem seenL_length (l : List Int) : (seenL l).length = 6 := by simp [seenL]
theorem seenL_rd (l : List Int) (x : Nat) (h : x < 6) : rdOf false (seenL l) (x : Int) = decide ((x : Int) ∈ l) := by
  rw [rdOfN _ _ _ (by simpa [seenL] using h)]
  simp [seenL]
theorem seenL_set (l : List Int) (x : Nat) (h : x < 6) : (seenL l).set x true = seenL (l ++ [(x : Int)]) := by
  apply List.ext_getElem
  · simp [seenL]
  · intro j h1 h2
    rw [List.getElem_set]
    simp only [seenL, List.getElem_map, List.getElem_range, List.mem_append, List.mem_singleton]
    by_cases e : x = j
    · subst e; simp
    · rw [if_neg e]
      have : ¬ (j : Int) = (x : Int) := by omega
      simp [this]
theorem specOrder_l (l : List Int) (n : Int) (h1 : 1 ≤ n) (h6 : n ≤ 6) (hl : l.length ≤ 6) : ∀ d k i : Nat, l.length = i + d → d < k → (∀ j : Nat, j < i → 0 ≤ rd l j ∧ rd l j < n ∧ rd l j ∉ l.take j) → spec_OrderValid.l0 k l n (seenL (l.take i)) i = some (ordOk l n) := by
  intro d
  induction d with
  | zero =>
    intro k i hi hk hg
    obtain ⟨k, rfl, hk⟩ := kk_pred hk
    simp only [spec_OrderValid.l0]
    rw [if_neg (by omega), ordOk_all (fun j hj => hg j (by omega))]
  | succ d ih =>
    intro k i hi hk hg
    obtain ⟨k, rfl, hk⟩ := kk_pred hk
    have hw : wrap64 (n - 1) = n - 1 := by unfold wrap64; omega
    simp only [spec_OrderValid.l0, l1In_f, Option.bind_some, decide_eq_true_eq, hw]
    rw [if_pos (by omega), if_pos (by omega)]
    by_cases hr : 0 ≤ rd l i ∧ rd l i ≤ n - 1
    · obtain ⟨x, hx⟩ : ∃ x : Nat, rd l i = (x : Int) := ⟨(rd l i).toNat, by omega⟩
      have hx6 : x < 6 := by omega
      rw [if_pos hr, if_pos hr.1, if_pos (by rw [seenL_length]; omega), hx, seenL_rd _ _ hx6]
      by_cases hm : (x : Int) ∈ l.take i
      · rw [if_pos (by simpa using hm), ordOk_bad (k := i) (by omega) (fun h => h.2.2 (by rw [hx]; exact hm))]
      · rw [if_neg (by simpa using hm), Int.toNat_natCast, seenL_set _ _ hx6, wS _ (by omega), ← hx, ← take_snoc_rd l i (by omega)]
        exact ih k (i + 1) (by omega) (by omega) (fun j hj => if e : j = i then e ▸ ⟨hr.1, by omega, by rw [hx]; exact hm⟩ else hg j (by omega))
    · rw [if_neg hr, ordOk_bad (k := i) (by omega) (fun h => hr ⟨h.1, by omega⟩)]
theorem specOrder_f (l : List Int) (n : Int) (k : Nat) (hk : 20 < k) : spec_OrderValid.f k l n = impl_OrderValid.f l n := by
  obtain ⟨k, rfl, hk⟩ := kk_pred hk
  simp only [spec_OrderValid.f, impl_OrderValid.f, l1In_f, Option.bind_some, decide_eq_true_eq, spec_OrderValid.j0]
  by_cases h1 : 1 ≤ n ∧ n ≤ 6
  · rw [if_pos h1]
    by_cases h2 : (l.length : Int) = n
    · rw [if_neg (by simp [h2]), if_pos (by omega)]
      have hz : List.replicate 6 false = seenL (l.take 0) := by simp [seenL]; rfl
      have := specOrder_l l n h1.1 h1.2 (by omega) l.length k 0 (by omega) (by omega) (fun j hj => by omega)
      rw [hz]
      refine Eq.trans this ?_
      simp [h1, h2]
    · rw [if_pos (by simp [h2])]
      simp [h2]
  · rw [if_neg h1]
    have : ¬ (1 ≤ n ∧ n ≤ 6 ∧ (l.length : Int) = n) := fun h => h1 ⟨h.1, h.2.1⟩
    simp [this]

end Go.Proofs.Ytloiafnoekpaoaa.PFnOrderValid
namespace Go.Proofs.Ytloiafnoekpaoaa.Pure
open Go.RowKit Go.Proofs.Ytloiafnoekpaoaa.PFnOrderValid Go.Proofs.YtloiafnoekpaoaaW.PrintWords Go.Proofs.YtloiafnoekpaoaaW.PrintLast Go.Proofs.YtloiafnoekpaoaaW.PrintMore
theorem ordOk_reverse (v : List Int) (n : Int) : ordOk v.reverse n = ordOk v n := by
  unfold ordOk
  refine decide_eq_decide.2 ?_
  have h : v.reverse.Nodup ↔ v.Nodup := by
    unfold List.Nodup
    rw [List.pairwise_reverse]
    constructor <;> exact fun h => h.imp (fun h => Ne.symm h)
  rw [h]
  simp
theorem implOrder_rev (v : List Int) (n : Int) : impl_OrderValid.f v.reverse n = impl_OrderValid.f v n := by
  unfold impl_OrderValid.f
  rw [ordOk_reverse, List.length_reverse]
theorem implOrder_more (v : List Int) (n x : Int) : impl_OrderValid.f (x :: x :: v) n = some false := by
  unfold impl_OrderValid.f ordOk
  simp
theorem turned_l (v : List Int) (n : Int) (q : Bool) (hq : impl_OrderValid.f v n = some q) (hv : v.length ≤ 100) : ∀ d k : Nat, ∀ o : List Int, o ++ (v.take d).reverse = v.reverse → d ≤ v.length → d + 60 < k → laws_FnOrderValid.l0 k v n q o ((d : Int) - 1) = some true := by
  intro d
  induction d with
  | zero =>
    intro k o ho hd hk
    obtain ⟨k, rfl, hk⟩ := kk_pred hk
    have e : o = v.reverse := by simpa using ho
    subst e
    simp only [laws_FnOrderValid.l0]
    rw [if_neg (by omega), implOrder_rev, hq]
    simp only [Option.bind_some, beq_self_eq_true, if_true, List.length_cons, List.length_nil]
    by_cases h : (v.length : Int) = 0
    · rw [if_pos h]
      simp [alive_f (show 2 < k by omega)]
    · rw [if_neg h, if_pos (by omega), if_pos (by omega)]
      cases v with
      | nil => simp at h
      | cons x v =>
        have e : rd (x :: v) 0 = x := rfl
        rw [e, List.cons_append, List.nil_append, implOrder_more]
        simp [alive_f (show 2 < k by omega)]
  | succ d ih =>
    intro k o ho hd hk
    obtain ⟨k, rfl, hk⟩ := kk_pred hk
    have hd' : d < v.length := by omega
    have hol : o.length ≤ 100 := by
      have := congrArg List.length ho
      simp at this
      omega
    have e1 : wrap64 ((d : Int) - 1) = (d : Int) - 1 := by unfold wrap64; omega
    have e2 : (((d + 1 : Nat) : Int) - 1) = (d : Int) := by omega
    simp only [laws_FnOrderValid.l0, e1, e2]
    rw [if_pos (by omega), if_pos (by omega), if_pos (by omega), if_pos (by omega), rdN _ _ hd']
    refine ih k _ ?_ (by omega) (by omega)
    rw [← ho, List.append_assoc, List.take_succ_eq_append_getElem hd', List.reverse_append]
    rfl
theorem FnOrderValid : laws_FnOrderValid.Pure := by
  intro l hl hl8 hw
  refine ⟨1000, ?_⟩
  unfold laws_FnOrderValid.f
  by_cases h : (l.length : Int) > 1048576
  · rw [if_pos h]
  · rw [if_neg h]
    obtain ⟨r, hr, hrl⟩ : Dw (spec_DrawOrderValid.f 1000 l) (fun r => r.1.length ≤ 7) := by
      unfold spec_DrawOrderValid.f
      exact (open_d hw).bind fun r ⟨hb, hp⟩ => (workers_d hb 6 (by omega) (by omega) (by omega)).bind fun r1 ⟨h1, h2, h3⟩ => (order_d hb _ 3 h3 (by omega) (by omega) (by omega)).bind fun r' h' => Dw.some h'.2.2
    rw [hr]
    obtain ⟨v, n⟩ := r
    obtain ⟨q, hq⟩ : ∃ q, impl_OrderValid.f v n = some q := ⟨_, rfl⟩
    have e : wrap64 ((v.length : Int) - 1) = (v.length : Int) - 1 := by unfold wrap64; simp only at hrl; omega
    simp only [Option.bind_some, specOrder_f v n 1000 (by omega), hq, e]
    rw [if_neg (by simp)]
    exact turned_l v n q hq (by simp only at hrl; omega) v.length 1000 [] (by simp) (by omega) (by simp only at hrl; omega)

end Go.Proofs.Ytloiafnoekpaoaa.Pure
