/- Moved vertices have other owners: with the same number of workers none is moved; it is the same in both directions. No further condition. -/
import Derived.Test.YtloiafnoekpaoaaPFnMovedVerticesx
import Derived.Test.YtloiafnoekpaoaaL
import Derived.Test.YtloiafnoekpaoaaT
set_option linter.unusedVariables false
set_option linter.unusedSimpArgs false
namespace Go.Proofs.Ytloiafnoekpaoaa.PFnMovedVertices
open Go.RowKit Go.Proofs.YtloiafnoekpaoaaW.PrintWords Go.Proofs.YtloiafnoekpaoaaW.PrintLast Go.Proofs.YtloiafnoekpaoaaW.PrintMore
theorem alive_f {k : Nat} (hk : 2 < k) : laws_alive.f k = some true := by
  obtain ⟨k, rfl, hk⟩ := kk_pred hk
  obtain ⟨k, rfl, hk⟩ := kk_pred (show 1 < k by omega)
  simp [laws_alive.f, impl_CheckSum.f, impl_BytesValid.f, impl_BytesValid.l0, impl_CheckSum.l0]

theorem sameInts_l (l m : List Int) (hl : l.length = m.length) (hb : l.length < 4611686018427387904) : ∀ d k i : Nat, l.length = i + d → d < k → laws_sameInts.l0 k l m i = some (decide (l.drop i = m.drop i)) := by
  intro d
  induction d with
  | zero =>
    intro k i hi hk
    obtain ⟨k, rfl, hk⟩ := kk_pred hk
    simp only [laws_sameInts.l0]
    rw [if_neg (by omega), List.drop_of_length_le (by omega), List.drop_of_length_le (by omega)]
    simp
  | succ d ih =>
    intro k i hi hk
    obtain ⟨k, rfl, hk⟩ := kk_pred hk
    simp only [laws_sameInts.l0]
    rw [if_pos (by omega), if_pos (by omega), if_pos (by omega), rdN _ _ (by omega), rdN _ _ (by omega), wS _ (by omega), List.drop_eq_getElem_cons (by omega : i < l.length), List.drop_eq_getElem_cons (by omega : i < m.length)]
    by_cases e : l[i] = m[i]
    · rw [if_pos e, ih k (i + 1) (by omega) (by omega), e]
      simp only [List.cons.injEq, true_and]
    · rw [if_neg e]
      simp only [List.cons.injEq, e, false_and, decide_false]
theorem sameInts_f (l m : List Int) (hb : l.length < 4611686018427387904) (k : Nat) (hk : l.length < k) : laws_sameInts.f k l m = some (decide (l = m)) := by
  unfold laws_sameInts.f
  by_cases h : l.length = m.length
  · rw [if_pos (by omega)]
    have := sameInts_l l m h hb l.length k 0 (by omega) hk
    simpa using this
  · rw [if_neg (by omega)]
    have : ¬ l = m := fun e => h (by rw [e])
    simp [this]

theorem open_d {l : List Int} (hl : ∀ x ∈ l, (Lit.int .u8 x).wf = true) : Dw (spec_l20Open.f l) (fun r => Bytes r.1 ∧ r.2 = 0) := by
  have hb : ∀ x ∈ l, 0 ≤ x ∧ x ≤ 255 := fun x hx => by
    have := hl x hx
    simp [Lit.wf, IntKind.min, IntKind.max, IntKind.bits, IntKind.signed] at this
    omega
  unfold spec_l20Open.f
  refine Dw.ite (fun h => Dw.pos (by omega) (Dw.some ⟨⟨fun x hx => hb x (List.mem_of_mem_take hx), by simp; omega⟩, rfl⟩)) (fun h => Dw.some ⟨⟨hb, by show l.length ≤ 2000; omega⟩, rfl⟩)

theorem pick_d {b : List Int} (hb : Bytes b) {p : Int} (h0 : 0 ≤ p) (h1 : p ≤ 1000000000) (n : Int) {k : Nat} (hk : 0 < k) : Dw (spec_l20Rd_pick.f k b p n) (PickOk n p) := by
  obtain ⟨k, rfl, _⟩ := kk_pred hk
  have e1 : wrap64 (p + 1) = p + 1 := by unfold wrap64; omega
  have e2 : wrap64 (p + 1 - 1) = p := by unfold wrap64; omega
  have e3 : wrap64 (p * 7) = p * 7 := by unfold wrap64; omega
  have e4 : wrap64 (p * 7 + 3) = p * 7 + 3 := by unfold wrap64; omega
  have hj : ∀ c : Bool, (c = false → 1 ≤ n ∧ 0 < b.length) → Dw (spec_l20Rd_pick.j0 (k + 1) n c b (p + 1)) (PickOk n p) := by
    intro c hc
    simp only [spec_l20Rd_pick.j0, e2, e3, e4]
    refine Dw.ite (fun _ => Dw.some ⟨rfl, by omega, fun h => by omega⟩) (fun h => ?_)
    obtain ⟨hn, hl⟩ := hc (by simpa using h)
    refine Dw.ite (fun hlt => ?_) (fun hge => ?_)
    · refine Dw.pos h0 (Dw.neg (by omega) (Dw.some ⟨rfl, ?_, fun _ => ?_⟩))
      · have hr := rd_byte hb.1 p
        have : wrap64 (rd b p) = rd b p := by unfold wrap64; omega
        simp only [this]
        exact Int.tmod_nonneg _ hr.1
      · exact Int.tmod_lt_of_pos _ (by omega)
    · have hlp : (0 : Int) < (b.length : Int) := by omega
      refine Dw.neg (by omega) (Dw.pos (Int.tmod_nonneg _ h0) (Dw.pos (Int.tmod_lt_of_pos _ hlp) (Dw.pos (Int.tmod_nonneg _ (by omega)) (Dw.pos (Int.tmod_lt_of_pos _ hlp) (Dw.neg (by omega) (Dw.some ⟨rfl, ?_, fun _ => Int.tmod_lt_of_pos _ (by omega)⟩))))))
      have hx := rd_byte hb.1 (Int.tmod p b.length)
      have hy := rd_byte hb.1 (Int.tmod (p * 7 + 3) b.length)
      have hd0 : 0 ≤ Int.tdiv p b.length := Int.tdiv_nonneg h0 (by omega)
      have hd1 : Int.tdiv p b.length ≤ p := Int.tdiv_le_self _ h0
      refine Int.tmod_nonneg _ ?_
      generalize rd b (Int.tmod p b.length) = x at *
      generalize rd b (Int.tmod (p * 7 + 3) b.length) = y at *
      generalize Int.tdiv p b.length = d at *
      have w1 : wrap64 x = x := by unfold wrap64; omega
      have w2 : wrap64 y = y := by unfold wrap64; omega
      have w3 : wrap64 d = d := by unfold wrap64; omega
      have w4 : wrap64 (x * 131) = x * 131 := by unfold wrap64; omega
      have w5 : wrap64 (y * 1117) = y * 1117 := by unfold wrap64; omega
      have w6 : wrap64 (p * 29) = p * 29 := by unfold wrap64; omega
      have w7 : wrap64 (d * 53) = d * 53 := by unfold wrap64; omega
      have w8 : wrap64 (x * 131 + y * 1117) = x * 131 + y * 1117 := by unfold wrap64; omega
      have w9 : wrap64 (x * 131 + y * 1117 + p * 29) = x * 131 + y * 1117 + p * 29 := by unfold wrap64; omega
      have w10 : wrap64 (x * 131 + y * 1117 + p * 29 + d * 53) = x * 131 + y * 1117 + p * 29 + d * 53 := by unfold wrap64; omega
      simp only [w1, w2, w3, w4, w5, w6, w7, w8, w9, w10]
      generalize hz : x * 131 + y * 1117 + p * 29 + d * 53 = z
      have hz0 : 0 ≤ z := by omega
      have hz1 : z ≤ 1000000000000 := by omega
      have hd2 : 0 ≤ Int.tdiv z 64 := Int.tdiv_nonneg hz0 (by omega)
      have hd3 : Int.tdiv z 64 ≤ z := Int.tdiv_le_self _ hz0
      have w11 : wrap64 (Int.tdiv z 64) = Int.tdiv z 64 := by unfold wrap64; omega
      rw [w11]
      exact xor_i64 _ _ hz0 (by omega) hd2 (by omega)
  unfold spec_l20Rd_pick.f
  rw [e1]
  refine Dw.ite (fun _ => hj _ (by simp)) (fun h => hj _ (fun h2 => ⟨by omega, ?_⟩))
  have : ¬ (b.length : Int) = 0 := by simpa using h2
  omega

theorem odd_d {b : List Int} (hb : Bytes b) {p : Int} (h0 : 0 ≤ p) (h1 : p ≤ 1000000000) (n : Int) {k : Nat} (hk : 0 < k) : Dw (spec_l20Rd_odd.f k b p n) (fun r => p ≤ r.2 ∧ r.2 ≤ p + 1) := by
  unfold spec_l20Rd_odd.f
  refine Dw.ite (fun _ => (pick_d hb h0 h1 n hk).bind fun r ⟨h2, _, _⟩ => Dw.some ?_) (fun _ => Dw.some ?_)
  · simp only; omega
  · simp only; omega

theorem workers_d {b : List Int} (hb : Bytes b) (n : Int) {p : Int} (h0 : 0 ≤ p) (h1 : p ≤ 800000000) {k : Nat} (hk : 3 < k) : Dw (spec_l20Workers.f k b p n) (fun r => p ≤ r.2 ∧ r.2 ≤ p + 2 ∧ (-1 ≤ r.1 ∧ r.1 ≤ 7)) := by
  unfold spec_l20Workers.f
  refine (odd_d hb h0 (by omega) n (by omega)).bind fun r1 ⟨a1, a2⟩ => Dw.ite (fun _ => ?_) (fun _ => ?_)
  · simp only [Option.bind_some]
    refine (pick_d hb (by omega) (by omega) 3 (by omega)).bind fun r2 ⟨b1, b2, b3⟩ => Dw.pos b2 (Dw.pos (by simp only [List.length_cons, List.length_nil]; omega) (Dw.some ⟨by simp only; omega, by simp only; omega, ?_⟩))
    have := rd_mem (xs := [0, 7, -1]) b2 (by simp only [List.length_cons, List.length_nil]; omega)
    simp only [List.mem_cons, List.not_mem_nil, or_false] at this
    omega
  · refine (pick_d hb (by omega) (by omega) 6 (by omega)).bind fun r2 ⟨b1, b2, b3⟩ => Dw.some ⟨by simp only; omega, by simp only; omega, ?_⟩
    have : wrap64 (1 + r2.1) = 1 + r2.1 := by unfold wrap64; omega
    simp only [this]
    omega

theorem l1In_f (a b c : Int) : spec_l1In.f a b c = some (decide (b ≤ a ∧ a ≤ c)) := by
  unfold spec_l1In.f
  by_cases h : b ≤ a
  · rw [if_pos h]; simp [h]
  · rw [if_neg h]; simp [h]

theorem specOwner_f (v n : Nat) (hv : v ≤ 15) (h1 : 1 ≤ n) (h6 : n ≤ 6) : spec_OwnerOf.f (v : Int) (n : Int) = some ((ownN n v : Nat) : Int) := by
  simp only [spec_OwnerOf.f, l1In_f, Option.bind_some]
  rw [if_pos (by simp; omega), if_pos (by simp; omega), if_neg (by omega)]
  have e : wrap64 (wrap64 (13 * (v : Int)) + 5) = ((13 * v + 5 : Nat) : Int) := by unfold wrap64; omega
  rw [e]
  rfl

theorem specMoved_bad (m a b : Int) (h : ¬ ((0 ≤ m ∧ m ≤ 16) ∧ (1 ≤ a ∧ a ≤ 6) ∧ 1 ≤ b ∧ b ≤ 6)) (k : Nat) (hk : 5 < k) : spec_MovedVertices.f k m a b = some [] := by
  obtain ⟨k, rfl, hk⟩ := kk_pred hk
  obtain ⟨k, rfl, hk⟩ := kk_pred (show 3 < k by omega)
  simp only [spec_MovedVertices.f, spec_MovedVertices.l0, spec_MovedVertices.j1, l1In_f, Option.bind_some, decide_eq_true_eq, Bool.false_eq_true, if_false]
  by_cases h0 : 0 < m
  · rw [if_pos h0]
    by_cases h1 : 0 ≤ m ∧ m ≤ 16
    · rw [if_pos h1]
      by_cases h2 : 1 ≤ a ∧ a ≤ 6
      · rw [if_pos h2, if_neg (by omega)]
      · rw [if_neg h2]
    · rw [if_neg h1]
  · rw [if_neg h0]
theorem specMoved_l (n a b : Nat) (hn : n ≤ 16) (ha : 1 ≤ a) (ha6 : a ≤ 6) (hb : 1 ≤ b) (hb6 : b ≤ 6) : ∀ d k i : Nat, n = i + d → 2 * d + 1 < k → spec_MovedVertices.l0 k n a b (movedL (i : Int) a b) i = some (movedL (n : Int) a b) := by
  intro d
  induction d with
  | zero =>
    intro k i hi hk
    obtain ⟨k, rfl, hk⟩ := kk_pred hk
    obtain ⟨k, rfl, hk⟩ := kk_pred (show 0 < k by omega)
    obtain rfl : n = i := by omega
    simp only [spec_MovedVertices.l0, spec_MovedVertices.j1, Bool.false_eq_true, if_false]
    rw [if_neg (by omega)]
  | succ d ih =>
    intro k i hi hk
    obtain ⟨k, rfl, hk⟩ := kk_pred hk
    obtain ⟨k, rfl, hk⟩ := kk_pred (show 2 * d + 1 < k by omega)
    simp only [spec_MovedVertices.l0, spec_MovedVertices.j1, l1In_f, Option.bind_some, decide_eq_true_eq]
    rw [if_pos (by omega), if_pos (by omega), if_pos (by omega), if_pos (by omega), specOwner_f i a (by omega) ha ha6, specOwner_f i b (by omega) hb hb6]
    simp only [Option.bind_some]
    rw [wS _ (by omega)]
    have hs := movedL_succ i a b
    have hl := movedL_len i a b
    rw [Int.toNat_natCast, Int.toNat_natCast] at hs
    by_cases e : ownN a i = ownN b i
    · rw [if_pos (by rw [e]), ← ih k (i + 1) (by omega) (by omega), hs]
      simp [e]
    · rw [if_neg (by omega), if_pos (by omega), ← ih k (i + 1) (by omega) (by omega), hs]
      simp [e]
theorem specMoved_f (m a b : Int) (k : Nat) (hk : 40 < k) : spec_MovedVertices.f k m a b = impl_MovedVertices.f m a b := by
  unfold impl_MovedVertices.f
  by_cases h : (0 ≤ m ∧ m ≤ 16) ∧ (1 ≤ a ∧ a ≤ 6) ∧ 1 ≤ b ∧ b ≤ 6
  · rw [if_pos h]
    obtain ⟨n, rfl⟩ := Int.eq_ofNat_of_zero_le h.1.1
    obtain ⟨a, rfl⟩ := Int.eq_ofNat_of_zero_le (a := a) (by omega)
    obtain ⟨b, rfl⟩ := Int.eq_ofNat_of_zero_le (a := b) (by omega)
    exact specMoved_l n a b (by omega) (by omega) (by omega) (by omega) (by omega) n k 0 (by omega) (by omega)
  · rw [if_neg h]
    exact specMoved_bad m a b h k (by omega)

end Go.Proofs.Ytloiafnoekpaoaa.PFnMovedVertices
namespace Go.Proofs.Ytloiafnoekpaoaa.Pure
open Go.RowKit Go.Proofs.Ytloiafnoekpaoaa.PFnMovedVertices Go.Proofs.YtloiafnoekpaoaaW.PrintWords Go.Proofs.YtloiafnoekpaoaaW.PrintLast Go.Proofs.YtloiafnoekpaoaaW.PrintMore
def movedR (m a b : Int) : List Int := if (0 ≤ m ∧ m ≤ 16) ∧ (1 ≤ a ∧ a ≤ 6) ∧ 1 ≤ b ∧ b ≤ 6 then movedL m a b else []
theorem implMoved_f (m a b : Int) : impl_MovedVertices.f m a b = some (movedR m a b) := rfl
theorem movedR_len (m a b : Int) : (movedR m a b).length ≤ 16 := by
  unfold movedR
  split
  · rename_i h
    obtain ⟨n, rfl⟩ := Int.eq_ofNat_of_zero_le h.1.1
    have := movedL_len n a b
    omega
  · simp
theorem movedR_comm (m a b : Int) : movedR m b a = movedR m a b := by
  have e : movedL m b a = movedL m a b := by
    unfold movedL
    congr 1
    refine List.filter_congr fun v _ => ?_
    refine decide_eq_decide.2 ⟨Ne.symm, Ne.symm⟩
  unfold movedR
  rw [e]
  by_cases h : (0 ≤ m ∧ m ≤ 16) ∧ (1 ≤ a ∧ a ≤ 6) ∧ 1 ≤ b ∧ b ≤ 6
  · rw [if_pos h, if_pos ⟨h.1, h.2.2, h.2.1⟩]
  · rw [if_neg h, if_neg (fun g => h ⟨g.1, g.2.2, g.2.1⟩)]
theorem movedR_self (m a : Int) : movedR m a a = [] := by
  unfold movedR movedL
  split <;> simp
theorem movedR_mem {m a b v : Int} (h : v ∈ movedR m a b) : ((0 ≤ v ∧ v ≤ 15) ∧ (1 ≤ a ∧ a ≤ 6) ∧ 1 ≤ b ∧ b ≤ 6) ∧ ownN a.toNat v.toNat ≠ ownN b.toNat v.toNat := by
  unfold movedR at h
  split at h
  · rename_i hc
    unfold movedL at h
    obtain ⟨n, hn, rfl⟩ := List.mem_map.1 h
    have h1 := List.mem_filter.1 hn
    have h2 := List.mem_range.1 h1.1
    exact ⟨⟨by omega, hc.2⟩, by simpa using h1.2⟩
  · simp at h
theorem moved_l (m a b : Int) : ∀ d k i : Nat, (movedR m a b).length = i + d → d + 30 < k → laws_FnMovedVertices.l0 k m a b (movedR m a b) i = some true := by
  have hl := movedR_len m a b
  intro d
  induction d with
  | zero =>
    intro k i hi hk
    obtain ⟨k, rfl, hk⟩ := kk_pred hk
    simp only [laws_FnMovedVertices.l0, implMoved_f, movedR_comm m a b, movedR_self, Option.bind_some]
    rw [if_neg (by omega), sameInts_f _ _ (by omega) k (by omega)]
    simp [alive_f (show 2 < k by omega)]
  | succ d ih =>
    intro k i hi hk
    obtain ⟨k, rfl, hk⟩ := kk_pred hk
    have hi' : i < (movedR m a b).length := by omega
    obtain ⟨⟨h1, h2, h3⟩, h4⟩ := movedR_mem (List.getElem_mem hi')
    simp only [laws_FnMovedVertices.l0, impl_OwnerOf.f, Option.bind_some]
    have e1 : (if (0 ≤ (movedR m a b)[i] ∧ (movedR m a b)[i] ≤ 15) ∧ 1 ≤ a ∧ a ≤ 6 then ((ownN a.toNat (movedR m a b)[i].toNat : Nat) : Int) else -1) = ((ownN a.toNat (movedR m a b)[i].toNat : Nat) : Int) := if_pos ⟨h1, h2⟩
    have e2 : (if (0 ≤ (movedR m a b)[i] ∧ (movedR m a b)[i] ≤ 15) ∧ 1 ≤ b ∧ b ≤ 6 then ((ownN b.toNat (movedR m a b)[i].toNat : Nat) : Int) else -1) = ((ownN b.toNat (movedR m a b)[i].toNat : Nat) : Int) := if_pos ⟨h1, h3⟩
    rw [if_pos (by omega), if_pos (by omega), rdN _ _ hi', e1, e2, if_neg (by omega), wS _ (by omega)]
    exact ih k (i + 1) (by omega) (by omega)
theorem FnMovedVertices : laws_FnMovedVertices.Pure := by
  intro l hl hl8 hw
  refine ⟨1000, ?_⟩
  unfold laws_FnMovedVertices.f
  by_cases h : (l.length : Int) > 1048576
  · rw [if_pos h]
  · rw [if_neg h]
    obtain ⟨r, hr, _⟩ : Dw (spec_DrawMovedVertices.f 1000 l) (fun _ => True) := by
      unfold spec_DrawMovedVertices.f
      exact (open_d hw).bind fun r ⟨hb, hp⟩ => (pick_d hb (by omega) (by omega) 19 (by omega)).bind fun r1 ⟨h1, h2, h3⟩ => (workers_d hb 12 (by omega) (by omega) (by omega)).bind fun r2 h' => (workers_d hb 12 (by omega) (by omega) (by omega)).bind fun r3 h'' => Dw.some trivial
    rw [hr]
    obtain ⟨m, a, b⟩ := r
    have hl := movedR_len m a b
    simp only [Option.bind_some, specMoved_f m a b 1000 (by omega), implMoved_f, sameInts_f _ _ (by omega : (movedR m a b).length < 4611686018427387904) 1000 (by omega), decide_true, if_true]
    exact moved_l m a b (movedR m a b).length 1000 0 (by omega) (by omega)

end Go.Proofs.Ytloiafnoekpaoaa.Pure
