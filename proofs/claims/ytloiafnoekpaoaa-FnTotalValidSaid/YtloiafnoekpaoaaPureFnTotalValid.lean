/- Totals have limits: with a sum below Known times Least a total is invalid. No further condition. -/
import Derived.Test.YtloiafnoekpaoaaPFnTotalValidx
import Derived.Test.YtloiafnoekpaoaaL
import Derived.Test.YtloiafnoekpaoaaT
set_option linter.unusedVariables false
set_option linter.unusedSimpArgs false
namespace Go.Proofs.Ytloiafnoekpaoaa.PFnTotalValid
open Go.RowKit Go.Proofs.YtloiafnoekpaoaaW.PrintWords Go.Proofs.YtloiafnoekpaoaaW.PrintLast Go.Proofs.YtloiafnoekpaoaaW.PrintMore
theorem alive_f {k : Nat} (hk : 2 < k) : laws_alive.f k = some true := by
  obtain ⟨k, rfl, hk⟩ := kk_pred hk
  obtain ⟨k, rfl, hk⟩ := kk_pred (show 1 < k by omega)
  simp [laws_alive.f, impl_CheckSum.f, impl_BytesValid.f, impl_BytesValid.l0, impl_CheckSum.l0]

theorem open_d {l : List Int} (hl : ∀ x ∈ l, (Lit.int .u8 x).wf = true) : Dw (spec_l20Open.f l) (fun r => Bytes r.1 ∧ r.2 = 0) := by
  have hb : ∀ x ∈ l, 0 ≤ x ∧ x ≤ 255 := fun x hx => by
    have := hl x hx
    simp [Lit.wf, IntKind.min, IntKind.max, IntKind.bits, IntKind.signed] at this
    omega
  unfold spec_l20Open.f
  refine Dw.ite (fun h => Dw.pos (by omega) (Dw.some ⟨⟨fun x hx => hb x (List.mem_of_mem_take hx), by simp; omega⟩, rfl⟩)) (fun h => Dw.some ⟨⟨hb, by show l.length ≤ 2000; omega⟩, rfl⟩)

theorem l1In_f (a b c : Int) : spec_l1In.f a b c = some (decide (b ≤ a ∧ a ≤ c)) := by
  unfold spec_l1In.f
  by_cases h : b ≤ a
  · rw [if_pos h]; simp [h]
  · rw [if_neg h]; simp [h]

theorem specTotal_l (l : List Int) (hl : l.length ≤ 16) : ∀ d k i : Nat, l.length = i + d → 2 * d + 1 < k → fitV (l.take i) → spec_TotalOf.l0 k l i (tot (known (l.take i))).1 (tot (known (l.take i))).2.1 (tot (known (l.take i))).2.2.1 (tot (known (l.take i))).2.2.2 = some (if fitV l then tot (known l) else (0, 0, 0, 0)) := by
  intro d
  induction d with
  | zero =>
    intro k i hi hk hf
    obtain ⟨k, rfl, hk⟩ := kk_pred hk
    simp only [spec_TotalOf.l0]
    rw [List.take_of_length_le (by omega)] at *
    rw [if_neg (by omega), if_pos hf]
  | succ d ih =>
    intro k i hi hk hf
    obtain ⟨k, rfl, hk⟩ := kk_pred hk
    obtain ⟨k, rfl, hk⟩ := kk_pred (show 2 * d + 1 < k by omega)
    have hi' : i < l.length := by omega
    simp only [spec_TotalOf.l0, spec_TotalOf.j1, l1In_f, Option.bind_some, decide_eq_true_eq]
    rw [if_pos (by omega), if_pos (by omega), wS _ (by omega), rdN _ _ hi']
    by_cases hv : -1 ≤ l[i] ∧ l[i] ≤ 999999
    · have hf' : fitV (l.take (i + 1)) := by
        intro x hx
        rw [List.take_succ_eq_append_getElem hi'] at hx
        rcases List.mem_append.1 hx with hx | hx
        · exact hf x hx
        · rw [List.mem_singleton.1 hx]; exact hv
      have ih' := ih k (i + 1) (by omega) (by omega) hf'
      rw [known_take_succ l i hi'] at ih'
      have ht := isTot (known (l.take i))
      have hkn : Kn (known (l.take i)) := kn_known hf
      have hkl := known_len (l.take i)
      have hs := kn_sum hkn
      rw [List.length_take] at hkl
      rw [if_pos hv, if_neg (by omega)]
      by_cases e : l[i] = -1
      · rw [if_pos e] at ih'
        rw [if_pos (by omega), ← ih']
        simp
      · rw [if_neg e, tot_snoc] at ih'
        rw [if_neg (by omega), ← ih']
        clear ih'
        generalize tot (known (l.take i)) = t at *
        obtain ⟨t1, t2, t3, t4⟩ := ht
        have w1 : wrap64 (t.1 + 1) = t.1 + 1 := wsm (by omega) (by omega)
        have w2 : wrap64 (t.2.1 + l[i]) = t.2.1 + l[i] := wsm (by omega) (by omega)
        rw [w1, w2]
        unfold stp
        by_cases hF : known (l.take i) = []
        · have h3 := t3 hF
          have z1 : t.1 = 0 := by rw [t1, hF]; rfl
          have z2 : t.2.1 = 0 := by rw [t2, hF]; rfl
          have z3 : mx t.2.2.2 l[i] = l[i] := by unfold mx; split <;> omega
          rw [if_pos (by omega), if_pos z1, z1, z2, z3]
          simp
        · have h4 := t4 hF
          have k1 := hkn _ h4.1
          have z1 : t.1 ≠ 0 := by have := List.length_pos_iff.2 hF; omega
          rw [if_neg (by omega), if_neg z1]
          by_cases hlt : l[i] < t.2.2.1
          · have z3 : mn t.2.2.1 l[i] = l[i] := by unfold mn; split <;> omega
            rw [if_pos hlt]
            simp only [z3]
          · have z3 : mn t.2.2.1 l[i] = t.2.2.1 := by unfold mn; split <;> omega
            rw [if_neg hlt]
            simp only [z3]
    · rw [if_neg hv, if_pos trivial, if_neg (fun g => hv (g _ (List.getElem_mem hi')))]
theorem specTotal_f (l : List Int) (hb : l.length < 4611686018427387904) (k : Nat) (hk : 40 < k) : spec_TotalOf.f k l = some (totalOf l) := by
  unfold totalOf spec_TotalOf.f
  by_cases h : l.length ≤ 16
  · have := specTotal_l l h l.length k 0 (by omega) (by omega) (by simp [fitV])
    refine Eq.trans this ?_
    simp [h]
  · rw [if_neg (fun g => h g.1)]
    obtain ⟨k, rfl, hk⟩ := kk_pred hk
    obtain ⟨k, rfl, hk⟩ := kk_pred (show 10 < k by omega)
    simp only [spec_TotalOf.l0, spec_TotalOf.j1, l1In_f, Option.bind_some, decide_eq_true_eq]
    rw [if_pos (by omega), if_pos (by omega)]
    by_cases hv : -1 ≤ rd l 0 ∧ rd l 0 ≤ 999999
    · rw [if_pos hv, if_pos (by omega)]
    · rw [if_neg hv, if_pos trivial]

theorem pick_d {b : List Int} (hb : Bytes b) {p : Int} (h0 : 0 ≤ p) (h1 : p ≤ 1000000000) (n : Int) {k : Nat} (hk : 0 < k) : Dw (spec_l20Rd_pick.f k b p n) (PickOk n p) := by
  obtain ⟨k, rfl, _⟩ := kk_pred hk
  have e1 : wrap64 (p + 1) = p + 1 := by unfold wrap64; omega
  have e2 : wrap64 (p + 1 - 1) = p := by unfold wrap64; omega
  have e3 : wrap64 (p * 7) = p * 7 := by unfold wrap64; omega
  have e4 : wrap64 (p * 7 + 3) = p * 7 + 3 := by unfold wrap64; omega
  have hj : ∀ c : Bool, (c = false → 1 ≤ n ∧ 0 < b.length) → Dw (spec_l20Rd_pick.j0 (k + 1) n c b (p + 1)) (PickOk n p) := by
    intro c hc
    simp only [spec_l20Rd_pick.j0, e2, e3, e4]
    refine Dw.ite (fun _ => Dw.some ⟨rfl, by omega, fun h => by omega⟩) (fun h => ?_)
    obtain ⟨hn, hl⟩ := hc (by simpa using h)
    refine Dw.ite (fun hlt => ?_) (fun hge => ?_)
    · refine Dw.pos h0 (Dw.neg (by omega) (Dw.some ⟨rfl, ?_, fun _ => ?_⟩))
      · have hr := rd_byte hb.1 p
        have : wrap64 (rd b p) = rd b p := by unfold wrap64; omega
        simp only [this]
        exact Int.tmod_nonneg _ hr.1
      · exact Int.tmod_lt_of_pos _ (by omega)
    · have hlp : (0 : Int) < (b.length : Int) := by omega
      refine Dw.neg (by omega) (Dw.pos (Int.tmod_nonneg _ h0) (Dw.pos (Int.tmod_lt_of_pos _ hlp) (Dw.pos (Int.tmod_nonneg _ (by omega)) (Dw.pos (Int.tmod_lt_of_pos _ hlp) (Dw.neg (by omega) (Dw.some ⟨rfl, ?_, fun _ => Int.tmod_lt_of_pos _ (by omega)⟩))))))
      have hx := rd_byte hb.1 (Int.tmod p b.length)
      have hy := rd_byte hb.1 (Int.tmod (p * 7 + 3) b.length)
      have hd0 : 0 ≤ Int.tdiv p b.length := Int.tdiv_nonneg h0 (by omega)
      have hd1 : Int.tdiv p b.length ≤ p := Int.tdiv_le_self _ h0
      refine Int.tmod_nonneg _ ?_
      generalize rd b (Int.tmod p b.length) = x at *
      generalize rd b (Int.tmod (p * 7 + 3) b.length) = y at *
      generalize Int.tdiv p b.length = d at *
      have w1 : wrap64 x = x := by unfold wrap64; omega
      have w2 : wrap64 y = y := by unfold wrap64; omega
      have w3 : wrap64 d = d := by unfold wrap64; omega
      have w4 : wrap64 (x * 131) = x * 131 := by unfold wrap64; omega
      have w5 : wrap64 (y * 1117) = y * 1117 := by unfold wrap64; omega
      have w6 : wrap64 (p * 29) = p * 29 := by unfold wrap64; omega
      have w7 : wrap64 (d * 53) = d * 53 := by unfold wrap64; omega
      have w8 : wrap64 (x * 131 + y * 1117) = x * 131 + y * 1117 := by unfold wrap64; omega
      have w9 : wrap64 (x * 131 + y * 1117 + p * 29) = x * 131 + y * 1117 + p * 29 := by unfold wrap64; omega
      have w10 : wrap64 (x * 131 + y * 1117 + p * 29 + d * 53) = x * 131 + y * 1117 + p * 29 + d * 53 := by unfold wrap64; omega
      simp only [w1, w2, w3, w4, w5, w6, w7, w8, w9, w10]
      generalize hz : x * 131 + y * 1117 + p * 29 + d * 53 = z
      have hz0 : 0 ≤ z := by omega
      have hz1 : z ≤ 1000000000000 := by omega
      have hd2 : 0 ≤ Int.tdiv z 64 := Int.tdiv_nonneg hz0 (by omega)
      have hd3 : Int.tdiv z 64 ≤ z := Int.tdiv_le_self _ hz0
      have w11 : wrap64 (Int.tdiv z 64) = Int.tdiv z 64 := by unfold wrap64; omega
      rw [w11]
      exact xor_i64 _ _ hz0 (by omega) hd2 (by omega)
  unfold spec_l20Rd_pick.f
  rw [e1]
  refine Dw.ite (fun _ => hj _ (by simp)) (fun h => hj _ (fun h2 => ⟨by omega, ?_⟩))
  have : ¬ (b.length : Int) = 0 := by simpa using h2
  omega

theorem odd_d {b : List Int} (hb : Bytes b) {p : Int} (h0 : 0 ≤ p) (h1 : p ≤ 1000000000) (n : Int) {k : Nat} (hk : 0 < k) : Dw (spec_l20Rd_odd.f k b p n) (fun r => p ≤ r.2 ∧ r.2 ≤ p + 1) := by
  unfold spec_l20Rd_odd.f
  refine Dw.ite (fun _ => (pick_d hb h0 h1 n hk).bind fun r ⟨h2, _, _⟩ => Dw.some ?_) (fun _ => Dw.some ?_)
  · simp only; omega
  · simp only; omega

theorem values_l {b : List Int} (hb : Bytes b) (n : Int) : ∀ d k : Nat, ∀ (o : List Int) (p : Int), 0 ≤ p → p + 3 * d ≤ 900000000 → o.length + d ≤ 100 → d + 3 < k → Dw (spec_l20Values.l0 k n o d b p) (fun r => p ≤ r.2 ∧ r.2 ≤ p + 3 * d + 2 ∧ r.1.length ≤ 117) := by
  intro d
  induction d with
  | zero =>
    intro k o p h0 h1 hl hk
    obtain ⟨k, rfl, hk⟩ := kk_pred hk
    simp only [spec_l20Values.l0]
    refine Dw.neg (by omega) ((odd_d hb h0 (by omega) n (by omega)).bind fun r1 ⟨a1, a2⟩ => Dw.ite (fun _ => (pick_d hb (by omega) (by omega) 3 (by omega)).bind fun r2 ⟨c1, c2, c3⟩ => ?_) (fun _ => Dw.some ⟨a1, by omega, by simp only; omega⟩))
    refine Dw.ite (fun _ => Dw.pos (by omega) (Dw.some ?_)) (fun _ => Dw.ite (fun _ => Dw.pos (by omega) (Dw.some ?_)) (fun _ => Dw.pos (by omega) (Dw.some ?_)))
    all_goals (simp only [List.length_append, List.length_replicate, List.length_cons, List.length_nil]; omega)
  | succ d ih =>
    intro k o p h0 h1 hl hk
    obtain ⟨k, rfl, hk⟩ := kk_pred hk
    simp only [spec_l20Values.l0]
    refine Dw.pos (by omega) ((pick_d hb h0 (by omega) 9 (by omega)).bind fun r1 ⟨a1, a2, a3⟩ => (pick_d hb (by omega) (by omega) 256 (by omega)).bind fun r2 ⟨b1, b2, b3⟩ => ?_)
    simp only [Option.bind_some]
    refine (pick_d hb (by omega) (by omega) 3 (by omega)).bind fun r3 ⟨c1, c2, c3⟩ => Dw.pos c2 (Dw.pos (by simp only [List.length_cons, List.length_nil]; omega) (Dw.pos (by omega) ?_))
    have e : wrap64 (((d + 1 : Nat) : Int) - 1) = (d : Int) := by unfold wrap64; omega
    rw [e]
    refine (ih k _ r3.2 (by omega) (by omega) (by simp only [List.length_append, List.length_cons, List.length_nil]; omega) (by omega)).mono fun r ⟨h2, h3, h4⟩ => ⟨by omega, by omega, h4⟩
theorem values_d {b : List Int} (hb : Bytes b) (n : Int) {p : Int} (h0 : 0 ≤ p) (h1 : p ≤ 800000000) {k : Nat} (hk : 20 < k) : Dw (spec_l20Values.f k b p n) (fun r => p ≤ r.2 ∧ r.2 ≤ p + 40 ∧ r.1.length ≤ 117) := by
  unfold spec_l20Values.f
  refine (pick_d hb h0 (by omega) 10 (by omega)).bind fun r1 ⟨a1, a2, a3⟩ => ?_
  obtain ⟨d, hd⟩ := Int.eq_ofNat_of_zero_le a2
  have := a3 (by omega)
  rw [hd]
  refine (values_l hb n d k [] r1.2 (by omega) (by omega) (by simp; omega) (by omega)).mono fun r ⟨h2, h3, h4⟩ => ⟨by omega, by omega, h4⟩

theorem total_d {b : List Int} (hb : Bytes b) (n : Int) {p : Int} (h0 : 0 ≤ p) (h1 : p ≤ 700000000) {k : Nat} (hk : 60 < k) : Dw (spec_l20Total.f k b p n) (fun r => p ≤ r.2.2.2.2 ∧ r.2.2.2.2 ≤ p + 50) := by
  unfold spec_l20Total.f
  refine (values_d hb 0 h0 (by omega) (by omega)).bind fun r1 ⟨a1, a2, a3⟩ => ?_
  rw [specTotal_f _ (by omega) k (by omega)]
  simp only [Option.bind_some]
  refine (odd_d hb (by omega) (by omega) n (by omega)).bind fun r2 ⟨b1, b2⟩ => Dw.ite (fun _ => (pick_d hb (by omega) (by omega) 4 (by omega)).bind fun r3 ⟨c1, c2, c3⟩ => ?_) (fun _ => Dw.some (by simp only; omega))
  refine Dw.ite (fun _ => Dw.some (by simp only; omega)) (fun _ => Dw.ite (fun _ => Dw.some (by simp only; omega)) (fun _ => Dw.ite (fun _ => ?_) (fun _ => ?_)))
  · refine (pick_d hb (by omega) (by omega) 2 (by omega)).bind fun r4 ⟨d1, d2, d3⟩ => Dw.pos d2 (Dw.pos (by simp only [List.length_cons, List.length_nil]; omega) (Dw.some (by simp only; omega)))
  · refine (pick_d hb (by omega) (by omega) 2 (by omega)).bind fun r4 ⟨d1, d2, d3⟩ => Dw.pos d2 (Dw.pos (by simp only [List.length_cons, List.length_nil]; omega) (Dw.some (by simp only; omega)))

theorem implValid_f (a b c d : Int) (k : Nat) (hk : 0 < k) : impl_TotalValid.f k a b c d = some (decide (Vt (a, b, c, d))) := by
  obtain ⟨k, rfl, hk⟩ := kk_pred hk
  simp only [Vt, impl_TotalValid.f, impl_TotalValid.j0, impl_noTotal.f, Option.bind_some, o_beq, o_dand, o_and, o_nand, o_or, o_ite, o_tf, o_ft, decide_eq_true_eq, not_true, false_and, imp_false]
  refine congrArg some (decide_eq_decide.2 ?_)
  omega

theorem specValid_f (a b c d : Int) : spec_TotalValid.f a b c d = some (decide (Vt (a, b, c, d))) := by
  simp only [Vt, spec_TotalValid.f, spec_l1In.f, Option.bind_some, o_beq, o_dand, o_and, o_nand, o_or, o_ite, o_tf, o_ft, decide_eq_true_eq, not_true, false_and, imp_false]
  refine congrArg some (decide_eq_decide.2 ?_)
  omega

end Go.Proofs.Ytloiafnoekpaoaa.PFnTotalValid
namespace Go.Proofs.Ytloiafnoekpaoaa.Pure
open Go.RowKit Go.Proofs.Ytloiafnoekpaoaa.PFnTotalValid Go.Proofs.YtloiafnoekpaoaaW.PrintWords Go.Proofs.YtloiafnoekpaoaaW.PrintLast Go.Proofs.YtloiafnoekpaoaaW.PrintMore
theorem bcell {W w1 : World} (hb : Below W.heap.size W w1) : (∀ b o, b < W.heap.size → w1.cell? ⟨b, o, none⟩ = W.cell? ⟨b, o, none⟩) ∧ (∀ b o, b < W.heap.size → w1.frozen? ⟨b, o, none⟩ = W.frozen? ⟨b, o, none⟩) :=
  ⟨fun b o h => hb.cell (p := ⟨b, o, none⟩) h, fun b o h => hb.frozen (p := ⟨b, o, none⟩) h⟩
theorem less_bad {a c d : Int} (h0 : 0 ≤ a) (h1 : a ≤ 100) : ¬ Vt (a, wrap64 (wrap64 (a * c) - 1), c, d) := by
  intro h
  simp only [Vt] at h
  rcases h with ⟨h2, h3, _⟩ | ⟨h2, h3, h4, h5, h6, h7, h8, _⟩
  · subst h2
    unfold wrap64 at h3
    omega
  · have := mul_small h0 h1 h6 (show c ≤ 1000000 by omega)
    rw [wsm (n := a * c) (by omega) (by omega), wsm (n := a * c - 1) (by omega) (by omega)] at h8
    omega
set_option maxHeartbeats 4000000 in
set_option maxRecDepth 100000 in
theorem FnTotalValid_walk (A0 : Option Addr) (c0 : Nat) (l0 : List Int) (w : World) (hr0 : Kd.C (Kd.int .u8) w A0 l0.length l0) (hc0 : l0.length ≤ c0) (hw : l0.length ≤ maxLen ∧ ∀ x ∈ l0, (Lit.int .u8 x).wf = true) :
    Calls Try.prog 10 #[.slice A0 l0.length c0] w fun e w' => e = .returned (.bool true) ∧ Below w.heap.size w w' := by
  obtain ⟨⟨a, b, c, d⟩, hr, _⟩ : Dw (spec_DrawTotalValid.f 1000 l0) (fun _ => True) := by
    unfold spec_DrawTotalValid.f
    exact (open_d hw.2).bind fun r ⟨hb, hp⟩ => (total_d hb 2 (by omega) (by omega) (by omega)).bind fun r1 h1 => Dw.some trivial
  have HR := Aside0.mk hr
  have HC := Aside0.mk hr0
  have HI := Aside0.mk (implValid_f a b c d 1000 (by omega))
  have HS := Aside0.mk (specValid_f a b c d)
  have HZ : Aside0 (impl_TotalValid.f 1000 0 0 0 0 = some false) := ⟨by rw [implValid_f _ _ _ _ _ (by omega)]; exact congrArg some (decide_eq_false (fun g => by simp only [Vt] at g; omega))⟩
  have HA := Aside0.mk (alive_f (k := 1000) (by omega))
  have hm : l0.length ≤ 9223372036854775807 := by have := hw.1; unfold maxLen at this; omega
  generalize decide (Vt (a, b, c, d)) = q at HI HS
  clear hr hr0 hw
  by_cases hlen : l0.length ≤ 1048576
  · by_cases h1 : 100 < a
    · show Calls _ _ _ _ _
      go_enter Try.func10, Try.ntmps10
      go_wp2_with fail
      refine (spec_DrawTotalValid.calls 1000 _ _ l0 a b c d _ HC.out hc0 HR.out).mono ?_
      rintro e w1 ⟨rfl, hb1⟩
      have HB1 := Aside0.mk hb1
      clear hb1
      go_wp2_with fail
      refine (impl_TotalValid.calls 1000 a b c d q _ HI.out).mono ?_
      rintro e w2 ⟨rfl, hb2⟩
      have HB2 := Aside0.mk (below_then (below_alloc HB1.out _) (below_size (below_alloc HB1.out _)) hb2)
      obtain ⟨hc2, hf2⟩ := bcell hb2
      have z2 := hb2.size
      go_wp2_with fail
      refine (spec_TotalValid.calls a b c d q _ HS.out).mono ?_
      rintro e w3 ⟨rfl, hb3⟩
      have HB3 := Aside0.mk (below_then HB2.out (below_size HB2.out) hb3)
      have k3 : w3.heap[w1.heap.size]? = some (.cells #[.int .i64 a, .int .i64 b, .int .i64 c, .int .i64 d] 34 (0, 0)) := (hb3.block _ (by simp at z2; omega)).trans ((hb2.block _ (by simp)).trans (heap_alloc_new _ _))
      have z3 : w1.heap.size < w3.heap.size := by have := hb3.size; simp at z2; omega
      have c30 : w3.cell? ⟨w1.heap.size, 0, none⟩ = some (.int .i64 a) := kk_blk_cell k3 0
      have c31 : w3.cell? ⟨w1.heap.size, 1, none⟩ = some (.int .i64 b) := kk_blk_cell k3 1
      have c32 : w3.cell? ⟨w1.heap.size, 2, none⟩ = some (.int .i64 c) := kk_blk_cell k3 2
      have c33 : w3.cell? ⟨w1.heap.size, 3, none⟩ = some (.int .i64 d) := kk_blk_cell k3 3
      clear hb3 hb2 hc2 hf2 k3 z2
      go_wp2_with fail
      refine (impl_TotalValid.calls 1000 0 0 0 0 false _ HZ.out).mono ?_
      rintro e w4 ⟨rfl, hb4⟩
      have HB4 := Aside0.mk (below_then (below_alloc HB3.out _) (below_size (below_alloc HB3.out _)) hb4)
      clear hb4
      go_wp2_with fail
      refine (laws_alive.calls 1000 true _ HA.out).mono ?_
      rintro e w5 ⟨rfl, hb5⟩
      have HB5 := Aside0.mk (below_then HB4.out (below_size HB4.out) hb5)
      clear hb5
      go_wp2_with fail
      go_ret
      exact ⟨rfl, HB5.out⟩
    · by_cases h2 : a < 0
      · show Calls _ _ _ _ _
        go_enter Try.func10, Try.ntmps10
        go_wp2_with fail
        refine (spec_DrawTotalValid.calls 1000 _ _ l0 a b c d _ HC.out hc0 HR.out).mono ?_
        rintro e w1 ⟨rfl, hb1⟩
        have HB1 := Aside0.mk hb1
        clear hb1
        go_wp2_with fail
        refine (impl_TotalValid.calls 1000 a b c d q _ HI.out).mono ?_
        rintro e w2 ⟨rfl, hb2⟩
        have HB2 := Aside0.mk (below_then (below_alloc HB1.out _) (below_size (below_alloc HB1.out _)) hb2)
        obtain ⟨hc2, hf2⟩ := bcell hb2
        have z2 := hb2.size
        go_wp2_with fail
        refine (spec_TotalValid.calls a b c d q _ HS.out).mono ?_
        rintro e w3 ⟨rfl, hb3⟩
        have HB3 := Aside0.mk (below_then HB2.out (below_size HB2.out) hb3)
        have k3 : w3.heap[w1.heap.size]? = some (.cells #[.int .i64 a, .int .i64 b, .int .i64 c, .int .i64 d] 34 (0, 0)) := (hb3.block _ (by simp at z2; omega)).trans ((hb2.block _ (by simp)).trans (heap_alloc_new _ _))
        have z3 : w1.heap.size < w3.heap.size := by have := hb3.size; simp at z2; omega
        have c30 : w3.cell? ⟨w1.heap.size, 0, none⟩ = some (.int .i64 a) := kk_blk_cell k3 0
        have c31 : w3.cell? ⟨w1.heap.size, 1, none⟩ = some (.int .i64 b) := kk_blk_cell k3 1
        have c32 : w3.cell? ⟨w1.heap.size, 2, none⟩ = some (.int .i64 c) := kk_blk_cell k3 2
        have c33 : w3.cell? ⟨w1.heap.size, 3, none⟩ = some (.int .i64 d) := kk_blk_cell k3 3
        clear hb3 hb2 hc2 hf2 k3 z2
        go_wp2_with fail
        refine (impl_TotalValid.calls 1000 0 0 0 0 false _ HZ.out).mono ?_
        rintro e w4 ⟨rfl, hb4⟩
        have HB4 := Aside0.mk (below_then (below_alloc HB3.out _) (below_size (below_alloc HB3.out _)) hb4)
        clear hb4
        go_wp2_with fail
        refine (laws_alive.calls 1000 true _ HA.out).mono ?_
        rintro e w5 ⟨rfl, hb5⟩
        have HB5 := Aside0.mk (below_then HB4.out (below_size HB4.out) hb5)
        clear hb5
        go_wp2_with fail
        go_ret
        exact ⟨rfl, HB5.out⟩
      · have HL : Aside0 (impl_TotalValid.f 1000 a (wrap64 (wrap64 (a * c) - 1)) c d = some false) := ⟨by rw [implValid_f _ _ _ _ _ (by omega)]; exact congrArg some (decide_eq_false (less_bad (by omega) (by omega)))⟩
        go_enter Try.func10, Try.ntmps10
        go_wp2_with fail
        refine (spec_DrawTotalValid.calls 1000 _ _ l0 a b c d _ HC.out hc0 HR.out).mono ?_
        rintro e w1 ⟨rfl, hb1⟩
        have HB1 := Aside0.mk hb1
        clear hb1
        go_wp2_with fail
        refine (impl_TotalValid.calls 1000 a b c d q _ HI.out).mono ?_
        rintro e w2 ⟨rfl, hb2⟩
        have HB2 := Aside0.mk (below_then (below_alloc HB1.out _) (below_size (below_alloc HB1.out _)) hb2)
        obtain ⟨hc2, hf2⟩ := bcell hb2
        have z2 := hb2.size
        go_wp2_with fail
        refine (spec_TotalValid.calls a b c d q _ HS.out).mono ?_
        rintro e w3 ⟨rfl, hb3⟩
        have HB3 := Aside0.mk (below_then HB2.out (below_size HB2.out) hb3)
        have k3 : w3.heap[w1.heap.size]? = some (.cells #[.int .i64 a, .int .i64 b, .int .i64 c, .int .i64 d] 34 (0, 0)) := (hb3.block _ (by simp at z2; omega)).trans ((hb2.block _ (by simp)).trans (heap_alloc_new _ _))
        have z3 : w1.heap.size < w3.heap.size := by have := hb3.size; simp at z2; omega
        have c30 : w3.cell? ⟨w1.heap.size, 0, none⟩ = some (.int .i64 a) := kk_blk_cell k3 0
        have c31 : w3.cell? ⟨w1.heap.size, 1, none⟩ = some (.int .i64 b) := kk_blk_cell k3 1
        have c32 : w3.cell? ⟨w1.heap.size, 2, none⟩ = some (.int .i64 c) := kk_blk_cell k3 2
        have c33 : w3.cell? ⟨w1.heap.size, 3, none⟩ = some (.int .i64 d) := kk_blk_cell k3 3
        clear hb3 hb2 hc2 hf2 k3 z2
        go_wp2_with fail
        refine (impl_TotalValid.calls 1000 a (wrap64 (wrap64 (a * c) - 1)) c d false _ HL.out).mono ?_
        rintro e w6 ⟨rfl, hb6⟩
        have HB6 := Aside0.mk (below_then (below_alloc HB3.out _) (below_size (below_alloc HB3.out _)) hb6)
        clear hb6 HB3
        have HB3 := HB6
        clear HB6
        go_wp2_with fail
        refine (impl_TotalValid.calls 1000 0 0 0 0 false _ HZ.out).mono ?_
        rintro e w4 ⟨rfl, hb4⟩
        have HB4 := Aside0.mk (below_then HB3.out (below_size HB3.out) hb4)
        clear hb4
        go_wp2_with fail
        refine (laws_alive.calls 1000 true _ HA.out).mono ?_
        rintro e w5 ⟨rfl, hb5⟩
        have HB5 := Aside0.mk (below_then HB4.out (below_size HB4.out) hb5)
        clear hb5
        go_wp2_with fail
        go_ret
        exact ⟨rfl, HB5.out⟩
  · go_enter Try.func10, Try.ntmps10
    go_wp2_with fail
    go_ret
    exact ⟨rfl, Below.refl _ _⟩

end Go.Proofs.Ytloiafnoekpaoaa.Pure
