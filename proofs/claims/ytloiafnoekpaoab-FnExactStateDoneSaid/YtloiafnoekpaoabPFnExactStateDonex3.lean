/- Laid by a program of this session out of the translation: functions, their contracts, the row. Lean checks it. -/
import Derived.Test.YtloiafnoekpaoabPFnExactStateDonex0
import Derived.Test.YtloiafnoekpaoabPFnExactStateDonex2
namespace Go.Proofs.Ytloiafnoekpaoab.PFnExactStateDone
open Go.RowKit Go.Proofs.YtloiafnoekpaoabW.PrintWords Go.Proofs.YtloiafnoekpaoabW.PrintLast Go.Proofs.YtloiafnoekpaoabW.PrintMore
attribute [local go_sem] max2_int min2_int max_two min_two max_three min_three max_four min_four   -- for this text's walks alone
set_option linter.unusedVariables false
set_option linter.unusedSimpArgs false

/-! ### spec_StateDone: function 40 -/
def spec_StateDone.l0 : Nat → Int → Int → List Int → List Bool → List (S122) → Option (Bool)
  | 0, _, _, _, _, _ => none
  | k + 1, x3, x122000, x122001, x122002, x122003 => if x3 < (x122002.length : Int) then (if 0 ≤ x3 then (if rdOf false x122002 x3 = true then (some false) else (spec_StateDone.l0 k (wrap64 (x3 + 1)) x122000 x122001 x122002 x122003)) else (none)) else ((spec_StateValid.f k x122000 x122001 x122002 x122003 (x122001.length : Int)).bind fun t123 => (if t123 = true then (some ((x122003.length : Int) == 0)) else (some false)))
def spec_StateDone.f (k : Nat) (a0_0 : Int) (l0_1 : List Int) (l0_2 : List Bool) (l0_3 : List (S122)) : Option (Bool) := spec_StateDone.l0 k 0 a0_0 l0_1 l0_2 l0_3
theorem spec_StateDone.mono_l : ∀ k, (∀ y0 y1 y2 y3 y4, LeO (spec_StateDone.l0 k y0 y1 y2 y3 y4) (spec_StateDone.l0 (k + 1) y0 y1 y2 y3 y4))
  | 0 => fun _ _ _ _ _ r h => by simp [spec_StateDone.l0] at h
  | k + 1 => by
    have ih0 := spec_StateDone.mono_l k
    · intro y0 y1 y2 y3 y4
      unfold spec_StateDone.l0
      repeat' first
      | (with_reducible exact ih0 _ _ _ _ _)
      | (with_reducible exact spec_StateValid.mono _ _ _ _ _ _)
      | (with_reducible exact LeO.refl _)
      | (with_reducible exact LeO.none _)
      | (with_reducible refine LeO.ite ?_ ?_)
      | (with_reducible refine LeO.bind ?_ (fun _ => ?_))
      | exact ih0 _ _ _ _ _
      | exact spec_StateValid.mono _ _ _ _ _ _
      | exact LeO.none _
      | refine LeO.ite ?_ ?_
      | refine LeO.bind ?_ (fun _ => ?_)
theorem spec_StateDone.mono : ∀ a0 a1 a2 a3 k, LeO (spec_StateDone.f k a0 a1 a2 a3) (spec_StateDone.f (k + 1) a0 a1 a2 a3) := by
  intro a0 a1 a2 a3 k
  have ih0 := spec_StateDone.mono_l k
  unfold spec_StateDone.f
  repeat' first
      | (with_reducible exact ih0 _ _ _ _ _)
      | (with_reducible exact spec_StateValid.mono _ _ _ _ _ _)
      | (with_reducible exact LeO.refl _)
      | (with_reducible exact LeO.none _)
      | (with_reducible refine LeO.ite ?_ ?_)
      | (with_reducible refine LeO.bind ?_ (fun _ => ?_))
      | exact ih0 _ _ _ _ _
      | exact spec_StateValid.mono _ _ _ _ _ _
      | exact LeO.none _
      | refine LeO.ite ?_ ?_
      | refine LeO.bind ?_ (fun _ => ?_)
set_option maxHeartbeats 8000000 in
set_option maxRecDepth 100000 in
theorem spec_StateDone.calls (k : Nat) (a0_0 : Int) (A0_1 : Option Addr) (c0_1 : Nat) (l0_1 : List Int) (A0_2 : Option Addr) (c0_2 : Nat) (l0_2 : List Bool) (A0_3 : Option Addr) (c0_3 : Nat) (l0_3 : List (S122)) (r : Bool) (w : World) (hr0_1 : Kd.C (Kd.int .i64) w A0_1 l0_1.length l0_1) (hc0_1 : l0_1.length ≤ c0_1) (hr0_2 : Kd.C Kd.bool w A0_2 l0_2.length l0_2) (hc0_2 : l0_2.length ≤ c0_2) (hr0_3 : Kd.C k122 w A0_3 l0_3.length l0_3) (hc0_3 : l0_3.length ≤ c0_3) (h : spec_StateDone.f k a0_0 l0_1 l0_2 l0_3 = some r) :
    Calls Try.prog 40 #[.agg #[.int .i64 a0_0, .slice A0_1 l0_1.length c0_1, .slice A0_2 l0_2.length c0_2, .slice A0_3 l0_3.length c0_3]] w fun e w' => e = .returned (.bool r) ∧ Below w.heap.size w w' := by
  have hu63 := Try.underlying63
  have HR0_1 := Aside0.mk hr0_1
  have HC0_1 := Aside0.mk hc0_1
  clear hr0_1 hc0_1
  have HR0_2 := Aside0.mk hr0_2
  have HC0_2 := Aside0.mk hc0_2
  clear hr0_2 hc0_2
  have HR0_3 := Aside0.mk hr0_3
  have HC0_3 := Aside0.mk hc0_3
  clear hr0_3 hc0_3
  have HB := Aside0.mk (Below.refl w.heap.size w)
  have H : (spec_StateDone.l0 k 0 a0_0 l0_1 l0_2 l0_3) = some r := h
  clear h
  have H' := Aside0.mk H
  clear H
  go_enter Try.func40, Try.ntmps40
  go_wp2_with (first | ((with_reducible refine gate_dst (N := 1) rfl ?_); (try (refine gate_guard (by rfl) ?_; dsimp only)); refine box_event ?hg (N := 1) ?hd (cs := #[.int .i64 a0_0, .slice A0_1 l0_1.length c0_1, .slice A0_2 l0_2.length c0_2, .slice A0_3 l0_3.length c0_3]) (t := 63) ?hr ?_; (case hd => rfl); (case hg => rfl); (case hr => first | (go_simp; done) | (go_simp; rfl)); intro gb121 hg w2 hbox hb; have n0_ := Aside0.mk (below_step (by repeat (first | (with_reducible first | exact HB.out | apply below_alloc | apply pw_below_drewN | apply below_drew1) | exact HB.out)) hb); have n1_ := Aside0.mk (hbox); have n2_ := Aside0.mk ((by rw [hg]; exact (below_size (by repeat (first | (with_reducible first | exact HB.out | apply below_alloc | apply pw_below_drewN | apply below_drew1) | exact HB.out))) : w.heap.size ≤ gb121)); have n3_ := Aside0.mk ((by rw [hg]; exact (below_size (by repeat (first | (with_reducible first | exact HB.out | apply below_alloc | apply pw_below_drewN | apply below_drew1) | exact HB.out))) : w.heap.size ≤ gb121)); clear HB; have HB := n0_; have BK121 := n1_; have GW121 := n2_; have GE121 := n3_; clear n0_ n1_ n2_ n3_; clear hb hbox hg))
  go_loopg [3] k (fun kq v3 w' => ∃ (x3_1 : Int), v3 = .int .i64 x3_1 ∧ Aside0 (spec_StateDone.l0 kq x3_1 a0_0 l0_1 l0_2 l0_3 = some r) ∧ Aside0 (kq ≤ k) ∧ Aside0 (w'.heap[gb121]? = some (.cells #[.int .i64 a0_0, (.slice A0_1 l0_1.length c0_1), (.slice A0_2 l0_2.length c0_2), (.slice A0_3 l0_3.length c0_3)] 63 (0, 0))) ∧ Aside0 (Below w.heap.size w w'))
  case atStart => exact ⟨(0), (by first | rfl | (simp; done) | (simp [*]; done)), H', ⟨Nat.le_refl _⟩, ⟨by (with_reducible repeat (first | refine blk_drewN ?_ _ | refine blk_drew ?_ | refine blk_alloc ?_ _)); exact BK121.out⟩, ⟨by repeat (first | (with_reducible first | exact HB.out | apply below_alloc | apply pw_below_drewN | apply below_drew1 | refine below_set ?_ GE121.out) | exact HB.out)⟩⟩
  case round =>
    clear H'
    try clear p2
    obtain ⟨x3_1, rfl, HA, HK1, BK121, HB⟩ := hrel
    cases gk with
    | zero => exact absurd HA.out (by simp [spec_StateDone.l0])
    | succ k1 =>
      have H := HA.out
      clear HA
      simp only [spec_StateDone.l0] at H
      by_cases c3 : x3_1 < (l0_2.length : Int)
      · rw [if_pos c3] at H
        have c3b0 : decide (x3_1 < (l0_2.length : Int)) = true := decide_eq_true c3
        clear c3
        by_cases c4 : 0 ≤ x3_1
        · rw [if_pos c4] at H
          have c4b0 : decide (0 ≤ x3_1) = true := decide_eq_true c4
          clear c4
          obtain ⟨bq5, hbq5⟩ : ∃ b_ : Bool, b_ = (rdOf false l0_2 x3_1) := ⟨_, rfl⟩
          replace H : (if bq5 = true then (some false) else (spec_StateDone.l0 k1 (wrap64 (x3_1 + 1)) a0_0 l0_1 l0_2 l0_3)) = some r := by rw [← hbq5] at H; exact H
          have Nbq5 := Aside0.mk hbq5
          clear hbq5
          by_cases c6 : bq5 = true
          · subst c6
            have H1 : (some false) = some r := by rw [if_pos rfl] at H; exact H
            clear H
            have H := H1
            clear H1
            obtain rfl := Option.some.inj H
            have hcz7_0 : wr.cell? ⟨gb121, 0, none⟩ = some (.int .i64 a0_0) := (blk_cell BK121.out 0).trans rfl
            have hcz7_1 : wr.cell? ⟨gb121, 1, none⟩ = some (.slice A0_1 l0_1.length c0_1) := (blk_cell BK121.out 1).trans rfl
            have hcz7_2 : wr.cell? ⟨gb121, 2, none⟩ = some (.slice A0_2 l0_2.length c0_2) := (blk_cell BK121.out 2).trans rfl
            have hcz7_3 : wr.cell? ⟨gb121, 3, none⟩ = some (.slice A0_3 l0_3.length c0_3) := (blk_cell BK121.out 3).trans rfl
            have hfz7_0 := blk_frozen BK121.out 0
            have hfz7_1 := blk_frozen BK121.out 1
            have hfz7_2 := blk_frozen BK121.out 2
            have hfz7_3 := blk_frozen BK121.out 3
            have p122 : 0 ≤ (x3_1 : Int) := of_decide_eq_true (by first | (with_reducible assumption) | assumption)
            have q122 : x3_1 < (l0_2.length : Int) := of_decide_eq_true (by first | (with_reducible assumption) | assumption)
            obtain ⟨ad122, e122, hx122_0⟩ := Kd.at_bool HR0_2.out x3_1 p122 q122
            (try rw [← Nbq5.out] at hx122_0)
            cases e122
            replace hx122_0 := (HB.out.cell (World.block_lt_of_cell? w _ hx122_0)).trans hx122_0
            replace p122 := eq_true p122
            replace q122 := eq_true q122
            go_wp2
            go_ret
            exact ⟨by first | rfl | (simp [errW_none, errW_some] <;> rfl) | (simp [*, errW_none, errW_some] <;> rfl), by repeat (first | (with_reducible first | exact HB.out | apply below_alloc | apply pw_below_drewN | apply below_drew1 | refine below_set ?_ GE121.out) | exact HB.out)⟩
          · replace c6 := Bool.eq_false_iff.mpr c6
            subst c6
            have H1 : (spec_StateDone.l0 k1 (wrap64 (x3_1 + 1)) a0_0 l0_1 l0_2 l0_3) = some r := by rw [if_neg (show ¬ (false = true) by decide)] at H; exact H
            clear H
            have H := H1
            clear H1
            have H' := Aside0.mk H
            clear H
            have hcz8_0 : wr.cell? ⟨gb121, 0, none⟩ = some (.int .i64 a0_0) := (blk_cell BK121.out 0).trans rfl
            have hcz8_1 : wr.cell? ⟨gb121, 1, none⟩ = some (.slice A0_1 l0_1.length c0_1) := (blk_cell BK121.out 1).trans rfl
            have hcz8_2 : wr.cell? ⟨gb121, 2, none⟩ = some (.slice A0_2 l0_2.length c0_2) := (blk_cell BK121.out 2).trans rfl
            have hcz8_3 : wr.cell? ⟨gb121, 3, none⟩ = some (.slice A0_3 l0_3.length c0_3) := (blk_cell BK121.out 3).trans rfl
            have hfz8_0 := blk_frozen BK121.out 0
            have hfz8_1 := blk_frozen BK121.out 1
            have hfz8_2 := blk_frozen BK121.out 2
            have hfz8_3 := blk_frozen BK121.out 3
            have p122 : 0 ≤ (x3_1 : Int) := of_decide_eq_true (by first | (with_reducible assumption) | assumption)
            have q122 : x3_1 < (l0_2.length : Int) := of_decide_eq_true (by first | (with_reducible assumption) | assumption)
            obtain ⟨ad122, e122, hx122_0⟩ := Kd.at_bool HR0_2.out x3_1 p122 q122
            (try rw [← Nbq5.out] at hx122_0)
            cases e122
            replace hx122_0 := (HB.out.cell (World.block_lt_of_cell? w _ hx122_0)).trans hx122_0
            replace p122 := eq_true p122
            replace q122 := eq_true q122
            go_wp2
            go_roundg k1
            case measure => have := HK1.out; omega
            case rel => exact ⟨(wrap64 (x3_1 + 1)), (by first | rfl | (simp; done) | (simp [*]; done)), H', ⟨by have := HK1.out; omega⟩, ⟨by (with_reducible repeat (first | refine blk_drewN ?_ _ | refine blk_drew ?_ | refine blk_alloc ?_ _)); exact BK121.out⟩, ⟨by repeat (first | (with_reducible first | exact HB.out | apply below_alloc | apply pw_below_drewN | apply below_drew1 | refine below_set ?_ GE121.out) | exact HB.out)⟩⟩
        · rw [if_neg c4] at H
          exact absurd H (by simp)
      · rw [if_neg c3] at H
        have c3b0 : decide (x3_1 < (l0_2.length : Int)) = false := decide_eq_false c3
        clear c3
        replace H := Option.bind_eq_some_iff.mp H
        obtain ⟨t123, A90, H⟩ := H
        replace H : (if t123 = true then (some ((l0_3.length : Int) == 0)) else (some false)) = some r := H
        have A9 := Aside0.mk A90
        clear A90
        by_cases c10 : t123 = true
        · subst c10
          have H1 : (some ((l0_3.length : Int) == 0)) = some r := by rw [if_pos rfl] at H; exact H
          clear H
          have H := H1
          clear H1
          obtain rfl := Option.some.inj H
          have hcz11_0 : wr.cell? ⟨gb121, 0, none⟩ = some (.int .i64 a0_0) := (blk_cell BK121.out 0).trans rfl
          have hcz11_1 : wr.cell? ⟨gb121, 1, none⟩ = some (.slice A0_1 l0_1.length c0_1) := (blk_cell BK121.out 1).trans rfl
          have hcz11_2 : wr.cell? ⟨gb121, 2, none⟩ = some (.slice A0_2 l0_2.length c0_2) := (blk_cell BK121.out 2).trans rfl
          have hcz11_3 : wr.cell? ⟨gb121, 3, none⟩ = some (.slice A0_3 l0_3.length c0_3) := (blk_cell BK121.out 3).trans rfl
          have hfz11_0 := blk_frozen BK121.out 0
          have hfz11_1 := blk_frozen BK121.out 1
          have hfz11_2 := blk_frozen BK121.out 2
          have hfz11_3 := blk_frozen BK121.out 3
          go_wp2_with (first | ((with_reducible refine gate_callee (f := 61) rfl ?_); refine goesL_ (some 20) rfl rfl Try.func61 (by kernel_rfl) rfl #[.agg #[.int .i64 a0_0, .slice A0_1 l0_1.length c0_1, .slice A0_2 l0_2.length c0_2, .slice A0_3 l0_3.length c0_3], .int .i64 (l0_1.length : Int)] rfl (by (try simp only [List.map_toArray, List.map_cons, List.map_nil]); first | done | rfl | (simp only [List.length_drop, List.length_take]; rfl)) ?_; (with_reducible refine (spec_StateValid.calls k1 a0_0 _ _ l0_1 _ _ l0_2 _ _ l0_3 (l0_1.length : Int) true _ ?side1 ?side2 ?side3 ?side4 ?side5 ?side6 A9.out).mono ?_); (case side1 => repeat (first | exact (Kd.C_below HR0_1.out HB.out) | (with_reducible refine Kd.C_alloc ?_ _) | (with_reducible refine Kd.C_drewN ?_ _) | (with_reducible refine Kd.C_drew ?_))); (case side2 => exact HC0_1.out); (case side3 => repeat (first | exact (Kd.C_below HR0_2.out HB.out) | (with_reducible refine Kd.C_alloc ?_ _) | (with_reducible refine Kd.C_drewN ?_ _) | (with_reducible refine Kd.C_drew ?_))); (case side4 => exact HC0_2.out); (case side5 => repeat (first | exact (Kd.C_below HR0_3.out HB.out) | (with_reducible refine Kd.C_alloc ?_ _) | (with_reducible refine Kd.C_drewN ?_ _) | (with_reducible refine Kd.C_drew ?_))); (case side6 => exact HC0_3.out); rintro e w12 ⟨rfl, hb⟩; refine ⟨_, rfl, ?_⟩; have n0_ := Aside0.mk (blk_below (g := gb121) (o := .cells #[.int .i64 a0_0, .slice A0_1 l0_1.length c0_1, .slice A0_2 l0_2.length c0_2, .slice A0_3 l0_3.length c0_3] 63 (0, 0)) (by (with_reducible repeat (first | refine blk_drewN ?_ _ | refine blk_drew ?_ | refine blk_alloc ?_ _)); exact BK121.out) hb); have n1_ := Aside0.mk (below_step (by repeat (first | (with_reducible first | exact HB.out | apply below_alloc | apply pw_below_drewN | apply below_drew1 | refine below_set ?_ GE121.out) | exact HB.out)) hb); clear BK121; clear HB; have BK121 := n0_; have HB := n1_; clear n0_ n1_; (try clear hb); (try clear hb2); (try clear hk); (try clear hi); have hcz13_0 : w12.cell? ⟨gb121, 0, none⟩ = some (.int .i64 a0_0) := (blk_cell BK121.out 0).trans rfl; have hcz13_1 : w12.cell? ⟨gb121, 1, none⟩ = some (.slice A0_1 l0_1.length c0_1) := (blk_cell BK121.out 1).trans rfl; have hcz13_2 : w12.cell? ⟨gb121, 2, none⟩ = some (.slice A0_2 l0_2.length c0_2) := (blk_cell BK121.out 2).trans rfl; have hcz13_3 : w12.cell? ⟨gb121, 3, none⟩ = some (.slice A0_3 l0_3.length c0_3) := (blk_cell BK121.out 3).trans rfl; have hfz13_0 := blk_frozen BK121.out 0; have hfz13_1 := blk_frozen BK121.out 1; have hfz13_2 := blk_frozen BK121.out 2; have hfz13_3 := blk_frozen BK121.out 3))
          go_ret
          exact ⟨by first | rfl | (simp [errW_none, errW_some] <;> rfl) | (simp [*, errW_none, errW_some] <;> rfl), by repeat (first | (with_reducible first | exact HB.out | apply below_alloc | apply pw_below_drewN | apply below_drew1 | refine below_set ?_ GE121.out) | exact HB.out)⟩
        · replace c10 := Bool.eq_false_iff.mpr c10
          subst c10
          have H1 : (some false) = some r := by rw [if_neg (show ¬ (false = true) by decide)] at H; exact H
          clear H
          have H := H1
          clear H1
          obtain rfl := Option.some.inj H
          have hcz14_0 : wr.cell? ⟨gb121, 0, none⟩ = some (.int .i64 a0_0) := (blk_cell BK121.out 0).trans rfl
          have hcz14_1 : wr.cell? ⟨gb121, 1, none⟩ = some (.slice A0_1 l0_1.length c0_1) := (blk_cell BK121.out 1).trans rfl
          have hcz14_2 : wr.cell? ⟨gb121, 2, none⟩ = some (.slice A0_2 l0_2.length c0_2) := (blk_cell BK121.out 2).trans rfl
          have hcz14_3 : wr.cell? ⟨gb121, 3, none⟩ = some (.slice A0_3 l0_3.length c0_3) := (blk_cell BK121.out 3).trans rfl
          have hfz14_0 := blk_frozen BK121.out 0
          have hfz14_1 := blk_frozen BK121.out 1
          have hfz14_2 := blk_frozen BK121.out 2
          have hfz14_3 := blk_frozen BK121.out 3
          go_wp2_with (first | ((with_reducible refine gate_callee (f := 61) rfl ?_); refine goesL_ (some 20) rfl rfl Try.func61 (by kernel_rfl) rfl #[.agg #[.int .i64 a0_0, .slice A0_1 l0_1.length c0_1, .slice A0_2 l0_2.length c0_2, .slice A0_3 l0_3.length c0_3], .int .i64 (l0_1.length : Int)] rfl (by (try simp only [List.map_toArray, List.map_cons, List.map_nil]); first | done | rfl | (simp only [List.length_drop, List.length_take]; rfl)) ?_; (with_reducible refine (spec_StateValid.calls k1 a0_0 _ _ l0_1 _ _ l0_2 _ _ l0_3 (l0_1.length : Int) false _ ?side1 ?side2 ?side3 ?side4 ?side5 ?side6 A9.out).mono ?_); (case side1 => repeat (first | exact (Kd.C_below HR0_1.out HB.out) | (with_reducible refine Kd.C_alloc ?_ _) | (with_reducible refine Kd.C_drewN ?_ _) | (with_reducible refine Kd.C_drew ?_))); (case side2 => exact HC0_1.out); (case side3 => repeat (first | exact (Kd.C_below HR0_2.out HB.out) | (with_reducible refine Kd.C_alloc ?_ _) | (with_reducible refine Kd.C_drewN ?_ _) | (with_reducible refine Kd.C_drew ?_))); (case side4 => exact HC0_2.out); (case side5 => repeat (first | exact (Kd.C_below HR0_3.out HB.out) | (with_reducible refine Kd.C_alloc ?_ _) | (with_reducible refine Kd.C_drewN ?_ _) | (with_reducible refine Kd.C_drew ?_))); (case side6 => exact HC0_3.out); rintro e w15 ⟨rfl, hb⟩; refine ⟨_, rfl, ?_⟩; have n0_ := Aside0.mk (blk_below (g := gb121) (o := .cells #[.int .i64 a0_0, .slice A0_1 l0_1.length c0_1, .slice A0_2 l0_2.length c0_2, .slice A0_3 l0_3.length c0_3] 63 (0, 0)) (by (with_reducible repeat (first | refine blk_drewN ?_ _ | refine blk_drew ?_ | refine blk_alloc ?_ _)); exact BK121.out) hb); have n1_ := Aside0.mk (below_step (by repeat (first | (with_reducible first | exact HB.out | apply below_alloc | apply pw_below_drewN | apply below_drew1 | refine below_set ?_ GE121.out) | exact HB.out)) hb); clear BK121; clear HB; have BK121 := n0_; have HB := n1_; clear n0_ n1_; (try clear hb); (try clear hb2); (try clear hk); (try clear hi)))
          go_ret
          exact ⟨by first | rfl | (simp [errW_none, errW_some] <;> rfl) | (simp [*, errW_none, errW_some] <;> rfl), by repeat (first | (with_reducible first | exact HB.out | apply below_alloc | apply pw_below_drewN | apply below_drew1 | refine below_set ?_ GE121.out) | exact HB.out)⟩

/-! ### laws_toIntS: function 16 -/
def laws_toIntS.l0 : Nat → List Int → List Int → Int → Option (List Int)
  | 0, _, _, _ => none
  | k + 1, x0, x3, x4 => if x4 < (x0.length : Int) then (if 0 ≤ x4 then (if x4 < (x3.length : Int) then (laws_toIntS.l0 k x0 (x3.set (x4 : Int).toNat (rd x0 x4)) (wrap64 (x4 + 1))) else (none)) else (none)) else (some x3)
def laws_toIntS.f (k : Nat) (l0 : List Int) : Option (List Int) := if 0 ≤ (l0.length : Int) then (if ((l0.length : Int) : Int).toNat ≤ 35184372088832 then (laws_toIntS.l0 k l0 (List.replicate ((l0.length : Int) : Int).toNat 0) 0) else (none)) else (none)
theorem laws_toIntS.mono_l : ∀ k, (∀ y0 y1 y2, LeO (laws_toIntS.l0 k y0 y1 y2) (laws_toIntS.l0 (k + 1) y0 y1 y2))
  | 0 => fun _ _ _ r h => by simp [laws_toIntS.l0] at h
  | k + 1 => by
    have ih0 := laws_toIntS.mono_l k
    · intro y0 y1 y2
      unfold laws_toIntS.l0
      repeat' first
      | (with_reducible exact ih0 _ _ _)
      | (with_reducible exact LeO.refl _)
      | (with_reducible exact LeO.none _)
      | (with_reducible refine LeO.ite ?_ ?_)
      | (with_reducible refine LeO.bind ?_ (fun _ => ?_))
      | exact ih0 _ _ _
      | exact LeO.none _
      | refine LeO.ite ?_ ?_
      | refine LeO.bind ?_ (fun _ => ?_)
theorem laws_toIntS.mono : ∀ a0 k, LeO (laws_toIntS.f k a0) (laws_toIntS.f (k + 1) a0) := by
  intro a0 k
  have ih0 := laws_toIntS.mono_l k
  unfold laws_toIntS.f
  repeat' first
      | (with_reducible exact ih0 _ _ _)
      | (with_reducible exact LeO.refl _)
      | (with_reducible exact LeO.none _)
      | (with_reducible refine LeO.ite ?_ ?_)
      | (with_reducible refine LeO.bind ?_ (fun _ => ?_))
      | exact ih0 _ _ _
      | exact LeO.none _
      | refine LeO.ite ?_ ?_
      | refine LeO.bind ?_ (fun _ => ?_)
set_option maxHeartbeats 8000000 in
set_option maxRecDepth 100000 in
theorem laws_toIntS.calls (k : Nat) (A0 : Option Addr) (c0 : Nat) (l0 : List Int) (r : List Int) (w : World) (hr0 : Kd.C (Kd.int .i64) w A0 l0.length l0) (hc0 : l0.length ≤ c0) (h : laws_toIntS.f k l0 = some r) :
    Calls Try.prog 16 #[.slice A0 l0.length c0] w fun e w' => ∃ v0_ : Value, e = .returned (v0_) ∧ Kd.R (Kd.int .i64) 3 w' w.heap.size (fun _ => True) v0_ r ∧ Below w.heap.size w w' := by
  have HR0 := Aside0.mk hr0
  have HC0 := Aside0.mk hc0
  clear hr0 hc0
  have HB := Aside0.mk (Below.refl w.heap.size w)
  have H : (if 0 ≤ (l0.length : Int) then (if ((l0.length : Int) : Int).toNat ≤ 35184372088832 then (laws_toIntS.l0 k l0 (List.replicate ((l0.length : Int) : Int).toNat 0) 0) else (none)) else (none)) = some r := h
  clear h
  by_cases c2 : 0 ≤ (l0.length : Int)
  · rw [if_pos c2] at H
    have c2b0 := eq_true c2
    have c2b1 : decide (0 ≤ (l0.length : Int)) = true := decide_eq_true c2
    clear c2
    by_cases c3 : ((l0.length : Int) : Int).toNat ≤ 35184372088832
    · rw [if_pos c3] at H
      have c3b0 := eq_true c3
      have c3b1 : decide (((l0.length : Int) : Int).toNat ≤ 35184372088832) = true := decide_eq_true c3
      clear c3
      obtain ⟨y124, hy124⟩ : ∃ y_ : List Int, y_ = (List.replicate ((l0.length : Int) : Int).toNat 0) := ⟨_, rfl⟩
      replace H : (laws_toIntS.l0 k l0 y124 0) = some r := by first | (rw [hy124]; with_reducible exact H) | (have H2_ := (Option.bind_some _ _).symm.trans H; rw [hy124]; with_reducible exact H2_) | (have H2_ := (Option.bind_some _ _).symm.trans H; with_reducible exact H2_) | with_reducible exact H | (rw [hy124]; exact H) | exact H
      have Ny124 := Aside0.mk hy124
      clear hy124
      have H' := Aside0.mk H
      clear H
      go_enter Try.func16, Try.ntmps16
      go_wp2_with (first | ((with_reducible refine gate_dst (N := 7) rfl ?_); refine Kd.R_make (Kd.int .i64) _ 3 rfl (N := 7) rfl 22 _ _ rfl (l0.length : Int) rfl rfl Try.underlying22 (.int .i64 0) 8 info3 rfl (by decide) (by omega) 0 (ok := fun _ => True) (okp := fun _ => True) rfl (fun _ hk => hk) trivial (of_decide_eq_true (by first | (with_reducible assumption) | assumption)) (Nat.le_trans (Nat.mul_le_mul_right _ (of_decide_eq_true (by first | (with_reducible assumption) | assumption) : (l0.length : Int).toNat ≤ 35184372088832)) (by omega)) (Below.refl _ _) (Nat.le_refl _) ?_; intro v125 w4 ho5 hb hg_ hnew_; clear hg_ hnew_; (first | rw [← Ny124.out] at ho5 | (simp only [Int.reduceToNat] at ho5; rw [← Ny124.out] at ho5)); have n0_ := Aside0.mk (Kd.R_lower ho5 (below_size (by repeat (first | (with_reducible first | exact HB.out | apply below_alloc | apply pw_below_drewN | apply below_drew1) | exact HB.out)))); have n1_ := Aside0.mk (below_step (by repeat (first | (with_reducible first | exact HB.out | apply below_alloc | apply pw_below_drewN | apply below_drew1) | exact HB.out)) hb); clear HB; have HO126 := n0_; have HB := n1_; clear n0_ n1_; clear hb ho5))
      go_loopg [4] k (fun kq v4 w' => ∃ (x3_1 : List Int) (x4_1 : Int), v4 = .int .i64 x4_1 ∧ Aside0 (laws_toIntS.l0 kq l0 x3_1 x4_1 = some r) ∧ Aside0 (kq ≤ k) ∧ Aside0 (Kd.R (Kd.int .i64) 3 w' w.heap.size (fun _ => True) v125 x3_1) ∧ Aside0 (Below w.heap.size w w'))
      case atStart => exact ⟨(y124), (0), (by first | rfl | (simp; done) | (simp [*]; done)), H', ⟨Nat.le_refl _⟩, ⟨by (with_reducible repeat (first | apply Kd.R_alloc | apply Kd.R_drewN | apply Kd.R_drew)); exact HO126.out⟩, ⟨by repeat (first | (with_reducible first | exact HB.out | apply below_alloc | apply pw_below_drewN | apply below_drew1) | exact HB.out)⟩⟩
      case round =>
        clear H'
        try clear c1
        try clear c2
        try clear c2b0
        try clear c2b1
        try clear p2
        try clear c3
        try clear c3b0
        try clear c3b1
        obtain ⟨x3_1, x4_1, rfl, HA, HK1, HO_3, HB⟩ := hrel
        cases gk with
        | zero => exact absurd HA.out (by simp [laws_toIntS.l0])
        | succ k1 =>
          have H := HA.out
          clear HA
          simp only [laws_toIntS.l0] at H
          by_cases c6 : x4_1 < (l0.length : Int)
          · rw [if_pos c6] at H
            have c6b0 : decide (x4_1 < (l0.length : Int)) = true := decide_eq_true c6
            clear c6
            by_cases c7 : 0 ≤ x4_1
            · rw [if_pos c7] at H
              have c7b0 : decide (0 ≤ x4_1) = true := decide_eq_true c7
              clear c7
              by_cases c8 : x4_1 < (x3_1.length : Int)
              · rw [if_pos c8] at H
                have c8b0 : decide (x4_1 < (x3_1.length : Int)) = true := decide_eq_true c8
                clear c8
                obtain ⟨y128, hy128⟩ : ∃ y_ : List Int, y_ = (x3_1.set (x4_1 : Int).toNat (rd l0 x4_1)) := ⟨_, rfl⟩
                replace H : (laws_toIntS.l0 k1 l0 y128 (wrap64 (x4_1 + 1))) = some r := by first | (rw [hy128]; with_reducible exact H) | (have H2_ := (Option.bind_some _ _).symm.trans H; rw [hy128]; with_reducible exact H2_) | (have H2_ := (Option.bind_some _ _).symm.trans H; with_reducible exact H2_) | with_reducible exact H | (rw [hy128]; exact H) | exact H
                have Ny128 := Aside0.mk hy128
                clear hy128
                have H' := Aside0.mk H
                clear H
                have p127 : 0 ≤ (x4_1 : Int) := of_decide_eq_true (by first | (with_reducible assumption) | assumption)
                have q127 : x4_1 < (l0.length : Int) := of_decide_eq_true (by first | (with_reducible assumption) | assumption)
                obtain ⟨ad127, e127, hx127_0⟩ := Kd.at_int HR0.out x4_1 p127 q127
                cases e127
                replace hx127_0 := (HB.out.cell (World.block_lt_of_cell? w _ hx127_0)).trans hx127_0
                replace p127 := eq_true p127
                replace q127 := eq_true q127
                have p9 : 0 ≤ (x4_1 : Int) := of_decide_eq_true (by first | (with_reducible assumption) | assumption)
                have q9 : (x4_1 : Int) < ((x3_1.length : Int) : Int) := of_decide_eq_true (by first | (with_reducible assumption) | assumption)
                obtain ⟨go9, co9, eo9, gb9, gl9, cl9, HG9⟩ := Kd.R_form HO_3.out (by omega)
                (first | cases eo9 | (injection eo9 with ea_ en_ ec_; (first | subst ea_ | (injection ea_ with ea_; subst ea_)); subst ec_; clear en_))
                have GB9 := Aside0.mk gb9
                have GG9 := Aside0.mk HG9
                clear gb9 gl9 HG9
                obtain ⟨hx9_0, hf9_0⟩ := Kd.R_celln 0 HO_3.out (x4_1 : Int) p9 q9
                replace p9 := eq_true p9
                replace q9 := eq_true q9
                have HP10 := Kd.R_putg HO_3.out (x4_1 : Int) (rd l0 x4_1)
                go_wp2_with (first | ((with_reducible refine gate_store (t := 3) (p := 20) rfl ?_); refine store_event (t := 3) (p := 20) (v := ?vo_w11) (w1 := (wr.setCell ⟨go9, (x4_1 : Int).toNat, none⟩ (.int .i64 (rd l0 x4_1)))) ?hg ?ho ?hn ?hr ?_; (case ho => rfl); (case hg => rfl); (case hn => rfl); (case hr => first | (go_simp; done) | (go_simp; rfl)); intro w11 hw; have hg : wr.grownBy w11 (some go9) := (by rw [hw]; exact HP10.2); have hp_ : Kd.R (Kd.int .i64) 3 w11 w.heap.size (fun _ => True) (.slice (some ⟨go9, 0, none⟩) x3_1.length co9) y128 := (by rw [hw, Ny128.out]; exact HP10.1); clear HP10; have n0_ := Aside0.mk (hp_); have n1_ := Aside0.mk ((by rw [hw]; exact below_set (HB.out) GB9.out : Below w.heap.size w w11)); clear HO_3; clear HB; have HO_3 := n0_; have HB := n1_; clear n0_ n1_; clear hg hw hp_))
                go_roundg k1
                case measure => have := HK1.out; omega
                case rel => exact ⟨(y128), (wrap64 (x4_1 + 1)), (by first | rfl | (simp; done) | (simp [*]; done)), H', ⟨by have := HK1.out; omega⟩, ⟨by (with_reducible repeat (first | apply Kd.R_alloc | apply Kd.R_drewN | apply Kd.R_drew)); exact HO_3.out⟩, ⟨by repeat (first | (with_reducible first | exact HB.out | apply below_alloc | apply pw_below_drewN | apply below_drew1) | exact HB.out)⟩⟩
              · rw [if_neg c8] at H
                exact absurd H (by simp)
            · rw [if_neg c7] at H
              exact absurd H (by simp)
          · rw [if_neg c6] at H
            have c6b0 : decide (x4_1 < (l0.length : Int)) = false := decide_eq_false c6
            clear c6
            obtain rfl := Option.some.inj H
            go_wp2
            go_ret
            exact ⟨_, by first | rfl | (simp [errW_none, errW_some] <;> rfl) | (simp [*, errW_none, errW_some] <;> rfl), by (with_reducible repeat (first | apply Kd.R_alloc | apply Kd.R_drewN | apply Kd.R_drew)); exact HO_3.out, by repeat (first | (with_reducible first | exact HB.out | apply below_alloc | apply pw_below_drewN | apply below_drew1) | exact HB.out)⟩
    · rw [if_neg c3] at H
      exact absurd H (by simp)
  · rw [if_neg c2] at H
    exact absurd H (by simp)

/-! ### laws_toBoolS: function 92 -/
def laws_toBoolS.l0 : Nat → List Bool → List Bool → Int → Option (List Bool)
  | 0, _, _, _ => none
  | k + 1, x0, x3, x4 => if x4 < (x0.length : Int) then (if 0 ≤ x4 then (if x4 < (x3.length : Int) then (laws_toBoolS.l0 k x0 (x3.set (x4 : Int).toNat (rdOf false x0 x4)) (wrap64 (x4 + 1))) else (none)) else (none)) else (some x3)
def laws_toBoolS.f (k : Nat) (l0 : List Bool) : Option (List Bool) := if 0 ≤ (l0.length : Int) then (if ((l0.length : Int) : Int).toNat ≤ 281474976710656 then (laws_toBoolS.l0 k l0 (List.replicate ((l0.length : Int) : Int).toNat false) 0) else (none)) else (none)
theorem laws_toBoolS.mono_l : ∀ k, (∀ y0 y1 y2, LeO (laws_toBoolS.l0 k y0 y1 y2) (laws_toBoolS.l0 (k + 1) y0 y1 y2))
  | 0 => fun _ _ _ r h => by simp [laws_toBoolS.l0] at h
  | k + 1 => by
    have ih0 := laws_toBoolS.mono_l k
    · intro y0 y1 y2
      unfold laws_toBoolS.l0
      repeat' first
      | (with_reducible exact ih0 _ _ _)
      | (with_reducible exact LeO.refl _)
      | (with_reducible exact LeO.none _)
      | (with_reducible refine LeO.ite ?_ ?_)
      | (with_reducible refine LeO.bind ?_ (fun _ => ?_))
      | exact ih0 _ _ _
      | exact LeO.none _
      | refine LeO.ite ?_ ?_
      | refine LeO.bind ?_ (fun _ => ?_)
theorem laws_toBoolS.mono : ∀ a0 k, LeO (laws_toBoolS.f k a0) (laws_toBoolS.f (k + 1) a0) := by
  intro a0 k
  have ih0 := laws_toBoolS.mono_l k
  unfold laws_toBoolS.f
  repeat' first
      | (with_reducible exact ih0 _ _ _)
      | (with_reducible exact LeO.refl _)
      | (with_reducible exact LeO.none _)
      | (with_reducible refine LeO.ite ?_ ?_)
      | (with_reducible refine LeO.bind ?_ (fun _ => ?_))
      | exact ih0 _ _ _
      | exact LeO.none _
      | refine LeO.ite ?_ ?_
      | refine LeO.bind ?_ (fun _ => ?_)
set_option maxHeartbeats 8000000 in
set_option maxRecDepth 100000 in
theorem laws_toBoolS.calls (k : Nat) (A0 : Option Addr) (c0 : Nat) (l0 : List Bool) (r : List Bool) (w : World) (hr0 : Kd.C Kd.bool w A0 l0.length l0) (hc0 : l0.length ≤ c0) (h : laws_toBoolS.f k l0 = some r) :
    Calls Try.prog 92 #[.slice A0 l0.length c0] w fun e w' => ∃ v0_ : Value, e = .returned (v0_) ∧ Kd.R Kd.bool 4 w' w.heap.size (fun _ => True) v0_ r ∧ Below w.heap.size w w' := by
  have HR0 := Aside0.mk hr0
  have HC0 := Aside0.mk hc0
  clear hr0 hc0
  have HB := Aside0.mk (Below.refl w.heap.size w)
  have H : (if 0 ≤ (l0.length : Int) then (if ((l0.length : Int) : Int).toNat ≤ 281474976710656 then (laws_toBoolS.l0 k l0 (List.replicate ((l0.length : Int) : Int).toNat false) 0) else (none)) else (none)) = some r := h
  clear h
  by_cases c2 : 0 ≤ (l0.length : Int)
  · rw [if_pos c2] at H
    have c2b0 := eq_true c2
    have c2b1 : decide (0 ≤ (l0.length : Int)) = true := decide_eq_true c2
    clear c2
    by_cases c3 : ((l0.length : Int) : Int).toNat ≤ 281474976710656
    · rw [if_pos c3] at H
      have c3b0 := eq_true c3
      have c3b1 : decide (((l0.length : Int) : Int).toNat ≤ 281474976710656) = true := decide_eq_true c3
      clear c3
      obtain ⟨y129, hy129⟩ : ∃ y_ : List Bool, y_ = (List.replicate ((l0.length : Int) : Int).toNat false) := ⟨_, rfl⟩
      replace H : (laws_toBoolS.l0 k l0 y129 0) = some r := by first | (rw [hy129]; with_reducible exact H) | (have H2_ := (Option.bind_some _ _).symm.trans H; rw [hy129]; with_reducible exact H2_) | (have H2_ := (Option.bind_some _ _).symm.trans H; with_reducible exact H2_) | with_reducible exact H | (rw [hy129]; exact H) | exact H
      have Ny129 := Aside0.mk hy129
      clear hy129
      have H' := Aside0.mk H
      clear H
      go_enter Try.func92, Try.ntmps92
      go_wp2_with (first | ((with_reducible refine gate_dst (N := 7) rfl ?_); refine Kd.R_make Kd.bool _ 4 rfl (N := 7) rfl 55 _ _ rfl (l0.length : Int) rfl rfl Try.underlying55 (.bool false) 1 info4 rfl (by decide) (by omega) false (ok := fun _ => True) (okp := fun _ => True) rfl (fun _ hk => hk) trivial (of_decide_eq_true (by first | (with_reducible assumption) | assumption)) (Nat.le_trans (Nat.mul_le_mul_right _ (of_decide_eq_true (by first | (with_reducible assumption) | assumption) : (l0.length : Int).toNat ≤ 281474976710656)) (by omega)) (Below.refl _ _) (Nat.le_refl _) ?_; intro v130 w4 ho5 hb hg_ hnew_; clear hg_ hnew_; (first | rw [← Ny129.out] at ho5 | (simp only [Int.reduceToNat] at ho5; rw [← Ny129.out] at ho5)); have n0_ := Aside0.mk (Kd.R_lower ho5 (below_size (by repeat (first | (with_reducible first | exact HB.out | apply below_alloc | apply pw_below_drewN | apply below_drew1) | exact HB.out)))); have n1_ := Aside0.mk (below_step (by repeat (first | (with_reducible first | exact HB.out | apply below_alloc | apply pw_below_drewN | apply below_drew1) | exact HB.out)) hb); clear HB; have HO131 := n0_; have HB := n1_; clear n0_ n1_; clear hb ho5))
      go_loopg [4] k (fun kq v4 w' => ∃ (x3_1 : List Bool) (x4_1 : Int), v4 = .int .i64 x4_1 ∧ Aside0 (laws_toBoolS.l0 kq l0 x3_1 x4_1 = some r) ∧ Aside0 (kq ≤ k) ∧ Aside0 (Kd.R Kd.bool 4 w' w.heap.size (fun _ => True) v130 x3_1) ∧ Aside0 (Below w.heap.size w w'))
      case atStart => exact ⟨(y129), (0), (by first | rfl | (simp; done) | (simp [*]; done)), H', ⟨Nat.le_refl _⟩, ⟨by (with_reducible repeat (first | apply Kd.R_alloc | apply Kd.R_drewN | apply Kd.R_drew)); exact HO131.out⟩, ⟨by repeat (first | (with_reducible first | exact HB.out | apply below_alloc | apply pw_below_drewN | apply below_drew1) | exact HB.out)⟩⟩
      case round =>
        clear H'
        try clear c2
        try clear c2b0
        try clear c2b1
        try clear p2
        try clear c3
        try clear c3b0
        try clear c3b1
        obtain ⟨x3_1, x4_1, rfl, HA, HK1, HO_3, HB⟩ := hrel
        cases gk with
        | zero => exact absurd HA.out (by simp [laws_toBoolS.l0])
        | succ k1 =>
          have H := HA.out
          clear HA
          simp only [laws_toBoolS.l0] at H
          by_cases c6 : x4_1 < (l0.length : Int)
          · rw [if_pos c6] at H
            have c6b0 : decide (x4_1 < (l0.length : Int)) = true := decide_eq_true c6
            clear c6
            by_cases c7 : 0 ≤ x4_1
            · rw [if_pos c7] at H
              have c7b0 : decide (0 ≤ x4_1) = true := decide_eq_true c7
              clear c7
              by_cases c8 : x4_1 < (x3_1.length : Int)
              · rw [if_pos c8] at H
                have c8b0 : decide (x4_1 < (x3_1.length : Int)) = true := decide_eq_true c8
                clear c8
                obtain ⟨y133, hy133⟩ : ∃ y_ : List Bool, y_ = (x3_1.set (x4_1 : Int).toNat (rdOf false l0 x4_1)) := ⟨_, rfl⟩
                replace H : (laws_toBoolS.l0 k1 l0 y133 (wrap64 (x4_1 + 1))) = some r := by first | (rw [hy133]; with_reducible exact H) | (have H2_ := (Option.bind_some _ _).symm.trans H; rw [hy133]; with_reducible exact H2_) | (have H2_ := (Option.bind_some _ _).symm.trans H; with_reducible exact H2_) | with_reducible exact H | (rw [hy133]; exact H) | exact H
                have Ny133 := Aside0.mk hy133
                clear hy133
                have H' := Aside0.mk H
                clear H
                have p132 : 0 ≤ (x4_1 : Int) := of_decide_eq_true (by first | (with_reducible assumption) | assumption)
                have q132 : x4_1 < (l0.length : Int) := of_decide_eq_true (by first | (with_reducible assumption) | assumption)
                obtain ⟨ad132, e132, hx132_0⟩ := Kd.at_bool HR0.out x4_1 p132 q132
                cases e132
                replace hx132_0 := (HB.out.cell (World.block_lt_of_cell? w _ hx132_0)).trans hx132_0
                replace p132 := eq_true p132
                replace q132 := eq_true q132
                have p9 : 0 ≤ (x4_1 : Int) := of_decide_eq_true (by first | (with_reducible assumption) | assumption)
                have q9 : (x4_1 : Int) < ((x3_1.length : Int) : Int) := of_decide_eq_true (by first | (with_reducible assumption) | assumption)
                obtain ⟨go9, co9, eo9, gb9, gl9, cl9, HG9⟩ := Kd.R_form HO_3.out (by omega)
                (first | cases eo9 | (injection eo9 with ea_ en_ ec_; (first | subst ea_ | (injection ea_ with ea_; subst ea_)); subst ec_; clear en_))
                have GB9 := Aside0.mk gb9
                have GG9 := Aside0.mk HG9
                clear gb9 gl9 HG9
                obtain ⟨hx9_0, hf9_0⟩ := Kd.R_celln false HO_3.out (x4_1 : Int) p9 q9
                replace p9 := eq_true p9
                replace q9 := eq_true q9
                have HP10 := Kd.R_putg HO_3.out (x4_1 : Int) (rdOf false l0 x4_1)
                go_wp2_with (first | ((with_reducible refine gate_store (t := 4) (p := 20) rfl ?_); refine store_event (t := 4) (p := 20) (v := ?vo_w11) (w1 := (wr.setCell ⟨go9, (x4_1 : Int).toNat, none⟩ (.bool (rdOf false l0 x4_1)))) ?hg ?ho ?hn ?hr ?_; (case ho => rfl); (case hg => rfl); (case hn => rfl); (case hr => first | (go_simp; done) | (go_simp; rfl)); intro w11 hw; have hg : wr.grownBy w11 (some go9) := (by rw [hw]; exact HP10.2); have hp_ : Kd.R Kd.bool 4 w11 w.heap.size (fun _ => True) (.slice (some ⟨go9, 0, none⟩) x3_1.length co9) y133 := (by rw [hw, Ny133.out]; exact HP10.1); clear HP10; have n0_ := Aside0.mk (hp_); have n1_ := Aside0.mk ((by rw [hw]; exact below_set (HB.out) GB9.out : Below w.heap.size w w11)); clear HO_3; clear HB; have HO_3 := n0_; have HB := n1_; clear n0_ n1_; clear hg hw hp_))
                go_roundg k1
                case measure => have := HK1.out; omega
                case rel => exact ⟨(y133), (wrap64 (x4_1 + 1)), (by first | rfl | (simp; done) | (simp [*]; done)), H', ⟨by have := HK1.out; omega⟩, ⟨by (with_reducible repeat (first | apply Kd.R_alloc | apply Kd.R_drewN | apply Kd.R_drew)); exact HO_3.out⟩, ⟨by repeat (first | (with_reducible first | exact HB.out | apply below_alloc | apply pw_below_drewN | apply below_drew1) | exact HB.out)⟩⟩
              · rw [if_neg c8] at H
                exact absurd H (by simp)
            · rw [if_neg c7] at H
              exact absurd H (by simp)
          · rw [if_neg c6] at H
            have c6b0 : decide (x4_1 < (l0.length : Int)) = false := decide_eq_false c6
            clear c6
            obtain rfl := Option.some.inj H
            go_wp2
            go_ret
            exact ⟨_, by first | rfl | (simp [errW_none, errW_some] <;> rfl) | (simp [*, errW_none, errW_some] <;> rfl), by (with_reducible repeat (first | apply Kd.R_alloc | apply Kd.R_drewN | apply Kd.R_drew)); exact HO_3.out, by repeat (first | (with_reducible first | exact HB.out | apply below_alloc | apply pw_below_drewN | apply below_drew1) | exact HB.out)⟩
    · rw [if_neg c3] at H
      exact absurd H (by simp)
  · rw [if_neg c2] at H
    exact absurd H (by simp)

/-! ### laws_toMessage: function 128 -/
def laws_toMessage.f (a0_0 : Int) (a0_1 : Int) (a0_2 : Int) : Option (Int × Int × Int) := some (a0_0, a0_1, a0_2)
set_option maxHeartbeats 8000000 in
set_option maxRecDepth 100000 in
theorem laws_toMessage.calls (a0_0 : Int) (a0_1 : Int) (a0_2 : Int) (r1 : Int) (r2 : Int) (r3 : Int) (w : World) (h : laws_toMessage.f a0_0 a0_1 a0_2 = some (r1, r2, r3)) :
    Calls Try.prog 128 #[.agg #[.int .i64 a0_0, .int .i64 a0_1, .int .i64 a0_2]] w fun e w' => e = .returned (.agg #[.int .i64 r1, .int .i64 r2, .int .i64 r3]) ∧ Below w.heap.size w w' := by
  have hu157 := Try.underlying157
  have hu122 := Try.underlying122
  have HB := Aside0.mk (Below.refl w.heap.size w)
  have H : (some (a0_0, a0_1, a0_2)) = some (r1, r2, r3) := h
  clear h
  simp only [Option.some.injEq, Prod.mk.injEq] at H
  obtain ⟨rfl, rfl, rfl⟩ := H
  go_enter Try.func128, Try.ntmps128
  go_wp2_with (first | ((with_reducible refine gate_dst (N := 1) rfl ?_); refine box_event ?hg (N := 1) ?hd (cs := #[.int .i64 a0_0, .int .i64 a0_1, .int .i64 a0_2]) (t := 157) ?hr ?_; (case hd => rfl); (case hg => rfl); (case hr => first | (go_simp; done) | (go_simp; rfl)); intro gb134 hg w2 hbox hb; have n0_ := Aside0.mk (below_step (by repeat (first | (with_reducible first | exact HB.out | apply below_alloc | apply pw_below_drewN | apply below_drew1) | exact HB.out)) hb); have n1_ := Aside0.mk (hbox); have n2_ := Aside0.mk ((by rw [hg]; exact (below_size (by repeat (first | (with_reducible first | exact HB.out | apply below_alloc | apply pw_below_drewN | apply below_drew1) | exact HB.out))) : w.heap.size ≤ gb134)); have n3_ := Aside0.mk ((by rw [hg]; exact (below_size (by repeat (first | (with_reducible first | exact HB.out | apply below_alloc | apply pw_below_drewN | apply below_drew1) | exact HB.out))) : w.heap.size ≤ gb134)); clear HB; have HB := n0_; have BK134 := n1_; have GW134 := n2_; have GE134 := n3_; clear n0_ n1_ n2_ n3_; clear hb hbox hg) | ((with_reducible refine gate_dst (N := 2) rfl ?_); refine box_event ?hg (N := 2) ?hd (cs := #[.int .i64 0, .int .i64 0, .int .i64 0]) (t := 122) ?hr ?_; (case hd => rfl); (case hg => rfl); (case hr => first | (go_simp; done) | (go_simp; rfl)); intro gb135 hg w3 hbox hb; have n0_ := Aside0.mk (blk_below (g := gb134) (o := .cells #[.int .i64 a0_0, .int .i64 a0_1, .int .i64 a0_2] 157 (0, 0)) (by (with_reducible repeat (first | refine blk_drewN ?_ _ | refine blk_drew ?_ | refine blk_alloc ?_ _)); exact BK134.out) hb); have n1_ := Aside0.mk (below_step (by repeat (first | (with_reducible first | exact HB.out | apply below_alloc | apply pw_below_drewN | apply below_drew1 | refine below_set ?_ GE134.out) | exact HB.out)) hb); have n2_ := Aside0.mk (hbox); have n3_ := Aside0.mk ((by rw [hg]; exact (below_size (by repeat (first | (with_reducible first | exact HB.out | apply below_alloc | apply pw_below_drewN | apply below_drew1 | refine below_set ?_ GE134.out) | exact HB.out))) : w.heap.size ≤ gb135)); have n4_ := Aside0.mk ((by rw [hg]; exact (below_size (by repeat (first | (with_reducible first | exact HB.out | apply below_alloc | apply pw_below_drewN | apply below_drew1 | refine below_set ?_ GE134.out) | exact HB.out))) : w.heap.size ≤ gb135)); have n5_ := Aside0.mk ((by rw [hg]; exact Nat.ne_of_lt (blk_lt (g := gb134) (o := .cells #[.int .i64 a0_0, .int .i64 a0_1, .int .i64 a0_2] 157 (0, 0)) (by (with_reducible repeat (first | refine blk_drewN ?_ _ | refine blk_drew ?_ | refine blk_alloc ?_ _)); exact BK134.out)) : gb134 ≠ gb135)); have n6_ := Aside0.mk ((by rw [hg]; exact Nat.ne_of_gt (blk_lt (g := gb134) (o := .cells #[.int .i64 a0_0, .int .i64 a0_1, .int .i64 a0_2] 157 (0, 0)) (by (with_reducible repeat (first | refine blk_drewN ?_ _ | refine blk_drew ?_ | refine blk_alloc ?_ _)); exact BK134.out)) : gb135 ≠ gb134)); clear BK134; clear HB; have BK134 := n0_; have HB := n1_; have BK135 := n2_; have GW135 := n3_; have GE135 := n4_; have NB134_135 := n5_; have NB135_134 := n6_; clear n0_ n1_ n2_ n3_ n4_ n5_ n6_; clear hb hbox hg) | ((with_reducible refine gate_dst (N := 3) rfl ?_); refine box_event ?hg (N := 3) ?hd (cs := #[.int .i64 0, .int .i64 0, .int .i64 0]) (t := 122) ?hr ?_; (case hd => rfl); (case hg => rfl); (case hr => first | (go_simp; done) | (go_simp; rfl)); intro gb136 hg w4 hbox hb; have n0_ := Aside0.mk (blk_below (g := gb134) (o := .cells #[.int .i64 a0_0, .int .i64 a0_1, .int .i64 a0_2] 157 (0, 0)) (by (with_reducible repeat (first | refine blk_drewN ?_ _ | refine blk_drew ?_ | refine blk_alloc ?_ _)); exact BK134.out) hb); have n1_ := Aside0.mk (blk_below (g := gb135) (o := .cells #[.int .i64 0, .int .i64 0, .int .i64 0] 122 (0, 0)) (by (with_reducible repeat (first | refine blk_drewN ?_ _ | refine blk_drew ?_ | refine blk_alloc ?_ _)); exact BK135.out) hb); have n2_ := Aside0.mk (below_step (by repeat (first | (with_reducible first | exact HB.out | apply below_alloc | apply pw_below_drewN | apply below_drew1 | refine below_set ?_ GE134.out | refine below_set ?_ GE135.out) | exact HB.out)) hb); have n3_ := Aside0.mk (hbox); have n4_ := Aside0.mk ((by rw [hg]; exact (below_size (by repeat (first | (with_reducible first | exact HB.out | apply below_alloc | apply pw_below_drewN | apply below_drew1 | refine below_set ?_ GE134.out | refine below_set ?_ GE135.out) | exact HB.out))) : w.heap.size ≤ gb136)); have n5_ := Aside0.mk ((by rw [hg]; exact (below_size (by repeat (first | (with_reducible first | exact HB.out | apply below_alloc | apply pw_below_drewN | apply below_drew1 | refine below_set ?_ GE134.out | refine below_set ?_ GE135.out) | exact HB.out))) : w.heap.size ≤ gb136)); have n6_ := Aside0.mk ((by rw [hg]; exact Nat.ne_of_lt (blk_lt (g := gb134) (o := .cells #[.int .i64 a0_0, .int .i64 a0_1, .int .i64 a0_2] 157 (0, 0)) (by (with_reducible repeat (first | refine blk_drewN ?_ _ | refine blk_drew ?_ | refine blk_alloc ?_ _)); exact BK134.out)) : gb134 ≠ gb136)); have n7_ := Aside0.mk ((by rw [hg]; exact Nat.ne_of_gt (blk_lt (g := gb134) (o := .cells #[.int .i64 a0_0, .int .i64 a0_1, .int .i64 a0_2] 157 (0, 0)) (by (with_reducible repeat (first | refine blk_drewN ?_ _ | refine blk_drew ?_ | refine blk_alloc ?_ _)); exact BK134.out)) : gb136 ≠ gb134)); have n8_ := Aside0.mk ((by rw [hg]; exact Nat.ne_of_lt (blk_lt (g := gb135) (o := .cells #[.int .i64 0, .int .i64 0, .int .i64 0] 122 (0, 0)) (by (with_reducible repeat (first | refine blk_drewN ?_ _ | refine blk_drew ?_ | refine blk_alloc ?_ _)); exact BK135.out)) : gb135 ≠ gb136)); have n9_ := Aside0.mk ((by rw [hg]; exact Nat.ne_of_gt (blk_lt (g := gb135) (o := .cells #[.int .i64 0, .int .i64 0, .int .i64 0] 122 (0, 0)) (by (with_reducible repeat (first | refine blk_drewN ?_ _ | refine blk_drew ?_ | refine blk_alloc ?_ _)); exact BK135.out)) : gb136 ≠ gb135)); clear BK134; clear BK135; clear HB; have BK134 := n0_; have BK135 := n1_; have HB := n2_; have BK136 := n3_; have GW136 := n4_; have GE136 := n5_; have NB134_136 := n6_; have NB136_134 := n7_; have NB135_136 := n8_; have NB136_135 := n9_; clear n0_ n1_ n2_ n3_ n4_ n5_ n6_ n7_ n8_ n9_; clear hb hbox hg; have hnb5 := NB134_135.out; have hnc5 := NB135_134.out; have hnb6 := NB134_136.out; have hnc6 := NB136_134.out; have hcz7_0 : w4.cell? ⟨gb134, 0, none⟩ = some (.int .i64 a0_0) := (blk_cell BK134.out 0).trans rfl; have hcz7_1 : w4.cell? ⟨gb134, 1, none⟩ = some (.int .i64 a0_1) := (blk_cell BK134.out 1).trans rfl; have hcz7_2 : w4.cell? ⟨gb134, 2, none⟩ = some (.int .i64 a0_2) := (blk_cell BK134.out 2).trans rfl; have hfz7_0 := blk_frozen BK134.out 0; have hfz7_1 := blk_frozen BK134.out 1; have hfz7_2 := blk_frozen BK134.out 2; have hnb8 := NB136_135.out; have hnc8 := NB135_136.out; have hcz9_0 : w4.cell? ⟨gb136, 0, none⟩ = some (.int .i64 0) := (blk_cell BK136.out 0).trans rfl; have hcz9_1 : w4.cell? ⟨gb136, 1, none⟩ = some (.int .i64 0) := (blk_cell BK136.out 1).trans rfl; have hcz9_2 : w4.cell? ⟨gb136, 2, none⟩ = some (.int .i64 0) := (blk_cell BK136.out 2).trans rfl; have hfz9_0 := blk_frozen BK136.out 0; have hfz9_1 := blk_frozen BK136.out 1; have hfz9_2 := blk_frozen BK136.out 2; have hcz10_0 : w4.cell? ⟨gb135, 0, none⟩ = some (.int .i64 0) := (blk_cell BK135.out 0).trans rfl; have hcz10_1 : w4.cell? ⟨gb135, 1, none⟩ = some (.int .i64 0) := (blk_cell BK135.out 1).trans rfl; have hcz10_2 : w4.cell? ⟨gb135, 2, none⟩ = some (.int .i64 0) := (blk_cell BK135.out 2).trans rfl; have hfz10_0 := blk_frozen BK135.out 0; have hfz10_1 := blk_frozen BK135.out 1; have hfz10_2 := blk_frozen BK135.out 2))
  refine bodyPost_ret (results_cell_row rfl _ _ gb135 122 #[.int .i64 a0_0, .int .i64 a0_1, .int .i64 a0_2] (0, 0) _ rfl (by (with_reducible repeat (first | refine blk_drewN ?_ _ | refine blk_drew ?_ | refine blk_alloc ?_ _)); refine blk_put (cs := #[.int .i64 a0_0, .int .i64 a0_1, .int .i64 0]) ?_ 2 _ rfl; (with_reducible repeat (first | refine blk_drewN ?_ _ | refine blk_drew ?_ | refine blk_alloc ?_ _)); refine blk_put (cs := #[.int .i64 a0_0, .int .i64 0, .int .i64 0]) ?_ 1 _ rfl; (with_reducible repeat (first | refine blk_drewN ?_ _ | refine blk_drew ?_ | refine blk_alloc ?_ _)); refine blk_put (cs := #[.int .i64 0, .int .i64 0, .int .i64 0]) ?_ 0 _ rfl; (with_reducible repeat (first | refine blk_drewN ?_ _ | refine blk_drew ?_ | refine blk_alloc ?_ _)); refine blk_far ?_ NB135_136.out _; (with_reducible repeat (first | refine blk_drewN ?_ _ | refine blk_drew ?_ | refine blk_alloc ?_ _)); refine blk_far ?_ NB135_136.out _; (with_reducible repeat (first | refine blk_drewN ?_ _ | refine blk_drew ?_ | refine blk_alloc ?_ _)); refine blk_far ?_ NB135_136.out _; (with_reducible repeat (first | refine blk_drewN ?_ _ | refine blk_drew ?_ | refine blk_alloc ?_ _)); exact BK135.out) Try.underlying122 rfl (by kernel_rfl)) rfl ?_
  exact ⟨by first | rfl | (simp [errW_none, errW_some] <;> rfl) | (simp [*, errW_none, errW_some] <;> rfl), by repeat (first | (with_reducible first | exact HB.out | apply below_alloc | apply pw_below_drewN | apply below_drew1 | refine below_set ?_ GE134.out | refine below_set ?_ GE135.out | refine below_set ?_ GE136.out) | exact HB.out)⟩

/-! ### laws_toMessageS: function 93 -/
def laws_toMessageS.l0 : Nat → List (S157) → List (S122) → Int → Option ((List (S122)))
  | 0, _, _, _ => none
  | k + 1, x0, x3, x4 => if x4 < (x0.length : Int) then (if 0 ≤ x4 then ((laws_toMessage.f ((rd_T157 x0 x4).f0) ((rd_T157 x0 x4).f1) ((rd_T157 x0 x4).f2)).bind fun bt141 => (if x4 < (x3.length : Int) then (laws_toMessageS.l0 k x0 (x3.set (x4 : Int).toNat (⟨bt141.1, bt141.2.1, bt141.2.2⟩ : S122)) (wrap64 (x4 + 1))) else (none))) else (none)) else (some x3)
def laws_toMessageS.f (k : Nat) (l0 : List (S157)) : Option ((List (S122))) := if 0 ≤ (l0.length : Int) then (if ((l0.length : Int) : Int).toNat ≤ 11728124029610 then (laws_toMessageS.l0 k l0 (List.replicate ((l0.length : Int) : Int).toNat z122) 0) else (none)) else (none)
theorem laws_toMessageS.mono_l : ∀ k, (∀ y0 y1 y2, LeO (laws_toMessageS.l0 k y0 y1 y2) (laws_toMessageS.l0 (k + 1) y0 y1 y2))
  | 0 => fun _ _ _ r h => by simp [laws_toMessageS.l0] at h
  | k + 1 => by
    have ih0 := laws_toMessageS.mono_l k
    · intro y0 y1 y2
      unfold laws_toMessageS.l0
      repeat' first
      | (with_reducible exact ih0 _ _ _)
      | (with_reducible exact LeO.refl _)
      | (with_reducible exact LeO.none _)
      | (with_reducible refine LeO.ite ?_ ?_)
      | (with_reducible refine LeO.bind ?_ (fun _ => ?_))
      | exact ih0 _ _ _
      | exact LeO.none _
      | refine LeO.ite ?_ ?_
      | refine LeO.bind ?_ (fun _ => ?_)
theorem laws_toMessageS.mono : ∀ a0 k, LeO (laws_toMessageS.f k a0) (laws_toMessageS.f (k + 1) a0) := by
  intro a0 k
  have ih0 := laws_toMessageS.mono_l k
  unfold laws_toMessageS.f
  repeat' first
      | (with_reducible exact ih0 _ _ _)
      | (with_reducible exact LeO.refl _)
      | (with_reducible exact LeO.none _)
      | (with_reducible refine LeO.ite ?_ ?_)
      | (with_reducible refine LeO.bind ?_ (fun _ => ?_))
      | exact ih0 _ _ _
      | exact LeO.none _
      | refine LeO.ite ?_ ?_
      | refine LeO.bind ?_ (fun _ => ?_)
set_option maxHeartbeats 8000000 in
set_option maxRecDepth 100000 in
theorem laws_toMessageS.calls (k : Nat) (A0 : Option Addr) (c0 : Nat) (l0 : List (S157)) (r : List (S122)) (w : World) (hr0 : Kd.C k157 w A0 l0.length l0) (hc0 : l0.length ≤ c0) (h : laws_toMessageS.f k l0 = some r) :
    Calls Try.prog 93 #[.slice A0 l0.length c0] w fun e w' => ∃ v0_ : Value, e = .returned (v0_) ∧ Kd.R k122 122 w' w.heap.size (fun _ => True) v0_ r ∧ Below w.heap.size w w' := by
  have hu157 := Try.underlying157
  have hu122 := Try.underlying122
  have HR0 := Aside0.mk hr0
  have HC0 := Aside0.mk hc0
  clear hr0 hc0
  have HB := Aside0.mk (Below.refl w.heap.size w)
  have H : (if 0 ≤ (l0.length : Int) then (if ((l0.length : Int) : Int).toNat ≤ 11728124029610 then (laws_toMessageS.l0 k l0 (List.replicate ((l0.length : Int) : Int).toNat z122) 0) else (none)) else (none)) = some r := h
  clear h
  by_cases c2 : 0 ≤ (l0.length : Int)
  · rw [if_pos c2] at H
    have c2b0 := eq_true c2
    have c2b1 : decide (0 ≤ (l0.length : Int)) = true := decide_eq_true c2
    clear c2
    by_cases c3 : ((l0.length : Int) : Int).toNat ≤ 11728124029610
    · rw [if_pos c3] at H
      have c3b0 := eq_true c3
      have c3b1 : decide (((l0.length : Int) : Int).toNat ≤ 11728124029610) = true := decide_eq_true c3
      clear c3
      obtain ⟨y137, hy137⟩ : ∃ y_ : List (S122), y_ = (List.replicate ((l0.length : Int) : Int).toNat z122) := ⟨_, rfl⟩
      replace H : (laws_toMessageS.l0 k l0 y137 0) = some r := by first | (rw [hy137]; with_reducible exact H) | (have H2_ := (Option.bind_some _ _).symm.trans H; rw [hy137]; with_reducible exact H2_) | (have H2_ := (Option.bind_some _ _).symm.trans H; with_reducible exact H2_) | with_reducible exact H | (rw [hy137]; exact H) | exact H
      have Ny137 := Aside0.mk hy137
      clear hy137
      have H' := Aside0.mk H
      clear H
      go_enter Try.func93, Try.ntmps93
      go_wp2_with (first | ((with_reducible refine gate_dst (N := 7) rfl ?_); refine Kd.R_make k122 _ 122 rfl (N := 7) rfl 61 _ _ rfl (l0.length : Int) rfl rfl Try.underlying61 (.agg #[(.int .i64 0), (.int .i64 0), (.int .i64 0)]) 24 info122 rfl (by decide) (by omega) z122 (ok := fun _ => True) (okp := fun _ => True) (k122_mkM _ _ _ z122 ) (fun _ hk => hk) trivial (of_decide_eq_true (by first | (with_reducible assumption) | assumption)) (Nat.le_trans (Nat.mul_le_mul_right _ (of_decide_eq_true (by first | (with_reducible assumption) | assumption) : (l0.length : Int).toNat ≤ 11728124029610)) (by omega)) (Below.refl _ _) (Nat.le_refl _) ?_; intro v138 w4 ho5 hb hg_ hnew_; clear hg_ hnew_; (first | rw [← Ny137.out] at ho5 | (simp only [Int.reduceToNat] at ho5; rw [← Ny137.out] at ho5)); have n0_ := Aside0.mk (Kd.R_lower ho5 (below_size (by repeat (first | (with_reducible first | exact HB.out | apply below_alloc | apply pw_below_drewN | apply below_drew1) | exact HB.out)))); have n1_ := Aside0.mk (below_step (by repeat (first | (with_reducible first | exact HB.out | apply below_alloc | apply pw_below_drewN | apply below_drew1) | exact HB.out)) hb); clear HB; have HO139 := n0_; have HB := n1_; clear n0_ n1_; clear hb ho5))
      go_loopg [4] k (fun kq v4 w' => ∃ (x3_1 : List (S122)) (x4_1 : Int), v4 = .int .i64 x4_1 ∧ Aside0 (laws_toMessageS.l0 kq l0 x3_1 x4_1 = some r) ∧ Aside0 (kq ≤ k) ∧ Aside0 (Kd.R k122 122 w' w.heap.size (fun _ => True) v138 x3_1) ∧ Aside0 (Below w.heap.size w w'))
      case atStart => exact ⟨(y137), (0), (by first | rfl | (simp; done) | (simp [*]; done)), H', ⟨Nat.le_refl _⟩, ⟨by (with_reducible repeat (first | apply Kd.R_alloc | apply Kd.R_drewN | apply Kd.R_drew)); exact HO139.out⟩, ⟨by repeat (first | (with_reducible first | exact HB.out | apply below_alloc | apply pw_below_drewN | apply below_drew1) | exact HB.out)⟩⟩
      case round =>
        clear H'
        try clear c2
        try clear c2b0
        try clear c2b1
        try clear p2
        try clear c3
        try clear c3b0
        try clear c3b1
        obtain ⟨x3_1, x4_1, rfl, HA, HK1, HO_3, HB⟩ := hrel
        cases gk with
        | zero => exact absurd HA.out (by simp [laws_toMessageS.l0])
        | succ k1 =>
          have H := HA.out
          clear HA
          simp only [laws_toMessageS.l0] at H
          by_cases c6 : x4_1 < (l0.length : Int)
          · rw [if_pos c6] at H
            have c6b0 : decide (x4_1 < (l0.length : Int)) = true := decide_eq_true c6
            clear c6
            by_cases c7 : 0 ≤ x4_1
            · rw [if_pos c7] at H
              have c7b0 : decide (0 ≤ x4_1) = true := decide_eq_true c7
              clear c7
              replace H := Option.bind_eq_some_iff.mp H
              obtain ⟨⟨t141, t142, t143⟩, A80, H⟩ := H
              replace H : (if x4_1 < (x3_1.length : Int) then (laws_toMessageS.l0 k1 l0 (x3_1.set (x4_1 : Int).toNat (⟨t141, t142, t143⟩ : S122)) (wrap64 (x4_1 + 1))) else (none)) = some r := H
              have A8 := Aside0.mk A80
              clear A80
              by_cases c9 : x4_1 < (x3_1.length : Int)
              · rw [if_pos c9] at H
                have c9b0 : decide (x4_1 < (x3_1.length : Int)) = true := decide_eq_true c9
                clear c9
                obtain ⟨y144, hy144⟩ : ∃ y_ : List (S122), y_ = (x3_1.set (x4_1 : Int).toNat (⟨t141, t142, t143⟩ : S122)) := ⟨_, rfl⟩
                replace H : (laws_toMessageS.l0 k1 l0 y144 (wrap64 (x4_1 + 1))) = some r := by first | (rw [hy144]; with_reducible exact H) | (have H2_ := (Option.bind_some _ _).symm.trans H; rw [hy144]; with_reducible exact H2_) | (have H2_ := (Option.bind_some _ _).symm.trans H; with_reducible exact H2_) | with_reducible exact H | (rw [hy144]; exact H) | exact H
                have Ny144 := Aside0.mk hy144
                clear hy144
                have H' := Aside0.mk H
                clear H
                have p140 : 0 ≤ (x4_1 : Int) := of_decide_eq_true (by first | (with_reducible assumption) | assumption)
                have q140 : x4_1 < (l0.length : Int) := of_decide_eq_true (by first | (with_reducible assumption) | assumption)
                obtain ⟨ad140, e140, hx140_0, hx140_1, hx140_2⟩ := at_T157 HR0.out x4_1 p140 q140
                cases e140
                replace hx140_0 := (HB.out.cell (World.block_lt_of_cell? w _ hx140_0)).trans hx140_0
                replace hx140_1 := (HB.out.cell (World.block_lt_of_cell? w _ hx140_1)).trans hx140_1
                replace hx140_2 := (HB.out.cell (World.block_lt_of_cell? w _ hx140_2)).trans hx140_2
                replace p140 := eq_true p140
                replace q140 := eq_true q140
                go_wp2_with (first | ((with_reducible refine gate_callee (f := 128) rfl ?_); refine goesL_ (some 20) rfl rfl Try.func128 (by kernel_rfl) rfl #[.agg #[.int .i64 ((rd_T157 l0 x4_1).f0), .int .i64 ((rd_T157 l0 x4_1).f1), .int .i64 ((rd_T157 l0 x4_1).f2)]] rfl (by (try simp only [List.map_toArray, List.map_cons, List.map_nil]); first | done | rfl | (simp only [List.length_drop, List.length_take]; rfl)) ?_; (with_reducible refine (laws_toMessage.calls ((rd_T157 l0 x4_1).f0) ((rd_T157 l0 x4_1).f1) ((rd_T157 l0 x4_1).f2) t141 t142 t143 _ A8.out).mono ?_); rintro e w11 ⟨rfl, hb⟩; refine ⟨_, rfl, ?_⟩; have n0_ := Aside0.mk (Kd.R_below (by (with_reducible repeat (first | apply Kd.R_alloc | apply Kd.R_drewN | apply Kd.R_drew)); exact HO_3.out) hb); have n1_ := Aside0.mk (below_step (by repeat (first | (with_reducible first | exact HB.out | apply below_alloc | apply pw_below_drewN | apply below_drew1) | exact HB.out)) hb); clear HO_3; clear HB; have HO_3 := n0_; have HB := n1_; clear n0_ n1_; (try clear hb); (try clear hb2); (try clear hk); (try clear hi); have p10 : 0 ≤ (x4_1 : Int) := of_decide_eq_true (by first | (with_reducible assumption) | assumption); have q10 : (x4_1 : Int) < ((x3_1.length : Int) : Int) := of_decide_eq_true (by first | (with_reducible assumption) | assumption); obtain ⟨go10, co10, eo10, gb10, gl10, cl10, HG10⟩ := Kd.R_form HO_3.out (by omega); (first | cases eo10 | (injection eo10 with ea_ en_ ec_; (first | subst ea_ | (injection ea_ with ea_; subst ea_)); subst ec_; clear en_)); have GB10 := Aside0.mk gb10; have GG10 := Aside0.mk HG10; clear gb10 gl10 HG10; obtain ⟨ce10, hcl10, hM10, hcc10, hfr10⟩ := Kd.R_elem HO_3.out z122 (x4_1 : Int) p10 q10; obtain rfl := k122_openM hM10; have hx10_0 : w11.cell? ⟨go10, (x4_1 : Int).toNat * 3, none⟩ = some (.int .i64 ((rd_T122 x3_1 x4_1).f0)) := hcc10 0 _ rfl; have hx10_1 : w11.cell? ⟨go10, (x4_1 : Int).toNat * 3 + 1, none⟩ = some (.int .i64 ((rd_T122 x3_1 x4_1).f1)) := hcc10 1 _ rfl; have hx10_2 : w11.cell? ⟨go10, (x4_1 : Int).toNat * 3 + 2, none⟩ = some (.int .i64 ((rd_T122 x3_1 x4_1).f2)) := hcc10 2 _ rfl; have hf10_0 : w11.frozen? ⟨go10, (x4_1 : Int).toNat * 3, none⟩ = false := hfr10 0; have hf10_1 : w11.frozen? ⟨go10, (x4_1 : Int).toNat * 3 + 1, none⟩ = false := hfr10 1; have hf10_2 : w11.frozen? ⟨go10, (x4_1 : Int).toNat * 3 + 2, none⟩ = false := hfr10 2; clear hcl10 hcc10 hfr10 hM10; replace p10 := eq_true p10; replace q10 := eq_true q10; have HX12 := Aside0.mk (show Kd.R k122 122 w11 w.heap.size (fun _ => True) (.slice (some ⟨go10, 0, none⟩) x3_1.length co10) x3_1 from (by (with_reducible repeat (first | apply Kd.R_alloc | apply Kd.R_drewN | apply Kd.R_drew)); exact HO_3.out)); obtain ⟨ce12, hcl12, hM12, hcc12, hfr12⟩ := Kd.R_elem HX12.out z122 (x4_1 : Int) (of_decide_eq_true (by first | (with_reducible assumption) | assumption)) (by have h_ : (x4_1 : Int) < ((x3_1.length : Int) : Int) := of_decide_eq_true (by first | (with_reducible assumption) | assumption); first | exact h_ | (have e_ := (Kd.R_reads' HO_3.out).1; omega) | simpa using h_); obtain rfl := k122_openM hM12; have HP12 := Kd.R_seg HX12.out (x4_1 : Int) (of_decide_eq_true (by first | (with_reducible assumption) | assumption)) (by have h_ : (x4_1 : Int) < ((x3_1.length : Int) : Int) := of_decide_eq_true (by first | (with_reducible assumption) | assumption); first | exact h_ | (have e_ := (Kd.R_reads' HO_3.out).1; omega) | simpa using h_) (seg := [.int .i64 t141, .int .i64 t142, .int .i64 t143]) (j := 0) hcl12 hcc12 (show 3 ≤ 3 from by decide) (x' := (⟨t141, t142, t143⟩ : S122)) (k122_mkM _ _ _ (⟨t141, t142, t143⟩ : S122) ) (fun _ hk => hk); have hx12_0 := hcc12 0 _ rfl; (try simp only [show (k122).sz = 3 from rfl, Nat.mul_one, Nat.add_zero] at hx12_0); have hf12_0 := hfr12 0; (try simp only [show (k122).sz = 3 from rfl, Nat.mul_one, Nat.add_zero] at hf12_0); have hx12_1 := hcc12 1 _ rfl; (try simp only [show (k122).sz = 3 from rfl, Nat.mul_one, Nat.add_zero] at hx12_1); have hf12_1 := hfr12 1; (try simp only [show (k122).sz = 3 from rfl, Nat.mul_one, Nat.add_zero] at hf12_1); have hx12_2 := hcc12 2 _ rfl; (try simp only [show (k122).sz = 3 from rfl, Nat.mul_one, Nat.add_zero] at hx12_2); have hf12_2 := hfr12 2; (try simp only [show (k122).sz = 3 from rfl, Nat.mul_one, Nat.add_zero] at hf12_2); clear hcl12 hcc12 hfr12 hM12) | ((with_reducible refine gate_store (t := 122) (p := 21) rfl ?_); refine store_event (t := 122) (p := 21) (v := ?vo_w13) (w1 := (((w11.setCell ⟨go10, (x4_1 : Int).toNat * 3, none⟩ (.int .i64 t141)).setCell ⟨go10, (x4_1 : Int).toNat * 3 + 1, none⟩ (.int .i64 t142)).setCell ⟨go10, (x4_1 : Int).toNat * 3 + 2, none⟩ (.int .i64 t143))) ?hg ?ho ?hn ?hr ?_; (case ho => rfl); (case hg => rfl); (case hn => rfl); (case hr => first | (go_simp; done) | (go_simp; rfl)); intro w13 hw; have hg : w11.grownBy w13 (some go10) := (by rw [hw]; exact HP12.2); have hp_ : Kd.R k122 122 w13 w.heap.size (fun _ => True) (.slice (some ⟨go10, 0, none⟩) x3_1.length co10) y144 := (by rw [hw, Ny144.out]; exact HP12.1); clear HP12; have n0_ := Aside0.mk (hp_); have n1_ := Aside0.mk ((by rw [hw]; exact below_set (below_set (below_set (HB.out) GB10.out) GB10.out) GB10.out : Below w.heap.size w w13)); clear HO_3; clear HB; have HO_3 := n0_; have HB := n1_; clear n0_ n1_; clear hg hw hp_))
                go_roundg k1
                case measure => have := HK1.out; omega
                case rel => exact ⟨(y144), (wrap64 (x4_1 + 1)), (by first | rfl | (simp; done) | (simp [*]; done)), H', ⟨by have := HK1.out; omega⟩, ⟨by (with_reducible repeat (first | apply Kd.R_alloc | apply Kd.R_drewN | apply Kd.R_drew)); exact HO_3.out⟩, ⟨by repeat (first | (with_reducible first | exact HB.out | apply below_alloc | apply pw_below_drewN | apply below_drew1) | exact HB.out)⟩⟩
              · rw [if_neg c9] at H
                exact absurd H (by simp)
            · rw [if_neg c7] at H
              exact absurd H (by simp)
          · rw [if_neg c6] at H
            have c6b0 : decide (x4_1 < (l0.length : Int)) = false := decide_eq_false c6
            clear c6
            obtain rfl := Option.some.inj H
            go_wp2
            go_ret
            exact ⟨_, by first | rfl | (simp [errW_none, errW_some] <;> rfl) | (simp [*, errW_none, errW_some] <;> rfl), by (with_reducible repeat (first | apply Kd.R_alloc | apply Kd.R_drewN | apply Kd.R_drew)); exact HO_3.out, by repeat (first | (with_reducible first | exact HB.out | apply below_alloc | apply pw_below_drewN | apply below_drew1) | exact HB.out)⟩
    · rw [if_neg c3] at H
      exact absurd H (by simp)
  · rw [if_neg c2] at H
    exact absurd H (by simp)

/-! ### laws_toState: function 41 -/
def laws_toState.f (k : Nat) (a0_0 : Int) (l0_1 : List Int) (l0_2 : List Bool) (l0_3 : List (S157)) : Option (Int × List Int × List Bool × (List (S122))) := (laws_toIntS.f k l0_1).bind fun t148 => ((laws_toBoolS.f k l0_2).bind fun t151 => ((laws_toMessageS.f k l0_3).bind fun t154 => (some (a0_0, t148, t151, t154))))
theorem laws_toState.mono : ∀ a0 a1 a2 a3 k, LeO (laws_toState.f k a0 a1 a2 a3) (laws_toState.f (k + 1) a0 a1 a2 a3) := by
  intro a0 a1 a2 a3 k
  unfold laws_toState.f
  repeat' first
      | (with_reducible exact laws_toBoolS.mono _ _)
      | (with_reducible exact laws_toIntS.mono _ _)
      | (with_reducible exact laws_toMessageS.mono _ _)
      | (with_reducible exact LeO.refl _)
      | (with_reducible exact LeO.none _)
      | (with_reducible refine LeO.ite ?_ ?_)
      | (with_reducible refine LeO.bind ?_ (fun _ => ?_))
      | exact laws_toBoolS.mono _ _
      | exact laws_toIntS.mono _ _
      | exact laws_toMessageS.mono _ _
      | exact LeO.none _
      | refine LeO.ite ?_ ?_
      | refine LeO.bind ?_ (fun _ => ?_)
set_option maxHeartbeats 8000000 in
set_option maxRecDepth 100000 in
theorem laws_toState.calls (k : Nat) (a0_0 : Int) (A0_1 : Option Addr) (c0_1 : Nat) (l0_1 : List Int) (A0_2 : Option Addr) (c0_2 : Nat) (l0_2 : List Bool) (A0_3 : Option Addr) (c0_3 : Nat) (l0_3 : List (S157)) (r1 : Int) (r2 : List Int) (r3 : List Bool) (r4 : List (S122)) (w : World) (hr0_1 : Kd.C (Kd.int .i64) w A0_1 l0_1.length l0_1) (hc0_1 : l0_1.length ≤ c0_1) (hr0_2 : Kd.C Kd.bool w A0_2 l0_2.length l0_2) (hc0_2 : l0_2.length ≤ c0_2) (hr0_3 : Kd.C k157 w A0_3 l0_3.length l0_3) (hc0_3 : l0_3.length ≤ c0_3) (h : laws_toState.f k a0_0 l0_1 l0_2 l0_3 = some (r1, r2, r3, r4)) :
    Calls Try.prog 41 #[.agg #[.int .i64 a0_0, .slice A0_1 l0_1.length c0_1, .slice A0_2 l0_2.length c0_2, .slice A0_3 l0_3.length c0_3]] w fun e w' => ∃ v1_ v2_ v3_ : Value, e = .returned (.agg #[.int .i64 r1, v1_, v2_, v3_]) ∧ Kd.R (Kd.int .i64) 3 w' w.heap.size (fun _ => True) v1_ r2 ∧ Kd.R Kd.bool 4 w' w.heap.size (fun _ => True) v2_ r3 ∧ Kd.R k122 122 w' w.heap.size (fun _ => True) v3_ r4 ∧ Below w.heap.size w w' := by
  have hu58 := Try.underlying58
  have hu63 := Try.underlying63
  have HR0_1 := Aside0.mk hr0_1
  have HC0_1 := Aside0.mk hc0_1
  clear hr0_1 hc0_1
  have HR0_2 := Aside0.mk hr0_2
  have HC0_2 := Aside0.mk hc0_2
  clear hr0_2 hc0_2
  have HR0_3 := Aside0.mk hr0_3
  have HC0_3 := Aside0.mk hc0_3
  clear hr0_3 hc0_3
  have HB := Aside0.mk (Below.refl w.heap.size w)
  have H : ((laws_toIntS.f k l0_1).bind fun t148 => ((laws_toBoolS.f k l0_2).bind fun t151 => ((laws_toMessageS.f k l0_3).bind fun t154 => (some (a0_0, t148, t151, t154))))) = some (r1, r2, r3, r4) := h
  clear h
  replace H := Option.bind_eq_some_iff.mp H
  obtain ⟨t148, A20, H⟩ := H
  replace H : ((laws_toBoolS.f k l0_2).bind fun t151 => ((laws_toMessageS.f k l0_3).bind fun t154 => (some (a0_0, t148, t151, t154)))) = some (r1, r2, r3, r4) := H
  have A2 := Aside0.mk A20
  clear A20
  replace H := Option.bind_eq_some_iff.mp H
  obtain ⟨t151, A30, H⟩ := H
  replace H : ((laws_toMessageS.f k l0_3).bind fun t154 => (some (a0_0, t148, t151, t154))) = some (r1, r2, r3, r4) := H
  have A3 := Aside0.mk A30
  clear A30
  replace H := Option.bind_eq_some_iff.mp H
  obtain ⟨t154, A40, H⟩ := H
  replace H : (some (a0_0, t148, t151, t154)) = some (r1, r2, r3, r4) := H
  have A4 := Aside0.mk A40
  clear A40
  simp only [Option.some.injEq, Prod.mk.injEq] at H
  obtain ⟨rfl, rfl, rfl, rfl⟩ := H
  go_enter Try.func41, Try.ntmps41
  go_wp2_with (first | ((with_reducible refine gate_dst (N := 1) rfl ?_); refine box_event ?hg (N := 1) ?hd (cs := #[.int .i64 a0_0, .slice A0_1 l0_1.length c0_1, .slice A0_2 l0_2.length c0_2, .slice A0_3 l0_3.length c0_3]) (t := 58) ?hr ?_; (case hd => rfl); (case hg => rfl); (case hr => first | (go_simp; done) | (go_simp; rfl)); intro gb145 hg w5 hbox hb; have n0_ := Aside0.mk (below_step (by repeat (first | (with_reducible first | exact HB.out | apply below_alloc | apply pw_below_drewN | apply below_drew1) | exact HB.out)) hb); have n1_ := Aside0.mk (hbox); have n2_ := Aside0.mk ((by rw [hg]; exact (below_size (by repeat (first | (with_reducible first | exact HB.out | apply below_alloc | apply pw_below_drewN | apply below_drew1) | exact HB.out))) : w.heap.size ≤ gb145)); have n3_ := Aside0.mk ((by rw [hg]; exact (below_size (by repeat (first | (with_reducible first | exact HB.out | apply below_alloc | apply pw_below_drewN | apply below_drew1) | exact HB.out))) : w.heap.size ≤ gb145)); clear HB; have HB := n0_; have BK145 := n1_; have GW145 := n2_; have GE145 := n3_; clear n0_ n1_ n2_ n3_; clear hb hbox hg) | ((with_reducible refine gate_dst (N := 2) rfl ?_); refine box_event ?hg (N := 2) ?hd (cs := #[.int .i64 0, .slice none 0 0, .slice none 0 0, .slice none 0 0]) (t := 63) ?hr ?_; (case hd => rfl); (case hg => rfl); (case hr => first | (go_simp; done) | (go_simp; rfl)); intro gb146 hg w6 hbox hb; have n0_ := Aside0.mk (blk_below (g := gb145) (o := .cells #[.int .i64 a0_0, .slice A0_1 l0_1.length c0_1, .slice A0_2 l0_2.length c0_2, .slice A0_3 l0_3.length c0_3] 58 (0, 0)) (by (with_reducible repeat (first | refine blk_drewN ?_ _ | refine blk_drew ?_ | refine blk_alloc ?_ _)); exact BK145.out) hb); have n1_ := Aside0.mk (below_step (by repeat (first | (with_reducible first | exact HB.out | apply below_alloc | apply pw_below_drewN | apply below_drew1 | refine below_set ?_ GE145.out) | exact HB.out)) hb); have n2_ := Aside0.mk (hbox); have n3_ := Aside0.mk ((by rw [hg]; exact (below_size (by repeat (first | (with_reducible first | exact HB.out | apply below_alloc | apply pw_below_drewN | apply below_drew1 | refine below_set ?_ GE145.out) | exact HB.out))) : w.heap.size ≤ gb146)); have n4_ := Aside0.mk ((by rw [hg]; exact (below_size (by repeat (first | (with_reducible first | exact HB.out | apply below_alloc | apply pw_below_drewN | apply below_drew1 | refine below_set ?_ GE145.out) | exact HB.out))) : w.heap.size ≤ gb146)); have n5_ := Aside0.mk ((by rw [hg]; exact Nat.ne_of_lt (blk_lt (g := gb145) (o := .cells #[.int .i64 a0_0, .slice A0_1 l0_1.length c0_1, .slice A0_2 l0_2.length c0_2, .slice A0_3 l0_3.length c0_3] 58 (0, 0)) (by (with_reducible repeat (first | refine blk_drewN ?_ _ | refine blk_drew ?_ | refine blk_alloc ?_ _)); exact BK145.out)) : gb145 ≠ gb146)); have n6_ := Aside0.mk ((by rw [hg]; exact Nat.ne_of_gt (blk_lt (g := gb145) (o := .cells #[.int .i64 a0_0, .slice A0_1 l0_1.length c0_1, .slice A0_2 l0_2.length c0_2, .slice A0_3 l0_3.length c0_3] 58 (0, 0)) (by (with_reducible repeat (first | refine blk_drewN ?_ _ | refine blk_drew ?_ | refine blk_alloc ?_ _)); exact BK145.out)) : gb146 ≠ gb145)); clear BK145; clear HB; have BK145 := n0_; have HB := n1_; have BK146 := n2_; have GW146 := n3_; have GE146 := n4_; have NB145_146 := n5_; have NB146_145 := n6_; clear n0_ n1_ n2_ n3_ n4_ n5_ n6_; clear hb hbox hg) | ((with_reducible refine gate_dst (N := 3) rfl ?_); refine box_event ?hg (N := 3) ?hd (cs := #[.int .i64 0, .slice none 0 0, .slice none 0 0, .slice none 0 0]) (t := 63) ?hr ?_; (case hd => rfl); (case hg => rfl); (case hr => first | (go_simp; done) | (go_simp; rfl)); intro gb147 hg w7 hbox hb; have n0_ := Aside0.mk (blk_below (g := gb145) (o := .cells #[.int .i64 a0_0, .slice A0_1 l0_1.length c0_1, .slice A0_2 l0_2.length c0_2, .slice A0_3 l0_3.length c0_3] 58 (0, 0)) (by (with_reducible repeat (first | refine blk_drewN ?_ _ | refine blk_drew ?_ | refine blk_alloc ?_ _)); exact BK145.out) hb); have n1_ := Aside0.mk (blk_below (g := gb146) (o := .cells #[.int .i64 0, .slice none 0 0, .slice none 0 0, .slice none 0 0] 63 (0, 0)) (by (with_reducible repeat (first | refine blk_drewN ?_ _ | refine blk_drew ?_ | refine blk_alloc ?_ _)); exact BK146.out) hb); have n2_ := Aside0.mk (below_step (by repeat (first | (with_reducible first | exact HB.out | apply below_alloc | apply pw_below_drewN | apply below_drew1 | refine below_set ?_ GE145.out | refine below_set ?_ GE146.out) | exact HB.out)) hb); have n3_ := Aside0.mk (hbox); have n4_ := Aside0.mk ((by rw [hg]; exact (below_size (by repeat (first | (with_reducible first | exact HB.out | apply below_alloc | apply pw_below_drewN | apply below_drew1 | refine below_set ?_ GE145.out | refine below_set ?_ GE146.out) | exact HB.out))) : w.heap.size ≤ gb147)); have n5_ := Aside0.mk ((by rw [hg]; exact (below_size (by repeat (first | (with_reducible first | exact HB.out | apply below_alloc | apply pw_below_drewN | apply below_drew1 | refine below_set ?_ GE145.out | refine below_set ?_ GE146.out) | exact HB.out))) : w.heap.size ≤ gb147)); have n6_ := Aside0.mk ((by rw [hg]; exact Nat.ne_of_lt (blk_lt (g := gb145) (o := .cells #[.int .i64 a0_0, .slice A0_1 l0_1.length c0_1, .slice A0_2 l0_2.length c0_2, .slice A0_3 l0_3.length c0_3] 58 (0, 0)) (by (with_reducible repeat (first | refine blk_drewN ?_ _ | refine blk_drew ?_ | refine blk_alloc ?_ _)); exact BK145.out)) : gb145 ≠ gb147)); have n7_ := Aside0.mk ((by rw [hg]; exact Nat.ne_of_gt (blk_lt (g := gb145) (o := .cells #[.int .i64 a0_0, .slice A0_1 l0_1.length c0_1, .slice A0_2 l0_2.length c0_2, .slice A0_3 l0_3.length c0_3] 58 (0, 0)) (by (with_reducible repeat (first | refine blk_drewN ?_ _ | refine blk_drew ?_ | refine blk_alloc ?_ _)); exact BK145.out)) : gb147 ≠ gb145)); have n8_ := Aside0.mk ((by rw [hg]; exact Nat.ne_of_lt (blk_lt (g := gb146) (o := .cells #[.int .i64 0, .slice none 0 0, .slice none 0 0, .slice none 0 0] 63 (0, 0)) (by (with_reducible repeat (first | refine blk_drewN ?_ _ | refine blk_drew ?_ | refine blk_alloc ?_ _)); exact BK146.out)) : gb146 ≠ gb147)); have n9_ := Aside0.mk ((by rw [hg]; exact Nat.ne_of_gt (blk_lt (g := gb146) (o := .cells #[.int .i64 0, .slice none 0 0, .slice none 0 0, .slice none 0 0] 63 (0, 0)) (by (with_reducible repeat (first | refine blk_drewN ?_ _ | refine blk_drew ?_ | refine blk_alloc ?_ _)); exact BK146.out)) : gb147 ≠ gb146)); clear BK145; clear BK146; clear HB; have BK145 := n0_; have BK146 := n1_; have HB := n2_; have BK147 := n3_; have GW147 := n4_; have GE147 := n5_; have NB145_147 := n6_; have NB147_145 := n7_; have NB146_147 := n8_; have NB147_146 := n9_; clear n0_ n1_ n2_ n3_ n4_ n5_ n6_ n7_ n8_ n9_; clear hb hbox hg; have hnb8 := NB145_146.out; have hnc8 := NB146_145.out; have hnb9 := NB145_147.out; have hnc9 := NB147_145.out; have hcz10_0 : w7.cell? ⟨gb145, 0, none⟩ = some (.int .i64 a0_0) := (blk_cell BK145.out 0).trans rfl; have hcz10_1 : w7.cell? ⟨gb145, 1, none⟩ = some (.slice A0_1 l0_1.length c0_1) := (blk_cell BK145.out 1).trans rfl; have hcz10_2 : w7.cell? ⟨gb145, 2, none⟩ = some (.slice A0_2 l0_2.length c0_2) := (blk_cell BK145.out 2).trans rfl; have hcz10_3 : w7.cell? ⟨gb145, 3, none⟩ = some (.slice A0_3 l0_3.length c0_3) := (blk_cell BK145.out 3).trans rfl; have hfz10_0 := blk_frozen BK145.out 0; have hfz10_1 := blk_frozen BK145.out 1; have hfz10_2 := blk_frozen BK145.out 2; have hfz10_3 := blk_frozen BK145.out 3; have hnb11 := NB147_146.out; have hnc11 := NB146_147.out; have hcz12_0 : w7.cell? ⟨gb147, 0, none⟩ = some (.int .i64 0) := (blk_cell BK147.out 0).trans rfl; have hcz12_1 : w7.cell? ⟨gb147, 1, none⟩ = some (.slice none 0 0) := (blk_cell BK147.out 1).trans rfl; have hcz12_2 : w7.cell? ⟨gb147, 2, none⟩ = some (.slice none 0 0) := (blk_cell BK147.out 2).trans rfl; have hcz12_3 : w7.cell? ⟨gb147, 3, none⟩ = some (.slice none 0 0) := (blk_cell BK147.out 3).trans rfl; have hfz12_0 := blk_frozen BK147.out 0; have hfz12_1 := blk_frozen BK147.out 1; have hfz12_2 := blk_frozen BK147.out 2; have hfz12_3 := blk_frozen BK147.out 3) | ((with_reducible refine gate_callee (f := 16) rfl ?_); refine goesL_ (some 9) rfl rfl Try.func16 (by kernel_rfl) rfl #[.slice A0_1 l0_1.length c0_1] rfl (by (try simp only [List.map_toArray, List.map_cons, List.map_nil]); first | done | rfl | (simp only [List.length_drop, List.length_take]; rfl)) ?_; (with_reducible refine (laws_toIntS.calls k _ _ l0_1 t148 _ ?side1 ?side2 A2.out).mono ?_); (case side1 => exact Kd.C_below HR0_1.out (by repeat (first | (with_reducible first | exact HB.out | apply below_alloc | apply pw_below_drewN | apply below_drew1 | refine below_set ?_ GE145.out | refine below_set ?_ GE146.out | refine below_set ?_ GE147.out) | exact HB.out))); (case side2 => exact HC0_1.out); rintro e w13 ⟨v149, rfl, ho0, hb⟩; refine ⟨_, rfl, ?_⟩; have n0_ := Aside0.mk (Kd.R_lower ho0 (below_size (by repeat (first | (with_reducible first | exact HB.out | apply below_alloc | apply pw_below_drewN | apply below_drew1 | refine below_set ?_ GE145.out | refine below_set ?_ GE146.out | refine below_set ?_ GE147.out) | exact HB.out)))); have n1_ := Aside0.mk (blk_below (g := gb145) (o := .cells #[.int .i64 a0_0, .slice A0_1 l0_1.length c0_1, .slice A0_2 l0_2.length c0_2, .slice A0_3 l0_3.length c0_3] 58 (0, 0)) (by (with_reducible repeat (first | refine blk_drewN ?_ _ | refine blk_drew ?_ | refine blk_alloc ?_ _)); refine blk_far ?_ NB145_147.out _; (with_reducible repeat (first | refine blk_drewN ?_ _ | refine blk_drew ?_ | refine blk_alloc ?_ _)); exact BK145.out) hb); have n2_ := Aside0.mk (blk_below (g := gb146) (o := .cells #[.int .i64 0, .slice none 0 0, .slice none 0 0, .slice none 0 0] 63 (0, 0)) (by (with_reducible repeat (first | refine blk_drewN ?_ _ | refine blk_drew ?_ | refine blk_alloc ?_ _)); refine blk_far ?_ NB146_147.out _; (with_reducible repeat (first | refine blk_drewN ?_ _ | refine blk_drew ?_ | refine blk_alloc ?_ _)); exact BK146.out) hb); have n3_ := Aside0.mk (blk_below (g := gb147) (o := .cells #[.int .i64 a0_0, .slice none 0 0, .slice none 0 0, .slice none 0 0] 63 (0, 0)) (by (with_reducible repeat (first | refine blk_drewN ?_ _ | refine blk_drew ?_ | refine blk_alloc ?_ _)); refine blk_put (cs := #[.int .i64 0, .slice none 0 0, .slice none 0 0, .slice none 0 0]) ?_ 0 _ rfl; (with_reducible repeat (first | refine blk_drewN ?_ _ | refine blk_drew ?_ | refine blk_alloc ?_ _)); exact BK147.out) hb); have n4_ := Aside0.mk (below_step (by repeat (first | (with_reducible first | exact HB.out | apply below_alloc | apply pw_below_drewN | apply below_drew1 | refine below_set ?_ GE145.out | refine below_set ?_ GE146.out | refine below_set ?_ GE147.out) | exact HB.out)) hb); clear BK145; clear BK146; clear BK147; clear HB; have HO150 := n0_; have BK145 := n1_; have BK146 := n2_; have BK147 := n3_; have HB := n4_; clear n0_ n1_ n2_ n3_ n4_; (try clear hb); (try clear hb2); (try clear hk); (try clear hi); (try clear ho0); obtain ⟨Ao14, co14, eo14⟩ := Kd.R_slice HO150.out; subst eo14; have hcz15_0 : w13.cell? ⟨gb147, 0, none⟩ = some (.int .i64 a0_0) := (blk_cell BK147.out 0).trans rfl; have hcz15_1 : w13.cell? ⟨gb147, 1, none⟩ = some (.slice none 0 0) := (blk_cell BK147.out 1).trans rfl; have hcz15_2 : w13.cell? ⟨gb147, 2, none⟩ = some (.slice none 0 0) := (blk_cell BK147.out 2).trans rfl; have hcz15_3 : w13.cell? ⟨gb147, 3, none⟩ = some (.slice none 0 0) := (blk_cell BK147.out 3).trans rfl; have hfz15_0 := blk_frozen BK147.out 0; have hfz15_1 := blk_frozen BK147.out 1; have hfz15_2 := blk_frozen BK147.out 2; have hfz15_3 := blk_frozen BK147.out 3; have hcz16_0 : w13.cell? ⟨gb145, 0, none⟩ = some (.int .i64 a0_0) := (blk_cell BK145.out 0).trans rfl; have hcz16_1 : w13.cell? ⟨gb145, 1, none⟩ = some (.slice A0_1 l0_1.length c0_1) := (blk_cell BK145.out 1).trans rfl; have hcz16_2 : w13.cell? ⟨gb145, 2, none⟩ = some (.slice A0_2 l0_2.length c0_2) := (blk_cell BK145.out 2).trans rfl; have hcz16_3 : w13.cell? ⟨gb145, 3, none⟩ = some (.slice A0_3 l0_3.length c0_3) := (blk_cell BK145.out 3).trans rfl; have hfz16_0 := blk_frozen BK145.out 0; have hfz16_1 := blk_frozen BK145.out 1; have hfz16_2 := blk_frozen BK145.out 2; have hfz16_3 := blk_frozen BK145.out 3) | ((with_reducible refine gate_callee (f := 92) rfl ?_); refine goesL_ (some 13) rfl rfl Try.func92 (by kernel_rfl) rfl #[.slice A0_2 l0_2.length c0_2] rfl (by (try simp only [List.map_toArray, List.map_cons, List.map_nil]); first | done | rfl | (simp only [List.length_drop, List.length_take]; rfl)) ?_; (with_reducible refine (laws_toBoolS.calls k _ _ l0_2 t151 _ ?side1 ?side2 A3.out).mono ?_); (case side1 => exact Kd.C_below HR0_2.out (by repeat (first | (with_reducible first | exact HB.out | apply below_alloc | apply pw_below_drewN | apply below_drew1 | refine below_set ?_ GE145.out | refine below_set ?_ GE146.out | refine below_set ?_ GE147.out) | exact HB.out))); (case side2 => exact HC0_2.out); rintro e w17 ⟨v152, rfl, ho0, hb⟩; refine ⟨_, rfl, ?_⟩; have n0_ := Aside0.mk (Kd.R_below (by (with_reducible repeat (first | apply Kd.R_alloc | apply Kd.R_drewN | apply Kd.R_drew)); exact (Kd.R_mono (Kd.R_far (p := ⟨gb147, 1, none⟩) (Kd.R_types HO150.out BK147.out (by decide)) (fun _ hk => hk.2) (.slice Ao14 t148.length co14)) (fun _ h_ => h_.1))) hb); have n1_ := Aside0.mk (Kd.R_lower ho0 (below_size (by repeat (first | (with_reducible first | exact HB.out | apply below_alloc | apply pw_below_drewN | apply below_drew1 | refine below_set ?_ GE145.out | refine below_set ?_ GE146.out | refine below_set ?_ GE147.out) | exact HB.out)))); have n2_ := Aside0.mk (blk_below (g := gb145) (o := .cells #[.int .i64 a0_0, .slice A0_1 l0_1.length c0_1, .slice A0_2 l0_2.length c0_2, .slice A0_3 l0_3.length c0_3] 58 (0, 0)) (by (with_reducible repeat (first | refine blk_drewN ?_ _ | refine blk_drew ?_ | refine blk_alloc ?_ _)); refine blk_far ?_ NB145_147.out _; (with_reducible repeat (first | refine blk_drewN ?_ _ | refine blk_drew ?_ | refine blk_alloc ?_ _)); exact BK145.out) hb); have n3_ := Aside0.mk (blk_below (g := gb146) (o := .cells #[.int .i64 0, .slice none 0 0, .slice none 0 0, .slice none 0 0] 63 (0, 0)) (by (with_reducible repeat (first | refine blk_drewN ?_ _ | refine blk_drew ?_ | refine blk_alloc ?_ _)); refine blk_far ?_ NB146_147.out _; (with_reducible repeat (first | refine blk_drewN ?_ _ | refine blk_drew ?_ | refine blk_alloc ?_ _)); exact BK146.out) hb); have n4_ := Aside0.mk (blk_below (g := gb147) (o := .cells #[.int .i64 a0_0, .slice Ao14 t148.length co14, .slice none 0 0, .slice none 0 0] 63 (0, 0)) (by (with_reducible repeat (first | refine blk_drewN ?_ _ | refine blk_drew ?_ | refine blk_alloc ?_ _)); refine blk_put (cs := #[.int .i64 a0_0, .slice none 0 0, .slice none 0 0, .slice none 0 0]) ?_ 1 _ rfl; (with_reducible repeat (first | refine blk_drewN ?_ _ | refine blk_drew ?_ | refine blk_alloc ?_ _)); exact BK147.out) hb); have n5_ := Aside0.mk (below_step (by repeat (first | (with_reducible first | exact HB.out | apply below_alloc | apply pw_below_drewN | apply below_drew1 | refine below_set ?_ GE145.out | refine below_set ?_ GE146.out | refine below_set ?_ GE147.out) | exact HB.out)) hb); clear HO150; clear BK145; clear BK146; clear BK147; clear HB; have HO150 := n0_; have HO153 := n1_; have BK145 := n2_; have BK146 := n3_; have BK147 := n4_; have HB := n5_; clear n0_ n1_ n2_ n3_ n4_ n5_; (try clear hb); (try clear hb2); (try clear hk); (try clear hi); (try clear ho0); obtain ⟨Ao18, co18, eo18⟩ := Kd.R_slice HO153.out; subst eo18; have hcz19_0 : w17.cell? ⟨gb147, 0, none⟩ = some (.int .i64 a0_0) := (blk_cell BK147.out 0).trans rfl; have hcz19_1 : w17.cell? ⟨gb147, 1, none⟩ = some (.slice Ao14 t148.length co14) := (blk_cell BK147.out 1).trans rfl; have hcz19_2 : w17.cell? ⟨gb147, 2, none⟩ = some (.slice none 0 0) := (blk_cell BK147.out 2).trans rfl; have hcz19_3 : w17.cell? ⟨gb147, 3, none⟩ = some (.slice none 0 0) := (blk_cell BK147.out 3).trans rfl; have hfz19_0 := blk_frozen BK147.out 0; have hfz19_1 := blk_frozen BK147.out 1; have hfz19_2 := blk_frozen BK147.out 2; have hfz19_3 := blk_frozen BK147.out 3; have hcz20_0 : w17.cell? ⟨gb145, 0, none⟩ = some (.int .i64 a0_0) := (blk_cell BK145.out 0).trans rfl; have hcz20_1 : w17.cell? ⟨gb145, 1, none⟩ = some (.slice A0_1 l0_1.length c0_1) := (blk_cell BK145.out 1).trans rfl; have hcz20_2 : w17.cell? ⟨gb145, 2, none⟩ = some (.slice A0_2 l0_2.length c0_2) := (blk_cell BK145.out 2).trans rfl; have hcz20_3 : w17.cell? ⟨gb145, 3, none⟩ = some (.slice A0_3 l0_3.length c0_3) := (blk_cell BK145.out 3).trans rfl; have hfz20_0 := blk_frozen BK145.out 0; have hfz20_1 := blk_frozen BK145.out 1; have hfz20_2 := blk_frozen BK145.out 2; have hfz20_3 := blk_frozen BK145.out 3) | ((with_reducible refine gate_callee (f := 93) rfl ?_); refine goesL_ (some 17) rfl rfl Try.func93 (by kernel_rfl) rfl #[.slice A0_3 l0_3.length c0_3] rfl (by (try simp only [List.map_toArray, List.map_cons, List.map_nil]); first | done | rfl | (simp only [List.length_drop, List.length_take]; rfl)) ?_; (with_reducible refine (laws_toMessageS.calls k _ _ l0_3 t154 _ ?side1 ?side2 A4.out).mono ?_); (case side1 => exact Kd.C_below HR0_3.out (by repeat (first | (with_reducible first | exact HB.out | apply below_alloc | apply pw_below_drewN | apply below_drew1 | refine below_set ?_ GE145.out | refine below_set ?_ GE146.out | refine below_set ?_ GE147.out) | exact HB.out))); (case side2 => exact HC0_3.out); rintro e w21 ⟨v155, rfl, ho0, hb⟩; refine ⟨_, rfl, ?_⟩; have n0_ := Aside0.mk (Kd.R_below (by (with_reducible repeat (first | apply Kd.R_alloc | apply Kd.R_drewN | apply Kd.R_drew)); exact (Kd.R_mono (Kd.R_far (p := ⟨gb147, 2, none⟩) (Kd.R_types HO150.out BK147.out (by decide)) (fun _ hk => hk.2) (.slice Ao18 t151.length co18)) (fun _ h_ => h_.1))) hb); have n1_ := Aside0.mk (Kd.R_below (by (with_reducible repeat (first | apply Kd.R_alloc | apply Kd.R_drewN | apply Kd.R_drew)); exact (Kd.R_mono (Kd.R_far (p := ⟨gb147, 2, none⟩) (Kd.R_types HO153.out BK147.out (by decide)) (fun _ hk => hk.2) (.slice Ao18 t151.length co18)) (fun _ h_ => h_.1))) hb); have n2_ := Aside0.mk (Kd.R_lower ho0 (below_size (by repeat (first | (with_reducible first | exact HB.out | apply below_alloc | apply pw_below_drewN | apply below_drew1 | refine below_set ?_ GE145.out | refine below_set ?_ GE146.out | refine below_set ?_ GE147.out) | exact HB.out)))); have n3_ := Aside0.mk (blk_below (g := gb145) (o := .cells #[.int .i64 a0_0, .slice A0_1 l0_1.length c0_1, .slice A0_2 l0_2.length c0_2, .slice A0_3 l0_3.length c0_3] 58 (0, 0)) (by (with_reducible repeat (first | refine blk_drewN ?_ _ | refine blk_drew ?_ | refine blk_alloc ?_ _)); refine blk_far ?_ NB145_147.out _; (with_reducible repeat (first | refine blk_drewN ?_ _ | refine blk_drew ?_ | refine blk_alloc ?_ _)); exact BK145.out) hb); have n4_ := Aside0.mk (blk_below (g := gb146) (o := .cells #[.int .i64 0, .slice none 0 0, .slice none 0 0, .slice none 0 0] 63 (0, 0)) (by (with_reducible repeat (first | refine blk_drewN ?_ _ | refine blk_drew ?_ | refine blk_alloc ?_ _)); refine blk_far ?_ NB146_147.out _; (with_reducible repeat (first | refine blk_drewN ?_ _ | refine blk_drew ?_ | refine blk_alloc ?_ _)); exact BK146.out) hb); have n5_ := Aside0.mk (blk_below (g := gb147) (o := .cells #[.int .i64 a0_0, .slice Ao14 t148.length co14, .slice Ao18 t151.length co18, .slice none 0 0] 63 (0, 0)) (by (with_reducible repeat (first | refine blk_drewN ?_ _ | refine blk_drew ?_ | refine blk_alloc ?_ _)); refine blk_put (cs := #[.int .i64 a0_0, .slice Ao14 t148.length co14, .slice none 0 0, .slice none 0 0]) ?_ 2 _ rfl; (with_reducible repeat (first | refine blk_drewN ?_ _ | refine blk_drew ?_ | refine blk_alloc ?_ _)); exact BK147.out) hb); have n6_ := Aside0.mk (below_step (by repeat (first | (with_reducible first | exact HB.out | apply below_alloc | apply pw_below_drewN | apply below_drew1 | refine below_set ?_ GE145.out | refine below_set ?_ GE146.out | refine below_set ?_ GE147.out) | exact HB.out)) hb); clear HO150; clear HO153; clear BK145; clear BK146; clear BK147; clear HB; have HO150 := n0_; have HO153 := n1_; have HO156 := n2_; have BK145 := n3_; have BK146 := n4_; have BK147 := n5_; have HB := n6_; clear n0_ n1_ n2_ n3_ n4_ n5_ n6_; (try clear hb); (try clear hb2); (try clear hk); (try clear hi); (try clear ho0); obtain ⟨Ao22, co22, eo22⟩ := Kd.R_slice HO156.out; subst eo22; have hcz23_0 : w21.cell? ⟨gb147, 0, none⟩ = some (.int .i64 a0_0) := (blk_cell BK147.out 0).trans rfl; have hcz23_1 : w21.cell? ⟨gb147, 1, none⟩ = some (.slice Ao14 t148.length co14) := (blk_cell BK147.out 1).trans rfl; have hcz23_2 : w21.cell? ⟨gb147, 2, none⟩ = some (.slice Ao18 t151.length co18) := (blk_cell BK147.out 2).trans rfl; have hcz23_3 : w21.cell? ⟨gb147, 3, none⟩ = some (.slice none 0 0) := (blk_cell BK147.out 3).trans rfl; have hfz23_0 := blk_frozen BK147.out 0; have hfz23_1 := blk_frozen BK147.out 1; have hfz23_2 := blk_frozen BK147.out 2; have hfz23_3 := blk_frozen BK147.out 3; have hcz24_0 : w21.cell? ⟨gb146, 0, none⟩ = some (.int .i64 0) := (blk_cell BK146.out 0).trans rfl; have hcz24_1 : w21.cell? ⟨gb146, 1, none⟩ = some (.slice none 0 0) := (blk_cell BK146.out 1).trans rfl; have hcz24_2 : w21.cell? ⟨gb146, 2, none⟩ = some (.slice none 0 0) := (blk_cell BK146.out 2).trans rfl; have hcz24_3 : w21.cell? ⟨gb146, 3, none⟩ = some (.slice none 0 0) := (blk_cell BK146.out 3).trans rfl; have hfz24_0 := blk_frozen BK146.out 0; have hfz24_1 := blk_frozen BK146.out 1; have hfz24_2 := blk_frozen BK146.out 2; have hfz24_3 := blk_frozen BK146.out 3))
  refine bodyPost_ret (results_cell_row rfl _ _ gb146 63 #[.int .i64 a0_0, .slice Ao14 t148.length co14, .slice Ao18 t151.length co18, .slice Ao22 t154.length co22] (0, 0) _ rfl (by (with_reducible repeat (first | refine blk_drewN ?_ _ | refine blk_drew ?_ | refine blk_alloc ?_ _)); refine blk_put (cs := #[.int .i64 a0_0, .slice Ao14 t148.length co14, .slice Ao18 t151.length co18, .slice none 0 0]) ?_ 3 _ rfl; (with_reducible repeat (first | refine blk_drewN ?_ _ | refine blk_drew ?_ | refine blk_alloc ?_ _)); refine blk_put (cs := #[.int .i64 a0_0, .slice Ao14 t148.length co14, .slice none 0 0, .slice none 0 0]) ?_ 2 _ rfl; (with_reducible repeat (first | refine blk_drewN ?_ _ | refine blk_drew ?_ | refine blk_alloc ?_ _)); refine blk_put (cs := #[.int .i64 a0_0, .slice none 0 0, .slice none 0 0, .slice none 0 0]) ?_ 1 _ rfl; (with_reducible repeat (first | refine blk_drewN ?_ _ | refine blk_drew ?_ | refine blk_alloc ?_ _)); refine blk_put (cs := #[.int .i64 0, .slice none 0 0, .slice none 0 0, .slice none 0 0]) ?_ 0 _ rfl; (with_reducible repeat (first | refine blk_drewN ?_ _ | refine blk_drew ?_ | refine blk_alloc ?_ _)); refine blk_far ?_ NB146_147.out _; (with_reducible repeat (first | refine blk_drewN ?_ _ | refine blk_drew ?_ | refine blk_alloc ?_ _)); exact BK146.out) Try.underlying63 rfl (by kernel_rfl)) rfl ?_
  exact ⟨_, _, _, by first | rfl | (simp [errW_none, errW_some] <;> rfl) | (simp [*, errW_none, errW_some] <;> rfl), by (with_reducible repeat (first | apply Kd.R_alloc | apply Kd.R_drewN | apply Kd.R_drew)); exact Kd.R_mono (Kd.R_far (p := ⟨gb146, 3, none⟩) (Kd.R_far (p := ⟨gb146, 2, none⟩) (Kd.R_far (p := ⟨gb146, 1, none⟩) (Kd.R_far (p := ⟨gb146, 0, none⟩) (Kd.R_far (p := ⟨gb147, 3, none⟩) (Kd.R_types (Kd.R_types HO150.out BK147.out (by decide)) BK146.out (by decide)) (fun _ hk => hk.1.2) (.slice Ao22 t154.length co22)) (fun _ hk => hk.2) (.int .i64 a0_0)) (fun _ hk => hk.2) (.slice Ao14 t148.length co14)) (fun _ hk => hk.2) (.slice Ao18 t151.length co18)) (fun _ hk => hk.2) (.slice Ao22 t154.length co22)) (fun _ hk => trivial), by (with_reducible repeat (first | apply Kd.R_alloc | apply Kd.R_drewN | apply Kd.R_drew)); exact Kd.R_mono (Kd.R_far (p := ⟨gb146, 3, none⟩) (Kd.R_far (p := ⟨gb146, 2, none⟩) (Kd.R_far (p := ⟨gb146, 1, none⟩) (Kd.R_far (p := ⟨gb146, 0, none⟩) (Kd.R_far (p := ⟨gb147, 3, none⟩) (Kd.R_types (Kd.R_types HO153.out BK147.out (by decide)) BK146.out (by decide)) (fun _ hk => hk.1.2) (.slice Ao22 t154.length co22)) (fun _ hk => hk.2) (.int .i64 a0_0)) (fun _ hk => hk.2) (.slice Ao14 t148.length co14)) (fun _ hk => hk.2) (.slice Ao18 t151.length co18)) (fun _ hk => hk.2) (.slice Ao22 t154.length co22)) (fun _ hk => trivial), by (with_reducible repeat (first | apply Kd.R_alloc | apply Kd.R_drewN | apply Kd.R_drew)); exact Kd.R_mono (Kd.R_far (p := ⟨gb146, 3, none⟩) (Kd.R_far (p := ⟨gb146, 2, none⟩) (Kd.R_far (p := ⟨gb146, 1, none⟩) (Kd.R_far (p := ⟨gb146, 0, none⟩) (Kd.R_far (p := ⟨gb147, 3, none⟩) (Kd.R_types (Kd.R_types HO156.out BK147.out (by decide)) BK146.out (by decide)) (fun _ hk => hk.1.2) (.slice Ao22 t154.length co22)) (fun _ hk => hk.2) (.int .i64 a0_0)) (fun _ hk => hk.2) (.slice Ao14 t148.length co14)) (fun _ hk => hk.2) (.slice Ao18 t151.length co18)) (fun _ hk => hk.2) (.slice Ao22 t154.length co22)) (fun _ hk => trivial), by repeat (first | (with_reducible first | exact HB.out | apply below_alloc | apply pw_below_drewN | apply below_drew1 | refine below_set ?_ GE145.out | refine below_set ?_ GE146.out | refine below_set ?_ GE147.out) | exact HB.out)⟩

/-! ### impl_valueFits: function 123 -/
def impl_valueFits.f (a0 : Int) : Option (Bool) := if a0 ≥ (-1) then (some (decide (a0 < 1000000))) else (some false)
set_option maxHeartbeats 8000000 in
set_option maxRecDepth 100000 in
theorem impl_valueFits.calls (a0 : Int) (r : Bool) (w : World) (h : impl_valueFits.f a0 = some r) :
    Calls Try.prog 123 #[.int .i64 a0] w fun e w' => e = .returned (.bool r) ∧ Drawn0 w w' := by
  have H : (if a0 ≥ (-1) then (some (decide (a0 < 1000000))) else (some false)) = some r := h
  clear h
  by_cases c2 : a0 ≥ (-1)
  · rw [if_pos c2] at H
    have c2b0 : decide ((-1) ≤ a0) = true := decide_eq_true c2
    clear c2
    obtain rfl := Option.some.inj H
    go_enter Try.func123, Try.ntmps123
    go_wp2
    go_ret
    exact ⟨by first | rfl | (simp; done) | (simp [*]; done), by repeat (first | exact Drawn0.refl _ | apply Drawn0.step)⟩
  · rw [if_neg c2] at H
    have c2b0 : decide ((-1) ≤ a0) = false := decide_eq_false c2
    clear c2
    obtain rfl := Option.some.inj H
    go_enter Try.func123, Try.ntmps123
    go_wp2
    go_ret
    exact ⟨by first | rfl | (simp; done) | (simp [*]; done), by repeat (first | exact Drawn0.refl _ | apply Drawn0.step)⟩

/-! ### impl_valuesFit: function 76 -/
def impl_valuesFit.l0 : Nat → List Int → Int → Int → Option (Bool)
  | 0, _, _, _ => none
  | k + 1, x5, x6, x7 => if x7 < x6 then (if 0 ≤ x7 then (if x7 < (x5.length : Int) then ((impl_valueFits.f (rd x5 x7)).bind fun t158 => (if t158 = true then (impl_valuesFit.l0 k x5 x6 (wrap64 (x7 + 1))) else (some false))) else (none)) else (none)) else (some true)
def impl_valuesFit.f (k : Nat) (l0 : List Int) : Option (Bool) := impl_valuesFit.l0 k l0 (l0.length : Int) 0
theorem impl_valuesFit.mono_l : ∀ k, (∀ y0 y1 y2, LeO (impl_valuesFit.l0 k y0 y1 y2) (impl_valuesFit.l0 (k + 1) y0 y1 y2))
  | 0 => fun _ _ _ r h => by simp [impl_valuesFit.l0] at h
  | k + 1 => by
    have ih0 := impl_valuesFit.mono_l k
    · intro y0 y1 y2
      unfold impl_valuesFit.l0
      repeat' first
      | (with_reducible exact ih0 _ _ _)
      | (with_reducible exact LeO.refl _)
      | (with_reducible exact LeO.none _)
      | (with_reducible refine LeO.ite ?_ ?_)
      | (with_reducible refine LeO.bind ?_ (fun _ => ?_))
      | exact ih0 _ _ _
      | exact LeO.none _
      | refine LeO.ite ?_ ?_
      | refine LeO.bind ?_ (fun _ => ?_)
theorem impl_valuesFit.mono : ∀ a0 k, LeO (impl_valuesFit.f k a0) (impl_valuesFit.f (k + 1) a0) := by
  intro a0 k
  have ih0 := impl_valuesFit.mono_l k
  unfold impl_valuesFit.f
  repeat' first
      | (with_reducible exact ih0 _ _ _)
      | (with_reducible exact LeO.refl _)
      | (with_reducible exact LeO.none _)
      | (with_reducible refine LeO.ite ?_ ?_)
      | (with_reducible refine LeO.bind ?_ (fun _ => ?_))
      | exact ih0 _ _ _
      | exact LeO.none _
      | refine LeO.ite ?_ ?_
      | refine LeO.bind ?_ (fun _ => ?_)
set_option maxHeartbeats 8000000 in
set_option maxRecDepth 100000 in
theorem impl_valuesFit.calls (k : Nat) (A0 : Option Addr) (c0 : Nat) (l0 : List Int) (r : Bool) (w : World) (hr0 : Kd.C (Kd.int .i64) w A0 l0.length l0) (hc0 : l0.length ≤ c0) (h : impl_valuesFit.f k l0 = some r) :
    Calls Try.prog 76 #[.slice A0 l0.length c0] w fun e w' => e = .returned (.bool r) ∧ Drawn0 w w' := by
  have HR0 := Aside0.mk hr0
  have HC0 := Aside0.mk hc0
  clear hr0 hc0
  have H : (impl_valuesFit.l0 k l0 (l0.length : Int) 0) = some r := h
  clear h
  have H' := Aside0.mk H
  clear H
  go_enter Try.func76, Try.ntmps76
  go_wp2
  go_loopg [7] k (fun kq v7 w' => ∃ (x7_1 : Int), v7 = .int .i64 x7_1 ∧ Aside0 (impl_valuesFit.l0 kq l0 (l0.length : Int) x7_1 = some r) ∧ Aside0 (kq ≤ k) ∧ Drawn0 w w')
  case atStart => exact ⟨(0), (by first | rfl | (simp; done) | (simp [*]; done)), H', ⟨Nat.le_refl _⟩, by repeat (first | exact Drawn0.refl _ | apply Drawn0.step)⟩
  case round =>
    clear H'
    obtain ⟨x7_1, rfl, HA, HK1, ⟨m1, rfl⟩⟩ := hrel
    cases gk with
    | zero => exact absurd HA.out (by simp [impl_valuesFit.l0])
    | succ k1 =>
      have H := HA.out
      clear HA
      simp only [impl_valuesFit.l0] at H
      by_cases c2 : x7_1 < (l0.length : Int)
      · rw [if_pos c2] at H
        have c2b0 : decide (x7_1 < (l0.length : Int)) = true := decide_eq_true c2
        clear c2
        by_cases c3 : 0 ≤ x7_1
        · rw [if_pos c3] at H
          have c3b0 : decide (0 ≤ x7_1) = true := decide_eq_true c3
          clear c3
          by_cases c4 : x7_1 < (l0.length : Int)
          · rw [if_pos c4] at H
            have c4b0 : decide (x7_1 < (l0.length : Int)) = true := decide_eq_true c4
            clear c4
            replace H := Option.bind_eq_some_iff.mp H
            obtain ⟨t158, A50, H⟩ := H
            replace H : (if t158 = true then (impl_valuesFit.l0 k1 l0 (l0.length : Int) (wrap64 (x7_1 + 1))) else (some false)) = some r := H
            have A5 := Aside0.mk A50
            clear A50
            by_cases c6 : t158 = true
            · subst c6
              have H1 : (impl_valuesFit.l0 k1 l0 (l0.length : Int) (wrap64 (x7_1 + 1))) = some r := by rw [if_pos rfl] at H; exact H
              clear H
              have H := H1
              clear H1
              have H' := Aside0.mk H
              clear H
              have p157 : 0 ≤ (x7_1 : Int) := of_decide_eq_true (by first | (with_reducible assumption) | assumption)
              have q157 : x7_1 < (l0.length : Int) := of_decide_eq_true (by first | (with_reducible assumption) | assumption)
              obtain ⟨ad157, e157, hx157_0⟩ := Kd.at_int HR0.out x7_1 p157 q157
              cases e157
              replace p157 := eq_true p157
              replace q157 := eq_true q157
              go_wp2_with (first | ((with_reducible refine gate_callee (f := 123) rfl ?_); refine goesL_ (some 12) rfl rfl Try.func123 (by kernel_rfl) rfl #[.int .i64 (rd l0 x7_1)] rfl (by (try simp only [List.map_toArray, List.map_cons, List.map_nil]); first | done | rfl | (simp only [List.length_drop, List.length_take]; rfl)) ?_; (with_reducible refine (impl_valueFits.calls (rd l0 x7_1) true _ A5.out).mono ?_); rintro e w' ⟨rfl, ⟨nd, rfl⟩⟩; refine ⟨_, rfl, ?_⟩))
              go_roundg k1
              case measure => have := HK1.out; omega
              case rel => exact ⟨(wrap64 (x7_1 + 1)), (by first | rfl | (simp; done) | (simp [*]; done)), H', ⟨by have := HK1.out; omega⟩, by repeat (first | exact Drawn0.refl _ | apply Drawn0.step)⟩
            · replace c6 := Bool.eq_false_iff.mpr c6
              subst c6
              have H1 : (some false) = some r := by rw [if_neg (show ¬ (false = true) by decide)] at H; exact H
              clear H
              have H := H1
              clear H1
              obtain rfl := Option.some.inj H
              have p157 : 0 ≤ (x7_1 : Int) := of_decide_eq_true (by first | (with_reducible assumption) | assumption)
              have q157 : x7_1 < (l0.length : Int) := of_decide_eq_true (by first | (with_reducible assumption) | assumption)
              obtain ⟨ad157, e157, hx157_0⟩ := Kd.at_int HR0.out x7_1 p157 q157
              cases e157
              replace p157 := eq_true p157
              replace q157 := eq_true q157
              go_wp2_with (first | ((with_reducible refine gate_callee (f := 123) rfl ?_); refine goesL_ (some 12) rfl rfl Try.func123 (by kernel_rfl) rfl #[.int .i64 (rd l0 x7_1)] rfl (by (try simp only [List.map_toArray, List.map_cons, List.map_nil]); first | done | rfl | (simp only [List.length_drop, List.length_take]; rfl)) ?_; (with_reducible refine (impl_valueFits.calls (rd l0 x7_1) false _ A5.out).mono ?_); rintro e w' ⟨rfl, ⟨nd, rfl⟩⟩; refine ⟨_, rfl, ?_⟩))
              go_ret
              exact ⟨by first | rfl | (simp; done) | (simp [*]; done), by repeat (first | exact Drawn0.refl _ | apply Drawn0.step)⟩
          · rw [if_neg c4] at H
            exact absurd H (by simp)
        · rw [if_neg c3] at H
          exact absurd H (by simp)
      · rw [if_neg c2] at H
        have c2b0 : decide (x7_1 < (l0.length : Int)) = false := decide_eq_false c2
        clear c2
        obtain rfl := Option.some.inj H
        go_wp2
        go_ret
        exact ⟨by first | rfl | (simp; done) | (simp [*]; done), by repeat (first | exact Drawn0.refl _ | apply Drawn0.step)⟩

/-! ### impl_roundFits: function 118 -/
def impl_roundFits.f (a0 : Int) : Option (Bool) := if a0 ≥ 0 then (some (decide (a0 ≤ 100))) else (some false)
set_option maxHeartbeats 8000000 in
set_option maxRecDepth 100000 in
theorem impl_roundFits.calls (a0 : Int) (r : Bool) (w : World) (h : impl_roundFits.f a0 = some r) :
    Calls Try.prog 118 #[.int .i64 a0] w fun e w' => e = .returned (.bool r) ∧ Drawn0 w w' := by
  have H : (if a0 ≥ 0 then (some (decide (a0 ≤ 100))) else (some false)) = some r := h
  clear h
  by_cases c2 : a0 ≥ 0
  · rw [if_pos c2] at H
    have c2b0 : decide (0 ≤ a0) = true := decide_eq_true c2
    clear c2
    obtain rfl := Option.some.inj H
    go_enter Try.func118, Try.ntmps118
    go_wp2
    go_ret
    exact ⟨by first | rfl | (simp; done) | (simp [*]; done), by repeat (first | exact Drawn0.refl _ | apply Drawn0.step)⟩
  · rw [if_neg c2] at H
    have c2b0 : decide (0 ≤ a0) = false := decide_eq_false c2
    clear c2
    obtain rfl := Option.some.inj H
    go_enter Try.func118, Try.ntmps118
    go_wp2
    go_ret
    exact ⟨by first | rfl | (simp; done) | (simp [*]; done), by repeat (first | exact Drawn0.refl _ | apply Drawn0.step)⟩

end Go.Proofs.Ytloiafnoekpaoab.PFnExactStateDone
