/- Laid by a program of this session out of the translation: functions, their contracts, the row. Lean checks it. -/
import Derived.Test.YtloiafnoekpaoabPFnTotalsOfx0
namespace Go.Proofs.Ytloiafnoekpaoab.PFnTotalsOf
open Go.RowKit Go.Proofs.YtloiafnoekpaoabW.PrintWords Go.Proofs.YtloiafnoekpaoabW.PrintLast Go.Proofs.YtloiafnoekpaoabW.PrintMore
attribute [local go_sem] max2_int min2_int max_two min_two max_three min_three max_four min_four   -- for this text's walks alone
set_option linter.unusedVariables false
set_option linter.unusedSimpArgs false

/-! ### spec_l1In: function 71 -/
def spec_l1In.f (a0 : Int) (a1 : Int) (a2 : Int) : Option (Bool) := if a0 ≥ a1 then (some (decide (a0 ≤ a2))) else (some false)
set_option maxHeartbeats 8000000 in
set_option maxRecDepth 100000 in
theorem spec_l1In.calls (a0 : Int) (a1 : Int) (a2 : Int) (r : Bool) (w : World) (h : spec_l1In.f a0 a1 a2 = some r) :
    Calls Try.prog 71 #[.int .i64 a0, .int .i64 a1, .int .i64 a2] w fun e w' => e = .returned (.bool r) ∧ Drawn0 w w' := by
  have H : (if a0 ≥ a1 then (some (decide (a0 ≤ a2))) else (some false)) = some r := h
  clear h
  by_cases c4 : a0 ≥ a1
  · rw [if_pos c4] at H
    have c4b0 : decide (a1 ≤ a0) = true := decide_eq_true c4
    clear c4
    obtain rfl := Option.some.inj H
    go_enter Try.func71, Try.ntmps71
    go_wp2
    go_ret
    exact ⟨by first | rfl | (simp; done) | (simp [*]; done), by repeat (first | exact Drawn0.refl _ | apply Drawn0.step)⟩
  · rw [if_neg c4] at H
    have c4b0 : decide (a1 ≤ a0) = false := decide_eq_false c4
    clear c4
    obtain rfl := Option.some.inj H
    go_enter Try.func71, Try.ntmps71
    go_wp2
    go_ret
    exact ⟨by first | rfl | (simp; done) | (simp [*]; done), by repeat (first | exact Drawn0.refl _ | apply Drawn0.step)⟩

/-! ### spec_TotalOf: function 74 -/
mutual
def spec_TotalOf.l0 : Nat → List Int → Int → Int → Int → Int → Int → Option (Int × Int × Int × Int)
  | 0, _, _, _, _, _, _ => none
  | k + 1, x0, x4, x103000, x103001, x103002, x103003 => if x4 < (x0.length : Int) then (if 0 ≤ x4 then ((spec_l1In.f (rd x0 x4) (-1) 999999).bind fun t104 => (if t104 = true then (spec_TotalOf.j1 k x0 x4 (rd x0 x4) (decide ((x0.length : Int) > 16)) x103000 x103001 x103002 x103003) else (spec_TotalOf.j1 k x0 x4 (rd x0 x4) true x103000 x103001 x103002 x103003))) else (none)) else (some (x103000, x103001, x103002, x103003))
def spec_TotalOf.j1 : Nat → List Int → Int → Int → Bool → Int → Int → Int → Int → Option (Int × Int × Int × Int)
  | 0, _, _, _, _, _, _, _, _ => none
  | k + 1, x0, x4, x5, x24, x103000, x103001, x103002, x103003 => if x24 = true then (some (0, 0, 0, 0)) else (if x5 < 0 then (spec_TotalOf.l0 k x0 (wrap64 (x4 + 1)) x103000 x103001 x103002 x103003) else (if x103002 < 0 then (spec_TotalOf.l0 k x0 (wrap64 (x4 + 1)) (wrap64 (x103000 + 1)) (wrap64 (x103001 + x5)) x5 (mx x103003 x5)) else (if x5 < x103002 then (spec_TotalOf.l0 k x0 (wrap64 (x4 + 1)) (wrap64 (x103000 + 1)) (wrap64 (x103001 + x5)) x5 (mx x103003 x5)) else (spec_TotalOf.l0 k x0 (wrap64 (x4 + 1)) (wrap64 (x103000 + 1)) (wrap64 (x103001 + x5)) x103002 (mx x103003 x5)))))
end
def spec_TotalOf.f (k : Nat) (l0 : List Int) : Option (Int × Int × Int × Int) := spec_TotalOf.l0 k l0 0 0 0 (-1) (-1)
theorem spec_TotalOf.mono_l : ∀ k, (∀ y0 y1 y2 y3 y4 y5, LeO (spec_TotalOf.l0 k y0 y1 y2 y3 y4 y5) (spec_TotalOf.l0 (k + 1) y0 y1 y2 y3 y4 y5)) ∧ (∀ y0 y1 y2 y3 y4 y5 y6 y7, LeO (spec_TotalOf.j1 k y0 y1 y2 y3 y4 y5 y6 y7) (spec_TotalOf.j1 (k + 1) y0 y1 y2 y3 y4 y5 y6 y7))
  | 0 => ⟨fun _ _ _ _ _ _ r h => by simp [spec_TotalOf.l0] at h, fun _ _ _ _ _ _ _ _ r h => by simp [spec_TotalOf.j1] at h⟩
  | k + 1 => by
    obtain ⟨ih0, ih1⟩ := spec_TotalOf.mono_l k
    refine ⟨?_, ?_⟩
    · intro y0 y1 y2 y3 y4 y5
      unfold spec_TotalOf.l0
      repeat' first
      | (with_reducible exact ih0 _ _ _ _ _ _)
      | (with_reducible exact ih1 _ _ _ _ _ _ _ _)
      | (with_reducible exact LeO.refl _)
      | (with_reducible exact LeO.none _)
      | (with_reducible refine LeO.ite ?_ ?_)
      | (with_reducible refine LeO.bind ?_ (fun _ => ?_))
      | exact ih0 _ _ _ _ _ _
      | exact ih1 _ _ _ _ _ _ _ _
      | exact LeO.none _
      | refine LeO.ite ?_ ?_
      | refine LeO.bind ?_ (fun _ => ?_)
    · intro y0 y1 y2 y3 y4 y5 y6 y7
      unfold spec_TotalOf.j1
      repeat' first
      | (with_reducible exact ih0 _ _ _ _ _ _)
      | (with_reducible exact ih1 _ _ _ _ _ _ _ _)
      | (with_reducible exact LeO.refl _)
      | (with_reducible exact LeO.none _)
      | (with_reducible refine LeO.ite ?_ ?_)
      | (with_reducible refine LeO.bind ?_ (fun _ => ?_))
      | exact ih0 _ _ _ _ _ _
      | exact ih1 _ _ _ _ _ _ _ _
      | exact LeO.none _
      | refine LeO.ite ?_ ?_
      | refine LeO.bind ?_ (fun _ => ?_)
theorem spec_TotalOf.mono : ∀ a0 k, LeO (spec_TotalOf.f k a0) (spec_TotalOf.f (k + 1) a0) := by
  intro a0 k
  obtain ⟨ih0, ih1⟩ := spec_TotalOf.mono_l k
  unfold spec_TotalOf.f
  repeat' first
      | (with_reducible exact ih0 _ _ _ _ _ _)
      | (with_reducible exact ih1 _ _ _ _ _ _ _ _)
      | (with_reducible exact LeO.refl _)
      | (with_reducible exact LeO.none _)
      | (with_reducible refine LeO.ite ?_ ?_)
      | (with_reducible refine LeO.bind ?_ (fun _ => ?_))
      | exact ih0 _ _ _ _ _ _
      | exact ih1 _ _ _ _ _ _ _ _
      | exact LeO.none _
      | refine LeO.ite ?_ ?_
      | refine LeO.bind ?_ (fun _ => ?_)
set_option maxHeartbeats 8000000 in
set_option maxRecDepth 100000 in
theorem spec_TotalOf.calls (k : Nat) (A0 : Option Addr) (c0 : Nat) (l0 : List Int) (r1 : Int) (r2 : Int) (r3 : Int) (r4 : Int) (w : World) (hr0 : Kd.C (Kd.int .i64) w A0 l0.length l0) (hc0 : l0.length ≤ c0) (h : spec_TotalOf.f k l0 = some (r1, r2, r3, r4)) :
    Calls Try.prog 74 #[.slice A0 l0.length c0] w fun e w' => e = .returned (.agg #[.int .i64 r1, .int .i64 r2, .int .i64 r3, .int .i64 r4]) ∧ Below w.heap.size w w' := by
  have hu52 := Try.underlying52
  have HR0 := Aside0.mk hr0
  have HC0 := Aside0.mk hc0
  clear hr0 hc0
  have HB := Aside0.mk (Below.refl w.heap.size w)
  have H : (spec_TotalOf.l0 k l0 0 0 0 (-1) (-1)) = some (r1, r2, r3, r4) := h
  clear h
  have H' := Aside0.mk H
  clear H
  go_enter Try.func74, Try.ntmps74
  go_wp2_with (first | ((with_reducible refine gate_dst (N := 2) rfl ?_); (try (refine gate_guard (by rfl) ?_; dsimp only)); refine box_event ?hg (N := 2) ?hd (cs := #[.int .i64 0, .int .i64 0, .int .i64 0, .int .i64 0]) (t := 52) ?hr ?_; (case hd => rfl); (case hg => rfl); (case hr => first | (go_simp; done) | (go_simp; rfl)); intro gb101 hg w2 hbox hb; have n0_ := Aside0.mk (below_step (by repeat (first | (with_reducible first | exact HB.out | apply below_alloc | apply pw_below_drewN | apply below_drew1) | exact HB.out)) hb); have n1_ := Aside0.mk (hbox); have n2_ := Aside0.mk ((by rw [hg]; exact (below_size (by repeat (first | (with_reducible first | exact HB.out | apply below_alloc | apply pw_below_drewN | apply below_drew1) | exact HB.out))) : w.heap.size ≤ gb101)); have n3_ := Aside0.mk ((by rw [hg]; exact (below_size (by repeat (first | (with_reducible first | exact HB.out | apply below_alloc | apply pw_below_drewN | apply below_drew1) | exact HB.out))) : w.heap.size ≤ gb101)); clear HB; have HB := n0_; have BK101 := n1_; have GW101 := n2_; have GE101 := n3_; clear n0_ n1_ n2_ n3_; clear hb hbox hg) | ((with_reducible refine gate_dst (N := 3) rfl ?_); (try (refine gate_guard (by rfl) ?_; dsimp only)); refine box_event ?hg (N := 3) ?hd (cs := #[.int .i64 0, .int .i64 0, .int .i64 0, .int .i64 0]) (t := 52) ?hr ?_; (case hd => rfl); (case hg => rfl); (case hr => first | (go_simp; done) | (go_simp; rfl)); intro gb102 hg w3 hbox hb; have n0_ := Aside0.mk (blk_below (g := gb101) (o := .cells #[.int .i64 0, .int .i64 0, .int .i64 0, .int .i64 0] 52 (0, 0)) (by (with_reducible repeat (first | refine blk_drewN ?_ _ | refine blk_drew ?_ | refine blk_alloc ?_ _)); exact BK101.out) hb); have n1_ := Aside0.mk (below_step (by repeat (first | (with_reducible first | exact HB.out | apply below_alloc | apply pw_below_drewN | apply below_drew1 | refine below_set ?_ GE101.out) | exact HB.out)) hb); have n2_ := Aside0.mk (hbox); have n3_ := Aside0.mk ((by rw [hg]; exact (below_size (by repeat (first | (with_reducible first | exact HB.out | apply below_alloc | apply pw_below_drewN | apply below_drew1 | refine below_set ?_ GE101.out) | exact HB.out))) : w.heap.size ≤ gb102)); have n4_ := Aside0.mk ((by rw [hg]; exact (below_size (by repeat (first | (with_reducible first | exact HB.out | apply below_alloc | apply pw_below_drewN | apply below_drew1 | refine below_set ?_ GE101.out) | exact HB.out))) : w.heap.size ≤ gb102)); have n5_ := Aside0.mk ((by rw [hg]; exact Nat.ne_of_lt (blk_lt (g := gb101) (o := .cells #[.int .i64 0, .int .i64 0, .int .i64 0, .int .i64 0] 52 (0, 0)) (by (with_reducible repeat (first | refine blk_drewN ?_ _ | refine blk_drew ?_ | refine blk_alloc ?_ _)); exact BK101.out)) : gb101 ≠ gb102)); have n6_ := Aside0.mk ((by rw [hg]; exact Nat.ne_of_gt (blk_lt (g := gb101) (o := .cells #[.int .i64 0, .int .i64 0, .int .i64 0, .int .i64 0] 52 (0, 0)) (by (with_reducible repeat (first | refine blk_drewN ?_ _ | refine blk_drew ?_ | refine blk_alloc ?_ _)); exact BK101.out)) : gb102 ≠ gb101)); clear BK101; clear HB; have BK101 := n0_; have HB := n1_; have BK102 := n2_; have GW102 := n3_; have GE102 := n4_; have NB101_102 := n5_; have NB102_101 := n6_; clear n0_ n1_ n2_ n3_ n4_ n5_ n6_; clear hb hbox hg; have hnb4 := NB102_101.out; have hnc4 := NB101_102.out; have hcz5_0 : w3.cell? ⟨gb102, 0, none⟩ = some (.int .i64 0) := (blk_cell BK102.out 0).trans rfl; have hcz5_1 : w3.cell? ⟨gb102, 1, none⟩ = some (.int .i64 0) := (blk_cell BK102.out 1).trans rfl; have hcz5_2 : w3.cell? ⟨gb102, 2, none⟩ = some (.int .i64 0) := (blk_cell BK102.out 2).trans rfl; have hcz5_3 : w3.cell? ⟨gb102, 3, none⟩ = some (.int .i64 0) := (blk_cell BK102.out 3).trans rfl; have hfz5_0 := blk_frozen BK102.out 0; have hfz5_1 := blk_frozen BK102.out 1; have hfz5_2 := blk_frozen BK102.out 2; have hfz5_3 := blk_frozen BK102.out 3))
  go_loopg [4] k (fun kq v4 w' => ∃ (x4_1 : Int) (x102000_1 : Int) (x102001_1 : Int) (x102002_1 : Int) (x102003_1 : Int) (x103000_1 : Int) (x103001_1 : Int) (x103002_1 : Int) (x103003_1 : Int), v4 = .int .i64 x4_1 ∧ Aside0 (spec_TotalOf.l0 kq l0 x4_1 x103000_1 x103001_1 x103002_1 x103003_1 = some (r1, r2, r3, r4)) ∧ Aside0 (kq ≤ k) ∧ Aside0 (w'.heap[gb101]? = some (.cells #[.int .i64 x102000_1, .int .i64 x102001_1, .int .i64 x102002_1, .int .i64 x102003_1] 52 (0, 0))) ∧ Aside0 (w'.heap[gb102]? = some (.cells #[.int .i64 x103000_1, .int .i64 x103001_1, .int .i64 x103002_1, .int .i64 x103003_1] 52 (0, 0))) ∧ Aside0 (Below w.heap.size w w'))
  case atStart => exact ⟨(0), (0), (0), (0), (0), (0), (0), ((-1)), ((-1)), (by first | rfl | (simp; done) | (simp [*]; done)), H', ⟨Nat.le_refl _⟩, ⟨by (with_reducible repeat (first | refine blk_drewN ?_ _ | refine blk_drew ?_ | refine blk_alloc ?_ _)); refine blk_far ?_ NB101_102.out _; (with_reducible repeat (first | refine blk_drewN ?_ _ | refine blk_drew ?_ | refine blk_alloc ?_ _)); refine blk_far ?_ NB101_102.out _; (with_reducible repeat (first | refine blk_drewN ?_ _ | refine blk_drew ?_ | refine blk_alloc ?_ _)); refine blk_far ?_ NB101_102.out _; (with_reducible repeat (first | refine blk_drewN ?_ _ | refine blk_drew ?_ | refine blk_alloc ?_ _)); refine blk_far ?_ NB101_102.out _; (with_reducible repeat (first | refine blk_drewN ?_ _ | refine blk_drew ?_ | refine blk_alloc ?_ _)); exact BK101.out⟩, ⟨by (with_reducible repeat (first | refine blk_drewN ?_ _ | refine blk_drew ?_ | refine blk_alloc ?_ _)); refine blk_put (cs := #[.int .i64 0, .int .i64 0, .int .i64 (-1), .int .i64 0]) ?_ 3 _ rfl; (with_reducible repeat (first | refine blk_drewN ?_ _ | refine blk_drew ?_ | refine blk_alloc ?_ _)); refine blk_put (cs := #[.int .i64 0, .int .i64 0, .int .i64 0, .int .i64 0]) ?_ 2 _ rfl; (with_reducible repeat (first | refine blk_drewN ?_ _ | refine blk_drew ?_ | refine blk_alloc ?_ _)); refine blk_put (cs := #[.int .i64 0, .int .i64 0, .int .i64 0, .int .i64 0]) ?_ 1 _ rfl; (with_reducible repeat (first | refine blk_drewN ?_ _ | refine blk_drew ?_ | refine blk_alloc ?_ _)); refine blk_put (cs := #[.int .i64 0, .int .i64 0, .int .i64 0, .int .i64 0]) ?_ 0 _ rfl; (with_reducible repeat (first | refine blk_drewN ?_ _ | refine blk_drew ?_ | refine blk_alloc ?_ _)); exact BK102.out⟩, ⟨by repeat (first | (with_reducible first | exact HB.out | apply below_alloc | apply pw_below_drewN | apply below_drew1 | refine below_set ?_ GE101.out | refine below_set ?_ GE102.out) | exact HB.out)⟩⟩
  case round =>
    clear H'
    try clear p2
    try clear c4
    try clear hcz5_0
    try clear hcz5_1
    try clear hcz5_2
    try clear hcz5_3
    try clear hfz5_0
    try clear hfz5_1
    try clear hfz5_2
    try clear hfz5_3
    obtain ⟨x4_1, x102000_1, x102001_1, x102002_1, x102003_1, x103000_1, x103001_1, x103002_1, x103003_1, rfl, HA, HK1, BK101, BK102, HB⟩ := hrel
    cases gk with
    | zero => exact absurd HA.out (by simp [spec_TotalOf.l0])
    | succ k1 =>
      have H := HA.out
      clear HA
      simp only [spec_TotalOf.l0] at H
      by_cases c6 : x4_1 < (l0.length : Int)
      · rw [if_pos c6] at H
        have c6b0 : decide (x4_1 < (l0.length : Int)) = true := decide_eq_true c6
        clear c6
        by_cases c7 : 0 ≤ x4_1
        · rw [if_pos c7] at H
          have c7b0 : decide (0 ≤ x4_1) = true := decide_eq_true c7
          clear c7
          have HC8 := Aside0.mk H
          clear H
          have p103 : 0 ≤ (x4_1 : Int) := of_decide_eq_true (by first | (with_reducible assumption) | assumption)
          have q103 : x4_1 < (l0.length : Int) := of_decide_eq_true (by first | (with_reducible assumption) | assumption)
          obtain ⟨ad103, e103, hx103_0⟩ := Kd.at_int HR0.out x4_1 p103 q103
          cases e103
          replace hx103_0 := (HB.out.cell (World.block_lt_of_cell? w _ hx103_0)).trans hx103_0
          replace p103 := eq_true p103
          replace q103 := eq_true q103
          go_upto_region 6 with (fail)
          go_cut [24] (fun v24 wc => ∃ (kq : Nat) (x24_7 : Bool), v24 = .bool x24_7 ∧ Aside0 (spec_TotalOf.j1 kq l0 x4_1 (rd l0 x4_1) x24_7 x103000_1 x103001_1 x103002_1 x103003_1 = some (r1, r2, r3, r4)) ∧ Aside0 (kq ≤ k1) ∧ Aside0 (wc.heap[gb101]? = some (.cells #[.int .i64 x102000_1, .int .i64 x102001_1, .int .i64 x102002_1, .int .i64 x102003_1] 52 (0, 0))) ∧ Aside0 (wc.heap[gb102]? = some (.cells #[.int .i64 x103000_1, .int .i64 x103001_1, .int .i64 x103002_1, .int .i64 x103003_1] 52 (0, 0))) ∧ Aside0 (Below w.heap.size w wc))
          case first =>
            have H := HC8.out
            clear HC8
            replace H := Option.bind_eq_some_iff.mp H
            obtain ⟨t104, A90, H⟩ := H
            replace H : (if t104 = true then (spec_TotalOf.j1 k1 l0 x4_1 (rd l0 x4_1) (decide ((l0.length : Int) > 16)) x103000_1 x103001_1 x103002_1 x103003_1) else (spec_TotalOf.j1 k1 l0 x4_1 (rd l0 x4_1) true x103000_1 x103001_1 x103002_1 x103003_1)) = some (r1, r2, r3, r4) := H
            have A9 := Aside0.mk A90
            clear A90
            by_cases c10 : t104 = true
            · subst c10
              have H1 : (spec_TotalOf.j1 k1 l0 x4_1 (rd l0 x4_1) (decide ((l0.length : Int) > 16)) x103000_1 x103001_1 x103002_1 x103003_1) = some (r1, r2, r3, r4) := by rw [if_pos rfl] at H; exact H
              clear H
              have H := H1
              clear H1
              have H' := Aside0.mk H
              clear H
              go_wp2_with (first | ((with_reducible refine gate_callee (f := 71) rfl ?_); refine goesL_ (some 18) rfl rfl Try.func71 (by kernel_rfl) rfl #[.int .i64 (rd l0 x4_1), .int .i64 (-1), .int .i64 999999] rfl (by (try simp only [List.map_toArray, List.map_cons, List.map_nil]); first | done | rfl | (simp only [List.length_drop, List.length_take]; rfl)) ?_; (with_reducible refine (spec_l1In.calls (rd l0 x4_1) (-1) 999999 true _ A9.out).mono ?_); rintro e w' ⟨rfl, ⟨nd, rfl⟩⟩; refine ⟨_, rfl, ?_⟩))
              go_meet
              case rel => exact ⟨_, (decide ((l0.length : Int) > 16)), (by first | rfl | (simp; done) | (simp [*]; done)), H', ⟨by have := HK1.out; first | omega | exact Nat.le_refl _⟩, ⟨by (with_reducible repeat (first | refine blk_drewN ?_ _ | refine blk_drew ?_ | refine blk_alloc ?_ _)); exact BK101.out⟩, ⟨by (with_reducible repeat (first | refine blk_drewN ?_ _ | refine blk_drew ?_ | refine blk_alloc ?_ _)); exact BK102.out⟩, ⟨by repeat (first | (with_reducible first | exact HB.out | apply below_alloc | apply pw_below_drewN | apply below_drew1 | refine below_set ?_ GE101.out | refine below_set ?_ GE102.out) | exact HB.out)⟩⟩
            · replace c10 := Bool.eq_false_iff.mpr c10
              subst c10
              have H1 : (spec_TotalOf.j1 k1 l0 x4_1 (rd l0 x4_1) true x103000_1 x103001_1 x103002_1 x103003_1) = some (r1, r2, r3, r4) := by rw [if_neg (show ¬ (false = true) by decide)] at H; exact H
              clear H
              have H := H1
              clear H1
              have H' := Aside0.mk H
              clear H
              go_wp2_with (first | ((with_reducible refine gate_callee (f := 71) rfl ?_); refine goesL_ (some 18) rfl rfl Try.func71 (by kernel_rfl) rfl #[.int .i64 (rd l0 x4_1), .int .i64 (-1), .int .i64 999999] rfl (by (try simp only [List.map_toArray, List.map_cons, List.map_nil]); first | done | rfl | (simp only [List.length_drop, List.length_take]; rfl)) ?_; (with_reducible refine (spec_l1In.calls (rd l0 x4_1) (-1) 999999 false _ A9.out).mono ?_); rintro e w' ⟨rfl, ⟨nd, rfl⟩⟩; refine ⟨_, rfl, ?_⟩))
              go_meet
              case rel => exact ⟨_, (true), (by first | rfl | (simp; done) | (simp [*]; done)), H', ⟨by have := HK1.out; first | omega | exact Nat.le_refl _⟩, ⟨by (with_reducible repeat (first | refine blk_drewN ?_ _ | refine blk_drew ?_ | refine blk_alloc ?_ _)); exact BK101.out⟩, ⟨by (with_reducible repeat (first | refine blk_drewN ?_ _ | refine blk_drew ?_ | refine blk_alloc ?_ _)); exact BK102.out⟩, ⟨by repeat (first | (with_reducible first | exact HB.out | apply below_alloc | apply pw_below_drewN | apply below_drew1 | refine below_set ?_ GE101.out | refine below_set ?_ GE102.out) | exact HB.out)⟩⟩
          case rest =>
            clear HC8
            try clear c1
            try clear p1
            try clear q1
            try clear hx1
            try clear p2
            try clear c4
            try clear c6
            try clear c6b0
            try clear c7
            try clear c7b0
            try clear c10
            try clear p10
            try clear q10
            try clear hx10
            try clear hcz5_0
            try clear hcz5_1
            try clear hcz5_2
            try clear hcz5_3
            try clear hfz5_0
            try clear hfz5_1
            try clear hfz5_2
            try clear hfz5_3
            try clear hx103_0
            try clear p103
            try clear p2
            try clear q103
            obtain ⟨kq, x24_7, rfl, HA, HJ7, BK101, BK102, HB⟩ := hcut
            cases kq with
            | zero => exact absurd HA.out (by simp [spec_TotalOf.j1])
            | succ kj7 =>
              have H := HA.out
              clear HA
              simp only [spec_TotalOf.j1] at H
              by_cases c11 : x24_7 = true
              · subst c11
                have H1 : (some (0, 0, 0, 0)) = some (r1, r2, r3, r4) := by rw [if_pos rfl] at H; exact H
                clear H
                have H := H1
                clear H1
                simp only [Option.some.injEq, Prod.mk.injEq] at H
                obtain ⟨rfl, rfl, rfl, rfl⟩ := H
                have hnb12 := NB101_102.out
                have hnc12 := NB102_101.out
                have hcz13_0 : wc.cell? ⟨gb101, 0, none⟩ = some (.int .i64 x102000_1) := (blk_cell BK101.out 0).trans rfl
                have hcz13_1 : wc.cell? ⟨gb101, 1, none⟩ = some (.int .i64 x102001_1) := (blk_cell BK101.out 1).trans rfl
                have hcz13_2 : wc.cell? ⟨gb101, 2, none⟩ = some (.int .i64 x102002_1) := (blk_cell BK101.out 2).trans rfl
                have hcz13_3 : wc.cell? ⟨gb101, 3, none⟩ = some (.int .i64 x102003_1) := (blk_cell BK101.out 3).trans rfl
                have hfz13_0 := blk_frozen BK101.out 0
                have hfz13_1 := blk_frozen BK101.out 1
                have hfz13_2 := blk_frozen BK101.out 2
                have hfz13_3 := blk_frozen BK101.out 3
                go_wp2
                refine bodyPost_ret (results_cell_row rfl _ _ gb101 52 #[.int .i64 0, .int .i64 0, .int .i64 0, .int .i64 0] (0, 0) _ rfl (by (with_reducible repeat (first | refine blk_drewN ?_ _ | refine blk_drew ?_ | refine blk_alloc ?_ _)); refine blk_put (cs := #[.int .i64 0, .int .i64 0, .int .i64 0, .int .i64 x102003_1]) ?_ 3 _ rfl; (with_reducible repeat (first | refine blk_drewN ?_ _ | refine blk_drew ?_ | refine blk_alloc ?_ _)); refine blk_put (cs := #[.int .i64 0, .int .i64 0, .int .i64 x102002_1, .int .i64 x102003_1]) ?_ 2 _ rfl; (with_reducible repeat (first | refine blk_drewN ?_ _ | refine blk_drew ?_ | refine blk_alloc ?_ _)); refine blk_put (cs := #[.int .i64 0, .int .i64 x102001_1, .int .i64 x102002_1, .int .i64 x102003_1]) ?_ 1 _ rfl; (with_reducible repeat (first | refine blk_drewN ?_ _ | refine blk_drew ?_ | refine blk_alloc ?_ _)); refine blk_put (cs := #[.int .i64 x102000_1, .int .i64 x102001_1, .int .i64 x102002_1, .int .i64 x102003_1]) ?_ 0 _ rfl; (with_reducible repeat (first | refine blk_drewN ?_ _ | refine blk_drew ?_ | refine blk_alloc ?_ _)); exact BK101.out) Try.underlying52 rfl (by kernel_rfl)) rfl ?_
                exact ⟨by first | rfl | (simp [errW_none, errW_some] <;> rfl) | (simp [*, errW_none, errW_some] <;> rfl), by repeat (first | (with_reducible first | exact HB.out | apply below_alloc | apply pw_below_drewN | apply below_drew1 | refine below_set ?_ GE101.out | refine below_set ?_ GE102.out) | exact HB.out)⟩
              · replace c11 := Bool.eq_false_iff.mpr c11
                subst c11
                have H1 : (if (rd l0 x4_1) < 0 then (spec_TotalOf.l0 kj7 l0 (wrap64 (x4_1 + 1)) x103000_1 x103001_1 x103002_1 x103003_1) else (if x103002_1 < 0 then (spec_TotalOf.l0 kj7 l0 (wrap64 (x4_1 + 1)) (wrap64 (x103000_1 + 1)) (wrap64 (x103001_1 + (rd l0 x4_1))) (rd l0 x4_1) (mx x103003_1 (rd l0 x4_1))) else (if (rd l0 x4_1) < x103002_1 then (spec_TotalOf.l0 kj7 l0 (wrap64 (x4_1 + 1)) (wrap64 (x103000_1 + 1)) (wrap64 (x103001_1 + (rd l0 x4_1))) (rd l0 x4_1) (mx x103003_1 (rd l0 x4_1))) else (spec_TotalOf.l0 kj7 l0 (wrap64 (x4_1 + 1)) (wrap64 (x103000_1 + 1)) (wrap64 (x103001_1 + (rd l0 x4_1))) x103002_1 (mx x103003_1 (rd l0 x4_1)))))) = some (r1, r2, r3, r4) := by rw [if_neg (show ¬ (false = true) by decide)] at H; exact H
                clear H
                have H := H1
                clear H1
                by_cases c14 : (rd l0 x4_1) < 0
                · rw [if_pos c14] at H
                  have c14b0 : decide ((rd l0 x4_1) < 0) = true := decide_eq_true c14
                  clear c14
                  have H' := Aside0.mk H
                  clear H
                  go_wp2
                  go_roundg kj7
                  case measure => have := HK1.out; have := HJ7.out; omega
                  case rel => exact ⟨(wrap64 (x4_1 + 1)), (x102000_1), (x102001_1), (x102002_1), (x102003_1), (x103000_1), (x103001_1), (x103002_1), (x103003_1), (by first | rfl | (simp; done) | (simp [*]; done)), H', ⟨by have := HK1.out; have := HJ7.out; omega⟩, ⟨by (with_reducible repeat (first | refine blk_drewN ?_ _ | refine blk_drew ?_ | refine blk_alloc ?_ _)); exact BK101.out⟩, ⟨by (with_reducible repeat (first | refine blk_drewN ?_ _ | refine blk_drew ?_ | refine blk_alloc ?_ _)); exact BK102.out⟩, ⟨by repeat (first | (with_reducible first | exact HB.out | apply below_alloc | apply pw_below_drewN | apply below_drew1 | refine below_set ?_ GE101.out | refine below_set ?_ GE102.out) | exact HB.out)⟩⟩
                · rw [if_neg c14] at H
                  have c14b0 : decide ((rd l0 x4_1) < 0) = false := decide_eq_false c14
                  clear c14
                  obtain ⟨ji15, hji15⟩ : ∃ j_ : Int, (mx x103003_1 (rd l0 x4_1)) = j_ := ⟨_, rfl⟩
                  replace H : (if x103002_1 < 0 then (spec_TotalOf.l0 kj7 l0 (wrap64 (x4_1 + 1)) (wrap64 (x103000_1 + 1)) (wrap64 (x103001_1 + (rd l0 x4_1))) (rd l0 x4_1) ji15) else (if (rd l0 x4_1) < x103002_1 then (spec_TotalOf.l0 kj7 l0 (wrap64 (x4_1 + 1)) (wrap64 (x103000_1 + 1)) (wrap64 (x103001_1 + (rd l0 x4_1))) (rd l0 x4_1) ji15) else (spec_TotalOf.l0 kj7 l0 (wrap64 (x4_1 + 1)) (wrap64 (x103000_1 + 1)) (wrap64 (x103001_1 + (rd l0 x4_1))) x103002_1 ji15))) = some (r1, r2, r3, r4) := by first | (rw [hji15] at H; exact H) | (simp only [hji15] at H ⊢; exact H)
                  have hji15_ : (if x103003_1 < (rd l0 x4_1) then (rd l0 x4_1) else x103003_1) = ji15 := hji15
                  by_cases c16 : x103002_1 < 0
                  · rw [if_pos c16] at H
                    have c16b0 : decide (x103002_1 < 0) = true := decide_eq_true c16
                    clear c16
                    have H' := Aside0.mk H
                    clear H
                    have hnb17 := NB102_101.out
                    have hnc17 := NB101_102.out
                    have hcz18_0 : wc.cell? ⟨gb102, 0, none⟩ = some (.int .i64 x103000_1) := (blk_cell BK102.out 0).trans rfl
                    have hcz18_1 : wc.cell? ⟨gb102, 1, none⟩ = some (.int .i64 x103001_1) := (blk_cell BK102.out 1).trans rfl
                    have hcz18_2 : wc.cell? ⟨gb102, 2, none⟩ = some (.int .i64 x103002_1) := (blk_cell BK102.out 2).trans rfl
                    have hcz18_3 : wc.cell? ⟨gb102, 3, none⟩ = some (.int .i64 x103003_1) := (blk_cell BK102.out 3).trans rfl
                    have hfz18_0 := blk_frozen BK102.out 0
                    have hfz18_1 := blk_frozen BK102.out 1
                    have hfz18_2 := blk_frozen BK102.out 2
                    have hfz18_3 := blk_frozen BK102.out 3
                    go_wp2
                    go_roundg kj7
                    case measure => have := HK1.out; have := HJ7.out; omega
                    case rel => exact ⟨(wrap64 (x4_1 + 1)), (x102000_1), (x102001_1), (x102002_1), (x102003_1), (wrap64 (x103000_1 + 1)), (wrap64 (x103001_1 + (rd l0 x4_1))), ((rd l0 x4_1)), (ji15), (by first | rfl | (simp; done) | (simp [*]; done)), H', ⟨by have := HK1.out; have := HJ7.out; omega⟩, ⟨by (with_reducible repeat (first | refine blk_drewN ?_ _ | refine blk_drew ?_ | refine blk_alloc ?_ _)); refine blk_far ?_ NB101_102.out _; (with_reducible repeat (first | refine blk_drewN ?_ _ | refine blk_drew ?_ | refine blk_alloc ?_ _)); refine blk_far ?_ NB101_102.out _; (with_reducible repeat (first | refine blk_drewN ?_ _ | refine blk_drew ?_ | refine blk_alloc ?_ _)); refine blk_far ?_ NB101_102.out _; (with_reducible repeat (first | refine blk_drewN ?_ _ | refine blk_drew ?_ | refine blk_alloc ?_ _)); refine blk_far ?_ NB101_102.out _; (with_reducible repeat (first | refine blk_drewN ?_ _ | refine blk_drew ?_ | refine blk_alloc ?_ _)); exact BK101.out⟩, ⟨by (with_reducible repeat (first | refine blk_drewN ?_ _ | refine blk_drew ?_ | refine blk_alloc ?_ _)); refine blk_put (cs := #[.int .i64 (wrap64 (x103000_1 + 1)), .int .i64 (wrap64 (x103001_1 + (rd l0 x4_1))), .int .i64 x103002_1, .int .i64 ji15]) ?_ 2 _ rfl; (with_reducible repeat (first | refine blk_drewN ?_ _ | refine blk_drew ?_ | refine blk_alloc ?_ _)); refine blk_put (cs := #[.int .i64 (wrap64 (x103000_1 + 1)), .int .i64 (wrap64 (x103001_1 + (rd l0 x4_1))), .int .i64 x103002_1, .int .i64 x103003_1]) ?_ 3 _ rfl; (with_reducible repeat (first | refine blk_drewN ?_ _ | refine blk_drew ?_ | refine blk_alloc ?_ _)); refine blk_put (cs := #[.int .i64 (wrap64 (x103000_1 + 1)), .int .i64 x103001_1, .int .i64 x103002_1, .int .i64 x103003_1]) ?_ 1 _ rfl; (with_reducible repeat (first | refine blk_drewN ?_ _ | refine blk_drew ?_ | refine blk_alloc ?_ _)); refine blk_put (cs := #[.int .i64 x103000_1, .int .i64 x103001_1, .int .i64 x103002_1, .int .i64 x103003_1]) ?_ 0 _ rfl; (with_reducible repeat (first | refine blk_drewN ?_ _ | refine blk_drew ?_ | refine blk_alloc ?_ _)); exact BK102.out⟩, ⟨by repeat (first | (with_reducible first | exact HB.out | apply below_alloc | apply pw_below_drewN | apply below_drew1 | refine below_set ?_ GE101.out | refine below_set ?_ GE102.out) | exact HB.out)⟩⟩
                  · rw [if_neg c16] at H
                    have c16b0 : decide (x103002_1 < 0) = false := decide_eq_false c16
                    clear c16
                    by_cases c19 : (rd l0 x4_1) < x103002_1
                    · rw [if_pos c19] at H
                      have c19b0 : decide ((rd l0 x4_1) < x103002_1) = true := decide_eq_true c19
                      clear c19
                      have H' := Aside0.mk H
                      clear H
                      have hnb20 := NB102_101.out
                      have hnc20 := NB101_102.out
                      have hcz21_0 : wc.cell? ⟨gb102, 0, none⟩ = some (.int .i64 x103000_1) := (blk_cell BK102.out 0).trans rfl
                      have hcz21_1 : wc.cell? ⟨gb102, 1, none⟩ = some (.int .i64 x103001_1) := (blk_cell BK102.out 1).trans rfl
                      have hcz21_2 : wc.cell? ⟨gb102, 2, none⟩ = some (.int .i64 x103002_1) := (blk_cell BK102.out 2).trans rfl
                      have hcz21_3 : wc.cell? ⟨gb102, 3, none⟩ = some (.int .i64 x103003_1) := (blk_cell BK102.out 3).trans rfl
                      have hfz21_0 := blk_frozen BK102.out 0
                      have hfz21_1 := blk_frozen BK102.out 1
                      have hfz21_2 := blk_frozen BK102.out 2
                      have hfz21_3 := blk_frozen BK102.out 3
                      go_wp2
                      go_roundg kj7
                      case measure => have := HK1.out; have := HJ7.out; omega
                      case rel => exact ⟨(wrap64 (x4_1 + 1)), (x102000_1), (x102001_1), (x102002_1), (x102003_1), (wrap64 (x103000_1 + 1)), (wrap64 (x103001_1 + (rd l0 x4_1))), ((rd l0 x4_1)), (ji15), (by first | rfl | (simp; done) | (simp [*]; done)), H', ⟨by have := HK1.out; have := HJ7.out; omega⟩, ⟨by (with_reducible repeat (first | refine blk_drewN ?_ _ | refine blk_drew ?_ | refine blk_alloc ?_ _)); refine blk_far ?_ NB101_102.out _; (with_reducible repeat (first | refine blk_drewN ?_ _ | refine blk_drew ?_ | refine blk_alloc ?_ _)); refine blk_far ?_ NB101_102.out _; (with_reducible repeat (first | refine blk_drewN ?_ _ | refine blk_drew ?_ | refine blk_alloc ?_ _)); refine blk_far ?_ NB101_102.out _; (with_reducible repeat (first | refine blk_drewN ?_ _ | refine blk_drew ?_ | refine blk_alloc ?_ _)); refine blk_far ?_ NB101_102.out _; (with_reducible repeat (first | refine blk_drewN ?_ _ | refine blk_drew ?_ | refine blk_alloc ?_ _)); exact BK101.out⟩, ⟨by (with_reducible repeat (first | refine blk_drewN ?_ _ | refine blk_drew ?_ | refine blk_alloc ?_ _)); refine blk_put (cs := #[.int .i64 (wrap64 (x103000_1 + 1)), .int .i64 (wrap64 (x103001_1 + (rd l0 x4_1))), .int .i64 x103002_1, .int .i64 ji15]) ?_ 2 _ rfl; (with_reducible repeat (first | refine blk_drewN ?_ _ | refine blk_drew ?_ | refine blk_alloc ?_ _)); refine blk_put (cs := #[.int .i64 (wrap64 (x103000_1 + 1)), .int .i64 (wrap64 (x103001_1 + (rd l0 x4_1))), .int .i64 x103002_1, .int .i64 x103003_1]) ?_ 3 _ rfl; (with_reducible repeat (first | refine blk_drewN ?_ _ | refine blk_drew ?_ | refine blk_alloc ?_ _)); refine blk_put (cs := #[.int .i64 (wrap64 (x103000_1 + 1)), .int .i64 x103001_1, .int .i64 x103002_1, .int .i64 x103003_1]) ?_ 1 _ rfl; (with_reducible repeat (first | refine blk_drewN ?_ _ | refine blk_drew ?_ | refine blk_alloc ?_ _)); refine blk_put (cs := #[.int .i64 x103000_1, .int .i64 x103001_1, .int .i64 x103002_1, .int .i64 x103003_1]) ?_ 0 _ rfl; (with_reducible repeat (first | refine blk_drewN ?_ _ | refine blk_drew ?_ | refine blk_alloc ?_ _)); exact BK102.out⟩, ⟨by repeat (first | (with_reducible first | exact HB.out | apply below_alloc | apply pw_below_drewN | apply below_drew1 | refine below_set ?_ GE101.out | refine below_set ?_ GE102.out) | exact HB.out)⟩⟩
                    · rw [if_neg c19] at H
                      have c19b0 : decide ((rd l0 x4_1) < x103002_1) = false := decide_eq_false c19
                      clear c19
                      have H' := Aside0.mk H
                      clear H
                      have hnb22 := NB102_101.out
                      have hnc22 := NB101_102.out
                      have hcz23_0 : wc.cell? ⟨gb102, 0, none⟩ = some (.int .i64 x103000_1) := (blk_cell BK102.out 0).trans rfl
                      have hcz23_1 : wc.cell? ⟨gb102, 1, none⟩ = some (.int .i64 x103001_1) := (blk_cell BK102.out 1).trans rfl
                      have hcz23_2 : wc.cell? ⟨gb102, 2, none⟩ = some (.int .i64 x103002_1) := (blk_cell BK102.out 2).trans rfl
                      have hcz23_3 : wc.cell? ⟨gb102, 3, none⟩ = some (.int .i64 x103003_1) := (blk_cell BK102.out 3).trans rfl
                      have hfz23_0 := blk_frozen BK102.out 0
                      have hfz23_1 := blk_frozen BK102.out 1
                      have hfz23_2 := blk_frozen BK102.out 2
                      have hfz23_3 := blk_frozen BK102.out 3
                      go_wp2
                      go_roundg kj7
                      case measure => have := HK1.out; have := HJ7.out; omega
                      case rel => exact ⟨(wrap64 (x4_1 + 1)), (x102000_1), (x102001_1), (x102002_1), (x102003_1), (wrap64 (x103000_1 + 1)), (wrap64 (x103001_1 + (rd l0 x4_1))), (x103002_1), (ji15), (by first | rfl | (simp; done) | (simp [*]; done)), H', ⟨by have := HK1.out; have := HJ7.out; omega⟩, ⟨by (with_reducible repeat (first | refine blk_drewN ?_ _ | refine blk_drew ?_ | refine blk_alloc ?_ _)); refine blk_far ?_ NB101_102.out _; (with_reducible repeat (first | refine blk_drewN ?_ _ | refine blk_drew ?_ | refine blk_alloc ?_ _)); refine blk_far ?_ NB101_102.out _; (with_reducible repeat (first | refine blk_drewN ?_ _ | refine blk_drew ?_ | refine blk_alloc ?_ _)); refine blk_far ?_ NB101_102.out _; (with_reducible repeat (first | refine blk_drewN ?_ _ | refine blk_drew ?_ | refine blk_alloc ?_ _)); exact BK101.out⟩, ⟨by (with_reducible repeat (first | refine blk_drewN ?_ _ | refine blk_drew ?_ | refine blk_alloc ?_ _)); refine blk_put (cs := #[.int .i64 (wrap64 (x103000_1 + 1)), .int .i64 (wrap64 (x103001_1 + (rd l0 x4_1))), .int .i64 x103002_1, .int .i64 x103003_1]) ?_ 3 _ rfl; (with_reducible repeat (first | refine blk_drewN ?_ _ | refine blk_drew ?_ | refine blk_alloc ?_ _)); refine blk_put (cs := #[.int .i64 (wrap64 (x103000_1 + 1)), .int .i64 x103001_1, .int .i64 x103002_1, .int .i64 x103003_1]) ?_ 1 _ rfl; (with_reducible repeat (first | refine blk_drewN ?_ _ | refine blk_drew ?_ | refine blk_alloc ?_ _)); refine blk_put (cs := #[.int .i64 x103000_1, .int .i64 x103001_1, .int .i64 x103002_1, .int .i64 x103003_1]) ?_ 0 _ rfl; (with_reducible repeat (first | refine blk_drewN ?_ _ | refine blk_drew ?_ | refine blk_alloc ?_ _)); exact BK102.out⟩, ⟨by repeat (first | (with_reducible first | exact HB.out | apply below_alloc | apply pw_below_drewN | apply below_drew1 | refine below_set ?_ GE101.out | refine below_set ?_ GE102.out) | exact HB.out)⟩⟩
        · rw [if_neg c7] at H
          exact absurd H (by simp)
      · rw [if_neg c6] at H
        have c6b0 : decide (x4_1 < (l0.length : Int)) = false := decide_eq_false c6
        clear c6
        simp only [Option.some.injEq, Prod.mk.injEq] at H
        obtain ⟨rfl, rfl, rfl, rfl⟩ := H
        have hnb24 := NB102_101.out
        have hnc24 := NB101_102.out
        have hcz25_0 : wr.cell? ⟨gb102, 0, none⟩ = some (.int .i64 x103000_1) := (blk_cell BK102.out 0).trans rfl
        have hcz25_1 : wr.cell? ⟨gb102, 1, none⟩ = some (.int .i64 x103001_1) := (blk_cell BK102.out 1).trans rfl
        have hcz25_2 : wr.cell? ⟨gb102, 2, none⟩ = some (.int .i64 x103002_1) := (blk_cell BK102.out 2).trans rfl
        have hcz25_3 : wr.cell? ⟨gb102, 3, none⟩ = some (.int .i64 x103003_1) := (blk_cell BK102.out 3).trans rfl
        have hfz25_0 := blk_frozen BK102.out 0
        have hfz25_1 := blk_frozen BK102.out 1
        have hfz25_2 := blk_frozen BK102.out 2
        have hfz25_3 := blk_frozen BK102.out 3
        have hcz26_0 : wr.cell? ⟨gb101, 0, none⟩ = some (.int .i64 x102000_1) := (blk_cell BK101.out 0).trans rfl
        have hcz26_1 : wr.cell? ⟨gb101, 1, none⟩ = some (.int .i64 x102001_1) := (blk_cell BK101.out 1).trans rfl
        have hcz26_2 : wr.cell? ⟨gb101, 2, none⟩ = some (.int .i64 x102002_1) := (blk_cell BK101.out 2).trans rfl
        have hcz26_3 : wr.cell? ⟨gb101, 3, none⟩ = some (.int .i64 x102003_1) := (blk_cell BK101.out 3).trans rfl
        have hfz26_0 := blk_frozen BK101.out 0
        have hfz26_1 := blk_frozen BK101.out 1
        have hfz26_2 := blk_frozen BK101.out 2
        have hfz26_3 := blk_frozen BK101.out 3
        go_wp2
        refine bodyPost_ret (results_cell_row rfl _ _ gb101 52 #[.int .i64 x103000_1, .int .i64 x103001_1, .int .i64 x103002_1, .int .i64 x103003_1] (0, 0) _ rfl (by (with_reducible repeat (first | refine blk_drewN ?_ _ | refine blk_drew ?_ | refine blk_alloc ?_ _)); refine blk_put (cs := #[.int .i64 x103000_1, .int .i64 x103001_1, .int .i64 x103002_1, .int .i64 x102003_1]) ?_ 3 _ rfl; (with_reducible repeat (first | refine blk_drewN ?_ _ | refine blk_drew ?_ | refine blk_alloc ?_ _)); refine blk_put (cs := #[.int .i64 x103000_1, .int .i64 x103001_1, .int .i64 x102002_1, .int .i64 x102003_1]) ?_ 2 _ rfl; (with_reducible repeat (first | refine blk_drewN ?_ _ | refine blk_drew ?_ | refine blk_alloc ?_ _)); refine blk_put (cs := #[.int .i64 x103000_1, .int .i64 x102001_1, .int .i64 x102002_1, .int .i64 x102003_1]) ?_ 1 _ rfl; (with_reducible repeat (first | refine blk_drewN ?_ _ | refine blk_drew ?_ | refine blk_alloc ?_ _)); refine blk_put (cs := #[.int .i64 x102000_1, .int .i64 x102001_1, .int .i64 x102002_1, .int .i64 x102003_1]) ?_ 0 _ rfl; (with_reducible repeat (first | refine blk_drewN ?_ _ | refine blk_drew ?_ | refine blk_alloc ?_ _)); exact BK101.out) Try.underlying52 rfl (by kernel_rfl)) rfl ?_
        exact ⟨by first | rfl | (simp [errW_none, errW_some] <;> rfl) | (simp [*, errW_none, errW_some] <;> rfl), by repeat (first | (with_reducible first | exact HB.out | apply below_alloc | apply pw_below_drewN | apply below_drew1 | refine below_set ?_ GE101.out | refine below_set ?_ GE102.out) | exact HB.out)⟩

/-! ### spec_OwnerOf: function 112 -/
def spec_OwnerOf.f (a0 : Int) (a1 : Int) : Option (Int) := (spec_l1In.f a0 0 15).bind fun t105 => (if t105 = true then ((spec_l1In.f a1 1 6).bind fun t106 => (if t106 = true then (if a1 = 0 then (none) else (some (Int.tmod (Int.tmod (wrap64 ((wrap64 (13 * a0)) + 5)) 17) a1))) else (some (-1)))) else (some (-1)))
set_option maxHeartbeats 8000000 in
set_option maxRecDepth 100000 in
theorem spec_OwnerOf.calls (a0 : Int) (a1 : Int) (r : Int) (w : World) (h : spec_OwnerOf.f a0 a1 = some r) :
    Calls Try.prog 112 #[.int .i64 a0, .int .i64 a1] w fun e w' => e = .returned (.int .i64 r) ∧ Drawn0 w w' := by
  have H : ((spec_l1In.f a0 0 15).bind fun t105 => (if t105 = true then ((spec_l1In.f a1 1 6).bind fun t106 => (if t106 = true then (if a1 = 0 then (none) else (some (Int.tmod (Int.tmod (wrap64 ((wrap64 (13 * a0)) + 5)) 17) a1))) else (some (-1)))) else (some (-1)))) = some r := h
  clear h
  replace H := Option.bind_eq_some_iff.mp H
  obtain ⟨t105, A30, H⟩ := H
  replace H : (if t105 = true then ((spec_l1In.f a1 1 6).bind fun t106 => (if t106 = true then (if a1 = 0 then (none) else (some (Int.tmod (Int.tmod (wrap64 ((wrap64 (13 * a0)) + 5)) 17) a1))) else (some (-1)))) else (some (-1))) = some r := H
  have A3 := Aside0.mk A30
  clear A30
  by_cases c4 : t105 = true
  · subst c4
    have H1 : ((spec_l1In.f a1 1 6).bind fun t106 => (if t106 = true then (if a1 = 0 then (none) else (some (Int.tmod (Int.tmod (wrap64 ((wrap64 (13 * a0)) + 5)) 17) a1))) else (some (-1)))) = some r := by rw [if_pos rfl] at H; exact H
    clear H
    have H := H1
    clear H1
    replace H := Option.bind_eq_some_iff.mp H
    obtain ⟨t106, A50, H⟩ := H
    replace H : (if t106 = true then (if a1 = 0 then (none) else (some (Int.tmod (Int.tmod (wrap64 ((wrap64 (13 * a0)) + 5)) 17) a1))) else (some (-1))) = some r := H
    have A5 := Aside0.mk A50
    clear A50
    by_cases c6 : t106 = true
    · subst c6
      have H1 : (if a1 = 0 then (none) else (some (Int.tmod (Int.tmod (wrap64 ((wrap64 (13 * a0)) + 5)) 17) a1))) = some r := by rw [if_pos rfl] at H; exact H
      clear H
      have H := H1
      clear H1
      by_cases c7 : a1 = 0
      · rw [if_pos c7] at H
        exact absurd H (by simp)
      · rw [if_neg c7] at H
        have c7b0 : (a1 == 0) = false := beq_eq_false_iff_ne.mpr c7
        have c7b1 : (a1 != 0) = true := bne_iff_ne.mpr c7
        obtain rfl := Option.some.inj H
        go_enter Try.func112, Try.ntmps112
        go_wp2_with (first | ((with_reducible refine gate_callee (f := 71) rfl ?_); refine goesL_ (some 6) rfl rfl Try.func71 (by kernel_rfl) rfl #[.int .i64 a0, .int .i64 0, .int .i64 15] rfl (by (try simp only [List.map_toArray, List.map_cons, List.map_nil]); first | done | rfl | (simp only [List.length_drop, List.length_take]; rfl)) ?_; (with_reducible refine (spec_l1In.calls a0 0 15 true _ A3.out).mono ?_); rintro e w' ⟨rfl, ⟨nd, rfl⟩⟩; refine ⟨_, rfl, ?_⟩) | (go_at_call 71; (with_reducible refine (spec_l1In.calls a1 1 6 true _ A5.out).mono ?_); rintro e w' ⟨rfl, ⟨nd, rfl⟩⟩))
        go_ret
        exact ⟨by first | rfl | (simp; done) | (simp [*]; done), by repeat (first | exact Drawn0.refl _ | apply Drawn0.step)⟩
    · replace c6 := Bool.eq_false_iff.mpr c6
      subst c6
      have H1 : (some (-1)) = some r := by rw [if_neg (show ¬ (false = true) by decide)] at H; exact H
      clear H
      have H := H1
      clear H1
      obtain rfl := Option.some.inj H
      go_enter Try.func112, Try.ntmps112
      go_wp2_with (first | ((with_reducible refine gate_callee (f := 71) rfl ?_); refine goesL_ (some 6) rfl rfl Try.func71 (by kernel_rfl) rfl #[.int .i64 a0, .int .i64 0, .int .i64 15] rfl (by (try simp only [List.map_toArray, List.map_cons, List.map_nil]); first | done | rfl | (simp only [List.length_drop, List.length_take]; rfl)) ?_; (with_reducible refine (spec_l1In.calls a0 0 15 true _ A3.out).mono ?_); rintro e w' ⟨rfl, ⟨nd, rfl⟩⟩; refine ⟨_, rfl, ?_⟩) | (go_at_call 71; (with_reducible refine (spec_l1In.calls a1 1 6 false _ A5.out).mono ?_); rintro e w' ⟨rfl, ⟨nd, rfl⟩⟩))
      go_ret
      exact ⟨by first | rfl | (simp; done) | (simp [*]; done), by repeat (first | exact Drawn0.refl _ | apply Drawn0.step)⟩
  · replace c4 := Bool.eq_false_iff.mpr c4
    subst c4
    have H1 : (some (-1)) = some r := by rw [if_neg (show ¬ (false = true) by decide)] at H; exact H
    clear H
    have H := H1
    clear H1
    obtain rfl := Option.some.inj H
    go_enter Try.func112, Try.ntmps112
    go_wp2_with (first | ((with_reducible refine gate_callee (f := 71) rfl ?_); refine goesL_ (some 6) rfl rfl Try.func71 (by kernel_rfl) rfl #[.int .i64 a0, .int .i64 0, .int .i64 15] rfl (by (try simp only [List.map_toArray, List.map_cons, List.map_nil]); first | done | rfl | (simp only [List.length_drop, List.length_take]; rfl)) ?_; (with_reducible refine (spec_l1In.calls a0 0 15 false _ A3.out).mono ?_); rintro e w' ⟨rfl, ⟨nd, rfl⟩⟩; refine ⟨_, rfl, ?_⟩))
    go_ret
    exact ⟨by first | rfl | (simp; done) | (simp [*]; done), by repeat (first | exact Drawn0.refl _ | apply Drawn0.step)⟩

/-! ### spec_OwnedBy: function 75 -/
mutual
def spec_OwnedBy.l0 : Nat → Int → Int → Int → List Int → Int → Option (List Int)
  | 0, _, _, _, _, _ => none
  | k + 1, x0, x1, x2, x7, x8 => if x8 < x0 then ((spec_l1In.f x0 0 16).bind fun t110 => (if t110 = true then ((spec_l1In.f x1 1 6).bind fun t111 => (spec_OwnedBy.j1 k x0 x1 x2 x7 x8 t111)) else (spec_OwnedBy.j1 k x0 x1 x2 x7 x8 false))) else (spec_OwnedBy.j1 k x0 x1 x2 x7 x8 false)
def spec_OwnedBy.j1 : Nat → Int → Int → Int → List Int → Int → Bool → Option (List Int)
  | 0, _, _, _, _, _, _ => none
  | k + 1, x0, x1, x2, x7, x8, x20 => if x20 = true then ((spec_OwnerOf.f x8 x1).bind fun t112 => (if t112 = x2 then (if x7.length < 17592186044416 then (spec_OwnedBy.l0 k x0 x1 x2 (x7 ++ [x8]) (wrap64 (x8 + 1))) else (none)) else (spec_OwnedBy.l0 k x0 x1 x2 x7 (wrap64 (x8 + 1))))) else (some x7)
end
def spec_OwnedBy.f (k : Nat) (a0 : Int) (a1 : Int) (a2 : Int) : Option (List Int) := spec_OwnedBy.l0 k a0 a1 a2 (([] : List Int)) 0
theorem spec_OwnedBy.mono_l : ∀ k, (∀ y0 y1 y2 y3 y4, LeO (spec_OwnedBy.l0 k y0 y1 y2 y3 y4) (spec_OwnedBy.l0 (k + 1) y0 y1 y2 y3 y4)) ∧ (∀ y0 y1 y2 y3 y4 y5, LeO (spec_OwnedBy.j1 k y0 y1 y2 y3 y4 y5) (spec_OwnedBy.j1 (k + 1) y0 y1 y2 y3 y4 y5))
  | 0 => ⟨fun _ _ _ _ _ r h => by simp [spec_OwnedBy.l0] at h, fun _ _ _ _ _ _ r h => by simp [spec_OwnedBy.j1] at h⟩
  | k + 1 => by
    obtain ⟨ih0, ih1⟩ := spec_OwnedBy.mono_l k
    refine ⟨?_, ?_⟩
    · intro y0 y1 y2 y3 y4
      unfold spec_OwnedBy.l0
      repeat' first
      | (with_reducible exact ih0 _ _ _ _ _)
      | (with_reducible exact ih1 _ _ _ _ _ _)
      | (with_reducible exact LeO.refl _)
      | (with_reducible exact LeO.none _)
      | (with_reducible refine LeO.ite ?_ ?_)
      | (with_reducible refine LeO.bind ?_ (fun _ => ?_))
      | exact ih0 _ _ _ _ _
      | exact ih1 _ _ _ _ _ _
      | exact LeO.none _
      | refine LeO.ite ?_ ?_
      | refine LeO.bind ?_ (fun _ => ?_)
    · intro y0 y1 y2 y3 y4 y5
      unfold spec_OwnedBy.j1
      repeat' first
      | (with_reducible exact ih0 _ _ _ _ _)
      | (with_reducible exact ih1 _ _ _ _ _ _)
      | (with_reducible exact LeO.refl _)
      | (with_reducible exact LeO.none _)
      | (with_reducible refine LeO.ite ?_ ?_)
      | (with_reducible refine LeO.bind ?_ (fun _ => ?_))
      | exact ih0 _ _ _ _ _
      | exact ih1 _ _ _ _ _ _
      | exact LeO.none _
      | refine LeO.ite ?_ ?_
      | refine LeO.bind ?_ (fun _ => ?_)
theorem spec_OwnedBy.mono : ∀ a0 a1 a2 k, LeO (spec_OwnedBy.f k a0 a1 a2) (spec_OwnedBy.f (k + 1) a0 a1 a2) := by
  intro a0 a1 a2 k
  obtain ⟨ih0, ih1⟩ := spec_OwnedBy.mono_l k
  unfold spec_OwnedBy.f
  repeat' first
      | (with_reducible exact ih0 _ _ _ _ _)
      | (with_reducible exact ih1 _ _ _ _ _ _)
      | (with_reducible exact LeO.refl _)
      | (with_reducible exact LeO.none _)
      | (with_reducible refine LeO.ite ?_ ?_)
      | (with_reducible refine LeO.bind ?_ (fun _ => ?_))
      | exact ih0 _ _ _ _ _
      | exact ih1 _ _ _ _ _ _
      | exact LeO.none _
      | refine LeO.ite ?_ ?_
      | refine LeO.bind ?_ (fun _ => ?_)
set_option maxHeartbeats 8000000 in
set_option maxRecDepth 100000 in
theorem spec_OwnedBy.calls (k : Nat) (a0 : Int) (a1 : Int) (a2 : Int) (r : List Int) (w : World) (h : spec_OwnedBy.f k a0 a1 a2 = some r) :
    Calls Try.prog 75 #[.int .i64 a0, .int .i64 a1, .int .i64 a2] w fun e w' => ∃ v0_ : Value, e = .returned (v0_) ∧ Kd.R (Kd.int .i64) 3 w' w.heap.size (fun _ => True) v0_ r ∧ Below w.heap.size w w' := by
  have HB := Aside0.mk (Below.refl w.heap.size w)
  have H : (spec_OwnedBy.l0 k a0 a1 a2 (([] : List Int)) 0) = some r := h
  clear h
  obtain ⟨y107, hy107⟩ : ∃ y_ : List Int, y_ = (([] : List Int)) := ⟨_, rfl⟩
  replace H : (spec_OwnedBy.l0 k a0 a1 a2 y107 0) = some r := by first | (rw [hy107]; with_reducible exact H) | (have H2_ := (Option.bind_some _ _).symm.trans H; rw [hy107]; with_reducible exact H2_) | (have H2_ := (Option.bind_some _ _).symm.trans H; with_reducible exact H2_) | with_reducible exact H | (rw [hy107]; exact H) | exact H
  have Ny107 := Aside0.mk hy107
  clear hy107
  have H' := Aside0.mk H
  clear H
  go_enter Try.func75, Try.ntmps75
  go_wp2_with (first | ((with_reducible refine gate_dst (N := 9) rfl ?_); refine Kd.R_lit (Kd.int .i64) _ 3 ?hg (N := 9) ?hd (xs := ([] : List Int)) (inner := []) (ok := fun _ => True) (okp := fun _ => True) ?hr ?hp (fun _ hk => hk) trivial (Below.refl _ _) (Nat.le_refl _) (by simp) ?_; (case hd => rfl); (case hg => rfl); (case hr => first | (go_simp; done) | (go_simp; rfl)); (case hp => exact (Reps.none _ _)); intro v108 w4 ho5 hb hg_ hnew_; clear hg_ hnew_; (first | rw [← Ny107.out] at ho5 | (simp only [Int.reduceToNat] at ho5; rw [← Ny107.out] at ho5)); have n0_ := Aside0.mk (Kd.R_lower ho5 (below_size (by repeat (first | (with_reducible first | exact HB.out | apply below_alloc | apply pw_below_drewN | apply below_drew1) | exact HB.out)))); have n1_ := Aside0.mk (below_step (by repeat (first | (with_reducible first | exact HB.out | apply below_alloc | apply pw_below_drewN | apply below_drew1) | exact HB.out)) hb); clear HB; have HO109 := n0_; have HB := n1_; clear n0_ n1_; clear hb ho5))
  go_loopg [7, 8] k (fun kq v7 v8 w' => ∃ (x7_1 : List Int) (x8_1 : Int), v8 = .int .i64 x8_1 ∧ Aside0 (spec_OwnedBy.l0 kq a0 a1 a2 x7_1 x8_1 = some r) ∧ Aside0 (kq ≤ k) ∧ Aside0 (Kd.R (Kd.int .i64) 3 w' w.heap.size (fun _ => True) v7 x7_1) ∧ Aside0 (Below w.heap.size w w'))
  case atStart => exact ⟨(y107), (0), (by first | rfl | (simp; done) | (simp [*]; done)), H', ⟨Nat.le_refl _⟩, ⟨by (with_reducible repeat (first | apply Kd.R_alloc | apply Kd.R_drewN | apply Kd.R_drew)); exact HO109.out⟩, ⟨by repeat (first | (with_reducible first | exact HB.out | apply below_alloc | apply pw_below_drewN | apply below_drew1) | exact HB.out)⟩⟩
  case round =>
    clear H'
    try clear p2
    obtain ⟨x7_1, x8_1, rfl, HA, HK1, HO_7, HB⟩ := hrel
    cases gk with
    | zero => exact absurd HA.out (by simp [spec_OwnedBy.l0])
    | succ k1 =>
      have H := HA.out
      clear HA
      simp only [spec_OwnedBy.l0] at H
      have HC6 := Aside0.mk H
      clear H
      go_upto_region 3 with (fail)
      go_cut [20] (fun v20 wc => ∃ (kq : Nat) (x20_5 : Bool), v20 = .bool x20_5 ∧ Aside0 (spec_OwnedBy.j1 kq a0 a1 a2 x7_1 x8_1 x20_5 = some r) ∧ Aside0 (kq ≤ k1) ∧ Aside0 (Kd.R (Kd.int .i64) 3 wc w.heap.size (fun _ => True) u7 x7_1) ∧ Aside0 (Below w.heap.size w wc))
      case first =>
        have H := HC6.out
        clear HC6
        by_cases c7 : x8_1 < a0
        · rw [if_pos c7] at H
          have c7b0 : decide (x8_1 < a0) = true := decide_eq_true c7
          clear c7
          (first | rw [c7b0] | (simp only [i64_w, i32_w]; rw [c7b0]) | skip)
          replace H := Option.bind_eq_some_iff.mp H
          obtain ⟨t110, A80, H⟩ := H
          replace H : (if t110 = true then ((spec_l1In.f a1 1 6).bind fun t111 => (spec_OwnedBy.j1 k1 a0 a1 a2 x7_1 x8_1 t111)) else (spec_OwnedBy.j1 k1 a0 a1 a2 x7_1 x8_1 false)) = some r := H
          have A8 := Aside0.mk A80
          clear A80
          by_cases c9 : t110 = true
          · subst c9
            have H1 : ((spec_l1In.f a1 1 6).bind fun t111 => (spec_OwnedBy.j1 k1 a0 a1 a2 x7_1 x8_1 t111)) = some r := by rw [if_pos rfl] at H; exact H
            clear H
            have H := H1
            clear H1
            replace H := Option.bind_eq_some_iff.mp H
            obtain ⟨t111, A100, H⟩ := H
            replace H : (spec_OwnedBy.j1 k1 a0 a1 a2 x7_1 x8_1 t111) = some r := H
            have A10 := Aside0.mk A100
            clear A100
            have H' := Aside0.mk H
            clear H
            go_wp2_with (first | (go_at_call 71; (with_reducible refine (spec_l1In.calls a0 0 16 true _ A8.out).mono ?_); rintro e w' ⟨rfl, ⟨nd, rfl⟩⟩) | (go_at_call 71; (with_reducible refine (spec_l1In.calls a1 1 6 t111 _ A10.out).mono ?_); rintro e w' ⟨rfl, ⟨nd, rfl⟩⟩))
            go_meet
            case rel => exact ⟨_, (t111), (by first | rfl | (simp; done) | (simp [*]; done)), H', ⟨by have := HK1.out; first | omega | exact Nat.le_refl _⟩, ⟨by (with_reducible repeat (first | apply Kd.R_alloc | apply Kd.R_drewN | apply Kd.R_drew)); exact HO_7.out⟩, ⟨by repeat (first | (with_reducible first | exact HB.out | apply below_alloc | apply pw_below_drewN | apply below_drew1) | exact HB.out)⟩⟩
          · replace c9 := Bool.eq_false_iff.mpr c9
            subst c9
            have H1 : (spec_OwnedBy.j1 k1 a0 a1 a2 x7_1 x8_1 false) = some r := by rw [if_neg (show ¬ (false = true) by decide)] at H; exact H
            clear H
            have H := H1
            clear H1
            have H' := Aside0.mk H
            clear H
            go_wp2_with (first | (go_at_call 71; (with_reducible refine (spec_l1In.calls a0 0 16 false _ A8.out).mono ?_); rintro e w' ⟨rfl, ⟨nd, rfl⟩⟩))
            go_meet
            case rel => exact ⟨_, (false), (by first | rfl | (simp; done) | (simp [*]; done)), H', ⟨by have := HK1.out; first | omega | exact Nat.le_refl _⟩, ⟨by (with_reducible repeat (first | apply Kd.R_alloc | apply Kd.R_drewN | apply Kd.R_drew)); exact HO_7.out⟩, ⟨by repeat (first | (with_reducible first | exact HB.out | apply below_alloc | apply pw_below_drewN | apply below_drew1) | exact HB.out)⟩⟩
        · rw [if_neg c7] at H
          have c7b0 : decide (x8_1 < a0) = false := decide_eq_false c7
          clear c7
          (first | rw [c7b0] | (simp only [i64_w, i32_w]; rw [c7b0]) | skip)
          have H' := Aside0.mk H
          clear H
          go_wp2
          go_meet
          case rel => exact ⟨_, (false), (by first | rfl | (simp; done) | (simp [*]; done)), H', ⟨by have := HK1.out; first | omega | exact Nat.le_refl _⟩, ⟨by (with_reducible repeat (first | apply Kd.R_alloc | apply Kd.R_drewN | apply Kd.R_drew)); exact HO_7.out⟩, ⟨by repeat (first | (with_reducible first | exact HB.out | apply below_alloc | apply pw_below_drewN | apply below_drew1) | exact HB.out)⟩⟩
      case rest =>
        clear HC6
        try clear p2
        try clear c7
        try clear c7b0
        try clear c9
        try clear p2
        obtain ⟨kq, x20_5, rfl, HA, HJ5, HO_7, HB⟩ := hcut
        cases kq with
        | zero => exact absurd HA.out (by simp [spec_OwnedBy.j1])
        | succ kj5 =>
          have H := HA.out
          clear HA
          simp only [spec_OwnedBy.j1] at H
          by_cases c11 : x20_5 = true
          · subst c11
            have H1 : ((spec_OwnerOf.f x8_1 a1).bind fun t112 => (if t112 = a2 then (if x7_1.length < 17592186044416 then (spec_OwnedBy.l0 kj5 a0 a1 a2 (x7_1 ++ [x8_1]) (wrap64 (x8_1 + 1))) else (none)) else (spec_OwnedBy.l0 kj5 a0 a1 a2 x7_1 (wrap64 (x8_1 + 1))))) = some r := by rw [if_pos rfl] at H; exact H
            clear H
            have H := H1
            clear H1
            replace H := Option.bind_eq_some_iff.mp H
            obtain ⟨t112, A120, H⟩ := H
            replace H : (if t112 = a2 then (if x7_1.length < 17592186044416 then (spec_OwnedBy.l0 kj5 a0 a1 a2 (x7_1 ++ [x8_1]) (wrap64 (x8_1 + 1))) else (none)) else (spec_OwnedBy.l0 kj5 a0 a1 a2 x7_1 (wrap64 (x8_1 + 1)))) = some r := H
            have A12 := Aside0.mk A120
            clear A120
            by_cases c13 : t112 = a2
            · rw [if_pos c13] at H
              have c13b0 : (t112 == a2) = true := beq_iff_eq.mpr c13
              have c13b1 : (t112 != a2) = false := bne_eq_false_iff_eq.mpr c13
              clear c13
              by_cases c14 : x7_1.length < 17592186044416
              · rw [if_pos c14] at H
                have LMc14 := Aside0.mk c14
                clear c14
                obtain ⟨y113, hy113⟩ : ∃ y_ : List Int, y_ = (x7_1 ++ [x8_1]) := ⟨_, rfl⟩
                replace H : (spec_OwnedBy.l0 kj5 a0 a1 a2 y113 (wrap64 (x8_1 + 1))) = some r := by first | (rw [hy113]; with_reducible exact H) | (have H2_ := (Option.bind_some _ _).symm.trans H; rw [hy113]; with_reducible exact H2_) | (have H2_ := (Option.bind_some _ _).symm.trans H; with_reducible exact H2_) | with_reducible exact H | (rw [hy113]; exact H) | exact H
                have Ny113 := Aside0.mk hy113
                clear hy113
                have H' := Aside0.mk H
                clear H
                go_wp2_with (first | ((with_reducible refine gate_callee (f := 112) rfl ?_); refine goesL_ (some 25) rfl rfl Try.func112 (by kernel_rfl) rfl #[.int .i64 x8_1, .int .i64 a1] rfl (by (try simp only [List.map_toArray, List.map_cons, List.map_nil]); first | done | rfl | (simp only [List.length_drop, List.length_take]; rfl)) ?_; (with_reducible refine (spec_OwnerOf.calls x8_1 a1 t112 _ A12.out).mono ?_); rintro e w' ⟨rfl, ⟨nd, rfl⟩⟩; refine ⟨_, rfl, ?_⟩) | ((with_reducible refine gate_builtin (b := .append) (xs := #[.tmp 28, .tmp 30]) rfl ?_); at_builtin; refine Kd.R_append (Kd.int .i64) (w0 := w) w.heap.size rfl (.tmp 28) (.tmp 30) 22 3 (.int .i64 0) 8 rfl Try.underlying22 info3 rfl (by decide) (by omega) u7 x7_1 x8_1 [.int .i64 x8_1] (fun _ => True) (fun _ => False) rfl rfl ?aP (fun _ hk => hk.elim) ?aF ?aO ?aB ?aS ?aL ?_; (case aP => exact rfl); (case aB => exact (by repeat (first | (with_reducible first | exact HB.out | apply below_alloc | apply pw_below_drewN | apply below_drew1) | exact HB.out))); (case aF => exact (fun _ _ => trivial)); (case aO => exact (by (with_reducible repeat (first | apply Kd.R_alloc | apply Kd.R_drewN | apply Kd.R_drew)); exact HO_7.out)); (case aS => exact (below_size (by repeat (first | (with_reducible first | exact HB.out | apply below_alloc | apply pw_below_drewN | apply below_drew1) | exact HB.out)))); (case aL => have := LMc14.out; omega); intro v114 w15 ho hb hg hat; rw [← Ny113.out] at ho; have n0_ := Aside0.mk (hb); have n1_ := Aside0.mk (ho); clear HB; clear HO_7; have HB := n0_; have HO115 := n1_; clear n0_ n1_; clear ho hb hg hat))
                go_roundg kj5
                case measure => have := HK1.out; have := HJ5.out; omega
                case rel => exact ⟨(y113), (wrap64 (x8_1 + 1)), (by first | rfl | (simp; done) | (simp [*]; done)), H', ⟨by have := HK1.out; have := HJ5.out; omega⟩, ⟨by (with_reducible repeat (first | apply Kd.R_alloc | apply Kd.R_drewN | apply Kd.R_drew)); exact HO115.out⟩, ⟨by repeat (first | (with_reducible first | exact HB.out | apply below_alloc | apply pw_below_drewN | apply below_drew1) | exact HB.out)⟩⟩
              · rw [if_neg c14] at H
                exact absurd H (by simp)
            · rw [if_neg c13] at H
              have c13b0 : (t112 == a2) = false := beq_eq_false_iff_ne.mpr c13
              have c13b1 : (t112 != a2) = true := bne_iff_ne.mpr c13
              have H' := Aside0.mk H
              clear H
              go_wp2_with (first | ((with_reducible refine gate_callee (f := 112) rfl ?_); refine goesL_ (some 25) rfl rfl Try.func112 (by kernel_rfl) rfl #[.int .i64 x8_1, .int .i64 a1] rfl (by (try simp only [List.map_toArray, List.map_cons, List.map_nil]); first | done | rfl | (simp only [List.length_drop, List.length_take]; rfl)) ?_; (with_reducible refine (spec_OwnerOf.calls x8_1 a1 t112 _ A12.out).mono ?_); rintro e w' ⟨rfl, ⟨nd, rfl⟩⟩; refine ⟨_, rfl, ?_⟩))
              go_roundg kj5
              case measure => have := HK1.out; have := HJ5.out; omega
              case rel => exact ⟨(x7_1), (wrap64 (x8_1 + 1)), (by first | rfl | (simp; done) | (simp [*]; done)), H', ⟨by have := HK1.out; have := HJ5.out; omega⟩, ⟨by (with_reducible repeat (first | apply Kd.R_alloc | apply Kd.R_drewN | apply Kd.R_drew)); exact HO_7.out⟩, ⟨by repeat (first | (with_reducible first | exact HB.out | apply below_alloc | apply pw_below_drewN | apply below_drew1) | exact HB.out)⟩⟩
          · replace c11 := Bool.eq_false_iff.mpr c11
            subst c11
            have H1 : (some x7_1) = some r := by rw [if_neg (show ¬ (false = true) by decide)] at H; exact H
            clear H
            have H := H1
            clear H1
            obtain rfl := Option.some.inj H
            go_wp2
            go_ret
            exact ⟨_, by first | rfl | (simp [errW_none, errW_some] <;> rfl) | (simp [*, errW_none, errW_some] <;> rfl), by (with_reducible repeat (first | apply Kd.R_alloc | apply Kd.R_drewN | apply Kd.R_drew)); exact HO_7.out, by repeat (first | (with_reducible first | exact HB.out | apply below_alloc | apply pw_below_drewN | apply below_drew1) | exact HB.out)⟩

end Go.Proofs.Ytloiafnoekpaoab.PFnTotalsOf
