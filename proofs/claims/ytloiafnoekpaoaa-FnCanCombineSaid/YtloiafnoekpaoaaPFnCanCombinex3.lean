/- Laid by a program of this session out of the translation: functions, their contracts, the row. Lean checks it. -/
import Derived.Test.YtloiafnoekpaoaaPFnCanCombinex0
namespace Go.Proofs.Ytloiafnoekpaoaa.PFnCanCombine
open Go.RowKit Go.Proofs.YtloiafnoekpaoaaW.PrintWords Go.Proofs.YtloiafnoekpaoaaW.PrintLast Go.Proofs.YtloiafnoekpaoaaW.PrintMore
attribute [local go_sem] max2_int min2_int max_two min_two max_three min_three max_four min_four   -- for this text's walks alone
set_option linter.unusedVariables false
set_option linter.unusedSimpArgs false

/-! ### impl_ProgramValid: function 27 -/
mutual
def impl_ProgramValid.j0 : Nat → Int → Bool → Int → Int → Int → Option (Bool)
  | 0, _, _, _, _, _ => none
  | k + 1, x4, x5, x161000, x161001, x161002 => if x5 = true then (if x161001 ≥ 0 then (if x161001 < 16 then (some (x161002 == 0)) else (some false)) else (some false)) else (if x4 = 3 then (impl_ProgramValid.j1 k x4 (x4 == 3) x161000 x161001 x161002) else (impl_ProgramValid.j1 k x4 (x4 == 5) x161000 x161001 x161002))
def impl_ProgramValid.j1 : Nat → Int → Bool → Int → Int → Int → Option (Bool)
  | 0, _, _, _, _, _ => none
  | k + 1, x4, x21, x161000, x161001, x161002 => if x21 = true then (if x161001 = 0 then (some (x161002 == 0)) else (some false)) else (if x4 = 4 then (if x161001 = 0 then (if x161002 ≥ 1 then (some (decide (x161002 ≤ 20))) else (some false)) else (some false)) else (if x4 = 6 then (if x161001 = 0 then (if x161002 ≥ 1 then (some (decide (x161002 ≤ 20))) else (some false)) else (some false)) else (some false)))
end
def impl_ProgramValid.f (k : Nat) (a0_0 : Int) (a0_1 : Int) (a0_2 : Int) : Option (Bool) := if a0_0 = 1 then (impl_ProgramValid.j0 k a0_0 (a0_0 == 1) a0_0 a0_1 a0_2) else (impl_ProgramValid.j0 k a0_0 (a0_0 == 2) a0_0 a0_1 a0_2)
theorem impl_ProgramValid.mono_l : ∀ k, (∀ y0 y1 y2 y3 y4, LeO (impl_ProgramValid.j0 k y0 y1 y2 y3 y4) (impl_ProgramValid.j0 (k + 1) y0 y1 y2 y3 y4)) ∧ (∀ y0 y1 y2 y3 y4, LeO (impl_ProgramValid.j1 k y0 y1 y2 y3 y4) (impl_ProgramValid.j1 (k + 1) y0 y1 y2 y3 y4))
  | 0 => ⟨fun _ _ _ _ _ r h => by simp [impl_ProgramValid.j0] at h, fun _ _ _ _ _ r h => by simp [impl_ProgramValid.j1] at h⟩
  | k + 1 => by
    obtain ⟨ih0, ih1⟩ := impl_ProgramValid.mono_l k
    refine ⟨?_, ?_⟩
    · intro y0 y1 y2 y3 y4
      unfold impl_ProgramValid.j0
      repeat' first
      | (with_reducible exact ih0 _ _ _ _ _)
      | (with_reducible exact ih1 _ _ _ _ _)
      | (with_reducible exact LeO.refl _)
      | (with_reducible exact LeO.none _)
      | (with_reducible refine LeO.ite ?_ ?_)
      | (with_reducible refine LeO.bind ?_ (fun _ => ?_))
      | exact ih0 _ _ _ _ _
      | exact ih1 _ _ _ _ _
      | exact LeO.none _
      | refine LeO.ite ?_ ?_
      | refine LeO.bind ?_ (fun _ => ?_)
    · intro y0 y1 y2 y3 y4
      unfold impl_ProgramValid.j1
      repeat' first
      | (with_reducible exact ih0 _ _ _ _ _)
      | (with_reducible exact ih1 _ _ _ _ _)
      | (with_reducible exact LeO.refl _)
      | (with_reducible exact LeO.none _)
      | (with_reducible refine LeO.ite ?_ ?_)
      | (with_reducible refine LeO.bind ?_ (fun _ => ?_))
      | exact ih0 _ _ _ _ _
      | exact ih1 _ _ _ _ _
      | exact LeO.none _
      | refine LeO.ite ?_ ?_
      | refine LeO.bind ?_ (fun _ => ?_)
theorem impl_ProgramValid.mono : ∀ a0 a1 a2 k, LeO (impl_ProgramValid.f k a0 a1 a2) (impl_ProgramValid.f (k + 1) a0 a1 a2) := by
  intro a0 a1 a2 k
  obtain ⟨ih0, ih1⟩ := impl_ProgramValid.mono_l k
  unfold impl_ProgramValid.f
  repeat' first
      | (with_reducible exact ih0 _ _ _ _ _)
      | (with_reducible exact ih1 _ _ _ _ _)
      | (with_reducible exact LeO.refl _)
      | (with_reducible exact LeO.none _)
      | (with_reducible refine LeO.ite ?_ ?_)
      | (with_reducible refine LeO.bind ?_ (fun _ => ?_))
      | exact ih0 _ _ _ _ _
      | exact ih1 _ _ _ _ _
      | exact LeO.none _
      | refine LeO.ite ?_ ?_
      | refine LeO.bind ?_ (fun _ => ?_)
set_option maxHeartbeats 8000000 in
set_option maxRecDepth 100000 in
theorem impl_ProgramValid.calls (k : Nat) (a0_0 : Int) (a0_1 : Int) (a0_2 : Int) (r : Bool) (w : World) (h : impl_ProgramValid.f k a0_0 a0_1 a0_2 = some r) :
    Calls Try.prog 27 #[.agg #[.int .i64 a0_0, .int .i64 a0_1, .int .i64 a0_2]] w fun e w' => e = .returned (.bool r) ∧ Below w.heap.size w w' := by
  have hu41 := Try.underlying41
  have HB := Aside0.mk (Below.refl w.heap.size w)
  have H : (if a0_0 = 1 then (impl_ProgramValid.j0 k a0_0 (a0_0 == 1) a0_0 a0_1 a0_2) else (impl_ProgramValid.j0 k a0_0 (a0_0 == 2) a0_0 a0_1 a0_2)) = some r := h
  clear h
  have HC2 := Aside0.mk H
  clear H
  go_enter Try.func27, Try.ntmps27
  go_upto_if 5 with (first | ((with_reducible refine gate_dst (N := 1) rfl ?_); refine box_event ?hg (N := 1) ?hd (cs := #[.int .i64 a0_0, .int .i64 a0_1, .int .i64 a0_2]) (t := 41) ?hr ?_; (case hd => rfl); (case hg => rfl); (case hr => first | (go_simp; done) | (go_simp; rfl)); intro gb160 hg w3 hbox hb; have n0_ := Aside0.mk (below_step (by repeat (first | (with_reducible first | exact HB.out | apply below_alloc | apply pw_below_drewN | apply below_drew1) | exact HB.out)) hb); have n1_ := Aside0.mk (hbox); have n2_ := Aside0.mk ((by rw [hg]; exact (below_size (by repeat (first | (with_reducible first | exact HB.out | apply below_alloc | apply pw_below_drewN | apply below_drew1) | exact HB.out))) : w.heap.size ≤ gb160)); have n3_ := Aside0.mk ((by rw [hg]; exact (below_size (by repeat (first | (with_reducible first | exact HB.out | apply below_alloc | apply pw_below_drewN | apply below_drew1) | exact HB.out))) : w.heap.size ≤ gb160)); clear HB; have HB := n0_; have BK160 := n1_; have GW160 := n2_; have GE160 := n3_; clear n0_ n1_ n2_ n3_; clear hb hbox hg; have hcz4_0 : w3.cell? ⟨gb160, 0, none⟩ = some (.int .i64 a0_0) := (blk_cell BK160.out 0).trans rfl; have hcz4_1 : w3.cell? ⟨gb160, 1, none⟩ = some (.int .i64 a0_1) := (blk_cell BK160.out 1).trans rfl; have hcz4_2 : w3.cell? ⟨gb160, 2, none⟩ = some (.int .i64 a0_2) := (blk_cell BK160.out 2).trans rfl; have hfz4_0 := blk_frozen BK160.out 0; have hfz4_1 := blk_frozen BK160.out 1; have hfz4_2 := blk_frozen BK160.out 2))
  (try simp only [Act.put, List.setIfInBounds_toArray, List.set_cons_zero, List.set_cons_succ])
  go_cut [5] (fun v5 wc => ∃ (kq : Nat) (x5_1 : Bool), v5 = .bool x5_1 ∧ Aside0 (impl_ProgramValid.j0 kq a0_0 x5_1 a0_0 a0_1 a0_2 = some r) ∧ Aside0 (kq ≤ k) ∧ Aside0 (wc.heap[gb160]? = some (.cells #[.int .i64 a0_0, .int .i64 a0_1, .int .i64 a0_2] 41 (0, 0))) ∧ Aside0 (Below w.heap.size w wc))
  case first =>
    have H := HC2.out
    clear HC2
    by_cases c5 : a0_0 = 1
    · rw [if_pos c5] at H
      have c5b0 : (a0_0 == 1) = true := beq_iff_eq.mpr c5
      have c5b1 : (a0_0 != 1) = false := bne_eq_false_iff_eq.mpr c5
      clear c5
      (first | rw [c5b0] | (simp only [i64_w, i32_w]; rw [c5b0]) | skip)
      have H' := Aside0.mk H
      clear H
      go_wp2
      go_meet
      case rel => exact ⟨_, ((a0_0 == 1)), (by first | rfl | (simp; done) | (simp [*]; done)), H', ⟨by first | omega | exact Nat.le_refl _⟩, ⟨by (with_reducible repeat (first | refine blk_drewN ?_ _ | refine blk_drew ?_ | refine blk_alloc ?_ _)); exact BK160.out⟩, ⟨by repeat (first | (with_reducible first | exact HB.out | apply below_alloc | apply pw_below_drewN | apply below_drew1 | refine below_set ?_ GE160.out) | exact HB.out)⟩⟩
    · rw [if_neg c5] at H
      have c5b0 : (a0_0 == 1) = false := beq_eq_false_iff_ne.mpr c5
      have c5b1 : (a0_0 != 1) = true := bne_iff_ne.mpr c5
      (first | rw [c5b0] | (simp only [i64_w, i32_w]; rw [c5b0]) | skip)
      have H' := Aside0.mk H
      clear H
      go_wp2
      go_meet
      case rel => exact ⟨_, ((a0_0 == 2)), (by first | rfl | (simp; done) | (simp [*]; done)), H', ⟨by first | omega | exact Nat.le_refl _⟩, ⟨by (with_reducible repeat (first | refine blk_drewN ?_ _ | refine blk_drew ?_ | refine blk_alloc ?_ _)); exact BK160.out⟩, ⟨by repeat (first | (with_reducible first | exact HB.out | apply below_alloc | apply pw_below_drewN | apply below_drew1 | refine below_set ?_ GE160.out) | exact HB.out)⟩⟩
  case rest =>
    clear HC2
    try clear c2
    try clear p2
    try clear c5
    try clear c5b0
    try clear c5b1
    try clear hcz4_0
    try clear hcz4_1
    try clear hcz4_2
    try clear hfz4_0
    try clear hfz4_1
    try clear hfz4_2
    obtain ⟨kq, x5_1, rfl, HA, HJ1, BK160, HB⟩ := hcut
    cases kq with
    | zero => exact absurd HA.out (by simp [impl_ProgramValid.j0])
    | succ kj1 =>
      have H := HA.out
      clear HA
      simp only [impl_ProgramValid.j0] at H
      by_cases c6 : x5_1 = true
      · subst c6
        have H1 : (if a0_1 ≥ 0 then (if a0_1 < 16 then (some (a0_2 == 0)) else (some false)) else (some false)) = some r := by rw [if_pos rfl] at H; exact H
        clear H
        have H := H1
        clear H1
        by_cases c7 : a0_1 ≥ 0
        · rw [if_pos c7] at H
          have c7b0 : decide (0 ≤ a0_1) = true := decide_eq_true c7
          clear c7
          by_cases c8 : a0_1 < 16
          · rw [if_pos c8] at H
            have c8b0 : decide (a0_1 < 16) = true := decide_eq_true c8
            clear c8
            obtain rfl := Option.some.inj H
            have hcz9_0 : wc.cell? ⟨gb160, 0, none⟩ = some (.int .i64 a0_0) := (blk_cell BK160.out 0).trans rfl
            have hcz9_1 : wc.cell? ⟨gb160, 1, none⟩ = some (.int .i64 a0_1) := (blk_cell BK160.out 1).trans rfl
            have hcz9_2 : wc.cell? ⟨gb160, 2, none⟩ = some (.int .i64 a0_2) := (blk_cell BK160.out 2).trans rfl
            have hfz9_0 := blk_frozen BK160.out 0
            have hfz9_1 := blk_frozen BK160.out 1
            have hfz9_2 := blk_frozen BK160.out 2
            go_wp2
            go_ret
            exact ⟨by first | rfl | (simp [errW_none, errW_some] <;> rfl) | (simp [*, errW_none, errW_some] <;> rfl), by repeat (first | (with_reducible first | exact HB.out | apply below_alloc | apply pw_below_drewN | apply below_drew1 | refine below_set ?_ GE160.out) | exact HB.out)⟩
          · rw [if_neg c8] at H
            have c8b0 : decide (a0_1 < 16) = false := decide_eq_false c8
            clear c8
            obtain rfl := Option.some.inj H
            have hcz10_0 : wc.cell? ⟨gb160, 0, none⟩ = some (.int .i64 a0_0) := (blk_cell BK160.out 0).trans rfl
            have hcz10_1 : wc.cell? ⟨gb160, 1, none⟩ = some (.int .i64 a0_1) := (blk_cell BK160.out 1).trans rfl
            have hcz10_2 : wc.cell? ⟨gb160, 2, none⟩ = some (.int .i64 a0_2) := (blk_cell BK160.out 2).trans rfl
            have hfz10_0 := blk_frozen BK160.out 0
            have hfz10_1 := blk_frozen BK160.out 1
            have hfz10_2 := blk_frozen BK160.out 2
            go_wp2
            go_ret
            exact ⟨by first | rfl | (simp [errW_none, errW_some] <;> rfl) | (simp [*, errW_none, errW_some] <;> rfl), by repeat (first | (with_reducible first | exact HB.out | apply below_alloc | apply pw_below_drewN | apply below_drew1 | refine below_set ?_ GE160.out) | exact HB.out)⟩
        · rw [if_neg c7] at H
          have c7b0 : decide (0 ≤ a0_1) = false := decide_eq_false c7
          clear c7
          obtain rfl := Option.some.inj H
          have hcz11_0 : wc.cell? ⟨gb160, 0, none⟩ = some (.int .i64 a0_0) := (blk_cell BK160.out 0).trans rfl
          have hcz11_1 : wc.cell? ⟨gb160, 1, none⟩ = some (.int .i64 a0_1) := (blk_cell BK160.out 1).trans rfl
          have hcz11_2 : wc.cell? ⟨gb160, 2, none⟩ = some (.int .i64 a0_2) := (blk_cell BK160.out 2).trans rfl
          have hfz11_0 := blk_frozen BK160.out 0
          have hfz11_1 := blk_frozen BK160.out 1
          have hfz11_2 := blk_frozen BK160.out 2
          go_wp2
          go_ret
          exact ⟨by first | rfl | (simp [errW_none, errW_some] <;> rfl) | (simp [*, errW_none, errW_some] <;> rfl), by repeat (first | (with_reducible first | exact HB.out | apply below_alloc | apply pw_below_drewN | apply below_drew1 | refine below_set ?_ GE160.out) | exact HB.out)⟩
      · replace c6 := Bool.eq_false_iff.mpr c6
        subst c6
        have H1 : (if a0_0 = 3 then (impl_ProgramValid.j1 kj1 a0_0 (a0_0 == 3) a0_0 a0_1 a0_2) else (impl_ProgramValid.j1 kj1 a0_0 (a0_0 == 5) a0_0 a0_1 a0_2)) = some r := by rw [if_neg (show ¬ (false = true) by decide)] at H; exact H
        clear H
        have H := H1
        clear H1
        have HC12 := Aside0.mk H
        clear H
        go_upto_if 21 with (fail)
        go_cut [21] (fun v21 wc => ∃ (kq : Nat) (x21_11 : Bool), v21 = .bool x21_11 ∧ Aside0 (impl_ProgramValid.j1 kq a0_0 x21_11 a0_0 a0_1 a0_2 = some r) ∧ Aside0 (kq ≤ kj1) ∧ Aside0 (wc.heap[gb160]? = some (.cells #[.int .i64 a0_0, .int .i64 a0_1, .int .i64 a0_2] 41 (0, 0))) ∧ Aside0 (Below w.heap.size w wc))
        case first =>
          have H := HC12.out
          clear HC12
          by_cases c13 : a0_0 = 3
          · rw [if_pos c13] at H
            have c13b0 : (a0_0 == 3) = true := beq_iff_eq.mpr c13
            have c13b1 : (a0_0 != 3) = false := bne_eq_false_iff_eq.mpr c13
            clear c13
            (first | rw [c13b0] | (simp only [i64_w, i32_w]; rw [c13b0]) | skip)
            have H' := Aside0.mk H
            clear H
            go_wp2
            go_meet
            case rel => exact ⟨_, ((a0_0 == 3)), (by first | rfl | (simp; done) | (simp [*]; done)), H', ⟨by have := HJ1.out; first | omega | exact Nat.le_refl _⟩, ⟨by (with_reducible repeat (first | refine blk_drewN ?_ _ | refine blk_drew ?_ | refine blk_alloc ?_ _)); exact BK160.out⟩, ⟨by repeat (first | (with_reducible first | exact HB.out | apply below_alloc | apply pw_below_drewN | apply below_drew1 | refine below_set ?_ GE160.out) | exact HB.out)⟩⟩
          · rw [if_neg c13] at H
            have c13b0 : (a0_0 == 3) = false := beq_eq_false_iff_ne.mpr c13
            have c13b1 : (a0_0 != 3) = true := bne_iff_ne.mpr c13
            (first | rw [c13b0] | (simp only [i64_w, i32_w]; rw [c13b0]) | skip)
            have H' := Aside0.mk H
            clear H
            go_wp2
            go_meet
            case rel => exact ⟨_, ((a0_0 == 5)), (by first | rfl | (simp; done) | (simp [*]; done)), H', ⟨by have := HJ1.out; first | omega | exact Nat.le_refl _⟩, ⟨by (with_reducible repeat (first | refine blk_drewN ?_ _ | refine blk_drew ?_ | refine blk_alloc ?_ _)); exact BK160.out⟩, ⟨by repeat (first | (with_reducible first | exact HB.out | apply below_alloc | apply pw_below_drewN | apply below_drew1 | refine below_set ?_ GE160.out) | exact HB.out)⟩⟩
        case rest =>
          clear HC12
          try clear c1
          try clear c2
          try clear p2
          try clear c5
          try clear c5b0
          try clear c5b1
          try clear c6
          try clear c7
          try clear c7b0
          try clear c8
          try clear c8b0
          try clear c13
          try clear c13b0
          try clear c13b1
          try clear hcz10_0
          try clear hcz10_1
          try clear hcz10_2
          try clear hcz11_0
          try clear hcz11_1
          try clear hcz11_2
          try clear hcz4_0
          try clear hcz4_1
          try clear hcz4_2
          try clear hcz9_0
          try clear hcz9_1
          try clear hcz9_2
          try clear hfz10_0
          try clear hfz10_1
          try clear hfz10_2
          try clear hfz11_0
          try clear hfz11_1
          try clear hfz11_2
          try clear hfz4_0
          try clear hfz4_1
          try clear hfz4_2
          try clear hfz9_0
          try clear hfz9_1
          try clear hfz9_2
          try clear p2
          obtain ⟨kq, x21_11, rfl, HA, HJ11, BK160, HB⟩ := hcut
          cases kq with
          | zero => exact absurd HA.out (by simp [impl_ProgramValid.j1])
          | succ kj11 =>
            have H := HA.out
            clear HA
            simp only [impl_ProgramValid.j1] at H
            by_cases c14 : x21_11 = true
            · subst c14
              have H1 : (if a0_1 = 0 then (some (a0_2 == 0)) else (some false)) = some r := by rw [if_pos rfl] at H; exact H
              clear H
              have H := H1
              clear H1
              by_cases c15 : a0_1 = 0
              · rw [if_pos c15] at H
                have c15b0 : (a0_1 == 0) = true := beq_iff_eq.mpr c15
                have c15b1 : (a0_1 != 0) = false := bne_eq_false_iff_eq.mpr c15
                clear c15
                obtain rfl := Option.some.inj H
                have hcz16_0 : wc.cell? ⟨gb160, 0, none⟩ = some (.int .i64 a0_0) := (blk_cell BK160.out 0).trans rfl
                have hcz16_1 : wc.cell? ⟨gb160, 1, none⟩ = some (.int .i64 a0_1) := (blk_cell BK160.out 1).trans rfl
                have hcz16_2 : wc.cell? ⟨gb160, 2, none⟩ = some (.int .i64 a0_2) := (blk_cell BK160.out 2).trans rfl
                have hfz16_0 := blk_frozen BK160.out 0
                have hfz16_1 := blk_frozen BK160.out 1
                have hfz16_2 := blk_frozen BK160.out 2
                go_wp2
                go_ret
                exact ⟨by first | rfl | (simp [errW_none, errW_some] <;> rfl) | (simp [*, errW_none, errW_some] <;> rfl), by repeat (first | (with_reducible first | exact HB.out | apply below_alloc | apply pw_below_drewN | apply below_drew1 | refine below_set ?_ GE160.out) | exact HB.out)⟩
              · rw [if_neg c15] at H
                have c15b0 : (a0_1 == 0) = false := beq_eq_false_iff_ne.mpr c15
                have c15b1 : (a0_1 != 0) = true := bne_iff_ne.mpr c15
                obtain rfl := Option.some.inj H
                have hcz17_0 : wc.cell? ⟨gb160, 0, none⟩ = some (.int .i64 a0_0) := (blk_cell BK160.out 0).trans rfl
                have hcz17_1 : wc.cell? ⟨gb160, 1, none⟩ = some (.int .i64 a0_1) := (blk_cell BK160.out 1).trans rfl
                have hcz17_2 : wc.cell? ⟨gb160, 2, none⟩ = some (.int .i64 a0_2) := (blk_cell BK160.out 2).trans rfl
                have hfz17_0 := blk_frozen BK160.out 0
                have hfz17_1 := blk_frozen BK160.out 1
                have hfz17_2 := blk_frozen BK160.out 2
                go_wp2
                go_ret
                exact ⟨by first | rfl | (simp [errW_none, errW_some] <;> rfl) | (simp [*, errW_none, errW_some] <;> rfl), by repeat (first | (with_reducible first | exact HB.out | apply below_alloc | apply pw_below_drewN | apply below_drew1 | refine below_set ?_ GE160.out) | exact HB.out)⟩
            · replace c14 := Bool.eq_false_iff.mpr c14
              subst c14
              have H1 : (if a0_0 = 4 then (if a0_1 = 0 then (if a0_2 ≥ 1 then (some (decide (a0_2 ≤ 20))) else (some false)) else (some false)) else (if a0_0 = 6 then (if a0_1 = 0 then (if a0_2 ≥ 1 then (some (decide (a0_2 ≤ 20))) else (some false)) else (some false)) else (some false))) = some r := by rw [if_neg (show ¬ (false = true) by decide)] at H; exact H
              clear H
              have H := H1
              clear H1
              by_cases c18 : a0_0 = 4
              · rw [if_pos c18] at H
                have c18b0 : (a0_0 == 4) = true := beq_iff_eq.mpr c18
                have c18b1 : (a0_0 != 4) = false := bne_eq_false_iff_eq.mpr c18
                clear c18
                by_cases c19 : a0_1 = 0
                · rw [if_pos c19] at H
                  have c19b0 : (a0_1 == 0) = true := beq_iff_eq.mpr c19
                  have c19b1 : (a0_1 != 0) = false := bne_eq_false_iff_eq.mpr c19
                  clear c19
                  by_cases c20 : a0_2 ≥ 1
                  · rw [if_pos c20] at H
                    have c20b0 : decide (1 ≤ a0_2) = true := decide_eq_true c20
                    clear c20
                    obtain rfl := Option.some.inj H
                    have hcz21_0 : wc.cell? ⟨gb160, 0, none⟩ = some (.int .i64 a0_0) := (blk_cell BK160.out 0).trans rfl
                    have hcz21_1 : wc.cell? ⟨gb160, 1, none⟩ = some (.int .i64 a0_1) := (blk_cell BK160.out 1).trans rfl
                    have hcz21_2 : wc.cell? ⟨gb160, 2, none⟩ = some (.int .i64 a0_2) := (blk_cell BK160.out 2).trans rfl
                    have hfz21_0 := blk_frozen BK160.out 0
                    have hfz21_1 := blk_frozen BK160.out 1
                    have hfz21_2 := blk_frozen BK160.out 2
                    go_wp2
                    go_ret
                    exact ⟨by first | rfl | (simp [errW_none, errW_some] <;> rfl) | (simp [*, errW_none, errW_some] <;> rfl), by repeat (first | (with_reducible first | exact HB.out | apply below_alloc | apply pw_below_drewN | apply below_drew1 | refine below_set ?_ GE160.out) | exact HB.out)⟩
                  · rw [if_neg c20] at H
                    have c20b0 : decide (1 ≤ a0_2) = false := decide_eq_false c20
                    clear c20
                    obtain rfl := Option.some.inj H
                    have hcz22_0 : wc.cell? ⟨gb160, 0, none⟩ = some (.int .i64 a0_0) := (blk_cell BK160.out 0).trans rfl
                    have hcz22_1 : wc.cell? ⟨gb160, 1, none⟩ = some (.int .i64 a0_1) := (blk_cell BK160.out 1).trans rfl
                    have hcz22_2 : wc.cell? ⟨gb160, 2, none⟩ = some (.int .i64 a0_2) := (blk_cell BK160.out 2).trans rfl
                    have hfz22_0 := blk_frozen BK160.out 0
                    have hfz22_1 := blk_frozen BK160.out 1
                    have hfz22_2 := blk_frozen BK160.out 2
                    go_wp2
                    go_ret
                    exact ⟨by first | rfl | (simp [errW_none, errW_some] <;> rfl) | (simp [*, errW_none, errW_some] <;> rfl), by repeat (first | (with_reducible first | exact HB.out | apply below_alloc | apply pw_below_drewN | apply below_drew1 | refine below_set ?_ GE160.out) | exact HB.out)⟩
                · rw [if_neg c19] at H
                  have c19b0 : (a0_1 == 0) = false := beq_eq_false_iff_ne.mpr c19
                  have c19b1 : (a0_1 != 0) = true := bne_iff_ne.mpr c19
                  obtain rfl := Option.some.inj H
                  have hcz23_0 : wc.cell? ⟨gb160, 0, none⟩ = some (.int .i64 a0_0) := (blk_cell BK160.out 0).trans rfl
                  have hcz23_1 : wc.cell? ⟨gb160, 1, none⟩ = some (.int .i64 a0_1) := (blk_cell BK160.out 1).trans rfl
                  have hcz23_2 : wc.cell? ⟨gb160, 2, none⟩ = some (.int .i64 a0_2) := (blk_cell BK160.out 2).trans rfl
                  have hfz23_0 := blk_frozen BK160.out 0
                  have hfz23_1 := blk_frozen BK160.out 1
                  have hfz23_2 := blk_frozen BK160.out 2
                  go_wp2
                  go_ret
                  exact ⟨by first | rfl | (simp [errW_none, errW_some] <;> rfl) | (simp [*, errW_none, errW_some] <;> rfl), by repeat (first | (with_reducible first | exact HB.out | apply below_alloc | apply pw_below_drewN | apply below_drew1 | refine below_set ?_ GE160.out) | exact HB.out)⟩
              · rw [if_neg c18] at H
                have c18b0 : (a0_0 == 4) = false := beq_eq_false_iff_ne.mpr c18
                have c18b1 : (a0_0 != 4) = true := bne_iff_ne.mpr c18
                by_cases c24 : a0_0 = 6
                · rw [if_pos c24] at H
                  have c24b0 : (a0_0 == 6) = true := beq_iff_eq.mpr c24
                  have c24b1 : (a0_0 != 6) = false := bne_eq_false_iff_eq.mpr c24
                  clear c24
                  by_cases c25 : a0_1 = 0
                  · rw [if_pos c25] at H
                    have c25b0 : (a0_1 == 0) = true := beq_iff_eq.mpr c25
                    have c25b1 : (a0_1 != 0) = false := bne_eq_false_iff_eq.mpr c25
                    clear c25
                    by_cases c26 : a0_2 ≥ 1
                    · rw [if_pos c26] at H
                      have c26b0 : decide (1 ≤ a0_2) = true := decide_eq_true c26
                      clear c26
                      obtain rfl := Option.some.inj H
                      have hcz27_0 : wc.cell? ⟨gb160, 0, none⟩ = some (.int .i64 a0_0) := (blk_cell BK160.out 0).trans rfl
                      have hcz27_1 : wc.cell? ⟨gb160, 1, none⟩ = some (.int .i64 a0_1) := (blk_cell BK160.out 1).trans rfl
                      have hcz27_2 : wc.cell? ⟨gb160, 2, none⟩ = some (.int .i64 a0_2) := (blk_cell BK160.out 2).trans rfl
                      have hfz27_0 := blk_frozen BK160.out 0
                      have hfz27_1 := blk_frozen BK160.out 1
                      have hfz27_2 := blk_frozen BK160.out 2
                      go_wp2
                      go_ret
                      exact ⟨by first | rfl | (simp [errW_none, errW_some] <;> rfl) | (simp [*, errW_none, errW_some] <;> rfl), by repeat (first | (with_reducible first | exact HB.out | apply below_alloc | apply pw_below_drewN | apply below_drew1 | refine below_set ?_ GE160.out) | exact HB.out)⟩
                    · rw [if_neg c26] at H
                      have c26b0 : decide (1 ≤ a0_2) = false := decide_eq_false c26
                      clear c26
                      obtain rfl := Option.some.inj H
                      have hcz28_0 : wc.cell? ⟨gb160, 0, none⟩ = some (.int .i64 a0_0) := (blk_cell BK160.out 0).trans rfl
                      have hcz28_1 : wc.cell? ⟨gb160, 1, none⟩ = some (.int .i64 a0_1) := (blk_cell BK160.out 1).trans rfl
                      have hcz28_2 : wc.cell? ⟨gb160, 2, none⟩ = some (.int .i64 a0_2) := (blk_cell BK160.out 2).trans rfl
                      have hfz28_0 := blk_frozen BK160.out 0
                      have hfz28_1 := blk_frozen BK160.out 1
                      have hfz28_2 := blk_frozen BK160.out 2
                      go_wp2
                      go_ret
                      exact ⟨by first | rfl | (simp [errW_none, errW_some] <;> rfl) | (simp [*, errW_none, errW_some] <;> rfl), by repeat (first | (with_reducible first | exact HB.out | apply below_alloc | apply pw_below_drewN | apply below_drew1 | refine below_set ?_ GE160.out) | exact HB.out)⟩
                  · rw [if_neg c25] at H
                    have c25b0 : (a0_1 == 0) = false := beq_eq_false_iff_ne.mpr c25
                    have c25b1 : (a0_1 != 0) = true := bne_iff_ne.mpr c25
                    obtain rfl := Option.some.inj H
                    have hcz29_0 : wc.cell? ⟨gb160, 0, none⟩ = some (.int .i64 a0_0) := (blk_cell BK160.out 0).trans rfl
                    have hcz29_1 : wc.cell? ⟨gb160, 1, none⟩ = some (.int .i64 a0_1) := (blk_cell BK160.out 1).trans rfl
                    have hcz29_2 : wc.cell? ⟨gb160, 2, none⟩ = some (.int .i64 a0_2) := (blk_cell BK160.out 2).trans rfl
                    have hfz29_0 := blk_frozen BK160.out 0
                    have hfz29_1 := blk_frozen BK160.out 1
                    have hfz29_2 := blk_frozen BK160.out 2
                    go_wp2
                    go_ret
                    exact ⟨by first | rfl | (simp [errW_none, errW_some] <;> rfl) | (simp [*, errW_none, errW_some] <;> rfl), by repeat (first | (with_reducible first | exact HB.out | apply below_alloc | apply pw_below_drewN | apply below_drew1 | refine below_set ?_ GE160.out) | exact HB.out)⟩
                · rw [if_neg c24] at H
                  have c24b0 : (a0_0 == 6) = false := beq_eq_false_iff_ne.mpr c24
                  have c24b1 : (a0_0 != 6) = true := bne_iff_ne.mpr c24
                  obtain rfl := Option.some.inj H
                  go_wp2
                  go_ret
                  exact ⟨by first | rfl | (simp [errW_none, errW_some] <;> rfl) | (simp [*, errW_none, errW_some] <;> rfl), by repeat (first | (with_reducible first | exact HB.out | apply below_alloc | apply pw_below_drewN | apply below_drew1 | refine below_set ?_ GE160.out) | exact HB.out)⟩

/-! ### impl_CanCombine: function 25 -/
def impl_CanCombine.f (k : Nat) (a0_0 : Int) (a0_1 : Int) (a0_2 : Int) : Option (Bool) := (impl_ProgramValid.f k a0_0 a0_1 a0_2).bind fun t162 => (if t162 = true then (if a0_0 = 1 then (some true) else (if a0_0 = 2 then (some true) else (some (a0_0 == 3)))) else (some false))
theorem impl_CanCombine.mono : ∀ a0 a1 a2 k, LeO (impl_CanCombine.f k a0 a1 a2) (impl_CanCombine.f (k + 1) a0 a1 a2) := by
  intro a0 a1 a2 k
  unfold impl_CanCombine.f
  repeat' first
      | (with_reducible exact impl_ProgramValid.mono _ _ _ _)
      | (with_reducible exact LeO.refl _)
      | (with_reducible exact LeO.none _)
      | (with_reducible refine LeO.ite ?_ ?_)
      | (with_reducible refine LeO.bind ?_ (fun _ => ?_))
      | exact impl_ProgramValid.mono _ _ _ _
      | exact LeO.none _
      | refine LeO.ite ?_ ?_
      | refine LeO.bind ?_ (fun _ => ?_)
set_option maxHeartbeats 8000000 in
set_option maxRecDepth 100000 in
theorem impl_CanCombine.calls (k : Nat) (a0_0 : Int) (a0_1 : Int) (a0_2 : Int) (r : Bool) (w : World) (h : impl_CanCombine.f k a0_0 a0_1 a0_2 = some r) :
    Calls Try.prog 25 #[.agg #[.int .i64 a0_0, .int .i64 a0_1, .int .i64 a0_2]] w fun e w' => e = .returned (.bool r) ∧ Below w.heap.size w w' := by
  have hu41 := Try.underlying41
  have HB := Aside0.mk (Below.refl w.heap.size w)
  have H : ((impl_ProgramValid.f k a0_0 a0_1 a0_2).bind fun t162 => (if t162 = true then (if a0_0 = 1 then (some true) else (if a0_0 = 2 then (some true) else (some (a0_0 == 3)))) else (some false))) = some r := h
  clear h
  replace H := Option.bind_eq_some_iff.mp H
  obtain ⟨t162, A20, H⟩ := H
  replace H : (if t162 = true then (if a0_0 = 1 then (some true) else (if a0_0 = 2 then (some true) else (some (a0_0 == 3)))) else (some false)) = some r := H
  have A2 := Aside0.mk A20
  clear A20
  by_cases c3 : t162 = true
  · subst c3
    have H1 : (if a0_0 = 1 then (some true) else (if a0_0 = 2 then (some true) else (some (a0_0 == 3)))) = some r := by rw [if_pos rfl] at H; exact H
    clear H
    have H := H1
    clear H1
    by_cases c4 : a0_0 = 1
    · rw [if_pos c4] at H
      have c4b0 : (a0_0 == 1) = true := beq_iff_eq.mpr c4
      have c4b1 : (a0_0 != 1) = false := bne_eq_false_iff_eq.mpr c4
      clear c4
      obtain rfl := Option.some.inj H
      go_enter Try.func25, Try.ntmps25
      go_wp2_with (first | ((with_reducible refine gate_dst (N := 1) rfl ?_); refine box_event ?hg (N := 1) ?hd (cs := #[.int .i64 a0_0, .int .i64 a0_1, .int .i64 a0_2]) (t := 41) ?hr ?_; (case hd => rfl); (case hg => rfl); (case hr => first | (go_simp; done) | (go_simp; rfl)); intro gb161 hg w5 hbox hb; have n0_ := Aside0.mk (below_step (by repeat (first | (with_reducible first | exact HB.out | apply below_alloc | apply pw_below_drewN | apply below_drew1) | exact HB.out)) hb); have n1_ := Aside0.mk (hbox); have n2_ := Aside0.mk ((by rw [hg]; exact (below_size (by repeat (first | (with_reducible first | exact HB.out | apply below_alloc | apply pw_below_drewN | apply below_drew1) | exact HB.out))) : w.heap.size ≤ gb161)); have n3_ := Aside0.mk ((by rw [hg]; exact (below_size (by repeat (first | (with_reducible first | exact HB.out | apply below_alloc | apply pw_below_drewN | apply below_drew1) | exact HB.out))) : w.heap.size ≤ gb161)); clear HB; have HB := n0_; have BK161 := n1_; have GW161 := n2_; have GE161 := n3_; clear n0_ n1_ n2_ n3_; clear hb hbox hg; have hcz6_0 : w5.cell? ⟨gb161, 0, none⟩ = some (.int .i64 a0_0) := (blk_cell BK161.out 0).trans rfl; have hcz6_1 : w5.cell? ⟨gb161, 1, none⟩ = some (.int .i64 a0_1) := (blk_cell BK161.out 1).trans rfl; have hcz6_2 : w5.cell? ⟨gb161, 2, none⟩ = some (.int .i64 a0_2) := (blk_cell BK161.out 2).trans rfl; have hfz6_0 := blk_frozen BK161.out 0; have hfz6_1 := blk_frozen BK161.out 1; have hfz6_2 := blk_frozen BK161.out 2) | ((with_reducible refine gate_callee (f := 27) rfl ?_); refine goesL_ (some 4) rfl rfl Try.func27 (by kernel_rfl) rfl #[.agg #[.int .i64 a0_0, .int .i64 a0_1, .int .i64 a0_2]] rfl (by (try simp only [List.map_toArray, List.map_cons, List.map_nil]); first | done | rfl | (simp only [List.length_drop, List.length_take]; rfl)) ?_; (with_reducible refine (impl_ProgramValid.calls k a0_0 a0_1 a0_2 true _ A2.out).mono ?_); rintro e w7 ⟨rfl, hb⟩; refine ⟨_, rfl, ?_⟩; have n0_ := Aside0.mk (blk_below (g := gb161) (o := .cells #[.int .i64 a0_0, .int .i64 a0_1, .int .i64 a0_2] 41 (0, 0)) (by (with_reducible repeat (first | refine blk_drewN ?_ _ | refine blk_drew ?_ | refine blk_alloc ?_ _)); exact BK161.out) hb); have n1_ := Aside0.mk (below_step (by repeat (first | (with_reducible first | exact HB.out | apply below_alloc | apply pw_below_drewN | apply below_drew1 | refine below_set ?_ GE161.out) | exact HB.out)) hb); clear BK161; clear HB; have BK161 := n0_; have HB := n1_; clear n0_ n1_; (try clear hb); (try clear hb2); (try clear hk); (try clear hi); have hcz8_0 : w7.cell? ⟨gb161, 0, none⟩ = some (.int .i64 a0_0) := (blk_cell BK161.out 0).trans rfl; have hcz8_1 : w7.cell? ⟨gb161, 1, none⟩ = some (.int .i64 a0_1) := (blk_cell BK161.out 1).trans rfl; have hcz8_2 : w7.cell? ⟨gb161, 2, none⟩ = some (.int .i64 a0_2) := (blk_cell BK161.out 2).trans rfl; have hfz8_0 := blk_frozen BK161.out 0; have hfz8_1 := blk_frozen BK161.out 1; have hfz8_2 := blk_frozen BK161.out 2))
      go_ret
      exact ⟨by first | rfl | (simp [errW_none, errW_some] <;> rfl) | (simp [*, errW_none, errW_some] <;> rfl), by repeat (first | (with_reducible first | exact HB.out | apply below_alloc | apply pw_below_drewN | apply below_drew1 | refine below_set ?_ GE161.out) | exact HB.out)⟩
    · rw [if_neg c4] at H
      have c4b0 : (a0_0 == 1) = false := beq_eq_false_iff_ne.mpr c4
      have c4b1 : (a0_0 != 1) = true := bne_iff_ne.mpr c4
      by_cases c9 : a0_0 = 2
      · rw [if_pos c9] at H
        have c9b0 : (a0_0 == 2) = true := beq_iff_eq.mpr c9
        have c9b1 : (a0_0 != 2) = false := bne_eq_false_iff_eq.mpr c9
        clear c9
        obtain rfl := Option.some.inj H
        go_enter Try.func25, Try.ntmps25
        go_wp2_with (first | ((with_reducible refine gate_dst (N := 1) rfl ?_); refine box_event ?hg (N := 1) ?hd (cs := #[.int .i64 a0_0, .int .i64 a0_1, .int .i64 a0_2]) (t := 41) ?hr ?_; (case hd => rfl); (case hg => rfl); (case hr => first | (go_simp; done) | (go_simp; rfl)); intro gb161 hg w10 hbox hb; have n0_ := Aside0.mk (below_step (by repeat (first | (with_reducible first | exact HB.out | apply below_alloc | apply pw_below_drewN | apply below_drew1) | exact HB.out)) hb); have n1_ := Aside0.mk (hbox); have n2_ := Aside0.mk ((by rw [hg]; exact (below_size (by repeat (first | (with_reducible first | exact HB.out | apply below_alloc | apply pw_below_drewN | apply below_drew1) | exact HB.out))) : w.heap.size ≤ gb161)); have n3_ := Aside0.mk ((by rw [hg]; exact (below_size (by repeat (first | (with_reducible first | exact HB.out | apply below_alloc | apply pw_below_drewN | apply below_drew1) | exact HB.out))) : w.heap.size ≤ gb161)); clear HB; have HB := n0_; have BK161 := n1_; have GW161 := n2_; have GE161 := n3_; clear n0_ n1_ n2_ n3_; clear hb hbox hg; have hcz11_0 : w10.cell? ⟨gb161, 0, none⟩ = some (.int .i64 a0_0) := (blk_cell BK161.out 0).trans rfl; have hcz11_1 : w10.cell? ⟨gb161, 1, none⟩ = some (.int .i64 a0_1) := (blk_cell BK161.out 1).trans rfl; have hcz11_2 : w10.cell? ⟨gb161, 2, none⟩ = some (.int .i64 a0_2) := (blk_cell BK161.out 2).trans rfl; have hfz11_0 := blk_frozen BK161.out 0; have hfz11_1 := blk_frozen BK161.out 1; have hfz11_2 := blk_frozen BK161.out 2) | ((with_reducible refine gate_callee (f := 27) rfl ?_); refine goesL_ (some 4) rfl rfl Try.func27 (by kernel_rfl) rfl #[.agg #[.int .i64 a0_0, .int .i64 a0_1, .int .i64 a0_2]] rfl (by (try simp only [List.map_toArray, List.map_cons, List.map_nil]); first | done | rfl | (simp only [List.length_drop, List.length_take]; rfl)) ?_; (with_reducible refine (impl_ProgramValid.calls k a0_0 a0_1 a0_2 true _ A2.out).mono ?_); rintro e w12 ⟨rfl, hb⟩; refine ⟨_, rfl, ?_⟩; have n0_ := Aside0.mk (blk_below (g := gb161) (o := .cells #[.int .i64 a0_0, .int .i64 a0_1, .int .i64 a0_2] 41 (0, 0)) (by (with_reducible repeat (first | refine blk_drewN ?_ _ | refine blk_drew ?_ | refine blk_alloc ?_ _)); exact BK161.out) hb); have n1_ := Aside0.mk (below_step (by repeat (first | (with_reducible first | exact HB.out | apply below_alloc | apply pw_below_drewN | apply below_drew1 | refine below_set ?_ GE161.out) | exact HB.out)) hb); clear BK161; clear HB; have BK161 := n0_; have HB := n1_; clear n0_ n1_; (try clear hb); (try clear hb2); (try clear hk); (try clear hi); have hcz13_0 : w12.cell? ⟨gb161, 0, none⟩ = some (.int .i64 a0_0) := (blk_cell BK161.out 0).trans rfl; have hcz13_1 : w12.cell? ⟨gb161, 1, none⟩ = some (.int .i64 a0_1) := (blk_cell BK161.out 1).trans rfl; have hcz13_2 : w12.cell? ⟨gb161, 2, none⟩ = some (.int .i64 a0_2) := (blk_cell BK161.out 2).trans rfl; have hfz13_0 := blk_frozen BK161.out 0; have hfz13_1 := blk_frozen BK161.out 1; have hfz13_2 := blk_frozen BK161.out 2))
        go_ret
        exact ⟨by first | rfl | (simp [errW_none, errW_some] <;> rfl) | (simp [*, errW_none, errW_some] <;> rfl), by repeat (first | (with_reducible first | exact HB.out | apply below_alloc | apply pw_below_drewN | apply below_drew1 | refine below_set ?_ GE161.out) | exact HB.out)⟩
      · rw [if_neg c9] at H
        have c9b0 : (a0_0 == 2) = false := beq_eq_false_iff_ne.mpr c9
        have c9b1 : (a0_0 != 2) = true := bne_iff_ne.mpr c9
        obtain rfl := Option.some.inj H
        go_enter Try.func25, Try.ntmps25
        go_wp2_with (first | ((with_reducible refine gate_dst (N := 1) rfl ?_); refine box_event ?hg (N := 1) ?hd (cs := #[.int .i64 a0_0, .int .i64 a0_1, .int .i64 a0_2]) (t := 41) ?hr ?_; (case hd => rfl); (case hg => rfl); (case hr => first | (go_simp; done) | (go_simp; rfl)); intro gb161 hg w14 hbox hb; have n0_ := Aside0.mk (below_step (by repeat (first | (with_reducible first | exact HB.out | apply below_alloc | apply pw_below_drewN | apply below_drew1) | exact HB.out)) hb); have n1_ := Aside0.mk (hbox); have n2_ := Aside0.mk ((by rw [hg]; exact (below_size (by repeat (first | (with_reducible first | exact HB.out | apply below_alloc | apply pw_below_drewN | apply below_drew1) | exact HB.out))) : w.heap.size ≤ gb161)); have n3_ := Aside0.mk ((by rw [hg]; exact (below_size (by repeat (first | (with_reducible first | exact HB.out | apply below_alloc | apply pw_below_drewN | apply below_drew1) | exact HB.out))) : w.heap.size ≤ gb161)); clear HB; have HB := n0_; have BK161 := n1_; have GW161 := n2_; have GE161 := n3_; clear n0_ n1_ n2_ n3_; clear hb hbox hg; have hcz15_0 : w14.cell? ⟨gb161, 0, none⟩ = some (.int .i64 a0_0) := (blk_cell BK161.out 0).trans rfl; have hcz15_1 : w14.cell? ⟨gb161, 1, none⟩ = some (.int .i64 a0_1) := (blk_cell BK161.out 1).trans rfl; have hcz15_2 : w14.cell? ⟨gb161, 2, none⟩ = some (.int .i64 a0_2) := (blk_cell BK161.out 2).trans rfl; have hfz15_0 := blk_frozen BK161.out 0; have hfz15_1 := blk_frozen BK161.out 1; have hfz15_2 := blk_frozen BK161.out 2) | ((with_reducible refine gate_callee (f := 27) rfl ?_); refine goesL_ (some 4) rfl rfl Try.func27 (by kernel_rfl) rfl #[.agg #[.int .i64 a0_0, .int .i64 a0_1, .int .i64 a0_2]] rfl (by (try simp only [List.map_toArray, List.map_cons, List.map_nil]); first | done | rfl | (simp only [List.length_drop, List.length_take]; rfl)) ?_; (with_reducible refine (impl_ProgramValid.calls k a0_0 a0_1 a0_2 true _ A2.out).mono ?_); rintro e w16 ⟨rfl, hb⟩; refine ⟨_, rfl, ?_⟩; have n0_ := Aside0.mk (blk_below (g := gb161) (o := .cells #[.int .i64 a0_0, .int .i64 a0_1, .int .i64 a0_2] 41 (0, 0)) (by (with_reducible repeat (first | refine blk_drewN ?_ _ | refine blk_drew ?_ | refine blk_alloc ?_ _)); exact BK161.out) hb); have n1_ := Aside0.mk (below_step (by repeat (first | (with_reducible first | exact HB.out | apply below_alloc | apply pw_below_drewN | apply below_drew1 | refine below_set ?_ GE161.out) | exact HB.out)) hb); clear BK161; clear HB; have BK161 := n0_; have HB := n1_; clear n0_ n1_; (try clear hb); (try clear hb2); (try clear hk); (try clear hi); have hcz17_0 : w16.cell? ⟨gb161, 0, none⟩ = some (.int .i64 a0_0) := (blk_cell BK161.out 0).trans rfl; have hcz17_1 : w16.cell? ⟨gb161, 1, none⟩ = some (.int .i64 a0_1) := (blk_cell BK161.out 1).trans rfl; have hcz17_2 : w16.cell? ⟨gb161, 2, none⟩ = some (.int .i64 a0_2) := (blk_cell BK161.out 2).trans rfl; have hfz17_0 := blk_frozen BK161.out 0; have hfz17_1 := blk_frozen BK161.out 1; have hfz17_2 := blk_frozen BK161.out 2))
        go_ret
        exact ⟨by first | rfl | (simp [errW_none, errW_some] <;> rfl) | (simp [*, errW_none, errW_some] <;> rfl), by repeat (first | (with_reducible first | exact HB.out | apply below_alloc | apply pw_below_drewN | apply below_drew1 | refine below_set ?_ GE161.out) | exact HB.out)⟩
  · replace c3 := Bool.eq_false_iff.mpr c3
    subst c3
    have H1 : (some false) = some r := by rw [if_neg (show ¬ (false = true) by decide)] at H; exact H
    clear H
    have H := H1
    clear H1
    obtain rfl := Option.some.inj H
    go_enter Try.func25, Try.ntmps25
    go_wp2_with (first | ((with_reducible refine gate_dst (N := 1) rfl ?_); refine box_event ?hg (N := 1) ?hd (cs := #[.int .i64 a0_0, .int .i64 a0_1, .int .i64 a0_2]) (t := 41) ?hr ?_; (case hd => rfl); (case hg => rfl); (case hr => first | (go_simp; done) | (go_simp; rfl)); intro gb161 hg w18 hbox hb; have n0_ := Aside0.mk (below_step (by repeat (first | (with_reducible first | exact HB.out | apply below_alloc | apply pw_below_drewN | apply below_drew1) | exact HB.out)) hb); have n1_ := Aside0.mk (hbox); have n2_ := Aside0.mk ((by rw [hg]; exact (below_size (by repeat (first | (with_reducible first | exact HB.out | apply below_alloc | apply pw_below_drewN | apply below_drew1) | exact HB.out))) : w.heap.size ≤ gb161)); have n3_ := Aside0.mk ((by rw [hg]; exact (below_size (by repeat (first | (with_reducible first | exact HB.out | apply below_alloc | apply pw_below_drewN | apply below_drew1) | exact HB.out))) : w.heap.size ≤ gb161)); clear HB; have HB := n0_; have BK161 := n1_; have GW161 := n2_; have GE161 := n3_; clear n0_ n1_ n2_ n3_; clear hb hbox hg; have hcz19_0 : w18.cell? ⟨gb161, 0, none⟩ = some (.int .i64 a0_0) := (blk_cell BK161.out 0).trans rfl; have hcz19_1 : w18.cell? ⟨gb161, 1, none⟩ = some (.int .i64 a0_1) := (blk_cell BK161.out 1).trans rfl; have hcz19_2 : w18.cell? ⟨gb161, 2, none⟩ = some (.int .i64 a0_2) := (blk_cell BK161.out 2).trans rfl; have hfz19_0 := blk_frozen BK161.out 0; have hfz19_1 := blk_frozen BK161.out 1; have hfz19_2 := blk_frozen BK161.out 2) | ((with_reducible refine gate_callee (f := 27) rfl ?_); refine goesL_ (some 4) rfl rfl Try.func27 (by kernel_rfl) rfl #[.agg #[.int .i64 a0_0, .int .i64 a0_1, .int .i64 a0_2]] rfl (by (try simp only [List.map_toArray, List.map_cons, List.map_nil]); first | done | rfl | (simp only [List.length_drop, List.length_take]; rfl)) ?_; (with_reducible refine (impl_ProgramValid.calls k a0_0 a0_1 a0_2 false _ A2.out).mono ?_); rintro e w20 ⟨rfl, hb⟩; refine ⟨_, rfl, ?_⟩; have n0_ := Aside0.mk (blk_below (g := gb161) (o := .cells #[.int .i64 a0_0, .int .i64 a0_1, .int .i64 a0_2] 41 (0, 0)) (by (with_reducible repeat (first | refine blk_drewN ?_ _ | refine blk_drew ?_ | refine blk_alloc ?_ _)); exact BK161.out) hb); have n1_ := Aside0.mk (below_step (by repeat (first | (with_reducible first | exact HB.out | apply below_alloc | apply pw_below_drewN | apply below_drew1 | refine below_set ?_ GE161.out) | exact HB.out)) hb); clear BK161; clear HB; have BK161 := n0_; have HB := n1_; clear n0_ n1_; (try clear hb); (try clear hb2); (try clear hk); (try clear hi)))
    go_ret
    exact ⟨by first | rfl | (simp [errW_none, errW_some] <;> rfl) | (simp [*, errW_none, errW_some] <;> rfl), by repeat (first | (with_reducible first | exact HB.out | apply below_alloc | apply pw_below_drewN | apply below_drew1 | refine below_set ?_ GE161.out) | exact HB.out)⟩

/-! ### spec_l1In: function 68 -/
def spec_l1In.f (a0 : Int) (a1 : Int) (a2 : Int) : Option (Bool) := if a0 ≥ a1 then (some (decide (a0 ≤ a2))) else (some false)
set_option maxHeartbeats 8000000 in
set_option maxRecDepth 100000 in
theorem spec_l1In.calls (a0 : Int) (a1 : Int) (a2 : Int) (r : Bool) (w : World) (h : spec_l1In.f a0 a1 a2 = some r) :
    Calls Try.prog 68 #[.int .i64 a0, .int .i64 a1, .int .i64 a2] w fun e w' => e = .returned (.bool r) ∧ Drawn0 w w' := by
  have H : (if a0 ≥ a1 then (some (decide (a0 ≤ a2))) else (some false)) = some r := h
  clear h
  by_cases c4 : a0 ≥ a1
  · rw [if_pos c4] at H
    have c4b0 : decide (a1 ≤ a0) = true := decide_eq_true c4
    clear c4
    obtain rfl := Option.some.inj H
    go_enter Try.func68, Try.ntmps68
    go_wp2
    go_ret
    exact ⟨by first | rfl | (simp; done) | (simp [*]; done), by repeat (first | exact Drawn0.refl _ | apply Drawn0.step)⟩
  · rw [if_neg c4] at H
    have c4b0 : decide (a1 ≤ a0) = false := decide_eq_false c4
    clear c4
    obtain rfl := Option.some.inj H
    go_enter Try.func68, Try.ntmps68
    go_wp2
    go_ret
    exact ⟨by first | rfl | (simp; done) | (simp [*]; done), by repeat (first | exact Drawn0.refl _ | apply Drawn0.step)⟩

/-! ### spec_ProgramValid: function 74 -/
def spec_ProgramValid.j0 : Nat → Int → Bool → Int → Int → Int → Option (Bool)
  | 0, _, _, _, _, _ => none
  | k + 1, x4, x5, x164000, x164001, x164002 => if x5 = true then ((spec_l1In.f x164001 0 15).bind fun t164 => (if t164 = true then (some (x164002 == 0)) else (some false))) else (if x4 = 4 then (if x164001 = 0 then ((spec_l1In.f x164002 1 20).bind fun t165 => (some t165)) else (some false)) else (if x4 = 6 then (if x164001 = 0 then ((spec_l1In.f x164002 1 20).bind fun t166 => (some t166)) else (some false)) else (if x164000 = 3 then (if x164001 = 0 then (some (x164002 == 0)) else (some false)) else (if x164000 = 5 then (if x164001 = 0 then (some (x164002 == 0)) else (some false)) else (some false)))))
def spec_ProgramValid.f (k : Nat) (a0_0 : Int) (a0_1 : Int) (a0_2 : Int) : Option (Bool) := if a0_0 = 1 then (spec_ProgramValid.j0 k a0_0 (a0_0 == 1) a0_0 a0_1 a0_2) else (spec_ProgramValid.j0 k a0_0 (a0_0 == 2) a0_0 a0_1 a0_2)
theorem spec_ProgramValid.mono_l : ∀ k, (∀ y0 y1 y2 y3 y4, LeO (spec_ProgramValid.j0 k y0 y1 y2 y3 y4) (spec_ProgramValid.j0 (k + 1) y0 y1 y2 y3 y4))
  | 0 => fun _ _ _ _ _ r h => by simp [spec_ProgramValid.j0] at h
  | k + 1 => by
    have ih0 := spec_ProgramValid.mono_l k
    · intro y0 y1 y2 y3 y4
      unfold spec_ProgramValid.j0
      repeat' first
      | (with_reducible exact ih0 _ _ _ _ _)
      | (with_reducible exact LeO.refl _)
      | (with_reducible exact LeO.none _)
      | (with_reducible refine LeO.ite ?_ ?_)
      | (with_reducible refine LeO.bind ?_ (fun _ => ?_))
      | exact ih0 _ _ _ _ _
      | exact LeO.none _
      | refine LeO.ite ?_ ?_
      | refine LeO.bind ?_ (fun _ => ?_)
theorem spec_ProgramValid.mono : ∀ a0 a1 a2 k, LeO (spec_ProgramValid.f k a0 a1 a2) (spec_ProgramValid.f (k + 1) a0 a1 a2) := by
  intro a0 a1 a2 k
  have ih0 := spec_ProgramValid.mono_l k
  unfold spec_ProgramValid.f
  repeat' first
      | (with_reducible exact ih0 _ _ _ _ _)
      | (with_reducible exact LeO.refl _)
      | (with_reducible exact LeO.none _)
      | (with_reducible refine LeO.ite ?_ ?_)
      | (with_reducible refine LeO.bind ?_ (fun _ => ?_))
      | exact ih0 _ _ _ _ _
      | exact LeO.none _
      | refine LeO.ite ?_ ?_
      | refine LeO.bind ?_ (fun _ => ?_)
set_option maxHeartbeats 8000000 in
set_option maxRecDepth 100000 in
theorem spec_ProgramValid.calls (k : Nat) (a0_0 : Int) (a0_1 : Int) (a0_2 : Int) (r : Bool) (w : World) (h : spec_ProgramValid.f k a0_0 a0_1 a0_2 = some r) :
    Calls Try.prog 74 #[.agg #[.int .i64 a0_0, .int .i64 a0_1, .int .i64 a0_2]] w fun e w' => e = .returned (.bool r) ∧ Below w.heap.size w w' := by
  have hu41 := Try.underlying41
  have HB := Aside0.mk (Below.refl w.heap.size w)
  have H : (if a0_0 = 1 then (spec_ProgramValid.j0 k a0_0 (a0_0 == 1) a0_0 a0_1 a0_2) else (spec_ProgramValid.j0 k a0_0 (a0_0 == 2) a0_0 a0_1 a0_2)) = some r := h
  clear h
  have HC2 := Aside0.mk H
  clear H
  go_enter Try.func74, Try.ntmps74
  go_upto_if 5 with (first | ((with_reducible refine gate_dst (N := 1) rfl ?_); refine box_event ?hg (N := 1) ?hd (cs := #[.int .i64 a0_0, .int .i64 a0_1, .int .i64 a0_2]) (t := 41) ?hr ?_; (case hd => rfl); (case hg => rfl); (case hr => first | (go_simp; done) | (go_simp; rfl)); intro gb163 hg w3 hbox hb; have n0_ := Aside0.mk (below_step (by repeat (first | (with_reducible first | exact HB.out | apply below_alloc | apply pw_below_drewN | apply below_drew1) | exact HB.out)) hb); have n1_ := Aside0.mk (hbox); have n2_ := Aside0.mk ((by rw [hg]; exact (below_size (by repeat (first | (with_reducible first | exact HB.out | apply below_alloc | apply pw_below_drewN | apply below_drew1) | exact HB.out))) : w.heap.size ≤ gb163)); have n3_ := Aside0.mk ((by rw [hg]; exact (below_size (by repeat (first | (with_reducible first | exact HB.out | apply below_alloc | apply pw_below_drewN | apply below_drew1) | exact HB.out))) : w.heap.size ≤ gb163)); clear HB; have HB := n0_; have BK163 := n1_; have GW163 := n2_; have GE163 := n3_; clear n0_ n1_ n2_ n3_; clear hb hbox hg; have hcz4_0 : w3.cell? ⟨gb163, 0, none⟩ = some (.int .i64 a0_0) := (blk_cell BK163.out 0).trans rfl; have hcz4_1 : w3.cell? ⟨gb163, 1, none⟩ = some (.int .i64 a0_1) := (blk_cell BK163.out 1).trans rfl; have hcz4_2 : w3.cell? ⟨gb163, 2, none⟩ = some (.int .i64 a0_2) := (blk_cell BK163.out 2).trans rfl; have hfz4_0 := blk_frozen BK163.out 0; have hfz4_1 := blk_frozen BK163.out 1; have hfz4_2 := blk_frozen BK163.out 2))
  (try simp only [Act.put, List.setIfInBounds_toArray, List.set_cons_zero, List.set_cons_succ])
  go_cut [5] (fun v5 wc => ∃ (kq : Nat) (x5_1 : Bool), v5 = .bool x5_1 ∧ Aside0 (spec_ProgramValid.j0 kq a0_0 x5_1 a0_0 a0_1 a0_2 = some r) ∧ Aside0 (kq ≤ k) ∧ Aside0 (wc.heap[gb163]? = some (.cells #[.int .i64 a0_0, .int .i64 a0_1, .int .i64 a0_2] 41 (0, 0))) ∧ Aside0 (Below w.heap.size w wc))
  case first =>
    have H := HC2.out
    clear HC2
    by_cases c5 : a0_0 = 1
    · rw [if_pos c5] at H
      have c5b0 : (a0_0 == 1) = true := beq_iff_eq.mpr c5
      have c5b1 : (a0_0 != 1) = false := bne_eq_false_iff_eq.mpr c5
      clear c5
      (first | rw [c5b0] | (simp only [i64_w, i32_w]; rw [c5b0]) | skip)
      have H' := Aside0.mk H
      clear H
      go_wp2
      go_meet
      case rel => exact ⟨_, ((a0_0 == 1)), (by first | rfl | (simp; done) | (simp [*]; done)), H', ⟨by first | omega | exact Nat.le_refl _⟩, ⟨by (with_reducible repeat (first | refine blk_drewN ?_ _ | refine blk_drew ?_ | refine blk_alloc ?_ _)); exact BK163.out⟩, ⟨by repeat (first | (with_reducible first | exact HB.out | apply below_alloc | apply pw_below_drewN | apply below_drew1 | refine below_set ?_ GE163.out) | exact HB.out)⟩⟩
    · rw [if_neg c5] at H
      have c5b0 : (a0_0 == 1) = false := beq_eq_false_iff_ne.mpr c5
      have c5b1 : (a0_0 != 1) = true := bne_iff_ne.mpr c5
      (first | rw [c5b0] | (simp only [i64_w, i32_w]; rw [c5b0]) | skip)
      have H' := Aside0.mk H
      clear H
      go_wp2
      go_meet
      case rel => exact ⟨_, ((a0_0 == 2)), (by first | rfl | (simp; done) | (simp [*]; done)), H', ⟨by first | omega | exact Nat.le_refl _⟩, ⟨by (with_reducible repeat (first | refine blk_drewN ?_ _ | refine blk_drew ?_ | refine blk_alloc ?_ _)); exact BK163.out⟩, ⟨by repeat (first | (with_reducible first | exact HB.out | apply below_alloc | apply pw_below_drewN | apply below_drew1 | refine below_set ?_ GE163.out) | exact HB.out)⟩⟩
  case rest =>
    clear HC2
    try clear p2
    try clear c5
    try clear c5b0
    try clear c5b1
    try clear hcz4_0
    try clear hcz4_1
    try clear hcz4_2
    try clear hfz4_0
    try clear hfz4_1
    try clear hfz4_2
    obtain ⟨kq, x5_1, rfl, HA, HJ1, BK163, HB⟩ := hcut
    cases kq with
    | zero => exact absurd HA.out (by simp [spec_ProgramValid.j0])
    | succ kj1 =>
      have H := HA.out
      clear HA
      simp only [spec_ProgramValid.j0] at H
      by_cases c6 : x5_1 = true
      · subst c6
        have H1 : ((spec_l1In.f a0_1 0 15).bind fun t164 => (if t164 = true then (some (a0_2 == 0)) else (some false))) = some r := by rw [if_pos rfl] at H; exact H
        clear H
        have H := H1
        clear H1
        replace H := Option.bind_eq_some_iff.mp H
        obtain ⟨t164, A70, H⟩ := H
        replace H : (if t164 = true then (some (a0_2 == 0)) else (some false)) = some r := H
        have A7 := Aside0.mk A70
        clear A70
        by_cases c8 : t164 = true
        · subst c8
          have H1 : (some (a0_2 == 0)) = some r := by rw [if_pos rfl] at H; exact H
          clear H
          have H := H1
          clear H1
          obtain rfl := Option.some.inj H
          have hcz9_0 : wc.cell? ⟨gb163, 0, none⟩ = some (.int .i64 a0_0) := (blk_cell BK163.out 0).trans rfl
          have hcz9_1 : wc.cell? ⟨gb163, 1, none⟩ = some (.int .i64 a0_1) := (blk_cell BK163.out 1).trans rfl
          have hcz9_2 : wc.cell? ⟨gb163, 2, none⟩ = some (.int .i64 a0_2) := (blk_cell BK163.out 2).trans rfl
          have hfz9_0 := blk_frozen BK163.out 0
          have hfz9_1 := blk_frozen BK163.out 1
          have hfz9_2 := blk_frozen BK163.out 2
          go_wp2_with (first | ((with_reducible refine gate_callee (f := 68) rfl ?_); refine goesL_ (some 10) rfl rfl Try.func68 (by kernel_rfl) rfl #[.int .i64 a0_1, .int .i64 0, .int .i64 15] rfl (by (try simp only [List.map_toArray, List.map_cons, List.map_nil]); first | done | rfl | (simp only [List.length_drop, List.length_take]; rfl)) ?_; (with_reducible refine (spec_l1In.calls a0_1 0 15 true _ A7.out).mono ?_); rintro e w' ⟨rfl, ⟨nd, rfl⟩⟩; refine ⟨_, rfl, ?_⟩))
          go_ret
          exact ⟨by first | rfl | (simp [errW_none, errW_some] <;> rfl) | (simp [*, errW_none, errW_some] <;> rfl), by repeat (first | (with_reducible first | exact HB.out | apply below_alloc | apply pw_below_drewN | apply below_drew1 | refine below_set ?_ GE163.out) | exact HB.out)⟩
        · replace c8 := Bool.eq_false_iff.mpr c8
          subst c8
          have H1 : (some false) = some r := by rw [if_neg (show ¬ (false = true) by decide)] at H; exact H
          clear H
          have H := H1
          clear H1
          obtain rfl := Option.some.inj H
          have hcz10_0 : wc.cell? ⟨gb163, 0, none⟩ = some (.int .i64 a0_0) := (blk_cell BK163.out 0).trans rfl
          have hcz10_1 : wc.cell? ⟨gb163, 1, none⟩ = some (.int .i64 a0_1) := (blk_cell BK163.out 1).trans rfl
          have hcz10_2 : wc.cell? ⟨gb163, 2, none⟩ = some (.int .i64 a0_2) := (blk_cell BK163.out 2).trans rfl
          have hfz10_0 := blk_frozen BK163.out 0
          have hfz10_1 := blk_frozen BK163.out 1
          have hfz10_2 := blk_frozen BK163.out 2
          go_wp2_with (first | ((with_reducible refine gate_callee (f := 68) rfl ?_); refine goesL_ (some 10) rfl rfl Try.func68 (by kernel_rfl) rfl #[.int .i64 a0_1, .int .i64 0, .int .i64 15] rfl (by (try simp only [List.map_toArray, List.map_cons, List.map_nil]); first | done | rfl | (simp only [List.length_drop, List.length_take]; rfl)) ?_; (with_reducible refine (spec_l1In.calls a0_1 0 15 false _ A7.out).mono ?_); rintro e w' ⟨rfl, ⟨nd, rfl⟩⟩; refine ⟨_, rfl, ?_⟩))
          go_ret
          exact ⟨by first | rfl | (simp [errW_none, errW_some] <;> rfl) | (simp [*, errW_none, errW_some] <;> rfl), by repeat (first | (with_reducible first | exact HB.out | apply below_alloc | apply pw_below_drewN | apply below_drew1 | refine below_set ?_ GE163.out) | exact HB.out)⟩
      · replace c6 := Bool.eq_false_iff.mpr c6
        subst c6
        have H1 : (if a0_0 = 4 then (if a0_1 = 0 then ((spec_l1In.f a0_2 1 20).bind fun t165 => (some t165)) else (some false)) else (if a0_0 = 6 then (if a0_1 = 0 then ((spec_l1In.f a0_2 1 20).bind fun t166 => (some t166)) else (some false)) else (if a0_0 = 3 then (if a0_1 = 0 then (some (a0_2 == 0)) else (some false)) else (if a0_0 = 5 then (if a0_1 = 0 then (some (a0_2 == 0)) else (some false)) else (some false))))) = some r := by rw [if_neg (show ¬ (false = true) by decide)] at H; exact H
        clear H
        have H := H1
        clear H1
        by_cases c11 : a0_0 = 4
        · rw [if_pos c11] at H
          have c11b0 : (a0_0 == 4) = true := beq_iff_eq.mpr c11
          have c11b1 : (a0_0 != 4) = false := bne_eq_false_iff_eq.mpr c11
          clear c11
          by_cases c12 : a0_1 = 0
          · rw [if_pos c12] at H
            have c12b0 : (a0_1 == 0) = true := beq_iff_eq.mpr c12
            have c12b1 : (a0_1 != 0) = false := bne_eq_false_iff_eq.mpr c12
            clear c12
            replace H := Option.bind_eq_some_iff.mp H
            obtain ⟨t165, A130, H⟩ := H
            replace H : (some t165) = some r := H
            have A13 := Aside0.mk A130
            clear A130
            obtain rfl := Option.some.inj H
            have hcz14_0 : wc.cell? ⟨gb163, 0, none⟩ = some (.int .i64 a0_0) := (blk_cell BK163.out 0).trans rfl
            have hcz14_1 : wc.cell? ⟨gb163, 1, none⟩ = some (.int .i64 a0_1) := (blk_cell BK163.out 1).trans rfl
            have hcz14_2 : wc.cell? ⟨gb163, 2, none⟩ = some (.int .i64 a0_2) := (blk_cell BK163.out 2).trans rfl
            have hfz14_0 := blk_frozen BK163.out 0
            have hfz14_1 := blk_frozen BK163.out 1
            have hfz14_2 := blk_frozen BK163.out 2
            go_wp2_with (first | (go_at_call 68; (with_reducible refine (spec_l1In.calls a0_2 1 20 t165 _ A13.out).mono ?_); rintro e w' ⟨rfl, ⟨nd, rfl⟩⟩))
            go_ret
            exact ⟨by first | rfl | (simp [errW_none, errW_some] <;> rfl) | (simp [*, errW_none, errW_some] <;> rfl), by repeat (first | (with_reducible first | exact HB.out | apply below_alloc | apply pw_below_drewN | apply below_drew1 | refine below_set ?_ GE163.out) | exact HB.out)⟩
          · rw [if_neg c12] at H
            have c12b0 : (a0_1 == 0) = false := beq_eq_false_iff_ne.mpr c12
            have c12b1 : (a0_1 != 0) = true := bne_iff_ne.mpr c12
            obtain rfl := Option.some.inj H
            have hcz15_0 : wc.cell? ⟨gb163, 0, none⟩ = some (.int .i64 a0_0) := (blk_cell BK163.out 0).trans rfl
            have hcz15_1 : wc.cell? ⟨gb163, 1, none⟩ = some (.int .i64 a0_1) := (blk_cell BK163.out 1).trans rfl
            have hcz15_2 : wc.cell? ⟨gb163, 2, none⟩ = some (.int .i64 a0_2) := (blk_cell BK163.out 2).trans rfl
            have hfz15_0 := blk_frozen BK163.out 0
            have hfz15_1 := blk_frozen BK163.out 1
            have hfz15_2 := blk_frozen BK163.out 2
            go_wp2
            go_ret
            exact ⟨by first | rfl | (simp [errW_none, errW_some] <;> rfl) | (simp [*, errW_none, errW_some] <;> rfl), by repeat (first | (with_reducible first | exact HB.out | apply below_alloc | apply pw_below_drewN | apply below_drew1 | refine below_set ?_ GE163.out) | exact HB.out)⟩
        · rw [if_neg c11] at H
          have c11b0 : (a0_0 == 4) = false := beq_eq_false_iff_ne.mpr c11
          have c11b1 : (a0_0 != 4) = true := bne_iff_ne.mpr c11
          by_cases c16 : a0_0 = 6
          · rw [if_pos c16] at H
            have c16b0 : (a0_0 == 6) = true := beq_iff_eq.mpr c16
            have c16b1 : (a0_0 != 6) = false := bne_eq_false_iff_eq.mpr c16
            clear c16
            by_cases c17 : a0_1 = 0
            · rw [if_pos c17] at H
              have c17b0 : (a0_1 == 0) = true := beq_iff_eq.mpr c17
              have c17b1 : (a0_1 != 0) = false := bne_eq_false_iff_eq.mpr c17
              clear c17
              replace H := Option.bind_eq_some_iff.mp H
              obtain ⟨t166, A180, H⟩ := H
              replace H : (some t166) = some r := H
              have A18 := Aside0.mk A180
              clear A180
              obtain rfl := Option.some.inj H
              have hcz19_0 : wc.cell? ⟨gb163, 0, none⟩ = some (.int .i64 a0_0) := (blk_cell BK163.out 0).trans rfl
              have hcz19_1 : wc.cell? ⟨gb163, 1, none⟩ = some (.int .i64 a0_1) := (blk_cell BK163.out 1).trans rfl
              have hcz19_2 : wc.cell? ⟨gb163, 2, none⟩ = some (.int .i64 a0_2) := (blk_cell BK163.out 2).trans rfl
              have hfz19_0 := blk_frozen BK163.out 0
              have hfz19_1 := blk_frozen BK163.out 1
              have hfz19_2 := blk_frozen BK163.out 2
              go_wp2_with (first | (go_at_call 68; (with_reducible refine (spec_l1In.calls a0_2 1 20 t166 _ A18.out).mono ?_); rintro e w' ⟨rfl, ⟨nd, rfl⟩⟩))
              go_ret
              exact ⟨by first | rfl | (simp [errW_none, errW_some] <;> rfl) | (simp [*, errW_none, errW_some] <;> rfl), by repeat (first | (with_reducible first | exact HB.out | apply below_alloc | apply pw_below_drewN | apply below_drew1 | refine below_set ?_ GE163.out) | exact HB.out)⟩
            · rw [if_neg c17] at H
              have c17b0 : (a0_1 == 0) = false := beq_eq_false_iff_ne.mpr c17
              have c17b1 : (a0_1 != 0) = true := bne_iff_ne.mpr c17
              obtain rfl := Option.some.inj H
              have hcz20_0 : wc.cell? ⟨gb163, 0, none⟩ = some (.int .i64 a0_0) := (blk_cell BK163.out 0).trans rfl
              have hcz20_1 : wc.cell? ⟨gb163, 1, none⟩ = some (.int .i64 a0_1) := (blk_cell BK163.out 1).trans rfl
              have hcz20_2 : wc.cell? ⟨gb163, 2, none⟩ = some (.int .i64 a0_2) := (blk_cell BK163.out 2).trans rfl
              have hfz20_0 := blk_frozen BK163.out 0
              have hfz20_1 := blk_frozen BK163.out 1
              have hfz20_2 := blk_frozen BK163.out 2
              go_wp2
              go_ret
              exact ⟨by first | rfl | (simp [errW_none, errW_some] <;> rfl) | (simp [*, errW_none, errW_some] <;> rfl), by repeat (first | (with_reducible first | exact HB.out | apply below_alloc | apply pw_below_drewN | apply below_drew1 | refine below_set ?_ GE163.out) | exact HB.out)⟩
          · rw [if_neg c16] at H
            have c16b0 : (a0_0 == 6) = false := beq_eq_false_iff_ne.mpr c16
            have c16b1 : (a0_0 != 6) = true := bne_iff_ne.mpr c16
            by_cases c21 : a0_0 = 3
            · rw [if_pos c21] at H
              have c21b0 : (a0_0 == 3) = true := beq_iff_eq.mpr c21
              have c21b1 : (a0_0 != 3) = false := bne_eq_false_iff_eq.mpr c21
              clear c21
              by_cases c22 : a0_1 = 0
              · rw [if_pos c22] at H
                have c22b0 : (a0_1 == 0) = true := beq_iff_eq.mpr c22
                have c22b1 : (a0_1 != 0) = false := bne_eq_false_iff_eq.mpr c22
                clear c22
                obtain rfl := Option.some.inj H
                have hcz23_0 : wc.cell? ⟨gb163, 0, none⟩ = some (.int .i64 a0_0) := (blk_cell BK163.out 0).trans rfl
                have hcz23_1 : wc.cell? ⟨gb163, 1, none⟩ = some (.int .i64 a0_1) := (blk_cell BK163.out 1).trans rfl
                have hcz23_2 : wc.cell? ⟨gb163, 2, none⟩ = some (.int .i64 a0_2) := (blk_cell BK163.out 2).trans rfl
                have hfz23_0 := blk_frozen BK163.out 0
                have hfz23_1 := blk_frozen BK163.out 1
                have hfz23_2 := blk_frozen BK163.out 2
                go_wp2
                go_ret
                exact ⟨by first | rfl | (simp [errW_none, errW_some] <;> rfl) | (simp [*, errW_none, errW_some] <;> rfl), by repeat (first | (with_reducible first | exact HB.out | apply below_alloc | apply pw_below_drewN | apply below_drew1 | refine below_set ?_ GE163.out) | exact HB.out)⟩
              · rw [if_neg c22] at H
                have c22b0 : (a0_1 == 0) = false := beq_eq_false_iff_ne.mpr c22
                have c22b1 : (a0_1 != 0) = true := bne_iff_ne.mpr c22
                obtain rfl := Option.some.inj H
                have hcz24_0 : wc.cell? ⟨gb163, 0, none⟩ = some (.int .i64 a0_0) := (blk_cell BK163.out 0).trans rfl
                have hcz24_1 : wc.cell? ⟨gb163, 1, none⟩ = some (.int .i64 a0_1) := (blk_cell BK163.out 1).trans rfl
                have hcz24_2 : wc.cell? ⟨gb163, 2, none⟩ = some (.int .i64 a0_2) := (blk_cell BK163.out 2).trans rfl
                have hfz24_0 := blk_frozen BK163.out 0
                have hfz24_1 := blk_frozen BK163.out 1
                have hfz24_2 := blk_frozen BK163.out 2
                go_wp2
                go_ret
                exact ⟨by first | rfl | (simp [errW_none, errW_some] <;> rfl) | (simp [*, errW_none, errW_some] <;> rfl), by repeat (first | (with_reducible first | exact HB.out | apply below_alloc | apply pw_below_drewN | apply below_drew1 | refine below_set ?_ GE163.out) | exact HB.out)⟩
            · rw [if_neg c21] at H
              have c21b0 : (a0_0 == 3) = false := beq_eq_false_iff_ne.mpr c21
              have c21b1 : (a0_0 != 3) = true := bne_iff_ne.mpr c21
              by_cases c25 : a0_0 = 5
              · rw [if_pos c25] at H
                have c25b0 : (a0_0 == 5) = true := beq_iff_eq.mpr c25
                have c25b1 : (a0_0 != 5) = false := bne_eq_false_iff_eq.mpr c25
                clear c25
                by_cases c26 : a0_1 = 0
                · rw [if_pos c26] at H
                  have c26b0 : (a0_1 == 0) = true := beq_iff_eq.mpr c26
                  have c26b1 : (a0_1 != 0) = false := bne_eq_false_iff_eq.mpr c26
                  clear c26
                  obtain rfl := Option.some.inj H
                  have hcz27_0 : wc.cell? ⟨gb163, 0, none⟩ = some (.int .i64 a0_0) := (blk_cell BK163.out 0).trans rfl
                  have hcz27_1 : wc.cell? ⟨gb163, 1, none⟩ = some (.int .i64 a0_1) := (blk_cell BK163.out 1).trans rfl
                  have hcz27_2 : wc.cell? ⟨gb163, 2, none⟩ = some (.int .i64 a0_2) := (blk_cell BK163.out 2).trans rfl
                  have hfz27_0 := blk_frozen BK163.out 0
                  have hfz27_1 := blk_frozen BK163.out 1
                  have hfz27_2 := blk_frozen BK163.out 2
                  go_wp2
                  go_ret
                  exact ⟨by first | rfl | (simp [errW_none, errW_some] <;> rfl) | (simp [*, errW_none, errW_some] <;> rfl), by repeat (first | (with_reducible first | exact HB.out | apply below_alloc | apply pw_below_drewN | apply below_drew1 | refine below_set ?_ GE163.out) | exact HB.out)⟩
                · rw [if_neg c26] at H
                  have c26b0 : (a0_1 == 0) = false := beq_eq_false_iff_ne.mpr c26
                  have c26b1 : (a0_1 != 0) = true := bne_iff_ne.mpr c26
                  obtain rfl := Option.some.inj H
                  have hcz28_0 : wc.cell? ⟨gb163, 0, none⟩ = some (.int .i64 a0_0) := (blk_cell BK163.out 0).trans rfl
                  have hcz28_1 : wc.cell? ⟨gb163, 1, none⟩ = some (.int .i64 a0_1) := (blk_cell BK163.out 1).trans rfl
                  have hcz28_2 : wc.cell? ⟨gb163, 2, none⟩ = some (.int .i64 a0_2) := (blk_cell BK163.out 2).trans rfl
                  have hfz28_0 := blk_frozen BK163.out 0
                  have hfz28_1 := blk_frozen BK163.out 1
                  have hfz28_2 := blk_frozen BK163.out 2
                  go_wp2
                  go_ret
                  exact ⟨by first | rfl | (simp [errW_none, errW_some] <;> rfl) | (simp [*, errW_none, errW_some] <;> rfl), by repeat (first | (with_reducible first | exact HB.out | apply below_alloc | apply pw_below_drewN | apply below_drew1 | refine below_set ?_ GE163.out) | exact HB.out)⟩
              · rw [if_neg c25] at H
                have c25b0 : (a0_0 == 5) = false := beq_eq_false_iff_ne.mpr c25
                have c25b1 : (a0_0 != 5) = true := bne_iff_ne.mpr c25
                obtain rfl := Option.some.inj H
                have hcz29_0 : wc.cell? ⟨gb163, 0, none⟩ = some (.int .i64 a0_0) := (blk_cell BK163.out 0).trans rfl
                have hcz29_1 : wc.cell? ⟨gb163, 1, none⟩ = some (.int .i64 a0_1) := (blk_cell BK163.out 1).trans rfl
                have hcz29_2 : wc.cell? ⟨gb163, 2, none⟩ = some (.int .i64 a0_2) := (blk_cell BK163.out 2).trans rfl
                have hfz29_0 := blk_frozen BK163.out 0
                have hfz29_1 := blk_frozen BK163.out 1
                have hfz29_2 := blk_frozen BK163.out 2
                go_wp2
                go_ret
                exact ⟨by first | rfl | (simp [errW_none, errW_some] <;> rfl) | (simp [*, errW_none, errW_some] <;> rfl), by repeat (first | (with_reducible first | exact HB.out | apply below_alloc | apply pw_below_drewN | apply below_drew1 | refine below_set ?_ GE163.out) | exact HB.out)⟩

/-! ### spec_CanCombine: function 26 -/
def spec_CanCombine.f (k : Nat) (a0_0 : Int) (a0_1 : Int) (a0_2 : Int) : Option (Bool) := (spec_ProgramValid.f k a0_0 a0_1 a0_2).bind fun t168 => (if t168 = true then ((spec_l1In.f a0_0 1 3).bind fun t169 => (some t169)) else (some false))
theorem spec_CanCombine.mono : ∀ a0 a1 a2 k, LeO (spec_CanCombine.f k a0 a1 a2) (spec_CanCombine.f (k + 1) a0 a1 a2) := by
  intro a0 a1 a2 k
  unfold spec_CanCombine.f
  repeat' first
      | (with_reducible exact spec_ProgramValid.mono _ _ _ _)
      | (with_reducible exact LeO.refl _)
      | (with_reducible exact LeO.none _)
      | (with_reducible refine LeO.ite ?_ ?_)
      | (with_reducible refine LeO.bind ?_ (fun _ => ?_))
      | exact spec_ProgramValid.mono _ _ _ _
      | exact LeO.none _
      | refine LeO.ite ?_ ?_
      | refine LeO.bind ?_ (fun _ => ?_)
set_option maxHeartbeats 8000000 in
set_option maxRecDepth 100000 in
theorem spec_CanCombine.calls (k : Nat) (a0_0 : Int) (a0_1 : Int) (a0_2 : Int) (r : Bool) (w : World) (h : spec_CanCombine.f k a0_0 a0_1 a0_2 = some r) :
    Calls Try.prog 26 #[.agg #[.int .i64 a0_0, .int .i64 a0_1, .int .i64 a0_2]] w fun e w' => e = .returned (.bool r) ∧ Below w.heap.size w w' := by
  have hu41 := Try.underlying41
  have HB := Aside0.mk (Below.refl w.heap.size w)
  have H : ((spec_ProgramValid.f k a0_0 a0_1 a0_2).bind fun t168 => (if t168 = true then ((spec_l1In.f a0_0 1 3).bind fun t169 => (some t169)) else (some false))) = some r := h
  clear h
  replace H := Option.bind_eq_some_iff.mp H
  obtain ⟨t168, A20, H⟩ := H
  replace H : (if t168 = true then ((spec_l1In.f a0_0 1 3).bind fun t169 => (some t169)) else (some false)) = some r := H
  have A2 := Aside0.mk A20
  clear A20
  by_cases c3 : t168 = true
  · subst c3
    have H1 : ((spec_l1In.f a0_0 1 3).bind fun t169 => (some t169)) = some r := by rw [if_pos rfl] at H; exact H
    clear H
    have H := H1
    clear H1
    replace H := Option.bind_eq_some_iff.mp H
    obtain ⟨t169, A40, H⟩ := H
    replace H : (some t169) = some r := H
    have A4 := Aside0.mk A40
    clear A40
    obtain rfl := Option.some.inj H
    go_enter Try.func26, Try.ntmps26
    go_wp2_with (first | ((with_reducible refine gate_dst (N := 1) rfl ?_); refine box_event ?hg (N := 1) ?hd (cs := #[.int .i64 a0_0, .int .i64 a0_1, .int .i64 a0_2]) (t := 41) ?hr ?_; (case hd => rfl); (case hg => rfl); (case hr => first | (go_simp; done) | (go_simp; rfl)); intro gb167 hg w5 hbox hb; have n0_ := Aside0.mk (below_step (by repeat (first | (with_reducible first | exact HB.out | apply below_alloc | apply pw_below_drewN | apply below_drew1) | exact HB.out)) hb); have n1_ := Aside0.mk (hbox); have n2_ := Aside0.mk ((by rw [hg]; exact (below_size (by repeat (first | (with_reducible first | exact HB.out | apply below_alloc | apply pw_below_drewN | apply below_drew1) | exact HB.out))) : w.heap.size ≤ gb167)); have n3_ := Aside0.mk ((by rw [hg]; exact (below_size (by repeat (first | (with_reducible first | exact HB.out | apply below_alloc | apply pw_below_drewN | apply below_drew1) | exact HB.out))) : w.heap.size ≤ gb167)); clear HB; have HB := n0_; have BK167 := n1_; have GW167 := n2_; have GE167 := n3_; clear n0_ n1_ n2_ n3_; clear hb hbox hg; have hcz6_0 : w5.cell? ⟨gb167, 0, none⟩ = some (.int .i64 a0_0) := (blk_cell BK167.out 0).trans rfl; have hcz6_1 : w5.cell? ⟨gb167, 1, none⟩ = some (.int .i64 a0_1) := (blk_cell BK167.out 1).trans rfl; have hcz6_2 : w5.cell? ⟨gb167, 2, none⟩ = some (.int .i64 a0_2) := (blk_cell BK167.out 2).trans rfl; have hfz6_0 := blk_frozen BK167.out 0; have hfz6_1 := blk_frozen BK167.out 1; have hfz6_2 := blk_frozen BK167.out 2) | ((with_reducible refine gate_callee (f := 74) rfl ?_); refine goesL_ (some 4) rfl rfl Try.func74 (by kernel_rfl) rfl #[.agg #[.int .i64 a0_0, .int .i64 a0_1, .int .i64 a0_2]] rfl (by (try simp only [List.map_toArray, List.map_cons, List.map_nil]); first | done | rfl | (simp only [List.length_drop, List.length_take]; rfl)) ?_; (with_reducible refine (spec_ProgramValid.calls k a0_0 a0_1 a0_2 true _ A2.out).mono ?_); rintro e w7 ⟨rfl, hb⟩; refine ⟨_, rfl, ?_⟩; have n0_ := Aside0.mk (blk_below (g := gb167) (o := .cells #[.int .i64 a0_0, .int .i64 a0_1, .int .i64 a0_2] 41 (0, 0)) (by (with_reducible repeat (first | refine blk_drewN ?_ _ | refine blk_drew ?_ | refine blk_alloc ?_ _)); exact BK167.out) hb); have n1_ := Aside0.mk (below_step (by repeat (first | (with_reducible first | exact HB.out | apply below_alloc | apply pw_below_drewN | apply below_drew1 | refine below_set ?_ GE167.out) | exact HB.out)) hb); clear BK167; clear HB; have BK167 := n0_; have HB := n1_; clear n0_ n1_; (try clear hb); (try clear hb2); (try clear hk); (try clear hi); have hcz8_0 : w7.cell? ⟨gb167, 0, none⟩ = some (.int .i64 a0_0) := (blk_cell BK167.out 0).trans rfl; have hcz8_1 : w7.cell? ⟨gb167, 1, none⟩ = some (.int .i64 a0_1) := (blk_cell BK167.out 1).trans rfl; have hcz8_2 : w7.cell? ⟨gb167, 2, none⟩ = some (.int .i64 a0_2) := (blk_cell BK167.out 2).trans rfl; have hfz8_0 := blk_frozen BK167.out 0; have hfz8_1 := blk_frozen BK167.out 1; have hfz8_2 := blk_frozen BK167.out 2) | (go_at_call 68; (with_reducible refine (spec_l1In.calls a0_0 1 3 t169 _ A4.out).mono ?_); rintro e w' ⟨rfl, ⟨nd, rfl⟩⟩))
    go_ret
    exact ⟨by first | rfl | (simp [errW_none, errW_some] <;> rfl) | (simp [*, errW_none, errW_some] <;> rfl), by repeat (first | (with_reducible first | exact HB.out | apply below_alloc | apply pw_below_drewN | apply below_drew1 | refine below_set ?_ GE167.out) | exact HB.out)⟩
  · replace c3 := Bool.eq_false_iff.mpr c3
    subst c3
    have H1 : (some false) = some r := by rw [if_neg (show ¬ (false = true) by decide)] at H; exact H
    clear H
    have H := H1
    clear H1
    obtain rfl := Option.some.inj H
    go_enter Try.func26, Try.ntmps26
    go_wp2_with (first | ((with_reducible refine gate_dst (N := 1) rfl ?_); refine box_event ?hg (N := 1) ?hd (cs := #[.int .i64 a0_0, .int .i64 a0_1, .int .i64 a0_2]) (t := 41) ?hr ?_; (case hd => rfl); (case hg => rfl); (case hr => first | (go_simp; done) | (go_simp; rfl)); intro gb167 hg w9 hbox hb; have n0_ := Aside0.mk (below_step (by repeat (first | (with_reducible first | exact HB.out | apply below_alloc | apply pw_below_drewN | apply below_drew1) | exact HB.out)) hb); have n1_ := Aside0.mk (hbox); have n2_ := Aside0.mk ((by rw [hg]; exact (below_size (by repeat (first | (with_reducible first | exact HB.out | apply below_alloc | apply pw_below_drewN | apply below_drew1) | exact HB.out))) : w.heap.size ≤ gb167)); have n3_ := Aside0.mk ((by rw [hg]; exact (below_size (by repeat (first | (with_reducible first | exact HB.out | apply below_alloc | apply pw_below_drewN | apply below_drew1) | exact HB.out))) : w.heap.size ≤ gb167)); clear HB; have HB := n0_; have BK167 := n1_; have GW167 := n2_; have GE167 := n3_; clear n0_ n1_ n2_ n3_; clear hb hbox hg; have hcz10_0 : w9.cell? ⟨gb167, 0, none⟩ = some (.int .i64 a0_0) := (blk_cell BK167.out 0).trans rfl; have hcz10_1 : w9.cell? ⟨gb167, 1, none⟩ = some (.int .i64 a0_1) := (blk_cell BK167.out 1).trans rfl; have hcz10_2 : w9.cell? ⟨gb167, 2, none⟩ = some (.int .i64 a0_2) := (blk_cell BK167.out 2).trans rfl; have hfz10_0 := blk_frozen BK167.out 0; have hfz10_1 := blk_frozen BK167.out 1; have hfz10_2 := blk_frozen BK167.out 2) | ((with_reducible refine gate_callee (f := 74) rfl ?_); refine goesL_ (some 4) rfl rfl Try.func74 (by kernel_rfl) rfl #[.agg #[.int .i64 a0_0, .int .i64 a0_1, .int .i64 a0_2]] rfl (by (try simp only [List.map_toArray, List.map_cons, List.map_nil]); first | done | rfl | (simp only [List.length_drop, List.length_take]; rfl)) ?_; (with_reducible refine (spec_ProgramValid.calls k a0_0 a0_1 a0_2 false _ A2.out).mono ?_); rintro e w11 ⟨rfl, hb⟩; refine ⟨_, rfl, ?_⟩; have n0_ := Aside0.mk (blk_below (g := gb167) (o := .cells #[.int .i64 a0_0, .int .i64 a0_1, .int .i64 a0_2] 41 (0, 0)) (by (with_reducible repeat (first | refine blk_drewN ?_ _ | refine blk_drew ?_ | refine blk_alloc ?_ _)); exact BK167.out) hb); have n1_ := Aside0.mk (below_step (by repeat (first | (with_reducible first | exact HB.out | apply below_alloc | apply pw_below_drewN | apply below_drew1 | refine below_set ?_ GE167.out) | exact HB.out)) hb); clear BK167; clear HB; have BK167 := n0_; have HB := n1_; clear n0_ n1_; (try clear hb); (try clear hb2); (try clear hk); (try clear hi)))
    go_ret
    exact ⟨by first | rfl | (simp [errW_none, errW_some] <;> rfl) | (simp [*, errW_none, errW_some] <;> rfl), by repeat (first | (with_reducible first | exact HB.out | apply below_alloc | apply pw_below_drewN | apply below_drew1 | refine below_set ?_ GE167.out) | exact HB.out)⟩

end Go.Proofs.Ytloiafnoekpaoaa.PFnCanCombine
