/- Laid by a program of this session out of the translation: functions, their contracts, the row. Lean checks it. -/
import Derived.Test.YtloiafnoekpaoabPFnTotalsOfx0
import Derived.Test.YtloiafnoekpaoabPFnTotalsOfx1
import Derived.Test.YtloiafnoekpaoabPFnTotalsOfx3
namespace Go.Proofs.Ytloiafnoekpaoab.PFnTotalsOf
open Go.RowKit Go.Proofs.YtloiafnoekpaoabW.PrintWords Go.Proofs.YtloiafnoekpaoabW.PrintLast Go.Proofs.YtloiafnoekpaoabW.PrintMore
attribute [local go_sem] max2_int min2_int max_two min_two max_three min_three max_four min_four   -- for this text's walks alone
set_option linter.unusedVariables false
set_option linter.unusedSimpArgs false

attribute [local go_sem high] eqA52
/-! ### impl_TotalValid: function 88 -/
def impl_TotalValid.j0 : Nat → Bool → Int → Int → Int → Int → Option (Bool)
  | 0, _, _, _, _, _ => none
  | k + 1, x10, x213000, x213001, x213002, x213003 => if x10 = true then (some false) else (if x213000 = 0 then ((impl_noTotal.f).bind fun bt213 => (some (x213000 == bt213.1 && (x213001 == bt213.2.1 && (x213002 == bt213.2.2.1 && (x213003 == bt213.2.2.2)))))) else (if x213002 < 0 then (some false) else (if x213002 > x213003 then (some false) else (if x213003 ≥ 1000000 then (some false) else (if x213001 ≥ (wrap64 (x213000 * x213002)) then (some (decide (x213001 ≤ (wrap64 (x213000 * x213003))))) else (some false))))))
def impl_TotalValid.f (k : Nat) (a0_0 : Int) (a0_1 : Int) (a0_2 : Int) (a0_3 : Int) : Option (Bool) := if a0_0 < 0 then (impl_TotalValid.j0 k true a0_0 a0_1 a0_2 a0_3) else (impl_TotalValid.j0 k (decide (a0_0 > 16)) a0_0 a0_1 a0_2 a0_3)
theorem impl_TotalValid.mono_l : ∀ k, (∀ y0 y1 y2 y3 y4, LeO (impl_TotalValid.j0 k y0 y1 y2 y3 y4) (impl_TotalValid.j0 (k + 1) y0 y1 y2 y3 y4))
  | 0 => fun _ _ _ _ _ r h => by simp [impl_TotalValid.j0] at h
  | k + 1 => by
    have ih0 := impl_TotalValid.mono_l k
    · intro y0 y1 y2 y3 y4
      unfold impl_TotalValid.j0
      repeat' first
      | (with_reducible exact ih0 _ _ _ _ _)
      | (with_reducible exact LeO.refl _)
      | (with_reducible exact LeO.none _)
      | (with_reducible refine LeO.ite ?_ ?_)
      | (with_reducible refine LeO.bind ?_ (fun _ => ?_))
      | exact ih0 _ _ _ _ _
      | exact LeO.none _
      | refine LeO.ite ?_ ?_
      | refine LeO.bind ?_ (fun _ => ?_)
theorem impl_TotalValid.mono : ∀ a0 a1 a2 a3 k, LeO (impl_TotalValid.f k a0 a1 a2 a3) (impl_TotalValid.f (k + 1) a0 a1 a2 a3) := by
  intro a0 a1 a2 a3 k
  have ih0 := impl_TotalValid.mono_l k
  unfold impl_TotalValid.f
  repeat' first
      | (with_reducible exact ih0 _ _ _ _ _)
      | (with_reducible exact LeO.refl _)
      | (with_reducible exact LeO.none _)
      | (with_reducible refine LeO.ite ?_ ?_)
      | (with_reducible refine LeO.bind ?_ (fun _ => ?_))
      | exact ih0 _ _ _ _ _
      | exact LeO.none _
      | refine LeO.ite ?_ ?_
      | refine LeO.bind ?_ (fun _ => ?_)
set_option maxHeartbeats 8000000 in
set_option maxRecDepth 100000 in
theorem impl_TotalValid.calls (k : Nat) (a0_0 : Int) (a0_1 : Int) (a0_2 : Int) (a0_3 : Int) (r : Bool) (w : World) (h : impl_TotalValid.f k a0_0 a0_1 a0_2 a0_3 = some r) :
    Calls Try.prog 88 #[.agg #[.int .i64 a0_0, .int .i64 a0_1, .int .i64 a0_2, .int .i64 a0_3]] w fun e w' => e = .returned (.bool r) ∧ Below w.heap.size w w' := by
  have hu52 := Try.underlying52
  have HB := Aside0.mk (Below.refl w.heap.size w)
  have H : (if a0_0 < 0 then (impl_TotalValid.j0 k true a0_0 a0_1 a0_2 a0_3) else (impl_TotalValid.j0 k (decide (a0_0 > 16)) a0_0 a0_1 a0_2 a0_3)) = some r := h
  clear h
  have HC2 := Aside0.mk H
  clear H
  go_enter Try.func88, Try.ntmps88
  go_upto_region 1 with (first | ((with_reducible refine gate_dst (N := 1) rfl ?_); refine box_event ?hg (N := 1) ?hd (cs := #[.int .i64 a0_0, .int .i64 a0_1, .int .i64 a0_2, .int .i64 a0_3]) (t := 52) ?hr ?_; (case hd => rfl); (case hg => rfl); (case hr => first | (go_simp; done) | (go_simp; rfl)); intro gb212 hg w3 hbox hb; have n0_ := Aside0.mk (below_step (by repeat (first | (with_reducible first | exact HB.out | apply below_alloc | apply pw_below_drewN | apply below_drew1) | exact HB.out)) hb); have n1_ := Aside0.mk (hbox); have n2_ := Aside0.mk ((by rw [hg]; exact (below_size (by repeat (first | (with_reducible first | exact HB.out | apply below_alloc | apply pw_below_drewN | apply below_drew1) | exact HB.out))) : w.heap.size ≤ gb212)); have n3_ := Aside0.mk ((by rw [hg]; exact (below_size (by repeat (first | (with_reducible first | exact HB.out | apply below_alloc | apply pw_below_drewN | apply below_drew1) | exact HB.out))) : w.heap.size ≤ gb212)); clear HB; have HB := n0_; have BK212 := n1_; have GW212 := n2_; have GE212 := n3_; clear n0_ n1_ n2_ n3_; clear hb hbox hg))
  (try simp only [Act.put, List.setIfInBounds_toArray, List.set_cons_zero, List.set_cons_succ])
  go_cut [10] (fun v10 wc => ∃ (kq : Nat) (x10_1 : Bool), v10 = .bool x10_1 ∧ Aside0 (impl_TotalValid.j0 kq x10_1 a0_0 a0_1 a0_2 a0_3 = some r) ∧ Aside0 (kq ≤ k) ∧ Aside0 (wc.heap[gb212]? = some (.cells #[.int .i64 a0_0, .int .i64 a0_1, .int .i64 a0_2, .int .i64 a0_3] 52 (0, 0))) ∧ Aside0 (Below w.heap.size w wc))
  case first =>
    have H := HC2.out
    clear HC2
    by_cases c4 : a0_0 < 0
    · rw [if_pos c4] at H
      have c4b0 : decide (a0_0 < 0) = true := decide_eq_true c4
      clear c4
      (first | rw [c4b0] | (simp only [i64_w, i32_w]; rw [c4b0]) | skip)
      have H' := Aside0.mk H
      clear H
      have hcz5_0 : w3.cell? ⟨gb212, 0, none⟩ = some (.int .i64 a0_0) := (blk_cell BK212.out 0).trans rfl
      have hcz5_1 : w3.cell? ⟨gb212, 1, none⟩ = some (.int .i64 a0_1) := (blk_cell BK212.out 1).trans rfl
      have hcz5_2 : w3.cell? ⟨gb212, 2, none⟩ = some (.int .i64 a0_2) := (blk_cell BK212.out 2).trans rfl
      have hcz5_3 : w3.cell? ⟨gb212, 3, none⟩ = some (.int .i64 a0_3) := (blk_cell BK212.out 3).trans rfl
      have hfz5_0 := blk_frozen BK212.out 0
      have hfz5_1 := blk_frozen BK212.out 1
      have hfz5_2 := blk_frozen BK212.out 2
      have hfz5_3 := blk_frozen BK212.out 3
      go_wp2
      go_meet
      case rel => exact ⟨_, (true), (by first | rfl | (simp; done) | (simp [*]; done)), H', ⟨by first | omega | exact Nat.le_refl _⟩, ⟨by (with_reducible repeat (first | refine blk_drewN ?_ _ | refine blk_drew ?_ | refine blk_alloc ?_ _)); exact BK212.out⟩, ⟨by repeat (first | (with_reducible first | exact HB.out | apply below_alloc | apply pw_below_drewN | apply below_drew1 | refine below_set ?_ GE212.out) | exact HB.out)⟩⟩
    · rw [if_neg c4] at H
      have c4b0 : decide (a0_0 < 0) = false := decide_eq_false c4
      clear c4
      (first | rw [c4b0] | (simp only [i64_w, i32_w]; rw [c4b0]) | skip)
      have H' := Aside0.mk H
      clear H
      have hcz6_0 : w3.cell? ⟨gb212, 0, none⟩ = some (.int .i64 a0_0) := (blk_cell BK212.out 0).trans rfl
      have hcz6_1 : w3.cell? ⟨gb212, 1, none⟩ = some (.int .i64 a0_1) := (blk_cell BK212.out 1).trans rfl
      have hcz6_2 : w3.cell? ⟨gb212, 2, none⟩ = some (.int .i64 a0_2) := (blk_cell BK212.out 2).trans rfl
      have hcz6_3 : w3.cell? ⟨gb212, 3, none⟩ = some (.int .i64 a0_3) := (blk_cell BK212.out 3).trans rfl
      have hfz6_0 := blk_frozen BK212.out 0
      have hfz6_1 := blk_frozen BK212.out 1
      have hfz6_2 := blk_frozen BK212.out 2
      have hfz6_3 := blk_frozen BK212.out 3
      go_wp2
      go_meet
      case rel => exact ⟨_, (decide (a0_0 > 16)), (by first | rfl | (simp; done) | (simp [*]; done)), H', ⟨by first | omega | exact Nat.le_refl _⟩, ⟨by (with_reducible repeat (first | refine blk_drewN ?_ _ | refine blk_drew ?_ | refine blk_alloc ?_ _)); exact BK212.out⟩, ⟨by repeat (first | (with_reducible first | exact HB.out | apply below_alloc | apply pw_below_drewN | apply below_drew1 | refine below_set ?_ GE212.out) | exact HB.out)⟩⟩
  case rest =>
    clear HC2
    try clear p2
    try clear c4
    try clear c4b0
    try clear hcz5_0
    try clear hcz5_1
    try clear hcz5_2
    try clear hcz5_3
    try clear hcz6_0
    try clear hcz6_1
    try clear hcz6_2
    try clear hcz6_3
    try clear hfz5_0
    try clear hfz5_1
    try clear hfz5_2
    try clear hfz5_3
    try clear hfz6_0
    try clear hfz6_1
    try clear hfz6_2
    try clear hfz6_3
    obtain ⟨kq, x10_1, rfl, HA, HJ1, BK212, HB⟩ := hcut
    cases kq with
    | zero => exact absurd HA.out (by simp [impl_TotalValid.j0])
    | succ kj1 =>
      have H := HA.out
      clear HA
      simp only [impl_TotalValid.j0] at H
      by_cases c7 : x10_1 = true
      · subst c7
        have H1 : (some false) = some r := by rw [if_pos rfl] at H; exact H
        clear H
        have H := H1
        clear H1
        obtain rfl := Option.some.inj H
        go_wp2
        go_ret
        exact ⟨by first | rfl | (simp [errW_none, errW_some] <;> rfl) | (simp [*, errW_none, errW_some] <;> rfl), by repeat (first | (with_reducible first | exact HB.out | apply below_alloc | apply pw_below_drewN | apply below_drew1 | refine below_set ?_ GE212.out) | exact HB.out)⟩
      · replace c7 := Bool.eq_false_iff.mpr c7
        subst c7
        have H1 : (if a0_0 = 0 then ((impl_noTotal.f).bind fun bt213 => (some (a0_0 == bt213.1 && (a0_1 == bt213.2.1 && (a0_2 == bt213.2.2.1 && (a0_3 == bt213.2.2.2)))))) else (if a0_2 < 0 then (some false) else (if a0_2 > a0_3 then (some false) else (if a0_3 ≥ 1000000 then (some false) else (if a0_1 ≥ (wrap64 (a0_0 * a0_2)) then (some (decide (a0_1 ≤ (wrap64 (a0_0 * a0_3))))) else (some false)))))) = some r := by rw [if_neg (show ¬ (false = true) by decide)] at H; exact H
        clear H
        have H := H1
        clear H1
        by_cases c8 : a0_0 = 0
        · rw [if_pos c8] at H
          have c8b0 : (a0_0 == 0) = true := beq_iff_eq.mpr c8
          have c8b1 : (a0_0 != 0) = false := bne_eq_false_iff_eq.mpr c8
          clear c8
          replace H := Option.bind_eq_some_iff.mp H
          obtain ⟨⟨t213, t214, t215, t216⟩, A90, H⟩ := H
          replace H : (some (a0_0 == t213 && (a0_1 == t214 && (a0_2 == t215 && (a0_3 == t216))))) = some r := H
          have A9 := Aside0.mk A90
          clear A90
          obtain rfl := Option.some.inj H
          have hcz10_0 : wc.cell? ⟨gb212, 0, none⟩ = some (.int .i64 a0_0) := (blk_cell BK212.out 0).trans rfl
          have hcz10_1 : wc.cell? ⟨gb212, 1, none⟩ = some (.int .i64 a0_1) := (blk_cell BK212.out 1).trans rfl
          have hcz10_2 : wc.cell? ⟨gb212, 2, none⟩ = some (.int .i64 a0_2) := (blk_cell BK212.out 2).trans rfl
          have hcz10_3 : wc.cell? ⟨gb212, 3, none⟩ = some (.int .i64 a0_3) := (blk_cell BK212.out 3).trans rfl
          have hfz10_0 := blk_frozen BK212.out 0
          have hfz10_1 := blk_frozen BK212.out 1
          have hfz10_2 := blk_frozen BK212.out 2
          have hfz10_3 := blk_frozen BK212.out 3
          try go_wp2
          have n0_ := Aside0.mk (blk_drew BK212.out)
          have n1_ := Aside0.mk (below_drew1 HB.out)
          clear BK212
          clear HB
          have BK212 := n0_
          have HB := n1_
          clear n0_ n1_
          refine start_ (n := 4) (S := fun w' => w'.cell? ⟨gb212, 0, none⟩ = some (.int .i64 a0_0) ∧ w'.cell? ⟨gb212, 1, none⟩ = some (.int .i64 a0_1) ∧ w'.cell? ⟨gb212, 2, none⟩ = some (.int .i64 a0_2) ∧ w'.cell? ⟨gb212, 3, none⟩ = some (.int .i64 a0_3)) (ds := []) #[false, false, false, false] (by kernel_rfl) rfl rfl ⟨(blk_cell BK212.out 0).trans rfl, (blk_cell BK212.out 1).trans rfl, (blk_cell BK212.out 2).trans rfl, (blk_cell BK212.out 3).trans rfl⟩ (fun hHeld => ?_)
          generalize wc.drew = w11 at BK212 HB hHeld ⊢
          refine take_ (i := 0) (N := some 14) (v := ?_) (a' := ?_) #[true, false, false, false] rfl rfl (by kernel_rfl) (fun _ _ _ h => h) (Or.inl ⟨by rfl, ?_⟩) hHeld ?_ ?_
          rotate_left
          · rintro w' ⟨s0, s1, s2, s3⟩
            go_simp
            with_reducible rfl
          rotate_left
          · simp only [Act.put, List.setIfInBounds_toArray, List.set_cons_zero, List.set_cons_succ, i64_w, i32_w]
            rfl
          refine one_ (i := 1) (N := some 15) #[true, true, false, false] rfl rfl (by kernel_rfl) (by decide) (fun K hK => ?_)
          refine goes_ Try.func78 (by kernel_rfl) rfl #[] (by rfl) rfl rfl (by (try simp only [List.map_toArray, List.map_cons, List.map_nil]); first | done | rfl | (simp only [List.length_drop, List.length_take]; rfl)) ?_
          with_reducible refine (impl_noTotal.calls  t213 t214 t215 t216 _ A9.out).mono ?_
          rintro e w12 ⟨rfl, hb⟩
          refine ⟨_, rfl, ?_⟩
          have n0_ := Aside0.mk (blk_below (g := gb212) (o := .cells #[.int .i64 a0_0, .int .i64 a0_1, .int .i64 a0_2, .int .i64 a0_3] 52 (0, 0)) (by (with_reducible repeat (first | refine blk_drewN ?_ _ | refine blk_drew ?_ | refine blk_alloc ?_ _)); exact BK212.out) hb)
          have n1_ := Aside0.mk (below_step (by repeat (first | (with_reducible first | exact HB.out | apply below_alloc | apply pw_below_drewN | apply below_drew1 | refine below_set ?_ GE212.out) | exact HB.out)) hb)
          clear BK212
          clear HB
          have BK212 := n0_
          have HB := n1_
          clear n0_ n1_
          (try clear hb)
          (try clear hb2)
          (try clear hk)
          (try clear hi)
          refine hK.out _ _ ⟨(blk_cell BK212.out 0).trans rfl, (blk_cell BK212.out 1).trans rfl, (blk_cell BK212.out 2).trans rfl, (blk_cell BK212.out 3).trans rfl⟩ (fun hHeld => ?_)
          clear hK K
          refine norm_ (a' := ?_) ?_ ?_
          rotate_left
          · show Act.put _ (some 15) _ = _
            simp only [Act.put, List.setIfInBounds_toArray, List.set_cons_zero, List.set_cons_succ, i64_w, i32_w]
            rfl
          refine pure_ (i := 2) (N := some 16) (v := ?_) (a' := ?_) #[true, true, true, false] rfl rfl (by kernel_rfl) (fun _ _ _ h => h) (Or.inl ⟨by rfl, ?_⟩) ?_ ?_
          rotate_left
          · intro w'
            go_simp
            with_reducible rfl
          rotate_left
          · simp only [Act.put, List.setIfInBounds_toArray, List.set_cons_zero, List.set_cons_succ, i64_w, i32_w]
            rfl
          refine pure_ (i := 3) (N := some 2) (v := ?_) (a' := ?_) #[true, true, true, true] rfl rfl (by kernel_rfl) (fun _ _ _ h => h) (Or.inl ⟨by rfl, ?_⟩) ?_ ?_
          rotate_left
          · intro w'
            go_simp
            with_reducible rfl
          rotate_left
          · simp only [Act.put, List.setIfInBounds_toArray, List.set_cons_zero, List.set_cons_succ, i64_w, i32_w]
            rfl
          refine done_ (by kernel_rfl) ?_
          try go_wp2
          go_ret
          exact ⟨by first | rfl | (simp [errW_none, errW_some] <;> rfl) | (simp [*, errW_none, errW_some] <;> rfl), by repeat (first | (with_reducible first | exact HB.out | apply below_alloc | apply pw_below_drewN | apply below_drew1 | refine below_set ?_ GE212.out) | exact HB.out)⟩
        · rw [if_neg c8] at H
          have c8b0 : (a0_0 == 0) = false := beq_eq_false_iff_ne.mpr c8
          have c8b1 : (a0_0 != 0) = true := bne_iff_ne.mpr c8
          by_cases c13 : a0_2 < 0
          · rw [if_pos c13] at H
            have c13b0 : decide (a0_2 < 0) = true := decide_eq_true c13
            clear c13
            obtain rfl := Option.some.inj H
            have hcz14_0 : wc.cell? ⟨gb212, 0, none⟩ = some (.int .i64 a0_0) := (blk_cell BK212.out 0).trans rfl
            have hcz14_1 : wc.cell? ⟨gb212, 1, none⟩ = some (.int .i64 a0_1) := (blk_cell BK212.out 1).trans rfl
            have hcz14_2 : wc.cell? ⟨gb212, 2, none⟩ = some (.int .i64 a0_2) := (blk_cell BK212.out 2).trans rfl
            have hcz14_3 : wc.cell? ⟨gb212, 3, none⟩ = some (.int .i64 a0_3) := (blk_cell BK212.out 3).trans rfl
            have hfz14_0 := blk_frozen BK212.out 0
            have hfz14_1 := blk_frozen BK212.out 1
            have hfz14_2 := blk_frozen BK212.out 2
            have hfz14_3 := blk_frozen BK212.out 3
            go_wp2
            go_ret
            exact ⟨by first | rfl | (simp [errW_none, errW_some] <;> rfl) | (simp [*, errW_none, errW_some] <;> rfl), by repeat (first | (with_reducible first | exact HB.out | apply below_alloc | apply pw_below_drewN | apply below_drew1 | refine below_set ?_ GE212.out) | exact HB.out)⟩
          · rw [if_neg c13] at H
            have c13b0 : decide (a0_2 < 0) = false := decide_eq_false c13
            clear c13
            by_cases c15 : a0_2 > a0_3
            · rw [if_pos c15] at H
              have c15b0 : decide (a0_3 < a0_2) = true := decide_eq_true c15
              clear c15
              obtain rfl := Option.some.inj H
              have hcz16_0 : wc.cell? ⟨gb212, 0, none⟩ = some (.int .i64 a0_0) := (blk_cell BK212.out 0).trans rfl
              have hcz16_1 : wc.cell? ⟨gb212, 1, none⟩ = some (.int .i64 a0_1) := (blk_cell BK212.out 1).trans rfl
              have hcz16_2 : wc.cell? ⟨gb212, 2, none⟩ = some (.int .i64 a0_2) := (blk_cell BK212.out 2).trans rfl
              have hcz16_3 : wc.cell? ⟨gb212, 3, none⟩ = some (.int .i64 a0_3) := (blk_cell BK212.out 3).trans rfl
              have hfz16_0 := blk_frozen BK212.out 0
              have hfz16_1 := blk_frozen BK212.out 1
              have hfz16_2 := blk_frozen BK212.out 2
              have hfz16_3 := blk_frozen BK212.out 3
              go_wp2
              go_ret
              exact ⟨by first | rfl | (simp [errW_none, errW_some] <;> rfl) | (simp [*, errW_none, errW_some] <;> rfl), by repeat (first | (with_reducible first | exact HB.out | apply below_alloc | apply pw_below_drewN | apply below_drew1 | refine below_set ?_ GE212.out) | exact HB.out)⟩
            · rw [if_neg c15] at H
              have c15b0 : decide (a0_3 < a0_2) = false := decide_eq_false c15
              clear c15
              by_cases c17 : a0_3 ≥ 1000000
              · rw [if_pos c17] at H
                have c17b0 : decide (1000000 ≤ a0_3) = true := decide_eq_true c17
                clear c17
                obtain rfl := Option.some.inj H
                have hcz18_0 : wc.cell? ⟨gb212, 0, none⟩ = some (.int .i64 a0_0) := (blk_cell BK212.out 0).trans rfl
                have hcz18_1 : wc.cell? ⟨gb212, 1, none⟩ = some (.int .i64 a0_1) := (blk_cell BK212.out 1).trans rfl
                have hcz18_2 : wc.cell? ⟨gb212, 2, none⟩ = some (.int .i64 a0_2) := (blk_cell BK212.out 2).trans rfl
                have hcz18_3 : wc.cell? ⟨gb212, 3, none⟩ = some (.int .i64 a0_3) := (blk_cell BK212.out 3).trans rfl
                have hfz18_0 := blk_frozen BK212.out 0
                have hfz18_1 := blk_frozen BK212.out 1
                have hfz18_2 := blk_frozen BK212.out 2
                have hfz18_3 := blk_frozen BK212.out 3
                go_wp2
                go_ret
                exact ⟨by first | rfl | (simp [errW_none, errW_some] <;> rfl) | (simp [*, errW_none, errW_some] <;> rfl), by repeat (first | (with_reducible first | exact HB.out | apply below_alloc | apply pw_below_drewN | apply below_drew1 | refine below_set ?_ GE212.out) | exact HB.out)⟩
              · rw [if_neg c17] at H
                have c17b0 : decide (1000000 ≤ a0_3) = false := decide_eq_false c17
                clear c17
                by_cases c19 : a0_1 ≥ (wrap64 (a0_0 * a0_2))
                · rw [if_pos c19] at H
                  have c19b0 : decide ((wrap64 (a0_0 * a0_2)) ≤ a0_1) = true := decide_eq_true c19
                  clear c19
                  obtain rfl := Option.some.inj H
                  have hcz20_0 : wc.cell? ⟨gb212, 0, none⟩ = some (.int .i64 a0_0) := (blk_cell BK212.out 0).trans rfl
                  have hcz20_1 : wc.cell? ⟨gb212, 1, none⟩ = some (.int .i64 a0_1) := (blk_cell BK212.out 1).trans rfl
                  have hcz20_2 : wc.cell? ⟨gb212, 2, none⟩ = some (.int .i64 a0_2) := (blk_cell BK212.out 2).trans rfl
                  have hcz20_3 : wc.cell? ⟨gb212, 3, none⟩ = some (.int .i64 a0_3) := (blk_cell BK212.out 3).trans rfl
                  have hfz20_0 := blk_frozen BK212.out 0
                  have hfz20_1 := blk_frozen BK212.out 1
                  have hfz20_2 := blk_frozen BK212.out 2
                  have hfz20_3 := blk_frozen BK212.out 3
                  go_wp2
                  go_ret
                  exact ⟨by first | rfl | (simp [errW_none, errW_some] <;> rfl) | (simp [*, errW_none, errW_some] <;> rfl), by repeat (first | (with_reducible first | exact HB.out | apply below_alloc | apply pw_below_drewN | apply below_drew1 | refine below_set ?_ GE212.out) | exact HB.out)⟩
                · rw [if_neg c19] at H
                  have c19b0 : decide ((wrap64 (a0_0 * a0_2)) ≤ a0_1) = false := decide_eq_false c19
                  clear c19
                  obtain rfl := Option.some.inj H
                  have hcz21_0 : wc.cell? ⟨gb212, 0, none⟩ = some (.int .i64 a0_0) := (blk_cell BK212.out 0).trans rfl
                  have hcz21_1 : wc.cell? ⟨gb212, 1, none⟩ = some (.int .i64 a0_1) := (blk_cell BK212.out 1).trans rfl
                  have hcz21_2 : wc.cell? ⟨gb212, 2, none⟩ = some (.int .i64 a0_2) := (blk_cell BK212.out 2).trans rfl
                  have hcz21_3 : wc.cell? ⟨gb212, 3, none⟩ = some (.int .i64 a0_3) := (blk_cell BK212.out 3).trans rfl
                  have hfz21_0 := blk_frozen BK212.out 0
                  have hfz21_1 := blk_frozen BK212.out 1
                  have hfz21_2 := blk_frozen BK212.out 2
                  have hfz21_3 := blk_frozen BK212.out 3
                  go_wp2
                  go_ret
                  exact ⟨by first | rfl | (simp [errW_none, errW_some] <;> rfl) | (simp [*, errW_none, errW_some] <;> rfl), by repeat (first | (with_reducible first | exact HB.out | apply below_alloc | apply pw_below_drewN | apply below_drew1 | refine below_set ?_ GE212.out) | exact HB.out)⟩

/-! ### impl_Total_joined: function 89 -/
def impl_Total_joined.f (a0_0 : Int) (a0_1 : Int) (a0_2 : Int) (a0_3 : Int) (a1_0 : Int) (a1_1 : Int) (a1_2 : Int) (a1_3 : Int) : Option (Int × Int × Int × Int) := if a0_0 = 0 then (some (a1_0, a1_1, a1_2, a1_3)) else (if a1_0 = 0 then (some (a0_0, a0_1, a0_2, a0_3)) else (some (wrap64 (a0_0 + a1_0), wrap64 (a0_1 + a1_1), mn a0_2 a1_2, mx a0_3 a1_3)))
set_option maxHeartbeats 8000000 in
set_option maxRecDepth 100000 in
theorem impl_Total_joined.calls (a0_0 : Int) (a0_1 : Int) (a0_2 : Int) (a0_3 : Int) (a1_0 : Int) (a1_1 : Int) (a1_2 : Int) (a1_3 : Int) (r1 : Int) (r2 : Int) (r3 : Int) (r4 : Int) (w : World) (h : impl_Total_joined.f a0_0 a0_1 a0_2 a0_3 a1_0 a1_1 a1_2 a1_3 = some (r1, r2, r3, r4)) :
    Calls Try.prog 89 #[.agg #[.int .i64 a0_0, .int .i64 a0_1, .int .i64 a0_2, .int .i64 a0_3], .agg #[.int .i64 a1_0, .int .i64 a1_1, .int .i64 a1_2, .int .i64 a1_3]] w fun e w' => e = .returned (.agg #[.int .i64 r1, .int .i64 r2, .int .i64 r3, .int .i64 r4]) ∧ Below w.heap.size w w' := by
  have hu52 := Try.underlying52
  have HB := Aside0.mk (Below.refl w.heap.size w)
  have H : (if a0_0 = 0 then (some (a1_0, a1_1, a1_2, a1_3)) else (if a1_0 = 0 then (some (a0_0, a0_1, a0_2, a0_3)) else (some (wrap64 (a0_0 + a1_0), wrap64 (a0_1 + a1_1), mn a0_2 a1_2, mx a0_3 a1_3)))) = some (r1, r2, r3, r4) := h
  clear h
  by_cases c3 : a0_0 = 0
  · rw [if_pos c3] at H
    have c3b0 : (a0_0 == 0) = true := beq_iff_eq.mpr c3
    have c3b1 : (a0_0 != 0) = false := bne_eq_false_iff_eq.mpr c3
    clear c3
    simp only [Option.some.injEq, Prod.mk.injEq] at H
    obtain ⟨rfl, rfl, rfl, rfl⟩ := H
    go_enter Try.func89, Try.ntmps89
    go_wp2_with (first | ((with_reducible refine gate_dst (N := 2) rfl ?_); refine box_event ?hg (N := 2) ?hd (cs := #[.int .i64 a0_0, .int .i64 a0_1, .int .i64 a0_2, .int .i64 a0_3]) (t := 52) ?hr ?_; (case hd => rfl); (case hg => rfl); (case hr => first | (go_simp; done) | (go_simp; rfl)); intro gb217 hg w4 hbox hb; have n0_ := Aside0.mk (below_step (by repeat (first | (with_reducible first | exact HB.out | apply below_alloc | apply pw_below_drewN | apply below_drew1) | exact HB.out)) hb); have n1_ := Aside0.mk (hbox); have n2_ := Aside0.mk ((by rw [hg]; exact (below_size (by repeat (first | (with_reducible first | exact HB.out | apply below_alloc | apply pw_below_drewN | apply below_drew1) | exact HB.out))) : w.heap.size ≤ gb217)); have n3_ := Aside0.mk ((by rw [hg]; exact (below_size (by repeat (first | (with_reducible first | exact HB.out | apply below_alloc | apply pw_below_drewN | apply below_drew1) | exact HB.out))) : w.heap.size ≤ gb217)); clear HB; have HB := n0_; have BK217 := n1_; have GW217 := n2_; have GE217 := n3_; clear n0_ n1_ n2_ n3_; clear hb hbox hg) | ((with_reducible refine gate_dst (N := 3) rfl ?_); refine box_event ?hg (N := 3) ?hd (cs := #[.int .i64 a1_0, .int .i64 a1_1, .int .i64 a1_2, .int .i64 a1_3]) (t := 52) ?hr ?_; (case hd => rfl); (case hg => rfl); (case hr => first | (go_simp; done) | (go_simp; rfl)); intro gb218 hg w5 hbox hb; have n0_ := Aside0.mk (blk_below (g := gb217) (o := .cells #[.int .i64 a0_0, .int .i64 a0_1, .int .i64 a0_2, .int .i64 a0_3] 52 (0, 0)) (by (with_reducible repeat (first | refine blk_drewN ?_ _ | refine blk_drew ?_ | refine blk_alloc ?_ _)); exact BK217.out) hb); have n1_ := Aside0.mk (below_step (by repeat (first | (with_reducible first | exact HB.out | apply below_alloc | apply pw_below_drewN | apply below_drew1 | refine below_set ?_ GE217.out) | exact HB.out)) hb); have n2_ := Aside0.mk (hbox); have n3_ := Aside0.mk ((by rw [hg]; exact (below_size (by repeat (first | (with_reducible first | exact HB.out | apply below_alloc | apply pw_below_drewN | apply below_drew1 | refine below_set ?_ GE217.out) | exact HB.out))) : w.heap.size ≤ gb218)); have n4_ := Aside0.mk ((by rw [hg]; exact (below_size (by repeat (first | (with_reducible first | exact HB.out | apply below_alloc | apply pw_below_drewN | apply below_drew1 | refine below_set ?_ GE217.out) | exact HB.out))) : w.heap.size ≤ gb218)); have n5_ := Aside0.mk ((by rw [hg]; exact Nat.ne_of_lt (blk_lt (g := gb217) (o := .cells #[.int .i64 a0_0, .int .i64 a0_1, .int .i64 a0_2, .int .i64 a0_3] 52 (0, 0)) (by (with_reducible repeat (first | refine blk_drewN ?_ _ | refine blk_drew ?_ | refine blk_alloc ?_ _)); exact BK217.out)) : gb217 ≠ gb218)); have n6_ := Aside0.mk ((by rw [hg]; exact Nat.ne_of_gt (blk_lt (g := gb217) (o := .cells #[.int .i64 a0_0, .int .i64 a0_1, .int .i64 a0_2, .int .i64 a0_3] 52 (0, 0)) (by (with_reducible repeat (first | refine blk_drewN ?_ _ | refine blk_drew ?_ | refine blk_alloc ?_ _)); exact BK217.out)) : gb218 ≠ gb217)); clear BK217; clear HB; have BK217 := n0_; have HB := n1_; have BK218 := n2_; have GW218 := n3_; have GE218 := n4_; have NB217_218 := n5_; have NB218_217 := n6_; clear n0_ n1_ n2_ n3_ n4_ n5_ n6_; clear hb hbox hg) | ((with_reducible refine gate_dst (N := 4) rfl ?_); refine box_event ?hg (N := 4) ?hd (cs := #[.int .i64 0, .int .i64 0, .int .i64 0, .int .i64 0]) (t := 52) ?hr ?_; (case hd => rfl); (case hg => rfl); (case hr => first | (go_simp; done) | (go_simp; rfl)); intro gb219 hg w6 hbox hb; have n0_ := Aside0.mk (blk_below (g := gb217) (o := .cells #[.int .i64 a0_0, .int .i64 a0_1, .int .i64 a0_2, .int .i64 a0_3] 52 (0, 0)) (by (with_reducible repeat (first | refine blk_drewN ?_ _ | refine blk_drew ?_ | refine blk_alloc ?_ _)); exact BK217.out) hb); have n1_ := Aside0.mk (blk_below (g := gb218) (o := .cells #[.int .i64 a1_0, .int .i64 a1_1, .int .i64 a1_2, .int .i64 a1_3] 52 (0, 0)) (by (with_reducible repeat (first | refine blk_drewN ?_ _ | refine blk_drew ?_ | refine blk_alloc ?_ _)); exact BK218.out) hb); have n2_ := Aside0.mk (below_step (by repeat (first | (with_reducible first | exact HB.out | apply below_alloc | apply pw_below_drewN | apply below_drew1 | refine below_set ?_ GE217.out | refine below_set ?_ GE218.out) | exact HB.out)) hb); have n3_ := Aside0.mk (hbox); have n4_ := Aside0.mk ((by rw [hg]; exact (below_size (by repeat (first | (with_reducible first | exact HB.out | apply below_alloc | apply pw_below_drewN | apply below_drew1 | refine below_set ?_ GE217.out | refine below_set ?_ GE218.out) | exact HB.out))) : w.heap.size ≤ gb219)); have n5_ := Aside0.mk ((by rw [hg]; exact (below_size (by repeat (first | (with_reducible first | exact HB.out | apply below_alloc | apply pw_below_drewN | apply below_drew1 | refine below_set ?_ GE217.out | refine below_set ?_ GE218.out) | exact HB.out))) : w.heap.size ≤ gb219)); have n6_ := Aside0.mk ((by rw [hg]; exact Nat.ne_of_lt (blk_lt (g := gb217) (o := .cells #[.int .i64 a0_0, .int .i64 a0_1, .int .i64 a0_2, .int .i64 a0_3] 52 (0, 0)) (by (with_reducible repeat (first | refine blk_drewN ?_ _ | refine blk_drew ?_ | refine blk_alloc ?_ _)); exact BK217.out)) : gb217 ≠ gb219)); have n7_ := Aside0.mk ((by rw [hg]; exact Nat.ne_of_gt (blk_lt (g := gb217) (o := .cells #[.int .i64 a0_0, .int .i64 a0_1, .int .i64 a0_2, .int .i64 a0_3] 52 (0, 0)) (by (with_reducible repeat (first | refine blk_drewN ?_ _ | refine blk_drew ?_ | refine blk_alloc ?_ _)); exact BK217.out)) : gb219 ≠ gb217)); have n8_ := Aside0.mk ((by rw [hg]; exact Nat.ne_of_lt (blk_lt (g := gb218) (o := .cells #[.int .i64 a1_0, .int .i64 a1_1, .int .i64 a1_2, .int .i64 a1_3] 52 (0, 0)) (by (with_reducible repeat (first | refine blk_drewN ?_ _ | refine blk_drew ?_ | refine blk_alloc ?_ _)); exact BK218.out)) : gb218 ≠ gb219)); have n9_ := Aside0.mk ((by rw [hg]; exact Nat.ne_of_gt (blk_lt (g := gb218) (o := .cells #[.int .i64 a1_0, .int .i64 a1_1, .int .i64 a1_2, .int .i64 a1_3] 52 (0, 0)) (by (with_reducible repeat (first | refine blk_drewN ?_ _ | refine blk_drew ?_ | refine blk_alloc ?_ _)); exact BK218.out)) : gb219 ≠ gb218)); clear BK217; clear BK218; clear HB; have BK217 := n0_; have BK218 := n1_; have HB := n2_; have BK219 := n3_; have GW219 := n4_; have GE219 := n5_; have NB217_219 := n6_; have NB219_217 := n7_; have NB218_219 := n8_; have NB219_218 := n9_; clear n0_ n1_ n2_ n3_ n4_ n5_ n6_ n7_ n8_ n9_; clear hb hbox hg; have hnb7 := NB217_218.out; have hnc7 := NB218_217.out; have hnb8 := NB217_219.out; have hnc8 := NB219_217.out; have hcz9_0 : w6.cell? ⟨gb217, 0, none⟩ = some (.int .i64 a0_0) := (blk_cell BK217.out 0).trans rfl; have hcz9_1 : w6.cell? ⟨gb217, 1, none⟩ = some (.int .i64 a0_1) := (blk_cell BK217.out 1).trans rfl; have hcz9_2 : w6.cell? ⟨gb217, 2, none⟩ = some (.int .i64 a0_2) := (blk_cell BK217.out 2).trans rfl; have hcz9_3 : w6.cell? ⟨gb217, 3, none⟩ = some (.int .i64 a0_3) := (blk_cell BK217.out 3).trans rfl; have hfz9_0 := blk_frozen BK217.out 0; have hfz9_1 := blk_frozen BK217.out 1; have hfz9_2 := blk_frozen BK217.out 2; have hfz9_3 := blk_frozen BK217.out 3; have hnb10 := NB218_219.out; have hnc10 := NB219_218.out; have hcz11_0 : w6.cell? ⟨gb218, 0, none⟩ = some (.int .i64 a1_0) := (blk_cell BK218.out 0).trans rfl; have hcz11_1 : w6.cell? ⟨gb218, 1, none⟩ = some (.int .i64 a1_1) := (blk_cell BK218.out 1).trans rfl; have hcz11_2 : w6.cell? ⟨gb218, 2, none⟩ = some (.int .i64 a1_2) := (blk_cell BK218.out 2).trans rfl; have hcz11_3 : w6.cell? ⟨gb218, 3, none⟩ = some (.int .i64 a1_3) := (blk_cell BK218.out 3).trans rfl; have hfz11_0 := blk_frozen BK218.out 0; have hfz11_1 := blk_frozen BK218.out 1; have hfz11_2 := blk_frozen BK218.out 2; have hfz11_3 := blk_frozen BK218.out 3; have hcz12_0 : w6.cell? ⟨gb219, 0, none⟩ = some (.int .i64 0) := (blk_cell BK219.out 0).trans rfl; have hcz12_1 : w6.cell? ⟨gb219, 1, none⟩ = some (.int .i64 0) := (blk_cell BK219.out 1).trans rfl; have hcz12_2 : w6.cell? ⟨gb219, 2, none⟩ = some (.int .i64 0) := (blk_cell BK219.out 2).trans rfl; have hcz12_3 : w6.cell? ⟨gb219, 3, none⟩ = some (.int .i64 0) := (blk_cell BK219.out 3).trans rfl; have hfz12_0 := blk_frozen BK219.out 0; have hfz12_1 := blk_frozen BK219.out 1; have hfz12_2 := blk_frozen BK219.out 2; have hfz12_3 := blk_frozen BK219.out 3))
    refine bodyPost_ret (results_cell_row rfl _ _ gb219 52 #[.int .i64 a1_0, .int .i64 a1_1, .int .i64 a1_2, .int .i64 a1_3] (0, 0) _ rfl (by (with_reducible repeat (first | refine blk_drewN ?_ _ | refine blk_drew ?_ | refine blk_alloc ?_ _)); refine blk_put (cs := #[.int .i64 a1_0, .int .i64 a1_1, .int .i64 a1_2, .int .i64 0]) ?_ 3 _ rfl; (with_reducible repeat (first | refine blk_drewN ?_ _ | refine blk_drew ?_ | refine blk_alloc ?_ _)); refine blk_put (cs := #[.int .i64 a1_0, .int .i64 a1_1, .int .i64 0, .int .i64 0]) ?_ 2 _ rfl; (with_reducible repeat (first | refine blk_drewN ?_ _ | refine blk_drew ?_ | refine blk_alloc ?_ _)); refine blk_put (cs := #[.int .i64 a1_0, .int .i64 0, .int .i64 0, .int .i64 0]) ?_ 1 _ rfl; (with_reducible repeat (first | refine blk_drewN ?_ _ | refine blk_drew ?_ | refine blk_alloc ?_ _)); refine blk_put (cs := #[.int .i64 0, .int .i64 0, .int .i64 0, .int .i64 0]) ?_ 0 _ rfl; (with_reducible repeat (first | refine blk_drewN ?_ _ | refine blk_drew ?_ | refine blk_alloc ?_ _)); exact BK219.out) Try.underlying52 rfl (by kernel_rfl)) rfl ?_
    exact ⟨by first | rfl | (simp [errW_none, errW_some] <;> rfl) | (simp [*, errW_none, errW_some] <;> rfl), by repeat (first | (with_reducible first | exact HB.out | apply below_alloc | apply pw_below_drewN | apply below_drew1 | refine below_set ?_ GE217.out | refine below_set ?_ GE218.out | refine below_set ?_ GE219.out) | exact HB.out)⟩
  · rw [if_neg c3] at H
    have c3b0 : (a0_0 == 0) = false := beq_eq_false_iff_ne.mpr c3
    have c3b1 : (a0_0 != 0) = true := bne_iff_ne.mpr c3
    by_cases c13 : a1_0 = 0
    · rw [if_pos c13] at H
      have c13b0 : (a1_0 == 0) = true := beq_iff_eq.mpr c13
      have c13b1 : (a1_0 != 0) = false := bne_eq_false_iff_eq.mpr c13
      clear c13
      simp only [Option.some.injEq, Prod.mk.injEq] at H
      obtain ⟨rfl, rfl, rfl, rfl⟩ := H
      go_enter Try.func89, Try.ntmps89
      go_wp2_with (first | ((with_reducible refine gate_dst (N := 2) rfl ?_); refine box_event ?hg (N := 2) ?hd (cs := #[.int .i64 a0_0, .int .i64 a0_1, .int .i64 a0_2, .int .i64 a0_3]) (t := 52) ?hr ?_; (case hd => rfl); (case hg => rfl); (case hr => first | (go_simp; done) | (go_simp; rfl)); intro gb217 hg w14 hbox hb; have n0_ := Aside0.mk (below_step (by repeat (first | (with_reducible first | exact HB.out | apply below_alloc | apply pw_below_drewN | apply below_drew1) | exact HB.out)) hb); have n1_ := Aside0.mk (hbox); have n2_ := Aside0.mk ((by rw [hg]; exact (below_size (by repeat (first | (with_reducible first | exact HB.out | apply below_alloc | apply pw_below_drewN | apply below_drew1) | exact HB.out))) : w.heap.size ≤ gb217)); have n3_ := Aside0.mk ((by rw [hg]; exact (below_size (by repeat (first | (with_reducible first | exact HB.out | apply below_alloc | apply pw_below_drewN | apply below_drew1) | exact HB.out))) : w.heap.size ≤ gb217)); clear HB; have HB := n0_; have BK217 := n1_; have GW217 := n2_; have GE217 := n3_; clear n0_ n1_ n2_ n3_; clear hb hbox hg) | ((with_reducible refine gate_dst (N := 3) rfl ?_); refine box_event ?hg (N := 3) ?hd (cs := #[.int .i64 a1_0, .int .i64 a1_1, .int .i64 a1_2, .int .i64 a1_3]) (t := 52) ?hr ?_; (case hd => rfl); (case hg => rfl); (case hr => first | (go_simp; done) | (go_simp; rfl)); intro gb218 hg w15 hbox hb; have n0_ := Aside0.mk (blk_below (g := gb217) (o := .cells #[.int .i64 a0_0, .int .i64 a0_1, .int .i64 a0_2, .int .i64 a0_3] 52 (0, 0)) (by (with_reducible repeat (first | refine blk_drewN ?_ _ | refine blk_drew ?_ | refine blk_alloc ?_ _)); exact BK217.out) hb); have n1_ := Aside0.mk (below_step (by repeat (first | (with_reducible first | exact HB.out | apply below_alloc | apply pw_below_drewN | apply below_drew1 | refine below_set ?_ GE217.out) | exact HB.out)) hb); have n2_ := Aside0.mk (hbox); have n3_ := Aside0.mk ((by rw [hg]; exact (below_size (by repeat (first | (with_reducible first | exact HB.out | apply below_alloc | apply pw_below_drewN | apply below_drew1 | refine below_set ?_ GE217.out) | exact HB.out))) : w.heap.size ≤ gb218)); have n4_ := Aside0.mk ((by rw [hg]; exact (below_size (by repeat (first | (with_reducible first | exact HB.out | apply below_alloc | apply pw_below_drewN | apply below_drew1 | refine below_set ?_ GE217.out) | exact HB.out))) : w.heap.size ≤ gb218)); have n5_ := Aside0.mk ((by rw [hg]; exact Nat.ne_of_lt (blk_lt (g := gb217) (o := .cells #[.int .i64 a0_0, .int .i64 a0_1, .int .i64 a0_2, .int .i64 a0_3] 52 (0, 0)) (by (with_reducible repeat (first | refine blk_drewN ?_ _ | refine blk_drew ?_ | refine blk_alloc ?_ _)); exact BK217.out)) : gb217 ≠ gb218)); have n6_ := Aside0.mk ((by rw [hg]; exact Nat.ne_of_gt (blk_lt (g := gb217) (o := .cells #[.int .i64 a0_0, .int .i64 a0_1, .int .i64 a0_2, .int .i64 a0_3] 52 (0, 0)) (by (with_reducible repeat (first | refine blk_drewN ?_ _ | refine blk_drew ?_ | refine blk_alloc ?_ _)); exact BK217.out)) : gb218 ≠ gb217)); clear BK217; clear HB; have BK217 := n0_; have HB := n1_; have BK218 := n2_; have GW218 := n3_; have GE218 := n4_; have NB217_218 := n5_; have NB218_217 := n6_; clear n0_ n1_ n2_ n3_ n4_ n5_ n6_; clear hb hbox hg) | ((with_reducible refine gate_dst (N := 4) rfl ?_); refine box_event ?hg (N := 4) ?hd (cs := #[.int .i64 0, .int .i64 0, .int .i64 0, .int .i64 0]) (t := 52) ?hr ?_; (case hd => rfl); (case hg => rfl); (case hr => first | (go_simp; done) | (go_simp; rfl)); intro gb219 hg w16 hbox hb; have n0_ := Aside0.mk (blk_below (g := gb217) (o := .cells #[.int .i64 a0_0, .int .i64 a0_1, .int .i64 a0_2, .int .i64 a0_3] 52 (0, 0)) (by (with_reducible repeat (first | refine blk_drewN ?_ _ | refine blk_drew ?_ | refine blk_alloc ?_ _)); exact BK217.out) hb); have n1_ := Aside0.mk (blk_below (g := gb218) (o := .cells #[.int .i64 a1_0, .int .i64 a1_1, .int .i64 a1_2, .int .i64 a1_3] 52 (0, 0)) (by (with_reducible repeat (first | refine blk_drewN ?_ _ | refine blk_drew ?_ | refine blk_alloc ?_ _)); exact BK218.out) hb); have n2_ := Aside0.mk (below_step (by repeat (first | (with_reducible first | exact HB.out | apply below_alloc | apply pw_below_drewN | apply below_drew1 | refine below_set ?_ GE217.out | refine below_set ?_ GE218.out) | exact HB.out)) hb); have n3_ := Aside0.mk (hbox); have n4_ := Aside0.mk ((by rw [hg]; exact (below_size (by repeat (first | (with_reducible first | exact HB.out | apply below_alloc | apply pw_below_drewN | apply below_drew1 | refine below_set ?_ GE217.out | refine below_set ?_ GE218.out) | exact HB.out))) : w.heap.size ≤ gb219)); have n5_ := Aside0.mk ((by rw [hg]; exact (below_size (by repeat (first | (with_reducible first | exact HB.out | apply below_alloc | apply pw_below_drewN | apply below_drew1 | refine below_set ?_ GE217.out | refine below_set ?_ GE218.out) | exact HB.out))) : w.heap.size ≤ gb219)); have n6_ := Aside0.mk ((by rw [hg]; exact Nat.ne_of_lt (blk_lt (g := gb217) (o := .cells #[.int .i64 a0_0, .int .i64 a0_1, .int .i64 a0_2, .int .i64 a0_3] 52 (0, 0)) (by (with_reducible repeat (first | refine blk_drewN ?_ _ | refine blk_drew ?_ | refine blk_alloc ?_ _)); exact BK217.out)) : gb217 ≠ gb219)); have n7_ := Aside0.mk ((by rw [hg]; exact Nat.ne_of_gt (blk_lt (g := gb217) (o := .cells #[.int .i64 a0_0, .int .i64 a0_1, .int .i64 a0_2, .int .i64 a0_3] 52 (0, 0)) (by (with_reducible repeat (first | refine blk_drewN ?_ _ | refine blk_drew ?_ | refine blk_alloc ?_ _)); exact BK217.out)) : gb219 ≠ gb217)); have n8_ := Aside0.mk ((by rw [hg]; exact Nat.ne_of_lt (blk_lt (g := gb218) (o := .cells #[.int .i64 a1_0, .int .i64 a1_1, .int .i64 a1_2, .int .i64 a1_3] 52 (0, 0)) (by (with_reducible repeat (first | refine blk_drewN ?_ _ | refine blk_drew ?_ | refine blk_alloc ?_ _)); exact BK218.out)) : gb218 ≠ gb219)); have n9_ := Aside0.mk ((by rw [hg]; exact Nat.ne_of_gt (blk_lt (g := gb218) (o := .cells #[.int .i64 a1_0, .int .i64 a1_1, .int .i64 a1_2, .int .i64 a1_3] 52 (0, 0)) (by (with_reducible repeat (first | refine blk_drewN ?_ _ | refine blk_drew ?_ | refine blk_alloc ?_ _)); exact BK218.out)) : gb219 ≠ gb218)); clear BK217; clear BK218; clear HB; have BK217 := n0_; have BK218 := n1_; have HB := n2_; have BK219 := n3_; have GW219 := n4_; have GE219 := n5_; have NB217_219 := n6_; have NB219_217 := n7_; have NB218_219 := n8_; have NB219_218 := n9_; clear n0_ n1_ n2_ n3_ n4_ n5_ n6_ n7_ n8_ n9_; clear hb hbox hg; have hnb17 := NB217_218.out; have hnc17 := NB218_217.out; have hnb18 := NB217_219.out; have hnc18 := NB219_217.out; have hcz19_0 : w16.cell? ⟨gb217, 0, none⟩ = some (.int .i64 a0_0) := (blk_cell BK217.out 0).trans rfl; have hcz19_1 : w16.cell? ⟨gb217, 1, none⟩ = some (.int .i64 a0_1) := (blk_cell BK217.out 1).trans rfl; have hcz19_2 : w16.cell? ⟨gb217, 2, none⟩ = some (.int .i64 a0_2) := (blk_cell BK217.out 2).trans rfl; have hcz19_3 : w16.cell? ⟨gb217, 3, none⟩ = some (.int .i64 a0_3) := (blk_cell BK217.out 3).trans rfl; have hfz19_0 := blk_frozen BK217.out 0; have hfz19_1 := blk_frozen BK217.out 1; have hfz19_2 := blk_frozen BK217.out 2; have hfz19_3 := blk_frozen BK217.out 3; have hnb20 := NB218_219.out; have hnc20 := NB219_218.out; have hcz21_0 : w16.cell? ⟨gb218, 0, none⟩ = some (.int .i64 a1_0) := (blk_cell BK218.out 0).trans rfl; have hcz21_1 : w16.cell? ⟨gb218, 1, none⟩ = some (.int .i64 a1_1) := (blk_cell BK218.out 1).trans rfl; have hcz21_2 : w16.cell? ⟨gb218, 2, none⟩ = some (.int .i64 a1_2) := (blk_cell BK218.out 2).trans rfl; have hcz21_3 : w16.cell? ⟨gb218, 3, none⟩ = some (.int .i64 a1_3) := (blk_cell BK218.out 3).trans rfl; have hfz21_0 := blk_frozen BK218.out 0; have hfz21_1 := blk_frozen BK218.out 1; have hfz21_2 := blk_frozen BK218.out 2; have hfz21_3 := blk_frozen BK218.out 3; have hcz22_0 : w16.cell? ⟨gb219, 0, none⟩ = some (.int .i64 0) := (blk_cell BK219.out 0).trans rfl; have hcz22_1 : w16.cell? ⟨gb219, 1, none⟩ = some (.int .i64 0) := (blk_cell BK219.out 1).trans rfl; have hcz22_2 : w16.cell? ⟨gb219, 2, none⟩ = some (.int .i64 0) := (blk_cell BK219.out 2).trans rfl; have hcz22_3 : w16.cell? ⟨gb219, 3, none⟩ = some (.int .i64 0) := (blk_cell BK219.out 3).trans rfl; have hfz22_0 := blk_frozen BK219.out 0; have hfz22_1 := blk_frozen BK219.out 1; have hfz22_2 := blk_frozen BK219.out 2; have hfz22_3 := blk_frozen BK219.out 3))
      refine bodyPost_ret (results_cell_row rfl _ _ gb219 52 #[.int .i64 a0_0, .int .i64 a0_1, .int .i64 a0_2, .int .i64 a0_3] (0, 0) _ rfl (by (with_reducible repeat (first | refine blk_drewN ?_ _ | refine blk_drew ?_ | refine blk_alloc ?_ _)); refine blk_put (cs := #[.int .i64 a0_0, .int .i64 a0_1, .int .i64 a0_2, .int .i64 0]) ?_ 3 _ rfl; (with_reducible repeat (first | refine blk_drewN ?_ _ | refine blk_drew ?_ | refine blk_alloc ?_ _)); refine blk_put (cs := #[.int .i64 a0_0, .int .i64 a0_1, .int .i64 0, .int .i64 0]) ?_ 2 _ rfl; (with_reducible repeat (first | refine blk_drewN ?_ _ | refine blk_drew ?_ | refine blk_alloc ?_ _)); refine blk_put (cs := #[.int .i64 a0_0, .int .i64 0, .int .i64 0, .int .i64 0]) ?_ 1 _ rfl; (with_reducible repeat (first | refine blk_drewN ?_ _ | refine blk_drew ?_ | refine blk_alloc ?_ _)); refine blk_put (cs := #[.int .i64 0, .int .i64 0, .int .i64 0, .int .i64 0]) ?_ 0 _ rfl; (with_reducible repeat (first | refine blk_drewN ?_ _ | refine blk_drew ?_ | refine blk_alloc ?_ _)); exact BK219.out) Try.underlying52 rfl (by kernel_rfl)) rfl ?_
      exact ⟨by first | rfl | (simp [errW_none, errW_some] <;> rfl) | (simp [*, errW_none, errW_some] <;> rfl), by repeat (first | (with_reducible first | exact HB.out | apply below_alloc | apply pw_below_drewN | apply below_drew1 | refine below_set ?_ GE217.out | refine below_set ?_ GE218.out | refine below_set ?_ GE219.out) | exact HB.out)⟩
    · rw [if_neg c13] at H
      have c13b0 : (a1_0 == 0) = false := beq_eq_false_iff_ne.mpr c13
      have c13b1 : (a1_0 != 0) = true := bne_iff_ne.mpr c13
      obtain ⟨ji23, hji23⟩ : ∃ j_ : Int, (mn a0_2 a1_2) = j_ := ⟨_, rfl⟩
      replace H : (some (wrap64 (a0_0 + a1_0), wrap64 (a0_1 + a1_1), ji23, mx a0_3 a1_3)) = some (r1, r2, r3, r4) := by first | (rw [hji23] at H; exact H) | (simp only [hji23] at H ⊢; exact H)
      have hji23_ : (if a1_2 < a0_2 then a1_2 else a0_2) = ji23 := hji23
      obtain ⟨ji24, hji24⟩ : ∃ j_ : Int, (mx a0_3 a1_3) = j_ := ⟨_, rfl⟩
      replace H : (some (wrap64 (a0_0 + a1_0), wrap64 (a0_1 + a1_1), ji23, ji24)) = some (r1, r2, r3, r4) := by first | (rw [hji24] at H; exact H) | (simp only [hji24] at H ⊢; exact H)
      have hji24_ : (if a0_3 < a1_3 then a1_3 else a0_3) = ji24 := hji24
      simp only [Option.some.injEq, Prod.mk.injEq] at H
      obtain ⟨rfl, rfl, rfl, rfl⟩ := H
      go_enter Try.func89, Try.ntmps89
      go_wp2_with (first | ((with_reducible refine gate_dst (N := 2) rfl ?_); refine box_event ?hg (N := 2) ?hd (cs := #[.int .i64 a0_0, .int .i64 a0_1, .int .i64 a0_2, .int .i64 a0_3]) (t := 52) ?hr ?_; (case hd => rfl); (case hg => rfl); (case hr => first | (go_simp; done) | (go_simp; rfl)); intro gb217 hg w25 hbox hb; have n0_ := Aside0.mk (below_step (by repeat (first | (with_reducible first | exact HB.out | apply below_alloc | apply pw_below_drewN | apply below_drew1) | exact HB.out)) hb); have n1_ := Aside0.mk (hbox); have n2_ := Aside0.mk ((by rw [hg]; exact (below_size (by repeat (first | (with_reducible first | exact HB.out | apply below_alloc | apply pw_below_drewN | apply below_drew1) | exact HB.out))) : w.heap.size ≤ gb217)); have n3_ := Aside0.mk ((by rw [hg]; exact (below_size (by repeat (first | (with_reducible first | exact HB.out | apply below_alloc | apply pw_below_drewN | apply below_drew1) | exact HB.out))) : w.heap.size ≤ gb217)); clear HB; have HB := n0_; have BK217 := n1_; have GW217 := n2_; have GE217 := n3_; clear n0_ n1_ n2_ n3_; clear hb hbox hg) | ((with_reducible refine gate_dst (N := 3) rfl ?_); refine box_event ?hg (N := 3) ?hd (cs := #[.int .i64 a1_0, .int .i64 a1_1, .int .i64 a1_2, .int .i64 a1_3]) (t := 52) ?hr ?_; (case hd => rfl); (case hg => rfl); (case hr => first | (go_simp; done) | (go_simp; rfl)); intro gb218 hg w26 hbox hb; have n0_ := Aside0.mk (blk_below (g := gb217) (o := .cells #[.int .i64 a0_0, .int .i64 a0_1, .int .i64 a0_2, .int .i64 a0_3] 52 (0, 0)) (by (with_reducible repeat (first | refine blk_drewN ?_ _ | refine blk_drew ?_ | refine blk_alloc ?_ _)); exact BK217.out) hb); have n1_ := Aside0.mk (below_step (by repeat (first | (with_reducible first | exact HB.out | apply below_alloc | apply pw_below_drewN | apply below_drew1 | refine below_set ?_ GE217.out) | exact HB.out)) hb); have n2_ := Aside0.mk (hbox); have n3_ := Aside0.mk ((by rw [hg]; exact (below_size (by repeat (first | (with_reducible first | exact HB.out | apply below_alloc | apply pw_below_drewN | apply below_drew1 | refine below_set ?_ GE217.out) | exact HB.out))) : w.heap.size ≤ gb218)); have n4_ := Aside0.mk ((by rw [hg]; exact (below_size (by repeat (first | (with_reducible first | exact HB.out | apply below_alloc | apply pw_below_drewN | apply below_drew1 | refine below_set ?_ GE217.out) | exact HB.out))) : w.heap.size ≤ gb218)); have n5_ := Aside0.mk ((by rw [hg]; exact Nat.ne_of_lt (blk_lt (g := gb217) (o := .cells #[.int .i64 a0_0, .int .i64 a0_1, .int .i64 a0_2, .int .i64 a0_3] 52 (0, 0)) (by (with_reducible repeat (first | refine blk_drewN ?_ _ | refine blk_drew ?_ | refine blk_alloc ?_ _)); exact BK217.out)) : gb217 ≠ gb218)); have n6_ := Aside0.mk ((by rw [hg]; exact Nat.ne_of_gt (blk_lt (g := gb217) (o := .cells #[.int .i64 a0_0, .int .i64 a0_1, .int .i64 a0_2, .int .i64 a0_3] 52 (0, 0)) (by (with_reducible repeat (first | refine blk_drewN ?_ _ | refine blk_drew ?_ | refine blk_alloc ?_ _)); exact BK217.out)) : gb218 ≠ gb217)); clear BK217; clear HB; have BK217 := n0_; have HB := n1_; have BK218 := n2_; have GW218 := n3_; have GE218 := n4_; have NB217_218 := n5_; have NB218_217 := n6_; clear n0_ n1_ n2_ n3_ n4_ n5_ n6_; clear hb hbox hg) | ((with_reducible refine gate_dst (N := 4) rfl ?_); refine box_event ?hg (N := 4) ?hd (cs := #[.int .i64 0, .int .i64 0, .int .i64 0, .int .i64 0]) (t := 52) ?hr ?_; (case hd => rfl); (case hg => rfl); (case hr => first | (go_simp; done) | (go_simp; rfl)); intro gb219 hg w27 hbox hb; have n0_ := Aside0.mk (blk_below (g := gb217) (o := .cells #[.int .i64 a0_0, .int .i64 a0_1, .int .i64 a0_2, .int .i64 a0_3] 52 (0, 0)) (by (with_reducible repeat (first | refine blk_drewN ?_ _ | refine blk_drew ?_ | refine blk_alloc ?_ _)); exact BK217.out) hb); have n1_ := Aside0.mk (blk_below (g := gb218) (o := .cells #[.int .i64 a1_0, .int .i64 a1_1, .int .i64 a1_2, .int .i64 a1_3] 52 (0, 0)) (by (with_reducible repeat (first | refine blk_drewN ?_ _ | refine blk_drew ?_ | refine blk_alloc ?_ _)); exact BK218.out) hb); have n2_ := Aside0.mk (below_step (by repeat (first | (with_reducible first | exact HB.out | apply below_alloc | apply pw_below_drewN | apply below_drew1 | refine below_set ?_ GE217.out | refine below_set ?_ GE218.out) | exact HB.out)) hb); have n3_ := Aside0.mk (hbox); have n4_ := Aside0.mk ((by rw [hg]; exact (below_size (by repeat (first | (with_reducible first | exact HB.out | apply below_alloc | apply pw_below_drewN | apply below_drew1 | refine below_set ?_ GE217.out | refine below_set ?_ GE218.out) | exact HB.out))) : w.heap.size ≤ gb219)); have n5_ := Aside0.mk ((by rw [hg]; exact (below_size (by repeat (first | (with_reducible first | exact HB.out | apply below_alloc | apply pw_below_drewN | apply below_drew1 | refine below_set ?_ GE217.out | refine below_set ?_ GE218.out) | exact HB.out))) : w.heap.size ≤ gb219)); have n6_ := Aside0.mk ((by rw [hg]; exact Nat.ne_of_lt (blk_lt (g := gb217) (o := .cells #[.int .i64 a0_0, .int .i64 a0_1, .int .i64 a0_2, .int .i64 a0_3] 52 (0, 0)) (by (with_reducible repeat (first | refine blk_drewN ?_ _ | refine blk_drew ?_ | refine blk_alloc ?_ _)); exact BK217.out)) : gb217 ≠ gb219)); have n7_ := Aside0.mk ((by rw [hg]; exact Nat.ne_of_gt (blk_lt (g := gb217) (o := .cells #[.int .i64 a0_0, .int .i64 a0_1, .int .i64 a0_2, .int .i64 a0_3] 52 (0, 0)) (by (with_reducible repeat (first | refine blk_drewN ?_ _ | refine blk_drew ?_ | refine blk_alloc ?_ _)); exact BK217.out)) : gb219 ≠ gb217)); have n8_ := Aside0.mk ((by rw [hg]; exact Nat.ne_of_lt (blk_lt (g := gb218) (o := .cells #[.int .i64 a1_0, .int .i64 a1_1, .int .i64 a1_2, .int .i64 a1_3] 52 (0, 0)) (by (with_reducible repeat (first | refine blk_drewN ?_ _ | refine blk_drew ?_ | refine blk_alloc ?_ _)); exact BK218.out)) : gb218 ≠ gb219)); have n9_ := Aside0.mk ((by rw [hg]; exact Nat.ne_of_gt (blk_lt (g := gb218) (o := .cells #[.int .i64 a1_0, .int .i64 a1_1, .int .i64 a1_2, .int .i64 a1_3] 52 (0, 0)) (by (with_reducible repeat (first | refine blk_drewN ?_ _ | refine blk_drew ?_ | refine blk_alloc ?_ _)); exact BK218.out)) : gb219 ≠ gb218)); clear BK217; clear BK218; clear HB; have BK217 := n0_; have BK218 := n1_; have HB := n2_; have BK219 := n3_; have GW219 := n4_; have GE219 := n5_; have NB217_219 := n6_; have NB219_217 := n7_; have NB218_219 := n8_; have NB219_218 := n9_; clear n0_ n1_ n2_ n3_ n4_ n5_ n6_ n7_ n8_ n9_; clear hb hbox hg; have hnb28 := NB217_218.out; have hnc28 := NB218_217.out; have hnb29 := NB217_219.out; have hnc29 := NB219_217.out; have hcz30_0 : w27.cell? ⟨gb217, 0, none⟩ = some (.int .i64 a0_0) := (blk_cell BK217.out 0).trans rfl; have hcz30_1 : w27.cell? ⟨gb217, 1, none⟩ = some (.int .i64 a0_1) := (blk_cell BK217.out 1).trans rfl; have hcz30_2 : w27.cell? ⟨gb217, 2, none⟩ = some (.int .i64 a0_2) := (blk_cell BK217.out 2).trans rfl; have hcz30_3 : w27.cell? ⟨gb217, 3, none⟩ = some (.int .i64 a0_3) := (blk_cell BK217.out 3).trans rfl; have hfz30_0 := blk_frozen BK217.out 0; have hfz30_1 := blk_frozen BK217.out 1; have hfz30_2 := blk_frozen BK217.out 2; have hfz30_3 := blk_frozen BK217.out 3; have hnb31 := NB218_219.out; have hnc31 := NB219_218.out; have hcz32_0 : w27.cell? ⟨gb218, 0, none⟩ = some (.int .i64 a1_0) := (blk_cell BK218.out 0).trans rfl; have hcz32_1 : w27.cell? ⟨gb218, 1, none⟩ = some (.int .i64 a1_1) := (blk_cell BK218.out 1).trans rfl; have hcz32_2 : w27.cell? ⟨gb218, 2, none⟩ = some (.int .i64 a1_2) := (blk_cell BK218.out 2).trans rfl; have hcz32_3 : w27.cell? ⟨gb218, 3, none⟩ = some (.int .i64 a1_3) := (blk_cell BK218.out 3).trans rfl; have hfz32_0 := blk_frozen BK218.out 0; have hfz32_1 := blk_frozen BK218.out 1; have hfz32_2 := blk_frozen BK218.out 2; have hfz32_3 := blk_frozen BK218.out 3; have hcz33_0 : w27.cell? ⟨gb219, 0, none⟩ = some (.int .i64 0) := (blk_cell BK219.out 0).trans rfl; have hcz33_1 : w27.cell? ⟨gb219, 1, none⟩ = some (.int .i64 0) := (blk_cell BK219.out 1).trans rfl; have hcz33_2 : w27.cell? ⟨gb219, 2, none⟩ = some (.int .i64 0) := (blk_cell BK219.out 2).trans rfl; have hcz33_3 : w27.cell? ⟨gb219, 3, none⟩ = some (.int .i64 0) := (blk_cell BK219.out 3).trans rfl; have hfz33_0 := blk_frozen BK219.out 0; have hfz33_1 := blk_frozen BK219.out 1; have hfz33_2 := blk_frozen BK219.out 2; have hfz33_3 := blk_frozen BK219.out 3))
      refine bodyPost_ret (results_cell_row rfl _ _ gb219 52 #[.int .i64 (wrap64 (a0_0 + a1_0)), .int .i64 (wrap64 (a0_1 + a1_1)), .int .i64 ji23, .int .i64 ji24] (0, 0) _ rfl (by (with_reducible repeat (first | refine blk_drewN ?_ _ | refine blk_drew ?_ | refine blk_alloc ?_ _)); refine blk_put (cs := #[.int .i64 (wrap64 (a0_0 + a1_0)), .int .i64 (wrap64 (a0_1 + a1_1)), .int .i64 ji23, .int .i64 0]) ?_ 3 _ rfl; (with_reducible repeat (first | refine blk_drewN ?_ _ | refine blk_drew ?_ | refine blk_alloc ?_ _)); refine blk_put (cs := #[.int .i64 (wrap64 (a0_0 + a1_0)), .int .i64 (wrap64 (a0_1 + a1_1)), .int .i64 0, .int .i64 0]) ?_ 2 _ rfl; (with_reducible repeat (first | refine blk_drewN ?_ _ | refine blk_drew ?_ | refine blk_alloc ?_ _)); refine blk_put (cs := #[.int .i64 (wrap64 (a0_0 + a1_0)), .int .i64 0, .int .i64 0, .int .i64 0]) ?_ 1 _ rfl; (with_reducible repeat (first | refine blk_drewN ?_ _ | refine blk_drew ?_ | refine blk_alloc ?_ _)); refine blk_put (cs := #[.int .i64 0, .int .i64 0, .int .i64 0, .int .i64 0]) ?_ 0 _ rfl; (with_reducible repeat (first | refine blk_drewN ?_ _ | refine blk_drew ?_ | refine blk_alloc ?_ _)); exact BK219.out) Try.underlying52 rfl (by kernel_rfl)) rfl ?_
      exact ⟨by first | rfl | (simp [errW_none, errW_some] <;> rfl) | (simp only [← hji23, ← hji24]; first | rfl | (simp [errW_none, errW_some] <;> rfl)) | (simp [*, errW_none, errW_some] <;> rfl), by repeat (first | (with_reducible first | exact HB.out | apply below_alloc | apply pw_below_drewN | apply below_drew1 | refine below_set ?_ GE217.out | refine below_set ?_ GE218.out | refine below_set ?_ GE219.out) | exact HB.out)⟩

/-! ### impl_JoinTotals: function 37 -/
def impl_JoinTotals.j0 : Nat → Bool → Int → Int → Int → Int → Int → Int → Int → Int → Option (Int × Int × Int × Int)
  | 0, _, _, _, _, _, _, _, _, _ => none
  | k + 1, x13, x221000, x221001, x221002, x221003, x222000, x222001, x222002, x222003 => if x13 = true then (some (0, 0, 0, 0)) else ((impl_Total_joined.f x221000 x221001 x221002 x221003 x222000 x222001 x222002 x222003).bind fun bt225 => ((impl_TotalValid.f k bt225.1 bt225.2.1 bt225.2.2.1 bt225.2.2.2).bind fun t230 => (if t230 = true then (some (bt225.1, bt225.2.1, bt225.2.2.1, bt225.2.2.2)) else (some (0, 0, 0, 0)))))
def impl_JoinTotals.f (k : Nat) (a0_0 : Int) (a0_1 : Int) (a0_2 : Int) (a0_3 : Int) (a1_0 : Int) (a1_1 : Int) (a1_2 : Int) (a1_3 : Int) : Option (Int × Int × Int × Int) := (impl_TotalValid.f k a0_0 a0_1 a0_2 a0_3).bind fun t223 => (if t223 = true then ((impl_TotalValid.f k a1_0 a1_1 a1_2 a1_3).bind fun t224 => (impl_JoinTotals.j0 k (!t224) a0_0 a0_1 a0_2 a0_3 a1_0 a1_1 a1_2 a1_3)) else (impl_JoinTotals.j0 k true a0_0 a0_1 a0_2 a0_3 a1_0 a1_1 a1_2 a1_3))
theorem impl_JoinTotals.mono_l : ∀ k, (∀ y0 y1 y2 y3 y4 y5 y6 y7 y8, LeO (impl_JoinTotals.j0 k y0 y1 y2 y3 y4 y5 y6 y7 y8) (impl_JoinTotals.j0 (k + 1) y0 y1 y2 y3 y4 y5 y6 y7 y8))
  | 0 => fun _ _ _ _ _ _ _ _ _ r h => by simp [impl_JoinTotals.j0] at h
  | k + 1 => by
    have ih0 := impl_JoinTotals.mono_l k
    · intro y0 y1 y2 y3 y4 y5 y6 y7 y8
      unfold impl_JoinTotals.j0
      repeat' first
      | (with_reducible exact ih0 _ _ _ _ _ _ _ _ _)
      | (with_reducible exact impl_TotalValid.mono _ _ _ _ _)
      | (with_reducible exact LeO.refl _)
      | (with_reducible exact LeO.none _)
      | (with_reducible refine LeO.ite ?_ ?_)
      | (with_reducible refine LeO.bind ?_ (fun _ => ?_))
      | exact ih0 _ _ _ _ _ _ _ _ _
      | exact impl_TotalValid.mono _ _ _ _ _
      | exact LeO.none _
      | refine LeO.ite ?_ ?_
      | refine LeO.bind ?_ (fun _ => ?_)
theorem impl_JoinTotals.mono : ∀ a0 a1 a2 a3 a4 a5 a6 a7 k, LeO (impl_JoinTotals.f k a0 a1 a2 a3 a4 a5 a6 a7) (impl_JoinTotals.f (k + 1) a0 a1 a2 a3 a4 a5 a6 a7) := by
  intro a0 a1 a2 a3 a4 a5 a6 a7 k
  have ih0 := impl_JoinTotals.mono_l k
  unfold impl_JoinTotals.f
  repeat' first
      | (with_reducible exact ih0 _ _ _ _ _ _ _ _ _)
      | (with_reducible exact impl_TotalValid.mono _ _ _ _ _)
      | (with_reducible exact LeO.refl _)
      | (with_reducible exact LeO.none _)
      | (with_reducible refine LeO.ite ?_ ?_)
      | (with_reducible refine LeO.bind ?_ (fun _ => ?_))
      | exact ih0 _ _ _ _ _ _ _ _ _
      | exact impl_TotalValid.mono _ _ _ _ _
      | exact LeO.none _
      | refine LeO.ite ?_ ?_
      | refine LeO.bind ?_ (fun _ => ?_)
set_option maxHeartbeats 8000000 in
set_option maxRecDepth 100000 in
theorem impl_JoinTotals.calls (k : Nat) (a0_0 : Int) (a0_1 : Int) (a0_2 : Int) (a0_3 : Int) (a1_0 : Int) (a1_1 : Int) (a1_2 : Int) (a1_3 : Int) (r1 : Int) (r2 : Int) (r3 : Int) (r4 : Int) (w : World) (h : impl_JoinTotals.f k a0_0 a0_1 a0_2 a0_3 a1_0 a1_1 a1_2 a1_3 = some (r1, r2, r3, r4)) :
    Calls Try.prog 37 #[.agg #[.int .i64 a0_0, .int .i64 a0_1, .int .i64 a0_2, .int .i64 a0_3], .agg #[.int .i64 a1_0, .int .i64 a1_1, .int .i64 a1_2, .int .i64 a1_3]] w fun e w' => e = .returned (.agg #[.int .i64 r1, .int .i64 r2, .int .i64 r3, .int .i64 r4]) ∧ Below w.heap.size w w' := by
  have hu52 := Try.underlying52
  have HB := Aside0.mk (Below.refl w.heap.size w)
  have H : ((impl_TotalValid.f k a0_0 a0_1 a0_2 a0_3).bind fun t223 => (if t223 = true then ((impl_TotalValid.f k a1_0 a1_1 a1_2 a1_3).bind fun t224 => (impl_JoinTotals.j0 k (!t224) a0_0 a0_1 a0_2 a0_3 a1_0 a1_1 a1_2 a1_3)) else (impl_JoinTotals.j0 k true a0_0 a0_1 a0_2 a0_3 a1_0 a1_1 a1_2 a1_3))) = some (r1, r2, r3, r4) := h
  clear h
  have HC3 := Aside0.mk H
  clear H
  go_enter Try.func37, Try.ntmps37
  go_upto_region 1 with (first | ((with_reducible refine gate_dst (N := 2) rfl ?_); refine box_event ?hg (N := 2) ?hd (cs := #[.int .i64 a0_0, .int .i64 a0_1, .int .i64 a0_2, .int .i64 a0_3]) (t := 52) ?hr ?_; (case hd => rfl); (case hg => rfl); (case hr => first | (go_simp; done) | (go_simp; rfl)); intro gb220 hg w4 hbox hb; have n0_ := Aside0.mk (below_step (by repeat (first | (with_reducible first | exact HB.out | apply below_alloc | apply pw_below_drewN | apply below_drew1) | exact HB.out)) hb); have n1_ := Aside0.mk (hbox); have n2_ := Aside0.mk ((by rw [hg]; exact (below_size (by repeat (first | (with_reducible first | exact HB.out | apply below_alloc | apply pw_below_drewN | apply below_drew1) | exact HB.out))) : w.heap.size ≤ gb220)); have n3_ := Aside0.mk ((by rw [hg]; exact (below_size (by repeat (first | (with_reducible first | exact HB.out | apply below_alloc | apply pw_below_drewN | apply below_drew1) | exact HB.out))) : w.heap.size ≤ gb220)); clear HB; have HB := n0_; have BK220 := n1_; have GW220 := n2_; have GE220 := n3_; clear n0_ n1_ n2_ n3_; clear hb hbox hg) | ((with_reducible refine gate_dst (N := 3) rfl ?_); refine box_event ?hg (N := 3) ?hd (cs := #[.int .i64 a1_0, .int .i64 a1_1, .int .i64 a1_2, .int .i64 a1_3]) (t := 52) ?hr ?_; (case hd => rfl); (case hg => rfl); (case hr => first | (go_simp; done) | (go_simp; rfl)); intro gb221 hg w5 hbox hb; have n0_ := Aside0.mk (blk_below (g := gb220) (o := .cells #[.int .i64 a0_0, .int .i64 a0_1, .int .i64 a0_2, .int .i64 a0_3] 52 (0, 0)) (by (with_reducible repeat (first | refine blk_drewN ?_ _ | refine blk_drew ?_ | refine blk_alloc ?_ _)); exact BK220.out) hb); have n1_ := Aside0.mk (below_step (by repeat (first | (with_reducible first | exact HB.out | apply below_alloc | apply pw_below_drewN | apply below_drew1 | refine below_set ?_ GE220.out) | exact HB.out)) hb); have n2_ := Aside0.mk (hbox); have n3_ := Aside0.mk ((by rw [hg]; exact (below_size (by repeat (first | (with_reducible first | exact HB.out | apply below_alloc | apply pw_below_drewN | apply below_drew1 | refine below_set ?_ GE220.out) | exact HB.out))) : w.heap.size ≤ gb221)); have n4_ := Aside0.mk ((by rw [hg]; exact (below_size (by repeat (first | (with_reducible first | exact HB.out | apply below_alloc | apply pw_below_drewN | apply below_drew1 | refine below_set ?_ GE220.out) | exact HB.out))) : w.heap.size ≤ gb221)); have n5_ := Aside0.mk ((by rw [hg]; exact Nat.ne_of_lt (blk_lt (g := gb220) (o := .cells #[.int .i64 a0_0, .int .i64 a0_1, .int .i64 a0_2, .int .i64 a0_3] 52 (0, 0)) (by (with_reducible repeat (first | refine blk_drewN ?_ _ | refine blk_drew ?_ | refine blk_alloc ?_ _)); exact BK220.out)) : gb220 ≠ gb221)); have n6_ := Aside0.mk ((by rw [hg]; exact Nat.ne_of_gt (blk_lt (g := gb220) (o := .cells #[.int .i64 a0_0, .int .i64 a0_1, .int .i64 a0_2, .int .i64 a0_3] 52 (0, 0)) (by (with_reducible repeat (first | refine blk_drewN ?_ _ | refine blk_drew ?_ | refine blk_alloc ?_ _)); exact BK220.out)) : gb221 ≠ gb220)); clear BK220; clear HB; have BK220 := n0_; have HB := n1_; have BK221 := n2_; have GW221 := n3_; have GE221 := n4_; have NB220_221 := n5_; have NB221_220 := n6_; clear n0_ n1_ n2_ n3_ n4_ n5_ n6_; clear hb hbox hg) | ((with_reducible refine gate_dst (N := 4) rfl ?_); refine box_event ?hg (N := 4) ?hd (cs := #[.int .i64 0, .int .i64 0, .int .i64 0, .int .i64 0]) (t := 52) ?hr ?_; (case hd => rfl); (case hg => rfl); (case hr => first | (go_simp; done) | (go_simp; rfl)); intro gb222 hg w6 hbox hb; have n0_ := Aside0.mk (blk_below (g := gb220) (o := .cells #[.int .i64 a0_0, .int .i64 a0_1, .int .i64 a0_2, .int .i64 a0_3] 52 (0, 0)) (by (with_reducible repeat (first | refine blk_drewN ?_ _ | refine blk_drew ?_ | refine blk_alloc ?_ _)); exact BK220.out) hb); have n1_ := Aside0.mk (blk_below (g := gb221) (o := .cells #[.int .i64 a1_0, .int .i64 a1_1, .int .i64 a1_2, .int .i64 a1_3] 52 (0, 0)) (by (with_reducible repeat (first | refine blk_drewN ?_ _ | refine blk_drew ?_ | refine blk_alloc ?_ _)); exact BK221.out) hb); have n2_ := Aside0.mk (below_step (by repeat (first | (with_reducible first | exact HB.out | apply below_alloc | apply pw_below_drewN | apply below_drew1 | refine below_set ?_ GE220.out | refine below_set ?_ GE221.out) | exact HB.out)) hb); have n3_ := Aside0.mk (hbox); have n4_ := Aside0.mk ((by rw [hg]; exact (below_size (by repeat (first | (with_reducible first | exact HB.out | apply below_alloc | apply pw_below_drewN | apply below_drew1 | refine below_set ?_ GE220.out | refine below_set ?_ GE221.out) | exact HB.out))) : w.heap.size ≤ gb222)); have n5_ := Aside0.mk ((by rw [hg]; exact (below_size (by repeat (first | (with_reducible first | exact HB.out | apply below_alloc | apply pw_below_drewN | apply below_drew1 | refine below_set ?_ GE220.out | refine below_set ?_ GE221.out) | exact HB.out))) : w.heap.size ≤ gb222)); have n6_ := Aside0.mk ((by rw [hg]; exact Nat.ne_of_lt (blk_lt (g := gb220) (o := .cells #[.int .i64 a0_0, .int .i64 a0_1, .int .i64 a0_2, .int .i64 a0_3] 52 (0, 0)) (by (with_reducible repeat (first | refine blk_drewN ?_ _ | refine blk_drew ?_ | refine blk_alloc ?_ _)); exact BK220.out)) : gb220 ≠ gb222)); have n7_ := Aside0.mk ((by rw [hg]; exact Nat.ne_of_gt (blk_lt (g := gb220) (o := .cells #[.int .i64 a0_0, .int .i64 a0_1, .int .i64 a0_2, .int .i64 a0_3] 52 (0, 0)) (by (with_reducible repeat (first | refine blk_drewN ?_ _ | refine blk_drew ?_ | refine blk_alloc ?_ _)); exact BK220.out)) : gb222 ≠ gb220)); have n8_ := Aside0.mk ((by rw [hg]; exact Nat.ne_of_lt (blk_lt (g := gb221) (o := .cells #[.int .i64 a1_0, .int .i64 a1_1, .int .i64 a1_2, .int .i64 a1_3] 52 (0, 0)) (by (with_reducible repeat (first | refine blk_drewN ?_ _ | refine blk_drew ?_ | refine blk_alloc ?_ _)); exact BK221.out)) : gb221 ≠ gb222)); have n9_ := Aside0.mk ((by rw [hg]; exact Nat.ne_of_gt (blk_lt (g := gb221) (o := .cells #[.int .i64 a1_0, .int .i64 a1_1, .int .i64 a1_2, .int .i64 a1_3] 52 (0, 0)) (by (with_reducible repeat (first | refine blk_drewN ?_ _ | refine blk_drew ?_ | refine blk_alloc ?_ _)); exact BK221.out)) : gb222 ≠ gb221)); clear BK220; clear BK221; clear HB; have BK220 := n0_; have BK221 := n1_; have HB := n2_; have BK222 := n3_; have GW222 := n4_; have GE222 := n5_; have NB220_222 := n6_; have NB222_220 := n7_; have NB221_222 := n8_; have NB222_221 := n9_; clear n0_ n1_ n2_ n3_ n4_ n5_ n6_ n7_ n8_ n9_; clear hb hbox hg))
  (try simp only [Act.put, List.setIfInBounds_toArray, List.set_cons_zero, List.set_cons_succ])
  go_cut [13] (fun v13 wc => ∃ (kq : Nat) (x13_2 : Bool), v13 = .bool x13_2 ∧ Aside0 (impl_JoinTotals.j0 kq x13_2 a0_0 a0_1 a0_2 a0_3 a1_0 a1_1 a1_2 a1_3 = some (r1, r2, r3, r4)) ∧ Aside0 (kq ≤ k) ∧ Aside0 (wc.heap[gb220]? = some (.cells #[.int .i64 a0_0, .int .i64 a0_1, .int .i64 a0_2, .int .i64 a0_3] 52 (0, 0))) ∧ Aside0 (wc.heap[gb221]? = some (.cells #[.int .i64 a1_0, .int .i64 a1_1, .int .i64 a1_2, .int .i64 a1_3] 52 (0, 0))) ∧ Aside0 (wc.heap[gb222]? = some (.cells #[.int .i64 0, .int .i64 0, .int .i64 0, .int .i64 0] 52 (0, 0))) ∧ Aside0 (Below w.heap.size w wc))
  case first =>
    have H := HC3.out
    clear HC3
    replace H := Option.bind_eq_some_iff.mp H
    obtain ⟨t223, A70, H⟩ := H
    replace H : (if t223 = true then ((impl_TotalValid.f k a1_0 a1_1 a1_2 a1_3).bind fun t224 => (impl_JoinTotals.j0 k (!t224) a0_0 a0_1 a0_2 a0_3 a1_0 a1_1 a1_2 a1_3)) else (impl_JoinTotals.j0 k true a0_0 a0_1 a0_2 a0_3 a1_0 a1_1 a1_2 a1_3)) = some (r1, r2, r3, r4) := H
    have A7 := Aside0.mk A70
    clear A70
    by_cases c8 : t223 = true
    · subst c8
      have H1 : ((impl_TotalValid.f k a1_0 a1_1 a1_2 a1_3).bind fun t224 => (impl_JoinTotals.j0 k (!t224) a0_0 a0_1 a0_2 a0_3 a1_0 a1_1 a1_2 a1_3)) = some (r1, r2, r3, r4) := by rw [if_pos rfl] at H; exact H
      clear H
      have H := H1
      clear H1
      replace H := Option.bind_eq_some_iff.mp H
      obtain ⟨t224, A90, H⟩ := H
      replace H : (impl_JoinTotals.j0 k (!t224) a0_0 a0_1 a0_2 a0_3 a1_0 a1_1 a1_2 a1_3) = some (r1, r2, r3, r4) := H
      have A9 := Aside0.mk A90
      clear A90
      have H' := Aside0.mk H
      clear H
      have hnb10 := NB220_221.out
      have hnc10 := NB221_220.out
      have hnb11 := NB220_222.out
      have hnc11 := NB222_220.out
      have hcz12_0 : w6.cell? ⟨gb220, 0, none⟩ = some (.int .i64 a0_0) := (blk_cell BK220.out 0).trans rfl
      have hcz12_1 : w6.cell? ⟨gb220, 1, none⟩ = some (.int .i64 a0_1) := (blk_cell BK220.out 1).trans rfl
      have hcz12_2 : w6.cell? ⟨gb220, 2, none⟩ = some (.int .i64 a0_2) := (blk_cell BK220.out 2).trans rfl
      have hcz12_3 : w6.cell? ⟨gb220, 3, none⟩ = some (.int .i64 a0_3) := (blk_cell BK220.out 3).trans rfl
      have hfz12_0 := blk_frozen BK220.out 0
      have hfz12_1 := blk_frozen BK220.out 1
      have hfz12_2 := blk_frozen BK220.out 2
      have hfz12_3 := blk_frozen BK220.out 3
      go_wp2_with (first | ((with_reducible refine gate_callee (f := 88) rfl ?_); refine goesL_ (some 7) rfl rfl Try.func88 (by kernel_rfl) rfl #[.agg #[.int .i64 a0_0, .int .i64 a0_1, .int .i64 a0_2, .int .i64 a0_3]] rfl (by (try simp only [List.map_toArray, List.map_cons, List.map_nil]); first | done | rfl | (simp only [List.length_drop, List.length_take]; rfl)) ?_; (with_reducible refine (impl_TotalValid.calls k a0_0 a0_1 a0_2 a0_3 true _ A7.out).mono ?_); rintro e w13 ⟨rfl, hb⟩; refine ⟨_, rfl, ?_⟩; have n0_ := Aside0.mk (blk_below (g := gb220) (o := .cells #[.int .i64 a0_0, .int .i64 a0_1, .int .i64 a0_2, .int .i64 a0_3] 52 (0, 0)) (by (with_reducible repeat (first | refine blk_drewN ?_ _ | refine blk_drew ?_ | refine blk_alloc ?_ _)); exact BK220.out) hb); have n1_ := Aside0.mk (blk_below (g := gb221) (o := .cells #[.int .i64 a1_0, .int .i64 a1_1, .int .i64 a1_2, .int .i64 a1_3] 52 (0, 0)) (by (with_reducible repeat (first | refine blk_drewN ?_ _ | refine blk_drew ?_ | refine blk_alloc ?_ _)); exact BK221.out) hb); have n2_ := Aside0.mk (blk_below (g := gb222) (o := .cells #[.int .i64 0, .int .i64 0, .int .i64 0, .int .i64 0] 52 (0, 0)) (by (with_reducible repeat (first | refine blk_drewN ?_ _ | refine blk_drew ?_ | refine blk_alloc ?_ _)); exact BK222.out) hb); have n3_ := Aside0.mk (below_step (by repeat (first | (with_reducible first | exact HB.out | apply below_alloc | apply pw_below_drewN | apply below_drew1 | refine below_set ?_ GE220.out | refine below_set ?_ GE221.out | refine below_set ?_ GE222.out) | exact HB.out)) hb); clear BK220; clear BK221; clear BK222; clear HB; have BK220 := n0_; have BK221 := n1_; have BK222 := n2_; have HB := n3_; clear n0_ n1_ n2_ n3_; (try clear hb); (try clear hb2); (try clear hk); (try clear hi); have hnb14 := NB221_222.out; have hnc14 := NB222_221.out; have hcz15_0 : w13.cell? ⟨gb221, 0, none⟩ = some (.int .i64 a1_0) := (blk_cell BK221.out 0).trans rfl; have hcz15_1 : w13.cell? ⟨gb221, 1, none⟩ = some (.int .i64 a1_1) := (blk_cell BK221.out 1).trans rfl; have hcz15_2 : w13.cell? ⟨gb221, 2, none⟩ = some (.int .i64 a1_2) := (blk_cell BK221.out 2).trans rfl; have hcz15_3 : w13.cell? ⟨gb221, 3, none⟩ = some (.int .i64 a1_3) := (blk_cell BK221.out 3).trans rfl; have hfz15_0 := blk_frozen BK221.out 0; have hfz15_1 := blk_frozen BK221.out 1; have hfz15_2 := blk_frozen BK221.out 2; have hfz15_3 := blk_frozen BK221.out 3) | (go_at_call 88; (with_reducible refine (impl_TotalValid.calls k a1_0 a1_1 a1_2 a1_3 t224 _ A9.out).mono ?_); rintro e w16 ⟨rfl, hb⟩; have n0_ := Aside0.mk (blk_below (g := gb220) (o := .cells #[.int .i64 a0_0, .int .i64 a0_1, .int .i64 a0_2, .int .i64 a0_3] 52 (0, 0)) (by (with_reducible repeat (first | refine blk_drewN ?_ _ | refine blk_drew ?_ | refine blk_alloc ?_ _)); exact BK220.out) hb); have n1_ := Aside0.mk (blk_below (g := gb221) (o := .cells #[.int .i64 a1_0, .int .i64 a1_1, .int .i64 a1_2, .int .i64 a1_3] 52 (0, 0)) (by (with_reducible repeat (first | refine blk_drewN ?_ _ | refine blk_drew ?_ | refine blk_alloc ?_ _)); exact BK221.out) hb); have n2_ := Aside0.mk (blk_below (g := gb222) (o := .cells #[.int .i64 0, .int .i64 0, .int .i64 0, .int .i64 0] 52 (0, 0)) (by (with_reducible repeat (first | refine blk_drewN ?_ _ | refine blk_drew ?_ | refine blk_alloc ?_ _)); exact BK222.out) hb); have n3_ := Aside0.mk (below_step (by repeat (first | (with_reducible first | exact HB.out | apply below_alloc | apply pw_below_drewN | apply below_drew1 | refine below_set ?_ GE220.out | refine below_set ?_ GE221.out | refine below_set ?_ GE222.out) | exact HB.out)) hb); clear BK220; clear BK221; clear BK222; clear HB; have BK220 := n0_; have BK221 := n1_; have BK222 := n2_; have HB := n3_; clear n0_ n1_ n2_ n3_; (try clear hb); (try clear hb2); (try clear hk); (try clear hi)))
      go_meet
      case rel => exact ⟨_, (!t224), (by first | rfl | (simp; done) | (simp [*]; done)), H', ⟨by first | omega | exact Nat.le_refl _⟩, ⟨by (with_reducible repeat (first | refine blk_drewN ?_ _ | refine blk_drew ?_ | refine blk_alloc ?_ _)); exact BK220.out⟩, ⟨by (with_reducible repeat (first | refine blk_drewN ?_ _ | refine blk_drew ?_ | refine blk_alloc ?_ _)); exact BK221.out⟩, ⟨by (with_reducible repeat (first | refine blk_drewN ?_ _ | refine blk_drew ?_ | refine blk_alloc ?_ _)); exact BK222.out⟩, ⟨by repeat (first | (with_reducible first | exact HB.out | apply below_alloc | apply pw_below_drewN | apply below_drew1 | refine below_set ?_ GE220.out | refine below_set ?_ GE221.out | refine below_set ?_ GE222.out) | exact HB.out)⟩⟩
    · replace c8 := Bool.eq_false_iff.mpr c8
      subst c8
      have H1 : (impl_JoinTotals.j0 k true a0_0 a0_1 a0_2 a0_3 a1_0 a1_1 a1_2 a1_3) = some (r1, r2, r3, r4) := by rw [if_neg (show ¬ (false = true) by decide)] at H; exact H
      clear H
      have H := H1
      clear H1
      have H' := Aside0.mk H
      clear H
      have hnb17 := NB220_221.out
      have hnc17 := NB221_220.out
      have hnb18 := NB220_222.out
      have hnc18 := NB222_220.out
      have hcz19_0 : w6.cell? ⟨gb220, 0, none⟩ = some (.int .i64 a0_0) := (blk_cell BK220.out 0).trans rfl
      have hcz19_1 : w6.cell? ⟨gb220, 1, none⟩ = some (.int .i64 a0_1) := (blk_cell BK220.out 1).trans rfl
      have hcz19_2 : w6.cell? ⟨gb220, 2, none⟩ = some (.int .i64 a0_2) := (blk_cell BK220.out 2).trans rfl
      have hcz19_3 : w6.cell? ⟨gb220, 3, none⟩ = some (.int .i64 a0_3) := (blk_cell BK220.out 3).trans rfl
      have hfz19_0 := blk_frozen BK220.out 0
      have hfz19_1 := blk_frozen BK220.out 1
      have hfz19_2 := blk_frozen BK220.out 2
      have hfz19_3 := blk_frozen BK220.out 3
      go_wp2_with (first | ((with_reducible refine gate_callee (f := 88) rfl ?_); refine goesL_ (some 7) rfl rfl Try.func88 (by kernel_rfl) rfl #[.agg #[.int .i64 a0_0, .int .i64 a0_1, .int .i64 a0_2, .int .i64 a0_3]] rfl (by (try simp only [List.map_toArray, List.map_cons, List.map_nil]); first | done | rfl | (simp only [List.length_drop, List.length_take]; rfl)) ?_; (with_reducible refine (impl_TotalValid.calls k a0_0 a0_1 a0_2 a0_3 false _ A7.out).mono ?_); rintro e w20 ⟨rfl, hb⟩; refine ⟨_, rfl, ?_⟩; have n0_ := Aside0.mk (blk_below (g := gb220) (o := .cells #[.int .i64 a0_0, .int .i64 a0_1, .int .i64 a0_2, .int .i64 a0_3] 52 (0, 0)) (by (with_reducible repeat (first | refine blk_drewN ?_ _ | refine blk_drew ?_ | refine blk_alloc ?_ _)); exact BK220.out) hb); have n1_ := Aside0.mk (blk_below (g := gb221) (o := .cells #[.int .i64 a1_0, .int .i64 a1_1, .int .i64 a1_2, .int .i64 a1_3] 52 (0, 0)) (by (with_reducible repeat (first | refine blk_drewN ?_ _ | refine blk_drew ?_ | refine blk_alloc ?_ _)); exact BK221.out) hb); have n2_ := Aside0.mk (blk_below (g := gb222) (o := .cells #[.int .i64 0, .int .i64 0, .int .i64 0, .int .i64 0] 52 (0, 0)) (by (with_reducible repeat (first | refine blk_drewN ?_ _ | refine blk_drew ?_ | refine blk_alloc ?_ _)); exact BK222.out) hb); have n3_ := Aside0.mk (below_step (by repeat (first | (with_reducible first | exact HB.out | apply below_alloc | apply pw_below_drewN | apply below_drew1 | refine below_set ?_ GE220.out | refine below_set ?_ GE221.out | refine below_set ?_ GE222.out) | exact HB.out)) hb); clear BK220; clear BK221; clear BK222; clear HB; have BK220 := n0_; have BK221 := n1_; have BK222 := n2_; have HB := n3_; clear n0_ n1_ n2_ n3_; (try clear hb); (try clear hb2); (try clear hk); (try clear hi)))
      go_meet
      case rel => exact ⟨_, (true), (by first | rfl | (simp; done) | (simp [*]; done)), H', ⟨by first | omega | exact Nat.le_refl _⟩, ⟨by (with_reducible repeat (first | refine blk_drewN ?_ _ | refine blk_drew ?_ | refine blk_alloc ?_ _)); exact BK220.out⟩, ⟨by (with_reducible repeat (first | refine blk_drewN ?_ _ | refine blk_drew ?_ | refine blk_alloc ?_ _)); exact BK221.out⟩, ⟨by (with_reducible repeat (first | refine blk_drewN ?_ _ | refine blk_drew ?_ | refine blk_alloc ?_ _)); exact BK222.out⟩, ⟨by repeat (first | (with_reducible first | exact HB.out | apply below_alloc | apply pw_below_drewN | apply below_drew1 | refine below_set ?_ GE220.out | refine below_set ?_ GE221.out | refine below_set ?_ GE222.out) | exact HB.out)⟩⟩
  case rest =>
    clear HC3
    try clear c1
    try clear p2
    try clear c3
    try clear c8
    try clear c10
    try clear c11
    try clear c14
    try clear c17
    try clear c18
    try clear hcz12_0
    try clear hcz12_1
    try clear hcz12_2
    try clear hcz12_3
    try clear hcz15_0
    try clear hcz15_1
    try clear hcz15_2
    try clear hcz15_3
    try clear hcz19_0
    try clear hcz19_1
    try clear hcz19_2
    try clear hcz19_3
    try clear hfz12_0
    try clear hfz12_1
    try clear hfz12_2
    try clear hfz12_3
    try clear hfz15_0
    try clear hfz15_1
    try clear hfz15_2
    try clear hfz15_3
    try clear hfz19_0
    try clear hfz19_1
    try clear hfz19_2
    try clear hfz19_3
    obtain ⟨kq, x13_2, rfl, HA, HJ2, BK220, BK221, BK222, HB⟩ := hcut
    cases kq with
    | zero => exact absurd HA.out (by simp [impl_JoinTotals.j0])
    | succ kj2 =>
      have H := HA.out
      clear HA
      simp only [impl_JoinTotals.j0] at H
      by_cases c21 : x13_2 = true
      · subst c21
        have H1 : (some (0, 0, 0, 0)) = some (r1, r2, r3, r4) := by rw [if_pos rfl] at H; exact H
        clear H
        have H := H1
        clear H1
        simp only [Option.some.injEq, Prod.mk.injEq] at H
        obtain ⟨rfl, rfl, rfl, rfl⟩ := H
        have hnb22 := NB222_220.out
        have hnc22 := NB220_222.out
        have hnb23 := NB222_221.out
        have hnc23 := NB221_222.out
        have hcz24_0 : wc.cell? ⟨gb222, 0, none⟩ = some (.int .i64 0) := (blk_cell BK222.out 0).trans rfl
        have hcz24_1 : wc.cell? ⟨gb222, 1, none⟩ = some (.int .i64 0) := (blk_cell BK222.out 1).trans rfl
        have hcz24_2 : wc.cell? ⟨gb222, 2, none⟩ = some (.int .i64 0) := (blk_cell BK222.out 2).trans rfl
        have hcz24_3 : wc.cell? ⟨gb222, 3, none⟩ = some (.int .i64 0) := (blk_cell BK222.out 3).trans rfl
        have hfz24_0 := blk_frozen BK222.out 0
        have hfz24_1 := blk_frozen BK222.out 1
        have hfz24_2 := blk_frozen BK222.out 2
        have hfz24_3 := blk_frozen BK222.out 3
        go_wp2
        refine bodyPost_ret (results_cell_row rfl _ _ gb222 52 #[.int .i64 0, .int .i64 0, .int .i64 0, .int .i64 0] (0, 0) _ rfl (by (with_reducible repeat (first | refine blk_drewN ?_ _ | refine blk_drew ?_ | refine blk_alloc ?_ _)); refine blk_put (cs := #[.int .i64 0, .int .i64 0, .int .i64 0, .int .i64 0]) ?_ 3 _ rfl; (with_reducible repeat (first | refine blk_drewN ?_ _ | refine blk_drew ?_ | refine blk_alloc ?_ _)); refine blk_put (cs := #[.int .i64 0, .int .i64 0, .int .i64 0, .int .i64 0]) ?_ 2 _ rfl; (with_reducible repeat (first | refine blk_drewN ?_ _ | refine blk_drew ?_ | refine blk_alloc ?_ _)); refine blk_put (cs := #[.int .i64 0, .int .i64 0, .int .i64 0, .int .i64 0]) ?_ 1 _ rfl; (with_reducible repeat (first | refine blk_drewN ?_ _ | refine blk_drew ?_ | refine blk_alloc ?_ _)); refine blk_put (cs := #[.int .i64 0, .int .i64 0, .int .i64 0, .int .i64 0]) ?_ 0 _ rfl; (with_reducible repeat (first | refine blk_drewN ?_ _ | refine blk_drew ?_ | refine blk_alloc ?_ _)); exact BK222.out) Try.underlying52 rfl (by kernel_rfl)) rfl ?_
        exact ⟨by first | rfl | (simp [errW_none, errW_some] <;> rfl) | (simp [*, errW_none, errW_some] <;> rfl), by repeat (first | (with_reducible first | exact HB.out | apply below_alloc | apply pw_below_drewN | apply below_drew1 | refine below_set ?_ GE220.out | refine below_set ?_ GE221.out | refine below_set ?_ GE222.out) | exact HB.out)⟩
      · replace c21 := Bool.eq_false_iff.mpr c21
        subst c21
        have H1 : ((impl_Total_joined.f a0_0 a0_1 a0_2 a0_3 a1_0 a1_1 a1_2 a1_3).bind fun bt225 => ((impl_TotalValid.f kj2 bt225.1 bt225.2.1 bt225.2.2.1 bt225.2.2.2).bind fun t230 => (if t230 = true then (some (bt225.1, bt225.2.1, bt225.2.2.1, bt225.2.2.2)) else (some (0, 0, 0, 0))))) = some (r1, r2, r3, r4) := by rw [if_neg (show ¬ (false = true) by decide)] at H; exact H
        clear H
        have H := H1
        clear H1
        replace H := Option.bind_eq_some_iff.mp H
        obtain ⟨⟨t225, t226, t227, t228⟩, A250, H⟩ := H
        replace H : ((impl_TotalValid.f kj2 t225 t226 t227 t228).bind fun t230 => (if t230 = true then (some (t225, t226, t227, t228)) else (some (0, 0, 0, 0)))) = some (r1, r2, r3, r4) := H
        have A25 := Aside0.mk A250
        clear A250
        replace H := Option.bind_eq_some_iff.mp H
        obtain ⟨t230, A260, H⟩ := H
        replace H : (if t230 = true then (some (t225, t226, t227, t228)) else (some (0, 0, 0, 0))) = some (r1, r2, r3, r4) := H
        have A26 := Aside0.mk A260
        clear A260
        by_cases c27 : t230 = true
        · subst c27
          have H1 : (some (t225, t226, t227, t228)) = some (r1, r2, r3, r4) := by rw [if_pos rfl] at H; exact H
          clear H
          have H := H1
          clear H1
          simp only [Option.some.injEq, Prod.mk.injEq] at H
          obtain ⟨rfl, rfl, rfl, rfl⟩ := H
          have hnb28 := NB220_221.out
          have hnc28 := NB221_220.out
          have hnb29 := NB220_222.out
          have hnc29 := NB222_220.out
          have hcz30_0 : wc.cell? ⟨gb220, 0, none⟩ = some (.int .i64 a0_0) := (blk_cell BK220.out 0).trans rfl
          have hcz30_1 : wc.cell? ⟨gb220, 1, none⟩ = some (.int .i64 a0_1) := (blk_cell BK220.out 1).trans rfl
          have hcz30_2 : wc.cell? ⟨gb220, 2, none⟩ = some (.int .i64 a0_2) := (blk_cell BK220.out 2).trans rfl
          have hcz30_3 : wc.cell? ⟨gb220, 3, none⟩ = some (.int .i64 a0_3) := (blk_cell BK220.out 3).trans rfl
          have hfz30_0 := blk_frozen BK220.out 0
          have hfz30_1 := blk_frozen BK220.out 1
          have hfz30_2 := blk_frozen BK220.out 2
          have hfz30_3 := blk_frozen BK220.out 3
          have hnb31 := NB221_222.out
          have hnc31 := NB222_221.out
          have hcz32_0 : wc.cell? ⟨gb221, 0, none⟩ = some (.int .i64 a1_0) := (blk_cell BK221.out 0).trans rfl
          have hcz32_1 : wc.cell? ⟨gb221, 1, none⟩ = some (.int .i64 a1_1) := (blk_cell BK221.out 1).trans rfl
          have hcz32_2 : wc.cell? ⟨gb221, 2, none⟩ = some (.int .i64 a1_2) := (blk_cell BK221.out 2).trans rfl
          have hcz32_3 : wc.cell? ⟨gb221, 3, none⟩ = some (.int .i64 a1_3) := (blk_cell BK221.out 3).trans rfl
          have hfz32_0 := blk_frozen BK221.out 0
          have hfz32_1 := blk_frozen BK221.out 1
          have hfz32_2 := blk_frozen BK221.out 2
          have hfz32_3 := blk_frozen BK221.out 3
          go_wp2_with (first | ((with_reducible refine gate_callee (f := 89) rfl ?_); refine goesL_ (some 17) rfl rfl Try.func89 (by kernel_rfl) rfl #[.agg #[.int .i64 a0_0, .int .i64 a0_1, .int .i64 a0_2, .int .i64 a0_3], .agg #[.int .i64 a1_0, .int .i64 a1_1, .int .i64 a1_2, .int .i64 a1_3]] rfl (by (try simp only [List.map_toArray, List.map_cons, List.map_nil]); first | done | rfl | (simp only [List.length_drop, List.length_take]; rfl)) ?_; (with_reducible refine (impl_Total_joined.calls a0_0 a0_1 a0_2 a0_3 a1_0 a1_1 a1_2 a1_3 t225 t226 t227 t228 _ A25.out).mono ?_); rintro e w33 ⟨rfl, hb⟩; refine ⟨_, rfl, ?_⟩; have n0_ := Aside0.mk (blk_below (g := gb220) (o := .cells #[.int .i64 a0_0, .int .i64 a0_1, .int .i64 a0_2, .int .i64 a0_3] 52 (0, 0)) (by (with_reducible repeat (first | refine blk_drewN ?_ _ | refine blk_drew ?_ | refine blk_alloc ?_ _)); exact BK220.out) hb); have n1_ := Aside0.mk (blk_below (g := gb221) (o := .cells #[.int .i64 a1_0, .int .i64 a1_1, .int .i64 a1_2, .int .i64 a1_3] 52 (0, 0)) (by (with_reducible repeat (first | refine blk_drewN ?_ _ | refine blk_drew ?_ | refine blk_alloc ?_ _)); exact BK221.out) hb); have n2_ := Aside0.mk (blk_below (g := gb222) (o := .cells #[.int .i64 0, .int .i64 0, .int .i64 0, .int .i64 0] 52 (0, 0)) (by (with_reducible repeat (first | refine blk_drewN ?_ _ | refine blk_drew ?_ | refine blk_alloc ?_ _)); exact BK222.out) hb); have n3_ := Aside0.mk (below_step (by repeat (first | (with_reducible first | exact HB.out | apply below_alloc | apply pw_below_drewN | apply below_drew1 | refine below_set ?_ GE220.out | refine below_set ?_ GE221.out | refine below_set ?_ GE222.out) | exact HB.out)) hb); clear BK220; clear BK221; clear BK222; clear HB; have BK220 := n0_; have BK221 := n1_; have BK222 := n2_; have HB := n3_; clear n0_ n1_ n2_ n3_; (try clear hb); (try clear hb2); (try clear hk); (try clear hi)) | ((with_reducible refine gate_dst (N := 5) rfl ?_); refine box_event ?hg (N := 5) ?hd (cs := #[.int .i64 0, .int .i64 0, .int .i64 0, .int .i64 0]) (t := 52) ?hr ?_; (case hd => rfl); (case hg => rfl); (case hr => first | (go_simp; done) | (go_simp; rfl)); intro gb229 hg w34 hbox hb; have n0_ := Aside0.mk (blk_below (g := gb220) (o := .cells #[.int .i64 a0_0, .int .i64 a0_1, .int .i64 a0_2, .int .i64 a0_3] 52 (0, 0)) (by (with_reducible repeat (first | refine blk_drewN ?_ _ | refine blk_drew ?_ | refine blk_alloc ?_ _)); exact BK220.out) hb); have n1_ := Aside0.mk (blk_below (g := gb221) (o := .cells #[.int .i64 a1_0, .int .i64 a1_1, .int .i64 a1_2, .int .i64 a1_3] 52 (0, 0)) (by (with_reducible repeat (first | refine blk_drewN ?_ _ | refine blk_drew ?_ | refine blk_alloc ?_ _)); exact BK221.out) hb); have n2_ := Aside0.mk (blk_below (g := gb222) (o := .cells #[.int .i64 0, .int .i64 0, .int .i64 0, .int .i64 0] 52 (0, 0)) (by (with_reducible repeat (first | refine blk_drewN ?_ _ | refine blk_drew ?_ | refine blk_alloc ?_ _)); exact BK222.out) hb); have n3_ := Aside0.mk (below_step (by repeat (first | (with_reducible first | exact HB.out | apply below_alloc | apply pw_below_drewN | apply below_drew1 | refine below_set ?_ GE220.out | refine below_set ?_ GE221.out | refine below_set ?_ GE222.out) | exact HB.out)) hb); have n4_ := Aside0.mk (hbox); have n5_ := Aside0.mk ((by rw [hg]; exact (below_size (by repeat (first | (with_reducible first | exact HB.out | apply below_alloc | apply pw_below_drewN | apply below_drew1 | refine below_set ?_ GE220.out | refine below_set ?_ GE221.out | refine below_set ?_ GE222.out) | exact HB.out))) : w.heap.size ≤ gb229)); have n6_ := Aside0.mk ((by rw [hg]; exact (below_size (by repeat (first | (with_reducible first | exact HB.out | apply below_alloc | apply pw_below_drewN | apply below_drew1 | refine below_set ?_ GE220.out | refine below_set ?_ GE221.out | refine below_set ?_ GE222.out) | exact HB.out))) : w.heap.size ≤ gb229)); have n7_ := Aside0.mk ((by rw [hg]; exact Nat.ne_of_lt (blk_lt (g := gb220) (o := .cells #[.int .i64 a0_0, .int .i64 a0_1, .int .i64 a0_2, .int .i64 a0_3] 52 (0, 0)) (by (with_reducible repeat (first | refine blk_drewN ?_ _ | refine blk_drew ?_ | refine blk_alloc ?_ _)); exact BK220.out)) : gb220 ≠ gb229)); have n8_ := Aside0.mk ((by rw [hg]; exact Nat.ne_of_gt (blk_lt (g := gb220) (o := .cells #[.int .i64 a0_0, .int .i64 a0_1, .int .i64 a0_2, .int .i64 a0_3] 52 (0, 0)) (by (with_reducible repeat (first | refine blk_drewN ?_ _ | refine blk_drew ?_ | refine blk_alloc ?_ _)); exact BK220.out)) : gb229 ≠ gb220)); have n9_ := Aside0.mk ((by rw [hg]; exact Nat.ne_of_lt (blk_lt (g := gb221) (o := .cells #[.int .i64 a1_0, .int .i64 a1_1, .int .i64 a1_2, .int .i64 a1_3] 52 (0, 0)) (by (with_reducible repeat (first | refine blk_drewN ?_ _ | refine blk_drew ?_ | refine blk_alloc ?_ _)); exact BK221.out)) : gb221 ≠ gb229)); have n10_ := Aside0.mk ((by rw [hg]; exact Nat.ne_of_gt (blk_lt (g := gb221) (o := .cells #[.int .i64 a1_0, .int .i64 a1_1, .int .i64 a1_2, .int .i64 a1_3] 52 (0, 0)) (by (with_reducible repeat (first | refine blk_drewN ?_ _ | refine blk_drew ?_ | refine blk_alloc ?_ _)); exact BK221.out)) : gb229 ≠ gb221)); have n11_ := Aside0.mk ((by rw [hg]; exact Nat.ne_of_lt (blk_lt (g := gb222) (o := .cells #[.int .i64 0, .int .i64 0, .int .i64 0, .int .i64 0] 52 (0, 0)) (by (with_reducible repeat (first | refine blk_drewN ?_ _ | refine blk_drew ?_ | refine blk_alloc ?_ _)); exact BK222.out)) : gb222 ≠ gb229)); have n12_ := Aside0.mk ((by rw [hg]; exact Nat.ne_of_gt (blk_lt (g := gb222) (o := .cells #[.int .i64 0, .int .i64 0, .int .i64 0, .int .i64 0] 52 (0, 0)) (by (with_reducible repeat (first | refine blk_drewN ?_ _ | refine blk_drew ?_ | refine blk_alloc ?_ _)); exact BK222.out)) : gb229 ≠ gb222)); clear BK220; clear BK221; clear BK222; clear HB; have BK220 := n0_; have BK221 := n1_; have BK222 := n2_; have HB := n3_; have BK229 := n4_; have GW229 := n5_; have GE229 := n6_; have NB220_229 := n7_; have NB229_220 := n8_; have NB221_229 := n9_; have NB229_221 := n10_; have NB222_229 := n11_; have NB229_222 := n12_; clear n0_ n1_ n2_ n3_ n4_ n5_ n6_ n7_ n8_ n9_ n10_ n11_ n12_; clear hb hbox hg; have hnb35 := NB229_220.out; have hnc35 := NB220_229.out; have hnb36 := NB229_221.out; have hnc36 := NB221_229.out; have hnb37 := NB229_222.out; have hnc37 := NB222_229.out; have hcz38_0 : w34.cell? ⟨gb229, 0, none⟩ = some (.int .i64 0) := (blk_cell BK229.out 0).trans rfl; have hcz38_1 : w34.cell? ⟨gb229, 1, none⟩ = some (.int .i64 0) := (blk_cell BK229.out 1).trans rfl; have hcz38_2 : w34.cell? ⟨gb229, 2, none⟩ = some (.int .i64 0) := (blk_cell BK229.out 2).trans rfl; have hcz38_3 : w34.cell? ⟨gb229, 3, none⟩ = some (.int .i64 0) := (blk_cell BK229.out 3).trans rfl; have hfz38_0 := blk_frozen BK229.out 0; have hfz38_1 := blk_frozen BK229.out 1; have hfz38_2 := blk_frozen BK229.out 2; have hfz38_3 := blk_frozen BK229.out 3) | ((with_reducible refine gate_callee (f := 88) rfl ?_); refine goesL_ (some 19) rfl rfl Try.func88 (by kernel_rfl) rfl #[.agg #[.int .i64 t225, .int .i64 t226, .int .i64 t227, .int .i64 t228]] rfl (by (try simp only [List.map_toArray, List.map_cons, List.map_nil]); first | done | rfl | (simp only [List.length_drop, List.length_take]; rfl)) ?_; (with_reducible refine (impl_TotalValid.calls kj2 t225 t226 t227 t228 true _ A26.out).mono ?_); rintro e w39 ⟨rfl, hb⟩; refine ⟨_, rfl, ?_⟩; have n0_ := Aside0.mk (blk_below (g := gb220) (o := .cells #[.int .i64 a0_0, .int .i64 a0_1, .int .i64 a0_2, .int .i64 a0_3] 52 (0, 0)) (by (with_reducible repeat (first | refine blk_drewN ?_ _ | refine blk_drew ?_ | refine blk_alloc ?_ _)); refine blk_far ?_ NB220_229.out _; (with_reducible repeat (first | refine blk_drewN ?_ _ | refine blk_drew ?_ | refine blk_alloc ?_ _)); refine blk_far ?_ NB220_229.out _; (with_reducible repeat (first | refine blk_drewN ?_ _ | refine blk_drew ?_ | refine blk_alloc ?_ _)); refine blk_far ?_ NB220_229.out _; (with_reducible repeat (first | refine blk_drewN ?_ _ | refine blk_drew ?_ | refine blk_alloc ?_ _)); refine blk_far ?_ NB220_229.out _; (with_reducible repeat (first | refine blk_drewN ?_ _ | refine blk_drew ?_ | refine blk_alloc ?_ _)); exact BK220.out) hb); have n1_ := Aside0.mk (blk_below (g := gb221) (o := .cells #[.int .i64 a1_0, .int .i64 a1_1, .int .i64 a1_2, .int .i64 a1_3] 52 (0, 0)) (by (with_reducible repeat (first | refine blk_drewN ?_ _ | refine blk_drew ?_ | refine blk_alloc ?_ _)); refine blk_far ?_ NB221_229.out _; (with_reducible repeat (first | refine blk_drewN ?_ _ | refine blk_drew ?_ | refine blk_alloc ?_ _)); refine blk_far ?_ NB221_229.out _; (with_reducible repeat (first | refine blk_drewN ?_ _ | refine blk_drew ?_ | refine blk_alloc ?_ _)); refine blk_far ?_ NB221_229.out _; (with_reducible repeat (first | refine blk_drewN ?_ _ | refine blk_drew ?_ | refine blk_alloc ?_ _)); refine blk_far ?_ NB221_229.out _; (with_reducible repeat (first | refine blk_drewN ?_ _ | refine blk_drew ?_ | refine blk_alloc ?_ _)); exact BK221.out) hb); have n2_ := Aside0.mk (blk_below (g := gb222) (o := .cells #[.int .i64 0, .int .i64 0, .int .i64 0, .int .i64 0] 52 (0, 0)) (by (with_reducible repeat (first | refine blk_drewN ?_ _ | refine blk_drew ?_ | refine blk_alloc ?_ _)); refine blk_far ?_ NB222_229.out _; (with_reducible repeat (first | refine blk_drewN ?_ _ | refine blk_drew ?_ | refine blk_alloc ?_ _)); refine blk_far ?_ NB222_229.out _; (with_reducible repeat (first | refine blk_drewN ?_ _ | refine blk_drew ?_ | refine blk_alloc ?_ _)); refine blk_far ?_ NB222_229.out _; (with_reducible repeat (first | refine blk_drewN ?_ _ | refine blk_drew ?_ | refine blk_alloc ?_ _)); refine blk_far ?_ NB222_229.out _; (with_reducible repeat (first | refine blk_drewN ?_ _ | refine blk_drew ?_ | refine blk_alloc ?_ _)); exact BK222.out) hb); have n3_ := Aside0.mk (blk_below (g := gb229) (o := .cells #[.int .i64 t225, .int .i64 t226, .int .i64 t227, .int .i64 t228] 52 (0, 0)) (by (with_reducible repeat (first | refine blk_drewN ?_ _ | refine blk_drew ?_ | refine blk_alloc ?_ _)); refine blk_put (cs := #[.int .i64 t225, .int .i64 t226, .int .i64 t227, .int .i64 0]) ?_ 3 _ rfl; (with_reducible repeat (first | refine blk_drewN ?_ _ | refine blk_drew ?_ | refine blk_alloc ?_ _)); refine blk_put (cs := #[.int .i64 t225, .int .i64 t226, .int .i64 0, .int .i64 0]) ?_ 2 _ rfl; (with_reducible repeat (first | refine blk_drewN ?_ _ | refine blk_drew ?_ | refine blk_alloc ?_ _)); refine blk_put (cs := #[.int .i64 t225, .int .i64 0, .int .i64 0, .int .i64 0]) ?_ 1 _ rfl; (with_reducible repeat (first | refine blk_drewN ?_ _ | refine blk_drew ?_ | refine blk_alloc ?_ _)); refine blk_put (cs := #[.int .i64 0, .int .i64 0, .int .i64 0, .int .i64 0]) ?_ 0 _ rfl; (with_reducible repeat (first | refine blk_drewN ?_ _ | refine blk_drew ?_ | refine blk_alloc ?_ _)); exact BK229.out) hb); have n4_ := Aside0.mk (below_step (by repeat (first | (with_reducible first | exact HB.out | apply below_alloc | apply pw_below_drewN | apply below_drew1 | refine below_set ?_ GE220.out | refine below_set ?_ GE221.out | refine below_set ?_ GE222.out | refine below_set ?_ GE229.out) | exact HB.out)) hb); clear BK220; clear BK221; clear BK222; clear BK229; clear HB; have BK220 := n0_; have BK221 := n1_; have BK222 := n2_; have BK229 := n3_; have HB := n4_; clear n0_ n1_ n2_ n3_ n4_; (try clear hb); (try clear hb2); (try clear hk); (try clear hi); have hcz40_0 : w39.cell? ⟨gb229, 0, none⟩ = some (.int .i64 t225) := (blk_cell BK229.out 0).trans rfl; have hcz40_1 : w39.cell? ⟨gb229, 1, none⟩ = some (.int .i64 t226) := (blk_cell BK229.out 1).trans rfl; have hcz40_2 : w39.cell? ⟨gb229, 2, none⟩ = some (.int .i64 t227) := (blk_cell BK229.out 2).trans rfl; have hcz40_3 : w39.cell? ⟨gb229, 3, none⟩ = some (.int .i64 t228) := (blk_cell BK229.out 3).trans rfl; have hfz40_0 := blk_frozen BK229.out 0; have hfz40_1 := blk_frozen BK229.out 1; have hfz40_2 := blk_frozen BK229.out 2; have hfz40_3 := blk_frozen BK229.out 3; have hcz41_0 : w39.cell? ⟨gb222, 0, none⟩ = some (.int .i64 0) := (blk_cell BK222.out 0).trans rfl; have hcz41_1 : w39.cell? ⟨gb222, 1, none⟩ = some (.int .i64 0) := (blk_cell BK222.out 1).trans rfl; have hcz41_2 : w39.cell? ⟨gb222, 2, none⟩ = some (.int .i64 0) := (blk_cell BK222.out 2).trans rfl; have hcz41_3 : w39.cell? ⟨gb222, 3, none⟩ = some (.int .i64 0) := (blk_cell BK222.out 3).trans rfl; have hfz41_0 := blk_frozen BK222.out 0; have hfz41_1 := blk_frozen BK222.out 1; have hfz41_2 := blk_frozen BK222.out 2; have hfz41_3 := blk_frozen BK222.out 3))
          refine bodyPost_ret (results_cell_row rfl _ _ gb222 52 #[.int .i64 t225, .int .i64 t226, .int .i64 t227, .int .i64 t228] (0, 0) _ rfl (by (with_reducible repeat (first | refine blk_drewN ?_ _ | refine blk_drew ?_ | refine blk_alloc ?_ _)); refine blk_put (cs := #[.int .i64 t225, .int .i64 t226, .int .i64 t227, .int .i64 0]) ?_ 3 _ rfl; (with_reducible repeat (first | refine blk_drewN ?_ _ | refine blk_drew ?_ | refine blk_alloc ?_ _)); refine blk_put (cs := #[.int .i64 t225, .int .i64 t226, .int .i64 0, .int .i64 0]) ?_ 2 _ rfl; (with_reducible repeat (first | refine blk_drewN ?_ _ | refine blk_drew ?_ | refine blk_alloc ?_ _)); refine blk_put (cs := #[.int .i64 t225, .int .i64 0, .int .i64 0, .int .i64 0]) ?_ 1 _ rfl; (with_reducible repeat (first | refine blk_drewN ?_ _ | refine blk_drew ?_ | refine blk_alloc ?_ _)); refine blk_put (cs := #[.int .i64 0, .int .i64 0, .int .i64 0, .int .i64 0]) ?_ 0 _ rfl; (with_reducible repeat (first | refine blk_drewN ?_ _ | refine blk_drew ?_ | refine blk_alloc ?_ _)); exact BK222.out) Try.underlying52 rfl (by kernel_rfl)) rfl ?_
          exact ⟨by first | rfl | (simp [errW_none, errW_some] <;> rfl) | (simp [*, errW_none, errW_some] <;> rfl), by repeat (first | (with_reducible first | exact HB.out | apply below_alloc | apply pw_below_drewN | apply below_drew1 | refine below_set ?_ GE220.out | refine below_set ?_ GE221.out | refine below_set ?_ GE222.out | refine below_set ?_ GE229.out) | exact HB.out)⟩
        · replace c27 := Bool.eq_false_iff.mpr c27
          subst c27
          have H1 : (some (0, 0, 0, 0)) = some (r1, r2, r3, r4) := by rw [if_neg (show ¬ (false = true) by decide)] at H; exact H
          clear H
          have H := H1
          clear H1
          simp only [Option.some.injEq, Prod.mk.injEq] at H
          obtain ⟨rfl, rfl, rfl, rfl⟩ := H
          have hnb42 := NB220_221.out
          have hnc42 := NB221_220.out
          have hnb43 := NB220_222.out
          have hnc43 := NB222_220.out
          have hcz44_0 : wc.cell? ⟨gb220, 0, none⟩ = some (.int .i64 a0_0) := (blk_cell BK220.out 0).trans rfl
          have hcz44_1 : wc.cell? ⟨gb220, 1, none⟩ = some (.int .i64 a0_1) := (blk_cell BK220.out 1).trans rfl
          have hcz44_2 : wc.cell? ⟨gb220, 2, none⟩ = some (.int .i64 a0_2) := (blk_cell BK220.out 2).trans rfl
          have hcz44_3 : wc.cell? ⟨gb220, 3, none⟩ = some (.int .i64 a0_3) := (blk_cell BK220.out 3).trans rfl
          have hfz44_0 := blk_frozen BK220.out 0
          have hfz44_1 := blk_frozen BK220.out 1
          have hfz44_2 := blk_frozen BK220.out 2
          have hfz44_3 := blk_frozen BK220.out 3
          have hnb45 := NB221_222.out
          have hnc45 := NB222_221.out
          have hcz46_0 : wc.cell? ⟨gb221, 0, none⟩ = some (.int .i64 a1_0) := (blk_cell BK221.out 0).trans rfl
          have hcz46_1 : wc.cell? ⟨gb221, 1, none⟩ = some (.int .i64 a1_1) := (blk_cell BK221.out 1).trans rfl
          have hcz46_2 : wc.cell? ⟨gb221, 2, none⟩ = some (.int .i64 a1_2) := (blk_cell BK221.out 2).trans rfl
          have hcz46_3 : wc.cell? ⟨gb221, 3, none⟩ = some (.int .i64 a1_3) := (blk_cell BK221.out 3).trans rfl
          have hfz46_0 := blk_frozen BK221.out 0
          have hfz46_1 := blk_frozen BK221.out 1
          have hfz46_2 := blk_frozen BK221.out 2
          have hfz46_3 := blk_frozen BK221.out 3
          go_wp2_with (first | ((with_reducible refine gate_callee (f := 89) rfl ?_); refine goesL_ (some 17) rfl rfl Try.func89 (by kernel_rfl) rfl #[.agg #[.int .i64 a0_0, .int .i64 a0_1, .int .i64 a0_2, .int .i64 a0_3], .agg #[.int .i64 a1_0, .int .i64 a1_1, .int .i64 a1_2, .int .i64 a1_3]] rfl (by (try simp only [List.map_toArray, List.map_cons, List.map_nil]); first | done | rfl | (simp only [List.length_drop, List.length_take]; rfl)) ?_; (with_reducible refine (impl_Total_joined.calls a0_0 a0_1 a0_2 a0_3 a1_0 a1_1 a1_2 a1_3 t225 t226 t227 t228 _ A25.out).mono ?_); rintro e w47 ⟨rfl, hb⟩; refine ⟨_, rfl, ?_⟩; have n0_ := Aside0.mk (blk_below (g := gb220) (o := .cells #[.int .i64 a0_0, .int .i64 a0_1, .int .i64 a0_2, .int .i64 a0_3] 52 (0, 0)) (by (with_reducible repeat (first | refine blk_drewN ?_ _ | refine blk_drew ?_ | refine blk_alloc ?_ _)); exact BK220.out) hb); have n1_ := Aside0.mk (blk_below (g := gb221) (o := .cells #[.int .i64 a1_0, .int .i64 a1_1, .int .i64 a1_2, .int .i64 a1_3] 52 (0, 0)) (by (with_reducible repeat (first | refine blk_drewN ?_ _ | refine blk_drew ?_ | refine blk_alloc ?_ _)); exact BK221.out) hb); have n2_ := Aside0.mk (blk_below (g := gb222) (o := .cells #[.int .i64 0, .int .i64 0, .int .i64 0, .int .i64 0] 52 (0, 0)) (by (with_reducible repeat (first | refine blk_drewN ?_ _ | refine blk_drew ?_ | refine blk_alloc ?_ _)); exact BK222.out) hb); have n3_ := Aside0.mk (below_step (by repeat (first | (with_reducible first | exact HB.out | apply below_alloc | apply pw_below_drewN | apply below_drew1 | refine below_set ?_ GE220.out | refine below_set ?_ GE221.out | refine below_set ?_ GE222.out) | exact HB.out)) hb); clear BK220; clear BK221; clear BK222; clear HB; have BK220 := n0_; have BK221 := n1_; have BK222 := n2_; have HB := n3_; clear n0_ n1_ n2_ n3_; (try clear hb); (try clear hb2); (try clear hk); (try clear hi)) | ((with_reducible refine gate_dst (N := 5) rfl ?_); refine box_event ?hg (N := 5) ?hd (cs := #[.int .i64 0, .int .i64 0, .int .i64 0, .int .i64 0]) (t := 52) ?hr ?_; (case hd => rfl); (case hg => rfl); (case hr => first | (go_simp; done) | (go_simp; rfl)); intro gb229 hg w48 hbox hb; have n0_ := Aside0.mk (blk_below (g := gb220) (o := .cells #[.int .i64 a0_0, .int .i64 a0_1, .int .i64 a0_2, .int .i64 a0_3] 52 (0, 0)) (by (with_reducible repeat (first | refine blk_drewN ?_ _ | refine blk_drew ?_ | refine blk_alloc ?_ _)); exact BK220.out) hb); have n1_ := Aside0.mk (blk_below (g := gb221) (o := .cells #[.int .i64 a1_0, .int .i64 a1_1, .int .i64 a1_2, .int .i64 a1_3] 52 (0, 0)) (by (with_reducible repeat (first | refine blk_drewN ?_ _ | refine blk_drew ?_ | refine blk_alloc ?_ _)); exact BK221.out) hb); have n2_ := Aside0.mk (blk_below (g := gb222) (o := .cells #[.int .i64 0, .int .i64 0, .int .i64 0, .int .i64 0] 52 (0, 0)) (by (with_reducible repeat (first | refine blk_drewN ?_ _ | refine blk_drew ?_ | refine blk_alloc ?_ _)); exact BK222.out) hb); have n3_ := Aside0.mk (below_step (by repeat (first | (with_reducible first | exact HB.out | apply below_alloc | apply pw_below_drewN | apply below_drew1 | refine below_set ?_ GE220.out | refine below_set ?_ GE221.out | refine below_set ?_ GE222.out) | exact HB.out)) hb); have n4_ := Aside0.mk (hbox); have n5_ := Aside0.mk ((by rw [hg]; exact (below_size (by repeat (first | (with_reducible first | exact HB.out | apply below_alloc | apply pw_below_drewN | apply below_drew1 | refine below_set ?_ GE220.out | refine below_set ?_ GE221.out | refine below_set ?_ GE222.out) | exact HB.out))) : w.heap.size ≤ gb229)); have n6_ := Aside0.mk ((by rw [hg]; exact (below_size (by repeat (first | (with_reducible first | exact HB.out | apply below_alloc | apply pw_below_drewN | apply below_drew1 | refine below_set ?_ GE220.out | refine below_set ?_ GE221.out | refine below_set ?_ GE222.out) | exact HB.out))) : w.heap.size ≤ gb229)); have n7_ := Aside0.mk ((by rw [hg]; exact Nat.ne_of_lt (blk_lt (g := gb220) (o := .cells #[.int .i64 a0_0, .int .i64 a0_1, .int .i64 a0_2, .int .i64 a0_3] 52 (0, 0)) (by (with_reducible repeat (first | refine blk_drewN ?_ _ | refine blk_drew ?_ | refine blk_alloc ?_ _)); exact BK220.out)) : gb220 ≠ gb229)); have n8_ := Aside0.mk ((by rw [hg]; exact Nat.ne_of_gt (blk_lt (g := gb220) (o := .cells #[.int .i64 a0_0, .int .i64 a0_1, .int .i64 a0_2, .int .i64 a0_3] 52 (0, 0)) (by (with_reducible repeat (first | refine blk_drewN ?_ _ | refine blk_drew ?_ | refine blk_alloc ?_ _)); exact BK220.out)) : gb229 ≠ gb220)); have n9_ := Aside0.mk ((by rw [hg]; exact Nat.ne_of_lt (blk_lt (g := gb221) (o := .cells #[.int .i64 a1_0, .int .i64 a1_1, .int .i64 a1_2, .int .i64 a1_3] 52 (0, 0)) (by (with_reducible repeat (first | refine blk_drewN ?_ _ | refine blk_drew ?_ | refine blk_alloc ?_ _)); exact BK221.out)) : gb221 ≠ gb229)); have n10_ := Aside0.mk ((by rw [hg]; exact Nat.ne_of_gt (blk_lt (g := gb221) (o := .cells #[.int .i64 a1_0, .int .i64 a1_1, .int .i64 a1_2, .int .i64 a1_3] 52 (0, 0)) (by (with_reducible repeat (first | refine blk_drewN ?_ _ | refine blk_drew ?_ | refine blk_alloc ?_ _)); exact BK221.out)) : gb229 ≠ gb221)); have n11_ := Aside0.mk ((by rw [hg]; exact Nat.ne_of_lt (blk_lt (g := gb222) (o := .cells #[.int .i64 0, .int .i64 0, .int .i64 0, .int .i64 0] 52 (0, 0)) (by (with_reducible repeat (first | refine blk_drewN ?_ _ | refine blk_drew ?_ | refine blk_alloc ?_ _)); exact BK222.out)) : gb222 ≠ gb229)); have n12_ := Aside0.mk ((by rw [hg]; exact Nat.ne_of_gt (blk_lt (g := gb222) (o := .cells #[.int .i64 0, .int .i64 0, .int .i64 0, .int .i64 0] 52 (0, 0)) (by (with_reducible repeat (first | refine blk_drewN ?_ _ | refine blk_drew ?_ | refine blk_alloc ?_ _)); exact BK222.out)) : gb229 ≠ gb222)); clear BK220; clear BK221; clear BK222; clear HB; have BK220 := n0_; have BK221 := n1_; have BK222 := n2_; have HB := n3_; have BK229 := n4_; have GW229 := n5_; have GE229 := n6_; have NB220_229 := n7_; have NB229_220 := n8_; have NB221_229 := n9_; have NB229_221 := n10_; have NB222_229 := n11_; have NB229_222 := n12_; clear n0_ n1_ n2_ n3_ n4_ n5_ n6_ n7_ n8_ n9_ n10_ n11_ n12_; clear hb hbox hg; have hnb49 := NB229_220.out; have hnc49 := NB220_229.out; have hnb50 := NB229_221.out; have hnc50 := NB221_229.out; have hnb51 := NB229_222.out; have hnc51 := NB222_229.out; have hcz52_0 : w48.cell? ⟨gb229, 0, none⟩ = some (.int .i64 0) := (blk_cell BK229.out 0).trans rfl; have hcz52_1 : w48.cell? ⟨gb229, 1, none⟩ = some (.int .i64 0) := (blk_cell BK229.out 1).trans rfl; have hcz52_2 : w48.cell? ⟨gb229, 2, none⟩ = some (.int .i64 0) := (blk_cell BK229.out 2).trans rfl; have hcz52_3 : w48.cell? ⟨gb229, 3, none⟩ = some (.int .i64 0) := (blk_cell BK229.out 3).trans rfl; have hfz52_0 := blk_frozen BK229.out 0; have hfz52_1 := blk_frozen BK229.out 1; have hfz52_2 := blk_frozen BK229.out 2; have hfz52_3 := blk_frozen BK229.out 3) | ((with_reducible refine gate_callee (f := 88) rfl ?_); refine goesL_ (some 19) rfl rfl Try.func88 (by kernel_rfl) rfl #[.agg #[.int .i64 t225, .int .i64 t226, .int .i64 t227, .int .i64 t228]] rfl (by (try simp only [List.map_toArray, List.map_cons, List.map_nil]); first | done | rfl | (simp only [List.length_drop, List.length_take]; rfl)) ?_; (with_reducible refine (impl_TotalValid.calls kj2 t225 t226 t227 t228 false _ A26.out).mono ?_); rintro e w53 ⟨rfl, hb⟩; refine ⟨_, rfl, ?_⟩; have n0_ := Aside0.mk (blk_below (g := gb220) (o := .cells #[.int .i64 a0_0, .int .i64 a0_1, .int .i64 a0_2, .int .i64 a0_3] 52 (0, 0)) (by (with_reducible repeat (first | refine blk_drewN ?_ _ | refine blk_drew ?_ | refine blk_alloc ?_ _)); refine blk_far ?_ NB220_229.out _; (with_reducible repeat (first | refine blk_drewN ?_ _ | refine blk_drew ?_ | refine blk_alloc ?_ _)); refine blk_far ?_ NB220_229.out _; (with_reducible repeat (first | refine blk_drewN ?_ _ | refine blk_drew ?_ | refine blk_alloc ?_ _)); refine blk_far ?_ NB220_229.out _; (with_reducible repeat (first | refine blk_drewN ?_ _ | refine blk_drew ?_ | refine blk_alloc ?_ _)); refine blk_far ?_ NB220_229.out _; (with_reducible repeat (first | refine blk_drewN ?_ _ | refine blk_drew ?_ | refine blk_alloc ?_ _)); exact BK220.out) hb); have n1_ := Aside0.mk (blk_below (g := gb221) (o := .cells #[.int .i64 a1_0, .int .i64 a1_1, .int .i64 a1_2, .int .i64 a1_3] 52 (0, 0)) (by (with_reducible repeat (first | refine blk_drewN ?_ _ | refine blk_drew ?_ | refine blk_alloc ?_ _)); refine blk_far ?_ NB221_229.out _; (with_reducible repeat (first | refine blk_drewN ?_ _ | refine blk_drew ?_ | refine blk_alloc ?_ _)); refine blk_far ?_ NB221_229.out _; (with_reducible repeat (first | refine blk_drewN ?_ _ | refine blk_drew ?_ | refine blk_alloc ?_ _)); refine blk_far ?_ NB221_229.out _; (with_reducible repeat (first | refine blk_drewN ?_ _ | refine blk_drew ?_ | refine blk_alloc ?_ _)); refine blk_far ?_ NB221_229.out _; (with_reducible repeat (first | refine blk_drewN ?_ _ | refine blk_drew ?_ | refine blk_alloc ?_ _)); exact BK221.out) hb); have n2_ := Aside0.mk (blk_below (g := gb222) (o := .cells #[.int .i64 0, .int .i64 0, .int .i64 0, .int .i64 0] 52 (0, 0)) (by (with_reducible repeat (first | refine blk_drewN ?_ _ | refine blk_drew ?_ | refine blk_alloc ?_ _)); refine blk_far ?_ NB222_229.out _; (with_reducible repeat (first | refine blk_drewN ?_ _ | refine blk_drew ?_ | refine blk_alloc ?_ _)); refine blk_far ?_ NB222_229.out _; (with_reducible repeat (first | refine blk_drewN ?_ _ | refine blk_drew ?_ | refine blk_alloc ?_ _)); refine blk_far ?_ NB222_229.out _; (with_reducible repeat (first | refine blk_drewN ?_ _ | refine blk_drew ?_ | refine blk_alloc ?_ _)); refine blk_far ?_ NB222_229.out _; (with_reducible repeat (first | refine blk_drewN ?_ _ | refine blk_drew ?_ | refine blk_alloc ?_ _)); exact BK222.out) hb); have n3_ := Aside0.mk (blk_below (g := gb229) (o := .cells #[.int .i64 t225, .int .i64 t226, .int .i64 t227, .int .i64 t228] 52 (0, 0)) (by (with_reducible repeat (first | refine blk_drewN ?_ _ | refine blk_drew ?_ | refine blk_alloc ?_ _)); refine blk_put (cs := #[.int .i64 t225, .int .i64 t226, .int .i64 t227, .int .i64 0]) ?_ 3 _ rfl; (with_reducible repeat (first | refine blk_drewN ?_ _ | refine blk_drew ?_ | refine blk_alloc ?_ _)); refine blk_put (cs := #[.int .i64 t225, .int .i64 t226, .int .i64 0, .int .i64 0]) ?_ 2 _ rfl; (with_reducible repeat (first | refine blk_drewN ?_ _ | refine blk_drew ?_ | refine blk_alloc ?_ _)); refine blk_put (cs := #[.int .i64 t225, .int .i64 0, .int .i64 0, .int .i64 0]) ?_ 1 _ rfl; (with_reducible repeat (first | refine blk_drewN ?_ _ | refine blk_drew ?_ | refine blk_alloc ?_ _)); refine blk_put (cs := #[.int .i64 0, .int .i64 0, .int .i64 0, .int .i64 0]) ?_ 0 _ rfl; (with_reducible repeat (first | refine blk_drewN ?_ _ | refine blk_drew ?_ | refine blk_alloc ?_ _)); exact BK229.out) hb); have n4_ := Aside0.mk (below_step (by repeat (first | (with_reducible first | exact HB.out | apply below_alloc | apply pw_below_drewN | apply below_drew1 | refine below_set ?_ GE220.out | refine below_set ?_ GE221.out | refine below_set ?_ GE222.out | refine below_set ?_ GE229.out) | exact HB.out)) hb); clear BK220; clear BK221; clear BK222; clear BK229; clear HB; have BK220 := n0_; have BK221 := n1_; have BK222 := n2_; have BK229 := n3_; have HB := n4_; clear n0_ n1_ n2_ n3_ n4_; (try clear hb); (try clear hb2); (try clear hk); (try clear hi); have hcz54_0 : w53.cell? ⟨gb222, 0, none⟩ = some (.int .i64 0) := (blk_cell BK222.out 0).trans rfl; have hcz54_1 : w53.cell? ⟨gb222, 1, none⟩ = some (.int .i64 0) := (blk_cell BK222.out 1).trans rfl; have hcz54_2 : w53.cell? ⟨gb222, 2, none⟩ = some (.int .i64 0) := (blk_cell BK222.out 2).trans rfl; have hcz54_3 : w53.cell? ⟨gb222, 3, none⟩ = some (.int .i64 0) := (blk_cell BK222.out 3).trans rfl; have hfz54_0 := blk_frozen BK222.out 0; have hfz54_1 := blk_frozen BK222.out 1; have hfz54_2 := blk_frozen BK222.out 2; have hfz54_3 := blk_frozen BK222.out 3))
          refine bodyPost_ret (results_cell_row rfl _ _ gb222 52 #[.int .i64 0, .int .i64 0, .int .i64 0, .int .i64 0] (0, 0) _ rfl (by (with_reducible repeat (first | refine blk_drewN ?_ _ | refine blk_drew ?_ | refine blk_alloc ?_ _)); refine blk_put (cs := #[.int .i64 0, .int .i64 0, .int .i64 0, .int .i64 0]) ?_ 3 _ rfl; (with_reducible repeat (first | refine blk_drewN ?_ _ | refine blk_drew ?_ | refine blk_alloc ?_ _)); refine blk_put (cs := #[.int .i64 0, .int .i64 0, .int .i64 0, .int .i64 0]) ?_ 2 _ rfl; (with_reducible repeat (first | refine blk_drewN ?_ _ | refine blk_drew ?_ | refine blk_alloc ?_ _)); refine blk_put (cs := #[.int .i64 0, .int .i64 0, .int .i64 0, .int .i64 0]) ?_ 1 _ rfl; (with_reducible repeat (first | refine blk_drewN ?_ _ | refine blk_drew ?_ | refine blk_alloc ?_ _)); refine blk_put (cs := #[.int .i64 0, .int .i64 0, .int .i64 0, .int .i64 0]) ?_ 0 _ rfl; (with_reducible repeat (first | refine blk_drewN ?_ _ | refine blk_drew ?_ | refine blk_alloc ?_ _)); exact BK222.out) Try.underlying52 rfl (by kernel_rfl)) rfl ?_
          exact ⟨by first | rfl | (simp [errW_none, errW_some] <;> rfl) | (simp [*, errW_none, errW_some] <;> rfl), by repeat (first | (with_reducible first | exact HB.out | apply below_alloc | apply pw_below_drewN | apply below_drew1 | refine below_set ?_ GE220.out | refine below_set ?_ GE221.out | refine below_set ?_ GE222.out | refine below_set ?_ GE229.out) | exact HB.out)⟩

/-! ### impl_TotalOf: function 38 -/
mutual
def impl_TotalOf.j0 : Nat → List Int → Bool → Option (Int × Int × Int × Int)
  | 0, _, _ => none
  | k + 1, x0, x13 => if x13 = true then (some (0, 0, 0, 0)) else ((impl_noTotal.f).bind fun bt233 => (impl_TotalOf.l0 k x0 (x0.length : Int) 0 bt233.1 bt233.2.1 bt233.2.2.1 bt233.2.2.2))
def impl_TotalOf.l0 : Nat → List Int → Int → Int → Int → Int → Int → Int → Option (Int × Int × Int × Int)
  | 0, _, _, _, _, _, _, _ => none
  | k + 1, x16, x17, x18, x238000, x238001, x238002, x238003 => if x18 < x17 then (if 0 ≤ x18 then (if x18 < (x16.length : Int) then ((impl_Total_with.f x238000 x238001 x238002 x238003 (rd x16 x18)).bind fun bt239 => (impl_TotalOf.l0 k x16 x17 (wrap64 (x18 + 1)) bt239.1 bt239.2.1 bt239.2.2.1 bt239.2.2.2)) else (none)) else (none)) else (some (x238000, x238001, x238002, x238003))
end
def impl_TotalOf.f (k : Nat) (l0 : List Int) : Option (Int × Int × Int × Int) := if (l0.length : Int) > 16 then (impl_TotalOf.j0 k l0 true) else ((impl_valuesFit.f k l0).bind fun t232 => (impl_TotalOf.j0 k l0 (!t232)))
theorem impl_TotalOf.mono_l : ∀ k, (∀ y0 y1, LeO (impl_TotalOf.j0 k y0 y1) (impl_TotalOf.j0 (k + 1) y0 y1)) ∧ (∀ y0 y1 y2 y3 y4 y5 y6, LeO (impl_TotalOf.l0 k y0 y1 y2 y3 y4 y5 y6) (impl_TotalOf.l0 (k + 1) y0 y1 y2 y3 y4 y5 y6))
  | 0 => ⟨fun _ _ r h => by simp [impl_TotalOf.j0] at h, fun _ _ _ _ _ _ _ r h => by simp [impl_TotalOf.l0] at h⟩
  | k + 1 => by
    obtain ⟨ih0, ih1⟩ := impl_TotalOf.mono_l k
    refine ⟨?_, ?_⟩
    · intro y0 y1
      unfold impl_TotalOf.j0
      repeat' first
      | (with_reducible exact ih0 _ _)
      | (with_reducible exact ih1 _ _ _ _ _ _ _)
      | (with_reducible exact impl_valuesFit.mono _ _)
      | (with_reducible exact LeO.refl _)
      | (with_reducible exact LeO.none _)
      | (with_reducible refine LeO.ite ?_ ?_)
      | (with_reducible refine LeO.bind ?_ (fun _ => ?_))
      | exact ih0 _ _
      | exact ih1 _ _ _ _ _ _ _
      | exact impl_valuesFit.mono _ _
      | exact LeO.none _
      | refine LeO.ite ?_ ?_
      | refine LeO.bind ?_ (fun _ => ?_)
    · intro y0 y1 y2 y3 y4 y5 y6
      unfold impl_TotalOf.l0
      repeat' first
      | (with_reducible exact ih0 _ _)
      | (with_reducible exact ih1 _ _ _ _ _ _ _)
      | (with_reducible exact impl_valuesFit.mono _ _)
      | (with_reducible exact LeO.refl _)
      | (with_reducible exact LeO.none _)
      | (with_reducible refine LeO.ite ?_ ?_)
      | (with_reducible refine LeO.bind ?_ (fun _ => ?_))
      | exact ih0 _ _
      | exact ih1 _ _ _ _ _ _ _
      | exact impl_valuesFit.mono _ _
      | exact LeO.none _
      | refine LeO.ite ?_ ?_
      | refine LeO.bind ?_ (fun _ => ?_)
theorem impl_TotalOf.mono : ∀ a0 k, LeO (impl_TotalOf.f k a0) (impl_TotalOf.f (k + 1) a0) := by
  intro a0 k
  obtain ⟨ih0, ih1⟩ := impl_TotalOf.mono_l k
  unfold impl_TotalOf.f
  repeat' first
      | (with_reducible exact ih0 _ _)
      | (with_reducible exact ih1 _ _ _ _ _ _ _)
      | (with_reducible exact impl_valuesFit.mono _ _)
      | (with_reducible exact LeO.refl _)
      | (with_reducible exact LeO.none _)
      | (with_reducible refine LeO.ite ?_ ?_)
      | (with_reducible refine LeO.bind ?_ (fun _ => ?_))
      | exact ih0 _ _
      | exact ih1 _ _ _ _ _ _ _
      | exact impl_valuesFit.mono _ _
      | exact LeO.none _
      | refine LeO.ite ?_ ?_
      | refine LeO.bind ?_ (fun _ => ?_)
set_option maxHeartbeats 8000000 in
set_option maxRecDepth 100000 in
theorem impl_TotalOf.calls (k : Nat) (A0 : Option Addr) (c0 : Nat) (l0 : List Int) (r1 : Int) (r2 : Int) (r3 : Int) (r4 : Int) (w : World) (hr0 : Kd.C (Kd.int .i64) w A0 l0.length l0) (hc0 : l0.length ≤ c0) (h : impl_TotalOf.f k l0 = some (r1, r2, r3, r4)) :
    Calls Try.prog 38 #[.slice A0 l0.length c0] w fun e w' => e = .returned (.agg #[.int .i64 r1, .int .i64 r2, .int .i64 r3, .int .i64 r4]) ∧ Below w.heap.size w w' := by
  have hu52 := Try.underlying52
  have HR0 := Aside0.mk hr0
  have HC0 := Aside0.mk hc0
  clear hr0 hc0
  have HB := Aside0.mk (Below.refl w.heap.size w)
  have H : (if (l0.length : Int) > 16 then (impl_TotalOf.j0 k l0 true) else ((impl_valuesFit.f k l0).bind fun t232 => (impl_TotalOf.j0 k l0 (!t232)))) = some (r1, r2, r3, r4) := h
  clear h
  have HC2 := Aside0.mk H
  clear H
  go_enter Try.func38, Try.ntmps38
  go_upto_region 1 with (first | ((with_reducible refine gate_dst (N := 2) rfl ?_); refine box_event ?hg (N := 2) ?hd (cs := #[.int .i64 0, .int .i64 0, .int .i64 0, .int .i64 0]) (t := 52) ?hr ?_; (case hd => rfl); (case hg => rfl); (case hr => first | (go_simp; done) | (go_simp; rfl)); intro gb231 hg w3 hbox hb; have n0_ := Aside0.mk (below_step (by repeat (first | (with_reducible first | exact HB.out | apply below_alloc | apply pw_below_drewN | apply below_drew1) | exact HB.out)) hb); have n1_ := Aside0.mk (hbox); have n2_ := Aside0.mk ((by rw [hg]; exact (below_size (by repeat (first | (with_reducible first | exact HB.out | apply below_alloc | apply pw_below_drewN | apply below_drew1) | exact HB.out))) : w.heap.size ≤ gb231)); have n3_ := Aside0.mk ((by rw [hg]; exact (below_size (by repeat (first | (with_reducible first | exact HB.out | apply below_alloc | apply pw_below_drewN | apply below_drew1) | exact HB.out))) : w.heap.size ≤ gb231)); clear HB; have HB := n0_; have BK231 := n1_; have GW231 := n2_; have GE231 := n3_; clear n0_ n1_ n2_ n3_; clear hb hbox hg))
  (try simp only [Act.put, List.setIfInBounds_toArray, List.set_cons_zero, List.set_cons_succ])
  go_cut [13] (fun v13 wc => ∃ (kq : Nat) (x13_1 : Bool), v13 = .bool x13_1 ∧ Aside0 (impl_TotalOf.j0 kq l0 x13_1 = some (r1, r2, r3, r4)) ∧ Aside0 (kq ≤ k) ∧ Aside0 (wc.heap[gb231]? = some (.cells #[.int .i64 0, .int .i64 0, .int .i64 0, .int .i64 0] 52 (0, 0))) ∧ Aside0 (Below w.heap.size w wc))
  case first =>
    have H := HC2.out
    clear HC2
    by_cases c4 : (l0.length : Int) > 16
    · rw [if_pos c4] at H
      have c4b0 : decide (16 < (l0.length : Int)) = true := decide_eq_true c4
      have c4b1 : decide (16 < l0.length) = true := decide_eq_true (by omega)
      clear c4
      (first | rw [c4b0] | (simp only [i64_w, i32_w]; rw [c4b0]) | skip)
      have H' := Aside0.mk H
      clear H
      go_wp2
      go_meet
      case rel => exact ⟨_, (true), (by first | rfl | (simp; done) | (simp [*]; done)), H', ⟨by first | omega | exact Nat.le_refl _⟩, ⟨by (with_reducible repeat (first | refine blk_drewN ?_ _ | refine blk_drew ?_ | refine blk_alloc ?_ _)); exact BK231.out⟩, ⟨by repeat (first | (with_reducible first | exact HB.out | apply below_alloc | apply pw_below_drewN | apply below_drew1 | refine below_set ?_ GE231.out) | exact HB.out)⟩⟩
    · rw [if_neg c4] at H
      have c4b0 : decide (16 < (l0.length : Int)) = false := decide_eq_false c4
      have c4b1 : decide (16 < l0.length) = false := decide_eq_false (by omega)
      clear c4
      (first | rw [c4b0] | (simp only [i64_w, i32_w]; rw [c4b0]) | skip)
      replace H := Option.bind_eq_some_iff.mp H
      obtain ⟨t232, A50, H⟩ := H
      replace H : (impl_TotalOf.j0 k l0 (!t232)) = some (r1, r2, r3, r4) := H
      have A5 := Aside0.mk A50
      clear A50
      have H' := Aside0.mk H
      clear H
      go_wp2_with (first | (go_at_call 76; (with_reducible refine (impl_valuesFit.calls k _ _ l0 t232 _ ?side1 ?side2 A5.out).mono ?_); (case side1 => repeat (first | exact (Kd.C_below HR0.out HB.out) | (with_reducible refine Kd.C_alloc ?_ _) | (with_reducible refine Kd.C_drewN ?_ _) | (with_reducible refine Kd.C_drew ?_))); (case side2 => exact HC0.out); rintro e w' ⟨rfl, ⟨nd, rfl⟩⟩))
      go_meet
      case rel => exact ⟨_, (!t232), (by first | rfl | (simp; done) | (simp [*]; done)), H', ⟨by first | omega | exact Nat.le_refl _⟩, ⟨by (with_reducible repeat (first | refine blk_drewN ?_ _ | refine blk_drew ?_ | refine blk_alloc ?_ _)); exact BK231.out⟩, ⟨by repeat (first | (with_reducible first | exact HB.out | apply below_alloc | apply pw_below_drewN | apply below_drew1 | refine below_set ?_ GE231.out) | exact HB.out)⟩⟩
  case rest =>
    clear HC2
    try clear p2
    try clear c3
    try clear c4
    try clear c4b0
    try clear c4b1
    obtain ⟨kq, x13_1, rfl, HA, HJ1, BK231, HB⟩ := hcut
    cases kq with
    | zero => exact absurd HA.out (by simp [impl_TotalOf.j0])
    | succ kj1 =>
      have H := HA.out
      clear HA
      simp only [impl_TotalOf.j0] at H
      by_cases c6 : x13_1 = true
      · subst c6
        have H1 : (some (0, 0, 0, 0)) = some (r1, r2, r3, r4) := by rw [if_pos rfl] at H; exact H
        clear H
        have H := H1
        clear H1
        simp only [Option.some.injEq, Prod.mk.injEq] at H
        obtain ⟨rfl, rfl, rfl, rfl⟩ := H
        have hcz7_0 : wc.cell? ⟨gb231, 0, none⟩ = some (.int .i64 0) := (blk_cell BK231.out 0).trans rfl
        have hcz7_1 : wc.cell? ⟨gb231, 1, none⟩ = some (.int .i64 0) := (blk_cell BK231.out 1).trans rfl
        have hcz7_2 : wc.cell? ⟨gb231, 2, none⟩ = some (.int .i64 0) := (blk_cell BK231.out 2).trans rfl
        have hcz7_3 : wc.cell? ⟨gb231, 3, none⟩ = some (.int .i64 0) := (blk_cell BK231.out 3).trans rfl
        have hfz7_0 := blk_frozen BK231.out 0
        have hfz7_1 := blk_frozen BK231.out 1
        have hfz7_2 := blk_frozen BK231.out 2
        have hfz7_3 := blk_frozen BK231.out 3
        go_wp2
        refine bodyPost_ret (results_cell_row rfl _ _ gb231 52 #[.int .i64 0, .int .i64 0, .int .i64 0, .int .i64 0] (0, 0) _ rfl (by (with_reducible repeat (first | refine blk_drewN ?_ _ | refine blk_drew ?_ | refine blk_alloc ?_ _)); refine blk_put (cs := #[.int .i64 0, .int .i64 0, .int .i64 0, .int .i64 0]) ?_ 3 _ rfl; (with_reducible repeat (first | refine blk_drewN ?_ _ | refine blk_drew ?_ | refine blk_alloc ?_ _)); refine blk_put (cs := #[.int .i64 0, .int .i64 0, .int .i64 0, .int .i64 0]) ?_ 2 _ rfl; (with_reducible repeat (first | refine blk_drewN ?_ _ | refine blk_drew ?_ | refine blk_alloc ?_ _)); refine blk_put (cs := #[.int .i64 0, .int .i64 0, .int .i64 0, .int .i64 0]) ?_ 1 _ rfl; (with_reducible repeat (first | refine blk_drewN ?_ _ | refine blk_drew ?_ | refine blk_alloc ?_ _)); refine blk_put (cs := #[.int .i64 0, .int .i64 0, .int .i64 0, .int .i64 0]) ?_ 0 _ rfl; (with_reducible repeat (first | refine blk_drewN ?_ _ | refine blk_drew ?_ | refine blk_alloc ?_ _)); exact BK231.out) Try.underlying52 rfl (by kernel_rfl)) rfl ?_
        exact ⟨by first | rfl | (simp [errW_none, errW_some] <;> rfl) | (simp [*, errW_none, errW_some] <;> rfl), by repeat (first | (with_reducible first | exact HB.out | apply below_alloc | apply pw_below_drewN | apply below_drew1 | refine below_set ?_ GE231.out) | exact HB.out)⟩
      · replace c6 := Bool.eq_false_iff.mpr c6
        subst c6
        have H1 : ((impl_noTotal.f).bind fun bt233 => (impl_TotalOf.l0 kj1 l0 (l0.length : Int) 0 bt233.1 bt233.2.1 bt233.2.2.1 bt233.2.2.2)) = some (r1, r2, r3, r4) := by rw [if_neg (show ¬ (false = true) by decide)] at H; exact H
        clear H
        have H := H1
        clear H1
        replace H := Option.bind_eq_some_iff.mp H
        obtain ⟨⟨t233, t234, t235, t236⟩, A80, H⟩ := H
        replace H : (impl_TotalOf.l0 kj1 l0 (l0.length : Int) 0 t233 t234 t235 t236) = some (r1, r2, r3, r4) := H
        have A8 := Aside0.mk A80
        clear A80
        have H' := Aside0.mk H
        clear H
        go_wp2_with (first | ((with_reducible refine gate_callee (f := 78) rfl ?_); refine goesL_ (some 15) rfl rfl Try.func78 (by kernel_rfl) rfl #[] rfl (by (try simp only [List.map_toArray, List.map_cons, List.map_nil]); first | done | rfl | (simp only [List.length_drop, List.length_take]; rfl)) ?_; (with_reducible refine (impl_noTotal.calls  t233 t234 t235 t236 _ A8.out).mono ?_); rintro e w9 ⟨rfl, hb⟩; refine ⟨_, rfl, ?_⟩; have n0_ := Aside0.mk (blk_below (g := gb231) (o := .cells #[.int .i64 0, .int .i64 0, .int .i64 0, .int .i64 0] 52 (0, 0)) (by (with_reducible repeat (first | refine blk_drewN ?_ _ | refine blk_drew ?_ | refine blk_alloc ?_ _)); exact BK231.out) hb); have n1_ := Aside0.mk (below_step (by repeat (first | (with_reducible first | exact HB.out | apply below_alloc | apply pw_below_drewN | apply below_drew1 | refine below_set ?_ GE231.out) | exact HB.out)) hb); clear BK231; clear HB; have BK231 := n0_; have HB := n1_; clear n0_ n1_; (try clear hb); (try clear hb2); (try clear hk); (try clear hi)) | ((with_reducible refine gate_dst (N := 3) rfl ?_); refine box_event ?hg (N := 3) ?hd (cs := #[.int .i64 0, .int .i64 0, .int .i64 0, .int .i64 0]) (t := 52) ?hr ?_; (case hd => rfl); (case hg => rfl); (case hr => first | (go_simp; done) | (go_simp; rfl)); intro gb237 hg w10 hbox hb; have n0_ := Aside0.mk (blk_below (g := gb231) (o := .cells #[.int .i64 0, .int .i64 0, .int .i64 0, .int .i64 0] 52 (0, 0)) (by (with_reducible repeat (first | refine blk_drewN ?_ _ | refine blk_drew ?_ | refine blk_alloc ?_ _)); exact BK231.out) hb); have n1_ := Aside0.mk (below_step (by repeat (first | (with_reducible first | exact HB.out | apply below_alloc | apply pw_below_drewN | apply below_drew1 | refine below_set ?_ GE231.out) | exact HB.out)) hb); have n2_ := Aside0.mk (hbox); have n3_ := Aside0.mk ((by rw [hg]; exact (below_size (by repeat (first | (with_reducible first | exact HB.out | apply below_alloc | apply pw_below_drewN | apply below_drew1 | refine below_set ?_ GE231.out) | exact HB.out))) : w.heap.size ≤ gb237)); have n4_ := Aside0.mk ((by rw [hg]; exact (below_size (by repeat (first | (with_reducible first | exact HB.out | apply below_alloc | apply pw_below_drewN | apply below_drew1 | refine below_set ?_ GE231.out) | exact HB.out))) : w.heap.size ≤ gb237)); have n5_ := Aside0.mk ((by rw [hg]; exact Nat.ne_of_lt (blk_lt (g := gb231) (o := .cells #[.int .i64 0, .int .i64 0, .int .i64 0, .int .i64 0] 52 (0, 0)) (by (with_reducible repeat (first | refine blk_drewN ?_ _ | refine blk_drew ?_ | refine blk_alloc ?_ _)); exact BK231.out)) : gb231 ≠ gb237)); have n6_ := Aside0.mk ((by rw [hg]; exact Nat.ne_of_gt (blk_lt (g := gb231) (o := .cells #[.int .i64 0, .int .i64 0, .int .i64 0, .int .i64 0] 52 (0, 0)) (by (with_reducible repeat (first | refine blk_drewN ?_ _ | refine blk_drew ?_ | refine blk_alloc ?_ _)); exact BK231.out)) : gb237 ≠ gb231)); clear BK231; clear HB; have BK231 := n0_; have HB := n1_; have BK237 := n2_; have GW237 := n3_; have GE237 := n4_; have NB231_237 := n5_; have NB237_231 := n6_; clear n0_ n1_ n2_ n3_ n4_ n5_ n6_; clear hb hbox hg; have hnb11 := NB237_231.out; have hnc11 := NB231_237.out; have hcz12_0 : w10.cell? ⟨gb237, 0, none⟩ = some (.int .i64 0) := (blk_cell BK237.out 0).trans rfl; have hcz12_1 : w10.cell? ⟨gb237, 1, none⟩ = some (.int .i64 0) := (blk_cell BK237.out 1).trans rfl; have hcz12_2 : w10.cell? ⟨gb237, 2, none⟩ = some (.int .i64 0) := (blk_cell BK237.out 2).trans rfl; have hcz12_3 : w10.cell? ⟨gb237, 3, none⟩ = some (.int .i64 0) := (blk_cell BK237.out 3).trans rfl; have hfz12_0 := blk_frozen BK237.out 0; have hfz12_1 := blk_frozen BK237.out 1; have hfz12_2 := blk_frozen BK237.out 2; have hfz12_3 := blk_frozen BK237.out 3))
        go_loopg [18] kj1 (fun kq v18 w' => ∃ (x18_2 : Int) (x238000_2 : Int) (x238001_2 : Int) (x238002_2 : Int) (x238003_2 : Int), v18 = .int .i64 x18_2 ∧ Aside0 (impl_TotalOf.l0 kq l0 (l0.length : Int) x18_2 x238000_2 x238001_2 x238002_2 x238003_2 = some (r1, r2, r3, r4)) ∧ Aside0 (kq ≤ kj1) ∧ Aside0 (w'.heap[gb231]? = some (.cells #[.int .i64 0, .int .i64 0, .int .i64 0, .int .i64 0] 52 (0, 0))) ∧ Aside0 (w'.heap[gb237]? = some (.cells #[.int .i64 x238000_2, .int .i64 x238001_2, .int .i64 x238002_2, .int .i64 x238003_2] 52 (0, 0))) ∧ Aside0 (Below w.heap.size w w'))
        case atStart => exact ⟨(0), (t233), (t234), (t235), (t236), (by first | rfl | (simp; done) | (simp [*]; done)), H', ⟨Nat.le_refl _⟩, ⟨by (with_reducible repeat (first | refine blk_drewN ?_ _ | refine blk_drew ?_ | refine blk_alloc ?_ _)); refine blk_far ?_ NB231_237.out _; (with_reducible repeat (first | refine blk_drewN ?_ _ | refine blk_drew ?_ | refine blk_alloc ?_ _)); refine blk_far ?_ NB231_237.out _; (with_reducible repeat (first | refine blk_drewN ?_ _ | refine blk_drew ?_ | refine blk_alloc ?_ _)); refine blk_far ?_ NB231_237.out _; (with_reducible repeat (first | refine blk_drewN ?_ _ | refine blk_drew ?_ | refine blk_alloc ?_ _)); refine blk_far ?_ NB231_237.out _; (with_reducible repeat (first | refine blk_drewN ?_ _ | refine blk_drew ?_ | refine blk_alloc ?_ _)); exact BK231.out⟩, ⟨by (with_reducible repeat (first | refine blk_drewN ?_ _ | refine blk_drew ?_ | refine blk_alloc ?_ _)); refine blk_put (cs := #[.int .i64 t233, .int .i64 t234, .int .i64 t235, .int .i64 0]) ?_ 3 _ rfl; (with_reducible repeat (first | refine blk_drewN ?_ _ | refine blk_drew ?_ | refine blk_alloc ?_ _)); refine blk_put (cs := #[.int .i64 t233, .int .i64 t234, .int .i64 0, .int .i64 0]) ?_ 2 _ rfl; (with_reducible repeat (first | refine blk_drewN ?_ _ | refine blk_drew ?_ | refine blk_alloc ?_ _)); refine blk_put (cs := #[.int .i64 t233, .int .i64 0, .int .i64 0, .int .i64 0]) ?_ 1 _ rfl; (with_reducible repeat (first | refine blk_drewN ?_ _ | refine blk_drew ?_ | refine blk_alloc ?_ _)); refine blk_put (cs := #[.int .i64 0, .int .i64 0, .int .i64 0, .int .i64 0]) ?_ 0 _ rfl; (with_reducible repeat (first | refine blk_drewN ?_ _ | refine blk_drew ?_ | refine blk_alloc ?_ _)); exact BK237.out⟩, ⟨by repeat (first | (with_reducible first | exact HB.out | apply below_alloc | apply pw_below_drewN | apply below_drew1 | refine below_set ?_ GE231.out | refine below_set ?_ GE237.out) | exact HB.out)⟩⟩
        case round =>
          clear H'
          try clear c1
          try clear p2
          try clear c3
          try clear c4
          try clear c4b0
          try clear c4b1
          try clear c6
          try clear c7
          try clear c11
          try clear hcz12_0
          try clear hcz12_1
          try clear hcz12_2
          try clear hcz12_3
          try clear hcz7_0
          try clear hcz7_1
          try clear hcz7_2
          try clear hcz7_3
          try clear hfz12_0
          try clear hfz12_1
          try clear hfz12_2
          try clear hfz12_3
          try clear hfz7_0
          try clear hfz7_1
          try clear hfz7_2
          try clear hfz7_3
          try clear p2
          obtain ⟨x18_2, x238000_2, x238001_2, x238002_2, x238003_2, rfl, HA, HK2, BK231, BK237, HB⟩ := hrel
          cases gk with
          | zero => exact absurd HA.out (by simp [impl_TotalOf.l0])
          | succ k2 =>
            have H := HA.out
            clear HA
            simp only [impl_TotalOf.l0] at H
            by_cases c13 : x18_2 < (l0.length : Int)
            · rw [if_pos c13] at H
              have c13b0 : decide (x18_2 < (l0.length : Int)) = true := decide_eq_true c13
              clear c13
              by_cases c14 : 0 ≤ x18_2
              · rw [if_pos c14] at H
                have c14b0 : decide (0 ≤ x18_2) = true := decide_eq_true c14
                clear c14
                by_cases c15 : x18_2 < (l0.length : Int)
                · rw [if_pos c15] at H
                  have c15b0 : decide (x18_2 < (l0.length : Int)) = true := decide_eq_true c15
                  clear c15
                  replace H := Option.bind_eq_some_iff.mp H
                  obtain ⟨⟨t239, t240, t241, t242⟩, A160, H⟩ := H
                  replace H : (impl_TotalOf.l0 k2 l0 (l0.length : Int) (wrap64 (x18_2 + 1)) t239 t240 t241 t242) = some (r1, r2, r3, r4) := H
                  have A16 := Aside0.mk A160
                  clear A160
                  have H' := Aside0.mk H
                  clear H
                  have p238 : 0 ≤ (x18_2 : Int) := of_decide_eq_true (by first | (with_reducible assumption) | assumption)
                  have q238 : x18_2 < (l0.length : Int) := of_decide_eq_true (by first | (with_reducible assumption) | assumption)
                  obtain ⟨ad238, e238, hx238_0⟩ := Kd.at_int HR0.out x18_2 p238 q238
                  cases e238
                  replace hx238_0 := (HB.out.cell (World.block_lt_of_cell? w _ hx238_0)).trans hx238_0
                  replace p238 := eq_true p238
                  replace q238 := eq_true q238
                  have hnb17 := NB237_231.out
                  have hnc17 := NB231_237.out
                  have hcz18_0 : wr.cell? ⟨gb237, 0, none⟩ = some (.int .i64 x238000_2) := (blk_cell BK237.out 0).trans rfl
                  have hcz18_1 : wr.cell? ⟨gb237, 1, none⟩ = some (.int .i64 x238001_2) := (blk_cell BK237.out 1).trans rfl
                  have hcz18_2 : wr.cell? ⟨gb237, 2, none⟩ = some (.int .i64 x238002_2) := (blk_cell BK237.out 2).trans rfl
                  have hcz18_3 : wr.cell? ⟨gb237, 3, none⟩ = some (.int .i64 x238003_2) := (blk_cell BK237.out 3).trans rfl
                  have hfz18_0 := blk_frozen BK237.out 0
                  have hfz18_1 := blk_frozen BK237.out 1
                  have hfz18_2 := blk_frozen BK237.out 2
                  have hfz18_3 := blk_frozen BK237.out 3
                  go_wp2_with (first | ((with_reducible refine gate_callee (f := 80) rfl ?_); refine goesL_ (some 24) rfl rfl Try.func80 (by kernel_rfl) rfl #[.agg #[.int .i64 x238000_2, .int .i64 x238001_2, .int .i64 x238002_2, .int .i64 x238003_2], .int .i64 (rd l0 x18_2)] rfl (by (try simp only [List.map_toArray, List.map_cons, List.map_nil]); first | done | rfl | (simp only [List.length_drop, List.length_take]; rfl)) ?_; (with_reducible refine (impl_Total_with.calls x238000_2 x238001_2 x238002_2 x238003_2 (rd l0 x18_2) t239 t240 t241 t242 _ A16.out).mono ?_); rintro e w19 ⟨rfl, hb⟩; refine ⟨_, rfl, ?_⟩; have n0_ := Aside0.mk (blk_below (g := gb231) (o := .cells #[.int .i64 0, .int .i64 0, .int .i64 0, .int .i64 0] 52 (0, 0)) (by (with_reducible repeat (first | refine blk_drewN ?_ _ | refine blk_drew ?_ | refine blk_alloc ?_ _)); exact BK231.out) hb); have n1_ := Aside0.mk (blk_below (g := gb237) (o := .cells #[.int .i64 x238000_2, .int .i64 x238001_2, .int .i64 x238002_2, .int .i64 x238003_2] 52 (0, 0)) (by (with_reducible repeat (first | refine blk_drewN ?_ _ | refine blk_drew ?_ | refine blk_alloc ?_ _)); exact BK237.out) hb); have n2_ := Aside0.mk (below_step (by repeat (first | (with_reducible first | exact HB.out | apply below_alloc | apply pw_below_drewN | apply below_drew1 | refine below_set ?_ GE231.out | refine below_set ?_ GE237.out) | exact HB.out)) hb); clear BK231; clear BK237; clear HB; have BK231 := n0_; have BK237 := n1_; have HB := n2_; clear n0_ n1_ n2_; (try clear hb); (try clear hb2); (try clear hk); (try clear hi); have hcz20_0 : w19.cell? ⟨gb237, 0, none⟩ = some (.int .i64 x238000_2) := (blk_cell BK237.out 0).trans rfl; have hcz20_1 : w19.cell? ⟨gb237, 1, none⟩ = some (.int .i64 x238001_2) := (blk_cell BK237.out 1).trans rfl; have hcz20_2 : w19.cell? ⟨gb237, 2, none⟩ = some (.int .i64 x238002_2) := (blk_cell BK237.out 2).trans rfl; have hcz20_3 : w19.cell? ⟨gb237, 3, none⟩ = some (.int .i64 x238003_2) := (blk_cell BK237.out 3).trans rfl; have hfz20_0 := blk_frozen BK237.out 0; have hfz20_1 := blk_frozen BK237.out 1; have hfz20_2 := blk_frozen BK237.out 2; have hfz20_3 := blk_frozen BK237.out 3))
                  go_roundg k2
                  case measure => have := HJ1.out; have := HK2.out; omega
                  case rel => exact ⟨(wrap64 (x18_2 + 1)), (t239), (t240), (t241), (t242), (by first | rfl | (simp; done) | (simp [*]; done)), H', ⟨by have := HJ1.out; have := HK2.out; omega⟩, ⟨by (with_reducible repeat (first | refine blk_drewN ?_ _ | refine blk_drew ?_ | refine blk_alloc ?_ _)); refine blk_far ?_ NB231_237.out _; (with_reducible repeat (first | refine blk_drewN ?_ _ | refine blk_drew ?_ | refine blk_alloc ?_ _)); refine blk_far ?_ NB231_237.out _; (with_reducible repeat (first | refine blk_drewN ?_ _ | refine blk_drew ?_ | refine blk_alloc ?_ _)); refine blk_far ?_ NB231_237.out _; (with_reducible repeat (first | refine blk_drewN ?_ _ | refine blk_drew ?_ | refine blk_alloc ?_ _)); refine blk_far ?_ NB231_237.out _; (with_reducible repeat (first | refine blk_drewN ?_ _ | refine blk_drew ?_ | refine blk_alloc ?_ _)); exact BK231.out⟩, ⟨by (with_reducible repeat (first | refine blk_drewN ?_ _ | refine blk_drew ?_ | refine blk_alloc ?_ _)); refine blk_put (cs := #[.int .i64 t239, .int .i64 t240, .int .i64 t241, .int .i64 x238003_2]) ?_ 3 _ rfl; (with_reducible repeat (first | refine blk_drewN ?_ _ | refine blk_drew ?_ | refine blk_alloc ?_ _)); refine blk_put (cs := #[.int .i64 t239, .int .i64 t240, .int .i64 x238002_2, .int .i64 x238003_2]) ?_ 2 _ rfl; (with_reducible repeat (first | refine blk_drewN ?_ _ | refine blk_drew ?_ | refine blk_alloc ?_ _)); refine blk_put (cs := #[.int .i64 t239, .int .i64 x238001_2, .int .i64 x238002_2, .int .i64 x238003_2]) ?_ 1 _ rfl; (with_reducible repeat (first | refine blk_drewN ?_ _ | refine blk_drew ?_ | refine blk_alloc ?_ _)); refine blk_put (cs := #[.int .i64 x238000_2, .int .i64 x238001_2, .int .i64 x238002_2, .int .i64 x238003_2]) ?_ 0 _ rfl; (with_reducible repeat (first | refine blk_drewN ?_ _ | refine blk_drew ?_ | refine blk_alloc ?_ _)); exact BK237.out⟩, ⟨by repeat (first | (with_reducible first | exact HB.out | apply below_alloc | apply pw_below_drewN | apply below_drew1 | refine below_set ?_ GE231.out | refine below_set ?_ GE237.out) | exact HB.out)⟩⟩
                · rw [if_neg c15] at H
                  exact absurd H (by simp)
              · rw [if_neg c14] at H
                exact absurd H (by simp)
            · rw [if_neg c13] at H
              have c13b0 : decide (x18_2 < (l0.length : Int)) = false := decide_eq_false c13
              clear c13
              simp only [Option.some.injEq, Prod.mk.injEq] at H
              obtain ⟨rfl, rfl, rfl, rfl⟩ := H
              have hnb21 := NB237_231.out
              have hnc21 := NB231_237.out
              have hcz22_0 : wr.cell? ⟨gb237, 0, none⟩ = some (.int .i64 x238000_2) := (blk_cell BK237.out 0).trans rfl
              have hcz22_1 : wr.cell? ⟨gb237, 1, none⟩ = some (.int .i64 x238001_2) := (blk_cell BK237.out 1).trans rfl
              have hcz22_2 : wr.cell? ⟨gb237, 2, none⟩ = some (.int .i64 x238002_2) := (blk_cell BK237.out 2).trans rfl
              have hcz22_3 : wr.cell? ⟨gb237, 3, none⟩ = some (.int .i64 x238003_2) := (blk_cell BK237.out 3).trans rfl
              have hfz22_0 := blk_frozen BK237.out 0
              have hfz22_1 := blk_frozen BK237.out 1
              have hfz22_2 := blk_frozen BK237.out 2
              have hfz22_3 := blk_frozen BK237.out 3
              have hcz23_0 : wr.cell? ⟨gb231, 0, none⟩ = some (.int .i64 0) := (blk_cell BK231.out 0).trans rfl
              have hcz23_1 : wr.cell? ⟨gb231, 1, none⟩ = some (.int .i64 0) := (blk_cell BK231.out 1).trans rfl
              have hcz23_2 : wr.cell? ⟨gb231, 2, none⟩ = some (.int .i64 0) := (blk_cell BK231.out 2).trans rfl
              have hcz23_3 : wr.cell? ⟨gb231, 3, none⟩ = some (.int .i64 0) := (blk_cell BK231.out 3).trans rfl
              have hfz23_0 := blk_frozen BK231.out 0
              have hfz23_1 := blk_frozen BK231.out 1
              have hfz23_2 := blk_frozen BK231.out 2
              have hfz23_3 := blk_frozen BK231.out 3
              go_wp2
              refine bodyPost_ret (results_cell_row rfl _ _ gb231 52 #[.int .i64 x238000_2, .int .i64 x238001_2, .int .i64 x238002_2, .int .i64 x238003_2] (0, 0) _ rfl (by (with_reducible repeat (first | refine blk_drewN ?_ _ | refine blk_drew ?_ | refine blk_alloc ?_ _)); refine blk_put (cs := #[.int .i64 x238000_2, .int .i64 x238001_2, .int .i64 x238002_2, .int .i64 0]) ?_ 3 _ rfl; (with_reducible repeat (first | refine blk_drewN ?_ _ | refine blk_drew ?_ | refine blk_alloc ?_ _)); refine blk_put (cs := #[.int .i64 x238000_2, .int .i64 x238001_2, .int .i64 0, .int .i64 0]) ?_ 2 _ rfl; (with_reducible repeat (first | refine blk_drewN ?_ _ | refine blk_drew ?_ | refine blk_alloc ?_ _)); refine blk_put (cs := #[.int .i64 x238000_2, .int .i64 0, .int .i64 0, .int .i64 0]) ?_ 1 _ rfl; (with_reducible repeat (first | refine blk_drewN ?_ _ | refine blk_drew ?_ | refine blk_alloc ?_ _)); refine blk_put (cs := #[.int .i64 0, .int .i64 0, .int .i64 0, .int .i64 0]) ?_ 0 _ rfl; (with_reducible repeat (first | refine blk_drewN ?_ _ | refine blk_drew ?_ | refine blk_alloc ?_ _)); exact BK231.out) Try.underlying52 rfl (by kernel_rfl)) rfl ?_
              exact ⟨by first | rfl | (simp [errW_none, errW_some] <;> rfl) | (simp [*, errW_none, errW_some] <;> rfl), by repeat (first | (with_reducible first | exact HB.out | apply below_alloc | apply pw_below_drewN | apply below_drew1 | refine below_set ?_ GE231.out | refine below_set ?_ GE237.out) | exact HB.out)⟩

end Go.Proofs.Ytloiafnoekpaoab.PFnTotalsOf
