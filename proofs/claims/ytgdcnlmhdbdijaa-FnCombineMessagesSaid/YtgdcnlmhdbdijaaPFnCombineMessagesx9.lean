/- Laid by a program of this session out of the translation: functions, their contracts, the row. Lean checks it. -/
import Derived.Test.YtgdcnlmhdbdijaaPFnCombineMessagesx0
import Derived.Test.YtgdcnlmhdbdijaaPFnCombineMessagesx4
namespace Go.Proofs.Ytgdcnlmhdbdijaa.PFnCombineMessages
open Go.RowKit Go.Proofs.YtgdcnlmhdbdijaaW.PrintWords Go.Proofs.YtgdcnlmhdbdijaaW.PrintLast Go.Proofs.YtgdcnlmhdbdijaaW.PrintMore
theorem z9_0 {p : Prop} (h : p := by first | (go_simp; done) | (go_simp; rfl)) : p := h
theorem z9_1 {p : Prop} (h : p := by (with_reducible repeat (first | refine blk_drewN ?_ _ | refine blk_drew ?_ | refine blk_alloc ?_ _)); refine blk_put (cs := #[.int .i64 ((rd_T34 l0 x8_1).f0), .int .i64 ((rd_T34 l0 x8_1).f1), .int .i64 0]) ?_ 2 _ rfl; (with_reducible repeat (first | refine blk_drewN ?_ _ | refine blk_drew ?_ | refine blk_alloc ?_ _)); refine blk_put (cs := #[.int .i64 ((rd_T34 l0 x8_1).f0), .int .i64 0, .int .i64 0]) ?_ 1 _ rfl; (with_reducible repeat (first | refine blk_drewN ?_ _ | refine blk_drew ?_ | refine blk_alloc ?_ _)); refine blk_put (cs := #[.int .i64 0, .int .i64 0, .int .i64 0]) ?_ 0 _ rfl; (with_reducible repeat (first | refine blk_drewN ?_ _ | refine blk_drew ?_ | refine blk_alloc ?_ _)); exact BK207.out) : p := h
theorem z9_2 {p : Prop} (h : p := by repeat (first | (with_reducible first | exact HB.out | apply below_alloc | apply pw_below_drewN | apply below_drew1) | exact HB.out)) : p := h
theorem z9_3 {p : Prop} (h : p := by repeat (first | (with_reducible first | exact HB.out | apply below_alloc | apply pw_below_drewN | apply below_drew1 | refine below_set ?_ GE203.out) | exact HB.out)) : p := h
theorem z9_4 {p : Prop} (h : p := by (with_reducible repeat (first | apply Kd.R_alloc | apply Kd.R_drewN | apply Kd.R_drew)); exact Kd.R_mono (Kd.R_far (p := ⟨gb207, 2, none⟩) (Kd.R_far (p := ⟨gb207, 1, none⟩) (Kd.R_far (p := ⟨gb207, 0, none⟩) (Kd.R_mono HO_3.out (fun k_ hk => (⟨hk, hk.2⟩ : _ ∧ k_ ≠ gb207))) (fun _ hk => hk.2) (.int .i64 ((rd_T34 l0 x8_1).f0))) (fun _ hk => hk.2) (.int .i64 ((rd_T34 l0 x8_1).f1))) (fun _ hk => hk.2) (.int .i64 ((rd_T34 l0 x8_1).f2))) (fun _ hk => hk.1.2)) : p := h
theorem z9_5 {p : Prop} (h : p := by repeat (first | (with_reducible first | exact HB.out | apply below_alloc | apply pw_below_drewN | apply below_drew1 | refine below_set ?_ GE207.out) | exact HB.out)) : p := h
theorem z9_6 {p : Prop} (h : p := by repeat (first | (with_reducible first | exact HB.out | apply below_alloc | apply pw_below_drewN | apply below_drew1 | refine below_set ?_ GE215.out) | exact HB.out)) : p := h
theorem z9_7 {p : Prop} (h : p := by first | (rw [add_block]; exact hn211_0) | (show (Addr.add _ _).block ≠ _; rw [add_block]; exact hn211_0) | exact hn211_0) : p := h
theorem z9_8 {p : Prop} (h : p := by first | (rw [add_block]; exact hn211_1) | (show (Addr.add _ _).block ≠ _; rw [add_block]; exact hn211_1) | exact hn211_1) : p := h
theorem z9_9 {p : Prop} (h : p := by first | (rw [add_block]; exact hn211_2) | (show (Addr.add _ _).block ≠ _; rw [add_block]; exact hn211_2) | exact hn211_2) : p := h
theorem z9_10 {p : Prop} (h : p := by first | rfl | (simp [errW_none, errW_some] <;> rfl) | (simp [*, errW_none, errW_some] <;> rfl)) : p := h
theorem z9_11 {p : Prop} (h : p := by have := World.block_lt_of_cell? _ _ hx211_0; first | rwa [add_block] at this | exact this) : p := h
theorem z9_12 {p : Prop} (h : p := by (try simp only [List.map_toArray, List.map_cons, List.map_nil]); first | done | rfl | (simp only [List.length_drop, List.length_take]; rfl)) : p := h
theorem z9_13 {p : Prop} (h : p := by repeat (first | (with_reducible first | exact HB.out | apply below_alloc | apply pw_below_drewN | apply below_drew1 | refine below_set ?_ GE204.out) | exact HB.out)) : p := h
theorem z9_14 {p : Prop} (h : p := by (with_reducible repeat (first | refine blk_drewN ?_ _ | refine blk_drew ?_ | refine blk_alloc ?_ _)); exact BK215.out) : p := h
theorem z9_15 {p : Prop} (h : p := by (with_reducible repeat (first | apply Kd.R_alloc | apply Kd.R_drewN | apply Kd.R_drew)); exact HO_3.out) : p := h
theorem z9_16 {p : Prop} (h : p := by rw [hg]; exact (below_size z9_2)) : p := h
theorem z9_17 {p : Prop} (h : p := by first | (with_reducible assumption) | assumption) : p := h
theorem z9_18 {p : Prop} (h : p := by (with_reducible repeat (first | apply Kd.R_alloc | apply Kd.R_drewN | apply Kd.R_drew)); exact HO219.out) : p := h
theorem z9_19 {p : Prop} (h : p := by first | rfl | (simp; done) | (simp [*]; done)) : p := h
theorem z9_20 {p : Prop} (h : p := by (with_reducible repeat (first | refine blk_drewN ?_ _ | refine blk_drew ?_ | refine blk_alloc ?_ _)); exact BK203.out) : p := h
theorem z9_21 {p : Prop} (h : p := by (with_reducible repeat (first | refine blk_drewN ?_ _ | refine blk_drew ?_ | refine blk_alloc ?_ _)); exact BK204.out) : p := h
theorem z9_22 {p : Prop} (h : p := by first | (go_simp; done) | (go_simp; rfl)) : p := h
theorem z9_23 {p : Prop} (h : p := by first | exact Kd.R_nil _ _ _ _ _ | exact Kd.N_nil _ _ _ _ _ | exact Kd.V_nil _ _ _ _ _ | exact Kd.Q_nil _ _ _ _ _ | exact Kd.S_nil _ _ _ _ _) : p := h
attribute [local go_sem] max2_int min2_int max_two min_two max_three min_three max_four min_four   -- for this text's walks alone
set_option linter.unusedVariables false
set_option linter.unusedSimpArgs false

/-! ### impl_ProgramValid: function 79 -/
mutual
def impl_ProgramValid.j0 : Nat → Int → Bool → Int → Int → Int → Option (Bool)
 | 0, _, _, _, _, _ => none
 | k + 1, x4, x5, x204000, x204001, x204002 => if x5 = true then (if x204001 ≥ 0 then (if x204001 < 16 then (some (x204002 == 0)) else (some false)) else (some false)) else (if x4 = 3 then (impl_ProgramValid.j1 k x4 (x4 == 3) x204000 x204001 x204002) else (impl_ProgramValid.j1 k x4 (x4 == 5) x204000 x204001 x204002))
def impl_ProgramValid.j1 : Nat → Int → Bool → Int → Int → Int → Option (Bool)
 | 0, _, _, _, _, _ => none
 | k + 1, x4, x21, x204000, x204001, x204002 => if x21 = true then (if x204001 = 0 then (some (x204002 == 0)) else (some false)) else (if x4 = 4 then (if x204001 = 0 then (if x204002 ≥ 1 then (some (decide (x204002 ≤ 20))) else (some false)) else (some false)) else (if x4 = 6 then (if x204001 = 0 then (if x204002 ≥ 1 then (some (decide (x204002 ≤ 20))) else (some false)) else (some false)) else (some false)))
end
def impl_ProgramValid.f (k : Nat) (a0_0 : Int) (a0_1 : Int) (a0_2 : Int) : Option (Bool) := if a0_0 = 1 then (impl_ProgramValid.j0 k a0_0 (a0_0 == 1) a0_0 a0_1 a0_2) else (impl_ProgramValid.j0 k a0_0 (a0_0 == 2) a0_0 a0_1 a0_2)
theorem impl_ProgramValid.mono_l : ∀ k, (∀ y0 y1 y2 y3 y4, LeO (impl_ProgramValid.j0 k y0 y1 y2 y3 y4) (impl_ProgramValid.j0 (k + 1) y0 y1 y2 y3 y4)) ∧ (∀ y0 y1 y2 y3 y4, LeO (impl_ProgramValid.j1 k y0 y1 y2 y3 y4) (impl_ProgramValid.j1 (k + 1) y0 y1 y2 y3 y4))
 | 0 => ⟨fun _ _ _ _ _ r h => by simp [impl_ProgramValid.j0] at h, fun _ _ _ _ _ r h => by simp [impl_ProgramValid.j1] at h⟩
 | k + 1 => by
  obtain ⟨ih0, ih1⟩ := impl_ProgramValid.mono_l k
  refine ⟨?_, ?_⟩
  ·intro y0 y1 y2 y3 y4
   unfold impl_ProgramValid.j0
   repeat' first
   | (with_reducible exact ih0 _ _ _ _ _)
   | (with_reducible exact ih1 _ _ _ _ _)
   | (with_reducible exact LeO.refl _)
   | (with_reducible exact LeO.none _)
   | (with_reducible refine LeO.ite ?_ ?_)
   | (with_reducible refine LeO.bind ?_ (fun _ => ?_))
   | exact ih0 _ _ _ _ _
   | exact ih1 _ _ _ _ _
   | exact LeO.none _
   | refine LeO.ite ?_ ?_
   | refine LeO.bind ?_ (fun _ => ?_)
  ·intro y0 y1 y2 y3 y4
   unfold impl_ProgramValid.j1
   repeat' first
   | (with_reducible exact ih0 _ _ _ _ _)
   | (with_reducible exact ih1 _ _ _ _ _)
   | (with_reducible exact LeO.refl _)
   | (with_reducible exact LeO.none _)
   | (with_reducible refine LeO.ite ?_ ?_)
   | (with_reducible refine LeO.bind ?_ (fun _ => ?_))
   | exact ih0 _ _ _ _ _
   | exact ih1 _ _ _ _ _
   | exact LeO.none _
   | refine LeO.ite ?_ ?_
   | refine LeO.bind ?_ (fun _ => ?_)
theorem impl_ProgramValid.mono : ∀ a0 a1 a2 k, LeO (impl_ProgramValid.f k a0 a1 a2) (impl_ProgramValid.f (k + 1) a0 a1 a2) := by
 intro a0 a1 a2 k
 obtain ⟨ih0, ih1⟩ := impl_ProgramValid.mono_l k
 unfold impl_ProgramValid.f
 repeat' first
   | (with_reducible exact ih0 _ _ _ _ _)
   | (with_reducible exact ih1 _ _ _ _ _)
   | (with_reducible exact LeO.refl _)
   | (with_reducible exact LeO.none _)
   | (with_reducible refine LeO.ite ?_ ?_)
   | (with_reducible refine LeO.bind ?_ (fun _ => ?_))
   | exact ih0 _ _ _ _ _
   | exact ih1 _ _ _ _ _
   | exact LeO.none _
   | refine LeO.ite ?_ ?_
   | refine LeO.bind ?_ (fun _ => ?_)
set_option maxHeartbeats 8000000 in
set_option maxRecDepth 100000 in
theorem impl_ProgramValid.calls (k : Nat) (a0_0 : Int) (a0_1 : Int) (a0_2 : Int) (r : Bool) (w : World) (h : impl_ProgramValid.f k a0_0 a0_1 a0_2 = some r) :
  Calls Try.prog 79 #[.agg #[.int .i64 a0_0, .int .i64 a0_1, .int .i64 a0_2]] w fun e w' => e = .returned (.bool r) ∧ Below w.heap.size w w' := by
 have hu47 := Try.underlying47
 have HB := Aside0.mk (Below.refl w.heap.size w)
 have H : (if a0_0 = 1 then (impl_ProgramValid.j0 k a0_0 (a0_0 == 1) a0_0 a0_1 a0_2) else (impl_ProgramValid.j0 k a0_0 (a0_0 == 2) a0_0 a0_1 a0_2)) = some r := h
 clear h
 have HC2 := Aside0.mk H
 clear H
 go_enter Try.func79, Try.ntmps79
 go_upto_if 5 with (first | ((with_reducible refine gate_dst (N := 1) rfl ?_); refine box_event ?hg (N := 1) ?hd (cs := #[.int .i64 a0_0, .int .i64 a0_1, .int .i64 a0_2]) (t := 47) ?hr ?_; (case hd => rfl); (case hg => rfl); (case hr => exact z9_0); intro gb203 hg w3 hbox hb; have n0_ := Aside0.mk (below_step z9_2 hb); have n1_ := Aside0.mk (hbox); have n2_ := Aside0.mk ((z9_16 : w.heap.size ≤ gb203)); have n3_ := Aside0.mk ((z9_16 : w.heap.size ≤ gb203)); clear HB; have HB := n0_; have BK203 := n1_; have GW203 := n2_; have GE203 := n3_; clear n0_ n1_ n2_ n3_; clear hb hbox hg; have hcz4_0 : w3.cell? ⟨gb203, 0, none⟩ = some (.int .i64 a0_0) := (blk_cell BK203.out 0).trans rfl; have hcz4_1 : w3.cell? ⟨gb203, 1, none⟩ = some (.int .i64 a0_1) := (blk_cell BK203.out 1).trans rfl; have hcz4_2 : w3.cell? ⟨gb203, 2, none⟩ = some (.int .i64 a0_2) := (blk_cell BK203.out 2).trans rfl; have hfz4_0 := blk_frozen BK203.out 0; have hfz4_1 := blk_frozen BK203.out 1; have hfz4_2 := blk_frozen BK203.out 2))
 (try simp only [Act.put, List.setIfInBounds_toArray, List.set_cons_zero, List.set_cons_succ])
 go_cut [5] (fun v5 wc => ∃ (kq : Nat) (x5_1 : Bool), v5 = .bool x5_1 ∧ Aside0 (impl_ProgramValid.j0 kq a0_0 x5_1 a0_0 a0_1 a0_2 = some r) ∧ Aside0 (kq ≤ k) ∧ Aside0 (wc.heap[gb203]? = some (.cells #[.int .i64 a0_0, .int .i64 a0_1, .int .i64 a0_2] 47 (0, 0))) ∧ Aside0 (Below w.heap.size w wc))
 case first =>
  have H := HC2.out
  clear HC2
  by_cases c5 : a0_0 = 1
  ·rw [if_pos c5] at H
   have c5b0 : (a0_0 == 1) = true := beq_iff_eq.mpr c5
   have c5b1 : (a0_0 != 1) = false := bne_eq_false_iff_eq.mpr c5
   clear c5
   (first | rw [c5b0] | (simp only [i64_w, i32_w]; rw [c5b0]) | skip)
   have H' := Aside0.mk H
   clear H
   go_wp2
   go_meet
   case rel => exact ⟨_, ((a0_0 == 1)), z9_19, H', ⟨by first | omega | exact Nat.le_refl _⟩, ⟨z9_20⟩, ⟨z9_3⟩⟩
  ·rw [if_neg c5] at H
   have c5b0 : (a0_0 == 1) = false := beq_eq_false_iff_ne.mpr c5
   have c5b1 : (a0_0 != 1) = true := bne_iff_ne.mpr c5
   (first | rw [c5b0] | (simp only [i64_w, i32_w]; rw [c5b0]) | skip)
   have H' := Aside0.mk H
   clear H
   go_wp2
   go_meet
   case rel => exact ⟨_, ((a0_0 == 2)), z9_19, H', ⟨by first | omega | exact Nat.le_refl _⟩, ⟨z9_20⟩, ⟨z9_3⟩⟩
 case rest =>
  clear HC2
  try clear p2
  try clear c5
  try clear c5b0
  try clear c5b1
  try clear hcz4_0
  try clear hcz4_1
  try clear hcz4_2
  try clear hfz4_0
  try clear hfz4_1
  try clear hfz4_2
  obtain ⟨kq, x5_1, rfl, HA, HJ1, BK203, HB⟩ := hcut
  cases kq with
  | zero => exact absurd HA.out (by simp [impl_ProgramValid.j0])
  | succ kj1 =>
   have H := HA.out
   clear HA
   simp only [impl_ProgramValid.j0] at H
   by_cases c6 : x5_1 = true
   ·subst c6
    have H1 : (if a0_1 ≥ 0 then (if a0_1 < 16 then (some (a0_2 == 0)) else (some false)) else (some false)) = some r := by rw [if_pos rfl] at H; exact H
    clear H
    have H := H1
    clear H1
    by_cases c7 : a0_1 ≥ 0
    ·rw [if_pos c7] at H
     have c7b0 : decide (0 ≤ a0_1) = true := decide_eq_true c7
     clear c7
     by_cases c8 : a0_1 < 16
     ·rw [if_pos c8] at H
      have c8b0 : decide (a0_1 < 16) = true := decide_eq_true c8
      clear c8
      obtain rfl := Option.some.inj H
      have hcz9_0 : wc.cell? ⟨gb203, 0, none⟩ = some (.int .i64 a0_0) := (blk_cell BK203.out 0).trans rfl
      have hcz9_1 : wc.cell? ⟨gb203, 1, none⟩ = some (.int .i64 a0_1) := (blk_cell BK203.out 1).trans rfl
      have hcz9_2 : wc.cell? ⟨gb203, 2, none⟩ = some (.int .i64 a0_2) := (blk_cell BK203.out 2).trans rfl
      have hfz9_0 := blk_frozen BK203.out 0
      have hfz9_1 := blk_frozen BK203.out 1
      have hfz9_2 := blk_frozen BK203.out 2
      go_wp2
      go_ret
      exact ⟨z9_10, z9_3⟩
     ·rw [if_neg c8] at H
      have c8b0 : decide (a0_1 < 16) = false := decide_eq_false c8
      clear c8
      obtain rfl := Option.some.inj H
      have hcz10_0 : wc.cell? ⟨gb203, 0, none⟩ = some (.int .i64 a0_0) := (blk_cell BK203.out 0).trans rfl
      have hcz10_1 : wc.cell? ⟨gb203, 1, none⟩ = some (.int .i64 a0_1) := (blk_cell BK203.out 1).trans rfl
      have hcz10_2 : wc.cell? ⟨gb203, 2, none⟩ = some (.int .i64 a0_2) := (blk_cell BK203.out 2).trans rfl
      have hfz10_0 := blk_frozen BK203.out 0
      have hfz10_1 := blk_frozen BK203.out 1
      have hfz10_2 := blk_frozen BK203.out 2
      go_wp2
      go_ret
      exact ⟨z9_10, z9_3⟩
    ·rw [if_neg c7] at H
     have c7b0 : decide (0 ≤ a0_1) = false := decide_eq_false c7
     clear c7
     obtain rfl := Option.some.inj H
     have hcz11_0 : wc.cell? ⟨gb203, 0, none⟩ = some (.int .i64 a0_0) := (blk_cell BK203.out 0).trans rfl
     have hcz11_1 : wc.cell? ⟨gb203, 1, none⟩ = some (.int .i64 a0_1) := (blk_cell BK203.out 1).trans rfl
     have hcz11_2 : wc.cell? ⟨gb203, 2, none⟩ = some (.int .i64 a0_2) := (blk_cell BK203.out 2).trans rfl
     have hfz11_0 := blk_frozen BK203.out 0
     have hfz11_1 := blk_frozen BK203.out 1
     have hfz11_2 := blk_frozen BK203.out 2
     go_wp2
     go_ret
     exact ⟨z9_10, z9_3⟩
   ·replace c6 := Bool.eq_false_iff.mpr c6
    subst c6
    have H1 : (if a0_0 = 3 then (impl_ProgramValid.j1 kj1 a0_0 (a0_0 == 3) a0_0 a0_1 a0_2) else (impl_ProgramValid.j1 kj1 a0_0 (a0_0 == 5) a0_0 a0_1 a0_2)) = some r := by rw [if_neg (show ¬ (false = true) by decide)] at H; exact H
    clear H
    have H := H1
    clear H1
    have HC12 := Aside0.mk H
    clear H
    go_upto_if 21 with (fail)
    go_cut [21] (fun v21 wc => ∃ (kq : Nat) (x21_11 : Bool), v21 = .bool x21_11 ∧ Aside0 (impl_ProgramValid.j1 kq a0_0 x21_11 a0_0 a0_1 a0_2 = some r) ∧ Aside0 (kq ≤ kj1) ∧ Aside0 (wc.heap[gb203]? = some (.cells #[.int .i64 a0_0, .int .i64 a0_1, .int .i64 a0_2] 47 (0, 0))) ∧ Aside0 (Below w.heap.size w wc))
    case first =>
     have H := HC12.out
     clear HC12
     by_cases c13 : a0_0 = 3
     ·rw [if_pos c13] at H
      have c13b0 : (a0_0 == 3) = true := beq_iff_eq.mpr c13
      have c13b1 : (a0_0 != 3) = false := bne_eq_false_iff_eq.mpr c13
      clear c13
      (first | rw [c13b0] | (simp only [i64_w, i32_w]; rw [c13b0]) | skip)
      have H' := Aside0.mk H
      clear H
      go_wp2
      go_meet
      case rel => exact ⟨_, ((a0_0 == 3)), z9_19, H', ⟨by have := HJ1.out; first | omega | exact Nat.le_refl _⟩, ⟨z9_20⟩, ⟨z9_3⟩⟩
     ·rw [if_neg c13] at H
      have c13b0 : (a0_0 == 3) = false := beq_eq_false_iff_ne.mpr c13
      have c13b1 : (a0_0 != 3) = true := bne_iff_ne.mpr c13
      (first | rw [c13b0] | (simp only [i64_w, i32_w]; rw [c13b0]) | skip)
      have H' := Aside0.mk H
      clear H
      go_wp2
      go_meet
      case rel => exact ⟨_, ((a0_0 == 5)), z9_19, H', ⟨by have := HJ1.out; first | omega | exact Nat.le_refl _⟩, ⟨z9_20⟩, ⟨z9_3⟩⟩
    case rest =>
     clear HC12
     try clear c1
     try clear p2
     try clear c5
     try clear c5b0
     try clear c5b1
     try clear c6
     try clear c7
     try clear c7b0
     try clear c8
     try clear c8b0
     try clear c13
     try clear c13b0
     try clear c13b1
     try clear hcz10_0
     try clear hcz10_1
     try clear hcz10_2
     try clear hcz11_0
     try clear hcz11_1
     try clear hcz11_2
     try clear hcz4_0
     try clear hcz4_1
     try clear hcz4_2
     try clear hcz9_0
     try clear hcz9_1
     try clear hcz9_2
     try clear hfz10_0
     try clear hfz10_1
     try clear hfz10_2
     try clear hfz11_0
     try clear hfz11_1
     try clear hfz11_2
     try clear hfz4_0
     try clear hfz4_1
     try clear hfz4_2
     try clear hfz9_0
     try clear hfz9_1
     try clear hfz9_2
     try clear p2
     obtain ⟨kq, x21_11, rfl, HA, HJ11, BK203, HB⟩ := hcut
     cases kq with
     | zero => exact absurd HA.out (by simp [impl_ProgramValid.j1])
     | succ kj11 =>
      have H := HA.out
      clear HA
      simp only [impl_ProgramValid.j1] at H
      by_cases c14 : x21_11 = true
      ·subst c14
       have H1 : (if a0_1 = 0 then (some (a0_2 == 0)) else (some false)) = some r := by rw [if_pos rfl] at H; exact H
       clear H
       have H := H1
       clear H1
       by_cases c15 : a0_1 = 0
       ·rw [if_pos c15] at H
        have c15b0 : (a0_1 == 0) = true := beq_iff_eq.mpr c15
        have c15b1 : (a0_1 != 0) = false := bne_eq_false_iff_eq.mpr c15
        clear c15
        obtain rfl := Option.some.inj H
        have hcz16_0 : wc.cell? ⟨gb203, 0, none⟩ = some (.int .i64 a0_0) := (blk_cell BK203.out 0).trans rfl
        have hcz16_1 : wc.cell? ⟨gb203, 1, none⟩ = some (.int .i64 a0_1) := (blk_cell BK203.out 1).trans rfl
        have hcz16_2 : wc.cell? ⟨gb203, 2, none⟩ = some (.int .i64 a0_2) := (blk_cell BK203.out 2).trans rfl
        have hfz16_0 := blk_frozen BK203.out 0
        have hfz16_1 := blk_frozen BK203.out 1
        have hfz16_2 := blk_frozen BK203.out 2
        go_wp2
        go_ret
        exact ⟨z9_10, z9_3⟩
       ·rw [if_neg c15] at H
        have c15b0 : (a0_1 == 0) = false := beq_eq_false_iff_ne.mpr c15
        have c15b1 : (a0_1 != 0) = true := bne_iff_ne.mpr c15
        obtain rfl := Option.some.inj H
        have hcz17_0 : wc.cell? ⟨gb203, 0, none⟩ = some (.int .i64 a0_0) := (blk_cell BK203.out 0).trans rfl
        have hcz17_1 : wc.cell? ⟨gb203, 1, none⟩ = some (.int .i64 a0_1) := (blk_cell BK203.out 1).trans rfl
        have hcz17_2 : wc.cell? ⟨gb203, 2, none⟩ = some (.int .i64 a0_2) := (blk_cell BK203.out 2).trans rfl
        have hfz17_0 := blk_frozen BK203.out 0
        have hfz17_1 := blk_frozen BK203.out 1
        have hfz17_2 := blk_frozen BK203.out 2
        go_wp2
        go_ret
        exact ⟨z9_10, z9_3⟩
      ·replace c14 := Bool.eq_false_iff.mpr c14
       subst c14
       have H1 : (if a0_0 = 4 then (if a0_1 = 0 then (if a0_2 ≥ 1 then (some (decide (a0_2 ≤ 20))) else (some false)) else (some false)) else (if a0_0 = 6 then (if a0_1 = 0 then (if a0_2 ≥ 1 then (some (decide (a0_2 ≤ 20))) else (some false)) else (some false)) else (some false))) = some r := by rw [if_neg (show ¬ (false = true) by decide)] at H; exact H
       clear H
       have H := H1
       clear H1
       by_cases c18 : a0_0 = 4
       ·rw [if_pos c18] at H
        have c18b0 : (a0_0 == 4) = true := beq_iff_eq.mpr c18
        have c18b1 : (a0_0 != 4) = false := bne_eq_false_iff_eq.mpr c18
        clear c18
        by_cases c19 : a0_1 = 0
        ·rw [if_pos c19] at H
         have c19b0 : (a0_1 == 0) = true := beq_iff_eq.mpr c19
         have c19b1 : (a0_1 != 0) = false := bne_eq_false_iff_eq.mpr c19
         clear c19
         by_cases c20 : a0_2 ≥ 1
         ·rw [if_pos c20] at H
          have c20b0 : decide (1 ≤ a0_2) = true := decide_eq_true c20
          clear c20
          obtain rfl := Option.some.inj H
          have hcz21_0 : wc.cell? ⟨gb203, 0, none⟩ = some (.int .i64 a0_0) := (blk_cell BK203.out 0).trans rfl
          have hcz21_1 : wc.cell? ⟨gb203, 1, none⟩ = some (.int .i64 a0_1) := (blk_cell BK203.out 1).trans rfl
          have hcz21_2 : wc.cell? ⟨gb203, 2, none⟩ = some (.int .i64 a0_2) := (blk_cell BK203.out 2).trans rfl
          have hfz21_0 := blk_frozen BK203.out 0
          have hfz21_1 := blk_frozen BK203.out 1
          have hfz21_2 := blk_frozen BK203.out 2
          go_wp2
          go_ret
          exact ⟨z9_10, z9_3⟩
         ·rw [if_neg c20] at H
          have c20b0 : decide (1 ≤ a0_2) = false := decide_eq_false c20
          clear c20
          obtain rfl := Option.some.inj H
          have hcz22_0 : wc.cell? ⟨gb203, 0, none⟩ = some (.int .i64 a0_0) := (blk_cell BK203.out 0).trans rfl
          have hcz22_1 : wc.cell? ⟨gb203, 1, none⟩ = some (.int .i64 a0_1) := (blk_cell BK203.out 1).trans rfl
          have hcz22_2 : wc.cell? ⟨gb203, 2, none⟩ = some (.int .i64 a0_2) := (blk_cell BK203.out 2).trans rfl
          have hfz22_0 := blk_frozen BK203.out 0
          have hfz22_1 := blk_frozen BK203.out 1
          have hfz22_2 := blk_frozen BK203.out 2
          go_wp2
          go_ret
          exact ⟨z9_10, z9_3⟩
        ·rw [if_neg c19] at H
         have c19b0 : (a0_1 == 0) = false := beq_eq_false_iff_ne.mpr c19
         have c19b1 : (a0_1 != 0) = true := bne_iff_ne.mpr c19
         obtain rfl := Option.some.inj H
         have hcz23_0 : wc.cell? ⟨gb203, 0, none⟩ = some (.int .i64 a0_0) := (blk_cell BK203.out 0).trans rfl
         have hcz23_1 : wc.cell? ⟨gb203, 1, none⟩ = some (.int .i64 a0_1) := (blk_cell BK203.out 1).trans rfl
         have hcz23_2 : wc.cell? ⟨gb203, 2, none⟩ = some (.int .i64 a0_2) := (blk_cell BK203.out 2).trans rfl
         have hfz23_0 := blk_frozen BK203.out 0
         have hfz23_1 := blk_frozen BK203.out 1
         have hfz23_2 := blk_frozen BK203.out 2
         go_wp2
         go_ret
         exact ⟨z9_10, z9_3⟩
       ·rw [if_neg c18] at H
        have c18b0 : (a0_0 == 4) = false := beq_eq_false_iff_ne.mpr c18
        have c18b1 : (a0_0 != 4) = true := bne_iff_ne.mpr c18
        by_cases c24 : a0_0 = 6
        ·rw [if_pos c24] at H
         have c24b0 : (a0_0 == 6) = true := beq_iff_eq.mpr c24
         have c24b1 : (a0_0 != 6) = false := bne_eq_false_iff_eq.mpr c24
         clear c24
         by_cases c25 : a0_1 = 0
         ·rw [if_pos c25] at H
          have c25b0 : (a0_1 == 0) = true := beq_iff_eq.mpr c25
          have c25b1 : (a0_1 != 0) = false := bne_eq_false_iff_eq.mpr c25
          clear c25
          by_cases c26 : a0_2 ≥ 1
          ·rw [if_pos c26] at H
           have c26b0 : decide (1 ≤ a0_2) = true := decide_eq_true c26
           clear c26
           obtain rfl := Option.some.inj H
           have hcz27_0 : wc.cell? ⟨gb203, 0, none⟩ = some (.int .i64 a0_0) := (blk_cell BK203.out 0).trans rfl
           have hcz27_1 : wc.cell? ⟨gb203, 1, none⟩ = some (.int .i64 a0_1) := (blk_cell BK203.out 1).trans rfl
           have hcz27_2 : wc.cell? ⟨gb203, 2, none⟩ = some (.int .i64 a0_2) := (blk_cell BK203.out 2).trans rfl
           have hfz27_0 := blk_frozen BK203.out 0
           have hfz27_1 := blk_frozen BK203.out 1
           have hfz27_2 := blk_frozen BK203.out 2
           go_wp2
           go_ret
           exact ⟨z9_10, z9_3⟩
          ·rw [if_neg c26] at H
           have c26b0 : decide (1 ≤ a0_2) = false := decide_eq_false c26
           clear c26
           obtain rfl := Option.some.inj H
           have hcz28_0 : wc.cell? ⟨gb203, 0, none⟩ = some (.int .i64 a0_0) := (blk_cell BK203.out 0).trans rfl
           have hcz28_1 : wc.cell? ⟨gb203, 1, none⟩ = some (.int .i64 a0_1) := (blk_cell BK203.out 1).trans rfl
           have hcz28_2 : wc.cell? ⟨gb203, 2, none⟩ = some (.int .i64 a0_2) := (blk_cell BK203.out 2).trans rfl
           have hfz28_0 := blk_frozen BK203.out 0
           have hfz28_1 := blk_frozen BK203.out 1
           have hfz28_2 := blk_frozen BK203.out 2
           go_wp2
           go_ret
           exact ⟨z9_10, z9_3⟩
         ·rw [if_neg c25] at H
          have c25b0 : (a0_1 == 0) = false := beq_eq_false_iff_ne.mpr c25
          have c25b1 : (a0_1 != 0) = true := bne_iff_ne.mpr c25
          obtain rfl := Option.some.inj H
          have hcz29_0 : wc.cell? ⟨gb203, 0, none⟩ = some (.int .i64 a0_0) := (blk_cell BK203.out 0).trans rfl
          have hcz29_1 : wc.cell? ⟨gb203, 1, none⟩ = some (.int .i64 a0_1) := (blk_cell BK203.out 1).trans rfl
          have hcz29_2 : wc.cell? ⟨gb203, 2, none⟩ = some (.int .i64 a0_2) := (blk_cell BK203.out 2).trans rfl
          have hfz29_0 := blk_frozen BK203.out 0
          have hfz29_1 := blk_frozen BK203.out 1
          have hfz29_2 := blk_frozen BK203.out 2
          go_wp2
          go_ret
          exact ⟨z9_10, z9_3⟩
        ·rw [if_neg c24] at H
         have c24b0 : (a0_0 == 6) = false := beq_eq_false_iff_ne.mpr c24
         have c24b1 : (a0_0 != 6) = true := bne_iff_ne.mpr c24
         obtain rfl := Option.some.inj H
         go_wp2
         go_ret
         exact ⟨z9_10, z9_3⟩

/-! ### impl_CanCombine: function 45 -/
def impl_CanCombine.f (k : Nat) (a0_0 : Int) (a0_1 : Int) (a0_2 : Int) : Option (Bool) := (impl_ProgramValid.f k a0_0 a0_1 a0_2).bind fun t205 => (if t205 = true then (if a0_0 = 1 then (some true) else (if a0_0 = 2 then (some true) else (some (a0_0 == 3)))) else (some false))
theorem impl_CanCombine.mono : ∀ a0 a1 a2 k, LeO (impl_CanCombine.f k a0 a1 a2) (impl_CanCombine.f (k + 1) a0 a1 a2) := by
 intro a0 a1 a2 k
 unfold impl_CanCombine.f
 repeat' first
   | (with_reducible exact impl_ProgramValid.mono _ _ _ _)
   | (with_reducible exact LeO.refl _)
   | (with_reducible exact LeO.none _)
   | (with_reducible refine LeO.ite ?_ ?_)
   | (with_reducible refine LeO.bind ?_ (fun _ => ?_))
   | exact impl_ProgramValid.mono _ _ _ _
   | exact LeO.none _
   | refine LeO.ite ?_ ?_
   | refine LeO.bind ?_ (fun _ => ?_)
set_option maxHeartbeats 8000000 in
set_option maxRecDepth 100000 in
theorem impl_CanCombine.calls (k : Nat) (a0_0 : Int) (a0_1 : Int) (a0_2 : Int) (r : Bool) (w : World) (h : impl_CanCombine.f k a0_0 a0_1 a0_2 = some r) :
  Calls Try.prog 45 #[.agg #[.int .i64 a0_0, .int .i64 a0_1, .int .i64 a0_2]] w fun e w' => e = .returned (.bool r) ∧ Below w.heap.size w w' := by
 have hu47 := Try.underlying47
 have HB := Aside0.mk (Below.refl w.heap.size w)
 have H : ((impl_ProgramValid.f k a0_0 a0_1 a0_2).bind fun t205 => (if t205 = true then (if a0_0 = 1 then (some true) else (if a0_0 = 2 then (some true) else (some (a0_0 == 3)))) else (some false))) = some r := h
 clear h
 replace H := Option.bind_eq_some_iff.mp H
 obtain ⟨t205, A20, H⟩ := H
 replace H : (if t205 = true then (if a0_0 = 1 then (some true) else (if a0_0 = 2 then (some true) else (some (a0_0 == 3)))) else (some false)) = some r := H
 have A2 := Aside0.mk A20
 clear A20
 by_cases c3 : t205 = true
 ·subst c3
  have H1 : (if a0_0 = 1 then (some true) else (if a0_0 = 2 then (some true) else (some (a0_0 == 3)))) = some r := by rw [if_pos rfl] at H; exact H
  clear H
  have H := H1
  clear H1
  by_cases c4 : a0_0 = 1
  ·rw [if_pos c4] at H
   have c4b0 : (a0_0 == 1) = true := beq_iff_eq.mpr c4
   have c4b1 : (a0_0 != 1) = false := bne_eq_false_iff_eq.mpr c4
   clear c4
   obtain rfl := Option.some.inj H
   go_enter Try.func45, Try.ntmps45
   go_wp2_with (first | ((with_reducible refine gate_dst (N := 1) rfl ?_); refine box_event ?hg (N := 1) ?hd (cs := #[.int .i64 a0_0, .int .i64 a0_1, .int .i64 a0_2]) (t := 47) ?hr ?_; (case hd => rfl); (case hg => rfl); (case hr => exact z9_0); intro gb204 hg w5 hbox hb; have n0_ := Aside0.mk (below_step z9_2 hb); have n1_ := Aside0.mk (hbox); have n2_ := Aside0.mk ((z9_16 : w.heap.size ≤ gb204)); have n3_ := Aside0.mk ((z9_16 : w.heap.size ≤ gb204)); clear HB; have HB := n0_; have BK204 := n1_; have GW204 := n2_; have GE204 := n3_; clear n0_ n1_ n2_ n3_; clear hb hbox hg; have hcz6_0 : w5.cell? ⟨gb204, 0, none⟩ = some (.int .i64 a0_0) := (blk_cell BK204.out 0).trans rfl; have hcz6_1 : w5.cell? ⟨gb204, 1, none⟩ = some (.int .i64 a0_1) := (blk_cell BK204.out 1).trans rfl; have hcz6_2 : w5.cell? ⟨gb204, 2, none⟩ = some (.int .i64 a0_2) := (blk_cell BK204.out 2).trans rfl; have hfz6_0 := blk_frozen BK204.out 0; have hfz6_1 := blk_frozen BK204.out 1; have hfz6_2 := blk_frozen BK204.out 2) | ((with_reducible refine gate_callee (f := 79) rfl ?_); refine goesL_ (some 4) rfl rfl Try.func79 (by kernel_rfl) rfl #[.agg #[.int .i64 a0_0, .int .i64 a0_1, .int .i64 a0_2]] rfl z9_12 ?_; (with_reducible refine (impl_ProgramValid.calls k a0_0 a0_1 a0_2 true _ A2.out).mono ?_); rintro e w7 ⟨rfl, hb⟩; refine ⟨_, rfl, ?_⟩; have n0_ := Aside0.mk (blk_below (g := gb204) (o := .cells #[.int .i64 a0_0, .int .i64 a0_1, .int .i64 a0_2] 47 (0, 0)) z9_21 hb); have n1_ := Aside0.mk (below_step z9_13 hb); clear BK204; clear HB; have BK204 := n0_; have HB := n1_; clear n0_ n1_; (try clear hb); (try clear hb2); (try clear hk); (try clear hi); have hcz8_0 : w7.cell? ⟨gb204, 0, none⟩ = some (.int .i64 a0_0) := (blk_cell BK204.out 0).trans rfl; have hcz8_1 : w7.cell? ⟨gb204, 1, none⟩ = some (.int .i64 a0_1) := (blk_cell BK204.out 1).trans rfl; have hcz8_2 : w7.cell? ⟨gb204, 2, none⟩ = some (.int .i64 a0_2) := (blk_cell BK204.out 2).trans rfl; have hfz8_0 := blk_frozen BK204.out 0; have hfz8_1 := blk_frozen BK204.out 1; have hfz8_2 := blk_frozen BK204.out 2))
   go_ret
   exact ⟨z9_10, z9_13⟩
  ·rw [if_neg c4] at H
   have c4b0 : (a0_0 == 1) = false := beq_eq_false_iff_ne.mpr c4
   have c4b1 : (a0_0 != 1) = true := bne_iff_ne.mpr c4
   by_cases c9 : a0_0 = 2
   ·rw [if_pos c9] at H
    have c9b0 : (a0_0 == 2) = true := beq_iff_eq.mpr c9
    have c9b1 : (a0_0 != 2) = false := bne_eq_false_iff_eq.mpr c9
    clear c9
    obtain rfl := Option.some.inj H
    go_enter Try.func45, Try.ntmps45
    go_wp2_with (first | ((with_reducible refine gate_dst (N := 1) rfl ?_); refine box_event ?hg (N := 1) ?hd (cs := #[.int .i64 a0_0, .int .i64 a0_1, .int .i64 a0_2]) (t := 47) ?hr ?_; (case hd => rfl); (case hg => rfl); (case hr => exact z9_0); intro gb204 hg w10 hbox hb; have n0_ := Aside0.mk (below_step z9_2 hb); have n1_ := Aside0.mk (hbox); have n2_ := Aside0.mk ((z9_16 : w.heap.size ≤ gb204)); have n3_ := Aside0.mk ((z9_16 : w.heap.size ≤ gb204)); clear HB; have HB := n0_; have BK204 := n1_; have GW204 := n2_; have GE204 := n3_; clear n0_ n1_ n2_ n3_; clear hb hbox hg; have hcz11_0 : w10.cell? ⟨gb204, 0, none⟩ = some (.int .i64 a0_0) := (blk_cell BK204.out 0).trans rfl; have hcz11_1 : w10.cell? ⟨gb204, 1, none⟩ = some (.int .i64 a0_1) := (blk_cell BK204.out 1).trans rfl; have hcz11_2 : w10.cell? ⟨gb204, 2, none⟩ = some (.int .i64 a0_2) := (blk_cell BK204.out 2).trans rfl; have hfz11_0 := blk_frozen BK204.out 0; have hfz11_1 := blk_frozen BK204.out 1; have hfz11_2 := blk_frozen BK204.out 2) | ((with_reducible refine gate_callee (f := 79) rfl ?_); refine goesL_ (some 4) rfl rfl Try.func79 (by kernel_rfl) rfl #[.agg #[.int .i64 a0_0, .int .i64 a0_1, .int .i64 a0_2]] rfl z9_12 ?_; (with_reducible refine (impl_ProgramValid.calls k a0_0 a0_1 a0_2 true _ A2.out).mono ?_); rintro e w12 ⟨rfl, hb⟩; refine ⟨_, rfl, ?_⟩; have n0_ := Aside0.mk (blk_below (g := gb204) (o := .cells #[.int .i64 a0_0, .int .i64 a0_1, .int .i64 a0_2] 47 (0, 0)) z9_21 hb); have n1_ := Aside0.mk (below_step z9_13 hb); clear BK204; clear HB; have BK204 := n0_; have HB := n1_; clear n0_ n1_; (try clear hb); (try clear hb2); (try clear hk); (try clear hi); have hcz13_0 : w12.cell? ⟨gb204, 0, none⟩ = some (.int .i64 a0_0) := (blk_cell BK204.out 0).trans rfl; have hcz13_1 : w12.cell? ⟨gb204, 1, none⟩ = some (.int .i64 a0_1) := (blk_cell BK204.out 1).trans rfl; have hcz13_2 : w12.cell? ⟨gb204, 2, none⟩ = some (.int .i64 a0_2) := (blk_cell BK204.out 2).trans rfl; have hfz13_0 := blk_frozen BK204.out 0; have hfz13_1 := blk_frozen BK204.out 1; have hfz13_2 := blk_frozen BK204.out 2))
    go_ret
    exact ⟨z9_10, z9_13⟩
   ·rw [if_neg c9] at H
    have c9b0 : (a0_0 == 2) = false := beq_eq_false_iff_ne.mpr c9
    have c9b1 : (a0_0 != 2) = true := bne_iff_ne.mpr c9
    obtain rfl := Option.some.inj H
    go_enter Try.func45, Try.ntmps45
    go_wp2_with (first | ((with_reducible refine gate_dst (N := 1) rfl ?_); refine box_event ?hg (N := 1) ?hd (cs := #[.int .i64 a0_0, .int .i64 a0_1, .int .i64 a0_2]) (t := 47) ?hr ?_; (case hd => rfl); (case hg => rfl); (case hr => exact z9_0); intro gb204 hg w14 hbox hb; have n0_ := Aside0.mk (below_step z9_2 hb); have n1_ := Aside0.mk (hbox); have n2_ := Aside0.mk ((z9_16 : w.heap.size ≤ gb204)); have n3_ := Aside0.mk ((z9_16 : w.heap.size ≤ gb204)); clear HB; have HB := n0_; have BK204 := n1_; have GW204 := n2_; have GE204 := n3_; clear n0_ n1_ n2_ n3_; clear hb hbox hg; have hcz15_0 : w14.cell? ⟨gb204, 0, none⟩ = some (.int .i64 a0_0) := (blk_cell BK204.out 0).trans rfl; have hcz15_1 : w14.cell? ⟨gb204, 1, none⟩ = some (.int .i64 a0_1) := (blk_cell BK204.out 1).trans rfl; have hcz15_2 : w14.cell? ⟨gb204, 2, none⟩ = some (.int .i64 a0_2) := (blk_cell BK204.out 2).trans rfl; have hfz15_0 := blk_frozen BK204.out 0; have hfz15_1 := blk_frozen BK204.out 1; have hfz15_2 := blk_frozen BK204.out 2) | ((with_reducible refine gate_callee (f := 79) rfl ?_); refine goesL_ (some 4) rfl rfl Try.func79 (by kernel_rfl) rfl #[.agg #[.int .i64 a0_0, .int .i64 a0_1, .int .i64 a0_2]] rfl z9_12 ?_; (with_reducible refine (impl_ProgramValid.calls k a0_0 a0_1 a0_2 true _ A2.out).mono ?_); rintro e w16 ⟨rfl, hb⟩; refine ⟨_, rfl, ?_⟩; have n0_ := Aside0.mk (blk_below (g := gb204) (o := .cells #[.int .i64 a0_0, .int .i64 a0_1, .int .i64 a0_2] 47 (0, 0)) z9_21 hb); have n1_ := Aside0.mk (below_step z9_13 hb); clear BK204; clear HB; have BK204 := n0_; have HB := n1_; clear n0_ n1_; (try clear hb); (try clear hb2); (try clear hk); (try clear hi); have hcz17_0 : w16.cell? ⟨gb204, 0, none⟩ = some (.int .i64 a0_0) := (blk_cell BK204.out 0).trans rfl; have hcz17_1 : w16.cell? ⟨gb204, 1, none⟩ = some (.int .i64 a0_1) := (blk_cell BK204.out 1).trans rfl; have hcz17_2 : w16.cell? ⟨gb204, 2, none⟩ = some (.int .i64 a0_2) := (blk_cell BK204.out 2).trans rfl; have hfz17_0 := blk_frozen BK204.out 0; have hfz17_1 := blk_frozen BK204.out 1; have hfz17_2 := blk_frozen BK204.out 2))
    go_ret
    exact ⟨z9_10, z9_13⟩
 ·replace c3 := Bool.eq_false_iff.mpr c3
  subst c3
  have H1 : (some false) = some r := by rw [if_neg (show ¬ (false = true) by decide)] at H; exact H
  clear H
  have H := H1
  clear H1
  obtain rfl := Option.some.inj H
  go_enter Try.func45, Try.ntmps45
  go_wp2_with (first | ((with_reducible refine gate_dst (N := 1) rfl ?_); refine box_event ?hg (N := 1) ?hd (cs := #[.int .i64 a0_0, .int .i64 a0_1, .int .i64 a0_2]) (t := 47) ?hr ?_; (case hd => rfl); (case hg => rfl); (case hr => exact z9_0); intro gb204 hg w18 hbox hb; have n0_ := Aside0.mk (below_step z9_2 hb); have n1_ := Aside0.mk (hbox); have n2_ := Aside0.mk ((z9_16 : w.heap.size ≤ gb204)); have n3_ := Aside0.mk ((z9_16 : w.heap.size ≤ gb204)); clear HB; have HB := n0_; have BK204 := n1_; have GW204 := n2_; have GE204 := n3_; clear n0_ n1_ n2_ n3_; clear hb hbox hg; have hcz19_0 : w18.cell? ⟨gb204, 0, none⟩ = some (.int .i64 a0_0) := (blk_cell BK204.out 0).trans rfl; have hcz19_1 : w18.cell? ⟨gb204, 1, none⟩ = some (.int .i64 a0_1) := (blk_cell BK204.out 1).trans rfl; have hcz19_2 : w18.cell? ⟨gb204, 2, none⟩ = some (.int .i64 a0_2) := (blk_cell BK204.out 2).trans rfl; have hfz19_0 := blk_frozen BK204.out 0; have hfz19_1 := blk_frozen BK204.out 1; have hfz19_2 := blk_frozen BK204.out 2) | ((with_reducible refine gate_callee (f := 79) rfl ?_); refine goesL_ (some 4) rfl rfl Try.func79 (by kernel_rfl) rfl #[.agg #[.int .i64 a0_0, .int .i64 a0_1, .int .i64 a0_2]] rfl z9_12 ?_; (with_reducible refine (impl_ProgramValid.calls k a0_0 a0_1 a0_2 false _ A2.out).mono ?_); rintro e w20 ⟨rfl, hb⟩; refine ⟨_, rfl, ?_⟩; have n0_ := Aside0.mk (blk_below (g := gb204) (o := .cells #[.int .i64 a0_0, .int .i64 a0_1, .int .i64 a0_2] 47 (0, 0)) z9_21 hb); have n1_ := Aside0.mk (below_step z9_13 hb); clear BK204; clear HB; have BK204 := n0_; have HB := n1_; clear n0_ n1_; (try clear hb); (try clear hb2); (try clear hk); (try clear hi)))
  go_ret
  exact ⟨z9_10, z9_13⟩

/-! ### impl_leastOnly: function 80 -/
def impl_leastOnly.l0 : Nat → List (S34) → List (S34) → List (S34) → Int → Int → Option ((List (S34)))
 | 0, _, _, _, _, _ => none
 | k + 1, x0, x3, x6, x7, x8 => if x8 < x7 then (if 0 ≤ x8 then (if x8 < (x6.length : Int) then (if x8 = 0 then (if x3.length < 5864062014805 then (impl_leastOnly.l0 k x0 (x3 ++ [(⟨(rd_T34 x6 x8).f0, (rd_T34 x6 x8).f1, (rd_T34 x6 x8).f2⟩ : S34)]) x6 x7 (wrap64 (x8 + 1))) else (none)) else (if 0 ≤ (wrap64 (x8 - 1)) then (if (wrap64 (x8 - 1)) < (x0.length : Int) then (if ((rd_T34 x0 (wrap64 (x8 - 1))).f0) = ((rd_T34 x6 x8).f0) then (impl_leastOnly.l0 k x0 x3 x6 x7 (wrap64 (x8 + 1))) else (if x3.length < 5864062014805 then (impl_leastOnly.l0 k x0 (x3 ++ [(⟨(rd_T34 x6 x8).f0, (rd_T34 x6 x8).f1, (rd_T34 x6 x8).f2⟩ : S34)]) x6 x7 (wrap64 (x8 + 1))) else (none))) else (none)) else (none))) else (none)) else (none)) else (some x3)
def impl_leastOnly.f (k : Nat) (l0 : List (S34)) : Option ((List (S34))) := impl_leastOnly.l0 k l0 ([] : List (S34)) l0 (l0.length : Int) 0
theorem impl_leastOnly.mono_l : ∀ k, (∀ y0 y1 y2 y3 y4, LeO (impl_leastOnly.l0 k y0 y1 y2 y3 y4) (impl_leastOnly.l0 (k + 1) y0 y1 y2 y3 y4))
 | 0 => fun _ _ _ _ _ r h => by simp [impl_leastOnly.l0] at h
 | k + 1 => by
  have ih0 := impl_leastOnly.mono_l k
  ·intro y0 y1 y2 y3 y4
   unfold impl_leastOnly.l0
   repeat' first
   | (with_reducible exact ih0 _ _ _ _ _)
   | (with_reducible exact LeO.refl _)
   | (with_reducible exact LeO.none _)
   | (with_reducible refine LeO.ite ?_ ?_)
   | (with_reducible refine LeO.bind ?_ (fun _ => ?_))
   | exact ih0 _ _ _ _ _
   | exact LeO.none _
   | refine LeO.ite ?_ ?_
   | refine LeO.bind ?_ (fun _ => ?_)
theorem impl_leastOnly.mono : ∀ a0 k, LeO (impl_leastOnly.f k a0) (impl_leastOnly.f (k + 1) a0) := by
 intro a0 k
 have ih0 := impl_leastOnly.mono_l k
 unfold impl_leastOnly.f
 repeat' first
   | (with_reducible exact ih0 _ _ _ _ _)
   | (with_reducible exact LeO.refl _)
   | (with_reducible exact LeO.none _)
   | (with_reducible refine LeO.ite ?_ ?_)
   | (with_reducible refine LeO.bind ?_ (fun _ => ?_))
   | exact ih0 _ _ _ _ _
   | exact LeO.none _
   | refine LeO.ite ?_ ?_
   | refine LeO.bind ?_ (fun _ => ?_)
set_option maxHeartbeats 8000000 in
set_option maxRecDepth 100000 in
theorem impl_leastOnly.calls (k : Nat) (A0 : Option Addr) (c0 : Nat) (l0 : List (S34)) (r : List (S34)) (w : World) (hr0 : Kd.C k34 w A0 l0.length l0) (hc0 : l0.length ≤ c0) (h : impl_leastOnly.f k l0 = some r) :
  Calls Try.prog 80 #[.slice A0 l0.length c0] w fun e w' => ∃ v0_ : Value, e = .returned (v0_) ∧ Kd.R k34 34 w' w.heap.size (fun _ => True) v0_ r ∧ Below w.heap.size w w' := by
 have hu34 := Try.underlying34
 have HR0 := Aside0.mk hr0
 have HC0 := Aside0.mk hc0
 clear hr0 hc0
 have HB := Aside0.mk (Below.refl w.heap.size w)
 have H : (impl_leastOnly.l0 k l0 ([] : List (S34)) l0 (l0.length : Int) 0) = some r := h
 clear h
 have H' := Aside0.mk H
 clear H
 go_enter Try.func80, Try.ntmps80
 go_wp2
 repeat (go_quiet (fail); try go_wp2)
 go_loopg [3, 8] k (fun kq v3 v8 w' => ∃ (x3_1 : List (S34)) (x8_1 : Int), v8 = .int .i64 x8_1 ∧ Aside0 (impl_leastOnly.l0 kq l0 x3_1 l0 (l0.length : Int) x8_1 = some r) ∧ Aside0 (kq ≤ k) ∧ Aside0 (Kd.R k34 34 w' w.heap.size (fun _ => True) v3 x3_1) ∧ Aside0 (Below w.heap.size w w'))
 case atStart => exact ⟨(([] : List (S34))), (0), z9_19, H', ⟨Nat.le_refl _⟩, ⟨z9_23⟩, ⟨z9_2⟩⟩
 case round =>
  clear H'
  obtain ⟨x3_1, x8_1, rfl, HA, HK1, HO_3, HB⟩ := hrel
  cases gk with
  | zero => exact absurd HA.out (by simp [impl_leastOnly.l0])
  | succ k1 =>
   have H := HA.out
   clear HA
   simp only [impl_leastOnly.l0] at H
   by_cases c2 : x8_1 < (l0.length : Int)
   ·rw [if_pos c2] at H
    have c2b0 : decide (x8_1 < (l0.length : Int)) = true := decide_eq_true c2
    clear c2
    by_cases c3 : 0 ≤ x8_1
    ·rw [if_pos c3] at H
     have c3b0 : decide (0 ≤ x8_1) = true := decide_eq_true c3
     clear c3
     by_cases c4 : x8_1 < (l0.length : Int)
     ·rw [if_pos c4] at H
      have c4b0 : decide (x8_1 < (l0.length : Int)) = true := decide_eq_true c4
      clear c4
      by_cases c5 : x8_1 = 0
      ·rw [if_pos c5] at H
       have c5b0 : (x8_1 == 0) = true := beq_iff_eq.mpr c5
       have c5b1 : (x8_1 != 0) = false := bne_eq_false_iff_eq.mpr c5
       clear c5
       by_cases c6 : x3_1.length < 5864062014805
       ·rw [if_pos c6] at H
        have LMc6 := Aside0.mk c6
        clear c6
        obtain ⟨y208, hy208⟩ : ∃ y_ : List (S34), y_ = (x3_1 ++ [(⟨(rd_T34 l0 x8_1).f0, (rd_T34 l0 x8_1).f1, (rd_T34 l0 x8_1).f2⟩ : S34)]) := ⟨_, rfl⟩
        replace H : (impl_leastOnly.l0 k1 l0 y208 l0 (l0.length : Int) (wrap64 (x8_1 + 1))) = some r := by first | (rw [hy208]; with_reducible exact H) | (have H2_ := (Option.bind_some _ _).symm.trans H; rw [hy208]; with_reducible exact H2_) | (have H2_ := (Option.bind_some _ _).symm.trans H; with_reducible exact H2_) | with_reducible exact H | (rw [hy208]; exact H) | exact H
        have Ny208 := Aside0.mk hy208
        clear hy208
        have H' := Aside0.mk H
        clear H
        have p206 : 0 ≤ (x8_1 : Int) := of_decide_eq_true z9_17
        have q206 : x8_1 < (l0.length : Int) := of_decide_eq_true z9_17
        obtain ⟨ad206, e206, hx206_0, hx206_1, hx206_2⟩ := at_T34 HR0.out x8_1 p206 q206
        cases e206
        replace hx206_0 := (HB.out.cell (World.block_lt_of_cell? w _ hx206_0)).trans hx206_0
        replace hx206_1 := (HB.out.cell (World.block_lt_of_cell? w _ hx206_1)).trans hx206_1
        replace hx206_2 := (HB.out.cell (World.block_lt_of_cell? w _ hx206_2)).trans hx206_2
        replace p206 := eq_true p206
        replace q206 := eq_true q206
        go_wp2_with (first | ((with_reducible refine gate_dst (N := 5) rfl ?_); refine box_event ?hg (N := 5) ?hd (cs := #[.int .i64 0, .int .i64 0, .int .i64 0]) (t := 34) ?hr ?_; (case hd => rfl); (case hg => rfl); (case hr => exact z9_0); intro gb207 hg w7 hbox hb; have n0_ := Aside0.mk (Kd.R_below (Kd.R_elderB z9_15 gb207 (Nat.le_of_eq hg.symm)) hb); have n1_ := Aside0.mk (below_step z9_2 hb); have n2_ := Aside0.mk (hbox); have n3_ := Aside0.mk ((z9_16 : w.heap.size ≤ gb207)); have n4_ := Aside0.mk ((z9_16 : w.heap.size ≤ gb207)); clear HO_3; clear HB; have HO_3 := n0_; have HB := n1_; have BK207 := n2_; have GW207 := n3_; have GE207 := n4_; clear n0_ n1_ n2_ n3_ n4_; clear hb hbox hg; have hcz8_0 : w7.cell? ⟨gb207, 0, none⟩ = some (.int .i64 0) := (blk_cell BK207.out 0).trans rfl; have hcz8_1 : w7.cell? ⟨gb207, 1, none⟩ = some (.int .i64 0) := (blk_cell BK207.out 1).trans rfl; have hcz8_2 : w7.cell? ⟨gb207, 2, none⟩ = some (.int .i64 0) := (blk_cell BK207.out 2).trans rfl; have hfz8_0 := blk_frozen BK207.out 0; have hfz8_1 := blk_frozen BK207.out 1; have hfz8_2 := blk_frozen BK207.out 2) | ((with_reducible refine gate_builtin (b := .append) (xs := #[.tmp 26, .tmp 28]) rfl ?_); at_builtin; refine Kd.R_append k34 (w0 := w) w.heap.size rfl (.tmp 26) (.tmp 28) 28 34 (.agg #[(.int .i64 0), (.int .i64 0), (.int .i64 0)]) 24 rfl Try.underlying28 info34 rfl (by decide) (by omega) u3 x3_1 (⟨(rd_T34 l0 x8_1).f0, (rd_T34 l0 x8_1).f1, (rd_T34 l0 x8_1).f2⟩ : S34) [.int .i64 ((rd_T34 l0 x8_1).f0), .int .i64 ((rd_T34 l0 x8_1).f1), .int .i64 ((rd_T34 l0 x8_1).f2)] (fun k_ => k_ ≠ gb207) (fun _ => False) rfl z9_22 ?aP (fun _ hk => hk.elim) ?aF ?aO ?aB ?aS ?aL ?_; (case aP => exact k34_mkM _ _ _ (⟨(rd_T34 l0 x8_1).f0, (rd_T34 l0 x8_1).f1, (rd_T34 l0 x8_1).f2⟩ : S34)); (case aB => exact z9_5); (case aF => exact (fun k_ hk => Kd.freshB (g := gb207) (o := .cells #[.int .i64 ((rd_T34 l0 x8_1).f0), .int .i64 ((rd_T34 l0 x8_1).f1), .int .i64 ((rd_T34 l0 x8_1).f2)] 34 (0, 0)) z9_1 k_ hk)); (case aO => exact z9_4); (case aS => exact (below_size z9_5)); (case aL => have := LMc6.out; omega); intro v209 w9 ho hb hg hat; rw [← Ny208.out] at ho; have n0_ := Aside0.mk (blk_grown (g := gb207) (o := .cells #[.int .i64 ((rd_T34 l0 x8_1).f0), .int .i64 ((rd_T34 l0 x8_1).f1), .int .i64 ((rd_T34 l0 x8_1).f2)] 34 (0, 0)) z9_1 hg (Kd.R_away HO_3.out (fun _ hk => hk.2))); have n1_ := Aside0.mk (hb); have n2_ := Aside0.mk (ho); clear BK207; clear HB; clear HO_3; have BK207 := n0_; have HB := n1_; have HO210 := n2_; clear n0_ n1_ n2_; clear ho hb hg hat))
        repeat (go_quiet (first | ((with_reducible refine gate_dst (N := 5) rfl ?_); refine box_event ?hg (N := 5) ?hd (cs := #[.int .i64 0, .int .i64 0, .int .i64 0]) (t := 34) ?hr ?_; (case hd => rfl); (case hg => rfl); (case hr => exact z9_0); intro gb207 hg w7 hbox hb; have n0_ := Aside0.mk (Kd.R_below (Kd.R_elderB z9_15 gb207 (Nat.le_of_eq hg.symm)) hb); have n1_ := Aside0.mk (below_step z9_2 hb); have n2_ := Aside0.mk (hbox); have n3_ := Aside0.mk ((z9_16 : w.heap.size ≤ gb207)); have n4_ := Aside0.mk ((z9_16 : w.heap.size ≤ gb207)); clear HO_3; clear HB; have HO_3 := n0_; have HB := n1_; have BK207 := n2_; have GW207 := n3_; have GE207 := n4_; clear n0_ n1_ n2_ n3_ n4_; clear hb hbox hg; have hcz8_0 : w7.cell? ⟨gb207, 0, none⟩ = some (.int .i64 0) := (blk_cell BK207.out 0).trans rfl; have hcz8_1 : w7.cell? ⟨gb207, 1, none⟩ = some (.int .i64 0) := (blk_cell BK207.out 1).trans rfl; have hcz8_2 : w7.cell? ⟨gb207, 2, none⟩ = some (.int .i64 0) := (blk_cell BK207.out 2).trans rfl; have hfz8_0 := blk_frozen BK207.out 0; have hfz8_1 := blk_frozen BK207.out 1; have hfz8_2 := blk_frozen BK207.out 2) | ((with_reducible refine gate_builtin (b := .append) (xs := #[.tmp 26, .tmp 28]) rfl ?_); at_builtin; refine Kd.R_append k34 (w0 := w) w.heap.size rfl (.tmp 26) (.tmp 28) 28 34 (.agg #[(.int .i64 0), (.int .i64 0), (.int .i64 0)]) 24 rfl Try.underlying28 info34 rfl (by decide) (by omega) u3 x3_1 (⟨(rd_T34 l0 x8_1).f0, (rd_T34 l0 x8_1).f1, (rd_T34 l0 x8_1).f2⟩ : S34) [.int .i64 ((rd_T34 l0 x8_1).f0), .int .i64 ((rd_T34 l0 x8_1).f1), .int .i64 ((rd_T34 l0 x8_1).f2)] (fun k_ => k_ ≠ gb207) (fun _ => False) rfl z9_22 ?aP (fun _ hk => hk.elim) ?aF ?aO ?aB ?aS ?aL ?_; (case aP => exact k34_mkM _ _ _ (⟨(rd_T34 l0 x8_1).f0, (rd_T34 l0 x8_1).f1, (rd_T34 l0 x8_1).f2⟩ : S34)); (case aB => exact z9_5); (case aF => exact (fun k_ hk => Kd.freshB (g := gb207) (o := .cells #[.int .i64 ((rd_T34 l0 x8_1).f0), .int .i64 ((rd_T34 l0 x8_1).f1), .int .i64 ((rd_T34 l0 x8_1).f2)] 34 (0, 0)) z9_1 k_ hk)); (case aO => exact z9_4); (case aS => exact (below_size z9_5)); (case aL => have := LMc6.out; omega); intro v209 w9 ho hb hg hat; rw [← Ny208.out] at ho; have n0_ := Aside0.mk (blk_grown (g := gb207) (o := .cells #[.int .i64 ((rd_T34 l0 x8_1).f0), .int .i64 ((rd_T34 l0 x8_1).f1), .int .i64 ((rd_T34 l0 x8_1).f2)] 34 (0, 0)) z9_1 hg (Kd.R_away HO_3.out (fun _ hk => hk.2))); have n1_ := Aside0.mk (hb); have n2_ := Aside0.mk (ho); clear BK207; clear HB; clear HO_3; have BK207 := n0_; have HB := n1_; have HO210 := n2_; clear n0_ n1_ n2_; clear ho hb hg hat)); try go_wp2_with (first | ((with_reducible refine gate_dst (N := 5) rfl ?_); refine box_event ?hg (N := 5) ?hd (cs := #[.int .i64 0, .int .i64 0, .int .i64 0]) (t := 34) ?hr ?_; (case hd => rfl); (case hg => rfl); (case hr => exact z9_0); intro gb207 hg w7 hbox hb; have n0_ := Aside0.mk (Kd.R_below (Kd.R_elderB z9_15 gb207 (Nat.le_of_eq hg.symm)) hb); have n1_ := Aside0.mk (below_step z9_2 hb); have n2_ := Aside0.mk (hbox); have n3_ := Aside0.mk ((z9_16 : w.heap.size ≤ gb207)); have n4_ := Aside0.mk ((z9_16 : w.heap.size ≤ gb207)); clear HO_3; clear HB; have HO_3 := n0_; have HB := n1_; have BK207 := n2_; have GW207 := n3_; have GE207 := n4_; clear n0_ n1_ n2_ n3_ n4_; clear hb hbox hg; have hcz8_0 : w7.cell? ⟨gb207, 0, none⟩ = some (.int .i64 0) := (blk_cell BK207.out 0).trans rfl; have hcz8_1 : w7.cell? ⟨gb207, 1, none⟩ = some (.int .i64 0) := (blk_cell BK207.out 1).trans rfl; have hcz8_2 : w7.cell? ⟨gb207, 2, none⟩ = some (.int .i64 0) := (blk_cell BK207.out 2).trans rfl; have hfz8_0 := blk_frozen BK207.out 0; have hfz8_1 := blk_frozen BK207.out 1; have hfz8_2 := blk_frozen BK207.out 2) | ((with_reducible refine gate_builtin (b := .append) (xs := #[.tmp 26, .tmp 28]) rfl ?_); at_builtin; refine Kd.R_append k34 (w0 := w) w.heap.size rfl (.tmp 26) (.tmp 28) 28 34 (.agg #[(.int .i64 0), (.int .i64 0), (.int .i64 0)]) 24 rfl Try.underlying28 info34 rfl (by decide) (by omega) u3 x3_1 (⟨(rd_T34 l0 x8_1).f0, (rd_T34 l0 x8_1).f1, (rd_T34 l0 x8_1).f2⟩ : S34) [.int .i64 ((rd_T34 l0 x8_1).f0), .int .i64 ((rd_T34 l0 x8_1).f1), .int .i64 ((rd_T34 l0 x8_1).f2)] (fun k_ => k_ ≠ gb207) (fun _ => False) rfl z9_22 ?aP (fun _ hk => hk.elim) ?aF ?aO ?aB ?aS ?aL ?_; (case aP => exact k34_mkM _ _ _ (⟨(rd_T34 l0 x8_1).f0, (rd_T34 l0 x8_1).f1, (rd_T34 l0 x8_1).f2⟩ : S34)); (case aB => exact z9_5); (case aF => exact (fun k_ hk => Kd.freshB (g := gb207) (o := .cells #[.int .i64 ((rd_T34 l0 x8_1).f0), .int .i64 ((rd_T34 l0 x8_1).f1), .int .i64 ((rd_T34 l0 x8_1).f2)] 34 (0, 0)) z9_1 k_ hk)); (case aO => exact z9_4); (case aS => exact (below_size z9_5)); (case aL => have := LMc6.out; omega); intro v209 w9 ho hb hg hat; rw [← Ny208.out] at ho; have n0_ := Aside0.mk (blk_grown (g := gb207) (o := .cells #[.int .i64 ((rd_T34 l0 x8_1).f0), .int .i64 ((rd_T34 l0 x8_1).f1), .int .i64 ((rd_T34 l0 x8_1).f2)] 34 (0, 0)) z9_1 hg (Kd.R_away HO_3.out (fun _ hk => hk.2))); have n1_ := Aside0.mk (hb); have n2_ := Aside0.mk (ho); clear BK207; clear HB; clear HO_3; have BK207 := n0_; have HB := n1_; have HO210 := n2_; clear n0_ n1_ n2_; clear ho hb hg hat)))
        go_roundg k1
        case measure => have := HK1.out; omega
        case rel => exact ⟨(y208), (wrap64 (x8_1 + 1)), z9_19, H', ⟨by have := HK1.out; omega⟩, ⟨by (with_reducible repeat (first | apply Kd.R_alloc | apply Kd.R_drewN | apply Kd.R_drew)); exact Kd.R_mono HO210.out (fun _ hk => trivial)⟩, ⟨z9_5⟩⟩
       ·rw [if_neg c6] at H
        exact absurd H (by simp)
      ·rw [if_neg c5] at H
       have c5b0 : (x8_1 == 0) = false := beq_eq_false_iff_ne.mpr c5
       have c5b1 : (x8_1 != 0) = true := bne_iff_ne.mpr c5
       obtain ⟨ji10, hji10⟩ : ∃ j_ : Int, (wrap64 (x8_1 - 1)) = j_ := ⟨_, rfl⟩
       replace H : (if 0 ≤ (ji10) then (if (ji10) < (l0.length : Int) then (if ((rd_T34 l0 (ji10)).f0) = ((rd_T34 l0 x8_1).f0) then (impl_leastOnly.l0 k1 l0 x3_1 l0 (l0.length : Int) (wrap64 (x8_1 + 1))) else (if x3_1.length < 5864062014805 then (impl_leastOnly.l0 k1 l0 (x3_1 ++ [(⟨(rd_T34 l0 x8_1).f0, (rd_T34 l0 x8_1).f1, (rd_T34 l0 x8_1).f2⟩ : S34)]) l0 (l0.length : Int) (wrap64 (x8_1 + 1))) else (none))) else (none)) else (none)) = some r := by first | (rw [hji10] at H; exact H) | (simp only [hji10] at H ⊢; exact H)
       have hji10w : (IntKind.i64.wrap (x8_1 - 1)) = ji10 := (i64_w _).trans hji10
       by_cases c11 : 0 ≤ (ji10)
       ·rw [if_pos c11] at H
        have c11b0 : decide (0 ≤ (ji10)) = true := decide_eq_true c11
        clear c11
        by_cases c12 : (ji10) < (l0.length : Int)
        ·rw [if_pos c12] at H
         have c12b0 : decide ((ji10) < (l0.length : Int)) = true := decide_eq_true c12
         clear c12
         by_cases c13 : ((rd_T34 l0 (ji10)).f0) = ((rd_T34 l0 x8_1).f0)
         ·rw [if_pos c13] at H
          have c13b0 : (((rd_T34 l0 (ji10)).f0) == ((rd_T34 l0 x8_1).f0)) = true := beq_iff_eq.mpr c13
          have c13b1 : (((rd_T34 l0 (ji10)).f0) != ((rd_T34 l0 x8_1).f0)) = false := bne_eq_false_iff_eq.mpr c13
          clear c13
          have H' := Aside0.mk H
          clear H
          have p206 : 0 ≤ (x8_1 : Int) := of_decide_eq_true z9_17
          have q206 : x8_1 < (l0.length : Int) := of_decide_eq_true z9_17
          obtain ⟨ad206, e206, hx206_0, hx206_1, hx206_2⟩ := at_T34 HR0.out x8_1 p206 q206
          cases e206
          replace hx206_0 := (HB.out.cell (World.block_lt_of_cell? w _ hx206_0)).trans hx206_0
          replace hx206_1 := (HB.out.cell (World.block_lt_of_cell? w _ hx206_1)).trans hx206_1
          replace hx206_2 := (HB.out.cell (World.block_lt_of_cell? w _ hx206_2)).trans hx206_2
          replace p206 := eq_true p206
          replace q206 := eq_true q206
          go_wp2_with (first | ((with_reducible refine gate_dst (N := 5) rfl ?_); refine box_event ?hg (N := 5) ?hd (cs := #[.int .i64 0, .int .i64 0, .int .i64 0]) (t := 34) ?hr ?_; (case hd => rfl); (case hg => rfl); (case hr => exact z9_0); intro gb207 hg w14 hbox hb; have n0_ := Aside0.mk (Kd.R_below (Kd.R_elderB z9_15 gb207 (Nat.le_of_eq hg.symm)) hb); have n1_ := Aside0.mk (below_step z9_2 hb); have n2_ := Aside0.mk (hbox); have n3_ := Aside0.mk ((z9_16 : w.heap.size ≤ gb207)); have n4_ := Aside0.mk ((z9_16 : w.heap.size ≤ gb207)); clear HO_3; clear HB; have HO_3 := n0_; have HB := n1_; have BK207 := n2_; have GW207 := n3_; have GE207 := n4_; clear n0_ n1_ n2_ n3_ n4_; clear hb hbox hg; have hcz15_0 : w14.cell? ⟨gb207, 0, none⟩ = some (.int .i64 0) := (blk_cell BK207.out 0).trans rfl; have hcz15_1 : w14.cell? ⟨gb207, 1, none⟩ = some (.int .i64 0) := (blk_cell BK207.out 1).trans rfl; have hcz15_2 : w14.cell? ⟨gb207, 2, none⟩ = some (.int .i64 0) := (blk_cell BK207.out 2).trans rfl; have hfz15_0 := blk_frozen BK207.out 0; have hfz15_1 := blk_frozen BK207.out 1; have hfz15_2 := blk_frozen BK207.out 2; have p211 : 0 ≤ ((ji10) : Int) := of_decide_eq_true z9_17; have q211 : (ji10) < (l0.length : Int) := of_decide_eq_true z9_17; obtain ⟨ad211, e211, hx211_0, hx211_1, hx211_2⟩ := at_T34 HR0.out (ji10) p211 q211; obtain rfl : ad206 = ad211 := (by injection e211); have hn211_0 : ad206.block ≠ gb207 := Nat.ne_of_lt (Nat.lt_of_lt_of_le z9_11 GW207.out); have hn211_1 : ad206.block ≠ gb207 := Nat.ne_of_lt (Nat.lt_of_lt_of_le z9_11 GW207.out); have hn211_2 : ad206.block ≠ gb207 := Nat.ne_of_lt (Nat.lt_of_lt_of_le z9_11 GW207.out); replace hx211_0 := (HB.out.cell (World.block_lt_of_cell? w _ hx211_0)).trans hx211_0; replace hx211_1 := (HB.out.cell (World.block_lt_of_cell? w _ hx211_1)).trans hx211_1; replace hx211_2 := (HB.out.cell (World.block_lt_of_cell? w _ hx211_2)).trans hx211_2; replace hx211_0 := (cell_far (p := ⟨gb207, 0, none⟩) z9_7 (.int .i64 ((rd_T34 l0 x8_1).f0))).trans hx211_0; replace hx211_1 := (cell_far (p := ⟨gb207, 0, none⟩) z9_7 (.int .i64 ((rd_T34 l0 x8_1).f0))).trans hx211_1; replace hx211_2 := (cell_far (p := ⟨gb207, 0, none⟩) z9_7 (.int .i64 ((rd_T34 l0 x8_1).f0))).trans hx211_2; replace hx211_0 := (cell_far (p := ⟨gb207, 1, none⟩) z9_8 (.int .i64 ((rd_T34 l0 x8_1).f1))).trans hx211_0; replace hx211_1 := (cell_far (p := ⟨gb207, 1, none⟩) z9_8 (.int .i64 ((rd_T34 l0 x8_1).f1))).trans hx211_1; replace hx211_2 := (cell_far (p := ⟨gb207, 1, none⟩) z9_8 (.int .i64 ((rd_T34 l0 x8_1).f1))).trans hx211_2; replace hx211_0 := (cell_far (p := ⟨gb207, 2, none⟩) z9_9 (.int .i64 ((rd_T34 l0 x8_1).f2))).trans hx211_0; replace hx211_1 := (cell_far (p := ⟨gb207, 2, none⟩) z9_9 (.int .i64 ((rd_T34 l0 x8_1).f2))).trans hx211_1; replace hx211_2 := (cell_far (p := ⟨gb207, 2, none⟩) z9_9 (.int .i64 ((rd_T34 l0 x8_1).f2))).trans hx211_2; (try have hy211_0 := fun (n_ : Nat) => (show (((((w14.drewN n_).setCell ⟨gb207, 0, none⟩ (.int .i64 ((rd_T34 l0 x8_1).f0))).setCell ⟨gb207, 1, none⟩ (.int .i64 ((rd_T34 l0 x8_1).f1))).setCell ⟨gb207, 2, none⟩ (.int .i64 ((rd_T34 l0 x8_1).f2)))).cell? _ = some _ from hx211_0)); (try have hy211_1 := fun (n_ : Nat) => (show (((((w14.drewN n_).setCell ⟨gb207, 0, none⟩ (.int .i64 ((rd_T34 l0 x8_1).f0))).setCell ⟨gb207, 1, none⟩ (.int .i64 ((rd_T34 l0 x8_1).f1))).setCell ⟨gb207, 2, none⟩ (.int .i64 ((rd_T34 l0 x8_1).f2)))).cell? _ = some _ from hx211_1)); (try have hy211_2 := fun (n_ : Nat) => (show (((((w14.drewN n_).setCell ⟨gb207, 0, none⟩ (.int .i64 ((rd_T34 l0 x8_1).f0))).setCell ⟨gb207, 1, none⟩ (.int .i64 ((rd_T34 l0 x8_1).f1))).setCell ⟨gb207, 2, none⟩ (.int .i64 ((rd_T34 l0 x8_1).f2)))).cell? _ = some _ from hx211_2)); clear hn211_0; clear hn211_1; clear hn211_2; replace p211 := eq_true p211; replace q211 := eq_true q211))
          repeat (go_quiet (first | ((with_reducible refine gate_dst (N := 5) rfl ?_); refine box_event ?hg (N := 5) ?hd (cs := #[.int .i64 0, .int .i64 0, .int .i64 0]) (t := 34) ?hr ?_; (case hd => rfl); (case hg => rfl); (case hr => exact z9_0); intro gb207 hg w14 hbox hb; have n0_ := Aside0.mk (Kd.R_below (Kd.R_elderB z9_15 gb207 (Nat.le_of_eq hg.symm)) hb); have n1_ := Aside0.mk (below_step z9_2 hb); have n2_ := Aside0.mk (hbox); have n3_ := Aside0.mk ((z9_16 : w.heap.size ≤ gb207)); have n4_ := Aside0.mk ((z9_16 : w.heap.size ≤ gb207)); clear HO_3; clear HB; have HO_3 := n0_; have HB := n1_; have BK207 := n2_; have GW207 := n3_; have GE207 := n4_; clear n0_ n1_ n2_ n3_ n4_; clear hb hbox hg; have hcz15_0 : w14.cell? ⟨gb207, 0, none⟩ = some (.int .i64 0) := (blk_cell BK207.out 0).trans rfl; have hcz15_1 : w14.cell? ⟨gb207, 1, none⟩ = some (.int .i64 0) := (blk_cell BK207.out 1).trans rfl; have hcz15_2 : w14.cell? ⟨gb207, 2, none⟩ = some (.int .i64 0) := (blk_cell BK207.out 2).trans rfl; have hfz15_0 := blk_frozen BK207.out 0; have hfz15_1 := blk_frozen BK207.out 1; have hfz15_2 := blk_frozen BK207.out 2; have p211 : 0 ≤ ((ji10) : Int) := of_decide_eq_true z9_17; have q211 : (ji10) < (l0.length : Int) := of_decide_eq_true z9_17; obtain ⟨ad211, e211, hx211_0, hx211_1, hx211_2⟩ := at_T34 HR0.out (ji10) p211 q211; obtain rfl : ad206 = ad211 := (by injection e211); have hn211_0 : ad206.block ≠ gb207 := Nat.ne_of_lt (Nat.lt_of_lt_of_le z9_11 GW207.out); have hn211_1 : ad206.block ≠ gb207 := Nat.ne_of_lt (Nat.lt_of_lt_of_le z9_11 GW207.out); have hn211_2 : ad206.block ≠ gb207 := Nat.ne_of_lt (Nat.lt_of_lt_of_le z9_11 GW207.out); replace hx211_0 := (HB.out.cell (World.block_lt_of_cell? w _ hx211_0)).trans hx211_0; replace hx211_1 := (HB.out.cell (World.block_lt_of_cell? w _ hx211_1)).trans hx211_1; replace hx211_2 := (HB.out.cell (World.block_lt_of_cell? w _ hx211_2)).trans hx211_2; replace hx211_0 := (cell_far (p := ⟨gb207, 0, none⟩) z9_7 (.int .i64 ((rd_T34 l0 x8_1).f0))).trans hx211_0; replace hx211_1 := (cell_far (p := ⟨gb207, 0, none⟩) z9_7 (.int .i64 ((rd_T34 l0 x8_1).f0))).trans hx211_1; replace hx211_2 := (cell_far (p := ⟨gb207, 0, none⟩) z9_7 (.int .i64 ((rd_T34 l0 x8_1).f0))).trans hx211_2; replace hx211_0 := (cell_far (p := ⟨gb207, 1, none⟩) z9_8 (.int .i64 ((rd_T34 l0 x8_1).f1))).trans hx211_0; replace hx211_1 := (cell_far (p := ⟨gb207, 1, none⟩) z9_8 (.int .i64 ((rd_T34 l0 x8_1).f1))).trans hx211_1; replace hx211_2 := (cell_far (p := ⟨gb207, 1, none⟩) z9_8 (.int .i64 ((rd_T34 l0 x8_1).f1))).trans hx211_2; replace hx211_0 := (cell_far (p := ⟨gb207, 2, none⟩) z9_9 (.int .i64 ((rd_T34 l0 x8_1).f2))).trans hx211_0; replace hx211_1 := (cell_far (p := ⟨gb207, 2, none⟩) z9_9 (.int .i64 ((rd_T34 l0 x8_1).f2))).trans hx211_1; replace hx211_2 := (cell_far (p := ⟨gb207, 2, none⟩) z9_9 (.int .i64 ((rd_T34 l0 x8_1).f2))).trans hx211_2; (try have hy211_0 := fun (n_ : Nat) => (show (((((w14.drewN n_).setCell ⟨gb207, 0, none⟩ (.int .i64 ((rd_T34 l0 x8_1).f0))).setCell ⟨gb207, 1, none⟩ (.int .i64 ((rd_T34 l0 x8_1).f1))).setCell ⟨gb207, 2, none⟩ (.int .i64 ((rd_T34 l0 x8_1).f2)))).cell? _ = some _ from hx211_0)); (try have hy211_1 := fun (n_ : Nat) => (show (((((w14.drewN n_).setCell ⟨gb207, 0, none⟩ (.int .i64 ((rd_T34 l0 x8_1).f0))).setCell ⟨gb207, 1, none⟩ (.int .i64 ((rd_T34 l0 x8_1).f1))).setCell ⟨gb207, 2, none⟩ (.int .i64 ((rd_T34 l0 x8_1).f2)))).cell? _ = some _ from hx211_1)); (try have hy211_2 := fun (n_ : Nat) => (show (((((w14.drewN n_).setCell ⟨gb207, 0, none⟩ (.int .i64 ((rd_T34 l0 x8_1).f0))).setCell ⟨gb207, 1, none⟩ (.int .i64 ((rd_T34 l0 x8_1).f1))).setCell ⟨gb207, 2, none⟩ (.int .i64 ((rd_T34 l0 x8_1).f2)))).cell? _ = some _ from hx211_2)); clear hn211_0; clear hn211_1; clear hn211_2; replace p211 := eq_true p211; replace q211 := eq_true q211)); try go_wp2_with (first | ((with_reducible refine gate_dst (N := 5) rfl ?_); refine box_event ?hg (N := 5) ?hd (cs := #[.int .i64 0, .int .i64 0, .int .i64 0]) (t := 34) ?hr ?_; (case hd => rfl); (case hg => rfl); (case hr => exact z9_0); intro gb207 hg w14 hbox hb; have n0_ := Aside0.mk (Kd.R_below (Kd.R_elderB z9_15 gb207 (Nat.le_of_eq hg.symm)) hb); have n1_ := Aside0.mk (below_step z9_2 hb); have n2_ := Aside0.mk (hbox); have n3_ := Aside0.mk ((z9_16 : w.heap.size ≤ gb207)); have n4_ := Aside0.mk ((z9_16 : w.heap.size ≤ gb207)); clear HO_3; clear HB; have HO_3 := n0_; have HB := n1_; have BK207 := n2_; have GW207 := n3_; have GE207 := n4_; clear n0_ n1_ n2_ n3_ n4_; clear hb hbox hg; have hcz15_0 : w14.cell? ⟨gb207, 0, none⟩ = some (.int .i64 0) := (blk_cell BK207.out 0).trans rfl; have hcz15_1 : w14.cell? ⟨gb207, 1, none⟩ = some (.int .i64 0) := (blk_cell BK207.out 1).trans rfl; have hcz15_2 : w14.cell? ⟨gb207, 2, none⟩ = some (.int .i64 0) := (blk_cell BK207.out 2).trans rfl; have hfz15_0 := blk_frozen BK207.out 0; have hfz15_1 := blk_frozen BK207.out 1; have hfz15_2 := blk_frozen BK207.out 2; have p211 : 0 ≤ ((ji10) : Int) := of_decide_eq_true z9_17; have q211 : (ji10) < (l0.length : Int) := of_decide_eq_true z9_17; obtain ⟨ad211, e211, hx211_0, hx211_1, hx211_2⟩ := at_T34 HR0.out (ji10) p211 q211; obtain rfl : ad206 = ad211 := (by injection e211); have hn211_0 : ad206.block ≠ gb207 := Nat.ne_of_lt (Nat.lt_of_lt_of_le z9_11 GW207.out); have hn211_1 : ad206.block ≠ gb207 := Nat.ne_of_lt (Nat.lt_of_lt_of_le z9_11 GW207.out); have hn211_2 : ad206.block ≠ gb207 := Nat.ne_of_lt (Nat.lt_of_lt_of_le z9_11 GW207.out); replace hx211_0 := (HB.out.cell (World.block_lt_of_cell? w _ hx211_0)).trans hx211_0; replace hx211_1 := (HB.out.cell (World.block_lt_of_cell? w _ hx211_1)).trans hx211_1; replace hx211_2 := (HB.out.cell (World.block_lt_of_cell? w _ hx211_2)).trans hx211_2; replace hx211_0 := (cell_far (p := ⟨gb207, 0, none⟩) z9_7 (.int .i64 ((rd_T34 l0 x8_1).f0))).trans hx211_0; replace hx211_1 := (cell_far (p := ⟨gb207, 0, none⟩) z9_7 (.int .i64 ((rd_T34 l0 x8_1).f0))).trans hx211_1; replace hx211_2 := (cell_far (p := ⟨gb207, 0, none⟩) z9_7 (.int .i64 ((rd_T34 l0 x8_1).f0))).trans hx211_2; replace hx211_0 := (cell_far (p := ⟨gb207, 1, none⟩) z9_8 (.int .i64 ((rd_T34 l0 x8_1).f1))).trans hx211_0; replace hx211_1 := (cell_far (p := ⟨gb207, 1, none⟩) z9_8 (.int .i64 ((rd_T34 l0 x8_1).f1))).trans hx211_1; replace hx211_2 := (cell_far (p := ⟨gb207, 1, none⟩) z9_8 (.int .i64 ((rd_T34 l0 x8_1).f1))).trans hx211_2; replace hx211_0 := (cell_far (p := ⟨gb207, 2, none⟩) z9_9 (.int .i64 ((rd_T34 l0 x8_1).f2))).trans hx211_0; replace hx211_1 := (cell_far (p := ⟨gb207, 2, none⟩) z9_9 (.int .i64 ((rd_T34 l0 x8_1).f2))).trans hx211_1; replace hx211_2 := (cell_far (p := ⟨gb207, 2, none⟩) z9_9 (.int .i64 ((rd_T34 l0 x8_1).f2))).trans hx211_2; (try have hy211_0 := fun (n_ : Nat) => (show (((((w14.drewN n_).setCell ⟨gb207, 0, none⟩ (.int .i64 ((rd_T34 l0 x8_1).f0))).setCell ⟨gb207, 1, none⟩ (.int .i64 ((rd_T34 l0 x8_1).f1))).setCell ⟨gb207, 2, none⟩ (.int .i64 ((rd_T34 l0 x8_1).f2)))).cell? _ = some _ from hx211_0)); (try have hy211_1 := fun (n_ : Nat) => (show (((((w14.drewN n_).setCell ⟨gb207, 0, none⟩ (.int .i64 ((rd_T34 l0 x8_1).f0))).setCell ⟨gb207, 1, none⟩ (.int .i64 ((rd_T34 l0 x8_1).f1))).setCell ⟨gb207, 2, none⟩ (.int .i64 ((rd_T34 l0 x8_1).f2)))).cell? _ = some _ from hx211_1)); (try have hy211_2 := fun (n_ : Nat) => (show (((((w14.drewN n_).setCell ⟨gb207, 0, none⟩ (.int .i64 ((rd_T34 l0 x8_1).f0))).setCell ⟨gb207, 1, none⟩ (.int .i64 ((rd_T34 l0 x8_1).f1))).setCell ⟨gb207, 2, none⟩ (.int .i64 ((rd_T34 l0 x8_1).f2)))).cell? _ = some _ from hx211_2)); clear hn211_0; clear hn211_1; clear hn211_2; replace p211 := eq_true p211; replace q211 := eq_true q211)))
          go_roundg k1
          case measure => have := HK1.out; omega
          case rel => exact ⟨(x3_1), (wrap64 (x8_1 + 1)), z9_19, H', ⟨by have := HK1.out; omega⟩, ⟨by (with_reducible repeat (first | apply Kd.R_alloc | apply Kd.R_drewN | apply Kd.R_drew)); exact Kd.R_mono (Kd.R_far (p := ⟨gb207, 2, none⟩) (Kd.R_far (p := ⟨gb207, 1, none⟩) (Kd.R_far (p := ⟨gb207, 0, none⟩) (Kd.R_mono HO_3.out (fun k_ hk => (⟨hk, hk.2⟩ : _ ∧ k_ ≠ gb207))) (fun _ hk => hk.2) (.int .i64 ((rd_T34 l0 x8_1).f0))) (fun _ hk => hk.2) (.int .i64 ((rd_T34 l0 x8_1).f1))) (fun _ hk => hk.2) (.int .i64 ((rd_T34 l0 x8_1).f2))) (fun _ hk => trivial)⟩, ⟨z9_5⟩⟩
         ·rw [if_neg c13] at H
          have c13b0 : (((rd_T34 l0 (ji10)).f0) == ((rd_T34 l0 x8_1).f0)) = false := beq_eq_false_iff_ne.mpr c13
          have c13b1 : (((rd_T34 l0 (ji10)).f0) != ((rd_T34 l0 x8_1).f0)) = true := bne_iff_ne.mpr c13
          by_cases c16 : x3_1.length < 5864062014805
          ·rw [if_pos c16] at H
           have LMc16 := Aside0.mk c16
           clear c16
           obtain ⟨y212, hy212⟩ : ∃ y_ : List (S34), y_ = (x3_1 ++ [(⟨(rd_T34 l0 x8_1).f0, (rd_T34 l0 x8_1).f1, (rd_T34 l0 x8_1).f2⟩ : S34)]) := ⟨_, rfl⟩
           replace H : (impl_leastOnly.l0 k1 l0 y212 l0 (l0.length : Int) (wrap64 (x8_1 + 1))) = some r := by first | (rw [hy212]; with_reducible exact H) | (have H2_ := (Option.bind_some _ _).symm.trans H; rw [hy212]; with_reducible exact H2_) | (have H2_ := (Option.bind_some _ _).symm.trans H; with_reducible exact H2_) | with_reducible exact H | (rw [hy212]; exact H) | exact H
           have Ny212 := Aside0.mk hy212
           clear hy212
           have H' := Aside0.mk H
           clear H
           have p206 : 0 ≤ (x8_1 : Int) := of_decide_eq_true z9_17
           have q206 : x8_1 < (l0.length : Int) := of_decide_eq_true z9_17
           obtain ⟨ad206, e206, hx206_0, hx206_1, hx206_2⟩ := at_T34 HR0.out x8_1 p206 q206
           cases e206
           replace hx206_0 := (HB.out.cell (World.block_lt_of_cell? w _ hx206_0)).trans hx206_0
           replace hx206_1 := (HB.out.cell (World.block_lt_of_cell? w _ hx206_1)).trans hx206_1
           replace hx206_2 := (HB.out.cell (World.block_lt_of_cell? w _ hx206_2)).trans hx206_2
           replace p206 := eq_true p206
           replace q206 := eq_true q206
           go_wp2_with (first | ((with_reducible refine gate_dst (N := 5) rfl ?_); refine box_event ?hg (N := 5) ?hd (cs := #[.int .i64 0, .int .i64 0, .int .i64 0]) (t := 34) ?hr ?_; (case hd => rfl); (case hg => rfl); (case hr => exact z9_0); intro gb207 hg w17 hbox hb; have n0_ := Aside0.mk (Kd.R_below (Kd.R_elderB z9_15 gb207 (Nat.le_of_eq hg.symm)) hb); have n1_ := Aside0.mk (below_step z9_2 hb); have n2_ := Aside0.mk (hbox); have n3_ := Aside0.mk ((z9_16 : w.heap.size ≤ gb207)); have n4_ := Aside0.mk ((z9_16 : w.heap.size ≤ gb207)); clear HO_3; clear HB; have HO_3 := n0_; have HB := n1_; have BK207 := n2_; have GW207 := n3_; have GE207 := n4_; clear n0_ n1_ n2_ n3_ n4_; clear hb hbox hg; have hcz18_0 : w17.cell? ⟨gb207, 0, none⟩ = some (.int .i64 0) := (blk_cell BK207.out 0).trans rfl; have hcz18_1 : w17.cell? ⟨gb207, 1, none⟩ = some (.int .i64 0) := (blk_cell BK207.out 1).trans rfl; have hcz18_2 : w17.cell? ⟨gb207, 2, none⟩ = some (.int .i64 0) := (blk_cell BK207.out 2).trans rfl; have hfz18_0 := blk_frozen BK207.out 0; have hfz18_1 := blk_frozen BK207.out 1; have hfz18_2 := blk_frozen BK207.out 2; have p211 : 0 ≤ ((ji10) : Int) := of_decide_eq_true z9_17; have q211 : (ji10) < (l0.length : Int) := of_decide_eq_true z9_17; obtain ⟨ad211, e211, hx211_0, hx211_1, hx211_2⟩ := at_T34 HR0.out (ji10) p211 q211; obtain rfl : ad206 = ad211 := (by injection e211); have hn211_0 : ad206.block ≠ gb207 := Nat.ne_of_lt (Nat.lt_of_lt_of_le z9_11 GW207.out); have hn211_1 : ad206.block ≠ gb207 := Nat.ne_of_lt (Nat.lt_of_lt_of_le z9_11 GW207.out); have hn211_2 : ad206.block ≠ gb207 := Nat.ne_of_lt (Nat.lt_of_lt_of_le z9_11 GW207.out); replace hx211_0 := (HB.out.cell (World.block_lt_of_cell? w _ hx211_0)).trans hx211_0; replace hx211_1 := (HB.out.cell (World.block_lt_of_cell? w _ hx211_1)).trans hx211_1; replace hx211_2 := (HB.out.cell (World.block_lt_of_cell? w _ hx211_2)).trans hx211_2; replace hx211_0 := (cell_far (p := ⟨gb207, 0, none⟩) z9_7 (.int .i64 ((rd_T34 l0 x8_1).f0))).trans hx211_0; replace hx211_1 := (cell_far (p := ⟨gb207, 0, none⟩) z9_7 (.int .i64 ((rd_T34 l0 x8_1).f0))).trans hx211_1; replace hx211_2 := (cell_far (p := ⟨gb207, 0, none⟩) z9_7 (.int .i64 ((rd_T34 l0 x8_1).f0))).trans hx211_2; replace hx211_0 := (cell_far (p := ⟨gb207, 1, none⟩) z9_8 (.int .i64 ((rd_T34 l0 x8_1).f1))).trans hx211_0; replace hx211_1 := (cell_far (p := ⟨gb207, 1, none⟩) z9_8 (.int .i64 ((rd_T34 l0 x8_1).f1))).trans hx211_1; replace hx211_2 := (cell_far (p := ⟨gb207, 1, none⟩) z9_8 (.int .i64 ((rd_T34 l0 x8_1).f1))).trans hx211_2; replace hx211_0 := (cell_far (p := ⟨gb207, 2, none⟩) z9_9 (.int .i64 ((rd_T34 l0 x8_1).f2))).trans hx211_0; replace hx211_1 := (cell_far (p := ⟨gb207, 2, none⟩) z9_9 (.int .i64 ((rd_T34 l0 x8_1).f2))).trans hx211_1; replace hx211_2 := (cell_far (p := ⟨gb207, 2, none⟩) z9_9 (.int .i64 ((rd_T34 l0 x8_1).f2))).trans hx211_2; (try have hy211_0 := fun (n_ : Nat) => (show (((((w17.drewN n_).setCell ⟨gb207, 0, none⟩ (.int .i64 ((rd_T34 l0 x8_1).f0))).setCell ⟨gb207, 1, none⟩ (.int .i64 ((rd_T34 l0 x8_1).f1))).setCell ⟨gb207, 2, none⟩ (.int .i64 ((rd_T34 l0 x8_1).f2)))).cell? _ = some _ from hx211_0)); (try have hy211_1 := fun (n_ : Nat) => (show (((((w17.drewN n_).setCell ⟨gb207, 0, none⟩ (.int .i64 ((rd_T34 l0 x8_1).f0))).setCell ⟨gb207, 1, none⟩ (.int .i64 ((rd_T34 l0 x8_1).f1))).setCell ⟨gb207, 2, none⟩ (.int .i64 ((rd_T34 l0 x8_1).f2)))).cell? _ = some _ from hx211_1)); (try have hy211_2 := fun (n_ : Nat) => (show (((((w17.drewN n_).setCell ⟨gb207, 0, none⟩ (.int .i64 ((rd_T34 l0 x8_1).f0))).setCell ⟨gb207, 1, none⟩ (.int .i64 ((rd_T34 l0 x8_1).f1))).setCell ⟨gb207, 2, none⟩ (.int .i64 ((rd_T34 l0 x8_1).f2)))).cell? _ = some _ from hx211_2)); clear hn211_0; clear hn211_1; clear hn211_2; replace p211 := eq_true p211; replace q211 := eq_true q211) | ((with_reducible refine gate_builtin (b := .append) (xs := #[.tmp 26, .tmp 28]) rfl ?_); at_builtin; refine Kd.R_append k34 (w0 := w) w.heap.size rfl (.tmp 26) (.tmp 28) 28 34 (.agg #[(.int .i64 0), (.int .i64 0), (.int .i64 0)]) 24 rfl Try.underlying28 info34 rfl (by decide) (by omega) u3 x3_1 (⟨(rd_T34 l0 x8_1).f0, (rd_T34 l0 x8_1).f1, (rd_T34 l0 x8_1).f2⟩ : S34) [.int .i64 ((rd_T34 l0 x8_1).f0), .int .i64 ((rd_T34 l0 x8_1).f1), .int .i64 ((rd_T34 l0 x8_1).f2)] (fun k_ => k_ ≠ gb207) (fun _ => False) rfl z9_22 ?aP (fun _ hk => hk.elim) ?aF ?aO ?aB ?aS ?aL ?_; (case aP => exact k34_mkM _ _ _ (⟨(rd_T34 l0 x8_1).f0, (rd_T34 l0 x8_1).f1, (rd_T34 l0 x8_1).f2⟩ : S34)); (case aB => exact z9_5); (case aF => exact (fun k_ hk => Kd.freshB (g := gb207) (o := .cells #[.int .i64 ((rd_T34 l0 x8_1).f0), .int .i64 ((rd_T34 l0 x8_1).f1), .int .i64 ((rd_T34 l0 x8_1).f2)] 34 (0, 0)) z9_1 k_ hk)); (case aO => exact z9_4); (case aS => exact (below_size z9_5)); (case aL => have := LMc16.out; omega); intro v213 w19 ho hb hg hat; rw [← Ny212.out] at ho; have n0_ := Aside0.mk (blk_grown (g := gb207) (o := .cells #[.int .i64 ((rd_T34 l0 x8_1).f0), .int .i64 ((rd_T34 l0 x8_1).f1), .int .i64 ((rd_T34 l0 x8_1).f2)] 34 (0, 0)) z9_1 hg (Kd.R_away HO_3.out (fun _ hk => hk.2))); have n1_ := Aside0.mk (hb); have n2_ := Aside0.mk (ho); clear BK207; clear HB; clear HO_3; have BK207 := n0_; have HB := n1_; have HO214 := n2_; clear n0_ n1_ n2_; clear ho hb hg hat))
           repeat (go_quiet (first | ((with_reducible refine gate_dst (N := 5) rfl ?_); refine box_event ?hg (N := 5) ?hd (cs := #[.int .i64 0, .int .i64 0, .int .i64 0]) (t := 34) ?hr ?_; (case hd => rfl); (case hg => rfl); (case hr => exact z9_0); intro gb207 hg w17 hbox hb; have n0_ := Aside0.mk (Kd.R_below (Kd.R_elderB z9_15 gb207 (Nat.le_of_eq hg.symm)) hb); have n1_ := Aside0.mk (below_step z9_2 hb); have n2_ := Aside0.mk (hbox); have n3_ := Aside0.mk ((z9_16 : w.heap.size ≤ gb207)); have n4_ := Aside0.mk ((z9_16 : w.heap.size ≤ gb207)); clear HO_3; clear HB; have HO_3 := n0_; have HB := n1_; have BK207 := n2_; have GW207 := n3_; have GE207 := n4_; clear n0_ n1_ n2_ n3_ n4_; clear hb hbox hg; have hcz18_0 : w17.cell? ⟨gb207, 0, none⟩ = some (.int .i64 0) := (blk_cell BK207.out 0).trans rfl; have hcz18_1 : w17.cell? ⟨gb207, 1, none⟩ = some (.int .i64 0) := (blk_cell BK207.out 1).trans rfl; have hcz18_2 : w17.cell? ⟨gb207, 2, none⟩ = some (.int .i64 0) := (blk_cell BK207.out 2).trans rfl; have hfz18_0 := blk_frozen BK207.out 0; have hfz18_1 := blk_frozen BK207.out 1; have hfz18_2 := blk_frozen BK207.out 2; have p211 : 0 ≤ ((ji10) : Int) := of_decide_eq_true z9_17; have q211 : (ji10) < (l0.length : Int) := of_decide_eq_true z9_17; obtain ⟨ad211, e211, hx211_0, hx211_1, hx211_2⟩ := at_T34 HR0.out (ji10) p211 q211; obtain rfl : ad206 = ad211 := (by injection e211); have hn211_0 : ad206.block ≠ gb207 := Nat.ne_of_lt (Nat.lt_of_lt_of_le z9_11 GW207.out); have hn211_1 : ad206.block ≠ gb207 := Nat.ne_of_lt (Nat.lt_of_lt_of_le z9_11 GW207.out); have hn211_2 : ad206.block ≠ gb207 := Nat.ne_of_lt (Nat.lt_of_lt_of_le z9_11 GW207.out); replace hx211_0 := (HB.out.cell (World.block_lt_of_cell? w _ hx211_0)).trans hx211_0; replace hx211_1 := (HB.out.cell (World.block_lt_of_cell? w _ hx211_1)).trans hx211_1; replace hx211_2 := (HB.out.cell (World.block_lt_of_cell? w _ hx211_2)).trans hx211_2; replace hx211_0 := (cell_far (p := ⟨gb207, 0, none⟩) z9_7 (.int .i64 ((rd_T34 l0 x8_1).f0))).trans hx211_0; replace hx211_1 := (cell_far (p := ⟨gb207, 0, none⟩) z9_7 (.int .i64 ((rd_T34 l0 x8_1).f0))).trans hx211_1; replace hx211_2 := (cell_far (p := ⟨gb207, 0, none⟩) z9_7 (.int .i64 ((rd_T34 l0 x8_1).f0))).trans hx211_2; replace hx211_0 := (cell_far (p := ⟨gb207, 1, none⟩) z9_8 (.int .i64 ((rd_T34 l0 x8_1).f1))).trans hx211_0; replace hx211_1 := (cell_far (p := ⟨gb207, 1, none⟩) z9_8 (.int .i64 ((rd_T34 l0 x8_1).f1))).trans hx211_1; replace hx211_2 := (cell_far (p := ⟨gb207, 1, none⟩) z9_8 (.int .i64 ((rd_T34 l0 x8_1).f1))).trans hx211_2; replace hx211_0 := (cell_far (p := ⟨gb207, 2, none⟩) z9_9 (.int .i64 ((rd_T34 l0 x8_1).f2))).trans hx211_0; replace hx211_1 := (cell_far (p := ⟨gb207, 2, none⟩) z9_9 (.int .i64 ((rd_T34 l0 x8_1).f2))).trans hx211_1; replace hx211_2 := (cell_far (p := ⟨gb207, 2, none⟩) z9_9 (.int .i64 ((rd_T34 l0 x8_1).f2))).trans hx211_2; (try have hy211_0 := fun (n_ : Nat) => (show (((((w17.drewN n_).setCell ⟨gb207, 0, none⟩ (.int .i64 ((rd_T34 l0 x8_1).f0))).setCell ⟨gb207, 1, none⟩ (.int .i64 ((rd_T34 l0 x8_1).f1))).setCell ⟨gb207, 2, none⟩ (.int .i64 ((rd_T34 l0 x8_1).f2)))).cell? _ = some _ from hx211_0)); (try have hy211_1 := fun (n_ : Nat) => (show (((((w17.drewN n_).setCell ⟨gb207, 0, none⟩ (.int .i64 ((rd_T34 l0 x8_1).f0))).setCell ⟨gb207, 1, none⟩ (.int .i64 ((rd_T34 l0 x8_1).f1))).setCell ⟨gb207, 2, none⟩ (.int .i64 ((rd_T34 l0 x8_1).f2)))).cell? _ = some _ from hx211_1)); (try have hy211_2 := fun (n_ : Nat) => (show (((((w17.drewN n_).setCell ⟨gb207, 0, none⟩ (.int .i64 ((rd_T34 l0 x8_1).f0))).setCell ⟨gb207, 1, none⟩ (.int .i64 ((rd_T34 l0 x8_1).f1))).setCell ⟨gb207, 2, none⟩ (.int .i64 ((rd_T34 l0 x8_1).f2)))).cell? _ = some _ from hx211_2)); clear hn211_0; clear hn211_1; clear hn211_2; replace p211 := eq_true p211; replace q211 := eq_true q211) | ((with_reducible refine gate_builtin (b := .append) (xs := #[.tmp 26, .tmp 28]) rfl ?_); at_builtin; refine Kd.R_append k34 (w0 := w) w.heap.size rfl (.tmp 26) (.tmp 28) 28 34 (.agg #[(.int .i64 0), (.int .i64 0), (.int .i64 0)]) 24 rfl Try.underlying28 info34 rfl (by decide) (by omega) u3 x3_1 (⟨(rd_T34 l0 x8_1).f0, (rd_T34 l0 x8_1).f1, (rd_T34 l0 x8_1).f2⟩ : S34) [.int .i64 ((rd_T34 l0 x8_1).f0), .int .i64 ((rd_T34 l0 x8_1).f1), .int .i64 ((rd_T34 l0 x8_1).f2)] (fun k_ => k_ ≠ gb207) (fun _ => False) rfl z9_22 ?aP (fun _ hk => hk.elim) ?aF ?aO ?aB ?aS ?aL ?_; (case aP => exact k34_mkM _ _ _ (⟨(rd_T34 l0 x8_1).f0, (rd_T34 l0 x8_1).f1, (rd_T34 l0 x8_1).f2⟩ : S34)); (case aB => exact z9_5); (case aF => exact (fun k_ hk => Kd.freshB (g := gb207) (o := .cells #[.int .i64 ((rd_T34 l0 x8_1).f0), .int .i64 ((rd_T34 l0 x8_1).f1), .int .i64 ((rd_T34 l0 x8_1).f2)] 34 (0, 0)) z9_1 k_ hk)); (case aO => exact z9_4); (case aS => exact (below_size z9_5)); (case aL => have := LMc16.out; omega); intro v213 w19 ho hb hg hat; rw [← Ny212.out] at ho; have n0_ := Aside0.mk (blk_grown (g := gb207) (o := .cells #[.int .i64 ((rd_T34 l0 x8_1).f0), .int .i64 ((rd_T34 l0 x8_1).f1), .int .i64 ((rd_T34 l0 x8_1).f2)] 34 (0, 0)) z9_1 hg (Kd.R_away HO_3.out (fun _ hk => hk.2))); have n1_ := Aside0.mk (hb); have n2_ := Aside0.mk (ho); clear BK207; clear HB; clear HO_3; have BK207 := n0_; have HB := n1_; have HO214 := n2_; clear n0_ n1_ n2_; clear ho hb hg hat)); try go_wp2_with (first | ((with_reducible refine gate_dst (N := 5) rfl ?_); refine box_event ?hg (N := 5) ?hd (cs := #[.int .i64 0, .int .i64 0, .int .i64 0]) (t := 34) ?hr ?_; (case hd => rfl); (case hg => rfl); (case hr => exact z9_0); intro gb207 hg w17 hbox hb; have n0_ := Aside0.mk (Kd.R_below (Kd.R_elderB z9_15 gb207 (Nat.le_of_eq hg.symm)) hb); have n1_ := Aside0.mk (below_step z9_2 hb); have n2_ := Aside0.mk (hbox); have n3_ := Aside0.mk ((z9_16 : w.heap.size ≤ gb207)); have n4_ := Aside0.mk ((z9_16 : w.heap.size ≤ gb207)); clear HO_3; clear HB; have HO_3 := n0_; have HB := n1_; have BK207 := n2_; have GW207 := n3_; have GE207 := n4_; clear n0_ n1_ n2_ n3_ n4_; clear hb hbox hg; have hcz18_0 : w17.cell? ⟨gb207, 0, none⟩ = some (.int .i64 0) := (blk_cell BK207.out 0).trans rfl; have hcz18_1 : w17.cell? ⟨gb207, 1, none⟩ = some (.int .i64 0) := (blk_cell BK207.out 1).trans rfl; have hcz18_2 : w17.cell? ⟨gb207, 2, none⟩ = some (.int .i64 0) := (blk_cell BK207.out 2).trans rfl; have hfz18_0 := blk_frozen BK207.out 0; have hfz18_1 := blk_frozen BK207.out 1; have hfz18_2 := blk_frozen BK207.out 2; have p211 : 0 ≤ ((ji10) : Int) := of_decide_eq_true z9_17; have q211 : (ji10) < (l0.length : Int) := of_decide_eq_true z9_17; obtain ⟨ad211, e211, hx211_0, hx211_1, hx211_2⟩ := at_T34 HR0.out (ji10) p211 q211; obtain rfl : ad206 = ad211 := (by injection e211); have hn211_0 : ad206.block ≠ gb207 := Nat.ne_of_lt (Nat.lt_of_lt_of_le z9_11 GW207.out); have hn211_1 : ad206.block ≠ gb207 := Nat.ne_of_lt (Nat.lt_of_lt_of_le z9_11 GW207.out); have hn211_2 : ad206.block ≠ gb207 := Nat.ne_of_lt (Nat.lt_of_lt_of_le z9_11 GW207.out); replace hx211_0 := (HB.out.cell (World.block_lt_of_cell? w _ hx211_0)).trans hx211_0; replace hx211_1 := (HB.out.cell (World.block_lt_of_cell? w _ hx211_1)).trans hx211_1; replace hx211_2 := (HB.out.cell (World.block_lt_of_cell? w _ hx211_2)).trans hx211_2; replace hx211_0 := (cell_far (p := ⟨gb207, 0, none⟩) z9_7 (.int .i64 ((rd_T34 l0 x8_1).f0))).trans hx211_0; replace hx211_1 := (cell_far (p := ⟨gb207, 0, none⟩) z9_7 (.int .i64 ((rd_T34 l0 x8_1).f0))).trans hx211_1; replace hx211_2 := (cell_far (p := ⟨gb207, 0, none⟩) z9_7 (.int .i64 ((rd_T34 l0 x8_1).f0))).trans hx211_2; replace hx211_0 := (cell_far (p := ⟨gb207, 1, none⟩) z9_8 (.int .i64 ((rd_T34 l0 x8_1).f1))).trans hx211_0; replace hx211_1 := (cell_far (p := ⟨gb207, 1, none⟩) z9_8 (.int .i64 ((rd_T34 l0 x8_1).f1))).trans hx211_1; replace hx211_2 := (cell_far (p := ⟨gb207, 1, none⟩) z9_8 (.int .i64 ((rd_T34 l0 x8_1).f1))).trans hx211_2; replace hx211_0 := (cell_far (p := ⟨gb207, 2, none⟩) z9_9 (.int .i64 ((rd_T34 l0 x8_1).f2))).trans hx211_0; replace hx211_1 := (cell_far (p := ⟨gb207, 2, none⟩) z9_9 (.int .i64 ((rd_T34 l0 x8_1).f2))).trans hx211_1; replace hx211_2 := (cell_far (p := ⟨gb207, 2, none⟩) z9_9 (.int .i64 ((rd_T34 l0 x8_1).f2))).trans hx211_2; (try have hy211_0 := fun (n_ : Nat) => (show (((((w17.drewN n_).setCell ⟨gb207, 0, none⟩ (.int .i64 ((rd_T34 l0 x8_1).f0))).setCell ⟨gb207, 1, none⟩ (.int .i64 ((rd_T34 l0 x8_1).f1))).setCell ⟨gb207, 2, none⟩ (.int .i64 ((rd_T34 l0 x8_1).f2)))).cell? _ = some _ from hx211_0)); (try have hy211_1 := fun (n_ : Nat) => (show (((((w17.drewN n_).setCell ⟨gb207, 0, none⟩ (.int .i64 ((rd_T34 l0 x8_1).f0))).setCell ⟨gb207, 1, none⟩ (.int .i64 ((rd_T34 l0 x8_1).f1))).setCell ⟨gb207, 2, none⟩ (.int .i64 ((rd_T34 l0 x8_1).f2)))).cell? _ = some _ from hx211_1)); (try have hy211_2 := fun (n_ : Nat) => (show (((((w17.drewN n_).setCell ⟨gb207, 0, none⟩ (.int .i64 ((rd_T34 l0 x8_1).f0))).setCell ⟨gb207, 1, none⟩ (.int .i64 ((rd_T34 l0 x8_1).f1))).setCell ⟨gb207, 2, none⟩ (.int .i64 ((rd_T34 l0 x8_1).f2)))).cell? _ = some _ from hx211_2)); clear hn211_0; clear hn211_1; clear hn211_2; replace p211 := eq_true p211; replace q211 := eq_true q211) | ((with_reducible refine gate_builtin (b := .append) (xs := #[.tmp 26, .tmp 28]) rfl ?_); at_builtin; refine Kd.R_append k34 (w0 := w) w.heap.size rfl (.tmp 26) (.tmp 28) 28 34 (.agg #[(.int .i64 0), (.int .i64 0), (.int .i64 0)]) 24 rfl Try.underlying28 info34 rfl (by decide) (by omega) u3 x3_1 (⟨(rd_T34 l0 x8_1).f0, (rd_T34 l0 x8_1).f1, (rd_T34 l0 x8_1).f2⟩ : S34) [.int .i64 ((rd_T34 l0 x8_1).f0), .int .i64 ((rd_T34 l0 x8_1).f1), .int .i64 ((rd_T34 l0 x8_1).f2)] (fun k_ => k_ ≠ gb207) (fun _ => False) rfl z9_22 ?aP (fun _ hk => hk.elim) ?aF ?aO ?aB ?aS ?aL ?_; (case aP => exact k34_mkM _ _ _ (⟨(rd_T34 l0 x8_1).f0, (rd_T34 l0 x8_1).f1, (rd_T34 l0 x8_1).f2⟩ : S34)); (case aB => exact z9_5); (case aF => exact (fun k_ hk => Kd.freshB (g := gb207) (o := .cells #[.int .i64 ((rd_T34 l0 x8_1).f0), .int .i64 ((rd_T34 l0 x8_1).f1), .int .i64 ((rd_T34 l0 x8_1).f2)] 34 (0, 0)) z9_1 k_ hk)); (case aO => exact z9_4); (case aS => exact (below_size z9_5)); (case aL => have := LMc16.out; omega); intro v213 w19 ho hb hg hat; rw [← Ny212.out] at ho; have n0_ := Aside0.mk (blk_grown (g := gb207) (o := .cells #[.int .i64 ((rd_T34 l0 x8_1).f0), .int .i64 ((rd_T34 l0 x8_1).f1), .int .i64 ((rd_T34 l0 x8_1).f2)] 34 (0, 0)) z9_1 hg (Kd.R_away HO_3.out (fun _ hk => hk.2))); have n1_ := Aside0.mk (hb); have n2_ := Aside0.mk (ho); clear BK207; clear HB; clear HO_3; have BK207 := n0_; have HB := n1_; have HO214 := n2_; clear n0_ n1_ n2_; clear ho hb hg hat)))
           go_roundg k1
           case measure => have := HK1.out; omega
           case rel => exact ⟨(y212), (wrap64 (x8_1 + 1)), z9_19, H', ⟨by have := HK1.out; omega⟩, ⟨by (with_reducible repeat (first | apply Kd.R_alloc | apply Kd.R_drewN | apply Kd.R_drew)); exact Kd.R_mono HO214.out (fun _ hk => trivial)⟩, ⟨z9_5⟩⟩
          ·rw [if_neg c16] at H
           exact absurd H (by simp)
        ·rw [if_neg c12] at H
         exact absurd H (by simp)
       ·rw [if_neg c11] at H
        exact absurd H (by simp)
     ·rw [if_neg c4] at H
      exact absurd H (by simp)
    ·rw [if_neg c3] at H
     exact absurd H (by simp)
   ·rw [if_neg c2] at H
    have c2b0 : decide (x8_1 < (l0.length : Int)) = false := decide_eq_false c2
    clear c2
    obtain rfl := Option.some.inj H
    go_wp2
    repeat (go_quiet (fail); try go_wp2)
    go_ret
    exact ⟨_, z9_10, z9_15, z9_2⟩

/-! ### impl_CombineMessages: function 34 -/
def impl_CombineMessages.j0 : Nat → List (S34) → Bool → Int → Int → Int → Option ((List (S34)))
 | 0, _, _, _, _, _ => none
 | k + 1, x1, x13, x216000, x216001, x216002 => if x13 = true then (some ([] : List (S34))) else ((impl_inOrder.f x1).bind fun t217 => ((impl_CanCombine.f k x216000 x216001 x216002).bind fun t220 => (if t220 = true then ((impl_leastOnly.f k t217).bind fun t221 => (some t221)) else (some t217))))
def impl_CombineMessages.f (k : Nat) (a0_0 : Int) (a0_1 : Int) (a0_2 : Int) (l1 : List (S34)) : Option ((List (S34))) := (impl_ProgramValid.f k a0_0 a0_1 a0_2).bind fun t216 => (if t216 = true then (impl_CombineMessages.j0 k l1 (decide ((l1.length : Int) > 2000)) a0_0 a0_1 a0_2) else (impl_CombineMessages.j0 k l1 true a0_0 a0_1 a0_2))
theorem impl_CombineMessages.mono_l : ∀ k, (∀ y0 y1 y2 y3 y4, LeO (impl_CombineMessages.j0 k y0 y1 y2 y3 y4) (impl_CombineMessages.j0 (k + 1) y0 y1 y2 y3 y4))
 | 0 => fun _ _ _ _ _ r h => by simp [impl_CombineMessages.j0] at h
 | k + 1 => by
  have ih0 := impl_CombineMessages.mono_l k
  ·intro y0 y1 y2 y3 y4
   unfold impl_CombineMessages.j0
   repeat' first
   | (with_reducible exact ih0 _ _ _ _ _)
   | (with_reducible exact impl_CanCombine.mono _ _ _ _)
   | (with_reducible exact impl_ProgramValid.mono _ _ _ _)
   | (with_reducible exact impl_leastOnly.mono _ _)
   | (with_reducible exact LeO.refl _)
   | (with_reducible exact LeO.none _)
   | (with_reducible refine LeO.ite ?_ ?_)
   | (with_reducible refine LeO.bind ?_ (fun _ => ?_))
   | exact ih0 _ _ _ _ _
   | exact impl_CanCombine.mono _ _ _ _
   | exact impl_ProgramValid.mono _ _ _ _
   | exact impl_leastOnly.mono _ _
   | exact LeO.none _
   | refine LeO.ite ?_ ?_
   | refine LeO.bind ?_ (fun _ => ?_)
theorem impl_CombineMessages.mono : ∀ a0 a1 a2 a3 k, LeO (impl_CombineMessages.f k a0 a1 a2 a3) (impl_CombineMessages.f (k + 1) a0 a1 a2 a3) := by
 intro a0 a1 a2 a3 k
 have ih0 := impl_CombineMessages.mono_l k
 unfold impl_CombineMessages.f
 repeat' first
   | (with_reducible exact ih0 _ _ _ _ _)
   | (with_reducible exact impl_CanCombine.mono _ _ _ _)
   | (with_reducible exact impl_ProgramValid.mono _ _ _ _)
   | (with_reducible exact impl_leastOnly.mono _ _)
   | (with_reducible exact LeO.refl _)
   | (with_reducible exact LeO.none _)
   | (with_reducible refine LeO.ite ?_ ?_)
   | (with_reducible refine LeO.bind ?_ (fun _ => ?_))
   | exact ih0 _ _ _ _ _
   | exact impl_CanCombine.mono _ _ _ _
   | exact impl_ProgramValid.mono _ _ _ _
   | exact impl_leastOnly.mono _ _
   | exact LeO.none _
   | refine LeO.ite ?_ ?_
   | refine LeO.bind ?_ (fun _ => ?_)
set_option maxHeartbeats 8000000 in
set_option maxRecDepth 100000 in
theorem impl_CombineMessages.calls (k : Nat) (a0_0 : Int) (a0_1 : Int) (a0_2 : Int) (A1 : Option Addr) (c1 : Nat) (l1 : List (S34)) (r : List (S34)) (w : World) (hr1 : Kd.C k34 w A1 l1.length l1) (hc1 : l1.length ≤ c1) (h : impl_CombineMessages.f k a0_0 a0_1 a0_2 l1 = some r) :
  Calls Try.prog 34 #[.agg #[.int .i64 a0_0, .int .i64 a0_1, .int .i64 a0_2], .slice A1 l1.length c1] w fun e w' => ∃ v0_ : Value, e = .returned (v0_) ∧ Kd.R k34 34 w' w.heap.size (fun _ => True) v0_ r ∧ Below w.heap.size w w' := by
 have hu47 := Try.underlying47
 have HR1 := Aside0.mk hr1
 have HC1 := Aside0.mk hc1
 clear hr1 hc1
 have HB := Aside0.mk (Below.refl w.heap.size w)
 have H : ((impl_ProgramValid.f k a0_0 a0_1 a0_2).bind fun t216 => (if t216 = true then (impl_CombineMessages.j0 k l1 (decide ((l1.length : Int) > 2000)) a0_0 a0_1 a0_2) else (impl_CombineMessages.j0 k l1 true a0_0 a0_1 a0_2))) = some r := h
 clear h
 have HC3 := Aside0.mk H
 clear H
 go_enter Try.func34, Try.ntmps34
 go_upto_region 1 with (first | ((with_reducible refine gate_dst (N := 2) rfl ?_); (try (refine gate_guard (by rfl) ?_; dsimp only)); refine box_event ?hg (N := 2) ?hd (cs := #[.int .i64 a0_0, .int .i64 a0_1, .int .i64 a0_2]) (t := 47) ?hr ?_; (case hd => rfl); (case hg => rfl); (case hr => exact z9_0); intro gb215 hg w4 hbox hb; have n0_ := Aside0.mk (below_step z9_2 hb); have n1_ := Aside0.mk (hbox); have n2_ := Aside0.mk ((z9_16 : w.heap.size ≤ gb215)); have n3_ := Aside0.mk ((z9_16 : w.heap.size ≤ gb215)); clear HB; have HB := n0_; have BK215 := n1_; have GW215 := n2_; have GE215 := n3_; clear n0_ n1_ n2_ n3_; clear hb hbox hg))
 (try simp only [Act.put, List.setIfInBounds_toArray, List.set_cons_zero, List.set_cons_succ])
 go_cut [13] (fun v13 wc => ∃ (kq : Nat) (x13_2 : Bool), v13 = .bool x13_2 ∧ Aside0 (impl_CombineMessages.j0 kq l1 x13_2 a0_0 a0_1 a0_2 = some r) ∧ Aside0 (kq ≤ k) ∧ Aside0 (wc.heap[gb215]? = some (.cells #[.int .i64 a0_0, .int .i64 a0_1, .int .i64 a0_2] 47 (0, 0))) ∧ Aside0 (Below w.heap.size w wc))
 case first =>
  have H := HC3.out
  clear HC3
  replace H := Option.bind_eq_some_iff.mp H
  obtain ⟨t216, A50, H⟩ := H
  replace H : (if t216 = true then (impl_CombineMessages.j0 k l1 (decide ((l1.length : Int) > 2000)) a0_0 a0_1 a0_2) else (impl_CombineMessages.j0 k l1 true a0_0 a0_1 a0_2)) = some r := H
  have A5 := Aside0.mk A50
  clear A50
  by_cases c6 : t216 = true
  ·subst c6
   have H1 : (impl_CombineMessages.j0 k l1 (decide ((l1.length : Int) > 2000)) a0_0 a0_1 a0_2) = some r := by rw [if_pos rfl] at H; exact H
   clear H
   have H := H1
   clear H1
   have H' := Aside0.mk H
   clear H
   have hcz7_0 : w4.cell? ⟨gb215, 0, none⟩ = some (.int .i64 a0_0) := (blk_cell BK215.out 0).trans rfl
   have hcz7_1 : w4.cell? ⟨gb215, 1, none⟩ = some (.int .i64 a0_1) := (blk_cell BK215.out 1).trans rfl
   have hcz7_2 : w4.cell? ⟨gb215, 2, none⟩ = some (.int .i64 a0_2) := (blk_cell BK215.out 2).trans rfl
   have hfz7_0 := blk_frozen BK215.out 0
   have hfz7_1 := blk_frozen BK215.out 1
   have hfz7_2 := blk_frozen BK215.out 2
   go_wp2_with (first | ((with_reducible refine gate_callee (f := 79) rfl ?_); refine goesL_ (some 7) rfl rfl Try.func79 (by kernel_rfl) rfl #[.agg #[.int .i64 a0_0, .int .i64 a0_1, .int .i64 a0_2]] rfl z9_12 ?_; (with_reducible refine (impl_ProgramValid.calls k a0_0 a0_1 a0_2 true _ A5.out).mono ?_); rintro e w8 ⟨rfl, hb⟩; refine ⟨_, rfl, ?_⟩; have n0_ := Aside0.mk (blk_below (g := gb215) (o := .cells #[.int .i64 a0_0, .int .i64 a0_1, .int .i64 a0_2] 47 (0, 0)) z9_14 hb); have n1_ := Aside0.mk (below_step z9_6 hb); clear BK215; clear HB; have BK215 := n0_; have HB := n1_; clear n0_ n1_; (try clear hb); (try clear hb2); (try clear hk); (try clear hi)))
   go_meet
   case rel => exact ⟨_, (decide ((l1.length : Int) > 2000)), z9_19, H', ⟨by first | omega | exact Nat.le_refl _⟩, ⟨z9_14⟩, ⟨z9_6⟩⟩
  ·replace c6 := Bool.eq_false_iff.mpr c6
   subst c6
   have H1 : (impl_CombineMessages.j0 k l1 true a0_0 a0_1 a0_2) = some r := by rw [if_neg (show ¬ (false = true) by decide)] at H; exact H
   clear H
   have H := H1
   clear H1
   have H' := Aside0.mk H
   clear H
   have hcz9_0 : w4.cell? ⟨gb215, 0, none⟩ = some (.int .i64 a0_0) := (blk_cell BK215.out 0).trans rfl
   have hcz9_1 : w4.cell? ⟨gb215, 1, none⟩ = some (.int .i64 a0_1) := (blk_cell BK215.out 1).trans rfl
   have hcz9_2 : w4.cell? ⟨gb215, 2, none⟩ = some (.int .i64 a0_2) := (blk_cell BK215.out 2).trans rfl
   have hfz9_0 := blk_frozen BK215.out 0
   have hfz9_1 := blk_frozen BK215.out 1
   have hfz9_2 := blk_frozen BK215.out 2
   go_wp2_with (first | ((with_reducible refine gate_callee (f := 79) rfl ?_); refine goesL_ (some 7) rfl rfl Try.func79 (by kernel_rfl) rfl #[.agg #[.int .i64 a0_0, .int .i64 a0_1, .int .i64 a0_2]] rfl z9_12 ?_; (with_reducible refine (impl_ProgramValid.calls k a0_0 a0_1 a0_2 false _ A5.out).mono ?_); rintro e w10 ⟨rfl, hb⟩; refine ⟨_, rfl, ?_⟩; have n0_ := Aside0.mk (blk_below (g := gb215) (o := .cells #[.int .i64 a0_0, .int .i64 a0_1, .int .i64 a0_2] 47 (0, 0)) z9_14 hb); have n1_ := Aside0.mk (below_step z9_6 hb); clear BK215; clear HB; have BK215 := n0_; have HB := n1_; clear n0_ n1_; (try clear hb); (try clear hb2); (try clear hk); (try clear hi)))
   go_meet
   case rel => exact ⟨_, (true), z9_19, H', ⟨by first | omega | exact Nat.le_refl _⟩, ⟨z9_14⟩, ⟨z9_6⟩⟩
 case rest =>
  clear HC3
  try clear c1
  try clear p2
  try clear c3
  try clear c6
  try clear c7
  try clear hcz7_0
  try clear hcz7_1
  try clear hcz7_2
  try clear hcz9_0
  try clear hcz9_1
  try clear hcz9_2
  try clear hfz7_0
  try clear hfz7_1
  try clear hfz7_2
  try clear hfz9_0
  try clear hfz9_1
  try clear hfz9_2
  obtain ⟨kq, x13_2, rfl, HA, HJ2, BK215, HB⟩ := hcut
  cases kq with
  | zero => exact absurd HA.out (by simp [impl_CombineMessages.j0])
  | succ kj2 =>
   have H := HA.out
   clear HA
   simp only [impl_CombineMessages.j0] at H
   by_cases c11 : x13_2 = true
   ·subst c11
    have H1 : (some ([] : List (S34))) = some r := by rw [if_pos rfl] at H; exact H
    clear H
    have H := H1
    clear H1
    obtain rfl := Option.some.inj H
    go_wp2
    go_ret
    exact ⟨_, z9_10, z9_23, z9_6⟩
   ·replace c11 := Bool.eq_false_iff.mpr c11
    subst c11
    have H1 : ((impl_inOrder.f l1).bind fun t217 => ((impl_CanCombine.f kj2 a0_0 a0_1 a0_2).bind fun t220 => (if t220 = true then ((impl_leastOnly.f kj2 t217).bind fun t221 => (some t221)) else (some t217)))) = some r := by rw [if_neg (show ¬ (false = true) by decide)] at H; exact H
    clear H
    have H := H1
    clear H1
    replace H := Option.bind_eq_some_iff.mp H
    obtain ⟨t217, A120, H⟩ := H
    replace H : ((impl_CanCombine.f kj2 a0_0 a0_1 a0_2).bind fun t220 => (if t220 = true then ((impl_leastOnly.f kj2 t217).bind fun t221 => (some t221)) else (some t217))) = some r := H
    have A12 := Aside0.mk A120
    clear A120
    replace H := Option.bind_eq_some_iff.mp H
    obtain ⟨t220, A130, H⟩ := H
    replace H : (if t220 = true then ((impl_leastOnly.f kj2 t217).bind fun t221 => (some t221)) else (some t217)) = some r := H
    have A13 := Aside0.mk A130
    clear A130
    by_cases c14 : t220 = true
    ·subst c14
     have H1 : ((impl_leastOnly.f kj2 t217).bind fun t221 => (some t221)) = some r := by rw [if_pos rfl] at H; exact H
     clear H
     have H := H1
     clear H1
     replace H := Option.bind_eq_some_iff.mp H
     obtain ⟨t221, A150, H⟩ := H
     replace H : (some t221) = some r := H
     have A15 := Aside0.mk A150
     clear A150
     obtain rfl := Option.some.inj H
     go_wp2_with (first | ((with_reducible refine gate_callee (f := 72) rfl ?_); refine goesL_ (some 15) rfl rfl Try.func72 (by kernel_rfl) rfl #[.slice A1 l1.length c1] rfl z9_12 ?_; (with_reducible refine (impl_inOrder.calls _ _ l1 t217 _ ?side1 ?side2 A12.out).mono ?_); (case side1 => repeat (first | exact (Kd.C_below HR1.out HB.out) | (with_reducible refine Kd.C_alloc ?_ _) | (with_reducible refine Kd.C_drewN ?_ _) | (with_reducible refine Kd.C_drew ?_))); (case side2 => exact HC1.out); rintro e w16 ⟨v218, rfl, ho0, hb⟩; refine ⟨_, rfl, ?_⟩; have n0_ := Aside0.mk (Kd.R_lower ho0 (below_size z9_6)); have n1_ := Aside0.mk (blk_below (g := gb215) (o := .cells #[.int .i64 a0_0, .int .i64 a0_1, .int .i64 a0_2] 47 (0, 0)) z9_14 hb); have n2_ := Aside0.mk (below_step z9_6 hb); clear BK215; clear HB; have HO219 := n0_; have BK215 := n1_; have HB := n2_; clear n0_ n1_ n2_; (try clear hb); (try clear hb2); (try clear hk); (try clear hi); (try clear ho0); have hcz17_0 : w16.cell? ⟨gb215, 0, none⟩ = some (.int .i64 a0_0) := (blk_cell BK215.out 0).trans rfl; have hcz17_1 : w16.cell? ⟨gb215, 1, none⟩ = some (.int .i64 a0_1) := (blk_cell BK215.out 1).trans rfl; have hcz17_2 : w16.cell? ⟨gb215, 2, none⟩ = some (.int .i64 a0_2) := (blk_cell BK215.out 2).trans rfl; have hfz17_0 := blk_frozen BK215.out 0; have hfz17_1 := blk_frozen BK215.out 1; have hfz17_2 := blk_frozen BK215.out 2) | ((with_reducible refine gate_callee (f := 45) rfl ?_); refine goesL_ (some 17) rfl rfl Try.func45 (by kernel_rfl) rfl #[.agg #[.int .i64 a0_0, .int .i64 a0_1, .int .i64 a0_2]] rfl z9_12 ?_; (with_reducible refine (impl_CanCombine.calls kj2 a0_0 a0_1 a0_2 true _ A13.out).mono ?_); rintro e w18 ⟨rfl, hb⟩; refine ⟨_, rfl, ?_⟩; have n0_ := Aside0.mk (Kd.R_below z9_18 hb); have n1_ := Aside0.mk (blk_below (g := gb215) (o := .cells #[.int .i64 a0_0, .int .i64 a0_1, .int .i64 a0_2] 47 (0, 0)) z9_14 hb); have n2_ := Aside0.mk (below_step z9_6 hb); clear HO219; clear BK215; clear HB; have HO219 := n0_; have BK215 := n1_; have HB := n2_; clear n0_ n1_ n2_; (try clear hb); (try clear hb2); (try clear hk); (try clear hi); obtain ⟨Ao19, co19, eo19⟩ := Kd.R_slice HO219.out; subst eo19) | ((with_reducible refine gate_callee (f := 80) rfl ?_); refine goesL_ (some 19) rfl rfl Try.func80 (by kernel_rfl) rfl #[.slice Ao19 t217.length co19] rfl z9_12 ?_; (with_reducible refine (impl_leastOnly.calls kj2 _ _ t217 t221 _ ?side1 ?side2 A15.out).mono ?_); (case side1 => repeat (first | exact (Kd.R_reads' HO219.out).2.2 | (with_reducible refine Kd.C_alloc ?_ _) | (with_reducible refine Kd.C_drewN ?_ _) | (with_reducible refine Kd.C_drew ?_))); (case side2 => exact (Kd.R_reads' HO219.out).2.1); rintro e w20 ⟨v222, rfl, ho0, hb⟩; refine ⟨_, rfl, ?_⟩; have n0_ := Aside0.mk (Kd.R_elder' z9_18 (Kd.R_base ho0) hb); have n1_ := Aside0.mk (Kd.R_lower (Kd.R_new' ho0 (Kd.R_lt z9_18)) (below_size z9_6)); have n2_ := Aside0.mk (blk_below (g := gb215) (o := .cells #[.int .i64 a0_0, .int .i64 a0_1, .int .i64 a0_2] 47 (0, 0)) z9_14 hb); have n3_ := Aside0.mk (below_step z9_6 hb); clear HO219; clear BK215; clear HB; have HO219 := n0_; have HO223 := n1_; have BK215 := n2_; have HB := n3_; clear n0_ n1_ n2_ n3_; (try clear hb); (try clear hb2); (try clear hk); (try clear hi); (try clear ho0)))
     go_ret
     exact ⟨_, z9_10, by (with_reducible repeat (first | apply Kd.R_alloc | apply Kd.R_drewN | apply Kd.R_drew)); exact Kd.R_mono HO223.out (fun _ hk => trivial), z9_6⟩
    ·replace c14 := Bool.eq_false_iff.mpr c14
     subst c14
     have H1 : (some t217) = some r := by rw [if_neg (show ¬ (false = true) by decide)] at H; exact H
     clear H
     have H := H1
     clear H1
     obtain rfl := Option.some.inj H
     go_wp2_with (first | ((with_reducible refine gate_callee (f := 72) rfl ?_); refine goesL_ (some 15) rfl rfl Try.func72 (by kernel_rfl) rfl #[.slice A1 l1.length c1] rfl z9_12 ?_; (with_reducible refine (impl_inOrder.calls _ _ l1 t217 _ ?side1 ?side2 A12.out).mono ?_); (case side1 => repeat (first | exact (Kd.C_below HR1.out HB.out) | (with_reducible refine Kd.C_alloc ?_ _) | (with_reducible refine Kd.C_drewN ?_ _) | (with_reducible refine Kd.C_drew ?_))); (case side2 => exact HC1.out); rintro e w21 ⟨v218, rfl, ho0, hb⟩; refine ⟨_, rfl, ?_⟩; have n0_ := Aside0.mk (Kd.R_lower ho0 (below_size z9_6)); have n1_ := Aside0.mk (blk_below (g := gb215) (o := .cells #[.int .i64 a0_0, .int .i64 a0_1, .int .i64 a0_2] 47 (0, 0)) z9_14 hb); have n2_ := Aside0.mk (below_step z9_6 hb); clear BK215; clear HB; have HO219 := n0_; have BK215 := n1_; have HB := n2_; clear n0_ n1_ n2_; (try clear hb); (try clear hb2); (try clear hk); (try clear hi); (try clear ho0); have hcz22_0 : w21.cell? ⟨gb215, 0, none⟩ = some (.int .i64 a0_0) := (blk_cell BK215.out 0).trans rfl; have hcz22_1 : w21.cell? ⟨gb215, 1, none⟩ = some (.int .i64 a0_1) := (blk_cell BK215.out 1).trans rfl; have hcz22_2 : w21.cell? ⟨gb215, 2, none⟩ = some (.int .i64 a0_2) := (blk_cell BK215.out 2).trans rfl; have hfz22_0 := blk_frozen BK215.out 0; have hfz22_1 := blk_frozen BK215.out 1; have hfz22_2 := blk_frozen BK215.out 2) | ((with_reducible refine gate_callee (f := 45) rfl ?_); refine goesL_ (some 17) rfl rfl Try.func45 (by kernel_rfl) rfl #[.agg #[.int .i64 a0_0, .int .i64 a0_1, .int .i64 a0_2]] rfl z9_12 ?_; (with_reducible refine (impl_CanCombine.calls kj2 a0_0 a0_1 a0_2 false _ A13.out).mono ?_); rintro e w23 ⟨rfl, hb⟩; refine ⟨_, rfl, ?_⟩; have n0_ := Aside0.mk (Kd.R_below z9_18 hb); have n1_ := Aside0.mk (blk_below (g := gb215) (o := .cells #[.int .i64 a0_0, .int .i64 a0_1, .int .i64 a0_2] 47 (0, 0)) z9_14 hb); have n2_ := Aside0.mk (below_step z9_6 hb); clear HO219; clear BK215; clear HB; have HO219 := n0_; have BK215 := n1_; have HB := n2_; clear n0_ n1_ n2_; (try clear hb); (try clear hb2); (try clear hk); (try clear hi)))
     go_ret
     exact ⟨_, z9_10, z9_18, z9_6⟩

end Go.Proofs.Ytgdcnlmhdbdijaa.PFnCombineMessages
