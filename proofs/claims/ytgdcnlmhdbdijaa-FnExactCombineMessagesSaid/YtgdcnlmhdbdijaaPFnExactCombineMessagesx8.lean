/- Laid by a program of this session out of the translation: functions, their contracts, the row. Lean checks it. -/
import Derived.Test.YtgdcnlmhdbdijaaPFnExactCombineMessagesx0
import Derived.Test.YtgdcnlmhdbdijaaPFnExactCombineMessagesx5
import Derived.Test.YtgdcnlmhdbdijaaPFnExactCombineMessagesx7
namespace Go.Proofs.Ytgdcnlmhdbdijaa.PFnExactCombineMessages
open Go.RowKit Go.Proofs.YtgdcnlmhdbdijaaW.PrintWords Go.Proofs.YtgdcnlmhdbdijaaW.PrintLast Go.Proofs.YtgdcnlmhdbdijaaW.PrintMore
theorem z8_0 {p : Prop} (h : p := by first | (go_simp; done) | (go_simp; rfl)) : p := h
theorem z8_1 {p : Prop} (h : p := by (with_reducible repeat (first | refine blk_drewN ?_ _ | refine blk_drew ?_ | refine blk_alloc ?_ _)); refine blk_put (cs := #[.int .i64 ((rd_T34 l0 x8_1).f0), .int .i64 ((rd_T34 l0 x8_1).f1), .int .i64 0]) ?_ 2 _ rfl; (with_reducible repeat (first | refine blk_drewN ?_ _ | refine blk_drew ?_ | refine blk_alloc ?_ _)); refine blk_put (cs := #[.int .i64 ((rd_T34 l0 x8_1).f0), .int .i64 0, .int .i64 0]) ?_ 1 _ rfl; (with_reducible repeat (first | refine blk_drewN ?_ _ | refine blk_drew ?_ | refine blk_alloc ?_ _)); refine blk_put (cs := #[.int .i64 0, .int .i64 0, .int .i64 0]) ?_ 0 _ rfl; (with_reducible repeat (first | refine blk_drewN ?_ _ | refine blk_drew ?_ | refine blk_alloc ?_ _)); exact BK209.out) : p := h
theorem z8_2 {p : Prop} (h : p := by repeat (first | (with_reducible first | exact HB.out | apply below_alloc | apply pw_below_drewN | apply below_drew1) | exact HB.out)) : p := h
theorem z8_3 {p : Prop} (h : p := by (with_reducible repeat (first | apply Kd.R_alloc | apply Kd.R_drewN | apply Kd.R_drew)); exact Kd.R_mono (Kd.R_far (p := ⟨gb209, 2, none⟩) (Kd.R_far (p := ⟨gb209, 1, none⟩) (Kd.R_far (p := ⟨gb209, 0, none⟩) (Kd.R_mono HO_3.out (fun k_ hk => (⟨hk, hk.2⟩ : _ ∧ k_ ≠ gb209))) (fun _ hk => hk.2) (.int .i64 ((rd_T34 l0 x8_1).f0))) (fun _ hk => hk.2) (.int .i64 ((rd_T34 l0 x8_1).f1))) (fun _ hk => hk.2) (.int .i64 ((rd_T34 l0 x8_1).f2))) (fun _ hk => hk.1.2)) : p := h
theorem z8_4 {p : Prop} (h : p := by repeat (first | (with_reducible first | exact HB.out | apply below_alloc | apply pw_below_drewN | apply below_drew1 | refine below_set ?_ GE209.out) | exact HB.out)) : p := h
theorem z8_5 {p : Prop} (h : p := by repeat (first | (with_reducible first | exact HB.out | apply below_alloc | apply pw_below_drewN | apply below_drew1 | refine below_set ?_ GE217.out) | exact HB.out)) : p := h
theorem z8_6 {p : Prop} (h : p := by first | (rw [add_block]; exact hn213_0) | (show (Addr.add _ _).block ≠ _; rw [add_block]; exact hn213_0) | exact hn213_0) : p := h
theorem z8_7 {p : Prop} (h : p := by first | (rw [add_block]; exact hn213_1) | (show (Addr.add _ _).block ≠ _; rw [add_block]; exact hn213_1) | exact hn213_1) : p := h
theorem z8_8 {p : Prop} (h : p := by first | (rw [add_block]; exact hn213_2) | (show (Addr.add _ _).block ≠ _; rw [add_block]; exact hn213_2) | exact hn213_2) : p := h
theorem z8_9 {p : Prop} (h : p := by repeat (first | (with_reducible first | exact HB.out | apply below_alloc | apply pw_below_drewN | apply below_drew1 | refine below_set ?_ GE226.out) | exact HB.out)) : p := h
theorem z8_10 {p : Prop} (h : p := by have := World.block_lt_of_cell? _ _ hx213_0; first | rwa [add_block] at this | exact this) : p := h
theorem z8_11 {p : Prop} (h : p := by (with_reducible repeat (first | refine blk_drewN ?_ _ | refine blk_drew ?_ | refine blk_alloc ?_ _)); exact BK226.out) : p := h
theorem z8_12 {p : Prop} (h : p := by first | (with_reducible assumption) | assumption) : p := h
theorem z8_13 {p : Prop} (h : p := by (try simp only [List.map_toArray, List.map_cons, List.map_nil]); first | done | rfl | (simp only [List.length_drop, List.length_take]; rfl)) : p := h
theorem z8_14 {p : Prop} (h : p := by (with_reducible repeat (first | refine blk_drewN ?_ _ | refine blk_drew ?_ | refine blk_alloc ?_ _)); exact BK217.out) : p := h
theorem z8_15 {p : Prop} (h : p := by first | rfl | (simp [errW_none, errW_some] <;> rfl) | (simp [*, errW_none, errW_some] <;> rfl)) : p := h
theorem z8_16 {p : Prop} (h : p := by (with_reducible repeat (first | apply Kd.R_alloc | apply Kd.R_drewN | apply Kd.R_drew)); exact HO_3.out) : p := h
theorem z8_17 {p : Prop} (h : p := by rw [hg]; exact (below_size z8_2)) : p := h
theorem z8_18 {p : Prop} (h : p := by repeat (first | (with_reducible first | exact HB.out | apply below_alloc | apply pw_below_drewN | apply below_drew1 | refine below_set ?_ GE226.out | refine below_set ?_ GE227.out) | exact HB.out)) : p := h
theorem z8_19 {p : Prop} (h : p := by (with_reducible repeat (first | apply Kd.R_alloc | apply Kd.R_drewN | apply Kd.R_drew)); exact HO221.out) : p := h
theorem z8_20 {p : Prop} (h : p := by rw [hg]; exact Nat.ne_of_lt (blk_lt (g := gb226) (o := .cells #[.int .i64 a0_0, .int .i64 a0_1, .int .i64 a0_2] 34 (0, 0)) z8_11)) : p := h
theorem z8_21 {p : Prop} (h : p := by rw [hg]; exact Nat.ne_of_gt (blk_lt (g := gb226) (o := .cells #[.int .i64 a0_0, .int .i64 a0_1, .int .i64 a0_2] 34 (0, 0)) z8_11)) : p := h
theorem z8_22 {p : Prop} (h : p := by first | rfl | (simp; done) | (simp [*]; done)) : p := h
theorem z8_23 {p : Prop} (h : p := by rw [hg]; exact (below_size z8_9)) : p := h
theorem z8_24 {p : Prop} (h : p := by first | (go_simp; done) | (go_simp; rfl)) : p := h
theorem z8_25 {p : Prop} (h : p := by first | exact Kd.R_nil _ _ _ _ _ | exact Kd.N_nil _ _ _ _ _ | exact Kd.V_nil _ _ _ _ _ | exact Kd.Q_nil _ _ _ _ _ | exact Kd.S_nil _ _ _ _ _) : p := h
attribute [local go_sem] max2_int min2_int max_two min_two max_three min_three max_four min_four   -- for this text's walks alone
set_option linter.unusedVariables false
set_option linter.unusedSimpArgs false

/-! ### impl_leastOnly: function 80 -/
def impl_leastOnly.l0 : Nat → List (S34) → List (S34) → List (S34) → Int → Int → Option ((List (S34)))
 | 0, _, _, _, _, _ => none
 | k + 1, x0, x3, x6, x7, x8 => if x8 < x7 then (if 0 ≤ x8 then (if x8 < (x6.length : Int) then (if x8 = 0 then (if x3.length < 5864062014805 then (impl_leastOnly.l0 k x0 (x3 ++ [(⟨(rd_T34 x6 x8).f0, (rd_T34 x6 x8).f1, (rd_T34 x6 x8).f2⟩ : S34)]) x6 x7 (wrap64 (x8 + 1))) else (none)) else (if 0 ≤ (wrap64 (x8 - 1)) then (if (wrap64 (x8 - 1)) < (x0.length : Int) then (if ((rd_T34 x0 (wrap64 (x8 - 1))).f0) = ((rd_T34 x6 x8).f0) then (impl_leastOnly.l0 k x0 x3 x6 x7 (wrap64 (x8 + 1))) else (if x3.length < 5864062014805 then (impl_leastOnly.l0 k x0 (x3 ++ [(⟨(rd_T34 x6 x8).f0, (rd_T34 x6 x8).f1, (rd_T34 x6 x8).f2⟩ : S34)]) x6 x7 (wrap64 (x8 + 1))) else (none))) else (none)) else (none))) else (none)) else (none)) else (some x3)
def impl_leastOnly.f (k : Nat) (l0 : List (S34)) : Option ((List (S34))) := impl_leastOnly.l0 k l0 ([] : List (S34)) l0 (l0.length : Int) 0
theorem impl_leastOnly.mono_l : ∀ k, (∀ y0 y1 y2 y3 y4, LeO (impl_leastOnly.l0 k y0 y1 y2 y3 y4) (impl_leastOnly.l0 (k + 1) y0 y1 y2 y3 y4))
 | 0 => fun _ _ _ _ _ r h => by simp [impl_leastOnly.l0] at h
 | k + 1 => by
  have ih0 := impl_leastOnly.mono_l k
  ·intro y0 y1 y2 y3 y4
   unfold impl_leastOnly.l0
   repeat' first
   | (with_reducible exact ih0 _ _ _ _ _)
   | (with_reducible exact LeO.refl _)
   | (with_reducible exact LeO.none _)
   | (with_reducible refine LeO.ite ?_ ?_)
   | (with_reducible refine LeO.bind ?_ (fun _ => ?_))
   | exact ih0 _ _ _ _ _
   | exact LeO.none _
   | refine LeO.ite ?_ ?_
   | refine LeO.bind ?_ (fun _ => ?_)
theorem impl_leastOnly.mono : ∀ a0 k, LeO (impl_leastOnly.f k a0) (impl_leastOnly.f (k + 1) a0) := by
 intro a0 k
 have ih0 := impl_leastOnly.mono_l k
 unfold impl_leastOnly.f
 repeat' first
   | (with_reducible exact ih0 _ _ _ _ _)
   | (with_reducible exact LeO.refl _)
   | (with_reducible exact LeO.none _)
   | (with_reducible refine LeO.ite ?_ ?_)
   | (with_reducible refine LeO.bind ?_ (fun _ => ?_))
   | exact ih0 _ _ _ _ _
   | exact LeO.none _
   | refine LeO.ite ?_ ?_
   | refine LeO.bind ?_ (fun _ => ?_)
set_option maxHeartbeats 8000000 in
set_option maxRecDepth 100000 in
theorem impl_leastOnly.calls (k : Nat) (A0 : Option Addr) (c0 : Nat) (l0 : List (S34)) (r : List (S34)) (w : World) (hr0 : Kd.C k34 w A0 l0.length l0) (hc0 : l0.length ≤ c0) (h : impl_leastOnly.f k l0 = some r) :
  Calls Try.prog 80 #[.slice A0 l0.length c0] w fun e w' => ∃ v0_ : Value, e = .returned (v0_) ∧ Kd.R k34 34 w' w.heap.size (fun _ => True) v0_ r ∧ Below w.heap.size w w' := by
 have hu34 := Try.underlying34
 have HR0 := Aside0.mk hr0
 have HC0 := Aside0.mk hc0
 clear hr0 hc0
 have HB := Aside0.mk (Below.refl w.heap.size w)
 have H : (impl_leastOnly.l0 k l0 ([] : List (S34)) l0 (l0.length : Int) 0) = some r := h
 clear h
 have H' := Aside0.mk H
 clear H
 go_enter Try.func80, Try.ntmps80
 go_wp2
 repeat (go_quiet (fail); try go_wp2)
 go_loopg [3, 8] k (fun kq v3 v8 w' => ∃ (x3_1 : List (S34)) (x8_1 : Int), v8 = .int .i64 x8_1 ∧ Aside0 (impl_leastOnly.l0 kq l0 x3_1 l0 (l0.length : Int) x8_1 = some r) ∧ Aside0 (kq ≤ k) ∧ Aside0 (Kd.R k34 34 w' w.heap.size (fun _ => True) v3 x3_1) ∧ Aside0 (Below w.heap.size w w'))
 case atStart => exact ⟨(([] : List (S34))), (0), z8_22, H', ⟨Nat.le_refl _⟩, ⟨z8_25⟩, ⟨z8_2⟩⟩
 case round =>
  clear H'
  obtain ⟨x3_1, x8_1, rfl, HA, HK1, HO_3, HB⟩ := hrel
  cases gk with
  | zero => exact absurd HA.out (by simp [impl_leastOnly.l0])
  | succ k1 =>
   have H := HA.out
   clear HA
   simp only [impl_leastOnly.l0] at H
   by_cases c2 : x8_1 < (l0.length : Int)
   ·rw [if_pos c2] at H
    have c2b0 : decide (x8_1 < (l0.length : Int)) = true := decide_eq_true c2
    clear c2
    by_cases c3 : 0 ≤ x8_1
    ·rw [if_pos c3] at H
     have c3b0 : decide (0 ≤ x8_1) = true := decide_eq_true c3
     clear c3
     by_cases c4 : x8_1 < (l0.length : Int)
     ·rw [if_pos c4] at H
      have c4b0 : decide (x8_1 < (l0.length : Int)) = true := decide_eq_true c4
      clear c4
      by_cases c5 : x8_1 = 0
      ·rw [if_pos c5] at H
       have c5b0 : (x8_1 == 0) = true := beq_iff_eq.mpr c5
       have c5b1 : (x8_1 != 0) = false := bne_eq_false_iff_eq.mpr c5
       clear c5
       by_cases c6 : x3_1.length < 5864062014805
       ·rw [if_pos c6] at H
        have LMc6 := Aside0.mk c6
        clear c6
        obtain ⟨y210, hy210⟩ : ∃ y_ : List (S34), y_ = (x3_1 ++ [(⟨(rd_T34 l0 x8_1).f0, (rd_T34 l0 x8_1).f1, (rd_T34 l0 x8_1).f2⟩ : S34)]) := ⟨_, rfl⟩
        replace H : (impl_leastOnly.l0 k1 l0 y210 l0 (l0.length : Int) (wrap64 (x8_1 + 1))) = some r := by first | (rw [hy210]; with_reducible exact H) | (have H2_ := (Option.bind_some _ _).symm.trans H; rw [hy210]; with_reducible exact H2_) | (have H2_ := (Option.bind_some _ _).symm.trans H; with_reducible exact H2_) | with_reducible exact H | (rw [hy210]; exact H) | exact H
        have Ny210 := Aside0.mk hy210
        clear hy210
        have H' := Aside0.mk H
        clear H
        have p208 : 0 ≤ (x8_1 : Int) := of_decide_eq_true z8_12
        have q208 : x8_1 < (l0.length : Int) := of_decide_eq_true z8_12
        obtain ⟨ad208, e208, hx208_0, hx208_1, hx208_2⟩ := at_T34 HR0.out x8_1 p208 q208
        cases e208
        replace hx208_0 := (HB.out.cell (World.block_lt_of_cell? w _ hx208_0)).trans hx208_0
        replace hx208_1 := (HB.out.cell (World.block_lt_of_cell? w _ hx208_1)).trans hx208_1
        replace hx208_2 := (HB.out.cell (World.block_lt_of_cell? w _ hx208_2)).trans hx208_2
        replace p208 := eq_true p208
        replace q208 := eq_true q208
        go_wp2_with (first | ((with_reducible refine gate_dst (N := 5) rfl ?_); refine box_event ?hg (N := 5) ?hd (cs := #[.int .i64 0, .int .i64 0, .int .i64 0]) (t := 34) ?hr ?_; (case hd => rfl); (case hg => rfl); (case hr => exact z8_0); intro gb209 hg w7 hbox hb; have n0_ := Aside0.mk (Kd.R_below (Kd.R_elderB z8_16 gb209 (Nat.le_of_eq hg.symm)) hb); have n1_ := Aside0.mk (below_step z8_2 hb); have n2_ := Aside0.mk (hbox); have n3_ := Aside0.mk ((z8_17 : w.heap.size ≤ gb209)); have n4_ := Aside0.mk ((z8_17 : w.heap.size ≤ gb209)); clear HO_3; clear HB; have HO_3 := n0_; have HB := n1_; have BK209 := n2_; have GW209 := n3_; have GE209 := n4_; clear n0_ n1_ n2_ n3_ n4_; clear hb hbox hg; have hcz8_0 : w7.cell? ⟨gb209, 0, none⟩ = some (.int .i64 0) := (blk_cell BK209.out 0).trans rfl; have hcz8_1 : w7.cell? ⟨gb209, 1, none⟩ = some (.int .i64 0) := (blk_cell BK209.out 1).trans rfl; have hcz8_2 : w7.cell? ⟨gb209, 2, none⟩ = some (.int .i64 0) := (blk_cell BK209.out 2).trans rfl; have hfz8_0 := blk_frozen BK209.out 0; have hfz8_1 := blk_frozen BK209.out 1; have hfz8_2 := blk_frozen BK209.out 2) | ((with_reducible refine gate_builtin (b := .append) (xs := #[.tmp 26, .tmp 28]) rfl ?_); at_builtin; refine Kd.R_append k34 (w0 := w) w.heap.size rfl (.tmp 26) (.tmp 28) 28 34 (.agg #[(.int .i64 0), (.int .i64 0), (.int .i64 0)]) 24 rfl Try.underlying28 info34 rfl (by decide) (by omega) u3 x3_1 (⟨(rd_T34 l0 x8_1).f0, (rd_T34 l0 x8_1).f1, (rd_T34 l0 x8_1).f2⟩ : S34) [.int .i64 ((rd_T34 l0 x8_1).f0), .int .i64 ((rd_T34 l0 x8_1).f1), .int .i64 ((rd_T34 l0 x8_1).f2)] (fun k_ => k_ ≠ gb209) (fun _ => False) rfl z8_24 ?aP (fun _ hk => hk.elim) ?aF ?aO ?aB ?aS ?aL ?_; (case aP => exact k34_mkM _ _ _ (⟨(rd_T34 l0 x8_1).f0, (rd_T34 l0 x8_1).f1, (rd_T34 l0 x8_1).f2⟩ : S34)); (case aB => exact z8_4); (case aF => exact (fun k_ hk => Kd.freshB (g := gb209) (o := .cells #[.int .i64 ((rd_T34 l0 x8_1).f0), .int .i64 ((rd_T34 l0 x8_1).f1), .int .i64 ((rd_T34 l0 x8_1).f2)] 34 (0, 0)) z8_1 k_ hk)); (case aO => exact z8_3); (case aS => exact (below_size z8_4)); (case aL => have := LMc6.out; omega); intro v211 w9 ho hb hg hat; rw [← Ny210.out] at ho; have n0_ := Aside0.mk (blk_grown (g := gb209) (o := .cells #[.int .i64 ((rd_T34 l0 x8_1).f0), .int .i64 ((rd_T34 l0 x8_1).f1), .int .i64 ((rd_T34 l0 x8_1).f2)] 34 (0, 0)) z8_1 hg (Kd.R_away HO_3.out (fun _ hk => hk.2))); have n1_ := Aside0.mk (hb); have n2_ := Aside0.mk (ho); clear BK209; clear HB; clear HO_3; have BK209 := n0_; have HB := n1_; have HO212 := n2_; clear n0_ n1_ n2_; clear ho hb hg hat))
        repeat (go_quiet (first | ((with_reducible refine gate_dst (N := 5) rfl ?_); refine box_event ?hg (N := 5) ?hd (cs := #[.int .i64 0, .int .i64 0, .int .i64 0]) (t := 34) ?hr ?_; (case hd => rfl); (case hg => rfl); (case hr => exact z8_0); intro gb209 hg w7 hbox hb; have n0_ := Aside0.mk (Kd.R_below (Kd.R_elderB z8_16 gb209 (Nat.le_of_eq hg.symm)) hb); have n1_ := Aside0.mk (below_step z8_2 hb); have n2_ := Aside0.mk (hbox); have n3_ := Aside0.mk ((z8_17 : w.heap.size ≤ gb209)); have n4_ := Aside0.mk ((z8_17 : w.heap.size ≤ gb209)); clear HO_3; clear HB; have HO_3 := n0_; have HB := n1_; have BK209 := n2_; have GW209 := n3_; have GE209 := n4_; clear n0_ n1_ n2_ n3_ n4_; clear hb hbox hg; have hcz8_0 : w7.cell? ⟨gb209, 0, none⟩ = some (.int .i64 0) := (blk_cell BK209.out 0).trans rfl; have hcz8_1 : w7.cell? ⟨gb209, 1, none⟩ = some (.int .i64 0) := (blk_cell BK209.out 1).trans rfl; have hcz8_2 : w7.cell? ⟨gb209, 2, none⟩ = some (.int .i64 0) := (blk_cell BK209.out 2).trans rfl; have hfz8_0 := blk_frozen BK209.out 0; have hfz8_1 := blk_frozen BK209.out 1; have hfz8_2 := blk_frozen BK209.out 2) | ((with_reducible refine gate_builtin (b := .append) (xs := #[.tmp 26, .tmp 28]) rfl ?_); at_builtin; refine Kd.R_append k34 (w0 := w) w.heap.size rfl (.tmp 26) (.tmp 28) 28 34 (.agg #[(.int .i64 0), (.int .i64 0), (.int .i64 0)]) 24 rfl Try.underlying28 info34 rfl (by decide) (by omega) u3 x3_1 (⟨(rd_T34 l0 x8_1).f0, (rd_T34 l0 x8_1).f1, (rd_T34 l0 x8_1).f2⟩ : S34) [.int .i64 ((rd_T34 l0 x8_1).f0), .int .i64 ((rd_T34 l0 x8_1).f1), .int .i64 ((rd_T34 l0 x8_1).f2)] (fun k_ => k_ ≠ gb209) (fun _ => False) rfl z8_24 ?aP (fun _ hk => hk.elim) ?aF ?aO ?aB ?aS ?aL ?_; (case aP => exact k34_mkM _ _ _ (⟨(rd_T34 l0 x8_1).f0, (rd_T34 l0 x8_1).f1, (rd_T34 l0 x8_1).f2⟩ : S34)); (case aB => exact z8_4); (case aF => exact (fun k_ hk => Kd.freshB (g := gb209) (o := .cells #[.int .i64 ((rd_T34 l0 x8_1).f0), .int .i64 ((rd_T34 l0 x8_1).f1), .int .i64 ((rd_T34 l0 x8_1).f2)] 34 (0, 0)) z8_1 k_ hk)); (case aO => exact z8_3); (case aS => exact (below_size z8_4)); (case aL => have := LMc6.out; omega); intro v211 w9 ho hb hg hat; rw [← Ny210.out] at ho; have n0_ := Aside0.mk (blk_grown (g := gb209) (o := .cells #[.int .i64 ((rd_T34 l0 x8_1).f0), .int .i64 ((rd_T34 l0 x8_1).f1), .int .i64 ((rd_T34 l0 x8_1).f2)] 34 (0, 0)) z8_1 hg (Kd.R_away HO_3.out (fun _ hk => hk.2))); have n1_ := Aside0.mk (hb); have n2_ := Aside0.mk (ho); clear BK209; clear HB; clear HO_3; have BK209 := n0_; have HB := n1_; have HO212 := n2_; clear n0_ n1_ n2_; clear ho hb hg hat)); try go_wp2_with (first | ((with_reducible refine gate_dst (N := 5) rfl ?_); refine box_event ?hg (N := 5) ?hd (cs := #[.int .i64 0, .int .i64 0, .int .i64 0]) (t := 34) ?hr ?_; (case hd => rfl); (case hg => rfl); (case hr => exact z8_0); intro gb209 hg w7 hbox hb; have n0_ := Aside0.mk (Kd.R_below (Kd.R_elderB z8_16 gb209 (Nat.le_of_eq hg.symm)) hb); have n1_ := Aside0.mk (below_step z8_2 hb); have n2_ := Aside0.mk (hbox); have n3_ := Aside0.mk ((z8_17 : w.heap.size ≤ gb209)); have n4_ := Aside0.mk ((z8_17 : w.heap.size ≤ gb209)); clear HO_3; clear HB; have HO_3 := n0_; have HB := n1_; have BK209 := n2_; have GW209 := n3_; have GE209 := n4_; clear n0_ n1_ n2_ n3_ n4_; clear hb hbox hg; have hcz8_0 : w7.cell? ⟨gb209, 0, none⟩ = some (.int .i64 0) := (blk_cell BK209.out 0).trans rfl; have hcz8_1 : w7.cell? ⟨gb209, 1, none⟩ = some (.int .i64 0) := (blk_cell BK209.out 1).trans rfl; have hcz8_2 : w7.cell? ⟨gb209, 2, none⟩ = some (.int .i64 0) := (blk_cell BK209.out 2).trans rfl; have hfz8_0 := blk_frozen BK209.out 0; have hfz8_1 := blk_frozen BK209.out 1; have hfz8_2 := blk_frozen BK209.out 2) | ((with_reducible refine gate_builtin (b := .append) (xs := #[.tmp 26, .tmp 28]) rfl ?_); at_builtin; refine Kd.R_append k34 (w0 := w) w.heap.size rfl (.tmp 26) (.tmp 28) 28 34 (.agg #[(.int .i64 0), (.int .i64 0), (.int .i64 0)]) 24 rfl Try.underlying28 info34 rfl (by decide) (by omega) u3 x3_1 (⟨(rd_T34 l0 x8_1).f0, (rd_T34 l0 x8_1).f1, (rd_T34 l0 x8_1).f2⟩ : S34) [.int .i64 ((rd_T34 l0 x8_1).f0), .int .i64 ((rd_T34 l0 x8_1).f1), .int .i64 ((rd_T34 l0 x8_1).f2)] (fun k_ => k_ ≠ gb209) (fun _ => False) rfl z8_24 ?aP (fun _ hk => hk.elim) ?aF ?aO ?aB ?aS ?aL ?_; (case aP => exact k34_mkM _ _ _ (⟨(rd_T34 l0 x8_1).f0, (rd_T34 l0 x8_1).f1, (rd_T34 l0 x8_1).f2⟩ : S34)); (case aB => exact z8_4); (case aF => exact (fun k_ hk => Kd.freshB (g := gb209) (o := .cells #[.int .i64 ((rd_T34 l0 x8_1).f0), .int .i64 ((rd_T34 l0 x8_1).f1), .int .i64 ((rd_T34 l0 x8_1).f2)] 34 (0, 0)) z8_1 k_ hk)); (case aO => exact z8_3); (case aS => exact (below_size z8_4)); (case aL => have := LMc6.out; omega); intro v211 w9 ho hb hg hat; rw [← Ny210.out] at ho; have n0_ := Aside0.mk (blk_grown (g := gb209) (o := .cells #[.int .i64 ((rd_T34 l0 x8_1).f0), .int .i64 ((rd_T34 l0 x8_1).f1), .int .i64 ((rd_T34 l0 x8_1).f2)] 34 (0, 0)) z8_1 hg (Kd.R_away HO_3.out (fun _ hk => hk.2))); have n1_ := Aside0.mk (hb); have n2_ := Aside0.mk (ho); clear BK209; clear HB; clear HO_3; have BK209 := n0_; have HB := n1_; have HO212 := n2_; clear n0_ n1_ n2_; clear ho hb hg hat)))
        go_roundg k1
        case measure => have := HK1.out; omega
        case rel => exact ⟨(y210), (wrap64 (x8_1 + 1)), z8_22, H', ⟨by have := HK1.out; omega⟩, ⟨by (with_reducible repeat (first | apply Kd.R_alloc | apply Kd.R_drewN | apply Kd.R_drew)); exact Kd.R_mono HO212.out (fun _ hk => trivial)⟩, ⟨z8_4⟩⟩
       ·rw [if_neg c6] at H
        exact absurd H (by simp)
      ·rw [if_neg c5] at H
       have c5b0 : (x8_1 == 0) = false := beq_eq_false_iff_ne.mpr c5
       have c5b1 : (x8_1 != 0) = true := bne_iff_ne.mpr c5
       obtain ⟨ji10, hji10⟩ : ∃ j_ : Int, (wrap64 (x8_1 - 1)) = j_ := ⟨_, rfl⟩
       replace H : (if 0 ≤ (ji10) then (if (ji10) < (l0.length : Int) then (if ((rd_T34 l0 (ji10)).f0) = ((rd_T34 l0 x8_1).f0) then (impl_leastOnly.l0 k1 l0 x3_1 l0 (l0.length : Int) (wrap64 (x8_1 + 1))) else (if x3_1.length < 5864062014805 then (impl_leastOnly.l0 k1 l0 (x3_1 ++ [(⟨(rd_T34 l0 x8_1).f0, (rd_T34 l0 x8_1).f1, (rd_T34 l0 x8_1).f2⟩ : S34)]) l0 (l0.length : Int) (wrap64 (x8_1 + 1))) else (none))) else (none)) else (none)) = some r := by first | (rw [hji10] at H; exact H) | (simp only [hji10] at H ⊢; exact H)
       have hji10w : (IntKind.i64.wrap (x8_1 - 1)) = ji10 := (i64_w _).trans hji10
       by_cases c11 : 0 ≤ (ji10)
       ·rw [if_pos c11] at H
        have c11b0 : decide (0 ≤ (ji10)) = true := decide_eq_true c11
        clear c11
        by_cases c12 : (ji10) < (l0.length : Int)
        ·rw [if_pos c12] at H
         have c12b0 : decide ((ji10) < (l0.length : Int)) = true := decide_eq_true c12
         clear c12
         by_cases c13 : ((rd_T34 l0 (ji10)).f0) = ((rd_T34 l0 x8_1).f0)
         ·rw [if_pos c13] at H
          have c13b0 : (((rd_T34 l0 (ji10)).f0) == ((rd_T34 l0 x8_1).f0)) = true := beq_iff_eq.mpr c13
          have c13b1 : (((rd_T34 l0 (ji10)).f0) != ((rd_T34 l0 x8_1).f0)) = false := bne_eq_false_iff_eq.mpr c13
          clear c13
          have H' := Aside0.mk H
          clear H
          have p208 : 0 ≤ (x8_1 : Int) := of_decide_eq_true z8_12
          have q208 : x8_1 < (l0.length : Int) := of_decide_eq_true z8_12
          obtain ⟨ad208, e208, hx208_0, hx208_1, hx208_2⟩ := at_T34 HR0.out x8_1 p208 q208
          cases e208
          replace hx208_0 := (HB.out.cell (World.block_lt_of_cell? w _ hx208_0)).trans hx208_0
          replace hx208_1 := (HB.out.cell (World.block_lt_of_cell? w _ hx208_1)).trans hx208_1
          replace hx208_2 := (HB.out.cell (World.block_lt_of_cell? w _ hx208_2)).trans hx208_2
          replace p208 := eq_true p208
          replace q208 := eq_true q208
          go_wp2_with (first | ((with_reducible refine gate_dst (N := 5) rfl ?_); refine box_event ?hg (N := 5) ?hd (cs := #[.int .i64 0, .int .i64 0, .int .i64 0]) (t := 34) ?hr ?_; (case hd => rfl); (case hg => rfl); (case hr => exact z8_0); intro gb209 hg w14 hbox hb; have n0_ := Aside0.mk (Kd.R_below (Kd.R_elderB z8_16 gb209 (Nat.le_of_eq hg.symm)) hb); have n1_ := Aside0.mk (below_step z8_2 hb); have n2_ := Aside0.mk (hbox); have n3_ := Aside0.mk ((z8_17 : w.heap.size ≤ gb209)); have n4_ := Aside0.mk ((z8_17 : w.heap.size ≤ gb209)); clear HO_3; clear HB; have HO_3 := n0_; have HB := n1_; have BK209 := n2_; have GW209 := n3_; have GE209 := n4_; clear n0_ n1_ n2_ n3_ n4_; clear hb hbox hg; have hcz15_0 : w14.cell? ⟨gb209, 0, none⟩ = some (.int .i64 0) := (blk_cell BK209.out 0).trans rfl; have hcz15_1 : w14.cell? ⟨gb209, 1, none⟩ = some (.int .i64 0) := (blk_cell BK209.out 1).trans rfl; have hcz15_2 : w14.cell? ⟨gb209, 2, none⟩ = some (.int .i64 0) := (blk_cell BK209.out 2).trans rfl; have hfz15_0 := blk_frozen BK209.out 0; have hfz15_1 := blk_frozen BK209.out 1; have hfz15_2 := blk_frozen BK209.out 2; have p213 : 0 ≤ ((ji10) : Int) := of_decide_eq_true z8_12; have q213 : (ji10) < (l0.length : Int) := of_decide_eq_true z8_12; obtain ⟨ad213, e213, hx213_0, hx213_1, hx213_2⟩ := at_T34 HR0.out (ji10) p213 q213; obtain rfl : ad208 = ad213 := (by injection e213); have hn213_0 : ad208.block ≠ gb209 := Nat.ne_of_lt (Nat.lt_of_lt_of_le z8_10 GW209.out); have hn213_1 : ad208.block ≠ gb209 := Nat.ne_of_lt (Nat.lt_of_lt_of_le z8_10 GW209.out); have hn213_2 : ad208.block ≠ gb209 := Nat.ne_of_lt (Nat.lt_of_lt_of_le z8_10 GW209.out); replace hx213_0 := (HB.out.cell (World.block_lt_of_cell? w _ hx213_0)).trans hx213_0; replace hx213_1 := (HB.out.cell (World.block_lt_of_cell? w _ hx213_1)).trans hx213_1; replace hx213_2 := (HB.out.cell (World.block_lt_of_cell? w _ hx213_2)).trans hx213_2; replace hx213_0 := (cell_far (p := ⟨gb209, 0, none⟩) z8_6 (.int .i64 ((rd_T34 l0 x8_1).f0))).trans hx213_0; replace hx213_1 := (cell_far (p := ⟨gb209, 0, none⟩) z8_6 (.int .i64 ((rd_T34 l0 x8_1).f0))).trans hx213_1; replace hx213_2 := (cell_far (p := ⟨gb209, 0, none⟩) z8_6 (.int .i64 ((rd_T34 l0 x8_1).f0))).trans hx213_2; replace hx213_0 := (cell_far (p := ⟨gb209, 1, none⟩) z8_7 (.int .i64 ((rd_T34 l0 x8_1).f1))).trans hx213_0; replace hx213_1 := (cell_far (p := ⟨gb209, 1, none⟩) z8_7 (.int .i64 ((rd_T34 l0 x8_1).f1))).trans hx213_1; replace hx213_2 := (cell_far (p := ⟨gb209, 1, none⟩) z8_7 (.int .i64 ((rd_T34 l0 x8_1).f1))).trans hx213_2; replace hx213_0 := (cell_far (p := ⟨gb209, 2, none⟩) z8_8 (.int .i64 ((rd_T34 l0 x8_1).f2))).trans hx213_0; replace hx213_1 := (cell_far (p := ⟨gb209, 2, none⟩) z8_8 (.int .i64 ((rd_T34 l0 x8_1).f2))).trans hx213_1; replace hx213_2 := (cell_far (p := ⟨gb209, 2, none⟩) z8_8 (.int .i64 ((rd_T34 l0 x8_1).f2))).trans hx213_2; (try have hy213_0 := fun (n_ : Nat) => (show (((((w14.drewN n_).setCell ⟨gb209, 0, none⟩ (.int .i64 ((rd_T34 l0 x8_1).f0))).setCell ⟨gb209, 1, none⟩ (.int .i64 ((rd_T34 l0 x8_1).f1))).setCell ⟨gb209, 2, none⟩ (.int .i64 ((rd_T34 l0 x8_1).f2)))).cell? _ = some _ from hx213_0)); (try have hy213_1 := fun (n_ : Nat) => (show (((((w14.drewN n_).setCell ⟨gb209, 0, none⟩ (.int .i64 ((rd_T34 l0 x8_1).f0))).setCell ⟨gb209, 1, none⟩ (.int .i64 ((rd_T34 l0 x8_1).f1))).setCell ⟨gb209, 2, none⟩ (.int .i64 ((rd_T34 l0 x8_1).f2)))).cell? _ = some _ from hx213_1)); (try have hy213_2 := fun (n_ : Nat) => (show (((((w14.drewN n_).setCell ⟨gb209, 0, none⟩ (.int .i64 ((rd_T34 l0 x8_1).f0))).setCell ⟨gb209, 1, none⟩ (.int .i64 ((rd_T34 l0 x8_1).f1))).setCell ⟨gb209, 2, none⟩ (.int .i64 ((rd_T34 l0 x8_1).f2)))).cell? _ = some _ from hx213_2)); clear hn213_0; clear hn213_1; clear hn213_2; replace p213 := eq_true p213; replace q213 := eq_true q213))
          repeat (go_quiet (first | ((with_reducible refine gate_dst (N := 5) rfl ?_); refine box_event ?hg (N := 5) ?hd (cs := #[.int .i64 0, .int .i64 0, .int .i64 0]) (t := 34) ?hr ?_; (case hd => rfl); (case hg => rfl); (case hr => exact z8_0); intro gb209 hg w14 hbox hb; have n0_ := Aside0.mk (Kd.R_below (Kd.R_elderB z8_16 gb209 (Nat.le_of_eq hg.symm)) hb); have n1_ := Aside0.mk (below_step z8_2 hb); have n2_ := Aside0.mk (hbox); have n3_ := Aside0.mk ((z8_17 : w.heap.size ≤ gb209)); have n4_ := Aside0.mk ((z8_17 : w.heap.size ≤ gb209)); clear HO_3; clear HB; have HO_3 := n0_; have HB := n1_; have BK209 := n2_; have GW209 := n3_; have GE209 := n4_; clear n0_ n1_ n2_ n3_ n4_; clear hb hbox hg; have hcz15_0 : w14.cell? ⟨gb209, 0, none⟩ = some (.int .i64 0) := (blk_cell BK209.out 0).trans rfl; have hcz15_1 : w14.cell? ⟨gb209, 1, none⟩ = some (.int .i64 0) := (blk_cell BK209.out 1).trans rfl; have hcz15_2 : w14.cell? ⟨gb209, 2, none⟩ = some (.int .i64 0) := (blk_cell BK209.out 2).trans rfl; have hfz15_0 := blk_frozen BK209.out 0; have hfz15_1 := blk_frozen BK209.out 1; have hfz15_2 := blk_frozen BK209.out 2; have p213 : 0 ≤ ((ji10) : Int) := of_decide_eq_true z8_12; have q213 : (ji10) < (l0.length : Int) := of_decide_eq_true z8_12; obtain ⟨ad213, e213, hx213_0, hx213_1, hx213_2⟩ := at_T34 HR0.out (ji10) p213 q213; obtain rfl : ad208 = ad213 := (by injection e213); have hn213_0 : ad208.block ≠ gb209 := Nat.ne_of_lt (Nat.lt_of_lt_of_le z8_10 GW209.out); have hn213_1 : ad208.block ≠ gb209 := Nat.ne_of_lt (Nat.lt_of_lt_of_le z8_10 GW209.out); have hn213_2 : ad208.block ≠ gb209 := Nat.ne_of_lt (Nat.lt_of_lt_of_le z8_10 GW209.out); replace hx213_0 := (HB.out.cell (World.block_lt_of_cell? w _ hx213_0)).trans hx213_0; replace hx213_1 := (HB.out.cell (World.block_lt_of_cell? w _ hx213_1)).trans hx213_1; replace hx213_2 := (HB.out.cell (World.block_lt_of_cell? w _ hx213_2)).trans hx213_2; replace hx213_0 := (cell_far (p := ⟨gb209, 0, none⟩) z8_6 (.int .i64 ((rd_T34 l0 x8_1).f0))).trans hx213_0; replace hx213_1 := (cell_far (p := ⟨gb209, 0, none⟩) z8_6 (.int .i64 ((rd_T34 l0 x8_1).f0))).trans hx213_1; replace hx213_2 := (cell_far (p := ⟨gb209, 0, none⟩) z8_6 (.int .i64 ((rd_T34 l0 x8_1).f0))).trans hx213_2; replace hx213_0 := (cell_far (p := ⟨gb209, 1, none⟩) z8_7 (.int .i64 ((rd_T34 l0 x8_1).f1))).trans hx213_0; replace hx213_1 := (cell_far (p := ⟨gb209, 1, none⟩) z8_7 (.int .i64 ((rd_T34 l0 x8_1).f1))).trans hx213_1; replace hx213_2 := (cell_far (p := ⟨gb209, 1, none⟩) z8_7 (.int .i64 ((rd_T34 l0 x8_1).f1))).trans hx213_2; replace hx213_0 := (cell_far (p := ⟨gb209, 2, none⟩) z8_8 (.int .i64 ((rd_T34 l0 x8_1).f2))).trans hx213_0; replace hx213_1 := (cell_far (p := ⟨gb209, 2, none⟩) z8_8 (.int .i64 ((rd_T34 l0 x8_1).f2))).trans hx213_1; replace hx213_2 := (cell_far (p := ⟨gb209, 2, none⟩) z8_8 (.int .i64 ((rd_T34 l0 x8_1).f2))).trans hx213_2; (try have hy213_0 := fun (n_ : Nat) => (show (((((w14.drewN n_).setCell ⟨gb209, 0, none⟩ (.int .i64 ((rd_T34 l0 x8_1).f0))).setCell ⟨gb209, 1, none⟩ (.int .i64 ((rd_T34 l0 x8_1).f1))).setCell ⟨gb209, 2, none⟩ (.int .i64 ((rd_T34 l0 x8_1).f2)))).cell? _ = some _ from hx213_0)); (try have hy213_1 := fun (n_ : Nat) => (show (((((w14.drewN n_).setCell ⟨gb209, 0, none⟩ (.int .i64 ((rd_T34 l0 x8_1).f0))).setCell ⟨gb209, 1, none⟩ (.int .i64 ((rd_T34 l0 x8_1).f1))).setCell ⟨gb209, 2, none⟩ (.int .i64 ((rd_T34 l0 x8_1).f2)))).cell? _ = some _ from hx213_1)); (try have hy213_2 := fun (n_ : Nat) => (show (((((w14.drewN n_).setCell ⟨gb209, 0, none⟩ (.int .i64 ((rd_T34 l0 x8_1).f0))).setCell ⟨gb209, 1, none⟩ (.int .i64 ((rd_T34 l0 x8_1).f1))).setCell ⟨gb209, 2, none⟩ (.int .i64 ((rd_T34 l0 x8_1).f2)))).cell? _ = some _ from hx213_2)); clear hn213_0; clear hn213_1; clear hn213_2; replace p213 := eq_true p213; replace q213 := eq_true q213)); try go_wp2_with (first | ((with_reducible refine gate_dst (N := 5) rfl ?_); refine box_event ?hg (N := 5) ?hd (cs := #[.int .i64 0, .int .i64 0, .int .i64 0]) (t := 34) ?hr ?_; (case hd => rfl); (case hg => rfl); (case hr => exact z8_0); intro gb209 hg w14 hbox hb; have n0_ := Aside0.mk (Kd.R_below (Kd.R_elderB z8_16 gb209 (Nat.le_of_eq hg.symm)) hb); have n1_ := Aside0.mk (below_step z8_2 hb); have n2_ := Aside0.mk (hbox); have n3_ := Aside0.mk ((z8_17 : w.heap.size ≤ gb209)); have n4_ := Aside0.mk ((z8_17 : w.heap.size ≤ gb209)); clear HO_3; clear HB; have HO_3 := n0_; have HB := n1_; have BK209 := n2_; have GW209 := n3_; have GE209 := n4_; clear n0_ n1_ n2_ n3_ n4_; clear hb hbox hg; have hcz15_0 : w14.cell? ⟨gb209, 0, none⟩ = some (.int .i64 0) := (blk_cell BK209.out 0).trans rfl; have hcz15_1 : w14.cell? ⟨gb209, 1, none⟩ = some (.int .i64 0) := (blk_cell BK209.out 1).trans rfl; have hcz15_2 : w14.cell? ⟨gb209, 2, none⟩ = some (.int .i64 0) := (blk_cell BK209.out 2).trans rfl; have hfz15_0 := blk_frozen BK209.out 0; have hfz15_1 := blk_frozen BK209.out 1; have hfz15_2 := blk_frozen BK209.out 2; have p213 : 0 ≤ ((ji10) : Int) := of_decide_eq_true z8_12; have q213 : (ji10) < (l0.length : Int) := of_decide_eq_true z8_12; obtain ⟨ad213, e213, hx213_0, hx213_1, hx213_2⟩ := at_T34 HR0.out (ji10) p213 q213; obtain rfl : ad208 = ad213 := (by injection e213); have hn213_0 : ad208.block ≠ gb209 := Nat.ne_of_lt (Nat.lt_of_lt_of_le z8_10 GW209.out); have hn213_1 : ad208.block ≠ gb209 := Nat.ne_of_lt (Nat.lt_of_lt_of_le z8_10 GW209.out); have hn213_2 : ad208.block ≠ gb209 := Nat.ne_of_lt (Nat.lt_of_lt_of_le z8_10 GW209.out); replace hx213_0 := (HB.out.cell (World.block_lt_of_cell? w _ hx213_0)).trans hx213_0; replace hx213_1 := (HB.out.cell (World.block_lt_of_cell? w _ hx213_1)).trans hx213_1; replace hx213_2 := (HB.out.cell (World.block_lt_of_cell? w _ hx213_2)).trans hx213_2; replace hx213_0 := (cell_far (p := ⟨gb209, 0, none⟩) z8_6 (.int .i64 ((rd_T34 l0 x8_1).f0))).trans hx213_0; replace hx213_1 := (cell_far (p := ⟨gb209, 0, none⟩) z8_6 (.int .i64 ((rd_T34 l0 x8_1).f0))).trans hx213_1; replace hx213_2 := (cell_far (p := ⟨gb209, 0, none⟩) z8_6 (.int .i64 ((rd_T34 l0 x8_1).f0))).trans hx213_2; replace hx213_0 := (cell_far (p := ⟨gb209, 1, none⟩) z8_7 (.int .i64 ((rd_T34 l0 x8_1).f1))).trans hx213_0; replace hx213_1 := (cell_far (p := ⟨gb209, 1, none⟩) z8_7 (.int .i64 ((rd_T34 l0 x8_1).f1))).trans hx213_1; replace hx213_2 := (cell_far (p := ⟨gb209, 1, none⟩) z8_7 (.int .i64 ((rd_T34 l0 x8_1).f1))).trans hx213_2; replace hx213_0 := (cell_far (p := ⟨gb209, 2, none⟩) z8_8 (.int .i64 ((rd_T34 l0 x8_1).f2))).trans hx213_0; replace hx213_1 := (cell_far (p := ⟨gb209, 2, none⟩) z8_8 (.int .i64 ((rd_T34 l0 x8_1).f2))).trans hx213_1; replace hx213_2 := (cell_far (p := ⟨gb209, 2, none⟩) z8_8 (.int .i64 ((rd_T34 l0 x8_1).f2))).trans hx213_2; (try have hy213_0 := fun (n_ : Nat) => (show (((((w14.drewN n_).setCell ⟨gb209, 0, none⟩ (.int .i64 ((rd_T34 l0 x8_1).f0))).setCell ⟨gb209, 1, none⟩ (.int .i64 ((rd_T34 l0 x8_1).f1))).setCell ⟨gb209, 2, none⟩ (.int .i64 ((rd_T34 l0 x8_1).f2)))).cell? _ = some _ from hx213_0)); (try have hy213_1 := fun (n_ : Nat) => (show (((((w14.drewN n_).setCell ⟨gb209, 0, none⟩ (.int .i64 ((rd_T34 l0 x8_1).f0))).setCell ⟨gb209, 1, none⟩ (.int .i64 ((rd_T34 l0 x8_1).f1))).setCell ⟨gb209, 2, none⟩ (.int .i64 ((rd_T34 l0 x8_1).f2)))).cell? _ = some _ from hx213_1)); (try have hy213_2 := fun (n_ : Nat) => (show (((((w14.drewN n_).setCell ⟨gb209, 0, none⟩ (.int .i64 ((rd_T34 l0 x8_1).f0))).setCell ⟨gb209, 1, none⟩ (.int .i64 ((rd_T34 l0 x8_1).f1))).setCell ⟨gb209, 2, none⟩ (.int .i64 ((rd_T34 l0 x8_1).f2)))).cell? _ = some _ from hx213_2)); clear hn213_0; clear hn213_1; clear hn213_2; replace p213 := eq_true p213; replace q213 := eq_true q213)))
          go_roundg k1
          case measure => have := HK1.out; omega
          case rel => exact ⟨(x3_1), (wrap64 (x8_1 + 1)), z8_22, H', ⟨by have := HK1.out; omega⟩, ⟨by (with_reducible repeat (first | apply Kd.R_alloc | apply Kd.R_drewN | apply Kd.R_drew)); exact Kd.R_mono (Kd.R_far (p := ⟨gb209, 2, none⟩) (Kd.R_far (p := ⟨gb209, 1, none⟩) (Kd.R_far (p := ⟨gb209, 0, none⟩) (Kd.R_mono HO_3.out (fun k_ hk => (⟨hk, hk.2⟩ : _ ∧ k_ ≠ gb209))) (fun _ hk => hk.2) (.int .i64 ((rd_T34 l0 x8_1).f0))) (fun _ hk => hk.2) (.int .i64 ((rd_T34 l0 x8_1).f1))) (fun _ hk => hk.2) (.int .i64 ((rd_T34 l0 x8_1).f2))) (fun _ hk => trivial)⟩, ⟨z8_4⟩⟩
         ·rw [if_neg c13] at H
          have c13b0 : (((rd_T34 l0 (ji10)).f0) == ((rd_T34 l0 x8_1).f0)) = false := beq_eq_false_iff_ne.mpr c13
          have c13b1 : (((rd_T34 l0 (ji10)).f0) != ((rd_T34 l0 x8_1).f0)) = true := bne_iff_ne.mpr c13
          by_cases c16 : x3_1.length < 5864062014805
          ·rw [if_pos c16] at H
           have LMc16 := Aside0.mk c16
           clear c16
           obtain ⟨y214, hy214⟩ : ∃ y_ : List (S34), y_ = (x3_1 ++ [(⟨(rd_T34 l0 x8_1).f0, (rd_T34 l0 x8_1).f1, (rd_T34 l0 x8_1).f2⟩ : S34)]) := ⟨_, rfl⟩
           replace H : (impl_leastOnly.l0 k1 l0 y214 l0 (l0.length : Int) (wrap64 (x8_1 + 1))) = some r := by first | (rw [hy214]; with_reducible exact H) | (have H2_ := (Option.bind_some _ _).symm.trans H; rw [hy214]; with_reducible exact H2_) | (have H2_ := (Option.bind_some _ _).symm.trans H; with_reducible exact H2_) | with_reducible exact H | (rw [hy214]; exact H) | exact H
           have Ny214 := Aside0.mk hy214
           clear hy214
           have H' := Aside0.mk H
           clear H
           have p208 : 0 ≤ (x8_1 : Int) := of_decide_eq_true z8_12
           have q208 : x8_1 < (l0.length : Int) := of_decide_eq_true z8_12
           obtain ⟨ad208, e208, hx208_0, hx208_1, hx208_2⟩ := at_T34 HR0.out x8_1 p208 q208
           cases e208
           replace hx208_0 := (HB.out.cell (World.block_lt_of_cell? w _ hx208_0)).trans hx208_0
           replace hx208_1 := (HB.out.cell (World.block_lt_of_cell? w _ hx208_1)).trans hx208_1
           replace hx208_2 := (HB.out.cell (World.block_lt_of_cell? w _ hx208_2)).trans hx208_2
           replace p208 := eq_true p208
           replace q208 := eq_true q208
           go_wp2_with (first | ((with_reducible refine gate_dst (N := 5) rfl ?_); refine box_event ?hg (N := 5) ?hd (cs := #[.int .i64 0, .int .i64 0, .int .i64 0]) (t := 34) ?hr ?_; (case hd => rfl); (case hg => rfl); (case hr => exact z8_0); intro gb209 hg w17 hbox hb; have n0_ := Aside0.mk (Kd.R_below (Kd.R_elderB z8_16 gb209 (Nat.le_of_eq hg.symm)) hb); have n1_ := Aside0.mk (below_step z8_2 hb); have n2_ := Aside0.mk (hbox); have n3_ := Aside0.mk ((z8_17 : w.heap.size ≤ gb209)); have n4_ := Aside0.mk ((z8_17 : w.heap.size ≤ gb209)); clear HO_3; clear HB; have HO_3 := n0_; have HB := n1_; have BK209 := n2_; have GW209 := n3_; have GE209 := n4_; clear n0_ n1_ n2_ n3_ n4_; clear hb hbox hg; have hcz18_0 : w17.cell? ⟨gb209, 0, none⟩ = some (.int .i64 0) := (blk_cell BK209.out 0).trans rfl; have hcz18_1 : w17.cell? ⟨gb209, 1, none⟩ = some (.int .i64 0) := (blk_cell BK209.out 1).trans rfl; have hcz18_2 : w17.cell? ⟨gb209, 2, none⟩ = some (.int .i64 0) := (blk_cell BK209.out 2).trans rfl; have hfz18_0 := blk_frozen BK209.out 0; have hfz18_1 := blk_frozen BK209.out 1; have hfz18_2 := blk_frozen BK209.out 2; have p213 : 0 ≤ ((ji10) : Int) := of_decide_eq_true z8_12; have q213 : (ji10) < (l0.length : Int) := of_decide_eq_true z8_12; obtain ⟨ad213, e213, hx213_0, hx213_1, hx213_2⟩ := at_T34 HR0.out (ji10) p213 q213; obtain rfl : ad208 = ad213 := (by injection e213); have hn213_0 : ad208.block ≠ gb209 := Nat.ne_of_lt (Nat.lt_of_lt_of_le z8_10 GW209.out); have hn213_1 : ad208.block ≠ gb209 := Nat.ne_of_lt (Nat.lt_of_lt_of_le z8_10 GW209.out); have hn213_2 : ad208.block ≠ gb209 := Nat.ne_of_lt (Nat.lt_of_lt_of_le z8_10 GW209.out); replace hx213_0 := (HB.out.cell (World.block_lt_of_cell? w _ hx213_0)).trans hx213_0; replace hx213_1 := (HB.out.cell (World.block_lt_of_cell? w _ hx213_1)).trans hx213_1; replace hx213_2 := (HB.out.cell (World.block_lt_of_cell? w _ hx213_2)).trans hx213_2; replace hx213_0 := (cell_far (p := ⟨gb209, 0, none⟩) z8_6 (.int .i64 ((rd_T34 l0 x8_1).f0))).trans hx213_0; replace hx213_1 := (cell_far (p := ⟨gb209, 0, none⟩) z8_6 (.int .i64 ((rd_T34 l0 x8_1).f0))).trans hx213_1; replace hx213_2 := (cell_far (p := ⟨gb209, 0, none⟩) z8_6 (.int .i64 ((rd_T34 l0 x8_1).f0))).trans hx213_2; replace hx213_0 := (cell_far (p := ⟨gb209, 1, none⟩) z8_7 (.int .i64 ((rd_T34 l0 x8_1).f1))).trans hx213_0; replace hx213_1 := (cell_far (p := ⟨gb209, 1, none⟩) z8_7 (.int .i64 ((rd_T34 l0 x8_1).f1))).trans hx213_1; replace hx213_2 := (cell_far (p := ⟨gb209, 1, none⟩) z8_7 (.int .i64 ((rd_T34 l0 x8_1).f1))).trans hx213_2; replace hx213_0 := (cell_far (p := ⟨gb209, 2, none⟩) z8_8 (.int .i64 ((rd_T34 l0 x8_1).f2))).trans hx213_0; replace hx213_1 := (cell_far (p := ⟨gb209, 2, none⟩) z8_8 (.int .i64 ((rd_T34 l0 x8_1).f2))).trans hx213_1; replace hx213_2 := (cell_far (p := ⟨gb209, 2, none⟩) z8_8 (.int .i64 ((rd_T34 l0 x8_1).f2))).trans hx213_2; (try have hy213_0 := fun (n_ : Nat) => (show (((((w17.drewN n_).setCell ⟨gb209, 0, none⟩ (.int .i64 ((rd_T34 l0 x8_1).f0))).setCell ⟨gb209, 1, none⟩ (.int .i64 ((rd_T34 l0 x8_1).f1))).setCell ⟨gb209, 2, none⟩ (.int .i64 ((rd_T34 l0 x8_1).f2)))).cell? _ = some _ from hx213_0)); (try have hy213_1 := fun (n_ : Nat) => (show (((((w17.drewN n_).setCell ⟨gb209, 0, none⟩ (.int .i64 ((rd_T34 l0 x8_1).f0))).setCell ⟨gb209, 1, none⟩ (.int .i64 ((rd_T34 l0 x8_1).f1))).setCell ⟨gb209, 2, none⟩ (.int .i64 ((rd_T34 l0 x8_1).f2)))).cell? _ = some _ from hx213_1)); (try have hy213_2 := fun (n_ : Nat) => (show (((((w17.drewN n_).setCell ⟨gb209, 0, none⟩ (.int .i64 ((rd_T34 l0 x8_1).f0))).setCell ⟨gb209, 1, none⟩ (.int .i64 ((rd_T34 l0 x8_1).f1))).setCell ⟨gb209, 2, none⟩ (.int .i64 ((rd_T34 l0 x8_1).f2)))).cell? _ = some _ from hx213_2)); clear hn213_0; clear hn213_1; clear hn213_2; replace p213 := eq_true p213; replace q213 := eq_true q213) | ((with_reducible refine gate_builtin (b := .append) (xs := #[.tmp 26, .tmp 28]) rfl ?_); at_builtin; refine Kd.R_append k34 (w0 := w) w.heap.size rfl (.tmp 26) (.tmp 28) 28 34 (.agg #[(.int .i64 0), (.int .i64 0), (.int .i64 0)]) 24 rfl Try.underlying28 info34 rfl (by decide) (by omega) u3 x3_1 (⟨(rd_T34 l0 x8_1).f0, (rd_T34 l0 x8_1).f1, (rd_T34 l0 x8_1).f2⟩ : S34) [.int .i64 ((rd_T34 l0 x8_1).f0), .int .i64 ((rd_T34 l0 x8_1).f1), .int .i64 ((rd_T34 l0 x8_1).f2)] (fun k_ => k_ ≠ gb209) (fun _ => False) rfl z8_24 ?aP (fun _ hk => hk.elim) ?aF ?aO ?aB ?aS ?aL ?_; (case aP => exact k34_mkM _ _ _ (⟨(rd_T34 l0 x8_1).f0, (rd_T34 l0 x8_1).f1, (rd_T34 l0 x8_1).f2⟩ : S34)); (case aB => exact z8_4); (case aF => exact (fun k_ hk => Kd.freshB (g := gb209) (o := .cells #[.int .i64 ((rd_T34 l0 x8_1).f0), .int .i64 ((rd_T34 l0 x8_1).f1), .int .i64 ((rd_T34 l0 x8_1).f2)] 34 (0, 0)) z8_1 k_ hk)); (case aO => exact z8_3); (case aS => exact (below_size z8_4)); (case aL => have := LMc16.out; omega); intro v215 w19 ho hb hg hat; rw [← Ny214.out] at ho; have n0_ := Aside0.mk (blk_grown (g := gb209) (o := .cells #[.int .i64 ((rd_T34 l0 x8_1).f0), .int .i64 ((rd_T34 l0 x8_1).f1), .int .i64 ((rd_T34 l0 x8_1).f2)] 34 (0, 0)) z8_1 hg (Kd.R_away HO_3.out (fun _ hk => hk.2))); have n1_ := Aside0.mk (hb); have n2_ := Aside0.mk (ho); clear BK209; clear HB; clear HO_3; have BK209 := n0_; have HB := n1_; have HO216 := n2_; clear n0_ n1_ n2_; clear ho hb hg hat))
           repeat (go_quiet (first | ((with_reducible refine gate_dst (N := 5) rfl ?_); refine box_event ?hg (N := 5) ?hd (cs := #[.int .i64 0, .int .i64 0, .int .i64 0]) (t := 34) ?hr ?_; (case hd => rfl); (case hg => rfl); (case hr => exact z8_0); intro gb209 hg w17 hbox hb; have n0_ := Aside0.mk (Kd.R_below (Kd.R_elderB z8_16 gb209 (Nat.le_of_eq hg.symm)) hb); have n1_ := Aside0.mk (below_step z8_2 hb); have n2_ := Aside0.mk (hbox); have n3_ := Aside0.mk ((z8_17 : w.heap.size ≤ gb209)); have n4_ := Aside0.mk ((z8_17 : w.heap.size ≤ gb209)); clear HO_3; clear HB; have HO_3 := n0_; have HB := n1_; have BK209 := n2_; have GW209 := n3_; have GE209 := n4_; clear n0_ n1_ n2_ n3_ n4_; clear hb hbox hg; have hcz18_0 : w17.cell? ⟨gb209, 0, none⟩ = some (.int .i64 0) := (blk_cell BK209.out 0).trans rfl; have hcz18_1 : w17.cell? ⟨gb209, 1, none⟩ = some (.int .i64 0) := (blk_cell BK209.out 1).trans rfl; have hcz18_2 : w17.cell? ⟨gb209, 2, none⟩ = some (.int .i64 0) := (blk_cell BK209.out 2).trans rfl; have hfz18_0 := blk_frozen BK209.out 0; have hfz18_1 := blk_frozen BK209.out 1; have hfz18_2 := blk_frozen BK209.out 2; have p213 : 0 ≤ ((ji10) : Int) := of_decide_eq_true z8_12; have q213 : (ji10) < (l0.length : Int) := of_decide_eq_true z8_12; obtain ⟨ad213, e213, hx213_0, hx213_1, hx213_2⟩ := at_T34 HR0.out (ji10) p213 q213; obtain rfl : ad208 = ad213 := (by injection e213); have hn213_0 : ad208.block ≠ gb209 := Nat.ne_of_lt (Nat.lt_of_lt_of_le z8_10 GW209.out); have hn213_1 : ad208.block ≠ gb209 := Nat.ne_of_lt (Nat.lt_of_lt_of_le z8_10 GW209.out); have hn213_2 : ad208.block ≠ gb209 := Nat.ne_of_lt (Nat.lt_of_lt_of_le z8_10 GW209.out); replace hx213_0 := (HB.out.cell (World.block_lt_of_cell? w _ hx213_0)).trans hx213_0; replace hx213_1 := (HB.out.cell (World.block_lt_of_cell? w _ hx213_1)).trans hx213_1; replace hx213_2 := (HB.out.cell (World.block_lt_of_cell? w _ hx213_2)).trans hx213_2; replace hx213_0 := (cell_far (p := ⟨gb209, 0, none⟩) z8_6 (.int .i64 ((rd_T34 l0 x8_1).f0))).trans hx213_0; replace hx213_1 := (cell_far (p := ⟨gb209, 0, none⟩) z8_6 (.int .i64 ((rd_T34 l0 x8_1).f0))).trans hx213_1; replace hx213_2 := (cell_far (p := ⟨gb209, 0, none⟩) z8_6 (.int .i64 ((rd_T34 l0 x8_1).f0))).trans hx213_2; replace hx213_0 := (cell_far (p := ⟨gb209, 1, none⟩) z8_7 (.int .i64 ((rd_T34 l0 x8_1).f1))).trans hx213_0; replace hx213_1 := (cell_far (p := ⟨gb209, 1, none⟩) z8_7 (.int .i64 ((rd_T34 l0 x8_1).f1))).trans hx213_1; replace hx213_2 := (cell_far (p := ⟨gb209, 1, none⟩) z8_7 (.int .i64 ((rd_T34 l0 x8_1).f1))).trans hx213_2; replace hx213_0 := (cell_far (p := ⟨gb209, 2, none⟩) z8_8 (.int .i64 ((rd_T34 l0 x8_1).f2))).trans hx213_0; replace hx213_1 := (cell_far (p := ⟨gb209, 2, none⟩) z8_8 (.int .i64 ((rd_T34 l0 x8_1).f2))).trans hx213_1; replace hx213_2 := (cell_far (p := ⟨gb209, 2, none⟩) z8_8 (.int .i64 ((rd_T34 l0 x8_1).f2))).trans hx213_2; (try have hy213_0 := fun (n_ : Nat) => (show (((((w17.drewN n_).setCell ⟨gb209, 0, none⟩ (.int .i64 ((rd_T34 l0 x8_1).f0))).setCell ⟨gb209, 1, none⟩ (.int .i64 ((rd_T34 l0 x8_1).f1))).setCell ⟨gb209, 2, none⟩ (.int .i64 ((rd_T34 l0 x8_1).f2)))).cell? _ = some _ from hx213_0)); (try have hy213_1 := fun (n_ : Nat) => (show (((((w17.drewN n_).setCell ⟨gb209, 0, none⟩ (.int .i64 ((rd_T34 l0 x8_1).f0))).setCell ⟨gb209, 1, none⟩ (.int .i64 ((rd_T34 l0 x8_1).f1))).setCell ⟨gb209, 2, none⟩ (.int .i64 ((rd_T34 l0 x8_1).f2)))).cell? _ = some _ from hx213_1)); (try have hy213_2 := fun (n_ : Nat) => (show (((((w17.drewN n_).setCell ⟨gb209, 0, none⟩ (.int .i64 ((rd_T34 l0 x8_1).f0))).setCell ⟨gb209, 1, none⟩ (.int .i64 ((rd_T34 l0 x8_1).f1))).setCell ⟨gb209, 2, none⟩ (.int .i64 ((rd_T34 l0 x8_1).f2)))).cell? _ = some _ from hx213_2)); clear hn213_0; clear hn213_1; clear hn213_2; replace p213 := eq_true p213; replace q213 := eq_true q213) | ((with_reducible refine gate_builtin (b := .append) (xs := #[.tmp 26, .tmp 28]) rfl ?_); at_builtin; refine Kd.R_append k34 (w0 := w) w.heap.size rfl (.tmp 26) (.tmp 28) 28 34 (.agg #[(.int .i64 0), (.int .i64 0), (.int .i64 0)]) 24 rfl Try.underlying28 info34 rfl (by decide) (by omega) u3 x3_1 (⟨(rd_T34 l0 x8_1).f0, (rd_T34 l0 x8_1).f1, (rd_T34 l0 x8_1).f2⟩ : S34) [.int .i64 ((rd_T34 l0 x8_1).f0), .int .i64 ((rd_T34 l0 x8_1).f1), .int .i64 ((rd_T34 l0 x8_1).f2)] (fun k_ => k_ ≠ gb209) (fun _ => False) rfl z8_24 ?aP (fun _ hk => hk.elim) ?aF ?aO ?aB ?aS ?aL ?_; (case aP => exact k34_mkM _ _ _ (⟨(rd_T34 l0 x8_1).f0, (rd_T34 l0 x8_1).f1, (rd_T34 l0 x8_1).f2⟩ : S34)); (case aB => exact z8_4); (case aF => exact (fun k_ hk => Kd.freshB (g := gb209) (o := .cells #[.int .i64 ((rd_T34 l0 x8_1).f0), .int .i64 ((rd_T34 l0 x8_1).f1), .int .i64 ((rd_T34 l0 x8_1).f2)] 34 (0, 0)) z8_1 k_ hk)); (case aO => exact z8_3); (case aS => exact (below_size z8_4)); (case aL => have := LMc16.out; omega); intro v215 w19 ho hb hg hat; rw [← Ny214.out] at ho; have n0_ := Aside0.mk (blk_grown (g := gb209) (o := .cells #[.int .i64 ((rd_T34 l0 x8_1).f0), .int .i64 ((rd_T34 l0 x8_1).f1), .int .i64 ((rd_T34 l0 x8_1).f2)] 34 (0, 0)) z8_1 hg (Kd.R_away HO_3.out (fun _ hk => hk.2))); have n1_ := Aside0.mk (hb); have n2_ := Aside0.mk (ho); clear BK209; clear HB; clear HO_3; have BK209 := n0_; have HB := n1_; have HO216 := n2_; clear n0_ n1_ n2_; clear ho hb hg hat)); try go_wp2_with (first | ((with_reducible refine gate_dst (N := 5) rfl ?_); refine box_event ?hg (N := 5) ?hd (cs := #[.int .i64 0, .int .i64 0, .int .i64 0]) (t := 34) ?hr ?_; (case hd => rfl); (case hg => rfl); (case hr => exact z8_0); intro gb209 hg w17 hbox hb; have n0_ := Aside0.mk (Kd.R_below (Kd.R_elderB z8_16 gb209 (Nat.le_of_eq hg.symm)) hb); have n1_ := Aside0.mk (below_step z8_2 hb); have n2_ := Aside0.mk (hbox); have n3_ := Aside0.mk ((z8_17 : w.heap.size ≤ gb209)); have n4_ := Aside0.mk ((z8_17 : w.heap.size ≤ gb209)); clear HO_3; clear HB; have HO_3 := n0_; have HB := n1_; have BK209 := n2_; have GW209 := n3_; have GE209 := n4_; clear n0_ n1_ n2_ n3_ n4_; clear hb hbox hg; have hcz18_0 : w17.cell? ⟨gb209, 0, none⟩ = some (.int .i64 0) := (blk_cell BK209.out 0).trans rfl; have hcz18_1 : w17.cell? ⟨gb209, 1, none⟩ = some (.int .i64 0) := (blk_cell BK209.out 1).trans rfl; have hcz18_2 : w17.cell? ⟨gb209, 2, none⟩ = some (.int .i64 0) := (blk_cell BK209.out 2).trans rfl; have hfz18_0 := blk_frozen BK209.out 0; have hfz18_1 := blk_frozen BK209.out 1; have hfz18_2 := blk_frozen BK209.out 2; have p213 : 0 ≤ ((ji10) : Int) := of_decide_eq_true z8_12; have q213 : (ji10) < (l0.length : Int) := of_decide_eq_true z8_12; obtain ⟨ad213, e213, hx213_0, hx213_1, hx213_2⟩ := at_T34 HR0.out (ji10) p213 q213; obtain rfl : ad208 = ad213 := (by injection e213); have hn213_0 : ad208.block ≠ gb209 := Nat.ne_of_lt (Nat.lt_of_lt_of_le z8_10 GW209.out); have hn213_1 : ad208.block ≠ gb209 := Nat.ne_of_lt (Nat.lt_of_lt_of_le z8_10 GW209.out); have hn213_2 : ad208.block ≠ gb209 := Nat.ne_of_lt (Nat.lt_of_lt_of_le z8_10 GW209.out); replace hx213_0 := (HB.out.cell (World.block_lt_of_cell? w _ hx213_0)).trans hx213_0; replace hx213_1 := (HB.out.cell (World.block_lt_of_cell? w _ hx213_1)).trans hx213_1; replace hx213_2 := (HB.out.cell (World.block_lt_of_cell? w _ hx213_2)).trans hx213_2; replace hx213_0 := (cell_far (p := ⟨gb209, 0, none⟩) z8_6 (.int .i64 ((rd_T34 l0 x8_1).f0))).trans hx213_0; replace hx213_1 := (cell_far (p := ⟨gb209, 0, none⟩) z8_6 (.int .i64 ((rd_T34 l0 x8_1).f0))).trans hx213_1; replace hx213_2 := (cell_far (p := ⟨gb209, 0, none⟩) z8_6 (.int .i64 ((rd_T34 l0 x8_1).f0))).trans hx213_2; replace hx213_0 := (cell_far (p := ⟨gb209, 1, none⟩) z8_7 (.int .i64 ((rd_T34 l0 x8_1).f1))).trans hx213_0; replace hx213_1 := (cell_far (p := ⟨gb209, 1, none⟩) z8_7 (.int .i64 ((rd_T34 l0 x8_1).f1))).trans hx213_1; replace hx213_2 := (cell_far (p := ⟨gb209, 1, none⟩) z8_7 (.int .i64 ((rd_T34 l0 x8_1).f1))).trans hx213_2; replace hx213_0 := (cell_far (p := ⟨gb209, 2, none⟩) z8_8 (.int .i64 ((rd_T34 l0 x8_1).f2))).trans hx213_0; replace hx213_1 := (cell_far (p := ⟨gb209, 2, none⟩) z8_8 (.int .i64 ((rd_T34 l0 x8_1).f2))).trans hx213_1; replace hx213_2 := (cell_far (p := ⟨gb209, 2, none⟩) z8_8 (.int .i64 ((rd_T34 l0 x8_1).f2))).trans hx213_2; (try have hy213_0 := fun (n_ : Nat) => (show (((((w17.drewN n_).setCell ⟨gb209, 0, none⟩ (.int .i64 ((rd_T34 l0 x8_1).f0))).setCell ⟨gb209, 1, none⟩ (.int .i64 ((rd_T34 l0 x8_1).f1))).setCell ⟨gb209, 2, none⟩ (.int .i64 ((rd_T34 l0 x8_1).f2)))).cell? _ = some _ from hx213_0)); (try have hy213_1 := fun (n_ : Nat) => (show (((((w17.drewN n_).setCell ⟨gb209, 0, none⟩ (.int .i64 ((rd_T34 l0 x8_1).f0))).setCell ⟨gb209, 1, none⟩ (.int .i64 ((rd_T34 l0 x8_1).f1))).setCell ⟨gb209, 2, none⟩ (.int .i64 ((rd_T34 l0 x8_1).f2)))).cell? _ = some _ from hx213_1)); (try have hy213_2 := fun (n_ : Nat) => (show (((((w17.drewN n_).setCell ⟨gb209, 0, none⟩ (.int .i64 ((rd_T34 l0 x8_1).f0))).setCell ⟨gb209, 1, none⟩ (.int .i64 ((rd_T34 l0 x8_1).f1))).setCell ⟨gb209, 2, none⟩ (.int .i64 ((rd_T34 l0 x8_1).f2)))).cell? _ = some _ from hx213_2)); clear hn213_0; clear hn213_1; clear hn213_2; replace p213 := eq_true p213; replace q213 := eq_true q213) | ((with_reducible refine gate_builtin (b := .append) (xs := #[.tmp 26, .tmp 28]) rfl ?_); at_builtin; refine Kd.R_append k34 (w0 := w) w.heap.size rfl (.tmp 26) (.tmp 28) 28 34 (.agg #[(.int .i64 0), (.int .i64 0), (.int .i64 0)]) 24 rfl Try.underlying28 info34 rfl (by decide) (by omega) u3 x3_1 (⟨(rd_T34 l0 x8_1).f0, (rd_T34 l0 x8_1).f1, (rd_T34 l0 x8_1).f2⟩ : S34) [.int .i64 ((rd_T34 l0 x8_1).f0), .int .i64 ((rd_T34 l0 x8_1).f1), .int .i64 ((rd_T34 l0 x8_1).f2)] (fun k_ => k_ ≠ gb209) (fun _ => False) rfl z8_24 ?aP (fun _ hk => hk.elim) ?aF ?aO ?aB ?aS ?aL ?_; (case aP => exact k34_mkM _ _ _ (⟨(rd_T34 l0 x8_1).f0, (rd_T34 l0 x8_1).f1, (rd_T34 l0 x8_1).f2⟩ : S34)); (case aB => exact z8_4); (case aF => exact (fun k_ hk => Kd.freshB (g := gb209) (o := .cells #[.int .i64 ((rd_T34 l0 x8_1).f0), .int .i64 ((rd_T34 l0 x8_1).f1), .int .i64 ((rd_T34 l0 x8_1).f2)] 34 (0, 0)) z8_1 k_ hk)); (case aO => exact z8_3); (case aS => exact (below_size z8_4)); (case aL => have := LMc16.out; omega); intro v215 w19 ho hb hg hat; rw [← Ny214.out] at ho; have n0_ := Aside0.mk (blk_grown (g := gb209) (o := .cells #[.int .i64 ((rd_T34 l0 x8_1).f0), .int .i64 ((rd_T34 l0 x8_1).f1), .int .i64 ((rd_T34 l0 x8_1).f2)] 34 (0, 0)) z8_1 hg (Kd.R_away HO_3.out (fun _ hk => hk.2))); have n1_ := Aside0.mk (hb); have n2_ := Aside0.mk (ho); clear BK209; clear HB; clear HO_3; have BK209 := n0_; have HB := n1_; have HO216 := n2_; clear n0_ n1_ n2_; clear ho hb hg hat)))
           go_roundg k1
           case measure => have := HK1.out; omega
           case rel => exact ⟨(y214), (wrap64 (x8_1 + 1)), z8_22, H', ⟨by have := HK1.out; omega⟩, ⟨by (with_reducible repeat (first | apply Kd.R_alloc | apply Kd.R_drewN | apply Kd.R_drew)); exact Kd.R_mono HO216.out (fun _ hk => trivial)⟩, ⟨z8_4⟩⟩
          ·rw [if_neg c16] at H
           exact absurd H (by simp)
        ·rw [if_neg c12] at H
         exact absurd H (by simp)
       ·rw [if_neg c11] at H
        exact absurd H (by simp)
     ·rw [if_neg c4] at H
      exact absurd H (by simp)
    ·rw [if_neg c3] at H
     exact absurd H (by simp)
   ·rw [if_neg c2] at H
    have c2b0 : decide (x8_1 < (l0.length : Int)) = false := decide_eq_false c2
    clear c2
    obtain rfl := Option.some.inj H
    go_wp2
    repeat (go_quiet (fail); try go_wp2)
    go_ret
    exact ⟨_, z8_15, z8_16, z8_2⟩

/-! ### impl_CombineMessages: function 34 -/
def impl_CombineMessages.j0 : Nat → List (S34) → Bool → Int → Int → Int → Option ((List (S34)))
 | 0, _, _, _, _, _ => none
 | k + 1, x1, x13, x218000, x218001, x218002 => if x13 = true then (some ([] : List (S34))) else ((impl_inOrder.f x1).bind fun t219 => ((impl_CanCombine.f k x218000 x218001 x218002).bind fun t222 => (if t222 = true then ((impl_leastOnly.f k t219).bind fun t223 => (some t223)) else (some t219))))
def impl_CombineMessages.f (k : Nat) (a0_0 : Int) (a0_1 : Int) (a0_2 : Int) (l1 : List (S34)) : Option ((List (S34))) := (impl_ProgramValid.f k a0_0 a0_1 a0_2).bind fun t218 => (if t218 = true then (impl_CombineMessages.j0 k l1 (decide ((l1.length : Int) > 2000)) a0_0 a0_1 a0_2) else (impl_CombineMessages.j0 k l1 true a0_0 a0_1 a0_2))
theorem impl_CombineMessages.mono_l : ∀ k, (∀ y0 y1 y2 y3 y4, LeO (impl_CombineMessages.j0 k y0 y1 y2 y3 y4) (impl_CombineMessages.j0 (k + 1) y0 y1 y2 y3 y4))
 | 0 => fun _ _ _ _ _ r h => by simp [impl_CombineMessages.j0] at h
 | k + 1 => by
  have ih0 := impl_CombineMessages.mono_l k
  ·intro y0 y1 y2 y3 y4
   unfold impl_CombineMessages.j0
   repeat' first
   | (with_reducible exact ih0 _ _ _ _ _)
   | (with_reducible exact impl_CanCombine.mono _ _ _ _)
   | (with_reducible exact impl_ProgramValid.mono _ _ _ _)
   | (with_reducible exact impl_leastOnly.mono _ _)
   | (with_reducible exact LeO.refl _)
   | (with_reducible exact LeO.none _)
   | (with_reducible refine LeO.ite ?_ ?_)
   | (with_reducible refine LeO.bind ?_ (fun _ => ?_))
   | exact ih0 _ _ _ _ _
   | exact impl_CanCombine.mono _ _ _ _
   | exact impl_ProgramValid.mono _ _ _ _
   | exact impl_leastOnly.mono _ _
   | exact LeO.none _
   | refine LeO.ite ?_ ?_
   | refine LeO.bind ?_ (fun _ => ?_)
theorem impl_CombineMessages.mono : ∀ a0 a1 a2 a3 k, LeO (impl_CombineMessages.f k a0 a1 a2 a3) (impl_CombineMessages.f (k + 1) a0 a1 a2 a3) := by
 intro a0 a1 a2 a3 k
 have ih0 := impl_CombineMessages.mono_l k
 unfold impl_CombineMessages.f
 repeat' first
   | (with_reducible exact ih0 _ _ _ _ _)
   | (with_reducible exact impl_CanCombine.mono _ _ _ _)
   | (with_reducible exact impl_ProgramValid.mono _ _ _ _)
   | (with_reducible exact impl_leastOnly.mono _ _)
   | (with_reducible exact LeO.refl _)
   | (with_reducible exact LeO.none _)
   | (with_reducible refine LeO.ite ?_ ?_)
   | (with_reducible refine LeO.bind ?_ (fun _ => ?_))
   | exact ih0 _ _ _ _ _
   | exact impl_CanCombine.mono _ _ _ _
   | exact impl_ProgramValid.mono _ _ _ _
   | exact impl_leastOnly.mono _ _
   | exact LeO.none _
   | refine LeO.ite ?_ ?_
   | refine LeO.bind ?_ (fun _ => ?_)
set_option maxHeartbeats 8000000 in
set_option maxRecDepth 100000 in
theorem impl_CombineMessages.calls (k : Nat) (a0_0 : Int) (a0_1 : Int) (a0_2 : Int) (A1 : Option Addr) (c1 : Nat) (l1 : List (S34)) (r : List (S34)) (w : World) (hr1 : Kd.C k34 w A1 l1.length l1) (hc1 : l1.length ≤ c1) (h : impl_CombineMessages.f k a0_0 a0_1 a0_2 l1 = some r) :
  Calls Try.prog 34 #[.agg #[.int .i64 a0_0, .int .i64 a0_1, .int .i64 a0_2], .slice A1 l1.length c1] w fun e w' => ∃ v0_ : Value, e = .returned (v0_) ∧ Kd.R k34 34 w' w.heap.size (fun _ => True) v0_ r ∧ Below w.heap.size w w' := by
 have hu47 := Try.underlying47
 have HR1 := Aside0.mk hr1
 have HC1 := Aside0.mk hc1
 clear hr1 hc1
 have HB := Aside0.mk (Below.refl w.heap.size w)
 have H : ((impl_ProgramValid.f k a0_0 a0_1 a0_2).bind fun t218 => (if t218 = true then (impl_CombineMessages.j0 k l1 (decide ((l1.length : Int) > 2000)) a0_0 a0_1 a0_2) else (impl_CombineMessages.j0 k l1 true a0_0 a0_1 a0_2))) = some r := h
 clear h
 have HC3 := Aside0.mk H
 clear H
 go_enter Try.func34, Try.ntmps34
 go_upto_region 1 with (first | ((with_reducible refine gate_dst (N := 2) rfl ?_); (try (refine gate_guard (by rfl) ?_; dsimp only)); refine box_event ?hg (N := 2) ?hd (cs := #[.int .i64 a0_0, .int .i64 a0_1, .int .i64 a0_2]) (t := 47) ?hr ?_; (case hd => rfl); (case hg => rfl); (case hr => exact z8_0); intro gb217 hg w4 hbox hb; have n0_ := Aside0.mk (below_step z8_2 hb); have n1_ := Aside0.mk (hbox); have n2_ := Aside0.mk ((z8_17 : w.heap.size ≤ gb217)); have n3_ := Aside0.mk ((z8_17 : w.heap.size ≤ gb217)); clear HB; have HB := n0_; have BK217 := n1_; have GW217 := n2_; have GE217 := n3_; clear n0_ n1_ n2_ n3_; clear hb hbox hg))
 (try simp only [Act.put, List.setIfInBounds_toArray, List.set_cons_zero, List.set_cons_succ])
 go_cut [13] (fun v13 wc => ∃ (kq : Nat) (x13_2 : Bool), v13 = .bool x13_2 ∧ Aside0 (impl_CombineMessages.j0 kq l1 x13_2 a0_0 a0_1 a0_2 = some r) ∧ Aside0 (kq ≤ k) ∧ Aside0 (wc.heap[gb217]? = some (.cells #[.int .i64 a0_0, .int .i64 a0_1, .int .i64 a0_2] 47 (0, 0))) ∧ Aside0 (Below w.heap.size w wc))
 case first =>
  have H := HC3.out
  clear HC3
  replace H := Option.bind_eq_some_iff.mp H
  obtain ⟨t218, A50, H⟩ := H
  replace H : (if t218 = true then (impl_CombineMessages.j0 k l1 (decide ((l1.length : Int) > 2000)) a0_0 a0_1 a0_2) else (impl_CombineMessages.j0 k l1 true a0_0 a0_1 a0_2)) = some r := H
  have A5 := Aside0.mk A50
  clear A50
  by_cases c6 : t218 = true
  ·subst c6
   have H1 : (impl_CombineMessages.j0 k l1 (decide ((l1.length : Int) > 2000)) a0_0 a0_1 a0_2) = some r := by rw [if_pos rfl] at H; exact H
   clear H
   have H := H1
   clear H1
   have H' := Aside0.mk H
   clear H
   have hcz7_0 : w4.cell? ⟨gb217, 0, none⟩ = some (.int .i64 a0_0) := (blk_cell BK217.out 0).trans rfl
   have hcz7_1 : w4.cell? ⟨gb217, 1, none⟩ = some (.int .i64 a0_1) := (blk_cell BK217.out 1).trans rfl
   have hcz7_2 : w4.cell? ⟨gb217, 2, none⟩ = some (.int .i64 a0_2) := (blk_cell BK217.out 2).trans rfl
   have hfz7_0 := blk_frozen BK217.out 0
   have hfz7_1 := blk_frozen BK217.out 1
   have hfz7_2 := blk_frozen BK217.out 2
   go_wp2_with (first | ((with_reducible refine gate_callee (f := 79) rfl ?_); refine goesL_ (some 7) rfl rfl Try.func79 (by kernel_rfl) rfl #[.agg #[.int .i64 a0_0, .int .i64 a0_1, .int .i64 a0_2]] rfl z8_13 ?_; (with_reducible refine (impl_ProgramValid.calls k a0_0 a0_1 a0_2 true _ A5.out).mono ?_); rintro e w8 ⟨rfl, hb⟩; refine ⟨_, rfl, ?_⟩; have n0_ := Aside0.mk (blk_below (g := gb217) (o := .cells #[.int .i64 a0_0, .int .i64 a0_1, .int .i64 a0_2] 47 (0, 0)) z8_14 hb); have n1_ := Aside0.mk (below_step z8_5 hb); clear BK217; clear HB; have BK217 := n0_; have HB := n1_; clear n0_ n1_; (try clear hb); (try clear hb2); (try clear hk); (try clear hi)))
   go_meet
   case rel => exact ⟨_, (decide ((l1.length : Int) > 2000)), z8_22, H', ⟨by first | omega | exact Nat.le_refl _⟩, ⟨z8_14⟩, ⟨z8_5⟩⟩
  ·replace c6 := Bool.eq_false_iff.mpr c6
   subst c6
   have H1 : (impl_CombineMessages.j0 k l1 true a0_0 a0_1 a0_2) = some r := by rw [if_neg (show ¬ (false = true) by decide)] at H; exact H
   clear H
   have H := H1
   clear H1
   have H' := Aside0.mk H
   clear H
   have hcz9_0 : w4.cell? ⟨gb217, 0, none⟩ = some (.int .i64 a0_0) := (blk_cell BK217.out 0).trans rfl
   have hcz9_1 : w4.cell? ⟨gb217, 1, none⟩ = some (.int .i64 a0_1) := (blk_cell BK217.out 1).trans rfl
   have hcz9_2 : w4.cell? ⟨gb217, 2, none⟩ = some (.int .i64 a0_2) := (blk_cell BK217.out 2).trans rfl
   have hfz9_0 := blk_frozen BK217.out 0
   have hfz9_1 := blk_frozen BK217.out 1
   have hfz9_2 := blk_frozen BK217.out 2
   go_wp2_with (first | ((with_reducible refine gate_callee (f := 79) rfl ?_); refine goesL_ (some 7) rfl rfl Try.func79 (by kernel_rfl) rfl #[.agg #[.int .i64 a0_0, .int .i64 a0_1, .int .i64 a0_2]] rfl z8_13 ?_; (with_reducible refine (impl_ProgramValid.calls k a0_0 a0_1 a0_2 false _ A5.out).mono ?_); rintro e w10 ⟨rfl, hb⟩; refine ⟨_, rfl, ?_⟩; have n0_ := Aside0.mk (blk_below (g := gb217) (o := .cells #[.int .i64 a0_0, .int .i64 a0_1, .int .i64 a0_2] 47 (0, 0)) z8_14 hb); have n1_ := Aside0.mk (below_step z8_5 hb); clear BK217; clear HB; have BK217 := n0_; have HB := n1_; clear n0_ n1_; (try clear hb); (try clear hb2); (try clear hk); (try clear hi)))
   go_meet
   case rel => exact ⟨_, (true), z8_22, H', ⟨by first | omega | exact Nat.le_refl _⟩, ⟨z8_14⟩, ⟨z8_5⟩⟩
 case rest =>
  clear HC3
  try clear c1
  try clear p2
  try clear c3
  try clear c6
  try clear c7
  try clear hcz7_0
  try clear hcz7_1
  try clear hcz7_2
  try clear hcz9_0
  try clear hcz9_1
  try clear hcz9_2
  try clear hfz7_0
  try clear hfz7_1
  try clear hfz7_2
  try clear hfz9_0
  try clear hfz9_1
  try clear hfz9_2
  obtain ⟨kq, x13_2, rfl, HA, HJ2, BK217, HB⟩ := hcut
  cases kq with
  | zero => exact absurd HA.out (by simp [impl_CombineMessages.j0])
  | succ kj2 =>
   have H := HA.out
   clear HA
   simp only [impl_CombineMessages.j0] at H
   by_cases c11 : x13_2 = true
   ·subst c11
    have H1 : (some ([] : List (S34))) = some r := by rw [if_pos rfl] at H; exact H
    clear H
    have H := H1
    clear H1
    obtain rfl := Option.some.inj H
    go_wp2
    go_ret
    exact ⟨_, z8_15, z8_25, z8_5⟩
   ·replace c11 := Bool.eq_false_iff.mpr c11
    subst c11
    have H1 : ((impl_inOrder.f l1).bind fun t219 => ((impl_CanCombine.f kj2 a0_0 a0_1 a0_2).bind fun t222 => (if t222 = true then ((impl_leastOnly.f kj2 t219).bind fun t223 => (some t223)) else (some t219)))) = some r := by rw [if_neg (show ¬ (false = true) by decide)] at H; exact H
    clear H
    have H := H1
    clear H1
    replace H := Option.bind_eq_some_iff.mp H
    obtain ⟨t219, A120, H⟩ := H
    replace H : ((impl_CanCombine.f kj2 a0_0 a0_1 a0_2).bind fun t222 => (if t222 = true then ((impl_leastOnly.f kj2 t219).bind fun t223 => (some t223)) else (some t219))) = some r := H
    have A12 := Aside0.mk A120
    clear A120
    replace H := Option.bind_eq_some_iff.mp H
    obtain ⟨t222, A130, H⟩ := H
    replace H : (if t222 = true then ((impl_leastOnly.f kj2 t219).bind fun t223 => (some t223)) else (some t219)) = some r := H
    have A13 := Aside0.mk A130
    clear A130
    by_cases c14 : t222 = true
    ·subst c14
     have H1 : ((impl_leastOnly.f kj2 t219).bind fun t223 => (some t223)) = some r := by rw [if_pos rfl] at H; exact H
     clear H
     have H := H1
     clear H1
     replace H := Option.bind_eq_some_iff.mp H
     obtain ⟨t223, A150, H⟩ := H
     replace H : (some t223) = some r := H
     have A15 := Aside0.mk A150
     clear A150
     obtain rfl := Option.some.inj H
     go_wp2_with (first | ((with_reducible refine gate_callee (f := 72) rfl ?_); refine goesL_ (some 15) rfl rfl Try.func72 (by kernel_rfl) rfl #[.slice A1 l1.length c1] rfl z8_13 ?_; (with_reducible refine (impl_inOrder.calls _ _ l1 t219 _ ?side1 ?side2 A12.out).mono ?_); (case side1 => repeat (first | exact (Kd.C_below HR1.out HB.out) | (with_reducible refine Kd.C_alloc ?_ _) | (with_reducible refine Kd.C_drewN ?_ _) | (with_reducible refine Kd.C_drew ?_))); (case side2 => exact HC1.out); rintro e w16 ⟨v220, rfl, ho0, hb⟩; refine ⟨_, rfl, ?_⟩; have n0_ := Aside0.mk (Kd.R_lower ho0 (below_size z8_5)); have n1_ := Aside0.mk (blk_below (g := gb217) (o := .cells #[.int .i64 a0_0, .int .i64 a0_1, .int .i64 a0_2] 47 (0, 0)) z8_14 hb); have n2_ := Aside0.mk (below_step z8_5 hb); clear BK217; clear HB; have HO221 := n0_; have BK217 := n1_; have HB := n2_; clear n0_ n1_ n2_; (try clear hb); (try clear hb2); (try clear hk); (try clear hi); (try clear ho0); have hcz17_0 : w16.cell? ⟨gb217, 0, none⟩ = some (.int .i64 a0_0) := (blk_cell BK217.out 0).trans rfl; have hcz17_1 : w16.cell? ⟨gb217, 1, none⟩ = some (.int .i64 a0_1) := (blk_cell BK217.out 1).trans rfl; have hcz17_2 : w16.cell? ⟨gb217, 2, none⟩ = some (.int .i64 a0_2) := (blk_cell BK217.out 2).trans rfl; have hfz17_0 := blk_frozen BK217.out 0; have hfz17_1 := blk_frozen BK217.out 1; have hfz17_2 := blk_frozen BK217.out 2) | ((with_reducible refine gate_callee (f := 45) rfl ?_); refine goesL_ (some 17) rfl rfl Try.func45 (by kernel_rfl) rfl #[.agg #[.int .i64 a0_0, .int .i64 a0_1, .int .i64 a0_2]] rfl z8_13 ?_; (with_reducible refine (impl_CanCombine.calls kj2 a0_0 a0_1 a0_2 true _ A13.out).mono ?_); rintro e w18 ⟨rfl, hb⟩; refine ⟨_, rfl, ?_⟩; have n0_ := Aside0.mk (Kd.R_below z8_19 hb); have n1_ := Aside0.mk (blk_below (g := gb217) (o := .cells #[.int .i64 a0_0, .int .i64 a0_1, .int .i64 a0_2] 47 (0, 0)) z8_14 hb); have n2_ := Aside0.mk (below_step z8_5 hb); clear HO221; clear BK217; clear HB; have HO221 := n0_; have BK217 := n1_; have HB := n2_; clear n0_ n1_ n2_; (try clear hb); (try clear hb2); (try clear hk); (try clear hi); obtain ⟨Ao19, co19, eo19⟩ := Kd.R_slice HO221.out; subst eo19) | ((with_reducible refine gate_callee (f := 80) rfl ?_); refine goesL_ (some 19) rfl rfl Try.func80 (by kernel_rfl) rfl #[.slice Ao19 t219.length co19] rfl z8_13 ?_; (with_reducible refine (impl_leastOnly.calls kj2 _ _ t219 t223 _ ?side1 ?side2 A15.out).mono ?_); (case side1 => repeat (first | exact (Kd.R_reads' HO221.out).2.2 | (with_reducible refine Kd.C_alloc ?_ _) | (with_reducible refine Kd.C_drewN ?_ _) | (with_reducible refine Kd.C_drew ?_))); (case side2 => exact (Kd.R_reads' HO221.out).2.1); rintro e w20 ⟨v224, rfl, ho0, hb⟩; refine ⟨_, rfl, ?_⟩; have n0_ := Aside0.mk (Kd.R_elder' z8_19 (Kd.R_base ho0) hb); have n1_ := Aside0.mk (Kd.R_lower (Kd.R_new' ho0 (Kd.R_lt z8_19)) (below_size z8_5)); have n2_ := Aside0.mk (blk_below (g := gb217) (o := .cells #[.int .i64 a0_0, .int .i64 a0_1, .int .i64 a0_2] 47 (0, 0)) z8_14 hb); have n3_ := Aside0.mk (below_step z8_5 hb); clear HO221; clear BK217; clear HB; have HO221 := n0_; have HO225 := n1_; have BK217 := n2_; have HB := n3_; clear n0_ n1_ n2_ n3_; (try clear hb); (try clear hb2); (try clear hk); (try clear hi); (try clear ho0)))
     go_ret
     exact ⟨_, z8_15, by (with_reducible repeat (first | apply Kd.R_alloc | apply Kd.R_drewN | apply Kd.R_drew)); exact Kd.R_mono HO225.out (fun _ hk => trivial), z8_5⟩
    ·replace c14 := Bool.eq_false_iff.mpr c14
     subst c14
     have H1 : (some t219) = some r := by rw [if_neg (show ¬ (false = true) by decide)] at H; exact H
     clear H
     have H := H1
     clear H1
     obtain rfl := Option.some.inj H
     go_wp2_with (first | ((with_reducible refine gate_callee (f := 72) rfl ?_); refine goesL_ (some 15) rfl rfl Try.func72 (by kernel_rfl) rfl #[.slice A1 l1.length c1] rfl z8_13 ?_; (with_reducible refine (impl_inOrder.calls _ _ l1 t219 _ ?side1 ?side2 A12.out).mono ?_); (case side1 => repeat (first | exact (Kd.C_below HR1.out HB.out) | (with_reducible refine Kd.C_alloc ?_ _) | (with_reducible refine Kd.C_drewN ?_ _) | (with_reducible refine Kd.C_drew ?_))); (case side2 => exact HC1.out); rintro e w21 ⟨v220, rfl, ho0, hb⟩; refine ⟨_, rfl, ?_⟩; have n0_ := Aside0.mk (Kd.R_lower ho0 (below_size z8_5)); have n1_ := Aside0.mk (blk_below (g := gb217) (o := .cells #[.int .i64 a0_0, .int .i64 a0_1, .int .i64 a0_2] 47 (0, 0)) z8_14 hb); have n2_ := Aside0.mk (below_step z8_5 hb); clear BK217; clear HB; have HO221 := n0_; have BK217 := n1_; have HB := n2_; clear n0_ n1_ n2_; (try clear hb); (try clear hb2); (try clear hk); (try clear hi); (try clear ho0); have hcz22_0 : w21.cell? ⟨gb217, 0, none⟩ = some (.int .i64 a0_0) := (blk_cell BK217.out 0).trans rfl; have hcz22_1 : w21.cell? ⟨gb217, 1, none⟩ = some (.int .i64 a0_1) := (blk_cell BK217.out 1).trans rfl; have hcz22_2 : w21.cell? ⟨gb217, 2, none⟩ = some (.int .i64 a0_2) := (blk_cell BK217.out 2).trans rfl; have hfz22_0 := blk_frozen BK217.out 0; have hfz22_1 := blk_frozen BK217.out 1; have hfz22_2 := blk_frozen BK217.out 2) | ((with_reducible refine gate_callee (f := 45) rfl ?_); refine goesL_ (some 17) rfl rfl Try.func45 (by kernel_rfl) rfl #[.agg #[.int .i64 a0_0, .int .i64 a0_1, .int .i64 a0_2]] rfl z8_13 ?_; (with_reducible refine (impl_CanCombine.calls kj2 a0_0 a0_1 a0_2 false _ A13.out).mono ?_); rintro e w23 ⟨rfl, hb⟩; refine ⟨_, rfl, ?_⟩; have n0_ := Aside0.mk (Kd.R_below z8_19 hb); have n1_ := Aside0.mk (blk_below (g := gb217) (o := .cells #[.int .i64 a0_0, .int .i64 a0_1, .int .i64 a0_2] 47 (0, 0)) z8_14 hb); have n2_ := Aside0.mk (below_step z8_5 hb); clear HO221; clear BK217; clear HB; have HO221 := n0_; have BK217 := n1_; have HB := n2_; clear n0_ n1_ n2_; (try clear hb); (try clear hb2); (try clear hk); (try clear hi)))
     go_ret
     exact ⟨_, z8_15, z8_19, z8_5⟩

/-! ### laws_eqMessage: function 81 -/
def laws_eqMessage.f (a0_0 : Int) (a0_1 : Int) (a0_2 : Int) (a1_0 : Int) (a1_1 : Int) (a1_2 : Int) : Option (Bool) := if a0_0 = a1_0 then (if a0_1 = a1_1 then (if a0_2 = a1_2 then (some true) else (some false)) else (some false)) else (some false)
set_option maxHeartbeats 8000000 in
set_option maxRecDepth 100000 in
theorem laws_eqMessage.calls (a0_0 : Int) (a0_1 : Int) (a0_2 : Int) (a1_0 : Int) (a1_1 : Int) (a1_2 : Int) (r : Bool) (w : World) (h : laws_eqMessage.f a0_0 a0_1 a0_2 a1_0 a1_1 a1_2 = some r) :
  Calls Try.prog 81 #[.agg #[.int .i64 a0_0, .int .i64 a0_1, .int .i64 a0_2], .agg #[.int .i64 a1_0, .int .i64 a1_1, .int .i64 a1_2]] w fun e w' => e = .returned (.bool r) ∧ Below w.heap.size w w' := by
 have hu34 := Try.underlying34
 have HB := Aside0.mk (Below.refl w.heap.size w)
 have H : (if a0_0 = a1_0 then (if a0_1 = a1_1 then (if a0_2 = a1_2 then (some true) else (some false)) else (some false)) else (some false)) = some r := h
 clear h
 by_cases c3 : a0_0 = a1_0
 ·rw [if_pos c3] at H
  have c3b0 : (a0_0 == a1_0) = true := beq_iff_eq.mpr c3
  have c3b1 : (a0_0 != a1_0) = false := bne_eq_false_iff_eq.mpr c3
  clear c3
  by_cases c4 : a0_1 = a1_1
  ·rw [if_pos c4] at H
   have c4b0 : (a0_1 == a1_1) = true := beq_iff_eq.mpr c4
   have c4b1 : (a0_1 != a1_1) = false := bne_eq_false_iff_eq.mpr c4
   clear c4
   by_cases c5 : a0_2 = a1_2
   ·rw [if_pos c5] at H
    have c5b0 : (a0_2 == a1_2) = true := beq_iff_eq.mpr c5
    have c5b1 : (a0_2 != a1_2) = false := bne_eq_false_iff_eq.mpr c5
    clear c5
    obtain rfl := Option.some.inj H
    go_enter Try.func81, Try.ntmps81
    go_wp2_with (first | ((with_reducible refine gate_dst (N := 2) rfl ?_); refine box_event ?hg (N := 2) ?hd (cs := #[.int .i64 a0_0, .int .i64 a0_1, .int .i64 a0_2]) (t := 34) ?hr ?_; (case hd => rfl); (case hg => rfl); (case hr => exact z8_0); intro gb226 hg w6 hbox hb; have n0_ := Aside0.mk (below_step z8_2 hb); have n1_ := Aside0.mk (hbox); have n2_ := Aside0.mk ((z8_17 : w.heap.size ≤ gb226)); have n3_ := Aside0.mk ((z8_17 : w.heap.size ≤ gb226)); clear HB; have HB := n0_; have BK226 := n1_; have GW226 := n2_; have GE226 := n3_; clear n0_ n1_ n2_ n3_; clear hb hbox hg) | ((with_reducible refine gate_dst (N := 3) rfl ?_); refine box_event ?hg (N := 3) ?hd (cs := #[.int .i64 a1_0, .int .i64 a1_1, .int .i64 a1_2]) (t := 34) ?hr ?_; (case hd => rfl); (case hg => rfl); (case hr => exact z8_0); intro gb227 hg w7 hbox hb; have n0_ := Aside0.mk (blk_below (g := gb226) (o := .cells #[.int .i64 a0_0, .int .i64 a0_1, .int .i64 a0_2] 34 (0, 0)) z8_11 hb); have n1_ := Aside0.mk (below_step z8_9 hb); have n2_ := Aside0.mk (hbox); have n3_ := Aside0.mk ((z8_23 : w.heap.size ≤ gb227)); have n4_ := Aside0.mk ((z8_23 : w.heap.size ≤ gb227)); have n5_ := Aside0.mk ((z8_20 : gb226 ≠ gb227)); have n6_ := Aside0.mk ((z8_21 : gb227 ≠ gb226)); clear BK226; clear HB; have BK226 := n0_; have HB := n1_; have BK227 := n2_; have GW227 := n3_; have GE227 := n4_; have NB226_227 := n5_; have NB227_226 := n6_; clear n0_ n1_ n2_ n3_ n4_ n5_ n6_; clear hb hbox hg; have hnb8 := NB226_227.out; have hnc8 := NB227_226.out; have hcz9_0 : w7.cell? ⟨gb226, 0, none⟩ = some (.int .i64 a0_0) := (blk_cell BK226.out 0).trans rfl; have hcz9_1 : w7.cell? ⟨gb226, 1, none⟩ = some (.int .i64 a0_1) := (blk_cell BK226.out 1).trans rfl; have hcz9_2 : w7.cell? ⟨gb226, 2, none⟩ = some (.int .i64 a0_2) := (blk_cell BK226.out 2).trans rfl; have hfz9_0 := blk_frozen BK226.out 0; have hfz9_1 := blk_frozen BK226.out 1; have hfz9_2 := blk_frozen BK226.out 2; have hcz10_0 : w7.cell? ⟨gb227, 0, none⟩ = some (.int .i64 a1_0) := (blk_cell BK227.out 0).trans rfl; have hcz10_1 : w7.cell? ⟨gb227, 1, none⟩ = some (.int .i64 a1_1) := (blk_cell BK227.out 1).trans rfl; have hcz10_2 : w7.cell? ⟨gb227, 2, none⟩ = some (.int .i64 a1_2) := (blk_cell BK227.out 2).trans rfl; have hfz10_0 := blk_frozen BK227.out 0; have hfz10_1 := blk_frozen BK227.out 1; have hfz10_2 := blk_frozen BK227.out 2))
    go_ret
    exact ⟨z8_15, z8_18⟩
   ·rw [if_neg c5] at H
    have c5b0 : (a0_2 == a1_2) = false := beq_eq_false_iff_ne.mpr c5
    have c5b1 : (a0_2 != a1_2) = true := bne_iff_ne.mpr c5
    obtain rfl := Option.some.inj H
    go_enter Try.func81, Try.ntmps81
    go_wp2_with (first | ((with_reducible refine gate_dst (N := 2) rfl ?_); refine box_event ?hg (N := 2) ?hd (cs := #[.int .i64 a0_0, .int .i64 a0_1, .int .i64 a0_2]) (t := 34) ?hr ?_; (case hd => rfl); (case hg => rfl); (case hr => exact z8_0); intro gb226 hg w11 hbox hb; have n0_ := Aside0.mk (below_step z8_2 hb); have n1_ := Aside0.mk (hbox); have n2_ := Aside0.mk ((z8_17 : w.heap.size ≤ gb226)); have n3_ := Aside0.mk ((z8_17 : w.heap.size ≤ gb226)); clear HB; have HB := n0_; have BK226 := n1_; have GW226 := n2_; have GE226 := n3_; clear n0_ n1_ n2_ n3_; clear hb hbox hg) | ((with_reducible refine gate_dst (N := 3) rfl ?_); refine box_event ?hg (N := 3) ?hd (cs := #[.int .i64 a1_0, .int .i64 a1_1, .int .i64 a1_2]) (t := 34) ?hr ?_; (case hd => rfl); (case hg => rfl); (case hr => exact z8_0); intro gb227 hg w12 hbox hb; have n0_ := Aside0.mk (blk_below (g := gb226) (o := .cells #[.int .i64 a0_0, .int .i64 a0_1, .int .i64 a0_2] 34 (0, 0)) z8_11 hb); have n1_ := Aside0.mk (below_step z8_9 hb); have n2_ := Aside0.mk (hbox); have n3_ := Aside0.mk ((z8_23 : w.heap.size ≤ gb227)); have n4_ := Aside0.mk ((z8_23 : w.heap.size ≤ gb227)); have n5_ := Aside0.mk ((z8_20 : gb226 ≠ gb227)); have n6_ := Aside0.mk ((z8_21 : gb227 ≠ gb226)); clear BK226; clear HB; have BK226 := n0_; have HB := n1_; have BK227 := n2_; have GW227 := n3_; have GE227 := n4_; have NB226_227 := n5_; have NB227_226 := n6_; clear n0_ n1_ n2_ n3_ n4_ n5_ n6_; clear hb hbox hg; have hnb13 := NB226_227.out; have hnc13 := NB227_226.out; have hcz14_0 : w12.cell? ⟨gb226, 0, none⟩ = some (.int .i64 a0_0) := (blk_cell BK226.out 0).trans rfl; have hcz14_1 : w12.cell? ⟨gb226, 1, none⟩ = some (.int .i64 a0_1) := (blk_cell BK226.out 1).trans rfl; have hcz14_2 : w12.cell? ⟨gb226, 2, none⟩ = some (.int .i64 a0_2) := (blk_cell BK226.out 2).trans rfl; have hfz14_0 := blk_frozen BK226.out 0; have hfz14_1 := blk_frozen BK226.out 1; have hfz14_2 := blk_frozen BK226.out 2; have hcz15_0 : w12.cell? ⟨gb227, 0, none⟩ = some (.int .i64 a1_0) := (blk_cell BK227.out 0).trans rfl; have hcz15_1 : w12.cell? ⟨gb227, 1, none⟩ = some (.int .i64 a1_1) := (blk_cell BK227.out 1).trans rfl; have hcz15_2 : w12.cell? ⟨gb227, 2, none⟩ = some (.int .i64 a1_2) := (blk_cell BK227.out 2).trans rfl; have hfz15_0 := blk_frozen BK227.out 0; have hfz15_1 := blk_frozen BK227.out 1; have hfz15_2 := blk_frozen BK227.out 2))
    go_ret
    exact ⟨z8_15, z8_18⟩
  ·rw [if_neg c4] at H
   have c4b0 : (a0_1 == a1_1) = false := beq_eq_false_iff_ne.mpr c4
   have c4b1 : (a0_1 != a1_1) = true := bne_iff_ne.mpr c4
   obtain rfl := Option.some.inj H
   go_enter Try.func81, Try.ntmps81
   go_wp2_with (first | ((with_reducible refine gate_dst (N := 2) rfl ?_); refine box_event ?hg (N := 2) ?hd (cs := #[.int .i64 a0_0, .int .i64 a0_1, .int .i64 a0_2]) (t := 34) ?hr ?_; (case hd => rfl); (case hg => rfl); (case hr => exact z8_0); intro gb226 hg w16 hbox hb; have n0_ := Aside0.mk (below_step z8_2 hb); have n1_ := Aside0.mk (hbox); have n2_ := Aside0.mk ((z8_17 : w.heap.size ≤ gb226)); have n3_ := Aside0.mk ((z8_17 : w.heap.size ≤ gb226)); clear HB; have HB := n0_; have BK226 := n1_; have GW226 := n2_; have GE226 := n3_; clear n0_ n1_ n2_ n3_; clear hb hbox hg) | ((with_reducible refine gate_dst (N := 3) rfl ?_); refine box_event ?hg (N := 3) ?hd (cs := #[.int .i64 a1_0, .int .i64 a1_1, .int .i64 a1_2]) (t := 34) ?hr ?_; (case hd => rfl); (case hg => rfl); (case hr => exact z8_0); intro gb227 hg w17 hbox hb; have n0_ := Aside0.mk (blk_below (g := gb226) (o := .cells #[.int .i64 a0_0, .int .i64 a0_1, .int .i64 a0_2] 34 (0, 0)) z8_11 hb); have n1_ := Aside0.mk (below_step z8_9 hb); have n2_ := Aside0.mk (hbox); have n3_ := Aside0.mk ((z8_23 : w.heap.size ≤ gb227)); have n4_ := Aside0.mk ((z8_23 : w.heap.size ≤ gb227)); have n5_ := Aside0.mk ((z8_20 : gb226 ≠ gb227)); have n6_ := Aside0.mk ((z8_21 : gb227 ≠ gb226)); clear BK226; clear HB; have BK226 := n0_; have HB := n1_; have BK227 := n2_; have GW227 := n3_; have GE227 := n4_; have NB226_227 := n5_; have NB227_226 := n6_; clear n0_ n1_ n2_ n3_ n4_ n5_ n6_; clear hb hbox hg; have hnb18 := NB226_227.out; have hnc18 := NB227_226.out; have hcz19_0 : w17.cell? ⟨gb226, 0, none⟩ = some (.int .i64 a0_0) := (blk_cell BK226.out 0).trans rfl; have hcz19_1 : w17.cell? ⟨gb226, 1, none⟩ = some (.int .i64 a0_1) := (blk_cell BK226.out 1).trans rfl; have hcz19_2 : w17.cell? ⟨gb226, 2, none⟩ = some (.int .i64 a0_2) := (blk_cell BK226.out 2).trans rfl; have hfz19_0 := blk_frozen BK226.out 0; have hfz19_1 := blk_frozen BK226.out 1; have hfz19_2 := blk_frozen BK226.out 2; have hcz20_0 : w17.cell? ⟨gb227, 0, none⟩ = some (.int .i64 a1_0) := (blk_cell BK227.out 0).trans rfl; have hcz20_1 : w17.cell? ⟨gb227, 1, none⟩ = some (.int .i64 a1_1) := (blk_cell BK227.out 1).trans rfl; have hcz20_2 : w17.cell? ⟨gb227, 2, none⟩ = some (.int .i64 a1_2) := (blk_cell BK227.out 2).trans rfl; have hfz20_0 := blk_frozen BK227.out 0; have hfz20_1 := blk_frozen BK227.out 1; have hfz20_2 := blk_frozen BK227.out 2))
   go_ret
   exact ⟨z8_15, z8_18⟩
 ·rw [if_neg c3] at H
  have c3b0 : (a0_0 == a1_0) = false := beq_eq_false_iff_ne.mpr c3
  have c3b1 : (a0_0 != a1_0) = true := bne_iff_ne.mpr c3
  obtain rfl := Option.some.inj H
  go_enter Try.func81, Try.ntmps81
  go_wp2_with (first | ((with_reducible refine gate_dst (N := 2) rfl ?_); refine box_event ?hg (N := 2) ?hd (cs := #[.int .i64 a0_0, .int .i64 a0_1, .int .i64 a0_2]) (t := 34) ?hr ?_; (case hd => rfl); (case hg => rfl); (case hr => exact z8_0); intro gb226 hg w21 hbox hb; have n0_ := Aside0.mk (below_step z8_2 hb); have n1_ := Aside0.mk (hbox); have n2_ := Aside0.mk ((z8_17 : w.heap.size ≤ gb226)); have n3_ := Aside0.mk ((z8_17 : w.heap.size ≤ gb226)); clear HB; have HB := n0_; have BK226 := n1_; have GW226 := n2_; have GE226 := n3_; clear n0_ n1_ n2_ n3_; clear hb hbox hg) | ((with_reducible refine gate_dst (N := 3) rfl ?_); refine box_event ?hg (N := 3) ?hd (cs := #[.int .i64 a1_0, .int .i64 a1_1, .int .i64 a1_2]) (t := 34) ?hr ?_; (case hd => rfl); (case hg => rfl); (case hr => exact z8_0); intro gb227 hg w22 hbox hb; have n0_ := Aside0.mk (blk_below (g := gb226) (o := .cells #[.int .i64 a0_0, .int .i64 a0_1, .int .i64 a0_2] 34 (0, 0)) z8_11 hb); have n1_ := Aside0.mk (below_step z8_9 hb); have n2_ := Aside0.mk (hbox); have n3_ := Aside0.mk ((z8_23 : w.heap.size ≤ gb227)); have n4_ := Aside0.mk ((z8_23 : w.heap.size ≤ gb227)); have n5_ := Aside0.mk ((z8_20 : gb226 ≠ gb227)); have n6_ := Aside0.mk ((z8_21 : gb227 ≠ gb226)); clear BK226; clear HB; have BK226 := n0_; have HB := n1_; have BK227 := n2_; have GW227 := n3_; have GE227 := n4_; have NB226_227 := n5_; have NB227_226 := n6_; clear n0_ n1_ n2_ n3_ n4_ n5_ n6_; clear hb hbox hg; have hnb23 := NB226_227.out; have hnc23 := NB227_226.out; have hcz24_0 : w22.cell? ⟨gb226, 0, none⟩ = some (.int .i64 a0_0) := (blk_cell BK226.out 0).trans rfl; have hcz24_1 : w22.cell? ⟨gb226, 1, none⟩ = some (.int .i64 a0_1) := (blk_cell BK226.out 1).trans rfl; have hcz24_2 : w22.cell? ⟨gb226, 2, none⟩ = some (.int .i64 a0_2) := (blk_cell BK226.out 2).trans rfl; have hfz24_0 := blk_frozen BK226.out 0; have hfz24_1 := blk_frozen BK226.out 1; have hfz24_2 := blk_frozen BK226.out 2; have hcz25_0 : w22.cell? ⟨gb227, 0, none⟩ = some (.int .i64 a1_0) := (blk_cell BK227.out 0).trans rfl; have hcz25_1 : w22.cell? ⟨gb227, 1, none⟩ = some (.int .i64 a1_1) := (blk_cell BK227.out 1).trans rfl; have hcz25_2 : w22.cell? ⟨gb227, 2, none⟩ = some (.int .i64 a1_2) := (blk_cell BK227.out 2).trans rfl; have hfz25_0 := blk_frozen BK227.out 0; have hfz25_1 := blk_frozen BK227.out 1; have hfz25_2 := blk_frozen BK227.out 2))
  go_ret
  exact ⟨z8_15, z8_18⟩

/-! ### laws_eqMessageS: function 35 -/
def laws_eqMessageS.l0 : Nat → List (S34) → List (S34) → Int → Option (Bool)
 | 0, _, _, _ => none
 | k + 1, x0, x1, x5 => if x5 < (x0.length : Int) then (if 0 ≤ x5 then (if x5 < (x1.length : Int) then ((laws_eqMessage.f ((rd_T34 x0 x5).f0) ((rd_T34 x0 x5).f1) ((rd_T34 x0 x5).f2) ((rd_T34 x1 x5).f0) ((rd_T34 x1 x5).f1) ((rd_T34 x1 x5).f2)).bind fun t230 => (if t230 = true then (laws_eqMessageS.l0 k x0 x1 (wrap64 (x5 + 1))) else (some false))) else (none)) else (none)) else (some true)
def laws_eqMessageS.f (k : Nat) (l0 : List (S34)) (l1 : List (S34)) : Option (Bool) := if (l0.length : Int) = (l1.length : Int) then (laws_eqMessageS.l0 k l0 l1 0) else (some false)
theorem laws_eqMessageS.mono_l : ∀ k, (∀ y0 y1 y2, LeO (laws_eqMessageS.l0 k y0 y1 y2) (laws_eqMessageS.l0 (k + 1) y0 y1 y2))
 | 0 => fun _ _ _ r h => by simp [laws_eqMessageS.l0] at h
 | k + 1 => by
  have ih0 := laws_eqMessageS.mono_l k
  ·intro y0 y1 y2
   unfold laws_eqMessageS.l0
   repeat' first
   | (with_reducible exact ih0 _ _ _)
   | (with_reducible exact LeO.refl _)
   | (with_reducible exact LeO.none _)
   | (with_reducible refine LeO.ite ?_ ?_)
   | (with_reducible refine LeO.bind ?_ (fun _ => ?_))
   | exact ih0 _ _ _
   | exact LeO.none _
   | refine LeO.ite ?_ ?_
   | refine LeO.bind ?_ (fun _ => ?_)
theorem laws_eqMessageS.mono : ∀ a0 a1 k, LeO (laws_eqMessageS.f k a0 a1) (laws_eqMessageS.f (k + 1) a0 a1) := by
 intro a0 a1 k
 have ih0 := laws_eqMessageS.mono_l k
 unfold laws_eqMessageS.f
 repeat' first
   | (with_reducible exact ih0 _ _ _)
   | (with_reducible exact LeO.refl _)
   | (with_reducible exact LeO.none _)
   | (with_reducible refine LeO.ite ?_ ?_)
   | (with_reducible refine LeO.bind ?_ (fun _ => ?_))
   | exact ih0 _ _ _
   | exact LeO.none _
   | refine LeO.ite ?_ ?_
   | refine LeO.bind ?_ (fun _ => ?_)
def laws_eqMessageS.T6 : Bool × List (List Nat × List Nat) := (true, [([], []), ([], []), ([0, 1], [0, 1]), ([2], [2]), ([], []), ([], []), ([4, 5], [4, 5]), ([6], [6]), ([3, 7], [3, 7]), ([8], [8])])
def laws_eqMessageS.B6 : List Nat := [0, 0, 3, 7, 0, 0, 48, 112, 255, 511]
theorem laws_eqMessageS.tab6 : rtab .any (opsOf Try.f35 6) = laws_eqMessageS.T6 := by kernel_rfl
theorem laws_eqMessageS.bits6 : waitsOk laws_eqMessageS.T6.2 laws_eqMessageS.B6 = true := by kernel_rfl
set_option maxHeartbeats 8000000 in
set_option maxRecDepth 100000 in
theorem laws_eqMessageS.calls (k : Nat) (A0 : Option Addr) (c0 : Nat) (l0 : List (S34)) (A1 : Option Addr) (c1 : Nat) (l1 : List (S34)) (r : Bool) (w : World) (hr0 : Kd.C k34 w A0 l0.length l0) (hc0 : l0.length ≤ c0) (hr1 : Kd.C k34 w A1 l1.length l1) (hc1 : l1.length ≤ c1) (h : laws_eqMessageS.f k l0 l1 = some r) :
  Calls Try.prog 35 #[.slice A0 l0.length c0, .slice A1 l1.length c1] w fun e w' => e = .returned (.bool r) ∧ Below w.heap.size w w' := by
 have hu34 := Try.underlying34
 have HR0 := Aside0.mk hr0
 have HC0 := Aside0.mk hc0
 clear hr0 hc0
 have HR1 := Aside0.mk hr1
 have HC1 := Aside0.mk hc1
 clear hr1 hc1
 have HB := Aside0.mk (Below.refl w.heap.size w)
 have H : (if (l0.length : Int) = (l1.length : Int) then (laws_eqMessageS.l0 k l0 l1 0) else (some false)) = some r := h
 clear h
 by_cases c3 : (l0.length : Int) = (l1.length : Int)
 ·rw [if_pos c3] at H
  have c3b0 : ((l0.length : Int) == (l1.length : Int)) = true := beq_iff_eq.mpr c3
  have c3b1 : ((l0.length : Int) != (l1.length : Int)) = false := bne_eq_false_iff_eq.mpr c3
  have c3b2 : (l0.length == l1.length) = true := by first | simpa using c3 | (simp at c3 ⊢; omega)
  clear c3
  have H' := Aside0.mk H
  clear H
  go_enter Try.func35, Try.ntmps35
  go_wp2
  go_loopg [5] k (fun kq v5 w' => ∃ (x5_1 : Int), v5 = .int .i64 x5_1 ∧ Aside0 (laws_eqMessageS.l0 kq l0 l1 x5_1 = some r) ∧ Aside0 (kq ≤ k) ∧ Aside0 (Below w.heap.size w w'))
  case atStart => exact ⟨(0), z8_22, H', ⟨Nat.le_refl _⟩, ⟨z8_2⟩⟩
  case round =>
   clear H'
   try clear c1
   try clear p2
   try clear c3
   try clear c3b0
   try clear c3b1
   try clear c3b2
   obtain ⟨x5_1, rfl, HA, HK1, HB⟩ := hrel
   cases gk with
   | zero => exact absurd HA.out (by simp [laws_eqMessageS.l0])
   | succ k1 =>
    have H := HA.out
    clear HA
    simp only [laws_eqMessageS.l0] at H
    by_cases c4 : x5_1 < (l0.length : Int)
    ·rw [if_pos c4] at H
     have c4b0 : decide (x5_1 < (l0.length : Int)) = true := decide_eq_true c4
     clear c4
     by_cases c5 : 0 ≤ x5_1
     ·rw [if_pos c5] at H
      have c5b0 : decide (0 ≤ x5_1) = true := decide_eq_true c5
      clear c5
      by_cases c6 : x5_1 < (l1.length : Int)
      ·rw [if_pos c6] at H
       have c6b0 : decide (x5_1 < (l1.length : Int)) = true := decide_eq_true c6
       clear c6
       replace H := Option.bind_eq_some_iff.mp H
       obtain ⟨t230, A70, H⟩ := H
       replace H : (if t230 = true then (laws_eqMessageS.l0 k1 l0 l1 (wrap64 (x5_1 + 1))) else (some false)) = some r := H
       have A7 := Aside0.mk A70
       clear A70
       by_cases c8 : t230 = true
       ·subst c8
        have H1 : (laws_eqMessageS.l0 k1 l0 l1 (wrap64 (x5_1 + 1))) = some r := by rw [if_pos rfl] at H; exact H
        clear H
        have H := H1
        clear H1
        have H' := Aside0.mk H
        clear H
        try go_wp2
        have n0_ := Aside0.mk (below_drew1 HB.out)
        clear HB
        have HB := n0_
        clear n0_
        have p228 : 0 ≤ (x5_1 : Int) := of_decide_eq_true z8_12
        have q228 : x5_1 < (l0.length : Int) := of_decide_eq_true z8_12
        obtain ⟨ad228, e228, hx228_0, hx228_1, hx228_2⟩ := at_T34 HR0.out x5_1 p228 q228
        have hw228_2 := hx228_2
        have hw228_1 := hx228_1
        have hw228_0 := hx228_0
        cases e228
        replace hx228_0 := (HB.out.cell (World.block_lt_of_cell? w _ hx228_0)).trans hx228_0
        replace hx228_1 := (HB.out.cell (World.block_lt_of_cell? w _ hx228_1)).trans hx228_1
        replace hx228_2 := (HB.out.cell (World.block_lt_of_cell? w _ hx228_2)).trans hx228_2
        replace p228 := eq_true p228
        replace q228 := eq_true q228
        have p229 : 0 ≤ (x5_1 : Int) := of_decide_eq_true z8_12
        have q229 : x5_1 < (l1.length : Int) := of_decide_eq_true z8_12
        obtain ⟨ad229, e229, hx229_0, hx229_1, hx229_2⟩ := at_T34 HR1.out x5_1 p229 q229
        have hw229_2 := hx229_2
        have hw229_1 := hx229_1
        have hw229_0 := hx229_0
        cases e229
        replace hx229_0 := (HB.out.cell (World.block_lt_of_cell? w _ hx229_0)).trans hx229_0
        replace hx229_1 := (HB.out.cell (World.block_lt_of_cell? w _ hx229_1)).trans hx229_1
        replace hx229_2 := (HB.out.cell (World.block_lt_of_cell? w _ hx229_2)).trans hx229_2
        replace p229 := eq_true p229
        replace q229 := eq_true q229
        refine start_ (n := 10) (S := fun w' => w'.cell? (ad228.add ((x5_1).toNat * 3)) = some (.int .i64 ((rd_T34 l0 x5_1).f0)) ∧ w'.cell? ⟨(ad228.add ((x5_1).toNat * 3)).block, (ad228.add ((x5_1).toNat * 3)).off + 1, none⟩ = some (.int .i64 ((rd_T34 l0 x5_1).f1)) ∧ w'.cell? ⟨(ad228.add ((x5_1).toNat * 3)).block, (ad228.add ((x5_1).toNat * 3)).off + 2, none⟩ = some (.int .i64 ((rd_T34 l0 x5_1).f2)) ∧ w'.cell? (ad229.add ((x5_1).toNat * 3)) = some (.int .i64 ((rd_T34 l1 x5_1).f0)) ∧ w'.cell? ⟨(ad229.add ((x5_1).toNat * 3)).block, (ad229.add ((x5_1).toNat * 3)).off + 1, none⟩ = some (.int .i64 ((rd_T34 l1 x5_1).f1)) ∧ w'.cell? ⟨(ad229.add ((x5_1).toNat * 3)).block, (ad229.add ((x5_1).toNat * 3)).off + 2, none⟩ = some (.int .i64 ((rd_T34 l1 x5_1).f2))) (ds := []) (bm 10 0) (by kernel_rfl) rfl rfl ⟨((HB.out.cell (World.block_lt_of_cell? w _ hw228_0)).trans hw228_0), ((HB.out.cell (World.block_lt_of_cell? w _ hw228_1)).trans hw228_1), ((HB.out.cell (World.block_lt_of_cell? w _ hw228_2)).trans hw228_2), ((HB.out.cell (World.block_lt_of_cell? w _ hw229_0)).trans hw229_0), ((HB.out.cell (World.block_lt_of_cell? w _ hw229_1)).trans hw229_1), ((HB.out.cell (World.block_lt_of_cell? w _ hw229_2)).trans hw229_2)⟩ (fun hHeld => ?_); refine with_tabW laws_eqMessageS.tab6 laws_eqMessageS.bits6 (fun HT_ HW_ => ?_)
        generalize wr.drew = w9 at HB hx228_0 hx228_1 hx228_2 hx229_0 hx229_1 hx229_2 hHeld ⊢
        refine pure_ (i := 0) (N := some 17) (v := ?_) (a' := ?_) (bm 10 1) rfl rfl (any_of HT_.out (by kernel_rfl)) (fun _ _ _ h => h) (Or.inl ⟨by rfl, ?_⟩) ?_ ?_
        rotate_left
        ·intro w'
         go_simp
         with_reducible rfl
        rotate_left
        ·simp only [Act.put, List.setIfInBounds_toArray, List.set_cons_zero, List.set_cons_succ, i64_w, i32_w]
         rfl
        refine pure_ (i := 1) (N := some 18) (v := ?_) (a' := ?_) (bm 10 3) rfl rfl (any_of HT_.out (by kernel_rfl)) (fun _ _ _ h => h) (Or.inl ⟨by rfl, ?_⟩) ?_ ?_
        rotate_left
        ·intro w'
         go_simp
         with_reducible rfl
        rotate_left
        ·simp only [Act.put, List.setIfInBounds_toArray, List.set_cons_zero, List.set_cons_succ, i64_w, i32_w]
         rfl
        refine pure_ (i := 2) (N := some 19) (v := ?_) (a' := ?_) (bm 10 7) rfl rfl (any_of HT_.out (by kernel_rfl)) (fun _ _ _ h => h) (Or.inl ⟨by rfl, ?_⟩) ?_ ?_
        rotate_left
        ·intro w'
         go_simp
         with_reducible rfl
        rotate_left
        ·simp only [Act.put, List.setIfInBounds_toArray, List.set_cons_zero, List.set_cons_succ, i64_w, i32_w]
         rfl
        refine pure_ (i := 4) (N := some 21) (v := ?_) (a' := ?_) (bm 10 23) rfl rfl (any_of HT_.out (by kernel_rfl)) (fun _ _ _ h => h) (Or.inl ⟨by rfl, ?_⟩) ?_ ?_
        rotate_left
        ·intro w'
         go_simp
         with_reducible rfl
        rotate_left
        ·simp only [Act.put, List.setIfInBounds_toArray, List.set_cons_zero, List.set_cons_succ, i64_w, i32_w]
         rfl
        refine pure_ (i := 5) (N := some 22) (v := ?_) (a' := ?_) (bm 10 55) rfl rfl (any_of HT_.out (by kernel_rfl)) (fun _ _ _ h => h) (Or.inl ⟨by rfl, ?_⟩) ?_ ?_
        rotate_left
        ·intro w'
         go_simp
         with_reducible rfl
        rotate_left
        ·simp only [Act.put, List.setIfInBounds_toArray, List.set_cons_zero, List.set_cons_succ, i64_w, i32_w]
         rfl
        refine pure_ (i := 6) (N := some 23) (v := ?_) (a' := ?_) (bm 10 119) rfl rfl (any_of HT_.out (by kernel_rfl)) (fun _ _ _ h => h) (Or.inl ⟨by rfl, ?_⟩) ?_ ?_
        rotate_left
        ·intro w'
         go_simp
         with_reducible rfl
        rotate_left
        ·simp only [Act.put, List.setIfInBounds_toArray, List.set_cons_zero, List.set_cons_succ, i64_w, i32_w]
         rfl
        refine take_ (i := 3) (N := some 20) (v := ?_) (a' := ?_) (bm 10 127) rfl rfl (take_ofW HT_.out HW_.out (by kernel_rfl)) (fun _ _ _ h => h) (Or.inl ⟨by rfl, ?_⟩) hHeld ?_ ?_
        rotate_left
        ·rintro w' ⟨s0, s1, s2, s3, s4, s5⟩
         go_simp
         with_reducible rfl
        rotate_left
        ·simp only [Act.put, List.setIfInBounds_toArray, List.set_cons_zero, List.set_cons_succ, i64_w, i32_w]
         rfl
        refine take_ (i := 7) (N := some 24) (v := ?_) (a' := ?_) (bm 10 255) rfl rfl (take_ofW HT_.out HW_.out (by kernel_rfl)) (fun _ _ _ h => h) (Or.inl ⟨by rfl, ?_⟩) hHeld ?_ ?_
        rotate_left
        ·rintro w' ⟨s0, s1, s2, s3, s4, s5⟩
         go_simp
         with_reducible rfl
        rotate_left
        ·simp only [Act.put, List.setIfInBounds_toArray, List.set_cons_zero, List.set_cons_succ, i64_w, i32_w]
         rfl
        refine one_ (i := 8) (N := some 25) (bm 10 511) rfl rfl (one_of HT_.out (by kernel_rfl)) (by decide) (fun K hK => ?_)
        refine goes_ Try.func81 (by kernel_rfl) rfl #[.agg #[.int .i64 ((rd_T34 l0 x5_1).f0), .int .i64 ((rd_T34 l0 x5_1).f1), .int .i64 ((rd_T34 l0 x5_1).f2)], .agg #[.int .i64 ((rd_T34 l1 x5_1).f0), .int .i64 ((rd_T34 l1 x5_1).f1), .int .i64 ((rd_T34 l1 x5_1).f2)]] (by rfl) rfl rfl z8_13 ?_
        with_reducible refine (laws_eqMessage.calls ((rd_T34 l0 x5_1).f0) ((rd_T34 l0 x5_1).f1) ((rd_T34 l0 x5_1).f2) ((rd_T34 l1 x5_1).f0) ((rd_T34 l1 x5_1).f1) ((rd_T34 l1 x5_1).f2) true _ A7.out).mono ?_
        rintro e w10 ⟨rfl, hb⟩
        refine ⟨_, rfl, ?_⟩
        have n0_ := Aside0.mk (below_step z8_2 hb)
        clear HB
        have HB := n0_
        clear n0_
        (try clear hb)
        (try clear hb2)
        (try clear hk)
        (try clear hi)
        refine hK.out _ _ ⟨((HB.out.cell (World.block_lt_of_cell? w _ hw228_0)).trans hw228_0), ((HB.out.cell (World.block_lt_of_cell? w _ hw228_1)).trans hw228_1), ((HB.out.cell (World.block_lt_of_cell? w _ hw228_2)).trans hw228_2), ((HB.out.cell (World.block_lt_of_cell? w _ hw229_0)).trans hw229_0), ((HB.out.cell (World.block_lt_of_cell? w _ hw229_1)).trans hw229_1), ((HB.out.cell (World.block_lt_of_cell? w _ hw229_2)).trans hw229_2)⟩ (fun hHeld => ?_)
        clear hK K
        refine norm_ (a' := ?_) ?_ ?_
        rotate_left
        ·show Act.put _ (some 25) _ = _
         simp only [Act.put, List.setIfInBounds_toArray, List.set_cons_zero, List.set_cons_succ, i64_w, i32_w]
         rfl
        refine pure_ (i := 9) (N := some 26) (v := ?_) (a' := ?_) (bm 10 1023) rfl rfl (any_of HT_.out (by kernel_rfl)) (fun _ _ _ h => h) (Or.inl ⟨by rfl, ?_⟩) ?_ ?_
        rotate_left
        ·intro w'
         go_simp
         with_reducible rfl
        rotate_left
        ·simp only [Act.put, List.setIfInBounds_toArray, List.set_cons_zero, List.set_cons_succ, i64_w, i32_w]
         rfl
        refine done_ (done_of HT_.out (by kernel_rfl)) ?_
        try go_wp2
        go_roundg k1
        case measure => have := HK1.out; omega
        case rel => exact ⟨(wrap64 (x5_1 + 1)), z8_22, H', ⟨by have := HK1.out; omega⟩, ⟨z8_2⟩⟩
       ·replace c8 := Bool.eq_false_iff.mpr c8
        subst c8
        have H1 : (some false) = some r := by rw [if_neg (show ¬ (false = true) by decide)] at H; exact H
        clear H
        have H := H1
        clear H1
        obtain rfl := Option.some.inj H
        try go_wp2
        have n0_ := Aside0.mk (below_drew1 HB.out)
        clear HB
        have HB := n0_
        clear n0_
        have p228 : 0 ≤ (x5_1 : Int) := of_decide_eq_true z8_12
        have q228 : x5_1 < (l0.length : Int) := of_decide_eq_true z8_12
        obtain ⟨ad228, e228, hx228_0, hx228_1, hx228_2⟩ := at_T34 HR0.out x5_1 p228 q228
        have hw228_2 := hx228_2
        have hw228_1 := hx228_1
        have hw228_0 := hx228_0
        cases e228
        replace hx228_0 := (HB.out.cell (World.block_lt_of_cell? w _ hx228_0)).trans hx228_0
        replace hx228_1 := (HB.out.cell (World.block_lt_of_cell? w _ hx228_1)).trans hx228_1
        replace hx228_2 := (HB.out.cell (World.block_lt_of_cell? w _ hx228_2)).trans hx228_2
        replace p228 := eq_true p228
        replace q228 := eq_true q228
        have p229 : 0 ≤ (x5_1 : Int) := of_decide_eq_true z8_12
        have q229 : x5_1 < (l1.length : Int) := of_decide_eq_true z8_12
        obtain ⟨ad229, e229, hx229_0, hx229_1, hx229_2⟩ := at_T34 HR1.out x5_1 p229 q229
        have hw229_2 := hx229_2
        have hw229_1 := hx229_1
        have hw229_0 := hx229_0
        cases e229
        replace hx229_0 := (HB.out.cell (World.block_lt_of_cell? w _ hx229_0)).trans hx229_0
        replace hx229_1 := (HB.out.cell (World.block_lt_of_cell? w _ hx229_1)).trans hx229_1
        replace hx229_2 := (HB.out.cell (World.block_lt_of_cell? w _ hx229_2)).trans hx229_2
        replace p229 := eq_true p229
        replace q229 := eq_true q229
        refine start_ (n := 10) (S := fun w' => w'.cell? (ad228.add ((x5_1).toNat * 3)) = some (.int .i64 ((rd_T34 l0 x5_1).f0)) ∧ w'.cell? ⟨(ad228.add ((x5_1).toNat * 3)).block, (ad228.add ((x5_1).toNat * 3)).off + 1, none⟩ = some (.int .i64 ((rd_T34 l0 x5_1).f1)) ∧ w'.cell? ⟨(ad228.add ((x5_1).toNat * 3)).block, (ad228.add ((x5_1).toNat * 3)).off + 2, none⟩ = some (.int .i64 ((rd_T34 l0 x5_1).f2)) ∧ w'.cell? (ad229.add ((x5_1).toNat * 3)) = some (.int .i64 ((rd_T34 l1 x5_1).f0)) ∧ w'.cell? ⟨(ad229.add ((x5_1).toNat * 3)).block, (ad229.add ((x5_1).toNat * 3)).off + 1, none⟩ = some (.int .i64 ((rd_T34 l1 x5_1).f1)) ∧ w'.cell? ⟨(ad229.add ((x5_1).toNat * 3)).block, (ad229.add ((x5_1).toNat * 3)).off + 2, none⟩ = some (.int .i64 ((rd_T34 l1 x5_1).f2))) (ds := []) (bm 10 0) (by kernel_rfl) rfl rfl ⟨((HB.out.cell (World.block_lt_of_cell? w _ hw228_0)).trans hw228_0), ((HB.out.cell (World.block_lt_of_cell? w _ hw228_1)).trans hw228_1), ((HB.out.cell (World.block_lt_of_cell? w _ hw228_2)).trans hw228_2), ((HB.out.cell (World.block_lt_of_cell? w _ hw229_0)).trans hw229_0), ((HB.out.cell (World.block_lt_of_cell? w _ hw229_1)).trans hw229_1), ((HB.out.cell (World.block_lt_of_cell? w _ hw229_2)).trans hw229_2)⟩ (fun hHeld => ?_); refine with_tabW laws_eqMessageS.tab6 laws_eqMessageS.bits6 (fun HT_ HW_ => ?_)
        generalize wr.drew = w11 at HB hx228_0 hx228_1 hx228_2 hx229_0 hx229_1 hx229_2 hHeld ⊢
        refine pure_ (i := 0) (N := some 17) (v := ?_) (a' := ?_) (bm 10 1) rfl rfl (any_of HT_.out (by kernel_rfl)) (fun _ _ _ h => h) (Or.inl ⟨by rfl, ?_⟩) ?_ ?_
        rotate_left
        ·intro w'
         go_simp
         with_reducible rfl
        rotate_left
        ·simp only [Act.put, List.setIfInBounds_toArray, List.set_cons_zero, List.set_cons_succ, i64_w, i32_w]
         rfl
        refine pure_ (i := 1) (N := some 18) (v := ?_) (a' := ?_) (bm 10 3) rfl rfl (any_of HT_.out (by kernel_rfl)) (fun _ _ _ h => h) (Or.inl ⟨by rfl, ?_⟩) ?_ ?_
        rotate_left
        ·intro w'
         go_simp
         with_reducible rfl
        rotate_left
        ·simp only [Act.put, List.setIfInBounds_toArray, List.set_cons_zero, List.set_cons_succ, i64_w, i32_w]
         rfl
        refine pure_ (i := 2) (N := some 19) (v := ?_) (a' := ?_) (bm 10 7) rfl rfl (any_of HT_.out (by kernel_rfl)) (fun _ _ _ h => h) (Or.inl ⟨by rfl, ?_⟩) ?_ ?_
        rotate_left
        ·intro w'
         go_simp
         with_reducible rfl
        rotate_left
        ·simp only [Act.put, List.setIfInBounds_toArray, List.set_cons_zero, List.set_cons_succ, i64_w, i32_w]
         rfl
        refine pure_ (i := 4) (N := some 21) (v := ?_) (a' := ?_) (bm 10 23) rfl rfl (any_of HT_.out (by kernel_rfl)) (fun _ _ _ h => h) (Or.inl ⟨by rfl, ?_⟩) ?_ ?_
        rotate_left
        ·intro w'
         go_simp
         with_reducible rfl
        rotate_left
        ·simp only [Act.put, List.setIfInBounds_toArray, List.set_cons_zero, List.set_cons_succ, i64_w, i32_w]
         rfl
        refine pure_ (i := 5) (N := some 22) (v := ?_) (a' := ?_) (bm 10 55) rfl rfl (any_of HT_.out (by kernel_rfl)) (fun _ _ _ h => h) (Or.inl ⟨by rfl, ?_⟩) ?_ ?_
        rotate_left
        ·intro w'
         go_simp
         with_reducible rfl
        rotate_left
        ·simp only [Act.put, List.setIfInBounds_toArray, List.set_cons_zero, List.set_cons_succ, i64_w, i32_w]
         rfl
        refine pure_ (i := 6) (N := some 23) (v := ?_) (a' := ?_) (bm 10 119) rfl rfl (any_of HT_.out (by kernel_rfl)) (fun _ _ _ h => h) (Or.inl ⟨by rfl, ?_⟩) ?_ ?_
        rotate_left
        ·intro w'
         go_simp
         with_reducible rfl
        rotate_left
        ·simp only [Act.put, List.setIfInBounds_toArray, List.set_cons_zero, List.set_cons_succ, i64_w, i32_w]
         rfl
        refine take_ (i := 3) (N := some 20) (v := ?_) (a' := ?_) (bm 10 127) rfl rfl (take_ofW HT_.out HW_.out (by kernel_rfl)) (fun _ _ _ h => h) (Or.inl ⟨by rfl, ?_⟩) hHeld ?_ ?_
        rotate_left
        ·rintro w' ⟨s0, s1, s2, s3, s4, s5⟩
         go_simp
         with_reducible rfl
        rotate_left
        ·simp only [Act.put, List.setIfInBounds_toArray, List.set_cons_zero, List.set_cons_succ, i64_w, i32_w]
         rfl
        refine take_ (i := 7) (N := some 24) (v := ?_) (a' := ?_) (bm 10 255) rfl rfl (take_ofW HT_.out HW_.out (by kernel_rfl)) (fun _ _ _ h => h) (Or.inl ⟨by rfl, ?_⟩) hHeld ?_ ?_
        rotate_left
        ·rintro w' ⟨s0, s1, s2, s3, s4, s5⟩
         go_simp
         with_reducible rfl
        rotate_left
        ·simp only [Act.put, List.setIfInBounds_toArray, List.set_cons_zero, List.set_cons_succ, i64_w, i32_w]
         rfl
        refine one_ (i := 8) (N := some 25) (bm 10 511) rfl rfl (one_of HT_.out (by kernel_rfl)) (by decide) (fun K hK => ?_)
        refine goes_ Try.func81 (by kernel_rfl) rfl #[.agg #[.int .i64 ((rd_T34 l0 x5_1).f0), .int .i64 ((rd_T34 l0 x5_1).f1), .int .i64 ((rd_T34 l0 x5_1).f2)], .agg #[.int .i64 ((rd_T34 l1 x5_1).f0), .int .i64 ((rd_T34 l1 x5_1).f1), .int .i64 ((rd_T34 l1 x5_1).f2)]] (by rfl) rfl rfl z8_13 ?_
        with_reducible refine (laws_eqMessage.calls ((rd_T34 l0 x5_1).f0) ((rd_T34 l0 x5_1).f1) ((rd_T34 l0 x5_1).f2) ((rd_T34 l1 x5_1).f0) ((rd_T34 l1 x5_1).f1) ((rd_T34 l1 x5_1).f2) false _ A7.out).mono ?_
        rintro e w12 ⟨rfl, hb⟩
        refine ⟨_, rfl, ?_⟩
        have n0_ := Aside0.mk (below_step z8_2 hb)
        clear HB
        have HB := n0_
        clear n0_
        (try clear hb)
        (try clear hb2)
        (try clear hk)
        (try clear hi)
        refine hK.out _ _ ⟨((HB.out.cell (World.block_lt_of_cell? w _ hw228_0)).trans hw228_0), ((HB.out.cell (World.block_lt_of_cell? w _ hw228_1)).trans hw228_1), ((HB.out.cell (World.block_lt_of_cell? w _ hw228_2)).trans hw228_2), ((HB.out.cell (World.block_lt_of_cell? w _ hw229_0)).trans hw229_0), ((HB.out.cell (World.block_lt_of_cell? w _ hw229_1)).trans hw229_1), ((HB.out.cell (World.block_lt_of_cell? w _ hw229_2)).trans hw229_2)⟩ (fun hHeld => ?_)
        clear hK K
        refine norm_ (a' := ?_) ?_ ?_
        rotate_left
        ·show Act.put _ (some 25) _ = _
         simp only [Act.put, List.setIfInBounds_toArray, List.set_cons_zero, List.set_cons_succ, i64_w, i32_w]
         rfl
        refine pure_ (i := 9) (N := some 26) (v := ?_) (a' := ?_) (bm 10 1023) rfl rfl (any_of HT_.out (by kernel_rfl)) (fun _ _ _ h => h) (Or.inl ⟨by rfl, ?_⟩) ?_ ?_
        rotate_left
        ·intro w'
         go_simp
         with_reducible rfl
        rotate_left
        ·simp only [Act.put, List.setIfInBounds_toArray, List.set_cons_zero, List.set_cons_succ, i64_w, i32_w]
         rfl
        refine done_ (done_of HT_.out (by kernel_rfl)) ?_
        try go_wp2
        go_ret
        exact ⟨z8_15, z8_2⟩
      ·rw [if_neg c6] at H
       exact absurd H (by simp)
     ·rw [if_neg c5] at H
      exact absurd H (by simp)
    ·rw [if_neg c4] at H
     have c4b0 : decide (x5_1 < (l0.length : Int)) = false := decide_eq_false c4
     clear c4
     obtain rfl := Option.some.inj H
     go_wp2
     go_ret
     exact ⟨z8_15, z8_2⟩
 ·rw [if_neg c3] at H
  have c3b0 : ((l0.length : Int) == (l1.length : Int)) = false := beq_eq_false_iff_ne.mpr c3
  have c3b1 : ((l0.length : Int) != (l1.length : Int)) = true := bne_iff_ne.mpr c3
  have c3b2 : (l0.length == l1.length) = false := by first | simpa using c3 | (simp at c3 ⊢; omega)
  obtain rfl := Option.some.inj H
  go_enter Try.func35, Try.ntmps35
  go_wp2
  go_ret
  exact ⟨z8_15, z8_2⟩

end Go.Proofs.Ytgdcnlmhdbdijaa.PFnExactCombineMessages
