/- Laid by a program of this session out of the translation: functions, their contracts, the row. Lean checks it. -/
import Derived.Test.YtgdcnlmhdbdijaaPFnExactCombineMessagesx0
import Derived.Test.YtgdcnlmhdbdijaaPFnExactCombineMessagesx1
import Derived.Test.YtgdcnlmhdbdijaaPFnExactCombineMessagesx2
import Derived.Test.YtgdcnlmhdbdijaaPFnExactCombineMessagesx3
namespace Go.Proofs.Ytgdcnlmhdbdijaa.PFnExactCombineMessages
open Go.RowKit Go.Proofs.YtgdcnlmhdbdijaaW.PrintWords Go.Proofs.YtgdcnlmhdbdijaaW.PrintLast Go.Proofs.YtgdcnlmhdbdijaaW.PrintMore
theorem z4_0 {p : Prop} (h : p := by first | (go_simp; done) | (go_simp; rfl)) : p := h
theorem z4_1 {p : Prop} (h : p := by repeat (first | (with_reducible first | exact HB.out | apply below_alloc | apply pw_below_drewN | apply below_drew1 | refine below_set ?_ GE156.out) | exact HB.out)) : p := h
theorem z4_2 {p : Prop} (h : p := by (with_reducible repeat (first | refine blk_drewN ?_ _ | refine blk_drew ?_ | refine blk_alloc ?_ _)); exact BK156.out) : p := h
theorem z4_3 {p : Prop} (h : p := by (with_reducible repeat (first | apply Kd.R_alloc | apply Kd.R_drewN | apply Kd.R_drew)); exact HO_5.out) : p := h
theorem z4_4 {p : Prop} (h : p := by (with_reducible repeat (first | apply Kd.R_alloc | apply Kd.R_drewN | apply Kd.R_drew)); exact HO_6.out) : p := h
theorem z4_5 {p : Prop} (h : p := by first | (with_reducible assumption) | assumption) : p := h
theorem z4_6 {p : Prop} (h : p := by (with_reducible repeat (first | apply Kd.R_alloc | apply Kd.R_drewN | apply Kd.R_drew)); exact Kd.R_mono HO_6.out (fun _ hk => ⟨trivial, by first | exact hk | exact fun e => hk (e.trans (by kernel_rfl))⟩)) : p := h
theorem z4_7 {p : Prop} (h : p := by (try simp only [List.map_toArray, List.map_cons, List.map_nil]); first | done | rfl | (simp only [List.length_drop, List.length_take]; rfl)) : p := h
theorem z4_8 {p : Prop} (h : p := by repeat (first | (with_reducible first | exact HB.out | apply below_alloc | apply pw_below_drewN | apply below_drew1) | exact HB.out)) : p := h
theorem z4_9 {p : Prop} (h : p := by (with_reducible repeat (first | apply Kd.R_alloc | apply Kd.R_drewN | apply Kd.R_drew)); exact Kd.R_mono HO_6.out (fun _ hk => hk.2)) : p := h
theorem z4_10 {p : Prop} (h : p := by first | rfl | (simp; done) | (simp [*]; done)) : p := h
theorem z4_11 {p : Prop} (h : p := by have := HK1.out; have := HJ7.out; omega) : p := h
theorem z4_12 {p : Prop} (h : p := by (with_reducible repeat (first | apply Kd.R_alloc | apply Kd.R_drewN | apply Kd.R_drew)); exact HO159.out) : p := h
attribute [local go_sem] max2_int min2_int max_two min_two max_three min_three max_four min_four   -- for this text's walks alone
set_option linter.unusedVariables false
set_option linter.unusedSimpArgs false

/-! ### spec_CombineMessages: function 31 -/
mutual
def spec_CombineMessages.l0 : Nat → List (S34) → List (S34) → Int → Int → Int → Int → Option ((List (S34)))
 | 0, _, _, _, _, _, _ => none
 | k + 1, x5, x6, x7, x157000, x157001, x157002 => if x7 < (x6.length : Int) then ((spec_ProgramValid.f k x157000 x157001 x157002).bind fun t163 => (spec_CombineMessages.j1 k x5 x6 x7 t163 x157000 x157001 x157002)) else (spec_CombineMessages.j1 k x5 x6 x7 false x157000 x157001 x157002)
def spec_CombineMessages.j1 : Nat → List (S34) → List (S34) → Int → Bool → Int → Int → Int → Option ((List (S34)))
 | 0, _, _, _, _, _, _, _ => none
 | k + 1, x5, x6, x7, x19, x157000, x157001, x157002 => if x19 = true then (if (wrap64 ((x5.length : Int) - 1)) < 0 then (if 0 ≤ x7 then (if x7 < (x6.length : Int) then (if x5.length < 5864062014805 then (spec_CombineMessages.l0 k (x5 ++ [(⟨(rd_T34 x6 x7).f0, (rd_T34 x6 x7).f1, (rd_T34 x6 x7).f2⟩ : S34)]) x6 (wrap64 (x7 + 1)) x157000 x157001 x157002) else (none)) else (none)) else (none)) else (if 0 ≤ (wrap64 ((x5.length : Int) - 1)) then (if (wrap64 ((x5.length : Int) - 1)) < (x5.length : Int) then (if 0 ≤ x7 then (if x7 < (x6.length : Int) then (if ((rd_T34 x5 (wrap64 ((x5.length : Int) - 1))).f0) = ((rd_T34 x6 x7).f0) then ((spec_CanCombine.f k x157000 x157001 x157002).bind fun t170 => (if t170 = true then (spec_CombineMessages.l0 k x5 x6 (wrap64 (x7 + 1)) x157000 x157001 x157002) else (if x5.length < 5864062014805 then (spec_CombineMessages.l0 k (x5 ++ [(⟨(rd_T34 x6 x7).f0, (rd_T34 x6 x7).f1, (rd_T34 x6 x7).f2⟩ : S34)]) x6 (wrap64 (x7 + 1)) x157000 x157001 x157002) else (none)))) else (if x5.length < 5864062014805 then (spec_CombineMessages.l0 k (x5 ++ [(⟨(rd_T34 x6 x7).f0, (rd_T34 x6 x7).f1, (rd_T34 x6 x7).f2⟩ : S34)]) x6 (wrap64 (x7 + 1)) x157000 x157001 x157002) else (none))) else (none)) else (none)) else (none)) else (none))) else (some x5)
end
def spec_CombineMessages.f (k : Nat) (a0_0 : Int) (a0_1 : Int) (a0_2 : Int) (l1 : List (S34)) : Option ((List (S34))) := (spec_SortMessages.f k l1).bind fun t160 => (spec_CombineMessages.l0 k (([] : List (S34))) t160 0 a0_0 a0_1 a0_2)
theorem spec_CombineMessages.mono_l : ∀ k, (∀ y0 y1 y2 y3 y4 y5, LeO (spec_CombineMessages.l0 k y0 y1 y2 y3 y4 y5) (spec_CombineMessages.l0 (k + 1) y0 y1 y2 y3 y4 y5)) ∧ (∀ y0 y1 y2 y3 y4 y5 y6, LeO (spec_CombineMessages.j1 k y0 y1 y2 y3 y4 y5 y6) (spec_CombineMessages.j1 (k + 1) y0 y1 y2 y3 y4 y5 y6))
 | 0 => ⟨fun _ _ _ _ _ _ r h => by simp [spec_CombineMessages.l0] at h, fun _ _ _ _ _ _ _ r h => by simp [spec_CombineMessages.j1] at h⟩
 | k + 1 => by
  obtain ⟨ih0, ih1⟩ := spec_CombineMessages.mono_l k
  refine ⟨?_, ?_⟩
  ·intro y0 y1 y2 y3 y4 y5
   unfold spec_CombineMessages.l0
   repeat' first
   | (with_reducible exact ih0 _ _ _ _ _ _)
   | (with_reducible exact ih1 _ _ _ _ _ _ _)
   | (with_reducible exact spec_CanCombine.mono _ _ _ _)
   | (with_reducible exact spec_ProgramValid.mono _ _ _ _)
   | (with_reducible exact spec_SortMessages.mono _ _)
   | (with_reducible exact LeO.refl _)
   | (with_reducible exact LeO.none _)
   | (with_reducible refine LeO.ite ?_ ?_)
   | (with_reducible refine LeO.bind ?_ (fun _ => ?_))
   | exact ih0 _ _ _ _ _ _
   | exact ih1 _ _ _ _ _ _ _
   | exact spec_CanCombine.mono _ _ _ _
   | exact spec_ProgramValid.mono _ _ _ _
   | exact spec_SortMessages.mono _ _
   | exact LeO.none _
   | refine LeO.ite ?_ ?_
   | refine LeO.bind ?_ (fun _ => ?_)
  ·intro y0 y1 y2 y3 y4 y5 y6
   unfold spec_CombineMessages.j1
   repeat' first
   | (with_reducible exact ih0 _ _ _ _ _ _)
   | (with_reducible exact ih1 _ _ _ _ _ _ _)
   | (with_reducible exact spec_CanCombine.mono _ _ _ _)
   | (with_reducible exact spec_ProgramValid.mono _ _ _ _)
   | (with_reducible exact spec_SortMessages.mono _ _)
   | (with_reducible exact LeO.refl _)
   | (with_reducible exact LeO.none _)
   | (with_reducible refine LeO.ite ?_ ?_)
   | (with_reducible refine LeO.bind ?_ (fun _ => ?_))
   | exact ih0 _ _ _ _ _ _
   | exact ih1 _ _ _ _ _ _ _
   | exact spec_CanCombine.mono _ _ _ _
   | exact spec_ProgramValid.mono _ _ _ _
   | exact spec_SortMessages.mono _ _
   | exact LeO.none _
   | refine LeO.ite ?_ ?_
   | refine LeO.bind ?_ (fun _ => ?_)
theorem spec_CombineMessages.mono : ∀ a0 a1 a2 a3 k, LeO (spec_CombineMessages.f k a0 a1 a2 a3) (spec_CombineMessages.f (k + 1) a0 a1 a2 a3) := by
 intro a0 a1 a2 a3 k
 obtain ⟨ih0, ih1⟩ := spec_CombineMessages.mono_l k
 unfold spec_CombineMessages.f
 repeat' first
   | (with_reducible exact ih0 _ _ _ _ _ _)
   | (with_reducible exact ih1 _ _ _ _ _ _ _)
   | (with_reducible exact spec_CanCombine.mono _ _ _ _)
   | (with_reducible exact spec_ProgramValid.mono _ _ _ _)
   | (with_reducible exact spec_SortMessages.mono _ _)
   | (with_reducible exact LeO.refl _)
   | (with_reducible exact LeO.none _)
   | (with_reducible refine LeO.ite ?_ ?_)
   | (with_reducible refine LeO.bind ?_ (fun _ => ?_))
   | exact ih0 _ _ _ _ _ _
   | exact ih1 _ _ _ _ _ _ _
   | exact spec_CanCombine.mono _ _ _ _
   | exact spec_ProgramValid.mono _ _ _ _
   | exact spec_SortMessages.mono _ _
   | exact LeO.none _
   | refine LeO.ite ?_ ?_
   | refine LeO.bind ?_ (fun _ => ?_)
def spec_CombineMessages.T7 : Bool × List (List Nat × List Nat) := (true, [([], []), ([0], [0]), ([1], [1]), ([2], [2]), ([2], [2]), ([3, 4, 2], [2, 3, 4]), ([5, 2], [2, 5]), ([6, 2], [2, 6]), ([2], [2]), ([2], [2]), ([8, 9, 2], [2, 8, 9]), ([10, 2], [2, 10]), ([11, 2], [2, 11]), ([7, 12, 2], [2, 7, 12]), ([2, 13], [2, 13]), ([14, 2], [14]), ([15], [15]), ([16, 15, 15], [15, 16]), ([17, 15], [15, 17]), ([15, 18], [15, 18])])
def spec_CombineMessages.B7 : List Nat := [0, 1, 3, 7, 7, 31, 63, 127, 7, 7, 775, 1799, 3847, 8191, 16383, 32767, 65535, 131071, 262143, 524287]
theorem spec_CombineMessages.tab7 : rtab .any (opsOf Try.f31 7) = spec_CombineMessages.T7 := by kernel_rfl
theorem spec_CombineMessages.bits7 : waitsOk spec_CombineMessages.T7.2 spec_CombineMessages.B7 = true := by kernel_rfl
set_option maxHeartbeats 8000000 in
set_option maxRecDepth 100000 in
theorem spec_CombineMessages.calls (k : Nat) (a0_0 : Int) (a0_1 : Int) (a0_2 : Int) (A1 : Option Addr) (c1 : Nat) (l1 : List (S34)) (r : List (S34)) (w : World) (hr1 : Kd.C k34 w A1 l1.length l1) (hc1 : l1.length ≤ c1) (h : spec_CombineMessages.f k a0_0 a0_1 a0_2 l1 = some r) :
  Calls Try.prog 31 #[.agg #[.int .i64 a0_0, .int .i64 a0_1, .int .i64 a0_2], .slice A1 l1.length c1] w fun e w' => ∃ v0_ : Value, e = .returned (v0_) ∧ Kd.R k34 34 w' w.heap.size (fun _ => True) v0_ r ∧ Below w.heap.size w w' := by
 have hu47 := Try.underlying47
 have hu34 := Try.underlying34
 have HR1 := Aside0.mk hr1
 have HC1 := Aside0.mk hc1
 clear hr1 hc1
 have HB := Aside0.mk (Below.refl w.heap.size w)
 have H : ((spec_SortMessages.f k l1).bind fun t160 => (spec_CombineMessages.l0 k (([] : List (S34))) t160 0 a0_0 a0_1 a0_2)) = some r := h
 clear h
 obtain ⟨y157, hy157⟩ : ∃ y_ : List (S34), y_ = (([] : List (S34))) := ⟨_, rfl⟩
 replace H : ((spec_SortMessages.f k l1).bind fun t160 => (spec_CombineMessages.l0 k y157 t160 0 a0_0 a0_1 a0_2)) = some r := by first | (rw [hy157]; with_reducible exact H) | (have H2_ := (Option.bind_some _ _).symm.trans H; rw [hy157]; with_reducible exact H2_) | (have H2_ := (Option.bind_some _ _).symm.trans H; with_reducible exact H2_) | with_reducible exact H | (rw [hy157]; exact H) | exact H
 have Ny157 := Aside0.mk hy157
 clear hy157
 replace H := Option.bind_eq_some_iff.mp H
 obtain ⟨t160, A30, H⟩ := H
 replace H : (spec_CombineMessages.l0 k y157 t160 0 a0_0 a0_1 a0_2) = some r := H
 have A3 := Aside0.mk A30
 clear A30
 have H' := Aside0.mk H
 clear H
 go_enter Try.func31, Try.ntmps31
 go_wp2_with (first | ((with_reducible refine gate_dst (N := 2) rfl ?_); refine box_event ?hg (N := 2) ?hd (cs := #[.int .i64 a0_0, .int .i64 a0_1, .int .i64 a0_2]) (t := 47) ?hr ?_; (case hd => rfl); (case hg => rfl); (case hr => exact z4_0); intro gb156 hg w4 hbox hb; have n0_ := Aside0.mk (below_step z4_8 hb); have n1_ := Aside0.mk (hbox); have n2_ := Aside0.mk ((by rw [hg]; exact (below_size z4_8) : w.heap.size ≤ gb156)); have n3_ := Aside0.mk ((by rw [hg]; exact (below_size z4_8) : w.heap.size ≤ gb156)); clear HB; have HB := n0_; have BK156 := n1_; have GW156 := n2_; have GE156 := n3_; clear n0_ n1_ n2_ n3_; clear hb hbox hg) | ((with_reducible refine gate_dst (N := 9) rfl ?_); refine Kd.R_lit k34 _ 34 ?hg (N := 9) ?hd (xs := ([] : List (S34))) (inner := []) (ok := fun _ => True) (okp := fun _ => True) ?hr ?hp (fun _ hk => hk) trivial (Below.refl _ _) (Nat.le_refl _) (by simp) ?_; (case hd => rfl); (case hg => rfl); (case hr => exact z4_0); (case hp => exact (Reps.none _ _)); intro v158 w5 ho6 hb hg_ hnew_; clear hg_ hnew_; (first | rw [← Ny157.out] at ho6 | (simp only [Int.reduceToNat] at ho6; rw [← Ny157.out] at ho6)); have n0_ := Aside0.mk (Kd.R_lower ho6 (below_size z4_1)); have n1_ := Aside0.mk (blk_below (g := gb156) (o := .cells #[.int .i64 a0_0, .int .i64 a0_1, .int .i64 a0_2] 47 (0, 0)) z4_2 hb); have n2_ := Aside0.mk (below_step z4_1 hb); clear BK156; clear HB; have HO159 := n0_; have BK156 := n1_; have HB := n2_; clear n0_ n1_ n2_; clear hb ho6) | ((with_reducible refine gate_callee (f := 73) rfl ?_); refine goesL_ (some 11) rfl rfl Try.func73 (by kernel_rfl) rfl #[.slice A1 l1.length c1] rfl z4_7 ?_; (with_reducible refine (spec_SortMessages.calls k _ _ l1 t160 _ ?side1 ?side2 A3.out).mono ?_); (case side1 => repeat (first | exact (Kd.C_below HR1.out HB.out) | (with_reducible refine Kd.C_alloc ?_ _) | (with_reducible refine Kd.C_drewN ?_ _) | (with_reducible refine Kd.C_drew ?_))); (case side2 => exact HC1.out); rintro e w7 ⟨v161, rfl, ho0, hb⟩; refine ⟨_, rfl, ?_⟩; have n0_ := Aside0.mk (Kd.R_elder' z4_12 (Kd.R_base ho0) hb); have n1_ := Aside0.mk (Kd.R_lower (Kd.R_new' ho0 (Kd.R_lt z4_12)) (below_size z4_1)); have n2_ := Aside0.mk (blk_below (g := gb156) (o := .cells #[.int .i64 a0_0, .int .i64 a0_1, .int .i64 a0_2] 47 (0, 0)) z4_2 hb); have n3_ := Aside0.mk (below_step z4_1 hb); clear HO159; clear BK156; clear HB; have HO159 := n0_; have HO162 := n1_; have BK156 := n2_; have HB := n3_; clear n0_ n1_ n2_ n3_; (try clear hb); (try clear hb2); (try clear hk); (try clear hi); (try clear ho0)))
 go_loopg [5, 7] k (fun kq v5 v7 w' => ∃ (x5_1 : List (S34)) (x7_1 : Int), v7 = .int .i64 x7_1 ∧ Aside0 (spec_CombineMessages.l0 kq x5_1 t160 x7_1 a0_0 a0_1 a0_2 = some r) ∧ Aside0 (kq ≤ k) ∧ Aside0 (Kd.R k34 34 w' w.heap.size (fun k_ => some k_ ≠ (v161 : Value).ownBlock) v5 x5_1) ∧ Aside0 (Kd.R k34 34 w' w.heap.size (fun k_ => some k_ ≠ (v5 : Value).ownBlock) v161 t160) ∧ Aside0 (w'.heap[gb156]? = some (.cells #[.int .i64 a0_0, .int .i64 a0_1, .int .i64 a0_2] 47 (0, 0))) ∧ Aside0 (Below w.heap.size w w'))
 case atStart => exact ⟨(y157), (0), z4_10, H', ⟨Nat.le_refl _⟩, ⟨by (with_reducible repeat (first | apply Kd.R_alloc | apply Kd.R_drewN | apply Kd.R_drew)); exact Kd.R_mono HO159.out (fun _ hk => hk.2)⟩, ⟨by (with_reducible repeat (first | apply Kd.R_alloc | apply Kd.R_drewN | apply Kd.R_drew)); exact Kd.R_mono HO162.out (fun _ hk => hk.2)⟩, ⟨z4_2⟩, ⟨z4_1⟩⟩
 case round =>
  clear H'
  try clear c1
  try clear p2
  try clear c3
  try clear c7
  obtain ⟨x5_1, x7_1, rfl, HA, HK1, HO_5, HO_6, BK156, HB⟩ := hrel
  cases gk with
  | zero => exact absurd HA.out (by simp [spec_CombineMessages.l0])
  | succ k1 =>
   have H := HA.out
   clear HA
   simp only [spec_CombineMessages.l0] at H
   have HC8 := Aside0.mk H
   clear H
   go_upto_region 4 with (fail)
   go_cut [19] (fun v19 wc => ∃ (kq : Nat) (x19_7 : Bool), v19 = .bool x19_7 ∧ Aside0 (spec_CombineMessages.j1 kq x5_1 t160 x7_1 x19_7 a0_0 a0_1 a0_2 = some r) ∧ Aside0 (kq ≤ k1) ∧ Aside0 (Kd.R k34 34 wc w.heap.size (fun k_ => some k_ ≠ (v161 : Value).ownBlock) u5 x5_1) ∧ Aside0 (Kd.R k34 34 wc w.heap.size (fun k_ => some k_ ≠ (u5 : Value).ownBlock) v161 t160) ∧ Aside0 (wc.heap[gb156]? = some (.cells #[.int .i64 a0_0, .int .i64 a0_1, .int .i64 a0_2] 47 (0, 0))) ∧ Aside0 (Below w.heap.size w wc))
   case first =>
    have H := HC8.out
    clear HC8
    by_cases c9 : x7_1 < (t160.length : Int)
    ·rw [if_pos c9] at H
     have c9b0 : decide (x7_1 < (t160.length : Int)) = true := decide_eq_true c9
     clear c9
     (first | rw [c9b0] | (simp only [i64_w, i32_w]; rw [c9b0]) | skip)
     replace H := Option.bind_eq_some_iff.mp H
     obtain ⟨t163, A100, H⟩ := H
     replace H : (spec_CombineMessages.j1 k1 x5_1 t160 x7_1 t163 a0_0 a0_1 a0_2) = some r := H
     have A10 := Aside0.mk A100
     clear A100
     have H' := Aside0.mk H
     clear H
     obtain ⟨Ao11, co11, eo11⟩ := Kd.R_slice HO_6.out
     subst eo11
     have hcz12_0 : wr.cell? ⟨gb156, 0, none⟩ = some (.int .i64 a0_0) := (blk_cell BK156.out 0).trans rfl
     have hcz12_1 : wr.cell? ⟨gb156, 1, none⟩ = some (.int .i64 a0_1) := (blk_cell BK156.out 1).trans rfl
     have hcz12_2 : wr.cell? ⟨gb156, 2, none⟩ = some (.int .i64 a0_2) := (blk_cell BK156.out 2).trans rfl
     have hfz12_0 := blk_frozen BK156.out 0
     have hfz12_1 := blk_frozen BK156.out 1
     have hfz12_2 := blk_frozen BK156.out 2
     go_wp2_with (first | (go_at_call 43; (with_reducible refine (spec_ProgramValid.calls k1 a0_0 a0_1 a0_2 t163 _ A10.out).mono ?_); rintro e w13 ⟨rfl, hb⟩; have n0_ := Aside0.mk (Kd.R_below z4_3 hb); have n1_ := Aside0.mk (Kd.R_below z4_4 hb); have n2_ := Aside0.mk (blk_below (g := gb156) (o := .cells #[.int .i64 a0_0, .int .i64 a0_1, .int .i64 a0_2] 47 (0, 0)) z4_2 hb); have n3_ := Aside0.mk (below_step z4_1 hb); clear HO_5; clear HO_6; clear BK156; clear HB; have HO_5 := n0_; have HO_6 := n1_; have BK156 := n2_; have HB := n3_; clear n0_ n1_ n2_ n3_; (try clear hb); (try clear hb2); (try clear hk); (try clear hi)))
     go_meet
     case rel => exact ⟨_, (t163), z4_10, H', ⟨by have := HK1.out; first | omega | exact Nat.le_refl _⟩, ⟨z4_3⟩, ⟨z4_4⟩, ⟨z4_2⟩, ⟨z4_1⟩⟩
    ·rw [if_neg c9] at H
     have c9b0 : decide (x7_1 < (t160.length : Int)) = false := decide_eq_false c9
     clear c9
     (first | rw [c9b0] | (simp only [i64_w, i32_w]; rw [c9b0]) | skip)
     have H' := Aside0.mk H
     clear H
     obtain ⟨Ao14, co14, eo14⟩ := Kd.R_slice HO_6.out
     subst eo14
     go_wp2
     go_meet
     case rel => exact ⟨_, (false), z4_10, H', ⟨by have := HK1.out; first | omega | exact Nat.le_refl _⟩, ⟨z4_3⟩, ⟨z4_4⟩, ⟨z4_2⟩, ⟨z4_1⟩⟩
   case rest =>
    clear HC8
    try clear c1
    try clear p2
    try clear c3
    try clear c7
    try clear c9
    try clear c9b0
    try clear hcz12_0
    try clear hcz12_1
    try clear hcz12_2
    try clear hfz12_0
    try clear hfz12_1
    try clear hfz12_2
    try clear p2
    obtain ⟨kq, x19_7, rfl, HA, HJ7, HO_5, HO_6, BK156, HB⟩ := hcut
    cases kq with
    | zero => exact absurd HA.out (by simp [spec_CombineMessages.j1])
    | succ kj7 =>
     have H := HA.out
     clear HA
     simp only [spec_CombineMessages.j1] at H
     by_cases c15 : x19_7 = true
     ·subst c15
      have H1 : (if (wrap64 ((x5_1.length : Int) - 1)) < 0 then (if 0 ≤ x7_1 then (if x7_1 < (t160.length : Int) then (if x5_1.length < 5864062014805 then (spec_CombineMessages.l0 kj7 (x5_1 ++ [(⟨(rd_T34 t160 x7_1).f0, (rd_T34 t160 x7_1).f1, (rd_T34 t160 x7_1).f2⟩ : S34)]) t160 (wrap64 (x7_1 + 1)) a0_0 a0_1 a0_2) else (none)) else (none)) else (none)) else (if 0 ≤ (wrap64 ((x5_1.length : Int) - 1)) then (if (wrap64 ((x5_1.length : Int) - 1)) < (x5_1.length : Int) then (if 0 ≤ x7_1 then (if x7_1 < (t160.length : Int) then (if ((rd_T34 x5_1 (wrap64 ((x5_1.length : Int) - 1))).f0) = ((rd_T34 t160 x7_1).f0) then ((spec_CanCombine.f kj7 a0_0 a0_1 a0_2).bind fun t170 => (if t170 = true then (spec_CombineMessages.l0 kj7 x5_1 t160 (wrap64 (x7_1 + 1)) a0_0 a0_1 a0_2) else (if x5_1.length < 5864062014805 then (spec_CombineMessages.l0 kj7 (x5_1 ++ [(⟨(rd_T34 t160 x7_1).f0, (rd_T34 t160 x7_1).f1, (rd_T34 t160 x7_1).f2⟩ : S34)]) t160 (wrap64 (x7_1 + 1)) a0_0 a0_1 a0_2) else (none)))) else (if x5_1.length < 5864062014805 then (spec_CombineMessages.l0 kj7 (x5_1 ++ [(⟨(rd_T34 t160 x7_1).f0, (rd_T34 t160 x7_1).f1, (rd_T34 t160 x7_1).f2⟩ : S34)]) t160 (wrap64 (x7_1 + 1)) a0_0 a0_1 a0_2) else (none))) else (none)) else (none)) else (none)) else (none))) = some r := by rw [if_pos rfl] at H; exact H
      clear H
      have H := H1
      clear H1
      by_cases c16 : (wrap64 ((x5_1.length : Int) - 1)) < 0
      ·rw [if_pos c16] at H
       have c16b0 : decide ((wrap64 ((x5_1.length : Int) - 1)) < 0) = true := decide_eq_true c16
       clear c16
       by_cases c17 : 0 ≤ x7_1
       ·rw [if_pos c17] at H
        have c17b0 : decide (0 ≤ x7_1) = true := decide_eq_true c17
        clear c17
        by_cases c18 : x7_1 < (t160.length : Int)
        ·rw [if_pos c18] at H
         have c18b0 : decide (x7_1 < (t160.length : Int)) = true := decide_eq_true c18
         clear c18
         by_cases c19 : x5_1.length < 5864062014805
         ·rw [if_pos c19] at H
          have LMc19 := Aside0.mk c19
          clear c19
          obtain ⟨y165, hy165⟩ : ∃ y_ : List (S34), y_ = (x5_1 ++ [(⟨(rd_T34 t160 x7_1).f0, (rd_T34 t160 x7_1).f1, (rd_T34 t160 x7_1).f2⟩ : S34)]) := ⟨_, rfl⟩
          replace H : (spec_CombineMessages.l0 kj7 y165 t160 (wrap64 (x7_1 + 1)) a0_0 a0_1 a0_2) = some r := by first | (rw [hy165]; with_reducible exact H) | (have H2_ := (Option.bind_some _ _).symm.trans H; rw [hy165]; with_reducible exact H2_) | (have H2_ := (Option.bind_some _ _).symm.trans H; with_reducible exact H2_) | with_reducible exact H | (rw [hy165]; exact H) | exact H
          have Ny165 := Aside0.mk hy165
          clear hy165
          have H' := Aside0.mk H
          clear H
          obtain ⟨Ao20, co20, eo20⟩ := Kd.R_slice HO_5.out
          subst eo20
          try go_wp2
          have n0_ := Aside0.mk (Kd.R_drew HO_5.out)
          have n1_ := Aside0.mk (Kd.R_drew HO_6.out)
          have n2_ := Aside0.mk (blk_drew BK156.out)
          have n3_ := Aside0.mk (below_drew1 HB.out)
          clear HO_5
          clear HO_6
          clear BK156
          clear HB
          have HO_5 := n0_
          have HO_6 := n1_
          have BK156 := n2_
          have HB := n3_
          clear n0_ n1_ n2_ n3_
          refine start_ (n := 20) (S := fun w' => True) (ds := []) (bm 20 0) (by kernel_rfl) rfl rfl trivial (fun hHeld => ?_); refine with_tabW spec_CombineMessages.tab7 spec_CombineMessages.bits7 (fun HT_ HW_ => ?_)
          generalize wc.drew = w21 at HO_5 HO_6 BK156 HB hHeld ⊢
          refine pure_ (i := 0) (N := some 25) (v := ?_) (a' := ?_) (bm 20 1) rfl rfl (any_of HT_.out (by kernel_rfl)) (fun _ _ _ h => h) (Or.inl ⟨by rfl, ?_⟩) ?_ ?_
          rotate_left
          ·intro w'
           go_simp
           with_reducible rfl
          rotate_left
          ·simp only [Act.put, List.setIfInBounds_toArray, List.set_cons_zero, List.set_cons_succ, i64_w, i32_w]
           rfl
          refine pure_ (i := 1) (N := some 26) (v := ?_) (a' := ?_) (bm 20 3) rfl rfl (any_of HT_.out (by kernel_rfl)) (fun _ _ _ h => h) (Or.inl ⟨by rfl, ?_⟩) ?_ ?_
          rotate_left
          ·intro w'
           go_simp
           with_reducible rfl
          rotate_left
          ·simp only [Act.put, List.setIfInBounds_toArray, List.set_cons_zero, List.set_cons_succ, i64_w, i32_w]
           rfl
          refine pure_ (i := 2) (N := some 27) (v := ?_) (a' := ?_) (bm 20 7) rfl rfl (any_of HT_.out (by kernel_rfl)) (fun _ _ _ h => h) (Or.inl ⟨by rfl, ?_⟩) ?_ ?_
          rotate_left
          ·intro w'
           go_simp
           with_reducible rfl
          rotate_left
          ·simp only [Act.put, List.setIfInBounds_toArray, List.set_cons_zero, List.set_cons_succ, i64_w, i32_w]
           rfl
          refine pure_ (i := 3) (N := some 28) (v := undef) (a' := ?_) (bm 20 15) rfl rfl (any_of HT_.out (by kernel_rfl)) (fun _ _ _ h => h) (Or.inr ⟨by rfl, rfl⟩) ?_ ?_
          rotate_left
          ·simp only [Act.put, List.setIfInBounds_toArray, List.set_cons_zero, List.set_cons_succ, i64_w, i32_w]
           rfl
          refine pure_ (i := 4) (N := some 29) (v := undef) (a' := ?_) (bm 20 31) rfl rfl (any_of HT_.out (by kernel_rfl)) (fun _ _ _ h => h) (Or.inr ⟨by rfl, rfl⟩) ?_ ?_
          rotate_left
          ·simp only [Act.put, List.setIfInBounds_toArray, List.set_cons_zero, List.set_cons_succ, i64_w, i32_w]
           rfl
          refine pure_ (i := 5) (N := some 30) (v := undef) (a' := ?_) (bm 20 63) rfl rfl (any_of HT_.out (by kernel_rfl)) (fun _ _ _ h => h) (Or.inr ⟨by rfl, rfl⟩) ?_ ?_
          rotate_left
          ·simp only [Act.put, List.setIfInBounds_toArray, List.set_cons_zero, List.set_cons_succ, i64_w, i32_w]
           rfl
          refine pure_ (i := 6) (N := some 31) (v := undef) (a' := ?_) (bm 20 127) rfl rfl (any_of HT_.out (by kernel_rfl)) (fun _ _ _ h => h) (Or.inr ⟨by rfl, rfl⟩) ?_ ?_
          rotate_left
          ·simp only [Act.put, List.setIfInBounds_toArray, List.set_cons_zero, List.set_cons_succ, i64_w, i32_w]
           rfl
          refine pure_ (i := 7) (N := some 32) (v := undef) (a' := ?_) (bm 20 255) rfl rfl (any_of HT_.out (by kernel_rfl)) (fun _ _ _ h => h) (Or.inr ⟨by rfl, rfl⟩) ?_ ?_
          rotate_left
          ·simp only [Act.put, List.setIfInBounds_toArray, List.set_cons_zero, List.set_cons_succ, i64_w, i32_w]
           rfl
          refine pure_ (i := 8) (N := some 33) (v := undef) (a' := ?_) (bm 20 511) rfl rfl (any_of HT_.out (by kernel_rfl)) (fun _ _ _ h => h) (Or.inr ⟨by rfl, rfl⟩) ?_ ?_
          rotate_left
          ·simp only [Act.put, List.setIfInBounds_toArray, List.set_cons_zero, List.set_cons_succ, i64_w, i32_w]
           rfl
          refine pure_ (i := 9) (N := some 34) (v := undef) (a' := ?_) (bm 20 1023) rfl rfl (any_of HT_.out (by kernel_rfl)) (fun _ _ _ h => h) (Or.inr ⟨by rfl, rfl⟩) ?_ ?_
          rotate_left
          ·simp only [Act.put, List.setIfInBounds_toArray, List.set_cons_zero, List.set_cons_succ, i64_w, i32_w]
           rfl
          refine pure_ (i := 10) (N := some 35) (v := undef) (a' := ?_) (bm 20 2047) rfl rfl (any_of HT_.out (by kernel_rfl)) (fun _ _ _ h => h) (Or.inr ⟨by rfl, rfl⟩) ?_ ?_
          rotate_left
          ·simp only [Act.put, List.setIfInBounds_toArray, List.set_cons_zero, List.set_cons_succ, i64_w, i32_w]
           rfl
          refine pure_ (i := 11) (N := some 36) (v := undef) (a' := ?_) (bm 20 4095) rfl rfl (any_of HT_.out (by kernel_rfl)) (fun _ _ _ h => h) (Or.inr ⟨by rfl, rfl⟩) ?_ ?_
          rotate_left
          ·simp only [Act.put, List.setIfInBounds_toArray, List.set_cons_zero, List.set_cons_succ, i64_w, i32_w]
           rfl
          refine pure_ (i := 12) (N := some 37) (v := undef) (a' := ?_) (bm 20 8191) rfl rfl (any_of HT_.out (by kernel_rfl)) (fun _ _ _ h => h) (Or.inr ⟨by rfl, rfl⟩) ?_ ?_
          rotate_left
          ·simp only [Act.put, List.setIfInBounds_toArray, List.set_cons_zero, List.set_cons_succ, i64_w, i32_w]
           rfl
          refine pure_ (i := 13) (N := some 38) (v := undef) (a' := ?_) (bm 20 16383) rfl rfl (any_of HT_.out (by kernel_rfl)) (fun _ _ _ h => h) (Or.inr ⟨by rfl, rfl⟩) ?_ ?_
          rotate_left
          ·simp only [Act.put, List.setIfInBounds_toArray, List.set_cons_zero, List.set_cons_succ, i64_w, i32_w]
           rfl
          refine pure_ (i := 14) (N := some 39) (v := ?_) (a' := ?_) (bm 20 32767) rfl rfl (any_of HT_.out (by kernel_rfl)) (fun _ _ _ h => h) (Or.inl ⟨by rfl, ?_⟩) ?_ ?_
          rotate_left
          ·intro w'
           go_simp
           with_reducible rfl
          rotate_left
          ·simp only [Act.put, List.setIfInBounds_toArray, List.set_cons_zero, List.set_cons_succ, i64_w, i32_w]
           rfl
          refine pure_ (i := 15) (N := some 40) (v := ?_) (a' := ?_) (bm 20 65535) rfl rfl (any_of HT_.out (by kernel_rfl)) (fun _ _ _ h => h) (Or.inl ⟨by rfl, ?_⟩) ?_ ?_
          rotate_left
          ·intro w'
           go_simp
           with_reducible rfl
          rotate_left
          ·simp only [Act.put, List.setIfInBounds_toArray, List.set_cons_zero, List.set_cons_succ, i64_w, i32_w]
           rfl
          refine pure_ (i := 16) (N := some 41) (v := undef) (a' := ?_) (bm 20 131071) rfl rfl (any_of HT_.out (by kernel_rfl)) (fun _ _ _ h => h) (Or.inr ⟨by rfl, rfl⟩) ?_ ?_
          rotate_left
          ·simp only [Act.put, List.setIfInBounds_toArray, List.set_cons_zero, List.set_cons_succ, i64_w, i32_w]
           rfl
          refine pure_ (i := 17) (N := some 42) (v := undef) (a' := ?_) (bm 20 262143) rfl rfl (any_of HT_.out (by kernel_rfl)) (fun _ _ _ h => h) (Or.inr ⟨by rfl, rfl⟩) ?_ ?_
          rotate_left
          ·simp only [Act.put, List.setIfInBounds_toArray, List.set_cons_zero, List.set_cons_succ, i64_w, i32_w]
           rfl
          refine pure_ (i := 18) (N := some 43) (v := undef) (a' := ?_) (bm 20 524287) rfl rfl (any_of HT_.out (by kernel_rfl)) (fun _ _ _ h => h) (Or.inr ⟨by rfl, rfl⟩) ?_ ?_
          rotate_left
          ·simp only [Act.put, List.setIfInBounds_toArray, List.set_cons_zero, List.set_cons_succ, i64_w, i32_w]
           rfl
          refine pure_ (i := 19) (N := some 44) (v := ?_) (a' := ?_) (bm 20 1048575) rfl rfl (any_of HT_.out (by kernel_rfl)) (fun _ _ _ h => h) (Or.inl ⟨by rfl, ?_⟩) ?_ ?_
          rotate_left
          ·intro w'
           go_simp
           with_reducible rfl
          rotate_left
          ·simp only [Act.put, List.setIfInBounds_toArray, List.set_cons_zero, List.set_cons_succ, i64_w, i32_w]
           rfl
          refine done_ (done_of HT_.out (by kernel_rfl)) ?_
          obtain ⟨Ao22, co22, eo22⟩ := Kd.R_slice HO_6.out
          subst eo22
          have p164 : 0 ≤ (x7_1 : Int) := of_decide_eq_true z4_5
          have q164 : x7_1 < (t160.length : Int) := of_decide_eq_true z4_5
          obtain ⟨ad164, e164, hx164_0, hx164_1, hx164_2⟩ := at_T34 (Kd.R_reads' HO_6.out).2.2 x7_1 p164 q164
          cases e164
          replace p164 := eq_true p164
          replace q164 := eq_true q164
          try go_wp2_with (first | ((with_reducible refine gate_builtin (b := .append) (xs := #[.tmp 45, .tmp 50]) rfl ?_); at_builtin; refine Kd.R_append k34 (w0 := w) w.heap.size rfl (.tmp 45) (.tmp 50) 28 34 (.agg #[(.int .i64 0), (.int .i64 0), (.int .i64 0)]) 24 rfl Try.underlying28 info34 rfl (by decide) (by omega) (.slice Ao20 x5_1.length co20) x5_1 (⟨(rd_T34 t160 x7_1).f0, (rd_T34 t160 x7_1).f1, (rd_T34 t160 x7_1).f2⟩ : S34) [.int .i64 ((rd_T34 t160 x7_1).f0), .int .i64 ((rd_T34 t160 x7_1).f1), .int .i64 ((rd_T34 t160 x7_1).f2)] (fun k_ => some k_ ≠ (.slice (some ad164) t160.length co22 : Value).ownBlock) (fun _ => False) rfl rfl ?aP (fun _ hk => hk.elim) ?aF ?aO ?aB ?aS ?aL ?_; (case aP => exact k34_mkM _ _ _ (⟨(rd_T34 t160 x7_1).f0, (rd_T34 t160 x7_1).f1, (rd_T34 t160 x7_1).f2⟩ : S34)); (case aB => exact z4_1); (case aF => exact (fun k_ hk => Kd.fresh' (Kd.R_lt z4_4) k_ hk)); (case aO => exact z4_3); (case aS => exact (below_size z4_1)); (case aL => have := LMc19.out; omega); intro v166 w23 ho hb hg hat; rw [← Ny165.out] at ho; have n0_ := Aside0.mk (Kd.R_after (ok := (fun _ => True)) z4_6 hg hat); have n1_ := Aside0.mk (blk_grown (g := gb156) (o := .cells #[.int .i64 a0_0, .int .i64 a0_1, .int .i64 a0_2] 47 (0, 0)) z4_2 hg (Kd.R_ne HO_5.out BK156.out (by decide))); have n2_ := Aside0.mk (hb); have n3_ := Aside0.mk (ho); clear HO_6; clear BK156; clear HB; clear HO_5; have HO_6 := n0_; have BK156 := n1_; have HB := n2_; have HO167 := n3_; clear n0_ n1_ n2_ n3_; clear ho hb hg hat))
          go_roundg kj7
          case measure => have := HK1.out; have := HJ7.out; omega
          case rel => exact ⟨(y165), (wrap64 (x7_1 + 1)), z4_10, H', ⟨z4_11⟩, ⟨by (with_reducible repeat (first | apply Kd.R_alloc | apply Kd.R_drewN | apply Kd.R_drew)); exact HO167.out⟩, ⟨z4_9⟩, ⟨z4_2⟩, ⟨z4_1⟩⟩
         ·rw [if_neg c19] at H
          exact absurd H (by simp)
        ·rw [if_neg c18] at H
         exact absurd H (by simp)
       ·rw [if_neg c17] at H
        exact absurd H (by simp)
      ·rw [if_neg c16] at H
       have c16b0 : decide ((wrap64 ((x5_1.length : Int) - 1)) < 0) = false := decide_eq_false c16
       clear c16
       obtain ⟨ji24, hji24⟩ : ∃ j_ : Int, (wrap64 ((x5_1.length : Int) - 1)) = j_ := ⟨_, rfl⟩
       replace H : (if 0 ≤ (ji24) then (if (ji24) < (x5_1.length : Int) then (if 0 ≤ x7_1 then (if x7_1 < (t160.length : Int) then (if ((rd_T34 x5_1 (ji24)).f0) = ((rd_T34 t160 x7_1).f0) then ((spec_CanCombine.f kj7 a0_0 a0_1 a0_2).bind fun t170 => (if t170 = true then (spec_CombineMessages.l0 kj7 x5_1 t160 (wrap64 (x7_1 + 1)) a0_0 a0_1 a0_2) else (if x5_1.length < 5864062014805 then (spec_CombineMessages.l0 kj7 (x5_1 ++ [(⟨(rd_T34 t160 x7_1).f0, (rd_T34 t160 x7_1).f1, (rd_T34 t160 x7_1).f2⟩ : S34)]) t160 (wrap64 (x7_1 + 1)) a0_0 a0_1 a0_2) else (none)))) else (if x5_1.length < 5864062014805 then (spec_CombineMessages.l0 kj7 (x5_1 ++ [(⟨(rd_T34 t160 x7_1).f0, (rd_T34 t160 x7_1).f1, (rd_T34 t160 x7_1).f2⟩ : S34)]) t160 (wrap64 (x7_1 + 1)) a0_0 a0_1 a0_2) else (none))) else (none)) else (none)) else (none)) else (none)) = some r := by first | (rw [hji24] at H; exact H) | (simp only [hji24] at H ⊢; exact H)
       (try rw [hji24] at c16b0)
       have hji24w : (IntKind.i64.wrap ((x5_1.length : Int) - 1)) = ji24 := (i64_w _).trans hji24
       by_cases c25 : 0 ≤ (ji24)
       ·rw [if_pos c25] at H
        have c25b0 : decide (0 ≤ (ji24)) = true := decide_eq_true c25
        clear c25
        by_cases c26 : (ji24) < (x5_1.length : Int)
        ·rw [if_pos c26] at H
         have c26b0 : decide ((ji24) < (x5_1.length : Int)) = true := decide_eq_true c26
         clear c26
         by_cases c27 : 0 ≤ x7_1
         ·rw [if_pos c27] at H
          have c27b0 : decide (0 ≤ x7_1) = true := decide_eq_true c27
          clear c27
          by_cases c28 : x7_1 < (t160.length : Int)
          ·rw [if_pos c28] at H
           have c28b0 : decide (x7_1 < (t160.length : Int)) = true := decide_eq_true c28
           clear c28
           by_cases c29 : ((rd_T34 x5_1 (ji24)).f0) = ((rd_T34 t160 x7_1).f0)
           ·rw [if_pos c29] at H
            have c29b0 : (((rd_T34 x5_1 (ji24)).f0) == ((rd_T34 t160 x7_1).f0)) = true := beq_iff_eq.mpr c29
            have c29b1 : (((rd_T34 x5_1 (ji24)).f0) != ((rd_T34 t160 x7_1).f0)) = false := bne_eq_false_iff_eq.mpr c29
            clear c29
            replace H := Option.bind_eq_some_iff.mp H
            obtain ⟨t170, A300, H⟩ := H
            replace H : (if t170 = true then (spec_CombineMessages.l0 kj7 x5_1 t160 (wrap64 (x7_1 + 1)) a0_0 a0_1 a0_2) else (if x5_1.length < 5864062014805 then (spec_CombineMessages.l0 kj7 (x5_1 ++ [(⟨(rd_T34 t160 x7_1).f0, (rd_T34 t160 x7_1).f1, (rd_T34 t160 x7_1).f2⟩ : S34)]) t160 (wrap64 (x7_1 + 1)) a0_0 a0_1 a0_2) else (none))) = some r := H
            have A30 := Aside0.mk A300
            clear A300
            by_cases c31 : t170 = true
            ·subst c31
             have H1 : (spec_CombineMessages.l0 kj7 x5_1 t160 (wrap64 (x7_1 + 1)) a0_0 a0_1 a0_2) = some r := by rw [if_pos rfl] at H; exact H
             clear H
             have H := H1
             clear H1
             have H' := Aside0.mk H
             clear H
             obtain ⟨Ao32, co32, eo32⟩ := Kd.R_slice HO_5.out
             subst eo32
             try go_wp2
             have n0_ := Aside0.mk (Kd.R_drew HO_5.out)
             have n1_ := Aside0.mk (Kd.R_drew HO_6.out)
             have n2_ := Aside0.mk (blk_drew BK156.out)
             have n3_ := Aside0.mk (below_drew1 HB.out)
             clear HO_5
             clear HO_6
             clear BK156
             clear HB
             have HO_5 := n0_
             have HO_6 := n1_
             have BK156 := n2_
             have HB := n3_
             clear n0_ n1_ n2_ n3_
             have p168 : 0 ≤ ((ji24) : Int) := of_decide_eq_true z4_5
             have q168 : (ji24) < (x5_1.length : Int) := of_decide_eq_true z4_5
             obtain ⟨ad168, e168, hx168_0, hx168_1, hx168_2⟩ := at_T34 (Kd.R_reads' HO_5.out).2.2 (ji24) p168 q168
             cases e168
             replace p168 := eq_true p168
             replace q168 := eq_true q168
             obtain ⟨Ao34, co34, eo34⟩ := Kd.R_slice HO_6.out
             (first | subst eo34 | (injection eo34 with f1_ f2_ f3_; have f4_ := f1_.symm; have f5_ := f3_.symm; clear f1_ f2_ f3_; subst f4_; subst f5_))
             have p169 : 0 ≤ (x7_1 : Int) := of_decide_eq_true z4_5
             have q169 : x7_1 < (t160.length : Int) := of_decide_eq_true z4_5
             obtain ⟨ad169, e169, hx169_0, hx169_1, hx169_2⟩ := at_T34 (Kd.R_reads' HO_6.out).2.2 x7_1 p169 q169
             cases e169
             replace p169 := eq_true p169
             replace q169 := eq_true q169
             refine start_ (n := 20) (S := fun w' => w'.cell? ⟨gb156, 0, none⟩ = some (.int .i64 a0_0) ∧ w'.cell? ⟨gb156, 1, none⟩ = some (.int .i64 a0_1) ∧ w'.cell? ⟨gb156, 2, none⟩ = some (.int .i64 a0_2) ∧ w'.cell? (ad168.add (((ji24)).toNat * 3)) = some (.int .i64 ((rd_T34 x5_1 (ji24)).f0)) ∧ w'.cell? ⟨(ad168.add (((ji24)).toNat * 3)).block, (ad168.add (((ji24)).toNat * 3)).off + 1, none⟩ = some (.int .i64 ((rd_T34 x5_1 (ji24)).f1)) ∧ w'.cell? ⟨(ad168.add (((ji24)).toNat * 3)).block, (ad168.add (((ji24)).toNat * 3)).off + 2, none⟩ = some (.int .i64 ((rd_T34 x5_1 (ji24)).f2)) ∧ w'.cell? (ad169.add ((x7_1).toNat * 3)) = some (.int .i64 ((rd_T34 t160 x7_1).f0)) ∧ w'.cell? ⟨(ad169.add ((x7_1).toNat * 3)).block, (ad169.add ((x7_1).toNat * 3)).off + 1, none⟩ = some (.int .i64 ((rd_T34 t160 x7_1).f1)) ∧ w'.cell? ⟨(ad169.add ((x7_1).toNat * 3)).block, (ad169.add ((x7_1).toNat * 3)).off + 2, none⟩ = some (.int .i64 ((rd_T34 t160 x7_1).f2))) (ds := []) (bm 20 0) (by kernel_rfl) rfl rfl ⟨(blk_cell BK156.out 0).trans rfl, (blk_cell BK156.out 1).trans rfl, (blk_cell BK156.out 2).trans rfl, hx168_0, hx168_1, hx168_2, hx169_0, hx169_1, hx169_2⟩ (fun hHeld => ?_); refine with_tabW spec_CombineMessages.tab7 spec_CombineMessages.bits7 (fun HT_ HW_ => ?_)
             generalize wc.drew = w33 at HO_5 HO_6 BK156 HB hx168_0 hx168_1 hx168_2 hx169_0 hx169_1 hx169_2 hHeld ⊢
             refine pure_ (i := 0) (N := some 25) (v := ?_) (a' := ?_) (bm 20 1) rfl rfl (any_of HT_.out (by kernel_rfl)) (fun _ _ _ h => h) (Or.inl ⟨by rfl, ?_⟩) ?_ ?_
             rotate_left
             ·intro w'
              go_simp
              with_reducible rfl
             rotate_left
             ·simp only [Act.put, List.setIfInBounds_toArray, List.set_cons_zero, List.set_cons_succ, i64_w, i32_w]
              rfl
             refine pure_ (i := 1) (N := some 26) (v := ?_) (a' := ?_) (bm 20 3) rfl rfl (any_of HT_.out (by kernel_rfl)) (fun _ _ _ h => h) (Or.inl ⟨by rfl, ?_⟩) ?_ ?_
             rotate_left
             ·intro w'
              go_simp
              with_reducible rfl
             rotate_left
             ·simp only [Act.put, List.setIfInBounds_toArray, List.set_cons_zero, List.set_cons_succ, i64_w, i32_w]
              rfl
             refine pure_ (i := 2) (N := some 27) (v := ?_) (a' := ?_) (bm 20 7) rfl rfl (any_of HT_.out (by kernel_rfl)) (fun _ _ _ h => h) (Or.inl ⟨by rfl, ?_⟩) ?_ ?_
             rotate_left
             ·intro w'
              go_simp
              with_reducible rfl
             rotate_left
             ·simp only [Act.put, List.setIfInBounds_toArray, List.set_cons_zero, List.set_cons_succ, i64_w, i32_w]
              rfl
             refine pure_ (i := 3) (N := some 28) (v := ?_) (a' := ?_) (bm 20 15) rfl rfl (any_of HT_.out (by kernel_rfl)) (fun _ _ _ h => h) (Or.inl ⟨by rfl, ?_⟩) ?_ ?_
             rotate_left
             ·intro w'
              go_simp
              with_reducible rfl
             rotate_left
             ·simp only [Act.put, List.setIfInBounds_toArray, List.set_cons_zero, List.set_cons_succ, i64_w, i32_w]
              rfl
             refine pure_ (i := 4) (N := some 29) (v := ?_) (a' := ?_) (bm 20 31) rfl rfl (any_of HT_.out (by kernel_rfl)) (fun _ _ _ h => h) (Or.inl ⟨by rfl, ?_⟩) ?_ ?_
             rotate_left
             ·intro w'
              go_simp
              with_reducible rfl
             rotate_left
             ·simp only [Act.put, List.setIfInBounds_toArray, List.set_cons_zero, List.set_cons_succ, i64_w, i32_w]
              rfl
             refine pure_ (i := 5) (N := some 30) (v := ?_) (a' := ?_) (bm 20 63) rfl rfl (any_of HT_.out (by kernel_rfl)) (fun _ _ _ h => h) (Or.inl ⟨by rfl, ?_⟩) ?_ ?_
             rotate_left
             ·intro w'
              go_simp
              with_reducible rfl
             rotate_left
             ·simp only [Act.put, List.setIfInBounds_toArray, List.set_cons_zero, List.set_cons_succ, i64_w, i32_w]
              rfl
             refine pure_ (i := 6) (N := some 31) (v := ?_) (a' := ?_) (bm 20 127) rfl rfl (any_of HT_.out (by kernel_rfl)) (fun _ _ _ h => h) (Or.inl ⟨by rfl, ?_⟩) ?_ ?_
             rotate_left
             ·intro w'
              go_simp
              with_reducible rfl
             rotate_left
             ·simp only [Act.put, List.setIfInBounds_toArray, List.set_cons_zero, List.set_cons_succ, i64_w, i32_w]
              rfl
             refine pure_ (i := 8) (N := some 33) (v := ?_) (a' := ?_) (bm 20 383) rfl rfl (any_of HT_.out (by kernel_rfl)) (fun _ _ _ h => h) (Or.inl ⟨by rfl, ?_⟩) ?_ ?_
             rotate_left
             ·intro w'
              go_simp
              with_reducible rfl
             rotate_left
             ·simp only [Act.put, List.setIfInBounds_toArray, List.set_cons_zero, List.set_cons_succ, i64_w, i32_w]
              rfl
             refine pure_ (i := 9) (N := some 34) (v := ?_) (a' := ?_) (bm 20 895) rfl rfl (any_of HT_.out (by kernel_rfl)) (fun _ _ _ h => h) (Or.inl ⟨by rfl, ?_⟩) ?_ ?_
             rotate_left
             ·intro w'
              go_simp
              with_reducible rfl
             rotate_left
             ·simp only [Act.put, List.setIfInBounds_toArray, List.set_cons_zero, List.set_cons_succ, i64_w, i32_w]
              rfl
             refine pure_ (i := 10) (N := some 35) (v := ?_) (a' := ?_) (bm 20 1919) rfl rfl (any_of HT_.out (by kernel_rfl)) (fun _ _ _ h => h) (Or.inl ⟨by rfl, ?_⟩) ?_ ?_
             rotate_left
             ·intro w'
              go_simp
              with_reducible rfl
             rotate_left
             ·simp only [Act.put, List.setIfInBounds_toArray, List.set_cons_zero, List.set_cons_succ, i64_w, i32_w]
              rfl
             refine pure_ (i := 11) (N := some 36) (v := ?_) (a' := ?_) (bm 20 3967) rfl rfl (any_of HT_.out (by kernel_rfl)) (fun _ _ _ h => h) (Or.inl ⟨by rfl, ?_⟩) ?_ ?_
             rotate_left
             ·intro w'
              go_simp
              with_reducible rfl
             rotate_left
             ·simp only [Act.put, List.setIfInBounds_toArray, List.set_cons_zero, List.set_cons_succ, i64_w, i32_w]
              rfl
             refine take_ (i := 7) (N := some 32) (v := ?_) (a' := ?_) (bm 20 4095) rfl rfl (take_ofW HT_.out HW_.out (by kernel_rfl)) (fun _ _ _ h => h) (Or.inl ⟨by rfl, ?_⟩) hHeld ?_ ?_
             rotate_left
             ·rintro w' ⟨s0, s1, s2, s3, s4, s5, s6, s7, s8⟩
              go_simp
              with_reducible rfl
             rotate_left
             ·simp only [Act.put, List.setIfInBounds_toArray, List.set_cons_zero, List.set_cons_succ, i64_w, i32_w]
              rfl
             refine take_ (i := 12) (N := some 37) (v := ?_) (a' := ?_) (bm 20 8191) rfl rfl (take_ofW HT_.out HW_.out (by kernel_rfl)) (fun _ _ _ h => h) (Or.inl ⟨by rfl, ?_⟩) hHeld ?_ ?_
             rotate_left
             ·rintro w' ⟨s0, s1, s2, s3, s4, s5, s6, s7, s8⟩
              go_simp
              with_reducible rfl
             rotate_left
             ·simp only [Act.put, List.setIfInBounds_toArray, List.set_cons_zero, List.set_cons_succ, i64_w, i32_w]
              rfl
             refine pure_ (i := 13) (N := some 38) (v := ?_) (a' := ?_) (bm 20 16383) rfl rfl (any_of HT_.out (by kernel_rfl)) (fun _ _ _ h => h) (Or.inl ⟨by rfl, ?_⟩) ?_ ?_
             rotate_left
             ·intro w'
              go_simp
              with_reducible rfl
             rotate_left
             ·simp only [Act.put, List.setIfInBounds_toArray, List.set_cons_zero, List.set_cons_succ, i64_w, i32_w]
              rfl
             refine pure_ (i := 14) (N := some 39) (v := ?_) (a' := ?_) (bm 20 32767) rfl rfl (any_of HT_.out (by kernel_rfl)) (fun _ _ _ h => h) (Or.inl ⟨by rfl, ?_⟩) ?_ ?_
             rotate_left
             ·intro w'
              go_simp
              with_reducible rfl
             rotate_left
             ·simp only [Act.put, List.setIfInBounds_toArray, List.set_cons_zero, List.set_cons_succ, i64_w, i32_w]
              rfl
             refine pure_ (i := 15) (N := some 40) (v := ?_) (a' := ?_) (bm 20 65535) rfl rfl (any_of HT_.out (by kernel_rfl)) (fun _ _ _ h => h) (Or.inl ⟨by rfl, ?_⟩) ?_ ?_
             rotate_left
             ·intro w'
              go_simp
              with_reducible rfl
             rotate_left
             ·simp only [Act.put, List.setIfInBounds_toArray, List.set_cons_zero, List.set_cons_succ, i64_w, i32_w]
              rfl
             refine take_ (i := 16) (N := some 41) (v := ?_) (a' := ?_) (bm 20 131071) rfl rfl (take_ofW HT_.out HW_.out (by kernel_rfl)) (fun _ _ _ h => h) (Or.inl ⟨by rfl, ?_⟩) hHeld ?_ ?_
             rotate_left
             ·rintro w' ⟨s0, s1, s2, s3, s4, s5, s6, s7, s8⟩
              go_simp
              with_reducible rfl
             rotate_left
             ·simp only [Act.put, List.setIfInBounds_toArray, List.set_cons_zero, List.set_cons_succ, i64_w, i32_w]
              rfl
             refine one_ (i := 17) (N := some 42) (bm 20 262143) rfl rfl (one_of HT_.out (by kernel_rfl)) (by decide) (fun K hK => ?_)
             refine goes_ Try.func77 (by kernel_rfl) rfl #[.agg #[.int .i64 a0_0, .int .i64 a0_1, .int .i64 a0_2]] (by rfl) rfl rfl z4_7 ?_
             with_reducible refine (spec_CanCombine.calls kj7 a0_0 a0_1 a0_2 true _ A30.out).mono ?_
             rintro e w35 ⟨rfl, hb⟩
             have HS3_ := (hb.cell (World.block_lt_of_cell? _ _ (hHeld.2.2.2.1))).trans (hHeld.2.2.2.1)
             have HS4_ := (hb.cell (World.block_lt_of_cell? _ _ (hHeld.2.2.2.2.1))).trans (hHeld.2.2.2.2.1)
             have HS5_ := (hb.cell (World.block_lt_of_cell? _ _ (hHeld.2.2.2.2.2.1))).trans (hHeld.2.2.2.2.2.1)
             have HS6_ := (hb.cell (World.block_lt_of_cell? _ _ (hHeld.2.2.2.2.2.2.1))).trans (hHeld.2.2.2.2.2.2.1)
             have HS7_ := (hb.cell (World.block_lt_of_cell? _ _ (hHeld.2.2.2.2.2.2.2.1))).trans (hHeld.2.2.2.2.2.2.2.1)
             have HS8_ := (hb.cell (World.block_lt_of_cell? _ _ (hHeld.2.2.2.2.2.2.2.2))).trans (hHeld.2.2.2.2.2.2.2.2)
             refine ⟨_, rfl, ?_⟩
             have n0_ := Aside0.mk (Kd.R_below z4_3 hb)
             have n1_ := Aside0.mk (Kd.R_below z4_4 hb)
             have n2_ := Aside0.mk (blk_below (g := gb156) (o := .cells #[.int .i64 a0_0, .int .i64 a0_1, .int .i64 a0_2] 47 (0, 0)) z4_2 hb)
             have n3_ := Aside0.mk (below_step z4_1 hb)
             clear HO_5
             clear HO_6
             clear BK156
             clear HB
             have HO_5 := n0_
             have HO_6 := n1_
             have BK156 := n2_
             have HB := n3_
             clear n0_ n1_ n2_ n3_
             (try clear hb)
             (try clear hb2)
             (try clear hk)
             (try clear hi)
             refine hK.out _ _ ⟨(blk_cell BK156.out 0).trans rfl, (blk_cell BK156.out 1).trans rfl, (blk_cell BK156.out 2).trans rfl, HS3_, HS4_, HS5_, HS6_, HS7_, HS8_⟩ (fun hHeld => ?_)
             clear hK K
             refine norm_ (a' := ?_) ?_ ?_
             rotate_left
             ·show Act.put _ (some 42) _ = _
              simp only [Act.put, List.setIfInBounds_toArray, List.set_cons_zero, List.set_cons_succ, i64_w, i32_w]
              rfl
             refine pure_ (i := 18) (N := some 43) (v := ?_) (a' := ?_) (bm 20 524287) rfl rfl (any_of HT_.out (by kernel_rfl)) (fun _ _ _ h => h) (Or.inl ⟨by rfl, ?_⟩) ?_ ?_
             rotate_left
             ·intro w'
              go_simp
              with_reducible rfl
             rotate_left
             ·simp only [Act.put, List.setIfInBounds_toArray, List.set_cons_zero, List.set_cons_succ, i64_w, i32_w]
              rfl
             refine pure_ (i := 19) (N := some 44) (v := ?_) (a' := ?_) (bm 20 1048575) rfl rfl (any_of HT_.out (by kernel_rfl)) (fun _ _ _ h => h) (Or.inl ⟨by rfl, ?_⟩) ?_ ?_
             rotate_left
             ·intro w'
              go_simp
              with_reducible rfl
             rotate_left
             ·simp only [Act.put, List.setIfInBounds_toArray, List.set_cons_zero, List.set_cons_succ, i64_w, i32_w]
              rfl
             refine done_ (done_of HT_.out (by kernel_rfl)) ?_
             try go_wp2
             go_roundg kj7
             case measure => have := HK1.out; have := HJ7.out; omega
             case rel => exact ⟨(x5_1), (wrap64 (x7_1 + 1)), z4_10, H', ⟨z4_11⟩, ⟨z4_3⟩, ⟨z4_4⟩, ⟨z4_2⟩, ⟨z4_1⟩⟩
            ·replace c31 := Bool.eq_false_iff.mpr c31
             subst c31
             have H1 : (if x5_1.length < 5864062014805 then (spec_CombineMessages.l0 kj7 (x5_1 ++ [(⟨(rd_T34 t160 x7_1).f0, (rd_T34 t160 x7_1).f1, (rd_T34 t160 x7_1).f2⟩ : S34)]) t160 (wrap64 (x7_1 + 1)) a0_0 a0_1 a0_2) else (none)) = some r := by rw [if_neg (show ¬ (false = true) by decide)] at H; exact H
             clear H
             have H := H1
             clear H1
             by_cases c36 : x5_1.length < 5864062014805
             ·rw [if_pos c36] at H
              have LMc36 := Aside0.mk c36
              clear c36
              obtain ⟨y172, hy172⟩ : ∃ y_ : List (S34), y_ = (x5_1 ++ [(⟨(rd_T34 t160 x7_1).f0, (rd_T34 t160 x7_1).f1, (rd_T34 t160 x7_1).f2⟩ : S34)]) := ⟨_, rfl⟩
              replace H : (spec_CombineMessages.l0 kj7 y172 t160 (wrap64 (x7_1 + 1)) a0_0 a0_1 a0_2) = some r := by first | (rw [hy172]; with_reducible exact H) | (have H2_ := (Option.bind_some _ _).symm.trans H; rw [hy172]; with_reducible exact H2_) | (have H2_ := (Option.bind_some _ _).symm.trans H; with_reducible exact H2_) | with_reducible exact H | (rw [hy172]; exact H) | exact H
              have Ny172 := Aside0.mk hy172
              clear hy172
              have H' := Aside0.mk H
              clear H
              obtain ⟨Ao37, co37, eo37⟩ := Kd.R_slice HO_5.out
              subst eo37
              try go_wp2
              have n0_ := Aside0.mk (Kd.R_drew HO_5.out)
              have n1_ := Aside0.mk (Kd.R_drew HO_6.out)
              have n2_ := Aside0.mk (blk_drew BK156.out)
              have n3_ := Aside0.mk (below_drew1 HB.out)
              clear HO_5
              clear HO_6
              clear BK156
              clear HB
              have HO_5 := n0_
              have HO_6 := n1_
              have BK156 := n2_
              have HB := n3_
              clear n0_ n1_ n2_ n3_
              have p168 : 0 ≤ ((ji24) : Int) := of_decide_eq_true z4_5
              have q168 : (ji24) < (x5_1.length : Int) := of_decide_eq_true z4_5
              obtain ⟨ad168, e168, hx168_0, hx168_1, hx168_2⟩ := at_T34 (Kd.R_reads' HO_5.out).2.2 (ji24) p168 q168
              cases e168
              replace p168 := eq_true p168
              replace q168 := eq_true q168
              obtain ⟨Ao39, co39, eo39⟩ := Kd.R_slice HO_6.out
              (first | subst eo39 | (injection eo39 with f1_ f2_ f3_; have f4_ := f1_.symm; have f5_ := f3_.symm; clear f1_ f2_ f3_; subst f4_; subst f5_))
              have p169 : 0 ≤ (x7_1 : Int) := of_decide_eq_true z4_5
              have q169 : x7_1 < (t160.length : Int) := of_decide_eq_true z4_5
              obtain ⟨ad169, e169, hx169_0, hx169_1, hx169_2⟩ := at_T34 (Kd.R_reads' HO_6.out).2.2 x7_1 p169 q169
              cases e169
              replace p169 := eq_true p169
              replace q169 := eq_true q169
              refine start_ (n := 20) (S := fun w' => w'.cell? ⟨gb156, 0, none⟩ = some (.int .i64 a0_0) ∧ w'.cell? ⟨gb156, 1, none⟩ = some (.int .i64 a0_1) ∧ w'.cell? ⟨gb156, 2, none⟩ = some (.int .i64 a0_2) ∧ w'.cell? (ad168.add (((ji24)).toNat * 3)) = some (.int .i64 ((rd_T34 x5_1 (ji24)).f0)) ∧ w'.cell? ⟨(ad168.add (((ji24)).toNat * 3)).block, (ad168.add (((ji24)).toNat * 3)).off + 1, none⟩ = some (.int .i64 ((rd_T34 x5_1 (ji24)).f1)) ∧ w'.cell? ⟨(ad168.add (((ji24)).toNat * 3)).block, (ad168.add (((ji24)).toNat * 3)).off + 2, none⟩ = some (.int .i64 ((rd_T34 x5_1 (ji24)).f2)) ∧ w'.cell? (ad169.add ((x7_1).toNat * 3)) = some (.int .i64 ((rd_T34 t160 x7_1).f0)) ∧ w'.cell? ⟨(ad169.add ((x7_1).toNat * 3)).block, (ad169.add ((x7_1).toNat * 3)).off + 1, none⟩ = some (.int .i64 ((rd_T34 t160 x7_1).f1)) ∧ w'.cell? ⟨(ad169.add ((x7_1).toNat * 3)).block, (ad169.add ((x7_1).toNat * 3)).off + 2, none⟩ = some (.int .i64 ((rd_T34 t160 x7_1).f2))) (ds := []) (bm 20 0) (by kernel_rfl) rfl rfl ⟨(blk_cell BK156.out 0).trans rfl, (blk_cell BK156.out 1).trans rfl, (blk_cell BK156.out 2).trans rfl, hx168_0, hx168_1, hx168_2, hx169_0, hx169_1, hx169_2⟩ (fun hHeld => ?_); refine with_tabW spec_CombineMessages.tab7 spec_CombineMessages.bits7 (fun HT_ HW_ => ?_)
              generalize wc.drew = w38 at HO_5 HO_6 BK156 HB hx168_0 hx168_1 hx168_2 hx169_0 hx169_1 hx169_2 hHeld ⊢
              refine pure_ (i := 0) (N := some 25) (v := ?_) (a' := ?_) (bm 20 1) rfl rfl (any_of HT_.out (by kernel_rfl)) (fun _ _ _ h => h) (Or.inl ⟨by rfl, ?_⟩) ?_ ?_
              rotate_left
              ·intro w'
               go_simp
               with_reducible rfl
              rotate_left
              ·simp only [Act.put, List.setIfInBounds_toArray, List.set_cons_zero, List.set_cons_succ, i64_w, i32_w]
               rfl
              refine pure_ (i := 1) (N := some 26) (v := ?_) (a' := ?_) (bm 20 3) rfl rfl (any_of HT_.out (by kernel_rfl)) (fun _ _ _ h => h) (Or.inl ⟨by rfl, ?_⟩) ?_ ?_
              rotate_left
              ·intro w'
               go_simp
               with_reducible rfl
              rotate_left
              ·simp only [Act.put, List.setIfInBounds_toArray, List.set_cons_zero, List.set_cons_succ, i64_w, i32_w]
               rfl
              refine pure_ (i := 2) (N := some 27) (v := ?_) (a' := ?_) (bm 20 7) rfl rfl (any_of HT_.out (by kernel_rfl)) (fun _ _ _ h => h) (Or.inl ⟨by rfl, ?_⟩) ?_ ?_
              rotate_left
              ·intro w'
               go_simp
               with_reducible rfl
              rotate_left
              ·simp only [Act.put, List.setIfInBounds_toArray, List.set_cons_zero, List.set_cons_succ, i64_w, i32_w]
               rfl
              refine pure_ (i := 3) (N := some 28) (v := ?_) (a' := ?_) (bm 20 15) rfl rfl (any_of HT_.out (by kernel_rfl)) (fun _ _ _ h => h) (Or.inl ⟨by rfl, ?_⟩) ?_ ?_
              rotate_left
              ·intro w'
               go_simp
               with_reducible rfl
              rotate_left
              ·simp only [Act.put, List.setIfInBounds_toArray, List.set_cons_zero, List.set_cons_succ, i64_w, i32_w]
               rfl
              refine pure_ (i := 4) (N := some 29) (v := ?_) (a' := ?_) (bm 20 31) rfl rfl (any_of HT_.out (by kernel_rfl)) (fun _ _ _ h => h) (Or.inl ⟨by rfl, ?_⟩) ?_ ?_
              rotate_left
              ·intro w'
               go_simp
               with_reducible rfl
              rotate_left
              ·simp only [Act.put, List.setIfInBounds_toArray, List.set_cons_zero, List.set_cons_succ, i64_w, i32_w]
               rfl
              refine pure_ (i := 5) (N := some 30) (v := ?_) (a' := ?_) (bm 20 63) rfl rfl (any_of HT_.out (by kernel_rfl)) (fun _ _ _ h => h) (Or.inl ⟨by rfl, ?_⟩) ?_ ?_
              rotate_left
              ·intro w'
               go_simp
               with_reducible rfl
              rotate_left
              ·simp only [Act.put, List.setIfInBounds_toArray, List.set_cons_zero, List.set_cons_succ, i64_w, i32_w]
               rfl
              refine pure_ (i := 6) (N := some 31) (v := ?_) (a' := ?_) (bm 20 127) rfl rfl (any_of HT_.out (by kernel_rfl)) (fun _ _ _ h => h) (Or.inl ⟨by rfl, ?_⟩) ?_ ?_
              rotate_left
              ·intro w'
               go_simp
               with_reducible rfl
              rotate_left
              ·simp only [Act.put, List.setIfInBounds_toArray, List.set_cons_zero, List.set_cons_succ, i64_w, i32_w]
               rfl
              refine pure_ (i := 8) (N := some 33) (v := ?_) (a' := ?_) (bm 20 383) rfl rfl (any_of HT_.out (by kernel_rfl)) (fun _ _ _ h => h) (Or.inl ⟨by rfl, ?_⟩) ?_ ?_
              rotate_left
              ·intro w'
               go_simp
               with_reducible rfl
              rotate_left
              ·simp only [Act.put, List.setIfInBounds_toArray, List.set_cons_zero, List.set_cons_succ, i64_w, i32_w]
               rfl
              refine pure_ (i := 9) (N := some 34) (v := ?_) (a' := ?_) (bm 20 895) rfl rfl (any_of HT_.out (by kernel_rfl)) (fun _ _ _ h => h) (Or.inl ⟨by rfl, ?_⟩) ?_ ?_
              rotate_left
              ·intro w'
               go_simp
               with_reducible rfl
              rotate_left
              ·simp only [Act.put, List.setIfInBounds_toArray, List.set_cons_zero, List.set_cons_succ, i64_w, i32_w]
               rfl
              refine pure_ (i := 10) (N := some 35) (v := ?_) (a' := ?_) (bm 20 1919) rfl rfl (any_of HT_.out (by kernel_rfl)) (fun _ _ _ h => h) (Or.inl ⟨by rfl, ?_⟩) ?_ ?_
              rotate_left
              ·intro w'
               go_simp
               with_reducible rfl
              rotate_left
              ·simp only [Act.put, List.setIfInBounds_toArray, List.set_cons_zero, List.set_cons_succ, i64_w, i32_w]
               rfl
              refine pure_ (i := 11) (N := some 36) (v := ?_) (a' := ?_) (bm 20 3967) rfl rfl (any_of HT_.out (by kernel_rfl)) (fun _ _ _ h => h) (Or.inl ⟨by rfl, ?_⟩) ?_ ?_
              rotate_left
              ·intro w'
               go_simp
               with_reducible rfl
              rotate_left
              ·simp only [Act.put, List.setIfInBounds_toArray, List.set_cons_zero, List.set_cons_succ, i64_w, i32_w]
               rfl
              refine take_ (i := 7) (N := some 32) (v := ?_) (a' := ?_) (bm 20 4095) rfl rfl (take_ofW HT_.out HW_.out (by kernel_rfl)) (fun _ _ _ h => h) (Or.inl ⟨by rfl, ?_⟩) hHeld ?_ ?_
              rotate_left
              ·rintro w' ⟨s0, s1, s2, s3, s4, s5, s6, s7, s8⟩
               go_simp
               with_reducible rfl
              rotate_left
              ·simp only [Act.put, List.setIfInBounds_toArray, List.set_cons_zero, List.set_cons_succ, i64_w, i32_w]
               rfl
              refine take_ (i := 12) (N := some 37) (v := ?_) (a' := ?_) (bm 20 8191) rfl rfl (take_ofW HT_.out HW_.out (by kernel_rfl)) (fun _ _ _ h => h) (Or.inl ⟨by rfl, ?_⟩) hHeld ?_ ?_
              rotate_left
              ·rintro w' ⟨s0, s1, s2, s3, s4, s5, s6, s7, s8⟩
               go_simp
               with_reducible rfl
              rotate_left
              ·simp only [Act.put, List.setIfInBounds_toArray, List.set_cons_zero, List.set_cons_succ, i64_w, i32_w]
               rfl
              refine pure_ (i := 13) (N := some 38) (v := ?_) (a' := ?_) (bm 20 16383) rfl rfl (any_of HT_.out (by kernel_rfl)) (fun _ _ _ h => h) (Or.inl ⟨by rfl, ?_⟩) ?_ ?_
              rotate_left
              ·intro w'
               go_simp
               with_reducible rfl
              rotate_left
              ·simp only [Act.put, List.setIfInBounds_toArray, List.set_cons_zero, List.set_cons_succ, i64_w, i32_w]
               rfl
              refine pure_ (i := 14) (N := some 39) (v := ?_) (a' := ?_) (bm 20 32767) rfl rfl (any_of HT_.out (by kernel_rfl)) (fun _ _ _ h => h) (Or.inl ⟨by rfl, ?_⟩) ?_ ?_
              rotate_left
              ·intro w'
               go_simp
               with_reducible rfl
              rotate_left
              ·simp only [Act.put, List.setIfInBounds_toArray, List.set_cons_zero, List.set_cons_succ, i64_w, i32_w]
               rfl
              refine pure_ (i := 15) (N := some 40) (v := ?_) (a' := ?_) (bm 20 65535) rfl rfl (any_of HT_.out (by kernel_rfl)) (fun _ _ _ h => h) (Or.inl ⟨by rfl, ?_⟩) ?_ ?_
              rotate_left
              ·intro w'
               go_simp
               with_reducible rfl
              rotate_left
              ·simp only [Act.put, List.setIfInBounds_toArray, List.set_cons_zero, List.set_cons_succ, i64_w, i32_w]
               rfl
              refine take_ (i := 16) (N := some 41) (v := ?_) (a' := ?_) (bm 20 131071) rfl rfl (take_ofW HT_.out HW_.out (by kernel_rfl)) (fun _ _ _ h => h) (Or.inl ⟨by rfl, ?_⟩) hHeld ?_ ?_
              rotate_left
              ·rintro w' ⟨s0, s1, s2, s3, s4, s5, s6, s7, s8⟩
               go_simp
               with_reducible rfl
              rotate_left
              ·simp only [Act.put, List.setIfInBounds_toArray, List.set_cons_zero, List.set_cons_succ, i64_w, i32_w]
               rfl
              refine one_ (i := 17) (N := some 42) (bm 20 262143) rfl rfl (one_of HT_.out (by kernel_rfl)) (by decide) (fun K hK => ?_)
              refine goes_ Try.func77 (by kernel_rfl) rfl #[.agg #[.int .i64 a0_0, .int .i64 a0_1, .int .i64 a0_2]] (by rfl) rfl rfl z4_7 ?_
              with_reducible refine (spec_CanCombine.calls kj7 a0_0 a0_1 a0_2 false _ A30.out).mono ?_
              rintro e w40 ⟨rfl, hb⟩
              have HS3_ := (hb.cell (World.block_lt_of_cell? _ _ (hHeld.2.2.2.1))).trans (hHeld.2.2.2.1)
              have HS4_ := (hb.cell (World.block_lt_of_cell? _ _ (hHeld.2.2.2.2.1))).trans (hHeld.2.2.2.2.1)
              have HS5_ := (hb.cell (World.block_lt_of_cell? _ _ (hHeld.2.2.2.2.2.1))).trans (hHeld.2.2.2.2.2.1)
              have HS6_ := (hb.cell (World.block_lt_of_cell? _ _ (hHeld.2.2.2.2.2.2.1))).trans (hHeld.2.2.2.2.2.2.1)
              have HS7_ := (hb.cell (World.block_lt_of_cell? _ _ (hHeld.2.2.2.2.2.2.2.1))).trans (hHeld.2.2.2.2.2.2.2.1)
              have HS8_ := (hb.cell (World.block_lt_of_cell? _ _ (hHeld.2.2.2.2.2.2.2.2))).trans (hHeld.2.2.2.2.2.2.2.2)
              refine ⟨_, rfl, ?_⟩
              have n0_ := Aside0.mk (Kd.R_below z4_3 hb)
              have n1_ := Aside0.mk (Kd.R_below z4_4 hb)
              have n2_ := Aside0.mk (blk_below (g := gb156) (o := .cells #[.int .i64 a0_0, .int .i64 a0_1, .int .i64 a0_2] 47 (0, 0)) z4_2 hb)
              have n3_ := Aside0.mk (below_step z4_1 hb)
              clear HO_5
              clear HO_6
              clear BK156
              clear HB
              have HO_5 := n0_
              have HO_6 := n1_
              have BK156 := n2_
              have HB := n3_
              clear n0_ n1_ n2_ n3_
              (try clear hb)
              (try clear hb2)
              (try clear hk)
              (try clear hi)
              refine hK.out _ _ ⟨(blk_cell BK156.out 0).trans rfl, (blk_cell BK156.out 1).trans rfl, (blk_cell BK156.out 2).trans rfl, HS3_, HS4_, HS5_, HS6_, HS7_, HS8_⟩ (fun hHeld => ?_)
              clear hK K
              refine norm_ (a' := ?_) ?_ ?_
              rotate_left
              ·show Act.put _ (some 42) _ = _
               simp only [Act.put, List.setIfInBounds_toArray, List.set_cons_zero, List.set_cons_succ, i64_w, i32_w]
               rfl
              refine pure_ (i := 18) (N := some 43) (v := ?_) (a' := ?_) (bm 20 524287) rfl rfl (any_of HT_.out (by kernel_rfl)) (fun _ _ _ h => h) (Or.inl ⟨by rfl, ?_⟩) ?_ ?_
              rotate_left
              ·intro w'
               go_simp
               with_reducible rfl
              rotate_left
              ·simp only [Act.put, List.setIfInBounds_toArray, List.set_cons_zero, List.set_cons_succ, i64_w, i32_w]
               rfl
              refine pure_ (i := 19) (N := some 44) (v := ?_) (a' := ?_) (bm 20 1048575) rfl rfl (any_of HT_.out (by kernel_rfl)) (fun _ _ _ h => h) (Or.inl ⟨by rfl, ?_⟩) ?_ ?_
              rotate_left
              ·intro w'
               go_simp
               with_reducible rfl
              rotate_left
              ·simp only [Act.put, List.setIfInBounds_toArray, List.set_cons_zero, List.set_cons_succ, i64_w, i32_w]
               rfl
              refine done_ (done_of HT_.out (by kernel_rfl)) ?_
              have p171 : 0 ≤ (x7_1 : Int) := of_decide_eq_true z4_5
              have q171 : x7_1 < (t160.length : Int) := of_decide_eq_true z4_5
              obtain ⟨ad171, e171, hx171_0, hx171_1, hx171_2⟩ := at_T34 (Kd.R_reads' HO_6.out).2.2 x7_1 p171 q171
              obtain rfl : ad169 = ad171 := (by injection e171)
              replace p171 := eq_true p171
              replace q171 := eq_true q171
              try go_wp2_with (first | ((with_reducible refine gate_builtin (b := .append) (xs := #[.tmp 45, .tmp 50]) rfl ?_); at_builtin; refine Kd.R_append k34 (w0 := w) w.heap.size rfl (.tmp 45) (.tmp 50) 28 34 (.agg #[(.int .i64 0), (.int .i64 0), (.int .i64 0)]) 24 rfl Try.underlying28 info34 rfl (by decide) (by omega) (.slice (some ad168) x5_1.length co37) x5_1 (⟨(rd_T34 t160 x7_1).f0, (rd_T34 t160 x7_1).f1, (rd_T34 t160 x7_1).f2⟩ : S34) [.int .i64 ((rd_T34 t160 x7_1).f0), .int .i64 ((rd_T34 t160 x7_1).f1), .int .i64 ((rd_T34 t160 x7_1).f2)] (fun k_ => some k_ ≠ (.slice (some ad169) t160.length co39 : Value).ownBlock) (fun _ => False) rfl rfl ?aP (fun _ hk => hk.elim) ?aF ?aO ?aB ?aS ?aL ?_; (case aP => exact k34_mkM _ _ _ (⟨(rd_T34 t160 x7_1).f0, (rd_T34 t160 x7_1).f1, (rd_T34 t160 x7_1).f2⟩ : S34)); (case aB => exact z4_1); (case aF => exact (fun k_ hk => Kd.fresh' (Kd.R_lt z4_4) k_ hk)); (case aO => exact z4_3); (case aS => exact (below_size z4_1)); (case aL => have := LMc36.out; omega); intro v173 w41 ho hb hg hat; rw [← Ny172.out] at ho; have n0_ := Aside0.mk (Kd.R_after (ok := (fun _ => True)) z4_6 hg hat); have n1_ := Aside0.mk (blk_grown (g := gb156) (o := .cells #[.int .i64 a0_0, .int .i64 a0_1, .int .i64 a0_2] 47 (0, 0)) z4_2 hg (Kd.R_ne HO_5.out BK156.out (by decide))); have n2_ := Aside0.mk (hb); have n3_ := Aside0.mk (ho); clear HO_6; clear BK156; clear HB; clear HO_5; have HO_6 := n0_; have BK156 := n1_; have HB := n2_; have HO174 := n3_; clear n0_ n1_ n2_ n3_; clear ho hb hg hat))
              go_roundg kj7
              case measure => have := HK1.out; have := HJ7.out; omega
              case rel => exact ⟨(y172), (wrap64 (x7_1 + 1)), z4_10, H', ⟨z4_11⟩, ⟨by (with_reducible repeat (first | apply Kd.R_alloc | apply Kd.R_drewN | apply Kd.R_drew)); exact HO174.out⟩, ⟨z4_9⟩, ⟨z4_2⟩, ⟨z4_1⟩⟩
             ·rw [if_neg c36] at H
              exact absurd H (by simp)
           ·rw [if_neg c29] at H
            have c29b0 : (((rd_T34 x5_1 (ji24)).f0) == ((rd_T34 t160 x7_1).f0)) = false := beq_eq_false_iff_ne.mpr c29
            have c29b1 : (((rd_T34 x5_1 (ji24)).f0) != ((rd_T34 t160 x7_1).f0)) = true := bne_iff_ne.mpr c29
            by_cases c42 : x5_1.length < 5864062014805
            ·rw [if_pos c42] at H
             have LMc42 := Aside0.mk c42
             clear c42
             obtain ⟨y176, hy176⟩ : ∃ y_ : List (S34), y_ = (x5_1 ++ [(⟨(rd_T34 t160 x7_1).f0, (rd_T34 t160 x7_1).f1, (rd_T34 t160 x7_1).f2⟩ : S34)]) := ⟨_, rfl⟩
             replace H : (spec_CombineMessages.l0 kj7 y176 t160 (wrap64 (x7_1 + 1)) a0_0 a0_1 a0_2) = some r := by first | (rw [hy176]; with_reducible exact H) | (have H2_ := (Option.bind_some _ _).symm.trans H; rw [hy176]; with_reducible exact H2_) | (have H2_ := (Option.bind_some _ _).symm.trans H; with_reducible exact H2_) | with_reducible exact H | (rw [hy176]; exact H) | exact H
             have Ny176 := Aside0.mk hy176
             clear hy176
             have H' := Aside0.mk H
             clear H
             obtain ⟨Ao43, co43, eo43⟩ := Kd.R_slice HO_5.out
             subst eo43
             try go_wp2
             have n0_ := Aside0.mk (Kd.R_drew HO_5.out)
             have n1_ := Aside0.mk (Kd.R_drew HO_6.out)
             have n2_ := Aside0.mk (blk_drew BK156.out)
             have n3_ := Aside0.mk (below_drew1 HB.out)
             clear HO_5
             clear HO_6
             clear BK156
             clear HB
             have HO_5 := n0_
             have HO_6 := n1_
             have BK156 := n2_
             have HB := n3_
             clear n0_ n1_ n2_ n3_
             have p168 : 0 ≤ ((ji24) : Int) := of_decide_eq_true z4_5
             have q168 : (ji24) < (x5_1.length : Int) := of_decide_eq_true z4_5
             obtain ⟨ad168, e168, hx168_0, hx168_1, hx168_2⟩ := at_T34 (Kd.R_reads' HO_5.out).2.2 (ji24) p168 q168
             cases e168
             replace p168 := eq_true p168
             replace q168 := eq_true q168
             obtain ⟨Ao45, co45, eo45⟩ := Kd.R_slice HO_6.out
             (first | subst eo45 | (injection eo45 with f1_ f2_ f3_; have f4_ := f1_.symm; have f5_ := f3_.symm; clear f1_ f2_ f3_; subst f4_; subst f5_))
             have p169 : 0 ≤ (x7_1 : Int) := of_decide_eq_true z4_5
             have q169 : x7_1 < (t160.length : Int) := of_decide_eq_true z4_5
             obtain ⟨ad169, e169, hx169_0, hx169_1, hx169_2⟩ := at_T34 (Kd.R_reads' HO_6.out).2.2 x7_1 p169 q169
             cases e169
             replace p169 := eq_true p169
             replace q169 := eq_true q169
             refine start_ (n := 20) (S := fun w' => w'.cell? (ad168.add (((ji24)).toNat * 3)) = some (.int .i64 ((rd_T34 x5_1 (ji24)).f0)) ∧ w'.cell? ⟨(ad168.add (((ji24)).toNat * 3)).block, (ad168.add (((ji24)).toNat * 3)).off + 1, none⟩ = some (.int .i64 ((rd_T34 x5_1 (ji24)).f1)) ∧ w'.cell? ⟨(ad168.add (((ji24)).toNat * 3)).block, (ad168.add (((ji24)).toNat * 3)).off + 2, none⟩ = some (.int .i64 ((rd_T34 x5_1 (ji24)).f2)) ∧ w'.cell? (ad169.add ((x7_1).toNat * 3)) = some (.int .i64 ((rd_T34 t160 x7_1).f0)) ∧ w'.cell? ⟨(ad169.add ((x7_1).toNat * 3)).block, (ad169.add ((x7_1).toNat * 3)).off + 1, none⟩ = some (.int .i64 ((rd_T34 t160 x7_1).f1)) ∧ w'.cell? ⟨(ad169.add ((x7_1).toNat * 3)).block, (ad169.add ((x7_1).toNat * 3)).off + 2, none⟩ = some (.int .i64 ((rd_T34 t160 x7_1).f2))) (ds := []) (bm 20 0) (by kernel_rfl) rfl rfl ⟨hx168_0, hx168_1, hx168_2, hx169_0, hx169_1, hx169_2⟩ (fun hHeld => ?_); refine with_tabW spec_CombineMessages.tab7 spec_CombineMessages.bits7 (fun HT_ HW_ => ?_)
             generalize wc.drew = w44 at HO_5 HO_6 BK156 HB hx168_0 hx168_1 hx168_2 hx169_0 hx169_1 hx169_2 hHeld ⊢
             refine pure_ (i := 0) (N := some 25) (v := ?_) (a' := ?_) (bm 20 1) rfl rfl (any_of HT_.out (by kernel_rfl)) (fun _ _ _ h => h) (Or.inl ⟨by rfl, ?_⟩) ?_ ?_
             rotate_left
             ·intro w'
              go_simp
              with_reducible rfl
             rotate_left
             ·simp only [Act.put, List.setIfInBounds_toArray, List.set_cons_zero, List.set_cons_succ, i64_w, i32_w]
              rfl
             refine pure_ (i := 1) (N := some 26) (v := ?_) (a' := ?_) (bm 20 3) rfl rfl (any_of HT_.out (by kernel_rfl)) (fun _ _ _ h => h) (Or.inl ⟨by rfl, ?_⟩) ?_ ?_
             rotate_left
             ·intro w'
              go_simp
              with_reducible rfl
             rotate_left
             ·simp only [Act.put, List.setIfInBounds_toArray, List.set_cons_zero, List.set_cons_succ, i64_w, i32_w]
              rfl
             refine pure_ (i := 2) (N := some 27) (v := ?_) (a' := ?_) (bm 20 7) rfl rfl (any_of HT_.out (by kernel_rfl)) (fun _ _ _ h => h) (Or.inl ⟨by rfl, ?_⟩) ?_ ?_
             rotate_left
             ·intro w'
              go_simp
              with_reducible rfl
             rotate_left
             ·simp only [Act.put, List.setIfInBounds_toArray, List.set_cons_zero, List.set_cons_succ, i64_w, i32_w]
              rfl
             refine pure_ (i := 3) (N := some 28) (v := ?_) (a' := ?_) (bm 20 15) rfl rfl (any_of HT_.out (by kernel_rfl)) (fun _ _ _ h => h) (Or.inl ⟨by rfl, ?_⟩) ?_ ?_
             rotate_left
             ·intro w'
              go_simp
              with_reducible rfl
             rotate_left
             ·simp only [Act.put, List.setIfInBounds_toArray, List.set_cons_zero, List.set_cons_succ, i64_w, i32_w]
              rfl
             refine pure_ (i := 4) (N := some 29) (v := ?_) (a' := ?_) (bm 20 31) rfl rfl (any_of HT_.out (by kernel_rfl)) (fun _ _ _ h => h) (Or.inl ⟨by rfl, ?_⟩) ?_ ?_
             rotate_left
             ·intro w'
              go_simp
              with_reducible rfl
             rotate_left
             ·simp only [Act.put, List.setIfInBounds_toArray, List.set_cons_zero, List.set_cons_succ, i64_w, i32_w]
              rfl
             refine pure_ (i := 5) (N := some 30) (v := ?_) (a' := ?_) (bm 20 63) rfl rfl (any_of HT_.out (by kernel_rfl)) (fun _ _ _ h => h) (Or.inl ⟨by rfl, ?_⟩) ?_ ?_
             rotate_left
             ·intro w'
              go_simp
              with_reducible rfl
             rotate_left
             ·simp only [Act.put, List.setIfInBounds_toArray, List.set_cons_zero, List.set_cons_succ, i64_w, i32_w]
              rfl
             refine pure_ (i := 6) (N := some 31) (v := ?_) (a' := ?_) (bm 20 127) rfl rfl (any_of HT_.out (by kernel_rfl)) (fun _ _ _ h => h) (Or.inl ⟨by rfl, ?_⟩) ?_ ?_
             rotate_left
             ·intro w'
              go_simp
              with_reducible rfl
             rotate_left
             ·simp only [Act.put, List.setIfInBounds_toArray, List.set_cons_zero, List.set_cons_succ, i64_w, i32_w]
              rfl
             refine pure_ (i := 8) (N := some 33) (v := ?_) (a' := ?_) (bm 20 383) rfl rfl (any_of HT_.out (by kernel_rfl)) (fun _ _ _ h => h) (Or.inl ⟨by rfl, ?_⟩) ?_ ?_
             rotate_left
             ·intro w'
              go_simp
              with_reducible rfl
             rotate_left
             ·simp only [Act.put, List.setIfInBounds_toArray, List.set_cons_zero, List.set_cons_succ, i64_w, i32_w]
              rfl
             refine pure_ (i := 9) (N := some 34) (v := ?_) (a' := ?_) (bm 20 895) rfl rfl (any_of HT_.out (by kernel_rfl)) (fun _ _ _ h => h) (Or.inl ⟨by rfl, ?_⟩) ?_ ?_
             rotate_left
             ·intro w'
              go_simp
              with_reducible rfl
             rotate_left
             ·simp only [Act.put, List.setIfInBounds_toArray, List.set_cons_zero, List.set_cons_succ, i64_w, i32_w]
              rfl
             refine pure_ (i := 10) (N := some 35) (v := ?_) (a' := ?_) (bm 20 1919) rfl rfl (any_of HT_.out (by kernel_rfl)) (fun _ _ _ h => h) (Or.inl ⟨by rfl, ?_⟩) ?_ ?_
             rotate_left
             ·intro w'
              go_simp
              with_reducible rfl
             rotate_left
             ·simp only [Act.put, List.setIfInBounds_toArray, List.set_cons_zero, List.set_cons_succ, i64_w, i32_w]
              rfl
             refine pure_ (i := 11) (N := some 36) (v := ?_) (a' := ?_) (bm 20 3967) rfl rfl (any_of HT_.out (by kernel_rfl)) (fun _ _ _ h => h) (Or.inl ⟨by rfl, ?_⟩) ?_ ?_
             rotate_left
             ·intro w'
              go_simp
              with_reducible rfl
             rotate_left
             ·simp only [Act.put, List.setIfInBounds_toArray, List.set_cons_zero, List.set_cons_succ, i64_w, i32_w]
              rfl
             refine take_ (i := 7) (N := some 32) (v := ?_) (a' := ?_) (bm 20 4095) rfl rfl (take_ofW HT_.out HW_.out (by kernel_rfl)) (fun _ _ _ h => h) (Or.inl ⟨by rfl, ?_⟩) hHeld ?_ ?_
             rotate_left
             ·rintro w' ⟨s0, s1, s2, s3, s4, s5⟩
              go_simp
              with_reducible rfl
             rotate_left
             ·simp only [Act.put, List.setIfInBounds_toArray, List.set_cons_zero, List.set_cons_succ, i64_w, i32_w]
              rfl
             refine take_ (i := 12) (N := some 37) (v := ?_) (a' := ?_) (bm 20 8191) rfl rfl (take_ofW HT_.out HW_.out (by kernel_rfl)) (fun _ _ _ h => h) (Or.inl ⟨by rfl, ?_⟩) hHeld ?_ ?_
             rotate_left
             ·rintro w' ⟨s0, s1, s2, s3, s4, s5⟩
              go_simp
              with_reducible rfl
             rotate_left
             ·simp only [Act.put, List.setIfInBounds_toArray, List.set_cons_zero, List.set_cons_succ, i64_w, i32_w]
              rfl
             refine pure_ (i := 13) (N := some 38) (v := ?_) (a' := ?_) (bm 20 16383) rfl rfl (any_of HT_.out (by kernel_rfl)) (fun _ _ _ h => h) (Or.inl ⟨by rfl, ?_⟩) ?_ ?_
             rotate_left
             ·intro w'
              go_simp
              with_reducible rfl
             rotate_left
             ·simp only [Act.put, List.setIfInBounds_toArray, List.set_cons_zero, List.set_cons_succ, i64_w, i32_w]
              rfl
             refine pure_ (i := 14) (N := some 39) (v := ?_) (a' := ?_) (bm 20 32767) rfl rfl (any_of HT_.out (by kernel_rfl)) (fun _ _ _ h => h) (Or.inl ⟨by rfl, ?_⟩) ?_ ?_
             rotate_left
             ·intro w'
              go_simp
              with_reducible rfl
             rotate_left
             ·simp only [Act.put, List.setIfInBounds_toArray, List.set_cons_zero, List.set_cons_succ, i64_w, i32_w]
              rfl
             refine pure_ (i := 15) (N := some 40) (v := ?_) (a' := ?_) (bm 20 65535) rfl rfl (any_of HT_.out (by kernel_rfl)) (fun _ _ _ h => h) (Or.inl ⟨by rfl, ?_⟩) ?_ ?_
             rotate_left
             ·intro w'
              go_simp
              with_reducible rfl
             rotate_left
             ·simp only [Act.put, List.setIfInBounds_toArray, List.set_cons_zero, List.set_cons_succ, i64_w, i32_w]
              rfl
             refine pure_ (i := 16) (N := some 41) (v := undef) (a' := ?_) (bm 20 131071) rfl rfl (any_of HT_.out (by kernel_rfl)) (fun _ _ _ h => h) (Or.inr ⟨by rfl, rfl⟩) ?_ ?_
             rotate_left
             ·simp only [Act.put, List.setIfInBounds_toArray, List.set_cons_zero, List.set_cons_succ, i64_w, i32_w]
              rfl
             refine pure_ (i := 17) (N := some 42) (v := undef) (a' := ?_) (bm 20 262143) rfl rfl (any_of HT_.out (by kernel_rfl)) (fun _ _ _ h => h) (Or.inr ⟨by rfl, rfl⟩) ?_ ?_
             rotate_left
             ·simp only [Act.put, List.setIfInBounds_toArray, List.set_cons_zero, List.set_cons_succ, i64_w, i32_w]
              rfl
             refine pure_ (i := 18) (N := some 43) (v := undef) (a' := ?_) (bm 20 524287) rfl rfl (any_of HT_.out (by kernel_rfl)) (fun _ _ _ h => h) (Or.inr ⟨by rfl, rfl⟩) ?_ ?_
             rotate_left
             ·simp only [Act.put, List.setIfInBounds_toArray, List.set_cons_zero, List.set_cons_succ, i64_w, i32_w]
              rfl
             refine pure_ (i := 19) (N := some 44) (v := ?_) (a' := ?_) (bm 20 1048575) rfl rfl (any_of HT_.out (by kernel_rfl)) (fun _ _ _ h => h) (Or.inl ⟨by rfl, ?_⟩) ?_ ?_
             rotate_left
             ·intro w'
              go_simp
              with_reducible rfl
             rotate_left
             ·simp only [Act.put, List.setIfInBounds_toArray, List.set_cons_zero, List.set_cons_succ, i64_w, i32_w]
              rfl
             refine done_ (done_of HT_.out (by kernel_rfl)) ?_
             have p175 : 0 ≤ (x7_1 : Int) := of_decide_eq_true z4_5
             have q175 : x7_1 < (t160.length : Int) := of_decide_eq_true z4_5
             obtain ⟨ad175, e175, hx175_0, hx175_1, hx175_2⟩ := at_T34 (Kd.R_reads' HO_6.out).2.2 x7_1 p175 q175
             obtain rfl : ad169 = ad175 := (by injection e175)
             replace p175 := eq_true p175
             replace q175 := eq_true q175
             try go_wp2_with (first | ((with_reducible refine gate_builtin (b := .append) (xs := #[.tmp 45, .tmp 50]) rfl ?_); at_builtin; refine Kd.R_append k34 (w0 := w) w.heap.size rfl (.tmp 45) (.tmp 50) 28 34 (.agg #[(.int .i64 0), (.int .i64 0), (.int .i64 0)]) 24 rfl Try.underlying28 info34 rfl (by decide) (by omega) (.slice (some ad168) x5_1.length co43) x5_1 (⟨(rd_T34 t160 x7_1).f0, (rd_T34 t160 x7_1).f1, (rd_T34 t160 x7_1).f2⟩ : S34) [.int .i64 ((rd_T34 t160 x7_1).f0), .int .i64 ((rd_T34 t160 x7_1).f1), .int .i64 ((rd_T34 t160 x7_1).f2)] (fun k_ => some k_ ≠ (.slice (some ad169) t160.length co45 : Value).ownBlock) (fun _ => False) rfl rfl ?aP (fun _ hk => hk.elim) ?aF ?aO ?aB ?aS ?aL ?_; (case aP => exact k34_mkM _ _ _ (⟨(rd_T34 t160 x7_1).f0, (rd_T34 t160 x7_1).f1, (rd_T34 t160 x7_1).f2⟩ : S34)); (case aB => exact z4_1); (case aF => exact (fun k_ hk => Kd.fresh' (Kd.R_lt z4_4) k_ hk)); (case aO => exact z4_3); (case aS => exact (below_size z4_1)); (case aL => have := LMc42.out; omega); intro v177 w46 ho hb hg hat; rw [← Ny176.out] at ho; have n0_ := Aside0.mk (Kd.R_after (ok := (fun _ => True)) z4_6 hg hat); have n1_ := Aside0.mk (blk_grown (g := gb156) (o := .cells #[.int .i64 a0_0, .int .i64 a0_1, .int .i64 a0_2] 47 (0, 0)) z4_2 hg (Kd.R_ne HO_5.out BK156.out (by decide))); have n2_ := Aside0.mk (hb); have n3_ := Aside0.mk (ho); clear HO_6; clear BK156; clear HB; clear HO_5; have HO_6 := n0_; have BK156 := n1_; have HB := n2_; have HO178 := n3_; clear n0_ n1_ n2_ n3_; clear ho hb hg hat))
             go_roundg kj7
             case measure => have := HK1.out; have := HJ7.out; omega
             case rel => exact ⟨(y176), (wrap64 (x7_1 + 1)), z4_10, H', ⟨z4_11⟩, ⟨by (with_reducible repeat (first | apply Kd.R_alloc | apply Kd.R_drewN | apply Kd.R_drew)); exact HO178.out⟩, ⟨z4_9⟩, ⟨z4_2⟩, ⟨z4_1⟩⟩
            ·rw [if_neg c42] at H
             exact absurd H (by simp)
          ·rw [if_neg c28] at H
           exact absurd H (by simp)
         ·rw [if_neg c27] at H
          exact absurd H (by simp)
        ·rw [if_neg c26] at H
         exact absurd H (by simp)
       ·rw [if_neg c25] at H
        exact absurd H (by simp)
     ·replace c15 := Bool.eq_false_iff.mpr c15
      subst c15
      have H1 : (some x5_1) = some r := by rw [if_neg (show ¬ (false = true) by decide)] at H; exact H
      clear H
      have H := H1
      clear H1
      obtain rfl := Option.some.inj H
      go_wp2
      go_ret
      exact ⟨_, by first | rfl | (simp [errW_none, errW_some] <;> rfl) | (simp [*, errW_none, errW_some] <;> rfl), by (with_reducible repeat (first | apply Kd.R_alloc | apply Kd.R_drewN | apply Kd.R_drew)); exact Kd.R_mono HO_5.out (fun _ hk => trivial), z4_1⟩

end Go.Proofs.Ytgdcnlmhdbdijaa.PFnExactCombineMessages
