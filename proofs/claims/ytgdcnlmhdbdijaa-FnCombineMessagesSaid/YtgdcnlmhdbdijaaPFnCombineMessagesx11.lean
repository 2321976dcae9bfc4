/- Laid by a program of this session out of the translation: functions, their contracts, the row. Lean checks it. -/
import Derived.Test.YtgdcnlmhdbdijaaPFnCombineMessagesx0
import Derived.Test.YtgdcnlmhdbdijaaPFnCombineMessagesx10
namespace Go.Proofs.Ytgdcnlmhdbdijaa.PFnCombineMessages
open Go.RowKit Go.Proofs.YtgdcnlmhdbdijaaW.PrintWords Go.Proofs.YtgdcnlmhdbdijaaW.PrintLast Go.Proofs.YtgdcnlmhdbdijaaW.PrintMore
theorem z11_0 {p : Prop} (h : p := by first | (go_simp; done) | (go_simp; rfl)) : p := h
theorem z11_1 {p : Prop} (h : p := by repeat (first | (with_reducible first | exact HK.out | apply KeepBut.set_ | apply keep_drewN | apply keep_drew | apply keep_alloc | refine keep_far ?_ GW246.out _ | refine keep_far ?_ GW249.out _) | exact HK.out)) : p := h
theorem z11_2 {p : Prop} (h : p := by repeat (first | (with_reducible first | exact HI0.out | apply IsS128.alloc | apply IsS128.drewN | apply IsS128.drew | apply IsS128.set_1 | refine IsS128.far ?_ NB0_246.out _ | refine IsS128.far ?_ NB0_249.out _) | exact HI0.out)) : p := h
theorem z11_3 {p : Prop} (h : p := by repeat (first | (with_reducible first | exact HB.out | apply below_alloc | apply pw_below_drewN | apply below_drew1 | refine below_set ?_ (IsS128.ge HI0.out) | refine below_set ?_ GE246.out | refine below_set ?_ GE249.out) | exact HB.out)) : p := h
theorem z11_4 {p : Prop} (h : p := by (with_reducible repeat (first | refine blk_drewN ?_ _ | refine blk_drew ?_ | refine blk_alloc ?_ _)); exact BK246.out) : p := h
theorem z11_5 {p : Prop} (h : p := by (try simp only [List.map_toArray, List.map_cons, List.map_nil]); first | done | rfl | (simp only [List.length_drop, List.length_take]; rfl)) : p := h
theorem z11_6 {p : Prop} (h : p := by (with_reducible repeat (first | refine blk_drewN ?_ _ | refine blk_drew ?_ | refine blk_alloc ?_ _)); exact BK249.out) : p := h
theorem z11_7 {p : Prop} (h : p := by repeat (first | (with_reducible first | exact HB.out | apply below_alloc | apply pw_below_drewN | apply below_drew1) | exact HB.out)) : p := h
theorem z11_8 {p : Prop} (h : p := by (with_reducible repeat (first | refine blk_drewN ?_ _ | refine blk_drew ?_ | refine blk_alloc ?_ _)); refine blk_put (cs := #[.int .i64 (wrap64 (1 + t247)), .int .i64 0, .int .i64 0]) ?_ 2 _ rfl; (with_reducible repeat (first | refine blk_drewN ?_ _ | refine blk_drew ?_ | refine blk_alloc ?_ _)); refine blk_put (cs := #[.int .i64 (wrap64 (1 + t247)), .int .i64 0, .int .i64 0]) ?_ 1 _ rfl; (with_reducible repeat (first | refine blk_drewN ?_ _ | refine blk_drew ?_ | refine blk_alloc ?_ _)); refine blk_put (cs := #[.int .i64 0, .int .i64 0, .int .i64 0]) ?_ 0 _ rfl; (with_reducible repeat (first | refine blk_drewN ?_ _ | refine blk_drew ?_ | refine blk_alloc ?_ _)); exact BK249.out) : p := h
theorem z11_9 {p : Prop} (h : p := by first | rfl | (simp [errW_none, errW_some] <;> rfl) | (simp [*, errW_none, errW_some] <;> rfl)) : p := h
theorem z11_10 {p : Prop} (h : p := by (with_reducible repeat (first | refine blk_drewN ?_ _ | refine blk_drew ?_ | refine blk_alloc ?_ _)); exact BK282.out) : p := h
theorem z11_11 {p : Prop} (h : p := by repeat (first | (with_reducible first | exact HK.out | apply KeepBut.set_ | apply keep_drewN | apply keep_drew | apply keep_alloc | refine keep_far ?_ GW246.out _) | exact HK.out)) : p := h
theorem z11_12 {p : Prop} (h : p := by (with_reducible repeat (first | refine blk_drewN ?_ _ | refine blk_drew ?_ | refine blk_alloc ?_ _)); refine blk_far ?_ NB246_249.out _; (with_reducible repeat (first | refine blk_drewN ?_ _ | refine blk_drew ?_ | refine blk_alloc ?_ _)); refine blk_far ?_ NB246_249.out _; (with_reducible repeat (first | refine blk_drewN ?_ _ | refine blk_drew ?_ | refine blk_alloc ?_ _)); refine blk_far ?_ NB246_249.out _; (with_reducible repeat (first | refine blk_drewN ?_ _ | refine blk_drew ?_ | refine blk_alloc ?_ _)); exact BK246.out) : p := h
theorem z11_13 {p : Prop} (h : p := by first | (with_reducible assumption) | assumption) : p := h
theorem z11_14 {p : Prop} (h : p := by repeat (first | (with_reducible first | exact HB.out | apply below_alloc | apply pw_below_drewN | apply below_drew1 | refine below_set ?_ GE297.out) | exact HB.out)) : p := h
theorem z11_15 {p : Prop} (h : p := by (with_reducible repeat (first | apply Kd.R_alloc | apply Kd.R_drewN | apply Kd.R_drew)); exact Kd.R_mono (Kd.R_far (p := ⟨gb297, 2, none⟩) (Kd.R_far (p := ⟨gb297, 1, none⟩) (Kd.R_far (p := ⟨gb297, 0, none⟩) (Kd.R_types HO_5.out BK297.out (by decide)) (fun _ hk => hk.2) (.int .i64 ((rd_T34 l0 x10_1).f0))) (fun _ hk => hk.2) (.int .i64 ((rd_T34 l0 x10_1).f1))) (fun _ hk => hk.2) (.int .i64 ((rd_T34 l0 x10_1).f2))) (fun _ hk => trivial)) : p := h
theorem z11_16 {p : Prop} (h : p := by repeat (first | (with_reducible first | exact HI0.out | apply IsS128.alloc | apply IsS128.drewN | apply IsS128.drew | apply IsS128.set_1 | refine IsS128.far ?_ NB0_246.out _) | exact HI0.out)) : p := h
theorem z11_17 {p : Prop} (h : p := by repeat (first | (with_reducible first | exact HI0.out | apply IsS128.alloc | apply IsS128.drewN | apply IsS128.drew | apply IsS128.set_1) | exact HI0.out)) : p := h
theorem z11_18 {p : Prop} (h : p := by repeat (first | (with_reducible first | exact HK.out | apply KeepBut.set_ | apply keep_drewN | apply keep_drew | apply keep_alloc) | exact HK.out)) : p := h
theorem z11_19 {p : Prop} (h : p := by (with_reducible repeat (first | refine blk_drewN ?_ _ | refine blk_drew ?_ | refine blk_alloc ?_ _)); refine blk_far ?_ NB246_249.out _; (with_reducible repeat (first | refine blk_drewN ?_ _ | refine blk_drew ?_ | refine blk_alloc ?_ _)); exact BK246.out) : p := h
theorem z11_20 {p : Prop} (h : p := by first | rfl | (simp; done) | (simp [*]; done)) : p := h
theorem z11_21 {p : Prop} (h : p := by repeat (first | (with_reducible first | exact HB.out | apply below_alloc | apply pw_below_drewN | apply below_drew1 | refine below_set ?_ (IsS128.ge HI285.out) | refine below_set ?_ GE282.out) | exact HB.out)) : p := h
theorem z11_22 {p : Prop} (h : p := by (with_reducible repeat (first | apply Kd.R_alloc | apply Kd.R_drewN | apply Kd.R_drew)); exact HO_5.out) : p := h
theorem z11_23 {p : Prop} (h : p := by rw [hg]; exact (below_size z11_7)) : p := h
theorem z11_24 {p : Prop} (h : p := by first | exact Kd.R_nil _ _ _ _ _ | exact Kd.N_nil _ _ _ _ _ | exact Kd.V_nil _ _ _ _ _ | exact Kd.Q_nil _ _ _ _ _ | exact Kd.S_nil _ _ _ _ _) : p := h
attribute [local go_sem] max2_int min2_int max_two min_two max_three min_three max_four min_four   -- for this text's walks alone
set_option linter.unusedVariables false
set_option linter.unusedSimpArgs false

/-! ### spec_l20Program: function 84 -/
mutual
def spec_l20Program.j2 : Nat → Int → List Int → Int → Int → Int → Int → Option (Int × Int × Int × Int)
 | 0, _, _, _, _, _, _ => none
 | k + 1, x2, x1000, x1001, x250000, x250001, x250002 => (spec_l20Rd_odd.f k x1000 x1001 x2).bind fun bt260 => (if bt260.1 = true then ((spec_l20Rd_pick.f k x1000 bt260.2 3).bind fun bt262 => (if bt262.1 = 0 then ((some (([0, 7] : List Int) : List Int)).bind fun y264 => ((spec_l20Rd_pick.f k x1000 bt262.2 2).bind fun bt267 => (if 0 ≤ bt267.1 then (if bt267.1 < (y264.length : Int) then (some (rd y264 bt267.1, x250001, x250002, bt267.2)) else (none)) else (none)))) else (if bt262.1 = 1 then ((some (([(-1), 16] : List Int) : List Int)).bind fun y270 => ((spec_l20Rd_pick.f k x1000 bt262.2 2).bind fun bt273 => (if 0 ≤ bt273.1 then (if bt273.1 < (y270.length : Int) then (some (x250000, rd y270 bt273.1, x250002, bt273.2)) else (none)) else (none)))) else ((some (([(-1), 21] : List Int) : List Int)).bind fun y276 => ((spec_l20Rd_pick.f k x1000 bt262.2 2).bind fun bt279 => (if 0 ≤ bt279.1 then (if bt279.1 < (y276.length : Int) then (some (x250000, x250001, rd y276 bt279.1, bt279.2)) else (none)) else (none))))))) else (some (x250000, x250001, x250002, bt260.2)))
def spec_l20Program.j0 : Nat → Int → Int → Int → Bool → List Int → Int → Int → Int → Int → Option (Int × Int × Int × Int)
 | 0, _, _, _, _, _, _, _, _, _ => none
 | k + 1, x1, x2, x13, x14, x1000, x1001, x250000, x250001, x250002 => if x14 = true then ((spec_l20Rd_pick.f k x1000 x1001 (mx 1 x1)).bind fun bt250 => (spec_l20Program.j2 k x2 x1000 bt250.2 x250000 bt250.1 x250002)) else (if x13 = 4 then (spec_l20Program.j1 k x2 (x13 == 4) x1000 x1001 x250000 x250001 x250002) else (spec_l20Program.j1 k x2 (x13 == 6) x1000 x1001 x250000 x250001 x250002))
def spec_l20Program.j1 : Nat → Int → Bool → List Int → Int → Int → Int → Int → Option (Int × Int × Int × Int)
 | 0, _, _, _, _, _, _, _ => none
 | k + 1, x2, x22, x1000, x1001, x250000, x250001, x250002 => if x22 = true then ((spec_l20Rd_pick.f k x1000 x1001 6).bind fun bt252 => ((some (([wrap64 (1 + bt252.1), 8, 20] : List Int) : List Int)).bind fun y254 => ((spec_l20Rd_pick.f k x1000 bt252.2 3).bind fun bt257 => (if 0 ≤ bt257.1 then (if bt257.1 < (y254.length : Int) then (spec_l20Program.j2 k x2 x1000 bt257.2 x250000 x250001 (rd y254 bt257.1)) else (none)) else (none))))) else (spec_l20Program.j2 k x2 x1000 x1001 x250000 x250001 x250002)
end
def spec_l20Program.f (k : Nat) (s0_0 : List Int) (s0_1 : Int) (a1 : Int) (a2 : Int) : Option (Int × Int × Int × Int) := (spec_l20Rd_pick.f k s0_0 s0_1 6).bind fun bt247 => (if (wrap64 (1 + bt247.1)) = 1 then (spec_l20Program.j0 k a1 a2 (wrap64 (1 + bt247.1)) ((wrap64 (1 + bt247.1)) == 1) s0_0 bt247.2 (wrap64 (1 + bt247.1)) 0 0) else (spec_l20Program.j0 k a1 a2 (wrap64 (1 + bt247.1)) ((wrap64 (1 + bt247.1)) == 2) s0_0 bt247.2 (wrap64 (1 + bt247.1)) 0 0))
theorem spec_l20Program.mono_l : ∀ k, (∀ y0 y1 y2 y3 y4 y5, LeO (spec_l20Program.j2 k y0 y1 y2 y3 y4 y5) (spec_l20Program.j2 (k + 1) y0 y1 y2 y3 y4 y5)) ∧ (∀ y0 y1 y2 y3 y4 y5 y6 y7 y8, LeO (spec_l20Program.j0 k y0 y1 y2 y3 y4 y5 y6 y7 y8) (spec_l20Program.j0 (k + 1) y0 y1 y2 y3 y4 y5 y6 y7 y8)) ∧ (∀ y0 y1 y2 y3 y4 y5 y6, LeO (spec_l20Program.j1 k y0 y1 y2 y3 y4 y5 y6) (spec_l20Program.j1 (k + 1) y0 y1 y2 y3 y4 y5 y6))
 | 0 => ⟨fun _ _ _ _ _ _ r h => by simp [spec_l20Program.j2] at h, fun _ _ _ _ _ _ _ _ _ r h => by simp [spec_l20Program.j0] at h, fun _ _ _ _ _ _ _ r h => by simp [spec_l20Program.j1] at h⟩
 | k + 1 => by
  obtain ⟨ih0, ih1, ih2⟩ := spec_l20Program.mono_l k
  refine ⟨?_, ?_, ?_⟩
  ·intro y0 y1 y2 y3 y4 y5
   unfold spec_l20Program.j2
   repeat' first
   | (with_reducible exact ih0 _ _ _ _ _ _)
   | (with_reducible exact ih1 _ _ _ _ _ _ _ _ _)
   | (with_reducible exact ih2 _ _ _ _ _ _ _)
   | (with_reducible exact spec_l20Rd_odd.mono _ _ _ _)
   | (with_reducible exact spec_l20Rd_pick.mono _ _ _ _)
   | (with_reducible exact LeO.refl _)
   | (with_reducible exact LeO.none _)
   | (with_reducible refine LeO.ite ?_ ?_)
   | (with_reducible refine LeO.bind ?_ (fun _ => ?_))
   | exact ih0 _ _ _ _ _ _
   | exact ih1 _ _ _ _ _ _ _ _ _
   | exact ih2 _ _ _ _ _ _ _
   | exact spec_l20Rd_odd.mono _ _ _ _
   | exact spec_l20Rd_pick.mono _ _ _ _
   | exact LeO.none _
   | refine LeO.ite ?_ ?_
   | refine LeO.bind ?_ (fun _ => ?_)
  ·intro y0 y1 y2 y3 y4 y5 y6 y7 y8
   unfold spec_l20Program.j0
   repeat' first
   | (with_reducible exact ih0 _ _ _ _ _ _)
   | (with_reducible exact ih1 _ _ _ _ _ _ _ _ _)
   | (with_reducible exact ih2 _ _ _ _ _ _ _)
   | (with_reducible exact spec_l20Rd_odd.mono _ _ _ _)
   | (with_reducible exact spec_l20Rd_pick.mono _ _ _ _)
   | (with_reducible exact LeO.refl _)
   | (with_reducible exact LeO.none _)
   | (with_reducible refine LeO.ite ?_ ?_)
   | (with_reducible refine LeO.bind ?_ (fun _ => ?_))
   | exact ih0 _ _ _ _ _ _
   | exact ih1 _ _ _ _ _ _ _ _ _
   | exact ih2 _ _ _ _ _ _ _
   | exact spec_l20Rd_odd.mono _ _ _ _
   | exact spec_l20Rd_pick.mono _ _ _ _
   | exact LeO.none _
   | refine LeO.ite ?_ ?_
   | refine LeO.bind ?_ (fun _ => ?_)
  ·intro y0 y1 y2 y3 y4 y5 y6
   unfold spec_l20Program.j1
   repeat' first
   | (with_reducible exact ih0 _ _ _ _ _ _)
   | (with_reducible exact ih1 _ _ _ _ _ _ _ _ _)
   | (with_reducible exact ih2 _ _ _ _ _ _ _)
   | (with_reducible exact spec_l20Rd_odd.mono _ _ _ _)
   | (with_reducible exact spec_l20Rd_pick.mono _ _ _ _)
   | (with_reducible exact LeO.refl _)
   | (with_reducible exact LeO.none _)
   | (with_reducible refine LeO.ite ?_ ?_)
   | (with_reducible refine LeO.bind ?_ (fun _ => ?_))
   | exact ih0 _ _ _ _ _ _
   | exact ih1 _ _ _ _ _ _ _ _ _
   | exact ih2 _ _ _ _ _ _ _
   | exact spec_l20Rd_odd.mono _ _ _ _
   | exact spec_l20Rd_pick.mono _ _ _ _
   | exact LeO.none _
   | refine LeO.ite ?_ ?_
   | refine LeO.bind ?_ (fun _ => ?_)
theorem spec_l20Program.mono : ∀ a0 a1 a2 a3 k, LeO (spec_l20Program.f k a0 a1 a2 a3) (spec_l20Program.f (k + 1) a0 a1 a2 a3) := by
 intro a0 a1 a2 a3 k
 obtain ⟨ih0, ih1, ih2⟩ := spec_l20Program.mono_l k
 unfold spec_l20Program.f
 repeat' first
   | (with_reducible exact ih0 _ _ _ _ _ _)
   | (with_reducible exact ih1 _ _ _ _ _ _ _ _ _)
   | (with_reducible exact ih2 _ _ _ _ _ _ _)
   | (with_reducible exact spec_l20Rd_odd.mono _ _ _ _)
   | (with_reducible exact spec_l20Rd_pick.mono _ _ _ _)
   | (with_reducible exact LeO.refl _)
   | (with_reducible exact LeO.none _)
   | (with_reducible refine LeO.ite ?_ ?_)
   | (with_reducible refine LeO.bind ?_ (fun _ => ?_))
   | exact ih0 _ _ _ _ _ _
   | exact ih1 _ _ _ _ _ _ _ _ _
   | exact ih2 _ _ _ _ _ _ _
   | exact spec_l20Rd_odd.mono _ _ _ _
   | exact spec_l20Rd_pick.mono _ _ _ _
   | exact LeO.none _
   | refine LeO.ite ?_ ?_
   | refine LeO.bind ?_ (fun _ => ?_)
set_option maxHeartbeats 8000000 in
set_option maxRecDepth 100000 in
theorem spec_l20Program.calls (k : Nat) (g : Nat) (s0_0 : List Int) (s0_1 : Int) (a1 : Int) (a2 : Int) (r1 : Int) (r2 : Int) (r3 : Int) (r4 : Int) (w0 w : World) (hI : IsS128 w0 w g s0_0 s0_1) (hB : Below w0.heap.size w0 w) (h : spec_l20Program.f k s0_0 s0_1 a1 a2 = some (r1, r2, r3, r4)) :
  Calls Try.prog 84 #[.pointer (some ⟨g, 0, none⟩), .int .i64 a1, .int .i64 a2] w fun e w' => e = .returned (.agg #[.int .i64 r1, .int .i64 r2, .int .i64 r3]) ∧ IsS128 w0 w' g s0_0 r4 ∧ Below w0.heap.size w0 w' ∧ KeepBut w w' g none := by
 have hu47 := Try.underlying47
 have HI0 := Aside0.mk hI
 have HK := Aside0.mk (KeepBut.refl w g none)
 have HL := Aside0.mk hB.size
 clear hI
 have HW0 := Aside0.mk hB.size
 have HB := Aside0.mk hB
 clear hB
 have H : ((spec_l20Rd_pick.f k s0_0 s0_1 6).bind fun bt247 => (if (wrap64 (1 + bt247.1)) = 1 then (spec_l20Program.j0 k a1 a2 (wrap64 (1 + bt247.1)) ((wrap64 (1 + bt247.1)) == 1) s0_0 bt247.2 (wrap64 (1 + bt247.1)) 0 0) else (spec_l20Program.j0 k a1 a2 (wrap64 (1 + bt247.1)) ((wrap64 (1 + bt247.1)) == 2) s0_0 bt247.2 (wrap64 (1 + bt247.1)) 0 0))) = some (r1, r2, r3, r4) := h
 clear h
 replace H := Option.bind_eq_some_iff.mp H
 obtain ⟨⟨t247, t248⟩, A40, H⟩ := H
 replace H : (if (wrap64 (1 + t247)) = 1 then (spec_l20Program.j0 k a1 a2 (wrap64 (1 + t247)) ((wrap64 (1 + t247)) == 1) s0_0 t248 (wrap64 (1 + t247)) 0 0) else (spec_l20Program.j0 k a1 a2 (wrap64 (1 + t247)) ((wrap64 (1 + t247)) == 2) s0_0 t248 (wrap64 (1 + t247)) 0 0)) = some (r1, r2, r3, r4) := H
 have A4 := Aside0.mk A40
 clear A40
 have HC5 := Aside0.mk H
 clear H
 go_enter Try.func84, Try.ntmps84
 go_upto_block 0 with (first | ((with_reducible refine gate_dst (N := 6) rfl ?_); refine box_event ?hg (N := 6) ?hd (cs := #[.int .i64 0, .int .i64 0, .int .i64 0]) (t := 47) ?hr ?_; (case hd => rfl); (case hg => rfl); (case hr => exact z11_0); intro gb246 hg w6 hbox hb; have n0_ := Aside0.mk (IsS128.below z11_17 hb); have n1_ := Aside0.mk (KeepBut.trans z11_18 (KeepBut.of_below hb g none) (.inl rfl)); have n2_ := Aside0.mk (below_step (by repeat (first | (with_reducible first | exact HB.out | apply below_alloc | apply pw_below_drewN | apply below_drew1 | refine below_set ?_ (IsS128.ge HI0.out)) | exact HB.out)) hb); have n3_ := Aside0.mk (hbox); have n4_ := Aside0.mk ((by rw [hg]; exact (keep_size (w := w) (g := g) (row := none) z11_18) : w.heap.size ≤ gb246)); have n5_ := Aside0.mk ((Nat.le_trans HW0.out (by rw [hg]; exact (keep_size (w := w) (g := g) (row := none) z11_18) : w.heap.size ≤ gb246) : w0.heap.size ≤ gb246)); have n6_ := Aside0.mk ((by rw [hg]; exact Nat.ne_of_lt (IsS128.lt (show IsS128 w0 _ g s0_0 s0_1 from z11_17)) : g ≠ gb246)); have n7_ := Aside0.mk ((by rw [hg]; exact Nat.ne_of_gt (IsS128.lt (show IsS128 w0 _ g s0_0 s0_1 from z11_17)) : gb246 ≠ g)); clear HI0; clear HK; clear HB; have HI0 := n0_; have HK := n1_; have HB := n2_; have BK246 := n3_; have GW246 := n4_; have GE246 := n5_; have NB0_246 := n6_; have NB246_0 := n7_; clear n0_ n1_ n2_ n3_ n4_ n5_ n6_ n7_; clear hb hbox hg) | ((with_reducible refine gate_callee (f := 67) rfl ?_); refine goesL_ (some 9) rfl rfl Try.func67 (by kernel_rfl) rfl #[.pointer (some ⟨g, 0, none⟩), .int .i64 6] rfl z11_5 ?_; (with_reducible refine (spec_l20Rd_pick.calls k g s0_0 s0_1 6 t247 t248 w0 _ ?side1 ?side2 A4.out).mono ?_); (case side1 => repeat (first | (with_reducible first | exact HI0.out | apply IsS128.alloc | apply IsS128.drewN | apply IsS128.drew | apply IsS128.set_1 | refine IsS128.far ?_ NB0_246.out _) | exact HI0.out)); (case side2 => repeat (first | (with_reducible first | exact HB.out | apply below_alloc | apply pw_below_drewN | apply below_drew1 | refine below_set ?_ (IsS128.ge HI0.out) | refine below_set ?_ GE246.out) | exact HB.out)); rintro e w7 ⟨rfl, hi, hb, hk⟩; refine ⟨_, rfl, ?_⟩; have n0_ := Aside0.mk (KeepBut.blk hk (g' := gb246) (o := .cells #[.int .i64 0, .int .i64 0, .int .i64 0] 47 (0, 0)) z11_4 NB246_0.out (by simp)); have n1_ := Aside0.mk (KeepBut.trans z11_11 hk (.inl rfl)); have n2_ := Aside0.mk (hb); have n3_ := Aside0.mk (hi); clear BK246; clear HK; clear HB; clear HI0; have BK246 := n0_; have HK := n1_; have HB := n2_; have HI0 := n3_; clear n0_ n1_ n2_ n3_; (try clear hb); (try clear hb2); (try clear hk); (try clear hi)) | ((with_reducible refine gate_dst (N := 7) rfl ?_); refine box_event ?hg (N := 7) ?hd (cs := #[.int .i64 0, .int .i64 0, .int .i64 0]) (t := 47) ?hr ?_; (case hd => rfl); (case hg => rfl); (case hr => exact z11_0); intro gb249 hg w8 hbox hb; have n0_ := Aside0.mk (IsS128.below z11_16 hb); have n1_ := Aside0.mk (blk_below (g := gb246) (o := .cells #[.int .i64 0, .int .i64 0, .int .i64 0] 47 (0, 0)) z11_4 hb); have n2_ := Aside0.mk (KeepBut.trans z11_11 (KeepBut.of_below hb g none) (.inl rfl)); have n3_ := Aside0.mk (below_step (by repeat (first | (with_reducible first | exact HB.out | apply below_alloc | apply pw_below_drewN | apply below_drew1 | refine below_set ?_ (IsS128.ge HI0.out) | refine below_set ?_ GE246.out) | exact HB.out)) hb); have n4_ := Aside0.mk (hbox); have n5_ := Aside0.mk ((by rw [hg]; exact (keep_size (w := w) (g := g) (row := none) z11_11) : w.heap.size ≤ gb249)); have n6_ := Aside0.mk ((Nat.le_trans HW0.out (by rw [hg]; exact (keep_size (w := w) (g := g) (row := none) z11_11) : w.heap.size ≤ gb249) : w0.heap.size ≤ gb249)); have n7_ := Aside0.mk ((by rw [hg]; exact Nat.ne_of_lt (blk_lt (g := gb246) (o := .cells #[.int .i64 0, .int .i64 0, .int .i64 0] 47 (0, 0)) z11_4) : gb246 ≠ gb249)); have n8_ := Aside0.mk ((by rw [hg]; exact Nat.ne_of_gt (blk_lt (g := gb246) (o := .cells #[.int .i64 0, .int .i64 0, .int .i64 0] 47 (0, 0)) z11_4) : gb249 ≠ gb246)); have n9_ := Aside0.mk ((by rw [hg]; exact Nat.ne_of_lt (IsS128.lt (show IsS128 w0 _ g s0_0 t248 from z11_16)) : g ≠ gb249)); have n10_ := Aside0.mk ((by rw [hg]; exact Nat.ne_of_gt (IsS128.lt (show IsS128 w0 _ g s0_0 t248 from z11_16)) : gb249 ≠ g)); clear HI0; clear BK246; clear HK; clear HB; have HI0 := n0_; have BK246 := n1_; have HK := n2_; have HB := n3_; have BK249 := n4_; have GW249 := n5_; have GE249 := n6_; have NB246_249 := n7_; have NB249_246 := n8_; have NB0_249 := n9_; have NB249_0 := n10_; clear n0_ n1_ n2_ n3_ n4_ n5_ n6_ n7_ n8_ n9_ n10_; clear hb hbox hg; have hnb9 := NB249_246.out; have hnc9 := NB246_249.out; have hnb10 := NB249_0.out; have hnc10 := NB0_249.out; have hcz11_0 : w8.cell? ⟨gb249, 0, none⟩ = some (.int .i64 0) := (blk_cell BK249.out 0).trans rfl; have hcz11_1 : w8.cell? ⟨gb249, 1, none⟩ = some (.int .i64 0) := (blk_cell BK249.out 1).trans rfl; have hcz11_2 : w8.cell? ⟨gb249, 2, none⟩ = some (.int .i64 0) := (blk_cell BK249.out 2).trans rfl; have hfz11_0 := blk_frozen BK249.out 0; have hfz11_1 := blk_frozen BK249.out 1; have hfz11_2 := blk_frozen BK249.out 2))
 (try simp only [Act.put, List.setIfInBounds_toArray, List.set_cons_zero, List.set_cons_succ])
 go_cut [] (fun wc => ∃ (kq : Nat) (x1001_4 : Int) (x250001_4 : Int) (x250002_4 : Int), Aside0 (spec_l20Program.j2 kq a2 s0_0 x1001_4 (wrap64 (1 + t247)) x250001_4 x250002_4 = some (r1, r2, r3, r4)) ∧ Aside0 (kq ≤ k) ∧ Aside0 (wc.heap[gb246]? = some (.cells #[.int .i64 0, .int .i64 0, .int .i64 0] 47 (0, 0))) ∧ Aside0 (wc.heap[gb249]? = some (.cells #[.int .i64 (wrap64 (1 + t247)), .int .i64 x250001_4, .int .i64 x250002_4] 47 (0, 0))) ∧ Aside0 (IsS128 w0 wc g s0_0 x1001_4) ∧ Aside0 (KeepBut w wc g none) ∧ Aside0 (Below w0.heap.size w0 wc))
 case first =>
  have H := HC5.out
  clear HC5
  have HC12 := Aside0.mk H
  clear H
  go_upto_if 14 with (fail)
  go_cut [14] (fun v14 wc => ∃ (kq : Nat) (x14_11 : Bool), v14 = .bool x14_11 ∧ Aside0 (spec_l20Program.j0 kq a1 a2 (wrap64 (1 + t247)) x14_11 s0_0 t248 (wrap64 (1 + t247)) 0 0 = some (r1, r2, r3, r4)) ∧ Aside0 (kq ≤ k) ∧ Aside0 (wc.heap[gb246]? = some (.cells #[.int .i64 0, .int .i64 0, .int .i64 0] 47 (0, 0))) ∧ Aside0 (wc.heap[gb249]? = some (.cells #[.int .i64 (wrap64 (1 + t247)), .int .i64 0, .int .i64 0] 47 (0, 0))) ∧ Aside0 (IsS128 w0 wc g s0_0 t248) ∧ Aside0 (KeepBut w wc g none) ∧ Aside0 (Below w0.heap.size w0 wc))
  case first =>
   have H := HC12.out
   clear HC12
   by_cases c13 : (wrap64 (1 + t247)) = 1
   ·rw [if_pos c13] at H
    have c13b0 : ((wrap64 (1 + t247)) == 1) = true := beq_iff_eq.mpr c13
    have c13b1 : ((wrap64 (1 + t247)) != 1) = false := bne_eq_false_iff_eq.mpr c13
    clear c13
    (first | rw [c13b0] | (simp only [i64_w, i32_w]; rw [c13b0]) | skip)
    have H' := Aside0.mk H
    clear H
    go_wp2
    go_meet
    case rel => exact ⟨_, (((wrap64 (1 + t247)) == 1)), z11_20, H', ⟨by first | omega | exact Nat.le_refl _⟩, ⟨z11_12⟩, ⟨z11_8⟩, ⟨z11_2⟩, ⟨z11_1⟩, ⟨z11_3⟩⟩
   ·rw [if_neg c13] at H
    have c13b0 : ((wrap64 (1 + t247)) == 1) = false := beq_eq_false_iff_ne.mpr c13
    have c13b1 : ((wrap64 (1 + t247)) != 1) = true := bne_iff_ne.mpr c13
    (first | rw [c13b0] | (simp only [i64_w, i32_w]; rw [c13b0]) | skip)
    have H' := Aside0.mk H
    clear H
    go_wp2
    go_meet
    case rel => exact ⟨_, (((wrap64 (1 + t247)) == 2)), z11_20, H', ⟨by first | omega | exact Nat.le_refl _⟩, ⟨z11_12⟩, ⟨z11_8⟩, ⟨z11_2⟩, ⟨z11_1⟩, ⟨z11_3⟩⟩
  case rest =>
   clear HC12
   try clear c1
   try clear p2
   try clear c6
   try clear p6
   try clear c8
   try clear c9
   try clear c10
   try clear c13
   try clear c13b0
   try clear c13b1
   try clear hcz11_0
   try clear hcz11_1
   try clear hcz11_2
   try clear hfz11_0
   try clear hfz11_1
   try clear hfz11_2
   obtain ⟨kq, x14_11, rfl, HA, HJ11, BK246, BK249, HI0, HK, HB⟩ := hcut
   cases kq with
   | zero => exact absurd HA.out (by simp [spec_l20Program.j0])
   | succ kj11 =>
    have H := HA.out
    clear HA
    simp only [spec_l20Program.j0] at H
    by_cases c14 : x14_11 = true
    ·subst c14
     have H1 : ((spec_l20Rd_pick.f kj11 s0_0 t248 (mx 1 a1)).bind fun bt250 => (spec_l20Program.j2 kj11 a2 s0_0 bt250.2 (wrap64 (1 + t247)) bt250.1 0)) = some (r1, r2, r3, r4) := by rw [if_pos rfl] at H; exact H
     clear H
     have H := H1
     clear H1
     obtain ⟨ji15, hji15⟩ : ∃ j_ : Int, (mx 1 a1) = j_ := ⟨_, rfl⟩
     replace H : ((spec_l20Rd_pick.f kj11 s0_0 t248 (ji15)).bind fun bt250 => (spec_l20Program.j2 kj11 a2 s0_0 bt250.2 (wrap64 (1 + t247)) bt250.1 0)) = some (r1, r2, r3, r4) := by first | (rw [hji15] at H; exact H) | (simp only [hji15] at H ⊢; exact H)
     have hji15_ : (if 1 < a1 then a1 else 1) = ji15 := hji15
     replace H := Option.bind_eq_some_iff.mp H
     obtain ⟨⟨t250, t251⟩, A160, H⟩ := H
     replace H : (spec_l20Program.j2 kj11 a2 s0_0 t251 (wrap64 (1 + t247)) t250 0) = some (r1, r2, r3, r4) := H
     have A16 := Aside0.mk A160
     clear A160
     have H' := Aside0.mk H
     clear H
     go_wp2_with (first | ((with_reducible refine gate_callee (f := 67) rfl ?_); refine goesL_ (some 20) rfl rfl Try.func67 (by kernel_rfl) rfl #[.pointer (some ⟨g, 0, none⟩), .int .i64 ji15] rfl (by (try simp only [List.map_toArray, List.map_cons, List.map_nil]); first | done | (simp only [hji15]; rfl) | rfl | (simp only [List.length_drop, List.length_take]; rfl)) ?_; (with_reducible refine (spec_l20Rd_pick.calls kj11 g s0_0 t248 ji15 t250 t251 w0 _ ?side1 ?side2 A16.out).mono ?_); (case side1 => repeat (first | (with_reducible first | exact HI0.out | apply IsS128.alloc | apply IsS128.drewN | apply IsS128.drew | apply IsS128.set_1 | refine IsS128.far ?_ NB0_246.out _ | refine IsS128.far ?_ NB0_249.out _) | exact HI0.out)); (case side2 => repeat (first | (with_reducible first | exact HB.out | apply below_alloc | apply pw_below_drewN | apply below_drew1 | refine below_set ?_ (IsS128.ge HI0.out) | refine below_set ?_ GE246.out | refine below_set ?_ GE249.out) | exact HB.out)); rintro e w17 ⟨rfl, hi, hb, hk⟩; refine ⟨_, rfl, ?_⟩; have n0_ := Aside0.mk (KeepBut.blk hk (g' := gb246) (o := .cells #[.int .i64 0, .int .i64 0, .int .i64 0] 47 (0, 0)) z11_4 NB246_0.out (by simp)); have n1_ := Aside0.mk (KeepBut.blk hk (g' := gb249) (o := .cells #[.int .i64 (wrap64 (1 + t247)), .int .i64 0, .int .i64 0] 47 (0, 0)) z11_6 NB249_0.out (by simp)); have n2_ := Aside0.mk (KeepBut.trans z11_1 hk (.inl rfl)); have n3_ := Aside0.mk (hb); have n4_ := Aside0.mk (hi); clear BK246; clear BK249; clear HK; clear HB; clear HI0; have BK246 := n0_; have BK249 := n1_; have HK := n2_; have HB := n3_; have HI0 := n4_; clear n0_ n1_ n2_ n3_ n4_; (try clear hb); (try clear hb2); (try clear hk); (try clear hi); have hnb18 := NB249_246.out; have hnc18 := NB246_249.out; have hnb19 := NB249_0.out; have hnc19 := NB0_249.out; have hcz20_0 : w17.cell? ⟨gb249, 0, none⟩ = some (.int .i64 (wrap64 (1 + t247))) := (blk_cell BK249.out 0).trans rfl; have hcz20_1 : w17.cell? ⟨gb249, 1, none⟩ = some (.int .i64 0) := (blk_cell BK249.out 1).trans rfl; have hcz20_2 : w17.cell? ⟨gb249, 2, none⟩ = some (.int .i64 0) := (blk_cell BK249.out 2).trans rfl; have hfz20_0 := blk_frozen BK249.out 0; have hfz20_1 := blk_frozen BK249.out 1; have hfz20_2 := blk_frozen BK249.out 2))
     go_meet
     case rel => exact ⟨_, (t251), (t250), (0), H', ⟨by have := HJ11.out; first | omega | exact Nat.le_refl _⟩, ⟨z11_19⟩, ⟨by (with_reducible repeat (first | refine blk_drewN ?_ _ | refine blk_drew ?_ | refine blk_alloc ?_ _)); refine blk_put (cs := #[.int .i64 (wrap64 (1 + t247)), .int .i64 0, .int .i64 0]) ?_ 1 _ rfl; (with_reducible repeat (first | refine blk_drewN ?_ _ | refine blk_drew ?_ | refine blk_alloc ?_ _)); exact BK249.out⟩, ⟨z11_2⟩, ⟨z11_1⟩, ⟨z11_3⟩⟩
    ·replace c14 := Bool.eq_false_iff.mpr c14
     subst c14
     have H1 : (if (wrap64 (1 + t247)) = 4 then (spec_l20Program.j1 kj11 a2 ((wrap64 (1 + t247)) == 4) s0_0 t248 (wrap64 (1 + t247)) 0 0) else (spec_l20Program.j1 kj11 a2 ((wrap64 (1 + t247)) == 6) s0_0 t248 (wrap64 (1 + t247)) 0 0)) = some (r1, r2, r3, r4) := by rw [if_neg (show ¬ (false = true) by decide)] at H; exact H
     clear H
     have H := H1
     clear H1
     have HC21 := Aside0.mk H
     clear H
     go_upto_if 22 with (fail)
     go_cut [22] (fun v22 wc => ∃ (kq : Nat) (x22_20 : Bool), v22 = .bool x22_20 ∧ Aside0 (spec_l20Program.j1 kq a2 x22_20 s0_0 t248 (wrap64 (1 + t247)) 0 0 = some (r1, r2, r3, r4)) ∧ Aside0 (kq ≤ kj11) ∧ Aside0 (wc.heap[gb246]? = some (.cells #[.int .i64 0, .int .i64 0, .int .i64 0] 47 (0, 0))) ∧ Aside0 (wc.heap[gb249]? = some (.cells #[.int .i64 (wrap64 (1 + t247)), .int .i64 0, .int .i64 0] 47 (0, 0))) ∧ Aside0 (IsS128 w0 wc g s0_0 t248) ∧ Aside0 (KeepBut w wc g none) ∧ Aside0 (Below w0.heap.size w0 wc))
     case first =>
      have H := HC21.out
      clear HC21
      by_cases c22 : (wrap64 (1 + t247)) = 4
      ·rw [if_pos c22] at H
       have c22b0 : ((wrap64 (1 + t247)) == 4) = true := beq_iff_eq.mpr c22
       have c22b1 : ((wrap64 (1 + t247)) != 4) = false := bne_eq_false_iff_eq.mpr c22
       clear c22
       (first | rw [c22b0] | (simp only [i64_w, i32_w]; rw [c22b0]) | skip)
       have H' := Aside0.mk H
       clear H
       go_wp2
       go_meet
       case rel => exact ⟨_, (((wrap64 (1 + t247)) == 4)), z11_20, H', ⟨by have := HJ11.out; first | omega | exact Nat.le_refl _⟩, ⟨z11_4⟩, ⟨z11_6⟩, ⟨z11_2⟩, ⟨z11_1⟩, ⟨z11_3⟩⟩
      ·rw [if_neg c22] at H
       have c22b0 : ((wrap64 (1 + t247)) == 4) = false := beq_eq_false_iff_ne.mpr c22
       have c22b1 : ((wrap64 (1 + t247)) != 4) = true := bne_iff_ne.mpr c22
       (first | rw [c22b0] | (simp only [i64_w, i32_w]; rw [c22b0]) | skip)
       have H' := Aside0.mk H
       clear H
       go_wp2
       go_meet
       case rel => exact ⟨_, (((wrap64 (1 + t247)) == 6)), z11_20, H', ⟨by have := HJ11.out; first | omega | exact Nat.le_refl _⟩, ⟨z11_4⟩, ⟨z11_6⟩, ⟨z11_2⟩, ⟨z11_1⟩, ⟨z11_3⟩⟩
     case rest =>
      clear HC21
      try clear c1
      try clear c2
      try clear p2
      try clear c6
      try clear p6
      try clear c8
      try clear c9
      try clear c10
      try clear c13
      try clear c13b0
      try clear c13b1
      try clear c14
      try clear c18
      try clear c19
      try clear c22
      try clear c22b0
      try clear c22b1
      try clear hcz11_0
      try clear hcz11_1
      try clear hcz11_2
      try clear hcz20_0
      try clear hcz20_1
      try clear hcz20_2
      try clear hfz11_0
      try clear hfz11_1
      try clear hfz11_2
      try clear hfz20_0
      try clear hfz20_1
      try clear hfz20_2
      try clear p2
      try clear p6
      obtain ⟨kq, x22_20, rfl, HA, HJ20, BK246, BK249, HI0, HK, HB⟩ := hcut
      cases kq with
      | zero => exact absurd HA.out (by simp [spec_l20Program.j1])
      | succ kj20 =>
       have H := HA.out
       clear HA
       simp only [spec_l20Program.j1] at H
       by_cases c23 : x22_20 = true
       ·subst c23
        have H1 : ((spec_l20Rd_pick.f kj20 s0_0 t248 6).bind fun bt252 => ((some (([wrap64 (1 + bt252.1), 8, 20] : List Int) : List Int)).bind fun y254 => ((spec_l20Rd_pick.f kj20 s0_0 bt252.2 3).bind fun bt257 => (if 0 ≤ bt257.1 then (if bt257.1 < (y254.length : Int) then (spec_l20Program.j2 kj20 a2 s0_0 bt257.2 (wrap64 (1 + t247)) 0 (rd y254 bt257.1)) else (none)) else (none))))) = some (r1, r2, r3, r4) := by rw [if_pos rfl] at H; exact H
        clear H
        have H := H1
        clear H1
        replace H := Option.bind_eq_some_iff.mp H
        obtain ⟨⟨t252, t253⟩, A240, H⟩ := H
        replace H : ((some (([wrap64 (1 + t252), 8, 20] : List Int) : List Int)).bind fun y254 => ((spec_l20Rd_pick.f kj20 s0_0 t253 3).bind fun bt257 => (if 0 ≤ bt257.1 then (if bt257.1 < (y254.length : Int) then (spec_l20Program.j2 kj20 a2 s0_0 bt257.2 (wrap64 (1 + t247)) 0 (rd y254 bt257.1)) else (none)) else (none)))) = some (r1, r2, r3, r4) := H
        have A24 := Aside0.mk A240
        clear A240
        obtain ⟨y254, hy254⟩ : ∃ y_ : List Int, y_ = (([wrap64 (1 + t252), 8, 20] : List Int)) := ⟨_, rfl⟩
        replace H : ((spec_l20Rd_pick.f kj20 s0_0 t253 3).bind fun bt257 => (if 0 ≤ bt257.1 then (if bt257.1 < (y254.length : Int) then (spec_l20Program.j2 kj20 a2 s0_0 bt257.2 (wrap64 (1 + t247)) 0 (rd y254 bt257.1)) else (none)) else (none))) = some (r1, r2, r3, r4) := by first | (rw [hy254]; with_reducible exact H) | (have H2_ := (Option.bind_some _ _).symm.trans H; rw [hy254]; with_reducible exact H2_) | (have H2_ := (Option.bind_some _ _).symm.trans H; with_reducible exact H2_) | with_reducible exact H | (rw [hy254]; exact H) | exact H
        have Ny254 := Aside0.mk hy254
        clear hy254
        replace H := Option.bind_eq_some_iff.mp H
        obtain ⟨⟨t257, t258⟩, A250, H⟩ := H
        replace H : (if 0 ≤ t257 then (if t257 < (y254.length : Int) then (spec_l20Program.j2 kj20 a2 s0_0 t258 (wrap64 (1 + t247)) 0 (rd y254 t257)) else (none)) else (none)) = some (r1, r2, r3, r4) := H
        have A25 := Aside0.mk A250
        clear A250
        by_cases c26 : 0 ≤ t257
        ·rw [if_pos c26] at H
         have c26b0 : decide (0 ≤ t257) = true := decide_eq_true c26
         clear c26
         by_cases c27 : t257 < (y254.length : Int)
         ·rw [if_pos c27] at H
          have c27b0 : decide (t257 < (y254.length : Int)) = true := decide_eq_true c27
          clear c27
          have H' := Aside0.mk H
          clear H
          go_wp2_with (first | ((with_reducible refine gate_callee (f := 67) rfl ?_); refine goesL_ (some 26) rfl rfl Try.func67 (by kernel_rfl) rfl #[.pointer (some ⟨g, 0, none⟩), .int .i64 6] rfl z11_5 ?_; (with_reducible refine (spec_l20Rd_pick.calls kj20 g s0_0 t248 6 t252 t253 w0 _ ?side1 ?side2 A24.out).mono ?_); (case side1 => repeat (first | (with_reducible first | exact HI0.out | apply IsS128.alloc | apply IsS128.drewN | apply IsS128.drew | apply IsS128.set_1 | refine IsS128.far ?_ NB0_246.out _ | refine IsS128.far ?_ NB0_249.out _) | exact HI0.out)); (case side2 => repeat (first | (with_reducible first | exact HB.out | apply below_alloc | apply pw_below_drewN | apply below_drew1 | refine below_set ?_ (IsS128.ge HI0.out) | refine below_set ?_ GE246.out | refine below_set ?_ GE249.out) | exact HB.out)); rintro e w28 ⟨rfl, hi, hb, hk⟩; refine ⟨_, rfl, ?_⟩; have n0_ := Aside0.mk (KeepBut.blk hk (g' := gb246) (o := .cells #[.int .i64 0, .int .i64 0, .int .i64 0] 47 (0, 0)) z11_4 NB246_0.out (by simp)); have n1_ := Aside0.mk (KeepBut.blk hk (g' := gb249) (o := .cells #[.int .i64 (wrap64 (1 + t247)), .int .i64 0, .int .i64 0] 47 (0, 0)) z11_6 NB249_0.out (by simp)); have n2_ := Aside0.mk (KeepBut.trans z11_1 hk (.inl rfl)); have n3_ := Aside0.mk (hb); have n4_ := Aside0.mk (hi); clear BK246; clear BK249; clear HK; clear HB; clear HI0; have BK246 := n0_; have BK249 := n1_; have HK := n2_; have HB := n3_; have HI0 := n4_; clear n0_ n1_ n2_ n3_ n4_; (try clear hb); (try clear hb2); (try clear hk); (try clear hi)) | ((with_reducible refine gate_dst (N := 28) rfl ?_); refine Kd.R_lit (Kd.int .i64) _ 3 ?hg (N := 28) ?hd (xs := ([wrap64 (1 + t252), 8, 20] : List Int)) (inner := [.int .i64 (wrap64 (1 + t252)), .int .i64 8, .int .i64 20]) (ok := fun _ => True) (okp := fun _ => True) ?hr ?hp (fun _ hk => hk) trivial (Below.refl _ _) (Nat.le_refl _) (by simp) ?_; (case hd => rfl); (case hg => rfl); (case hr => exact z11_0); (case hp => exact (Reps.one (show Kd.M (Kd.int .i64) _ _ _ (wrap64 (1 + t252)) [.int .i64 (wrap64 (1 + t252))] from rfl) (Reps.one (show Kd.M (Kd.int .i64) _ _ _ 8 [.int .i64 8] from rfl) (Reps.one (show Kd.M (Kd.int .i64) _ _ _ 20 [.int .i64 20] from rfl) (Reps.none _ _))))); intro v255 w29 ho30 hb hg_ hnew_; clear hg_ hnew_; (first | rw [← Ny254.out] at ho30 | (simp only [Int.reduceToNat] at ho30; rw [← Ny254.out] at ho30)); have n0_ := Aside0.mk (Kd.R_lower ho30 (keep_size (w := w) (g := g) (row := none) z11_1)); have n1_ := Aside0.mk (blk_below (g := gb246) (o := .cells #[.int .i64 0, .int .i64 0, .int .i64 0] 47 (0, 0)) z11_4 hb); have n2_ := Aside0.mk (blk_below (g := gb249) (o := .cells #[.int .i64 (wrap64 (1 + t247)), .int .i64 0, .int .i64 0] 47 (0, 0)) z11_6 hb); have n3_ := Aside0.mk (IsS128.below z11_2 hb); have n4_ := Aside0.mk (KeepBut.trans z11_1 (KeepBut.of_below hb g none) (.inl rfl)); have n5_ := Aside0.mk (below_step z11_3 hb); clear BK246; clear BK249; clear HI0; clear HK; clear HB; have HO256 := n0_; have BK246 := n1_; have BK249 := n2_; have HI0 := n3_; have HK := n4_; have HB := n5_; clear n0_ n1_ n2_ n3_ n4_ n5_; clear hb ho30) | ((with_reducible refine gate_callee (f := 67) rfl ?_); refine goesL_ (some 30) rfl rfl Try.func67 (by kernel_rfl) rfl #[.pointer (some ⟨g, 0, none⟩), .int .i64 3] rfl z11_5 ?_; (with_reducible refine (spec_l20Rd_pick.calls kj20 g s0_0 t253 3 t257 t258 w0 _ ?side1 ?side2 A25.out).mono ?_); (case side1 => repeat (first | (with_reducible first | exact HI0.out | apply IsS128.alloc | apply IsS128.drewN | apply IsS128.drew | apply IsS128.set_1 | refine IsS128.far ?_ NB0_246.out _ | refine IsS128.far ?_ NB0_249.out _) | exact HI0.out)); (case side2 => repeat (first | (with_reducible first | exact HB.out | apply below_alloc | apply pw_below_drewN | apply below_drew1 | refine below_set ?_ (IsS128.ge HI0.out) | refine below_set ?_ GE246.out | refine below_set ?_ GE249.out) | exact HB.out)); rintro e w31 ⟨rfl, hi, hb, hk⟩; refine ⟨_, rfl, ?_⟩; have n0_ := Aside0.mk (KeepBut.blk hk (g' := gb246) (o := .cells #[.int .i64 0, .int .i64 0, .int .i64 0] 47 (0, 0)) z11_4 NB246_0.out (by simp)); have n1_ := Aside0.mk (KeepBut.blk hk (g' := gb249) (o := .cells #[.int .i64 (wrap64 (1 + t247)), .int .i64 0, .int .i64 0] 47 (0, 0)) z11_6 NB249_0.out (by simp)); have n2_ := Aside0.mk (Kd.R_mono (Kd.R_keep (IsS128.apart (show IsS128 w0 _ g s0_0 t253 from z11_2) (by (with_reducible repeat (first | apply Kd.R_alloc | apply Kd.R_drewN | apply Kd.R_drew)); exact HO256.out) (by decide)) hk (fun _ h => h.2)) (fun _ h => h.1)); have n3_ := Aside0.mk (KeepBut.trans z11_1 hk (.inl rfl)); have n4_ := Aside0.mk (hb); have n5_ := Aside0.mk (hi); clear BK246; clear BK249; clear HO256; clear HK; clear HB; clear HI0; have BK246 := n0_; have BK249 := n1_; have HO256 := n2_; have HK := n3_; have HB := n4_; have HI0 := n5_; clear n0_ n1_ n2_ n3_ n4_ n5_; (try clear hb); (try clear hb2); (try clear hk); (try clear hi); obtain ⟨Ao32, co32, eo32⟩ := Kd.R_slice HO256.out; subst eo32; have p259 : 0 ≤ (t257 : Int) := of_decide_eq_true z11_13; have q259 : t257 < (y254.length : Int) := of_decide_eq_true z11_13; obtain ⟨ad259, e259, hx259_0⟩ := Kd.at_int (Kd.R_reads' HO256.out).2.2 t257 p259 q259; cases e259; replace p259 := eq_true p259; replace q259 := eq_true q259; have hnb33 := NB249_246.out; have hnc33 := NB246_249.out; have hnb34 := NB249_0.out; have hnc34 := NB0_249.out; have hcz35_0 : w31.cell? ⟨gb249, 0, none⟩ = some (.int .i64 (wrap64 (1 + t247))) := (blk_cell BK249.out 0).trans rfl; have hcz35_1 : w31.cell? ⟨gb249, 1, none⟩ = some (.int .i64 0) := (blk_cell BK249.out 1).trans rfl; have hcz35_2 : w31.cell? ⟨gb249, 2, none⟩ = some (.int .i64 0) := (blk_cell BK249.out 2).trans rfl; have hfz35_0 := blk_frozen BK249.out 0; have hfz35_1 := blk_frozen BK249.out 1; have hfz35_2 := blk_frozen BK249.out 2))
          go_meet
          case rel => exact ⟨_, (t258), (0), (rd y254 t257), H', ⟨by have := HJ11.out; have := HJ20.out; first | omega | exact Nat.le_refl _⟩, ⟨z11_19⟩, ⟨by (with_reducible repeat (first | refine blk_drewN ?_ _ | refine blk_drew ?_ | refine blk_alloc ?_ _)); refine blk_put (cs := #[.int .i64 (wrap64 (1 + t247)), .int .i64 0, .int .i64 0]) ?_ 2 _ rfl; (with_reducible repeat (first | refine blk_drewN ?_ _ | refine blk_drew ?_ | refine blk_alloc ?_ _)); exact BK249.out⟩, ⟨z11_2⟩, ⟨z11_1⟩, ⟨z11_3⟩⟩
         ·rw [if_neg c27] at H
          exact absurd H (by simp)
        ·rw [if_neg c26] at H
         exact absurd H (by simp)
       ·replace c23 := Bool.eq_false_iff.mpr c23
        subst c23
        have H1 : (spec_l20Program.j2 kj20 a2 s0_0 t248 (wrap64 (1 + t247)) 0 0) = some (r1, r2, r3, r4) := by rw [if_neg (show ¬ (false = true) by decide)] at H; exact H
        clear H
        have H := H1
        clear H1
        have H' := Aside0.mk H
        clear H
        go_wp2
        go_meet
        case rel => exact ⟨_, (t248), (0), (0), H', ⟨by have := HJ11.out; have := HJ20.out; first | omega | exact Nat.le_refl _⟩, ⟨z11_4⟩, ⟨z11_6⟩, ⟨z11_2⟩, ⟨z11_1⟩, ⟨z11_3⟩⟩
 case rest =>
  clear HC5
  try clear c1
  try clear c2
  try clear p2
  try clear q2
  try clear hx2
  try clear c3
  try clear c6
  try clear p6
  try clear c8
  try clear c9
  try clear c10
  try clear c13
  try clear c13b0
  try clear c13b1
  try clear c14
  try clear c18
  try clear c19
  try clear c22
  try clear c22b0
  try clear c22b1
  try clear c23
  try clear p25
  try clear q25
  try clear hx25
  try clear c26
  try clear c26b0
  try clear c27
  try clear c27b0
  try clear c33
  try clear c34
  try clear hcz11_0
  try clear hcz11_1
  try clear hcz11_2
  try clear hcz20_0
  try clear hcz20_1
  try clear hcz20_2
  try clear hcz35_0
  try clear hcz35_1
  try clear hcz35_2
  try clear hfz11_0
  try clear hfz11_1
  try clear hfz11_2
  try clear hfz20_0
  try clear hfz20_1
  try clear hfz20_2
  try clear hfz35_0
  try clear hfz35_1
  try clear hfz35_2
  try clear hx259_0
  try clear p2
  try clear p259
  try clear p6
  try clear q259
  obtain ⟨kq, x1001_4, x250001_4, x250002_4, HA, HJ4, BK246, BK249, HI0, HK, HB⟩ := hcut
  cases kq with
  | zero => exact absurd HA.out (by simp [spec_l20Program.j2])
  | succ kj4 =>
   have H := HA.out
   clear HA
   simp only [spec_l20Program.j2] at H
   replace H := Option.bind_eq_some_iff.mp H
   obtain ⟨⟨t260, t261⟩, A360, H⟩ := H
   replace H : (if t260 = true then ((spec_l20Rd_pick.f kj4 s0_0 t261 3).bind fun bt262 => (if bt262.1 = 0 then ((some (([0, 7] : List Int) : List Int)).bind fun y264 => ((spec_l20Rd_pick.f kj4 s0_0 bt262.2 2).bind fun bt267 => (if 0 ≤ bt267.1 then (if bt267.1 < (y264.length : Int) then (some (rd y264 bt267.1, x250001_4, x250002_4, bt267.2)) else (none)) else (none)))) else (if bt262.1 = 1 then ((some (([(-1), 16] : List Int) : List Int)).bind fun y270 => ((spec_l20Rd_pick.f kj4 s0_0 bt262.2 2).bind fun bt273 => (if 0 ≤ bt273.1 then (if bt273.1 < (y270.length : Int) then (some ((wrap64 (1 + t247)), rd y270 bt273.1, x250002_4, bt273.2)) else (none)) else (none)))) else ((some (([(-1), 21] : List Int) : List Int)).bind fun y276 => ((spec_l20Rd_pick.f kj4 s0_0 bt262.2 2).bind fun bt279 => (if 0 ≤ bt279.1 then (if bt279.1 < (y276.length : Int) then (some ((wrap64 (1 + t247)), x250001_4, rd y276 bt279.1, bt279.2)) else (none)) else (none))))))) else (some ((wrap64 (1 + t247)), x250001_4, x250002_4, t261))) = some (r1, r2, r3, r4) := H
   have A36 := Aside0.mk A360
   clear A360
   by_cases c37 : t260 = true
   ·subst c37
    have H1 : ((spec_l20Rd_pick.f kj4 s0_0 t261 3).bind fun bt262 => (if bt262.1 = 0 then ((some (([0, 7] : List Int) : List Int)).bind fun y264 => ((spec_l20Rd_pick.f kj4 s0_0 bt262.2 2).bind fun bt267 => (if 0 ≤ bt267.1 then (if bt267.1 < (y264.length : Int) then (some (rd y264 bt267.1, x250001_4, x250002_4, bt267.2)) else (none)) else (none)))) else (if bt262.1 = 1 then ((some (([(-1), 16] : List Int) : List Int)).bind fun y270 => ((spec_l20Rd_pick.f kj4 s0_0 bt262.2 2).bind fun bt273 => (if 0 ≤ bt273.1 then (if bt273.1 < (y270.length : Int) then (some ((wrap64 (1 + t247)), rd y270 bt273.1, x250002_4, bt273.2)) else (none)) else (none)))) else ((some (([(-1), 21] : List Int) : List Int)).bind fun y276 => ((spec_l20Rd_pick.f kj4 s0_0 bt262.2 2).bind fun bt279 => (if 0 ≤ bt279.1 then (if bt279.1 < (y276.length : Int) then (some ((wrap64 (1 + t247)), x250001_4, rd y276 bt279.1, bt279.2)) else (none)) else (none))))))) = some (r1, r2, r3, r4) := by rw [if_pos rfl] at H; exact H
    clear H
    have H := H1
    clear H1
    replace H := Option.bind_eq_some_iff.mp H
    obtain ⟨⟨t262, t263⟩, A380, H⟩ := H
    replace H : (if t262 = 0 then ((some (([0, 7] : List Int) : List Int)).bind fun y264 => ((spec_l20Rd_pick.f kj4 s0_0 t263 2).bind fun bt267 => (if 0 ≤ bt267.1 then (if bt267.1 < (y264.length : Int) then (some (rd y264 bt267.1, x250001_4, x250002_4, bt267.2)) else (none)) else (none)))) else (if t262 = 1 then ((some (([(-1), 16] : List Int) : List Int)).bind fun y270 => ((spec_l20Rd_pick.f kj4 s0_0 t263 2).bind fun bt273 => (if 0 ≤ bt273.1 then (if bt273.1 < (y270.length : Int) then (some ((wrap64 (1 + t247)), rd y270 bt273.1, x250002_4, bt273.2)) else (none)) else (none)))) else ((some (([(-1), 21] : List Int) : List Int)).bind fun y276 => ((spec_l20Rd_pick.f kj4 s0_0 t263 2).bind fun bt279 => (if 0 ≤ bt279.1 then (if bt279.1 < (y276.length : Int) then (some ((wrap64 (1 + t247)), x250001_4, rd y276 bt279.1, bt279.2)) else (none)) else (none)))))) = some (r1, r2, r3, r4) := H
    have A38 := Aside0.mk A380
    clear A380
    by_cases c39 : t262 = 0
    ·rw [if_pos c39] at H
     have c39b0 : (t262 == 0) = true := beq_iff_eq.mpr c39
     have c39b1 : (t262 != 0) = false := bne_eq_false_iff_eq.mpr c39
     clear c39
     obtain ⟨y264, hy264⟩ : ∃ y_ : List Int, y_ = (([0, 7] : List Int)) := ⟨_, rfl⟩
     replace H : ((spec_l20Rd_pick.f kj4 s0_0 t263 2).bind fun bt267 => (if 0 ≤ bt267.1 then (if bt267.1 < (y264.length : Int) then (some (rd y264 bt267.1, x250001_4, x250002_4, bt267.2)) else (none)) else (none))) = some (r1, r2, r3, r4) := by first | (rw [hy264]; with_reducible exact H) | (have H2_ := (Option.bind_some _ _).symm.trans H; rw [hy264]; with_reducible exact H2_) | (have H2_ := (Option.bind_some _ _).symm.trans H; with_reducible exact H2_) | with_reducible exact H | (rw [hy264]; exact H) | exact H
     have Ny264 := Aside0.mk hy264
     clear hy264
     replace H := Option.bind_eq_some_iff.mp H
     obtain ⟨⟨t267, t268⟩, A400, H⟩ := H
     replace H : (if 0 ≤ t267 then (if t267 < (y264.length : Int) then (some (rd y264 t267, x250001_4, x250002_4, t268)) else (none)) else (none)) = some (r1, r2, r3, r4) := H
     have A40 := Aside0.mk A400
     clear A400
     by_cases c41 : 0 ≤ t267
     ·rw [if_pos c41] at H
      have c41b0 : decide (0 ≤ t267) = true := decide_eq_true c41
      clear c41
      by_cases c42 : t267 < (y264.length : Int)
      ·rw [if_pos c42] at H
       have c42b0 : decide (t267 < (y264.length : Int)) = true := decide_eq_true c42
       clear c42
       simp only [Option.some.injEq, Prod.mk.injEq] at H
       obtain ⟨rfl, rfl, rfl, rfl⟩ := H
       go_wp2_with (first | ((with_reducible refine gate_callee (f := 89) rfl ?_); refine goesL_ (some 36) rfl rfl Try.func89 (by kernel_rfl) rfl #[.pointer (some ⟨g, 0, none⟩), .int .i64 a2] rfl z11_5 ?_; (with_reducible refine (spec_l20Rd_odd.calls kj4 g s0_0 x1001_4 a2 true t261 w0 _ ?side1 ?side2 A36.out).mono ?_); (case side1 => repeat (first | (with_reducible first | exact HI0.out | apply IsS128.alloc | apply IsS128.drewN | apply IsS128.drew | apply IsS128.set_1 | refine IsS128.far ?_ NB0_246.out _ | refine IsS128.far ?_ NB0_249.out _) | exact HI0.out)); (case side2 => repeat (first | (with_reducible first | exact HB.out | apply below_alloc | apply pw_below_drewN | apply below_drew1 | refine below_set ?_ (IsS128.ge HI0.out) | refine below_set ?_ GE246.out | refine below_set ?_ GE249.out) | exact HB.out)); rintro e w43 ⟨rfl, hi, hb, hk⟩; refine ⟨_, rfl, ?_⟩; have n0_ := Aside0.mk (KeepBut.blk hk (g' := gb246) (o := .cells #[.int .i64 0, .int .i64 0, .int .i64 0] 47 (0, 0)) z11_4 NB246_0.out (by simp)); have n1_ := Aside0.mk (KeepBut.blk hk (g' := gb249) (o := .cells #[.int .i64 (wrap64 (1 + t247)), .int .i64 x250001_4, .int .i64 x250002_4] 47 (0, 0)) z11_6 NB249_0.out (by simp)); have n2_ := Aside0.mk (KeepBut.trans z11_1 hk (.inl rfl)); have n3_ := Aside0.mk (hb); have n4_ := Aside0.mk (hi); clear BK246; clear BK249; clear HK; clear HB; clear HI0; have BK246 := n0_; have BK249 := n1_; have HK := n2_; have HB := n3_; have HI0 := n4_; clear n0_ n1_ n2_ n3_ n4_; (try clear hb); (try clear hb2); (try clear hk); (try clear hi)) | ((with_reducible refine gate_callee (f := 67) rfl ?_); refine goesL_ (some 38) rfl rfl Try.func67 (by kernel_rfl) rfl #[.pointer (some ⟨g, 0, none⟩), .int .i64 3] rfl z11_5 ?_; (with_reducible refine (spec_l20Rd_pick.calls kj4 g s0_0 t261 3 t262 t263 w0 _ ?side1 ?side2 A38.out).mono ?_); (case side1 => repeat (first | (with_reducible first | exact HI0.out | apply IsS128.alloc | apply IsS128.drewN | apply IsS128.drew | apply IsS128.set_1 | refine IsS128.far ?_ NB0_246.out _ | refine IsS128.far ?_ NB0_249.out _) | exact HI0.out)); (case side2 => repeat (first | (with_reducible first | exact HB.out | apply below_alloc | apply pw_below_drewN | apply below_drew1 | refine below_set ?_ (IsS128.ge HI0.out) | refine below_set ?_ GE246.out | refine below_set ?_ GE249.out) | exact HB.out)); rintro e w44 ⟨rfl, hi, hb, hk⟩; refine ⟨_, rfl, ?_⟩; have n0_ := Aside0.mk (KeepBut.blk hk (g' := gb246) (o := .cells #[.int .i64 0, .int .i64 0, .int .i64 0] 47 (0, 0)) z11_4 NB246_0.out (by simp)); have n1_ := Aside0.mk (KeepBut.blk hk (g' := gb249) (o := .cells #[.int .i64 (wrap64 (1 + t247)), .int .i64 x250001_4, .int .i64 x250002_4] 47 (0, 0)) z11_6 NB249_0.out (by simp)); have n2_ := Aside0.mk (KeepBut.trans z11_1 hk (.inl rfl)); have n3_ := Aside0.mk (hb); have n4_ := Aside0.mk (hi); clear BK246; clear BK249; clear HK; clear HB; clear HI0; have BK246 := n0_; have BK249 := n1_; have HK := n2_; have HB := n3_; have HI0 := n4_; clear n0_ n1_ n2_ n3_ n4_; (try clear hb); (try clear hb2); (try clear hk); (try clear hi)) | ((with_reducible refine gate_dst (N := 47) rfl ?_); refine Kd.R_lit (Kd.int .i64) _ 3 ?hg (N := 47) ?hd (xs := ([0, 7] : List Int)) (inner := [.int .i64 0, .int .i64 7]) (ok := fun _ => True) (okp := fun _ => True) ?hr ?hp (fun _ hk => hk) trivial (Below.refl _ _) (Nat.le_refl _) (by simp) ?_; (case hd => rfl); (case hg => rfl); (case hr => exact z11_0); (case hp => exact (Reps.one (show Kd.M (Kd.int .i64) _ _ _ 0 [.int .i64 0] from rfl) (Reps.one (show Kd.M (Kd.int .i64) _ _ _ 7 [.int .i64 7] from rfl) (Reps.none _ _)))); intro v265 w45 ho46 hb hg_ hnew_; clear hg_ hnew_; (first | rw [← Ny264.out] at ho46 | (simp only [Int.reduceToNat] at ho46; rw [← Ny264.out] at ho46)); have n0_ := Aside0.mk (Kd.R_lower ho46 (keep_size (w := w) (g := g) (row := none) z11_1)); have n1_ := Aside0.mk (blk_below (g := gb246) (o := .cells #[.int .i64 0, .int .i64 0, .int .i64 0] 47 (0, 0)) z11_4 hb); have n2_ := Aside0.mk (blk_below (g := gb249) (o := .cells #[.int .i64 (wrap64 (1 + t247)), .int .i64 x250001_4, .int .i64 x250002_4] 47 (0, 0)) z11_6 hb); have n3_ := Aside0.mk (IsS128.below z11_2 hb); have n4_ := Aside0.mk (KeepBut.trans z11_1 (KeepBut.of_below hb g none) (.inl rfl)); have n5_ := Aside0.mk (below_step z11_3 hb); clear BK246; clear BK249; clear HI0; clear HK; clear HB; have HO266 := n0_; have BK246 := n1_; have BK249 := n2_; have HI0 := n3_; have HK := n4_; have HB := n5_; clear n0_ n1_ n2_ n3_ n4_ n5_; clear hb ho46) | ((with_reducible refine gate_callee (f := 67) rfl ?_); refine goesL_ (some 49) rfl rfl Try.func67 (by kernel_rfl) rfl #[.pointer (some ⟨g, 0, none⟩), .int .i64 2] rfl z11_5 ?_; (with_reducible refine (spec_l20Rd_pick.calls kj4 g s0_0 t263 2 t267 t268 w0 _ ?side1 ?side2 A40.out).mono ?_); (case side1 => repeat (first | (with_reducible first | exact HI0.out | apply IsS128.alloc | apply IsS128.drewN | apply IsS128.drew | apply IsS128.set_1 | refine IsS128.far ?_ NB0_246.out _ | refine IsS128.far ?_ NB0_249.out _) | exact HI0.out)); (case side2 => repeat (first | (with_reducible first | exact HB.out | apply below_alloc | apply pw_below_drewN | apply below_drew1 | refine below_set ?_ (IsS128.ge HI0.out) | refine below_set ?_ GE246.out | refine below_set ?_ GE249.out) | exact HB.out)); rintro e w47 ⟨rfl, hi, hb, hk⟩; refine ⟨_, rfl, ?_⟩; have n0_ := Aside0.mk (KeepBut.blk hk (g' := gb246) (o := .cells #[.int .i64 0, .int .i64 0, .int .i64 0] 47 (0, 0)) z11_4 NB246_0.out (by simp)); have n1_ := Aside0.mk (KeepBut.blk hk (g' := gb249) (o := .cells #[.int .i64 (wrap64 (1 + t247)), .int .i64 x250001_4, .int .i64 x250002_4] 47 (0, 0)) z11_6 NB249_0.out (by simp)); have n2_ := Aside0.mk (Kd.R_mono (Kd.R_keep (IsS128.apart (show IsS128 w0 _ g s0_0 t263 from z11_2) (by (with_reducible repeat (first | apply Kd.R_alloc | apply Kd.R_drewN | apply Kd.R_drew)); exact HO266.out) (by decide)) hk (fun _ h => h.2)) (fun _ h => h.1)); have n3_ := Aside0.mk (KeepBut.trans z11_1 hk (.inl rfl)); have n4_ := Aside0.mk (hb); have n5_ := Aside0.mk (hi); clear BK246; clear BK249; clear HO266; clear HK; clear HB; clear HI0; have BK246 := n0_; have BK249 := n1_; have HO266 := n2_; have HK := n3_; have HB := n4_; have HI0 := n5_; clear n0_ n1_ n2_ n3_ n4_ n5_; (try clear hb); (try clear hb2); (try clear hk); (try clear hi); obtain ⟨Ao48, co48, eo48⟩ := Kd.R_slice HO266.out; subst eo48; have p269 : 0 ≤ (t267 : Int) := of_decide_eq_true z11_13; have q269 : t267 < (y264.length : Int) := of_decide_eq_true z11_13; obtain ⟨ad269, e269, hx269_0⟩ := Kd.at_int (Kd.R_reads' HO266.out).2.2 t267 p269 q269; cases e269; replace p269 := eq_true p269; replace q269 := eq_true q269; have hnb49 := NB249_246.out; have hnc49 := NB246_249.out; have hnb50 := NB249_0.out; have hnc50 := NB0_249.out; have hcz51_0 : w47.cell? ⟨gb249, 0, none⟩ = some (.int .i64 (wrap64 (1 + t247))) := (blk_cell BK249.out 0).trans rfl; have hcz51_1 : w47.cell? ⟨gb249, 1, none⟩ = some (.int .i64 x250001_4) := (blk_cell BK249.out 1).trans rfl; have hcz51_2 : w47.cell? ⟨gb249, 2, none⟩ = some (.int .i64 x250002_4) := (blk_cell BK249.out 2).trans rfl; have hfz51_0 := blk_frozen BK249.out 0; have hfz51_1 := blk_frozen BK249.out 1; have hfz51_2 := blk_frozen BK249.out 2; have hnb52 := NB246_0.out; have hnc52 := NB0_246.out; have hcz53_0 : w47.cell? ⟨gb246, 0, none⟩ = some (.int .i64 0) := (blk_cell BK246.out 0).trans rfl; have hcz53_1 : w47.cell? ⟨gb246, 1, none⟩ = some (.int .i64 0) := (blk_cell BK246.out 1).trans rfl; have hcz53_2 : w47.cell? ⟨gb246, 2, none⟩ = some (.int .i64 0) := (blk_cell BK246.out 2).trans rfl; have hfz53_0 := blk_frozen BK246.out 0; have hfz53_1 := blk_frozen BK246.out 1; have hfz53_2 := blk_frozen BK246.out 2))
       refine bodyPost_ret (results_cell_row rfl _ _ gb246 47 #[.int .i64 (rd y264 t267), .int .i64 x250001_4, .int .i64 x250002_4] (0, 0) _ rfl (by (with_reducible repeat (first | refine blk_drewN ?_ _ | refine blk_drew ?_ | refine blk_alloc ?_ _)); refine blk_put (cs := #[.int .i64 (rd y264 t267), .int .i64 x250001_4, .int .i64 0]) ?_ 2 _ rfl; (with_reducible repeat (first | refine blk_drewN ?_ _ | refine blk_drew ?_ | refine blk_alloc ?_ _)); refine blk_put (cs := #[.int .i64 (rd y264 t267), .int .i64 0, .int .i64 0]) ?_ 1 _ rfl; (with_reducible repeat (first | refine blk_drewN ?_ _ | refine blk_drew ?_ | refine blk_alloc ?_ _)); refine blk_put (cs := #[.int .i64 0, .int .i64 0, .int .i64 0]) ?_ 0 _ rfl; (with_reducible repeat (first | refine blk_drewN ?_ _ | refine blk_drew ?_ | refine blk_alloc ?_ _)); refine blk_far ?_ NB246_249.out _; (with_reducible repeat (first | refine blk_drewN ?_ _ | refine blk_drew ?_ | refine blk_alloc ?_ _)); exact BK246.out) Try.underlying47 rfl (by kernel_rfl)) rfl ?_
       exact ⟨z11_9, z11_2, z11_3, z11_1⟩
      ·rw [if_neg c42] at H
       exact absurd H (by simp)
     ·rw [if_neg c41] at H
      exact absurd H (by simp)
    ·rw [if_neg c39] at H
     have c39b0 : (t262 == 0) = false := beq_eq_false_iff_ne.mpr c39
     have c39b1 : (t262 != 0) = true := bne_iff_ne.mpr c39
     by_cases c54 : t262 = 1
     ·rw [if_pos c54] at H
      have c54b0 : (t262 == 1) = true := beq_iff_eq.mpr c54
      have c54b1 : (t262 != 1) = false := bne_eq_false_iff_eq.mpr c54
      clear c54
      obtain ⟨y270, hy270⟩ : ∃ y_ : List Int, y_ = (([(-1), 16] : List Int)) := ⟨_, rfl⟩
      replace H : ((spec_l20Rd_pick.f kj4 s0_0 t263 2).bind fun bt273 => (if 0 ≤ bt273.1 then (if bt273.1 < (y270.length : Int) then (some ((wrap64 (1 + t247)), rd y270 bt273.1, x250002_4, bt273.2)) else (none)) else (none))) = some (r1, r2, r3, r4) := by first | (rw [hy270]; with_reducible exact H) | (have H2_ := (Option.bind_some _ _).symm.trans H; rw [hy270]; with_reducible exact H2_) | (have H2_ := (Option.bind_some _ _).symm.trans H; with_reducible exact H2_) | with_reducible exact H | (rw [hy270]; exact H) | exact H
      have Ny270 := Aside0.mk hy270
      clear hy270
      replace H := Option.bind_eq_some_iff.mp H
      obtain ⟨⟨t273, t274⟩, A550, H⟩ := H
      replace H : (if 0 ≤ t273 then (if t273 < (y270.length : Int) then (some ((wrap64 (1 + t247)), rd y270 t273, x250002_4, t274)) else (none)) else (none)) = some (r1, r2, r3, r4) := H
      have A55 := Aside0.mk A550
      clear A550
      by_cases c56 : 0 ≤ t273
      ·rw [if_pos c56] at H
       have c56b0 : decide (0 ≤ t273) = true := decide_eq_true c56
       clear c56
       by_cases c57 : t273 < (y270.length : Int)
       ·rw [if_pos c57] at H
        have c57b0 : decide (t273 < (y270.length : Int)) = true := decide_eq_true c57
        clear c57
        simp only [Option.some.injEq, Prod.mk.injEq] at H
        obtain ⟨rfl, rfl, rfl, rfl⟩ := H
        go_wp2_with (first | ((with_reducible refine gate_callee (f := 89) rfl ?_); refine goesL_ (some 36) rfl rfl Try.func89 (by kernel_rfl) rfl #[.pointer (some ⟨g, 0, none⟩), .int .i64 a2] rfl z11_5 ?_; (with_reducible refine (spec_l20Rd_odd.calls kj4 g s0_0 x1001_4 a2 true t261 w0 _ ?side1 ?side2 A36.out).mono ?_); (case side1 => repeat (first | (with_reducible first | exact HI0.out | apply IsS128.alloc | apply IsS128.drewN | apply IsS128.drew | apply IsS128.set_1 | refine IsS128.far ?_ NB0_246.out _ | refine IsS128.far ?_ NB0_249.out _) | exact HI0.out)); (case side2 => repeat (first | (with_reducible first | exact HB.out | apply below_alloc | apply pw_below_drewN | apply below_drew1 | refine below_set ?_ (IsS128.ge HI0.out) | refine below_set ?_ GE246.out | refine below_set ?_ GE249.out) | exact HB.out)); rintro e w58 ⟨rfl, hi, hb, hk⟩; refine ⟨_, rfl, ?_⟩; have n0_ := Aside0.mk (KeepBut.blk hk (g' := gb246) (o := .cells #[.int .i64 0, .int .i64 0, .int .i64 0] 47 (0, 0)) z11_4 NB246_0.out (by simp)); have n1_ := Aside0.mk (KeepBut.blk hk (g' := gb249) (o := .cells #[.int .i64 (wrap64 (1 + t247)), .int .i64 x250001_4, .int .i64 x250002_4] 47 (0, 0)) z11_6 NB249_0.out (by simp)); have n2_ := Aside0.mk (KeepBut.trans z11_1 hk (.inl rfl)); have n3_ := Aside0.mk (hb); have n4_ := Aside0.mk (hi); clear BK246; clear BK249; clear HK; clear HB; clear HI0; have BK246 := n0_; have BK249 := n1_; have HK := n2_; have HB := n3_; have HI0 := n4_; clear n0_ n1_ n2_ n3_ n4_; (try clear hb); (try clear hb2); (try clear hk); (try clear hi)) | ((with_reducible refine gate_callee (f := 67) rfl ?_); refine goesL_ (some 38) rfl rfl Try.func67 (by kernel_rfl) rfl #[.pointer (some ⟨g, 0, none⟩), .int .i64 3] rfl z11_5 ?_; (with_reducible refine (spec_l20Rd_pick.calls kj4 g s0_0 t261 3 t262 t263 w0 _ ?side1 ?side2 A38.out).mono ?_); (case side1 => repeat (first | (with_reducible first | exact HI0.out | apply IsS128.alloc | apply IsS128.drewN | apply IsS128.drew | apply IsS128.set_1 | refine IsS128.far ?_ NB0_246.out _ | refine IsS128.far ?_ NB0_249.out _) | exact HI0.out)); (case side2 => repeat (first | (with_reducible first | exact HB.out | apply below_alloc | apply pw_below_drewN | apply below_drew1 | refine below_set ?_ (IsS128.ge HI0.out) | refine below_set ?_ GE246.out | refine below_set ?_ GE249.out) | exact HB.out)); rintro e w59 ⟨rfl, hi, hb, hk⟩; refine ⟨_, rfl, ?_⟩; have n0_ := Aside0.mk (KeepBut.blk hk (g' := gb246) (o := .cells #[.int .i64 0, .int .i64 0, .int .i64 0] 47 (0, 0)) z11_4 NB246_0.out (by simp)); have n1_ := Aside0.mk (KeepBut.blk hk (g' := gb249) (o := .cells #[.int .i64 (wrap64 (1 + t247)), .int .i64 x250001_4, .int .i64 x250002_4] 47 (0, 0)) z11_6 NB249_0.out (by simp)); have n2_ := Aside0.mk (KeepBut.trans z11_1 hk (.inl rfl)); have n3_ := Aside0.mk (hb); have n4_ := Aside0.mk (hi); clear BK246; clear BK249; clear HK; clear HB; clear HI0; have BK246 := n0_; have BK249 := n1_; have HK := n2_; have HB := n3_; have HI0 := n4_; clear n0_ n1_ n2_ n3_ n4_; (try clear hb); (try clear hb2); (try clear hk); (try clear hi)) | ((with_reducible refine gate_dst (N := 55) rfl ?_); refine Kd.R_lit (Kd.int .i64) _ 3 ?hg (N := 55) ?hd (xs := ([(-1), 16] : List Int)) (inner := [.int .i64 (-1), .int .i64 16]) (ok := fun _ => True) (okp := fun _ => True) ?hr ?hp (fun _ hk => hk) trivial (Below.refl _ _) (Nat.le_refl _) (by simp) ?_; (case hd => rfl); (case hg => rfl); (case hr => exact z11_0); (case hp => exact (Reps.one (show Kd.M (Kd.int .i64) _ _ _ (-1) [.int .i64 (-1)] from rfl) (Reps.one (show Kd.M (Kd.int .i64) _ _ _ 16 [.int .i64 16] from rfl) (Reps.none _ _)))); intro v271 w60 ho61 hb hg_ hnew_; clear hg_ hnew_; (first | rw [← Ny270.out] at ho61 | (simp only [Int.reduceToNat] at ho61; rw [← Ny270.out] at ho61)); have n0_ := Aside0.mk (Kd.R_lower ho61 (keep_size (w := w) (g := g) (row := none) z11_1)); have n1_ := Aside0.mk (blk_below (g := gb246) (o := .cells #[.int .i64 0, .int .i64 0, .int .i64 0] 47 (0, 0)) z11_4 hb); have n2_ := Aside0.mk (blk_below (g := gb249) (o := .cells #[.int .i64 (wrap64 (1 + t247)), .int .i64 x250001_4, .int .i64 x250002_4] 47 (0, 0)) z11_6 hb); have n3_ := Aside0.mk (IsS128.below z11_2 hb); have n4_ := Aside0.mk (KeepBut.trans z11_1 (KeepBut.of_below hb g none) (.inl rfl)); have n5_ := Aside0.mk (below_step z11_3 hb); clear BK246; clear BK249; clear HI0; clear HK; clear HB; have HO272 := n0_; have BK246 := n1_; have BK249 := n2_; have HI0 := n3_; have HK := n4_; have HB := n5_; clear n0_ n1_ n2_ n3_ n4_ n5_; clear hb ho61) | ((with_reducible refine gate_callee (f := 67) rfl ?_); refine goesL_ (some 57) rfl rfl Try.func67 (by kernel_rfl) rfl #[.pointer (some ⟨g, 0, none⟩), .int .i64 2] rfl z11_5 ?_; (with_reducible refine (spec_l20Rd_pick.calls kj4 g s0_0 t263 2 t273 t274 w0 _ ?side1 ?side2 A55.out).mono ?_); (case side1 => repeat (first | (with_reducible first | exact HI0.out | apply IsS128.alloc | apply IsS128.drewN | apply IsS128.drew | apply IsS128.set_1 | refine IsS128.far ?_ NB0_246.out _ | refine IsS128.far ?_ NB0_249.out _) | exact HI0.out)); (case side2 => repeat (first | (with_reducible first | exact HB.out | apply below_alloc | apply pw_below_drewN | apply below_drew1 | refine below_set ?_ (IsS128.ge HI0.out) | refine below_set ?_ GE246.out | refine below_set ?_ GE249.out) | exact HB.out)); rintro e w62 ⟨rfl, hi, hb, hk⟩; refine ⟨_, rfl, ?_⟩; have n0_ := Aside0.mk (KeepBut.blk hk (g' := gb246) (o := .cells #[.int .i64 0, .int .i64 0, .int .i64 0] 47 (0, 0)) z11_4 NB246_0.out (by simp)); have n1_ := Aside0.mk (KeepBut.blk hk (g' := gb249) (o := .cells #[.int .i64 (wrap64 (1 + t247)), .int .i64 x250001_4, .int .i64 x250002_4] 47 (0, 0)) z11_6 NB249_0.out (by simp)); have n2_ := Aside0.mk (Kd.R_mono (Kd.R_keep (IsS128.apart (show IsS128 w0 _ g s0_0 t263 from z11_2) (by (with_reducible repeat (first | apply Kd.R_alloc | apply Kd.R_drewN | apply Kd.R_drew)); exact HO272.out) (by decide)) hk (fun _ h => h.2)) (fun _ h => h.1)); have n3_ := Aside0.mk (KeepBut.trans z11_1 hk (.inl rfl)); have n4_ := Aside0.mk (hb); have n5_ := Aside0.mk (hi); clear BK246; clear BK249; clear HO272; clear HK; clear HB; clear HI0; have BK246 := n0_; have BK249 := n1_; have HO272 := n2_; have HK := n3_; have HB := n4_; have HI0 := n5_; clear n0_ n1_ n2_ n3_ n4_ n5_; (try clear hb); (try clear hb2); (try clear hk); (try clear hi); obtain ⟨Ao63, co63, eo63⟩ := Kd.R_slice HO272.out; subst eo63; have p275 : 0 ≤ (t273 : Int) := of_decide_eq_true z11_13; have q275 : t273 < (y270.length : Int) := of_decide_eq_true z11_13; obtain ⟨ad275, e275, hx275_0⟩ := Kd.at_int (Kd.R_reads' HO272.out).2.2 t273 p275 q275; cases e275; replace p275 := eq_true p275; replace q275 := eq_true q275; have hnb64 := NB249_246.out; have hnc64 := NB246_249.out; have hnb65 := NB249_0.out; have hnc65 := NB0_249.out; have hcz66_0 : w62.cell? ⟨gb249, 0, none⟩ = some (.int .i64 (wrap64 (1 + t247))) := (blk_cell BK249.out 0).trans rfl; have hcz66_1 : w62.cell? ⟨gb249, 1, none⟩ = some (.int .i64 x250001_4) := (blk_cell BK249.out 1).trans rfl; have hcz66_2 : w62.cell? ⟨gb249, 2, none⟩ = some (.int .i64 x250002_4) := (blk_cell BK249.out 2).trans rfl; have hfz66_0 := blk_frozen BK249.out 0; have hfz66_1 := blk_frozen BK249.out 1; have hfz66_2 := blk_frozen BK249.out 2; have hnb67 := NB246_0.out; have hnc67 := NB0_246.out; have hcz68_0 : w62.cell? ⟨gb246, 0, none⟩ = some (.int .i64 0) := (blk_cell BK246.out 0).trans rfl; have hcz68_1 : w62.cell? ⟨gb246, 1, none⟩ = some (.int .i64 0) := (blk_cell BK246.out 1).trans rfl; have hcz68_2 : w62.cell? ⟨gb246, 2, none⟩ = some (.int .i64 0) := (blk_cell BK246.out 2).trans rfl; have hfz68_0 := blk_frozen BK246.out 0; have hfz68_1 := blk_frozen BK246.out 1; have hfz68_2 := blk_frozen BK246.out 2))
        refine bodyPost_ret (results_cell_row rfl _ _ gb246 47 #[.int .i64 (wrap64 (1 + t247)), .int .i64 (rd y270 t273), .int .i64 x250002_4] (0, 0) _ rfl (by (with_reducible repeat (first | refine blk_drewN ?_ _ | refine blk_drew ?_ | refine blk_alloc ?_ _)); refine blk_put (cs := #[.int .i64 (wrap64 (1 + t247)), .int .i64 (rd y270 t273), .int .i64 0]) ?_ 2 _ rfl; (with_reducible repeat (first | refine blk_drewN ?_ _ | refine blk_drew ?_ | refine blk_alloc ?_ _)); refine blk_put (cs := #[.int .i64 (wrap64 (1 + t247)), .int .i64 0, .int .i64 0]) ?_ 1 _ rfl; (with_reducible repeat (first | refine blk_drewN ?_ _ | refine blk_drew ?_ | refine blk_alloc ?_ _)); refine blk_put (cs := #[.int .i64 0, .int .i64 0, .int .i64 0]) ?_ 0 _ rfl; (with_reducible repeat (first | refine blk_drewN ?_ _ | refine blk_drew ?_ | refine blk_alloc ?_ _)); refine blk_far ?_ NB246_249.out _; (with_reducible repeat (first | refine blk_drewN ?_ _ | refine blk_drew ?_ | refine blk_alloc ?_ _)); exact BK246.out) Try.underlying47 rfl (by kernel_rfl)) rfl ?_
        exact ⟨z11_9, z11_2, z11_3, z11_1⟩
       ·rw [if_neg c57] at H
        exact absurd H (by simp)
      ·rw [if_neg c56] at H
       exact absurd H (by simp)
     ·rw [if_neg c54] at H
      have c54b0 : (t262 == 1) = false := beq_eq_false_iff_ne.mpr c54
      have c54b1 : (t262 != 1) = true := bne_iff_ne.mpr c54
      obtain ⟨y276, hy276⟩ : ∃ y_ : List Int, y_ = (([(-1), 21] : List Int)) := ⟨_, rfl⟩
      replace H : ((spec_l20Rd_pick.f kj4 s0_0 t263 2).bind fun bt279 => (if 0 ≤ bt279.1 then (if bt279.1 < (y276.length : Int) then (some ((wrap64 (1 + t247)), x250001_4, rd y276 bt279.1, bt279.2)) else (none)) else (none))) = some (r1, r2, r3, r4) := by first | (rw [hy276]; with_reducible exact H) | (have H2_ := (Option.bind_some _ _).symm.trans H; rw [hy276]; with_reducible exact H2_) | (have H2_ := (Option.bind_some _ _).symm.trans H; with_reducible exact H2_) | with_reducible exact H | (rw [hy276]; exact H) | exact H
      have Ny276 := Aside0.mk hy276
      clear hy276
      replace H := Option.bind_eq_some_iff.mp H
      obtain ⟨⟨t279, t280⟩, A690, H⟩ := H
      replace H : (if 0 ≤ t279 then (if t279 < (y276.length : Int) then (some ((wrap64 (1 + t247)), x250001_4, rd y276 t279, t280)) else (none)) else (none)) = some (r1, r2, r3, r4) := H
      have A69 := Aside0.mk A690
      clear A690
      by_cases c70 : 0 ≤ t279
      ·rw [if_pos c70] at H
       have c70b0 : decide (0 ≤ t279) = true := decide_eq_true c70
       clear c70
       by_cases c71 : t279 < (y276.length : Int)
       ·rw [if_pos c71] at H
        have c71b0 : decide (t279 < (y276.length : Int)) = true := decide_eq_true c71
        clear c71
        simp only [Option.some.injEq, Prod.mk.injEq] at H
        obtain ⟨rfl, rfl, rfl, rfl⟩ := H
        go_wp2_with (first | ((with_reducible refine gate_callee (f := 89) rfl ?_); refine goesL_ (some 36) rfl rfl Try.func89 (by kernel_rfl) rfl #[.pointer (some ⟨g, 0, none⟩), .int .i64 a2] rfl z11_5 ?_; (with_reducible refine (spec_l20Rd_odd.calls kj4 g s0_0 x1001_4 a2 true t261 w0 _ ?side1 ?side2 A36.out).mono ?_); (case side1 => repeat (first | (with_reducible first | exact HI0.out | apply IsS128.alloc | apply IsS128.drewN | apply IsS128.drew | apply IsS128.set_1 | refine IsS128.far ?_ NB0_246.out _ | refine IsS128.far ?_ NB0_249.out _) | exact HI0.out)); (case side2 => repeat (first | (with_reducible first | exact HB.out | apply below_alloc | apply pw_below_drewN | apply below_drew1 | refine below_set ?_ (IsS128.ge HI0.out) | refine below_set ?_ GE246.out | refine below_set ?_ GE249.out) | exact HB.out)); rintro e w72 ⟨rfl, hi, hb, hk⟩; refine ⟨_, rfl, ?_⟩; have n0_ := Aside0.mk (KeepBut.blk hk (g' := gb246) (o := .cells #[.int .i64 0, .int .i64 0, .int .i64 0] 47 (0, 0)) z11_4 NB246_0.out (by simp)); have n1_ := Aside0.mk (KeepBut.blk hk (g' := gb249) (o := .cells #[.int .i64 (wrap64 (1 + t247)), .int .i64 x250001_4, .int .i64 x250002_4] 47 (0, 0)) z11_6 NB249_0.out (by simp)); have n2_ := Aside0.mk (KeepBut.trans z11_1 hk (.inl rfl)); have n3_ := Aside0.mk (hb); have n4_ := Aside0.mk (hi); clear BK246; clear BK249; clear HK; clear HB; clear HI0; have BK246 := n0_; have BK249 := n1_; have HK := n2_; have HB := n3_; have HI0 := n4_; clear n0_ n1_ n2_ n3_ n4_; (try clear hb); (try clear hb2); (try clear hk); (try clear hi)) | ((with_reducible refine gate_callee (f := 67) rfl ?_); refine goesL_ (some 38) rfl rfl Try.func67 (by kernel_rfl) rfl #[.pointer (some ⟨g, 0, none⟩), .int .i64 3] rfl z11_5 ?_; (with_reducible refine (spec_l20Rd_pick.calls kj4 g s0_0 t261 3 t262 t263 w0 _ ?side1 ?side2 A38.out).mono ?_); (case side1 => repeat (first | (with_reducible first | exact HI0.out | apply IsS128.alloc | apply IsS128.drewN | apply IsS128.drew | apply IsS128.set_1 | refine IsS128.far ?_ NB0_246.out _ | refine IsS128.far ?_ NB0_249.out _) | exact HI0.out)); (case side2 => repeat (first | (with_reducible first | exact HB.out | apply below_alloc | apply pw_below_drewN | apply below_drew1 | refine below_set ?_ (IsS128.ge HI0.out) | refine below_set ?_ GE246.out | refine below_set ?_ GE249.out) | exact HB.out)); rintro e w73 ⟨rfl, hi, hb, hk⟩; refine ⟨_, rfl, ?_⟩; have n0_ := Aside0.mk (KeepBut.blk hk (g' := gb246) (o := .cells #[.int .i64 0, .int .i64 0, .int .i64 0] 47 (0, 0)) z11_4 NB246_0.out (by simp)); have n1_ := Aside0.mk (KeepBut.blk hk (g' := gb249) (o := .cells #[.int .i64 (wrap64 (1 + t247)), .int .i64 x250001_4, .int .i64 x250002_4] 47 (0, 0)) z11_6 NB249_0.out (by simp)); have n2_ := Aside0.mk (KeepBut.trans z11_1 hk (.inl rfl)); have n3_ := Aside0.mk (hb); have n4_ := Aside0.mk (hi); clear BK246; clear BK249; clear HK; clear HB; clear HI0; have BK246 := n0_; have BK249 := n1_; have HK := n2_; have HB := n3_; have HI0 := n4_; clear n0_ n1_ n2_ n3_ n4_; (try clear hb); (try clear hb2); (try clear hk); (try clear hi)) | ((with_reducible refine gate_dst (N := 39) rfl ?_); refine Kd.R_lit (Kd.int .i64) _ 3 ?hg (N := 39) ?hd (xs := ([(-1), 21] : List Int)) (inner := [.int .i64 (-1), .int .i64 21]) (ok := fun _ => True) (okp := fun _ => True) ?hr ?hp (fun _ hk => hk) trivial (Below.refl _ _) (Nat.le_refl _) (by simp) ?_; (case hd => rfl); (case hg => rfl); (case hr => exact z11_0); (case hp => exact (Reps.one (show Kd.M (Kd.int .i64) _ _ _ (-1) [.int .i64 (-1)] from rfl) (Reps.one (show Kd.M (Kd.int .i64) _ _ _ 21 [.int .i64 21] from rfl) (Reps.none _ _)))); intro v277 w74 ho75 hb hg_ hnew_; clear hg_ hnew_; (first | rw [← Ny276.out] at ho75 | (simp only [Int.reduceToNat] at ho75; rw [← Ny276.out] at ho75)); have n0_ := Aside0.mk (Kd.R_lower ho75 (keep_size (w := w) (g := g) (row := none) z11_1)); have n1_ := Aside0.mk (blk_below (g := gb246) (o := .cells #[.int .i64 0, .int .i64 0, .int .i64 0] 47 (0, 0)) z11_4 hb); have n2_ := Aside0.mk (blk_below (g := gb249) (o := .cells #[.int .i64 (wrap64 (1 + t247)), .int .i64 x250001_4, .int .i64 x250002_4] 47 (0, 0)) z11_6 hb); have n3_ := Aside0.mk (IsS128.below z11_2 hb); have n4_ := Aside0.mk (KeepBut.trans z11_1 (KeepBut.of_below hb g none) (.inl rfl)); have n5_ := Aside0.mk (below_step z11_3 hb); clear BK246; clear BK249; clear HI0; clear HK; clear HB; have HO278 := n0_; have BK246 := n1_; have BK249 := n2_; have HI0 := n3_; have HK := n4_; have HB := n5_; clear n0_ n1_ n2_ n3_ n4_ n5_; clear hb ho75) | ((with_reducible refine gate_callee (f := 67) rfl ?_); refine goesL_ (some 41) rfl rfl Try.func67 (by kernel_rfl) rfl #[.pointer (some ⟨g, 0, none⟩), .int .i64 2] rfl z11_5 ?_; (with_reducible refine (spec_l20Rd_pick.calls kj4 g s0_0 t263 2 t279 t280 w0 _ ?side1 ?side2 A69.out).mono ?_); (case side1 => repeat (first | (with_reducible first | exact HI0.out | apply IsS128.alloc | apply IsS128.drewN | apply IsS128.drew | apply IsS128.set_1 | refine IsS128.far ?_ NB0_246.out _ | refine IsS128.far ?_ NB0_249.out _) | exact HI0.out)); (case side2 => repeat (first | (with_reducible first | exact HB.out | apply below_alloc | apply pw_below_drewN | apply below_drew1 | refine below_set ?_ (IsS128.ge HI0.out) | refine below_set ?_ GE246.out | refine below_set ?_ GE249.out) | exact HB.out)); rintro e w76 ⟨rfl, hi, hb, hk⟩; refine ⟨_, rfl, ?_⟩; have n0_ := Aside0.mk (KeepBut.blk hk (g' := gb246) (o := .cells #[.int .i64 0, .int .i64 0, .int .i64 0] 47 (0, 0)) z11_4 NB246_0.out (by simp)); have n1_ := Aside0.mk (KeepBut.blk hk (g' := gb249) (o := .cells #[.int .i64 (wrap64 (1 + t247)), .int .i64 x250001_4, .int .i64 x250002_4] 47 (0, 0)) z11_6 NB249_0.out (by simp)); have n2_ := Aside0.mk (Kd.R_mono (Kd.R_keep (IsS128.apart (show IsS128 w0 _ g s0_0 t263 from z11_2) (by (with_reducible repeat (first | apply Kd.R_alloc | apply Kd.R_drewN | apply Kd.R_drew)); exact HO278.out) (by decide)) hk (fun _ h => h.2)) (fun _ h => h.1)); have n3_ := Aside0.mk (KeepBut.trans z11_1 hk (.inl rfl)); have n4_ := Aside0.mk (hb); have n5_ := Aside0.mk (hi); clear BK246; clear BK249; clear HO278; clear HK; clear HB; clear HI0; have BK246 := n0_; have BK249 := n1_; have HO278 := n2_; have HK := n3_; have HB := n4_; have HI0 := n5_; clear n0_ n1_ n2_ n3_ n4_ n5_; (try clear hb); (try clear hb2); (try clear hk); (try clear hi); obtain ⟨Ao77, co77, eo77⟩ := Kd.R_slice HO278.out; subst eo77; have p281 : 0 ≤ (t279 : Int) := of_decide_eq_true z11_13; have q281 : t279 < (y276.length : Int) := of_decide_eq_true z11_13; obtain ⟨ad281, e281, hx281_0⟩ := Kd.at_int (Kd.R_reads' HO278.out).2.2 t279 p281 q281; cases e281; replace p281 := eq_true p281; replace q281 := eq_true q281; have hnb78 := NB249_246.out; have hnc78 := NB246_249.out; have hnb79 := NB249_0.out; have hnc79 := NB0_249.out; have hcz80_0 : w76.cell? ⟨gb249, 0, none⟩ = some (.int .i64 (wrap64 (1 + t247))) := (blk_cell BK249.out 0).trans rfl; have hcz80_1 : w76.cell? ⟨gb249, 1, none⟩ = some (.int .i64 x250001_4) := (blk_cell BK249.out 1).trans rfl; have hcz80_2 : w76.cell? ⟨gb249, 2, none⟩ = some (.int .i64 x250002_4) := (blk_cell BK249.out 2).trans rfl; have hfz80_0 := blk_frozen BK249.out 0; have hfz80_1 := blk_frozen BK249.out 1; have hfz80_2 := blk_frozen BK249.out 2; have hnb81 := NB246_0.out; have hnc81 := NB0_246.out; have hcz82_0 : w76.cell? ⟨gb246, 0, none⟩ = some (.int .i64 0) := (blk_cell BK246.out 0).trans rfl; have hcz82_1 : w76.cell? ⟨gb246, 1, none⟩ = some (.int .i64 0) := (blk_cell BK246.out 1).trans rfl; have hcz82_2 : w76.cell? ⟨gb246, 2, none⟩ = some (.int .i64 0) := (blk_cell BK246.out 2).trans rfl; have hfz82_0 := blk_frozen BK246.out 0; have hfz82_1 := blk_frozen BK246.out 1; have hfz82_2 := blk_frozen BK246.out 2))
        refine bodyPost_ret (results_cell_row rfl _ _ gb246 47 #[.int .i64 (wrap64 (1 + t247)), .int .i64 x250001_4, .int .i64 (rd y276 t279)] (0, 0) _ rfl (by (with_reducible repeat (first | refine blk_drewN ?_ _ | refine blk_drew ?_ | refine blk_alloc ?_ _)); refine blk_put (cs := #[.int .i64 (wrap64 (1 + t247)), .int .i64 x250001_4, .int .i64 0]) ?_ 2 _ rfl; (with_reducible repeat (first | refine blk_drewN ?_ _ | refine blk_drew ?_ | refine blk_alloc ?_ _)); refine blk_put (cs := #[.int .i64 (wrap64 (1 + t247)), .int .i64 0, .int .i64 0]) ?_ 1 _ rfl; (with_reducible repeat (first | refine blk_drewN ?_ _ | refine blk_drew ?_ | refine blk_alloc ?_ _)); refine blk_put (cs := #[.int .i64 0, .int .i64 0, .int .i64 0]) ?_ 0 _ rfl; (with_reducible repeat (first | refine blk_drewN ?_ _ | refine blk_drew ?_ | refine blk_alloc ?_ _)); refine blk_far ?_ NB246_249.out _; (with_reducible repeat (first | refine blk_drewN ?_ _ | refine blk_drew ?_ | refine blk_alloc ?_ _)); exact BK246.out) Try.underlying47 rfl (by kernel_rfl)) rfl ?_
        exact ⟨z11_9, z11_2, z11_3, z11_1⟩
       ·rw [if_neg c71] at H
        exact absurd H (by simp)
      ·rw [if_neg c70] at H
       exact absurd H (by simp)
   ·replace c37 := Bool.eq_false_iff.mpr c37
    subst c37
    have H1 : (some ((wrap64 (1 + t247)), x250001_4, x250002_4, t261)) = some (r1, r2, r3, r4) := by rw [if_neg (show ¬ (false = true) by decide)] at H; exact H
    clear H
    have H := H1
    clear H1
    simp only [Option.some.injEq, Prod.mk.injEq] at H
    obtain ⟨rfl, rfl, rfl, rfl⟩ := H
    go_wp2_with (first | ((with_reducible refine gate_callee (f := 89) rfl ?_); refine goesL_ (some 36) rfl rfl Try.func89 (by kernel_rfl) rfl #[.pointer (some ⟨g, 0, none⟩), .int .i64 a2] rfl z11_5 ?_; (with_reducible refine (spec_l20Rd_odd.calls kj4 g s0_0 x1001_4 a2 false t261 w0 _ ?side1 ?side2 A36.out).mono ?_); (case side1 => repeat (first | (with_reducible first | exact HI0.out | apply IsS128.alloc | apply IsS128.drewN | apply IsS128.drew | apply IsS128.set_1 | refine IsS128.far ?_ NB0_246.out _ | refine IsS128.far ?_ NB0_249.out _) | exact HI0.out)); (case side2 => repeat (first | (with_reducible first | exact HB.out | apply below_alloc | apply pw_below_drewN | apply below_drew1 | refine below_set ?_ (IsS128.ge HI0.out) | refine below_set ?_ GE246.out | refine below_set ?_ GE249.out) | exact HB.out)); rintro e w83 ⟨rfl, hi, hb, hk⟩; refine ⟨_, rfl, ?_⟩; have n0_ := Aside0.mk (KeepBut.blk hk (g' := gb246) (o := .cells #[.int .i64 0, .int .i64 0, .int .i64 0] 47 (0, 0)) z11_4 NB246_0.out (by simp)); have n1_ := Aside0.mk (KeepBut.blk hk (g' := gb249) (o := .cells #[.int .i64 (wrap64 (1 + t247)), .int .i64 x250001_4, .int .i64 x250002_4] 47 (0, 0)) z11_6 NB249_0.out (by simp)); have n2_ := Aside0.mk (KeepBut.trans z11_1 hk (.inl rfl)); have n3_ := Aside0.mk (hb); have n4_ := Aside0.mk (hi); clear BK246; clear BK249; clear HK; clear HB; clear HI0; have BK246 := n0_; have BK249 := n1_; have HK := n2_; have HB := n3_; have HI0 := n4_; clear n0_ n1_ n2_ n3_ n4_; (try clear hb); (try clear hb2); (try clear hk); (try clear hi); have hnb84 := NB249_246.out; have hnc84 := NB246_249.out; have hnb85 := NB249_0.out; have hnc85 := NB0_249.out; have hcz86_0 : w83.cell? ⟨gb249, 0, none⟩ = some (.int .i64 (wrap64 (1 + t247))) := (blk_cell BK249.out 0).trans rfl; have hcz86_1 : w83.cell? ⟨gb249, 1, none⟩ = some (.int .i64 x250001_4) := (blk_cell BK249.out 1).trans rfl; have hcz86_2 : w83.cell? ⟨gb249, 2, none⟩ = some (.int .i64 x250002_4) := (blk_cell BK249.out 2).trans rfl; have hfz86_0 := blk_frozen BK249.out 0; have hfz86_1 := blk_frozen BK249.out 1; have hfz86_2 := blk_frozen BK249.out 2; have hnb87 := NB246_0.out; have hnc87 := NB0_246.out; have hcz88_0 : w83.cell? ⟨gb246, 0, none⟩ = some (.int .i64 0) := (blk_cell BK246.out 0).trans rfl; have hcz88_1 : w83.cell? ⟨gb246, 1, none⟩ = some (.int .i64 0) := (blk_cell BK246.out 1).trans rfl; have hcz88_2 : w83.cell? ⟨gb246, 2, none⟩ = some (.int .i64 0) := (blk_cell BK246.out 2).trans rfl; have hfz88_0 := blk_frozen BK246.out 0; have hfz88_1 := blk_frozen BK246.out 1; have hfz88_2 := blk_frozen BK246.out 2))
    refine bodyPost_ret (results_cell_row rfl _ _ gb246 47 #[.int .i64 (wrap64 (1 + t247)), .int .i64 x250001_4, .int .i64 x250002_4] (0, 0) _ rfl (by (with_reducible repeat (first | refine blk_drewN ?_ _ | refine blk_drew ?_ | refine blk_alloc ?_ _)); refine blk_put (cs := #[.int .i64 (wrap64 (1 + t247)), .int .i64 x250001_4, .int .i64 0]) ?_ 2 _ rfl; (with_reducible repeat (first | refine blk_drewN ?_ _ | refine blk_drew ?_ | refine blk_alloc ?_ _)); refine blk_put (cs := #[.int .i64 (wrap64 (1 + t247)), .int .i64 0, .int .i64 0]) ?_ 1 _ rfl; (with_reducible repeat (first | refine blk_drewN ?_ _ | refine blk_drew ?_ | refine blk_alloc ?_ _)); refine blk_put (cs := #[.int .i64 0, .int .i64 0, .int .i64 0]) ?_ 0 _ rfl; (with_reducible repeat (first | refine blk_drewN ?_ _ | refine blk_drew ?_ | refine blk_alloc ?_ _)); exact BK246.out) Try.underlying47 rfl (by kernel_rfl)) rfl ?_
    exact ⟨z11_9, z11_2, z11_3, z11_1⟩

/-! ### spec_DrawCombineMessages: function 42 -/
def spec_DrawCombineMessages.f (k : Nat) (l0 : List Int) : Option (Int × Int × Int × (List (S34))) := (spec_l20Open.f l0).bind fun bt283 => ((spec_l20Program.f k bt283.1 bt283.2 5 9).bind fun bt286 => ((spec_l20Rd_pick.f k bt283.1 bt286.2.2.2 5).bind fun bt290 => ((spec_l20Messages.f k bt283.1 bt290.2 (wrap64 (1 + bt290.1))).bind fun bt292 => (some (bt286.1, bt286.2.1, bt286.2.2.1, bt292.1)))))
theorem spec_DrawCombineMessages.mono : ∀ a0 k, LeO (spec_DrawCombineMessages.f k a0) (spec_DrawCombineMessages.f (k + 1) a0) := by
 intro a0 k
 unfold spec_DrawCombineMessages.f
 repeat' first
   | (with_reducible exact spec_l20Messages.mono _ _ _ _)
   | (with_reducible exact spec_l20Program.mono _ _ _ _ _)
   | (with_reducible exact spec_l20Rd_pick.mono _ _ _ _)
   | (with_reducible exact LeO.refl _)
   | (with_reducible exact LeO.none _)
   | (with_reducible refine LeO.ite ?_ ?_)
   | (with_reducible refine LeO.bind ?_ (fun _ => ?_))
   | exact spec_l20Messages.mono _ _ _ _
   | exact spec_l20Program.mono _ _ _ _ _
   | exact spec_l20Rd_pick.mono _ _ _ _
   | exact LeO.none _
   | refine LeO.ite ?_ ?_
   | refine LeO.bind ?_ (fun _ => ?_)
set_option maxHeartbeats 8000000 in
set_option maxRecDepth 100000 in
theorem spec_DrawCombineMessages.calls (k : Nat) (A0 : Option Addr) (c0 : Nat) (l0 : List Int) (r1 : Int) (r2 : Int) (r3 : Int) (r4 : List (S34)) (w : World) (hr0 : Kd.C (Kd.int .u8) w A0 l0.length l0) (hc0 : l0.length ≤ c0) (h : spec_DrawCombineMessages.f k l0 = some (r1, r2, r3, r4)) :
  Calls Try.prog 42 #[.slice A0 l0.length c0] w fun e w' => ∃ v3_ : Value, e = .returned (.tuple #[.agg #[.int .i64 r1, .int .i64 r2, .int .i64 r3], v3_]) ∧ Kd.R k34 34 w' w.heap.size (fun _ => True) v3_ r4 ∧ Below w.heap.size w w' := by
 have hu47 := Try.underlying47
 have HR0 := Aside0.mk hr0
 have HC0 := Aside0.mk hc0
 clear hr0 hc0
 have HB := Aside0.mk (Below.refl w.heap.size w)
 have H : ((spec_l20Open.f l0).bind fun bt283 => ((spec_l20Program.f k bt283.1 bt283.2 5 9).bind fun bt286 => ((spec_l20Rd_pick.f k bt283.1 bt286.2.2.2 5).bind fun bt290 => ((spec_l20Messages.f k bt283.1 bt290.2 (wrap64 (1 + bt290.1))).bind fun bt292 => (some (bt286.1, bt286.2.1, bt286.2.2.1, bt292.1)))))) = some (r1, r2, r3, r4) := h
 clear h
 replace H := Option.bind_eq_some_iff.mp H
 obtain ⟨⟨t283, t284⟩, A20, H⟩ := H
 replace H : ((spec_l20Program.f k t283 t284 5 9).bind fun bt286 => ((spec_l20Rd_pick.f k t283 bt286.2.2.2 5).bind fun bt290 => ((spec_l20Messages.f k t283 bt290.2 (wrap64 (1 + bt290.1))).bind fun bt292 => (some (bt286.1, bt286.2.1, bt286.2.2.1, bt292.1))))) = some (r1, r2, r3, r4) := H
 have A2 := Aside0.mk A20
 clear A20
 replace H := Option.bind_eq_some_iff.mp H
 obtain ⟨⟨t286, t287, t288, t289⟩, A30, H⟩ := H
 replace H : ((spec_l20Rd_pick.f k t283 t289 5).bind fun bt290 => ((spec_l20Messages.f k t283 bt290.2 (wrap64 (1 + bt290.1))).bind fun bt292 => (some (t286, t287, t288, bt292.1)))) = some (r1, r2, r3, r4) := H
 have A3 := Aside0.mk A30
 clear A30
 replace H := Option.bind_eq_some_iff.mp H
 obtain ⟨⟨t290, t291⟩, A40, H⟩ := H
 replace H : ((spec_l20Messages.f k t283 t291 (wrap64 (1 + t290))).bind fun bt292 => (some (t286, t287, t288, bt292.1))) = some (r1, r2, r3, r4) := H
 have A4 := Aside0.mk A40
 clear A40
 replace H := Option.bind_eq_some_iff.mp H
 obtain ⟨⟨t292, t295⟩, A50, H⟩ := H
 replace H : (some (t286, t287, t288, t292)) = some (r1, r2, r3, r4) := H
 have A5 := Aside0.mk A50
 clear A50
 simp only [Option.some.injEq, Prod.mk.injEq] at H
 obtain ⟨rfl, rfl, rfl, rfl⟩ := H
 go_enter Try.func42, Try.ntmps42
 go_wp2_with (first | ((with_reducible refine gate_dst (N := 2) rfl ?_); refine box_event ?hg (N := 2) ?hd (cs := #[.int .i64 0, .int .i64 0, .int .i64 0]) (t := 47) ?hr ?_; (case hd => rfl); (case hg => rfl); (case hr => exact z11_0); intro gb282 hg w6 hbox hb; have n0_ := Aside0.mk (below_step z11_7 hb); have n1_ := Aside0.mk (hbox); have n2_ := Aside0.mk ((z11_23 : w.heap.size ≤ gb282)); have n3_ := Aside0.mk ((z11_23 : w.heap.size ≤ gb282)); clear HB; have HB := n0_; have BK282 := n1_; have GW282 := n2_; have GE282 := n3_; clear n0_ n1_ n2_ n3_; clear hb hbox hg) | ((with_reducible refine gate_callee (f := 65) rfl ?_); refine goesL_ (some 6) rfl rfl Try.func65 (by kernel_rfl) rfl #[.slice A0 l0.length c0] rfl z11_5 ?_; (with_reducible refine (spec_l20Open.calls _ _ l0 t283 t284 w _ ?side1 ?side2 ?side3 A2.out).mono ?_); (case side1 => repeat (first | (with_reducible first | exact HB.out | apply below_alloc | apply pw_below_drewN | apply below_drew1 | refine below_set ?_ GE282.out) | exact HB.out)); (case side2 => exact HR0.out); (case side3 => exact HC0.out); rintro e w7 ⟨g285, rfl, hi, hb, hb2⟩; refine ⟨_, rfl, ?_⟩; have n0_ := Aside0.mk (blk_below (g := gb282) (o := .cells #[.int .i64 0, .int .i64 0, .int .i64 0] 47 (0, 0)) z11_10 hb2); have n1_ := Aside0.mk (hb); have n2_ := Aside0.mk (hi); have n3_ := Aside0.mk (IsS128.ne_blk hi (blk_below (g := gb282) (o := .cells #[.int .i64 0, .int .i64 0, .int .i64 0] 47 (0, 0)) z11_10 hb2) (by decide)); have n4_ := Aside0.mk (Ne.symm (IsS128.ne_blk hi (blk_below (g := gb282) (o := .cells #[.int .i64 0, .int .i64 0, .int .i64 0] 47 (0, 0)) z11_10 hb2) (by decide))); clear BK282; clear HB; have BK282 := n0_; have HB := n1_; have HI285 := n2_; have NB285_282 := n3_; have NB282_285 := n4_; clear n0_ n1_ n2_ n3_ n4_; (try clear hb); (try clear hb2); (try clear hk); (try clear hi)) | ((with_reducible refine gate_callee (f := 84) rfl ?_); refine goesL_ (some 8) rfl rfl Try.func84 (by kernel_rfl) rfl #[.pointer (some ⟨g285, 0, none⟩), .int .i64 5, .int .i64 9] rfl z11_5 ?_; (with_reducible refine (spec_l20Program.calls k g285 t283 t284 5 9 t286 t287 t288 t289 w _ ?side1 ?side2 A3.out).mono ?_); (case side1 => repeat (first | (with_reducible first | exact HI285.out | apply IsS128.alloc | apply IsS128.drewN | apply IsS128.drew | apply IsS128.set_1 | refine IsS128.far ?_ NB285_282.out _) | exact HI285.out)); (case side2 => repeat (first | (with_reducible first | exact HB.out | apply below_alloc | apply pw_below_drewN | apply below_drew1 | refine below_set ?_ (IsS128.ge HI285.out) | refine below_set ?_ GE282.out) | exact HB.out)); rintro e w8 ⟨rfl, hi, hb, hk⟩; refine ⟨_, rfl, ?_⟩; have n0_ := Aside0.mk (KeepBut.blk hk (g' := gb282) (o := .cells #[.int .i64 0, .int .i64 0, .int .i64 0] 47 (0, 0)) z11_10 NB282_285.out (by simp)); have n1_ := Aside0.mk (hb); have n2_ := Aside0.mk (hi); clear BK282; clear HB; clear HI285; have BK282 := n0_; have HB := n1_; have HI285 := n2_; clear n0_ n1_ n2_; (try clear hb); (try clear hb2); (try clear hk); (try clear hi)) | ((with_reducible refine gate_callee (f := 67) rfl ?_); refine goesL_ (some 11) rfl rfl Try.func67 (by kernel_rfl) rfl #[.pointer (some ⟨g285, 0, none⟩), .int .i64 5] rfl z11_5 ?_; (with_reducible refine (spec_l20Rd_pick.calls k g285 t283 t289 5 t290 t291 w _ ?side1 ?side2 A4.out).mono ?_); (case side1 => repeat (first | (with_reducible first | exact HI285.out | apply IsS128.alloc | apply IsS128.drewN | apply IsS128.drew | apply IsS128.set_1 | refine IsS128.far ?_ NB285_282.out _) | exact HI285.out)); (case side2 => repeat (first | (with_reducible first | exact HB.out | apply below_alloc | apply pw_below_drewN | apply below_drew1 | refine below_set ?_ (IsS128.ge HI285.out) | refine below_set ?_ GE282.out) | exact HB.out)); rintro e w9 ⟨rfl, hi, hb, hk⟩; refine ⟨_, rfl, ?_⟩; have n0_ := Aside0.mk (KeepBut.blk hk (g' := gb282) (o := .cells #[.int .i64 0, .int .i64 0, .int .i64 0] 47 (0, 0)) z11_10 NB282_285.out (by simp)); have n1_ := Aside0.mk (hb); have n2_ := Aside0.mk (hi); clear BK282; clear HB; clear HI285; have BK282 := n0_; have HB := n1_; have HI285 := n2_; clear n0_ n1_ n2_; (try clear hb); (try clear hb2); (try clear hk); (try clear hi)) | ((with_reducible refine gate_callee (f := 75) rfl ?_); refine goesL_ (some 13) rfl rfl Try.func75 (by kernel_rfl) rfl #[.pointer (some ⟨g285, 0, none⟩), .int .i64 (wrap64 (1 + t290))] rfl z11_5 ?_; (with_reducible refine (spec_l20Messages.calls k g285 t283 t291 (wrap64 (1 + t290)) t292 t295 w _ ?side1 ?side2 A5.out).mono ?_); (case side1 => repeat (first | (with_reducible first | exact HI285.out | apply IsS128.alloc | apply IsS128.drewN | apply IsS128.drew | apply IsS128.set_1 | refine IsS128.far ?_ NB285_282.out _) | exact HI285.out)); (case side2 => repeat (first | (with_reducible first | exact HB.out | apply below_alloc | apply pw_below_drewN | apply below_drew1 | refine below_set ?_ (IsS128.ge HI285.out) | refine below_set ?_ GE282.out) | exact HB.out)); rintro e w10 ⟨v293, rfl, ho0, hi, hb, hk⟩; refine ⟨_, rfl, ?_⟩; have n0_ := Aside0.mk (KeepBut.blk hk (g' := gb282) (o := .cells #[.int .i64 0, .int .i64 0, .int .i64 0] 47 (0, 0)) z11_10 NB282_285.out (by simp)); have n1_ := Aside0.mk (Kd.R_lower ho0 (below_size z11_21)); have n2_ := Aside0.mk (hb); have n3_ := Aside0.mk (hi); clear BK282; clear HB; clear HI285; have BK282 := n0_; have HO294 := n1_; have HB := n2_; have HI285 := n3_; clear n0_ n1_ n2_ n3_; (try clear hb); (try clear hb2); (try clear hk); (try clear hi); (try clear ho0); have hnb11 := NB282_285.out; have hnc11 := NB285_282.out; have hcz12_0 : w10.cell? ⟨gb282, 0, none⟩ = some (.int .i64 0) := (blk_cell BK282.out 0).trans rfl; have hcz12_1 : w10.cell? ⟨gb282, 1, none⟩ = some (.int .i64 0) := (blk_cell BK282.out 1).trans rfl; have hcz12_2 : w10.cell? ⟨gb282, 2, none⟩ = some (.int .i64 0) := (blk_cell BK282.out 2).trans rfl; have hfz12_0 := blk_frozen BK282.out 0; have hfz12_1 := blk_frozen BK282.out 1; have hfz12_2 := blk_frozen BK282.out 2))
 refine bodyPost_ret (results_ct rfl _ _ gb282 47 #[.int .i64 t286, .int .i64 t287, .int .i64 t288] (0, 0) _ rfl (by (with_reducible repeat (first | refine blk_drewN ?_ _ | refine blk_drew ?_ | refine blk_alloc ?_ _)); refine blk_put (cs := #[.int .i64 t286, .int .i64 t287, .int .i64 0]) ?_ 2 _ rfl; (with_reducible repeat (first | refine blk_drewN ?_ _ | refine blk_drew ?_ | refine blk_alloc ?_ _)); refine blk_put (cs := #[.int .i64 t286, .int .i64 0, .int .i64 0]) ?_ 1 _ rfl; (with_reducible repeat (first | refine blk_drewN ?_ _ | refine blk_drew ?_ | refine blk_alloc ?_ _)); refine blk_put (cs := #[.int .i64 0, .int .i64 0, .int .i64 0]) ?_ 0 _ rfl; (with_reducible repeat (first | refine blk_drewN ?_ _ | refine blk_drew ?_ | refine blk_alloc ?_ _)); exact BK282.out) Try.underlying47 rfl (by kernel_rfl)) rfl ?_
 exact ⟨_, z11_9, by (with_reducible repeat (first | apply Kd.R_alloc | apply Kd.R_drewN | apply Kd.R_drew)); exact Kd.R_mono (Kd.R_far (p := ⟨gb282, 2, none⟩) (Kd.R_far (p := ⟨gb282, 1, none⟩) (Kd.R_far (p := ⟨gb282, 0, none⟩) (Kd.R_types HO294.out BK282.out (by decide)) (fun _ hk => hk.2) (.int .i64 t286)) (fun _ hk => hk.2) (.int .i64 t287)) (fun _ hk => hk.2) (.int .i64 t288)) (fun _ hk => trivial), z11_21⟩

/-! ### impl_valuesTo: function 85 -/
def impl_valuesTo.l0 : Nat → Int → List Int → List (S34) → Int → Int → Option (List Int)
 | 0, _, _, _, _, _ => none
 | k + 1, x1, x5, x8, x9, x10 => if x10 < x9 then (if 0 ≤ x10 then (if x10 < (x8.length : Int) then (if ((rd_T34 x8 x10).f0) = x1 then (if x5.length < 17592186044416 then (impl_valuesTo.l0 k x1 (x5 ++ [(rd_T34 x8 x10).f1]) x8 x9 (wrap64 (x10 + 1))) else (none)) else (impl_valuesTo.l0 k x1 x5 x8 x9 (wrap64 (x10 + 1)))) else (none)) else (none)) else (some x5)
def impl_valuesTo.f (k : Nat) (l0 : List (S34)) (a1 : Int) : Option (List Int) := impl_valuesTo.l0 k a1 ([] : List Int) l0 (l0.length : Int) 0
theorem impl_valuesTo.mono_l : ∀ k, (∀ y0 y1 y2 y3 y4, LeO (impl_valuesTo.l0 k y0 y1 y2 y3 y4) (impl_valuesTo.l0 (k + 1) y0 y1 y2 y3 y4))
 | 0 => fun _ _ _ _ _ r h => by simp [impl_valuesTo.l0] at h
 | k + 1 => by
  have ih0 := impl_valuesTo.mono_l k
  ·intro y0 y1 y2 y3 y4
   unfold impl_valuesTo.l0
   repeat' first
   | (with_reducible exact ih0 _ _ _ _ _)
   | (with_reducible exact LeO.refl _)
   | (with_reducible exact LeO.none _)
   | (with_reducible refine LeO.ite ?_ ?_)
   | (with_reducible refine LeO.bind ?_ (fun _ => ?_))
   | exact ih0 _ _ _ _ _
   | exact LeO.none _
   | refine LeO.ite ?_ ?_
   | refine LeO.bind ?_ (fun _ => ?_)
theorem impl_valuesTo.mono : ∀ a0 a1 k, LeO (impl_valuesTo.f k a0 a1) (impl_valuesTo.f (k + 1) a0 a1) := by
 intro a0 a1 k
 have ih0 := impl_valuesTo.mono_l k
 unfold impl_valuesTo.f
 repeat' first
   | (with_reducible exact ih0 _ _ _ _ _)
   | (with_reducible exact LeO.refl _)
   | (with_reducible exact LeO.none _)
   | (with_reducible refine LeO.ite ?_ ?_)
   | (with_reducible refine LeO.bind ?_ (fun _ => ?_))
   | exact ih0 _ _ _ _ _
   | exact LeO.none _
   | refine LeO.ite ?_ ?_
   | refine LeO.bind ?_ (fun _ => ?_)
set_option maxHeartbeats 8000000 in
set_option maxRecDepth 100000 in
theorem impl_valuesTo.calls (k : Nat) (A0 : Option Addr) (c0 : Nat) (l0 : List (S34)) (a1 : Int) (r : List Int) (w : World) (hr0 : Kd.C k34 w A0 l0.length l0) (hc0 : l0.length ≤ c0) (h : impl_valuesTo.f k l0 a1 = some r) :
  Calls Try.prog 85 #[.slice A0 l0.length c0, .int .i64 a1] w fun e w' => ∃ v0_ : Value, e = .returned (v0_) ∧ Kd.R (Kd.int .i64) 3 w' w.heap.size (fun _ => True) v0_ r ∧ Below w.heap.size w w' := by
 have hu34 := Try.underlying34
 have HR0 := Aside0.mk hr0
 have HC0 := Aside0.mk hc0
 clear hr0 hc0
 have HB := Aside0.mk (Below.refl w.heap.size w)
 have H : (impl_valuesTo.l0 k a1 ([] : List Int) l0 (l0.length : Int) 0) = some r := h
 clear h
 have H' := Aside0.mk H
 clear H
 go_enter Try.func85, Try.ntmps85
 go_wp2
 go_loopg [5, 10] k (fun kq v5 v10 w' => ∃ (x5_1 : List Int) (x10_1 : Int), v10 = .int .i64 x10_1 ∧ Aside0 (impl_valuesTo.l0 kq a1 x5_1 l0 (l0.length : Int) x10_1 = some r) ∧ Aside0 (kq ≤ k) ∧ Aside0 (Kd.R (Kd.int .i64) 3 w' w.heap.size (fun _ => True) v5 x5_1) ∧ Aside0 (Below w.heap.size w w'))
 case atStart => exact ⟨(([] : List Int)), (0), z11_20, H', ⟨Nat.le_refl _⟩, ⟨z11_24⟩, ⟨z11_7⟩⟩
 case round =>
  clear H'
  try clear p2
  obtain ⟨x5_1, x10_1, rfl, HA, HK1, HO_5, HB⟩ := hrel
  cases gk with
  | zero => exact absurd HA.out (by simp [impl_valuesTo.l0])
  | succ k1 =>
   have H := HA.out
   clear HA
   simp only [impl_valuesTo.l0] at H
   by_cases c3 : x10_1 < (l0.length : Int)
   ·rw [if_pos c3] at H
    have c3b0 : decide (x10_1 < (l0.length : Int)) = true := decide_eq_true c3
    clear c3
    by_cases c4 : 0 ≤ x10_1
    ·rw [if_pos c4] at H
     have c4b0 : decide (0 ≤ x10_1) = true := decide_eq_true c4
     clear c4
     by_cases c5 : x10_1 < (l0.length : Int)
     ·rw [if_pos c5] at H
      have c5b0 : decide (x10_1 < (l0.length : Int)) = true := decide_eq_true c5
      clear c5
      by_cases c6 : ((rd_T34 l0 x10_1).f0) = a1
      ·rw [if_pos c6] at H
       have c6b0 : (((rd_T34 l0 x10_1).f0) == a1) = true := beq_iff_eq.mpr c6
       have c6b1 : (((rd_T34 l0 x10_1).f0) != a1) = false := bne_eq_false_iff_eq.mpr c6
       clear c6
       by_cases c7 : x5_1.length < 17592186044416
       ·rw [if_pos c7] at H
        have LMc7 := Aside0.mk c7
        clear c7
        obtain ⟨y298, hy298⟩ : ∃ y_ : List Int, y_ = (x5_1 ++ [(rd_T34 l0 x10_1).f1]) := ⟨_, rfl⟩
        replace H : (impl_valuesTo.l0 k1 a1 y298 l0 (l0.length : Int) (wrap64 (x10_1 + 1))) = some r := by first | (rw [hy298]; with_reducible exact H) | (have H2_ := (Option.bind_some _ _).symm.trans H; rw [hy298]; with_reducible exact H2_) | (have H2_ := (Option.bind_some _ _).symm.trans H; with_reducible exact H2_) | with_reducible exact H | (rw [hy298]; exact H) | exact H
        have Ny298 := Aside0.mk hy298
        clear hy298
        have H' := Aside0.mk H
        clear H
        have p296 : 0 ≤ (x10_1 : Int) := of_decide_eq_true z11_13
        have q296 : x10_1 < (l0.length : Int) := of_decide_eq_true z11_13
        obtain ⟨ad296, e296, hx296_0, hx296_1, hx296_2⟩ := at_T34 HR0.out x10_1 p296 q296
        cases e296
        replace hx296_0 := (HB.out.cell (World.block_lt_of_cell? w _ hx296_0)).trans hx296_0
        replace hx296_1 := (HB.out.cell (World.block_lt_of_cell? w _ hx296_1)).trans hx296_1
        replace hx296_2 := (HB.out.cell (World.block_lt_of_cell? w _ hx296_2)).trans hx296_2
        replace p296 := eq_true p296
        replace q296 := eq_true q296
        go_wp2_with (first | ((with_reducible refine gate_dst (N := 7) rfl ?_); refine box_event ?hg (N := 7) ?hd (cs := #[.int .i64 0, .int .i64 0, .int .i64 0]) (t := 34) ?hr ?_; (case hd => rfl); (case hg => rfl); (case hr => exact z11_0); intro gb297 hg w8 hbox hb; have n0_ := Aside0.mk (Kd.R_below z11_22 hb); have n1_ := Aside0.mk (below_step z11_7 hb); have n2_ := Aside0.mk (hbox); have n3_ := Aside0.mk ((z11_23 : w.heap.size ≤ gb297)); have n4_ := Aside0.mk ((z11_23 : w.heap.size ≤ gb297)); clear HO_5; clear HB; have HO_5 := n0_; have HB := n1_; have BK297 := n2_; have GW297 := n3_; have GE297 := n4_; clear n0_ n1_ n2_ n3_ n4_; clear hb hbox hg; have hcz9_0 : w8.cell? ⟨gb297, 0, none⟩ = some (.int .i64 0) := (blk_cell BK297.out 0).trans rfl; have hcz9_1 : w8.cell? ⟨gb297, 1, none⟩ = some (.int .i64 0) := (blk_cell BK297.out 1).trans rfl; have hcz9_2 : w8.cell? ⟨gb297, 2, none⟩ = some (.int .i64 0) := (blk_cell BK297.out 2).trans rfl; have hfz9_0 := blk_frozen BK297.out 0; have hfz9_1 := blk_frozen BK297.out 1; have hfz9_2 := blk_frozen BK297.out 2) | ((with_reducible refine gate_builtin (b := .append) (xs := #[.tmp 18, .tmp 21]) rfl ?_); at_builtin; refine Kd.R_append (Kd.int .i64) (w0 := w) w.heap.size rfl (.tmp 18) (.tmp 21) 59 3 (.int .i64 0) 8 rfl Try.underlying59 info3 rfl (by decide) (by omega) u5 x5_1 ((rd_T34 l0 x10_1).f1) [.int .i64 ((rd_T34 l0 x10_1).f1)] (fun _ => True) (fun _ => False) rfl (by first | (go_simp; done) | (go_simp; rfl)) ?aP (fun _ hk => hk.elim) ?aF ?aO ?aB ?aS ?aL ?_; (case aP => exact rfl); (case aB => exact z11_14); (case aF => exact (fun _ _ => trivial)); (case aO => exact z11_15); (case aS => exact (below_size z11_14)); (case aL => have := LMc7.out; omega); intro v299 w10 ho hb hg hat; rw [← Ny298.out] at ho; have n0_ := Aside0.mk (blk_grown (g := gb297) (o := .cells #[.int .i64 ((rd_T34 l0 x10_1).f0), .int .i64 ((rd_T34 l0 x10_1).f1), .int .i64 ((rd_T34 l0 x10_1).f2)] 34 (0, 0)) (by (with_reducible repeat (first | refine blk_drewN ?_ _ | refine blk_drew ?_ | refine blk_alloc ?_ _)); refine blk_put (cs := #[.int .i64 ((rd_T34 l0 x10_1).f0), .int .i64 ((rd_T34 l0 x10_1).f1), .int .i64 0]) ?_ 2 _ rfl; (with_reducible repeat (first | refine blk_drewN ?_ _ | refine blk_drew ?_ | refine blk_alloc ?_ _)); refine blk_put (cs := #[.int .i64 ((rd_T34 l0 x10_1).f0), .int .i64 0, .int .i64 0]) ?_ 1 _ rfl; (with_reducible repeat (first | refine blk_drewN ?_ _ | refine blk_drew ?_ | refine blk_alloc ?_ _)); refine blk_put (cs := #[.int .i64 0, .int .i64 0, .int .i64 0]) ?_ 0 _ rfl; (with_reducible repeat (first | refine blk_drewN ?_ _ | refine blk_drew ?_ | refine blk_alloc ?_ _)); exact BK297.out) hg (Kd.R_ne HO_5.out BK297.out (by decide))); have n1_ := Aside0.mk (hb); have n2_ := Aside0.mk (ho); clear BK297; clear HB; clear HO_5; have BK297 := n0_; have HB := n1_; have HO300 := n2_; clear n0_ n1_ n2_; clear ho hb hg hat))
        go_roundg k1
        case measure => have := HK1.out; omega
        case rel => exact ⟨(y298), (wrap64 (x10_1 + 1)), z11_20, H', ⟨by have := HK1.out; omega⟩, ⟨by (with_reducible repeat (first | apply Kd.R_alloc | apply Kd.R_drewN | apply Kd.R_drew)); exact HO300.out⟩, ⟨z11_14⟩⟩
       ·rw [if_neg c7] at H
        exact absurd H (by simp)
      ·rw [if_neg c6] at H
       have c6b0 : (((rd_T34 l0 x10_1).f0) == a1) = false := beq_eq_false_iff_ne.mpr c6
       have c6b1 : (((rd_T34 l0 x10_1).f0) != a1) = true := bne_iff_ne.mpr c6
       have H' := Aside0.mk H
       clear H
       have p296 : 0 ≤ (x10_1 : Int) := of_decide_eq_true z11_13
       have q296 : x10_1 < (l0.length : Int) := of_decide_eq_true z11_13
       obtain ⟨ad296, e296, hx296_0, hx296_1, hx296_2⟩ := at_T34 HR0.out x10_1 p296 q296
       cases e296
       replace hx296_0 := (HB.out.cell (World.block_lt_of_cell? w _ hx296_0)).trans hx296_0
       replace hx296_1 := (HB.out.cell (World.block_lt_of_cell? w _ hx296_1)).trans hx296_1
       replace hx296_2 := (HB.out.cell (World.block_lt_of_cell? w _ hx296_2)).trans hx296_2
       replace p296 := eq_true p296
       replace q296 := eq_true q296
       go_wp2_with (first | ((with_reducible refine gate_dst (N := 7) rfl ?_); refine box_event ?hg (N := 7) ?hd (cs := #[.int .i64 0, .int .i64 0, .int .i64 0]) (t := 34) ?hr ?_; (case hd => rfl); (case hg => rfl); (case hr => exact z11_0); intro gb297 hg w11 hbox hb; have n0_ := Aside0.mk (Kd.R_below z11_22 hb); have n1_ := Aside0.mk (below_step z11_7 hb); have n2_ := Aside0.mk (hbox); have n3_ := Aside0.mk ((z11_23 : w.heap.size ≤ gb297)); have n4_ := Aside0.mk ((z11_23 : w.heap.size ≤ gb297)); clear HO_5; clear HB; have HO_5 := n0_; have HB := n1_; have BK297 := n2_; have GW297 := n3_; have GE297 := n4_; clear n0_ n1_ n2_ n3_ n4_; clear hb hbox hg; have hcz12_0 : w11.cell? ⟨gb297, 0, none⟩ = some (.int .i64 0) := (blk_cell BK297.out 0).trans rfl; have hcz12_1 : w11.cell? ⟨gb297, 1, none⟩ = some (.int .i64 0) := (blk_cell BK297.out 1).trans rfl; have hcz12_2 : w11.cell? ⟨gb297, 2, none⟩ = some (.int .i64 0) := (blk_cell BK297.out 2).trans rfl; have hfz12_0 := blk_frozen BK297.out 0; have hfz12_1 := blk_frozen BK297.out 1; have hfz12_2 := blk_frozen BK297.out 2))
       go_roundg k1
       case measure => have := HK1.out; omega
       case rel => exact ⟨(x5_1), (wrap64 (x10_1 + 1)), z11_20, H', ⟨by have := HK1.out; omega⟩, ⟨z11_15⟩, ⟨z11_14⟩⟩
     ·rw [if_neg c5] at H
      exact absurd H (by simp)
    ·rw [if_neg c4] at H
     exact absurd H (by simp)
   ·rw [if_neg c3] at H
    have c3b0 : decide (x10_1 < (l0.length : Int)) = false := decide_eq_false c3
    clear c3
    obtain rfl := Option.some.inj H
    go_wp2
    go_ret
    exact ⟨_, z11_9, z11_22, z11_7⟩

/-! ### impl_ValuesFor: function 44 -/
def impl_ValuesFor.f (k : Nat) (l0 : List (S34)) (a1 : Int) : Option (List Int) := if (l0.length : Int) > 2000 then (some ([] : List Int)) else ((impl_valuesTo.f k l0 a1).bind fun t301 => (some t301))
theorem impl_ValuesFor.mono : ∀ a0 a1 k, LeO (impl_ValuesFor.f k a0 a1) (impl_ValuesFor.f (k + 1) a0 a1) := by
 intro a0 a1 k
 unfold impl_ValuesFor.f
 repeat' first
   | (with_reducible exact impl_valuesTo.mono _ _ _)
   | (with_reducible exact LeO.refl _)
   | (with_reducible exact LeO.none _)
   | (with_reducible refine LeO.ite ?_ ?_)
   | (with_reducible refine LeO.bind ?_ (fun _ => ?_))
   | exact impl_valuesTo.mono _ _ _
   | exact LeO.none _
   | refine LeO.ite ?_ ?_
   | refine LeO.bind ?_ (fun _ => ?_)
set_option maxHeartbeats 8000000 in
set_option maxRecDepth 100000 in
theorem impl_ValuesFor.calls (k : Nat) (A0 : Option Addr) (c0 : Nat) (l0 : List (S34)) (a1 : Int) (r : List Int) (w : World) (hr0 : Kd.C k34 w A0 l0.length l0) (hc0 : l0.length ≤ c0) (h : impl_ValuesFor.f k l0 a1 = some r) :
  Calls Try.prog 44 #[.slice A0 l0.length c0, .int .i64 a1] w fun e w' => ∃ v0_ : Value, e = .returned (v0_) ∧ Kd.R (Kd.int .i64) 3 w' w.heap.size (fun _ => True) v0_ r ∧ Below w.heap.size w w' := by
 have HR0 := Aside0.mk hr0
 have HC0 := Aside0.mk hc0
 clear hr0 hc0
 have HB := Aside0.mk (Below.refl w.heap.size w)
 have H : (if (l0.length : Int) > 2000 then (some ([] : List Int)) else ((impl_valuesTo.f k l0 a1).bind fun t301 => (some t301))) = some r := h
 clear h
 by_cases c3 : (l0.length : Int) > 2000
 ·rw [if_pos c3] at H
  have c3b0 : decide (2000 < (l0.length : Int)) = true := decide_eq_true c3
  have c3b1 : decide (2000 < l0.length) = true := decide_eq_true (by omega)
  clear c3
  obtain rfl := Option.some.inj H
  go_enter Try.func44, Try.ntmps44
  go_wp2
  go_ret
  exact ⟨_, z11_9, z11_24, z11_7⟩
 ·rw [if_neg c3] at H
  have c3b0 : decide (2000 < (l0.length : Int)) = false := decide_eq_false c3
  have c3b1 : decide (2000 < l0.length) = false := decide_eq_false (by omega)
  clear c3
  replace H := Option.bind_eq_some_iff.mp H
  obtain ⟨t301, A40, H⟩ := H
  replace H : (some t301) = some r := H
  have A4 := Aside0.mk A40
  clear A40
  obtain rfl := Option.some.inj H
  go_enter Try.func44, Try.ntmps44
  go_wp2_with (first | ((with_reducible refine gate_callee (f := 85) rfl ?_); refine goesL_ (some 10) rfl rfl Try.func85 (by kernel_rfl) rfl #[.slice A0 l0.length c0, .int .i64 a1] rfl z11_5 ?_; (with_reducible refine (impl_valuesTo.calls k _ _ l0 a1 t301 _ ?side1 ?side2 A4.out).mono ?_); (case side1 => repeat (first | exact HR0.out | (with_reducible refine Kd.C_alloc ?_ _) | (with_reducible refine Kd.C_drewN ?_ _) | (with_reducible refine Kd.C_drew ?_))); (case side2 => exact HC0.out); rintro e w5 ⟨v302, rfl, ho0, hb⟩; refine ⟨_, rfl, ?_⟩; have n0_ := Aside0.mk (Kd.R_lower ho0 (below_size z11_7)); have n1_ := Aside0.mk (below_step z11_7 hb); clear HB; have HO303 := n0_; have HB := n1_; clear n0_ n1_; (try clear hb); (try clear hb2); (try clear hk); (try clear hi); (try clear ho0)))
  go_ret
  exact ⟨_, z11_9, by (with_reducible repeat (first | apply Kd.R_alloc | apply Kd.R_drewN | apply Kd.R_drew)); exact HO303.out, z11_7⟩

end Go.Proofs.Ytgdcnlmhdbdijaa.PFnCombineMessages
