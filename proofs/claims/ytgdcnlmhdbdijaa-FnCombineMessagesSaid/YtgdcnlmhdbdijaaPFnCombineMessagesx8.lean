/- Laid by a program of this session out of the translation: functions, their contracts, the row. Lean checks it. -/
import Derived.Test.YtgdcnlmhdbdijaaPFnCombineMessagesx0
import Derived.Test.YtgdcnlmhdbdijaaPFnCombineMessagesx5
import Derived.Test.YtgdcnlmhdbdijaaPFnCombineMessagesx6
import Derived.Test.YtgdcnlmhdbdijaaPFnCombineMessagesx7
namespace Go.Proofs.Ytgdcnlmhdbdijaa.PFnCombineMessages
open Go.RowKit Go.Proofs.YtgdcnlmhdbdijaaW.PrintWords Go.Proofs.YtgdcnlmhdbdijaaW.PrintLast Go.Proofs.YtgdcnlmhdbdijaaW.PrintMore
theorem z8_0 {p : Prop} (h : p := by first | (go_simp; done) | (go_simp; rfl)) : p := h
theorem z8_1 {p : Prop} (h : p := by repeat (first | (with_reducible first | exact HB.out | apply below_alloc | apply pw_below_drewN | apply below_drew1 | refine below_set ?_ GE180.out) | exact HB.out)) : p := h
theorem z8_2 {p : Prop} (h : p := by (with_reducible repeat (first | refine blk_drewN ?_ _ | refine blk_drew ?_ | refine blk_alloc ?_ _)); exact BK180.out) : p := h
theorem z8_3 {p : Prop} (h : p := by (with_reducible repeat (first | apply Kd.R_alloc | apply Kd.R_drewN | apply Kd.R_drew)); exact HO_5.out) : p := h
theorem z8_4 {p : Prop} (h : p := by (with_reducible repeat (first | apply Kd.R_alloc | apply Kd.R_drewN | apply Kd.R_drew)); exact HO_6.out) : p := h
theorem z8_5 {p : Prop} (h : p := by first | (with_reducible assumption) | assumption) : p := h
theorem z8_6 {p : Prop} (h : p := by (with_reducible repeat (first | apply Kd.R_alloc | apply Kd.R_drewN | apply Kd.R_drew)); exact Kd.R_mono HO_6.out (fun _ hk => ⟨trivial, by first | exact hk | exact fun e => hk (e.trans (by kernel_rfl))⟩)) : p := h
theorem z8_7 {p : Prop} (h : p := by (try simp only [List.map_toArray, List.map_cons, List.map_nil]); first | done | rfl | (simp only [List.length_drop, List.length_take]; rfl)) : p := h
theorem z8_8 {p : Prop} (h : p := by repeat (first | (with_reducible first | exact HB.out | apply below_alloc | apply pw_below_drewN | apply below_drew1) | exact HB.out)) : p := h
theorem z8_9 {p : Prop} (h : p := by (with_reducible repeat (first | apply Kd.R_alloc | apply Kd.R_drewN | apply Kd.R_drew)); exact Kd.R_mono HO_6.out (fun _ hk => hk.2)) : p := h
theorem z8_10 {p : Prop} (h : p := by first | rfl | (simp; done) | (simp [*]; done)) : p := h
theorem z8_11 {p : Prop} (h : p := by have := HK1.out; have := HJ7.out; omega) : p := h
theorem z8_12 {p : Prop} (h : p := by (with_reducible repeat (first | apply Kd.R_alloc | apply Kd.R_drewN | apply Kd.R_drew)); exact HO183.out) : p := h
attribute [local go_sem] max2_int min2_int max_two min_two max_three min_three max_four min_four   -- for this text's walks alone
set_option linter.unusedVariables false
set_option linter.unusedSimpArgs false

/-! ### spec_CombineMessages: function 31 -/
mutual
def spec_CombineMessages.l0 : Nat → List (S34) → List (S34) → Int → Int → Int → Int → Option ((List (S34)))
 | 0, _, _, _, _, _, _ => none
 | k + 1, x5, x6, x7, x181000, x181001, x181002 => if x7 < (x6.length : Int) then ((spec_ProgramValid.f k x181000 x181001 x181002).bind fun t187 => (spec_CombineMessages.j1 k x5 x6 x7 t187 x181000 x181001 x181002)) else (spec_CombineMessages.j1 k x5 x6 x7 false x181000 x181001 x181002)
def spec_CombineMessages.j1 : Nat → List (S34) → List (S34) → Int → Bool → Int → Int → Int → Option ((List (S34)))
 | 0, _, _, _, _, _, _, _ => none
 | k + 1, x5, x6, x7, x19, x181000, x181001, x181002 => if x19 = true then (if (wrap64 ((x5.length : Int) - 1)) < 0 then (if 0 ≤ x7 then (if x7 < (x6.length : Int) then (if x5.length < 5864062014805 then (spec_CombineMessages.l0 k (x5 ++ [(⟨(rd_T34 x6 x7).f0, (rd_T34 x6 x7).f1, (rd_T34 x6 x7).f2⟩ : S34)]) x6 (wrap64 (x7 + 1)) x181000 x181001 x181002) else (none)) else (none)) else (none)) else (if 0 ≤ (wrap64 ((x5.length : Int) - 1)) then (if (wrap64 ((x5.length : Int) - 1)) < (x5.length : Int) then (if 0 ≤ x7 then (if x7 < (x6.length : Int) then (if ((rd_T34 x5 (wrap64 ((x5.length : Int) - 1))).f0) = ((rd_T34 x6 x7).f0) then ((spec_CanCombine.f k x181000 x181001 x181002).bind fun t194 => (if t194 = true then (spec_CombineMessages.l0 k x5 x6 (wrap64 (x7 + 1)) x181000 x181001 x181002) else (if x5.length < 5864062014805 then (spec_CombineMessages.l0 k (x5 ++ [(⟨(rd_T34 x6 x7).f0, (rd_T34 x6 x7).f1, (rd_T34 x6 x7).f2⟩ : S34)]) x6 (wrap64 (x7 + 1)) x181000 x181001 x181002) else (none)))) else (if x5.length < 5864062014805 then (spec_CombineMessages.l0 k (x5 ++ [(⟨(rd_T34 x6 x7).f0, (rd_T34 x6 x7).f1, (rd_T34 x6 x7).f2⟩ : S34)]) x6 (wrap64 (x7 + 1)) x181000 x181001 x181002) else (none))) else (none)) else (none)) else (none)) else (none))) else (some x5)
end
def spec_CombineMessages.f (k : Nat) (a0_0 : Int) (a0_1 : Int) (a0_2 : Int) (l1 : List (S34)) : Option ((List (S34))) := (spec_SortMessages.f k l1).bind fun t184 => (spec_CombineMessages.l0 k (([] : List (S34))) t184 0 a0_0 a0_1 a0_2)
theorem spec_CombineMessages.mono_l : ∀ k, (∀ y0 y1 y2 y3 y4 y5, LeO (spec_CombineMessages.l0 k y0 y1 y2 y3 y4 y5) (spec_CombineMessages.l0 (k + 1) y0 y1 y2 y3 y4 y5)) ∧ (∀ y0 y1 y2 y3 y4 y5 y6, LeO (spec_CombineMessages.j1 k y0 y1 y2 y3 y4 y5 y6) (spec_CombineMessages.j1 (k + 1) y0 y1 y2 y3 y4 y5 y6))
 | 0 => ⟨fun _ _ _ _ _ _ r h => by simp [spec_CombineMessages.l0] at h, fun _ _ _ _ _ _ _ r h => by simp [spec_CombineMessages.j1] at h⟩
 | k + 1 => by
  obtain ⟨ih0, ih1⟩ := spec_CombineMessages.mono_l k
  refine ⟨?_, ?_⟩
  ·intro y0 y1 y2 y3 y4 y5
   unfold spec_CombineMessages.l0
   repeat' first
   | (with_reducible exact ih0 _ _ _ _ _ _)
   | (with_reducible exact ih1 _ _ _ _ _ _ _)
   | (with_reducible exact spec_CanCombine.mono _ _ _ _)
   | (with_reducible exact spec_ProgramValid.mono _ _ _ _)
   | (with_reducible exact spec_SortMessages.mono _ _)
   | (with_reducible exact LeO.refl _)
   | (with_reducible exact LeO.none _)
   | (with_reducible refine LeO.ite ?_ ?_)
   | (with_reducible refine LeO.bind ?_ (fun _ => ?_))
   | exact ih0 _ _ _ _ _ _
   | exact ih1 _ _ _ _ _ _ _
   | exact spec_CanCombine.mono _ _ _ _
   | exact spec_ProgramValid.mono _ _ _ _
   | exact spec_SortMessages.mono _ _
   | exact LeO.none _
   | refine LeO.ite ?_ ?_
   | refine LeO.bind ?_ (fun _ => ?_)
  ·intro y0 y1 y2 y3 y4 y5 y6
   unfold spec_CombineMessages.j1
   repeat' first
   | (with_reducible exact ih0 _ _ _ _ _ _)
   | (with_reducible exact ih1 _ _ _ _ _ _ _)
   | (with_reducible exact spec_CanCombine.mono _ _ _ _)
   | (with_reducible exact spec_ProgramValid.mono _ _ _ _)
   | (with_reducible exact spec_SortMessages.mono _ _)
   | (with_reducible exact LeO.refl _)
   | (with_reducible exact LeO.none _)
   | (with_reducible refine LeO.ite ?_ ?_)
   | (with_reducible refine LeO.bind ?_ (fun _ => ?_))
   | exact ih0 _ _ _ _ _ _
   | exact ih1 _ _ _ _ _ _ _
   | exact spec_CanCombine.mono _ _ _ _
   | exact spec_ProgramValid.mono _ _ _ _
   | exact spec_SortMessages.mono _ _
   | exact LeO.none _
   | refine LeO.ite ?_ ?_
   | refine LeO.bind ?_ (fun _ => ?_)
theorem spec_CombineMessages.mono : ∀ a0 a1 a2 a3 k, LeO (spec_CombineMessages.f k a0 a1 a2 a3) (spec_CombineMessages.f (k + 1) a0 a1 a2 a3) := by
 intro a0 a1 a2 a3 k
 obtain ⟨ih0, ih1⟩ := spec_CombineMessages.mono_l k
 unfold spec_CombineMessages.f
 repeat' first
   | (with_reducible exact ih0 _ _ _ _ _ _)
   | (with_reducible exact ih1 _ _ _ _ _ _ _)
   | (with_reducible exact spec_CanCombine.mono _ _ _ _)
   | (with_reducible exact spec_ProgramValid.mono _ _ _ _)
   | (with_reducible exact spec_SortMessages.mono _ _)
   | (with_reducible exact LeO.refl _)
   | (with_reducible exact LeO.none _)
   | (with_reducible refine LeO.ite ?_ ?_)
   | (with_reducible refine LeO.bind ?_ (fun _ => ?_))
   | exact ih0 _ _ _ _ _ _
   | exact ih1 _ _ _ _ _ _ _
   | exact spec_CanCombine.mono _ _ _ _
   | exact spec_ProgramValid.mono _ _ _ _
   | exact spec_SortMessages.mono _ _
   | exact LeO.none _
   | refine LeO.ite ?_ ?_
   | refine LeO.bind ?_ (fun _ => ?_)
def spec_CombineMessages.T7 : Bool × List (List Nat × List Nat) := (true, [([], []), ([0], [0]), ([1], [1]), ([2], [2]), ([2], [2]), ([3, 4, 2], [2, 3, 4]), ([5, 2], [2, 5]), ([6, 2], [2, 6]), ([2], [2]), ([2], [2]), ([8, 9, 2], [2, 8, 9]), ([10, 2], [2, 10]), ([11, 2], [2, 11]), ([7, 12, 2], [2, 7, 12]), ([2, 13], [2, 13]), ([14, 2], [14]), ([15], [15]), ([16, 15, 15], [15, 16]), ([17, 15], [15, 17]), ([15, 18], [15, 18])])
def spec_CombineMessages.B7 : List Nat := [0, 1, 3, 7, 7, 31, 63, 127, 7, 7, 775, 1799, 3847, 8191, 16383, 32767, 65535, 131071, 262143, 524287]
theorem spec_CombineMessages.tab7 : rtab .any (opsOf Try.f31 7) = spec_CombineMessages.T7 := by kernel_rfl
theorem spec_CombineMessages.bits7 : waitsOk spec_CombineMessages.T7.2 spec_CombineMessages.B7 = true := by kernel_rfl
set_option maxHeartbeats 8000000 in
set_option maxRecDepth 100000 in
theorem spec_CombineMessages.calls (k : Nat) (a0_0 : Int) (a0_1 : Int) (a0_2 : Int) (A1 : Option Addr) (c1 : Nat) (l1 : List (S34)) (r : List (S34)) (w : World) (hr1 : Kd.C k34 w A1 l1.length l1) (hc1 : l1.length ≤ c1) (h : spec_CombineMessages.f k a0_0 a0_1 a0_2 l1 = some r) :
  Calls Try.prog 31 #[.agg #[.int .i64 a0_0, .int .i64 a0_1, .int .i64 a0_2], .slice A1 l1.length c1] w fun e w' => ∃ v0_ : Value, e = .returned (v0_) ∧ Kd.R k34 34 w' w.heap.size (fun _ => True) v0_ r ∧ Below w.heap.size w w' := by
 have hu47 := Try.underlying47
 have hu34 := Try.underlying34
 have HR1 := Aside0.mk hr1
 have HC1 := Aside0.mk hc1
 clear hr1 hc1
 have HB := Aside0.mk (Below.refl w.heap.size w)
 have H : ((spec_SortMessages.f k l1).bind fun t184 => (spec_CombineMessages.l0 k (([] : List (S34))) t184 0 a0_0 a0_1 a0_2)) = some r := h
 clear h
 obtain ⟨y181, hy181⟩ : ∃ y_ : List (S34), y_ = (([] : List (S34))) := ⟨_, rfl⟩
 replace H : ((spec_SortMessages.f k l1).bind fun t184 => (spec_CombineMessages.l0 k y181 t184 0 a0_0 a0_1 a0_2)) = some r := by first | (rw [hy181]; with_reducible exact H) | (have H2_ := (Option.bind_some _ _).symm.trans H; rw [hy181]; with_reducible exact H2_) | (have H2_ := (Option.bind_some _ _).symm.trans H; with_reducible exact H2_) | with_reducible exact H | (rw [hy181]; exact H) | exact H
 have Ny181 := Aside0.mk hy181
 clear hy181
 replace H := Option.bind_eq_some_iff.mp H
 obtain ⟨t184, A30, H⟩ := H
 replace H : (spec_CombineMessages.l0 k y181 t184 0 a0_0 a0_1 a0_2) = some r := H
 have A3 := Aside0.mk A30
 clear A30
 have H' := Aside0.mk H
 clear H
 go_enter Try.func31, Try.ntmps31
 go_wp2_with (first | ((with_reducible refine gate_dst (N := 2) rfl ?_); refine box_event ?hg (N := 2) ?hd (cs := #[.int .i64 a0_0, .int .i64 a0_1, .int .i64 a0_2]) (t := 47) ?hr ?_; (case hd => rfl); (case hg => rfl); (case hr => exact z8_0); intro gb180 hg w4 hbox hb; have n0_ := Aside0.mk (below_step z8_8 hb); have n1_ := Aside0.mk (hbox); have n2_ := Aside0.mk ((by rw [hg]; exact (below_size z8_8) : w.heap.size ≤ gb180)); have n3_ := Aside0.mk ((by rw [hg]; exact (below_size z8_8) : w.heap.size ≤ gb180)); clear HB; have HB := n0_; have BK180 := n1_; have GW180 := n2_; have GE180 := n3_; clear n0_ n1_ n2_ n3_; clear hb hbox hg) | ((with_reducible refine gate_dst (N := 9) rfl ?_); refine Kd.R_lit k34 _ 34 ?hg (N := 9) ?hd (xs := ([] : List (S34))) (inner := []) (ok := fun _ => True) (okp := fun _ => True) ?hr ?hp (fun _ hk => hk) trivial (Below.refl _ _) (Nat.le_refl _) (by simp) ?_; (case hd => rfl); (case hg => rfl); (case hr => exact z8_0); (case hp => exact (Reps.none _ _)); intro v182 w5 ho6 hb hg_ hnew_; clear hg_ hnew_; (first | rw [← Ny181.out] at ho6 | (simp only [Int.reduceToNat] at ho6; rw [← Ny181.out] at ho6)); have n0_ := Aside0.mk (Kd.R_lower ho6 (below_size z8_1)); have n1_ := Aside0.mk (blk_below (g := gb180) (o := .cells #[.int .i64 a0_0, .int .i64 a0_1, .int .i64 a0_2] 47 (0, 0)) z8_2 hb); have n2_ := Aside0.mk (below_step z8_1 hb); clear BK180; clear HB; have HO183 := n0_; have BK180 := n1_; have HB := n2_; clear n0_ n1_ n2_; clear hb ho6) | ((with_reducible refine gate_callee (f := 73) rfl ?_); refine goesL_ (some 11) rfl rfl Try.func73 (by kernel_rfl) rfl #[.slice A1 l1.length c1] rfl z8_7 ?_; (with_reducible refine (spec_SortMessages.calls k _ _ l1 t184 _ ?side1 ?side2 A3.out).mono ?_); (case side1 => repeat (first | exact (Kd.C_below HR1.out HB.out) | (with_reducible refine Kd.C_alloc ?_ _) | (with_reducible refine Kd.C_drewN ?_ _) | (with_reducible refine Kd.C_drew ?_))); (case side2 => exact HC1.out); rintro e w7 ⟨v185, rfl, ho0, hb⟩; refine ⟨_, rfl, ?_⟩; have n0_ := Aside0.mk (Kd.R_elder' z8_12 (Kd.R_base ho0) hb); have n1_ := Aside0.mk (Kd.R_lower (Kd.R_new' ho0 (Kd.R_lt z8_12)) (below_size z8_1)); have n2_ := Aside0.mk (blk_below (g := gb180) (o := .cells #[.int .i64 a0_0, .int .i64 a0_1, .int .i64 a0_2] 47 (0, 0)) z8_2 hb); have n3_ := Aside0.mk (below_step z8_1 hb); clear HO183; clear BK180; clear HB; have HO183 := n0_; have HO186 := n1_; have BK180 := n2_; have HB := n3_; clear n0_ n1_ n2_ n3_; (try clear hb); (try clear hb2); (try clear hk); (try clear hi); (try clear ho0)))
 go_loopg [5, 7] k (fun kq v5 v7 w' => ∃ (x5_1 : List (S34)) (x7_1 : Int), v7 = .int .i64 x7_1 ∧ Aside0 (spec_CombineMessages.l0 kq x5_1 t184 x7_1 a0_0 a0_1 a0_2 = some r) ∧ Aside0 (kq ≤ k) ∧ Aside0 (Kd.R k34 34 w' w.heap.size (fun k_ => some k_ ≠ (v185 : Value).ownBlock) v5 x5_1) ∧ Aside0 (Kd.R k34 34 w' w.heap.size (fun k_ => some k_ ≠ (v5 : Value).ownBlock) v185 t184) ∧ Aside0 (w'.heap[gb180]? = some (.cells #[.int .i64 a0_0, .int .i64 a0_1, .int .i64 a0_2] 47 (0, 0))) ∧ Aside0 (Below w.heap.size w w'))
 case atStart => exact ⟨(y181), (0), z8_10, H', ⟨Nat.le_refl _⟩, ⟨by (with_reducible repeat (first | apply Kd.R_alloc | apply Kd.R_drewN | apply Kd.R_drew)); exact Kd.R_mono HO183.out (fun _ hk => hk.2)⟩, ⟨by (with_reducible repeat (first | apply Kd.R_alloc | apply Kd.R_drewN | apply Kd.R_drew)); exact Kd.R_mono HO186.out (fun _ hk => hk.2)⟩, ⟨z8_2⟩, ⟨z8_1⟩⟩
 case round =>
  clear H'
  try clear c1
  try clear p2
  try clear c3
  try clear c7
  obtain ⟨x5_1, x7_1, rfl, HA, HK1, HO_5, HO_6, BK180, HB⟩ := hrel
  cases gk with
  | zero => exact absurd HA.out (by simp [spec_CombineMessages.l0])
  | succ k1 =>
   have H := HA.out
   clear HA
   simp only [spec_CombineMessages.l0] at H
   have HC8 := Aside0.mk H
   clear H
   go_upto_region 4 with (fail)
   go_cut [19] (fun v19 wc => ∃ (kq : Nat) (x19_7 : Bool), v19 = .bool x19_7 ∧ Aside0 (spec_CombineMessages.j1 kq x5_1 t184 x7_1 x19_7 a0_0 a0_1 a0_2 = some r) ∧ Aside0 (kq ≤ k1) ∧ Aside0 (Kd.R k34 34 wc w.heap.size (fun k_ => some k_ ≠ (v185 : Value).ownBlock) u5 x5_1) ∧ Aside0 (Kd.R k34 34 wc w.heap.size (fun k_ => some k_ ≠ (u5 : Value).ownBlock) v185 t184) ∧ Aside0 (wc.heap[gb180]? = some (.cells #[.int .i64 a0_0, .int .i64 a0_1, .int .i64 a0_2] 47 (0, 0))) ∧ Aside0 (Below w.heap.size w wc))
   case first =>
    have H := HC8.out
    clear HC8
    by_cases c9 : x7_1 < (t184.length : Int)
    ·rw [if_pos c9] at H
     have c9b0 : decide (x7_1 < (t184.length : Int)) = true := decide_eq_true c9
     clear c9
     (first | rw [c9b0] | (simp only [i64_w, i32_w]; rw [c9b0]) | skip)
     replace H := Option.bind_eq_some_iff.mp H
     obtain ⟨t187, A100, H⟩ := H
     replace H : (spec_CombineMessages.j1 k1 x5_1 t184 x7_1 t187 a0_0 a0_1 a0_2) = some r := H
     have A10 := Aside0.mk A100
     clear A100
     have H' := Aside0.mk H
     clear H
     obtain ⟨Ao11, co11, eo11⟩ := Kd.R_slice HO_6.out
     subst eo11
     have hcz12_0 : wr.cell? ⟨gb180, 0, none⟩ = some (.int .i64 a0_0) := (blk_cell BK180.out 0).trans rfl
     have hcz12_1 : wr.cell? ⟨gb180, 1, none⟩ = some (.int .i64 a0_1) := (blk_cell BK180.out 1).trans rfl
     have hcz12_2 : wr.cell? ⟨gb180, 2, none⟩ = some (.int .i64 a0_2) := (blk_cell BK180.out 2).trans rfl
     have hfz12_0 := blk_frozen BK180.out 0
     have hfz12_1 := blk_frozen BK180.out 1
     have hfz12_2 := blk_frozen BK180.out 2
     go_wp2_with (first | (go_at_call 43; (with_reducible refine (spec_ProgramValid.calls k1 a0_0 a0_1 a0_2 t187 _ A10.out).mono ?_); rintro e w13 ⟨rfl, hb⟩; have n0_ := Aside0.mk (Kd.R_below z8_3 hb); have n1_ := Aside0.mk (Kd.R_below z8_4 hb); have n2_ := Aside0.mk (blk_below (g := gb180) (o := .cells #[.int .i64 a0_0, .int .i64 a0_1, .int .i64 a0_2] 47 (0, 0)) z8_2 hb); have n3_ := Aside0.mk (below_step z8_1 hb); clear HO_5; clear HO_6; clear BK180; clear HB; have HO_5 := n0_; have HO_6 := n1_; have BK180 := n2_; have HB := n3_; clear n0_ n1_ n2_ n3_; (try clear hb); (try clear hb2); (try clear hk); (try clear hi)))
     go_meet
     case rel => exact ⟨_, (t187), z8_10, H', ⟨by have := HK1.out; first | omega | exact Nat.le_refl _⟩, ⟨z8_3⟩, ⟨z8_4⟩, ⟨z8_2⟩, ⟨z8_1⟩⟩
    ·rw [if_neg c9] at H
     have c9b0 : decide (x7_1 < (t184.length : Int)) = false := decide_eq_false c9
     clear c9
     (first | rw [c9b0] | (simp only [i64_w, i32_w]; rw [c9b0]) | skip)
     have H' := Aside0.mk H
     clear H
     obtain ⟨Ao14, co14, eo14⟩ := Kd.R_slice HO_6.out
     subst eo14
     go_wp2
     go_meet
     case rel => exact ⟨_, (false), z8_10, H', ⟨by have := HK1.out; first | omega | exact Nat.le_refl _⟩, ⟨z8_3⟩, ⟨z8_4⟩, ⟨z8_2⟩, ⟨z8_1⟩⟩
   case rest =>
    clear HC8
    try clear c1
    try clear p2
    try clear c3
    try clear c7
    try clear c9
    try clear c9b0
    try clear hcz12_0
    try clear hcz12_1
    try clear hcz12_2
    try clear hfz12_0
    try clear hfz12_1
    try clear hfz12_2
    try clear p2
    obtain ⟨kq, x19_7, rfl, HA, HJ7, HO_5, HO_6, BK180, HB⟩ := hcut
    cases kq with
    | zero => exact absurd HA.out (by simp [spec_CombineMessages.j1])
    | succ kj7 =>
     have H := HA.out
     clear HA
     simp only [spec_CombineMessages.j1] at H
     by_cases c15 : x19_7 = true
     ·subst c15
      have H1 : (if (wrap64 ((x5_1.length : Int) - 1)) < 0 then (if 0 ≤ x7_1 then (if x7_1 < (t184.length : Int) then (if x5_1.length < 5864062014805 then (spec_CombineMessages.l0 kj7 (x5_1 ++ [(⟨(rd_T34 t184 x7_1).f0, (rd_T34 t184 x7_1).f1, (rd_T34 t184 x7_1).f2⟩ : S34)]) t184 (wrap64 (x7_1 + 1)) a0_0 a0_1 a0_2) else (none)) else (none)) else (none)) else (if 0 ≤ (wrap64 ((x5_1.length : Int) - 1)) then (if (wrap64 ((x5_1.length : Int) - 1)) < (x5_1.length : Int) then (if 0 ≤ x7_1 then (if x7_1 < (t184.length : Int) then (if ((rd_T34 x5_1 (wrap64 ((x5_1.length : Int) - 1))).f0) = ((rd_T34 t184 x7_1).f0) then ((spec_CanCombine.f kj7 a0_0 a0_1 a0_2).bind fun t194 => (if t194 = true then (spec_CombineMessages.l0 kj7 x5_1 t184 (wrap64 (x7_1 + 1)) a0_0 a0_1 a0_2) else (if x5_1.length < 5864062014805 then (spec_CombineMessages.l0 kj7 (x5_1 ++ [(⟨(rd_T34 t184 x7_1).f0, (rd_T34 t184 x7_1).f1, (rd_T34 t184 x7_1).f2⟩ : S34)]) t184 (wrap64 (x7_1 + 1)) a0_0 a0_1 a0_2) else (none)))) else (if x5_1.length < 5864062014805 then (spec_CombineMessages.l0 kj7 (x5_1 ++ [(⟨(rd_T34 t184 x7_1).f0, (rd_T34 t184 x7_1).f1, (rd_T34 t184 x7_1).f2⟩ : S34)]) t184 (wrap64 (x7_1 + 1)) a0_0 a0_1 a0_2) else (none))) else (none)) else (none)) else (none)) else (none))) = some r := by rw [if_pos rfl] at H; exact H
      clear H
      have H := H1
      clear H1
      by_cases c16 : (wrap64 ((x5_1.length : Int) - 1)) < 0
      ·rw [if_pos c16] at H
       have c16b0 : decide ((wrap64 ((x5_1.length : Int) - 1)) < 0) = true := decide_eq_true c16
       clear c16
       by_cases c17 : 0 ≤ x7_1
       ·rw [if_pos c17] at H
        have c17b0 : decide (0 ≤ x7_1) = true := decide_eq_true c17
        clear c17
        by_cases c18 : x7_1 < (t184.length : Int)
        ·rw [if_pos c18] at H
         have c18b0 : decide (x7_1 < (t184.length : Int)) = true := decide_eq_true c18
         clear c18
         by_cases c19 : x5_1.length < 5864062014805
         ·rw [if_pos c19] at H
          have LMc19 := Aside0.mk c19
          clear c19
          obtain ⟨y189, hy189⟩ : ∃ y_ : List (S34), y_ = (x5_1 ++ [(⟨(rd_T34 t184 x7_1).f0, (rd_T34 t184 x7_1).f1, (rd_T34 t184 x7_1).f2⟩ : S34)]) := ⟨_, rfl⟩
          replace H : (spec_CombineMessages.l0 kj7 y189 t184 (wrap64 (x7_1 + 1)) a0_0 a0_1 a0_2) = some r := by first | (rw [hy189]; with_reducible exact H) | (have H2_ := (Option.bind_some _ _).symm.trans H; rw [hy189]; with_reducible exact H2_) | (have H2_ := (Option.bind_some _ _).symm.trans H; with_reducible exact H2_) | with_reducible exact H | (rw [hy189]; exact H) | exact H
          have Ny189 := Aside0.mk hy189
          clear hy189
          have H' := Aside0.mk H
          clear H
          obtain ⟨Ao20, co20, eo20⟩ := Kd.R_slice HO_5.out
          subst eo20
          try go_wp2
          have n0_ := Aside0.mk (Kd.R_drew HO_5.out)
          have n1_ := Aside0.mk (Kd.R_drew HO_6.out)
          have n2_ := Aside0.mk (blk_drew BK180.out)
          have n3_ := Aside0.mk (below_drew1 HB.out)
          clear HO_5
          clear HO_6
          clear BK180
          clear HB
          have HO_5 := n0_
          have HO_6 := n1_
          have BK180 := n2_
          have HB := n3_
          clear n0_ n1_ n2_ n3_
          refine start_ (n := 20) (S := fun w' => True) (ds := []) (bm 20 0) (by kernel_rfl) rfl rfl trivial (fun hHeld => ?_); refine with_tabW spec_CombineMessages.tab7 spec_CombineMessages.bits7 (fun HT_ HW_ => ?_)
          generalize wc.drew = w21 at HO_5 HO_6 BK180 HB hHeld ⊢
          refine pure_ (i := 0) (N := some 25) (v := ?_) (a' := ?_) (bm 20 1) rfl rfl (any_of HT_.out (by kernel_rfl)) (fun _ _ _ h => h) (Or.inl ⟨by rfl, ?_⟩) ?_ ?_
          rotate_left
          ·intro w'
           go_simp
           with_reducible rfl
          rotate_left
          ·simp only [Act.put, List.setIfInBounds_toArray, List.set_cons_zero, List.set_cons_succ, i64_w, i32_w]
           rfl
          refine pure_ (i := 1) (N := some 26) (v := ?_) (a' := ?_) (bm 20 3) rfl rfl (any_of HT_.out (by kernel_rfl)) (fun _ _ _ h => h) (Or.inl ⟨by rfl, ?_⟩) ?_ ?_
          rotate_left
          ·intro w'
           go_simp
           with_reducible rfl
          rotate_left
          ·simp only [Act.put, List.setIfInBounds_toArray, List.set_cons_zero, List.set_cons_succ, i64_w, i32_w]
           rfl
          refine pure_ (i := 2) (N := some 27) (v := ?_) (a' := ?_) (bm 20 7) rfl rfl (any_of HT_.out (by kernel_rfl)) (fun _ _ _ h => h) (Or.inl ⟨by rfl, ?_⟩) ?_ ?_
          rotate_left
          ·intro w'
           go_simp
           with_reducible rfl
          rotate_left
          ·simp only [Act.put, List.setIfInBounds_toArray, List.set_cons_zero, List.set_cons_succ, i64_w, i32_w]
           rfl
          refine pure_ (i := 3) (N := some 28) (v := undef) (a' := ?_) (bm 20 15) rfl rfl (any_of HT_.out (by kernel_rfl)) (fun _ _ _ h => h) (Or.inr ⟨by rfl, rfl⟩) ?_ ?_
          rotate_left
          ·simp only [Act.put, List.setIfInBounds_toArray, List.set_cons_zero, List.set_cons_succ, i64_w, i32_w]
           rfl
          refine pure_ (i := 4) (N := some 29) (v := undef) (a' := ?_) (bm 20 31) rfl rfl (any_of HT_.out (by kernel_rfl)) (fun _ _ _ h => h) (Or.inr ⟨by rfl, rfl⟩) ?_ ?_
          rotate_left
          ·simp only [Act.put, List.setIfInBounds_toArray, List.set_cons_zero, List.set_cons_succ, i64_w, i32_w]
           rfl
          refine pure_ (i := 5) (N := some 30) (v := undef) (a' := ?_) (bm 20 63) rfl rfl (any_of HT_.out (by kernel_rfl)) (fun _ _ _ h => h) (Or.inr ⟨by rfl, rfl⟩) ?_ ?_
          rotate_left
          ·simp only [Act.put, List.setIfInBounds_toArray, List.set_cons_zero, List.set_cons_succ, i64_w, i32_w]
           rfl
          refine pure_ (i := 6) (N := some 31) (v := undef) (a' := ?_) (bm 20 127) rfl rfl (any_of HT_.out (by kernel_rfl)) (fun _ _ _ h => h) (Or.inr ⟨by rfl, rfl⟩) ?_ ?_
          rotate_left
          ·simp only [Act.put, List.setIfInBounds_toArray, List.set_cons_zero, List.set_cons_succ, i64_w, i32_w]
           rfl
          refine pure_ (i := 7) (N := some 32) (v := undef) (a' := ?_) (bm 20 255) rfl rfl (any_of HT_.out (by kernel_rfl)) (fun _ _ _ h => h) (Or.inr ⟨by rfl, rfl⟩) ?_ ?_
          rotate_left
          ·simp only [Act.put, List.setIfInBounds_toArray, List.set_cons_zero, List.set_cons_succ, i64_w, i32_w]
           rfl
          refine pure_ (i := 8) (N := some 33) (v := undef) (a' := ?_) (bm 20 511) rfl rfl (any_of HT_.out (by kernel_rfl)) (fun _ _ _ h => h) (Or.inr ⟨by rfl, rfl⟩) ?_ ?_
          rotate_left
          ·simp only [Act.put, List.setIfInBounds_toArray, List.set_cons_zero, List.set_cons_succ, i64_w, i32_w]
           rfl
          refine pure_ (i := 9) (N := some 34) (v := undef) (a' := ?_) (bm 20 1023) rfl rfl (any_of HT_.out (by kernel_rfl)) (fun _ _ _ h => h) (Or.inr ⟨by rfl, rfl⟩) ?_ ?_
          rotate_left
          ·simp only [Act.put, List.setIfInBounds_toArray, List.set_cons_zero, List.set_cons_succ, i64_w, i32_w]
           rfl
          refine pure_ (i := 10) (N := some 35) (v := undef) (a' := ?_) (bm 20 2047) rfl rfl (any_of HT_.out (by kernel_rfl)) (fun _ _ _ h => h) (Or.inr ⟨by rfl, rfl⟩) ?_ ?_
          rotate_left
          ·simp only [Act.put, List.setIfInBounds_toArray, List.set_cons_zero, List.set_cons_succ, i64_w, i32_w]
           rfl
          refine pure_ (i := 11) (N := some 36) (v := undef) (a' := ?_) (bm 20 4095) rfl rfl (any_of HT_.out (by kernel_rfl)) (fun _ _ _ h => h) (Or.inr ⟨by rfl, rfl⟩) ?_ ?_
          rotate_left
          ·simp only [Act.put, List.setIfInBounds_toArray, List.set_cons_zero, List.set_cons_succ, i64_w, i32_w]
           rfl
          refine pure_ (i := 12) (N := some 37) (v := undef) (a' := ?_) (bm 20 8191) rfl rfl (any_of HT_.out (by kernel_rfl)) (fun _ _ _ h => h) (Or.inr ⟨by rfl, rfl⟩) ?_ ?_
          rotate_left
          ·simp only [Act.put, List.setIfInBounds_toArray, List.set_cons_zero, List.set_cons_succ, i64_w, i32_w]
           rfl
          refine pure_ (i := 13) (N := some 38) (v := undef) (a' := ?_) (bm 20 16383) rfl rfl (any_of HT_.out (by kernel_rfl)) (fun _ _ _ h => h) (Or.inr ⟨by rfl, rfl⟩) ?_ ?_
          rotate_left
          ·simp only [Act.put, List.setIfInBounds_toArray, List.set_cons_zero, List.set_cons_succ, i64_w, i32_w]
           rfl
          refine pure_ (i := 14) (N := some 39) (v := ?_) (a' := ?_) (bm 20 32767) rfl rfl (any_of HT_.out (by kernel_rfl)) (fun _ _ _ h => h) (Or.inl ⟨by rfl, ?_⟩) ?_ ?_
          rotate_left
          ·intro w'
           go_simp
           with_reducible rfl
          rotate_left
          ·simp only [Act.put, List.setIfInBounds_toArray, List.set_cons_zero, List.set_cons_succ, i64_w, i32_w]
           rfl
          refine pure_ (i := 15) (N := some 40) (v := ?_) (a' := ?_) (bm 20 65535) rfl rfl (any_of HT_.out (by kernel_rfl)) (fun _ _ _ h => h) (Or.inl ⟨by rfl, ?_⟩) ?_ ?_
          rotate_left
          ·intro w'
           go_simp
           with_reducible rfl
          rotate_left
          ·simp only [Act.put, List.setIfInBounds_toArray, List.set_cons_zero, List.set_cons_succ, i64_w, i32_w]
           rfl
          refine pure_ (i := 16) (N := some 41) (v := undef) (a' := ?_) (bm 20 131071) rfl rfl (any_of HT_.out (by kernel_rfl)) (fun _ _ _ h => h) (Or.inr ⟨by rfl, rfl⟩) ?_ ?_
          rotate_left
          ·simp only [Act.put, List.setIfInBounds_toArray, List.set_cons_zero, List.set_cons_succ, i64_w, i32_w]
           rfl
          refine pure_ (i := 17) (N := some 42) (v := undef) (a' := ?_) (bm 20 262143) rfl rfl (any_of HT_.out (by kernel_rfl)) (fun _ _ _ h => h) (Or.inr ⟨by rfl, rfl⟩) ?_ ?_
          rotate_left
          ·simp only [Act.put, List.setIfInBounds_toArray, List.set_cons_zero, List.set_cons_succ, i64_w, i32_w]
           rfl
          refine pure_ (i := 18) (N := some 43) (v := undef) (a' := ?_) (bm 20 524287) rfl rfl (any_of HT_.out (by kernel_rfl)) (fun _ _ _ h => h) (Or.inr ⟨by rfl, rfl⟩) ?_ ?_
          rotate_left
          ·simp only [Act.put, List.setIfInBounds_toArray, List.set_cons_zero, List.set_cons_succ, i64_w, i32_w]
           rfl
          refine pure_ (i := 19) (N := some 44) (v := ?_) (a' := ?_) (bm 20 1048575) rfl rfl (any_of HT_.out (by kernel_rfl)) (fun _ _ _ h => h) (Or.inl ⟨by rfl, ?_⟩) ?_ ?_
          rotate_left
          ·intro w'
           go_simp
           with_reducible rfl
          rotate_left
          ·simp only [Act.put, List.setIfInBounds_toArray, List.set_cons_zero, List.set_cons_succ, i64_w, i32_w]
           rfl
          refine done_ (done_of HT_.out (by kernel_rfl)) ?_
          obtain ⟨Ao22, co22, eo22⟩ := Kd.R_slice HO_6.out
          subst eo22
          have p188 : 0 ≤ (x7_1 : Int) := of_decide_eq_true z8_5
          have q188 : x7_1 < (t184.length : Int) := of_decide_eq_true z8_5
          obtain ⟨ad188, e188, hx188_0, hx188_1, hx188_2⟩ := at_T34 (Kd.R_reads' HO_6.out).2.2 x7_1 p188 q188
          cases e188
          replace p188 := eq_true p188
          replace q188 := eq_true q188
          try go_wp2_with (first | ((with_reducible refine gate_builtin (b := .append) (xs := #[.tmp 45, .tmp 50]) rfl ?_); at_builtin; refine Kd.R_append k34 (w0 := w) w.heap.size rfl (.tmp 45) (.tmp 50) 28 34 (.agg #[(.int .i64 0), (.int .i64 0), (.int .i64 0)]) 24 rfl Try.underlying28 info34 rfl (by decide) (by omega) (.slice Ao20 x5_1.length co20) x5_1 (⟨(rd_T34 t184 x7_1).f0, (rd_T34 t184 x7_1).f1, (rd_T34 t184 x7_1).f2⟩ : S34) [.int .i64 ((rd_T34 t184 x7_1).f0), .int .i64 ((rd_T34 t184 x7_1).f1), .int .i64 ((rd_T34 t184 x7_1).f2)] (fun k_ => some k_ ≠ (.slice (some ad188) t184.length co22 : Value).ownBlock) (fun _ => False) rfl rfl ?aP (fun _ hk => hk.elim) ?aF ?aO ?aB ?aS ?aL ?_; (case aP => exact k34_mkM _ _ _ (⟨(rd_T34 t184 x7_1).f0, (rd_T34 t184 x7_1).f1, (rd_T34 t184 x7_1).f2⟩ : S34)); (case aB => exact z8_1); (case aF => exact (fun k_ hk => Kd.fresh' (Kd.R_lt z8_4) k_ hk)); (case aO => exact z8_3); (case aS => exact (below_size z8_1)); (case aL => have := LMc19.out; omega); intro v190 w23 ho hb hg hat; rw [← Ny189.out] at ho; have n0_ := Aside0.mk (Kd.R_after (ok := (fun _ => True)) z8_6 hg hat); have n1_ := Aside0.mk (blk_grown (g := gb180) (o := .cells #[.int .i64 a0_0, .int .i64 a0_1, .int .i64 a0_2] 47 (0, 0)) z8_2 hg (Kd.R_ne HO_5.out BK180.out (by decide))); have n2_ := Aside0.mk (hb); have n3_ := Aside0.mk (ho); clear HO_6; clear BK180; clear HB; clear HO_5; have HO_6 := n0_; have BK180 := n1_; have HB := n2_; have HO191 := n3_; clear n0_ n1_ n2_ n3_; clear ho hb hg hat))
          go_roundg kj7
          case measure => have := HK1.out; have := HJ7.out; omega
          case rel => exact ⟨(y189), (wrap64 (x7_1 + 1)), z8_10, H', ⟨z8_11⟩, ⟨by (with_reducible repeat (first | apply Kd.R_alloc | apply Kd.R_drewN | apply Kd.R_drew)); exact HO191.out⟩, ⟨z8_9⟩, ⟨z8_2⟩, ⟨z8_1⟩⟩
         ·rw [if_neg c19] at H
          exact absurd H (by simp)
        ·rw [if_neg c18] at H
         exact absurd H (by simp)
       ·rw [if_neg c17] at H
        exact absurd H (by simp)
      ·rw [if_neg c16] at H
       have c16b0 : decide ((wrap64 ((x5_1.length : Int) - 1)) < 0) = false := decide_eq_false c16
       clear c16
       obtain ⟨ji24, hji24⟩ : ∃ j_ : Int, (wrap64 ((x5_1.length : Int) - 1)) = j_ := ⟨_, rfl⟩
       replace H : (if 0 ≤ (ji24) then (if (ji24) < (x5_1.length : Int) then (if 0 ≤ x7_1 then (if x7_1 < (t184.length : Int) then (if ((rd_T34 x5_1 (ji24)).f0) = ((rd_T34 t184 x7_1).f0) then ((spec_CanCombine.f kj7 a0_0 a0_1 a0_2).bind fun t194 => (if t194 = true then (spec_CombineMessages.l0 kj7 x5_1 t184 (wrap64 (x7_1 + 1)) a0_0 a0_1 a0_2) else (if x5_1.length < 5864062014805 then (spec_CombineMessages.l0 kj7 (x5_1 ++ [(⟨(rd_T34 t184 x7_1).f0, (rd_T34 t184 x7_1).f1, (rd_T34 t184 x7_1).f2⟩ : S34)]) t184 (wrap64 (x7_1 + 1)) a0_0 a0_1 a0_2) else (none)))) else (if x5_1.length < 5864062014805 then (spec_CombineMessages.l0 kj7 (x5_1 ++ [(⟨(rd_T34 t184 x7_1).f0, (rd_T34 t184 x7_1).f1, (rd_T34 t184 x7_1).f2⟩ : S34)]) t184 (wrap64 (x7_1 + 1)) a0_0 a0_1 a0_2) else (none))) else (none)) else (none)) else (none)) else (none)) = some r := by first | (rw [hji24] at H; exact H) | (simp only [hji24] at H ⊢; exact H)
       (try rw [hji24] at c16b0)
       have hji24w : (IntKind.i64.wrap ((x5_1.length : Int) - 1)) = ji24 := (i64_w _).trans hji24
       by_cases c25 : 0 ≤ (ji24)
       ·rw [if_pos c25] at H
        have c25b0 : decide (0 ≤ (ji24)) = true := decide_eq_true c25
        clear c25
        by_cases c26 : (ji24) < (x5_1.length : Int)
        ·rw [if_pos c26] at H
         have c26b0 : decide ((ji24) < (x5_1.length : Int)) = true := decide_eq_true c26
         clear c26
         by_cases c27 : 0 ≤ x7_1
         ·rw [if_pos c27] at H
          have c27b0 : decide (0 ≤ x7_1) = true := decide_eq_true c27
          clear c27
          by_cases c28 : x7_1 < (t184.length : Int)
          ·rw [if_pos c28] at H
           have c28b0 : decide (x7_1 < (t184.length : Int)) = true := decide_eq_true c28
           clear c28
           by_cases c29 : ((rd_T34 x5_1 (ji24)).f0) = ((rd_T34 t184 x7_1).f0)
           ·rw [if_pos c29] at H
            have c29b0 : (((rd_T34 x5_1 (ji24)).f0) == ((rd_T34 t184 x7_1).f0)) = true := beq_iff_eq.mpr c29
            have c29b1 : (((rd_T34 x5_1 (ji24)).f0) != ((rd_T34 t184 x7_1).f0)) = false := bne_eq_false_iff_eq.mpr c29
            clear c29
            replace H := Option.bind_eq_some_iff.mp H
            obtain ⟨t194, A300, H⟩ := H
            replace H : (if t194 = true then (spec_CombineMessages.l0 kj7 x5_1 t184 (wrap64 (x7_1 + 1)) a0_0 a0_1 a0_2) else (if x5_1.length < 5864062014805 then (spec_CombineMessages.l0 kj7 (x5_1 ++ [(⟨(rd_T34 t184 x7_1).f0, (rd_T34 t184 x7_1).f1, (rd_T34 t184 x7_1).f2⟩ : S34)]) t184 (wrap64 (x7_1 + 1)) a0_0 a0_1 a0_2) else (none))) = some r := H
            have A30 := Aside0.mk A300
            clear A300
            by_cases c31 : t194 = true
            ·subst c31
             have H1 : (spec_CombineMessages.l0 kj7 x5_1 t184 (wrap64 (x7_1 + 1)) a0_0 a0_1 a0_2) = some r := by rw [if_pos rfl] at H; exact H
             clear H
             have H := H1
             clear H1
             have H' := Aside0.mk H
             clear H
             obtain ⟨Ao32, co32, eo32⟩ := Kd.R_slice HO_5.out
             subst eo32
             try go_wp2
             have n0_ := Aside0.mk (Kd.R_drew HO_5.out)
             have n1_ := Aside0.mk (Kd.R_drew HO_6.out)
             have n2_ := Aside0.mk (blk_drew BK180.out)
             have n3_ := Aside0.mk (below_drew1 HB.out)
             clear HO_5
             clear HO_6
             clear BK180
             clear HB
             have HO_5 := n0_
             have HO_6 := n1_
             have BK180 := n2_
             have HB := n3_
             clear n0_ n1_ n2_ n3_
             have p192 : 0 ≤ ((ji24) : Int) := of_decide_eq_true z8_5
             have q192 : (ji24) < (x5_1.length : Int) := of_decide_eq_true z8_5
             obtain ⟨ad192, e192, hx192_0, hx192_1, hx192_2⟩ := at_T34 (Kd.R_reads' HO_5.out).2.2 (ji24) p192 q192
             cases e192
             replace p192 := eq_true p192
             replace q192 := eq_true q192
             obtain ⟨Ao34, co34, eo34⟩ := Kd.R_slice HO_6.out
             (first | subst eo34 | (injection eo34 with f1_ f2_ f3_; have f4_ := f1_.symm; have f5_ := f3_.symm; clear f1_ f2_ f3_; subst f4_; subst f5_))
             have p193 : 0 ≤ (x7_1 : Int) := of_decide_eq_true z8_5
             have q193 : x7_1 < (t184.length : Int) := of_decide_eq_true z8_5
             obtain ⟨ad193, e193, hx193_0, hx193_1, hx193_2⟩ := at_T34 (Kd.R_reads' HO_6.out).2.2 x7_1 p193 q193
             cases e193
             replace p193 := eq_true p193
             replace q193 := eq_true q193
             refine start_ (n := 20) (S := fun w' => w'.cell? ⟨gb180, 0, none⟩ = some (.int .i64 a0_0) ∧ w'.cell? ⟨gb180, 1, none⟩ = some (.int .i64 a0_1) ∧ w'.cell? ⟨gb180, 2, none⟩ = some (.int .i64 a0_2) ∧ w'.cell? (ad192.add (((ji24)).toNat * 3)) = some (.int .i64 ((rd_T34 x5_1 (ji24)).f0)) ∧ w'.cell? ⟨(ad192.add (((ji24)).toNat * 3)).block, (ad192.add (((ji24)).toNat * 3)).off + 1, none⟩ = some (.int .i64 ((rd_T34 x5_1 (ji24)).f1)) ∧ w'.cell? ⟨(ad192.add (((ji24)).toNat * 3)).block, (ad192.add (((ji24)).toNat * 3)).off + 2, none⟩ = some (.int .i64 ((rd_T34 x5_1 (ji24)).f2)) ∧ w'.cell? (ad193.add ((x7_1).toNat * 3)) = some (.int .i64 ((rd_T34 t184 x7_1).f0)) ∧ w'.cell? ⟨(ad193.add ((x7_1).toNat * 3)).block, (ad193.add ((x7_1).toNat * 3)).off + 1, none⟩ = some (.int .i64 ((rd_T34 t184 x7_1).f1)) ∧ w'.cell? ⟨(ad193.add ((x7_1).toNat * 3)).block, (ad193.add ((x7_1).toNat * 3)).off + 2, none⟩ = some (.int .i64 ((rd_T34 t184 x7_1).f2))) (ds := []) (bm 20 0) (by kernel_rfl) rfl rfl ⟨(blk_cell BK180.out 0).trans rfl, (blk_cell BK180.out 1).trans rfl, (blk_cell BK180.out 2).trans rfl, hx192_0, hx192_1, hx192_2, hx193_0, hx193_1, hx193_2⟩ (fun hHeld => ?_); refine with_tabW spec_CombineMessages.tab7 spec_CombineMessages.bits7 (fun HT_ HW_ => ?_)
             generalize wc.drew = w33 at HO_5 HO_6 BK180 HB hx192_0 hx192_1 hx192_2 hx193_0 hx193_1 hx193_2 hHeld ⊢
             refine pure_ (i := 0) (N := some 25) (v := ?_) (a' := ?_) (bm 20 1) rfl rfl (any_of HT_.out (by kernel_rfl)) (fun _ _ _ h => h) (Or.inl ⟨by rfl, ?_⟩) ?_ ?_
             rotate_left
             ·intro w'
              go_simp
              with_reducible rfl
             rotate_left
             ·simp only [Act.put, List.setIfInBounds_toArray, List.set_cons_zero, List.set_cons_succ, i64_w, i32_w]
              rfl
             refine pure_ (i := 1) (N := some 26) (v := ?_) (a' := ?_) (bm 20 3) rfl rfl (any_of HT_.out (by kernel_rfl)) (fun _ _ _ h => h) (Or.inl ⟨by rfl, ?_⟩) ?_ ?_
             rotate_left
             ·intro w'
              go_simp
              with_reducible rfl
             rotate_left
             ·simp only [Act.put, List.setIfInBounds_toArray, List.set_cons_zero, List.set_cons_succ, i64_w, i32_w]
              rfl
             refine pure_ (i := 2) (N := some 27) (v := ?_) (a' := ?_) (bm 20 7) rfl rfl (any_of HT_.out (by kernel_rfl)) (fun _ _ _ h => h) (Or.inl ⟨by rfl, ?_⟩) ?_ ?_
             rotate_left
             ·intro w'
              go_simp
              with_reducible rfl
             rotate_left
             ·simp only [Act.put, List.setIfInBounds_toArray, List.set_cons_zero, List.set_cons_succ, i64_w, i32_w]
              rfl
             refine pure_ (i := 3) (N := some 28) (v := ?_) (a' := ?_) (bm 20 15) rfl rfl (any_of HT_.out (by kernel_rfl)) (fun _ _ _ h => h) (Or.inl ⟨by rfl, ?_⟩) ?_ ?_
             rotate_left
             ·intro w'
              go_simp
              with_reducible rfl
             rotate_left
             ·simp only [Act.put, List.setIfInBounds_toArray, List.set_cons_zero, List.set_cons_succ, i64_w, i32_w]
              rfl
             refine pure_ (i := 4) (N := some 29) (v := ?_) (a' := ?_) (bm 20 31) rfl rfl (any_of HT_.out (by kernel_rfl)) (fun _ _ _ h => h) (Or.inl ⟨by rfl, ?_⟩) ?_ ?_
             rotate_left
             ·intro w'
              go_simp
              with_reducible rfl
             rotate_left
             ·simp only [Act.put, List.setIfInBounds_toArray, List.set_cons_zero, List.set_cons_succ, i64_w, i32_w]
              rfl
             refine pure_ (i := 5) (N := some 30) (v := ?_) (a' := ?_) (bm 20 63) rfl rfl (any_of HT_.out (by kernel_rfl)) (fun _ _ _ h => h) (Or.inl ⟨by rfl, ?_⟩) ?_ ?_
             rotate_left
             ·intro w'
              go_simp
              with_reducible rfl
             rotate_left
             ·simp only [Act.put, List.setIfInBounds_toArray, List.set_cons_zero, List.set_cons_succ, i64_w, i32_w]
              rfl
             refine pure_ (i := 6) (N := some 31) (v := ?_) (a' := ?_) (bm 20 127) rfl rfl (any_of HT_.out (by kernel_rfl)) (fun _ _ _ h => h) (Or.inl ⟨by rfl, ?_⟩) ?_ ?_
             rotate_left
             ·intro w'
              go_simp
              with_reducible rfl
             rotate_left
             ·simp only [Act.put, List.setIfInBounds_toArray, List.set_cons_zero, List.set_cons_succ, i64_w, i32_w]
              rfl
             refine pure_ (i := 8) (N := some 33) (v := ?_) (a' := ?_) (bm 20 383) rfl rfl (any_of HT_.out (by kernel_rfl)) (fun _ _ _ h => h) (Or.inl ⟨by rfl, ?_⟩) ?_ ?_
             rotate_left
             ·intro w'
              go_simp
              with_reducible rfl
             rotate_left
             ·simp only [Act.put, List.setIfInBounds_toArray, List.set_cons_zero, List.set_cons_succ, i64_w, i32_w]
              rfl
             refine pure_ (i := 9) (N := some 34) (v := ?_) (a' := ?_) (bm 20 895) rfl rfl (any_of HT_.out (by kernel_rfl)) (fun _ _ _ h => h) (Or.inl ⟨by rfl, ?_⟩) ?_ ?_
             rotate_left
             ·intro w'
              go_simp
              with_reducible rfl
             rotate_left
             ·simp only [Act.put, List.setIfInBounds_toArray, List.set_cons_zero, List.set_cons_succ, i64_w, i32_w]
              rfl
             refine pure_ (i := 10) (N := some 35) (v := ?_) (a' := ?_) (bm 20 1919) rfl rfl (any_of HT_.out (by kernel_rfl)) (fun _ _ _ h => h) (Or.inl ⟨by rfl, ?_⟩) ?_ ?_
             rotate_left
             ·intro w'
              go_simp
              with_reducible rfl
             rotate_left
             ·simp only [Act.put, List.setIfInBounds_toArray, List.set_cons_zero, List.set_cons_succ, i64_w, i32_w]
              rfl
             refine pure_ (i := 11) (N := some 36) (v := ?_) (a' := ?_) (bm 20 3967) rfl rfl (any_of HT_.out (by kernel_rfl)) (fun _ _ _ h => h) (Or.inl ⟨by rfl, ?_⟩) ?_ ?_
             rotate_left
             ·intro w'
              go_simp
              with_reducible rfl
             rotate_left
             ·simp only [Act.put, List.setIfInBounds_toArray, List.set_cons_zero, List.set_cons_succ, i64_w, i32_w]
              rfl
             refine take_ (i := 7) (N := some 32) (v := ?_) (a' := ?_) (bm 20 4095) rfl rfl (take_ofW HT_.out HW_.out (by kernel_rfl)) (fun _ _ _ h => h) (Or.inl ⟨by rfl, ?_⟩) hHeld ?_ ?_
             rotate_left
             ·rintro w' ⟨s0, s1, s2, s3, s4, s5, s6, s7, s8⟩
              go_simp
              with_reducible rfl
             rotate_left
             ·simp only [Act.put, List.setIfInBounds_toArray, List.set_cons_zero, List.set_cons_succ, i64_w, i32_w]
              rfl
             refine take_ (i := 12) (N := some 37) (v := ?_) (a' := ?_) (bm 20 8191) rfl rfl (take_ofW HT_.out HW_.out (by kernel_rfl)) (fun _ _ _ h => h) (Or.inl ⟨by rfl, ?_⟩) hHeld ?_ ?_
             rotate_left
             ·rintro w' ⟨s0, s1, s2, s3, s4, s5, s6, s7, s8⟩
              go_simp
              with_reducible rfl
             rotate_left
             ·simp only [Act.put, List.setIfInBounds_toArray, List.set_cons_zero, List.set_cons_succ, i64_w, i32_w]
              rfl
             refine pure_ (i := 13) (N := some 38) (v := ?_) (a' := ?_) (bm 20 16383) rfl rfl (any_of HT_.out (by kernel_rfl)) (fun _ _ _ h => h) (Or.inl ⟨by rfl, ?_⟩) ?_ ?_
             rotate_left
             ·intro w'
              go_simp
              with_reducible rfl
             rotate_left
             ·simp only [Act.put, List.setIfInBounds_toArray, List.set_cons_zero, List.set_cons_succ, i64_w, i32_w]
              rfl
             refine pure_ (i := 14) (N := some 39) (v := ?_) (a' := ?_) (bm 20 32767) rfl rfl (any_of HT_.out (by kernel_rfl)) (fun _ _ _ h => h) (Or.inl ⟨by rfl, ?_⟩) ?_ ?_
             rotate_left
             ·intro w'
              go_simp
              with_reducible rfl
             rotate_left
             ·simp only [Act.put, List.setIfInBounds_toArray, List.set_cons_zero, List.set_cons_succ, i64_w, i32_w]
              rfl
             refine pure_ (i := 15) (N := some 40) (v := ?_) (a' := ?_) (bm 20 65535) rfl rfl (any_of HT_.out (by kernel_rfl)) (fun _ _ _ h => h) (Or.inl ⟨by rfl, ?_⟩) ?_ ?_
             rotate_left
             ·intro w'
              go_simp
              with_reducible rfl
             rotate_left
             ·simp only [Act.put, List.setIfInBounds_toArray, List.set_cons_zero, List.set_cons_succ, i64_w, i32_w]
              rfl
             refine take_ (i := 16) (N := some 41) (v := ?_) (a' := ?_) (bm 20 131071) rfl rfl (take_ofW HT_.out HW_.out (by kernel_rfl)) (fun _ _ _ h => h) (Or.inl ⟨by rfl, ?_⟩) hHeld ?_ ?_
             rotate_left
             ·rintro w' ⟨s0, s1, s2, s3, s4, s5, s6, s7, s8⟩
              go_simp
              with_reducible rfl
             rotate_left
             ·simp only [Act.put, List.setIfInBounds_toArray, List.set_cons_zero, List.set_cons_succ, i64_w, i32_w]
              rfl
             refine one_ (i := 17) (N := some 42) (bm 20 262143) rfl rfl (one_of HT_.out (by kernel_rfl)) (by decide) (fun K hK => ?_)
             refine goes_ Try.func77 (by kernel_rfl) rfl #[.agg #[.int .i64 a0_0, .int .i64 a0_1, .int .i64 a0_2]] (by rfl) rfl rfl z8_7 ?_
             with_reducible refine (spec_CanCombine.calls kj7 a0_0 a0_1 a0_2 true _ A30.out).mono ?_
             rintro e w35 ⟨rfl, hb⟩
             have HS3_ := (hb.cell (World.block_lt_of_cell? _ _ (hHeld.2.2.2.1))).trans (hHeld.2.2.2.1)
             have HS4_ := (hb.cell (World.block_lt_of_cell? _ _ (hHeld.2.2.2.2.1))).trans (hHeld.2.2.2.2.1)
             have HS5_ := (hb.cell (World.block_lt_of_cell? _ _ (hHeld.2.2.2.2.2.1))).trans (hHeld.2.2.2.2.2.1)
             have HS6_ := (hb.cell (World.block_lt_of_cell? _ _ (hHeld.2.2.2.2.2.2.1))).trans (hHeld.2.2.2.2.2.2.1)
             have HS7_ := (hb.cell (World.block_lt_of_cell? _ _ (hHeld.2.2.2.2.2.2.2.1))).trans (hHeld.2.2.2.2.2.2.2.1)
             have HS8_ := (hb.cell (World.block_lt_of_cell? _ _ (hHeld.2.2.2.2.2.2.2.2))).trans (hHeld.2.2.2.2.2.2.2.2)
             refine ⟨_, rfl, ?_⟩
             have n0_ := Aside0.mk (Kd.R_below z8_3 hb)
             have n1_ := Aside0.mk (Kd.R_below z8_4 hb)
             have n2_ := Aside0.mk (blk_below (g := gb180) (o := .cells #[.int .i64 a0_0, .int .i64 a0_1, .int .i64 a0_2] 47 (0, 0)) z8_2 hb)
             have n3_ := Aside0.mk (below_step z8_1 hb)
             clear HO_5
             clear HO_6
             clear BK180
             clear HB
             have HO_5 := n0_
             have HO_6 := n1_
             have BK180 := n2_
             have HB := n3_
             clear n0_ n1_ n2_ n3_
             (try clear hb)
             (try clear hb2)
             (try clear hk)
             (try clear hi)
             refine hK.out _ _ ⟨(blk_cell BK180.out 0).trans rfl, (blk_cell BK180.out 1).trans rfl, (blk_cell BK180.out 2).trans rfl, HS3_, HS4_, HS5_, HS6_, HS7_, HS8_⟩ (fun hHeld => ?_)
             clear hK K
             refine norm_ (a' := ?_) ?_ ?_
             rotate_left
             ·show Act.put _ (some 42) _ = _
              simp only [Act.put, List.setIfInBounds_toArray, List.set_cons_zero, List.set_cons_succ, i64_w, i32_w]
              rfl
             refine pure_ (i := 18) (N := some 43) (v := ?_) (a' := ?_) (bm 20 524287) rfl rfl (any_of HT_.out (by kernel_rfl)) (fun _ _ _ h => h) (Or.inl ⟨by rfl, ?_⟩) ?_ ?_
             rotate_left
             ·intro w'
              go_simp
              with_reducible rfl
             rotate_left
             ·simp only [Act.put, List.setIfInBounds_toArray, List.set_cons_zero, List.set_cons_succ, i64_w, i32_w]
              rfl
             refine pure_ (i := 19) (N := some 44) (v := ?_) (a' := ?_) (bm 20 1048575) rfl rfl (any_of HT_.out (by kernel_rfl)) (fun _ _ _ h => h) (Or.inl ⟨by rfl, ?_⟩) ?_ ?_
             rotate_left
             ·intro w'
              go_simp
              with_reducible rfl
             rotate_left
             ·simp only [Act.put, List.setIfInBounds_toArray, List.set_cons_zero, List.set_cons_succ, i64_w, i32_w]
              rfl
             refine done_ (done_of HT_.out (by kernel_rfl)) ?_
             try go_wp2
             go_roundg kj7
             case measure => have := HK1.out; have := HJ7.out; omega
             case rel => exact ⟨(x5_1), (wrap64 (x7_1 + 1)), z8_10, H', ⟨z8_11⟩, ⟨z8_3⟩, ⟨z8_4⟩, ⟨z8_2⟩, ⟨z8_1⟩⟩
            ·replace c31 := Bool.eq_false_iff.mpr c31
             subst c31
             have H1 : (if x5_1.length < 5864062014805 then (spec_CombineMessages.l0 kj7 (x5_1 ++ [(⟨(rd_T34 t184 x7_1).f0, (rd_T34 t184 x7_1).f1, (rd_T34 t184 x7_1).f2⟩ : S34)]) t184 (wrap64 (x7_1 + 1)) a0_0 a0_1 a0_2) else (none)) = some r := by rw [if_neg (show ¬ (false = true) by decide)] at H; exact H
             clear H
             have H := H1
             clear H1
             by_cases c36 : x5_1.length < 5864062014805
             ·rw [if_pos c36] at H
              have LMc36 := Aside0.mk c36
              clear c36
              obtain ⟨y196, hy196⟩ : ∃ y_ : List (S34), y_ = (x5_1 ++ [(⟨(rd_T34 t184 x7_1).f0, (rd_T34 t184 x7_1).f1, (rd_T34 t184 x7_1).f2⟩ : S34)]) := ⟨_, rfl⟩
              replace H : (spec_CombineMessages.l0 kj7 y196 t184 (wrap64 (x7_1 + 1)) a0_0 a0_1 a0_2) = some r := by first | (rw [hy196]; with_reducible exact H) | (have H2_ := (Option.bind_some _ _).symm.trans H; rw [hy196]; with_reducible exact H2_) | (have H2_ := (Option.bind_some _ _).symm.trans H; with_reducible exact H2_) | with_reducible exact H | (rw [hy196]; exact H) | exact H
              have Ny196 := Aside0.mk hy196
              clear hy196
              have H' := Aside0.mk H
              clear H
              obtain ⟨Ao37, co37, eo37⟩ := Kd.R_slice HO_5.out
              subst eo37
              try go_wp2
              have n0_ := Aside0.mk (Kd.R_drew HO_5.out)
              have n1_ := Aside0.mk (Kd.R_drew HO_6.out)
              have n2_ := Aside0.mk (blk_drew BK180.out)
              have n3_ := Aside0.mk (below_drew1 HB.out)
              clear HO_5
              clear HO_6
              clear BK180
              clear HB
              have HO_5 := n0_
              have HO_6 := n1_
              have BK180 := n2_
              have HB := n3_
              clear n0_ n1_ n2_ n3_
              have p192 : 0 ≤ ((ji24) : Int) := of_decide_eq_true z8_5
              have q192 : (ji24) < (x5_1.length : Int) := of_decide_eq_true z8_5
              obtain ⟨ad192, e192, hx192_0, hx192_1, hx192_2⟩ := at_T34 (Kd.R_reads' HO_5.out).2.2 (ji24) p192 q192
              cases e192
              replace p192 := eq_true p192
              replace q192 := eq_true q192
              obtain ⟨Ao39, co39, eo39⟩ := Kd.R_slice HO_6.out
              (first | subst eo39 | (injection eo39 with f1_ f2_ f3_; have f4_ := f1_.symm; have f5_ := f3_.symm; clear f1_ f2_ f3_; subst f4_; subst f5_))
              have p193 : 0 ≤ (x7_1 : Int) := of_decide_eq_true z8_5
              have q193 : x7_1 < (t184.length : Int) := of_decide_eq_true z8_5
              obtain ⟨ad193, e193, hx193_0, hx193_1, hx193_2⟩ := at_T34 (Kd.R_reads' HO_6.out).2.2 x7_1 p193 q193
              cases e193
              replace p193 := eq_true p193
              replace q193 := eq_true q193
              refine start_ (n := 20) (S := fun w' => w'.cell? ⟨gb180, 0, none⟩ = some (.int .i64 a0_0) ∧ w'.cell? ⟨gb180, 1, none⟩ = some (.int .i64 a0_1) ∧ w'.cell? ⟨gb180, 2, none⟩ = some (.int .i64 a0_2) ∧ w'.cell? (ad192.add (((ji24)).toNat * 3)) = some (.int .i64 ((rd_T34 x5_1 (ji24)).f0)) ∧ w'.cell? ⟨(ad192.add (((ji24)).toNat * 3)).block, (ad192.add (((ji24)).toNat * 3)).off + 1, none⟩ = some (.int .i64 ((rd_T34 x5_1 (ji24)).f1)) ∧ w'.cell? ⟨(ad192.add (((ji24)).toNat * 3)).block, (ad192.add (((ji24)).toNat * 3)).off + 2, none⟩ = some (.int .i64 ((rd_T34 x5_1 (ji24)).f2)) ∧ w'.cell? (ad193.add ((x7_1).toNat * 3)) = some (.int .i64 ((rd_T34 t184 x7_1).f0)) ∧ w'.cell? ⟨(ad193.add ((x7_1).toNat * 3)).block, (ad193.add ((x7_1).toNat * 3)).off + 1, none⟩ = some (.int .i64 ((rd_T34 t184 x7_1).f1)) ∧ w'.cell? ⟨(ad193.add ((x7_1).toNat * 3)).block, (ad193.add ((x7_1).toNat * 3)).off + 2, none⟩ = some (.int .i64 ((rd_T34 t184 x7_1).f2))) (ds := []) (bm 20 0) (by kernel_rfl) rfl rfl ⟨(blk_cell BK180.out 0).trans rfl, (blk_cell BK180.out 1).trans rfl, (blk_cell BK180.out 2).trans rfl, hx192_0, hx192_1, hx192_2, hx193_0, hx193_1, hx193_2⟩ (fun hHeld => ?_); refine with_tabW spec_CombineMessages.tab7 spec_CombineMessages.bits7 (fun HT_ HW_ => ?_)
              generalize wc.drew = w38 at HO_5 HO_6 BK180 HB hx192_0 hx192_1 hx192_2 hx193_0 hx193_1 hx193_2 hHeld ⊢
              refine pure_ (i := 0) (N := some 25) (v := ?_) (a' := ?_) (bm 20 1) rfl rfl (any_of HT_.out (by kernel_rfl)) (fun _ _ _ h => h) (Or.inl ⟨by rfl, ?_⟩) ?_ ?_
              rotate_left
              ·intro w'
               go_simp
               with_reducible rfl
              rotate_left
              ·simp only [Act.put, List.setIfInBounds_toArray, List.set_cons_zero, List.set_cons_succ, i64_w, i32_w]
               rfl
              refine pure_ (i := 1) (N := some 26) (v := ?_) (a' := ?_) (bm 20 3) rfl rfl (any_of HT_.out (by kernel_rfl)) (fun _ _ _ h => h) (Or.inl ⟨by rfl, ?_⟩) ?_ ?_
              rotate_left
              ·intro w'
               go_simp
               with_reducible rfl
              rotate_left
              ·simp only [Act.put, List.setIfInBounds_toArray, List.set_cons_zero, List.set_cons_succ, i64_w, i32_w]
               rfl
              refine pure_ (i := 2) (N := some 27) (v := ?_) (a' := ?_) (bm 20 7) rfl rfl (any_of HT_.out (by kernel_rfl)) (fun _ _ _ h => h) (Or.inl ⟨by rfl, ?_⟩) ?_ ?_
              rotate_left
              ·intro w'
               go_simp
               with_reducible rfl
              rotate_left
              ·simp only [Act.put, List.setIfInBounds_toArray, List.set_cons_zero, List.set_cons_succ, i64_w, i32_w]
               rfl
              refine pure_ (i := 3) (N := some 28) (v := ?_) (a' := ?_) (bm 20 15) rfl rfl (any_of HT_.out (by kernel_rfl)) (fun _ _ _ h => h) (Or.inl ⟨by rfl, ?_⟩) ?_ ?_
              rotate_left
              ·intro w'
               go_simp
               with_reducible rfl
              rotate_left
              ·simp only [Act.put, List.setIfInBounds_toArray, List.set_cons_zero, List.set_cons_succ, i64_w, i32_w]
               rfl
              refine pure_ (i := 4) (N := some 29) (v := ?_) (a' := ?_) (bm 20 31) rfl rfl (any_of HT_.out (by kernel_rfl)) (fun _ _ _ h => h) (Or.inl ⟨by rfl, ?_⟩) ?_ ?_
              rotate_left
              ·intro w'
               go_simp
               with_reducible rfl
              rotate_left
              ·simp only [Act.put, List.setIfInBounds_toArray, List.set_cons_zero, List.set_cons_succ, i64_w, i32_w]
               rfl
              refine pure_ (i := 5) (N := some 30) (v := ?_) (a' := ?_) (bm 20 63) rfl rfl (any_of HT_.out (by kernel_rfl)) (fun _ _ _ h => h) (Or.inl ⟨by rfl, ?_⟩) ?_ ?_
              rotate_left
              ·intro w'
               go_simp
               with_reducible rfl
              rotate_left
              ·simp only [Act.put, List.setIfInBounds_toArray, List.set_cons_zero, List.set_cons_succ, i64_w, i32_w]
               rfl
              refine pure_ (i := 6) (N := some 31) (v := ?_) (a' := ?_) (bm 20 127) rfl rfl (any_of HT_.out (by kernel_rfl)) (fun _ _ _ h => h) (Or.inl ⟨by rfl, ?_⟩) ?_ ?_
              rotate_left
              ·intro w'
               go_simp
               with_reducible rfl
              rotate_left
              ·simp only [Act.put, List.setIfInBounds_toArray, List.set_cons_zero, List.set_cons_succ, i64_w, i32_w]
               rfl
              refine pure_ (i := 8) (N := some 33) (v := ?_) (a' := ?_) (bm 20 383) rfl rfl (any_of HT_.out (by kernel_rfl)) (fun _ _ _ h => h) (Or.inl ⟨by rfl, ?_⟩) ?_ ?_
              rotate_left
              ·intro w'
               go_simp
               with_reducible rfl
              rotate_left
              ·simp only [Act.put, List.setIfInBounds_toArray, List.set_cons_zero, List.set_cons_succ, i64_w, i32_w]
               rfl
              refine pure_ (i := 9) (N := some 34) (v := ?_) (a' := ?_) (bm 20 895) rfl rfl (any_of HT_.out (by kernel_rfl)) (fun _ _ _ h => h) (Or.inl ⟨by rfl, ?_⟩) ?_ ?_
              rotate_left
              ·intro w'
               go_simp
               with_reducible rfl
              rotate_left
              ·simp only [Act.put, List.setIfInBounds_toArray, List.set_cons_zero, List.set_cons_succ, i64_w, i32_w]
               rfl
              refine pure_ (i := 10) (N := some 35) (v := ?_) (a' := ?_) (bm 20 1919) rfl rfl (any_of HT_.out (by kernel_rfl)) (fun _ _ _ h => h) (Or.inl ⟨by rfl, ?_⟩) ?_ ?_
              rotate_left
              ·intro w'
               go_simp
               with_reducible rfl
              rotate_left
              ·simp only [Act.put, List.setIfInBounds_toArray, List.set_cons_zero, List.set_cons_succ, i64_w, i32_w]
               rfl
              refine pure_ (i := 11) (N := some 36) (v := ?_) (a' := ?_) (bm 20 3967) rfl rfl (any_of HT_.out (by kernel_rfl)) (fun _ _ _ h => h) (Or.inl ⟨by rfl, ?_⟩) ?_ ?_
              rotate_left
              ·intro w'
               go_simp
               with_reducible rfl
              rotate_left
              ·simp only [Act.put, List.setIfInBounds_toArray, List.set_cons_zero, List.set_cons_succ, i64_w, i32_w]
               rfl
              refine take_ (i := 7) (N := some 32) (v := ?_) (a' := ?_) (bm 20 4095) rfl rfl (take_ofW HT_.out HW_.out (by kernel_rfl)) (fun _ _ _ h => h) (Or.inl ⟨by rfl, ?_⟩) hHeld ?_ ?_
              rotate_left
              ·rintro w' ⟨s0, s1, s2, s3, s4, s5, s6, s7, s8⟩
               go_simp
               with_reducible rfl
              rotate_left
              ·simp only [Act.put, List.setIfInBounds_toArray, List.set_cons_zero, List.set_cons_succ, i64_w, i32_w]
               rfl
              refine take_ (i := 12) (N := some 37) (v := ?_) (a' := ?_) (bm 20 8191) rfl rfl (take_ofW HT_.out HW_.out (by kernel_rfl)) (fun _ _ _ h => h) (Or.inl ⟨by rfl, ?_⟩) hHeld ?_ ?_
              rotate_left
              ·rintro w' ⟨s0, s1, s2, s3, s4, s5, s6, s7, s8⟩
               go_simp
               with_reducible rfl
              rotate_left
              ·simp only [Act.put, List.setIfInBounds_toArray, List.set_cons_zero, List.set_cons_succ, i64_w, i32_w]
               rfl
              refine pure_ (i := 13) (N := some 38) (v := ?_) (a' := ?_) (bm 20 16383) rfl rfl (any_of HT_.out (by kernel_rfl)) (fun _ _ _ h => h) (Or.inl ⟨by rfl, ?_⟩) ?_ ?_
              rotate_left
              ·intro w'
               go_simp
               with_reducible rfl
              rotate_left
              ·simp only [Act.put, List.setIfInBounds_toArray, List.set_cons_zero, List.set_cons_succ, i64_w, i32_w]
               rfl
              refine pure_ (i := 14) (N := some 39) (v := ?_) (a' := ?_) (bm 20 32767) rfl rfl (any_of HT_.out (by kernel_rfl)) (fun _ _ _ h => h) (Or.inl ⟨by rfl, ?_⟩) ?_ ?_
              rotate_left
              ·intro w'
               go_simp
               with_reducible rfl
              rotate_left
              ·simp only [Act.put, List.setIfInBounds_toArray, List.set_cons_zero, List.set_cons_succ, i64_w, i32_w]
               rfl
              refine pure_ (i := 15) (N := some 40) (v := ?_) (a' := ?_) (bm 20 65535) rfl rfl (any_of HT_.out (by kernel_rfl)) (fun _ _ _ h => h) (Or.inl ⟨by rfl, ?_⟩) ?_ ?_
              rotate_left
              ·intro w'
               go_simp
               with_reducible rfl
              rotate_left
              ·simp only [Act.put, List.setIfInBounds_toArray, List.set_cons_zero, List.set_cons_succ, i64_w, i32_w]
               rfl
              refine take_ (i := 16) (N := some 41) (v := ?_) (a' := ?_) (bm 20 131071) rfl rfl (take_ofW HT_.out HW_.out (by kernel_rfl)) (fun _ _ _ h => h) (Or.inl ⟨by rfl, ?_⟩) hHeld ?_ ?_
              rotate_left
              ·rintro w' ⟨s0, s1, s2, s3, s4, s5, s6, s7, s8⟩
               go_simp
               with_reducible rfl
              rotate_left
              ·simp only [Act.put, List.setIfInBounds_toArray, List.set_cons_zero, List.set_cons_succ, i64_w, i32_w]
               rfl
              refine one_ (i := 17) (N := some 42) (bm 20 262143) rfl rfl (one_of HT_.out (by kernel_rfl)) (by decide) (fun K hK => ?_)
              refine goes_ Try.func77 (by kernel_rfl) rfl #[.agg #[.int .i64 a0_0, .int .i64 a0_1, .int .i64 a0_2]] (by rfl) rfl rfl z8_7 ?_
              with_reducible refine (spec_CanCombine.calls kj7 a0_0 a0_1 a0_2 false _ A30.out).mono ?_
              rintro e w40 ⟨rfl, hb⟩
              have HS3_ := (hb.cell (World.block_lt_of_cell? _ _ (hHeld.2.2.2.1))).trans (hHeld.2.2.2.1)
              have HS4_ := (hb.cell (World.block_lt_of_cell? _ _ (hHeld.2.2.2.2.1))).trans (hHeld.2.2.2.2.1)
              have HS5_ := (hb.cell (World.block_lt_of_cell? _ _ (hHeld.2.2.2.2.2.1))).trans (hHeld.2.2.2.2.2.1)
              have HS6_ := (hb.cell (World.block_lt_of_cell? _ _ (hHeld.2.2.2.2.2.2.1))).trans (hHeld.2.2.2.2.2.2.1)
              have HS7_ := (hb.cell (World.block_lt_of_cell? _ _ (hHeld.2.2.2.2.2.2.2.1))).trans (hHeld.2.2.2.2.2.2.2.1)
              have HS8_ := (hb.cell (World.block_lt_of_cell? _ _ (hHeld.2.2.2.2.2.2.2.2))).trans (hHeld.2.2.2.2.2.2.2.2)
              refine ⟨_, rfl, ?_⟩
              have n0_ := Aside0.mk (Kd.R_below z8_3 hb)
              have n1_ := Aside0.mk (Kd.R_below z8_4 hb)
              have n2_ := Aside0.mk (blk_below (g := gb180) (o := .cells #[.int .i64 a0_0, .int .i64 a0_1, .int .i64 a0_2] 47 (0, 0)) z8_2 hb)
              have n3_ := Aside0.mk (below_step z8_1 hb)
              clear HO_5
              clear HO_6
              clear BK180
              clear HB
              have HO_5 := n0_
              have HO_6 := n1_
              have BK180 := n2_
              have HB := n3_
              clear n0_ n1_ n2_ n3_
              (try clear hb)
              (try clear hb2)
              (try clear hk)
              (try clear hi)
              refine hK.out _ _ ⟨(blk_cell BK180.out 0).trans rfl, (blk_cell BK180.out 1).trans rfl, (blk_cell BK180.out 2).trans rfl, HS3_, HS4_, HS5_, HS6_, HS7_, HS8_⟩ (fun hHeld => ?_)
              clear hK K
              refine norm_ (a' := ?_) ?_ ?_
              rotate_left
              ·show Act.put _ (some 42) _ = _
               simp only [Act.put, List.setIfInBounds_toArray, List.set_cons_zero, List.set_cons_succ, i64_w, i32_w]
               rfl
              refine pure_ (i := 18) (N := some 43) (v := ?_) (a' := ?_) (bm 20 524287) rfl rfl (any_of HT_.out (by kernel_rfl)) (fun _ _ _ h => h) (Or.inl ⟨by rfl, ?_⟩) ?_ ?_
              rotate_left
              ·intro w'
               go_simp
               with_reducible rfl
              rotate_left
              ·simp only [Act.put, List.setIfInBounds_toArray, List.set_cons_zero, List.set_cons_succ, i64_w, i32_w]
               rfl
              refine pure_ (i := 19) (N := some 44) (v := ?_) (a' := ?_) (bm 20 1048575) rfl rfl (any_of HT_.out (by kernel_rfl)) (fun _ _ _ h => h) (Or.inl ⟨by rfl, ?_⟩) ?_ ?_
              rotate_left
              ·intro w'
               go_simp
               with_reducible rfl
              rotate_left
              ·simp only [Act.put, List.setIfInBounds_toArray, List.set_cons_zero, List.set_cons_succ, i64_w, i32_w]
               rfl
              refine done_ (done_of HT_.out (by kernel_rfl)) ?_
              have p195 : 0 ≤ (x7_1 : Int) := of_decide_eq_true z8_5
              have q195 : x7_1 < (t184.length : Int) := of_decide_eq_true z8_5
              obtain ⟨ad195, e195, hx195_0, hx195_1, hx195_2⟩ := at_T34 (Kd.R_reads' HO_6.out).2.2 x7_1 p195 q195
              obtain rfl : ad193 = ad195 := (by injection e195)
              replace p195 := eq_true p195
              replace q195 := eq_true q195
              try go_wp2_with (first | ((with_reducible refine gate_builtin (b := .append) (xs := #[.tmp 45, .tmp 50]) rfl ?_); at_builtin; refine Kd.R_append k34 (w0 := w) w.heap.size rfl (.tmp 45) (.tmp 50) 28 34 (.agg #[(.int .i64 0), (.int .i64 0), (.int .i64 0)]) 24 rfl Try.underlying28 info34 rfl (by decide) (by omega) (.slice (some ad192) x5_1.length co37) x5_1 (⟨(rd_T34 t184 x7_1).f0, (rd_T34 t184 x7_1).f1, (rd_T34 t184 x7_1).f2⟩ : S34) [.int .i64 ((rd_T34 t184 x7_1).f0), .int .i64 ((rd_T34 t184 x7_1).f1), .int .i64 ((rd_T34 t184 x7_1).f2)] (fun k_ => some k_ ≠ (.slice (some ad193) t184.length co39 : Value).ownBlock) (fun _ => False) rfl rfl ?aP (fun _ hk => hk.elim) ?aF ?aO ?aB ?aS ?aL ?_; (case aP => exact k34_mkM _ _ _ (⟨(rd_T34 t184 x7_1).f0, (rd_T34 t184 x7_1).f1, (rd_T34 t184 x7_1).f2⟩ : S34)); (case aB => exact z8_1); (case aF => exact (fun k_ hk => Kd.fresh' (Kd.R_lt z8_4) k_ hk)); (case aO => exact z8_3); (case aS => exact (below_size z8_1)); (case aL => have := LMc36.out; omega); intro v197 w41 ho hb hg hat; rw [← Ny196.out] at ho; have n0_ := Aside0.mk (Kd.R_after (ok := (fun _ => True)) z8_6 hg hat); have n1_ := Aside0.mk (blk_grown (g := gb180) (o := .cells #[.int .i64 a0_0, .int .i64 a0_1, .int .i64 a0_2] 47 (0, 0)) z8_2 hg (Kd.R_ne HO_5.out BK180.out (by decide))); have n2_ := Aside0.mk (hb); have n3_ := Aside0.mk (ho); clear HO_6; clear BK180; clear HB; clear HO_5; have HO_6 := n0_; have BK180 := n1_; have HB := n2_; have HO198 := n3_; clear n0_ n1_ n2_ n3_; clear ho hb hg hat))
              go_roundg kj7
              case measure => have := HK1.out; have := HJ7.out; omega
              case rel => exact ⟨(y196), (wrap64 (x7_1 + 1)), z8_10, H', ⟨z8_11⟩, ⟨by (with_reducible repeat (first | apply Kd.R_alloc | apply Kd.R_drewN | apply Kd.R_drew)); exact HO198.out⟩, ⟨z8_9⟩, ⟨z8_2⟩, ⟨z8_1⟩⟩
             ·rw [if_neg c36] at H
              exact absurd H (by simp)
           ·rw [if_neg c29] at H
            have c29b0 : (((rd_T34 x5_1 (ji24)).f0) == ((rd_T34 t184 x7_1).f0)) = false := beq_eq_false_iff_ne.mpr c29
            have c29b1 : (((rd_T34 x5_1 (ji24)).f0) != ((rd_T34 t184 x7_1).f0)) = true := bne_iff_ne.mpr c29
            by_cases c42 : x5_1.length < 5864062014805
            ·rw [if_pos c42] at H
             have LMc42 := Aside0.mk c42
             clear c42
             obtain ⟨y200, hy200⟩ : ∃ y_ : List (S34), y_ = (x5_1 ++ [(⟨(rd_T34 t184 x7_1).f0, (rd_T34 t184 x7_1).f1, (rd_T34 t184 x7_1).f2⟩ : S34)]) := ⟨_, rfl⟩
             replace H : (spec_CombineMessages.l0 kj7 y200 t184 (wrap64 (x7_1 + 1)) a0_0 a0_1 a0_2) = some r := by first | (rw [hy200]; with_reducible exact H) | (have H2_ := (Option.bind_some _ _).symm.trans H; rw [hy200]; with_reducible exact H2_) | (have H2_ := (Option.bind_some _ _).symm.trans H; with_reducible exact H2_) | with_reducible exact H | (rw [hy200]; exact H) | exact H
             have Ny200 := Aside0.mk hy200
             clear hy200
             have H' := Aside0.mk H
             clear H
             obtain ⟨Ao43, co43, eo43⟩ := Kd.R_slice HO_5.out
             subst eo43
             try go_wp2
             have n0_ := Aside0.mk (Kd.R_drew HO_5.out)
             have n1_ := Aside0.mk (Kd.R_drew HO_6.out)
             have n2_ := Aside0.mk (blk_drew BK180.out)
             have n3_ := Aside0.mk (below_drew1 HB.out)
             clear HO_5
             clear HO_6
             clear BK180
             clear HB
             have HO_5 := n0_
             have HO_6 := n1_
             have BK180 := n2_
             have HB := n3_
             clear n0_ n1_ n2_ n3_
             have p192 : 0 ≤ ((ji24) : Int) := of_decide_eq_true z8_5
             have q192 : (ji24) < (x5_1.length : Int) := of_decide_eq_true z8_5
             obtain ⟨ad192, e192, hx192_0, hx192_1, hx192_2⟩ := at_T34 (Kd.R_reads' HO_5.out).2.2 (ji24) p192 q192
             cases e192
             replace p192 := eq_true p192
             replace q192 := eq_true q192
             obtain ⟨Ao45, co45, eo45⟩ := Kd.R_slice HO_6.out
             (first | subst eo45 | (injection eo45 with f1_ f2_ f3_; have f4_ := f1_.symm; have f5_ := f3_.symm; clear f1_ f2_ f3_; subst f4_; subst f5_))
             have p193 : 0 ≤ (x7_1 : Int) := of_decide_eq_true z8_5
             have q193 : x7_1 < (t184.length : Int) := of_decide_eq_true z8_5
             obtain ⟨ad193, e193, hx193_0, hx193_1, hx193_2⟩ := at_T34 (Kd.R_reads' HO_6.out).2.2 x7_1 p193 q193
             cases e193
             replace p193 := eq_true p193
             replace q193 := eq_true q193
             refine start_ (n := 20) (S := fun w' => w'.cell? (ad192.add (((ji24)).toNat * 3)) = some (.int .i64 ((rd_T34 x5_1 (ji24)).f0)) ∧ w'.cell? ⟨(ad192.add (((ji24)).toNat * 3)).block, (ad192.add (((ji24)).toNat * 3)).off + 1, none⟩ = some (.int .i64 ((rd_T34 x5_1 (ji24)).f1)) ∧ w'.cell? ⟨(ad192.add (((ji24)).toNat * 3)).block, (ad192.add (((ji24)).toNat * 3)).off + 2, none⟩ = some (.int .i64 ((rd_T34 x5_1 (ji24)).f2)) ∧ w'.cell? (ad193.add ((x7_1).toNat * 3)) = some (.int .i64 ((rd_T34 t184 x7_1).f0)) ∧ w'.cell? ⟨(ad193.add ((x7_1).toNat * 3)).block, (ad193.add ((x7_1).toNat * 3)).off + 1, none⟩ = some (.int .i64 ((rd_T34 t184 x7_1).f1)) ∧ w'.cell? ⟨(ad193.add ((x7_1).toNat * 3)).block, (ad193.add ((x7_1).toNat * 3)).off + 2, none⟩ = some (.int .i64 ((rd_T34 t184 x7_1).f2))) (ds := []) (bm 20 0) (by kernel_rfl) rfl rfl ⟨hx192_0, hx192_1, hx192_2, hx193_0, hx193_1, hx193_2⟩ (fun hHeld => ?_); refine with_tabW spec_CombineMessages.tab7 spec_CombineMessages.bits7 (fun HT_ HW_ => ?_)
             generalize wc.drew = w44 at HO_5 HO_6 BK180 HB hx192_0 hx192_1 hx192_2 hx193_0 hx193_1 hx193_2 hHeld ⊢
             refine pure_ (i := 0) (N := some 25) (v := ?_) (a' := ?_) (bm 20 1) rfl rfl (any_of HT_.out (by kernel_rfl)) (fun _ _ _ h => h) (Or.inl ⟨by rfl, ?_⟩) ?_ ?_
             rotate_left
             ·intro w'
              go_simp
              with_reducible rfl
             rotate_left
             ·simp only [Act.put, List.setIfInBounds_toArray, List.set_cons_zero, List.set_cons_succ, i64_w, i32_w]
              rfl
             refine pure_ (i := 1) (N := some 26) (v := ?_) (a' := ?_) (bm 20 3) rfl rfl (any_of HT_.out (by kernel_rfl)) (fun _ _ _ h => h) (Or.inl ⟨by rfl, ?_⟩) ?_ ?_
             rotate_left
             ·intro w'
              go_simp
              with_reducible rfl
             rotate_left
             ·simp only [Act.put, List.setIfInBounds_toArray, List.set_cons_zero, List.set_cons_succ, i64_w, i32_w]
              rfl
             refine pure_ (i := 2) (N := some 27) (v := ?_) (a' := ?_) (bm 20 7) rfl rfl (any_of HT_.out (by kernel_rfl)) (fun _ _ _ h => h) (Or.inl ⟨by rfl, ?_⟩) ?_ ?_
             rotate_left
             ·intro w'
              go_simp
              with_reducible rfl
             rotate_left
             ·simp only [Act.put, List.setIfInBounds_toArray, List.set_cons_zero, List.set_cons_succ, i64_w, i32_w]
              rfl
             refine pure_ (i := 3) (N := some 28) (v := ?_) (a' := ?_) (bm 20 15) rfl rfl (any_of HT_.out (by kernel_rfl)) (fun _ _ _ h => h) (Or.inl ⟨by rfl, ?_⟩) ?_ ?_
             rotate_left
             ·intro w'
              go_simp
              with_reducible rfl
             rotate_left
             ·simp only [Act.put, List.setIfInBounds_toArray, List.set_cons_zero, List.set_cons_succ, i64_w, i32_w]
              rfl
             refine pure_ (i := 4) (N := some 29) (v := ?_) (a' := ?_) (bm 20 31) rfl rfl (any_of HT_.out (by kernel_rfl)) (fun _ _ _ h => h) (Or.inl ⟨by rfl, ?_⟩) ?_ ?_
             rotate_left
             ·intro w'
              go_simp
              with_reducible rfl
             rotate_left
             ·simp only [Act.put, List.setIfInBounds_toArray, List.set_cons_zero, List.set_cons_succ, i64_w, i32_w]
              rfl
             refine pure_ (i := 5) (N := some 30) (v := ?_) (a' := ?_) (bm 20 63) rfl rfl (any_of HT_.out (by kernel_rfl)) (fun _ _ _ h => h) (Or.inl ⟨by rfl, ?_⟩) ?_ ?_
             rotate_left
             ·intro w'
              go_simp
              with_reducible rfl
             rotate_left
             ·simp only [Act.put, List.setIfInBounds_toArray, List.set_cons_zero, List.set_cons_succ, i64_w, i32_w]
              rfl
             refine pure_ (i := 6) (N := some 31) (v := ?_) (a' := ?_) (bm 20 127) rfl rfl (any_of HT_.out (by kernel_rfl)) (fun _ _ _ h => h) (Or.inl ⟨by rfl, ?_⟩) ?_ ?_
             rotate_left
             ·intro w'
              go_simp
              with_reducible rfl
             rotate_left
             ·simp only [Act.put, List.setIfInBounds_toArray, List.set_cons_zero, List.set_cons_succ, i64_w, i32_w]
              rfl
             refine pure_ (i := 8) (N := some 33) (v := ?_) (a' := ?_) (bm 20 383) rfl rfl (any_of HT_.out (by kernel_rfl)) (fun _ _ _ h => h) (Or.inl ⟨by rfl, ?_⟩) ?_ ?_
             rotate_left
             ·intro w'
              go_simp
              with_reducible rfl
             rotate_left
             ·simp only [Act.put, List.setIfInBounds_toArray, List.set_cons_zero, List.set_cons_succ, i64_w, i32_w]
              rfl
             refine pure_ (i := 9) (N := some 34) (v := ?_) (a' := ?_) (bm 20 895) rfl rfl (any_of HT_.out (by kernel_rfl)) (fun _ _ _ h => h) (Or.inl ⟨by rfl, ?_⟩) ?_ ?_
             rotate_left
             ·intro w'
              go_simp
              with_reducible rfl
             rotate_left
             ·simp only [Act.put, List.setIfInBounds_toArray, List.set_cons_zero, List.set_cons_succ, i64_w, i32_w]
              rfl
             refine pure_ (i := 10) (N := some 35) (v := ?_) (a' := ?_) (bm 20 1919) rfl rfl (any_of HT_.out (by kernel_rfl)) (fun _ _ _ h => h) (Or.inl ⟨by rfl, ?_⟩) ?_ ?_
             rotate_left
             ·intro w'
              go_simp
              with_reducible rfl
             rotate_left
             ·simp only [Act.put, List.setIfInBounds_toArray, List.set_cons_zero, List.set_cons_succ, i64_w, i32_w]
              rfl
             refine pure_ (i := 11) (N := some 36) (v := ?_) (a' := ?_) (bm 20 3967) rfl rfl (any_of HT_.out (by kernel_rfl)) (fun _ _ _ h => h) (Or.inl ⟨by rfl, ?_⟩) ?_ ?_
             rotate_left
             ·intro w'
              go_simp
              with_reducible rfl
             rotate_left
             ·simp only [Act.put, List.setIfInBounds_toArray, List.set_cons_zero, List.set_cons_succ, i64_w, i32_w]
              rfl
             refine take_ (i := 7) (N := some 32) (v := ?_) (a' := ?_) (bm 20 4095) rfl rfl (take_ofW HT_.out HW_.out (by kernel_rfl)) (fun _ _ _ h => h) (Or.inl ⟨by rfl, ?_⟩) hHeld ?_ ?_
             rotate_left
             ·rintro w' ⟨s0, s1, s2, s3, s4, s5⟩
              go_simp
              with_reducible rfl
             rotate_left
             ·simp only [Act.put, List.setIfInBounds_toArray, List.set_cons_zero, List.set_cons_succ, i64_w, i32_w]
              rfl
             refine take_ (i := 12) (N := some 37) (v := ?_) (a' := ?_) (bm 20 8191) rfl rfl (take_ofW HT_.out HW_.out (by kernel_rfl)) (fun _ _ _ h => h) (Or.inl ⟨by rfl, ?_⟩) hHeld ?_ ?_
             rotate_left
             ·rintro w' ⟨s0, s1, s2, s3, s4, s5⟩
              go_simp
              with_reducible rfl
             rotate_left
             ·simp only [Act.put, List.setIfInBounds_toArray, List.set_cons_zero, List.set_cons_succ, i64_w, i32_w]
              rfl
             refine pure_ (i := 13) (N := some 38) (v := ?_) (a' := ?_) (bm 20 16383) rfl rfl (any_of HT_.out (by kernel_rfl)) (fun _ _ _ h => h) (Or.inl ⟨by rfl, ?_⟩) ?_ ?_
             rotate_left
             ·intro w'
              go_simp
              with_reducible rfl
             rotate_left
             ·simp only [Act.put, List.setIfInBounds_toArray, List.set_cons_zero, List.set_cons_succ, i64_w, i32_w]
              rfl
             refine pure_ (i := 14) (N := some 39) (v := ?_) (a' := ?_) (bm 20 32767) rfl rfl (any_of HT_.out (by kernel_rfl)) (fun _ _ _ h => h) (Or.inl ⟨by rfl, ?_⟩) ?_ ?_
             rotate_left
             ·intro w'
              go_simp
              with_reducible rfl
             rotate_left
             ·simp only [Act.put, List.setIfInBounds_toArray, List.set_cons_zero, List.set_cons_succ, i64_w, i32_w]
              rfl
             refine pure_ (i := 15) (N := some 40) (v := ?_) (a' := ?_) (bm 20 65535) rfl rfl (any_of HT_.out (by kernel_rfl)) (fun _ _ _ h => h) (Or.inl ⟨by rfl, ?_⟩) ?_ ?_
             rotate_left
             ·intro w'
              go_simp
              with_reducible rfl
             rotate_left
             ·simp only [Act.put, List.setIfInBounds_toArray, List.set_cons_zero, List.set_cons_succ, i64_w, i32_w]
              rfl
             refine pure_ (i := 16) (N := some 41) (v := undef) (a' := ?_) (bm 20 131071) rfl rfl (any_of HT_.out (by kernel_rfl)) (fun _ _ _ h => h) (Or.inr ⟨by rfl, rfl⟩) ?_ ?_
             rotate_left
             ·simp only [Act.put, List.setIfInBounds_toArray, List.set_cons_zero, List.set_cons_succ, i64_w, i32_w]
              rfl
             refine pure_ (i := 17) (N := some 42) (v := undef) (a' := ?_) (bm 20 262143) rfl rfl (any_of HT_.out (by kernel_rfl)) (fun _ _ _ h => h) (Or.inr ⟨by rfl, rfl⟩) ?_ ?_
             rotate_left
             ·simp only [Act.put, List.setIfInBounds_toArray, List.set_cons_zero, List.set_cons_succ, i64_w, i32_w]
              rfl
             refine pure_ (i := 18) (N := some 43) (v := undef) (a' := ?_) (bm 20 524287) rfl rfl (any_of HT_.out (by kernel_rfl)) (fun _ _ _ h => h) (Or.inr ⟨by rfl, rfl⟩) ?_ ?_
             rotate_left
             ·simp only [Act.put, List.setIfInBounds_toArray, List.set_cons_zero, List.set_cons_succ, i64_w, i32_w]
              rfl
             refine pure_ (i := 19) (N := some 44) (v := ?_) (a' := ?_) (bm 20 1048575) rfl rfl (any_of HT_.out (by kernel_rfl)) (fun _ _ _ h => h) (Or.inl ⟨by rfl, ?_⟩) ?_ ?_
             rotate_left
             ·intro w'
              go_simp
              with_reducible rfl
             rotate_left
             ·simp only [Act.put, List.setIfInBounds_toArray, List.set_cons_zero, List.set_cons_succ, i64_w, i32_w]
              rfl
             refine done_ (done_of HT_.out (by kernel_rfl)) ?_
             have p199 : 0 ≤ (x7_1 : Int) := of_decide_eq_true z8_5
             have q199 : x7_1 < (t184.length : Int) := of_decide_eq_true z8_5
             obtain ⟨ad199, e199, hx199_0, hx199_1, hx199_2⟩ := at_T34 (Kd.R_reads' HO_6.out).2.2 x7_1 p199 q199
             obtain rfl : ad193 = ad199 := (by injection e199)
             replace p199 := eq_true p199
             replace q199 := eq_true q199
             try go_wp2_with (first | ((with_reducible refine gate_builtin (b := .append) (xs := #[.tmp 45, .tmp 50]) rfl ?_); at_builtin; refine Kd.R_append k34 (w0 := w) w.heap.size rfl (.tmp 45) (.tmp 50) 28 34 (.agg #[(.int .i64 0), (.int .i64 0), (.int .i64 0)]) 24 rfl Try.underlying28 info34 rfl (by decide) (by omega) (.slice (some ad192) x5_1.length co43) x5_1 (⟨(rd_T34 t184 x7_1).f0, (rd_T34 t184 x7_1).f1, (rd_T34 t184 x7_1).f2⟩ : S34) [.int .i64 ((rd_T34 t184 x7_1).f0), .int .i64 ((rd_T34 t184 x7_1).f1), .int .i64 ((rd_T34 t184 x7_1).f2)] (fun k_ => some k_ ≠ (.slice (some ad193) t184.length co45 : Value).ownBlock) (fun _ => False) rfl rfl ?aP (fun _ hk => hk.elim) ?aF ?aO ?aB ?aS ?aL ?_; (case aP => exact k34_mkM _ _ _ (⟨(rd_T34 t184 x7_1).f0, (rd_T34 t184 x7_1).f1, (rd_T34 t184 x7_1).f2⟩ : S34)); (case aB => exact z8_1); (case aF => exact (fun k_ hk => Kd.fresh' (Kd.R_lt z8_4) k_ hk)); (case aO => exact z8_3); (case aS => exact (below_size z8_1)); (case aL => have := LMc42.out; omega); intro v201 w46 ho hb hg hat; rw [← Ny200.out] at ho; have n0_ := Aside0.mk (Kd.R_after (ok := (fun _ => True)) z8_6 hg hat); have n1_ := Aside0.mk (blk_grown (g := gb180) (o := .cells #[.int .i64 a0_0, .int .i64 a0_1, .int .i64 a0_2] 47 (0, 0)) z8_2 hg (Kd.R_ne HO_5.out BK180.out (by decide))); have n2_ := Aside0.mk (hb); have n3_ := Aside0.mk (ho); clear HO_6; clear BK180; clear HB; clear HO_5; have HO_6 := n0_; have BK180 := n1_; have HB := n2_; have HO202 := n3_; clear n0_ n1_ n2_ n3_; clear ho hb hg hat))
             go_roundg kj7
             case measure => have := HK1.out; have := HJ7.out; omega
             case rel => exact ⟨(y200), (wrap64 (x7_1 + 1)), z8_10, H', ⟨z8_11⟩, ⟨by (with_reducible repeat (first | apply Kd.R_alloc | apply Kd.R_drewN | apply Kd.R_drew)); exact HO202.out⟩, ⟨z8_9⟩, ⟨z8_2⟩, ⟨z8_1⟩⟩
            ·rw [if_neg c42] at H
             exact absurd H (by simp)
          ·rw [if_neg c28] at H
           exact absurd H (by simp)
         ·rw [if_neg c27] at H
          exact absurd H (by simp)
        ·rw [if_neg c26] at H
         exact absurd H (by simp)
       ·rw [if_neg c25] at H
        exact absurd H (by simp)
     ·replace c15 := Bool.eq_false_iff.mpr c15
      subst c15
      have H1 : (some x5_1) = some r := by rw [if_neg (show ¬ (false = true) by decide)] at H; exact H
      clear H
      have H := H1
      clear H1
      obtain rfl := Option.some.inj H
      go_wp2
      go_ret
      exact ⟨_, by first | rfl | (simp [errW_none, errW_some] <;> rfl) | (simp [*, errW_none, errW_some] <;> rfl), by (with_reducible repeat (first | apply Kd.R_alloc | apply Kd.R_drewN | apply Kd.R_drew)); exact Kd.R_mono HO_5.out (fun _ hk => trivial), z8_1⟩

end Go.Proofs.Ytgdcnlmhdbdijaa.PFnCombineMessages
