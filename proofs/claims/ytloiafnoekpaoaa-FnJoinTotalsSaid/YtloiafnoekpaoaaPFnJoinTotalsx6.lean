/- Laid by a program of this session out of the translation: functions, their contracts, the row. Lean checks it. -/
import Derived.Test.YtloiafnoekpaoaaPFnJoinTotalsx0
import Derived.Test.YtloiafnoekpaoaaPFnJoinTotalsx1
import Derived.Test.YtloiafnoekpaoaaPFnJoinTotalsx2
import Derived.Test.YtloiafnoekpaoaaPFnJoinTotalsx4
import Derived.Test.YtloiafnoekpaoaaPFnJoinTotalsx5
namespace Go.Proofs.Ytloiafnoekpaoaa.PFnJoinTotals
open Go.RowKit Go.Proofs.YtloiafnoekpaoaaW.PrintWords Go.Proofs.YtloiafnoekpaoaaW.PrintLast Go.Proofs.YtloiafnoekpaoaaW.PrintMore
attribute [local go_sem] max2_int min2_int max_two min_two max_three min_three max_four min_four   -- for this text's walks alone
set_option linter.unusedVariables false
set_option linter.unusedSimpArgs false

attribute [local go_sem high] eqA34
/-! ### laws_FnJoinTotals: function 13 -/
def laws_FnJoinTotals.j0 : Nat → Bool → Int → Int → Int → Int → Int → Int → Int → Int → Option (Bool)
  | 0, _, _, _, _, _, _, _, _, _ => none
  | k + 1, x28, x233000, x233001, x233002, x233003, x239000, x239001, x239002, x239003 => if x28 = true then (some false) else ((spec_TotalValid.f x233000 x233001 x233002 x233003).bind fun t247 => (if t247 = true then ((impl_JoinTotals.f k x233000 x233001 x233002 x233003 0 0 (-1) (-1)).bind fun bt248 => (if (bt248.1 == x233000 && (bt248.2.1 == x233001 && (bt248.2.2.1 == x233002 && (bt248.2.2.2 == x233003)))) = true then (if (x239000 == 0 && (x239001 == 0 && (x239002 == 0 && (x239003 == 0)))) = true then (some true) else ((impl_TotalValid.f k x239000 x239001 x239002 x239003).bind fun t252 => (some t252))) else (some false))) else (if (x239000 == 0 && (x239001 == 0 && (x239002 == 0 && (x239003 == 0)))) = true then ((laws_alive.f k).bind fun t253 => (some t253)) else (some false))))
def laws_FnJoinTotals.f (k : Nat) (l0 : List Int) : Option (Bool) := if (l0.length : Int) > 1048576 then (some true) else ((spec_DrawJoinTotals.f k l0).bind fun bt224 => ((impl_JoinTotals.f k bt224.1 bt224.2.1 bt224.2.2.1 bt224.2.2.2.1 bt224.2.2.2.2.1 bt224.2.2.2.2.2.1 bt224.2.2.2.2.2.2.1 bt224.2.2.2.2.2.2.2).bind fun bt234 => ((spec_JoinTotals.f k bt224.1 bt224.2.1 bt224.2.2.1 bt224.2.2.2.1 bt224.2.2.2.2.1 bt224.2.2.2.2.2.1 bt224.2.2.2.2.2.2.1 bt224.2.2.2.2.2.2.2).bind fun bt239 => (if (!(bt234.1 == bt239.1) || (!(bt234.2.1 == bt239.2.1) || (!(bt234.2.2.1 == bt239.2.2.1) || (!(bt234.2.2.2 == bt239.2.2.2))))) = true then (laws_FnJoinTotals.j0 k true bt224.1 bt224.2.1 bt224.2.2.1 bt224.2.2.2.1 bt234.1 bt234.2.1 bt234.2.2.1 bt234.2.2.2) else ((impl_JoinTotals.f k bt224.2.2.2.2.1 bt224.2.2.2.2.2.1 bt224.2.2.2.2.2.2.1 bt224.2.2.2.2.2.2.2 bt224.1 bt224.2.1 bt224.2.2.1 bt224.2.2.2.1).bind fun bt243 => (laws_FnJoinTotals.j0 k (!(bt234.1 == bt243.1) || (!(bt234.2.1 == bt243.2.1) || (!(bt234.2.2.1 == bt243.2.2.1) || (!(bt234.2.2.2 == bt243.2.2.2))))) bt224.1 bt224.2.1 bt224.2.2.1 bt224.2.2.2.1 bt234.1 bt234.2.1 bt234.2.2.1 bt234.2.2.2))))))
theorem laws_FnJoinTotals.mono_l : ∀ k, (∀ y0 y1 y2 y3 y4 y5 y6 y7 y8, LeO (laws_FnJoinTotals.j0 k y0 y1 y2 y3 y4 y5 y6 y7 y8) (laws_FnJoinTotals.j0 (k + 1) y0 y1 y2 y3 y4 y5 y6 y7 y8))
  | 0 => fun _ _ _ _ _ _ _ _ _ r h => by simp [laws_FnJoinTotals.j0] at h
  | k + 1 => by
    have ih0 := laws_FnJoinTotals.mono_l k
    · intro y0 y1 y2 y3 y4 y5 y6 y7 y8
      unfold laws_FnJoinTotals.j0
      repeat' first
      | (with_reducible exact ih0 _ _ _ _ _ _ _ _ _)
      | (with_reducible exact impl_JoinTotals.mono _ _ _ _ _ _ _ _ _)
      | (with_reducible exact impl_TotalValid.mono _ _ _ _ _)
      | (with_reducible exact laws_alive.mono _)
      | (with_reducible exact spec_DrawJoinTotals.mono _ _)
      | (with_reducible exact spec_JoinTotals.mono _ _ _ _ _ _ _ _ _)
      | (with_reducible exact LeO.refl _)
      | (with_reducible exact LeO.none _)
      | (with_reducible refine LeO.ite ?_ ?_)
      | (with_reducible refine LeO.bind ?_ (fun _ => ?_))
      | exact ih0 _ _ _ _ _ _ _ _ _
      | exact impl_JoinTotals.mono _ _ _ _ _ _ _ _ _
      | exact impl_TotalValid.mono _ _ _ _ _
      | exact laws_alive.mono _
      | exact spec_DrawJoinTotals.mono _ _
      | exact spec_JoinTotals.mono _ _ _ _ _ _ _ _ _
      | exact LeO.none _
      | refine LeO.ite ?_ ?_
      | refine LeO.bind ?_ (fun _ => ?_)
theorem laws_FnJoinTotals.mono : ∀ a0 k, LeO (laws_FnJoinTotals.f k a0) (laws_FnJoinTotals.f (k + 1) a0) := by
  intro a0 k
  have ih0 := laws_FnJoinTotals.mono_l k
  unfold laws_FnJoinTotals.f
  repeat' first
      | (with_reducible exact ih0 _ _ _ _ _ _ _ _ _)
      | (with_reducible exact impl_JoinTotals.mono _ _ _ _ _ _ _ _ _)
      | (with_reducible exact impl_TotalValid.mono _ _ _ _ _)
      | (with_reducible exact laws_alive.mono _)
      | (with_reducible exact spec_DrawJoinTotals.mono _ _)
      | (with_reducible exact spec_JoinTotals.mono _ _ _ _ _ _ _ _ _)
      | (with_reducible exact LeO.refl _)
      | (with_reducible exact LeO.none _)
      | (with_reducible refine LeO.ite ?_ ?_)
      | (with_reducible refine LeO.bind ?_ (fun _ => ?_))
      | exact ih0 _ _ _ _ _ _ _ _ _
      | exact impl_JoinTotals.mono _ _ _ _ _ _ _ _ _
      | exact impl_TotalValid.mono _ _ _ _ _
      | exact laws_alive.mono _
      | exact spec_DrawJoinTotals.mono _ _
      | exact spec_JoinTotals.mono _ _ _ _ _ _ _ _ _
      | exact LeO.none _
      | refine LeO.ite ?_ ?_
      | refine LeO.bind ?_ (fun _ => ?_)
def laws_FnJoinTotals.T5 : Bool × List (List Nat × List Nat) := (true, [([], []), ([], []), ([], []), ([1, 2], [1, 2]), ([0, 3], [0, 3]), ([4, 3], [4]), ([5], [5]), ([5], [5]), ([5], [5]), ([7, 8, 5, 5], [5, 7, 8]), ([6, 9, 5], [5, 6, 9]), ([5, 10], [5, 10])])
def laws_FnJoinTotals.B5 : List Nat := [0, 0, 0, 6, 15, 31, 63, 63, 63, 447, 1023, 2047]
theorem laws_FnJoinTotals.tab5 : rtab .any (opsOf Try.f13 5) = laws_FnJoinTotals.T5 := by kernel_rfl
theorem laws_FnJoinTotals.bits5 : waitsOk laws_FnJoinTotals.T5.2 laws_FnJoinTotals.B5 = true := by kernel_rfl
def laws_FnJoinTotals.T9 : Bool × List (List Nat × List Nat) := (true, [([], []), ([], []), ([0, 1], [0, 1]), ([], []), ([2, 3], [2, 3]), ([4, 2], [4]), ([5], [5]), ([5], [5]), ([6, 7, 5], [5, 6, 7]), ([8, 5, 5], [5, 8]), ([9], [9]), ([10, 9, 9], [9, 10]), ([9, 11, 5], [5, 9, 11]), ([5, 12], [5, 12]), ([13, 11, 0, 1, 2, 3, 4, 5, 6, 7, 8, 9, 10, 11, 12, 13], [13])])
def laws_FnJoinTotals.B9 : List Nat := [0, 0, 3, 0, 15, 31, 63, 63, 255, 511, 1023, 2047, 4095, 8191, 16383]
theorem laws_FnJoinTotals.tab9 : rtab .any (opsOf Try.f13 9) = laws_FnJoinTotals.T9 := by kernel_rfl
theorem laws_FnJoinTotals.bits9 : waitsOk laws_FnJoinTotals.T9.2 laws_FnJoinTotals.B9 = true := by kernel_rfl
set_option maxHeartbeats 8000000 in
set_option maxRecDepth 100000 in
theorem laws_FnJoinTotals.calls (k : Nat) (A0 : Option Addr) (c0 : Nat) (l0 : List Int) (r : Bool) (w : World) (hr0 : Kd.C (Kd.int .u8) w A0 l0.length l0) (hc0 : l0.length ≤ c0) (h : laws_FnJoinTotals.f k l0 = some r) :
    Calls Try.prog 13 #[.slice A0 l0.length c0] w fun e w' => e = .returned (.bool r) ∧ Below w.heap.size w w' := by
  have hu34 := Try.underlying34
  have HR0 := Aside0.mk hr0
  have HC0 := Aside0.mk hc0
  clear hr0 hc0
  have HB := Aside0.mk (Below.refl w.heap.size w)
  have H : (if (l0.length : Int) > 1048576 then (some true) else ((spec_DrawJoinTotals.f k l0).bind fun bt224 => ((impl_JoinTotals.f k bt224.1 bt224.2.1 bt224.2.2.1 bt224.2.2.2.1 bt224.2.2.2.2.1 bt224.2.2.2.2.2.1 bt224.2.2.2.2.2.2.1 bt224.2.2.2.2.2.2.2).bind fun bt234 => ((spec_JoinTotals.f k bt224.1 bt224.2.1 bt224.2.2.1 bt224.2.2.2.1 bt224.2.2.2.2.1 bt224.2.2.2.2.2.1 bt224.2.2.2.2.2.2.1 bt224.2.2.2.2.2.2.2).bind fun bt239 => (if (!(bt234.1 == bt239.1) || (!(bt234.2.1 == bt239.2.1) || (!(bt234.2.2.1 == bt239.2.2.1) || (!(bt234.2.2.2 == bt239.2.2.2))))) = true then (laws_FnJoinTotals.j0 k true bt224.1 bt224.2.1 bt224.2.2.1 bt224.2.2.2.1 bt234.1 bt234.2.1 bt234.2.2.1 bt234.2.2.2) else ((impl_JoinTotals.f k bt224.2.2.2.2.1 bt224.2.2.2.2.2.1 bt224.2.2.2.2.2.2.1 bt224.2.2.2.2.2.2.2 bt224.1 bt224.2.1 bt224.2.2.1 bt224.2.2.2.1).bind fun bt243 => (laws_FnJoinTotals.j0 k (!(bt234.1 == bt243.1) || (!(bt234.2.1 == bt243.2.1) || (!(bt234.2.2.1 == bt243.2.2.1) || (!(bt234.2.2.2 == bt243.2.2.2))))) bt224.1 bt224.2.1 bt224.2.2.1 bt224.2.2.2.1 bt234.1 bt234.2.1 bt234.2.2.1 bt234.2.2.2))))))) = some r := h
  clear h
  by_cases c2 : (l0.length : Int) > 1048576
  · rw [if_pos c2] at H
    have c2b0 : decide (1048576 < (l0.length : Int)) = true := decide_eq_true c2
    have c2b1 : decide (1048576 < l0.length) = true := decide_eq_true (by omega)
    clear c2
    obtain rfl := Option.some.inj H
    go_enter Try.func13, Try.ntmps13
    go_wp2
    go_ret
    exact ⟨by first | rfl | (simp [errW_none, errW_some] <;> rfl) | (simp [*, errW_none, errW_some] <;> rfl), by repeat (first | (with_reducible first | exact HB.out | apply below_alloc | apply pw_below_drewN | apply below_drew1) | exact HB.out)⟩
  · rw [if_neg c2] at H
    have c2b0 : decide (1048576 < (l0.length : Int)) = false := decide_eq_false c2
    have c2b1 : decide (1048576 < l0.length) = false := decide_eq_false (by omega)
    clear c2
    replace H := Option.bind_eq_some_iff.mp H
    obtain ⟨⟨t224, t225, t226, t227, t228, t229, t230, t231⟩, A30, H⟩ := H
    replace H : ((impl_JoinTotals.f k t224 t225 t226 t227 t228 t229 t230 t231).bind fun bt234 => ((spec_JoinTotals.f k t224 t225 t226 t227 t228 t229 t230 t231).bind fun bt239 => (if (!(bt234.1 == bt239.1) || (!(bt234.2.1 == bt239.2.1) || (!(bt234.2.2.1 == bt239.2.2.1) || (!(bt234.2.2.2 == bt239.2.2.2))))) = true then (laws_FnJoinTotals.j0 k true t224 t225 t226 t227 bt234.1 bt234.2.1 bt234.2.2.1 bt234.2.2.2) else ((impl_JoinTotals.f k t228 t229 t230 t231 t224 t225 t226 t227).bind fun bt243 => (laws_FnJoinTotals.j0 k (!(bt234.1 == bt243.1) || (!(bt234.2.1 == bt243.2.1) || (!(bt234.2.2.1 == bt243.2.2.1) || (!(bt234.2.2.2 == bt243.2.2.2))))) t224 t225 t226 t227 bt234.1 bt234.2.1 bt234.2.2.1 bt234.2.2.2))))) = some r := H
    have A3 := Aside0.mk A30
    clear A30
    replace H := Option.bind_eq_some_iff.mp H
    obtain ⟨⟨t234, t235, t236, t237⟩, A40, H⟩ := H
    replace H : ((spec_JoinTotals.f k t224 t225 t226 t227 t228 t229 t230 t231).bind fun bt239 => (if (!(t234 == bt239.1) || (!(t235 == bt239.2.1) || (!(t236 == bt239.2.2.1) || (!(t237 == bt239.2.2.2))))) = true then (laws_FnJoinTotals.j0 k true t224 t225 t226 t227 t234 t235 t236 t237) else ((impl_JoinTotals.f k t228 t229 t230 t231 t224 t225 t226 t227).bind fun bt243 => (laws_FnJoinTotals.j0 k (!(t234 == bt243.1) || (!(t235 == bt243.2.1) || (!(t236 == bt243.2.2.1) || (!(t237 == bt243.2.2.2))))) t224 t225 t226 t227 t234 t235 t236 t237)))) = some r := H
    have A4 := Aside0.mk A40
    clear A40
    have HC5 := Aside0.mk H
    clear H
    go_enter Try.func13, Try.ntmps13
    go_upto_region 5 with (first | ((with_reducible refine gate_callee (f := 56) rfl ?_); refine goesL_ (some 11) rfl rfl Try.func56 (by kernel_rfl) rfl #[.slice A0 l0.length c0] rfl (by (try simp only [List.map_toArray, List.map_cons, List.map_nil]); first | done | rfl | (simp only [List.length_drop, List.length_take]; rfl)) ?_; (with_reducible refine (spec_DrawJoinTotals.calls k _ _ l0 t224 t225 t226 t227 t228 t229 t230 t231 _ ?side1 ?side2 A3.out).mono ?_); (case side1 => repeat (first | exact HR0.out | (with_reducible refine Kd.C_alloc ?_ _) | (with_reducible refine Kd.C_drewN ?_ _) | (with_reducible refine Kd.C_drew ?_))); (case side2 => exact HC0.out); rintro e w6 ⟨rfl, hb⟩; refine ⟨_, rfl, ?_⟩; have n0_ := Aside0.mk (below_step (by repeat (first | (with_reducible first | exact HB.out | apply below_alloc | apply pw_below_drewN | apply below_drew1) | exact HB.out)) hb); clear HB; have HB := n0_; clear n0_; (try clear hb); (try clear hb2); (try clear hk); (try clear hi)) | ((with_reducible refine gate_dst (N := 3) rfl ?_); refine box_event ?hg (N := 3) ?hd (cs := #[.int .i64 0, .int .i64 0, .int .i64 0, .int .i64 0]) (t := 34) ?hr ?_; (case hd => rfl); (case hg => rfl); (case hr => first | (go_simp; done) | (go_simp; rfl)); intro gb232 hg w7 hbox hb; have n0_ := Aside0.mk (below_step (by repeat (first | (with_reducible first | exact HB.out | apply below_alloc | apply pw_below_drewN | apply below_drew1) | exact HB.out)) hb); have n1_ := Aside0.mk (hbox); have n2_ := Aside0.mk ((by rw [hg]; exact (below_size (by repeat (first | (with_reducible first | exact HB.out | apply below_alloc | apply pw_below_drewN | apply below_drew1) | exact HB.out))) : w.heap.size ≤ gb232)); have n3_ := Aside0.mk ((by rw [hg]; exact (below_size (by repeat (first | (with_reducible first | exact HB.out | apply below_alloc | apply pw_below_drewN | apply below_drew1) | exact HB.out))) : w.heap.size ≤ gb232)); clear HB; have HB := n0_; have BK232 := n1_; have GW232 := n2_; have GE232 := n3_; clear n0_ n1_ n2_ n3_; clear hb hbox hg) | ((with_reducible refine gate_dst (N := 4) rfl ?_); refine box_event ?hg (N := 4) ?hd (cs := #[.int .i64 0, .int .i64 0, .int .i64 0, .int .i64 0]) (t := 34) ?hr ?_; (case hd => rfl); (case hg => rfl); (case hr => first | (go_simp; done) | (go_simp; rfl)); intro gb233 hg w8 hbox hb; have n0_ := Aside0.mk (blk_below (g := gb232) (o := .cells #[.int .i64 0, .int .i64 0, .int .i64 0, .int .i64 0] 34 (0, 0)) (by (with_reducible repeat (first | refine blk_drewN ?_ _ | refine blk_drew ?_ | refine blk_alloc ?_ _)); exact BK232.out) hb); have n1_ := Aside0.mk (below_step (by repeat (first | (with_reducible first | exact HB.out | apply below_alloc | apply pw_below_drewN | apply below_drew1 | refine below_set ?_ GE232.out) | exact HB.out)) hb); have n2_ := Aside0.mk (hbox); have n3_ := Aside0.mk ((by rw [hg]; exact (below_size (by repeat (first | (with_reducible first | exact HB.out | apply below_alloc | apply pw_below_drewN | apply below_drew1 | refine below_set ?_ GE232.out) | exact HB.out))) : w.heap.size ≤ gb233)); have n4_ := Aside0.mk ((by rw [hg]; exact (below_size (by repeat (first | (with_reducible first | exact HB.out | apply below_alloc | apply pw_below_drewN | apply below_drew1 | refine below_set ?_ GE232.out) | exact HB.out))) : w.heap.size ≤ gb233)); have n5_ := Aside0.mk ((by rw [hg]; exact Nat.ne_of_lt (blk_lt (g := gb232) (o := .cells #[.int .i64 0, .int .i64 0, .int .i64 0, .int .i64 0] 34 (0, 0)) (by (with_reducible repeat (first | refine blk_drewN ?_ _ | refine blk_drew ?_ | refine blk_alloc ?_ _)); exact BK232.out)) : gb232 ≠ gb233)); have n6_ := Aside0.mk ((by rw [hg]; exact Nat.ne_of_gt (blk_lt (g := gb232) (o := .cells #[.int .i64 0, .int .i64 0, .int .i64 0, .int .i64 0] 34 (0, 0)) (by (with_reducible repeat (first | refine blk_drewN ?_ _ | refine blk_drew ?_ | refine blk_alloc ?_ _)); exact BK232.out)) : gb233 ≠ gb232)); clear BK232; clear HB; have BK232 := n0_; have HB := n1_; have BK233 := n2_; have GW233 := n3_; have GE233 := n4_; have NB232_233 := n5_; have NB233_232 := n6_; clear n0_ n1_ n2_ n3_ n4_ n5_ n6_; clear hb hbox hg; have hnb9 := NB232_233.out; have hnc9 := NB233_232.out; have hcz10_0 : w8.cell? ⟨gb232, 0, none⟩ = some (.int .i64 0) := (blk_cell BK232.out 0).trans rfl; have hcz10_1 : w8.cell? ⟨gb232, 1, none⟩ = some (.int .i64 0) := (blk_cell BK232.out 1).trans rfl; have hcz10_2 : w8.cell? ⟨gb232, 2, none⟩ = some (.int .i64 0) := (blk_cell BK232.out 2).trans rfl; have hcz10_3 : w8.cell? ⟨gb232, 3, none⟩ = some (.int .i64 0) := (blk_cell BK232.out 3).trans rfl; have hfz10_0 := blk_frozen BK232.out 0; have hfz10_1 := blk_frozen BK232.out 1; have hfz10_2 := blk_frozen BK232.out 2; have hfz10_3 := blk_frozen BK232.out 3; have hcz11_0 : w8.cell? ⟨gb233, 0, none⟩ = some (.int .i64 0) := (blk_cell BK233.out 0).trans rfl; have hcz11_1 : w8.cell? ⟨gb233, 1, none⟩ = some (.int .i64 0) := (blk_cell BK233.out 1).trans rfl; have hcz11_2 : w8.cell? ⟨gb233, 2, none⟩ = some (.int .i64 0) := (blk_cell BK233.out 2).trans rfl; have hcz11_3 : w8.cell? ⟨gb233, 3, none⟩ = some (.int .i64 0) := (blk_cell BK233.out 3).trans rfl; have hfz11_0 := blk_frozen BK233.out 0; have hfz11_1 := blk_frozen BK233.out 1; have hfz11_2 := blk_frozen BK233.out 2; have hfz11_3 := blk_frozen BK233.out 3) | ((with_reducible refine gate_callee (f := 57) rfl ?_); refine goesL_ (some 16) rfl rfl Try.func57 (by kernel_rfl) rfl #[.agg #[.int .i64 t224, .int .i64 t225, .int .i64 t226, .int .i64 t227], .agg #[.int .i64 t228, .int .i64 t229, .int .i64 t230, .int .i64 t231]] rfl (by (try simp only [List.map_toArray, List.map_cons, List.map_nil]); first | done | rfl | (simp only [List.length_drop, List.length_take]; rfl)) ?_; (with_reducible refine (impl_JoinTotals.calls k t224 t225 t226 t227 t228 t229 t230 t231 t234 t235 t236 t237 _ A4.out).mono ?_); rintro e w12 ⟨rfl, hb⟩; refine ⟨_, rfl, ?_⟩; have n0_ := Aside0.mk (blk_below (g := gb232) (o := .cells #[.int .i64 t224, .int .i64 t225, .int .i64 t226, .int .i64 t227] 34 (0, 0)) (by (with_reducible repeat (first | refine blk_drewN ?_ _ | refine blk_drew ?_ | refine blk_alloc ?_ _)); refine blk_far ?_ NB232_233.out _; (with_reducible repeat (first | refine blk_drewN ?_ _ | refine blk_drew ?_ | refine blk_alloc ?_ _)); refine blk_far ?_ NB232_233.out _; (with_reducible repeat (first | refine blk_drewN ?_ _ | refine blk_drew ?_ | refine blk_alloc ?_ _)); refine blk_far ?_ NB232_233.out _; (with_reducible repeat (first | refine blk_drewN ?_ _ | refine blk_drew ?_ | refine blk_alloc ?_ _)); refine blk_far ?_ NB232_233.out _; (with_reducible repeat (first | refine blk_drewN ?_ _ | refine blk_drew ?_ | refine blk_alloc ?_ _)); refine blk_put (cs := #[.int .i64 t224, .int .i64 t225, .int .i64 t226, .int .i64 0]) ?_ 3 _ rfl; (with_reducible repeat (first | refine blk_drewN ?_ _ | refine blk_drew ?_ | refine blk_alloc ?_ _)); refine blk_put (cs := #[.int .i64 t224, .int .i64 t225, .int .i64 0, .int .i64 0]) ?_ 2 _ rfl; (with_reducible repeat (first | refine blk_drewN ?_ _ | refine blk_drew ?_ | refine blk_alloc ?_ _)); refine blk_put (cs := #[.int .i64 t224, .int .i64 0, .int .i64 0, .int .i64 0]) ?_ 1 _ rfl; (with_reducible repeat (first | refine blk_drewN ?_ _ | refine blk_drew ?_ | refine blk_alloc ?_ _)); refine blk_put (cs := #[.int .i64 0, .int .i64 0, .int .i64 0, .int .i64 0]) ?_ 0 _ rfl; (with_reducible repeat (first | refine blk_drewN ?_ _ | refine blk_drew ?_ | refine blk_alloc ?_ _)); exact BK232.out) hb); have n1_ := Aside0.mk (blk_below (g := gb233) (o := .cells #[.int .i64 t228, .int .i64 t229, .int .i64 t230, .int .i64 t231] 34 (0, 0)) (by (with_reducible repeat (first | refine blk_drewN ?_ _ | refine blk_drew ?_ | refine blk_alloc ?_ _)); refine blk_put (cs := #[.int .i64 t228, .int .i64 t229, .int .i64 t230, .int .i64 0]) ?_ 3 _ rfl; (with_reducible repeat (first | refine blk_drewN ?_ _ | refine blk_drew ?_ | refine blk_alloc ?_ _)); refine blk_put (cs := #[.int .i64 t228, .int .i64 t229, .int .i64 0, .int .i64 0]) ?_ 2 _ rfl; (with_reducible repeat (first | refine blk_drewN ?_ _ | refine blk_drew ?_ | refine blk_alloc ?_ _)); refine blk_put (cs := #[.int .i64 t228, .int .i64 0, .int .i64 0, .int .i64 0]) ?_ 1 _ rfl; (with_reducible repeat (first | refine blk_drewN ?_ _ | refine blk_drew ?_ | refine blk_alloc ?_ _)); refine blk_put (cs := #[.int .i64 0, .int .i64 0, .int .i64 0, .int .i64 0]) ?_ 0 _ rfl; (with_reducible repeat (first | refine blk_drewN ?_ _ | refine blk_drew ?_ | refine blk_alloc ?_ _)); refine blk_far ?_ NB233_232.out _; (with_reducible repeat (first | refine blk_drewN ?_ _ | refine blk_drew ?_ | refine blk_alloc ?_ _)); refine blk_far ?_ NB233_232.out _; (with_reducible repeat (first | refine blk_drewN ?_ _ | refine blk_drew ?_ | refine blk_alloc ?_ _)); refine blk_far ?_ NB233_232.out _; (with_reducible repeat (first | refine blk_drewN ?_ _ | refine blk_drew ?_ | refine blk_alloc ?_ _)); refine blk_far ?_ NB233_232.out _; (with_reducible repeat (first | refine blk_drewN ?_ _ | refine blk_drew ?_ | refine blk_alloc ?_ _)); exact BK233.out) hb); have n2_ := Aside0.mk (below_step (by repeat (first | (with_reducible first | exact HB.out | apply below_alloc | apply pw_below_drewN | apply below_drew1 | refine below_set ?_ GE232.out | refine below_set ?_ GE233.out) | exact HB.out)) hb); clear BK232; clear BK233; clear HB; have BK232 := n0_; have BK233 := n1_; have HB := n2_; clear n0_ n1_ n2_; (try clear hb); (try clear hb2); (try clear hk); (try clear hi)) | ((with_reducible refine gate_dst (N := 5) rfl ?_); refine box_event ?hg (N := 5) ?hd (cs := #[.int .i64 0, .int .i64 0, .int .i64 0, .int .i64 0]) (t := 34) ?hr ?_; (case hd => rfl); (case hg => rfl); (case hr => first | (go_simp; done) | (go_simp; rfl)); intro gb238 hg w13 hbox hb; have n0_ := Aside0.mk (blk_below (g := gb232) (o := .cells #[.int .i64 t224, .int .i64 t225, .int .i64 t226, .int .i64 t227] 34 (0, 0)) (by (with_reducible repeat (first | refine blk_drewN ?_ _ | refine blk_drew ?_ | refine blk_alloc ?_ _)); exact BK232.out) hb); have n1_ := Aside0.mk (blk_below (g := gb233) (o := .cells #[.int .i64 t228, .int .i64 t229, .int .i64 t230, .int .i64 t231] 34 (0, 0)) (by (with_reducible repeat (first | refine blk_drewN ?_ _ | refine blk_drew ?_ | refine blk_alloc ?_ _)); exact BK233.out) hb); have n2_ := Aside0.mk (below_step (by repeat (first | (with_reducible first | exact HB.out | apply below_alloc | apply pw_below_drewN | apply below_drew1 | refine below_set ?_ GE232.out | refine below_set ?_ GE233.out) | exact HB.out)) hb); have n3_ := Aside0.mk (hbox); have n4_ := Aside0.mk ((by rw [hg]; exact (below_size (by repeat (first | (with_reducible first | exact HB.out | apply below_alloc | apply pw_below_drewN | apply below_drew1 | refine below_set ?_ GE232.out | refine below_set ?_ GE233.out) | exact HB.out))) : w.heap.size ≤ gb238)); have n5_ := Aside0.mk ((by rw [hg]; exact (below_size (by repeat (first | (with_reducible first | exact HB.out | apply below_alloc | apply pw_below_drewN | apply below_drew1 | refine below_set ?_ GE232.out | refine below_set ?_ GE233.out) | exact HB.out))) : w.heap.size ≤ gb238)); have n6_ := Aside0.mk ((by rw [hg]; exact Nat.ne_of_lt (blk_lt (g := gb232) (o := .cells #[.int .i64 t224, .int .i64 t225, .int .i64 t226, .int .i64 t227] 34 (0, 0)) (by (with_reducible repeat (first | refine blk_drewN ?_ _ | refine blk_drew ?_ | refine blk_alloc ?_ _)); exact BK232.out)) : gb232 ≠ gb238)); have n7_ := Aside0.mk ((by rw [hg]; exact Nat.ne_of_gt (blk_lt (g := gb232) (o := .cells #[.int .i64 t224, .int .i64 t225, .int .i64 t226, .int .i64 t227] 34 (0, 0)) (by (with_reducible repeat (first | refine blk_drewN ?_ _ | refine blk_drew ?_ | refine blk_alloc ?_ _)); exact BK232.out)) : gb238 ≠ gb232)); have n8_ := Aside0.mk ((by rw [hg]; exact Nat.ne_of_lt (blk_lt (g := gb233) (o := .cells #[.int .i64 t228, .int .i64 t229, .int .i64 t230, .int .i64 t231] 34 (0, 0)) (by (with_reducible repeat (first | refine blk_drewN ?_ _ | refine blk_drew ?_ | refine blk_alloc ?_ _)); exact BK233.out)) : gb233 ≠ gb238)); have n9_ := Aside0.mk ((by rw [hg]; exact Nat.ne_of_gt (blk_lt (g := gb233) (o := .cells #[.int .i64 t228, .int .i64 t229, .int .i64 t230, .int .i64 t231] 34 (0, 0)) (by (with_reducible repeat (first | refine blk_drewN ?_ _ | refine blk_drew ?_ | refine blk_alloc ?_ _)); exact BK233.out)) : gb238 ≠ gb233)); clear BK232; clear BK233; clear HB; have BK232 := n0_; have BK233 := n1_; have HB := n2_; have BK238 := n3_; have GW238 := n4_; have GE238 := n5_; have NB232_238 := n6_; have NB238_232 := n7_; have NB233_238 := n8_; have NB238_233 := n9_; clear n0_ n1_ n2_ n3_ n4_ n5_ n6_ n7_ n8_ n9_; clear hb hbox hg; have hnb14 := NB238_232.out; have hnc14 := NB232_238.out; have hnb15 := NB238_233.out; have hnc15 := NB233_238.out; have hcz16_0 : w13.cell? ⟨gb238, 0, none⟩ = some (.int .i64 0) := (blk_cell BK238.out 0).trans rfl; have hcz16_1 : w13.cell? ⟨gb238, 1, none⟩ = some (.int .i64 0) := (blk_cell BK238.out 1).trans rfl; have hcz16_2 : w13.cell? ⟨gb238, 2, none⟩ = some (.int .i64 0) := (blk_cell BK238.out 2).trans rfl; have hcz16_3 : w13.cell? ⟨gb238, 3, none⟩ = some (.int .i64 0) := (blk_cell BK238.out 3).trans rfl; have hfz16_0 := blk_frozen BK238.out 0; have hfz16_1 := blk_frozen BK238.out 1; have hfz16_2 := blk_frozen BK238.out 2; have hfz16_3 := blk_frozen BK238.out 3))
    (try simp only [Act.put, List.setIfInBounds_toArray, List.set_cons_zero, List.set_cons_succ])
    go_cut [28] (fun v28 wc => ∃ (kq : Nat) (x28_4 : Bool), v28 = .bool x28_4 ∧ Aside0 (laws_FnJoinTotals.j0 kq x28_4 t224 t225 t226 t227 t234 t235 t236 t237 = some r) ∧ Aside0 (kq ≤ k) ∧ Aside0 (wc.heap[gb232]? = some (.cells #[.int .i64 t224, .int .i64 t225, .int .i64 t226, .int .i64 t227] 34 (0, 0))) ∧ Aside0 (wc.heap[gb233]? = some (.cells #[.int .i64 t228, .int .i64 t229, .int .i64 t230, .int .i64 t231] 34 (0, 0))) ∧ Aside0 (wc.heap[gb238]? = some (.cells #[.int .i64 t234, .int .i64 t235, .int .i64 t236, .int .i64 t237] 34 (0, 0))) ∧ Aside0 (Below w.heap.size w wc))
    case first =>
      have H := HC5.out
      clear HC5
      replace H := Option.bind_eq_some_iff.mp H
      obtain ⟨⟨t239, t240, t241, t242⟩, A170, H⟩ := H
      replace H : (if (!(t234 == t239) || (!(t235 == t240) || (!(t236 == t241) || (!(t237 == t242))))) = true then (laws_FnJoinTotals.j0 k true t224 t225 t226 t227 t234 t235 t236 t237) else ((impl_JoinTotals.f k t228 t229 t230 t231 t224 t225 t226 t227).bind fun bt243 => (laws_FnJoinTotals.j0 k (!(t234 == bt243.1) || (!(t235 == bt243.2.1) || (!(t236 == bt243.2.2.1) || (!(t237 == bt243.2.2.2))))) t224 t225 t226 t227 t234 t235 t236 t237))) = some r := H
      have A17 := Aside0.mk A170
      clear A170
      by_cases c18 : (!(t234 == t239) || (!(t235 == t240) || (!(t236 == t241) || (!(t237 == t242))))) = true
      · rw [if_pos c18] at H
        have c18b0 : (!(t234 == t239) || (!(t235 == t240) || (!(t236 == t241) || (!(t237 == t242))))) = true := c18
        clear c18
        (first | rw [c18b0] | (simp only [i64_w, i32_w]; rw [c18b0]) | skip)
        have H' := Aside0.mk H
        clear H
        try go_wp2
        have n0_ : Aside0 (((((w13.setCell ⟨gb238, 0, none⟩ (.int .i64 t234)).setCell ⟨gb238, 1, none⟩ (.int .i64 t235)).setCell ⟨gb238, 2, none⟩ (.int .i64 t236)).setCell ⟨gb238, 3, none⟩ (.int .i64 t237)).heap[gb232]? = some (.cells #[.int .i64 t224, .int .i64 t225, .int .i64 t226, .int .i64 t227] 34 (0, 0))) := ⟨by (with_reducible repeat (first | refine blk_drewN ?_ _ | refine blk_drew ?_ | refine blk_alloc ?_ _)); refine blk_far ?_ NB232_238.out _; (with_reducible repeat (first | refine blk_drewN ?_ _ | refine blk_drew ?_ | refine blk_alloc ?_ _)); refine blk_far ?_ NB232_238.out _; (with_reducible repeat (first | refine blk_drewN ?_ _ | refine blk_drew ?_ | refine blk_alloc ?_ _)); refine blk_far ?_ NB232_238.out _; (with_reducible repeat (first | refine blk_drewN ?_ _ | refine blk_drew ?_ | refine blk_alloc ?_ _)); refine blk_far ?_ NB232_238.out _; (with_reducible repeat (first | refine blk_drewN ?_ _ | refine blk_drew ?_ | refine blk_alloc ?_ _)); exact BK232.out⟩
        have n1_ : Aside0 (((((w13.setCell ⟨gb238, 0, none⟩ (.int .i64 t234)).setCell ⟨gb238, 1, none⟩ (.int .i64 t235)).setCell ⟨gb238, 2, none⟩ (.int .i64 t236)).setCell ⟨gb238, 3, none⟩ (.int .i64 t237)).heap[gb233]? = some (.cells #[.int .i64 t228, .int .i64 t229, .int .i64 t230, .int .i64 t231] 34 (0, 0))) := ⟨by (with_reducible repeat (first | refine blk_drewN ?_ _ | refine blk_drew ?_ | refine blk_alloc ?_ _)); refine blk_far ?_ NB233_238.out _; (with_reducible repeat (first | refine blk_drewN ?_ _ | refine blk_drew ?_ | refine blk_alloc ?_ _)); refine blk_far ?_ NB233_238.out _; (with_reducible repeat (first | refine blk_drewN ?_ _ | refine blk_drew ?_ | refine blk_alloc ?_ _)); refine blk_far ?_ NB233_238.out _; (with_reducible repeat (first | refine blk_drewN ?_ _ | refine blk_drew ?_ | refine blk_alloc ?_ _)); refine blk_far ?_ NB233_238.out _; (with_reducible repeat (first | refine blk_drewN ?_ _ | refine blk_drew ?_ | refine blk_alloc ?_ _)); exact BK233.out⟩
        have n2_ : Aside0 (((((w13.setCell ⟨gb238, 0, none⟩ (.int .i64 t234)).setCell ⟨gb238, 1, none⟩ (.int .i64 t235)).setCell ⟨gb238, 2, none⟩ (.int .i64 t236)).setCell ⟨gb238, 3, none⟩ (.int .i64 t237)).heap[gb238]? = some (.cells #[.int .i64 t234, .int .i64 t235, .int .i64 t236, .int .i64 t237] 34 (0, 0))) := ⟨by (with_reducible repeat (first | refine blk_drewN ?_ _ | refine blk_drew ?_ | refine blk_alloc ?_ _)); refine blk_put (cs := #[.int .i64 t234, .int .i64 t235, .int .i64 t236, .int .i64 0]) ?_ 3 _ rfl; (with_reducible repeat (first | refine blk_drewN ?_ _ | refine blk_drew ?_ | refine blk_alloc ?_ _)); refine blk_put (cs := #[.int .i64 t234, .int .i64 t235, .int .i64 0, .int .i64 0]) ?_ 2 _ rfl; (with_reducible repeat (first | refine blk_drewN ?_ _ | refine blk_drew ?_ | refine blk_alloc ?_ _)); refine blk_put (cs := #[.int .i64 t234, .int .i64 0, .int .i64 0, .int .i64 0]) ?_ 1 _ rfl; (with_reducible repeat (first | refine blk_drewN ?_ _ | refine blk_drew ?_ | refine blk_alloc ?_ _)); refine blk_put (cs := #[.int .i64 0, .int .i64 0, .int .i64 0, .int .i64 0]) ?_ 0 _ rfl; (with_reducible repeat (first | refine blk_drewN ?_ _ | refine blk_drew ?_ | refine blk_alloc ?_ _)); exact BK238.out⟩
        have n3_ : Aside0 (Below w.heap.size w ((((w13.setCell ⟨gb238, 0, none⟩ (.int .i64 t234)).setCell ⟨gb238, 1, none⟩ (.int .i64 t235)).setCell ⟨gb238, 2, none⟩ (.int .i64 t236)).setCell ⟨gb238, 3, none⟩ (.int .i64 t237))) := ⟨by repeat (first | (with_reducible first | exact HB.out | apply below_alloc | apply pw_below_drewN | apply below_drew1 | refine below_set ?_ GE232.out | refine below_set ?_ GE233.out | refine below_set ?_ GE238.out) | exact HB.out)⟩
        (try clear BK232)
        (try clear BK233)
        (try clear BK238)
        (try clear HB)
        generalize ((((w13.setCell ⟨gb238, 0, none⟩ (.int .i64 t234)).setCell ⟨gb238, 1, none⟩ (.int .i64 t235)).setCell ⟨gb238, 2, none⟩ (.int .i64 t236)).setCell ⟨gb238, 3, none⟩ (.int .i64 t237)) = w19 at n0_ n1_ n2_ n3_ ⊢
        have BK232 := n0_
        have BK233 := n1_
        have BK238 := n2_
        have HB := n3_
        clear n0_ n1_ n2_ n3_
        have n0_ := Aside0.mk (blk_drew BK232.out)
        have n1_ := Aside0.mk (blk_drew BK233.out)
        have n2_ := Aside0.mk (blk_drew BK238.out)
        have n3_ := Aside0.mk (below_drew1 HB.out)
        clear BK232
        clear BK233
        clear BK238
        clear HB
        have BK232 := n0_
        have BK233 := n1_
        have BK238 := n2_
        have HB := n3_
        clear n0_ n1_ n2_ n3_
        refine start_ (n := 12) (S := fun w' => w'.cell? ⟨gb238, 0, none⟩ = some (.int .i64 t234) ∧ w'.cell? ⟨gb238, 1, none⟩ = some (.int .i64 t235) ∧ w'.cell? ⟨gb238, 2, none⟩ = some (.int .i64 t236) ∧ w'.cell? ⟨gb238, 3, none⟩ = some (.int .i64 t237) ∧ w'.cell? ⟨gb232, 0, none⟩ = some (.int .i64 t224) ∧ w'.cell? ⟨gb232, 1, none⟩ = some (.int .i64 t225) ∧ w'.cell? ⟨gb232, 2, none⟩ = some (.int .i64 t226) ∧ w'.cell? ⟨gb232, 3, none⟩ = some (.int .i64 t227) ∧ w'.cell? ⟨gb233, 0, none⟩ = some (.int .i64 t228) ∧ w'.cell? ⟨gb233, 1, none⟩ = some (.int .i64 t229) ∧ w'.cell? ⟨gb233, 2, none⟩ = some (.int .i64 t230) ∧ w'.cell? ⟨gb233, 3, none⟩ = some (.int .i64 t231)) (ds := []) #[false, false, false, false, false, false, false, false, false, false, false, false] (by kernel_rfl) rfl rfl ⟨(blk_cell BK238.out 0).trans rfl, (blk_cell BK238.out 1).trans rfl, (blk_cell BK238.out 2).trans rfl, (blk_cell BK238.out 3).trans rfl, (blk_cell BK232.out 0).trans rfl, (blk_cell BK232.out 1).trans rfl, (blk_cell BK232.out 2).trans rfl, (blk_cell BK232.out 3).trans rfl, (blk_cell BK233.out 0).trans rfl, (blk_cell BK233.out 1).trans rfl, (blk_cell BK233.out 2).trans rfl, (blk_cell BK233.out 3).trans rfl⟩ (fun hHeld => ?_); refine with_tabW laws_FnJoinTotals.tab5 laws_FnJoinTotals.bits5 (fun HT_ HW_ => ?_)
        generalize w19.drew = w20 at BK232 BK233 BK238 HB hHeld ⊢
        refine take_ (i := 0) (N := some 17) (v := ?_) (a' := ?_) #[true, false, false, false, false, false, false, false, false, false, false, false] rfl rfl (take_ofW HT_.out HW_.out (by kernel_rfl)) (fun _ _ _ h => h) (Or.inl ⟨by rfl, ?_⟩) hHeld ?_ ?_
        rotate_left
        · rintro w' ⟨s0, s1, s2, s3, s4, s5, s6, s7, s8, s9, s10, s11⟩
          go_simp
          with_reducible rfl
        rotate_left
        · simp only [Act.put, List.setIfInBounds_toArray, List.set_cons_zero, List.set_cons_succ, i64_w, i32_w]
          rfl
        refine take_ (i := 1) (N := some 18) (v := ?_) (a' := ?_) #[true, true, false, false, false, false, false, false, false, false, false, false] rfl rfl (take_ofW HT_.out HW_.out (by kernel_rfl)) (fun _ _ _ h => h) (Or.inl ⟨by rfl, ?_⟩) hHeld ?_ ?_
        rotate_left
        · rintro w' ⟨s0, s1, s2, s3, s4, s5, s6, s7, s8, s9, s10, s11⟩
          go_simp
          with_reducible rfl
        rotate_left
        · simp only [Act.put, List.setIfInBounds_toArray, List.set_cons_zero, List.set_cons_succ, i64_w, i32_w]
          rfl
        refine take_ (i := 2) (N := some 19) (v := ?_) (a' := ?_) #[true, true, true, false, false, false, false, false, false, false, false, false] rfl rfl (take_ofW HT_.out HW_.out (by kernel_rfl)) (fun _ _ _ h => h) (Or.inl ⟨by rfl, ?_⟩) hHeld ?_ ?_
        rotate_left
        · rintro w' ⟨s0, s1, s2, s3, s4, s5, s6, s7, s8, s9, s10, s11⟩
          go_simp
          with_reducible rfl
        rotate_left
        · simp only [Act.put, List.setIfInBounds_toArray, List.set_cons_zero, List.set_cons_succ, i64_w, i32_w]
          rfl
        refine one_ (i := 3) (N := some 20) #[true, true, true, true, false, false, false, false, false, false, false, false] rfl rfl (one_of HT_.out (by kernel_rfl)) (by decide) (fun K hK => ?_)
        refine goes_ Try.func58 (by kernel_rfl) rfl #[.agg #[.int .i64 t224, .int .i64 t225, .int .i64 t226, .int .i64 t227], .agg #[.int .i64 t228, .int .i64 t229, .int .i64 t230, .int .i64 t231]] (by rfl) rfl rfl (by (try simp only [List.map_toArray, List.map_cons, List.map_nil]); first | done | rfl | (simp only [List.length_drop, List.length_take]; rfl)) ?_
        with_reducible refine (spec_JoinTotals.calls k t224 t225 t226 t227 t228 t229 t230 t231 t239 t240 t241 t242 _ A17.out).mono ?_
        rintro e w21 ⟨rfl, hb⟩
        refine ⟨_, rfl, ?_⟩
        have n0_ := Aside0.mk (blk_below (g := gb232) (o := .cells #[.int .i64 t224, .int .i64 t225, .int .i64 t226, .int .i64 t227] 34 (0, 0)) (by (with_reducible repeat (first | refine blk_drewN ?_ _ | refine blk_drew ?_ | refine blk_alloc ?_ _)); exact BK232.out) hb)
        have n1_ := Aside0.mk (blk_below (g := gb233) (o := .cells #[.int .i64 t228, .int .i64 t229, .int .i64 t230, .int .i64 t231] 34 (0, 0)) (by (with_reducible repeat (first | refine blk_drewN ?_ _ | refine blk_drew ?_ | refine blk_alloc ?_ _)); exact BK233.out) hb)
        have n2_ := Aside0.mk (blk_below (g := gb238) (o := .cells #[.int .i64 t234, .int .i64 t235, .int .i64 t236, .int .i64 t237] 34 (0, 0)) (by (with_reducible repeat (first | refine blk_drewN ?_ _ | refine blk_drew ?_ | refine blk_alloc ?_ _)); exact BK238.out) hb)
        have n3_ := Aside0.mk (below_step (by repeat (first | (with_reducible first | exact HB.out | apply below_alloc | apply pw_below_drewN | apply below_drew1 | refine below_set ?_ GE232.out | refine below_set ?_ GE233.out | refine below_set ?_ GE238.out) | exact HB.out)) hb)
        clear BK232
        clear BK233
        clear BK238
        clear HB
        have BK232 := n0_
        have BK233 := n1_
        have BK238 := n2_
        have HB := n3_
        clear n0_ n1_ n2_ n3_
        (try clear hb)
        (try clear hb2)
        (try clear hk)
        (try clear hi)
        refine hK.out _ _ ⟨(blk_cell BK238.out 0).trans rfl, (blk_cell BK238.out 1).trans rfl, (blk_cell BK238.out 2).trans rfl, (blk_cell BK238.out 3).trans rfl, (blk_cell BK232.out 0).trans rfl, (blk_cell BK232.out 1).trans rfl, (blk_cell BK232.out 2).trans rfl, (blk_cell BK232.out 3).trans rfl, (blk_cell BK233.out 0).trans rfl, (blk_cell BK233.out 1).trans rfl, (blk_cell BK233.out 2).trans rfl, (blk_cell BK233.out 3).trans rfl⟩ (fun hHeld => ?_)
        clear hK K
        refine norm_ (a' := ?_) ?_ ?_
        rotate_left
        · show Act.put _ (some 20) _ = _
          simp only [Act.put, List.setIfInBounds_toArray, List.set_cons_zero, List.set_cons_succ, i64_w, i32_w]
          rfl
        refine pure_ (i := 4) (N := some 21) (v := ?_) (a' := ?_) #[true, true, true, true, true, false, false, false, false, false, false, false] rfl rfl (any_of HT_.out (by kernel_rfl)) (fun _ _ _ h => h) (Or.inl ⟨by rfl, ?_⟩) ?_ ?_
        rotate_left
        · intro w'
          go_simp
          with_reducible rfl
        rotate_left
        · simp only [Act.put, List.setIfInBounds_toArray, List.set_cons_zero, List.set_cons_succ, i64_w, i32_w]
          rfl
        refine pure_ (i := 5) (N := some 22) (v := ?_) (a' := ?_) #[true, true, true, true, true, true, false, false, false, false, false, false] rfl rfl (any_of HT_.out (by kernel_rfl)) (fun _ _ _ h => h) (Or.inl ⟨by rfl, ?_⟩) ?_ ?_
        rotate_left
        · intro w'
          go_simp
          with_reducible rfl
        rotate_left
        · simp only [Act.put, List.setIfInBounds_toArray, List.set_cons_zero, List.set_cons_succ, i64_w, i32_w]
          rfl
        refine pure_ (i := 6) (N := some 23) (v := undef) (a' := ?_) #[true, true, true, true, true, true, true, false, false, false, false, false] rfl rfl (any_of HT_.out (by kernel_rfl)) (fun _ _ _ h => h) (Or.inr ⟨by rfl, rfl⟩) ?_ ?_
        rotate_left
        · simp only [Act.put, List.setIfInBounds_toArray, List.set_cons_zero, List.set_cons_succ, i64_w, i32_w]
          rfl
        refine pure_ (i := 7) (N := some 24) (v := undef) (a' := ?_) #[true, true, true, true, true, true, true, true, false, false, false, false] rfl rfl (any_of HT_.out (by kernel_rfl)) (fun _ _ _ h => h) (Or.inr ⟨by rfl, rfl⟩) ?_ ?_
        rotate_left
        · simp only [Act.put, List.setIfInBounds_toArray, List.set_cons_zero, List.set_cons_succ, i64_w, i32_w]
          rfl
        refine pure_ (i := 8) (N := some 25) (v := undef) (a' := ?_) #[true, true, true, true, true, true, true, true, true, false, false, false] rfl rfl (any_of HT_.out (by kernel_rfl)) (fun _ _ _ h => h) (Or.inr ⟨by rfl, rfl⟩) ?_ ?_
        rotate_left
        · simp only [Act.put, List.setIfInBounds_toArray, List.set_cons_zero, List.set_cons_succ, i64_w, i32_w]
          rfl
        refine pure_ (i := 9) (N := some 26) (v := undef) (a' := ?_) #[true, true, true, true, true, true, true, true, true, true, false, false] rfl rfl (any_of HT_.out (by kernel_rfl)) (fun _ _ _ h => h) (Or.inr ⟨by rfl, rfl⟩) ?_ ?_
        rotate_left
        · simp only [Act.put, List.setIfInBounds_toArray, List.set_cons_zero, List.set_cons_succ, i64_w, i32_w]
          rfl
        refine pure_ (i := 10) (N := some 27) (v := undef) (a' := ?_) #[true, true, true, true, true, true, true, true, true, true, true, false] rfl rfl (any_of HT_.out (by kernel_rfl)) (fun _ _ _ h => h) (Or.inr ⟨by rfl, rfl⟩) ?_ ?_
        rotate_left
        · simp only [Act.put, List.setIfInBounds_toArray, List.set_cons_zero, List.set_cons_succ, i64_w, i32_w]
          rfl
        refine pure_ (i := 11) (N := some 28) (v := ?_) (a' := ?_) #[true, true, true, true, true, true, true, true, true, true, true, true] rfl rfl (any_of HT_.out (by kernel_rfl)) (fun _ _ _ h => h) (Or.inl ⟨by rfl, ?_⟩) ?_ ?_
        rotate_left
        · intro w'
          go_simp
          with_reducible rfl
        rotate_left
        · simp only [Act.put, List.setIfInBounds_toArray, List.set_cons_zero, List.set_cons_succ, i64_w, i32_w]
          rfl
        refine done_ (done_of HT_.out (by kernel_rfl)) ?_
        try go_wp2
        go_meet
        case rel => exact ⟨_, (true), (by first | rfl | (simp; done) | (simp [*]; done)), H', ⟨by first | omega | exact Nat.le_refl _⟩, ⟨by (with_reducible repeat (first | refine blk_drewN ?_ _ | refine blk_drew ?_ | refine blk_alloc ?_ _)); exact BK232.out⟩, ⟨by (with_reducible repeat (first | refine blk_drewN ?_ _ | refine blk_drew ?_ | refine blk_alloc ?_ _)); exact BK233.out⟩, ⟨by (with_reducible repeat (first | refine blk_drewN ?_ _ | refine blk_drew ?_ | refine blk_alloc ?_ _)); exact BK238.out⟩, ⟨by repeat (first | (with_reducible first | exact HB.out | apply below_alloc | apply pw_below_drewN | apply below_drew1 | refine below_set ?_ GE232.out | refine below_set ?_ GE233.out | refine below_set ?_ GE238.out) | exact HB.out)⟩⟩
      · rw [if_neg c18] at H
        have c18b0 : (!(t234 == t239) || (!(t235 == t240) || (!(t236 == t241) || (!(t237 == t242))))) = false := by simpa using c18
        clear c18
        (first | rw [c18b0] | (simp only [i64_w, i32_w]; rw [c18b0]) | skip)
        replace H := Option.bind_eq_some_iff.mp H
        obtain ⟨⟨t243, t244, t245, t246⟩, A220, H⟩ := H
        replace H : (laws_FnJoinTotals.j0 k (!(t234 == t243) || (!(t235 == t244) || (!(t236 == t245) || (!(t237 == t246))))) t224 t225 t226 t227 t234 t235 t236 t237) = some r := H
        have A22 := Aside0.mk A220
        clear A220
        have H' := Aside0.mk H
        clear H
        try go_wp2
        have n0_ : Aside0 (((((w13.setCell ⟨gb238, 0, none⟩ (.int .i64 t234)).setCell ⟨gb238, 1, none⟩ (.int .i64 t235)).setCell ⟨gb238, 2, none⟩ (.int .i64 t236)).setCell ⟨gb238, 3, none⟩ (.int .i64 t237)).heap[gb232]? = some (.cells #[.int .i64 t224, .int .i64 t225, .int .i64 t226, .int .i64 t227] 34 (0, 0))) := ⟨by (with_reducible repeat (first | refine blk_drewN ?_ _ | refine blk_drew ?_ | refine blk_alloc ?_ _)); refine blk_far ?_ NB232_238.out _; (with_reducible repeat (first | refine blk_drewN ?_ _ | refine blk_drew ?_ | refine blk_alloc ?_ _)); refine blk_far ?_ NB232_238.out _; (with_reducible repeat (first | refine blk_drewN ?_ _ | refine blk_drew ?_ | refine blk_alloc ?_ _)); refine blk_far ?_ NB232_238.out _; (with_reducible repeat (first | refine blk_drewN ?_ _ | refine blk_drew ?_ | refine blk_alloc ?_ _)); refine blk_far ?_ NB232_238.out _; (with_reducible repeat (first | refine blk_drewN ?_ _ | refine blk_drew ?_ | refine blk_alloc ?_ _)); exact BK232.out⟩
        have n1_ : Aside0 (((((w13.setCell ⟨gb238, 0, none⟩ (.int .i64 t234)).setCell ⟨gb238, 1, none⟩ (.int .i64 t235)).setCell ⟨gb238, 2, none⟩ (.int .i64 t236)).setCell ⟨gb238, 3, none⟩ (.int .i64 t237)).heap[gb233]? = some (.cells #[.int .i64 t228, .int .i64 t229, .int .i64 t230, .int .i64 t231] 34 (0, 0))) := ⟨by (with_reducible repeat (first | refine blk_drewN ?_ _ | refine blk_drew ?_ | refine blk_alloc ?_ _)); refine blk_far ?_ NB233_238.out _; (with_reducible repeat (first | refine blk_drewN ?_ _ | refine blk_drew ?_ | refine blk_alloc ?_ _)); refine blk_far ?_ NB233_238.out _; (with_reducible repeat (first | refine blk_drewN ?_ _ | refine blk_drew ?_ | refine blk_alloc ?_ _)); refine blk_far ?_ NB233_238.out _; (with_reducible repeat (first | refine blk_drewN ?_ _ | refine blk_drew ?_ | refine blk_alloc ?_ _)); refine blk_far ?_ NB233_238.out _; (with_reducible repeat (first | refine blk_drewN ?_ _ | refine blk_drew ?_ | refine blk_alloc ?_ _)); exact BK233.out⟩
        have n2_ : Aside0 (((((w13.setCell ⟨gb238, 0, none⟩ (.int .i64 t234)).setCell ⟨gb238, 1, none⟩ (.int .i64 t235)).setCell ⟨gb238, 2, none⟩ (.int .i64 t236)).setCell ⟨gb238, 3, none⟩ (.int .i64 t237)).heap[gb238]? = some (.cells #[.int .i64 t234, .int .i64 t235, .int .i64 t236, .int .i64 t237] 34 (0, 0))) := ⟨by (with_reducible repeat (first | refine blk_drewN ?_ _ | refine blk_drew ?_ | refine blk_alloc ?_ _)); refine blk_put (cs := #[.int .i64 t234, .int .i64 t235, .int .i64 t236, .int .i64 0]) ?_ 3 _ rfl; (with_reducible repeat (first | refine blk_drewN ?_ _ | refine blk_drew ?_ | refine blk_alloc ?_ _)); refine blk_put (cs := #[.int .i64 t234, .int .i64 t235, .int .i64 0, .int .i64 0]) ?_ 2 _ rfl; (with_reducible repeat (first | refine blk_drewN ?_ _ | refine blk_drew ?_ | refine blk_alloc ?_ _)); refine blk_put (cs := #[.int .i64 t234, .int .i64 0, .int .i64 0, .int .i64 0]) ?_ 1 _ rfl; (with_reducible repeat (first | refine blk_drewN ?_ _ | refine blk_drew ?_ | refine blk_alloc ?_ _)); refine blk_put (cs := #[.int .i64 0, .int .i64 0, .int .i64 0, .int .i64 0]) ?_ 0 _ rfl; (with_reducible repeat (first | refine blk_drewN ?_ _ | refine blk_drew ?_ | refine blk_alloc ?_ _)); exact BK238.out⟩
        have n3_ : Aside0 (Below w.heap.size w ((((w13.setCell ⟨gb238, 0, none⟩ (.int .i64 t234)).setCell ⟨gb238, 1, none⟩ (.int .i64 t235)).setCell ⟨gb238, 2, none⟩ (.int .i64 t236)).setCell ⟨gb238, 3, none⟩ (.int .i64 t237))) := ⟨by repeat (first | (with_reducible first | exact HB.out | apply below_alloc | apply pw_below_drewN | apply below_drew1 | refine below_set ?_ GE232.out | refine below_set ?_ GE233.out | refine below_set ?_ GE238.out) | exact HB.out)⟩
        (try clear BK232)
        (try clear BK233)
        (try clear BK238)
        (try clear HB)
        generalize ((((w13.setCell ⟨gb238, 0, none⟩ (.int .i64 t234)).setCell ⟨gb238, 1, none⟩ (.int .i64 t235)).setCell ⟨gb238, 2, none⟩ (.int .i64 t236)).setCell ⟨gb238, 3, none⟩ (.int .i64 t237)) = w23 at n0_ n1_ n2_ n3_ ⊢
        have BK232 := n0_
        have BK233 := n1_
        have BK238 := n2_
        have HB := n3_
        clear n0_ n1_ n2_ n3_
        have n0_ := Aside0.mk (blk_drew BK232.out)
        have n1_ := Aside0.mk (blk_drew BK233.out)
        have n2_ := Aside0.mk (blk_drew BK238.out)
        have n3_ := Aside0.mk (below_drew1 HB.out)
        clear BK232
        clear BK233
        clear BK238
        clear HB
        have BK232 := n0_
        have BK233 := n1_
        have BK238 := n2_
        have HB := n3_
        clear n0_ n1_ n2_ n3_
        refine start_ (n := 12) (S := fun w' => w'.cell? ⟨gb238, 0, none⟩ = some (.int .i64 t234) ∧ w'.cell? ⟨gb238, 1, none⟩ = some (.int .i64 t235) ∧ w'.cell? ⟨gb238, 2, none⟩ = some (.int .i64 t236) ∧ w'.cell? ⟨gb238, 3, none⟩ = some (.int .i64 t237) ∧ w'.cell? ⟨gb232, 0, none⟩ = some (.int .i64 t224) ∧ w'.cell? ⟨gb232, 1, none⟩ = some (.int .i64 t225) ∧ w'.cell? ⟨gb232, 2, none⟩ = some (.int .i64 t226) ∧ w'.cell? ⟨gb232, 3, none⟩ = some (.int .i64 t227) ∧ w'.cell? ⟨gb233, 0, none⟩ = some (.int .i64 t228) ∧ w'.cell? ⟨gb233, 1, none⟩ = some (.int .i64 t229) ∧ w'.cell? ⟨gb233, 2, none⟩ = some (.int .i64 t230) ∧ w'.cell? ⟨gb233, 3, none⟩ = some (.int .i64 t231)) (ds := []) #[false, false, false, false, false, false, false, false, false, false, false, false] (by kernel_rfl) rfl rfl ⟨(blk_cell BK238.out 0).trans rfl, (blk_cell BK238.out 1).trans rfl, (blk_cell BK238.out 2).trans rfl, (blk_cell BK238.out 3).trans rfl, (blk_cell BK232.out 0).trans rfl, (blk_cell BK232.out 1).trans rfl, (blk_cell BK232.out 2).trans rfl, (blk_cell BK232.out 3).trans rfl, (blk_cell BK233.out 0).trans rfl, (blk_cell BK233.out 1).trans rfl, (blk_cell BK233.out 2).trans rfl, (blk_cell BK233.out 3).trans rfl⟩ (fun hHeld => ?_); refine with_tabW laws_FnJoinTotals.tab5 laws_FnJoinTotals.bits5 (fun HT_ HW_ => ?_)
        generalize w23.drew = w24 at BK232 BK233 BK238 HB hHeld ⊢
        refine take_ (i := 0) (N := some 17) (v := ?_) (a' := ?_) #[true, false, false, false, false, false, false, false, false, false, false, false] rfl rfl (take_ofW HT_.out HW_.out (by kernel_rfl)) (fun _ _ _ h => h) (Or.inl ⟨by rfl, ?_⟩) hHeld ?_ ?_
        rotate_left
        · rintro w' ⟨s0, s1, s2, s3, s4, s5, s6, s7, s8, s9, s10, s11⟩
          go_simp
          with_reducible rfl
        rotate_left
        · simp only [Act.put, List.setIfInBounds_toArray, List.set_cons_zero, List.set_cons_succ, i64_w, i32_w]
          rfl
        refine take_ (i := 1) (N := some 18) (v := ?_) (a' := ?_) #[true, true, false, false, false, false, false, false, false, false, false, false] rfl rfl (take_ofW HT_.out HW_.out (by kernel_rfl)) (fun _ _ _ h => h) (Or.inl ⟨by rfl, ?_⟩) hHeld ?_ ?_
        rotate_left
        · rintro w' ⟨s0, s1, s2, s3, s4, s5, s6, s7, s8, s9, s10, s11⟩
          go_simp
          with_reducible rfl
        rotate_left
        · simp only [Act.put, List.setIfInBounds_toArray, List.set_cons_zero, List.set_cons_succ, i64_w, i32_w]
          rfl
        refine take_ (i := 2) (N := some 19) (v := ?_) (a' := ?_) #[true, true, true, false, false, false, false, false, false, false, false, false] rfl rfl (take_ofW HT_.out HW_.out (by kernel_rfl)) (fun _ _ _ h => h) (Or.inl ⟨by rfl, ?_⟩) hHeld ?_ ?_
        rotate_left
        · rintro w' ⟨s0, s1, s2, s3, s4, s5, s6, s7, s8, s9, s10, s11⟩
          go_simp
          with_reducible rfl
        rotate_left
        · simp only [Act.put, List.setIfInBounds_toArray, List.set_cons_zero, List.set_cons_succ, i64_w, i32_w]
          rfl
        refine one_ (i := 3) (N := some 20) #[true, true, true, true, false, false, false, false, false, false, false, false] rfl rfl (one_of HT_.out (by kernel_rfl)) (by decide) (fun K hK => ?_)
        refine goes_ Try.func58 (by kernel_rfl) rfl #[.agg #[.int .i64 t224, .int .i64 t225, .int .i64 t226, .int .i64 t227], .agg #[.int .i64 t228, .int .i64 t229, .int .i64 t230, .int .i64 t231]] (by rfl) rfl rfl (by (try simp only [List.map_toArray, List.map_cons, List.map_nil]); first | done | rfl | (simp only [List.length_drop, List.length_take]; rfl)) ?_
        with_reducible refine (spec_JoinTotals.calls k t224 t225 t226 t227 t228 t229 t230 t231 t239 t240 t241 t242 _ A17.out).mono ?_
        rintro e w25 ⟨rfl, hb⟩
        refine ⟨_, rfl, ?_⟩
        have n0_ := Aside0.mk (blk_below (g := gb232) (o := .cells #[.int .i64 t224, .int .i64 t225, .int .i64 t226, .int .i64 t227] 34 (0, 0)) (by (with_reducible repeat (first | refine blk_drewN ?_ _ | refine blk_drew ?_ | refine blk_alloc ?_ _)); exact BK232.out) hb)
        have n1_ := Aside0.mk (blk_below (g := gb233) (o := .cells #[.int .i64 t228, .int .i64 t229, .int .i64 t230, .int .i64 t231] 34 (0, 0)) (by (with_reducible repeat (first | refine blk_drewN ?_ _ | refine blk_drew ?_ | refine blk_alloc ?_ _)); exact BK233.out) hb)
        have n2_ := Aside0.mk (blk_below (g := gb238) (o := .cells #[.int .i64 t234, .int .i64 t235, .int .i64 t236, .int .i64 t237] 34 (0, 0)) (by (with_reducible repeat (first | refine blk_drewN ?_ _ | refine blk_drew ?_ | refine blk_alloc ?_ _)); exact BK238.out) hb)
        have n3_ := Aside0.mk (below_step (by repeat (first | (with_reducible first | exact HB.out | apply below_alloc | apply pw_below_drewN | apply below_drew1 | refine below_set ?_ GE232.out | refine below_set ?_ GE233.out | refine below_set ?_ GE238.out) | exact HB.out)) hb)
        clear BK232
        clear BK233
        clear BK238
        clear HB
        have BK232 := n0_
        have BK233 := n1_
        have BK238 := n2_
        have HB := n3_
        clear n0_ n1_ n2_ n3_
        (try clear hb)
        (try clear hb2)
        (try clear hk)
        (try clear hi)
        refine hK.out _ _ ⟨(blk_cell BK238.out 0).trans rfl, (blk_cell BK238.out 1).trans rfl, (blk_cell BK238.out 2).trans rfl, (blk_cell BK238.out 3).trans rfl, (blk_cell BK232.out 0).trans rfl, (blk_cell BK232.out 1).trans rfl, (blk_cell BK232.out 2).trans rfl, (blk_cell BK232.out 3).trans rfl, (blk_cell BK233.out 0).trans rfl, (blk_cell BK233.out 1).trans rfl, (blk_cell BK233.out 2).trans rfl, (blk_cell BK233.out 3).trans rfl⟩ (fun hHeld => ?_)
        clear hK K
        refine norm_ (a' := ?_) ?_ ?_
        rotate_left
        · show Act.put _ (some 20) _ = _
          simp only [Act.put, List.setIfInBounds_toArray, List.set_cons_zero, List.set_cons_succ, i64_w, i32_w]
          rfl
        refine pure_ (i := 4) (N := some 21) (v := ?_) (a' := ?_) #[true, true, true, true, true, false, false, false, false, false, false, false] rfl rfl (any_of HT_.out (by kernel_rfl)) (fun _ _ _ h => h) (Or.inl ⟨by rfl, ?_⟩) ?_ ?_
        rotate_left
        · intro w'
          go_simp
          with_reducible rfl
        rotate_left
        · simp only [Act.put, List.setIfInBounds_toArray, List.set_cons_zero, List.set_cons_succ, i64_w, i32_w]
          rfl
        refine pure_ (i := 5) (N := some 22) (v := ?_) (a' := ?_) #[true, true, true, true, true, true, false, false, false, false, false, false] rfl rfl (any_of HT_.out (by kernel_rfl)) (fun _ _ _ h => h) (Or.inl ⟨by rfl, ?_⟩) ?_ ?_
        rotate_left
        · intro w'
          go_simp
          with_reducible rfl
        rotate_left
        · simp only [Act.put, List.setIfInBounds_toArray, List.set_cons_zero, List.set_cons_succ, i64_w, i32_w]
          rfl
        refine take_ (i := 6) (N := some 23) (v := ?_) (a' := ?_) #[true, true, true, true, true, true, true, false, false, false, false, false] rfl rfl (take_ofW HT_.out HW_.out (by kernel_rfl)) (fun _ _ _ h => h) (Or.inl ⟨by rfl, ?_⟩) hHeld ?_ ?_
        rotate_left
        · rintro w' ⟨s0, s1, s2, s3, s4, s5, s6, s7, s8, s9, s10, s11⟩
          go_simp
          with_reducible rfl
        rotate_left
        · simp only [Act.put, List.setIfInBounds_toArray, List.set_cons_zero, List.set_cons_succ, i64_w, i32_w]
          rfl
        refine take_ (i := 7) (N := some 24) (v := ?_) (a' := ?_) #[true, true, true, true, true, true, true, true, false, false, false, false] rfl rfl (take_ofW HT_.out HW_.out (by kernel_rfl)) (fun _ _ _ h => h) (Or.inl ⟨by rfl, ?_⟩) hHeld ?_ ?_
        rotate_left
        · rintro w' ⟨s0, s1, s2, s3, s4, s5, s6, s7, s8, s9, s10, s11⟩
          go_simp
          with_reducible rfl
        rotate_left
        · simp only [Act.put, List.setIfInBounds_toArray, List.set_cons_zero, List.set_cons_succ, i64_w, i32_w]
          rfl
        refine take_ (i := 8) (N := some 25) (v := ?_) (a' := ?_) #[true, true, true, true, true, true, true, true, true, false, false, false] rfl rfl (take_ofW HT_.out HW_.out (by kernel_rfl)) (fun _ _ _ h => h) (Or.inl ⟨by rfl, ?_⟩) hHeld ?_ ?_
        rotate_left
        · rintro w' ⟨s0, s1, s2, s3, s4, s5, s6, s7, s8, s9, s10, s11⟩
          go_simp
          with_reducible rfl
        rotate_left
        · simp only [Act.put, List.setIfInBounds_toArray, List.set_cons_zero, List.set_cons_succ, i64_w, i32_w]
          rfl
        refine one_ (i := 9) (N := some 26) #[true, true, true, true, true, true, true, true, true, true, false, false] rfl rfl (one_of HT_.out (by kernel_rfl)) (by decide) (fun K hK => ?_)
        refine goes_ Try.func57 (by kernel_rfl) rfl #[.agg #[.int .i64 t228, .int .i64 t229, .int .i64 t230, .int .i64 t231], .agg #[.int .i64 t224, .int .i64 t225, .int .i64 t226, .int .i64 t227]] (by rfl) rfl rfl (by (try simp only [List.map_toArray, List.map_cons, List.map_nil]); first | done | rfl | (simp only [List.length_drop, List.length_take]; rfl)) ?_
        with_reducible refine (impl_JoinTotals.calls k t228 t229 t230 t231 t224 t225 t226 t227 t243 t244 t245 t246 _ A22.out).mono ?_
        rintro e w26 ⟨rfl, hb⟩
        refine ⟨_, rfl, ?_⟩
        have n0_ := Aside0.mk (blk_below (g := gb232) (o := .cells #[.int .i64 t224, .int .i64 t225, .int .i64 t226, .int .i64 t227] 34 (0, 0)) (by (with_reducible repeat (first | refine blk_drewN ?_ _ | refine blk_drew ?_ | refine blk_alloc ?_ _)); exact BK232.out) hb)
        have n1_ := Aside0.mk (blk_below (g := gb233) (o := .cells #[.int .i64 t228, .int .i64 t229, .int .i64 t230, .int .i64 t231] 34 (0, 0)) (by (with_reducible repeat (first | refine blk_drewN ?_ _ | refine blk_drew ?_ | refine blk_alloc ?_ _)); exact BK233.out) hb)
        have n2_ := Aside0.mk (blk_below (g := gb238) (o := .cells #[.int .i64 t234, .int .i64 t235, .int .i64 t236, .int .i64 t237] 34 (0, 0)) (by (with_reducible repeat (first | refine blk_drewN ?_ _ | refine blk_drew ?_ | refine blk_alloc ?_ _)); exact BK238.out) hb)
        have n3_ := Aside0.mk (below_step (by repeat (first | (with_reducible first | exact HB.out | apply below_alloc | apply pw_below_drewN | apply below_drew1 | refine below_set ?_ GE232.out | refine below_set ?_ GE233.out | refine below_set ?_ GE238.out) | exact HB.out)) hb)
        clear BK232
        clear BK233
        clear BK238
        clear HB
        have BK232 := n0_
        have BK233 := n1_
        have BK238 := n2_
        have HB := n3_
        clear n0_ n1_ n2_ n3_
        (try clear hb)
        (try clear hb2)
        (try clear hk)
        (try clear hi)
        refine hK.out _ _ ⟨(blk_cell BK238.out 0).trans rfl, (blk_cell BK238.out 1).trans rfl, (blk_cell BK238.out 2).trans rfl, (blk_cell BK238.out 3).trans rfl, (blk_cell BK232.out 0).trans rfl, (blk_cell BK232.out 1).trans rfl, (blk_cell BK232.out 2).trans rfl, (blk_cell BK232.out 3).trans rfl, (blk_cell BK233.out 0).trans rfl, (blk_cell BK233.out 1).trans rfl, (blk_cell BK233.out 2).trans rfl, (blk_cell BK233.out 3).trans rfl⟩ (fun hHeld => ?_)
        clear hK K
        refine norm_ (a' := ?_) ?_ ?_
        rotate_left
        · show Act.put _ (some 26) _ = _
          simp only [Act.put, List.setIfInBounds_toArray, List.set_cons_zero, List.set_cons_succ, i64_w, i32_w]
          rfl
        refine pure_ (i := 10) (N := some 27) (v := ?_) (a' := ?_) #[true, true, true, true, true, true, true, true, true, true, true, false] rfl rfl (any_of HT_.out (by kernel_rfl)) (fun _ _ _ h => h) (Or.inl ⟨by rfl, ?_⟩) ?_ ?_
        rotate_left
        · intro w'
          go_simp
          with_reducible rfl
        rotate_left
        · simp only [Act.put, List.setIfInBounds_toArray, List.set_cons_zero, List.set_cons_succ, i64_w, i32_w]
          rfl
        refine pure_ (i := 11) (N := some 28) (v := ?_) (a' := ?_) #[true, true, true, true, true, true, true, true, true, true, true, true] rfl rfl (any_of HT_.out (by kernel_rfl)) (fun _ _ _ h => h) (Or.inl ⟨by rfl, ?_⟩) ?_ ?_
        rotate_left
        · intro w'
          go_simp
          with_reducible rfl
        rotate_left
        · simp only [Act.put, List.setIfInBounds_toArray, List.set_cons_zero, List.set_cons_succ, i64_w, i32_w]
          rfl
        refine done_ (done_of HT_.out (by kernel_rfl)) ?_
        try go_wp2
        go_meet
        case rel => exact ⟨_, ((!(t234 == t243) || (!(t235 == t244) || (!(t236 == t245) || (!(t237 == t246)))))), (by first | rfl | (simp; done) | (simp [*]; done)), H', ⟨by first | omega | exact Nat.le_refl _⟩, ⟨by (with_reducible repeat (first | refine blk_drewN ?_ _ | refine blk_drew ?_ | refine blk_alloc ?_ _)); exact BK232.out⟩, ⟨by (with_reducible repeat (first | refine blk_drewN ?_ _ | refine blk_drew ?_ | refine blk_alloc ?_ _)); exact BK233.out⟩, ⟨by (with_reducible repeat (first | refine blk_drewN ?_ _ | refine blk_drew ?_ | refine blk_alloc ?_ _)); exact BK238.out⟩, ⟨by repeat (first | (with_reducible first | exact HB.out | apply below_alloc | apply pw_below_drewN | apply below_drew1 | refine below_set ?_ GE232.out | refine below_set ?_ GE233.out | refine below_set ?_ GE238.out) | exact HB.out)⟩⟩
    case rest =>
      clear HC5
      try clear c1
      try clear c2
      try clear c2b0
      try clear c2b1
      try clear p2
      try clear c5
      try clear c9
      try clear c13
      try clear c14
      try clear c15
      try clear c18
      try clear c18b0
      try clear hcz10_0
      try clear hcz10_1
      try clear hcz10_2
      try clear hcz10_3
      try clear hcz11_0
      try clear hcz11_1
      try clear hcz11_2
      try clear hcz11_3
      try clear hcz16_0
      try clear hcz16_1
      try clear hcz16_2
      try clear hcz16_3
      try clear hfz10_0
      try clear hfz10_1
      try clear hfz10_2
      try clear hfz10_3
      try clear hfz11_0
      try clear hfz11_1
      try clear hfz11_2
      try clear hfz11_3
      try clear hfz16_0
      try clear hfz16_1
      try clear hfz16_2
      try clear hfz16_3
      obtain ⟨kq, x28_4, rfl, HA, HJ4, BK232, BK233, BK238, HB⟩ := hcut
      cases kq with
      | zero => exact absurd HA.out (by simp [laws_FnJoinTotals.j0])
      | succ kj4 =>
        have H := HA.out
        clear HA
        simp only [laws_FnJoinTotals.j0] at H
        by_cases c27 : x28_4 = true
        · subst c27
          have H1 : (some false) = some r := by rw [if_pos rfl] at H; exact H
          clear H
          have H := H1
          clear H1
          obtain rfl := Option.some.inj H
          go_wp2
          go_ret
          exact ⟨by first | rfl | (simp [errW_none, errW_some] <;> rfl) | (simp [*, errW_none, errW_some] <;> rfl), by repeat (first | (with_reducible first | exact HB.out | apply below_alloc | apply pw_below_drewN | apply below_drew1 | refine below_set ?_ GE232.out | refine below_set ?_ GE233.out | refine below_set ?_ GE238.out) | exact HB.out)⟩
        · replace c27 := Bool.eq_false_iff.mpr c27
          subst c27
          have H1 : ((spec_TotalValid.f t224 t225 t226 t227).bind fun t247 => (if t247 = true then ((impl_JoinTotals.f kj4 t224 t225 t226 t227 0 0 (-1) (-1)).bind fun bt248 => (if (bt248.1 == t224 && (bt248.2.1 == t225 && (bt248.2.2.1 == t226 && (bt248.2.2.2 == t227)))) = true then (if (t234 == 0 && (t235 == 0 && (t236 == 0 && (t237 == 0)))) = true then (some true) else ((impl_TotalValid.f kj4 t234 t235 t236 t237).bind fun t252 => (some t252))) else (some false))) else (if (t234 == 0 && (t235 == 0 && (t236 == 0 && (t237 == 0)))) = true then ((laws_alive.f kj4).bind fun t253 => (some t253)) else (some false)))) = some r := by rw [if_neg (show ¬ (false = true) by decide)] at H; exact H
          clear H
          have H := H1
          clear H1
          replace H := Option.bind_eq_some_iff.mp H
          obtain ⟨t247, A280, H⟩ := H
          replace H : (if t247 = true then ((impl_JoinTotals.f kj4 t224 t225 t226 t227 0 0 (-1) (-1)).bind fun bt248 => (if (bt248.1 == t224 && (bt248.2.1 == t225 && (bt248.2.2.1 == t226 && (bt248.2.2.2 == t227)))) = true then (if (t234 == 0 && (t235 == 0 && (t236 == 0 && (t237 == 0)))) = true then (some true) else ((impl_TotalValid.f kj4 t234 t235 t236 t237).bind fun t252 => (some t252))) else (some false))) else (if (t234 == 0 && (t235 == 0 && (t236 == 0 && (t237 == 0)))) = true then ((laws_alive.f kj4).bind fun t253 => (some t253)) else (some false))) = some r := H
          have A28 := Aside0.mk A280
          clear A280
          by_cases c29 : t247 = true
          · subst c29
            have H1 : ((impl_JoinTotals.f kj4 t224 t225 t226 t227 0 0 (-1) (-1)).bind fun bt248 => (if (bt248.1 == t224 && (bt248.2.1 == t225 && (bt248.2.2.1 == t226 && (bt248.2.2.2 == t227)))) = true then (if (t234 == 0 && (t235 == 0 && (t236 == 0 && (t237 == 0)))) = true then (some true) else ((impl_TotalValid.f kj4 t234 t235 t236 t237).bind fun t252 => (some t252))) else (some false))) = some r := by rw [if_pos rfl] at H; exact H
            clear H
            have H := H1
            clear H1
            replace H := Option.bind_eq_some_iff.mp H
            obtain ⟨⟨t248, t249, t250, t251⟩, A300, H⟩ := H
            replace H : (if (t248 == t224 && (t249 == t225 && (t250 == t226 && (t251 == t227)))) = true then (if (t234 == 0 && (t235 == 0 && (t236 == 0 && (t237 == 0)))) = true then (some true) else ((impl_TotalValid.f kj4 t234 t235 t236 t237).bind fun t252 => (some t252))) else (some false)) = some r := H
            have A30 := Aside0.mk A300
            clear A300
            by_cases c31 : (t248 == t224 && (t249 == t225 && (t250 == t226 && (t251 == t227)))) = true
            · rw [if_pos c31] at H
              have c31b0 : (t248 == t224 && (t249 == t225 && (t250 == t226 && (t251 == t227)))) = true := c31
              (try (have c31b1 : decide (t248 = t224 && (t249 == t225 && (t250 == t226 && (t251 == t227)))) = true := by simpa using c31))
              (try (have c31b2 : (t248 == t224 && (t249 == t225 && (t250 == t226 && (t251 == t227)))) = true := by simpa using c31))
              clear c31
              by_cases c32 : (t234 == 0 && (t235 == 0 && (t236 == 0 && (t237 == 0)))) = true
              · rw [if_pos c32] at H
                have c32b0 : (t234 == 0 && (t235 == 0 && (t236 == 0 && (t237 == 0)))) = true := c32
                (try (have c32b1 : decide (t234 = 0 && (t235 == 0 && (t236 == 0 && (t237 == 0)))) = true := by simpa using c32))
                (try (have c32b2 : (t234 == 0 && (t235 == 0 && (t236 == 0 && (t237 == 0)))) = true := by simpa using c32))
                clear c32
                obtain rfl := Option.some.inj H
                have hnb33 := NB232_233.out
                have hnc33 := NB233_232.out
                have hnb34 := NB232_238.out
                have hnc34 := NB238_232.out
                have hcz35_0 : wc.cell? ⟨gb232, 0, none⟩ = some (.int .i64 t224) := (blk_cell BK232.out 0).trans rfl
                have hcz35_1 : wc.cell? ⟨gb232, 1, none⟩ = some (.int .i64 t225) := (blk_cell BK232.out 1).trans rfl
                have hcz35_2 : wc.cell? ⟨gb232, 2, none⟩ = some (.int .i64 t226) := (blk_cell BK232.out 2).trans rfl
                have hcz35_3 : wc.cell? ⟨gb232, 3, none⟩ = some (.int .i64 t227) := (blk_cell BK232.out 3).trans rfl
                have hfz35_0 := blk_frozen BK232.out 0
                have hfz35_1 := blk_frozen BK232.out 1
                have hfz35_2 := blk_frozen BK232.out 2
                have hfz35_3 := blk_frozen BK232.out 3
                try go_wp2_with (first | ((with_reducible refine gate_callee (f := 46) rfl ?_); refine goesL_ (some 30) rfl rfl Try.func46 (by kernel_rfl) rfl #[.agg #[.int .i64 t224, .int .i64 t225, .int .i64 t226, .int .i64 t227]] rfl (by (try simp only [List.map_toArray, List.map_cons, List.map_nil]); first | done | rfl | (simp only [List.length_drop, List.length_take]; rfl)) ?_; (with_reducible refine (spec_TotalValid.calls t224 t225 t226 t227 true _ A28.out).mono ?_); rintro e w36 ⟨rfl, hb⟩; refine ⟨_, rfl, ?_⟩; have n0_ := Aside0.mk (blk_below (g := gb232) (o := .cells #[.int .i64 t224, .int .i64 t225, .int .i64 t226, .int .i64 t227] 34 (0, 0)) (by (with_reducible repeat (first | refine blk_drewN ?_ _ | refine blk_drew ?_ | refine blk_alloc ?_ _)); exact BK232.out) hb); have n1_ := Aside0.mk (blk_below (g := gb233) (o := .cells #[.int .i64 t228, .int .i64 t229, .int .i64 t230, .int .i64 t231] 34 (0, 0)) (by (with_reducible repeat (first | refine blk_drewN ?_ _ | refine blk_drew ?_ | refine blk_alloc ?_ _)); exact BK233.out) hb); have n2_ := Aside0.mk (blk_below (g := gb238) (o := .cells #[.int .i64 t234, .int .i64 t235, .int .i64 t236, .int .i64 t237] 34 (0, 0)) (by (with_reducible repeat (first | refine blk_drewN ?_ _ | refine blk_drew ?_ | refine blk_alloc ?_ _)); exact BK238.out) hb); have n3_ := Aside0.mk (below_step (by repeat (first | (with_reducible first | exact HB.out | apply below_alloc | apply pw_below_drewN | apply below_drew1 | refine below_set ?_ GE232.out | refine below_set ?_ GE233.out | refine below_set ?_ GE238.out) | exact HB.out)) hb); clear BK232; clear BK233; clear BK238; clear HB; have BK232 := n0_; have BK233 := n1_; have BK238 := n2_; have HB := n3_; clear n0_ n1_ n2_ n3_; (try clear hb); (try clear hb2); (try clear hk); (try clear hi)))
                have n0_ := Aside0.mk (blk_drew BK232.out)
                have n1_ := Aside0.mk (blk_drew BK233.out)
                have n2_ := Aside0.mk (blk_drew BK238.out)
                have n3_ := Aside0.mk (below_drew1 HB.out)
                clear BK232
                clear BK233
                clear BK238
                clear HB
                have BK232 := n0_
                have BK233 := n1_
                have BK238 := n2_
                have HB := n3_
                clear n0_ n1_ n2_ n3_
                refine start_ (n := 15) (S := fun w' => w'.cell? ⟨gb232, 0, none⟩ = some (.int .i64 t224) ∧ w'.cell? ⟨gb232, 1, none⟩ = some (.int .i64 t225) ∧ w'.cell? ⟨gb232, 2, none⟩ = some (.int .i64 t226) ∧ w'.cell? ⟨gb232, 3, none⟩ = some (.int .i64 t227) ∧ w'.cell? ⟨gb238, 0, none⟩ = some (.int .i64 t234) ∧ w'.cell? ⟨gb238, 1, none⟩ = some (.int .i64 t235) ∧ w'.cell? ⟨gb238, 2, none⟩ = some (.int .i64 t236) ∧ w'.cell? ⟨gb238, 3, none⟩ = some (.int .i64 t237)) (ds := []) #[false, false, false, false, false, false, false, false, false, false, false, false, false, false, false] (by kernel_rfl) rfl rfl ⟨(blk_cell BK232.out 0).trans rfl, (blk_cell BK232.out 1).trans rfl, (blk_cell BK232.out 2).trans rfl, (blk_cell BK232.out 3).trans rfl, (blk_cell BK238.out 0).trans rfl, (blk_cell BK238.out 1).trans rfl, (blk_cell BK238.out 2).trans rfl, (blk_cell BK238.out 3).trans rfl⟩ (fun hHeld => ?_); refine with_tabW laws_FnJoinTotals.tab9 laws_FnJoinTotals.bits9 (fun HT_ HW_ => ?_)
                generalize w36.drew = w37 at BK232 BK233 BK238 HB hHeld ⊢
                refine pure_ (i := 1) (N := some 39) (v := ?_) (a' := ?_) #[false, true, false, false, false, false, false, false, false, false, false, false, false, false, false] rfl rfl (any_of HT_.out (by kernel_rfl)) (fun _ _ _ h => h) (Or.inl ⟨by rfl, ?_⟩) ?_ ?_
                rotate_left
                · intro w'
                  go_simp
                  with_reducible rfl
                rotate_left
                · simp only [Act.put, List.setIfInBounds_toArray, List.set_cons_zero, List.set_cons_succ, i64_w, i32_w]
                  rfl
                refine take_ (i := 0) (N := some 38) (v := ?_) (a' := ?_) #[true, true, false, false, false, false, false, false, false, false, false, false, false, false, false] rfl rfl (take_ofW HT_.out HW_.out (by kernel_rfl)) (fun _ _ _ h => h) (Or.inl ⟨by rfl, ?_⟩) hHeld ?_ ?_
                rotate_left
                · rintro w' ⟨s0, s1, s2, s3, s4, s5, s6, s7⟩
                  go_simp
                  with_reducible rfl
                rotate_left
                · simp only [Act.put, List.setIfInBounds_toArray, List.set_cons_zero, List.set_cons_succ, i64_w, i32_w]
                  rfl
                refine take_ (i := 3) (N := some 41) (v := ?_) (a' := ?_) #[true, true, false, true, false, false, false, false, false, false, false, false, false, false, false] rfl rfl (take_ofW HT_.out HW_.out (by kernel_rfl)) (fun _ _ _ h => h) (Or.inl ⟨by rfl, ?_⟩) hHeld ?_ ?_
                rotate_left
                · rintro w' ⟨s0, s1, s2, s3, s4, s5, s6, s7⟩
                  go_simp
                  with_reducible rfl
                rotate_left
                · simp only [Act.put, List.setIfInBounds_toArray, List.set_cons_zero, List.set_cons_succ, i64_w, i32_w]
                  rfl
                refine one_ (i := 2) (N := some 40) #[true, true, true, true, false, false, false, false, false, false, false, false, false, false, false] rfl rfl (one_of HT_.out (by kernel_rfl)) (by decide) (fun K hK => ?_)
                refine goes_ Try.func57 (by kernel_rfl) rfl #[.agg #[.int .i64 t224, .int .i64 t225, .int .i64 t226, .int .i64 t227], .agg #[.int .i64 0, .int .i64 0, .int .i64 (-1), .int .i64 (-1)]] (by rfl) rfl rfl (by (try simp only [List.map_toArray, List.map_cons, List.map_nil]); first | done | rfl | (simp only [List.length_drop, List.length_take]; rfl)) ?_
                with_reducible refine (impl_JoinTotals.calls kj4 t224 t225 t226 t227 0 0 (-1) (-1) t248 t249 t250 t251 _ A30.out).mono ?_
                rintro e w38 ⟨rfl, hb⟩
                refine ⟨_, rfl, ?_⟩
                have n0_ := Aside0.mk (blk_below (g := gb232) (o := .cells #[.int .i64 t224, .int .i64 t225, .int .i64 t226, .int .i64 t227] 34 (0, 0)) (by (with_reducible repeat (first | refine blk_drewN ?_ _ | refine blk_drew ?_ | refine blk_alloc ?_ _)); exact BK232.out) hb)
                have n1_ := Aside0.mk (blk_below (g := gb233) (o := .cells #[.int .i64 t228, .int .i64 t229, .int .i64 t230, .int .i64 t231] 34 (0, 0)) (by (with_reducible repeat (first | refine blk_drewN ?_ _ | refine blk_drew ?_ | refine blk_alloc ?_ _)); exact BK233.out) hb)
                have n2_ := Aside0.mk (blk_below (g := gb238) (o := .cells #[.int .i64 t234, .int .i64 t235, .int .i64 t236, .int .i64 t237] 34 (0, 0)) (by (with_reducible repeat (first | refine blk_drewN ?_ _ | refine blk_drew ?_ | refine blk_alloc ?_ _)); exact BK238.out) hb)
                have n3_ := Aside0.mk (below_step (by repeat (first | (with_reducible first | exact HB.out | apply below_alloc | apply pw_below_drewN | apply below_drew1 | refine below_set ?_ GE232.out | refine below_set ?_ GE233.out | refine below_set ?_ GE238.out) | exact HB.out)) hb)
                clear BK232
                clear BK233
                clear BK238
                clear HB
                have BK232 := n0_
                have BK233 := n1_
                have BK238 := n2_
                have HB := n3_
                clear n0_ n1_ n2_ n3_
                (try clear hb)
                (try clear hb2)
                (try clear hk)
                (try clear hi)
                refine hK.out _ _ ⟨(blk_cell BK232.out 0).trans rfl, (blk_cell BK232.out 1).trans rfl, (blk_cell BK232.out 2).trans rfl, (blk_cell BK232.out 3).trans rfl, (blk_cell BK238.out 0).trans rfl, (blk_cell BK238.out 1).trans rfl, (blk_cell BK238.out 2).trans rfl, (blk_cell BK238.out 3).trans rfl⟩ (fun hHeld => ?_)
                clear hK K
                refine norm_ (a' := ?_) ?_ ?_
                rotate_left
                · show Act.put _ (some 40) _ = _
                  simp only [Act.put, List.setIfInBounds_toArray, List.set_cons_zero, List.set_cons_succ, i64_w, i32_w]
                  rfl
                refine pure_ (i := 4) (N := some 42) (v := ?_) (a' := ?_) #[true, true, true, true, true, false, false, false, false, false, false, false, false, false, false] rfl rfl (any_of HT_.out (by kernel_rfl)) (fun _ _ _ h => h) (Or.inl ⟨by rfl, ?_⟩) ?_ ?_
                rotate_left
                · intro w'
                  go_simp
                  with_reducible rfl
                rotate_left
                · simp only [Act.put, List.setIfInBounds_toArray, List.set_cons_zero, List.set_cons_succ, i64_w, i32_w]
                  rfl
                refine pure_ (i := 5) (N := some 43) (v := ?_) (a' := ?_) #[true, true, true, true, true, true, false, false, false, false, false, false, false, false, false] rfl rfl (any_of HT_.out (by kernel_rfl)) (fun _ _ _ h => h) (Or.inl ⟨by rfl, ?_⟩) ?_ ?_
                rotate_left
                · intro w'
                  go_simp
                  with_reducible rfl
                rotate_left
                · simp only [Act.put, List.setIfInBounds_toArray, List.set_cons_zero, List.set_cons_succ, i64_w, i32_w]
                  rfl
                refine pure_ (i := 7) (N := some 45) (v := ?_) (a' := ?_) #[true, true, true, true, true, true, false, true, false, false, false, false, false, false, false] rfl rfl (any_of HT_.out (by kernel_rfl)) (fun _ _ _ h => h) (Or.inl ⟨by rfl, ?_⟩) ?_ ?_
                rotate_left
                · intro w'
                  go_simp
                  with_reducible rfl
                rotate_left
                · simp only [Act.put, List.setIfInBounds_toArray, List.set_cons_zero, List.set_cons_succ, i64_w, i32_w]
                  rfl
                refine take_ (i := 6) (N := some 44) (v := ?_) (a' := ?_) #[true, true, true, true, true, true, true, true, false, false, false, false, false, false, false] rfl rfl (take_ofW HT_.out HW_.out (by kernel_rfl)) (fun _ _ _ h => h) (Or.inl ⟨by rfl, ?_⟩) hHeld ?_ ?_
                rotate_left
                · rintro w' ⟨s0, s1, s2, s3, s4, s5, s6, s7⟩
                  go_simp
                  with_reducible rfl
                rotate_left
                · simp only [Act.put, List.setIfInBounds_toArray, List.set_cons_zero, List.set_cons_succ, i64_w, i32_w]
                  rfl
                refine pure_ (i := 8) (N := some 46) (v := ?_) (a' := ?_) #[true, true, true, true, true, true, true, true, true, false, false, false, false, false, false] rfl rfl (any_of HT_.out (by kernel_rfl)) (fun _ _ _ h => h) (Or.inl ⟨by rfl, ?_⟩) ?_ ?_
                rotate_left
                · intro w'
                  go_simp
                  with_reducible rfl
                rotate_left
                · simp only [Act.put, List.setIfInBounds_toArray, List.set_cons_zero, List.set_cons_succ, i64_w, i32_w]
                  rfl
                refine pure_ (i := 9) (N := some 47) (v := ?_) (a' := ?_) #[true, true, true, true, true, true, true, true, true, true, false, false, false, false, false] rfl rfl (any_of HT_.out (by kernel_rfl)) (fun _ _ _ h => h) (Or.inl ⟨by rfl, ?_⟩) ?_ ?_
                rotate_left
                · intro w'
                  go_simp
                  with_reducible rfl
                rotate_left
                · simp only [Act.put, List.setIfInBounds_toArray, List.set_cons_zero, List.set_cons_succ, i64_w, i32_w]
                  rfl
                refine pure_ (i := 10) (N := some 48) (v := undef) (a' := ?_) #[true, true, true, true, true, true, true, true, true, true, true, false, false, false, false] rfl rfl (any_of HT_.out (by kernel_rfl)) (fun _ _ _ h => h) (Or.inr ⟨by rfl, rfl⟩) ?_ ?_
                rotate_left
                · simp only [Act.put, List.setIfInBounds_toArray, List.set_cons_zero, List.set_cons_succ, i64_w, i32_w]
                  rfl
                refine pure_ (i := 11) (N := some 49) (v := undef) (a' := ?_) #[true, true, true, true, true, true, true, true, true, true, true, true, false, false, false] rfl rfl (any_of HT_.out (by kernel_rfl)) (fun _ _ _ h => h) (Or.inr ⟨by rfl, rfl⟩) ?_ ?_
                rotate_left
                · simp only [Act.put, List.setIfInBounds_toArray, List.set_cons_zero, List.set_cons_succ, i64_w, i32_w]
                  rfl
                refine pure_ (i := 12) (N := some 50) (v := ?_) (a' := ?_) #[true, true, true, true, true, true, true, true, true, true, true, true, true, false, false] rfl rfl (any_of HT_.out (by kernel_rfl)) (fun _ _ _ h => h) (Or.inl ⟨by rfl, ?_⟩) ?_ ?_
                rotate_left
                · intro w'
                  go_simp
                  with_reducible rfl
                rotate_left
                · simp only [Act.put, List.setIfInBounds_toArray, List.set_cons_zero, List.set_cons_succ, i64_w, i32_w]
                  rfl
                refine pure_ (i := 13) (N := some 51) (v := ?_) (a' := ?_) #[true, true, true, true, true, true, true, true, true, true, true, true, true, true, false] rfl rfl (any_of HT_.out (by kernel_rfl)) (fun _ _ _ h => h) (Or.inl ⟨by rfl, ?_⟩) ?_ ?_
                rotate_left
                · intro w'
                  go_simp
                  with_reducible rfl
                rotate_left
                · simp only [Act.put, List.setIfInBounds_toArray, List.set_cons_zero, List.set_cons_succ, i64_w, i32_w]
                  rfl
                refine pure_ (i := 14) (N := some 2) (v := ?_) (a' := ?_) #[true, true, true, true, true, true, true, true, true, true, true, true, true, true, true] rfl rfl (any_of HT_.out (by kernel_rfl)) (fun _ _ _ h => h) (Or.inl ⟨by rfl, ?_⟩) ?_ ?_
                rotate_left
                · intro w'
                  go_simp
                  with_reducible rfl
                rotate_left
                · simp only [Act.put, List.setIfInBounds_toArray, List.set_cons_zero, List.set_cons_succ, i64_w, i32_w]
                  rfl
                refine done_ (done_of HT_.out (by kernel_rfl)) ?_
                try go_wp2
                go_ret
                exact ⟨by first | rfl | (simp [errW_none, errW_some] <;> rfl) | (simp [*, errW_none, errW_some] <;> rfl), by repeat (first | (with_reducible first | exact HB.out | apply below_alloc | apply pw_below_drewN | apply below_drew1 | refine below_set ?_ GE232.out | refine below_set ?_ GE233.out | refine below_set ?_ GE238.out) | exact HB.out)⟩
              · rw [if_neg c32] at H
                have c32b0 : (t234 == 0 && (t235 == 0 && (t236 == 0 && (t237 == 0)))) = false := by simpa using c32
                (try (have c32b1 : decide (t234 = 0 && (t235 == 0 && (t236 == 0 && (t237 == 0)))) = false := by simpa using c32))
                (try (have c32b2 : (t234 == 0 && (t235 == 0 && (t236 == 0 && (t237 == 0)))) = false := by simpa using c32))
                (try (have c32b3 : ¬ (t234 = 0 && (t235 == 0 && (t236 == 0 && (t237 == 0)))) := by simpa using c32))
                clear c32
                replace H := Option.bind_eq_some_iff.mp H
                obtain ⟨t252, A390, H⟩ := H
                replace H : (some t252) = some r := H
                have A39 := Aside0.mk A390
                clear A390
                obtain rfl := Option.some.inj H
                have hnb40 := NB232_233.out
                have hnc40 := NB233_232.out
                have hnb41 := NB232_238.out
                have hnc41 := NB238_232.out
                have hcz42_0 : wc.cell? ⟨gb232, 0, none⟩ = some (.int .i64 t224) := (blk_cell BK232.out 0).trans rfl
                have hcz42_1 : wc.cell? ⟨gb232, 1, none⟩ = some (.int .i64 t225) := (blk_cell BK232.out 1).trans rfl
                have hcz42_2 : wc.cell? ⟨gb232, 2, none⟩ = some (.int .i64 t226) := (blk_cell BK232.out 2).trans rfl
                have hcz42_3 : wc.cell? ⟨gb232, 3, none⟩ = some (.int .i64 t227) := (blk_cell BK232.out 3).trans rfl
                have hfz42_0 := blk_frozen BK232.out 0
                have hfz42_1 := blk_frozen BK232.out 1
                have hfz42_2 := blk_frozen BK232.out 2
                have hfz42_3 := blk_frozen BK232.out 3
                try go_wp2_with (first | ((with_reducible refine gate_callee (f := 46) rfl ?_); refine goesL_ (some 30) rfl rfl Try.func46 (by kernel_rfl) rfl #[.agg #[.int .i64 t224, .int .i64 t225, .int .i64 t226, .int .i64 t227]] rfl (by (try simp only [List.map_toArray, List.map_cons, List.map_nil]); first | done | rfl | (simp only [List.length_drop, List.length_take]; rfl)) ?_; (with_reducible refine (spec_TotalValid.calls t224 t225 t226 t227 true _ A28.out).mono ?_); rintro e w43 ⟨rfl, hb⟩; refine ⟨_, rfl, ?_⟩; have n0_ := Aside0.mk (blk_below (g := gb232) (o := .cells #[.int .i64 t224, .int .i64 t225, .int .i64 t226, .int .i64 t227] 34 (0, 0)) (by (with_reducible repeat (first | refine blk_drewN ?_ _ | refine blk_drew ?_ | refine blk_alloc ?_ _)); exact BK232.out) hb); have n1_ := Aside0.mk (blk_below (g := gb233) (o := .cells #[.int .i64 t228, .int .i64 t229, .int .i64 t230, .int .i64 t231] 34 (0, 0)) (by (with_reducible repeat (first | refine blk_drewN ?_ _ | refine blk_drew ?_ | refine blk_alloc ?_ _)); exact BK233.out) hb); have n2_ := Aside0.mk (blk_below (g := gb238) (o := .cells #[.int .i64 t234, .int .i64 t235, .int .i64 t236, .int .i64 t237] 34 (0, 0)) (by (with_reducible repeat (first | refine blk_drewN ?_ _ | refine blk_drew ?_ | refine blk_alloc ?_ _)); exact BK238.out) hb); have n3_ := Aside0.mk (below_step (by repeat (first | (with_reducible first | exact HB.out | apply below_alloc | apply pw_below_drewN | apply below_drew1 | refine below_set ?_ GE232.out | refine below_set ?_ GE233.out | refine below_set ?_ GE238.out) | exact HB.out)) hb); clear BK232; clear BK233; clear BK238; clear HB; have BK232 := n0_; have BK233 := n1_; have BK238 := n2_; have HB := n3_; clear n0_ n1_ n2_ n3_; (try clear hb); (try clear hb2); (try clear hk); (try clear hi)))
                have n0_ := Aside0.mk (blk_drew BK232.out)
                have n1_ := Aside0.mk (blk_drew BK233.out)
                have n2_ := Aside0.mk (blk_drew BK238.out)
                have n3_ := Aside0.mk (below_drew1 HB.out)
                clear BK232
                clear BK233
                clear BK238
                clear HB
                have BK232 := n0_
                have BK233 := n1_
                have BK238 := n2_
                have HB := n3_
                clear n0_ n1_ n2_ n3_
                refine start_ (n := 15) (S := fun w' => w'.cell? ⟨gb232, 0, none⟩ = some (.int .i64 t224) ∧ w'.cell? ⟨gb232, 1, none⟩ = some (.int .i64 t225) ∧ w'.cell? ⟨gb232, 2, none⟩ = some (.int .i64 t226) ∧ w'.cell? ⟨gb232, 3, none⟩ = some (.int .i64 t227) ∧ w'.cell? ⟨gb238, 0, none⟩ = some (.int .i64 t234) ∧ w'.cell? ⟨gb238, 1, none⟩ = some (.int .i64 t235) ∧ w'.cell? ⟨gb238, 2, none⟩ = some (.int .i64 t236) ∧ w'.cell? ⟨gb238, 3, none⟩ = some (.int .i64 t237)) (ds := []) #[false, false, false, false, false, false, false, false, false, false, false, false, false, false, false] (by kernel_rfl) rfl rfl ⟨(blk_cell BK232.out 0).trans rfl, (blk_cell BK232.out 1).trans rfl, (blk_cell BK232.out 2).trans rfl, (blk_cell BK232.out 3).trans rfl, (blk_cell BK238.out 0).trans rfl, (blk_cell BK238.out 1).trans rfl, (blk_cell BK238.out 2).trans rfl, (blk_cell BK238.out 3).trans rfl⟩ (fun hHeld => ?_); refine with_tabW laws_FnJoinTotals.tab9 laws_FnJoinTotals.bits9 (fun HT_ HW_ => ?_)
                generalize w43.drew = w44 at BK232 BK233 BK238 HB hHeld ⊢
                refine pure_ (i := 1) (N := some 39) (v := ?_) (a' := ?_) #[false, true, false, false, false, false, false, false, false, false, false, false, false, false, false] rfl rfl (any_of HT_.out (by kernel_rfl)) (fun _ _ _ h => h) (Or.inl ⟨by rfl, ?_⟩) ?_ ?_
                rotate_left
                · intro w'
                  go_simp
                  with_reducible rfl
                rotate_left
                · simp only [Act.put, List.setIfInBounds_toArray, List.set_cons_zero, List.set_cons_succ, i64_w, i32_w]
                  rfl
                refine take_ (i := 0) (N := some 38) (v := ?_) (a' := ?_) #[true, true, false, false, false, false, false, false, false, false, false, false, false, false, false] rfl rfl (take_ofW HT_.out HW_.out (by kernel_rfl)) (fun _ _ _ h => h) (Or.inl ⟨by rfl, ?_⟩) hHeld ?_ ?_
                rotate_left
                · rintro w' ⟨s0, s1, s2, s3, s4, s5, s6, s7⟩
                  go_simp
                  with_reducible rfl
                rotate_left
                · simp only [Act.put, List.setIfInBounds_toArray, List.set_cons_zero, List.set_cons_succ, i64_w, i32_w]
                  rfl
                refine take_ (i := 3) (N := some 41) (v := ?_) (a' := ?_) #[true, true, false, true, false, false, false, false, false, false, false, false, false, false, false] rfl rfl (take_ofW HT_.out HW_.out (by kernel_rfl)) (fun _ _ _ h => h) (Or.inl ⟨by rfl, ?_⟩) hHeld ?_ ?_
                rotate_left
                · rintro w' ⟨s0, s1, s2, s3, s4, s5, s6, s7⟩
                  go_simp
                  with_reducible rfl
                rotate_left
                · simp only [Act.put, List.setIfInBounds_toArray, List.set_cons_zero, List.set_cons_succ, i64_w, i32_w]
                  rfl
                refine one_ (i := 2) (N := some 40) #[true, true, true, true, false, false, false, false, false, false, false, false, false, false, false] rfl rfl (one_of HT_.out (by kernel_rfl)) (by decide) (fun K hK => ?_)
                refine goes_ Try.func57 (by kernel_rfl) rfl #[.agg #[.int .i64 t224, .int .i64 t225, .int .i64 t226, .int .i64 t227], .agg #[.int .i64 0, .int .i64 0, .int .i64 (-1), .int .i64 (-1)]] (by rfl) rfl rfl (by (try simp only [List.map_toArray, List.map_cons, List.map_nil]); first | done | rfl | (simp only [List.length_drop, List.length_take]; rfl)) ?_
                with_reducible refine (impl_JoinTotals.calls kj4 t224 t225 t226 t227 0 0 (-1) (-1) t248 t249 t250 t251 _ A30.out).mono ?_
                rintro e w45 ⟨rfl, hb⟩
                refine ⟨_, rfl, ?_⟩
                have n0_ := Aside0.mk (blk_below (g := gb232) (o := .cells #[.int .i64 t224, .int .i64 t225, .int .i64 t226, .int .i64 t227] 34 (0, 0)) (by (with_reducible repeat (first | refine blk_drewN ?_ _ | refine blk_drew ?_ | refine blk_alloc ?_ _)); exact BK232.out) hb)
                have n1_ := Aside0.mk (blk_below (g := gb233) (o := .cells #[.int .i64 t228, .int .i64 t229, .int .i64 t230, .int .i64 t231] 34 (0, 0)) (by (with_reducible repeat (first | refine blk_drewN ?_ _ | refine blk_drew ?_ | refine blk_alloc ?_ _)); exact BK233.out) hb)
                have n2_ := Aside0.mk (blk_below (g := gb238) (o := .cells #[.int .i64 t234, .int .i64 t235, .int .i64 t236, .int .i64 t237] 34 (0, 0)) (by (with_reducible repeat (first | refine blk_drewN ?_ _ | refine blk_drew ?_ | refine blk_alloc ?_ _)); exact BK238.out) hb)
                have n3_ := Aside0.mk (below_step (by repeat (first | (with_reducible first | exact HB.out | apply below_alloc | apply pw_below_drewN | apply below_drew1 | refine below_set ?_ GE232.out | refine below_set ?_ GE233.out | refine below_set ?_ GE238.out) | exact HB.out)) hb)
                clear BK232
                clear BK233
                clear BK238
                clear HB
                have BK232 := n0_
                have BK233 := n1_
                have BK238 := n2_
                have HB := n3_
                clear n0_ n1_ n2_ n3_
                (try clear hb)
                (try clear hb2)
                (try clear hk)
                (try clear hi)
                refine hK.out _ _ ⟨(blk_cell BK232.out 0).trans rfl, (blk_cell BK232.out 1).trans rfl, (blk_cell BK232.out 2).trans rfl, (blk_cell BK232.out 3).trans rfl, (blk_cell BK238.out 0).trans rfl, (blk_cell BK238.out 1).trans rfl, (blk_cell BK238.out 2).trans rfl, (blk_cell BK238.out 3).trans rfl⟩ (fun hHeld => ?_)
                clear hK K
                refine norm_ (a' := ?_) ?_ ?_
                rotate_left
                · show Act.put _ (some 40) _ = _
                  simp only [Act.put, List.setIfInBounds_toArray, List.set_cons_zero, List.set_cons_succ, i64_w, i32_w]
                  rfl
                refine pure_ (i := 4) (N := some 42) (v := ?_) (a' := ?_) #[true, true, true, true, true, false, false, false, false, false, false, false, false, false, false] rfl rfl (any_of HT_.out (by kernel_rfl)) (fun _ _ _ h => h) (Or.inl ⟨by rfl, ?_⟩) ?_ ?_
                rotate_left
                · intro w'
                  go_simp
                  with_reducible rfl
                rotate_left
                · simp only [Act.put, List.setIfInBounds_toArray, List.set_cons_zero, List.set_cons_succ, i64_w, i32_w]
                  rfl
                refine pure_ (i := 5) (N := some 43) (v := ?_) (a' := ?_) #[true, true, true, true, true, true, false, false, false, false, false, false, false, false, false] rfl rfl (any_of HT_.out (by kernel_rfl)) (fun _ _ _ h => h) (Or.inl ⟨by rfl, ?_⟩) ?_ ?_
                rotate_left
                · intro w'
                  go_simp
                  with_reducible rfl
                rotate_left
                · simp only [Act.put, List.setIfInBounds_toArray, List.set_cons_zero, List.set_cons_succ, i64_w, i32_w]
                  rfl
                refine pure_ (i := 7) (N := some 45) (v := ?_) (a' := ?_) #[true, true, true, true, true, true, false, true, false, false, false, false, false, false, false] rfl rfl (any_of HT_.out (by kernel_rfl)) (fun _ _ _ h => h) (Or.inl ⟨by rfl, ?_⟩) ?_ ?_
                rotate_left
                · intro w'
                  go_simp
                  with_reducible rfl
                rotate_left
                · simp only [Act.put, List.setIfInBounds_toArray, List.set_cons_zero, List.set_cons_succ, i64_w, i32_w]
                  rfl
                refine take_ (i := 6) (N := some 44) (v := ?_) (a' := ?_) #[true, true, true, true, true, true, true, true, false, false, false, false, false, false, false] rfl rfl (take_ofW HT_.out HW_.out (by kernel_rfl)) (fun _ _ _ h => h) (Or.inl ⟨by rfl, ?_⟩) hHeld ?_ ?_
                rotate_left
                · rintro w' ⟨s0, s1, s2, s3, s4, s5, s6, s7⟩
                  go_simp
                  with_reducible rfl
                rotate_left
                · simp only [Act.put, List.setIfInBounds_toArray, List.set_cons_zero, List.set_cons_succ, i64_w, i32_w]
                  rfl
                refine pure_ (i := 8) (N := some 46) (v := ?_) (a' := ?_) #[true, true, true, true, true, true, true, true, true, false, false, false, false, false, false] rfl rfl (any_of HT_.out (by kernel_rfl)) (fun _ _ _ h => h) (Or.inl ⟨by rfl, ?_⟩) ?_ ?_
                rotate_left
                · intro w'
                  go_simp
                  with_reducible rfl
                rotate_left
                · simp only [Act.put, List.setIfInBounds_toArray, List.set_cons_zero, List.set_cons_succ, i64_w, i32_w]
                  rfl
                refine pure_ (i := 9) (N := some 47) (v := ?_) (a' := ?_) #[true, true, true, true, true, true, true, true, true, true, false, false, false, false, false] rfl rfl (any_of HT_.out (by kernel_rfl)) (fun _ _ _ h => h) (Or.inl ⟨by rfl, ?_⟩) ?_ ?_
                rotate_left
                · intro w'
                  go_simp
                  with_reducible rfl
                rotate_left
                · simp only [Act.put, List.setIfInBounds_toArray, List.set_cons_zero, List.set_cons_succ, i64_w, i32_w]
                  rfl
                refine take_ (i := 10) (N := some 48) (v := ?_) (a' := ?_) #[true, true, true, true, true, true, true, true, true, true, true, false, false, false, false] rfl rfl (take_ofW HT_.out HW_.out (by kernel_rfl)) (fun _ _ _ h => h) (Or.inl ⟨by rfl, ?_⟩) hHeld ?_ ?_
                rotate_left
                · rintro w' ⟨s0, s1, s2, s3, s4, s5, s6, s7⟩
                  go_simp
                  with_reducible rfl
                rotate_left
                · simp only [Act.put, List.setIfInBounds_toArray, List.set_cons_zero, List.set_cons_succ, i64_w, i32_w]
                  rfl
                refine one_ (i := 11) (N := some 49) #[true, true, true, true, true, true, true, true, true, true, true, true, false, false, false] rfl rfl (one_of HT_.out (by kernel_rfl)) (by decide) (fun K hK => ?_)
                refine goes_ Try.func45 (by kernel_rfl) rfl #[.agg #[.int .i64 t234, .int .i64 t235, .int .i64 t236, .int .i64 t237]] (by rfl) rfl rfl (by (try simp only [List.map_toArray, List.map_cons, List.map_nil]); first | done | rfl | (simp only [List.length_drop, List.length_take]; rfl)) ?_
                with_reducible refine (impl_TotalValid.calls kj4 t234 t235 t236 t237 t252 _ A39.out).mono ?_
                rintro e w46 ⟨rfl, hb⟩
                refine ⟨_, rfl, ?_⟩
                have n0_ := Aside0.mk (blk_below (g := gb232) (o := .cells #[.int .i64 t224, .int .i64 t225, .int .i64 t226, .int .i64 t227] 34 (0, 0)) (by (with_reducible repeat (first | refine blk_drewN ?_ _ | refine blk_drew ?_ | refine blk_alloc ?_ _)); exact BK232.out) hb)
                have n1_ := Aside0.mk (blk_below (g := gb233) (o := .cells #[.int .i64 t228, .int .i64 t229, .int .i64 t230, .int .i64 t231] 34 (0, 0)) (by (with_reducible repeat (first | refine blk_drewN ?_ _ | refine blk_drew ?_ | refine blk_alloc ?_ _)); exact BK233.out) hb)
                have n2_ := Aside0.mk (blk_below (g := gb238) (o := .cells #[.int .i64 t234, .int .i64 t235, .int .i64 t236, .int .i64 t237] 34 (0, 0)) (by (with_reducible repeat (first | refine blk_drewN ?_ _ | refine blk_drew ?_ | refine blk_alloc ?_ _)); exact BK238.out) hb)
                have n3_ := Aside0.mk (below_step (by repeat (first | (with_reducible first | exact HB.out | apply below_alloc | apply pw_below_drewN | apply below_drew1 | refine below_set ?_ GE232.out | refine below_set ?_ GE233.out | refine below_set ?_ GE238.out) | exact HB.out)) hb)
                clear BK232
                clear BK233
                clear BK238
                clear HB
                have BK232 := n0_
                have BK233 := n1_
                have BK238 := n2_
                have HB := n3_
                clear n0_ n1_ n2_ n3_
                (try clear hb)
                (try clear hb2)
                (try clear hk)
                (try clear hi)
                refine hK.out _ _ ⟨(blk_cell BK232.out 0).trans rfl, (blk_cell BK232.out 1).trans rfl, (blk_cell BK232.out 2).trans rfl, (blk_cell BK232.out 3).trans rfl, (blk_cell BK238.out 0).trans rfl, (blk_cell BK238.out 1).trans rfl, (blk_cell BK238.out 2).trans rfl, (blk_cell BK238.out 3).trans rfl⟩ (fun hHeld => ?_)
                clear hK K
                refine norm_ (a' := ?_) ?_ ?_
                rotate_left
                · show Act.put _ (some 49) _ = _
                  simp only [Act.put, List.setIfInBounds_toArray, List.set_cons_zero, List.set_cons_succ, i64_w, i32_w]
                  rfl
                refine pure_ (i := 12) (N := some 50) (v := ?_) (a' := ?_) #[true, true, true, true, true, true, true, true, true, true, true, true, true, false, false] rfl rfl (any_of HT_.out (by kernel_rfl)) (fun _ _ _ h => h) (Or.inl ⟨by rfl, ?_⟩) ?_ ?_
                rotate_left
                · intro w'
                  go_simp
                  with_reducible rfl
                rotate_left
                · simp only [Act.put, List.setIfInBounds_toArray, List.set_cons_zero, List.set_cons_succ, i64_w, i32_w]
                  rfl
                refine pure_ (i := 13) (N := some 51) (v := ?_) (a' := ?_) #[true, true, true, true, true, true, true, true, true, true, true, true, true, true, false] rfl rfl (any_of HT_.out (by kernel_rfl)) (fun _ _ _ h => h) (Or.inl ⟨by rfl, ?_⟩) ?_ ?_
                rotate_left
                · intro w'
                  go_simp
                  with_reducible rfl
                rotate_left
                · simp only [Act.put, List.setIfInBounds_toArray, List.set_cons_zero, List.set_cons_succ, i64_w, i32_w]
                  rfl
                refine pure_ (i := 14) (N := some 2) (v := ?_) (a' := ?_) #[true, true, true, true, true, true, true, true, true, true, true, true, true, true, true] rfl rfl (any_of HT_.out (by kernel_rfl)) (fun _ _ _ h => h) (Or.inl ⟨by rfl, ?_⟩) ?_ ?_
                rotate_left
                · intro w'
                  go_simp
                  with_reducible rfl
                rotate_left
                · simp only [Act.put, List.setIfInBounds_toArray, List.set_cons_zero, List.set_cons_succ, i64_w, i32_w]
                  rfl
                refine done_ (done_of HT_.out (by kernel_rfl)) ?_
                try go_wp2
                go_ret
                exact ⟨by first | rfl | (simp [errW_none, errW_some] <;> rfl) | (simp [*, errW_none, errW_some] <;> rfl), by repeat (first | (with_reducible first | exact HB.out | apply below_alloc | apply pw_below_drewN | apply below_drew1 | refine below_set ?_ GE232.out | refine below_set ?_ GE233.out | refine below_set ?_ GE238.out) | exact HB.out)⟩
            · rw [if_neg c31] at H
              have c31b0 : (t248 == t224 && (t249 == t225 && (t250 == t226 && (t251 == t227)))) = false := by simpa using c31
              (try (have c31b1 : decide (t248 = t224 && (t249 == t225 && (t250 == t226 && (t251 == t227)))) = false := by simpa using c31))
              (try (have c31b2 : (t248 == t224 && (t249 == t225 && (t250 == t226 && (t251 == t227)))) = false := by simpa using c31))
              (try (have c31b3 : ¬ (t248 = t224 && (t249 == t225 && (t250 == t226 && (t251 == t227)))) := by simpa using c31))
              clear c31
              obtain rfl := Option.some.inj H
              have hnb47 := NB232_233.out
              have hnc47 := NB233_232.out
              have hnb48 := NB232_238.out
              have hnc48 := NB238_232.out
              have hcz49_0 : wc.cell? ⟨gb232, 0, none⟩ = some (.int .i64 t224) := (blk_cell BK232.out 0).trans rfl
              have hcz49_1 : wc.cell? ⟨gb232, 1, none⟩ = some (.int .i64 t225) := (blk_cell BK232.out 1).trans rfl
              have hcz49_2 : wc.cell? ⟨gb232, 2, none⟩ = some (.int .i64 t226) := (blk_cell BK232.out 2).trans rfl
              have hcz49_3 : wc.cell? ⟨gb232, 3, none⟩ = some (.int .i64 t227) := (blk_cell BK232.out 3).trans rfl
              have hfz49_0 := blk_frozen BK232.out 0
              have hfz49_1 := blk_frozen BK232.out 1
              have hfz49_2 := blk_frozen BK232.out 2
              have hfz49_3 := blk_frozen BK232.out 3
              try go_wp2_with (first | ((with_reducible refine gate_callee (f := 46) rfl ?_); refine goesL_ (some 30) rfl rfl Try.func46 (by kernel_rfl) rfl #[.agg #[.int .i64 t224, .int .i64 t225, .int .i64 t226, .int .i64 t227]] rfl (by (try simp only [List.map_toArray, List.map_cons, List.map_nil]); first | done | rfl | (simp only [List.length_drop, List.length_take]; rfl)) ?_; (with_reducible refine (spec_TotalValid.calls t224 t225 t226 t227 true _ A28.out).mono ?_); rintro e w50 ⟨rfl, hb⟩; refine ⟨_, rfl, ?_⟩; have n0_ := Aside0.mk (blk_below (g := gb232) (o := .cells #[.int .i64 t224, .int .i64 t225, .int .i64 t226, .int .i64 t227] 34 (0, 0)) (by (with_reducible repeat (first | refine blk_drewN ?_ _ | refine blk_drew ?_ | refine blk_alloc ?_ _)); exact BK232.out) hb); have n1_ := Aside0.mk (blk_below (g := gb233) (o := .cells #[.int .i64 t228, .int .i64 t229, .int .i64 t230, .int .i64 t231] 34 (0, 0)) (by (with_reducible repeat (first | refine blk_drewN ?_ _ | refine blk_drew ?_ | refine blk_alloc ?_ _)); exact BK233.out) hb); have n2_ := Aside0.mk (blk_below (g := gb238) (o := .cells #[.int .i64 t234, .int .i64 t235, .int .i64 t236, .int .i64 t237] 34 (0, 0)) (by (with_reducible repeat (first | refine blk_drewN ?_ _ | refine blk_drew ?_ | refine blk_alloc ?_ _)); exact BK238.out) hb); have n3_ := Aside0.mk (below_step (by repeat (first | (with_reducible first | exact HB.out | apply below_alloc | apply pw_below_drewN | apply below_drew1 | refine below_set ?_ GE232.out | refine below_set ?_ GE233.out | refine below_set ?_ GE238.out) | exact HB.out)) hb); clear BK232; clear BK233; clear BK238; clear HB; have BK232 := n0_; have BK233 := n1_; have BK238 := n2_; have HB := n3_; clear n0_ n1_ n2_ n3_; (try clear hb); (try clear hb2); (try clear hk); (try clear hi)))
              have n0_ := Aside0.mk (blk_drew BK232.out)
              have n1_ := Aside0.mk (blk_drew BK233.out)
              have n2_ := Aside0.mk (blk_drew BK238.out)
              have n3_ := Aside0.mk (below_drew1 HB.out)
              clear BK232
              clear BK233
              clear BK238
              clear HB
              have BK232 := n0_
              have BK233 := n1_
              have BK238 := n2_
              have HB := n3_
              clear n0_ n1_ n2_ n3_
              refine start_ (n := 15) (S := fun w' => w'.cell? ⟨gb232, 0, none⟩ = some (.int .i64 t224) ∧ w'.cell? ⟨gb232, 1, none⟩ = some (.int .i64 t225) ∧ w'.cell? ⟨gb232, 2, none⟩ = some (.int .i64 t226) ∧ w'.cell? ⟨gb232, 3, none⟩ = some (.int .i64 t227)) (ds := []) #[false, false, false, false, false, false, false, false, false, false, false, false, false, false, false] (by kernel_rfl) rfl rfl ⟨(blk_cell BK232.out 0).trans rfl, (blk_cell BK232.out 1).trans rfl, (blk_cell BK232.out 2).trans rfl, (blk_cell BK232.out 3).trans rfl⟩ (fun hHeld => ?_); refine with_tabW laws_FnJoinTotals.tab9 laws_FnJoinTotals.bits9 (fun HT_ HW_ => ?_)
              generalize w50.drew = w51 at BK232 BK233 BK238 HB hHeld ⊢
              refine pure_ (i := 1) (N := some 39) (v := ?_) (a' := ?_) #[false, true, false, false, false, false, false, false, false, false, false, false, false, false, false] rfl rfl (any_of HT_.out (by kernel_rfl)) (fun _ _ _ h => h) (Or.inl ⟨by rfl, ?_⟩) ?_ ?_
              rotate_left
              · intro w'
                go_simp
                with_reducible rfl
              rotate_left
              · simp only [Act.put, List.setIfInBounds_toArray, List.set_cons_zero, List.set_cons_succ, i64_w, i32_w]
                rfl
              refine take_ (i := 0) (N := some 38) (v := ?_) (a' := ?_) #[true, true, false, false, false, false, false, false, false, false, false, false, false, false, false] rfl rfl (take_ofW HT_.out HW_.out (by kernel_rfl)) (fun _ _ _ h => h) (Or.inl ⟨by rfl, ?_⟩) hHeld ?_ ?_
              rotate_left
              · rintro w' ⟨s0, s1, s2, s3⟩
                go_simp
                with_reducible rfl
              rotate_left
              · simp only [Act.put, List.setIfInBounds_toArray, List.set_cons_zero, List.set_cons_succ, i64_w, i32_w]
                rfl
              refine take_ (i := 3) (N := some 41) (v := ?_) (a' := ?_) #[true, true, false, true, false, false, false, false, false, false, false, false, false, false, false] rfl rfl (take_ofW HT_.out HW_.out (by kernel_rfl)) (fun _ _ _ h => h) (Or.inl ⟨by rfl, ?_⟩) hHeld ?_ ?_
              rotate_left
              · rintro w' ⟨s0, s1, s2, s3⟩
                go_simp
                with_reducible rfl
              rotate_left
              · simp only [Act.put, List.setIfInBounds_toArray, List.set_cons_zero, List.set_cons_succ, i64_w, i32_w]
                rfl
              refine one_ (i := 2) (N := some 40) #[true, true, true, true, false, false, false, false, false, false, false, false, false, false, false] rfl rfl (one_of HT_.out (by kernel_rfl)) (by decide) (fun K hK => ?_)
              refine goes_ Try.func57 (by kernel_rfl) rfl #[.agg #[.int .i64 t224, .int .i64 t225, .int .i64 t226, .int .i64 t227], .agg #[.int .i64 0, .int .i64 0, .int .i64 (-1), .int .i64 (-1)]] (by rfl) rfl rfl (by (try simp only [List.map_toArray, List.map_cons, List.map_nil]); first | done | rfl | (simp only [List.length_drop, List.length_take]; rfl)) ?_
              with_reducible refine (impl_JoinTotals.calls kj4 t224 t225 t226 t227 0 0 (-1) (-1) t248 t249 t250 t251 _ A30.out).mono ?_
              rintro e w52 ⟨rfl, hb⟩
              refine ⟨_, rfl, ?_⟩
              have n0_ := Aside0.mk (blk_below (g := gb232) (o := .cells #[.int .i64 t224, .int .i64 t225, .int .i64 t226, .int .i64 t227] 34 (0, 0)) (by (with_reducible repeat (first | refine blk_drewN ?_ _ | refine blk_drew ?_ | refine blk_alloc ?_ _)); exact BK232.out) hb)
              have n1_ := Aside0.mk (blk_below (g := gb233) (o := .cells #[.int .i64 t228, .int .i64 t229, .int .i64 t230, .int .i64 t231] 34 (0, 0)) (by (with_reducible repeat (first | refine blk_drewN ?_ _ | refine blk_drew ?_ | refine blk_alloc ?_ _)); exact BK233.out) hb)
              have n2_ := Aside0.mk (blk_below (g := gb238) (o := .cells #[.int .i64 t234, .int .i64 t235, .int .i64 t236, .int .i64 t237] 34 (0, 0)) (by (with_reducible repeat (first | refine blk_drewN ?_ _ | refine blk_drew ?_ | refine blk_alloc ?_ _)); exact BK238.out) hb)
              have n3_ := Aside0.mk (below_step (by repeat (first | (with_reducible first | exact HB.out | apply below_alloc | apply pw_below_drewN | apply below_drew1 | refine below_set ?_ GE232.out | refine below_set ?_ GE233.out | refine below_set ?_ GE238.out) | exact HB.out)) hb)
              clear BK232
              clear BK233
              clear BK238
              clear HB
              have BK232 := n0_
              have BK233 := n1_
              have BK238 := n2_
              have HB := n3_
              clear n0_ n1_ n2_ n3_
              (try clear hb)
              (try clear hb2)
              (try clear hk)
              (try clear hi)
              refine hK.out _ _ ⟨(blk_cell BK232.out 0).trans rfl, (blk_cell BK232.out 1).trans rfl, (blk_cell BK232.out 2).trans rfl, (blk_cell BK232.out 3).trans rfl⟩ (fun hHeld => ?_)
              clear hK K
              refine norm_ (a' := ?_) ?_ ?_
              rotate_left
              · show Act.put _ (some 40) _ = _
                simp only [Act.put, List.setIfInBounds_toArray, List.set_cons_zero, List.set_cons_succ, i64_w, i32_w]
                rfl
              refine pure_ (i := 4) (N := some 42) (v := ?_) (a' := ?_) #[true, true, true, true, true, false, false, false, false, false, false, false, false, false, false] rfl rfl (any_of HT_.out (by kernel_rfl)) (fun _ _ _ h => h) (Or.inl ⟨by rfl, ?_⟩) ?_ ?_
              rotate_left
              · intro w'
                go_simp
                with_reducible rfl
              rotate_left
              · simp only [Act.put, List.setIfInBounds_toArray, List.set_cons_zero, List.set_cons_succ, i64_w, i32_w]
                rfl
              refine pure_ (i := 5) (N := some 43) (v := ?_) (a' := ?_) #[true, true, true, true, true, true, false, false, false, false, false, false, false, false, false] rfl rfl (any_of HT_.out (by kernel_rfl)) (fun _ _ _ h => h) (Or.inl ⟨by rfl, ?_⟩) ?_ ?_
              rotate_left
              · intro w'
                go_simp
                with_reducible rfl
              rotate_left
              · simp only [Act.put, List.setIfInBounds_toArray, List.set_cons_zero, List.set_cons_succ, i64_w, i32_w]
                rfl
              refine pure_ (i := 6) (N := some 44) (v := undef) (a' := ?_) #[true, true, true, true, true, true, true, false, false, false, false, false, false, false, false] rfl rfl (any_of HT_.out (by kernel_rfl)) (fun _ _ _ h => h) (Or.inr ⟨by rfl, rfl⟩) ?_ ?_
              rotate_left
              · simp only [Act.put, List.setIfInBounds_toArray, List.set_cons_zero, List.set_cons_succ, i64_w, i32_w]
                rfl
              refine pure_ (i := 7) (N := some 45) (v := undef) (a' := ?_) #[true, true, true, true, true, true, true, true, false, false, false, false, false, false, false] rfl rfl (any_of HT_.out (by kernel_rfl)) (fun _ _ _ h => h) (Or.inr ⟨by rfl, rfl⟩) ?_ ?_
              rotate_left
              · simp only [Act.put, List.setIfInBounds_toArray, List.set_cons_zero, List.set_cons_succ, i64_w, i32_w]
                rfl
              refine pure_ (i := 8) (N := some 46) (v := undef) (a' := ?_) #[true, true, true, true, true, true, true, true, true, false, false, false, false, false, false] rfl rfl (any_of HT_.out (by kernel_rfl)) (fun _ _ _ h => h) (Or.inr ⟨by rfl, rfl⟩) ?_ ?_
              rotate_left
              · simp only [Act.put, List.setIfInBounds_toArray, List.set_cons_zero, List.set_cons_succ, i64_w, i32_w]
                rfl
              refine pure_ (i := 9) (N := some 47) (v := undef) (a' := ?_) #[true, true, true, true, true, true, true, true, true, true, false, false, false, false, false] rfl rfl (any_of HT_.out (by kernel_rfl)) (fun _ _ _ h => h) (Or.inr ⟨by rfl, rfl⟩) ?_ ?_
              rotate_left
              · simp only [Act.put, List.setIfInBounds_toArray, List.set_cons_zero, List.set_cons_succ, i64_w, i32_w]
                rfl
              refine pure_ (i := 10) (N := some 48) (v := undef) (a' := ?_) #[true, true, true, true, true, true, true, true, true, true, true, false, false, false, false] rfl rfl (any_of HT_.out (by kernel_rfl)) (fun _ _ _ h => h) (Or.inr ⟨by rfl, rfl⟩) ?_ ?_
              rotate_left
              · simp only [Act.put, List.setIfInBounds_toArray, List.set_cons_zero, List.set_cons_succ, i64_w, i32_w]
                rfl
              refine pure_ (i := 11) (N := some 49) (v := undef) (a' := ?_) #[true, true, true, true, true, true, true, true, true, true, true, true, false, false, false] rfl rfl (any_of HT_.out (by kernel_rfl)) (fun _ _ _ h => h) (Or.inr ⟨by rfl, rfl⟩) ?_ ?_
              rotate_left
              · simp only [Act.put, List.setIfInBounds_toArray, List.set_cons_zero, List.set_cons_succ, i64_w, i32_w]
                rfl
              refine pure_ (i := 12) (N := some 50) (v := undef) (a' := ?_) #[true, true, true, true, true, true, true, true, true, true, true, true, true, false, false] rfl rfl (any_of HT_.out (by kernel_rfl)) (fun _ _ _ h => h) (Or.inr ⟨by rfl, rfl⟩) ?_ ?_
              rotate_left
              · simp only [Act.put, List.setIfInBounds_toArray, List.set_cons_zero, List.set_cons_succ, i64_w, i32_w]
                rfl
              refine pure_ (i := 13) (N := some 51) (v := ?_) (a' := ?_) #[true, true, true, true, true, true, true, true, true, true, true, true, true, true, false] rfl rfl (any_of HT_.out (by kernel_rfl)) (fun _ _ _ h => h) (Or.inl ⟨by rfl, ?_⟩) ?_ ?_
              rotate_left
              · intro w'
                go_simp
                with_reducible rfl
              rotate_left
              · simp only [Act.put, List.setIfInBounds_toArray, List.set_cons_zero, List.set_cons_succ, i64_w, i32_w]
                rfl
              refine pure_ (i := 14) (N := some 2) (v := ?_) (a' := ?_) #[true, true, true, true, true, true, true, true, true, true, true, true, true, true, true] rfl rfl (any_of HT_.out (by kernel_rfl)) (fun _ _ _ h => h) (Or.inl ⟨by rfl, ?_⟩) ?_ ?_
              rotate_left
              · intro w'
                go_simp
                with_reducible rfl
              rotate_left
              · simp only [Act.put, List.setIfInBounds_toArray, List.set_cons_zero, List.set_cons_succ, i64_w, i32_w]
                rfl
              refine done_ (done_of HT_.out (by kernel_rfl)) ?_
              try go_wp2
              go_ret
              exact ⟨by first | rfl | (simp [errW_none, errW_some] <;> rfl) | (simp [*, errW_none, errW_some] <;> rfl), by repeat (first | (with_reducible first | exact HB.out | apply below_alloc | apply pw_below_drewN | apply below_drew1 | refine below_set ?_ GE232.out | refine below_set ?_ GE233.out | refine below_set ?_ GE238.out) | exact HB.out)⟩
          · replace c29 := Bool.eq_false_iff.mpr c29
            subst c29
            have H1 : (if (t234 == 0 && (t235 == 0 && (t236 == 0 && (t237 == 0)))) = true then ((laws_alive.f kj4).bind fun t253 => (some t253)) else (some false)) = some r := by rw [if_neg (show ¬ (false = true) by decide)] at H; exact H
            clear H
            have H := H1
            clear H1
            by_cases c53 : (t234 == 0 && (t235 == 0 && (t236 == 0 && (t237 == 0)))) = true
            · rw [if_pos c53] at H
              have c53b0 : (t234 == 0 && (t235 == 0 && (t236 == 0 && (t237 == 0)))) = true := c53
              (try (have c53b1 : decide (t234 = 0 && (t235 == 0 && (t236 == 0 && (t237 == 0)))) = true := by simpa using c53))
              (try (have c53b2 : (t234 == 0 && (t235 == 0 && (t236 == 0 && (t237 == 0)))) = true := by simpa using c53))
              clear c53
              replace H := Option.bind_eq_some_iff.mp H
              obtain ⟨t253, A540, H⟩ := H
              replace H : (some t253) = some r := H
              have A54 := Aside0.mk A540
              clear A540
              obtain rfl := Option.some.inj H
              have hnb55 := NB232_233.out
              have hnc55 := NB233_232.out
              have hnb56 := NB232_238.out
              have hnc56 := NB238_232.out
              have hcz57_0 : wc.cell? ⟨gb232, 0, none⟩ = some (.int .i64 t224) := (blk_cell BK232.out 0).trans rfl
              have hcz57_1 : wc.cell? ⟨gb232, 1, none⟩ = some (.int .i64 t225) := (blk_cell BK232.out 1).trans rfl
              have hcz57_2 : wc.cell? ⟨gb232, 2, none⟩ = some (.int .i64 t226) := (blk_cell BK232.out 2).trans rfl
              have hcz57_3 : wc.cell? ⟨gb232, 3, none⟩ = some (.int .i64 t227) := (blk_cell BK232.out 3).trans rfl
              have hfz57_0 := blk_frozen BK232.out 0
              have hfz57_1 := blk_frozen BK232.out 1
              have hfz57_2 := blk_frozen BK232.out 2
              have hfz57_3 := blk_frozen BK232.out 3
              go_wp2_with (first | ((with_reducible refine gate_callee (f := 46) rfl ?_); refine goesL_ (some 30) rfl rfl Try.func46 (by kernel_rfl) rfl #[.agg #[.int .i64 t224, .int .i64 t225, .int .i64 t226, .int .i64 t227]] rfl (by (try simp only [List.map_toArray, List.map_cons, List.map_nil]); first | done | rfl | (simp only [List.length_drop, List.length_take]; rfl)) ?_; (with_reducible refine (spec_TotalValid.calls t224 t225 t226 t227 false _ A28.out).mono ?_); rintro e w58 ⟨rfl, hb⟩; refine ⟨_, rfl, ?_⟩; have n0_ := Aside0.mk (blk_below (g := gb232) (o := .cells #[.int .i64 t224, .int .i64 t225, .int .i64 t226, .int .i64 t227] 34 (0, 0)) (by (with_reducible repeat (first | refine blk_drewN ?_ _ | refine blk_drew ?_ | refine blk_alloc ?_ _)); exact BK232.out) hb); have n1_ := Aside0.mk (blk_below (g := gb233) (o := .cells #[.int .i64 t228, .int .i64 t229, .int .i64 t230, .int .i64 t231] 34 (0, 0)) (by (with_reducible repeat (first | refine blk_drewN ?_ _ | refine blk_drew ?_ | refine blk_alloc ?_ _)); exact BK233.out) hb); have n2_ := Aside0.mk (blk_below (g := gb238) (o := .cells #[.int .i64 t234, .int .i64 t235, .int .i64 t236, .int .i64 t237] 34 (0, 0)) (by (with_reducible repeat (first | refine blk_drewN ?_ _ | refine blk_drew ?_ | refine blk_alloc ?_ _)); exact BK238.out) hb); have n3_ := Aside0.mk (below_step (by repeat (first | (with_reducible first | exact HB.out | apply below_alloc | apply pw_below_drewN | apply below_drew1 | refine below_set ?_ GE232.out | refine below_set ?_ GE233.out | refine below_set ?_ GE238.out) | exact HB.out)) hb); clear BK232; clear BK233; clear BK238; clear HB; have BK232 := n0_; have BK233 := n1_; have BK238 := n2_; have HB := n3_; clear n0_ n1_ n2_ n3_; (try clear hb); (try clear hb2); (try clear hk); (try clear hi); have hnb59 := NB238_233.out; have hnc59 := NB233_238.out; have hcz60_0 : w58.cell? ⟨gb238, 0, none⟩ = some (.int .i64 t234) := (blk_cell BK238.out 0).trans rfl; have hcz60_1 : w58.cell? ⟨gb238, 1, none⟩ = some (.int .i64 t235) := (blk_cell BK238.out 1).trans rfl; have hcz60_2 : w58.cell? ⟨gb238, 2, none⟩ = some (.int .i64 t236) := (blk_cell BK238.out 2).trans rfl; have hcz60_3 : w58.cell? ⟨gb238, 3, none⟩ = some (.int .i64 t237) := (blk_cell BK238.out 3).trans rfl; have hfz60_0 := blk_frozen BK238.out 0; have hfz60_1 := blk_frozen BK238.out 1; have hfz60_2 := blk_frozen BK238.out 2; have hfz60_3 := blk_frozen BK238.out 3) | (go_at_call 18; (with_reducible refine (laws_alive.calls kj4  t253 _ A54.out).mono ?_); rintro e w61 ⟨rfl, hb⟩; have n0_ := Aside0.mk (blk_below (g := gb232) (o := .cells #[.int .i64 t224, .int .i64 t225, .int .i64 t226, .int .i64 t227] 34 (0, 0)) (by (with_reducible repeat (first | refine blk_drewN ?_ _ | refine blk_drew ?_ | refine blk_alloc ?_ _)); exact BK232.out) hb); have n1_ := Aside0.mk (blk_below (g := gb233) (o := .cells #[.int .i64 t228, .int .i64 t229, .int .i64 t230, .int .i64 t231] 34 (0, 0)) (by (with_reducible repeat (first | refine blk_drewN ?_ _ | refine blk_drew ?_ | refine blk_alloc ?_ _)); exact BK233.out) hb); have n2_ := Aside0.mk (blk_below (g := gb238) (o := .cells #[.int .i64 t234, .int .i64 t235, .int .i64 t236, .int .i64 t237] 34 (0, 0)) (by (with_reducible repeat (first | refine blk_drewN ?_ _ | refine blk_drew ?_ | refine blk_alloc ?_ _)); exact BK238.out) hb); have n3_ := Aside0.mk (below_step (by repeat (first | (with_reducible first | exact HB.out | apply below_alloc | apply pw_below_drewN | apply below_drew1 | refine below_set ?_ GE232.out | refine below_set ?_ GE233.out | refine below_set ?_ GE238.out) | exact HB.out)) hb); clear BK232; clear BK233; clear BK238; clear HB; have BK232 := n0_; have BK233 := n1_; have BK238 := n2_; have HB := n3_; clear n0_ n1_ n2_ n3_; (try clear hb); (try clear hb2); (try clear hk); (try clear hi)))
              go_ret
              exact ⟨by first | rfl | (simp [errW_none, errW_some] <;> rfl) | (simp [*, errW_none, errW_some] <;> rfl), by repeat (first | (with_reducible first | exact HB.out | apply below_alloc | apply pw_below_drewN | apply below_drew1 | refine below_set ?_ GE232.out | refine below_set ?_ GE233.out | refine below_set ?_ GE238.out) | exact HB.out)⟩
            · rw [if_neg c53] at H
              have c53b0 : (t234 == 0 && (t235 == 0 && (t236 == 0 && (t237 == 0)))) = false := by simpa using c53
              (try (have c53b1 : decide (t234 = 0 && (t235 == 0 && (t236 == 0 && (t237 == 0)))) = false := by simpa using c53))
              (try (have c53b2 : (t234 == 0 && (t235 == 0 && (t236 == 0 && (t237 == 0)))) = false := by simpa using c53))
              (try (have c53b3 : ¬ (t234 = 0 && (t235 == 0 && (t236 == 0 && (t237 == 0)))) := by simpa using c53))
              clear c53
              obtain rfl := Option.some.inj H
              have hnb62 := NB232_233.out
              have hnc62 := NB233_232.out
              have hnb63 := NB232_238.out
              have hnc63 := NB238_232.out
              have hcz64_0 : wc.cell? ⟨gb232, 0, none⟩ = some (.int .i64 t224) := (blk_cell BK232.out 0).trans rfl
              have hcz64_1 : wc.cell? ⟨gb232, 1, none⟩ = some (.int .i64 t225) := (blk_cell BK232.out 1).trans rfl
              have hcz64_2 : wc.cell? ⟨gb232, 2, none⟩ = some (.int .i64 t226) := (blk_cell BK232.out 2).trans rfl
              have hcz64_3 : wc.cell? ⟨gb232, 3, none⟩ = some (.int .i64 t227) := (blk_cell BK232.out 3).trans rfl
              have hfz64_0 := blk_frozen BK232.out 0
              have hfz64_1 := blk_frozen BK232.out 1
              have hfz64_2 := blk_frozen BK232.out 2
              have hfz64_3 := blk_frozen BK232.out 3
              go_wp2_with (first | ((with_reducible refine gate_callee (f := 46) rfl ?_); refine goesL_ (some 30) rfl rfl Try.func46 (by kernel_rfl) rfl #[.agg #[.int .i64 t224, .int .i64 t225, .int .i64 t226, .int .i64 t227]] rfl (by (try simp only [List.map_toArray, List.map_cons, List.map_nil]); first | done | rfl | (simp only [List.length_drop, List.length_take]; rfl)) ?_; (with_reducible refine (spec_TotalValid.calls t224 t225 t226 t227 false _ A28.out).mono ?_); rintro e w65 ⟨rfl, hb⟩; refine ⟨_, rfl, ?_⟩; have n0_ := Aside0.mk (blk_below (g := gb232) (o := .cells #[.int .i64 t224, .int .i64 t225, .int .i64 t226, .int .i64 t227] 34 (0, 0)) (by (with_reducible repeat (first | refine blk_drewN ?_ _ | refine blk_drew ?_ | refine blk_alloc ?_ _)); exact BK232.out) hb); have n1_ := Aside0.mk (blk_below (g := gb233) (o := .cells #[.int .i64 t228, .int .i64 t229, .int .i64 t230, .int .i64 t231] 34 (0, 0)) (by (with_reducible repeat (first | refine blk_drewN ?_ _ | refine blk_drew ?_ | refine blk_alloc ?_ _)); exact BK233.out) hb); have n2_ := Aside0.mk (blk_below (g := gb238) (o := .cells #[.int .i64 t234, .int .i64 t235, .int .i64 t236, .int .i64 t237] 34 (0, 0)) (by (with_reducible repeat (first | refine blk_drewN ?_ _ | refine blk_drew ?_ | refine blk_alloc ?_ _)); exact BK238.out) hb); have n3_ := Aside0.mk (below_step (by repeat (first | (with_reducible first | exact HB.out | apply below_alloc | apply pw_below_drewN | apply below_drew1 | refine below_set ?_ GE232.out | refine below_set ?_ GE233.out | refine below_set ?_ GE238.out) | exact HB.out)) hb); clear BK232; clear BK233; clear BK238; clear HB; have BK232 := n0_; have BK233 := n1_; have BK238 := n2_; have HB := n3_; clear n0_ n1_ n2_ n3_; (try clear hb); (try clear hb2); (try clear hk); (try clear hi); have hnb66 := NB238_233.out; have hnc66 := NB233_238.out; have hcz67_0 : w65.cell? ⟨gb238, 0, none⟩ = some (.int .i64 t234) := (blk_cell BK238.out 0).trans rfl; have hcz67_1 : w65.cell? ⟨gb238, 1, none⟩ = some (.int .i64 t235) := (blk_cell BK238.out 1).trans rfl; have hcz67_2 : w65.cell? ⟨gb238, 2, none⟩ = some (.int .i64 t236) := (blk_cell BK238.out 2).trans rfl; have hcz67_3 : w65.cell? ⟨gb238, 3, none⟩ = some (.int .i64 t237) := (blk_cell BK238.out 3).trans rfl; have hfz67_0 := blk_frozen BK238.out 0; have hfz67_1 := blk_frozen BK238.out 1; have hfz67_2 := blk_frozen BK238.out 2; have hfz67_3 := blk_frozen BK238.out 3))
              go_ret
              exact ⟨by first | rfl | (simp [errW_none, errW_some] <;> rfl) | (simp [*, errW_none, errW_some] <;> rfl), by repeat (first | (with_reducible first | exact HB.out | apply below_alloc | apply pw_below_drewN | apply below_drew1 | refine below_set ?_ GE232.out | refine below_set ?_ GE233.out | refine below_set ?_ GE238.out) | exact HB.out)⟩

/-- THE ONE PURE STATEMENT of laws_FnJoinTotals: yours. -/
def laws_FnJoinTotals.Pure : Prop := ∀ (l0 : List Int), l0.length ≤ maxLen → l0.length * 1 ≤ 140737488351232 → (∀ x ∈ l0, (Lit.int .u8 x).wf = true) → ∃ k, laws_FnJoinTotals.f k l0 = some true
theorem laws_FnJoinTotals.walk (P : laws_FnJoinTotals.Pure) (a0 : Option Addr) (len0 cap0 : Nat) (z0 : List Int) (w : World) (w0 : (a0 = none ∧ len0 = 0 ∧ cap0 = 0 ∧ z0 = []) ∨ ∃ x, a0 = some x ∧ len0 ≤ cap0 ∧ cap0 ≤ maxLen ∧ z0.length = cap0 ∧ (∀ i, i < z0.length → w.cell? (x.add i) = some (.int .u8 (z0.getD i 0))) ∧ ∀ n ∈ z0, (Lit.int .u8 n).wf = true) (y0 : len0 * 1 ≤ 140737488351232) :
    Calls Try.prog 13 #[.slice a0 len0 cap0] w fun e w' => e = .returned (.bool true) ∧ Below w.heap.size w w' := by
  obtain ⟨l0, rfl, hr0, hm0, hw0, hc0⟩ := ReadsInt.ofRowC w0
  obtain ⟨k, h⟩ := P l0 hm0 y0 hw0
  refine (laws_FnJoinTotals.calls k _ _ l0 true w (Kd.C_of_reads (d := (0 : Int)) (h1 := fun _ => rfl) hr0) hc0 h).mono ?_
  rintro e w' ⟨rfl, hd⟩
  exact ⟨rfl, hd⟩

end Go.Proofs.Ytloiafnoekpaoaa.PFnJoinTotals
