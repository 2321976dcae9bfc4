/- Laid by a program of this session out of the translation: functions, their contracts, the row. Lean checks it. -/
import Derived.Test.YtloiafnoekpaoaaPFnMovedVerticesx0
import Derived.Test.YtloiafnoekpaoaaPFnMovedVerticesx1
namespace Go.Proofs.Ytloiafnoekpaoaa.PFnMovedVertices
open Go.RowKit Go.Proofs.YtloiafnoekpaoaaW.PrintWords Go.Proofs.YtloiafnoekpaoaaW.PrintLast Go.Proofs.YtloiafnoekpaoaaW.PrintMore
attribute [local go_sem] max2_int min2_int max_two min_two max_three min_three max_four min_four   -- for this text's walks alone
set_option linter.unusedVariables false
set_option linter.unusedSimpArgs false

/-! ### spec_l20Workers: function 75 -/
def spec_l20Workers.f (k : Nat) (s0_0 : List Int) (s0_1 : Int) (a1 : Int) : Option (Int × Int) := (spec_l20Rd_odd.f k s0_0 s0_1 a1).bind fun bt118 => (if bt118.1 = true then ((some (([0, 7, (-1)] : List Int) : List Int)).bind fun y120 => ((spec_l20Rd_pick.f k s0_0 bt118.2 3).bind fun bt123 => (if 0 ≤ bt123.1 then (if bt123.1 < (y120.length : Int) then (some (rd y120 bt123.1, bt123.2)) else (none)) else (none)))) else ((spec_l20Rd_pick.f k s0_0 bt118.2 6).bind fun bt126 => (some (wrap64 (1 + bt126.1), bt126.2))))
theorem spec_l20Workers.mono : ∀ a0 a1 a2 k, LeO (spec_l20Workers.f k a0 a1 a2) (spec_l20Workers.f (k + 1) a0 a1 a2) := by
  intro a0 a1 a2 k
  unfold spec_l20Workers.f
  repeat' first
      | (with_reducible exact spec_l20Rd_odd.mono _ _ _ _)
      | (with_reducible exact spec_l20Rd_pick.mono _ _ _ _)
      | (with_reducible exact LeO.refl _)
      | (with_reducible exact LeO.none _)
      | (with_reducible refine LeO.ite ?_ ?_)
      | (with_reducible refine LeO.bind ?_ (fun _ => ?_))
      | exact spec_l20Rd_odd.mono _ _ _ _
      | exact spec_l20Rd_pick.mono _ _ _ _
      | exact LeO.none _
      | refine LeO.ite ?_ ?_
      | refine LeO.bind ?_ (fun _ => ?_)
set_option maxHeartbeats 8000000 in
set_option maxRecDepth 100000 in
theorem spec_l20Workers.calls (k : Nat) (g : Nat) (s0_0 : List Int) (s0_1 : Int) (a1 : Int) (r1 : Int) (r2 : Int) (w0 w : World) (hI : IsS113 w0 w g s0_0 s0_1) (hB : Below w0.heap.size w0 w) (h : spec_l20Workers.f k s0_0 s0_1 a1 = some (r1, r2)) :
    Calls Try.prog 75 #[.pointer (some ⟨g, 0, none⟩), .int .i64 a1] w fun e w' => e = .returned (.int .i64 r1) ∧ IsS113 w0 w' g s0_0 r2 ∧ Below w0.heap.size w0 w' ∧ KeepBut w w' g none := by
  have HI0 := Aside0.mk hI
  have HK := Aside0.mk (KeepBut.refl w g none)
  have HL := Aside0.mk hB.size
  clear hI
  have HW0 := Aside0.mk hB.size
  have HB := Aside0.mk hB
  clear hB
  have H : ((spec_l20Rd_odd.f k s0_0 s0_1 a1).bind fun bt118 => (if bt118.1 = true then ((some (([0, 7, (-1)] : List Int) : List Int)).bind fun y120 => ((spec_l20Rd_pick.f k s0_0 bt118.2 3).bind fun bt123 => (if 0 ≤ bt123.1 then (if bt123.1 < (y120.length : Int) then (some (rd y120 bt123.1, bt123.2)) else (none)) else (none)))) else ((spec_l20Rd_pick.f k s0_0 bt118.2 6).bind fun bt126 => (some (wrap64 (1 + bt126.1), bt126.2))))) = some (r1, r2) := h
  clear h
  replace H := Option.bind_eq_some_iff.mp H
  obtain ⟨⟨t118, t119⟩, A30, H⟩ := H
  replace H : (if t118 = true then ((some (([0, 7, (-1)] : List Int) : List Int)).bind fun y120 => ((spec_l20Rd_pick.f k s0_0 t119 3).bind fun bt123 => (if 0 ≤ bt123.1 then (if bt123.1 < (y120.length : Int) then (some (rd y120 bt123.1, bt123.2)) else (none)) else (none)))) else ((spec_l20Rd_pick.f k s0_0 t119 6).bind fun bt126 => (some (wrap64 (1 + bt126.1), bt126.2)))) = some (r1, r2) := H
  have A3 := Aside0.mk A30
  clear A30
  by_cases c4 : t118 = true
  · subst c4
    have H1 : ((some (([0, 7, (-1)] : List Int) : List Int)).bind fun y120 => ((spec_l20Rd_pick.f k s0_0 t119 3).bind fun bt123 => (if 0 ≤ bt123.1 then (if bt123.1 < (y120.length : Int) then (some (rd y120 bt123.1, bt123.2)) else (none)) else (none)))) = some (r1, r2) := by rw [if_pos rfl] at H; exact H
    clear H
    have H := H1
    clear H1
    obtain ⟨y120, hy120⟩ : ∃ y_ : List Int, y_ = (([0, 7, (-1)] : List Int)) := ⟨_, rfl⟩
    replace H : ((spec_l20Rd_pick.f k s0_0 t119 3).bind fun bt123 => (if 0 ≤ bt123.1 then (if bt123.1 < (y120.length : Int) then (some (rd y120 bt123.1, bt123.2)) else (none)) else (none))) = some (r1, r2) := by first | (rw [hy120]; with_reducible exact H) | (have H2_ := (Option.bind_some _ _).symm.trans H; rw [hy120]; with_reducible exact H2_) | (have H2_ := (Option.bind_some _ _).symm.trans H; with_reducible exact H2_) | with_reducible exact H | (rw [hy120]; exact H) | exact H
    have Ny120 := Aside0.mk hy120
    clear hy120
    replace H := Option.bind_eq_some_iff.mp H
    obtain ⟨⟨t123, t124⟩, A50, H⟩ := H
    replace H : (if 0 ≤ t123 then (if t123 < (y120.length : Int) then (some (rd y120 t123, t124)) else (none)) else (none)) = some (r1, r2) := H
    have A5 := Aside0.mk A50
    clear A50
    by_cases c6 : 0 ≤ t123
    · rw [if_pos c6] at H
      have c6b0 : decide (0 ≤ t123) = true := decide_eq_true c6
      clear c6
      by_cases c7 : t123 < (y120.length : Int)
      · rw [if_pos c7] at H
        have c7b0 : decide (t123 < (y120.length : Int)) = true := decide_eq_true c7
        clear c7
        simp only [Option.some.injEq, Prod.mk.injEq] at H
        obtain ⟨rfl, rfl⟩ := H
        go_enter Try.func75, Try.ntmps75
        go_wp2_with (first | ((with_reducible refine gate_callee (f := 90) rfl ?_); refine goesL_ (some 7) rfl rfl Try.func90 (by kernel_rfl) rfl #[.pointer (some ⟨g, 0, none⟩), .int .i64 a1] rfl (by (try simp only [List.map_toArray, List.map_cons, List.map_nil]); first | done | rfl | (simp only [List.length_drop, List.length_take]; rfl)) ?_; (with_reducible refine (spec_l20Rd_odd.calls k g s0_0 s0_1 a1 true t119 w0 _ ?side1 ?side2 A3.out).mono ?_); (case side1 => repeat (first | (with_reducible first | exact HI0.out | apply IsS113.alloc | apply IsS113.drewN | apply IsS113.drew | apply IsS113.set_1) | exact HI0.out)); (case side2 => repeat (first | (with_reducible first | exact HB.out | apply below_alloc | apply pw_below_drewN | apply below_drew1 | refine below_set ?_ (IsS113.ge HI0.out)) | exact HB.out)); rintro e w8 ⟨rfl, hi, hb, hk⟩; refine ⟨_, rfl, ?_⟩; have n0_ := Aside0.mk (KeepBut.trans (by repeat (first | (with_reducible first | exact HK.out | apply KeepBut.set_ | apply keep_drewN | apply keep_drew | apply keep_alloc) | exact HK.out)) hk (.inl rfl)); have n1_ := Aside0.mk (hb); have n2_ := Aside0.mk (hi); clear HK; clear HB; clear HI0; have HK := n0_; have HB := n1_; have HI0 := n2_; clear n0_ n1_ n2_; (try clear hb); (try clear hb2); (try clear hk); (try clear hi)) | ((with_reducible refine gate_dst (N := 8) rfl ?_); refine Kd.R_lit (Kd.int .i64) _ 3 ?hg (N := 8) ?hd (xs := ([0, 7, (-1)] : List Int)) (inner := [.int .i64 0, .int .i64 7, .int .i64 (-1)]) (ok := fun _ => True) (okp := fun _ => True) ?hr ?hp (fun _ hk => hk) trivial (Below.refl _ _) (Nat.le_refl _) (by simp) ?_; (case hd => rfl); (case hg => rfl); (case hr => first | (go_simp; done) | (go_simp; rfl)); (case hp => exact (Reps.one (show Kd.M (Kd.int .i64) _ _ _ 0 [.int .i64 0] from rfl) (Reps.one (show Kd.M (Kd.int .i64) _ _ _ 7 [.int .i64 7] from rfl) (Reps.one (show Kd.M (Kd.int .i64) _ _ _ (-1) [.int .i64 (-1)] from rfl) (Reps.none _ _))))); intro v121 w9 ho10 hb hg_ hnew_; clear hg_ hnew_; (first | rw [← Ny120.out] at ho10 | (simp only [Int.reduceToNat] at ho10; rw [← Ny120.out] at ho10)); have n0_ := Aside0.mk (Kd.R_lower ho10 (keep_size (w := w) (g := g) (row := none) (by repeat (first | (with_reducible first | exact HK.out | apply KeepBut.set_ | apply keep_drewN | apply keep_drew | apply keep_alloc) | exact HK.out)))); have n1_ := Aside0.mk (IsS113.below (by repeat (first | (with_reducible first | exact HI0.out | apply IsS113.alloc | apply IsS113.drewN | apply IsS113.drew | apply IsS113.set_1) | exact HI0.out)) hb); have n2_ := Aside0.mk (KeepBut.trans (by repeat (first | (with_reducible first | exact HK.out | apply KeepBut.set_ | apply keep_drewN | apply keep_drew | apply keep_alloc) | exact HK.out)) (KeepBut.of_below hb g none) (.inl rfl)); have n3_ := Aside0.mk (below_step (by repeat (first | (with_reducible first | exact HB.out | apply below_alloc | apply pw_below_drewN | apply below_drew1 | refine below_set ?_ (IsS113.ge HI0.out)) | exact HB.out)) hb); clear HI0; clear HK; clear HB; have HO122 := n0_; have HI0 := n1_; have HK := n2_; have HB := n3_; clear n0_ n1_ n2_ n3_; clear hb ho10) | ((with_reducible refine gate_callee (f := 76) rfl ?_); refine goesL_ (some 10) rfl rfl Try.func76 (by kernel_rfl) rfl #[.pointer (some ⟨g, 0, none⟩), .int .i64 3] rfl (by (try simp only [List.map_toArray, List.map_cons, List.map_nil]); first | done | rfl | (simp only [List.length_drop, List.length_take]; rfl)) ?_; (with_reducible refine (spec_l20Rd_pick.calls k g s0_0 t119 3 t123 t124 w0 _ ?side1 ?side2 A5.out).mono ?_); (case side1 => repeat (first | (with_reducible first | exact HI0.out | apply IsS113.alloc | apply IsS113.drewN | apply IsS113.drew | apply IsS113.set_1) | exact HI0.out)); (case side2 => repeat (first | (with_reducible first | exact HB.out | apply below_alloc | apply pw_below_drewN | apply below_drew1 | refine below_set ?_ (IsS113.ge HI0.out)) | exact HB.out)); rintro e w11 ⟨rfl, hi, hb, hk⟩; refine ⟨_, rfl, ?_⟩; have n0_ := Aside0.mk (Kd.R_mono (Kd.R_keep (IsS113.apart (show IsS113 w0 _ g s0_0 t119 from by repeat (first | (with_reducible first | exact HI0.out | apply IsS113.alloc | apply IsS113.drewN | apply IsS113.drew | apply IsS113.set_1) | exact HI0.out)) (by (with_reducible repeat (first | apply Kd.R_alloc | apply Kd.R_drewN | apply Kd.R_drew)); exact HO122.out) (by decide)) hk (fun _ h => h.2)) (fun _ h => h.1)); have n1_ := Aside0.mk (KeepBut.trans (by repeat (first | (with_reducible first | exact HK.out | apply KeepBut.set_ | apply keep_drewN | apply keep_drew | apply keep_alloc) | exact HK.out)) hk (.inl rfl)); have n2_ := Aside0.mk (hb); have n3_ := Aside0.mk (hi); clear HO122; clear HK; clear HB; clear HI0; have HO122 := n0_; have HK := n1_; have HB := n2_; have HI0 := n3_; clear n0_ n1_ n2_ n3_; (try clear hb); (try clear hb2); (try clear hk); (try clear hi); obtain ⟨Ao12, co12, eo12⟩ := Kd.R_slice HO122.out; subst eo12; have p125 : 0 ≤ (t123 : Int) := of_decide_eq_true (by first | (with_reducible assumption) | assumption); have q125 : t123 < (y120.length : Int) := of_decide_eq_true (by first | (with_reducible assumption) | assumption); obtain ⟨ad125, e125, hx125_0⟩ := Kd.at_int (Kd.R_reads' HO122.out).2.2 t123 p125 q125; cases e125; replace p125 := eq_true p125; replace q125 := eq_true q125))
        go_ret
        exact ⟨by first | rfl | (simp [errW_none, errW_some] <;> rfl) | (simp [*, errW_none, errW_some] <;> rfl), by repeat (first | (with_reducible first | exact HI0.out | apply IsS113.alloc | apply IsS113.drewN | apply IsS113.drew | apply IsS113.set_1) | exact HI0.out), by repeat (first | (with_reducible first | exact HB.out | apply below_alloc | apply pw_below_drewN | apply below_drew1 | refine below_set ?_ (IsS113.ge HI0.out)) | exact HB.out), by repeat (first | (with_reducible first | exact HK.out | apply KeepBut.set_ | apply keep_drewN | apply keep_drew | apply keep_alloc) | exact HK.out)⟩
      · rw [if_neg c7] at H
        exact absurd H (by simp)
    · rw [if_neg c6] at H
      exact absurd H (by simp)
  · replace c4 := Bool.eq_false_iff.mpr c4
    subst c4
    have H1 : ((spec_l20Rd_pick.f k s0_0 t119 6).bind fun bt126 => (some (wrap64 (1 + bt126.1), bt126.2))) = some (r1, r2) := by rw [if_neg (show ¬ (false = true) by decide)] at H; exact H
    clear H
    have H := H1
    clear H1
    replace H := Option.bind_eq_some_iff.mp H
    obtain ⟨⟨t126, t127⟩, A130, H⟩ := H
    replace H : (some (wrap64 (1 + t126), t127)) = some (r1, r2) := H
    have A13 := Aside0.mk A130
    clear A130
    simp only [Option.some.injEq, Prod.mk.injEq] at H
    obtain ⟨rfl, rfl⟩ := H
    go_enter Try.func75, Try.ntmps75
    go_wp2_with (first | ((with_reducible refine gate_callee (f := 90) rfl ?_); refine goesL_ (some 7) rfl rfl Try.func90 (by kernel_rfl) rfl #[.pointer (some ⟨g, 0, none⟩), .int .i64 a1] rfl (by (try simp only [List.map_toArray, List.map_cons, List.map_nil]); first | done | rfl | (simp only [List.length_drop, List.length_take]; rfl)) ?_; (with_reducible refine (spec_l20Rd_odd.calls k g s0_0 s0_1 a1 false t119 w0 _ ?side1 ?side2 A3.out).mono ?_); (case side1 => repeat (first | (with_reducible first | exact HI0.out | apply IsS113.alloc | apply IsS113.drewN | apply IsS113.drew | apply IsS113.set_1) | exact HI0.out)); (case side2 => repeat (first | (with_reducible first | exact HB.out | apply below_alloc | apply pw_below_drewN | apply below_drew1 | refine below_set ?_ (IsS113.ge HI0.out)) | exact HB.out)); rintro e w14 ⟨rfl, hi, hb, hk⟩; refine ⟨_, rfl, ?_⟩; have n0_ := Aside0.mk (KeepBut.trans (by repeat (first | (with_reducible first | exact HK.out | apply KeepBut.set_ | apply keep_drewN | apply keep_drew | apply keep_alloc) | exact HK.out)) hk (.inl rfl)); have n1_ := Aside0.mk (hb); have n2_ := Aside0.mk (hi); clear HK; clear HB; clear HI0; have HK := n0_; have HB := n1_; have HI0 := n2_; clear n0_ n1_ n2_; (try clear hb); (try clear hb2); (try clear hk); (try clear hi)) | ((with_reducible refine gate_callee (f := 76) rfl ?_); refine goesL_ (some 14) rfl rfl Try.func76 (by kernel_rfl) rfl #[.pointer (some ⟨g, 0, none⟩), .int .i64 6] rfl (by (try simp only [List.map_toArray, List.map_cons, List.map_nil]); first | done | rfl | (simp only [List.length_drop, List.length_take]; rfl)) ?_; (with_reducible refine (spec_l20Rd_pick.calls k g s0_0 t119 6 t126 t127 w0 _ ?side1 ?side2 A13.out).mono ?_); (case side1 => repeat (first | (with_reducible first | exact HI0.out | apply IsS113.alloc | apply IsS113.drewN | apply IsS113.drew | apply IsS113.set_1) | exact HI0.out)); (case side2 => repeat (first | (with_reducible first | exact HB.out | apply below_alloc | apply pw_below_drewN | apply below_drew1 | refine below_set ?_ (IsS113.ge HI0.out)) | exact HB.out)); rintro e w15 ⟨rfl, hi, hb, hk⟩; refine ⟨_, rfl, ?_⟩; have n0_ := Aside0.mk (KeepBut.trans (by repeat (first | (with_reducible first | exact HK.out | apply KeepBut.set_ | apply keep_drewN | apply keep_drew | apply keep_alloc) | exact HK.out)) hk (.inl rfl)); have n1_ := Aside0.mk (hb); have n2_ := Aside0.mk (hi); clear HK; clear HB; clear HI0; have HK := n0_; have HB := n1_; have HI0 := n2_; clear n0_ n1_ n2_; (try clear hb); (try clear hb2); (try clear hk); (try clear hi)))
    go_ret
    exact ⟨by first | rfl | (simp [errW_none, errW_some] <;> rfl) | (simp [*, errW_none, errW_some] <;> rfl), by repeat (first | (with_reducible first | exact HI0.out | apply IsS113.alloc | apply IsS113.drewN | apply IsS113.drew | apply IsS113.set_1) | exact HI0.out), by repeat (first | (with_reducible first | exact HB.out | apply below_alloc | apply pw_below_drewN | apply below_drew1 | refine below_set ?_ (IsS113.ge HI0.out)) | exact HB.out), by repeat (first | (with_reducible first | exact HK.out | apply KeepBut.set_ | apply keep_drewN | apply keep_drew | apply keep_alloc) | exact HK.out)⟩

/-! ### spec_DrawMovedVertices: function 35 -/
def spec_DrawMovedVertices.f (k : Nat) (l0 : List Int) : Option (Int × Int × Int) := (spec_l20Open.f l0).bind fun bt128 => ((spec_l20Rd_pick.f k bt128.1 bt128.2 19).bind fun bt131 => ((spec_l20Workers.f k bt128.1 bt131.2 12).bind fun bt133 => ((spec_l20Workers.f k bt128.1 bt133.2 12).bind fun bt135 => (some (wrap64 (bt131.1 - 1), bt133.1, bt135.1)))))
theorem spec_DrawMovedVertices.mono : ∀ a0 k, LeO (spec_DrawMovedVertices.f k a0) (spec_DrawMovedVertices.f (k + 1) a0) := by
  intro a0 k
  unfold spec_DrawMovedVertices.f
  repeat' first
      | (with_reducible exact spec_l20Rd_pick.mono _ _ _ _)
      | (with_reducible exact spec_l20Workers.mono _ _ _ _)
      | (with_reducible exact LeO.refl _)
      | (with_reducible exact LeO.none _)
      | (with_reducible refine LeO.ite ?_ ?_)
      | (with_reducible refine LeO.bind ?_ (fun _ => ?_))
      | exact spec_l20Rd_pick.mono _ _ _ _
      | exact spec_l20Workers.mono _ _ _ _
      | exact LeO.none _
      | refine LeO.ite ?_ ?_
      | refine LeO.bind ?_ (fun _ => ?_)
set_option maxHeartbeats 8000000 in
set_option maxRecDepth 100000 in
theorem spec_DrawMovedVertices.calls (k : Nat) (A0 : Option Addr) (c0 : Nat) (l0 : List Int) (r1 : Int) (r2 : Int) (r3 : Int) (w : World) (hr0 : Kd.C (Kd.int .u8) w A0 l0.length l0) (hc0 : l0.length ≤ c0) (h : spec_DrawMovedVertices.f k l0 = some (r1, r2, r3)) :
    Calls Try.prog 35 #[.slice A0 l0.length c0] w fun e w' => e = .returned (.tuple #[.int .i64 r1, .int .i64 r2, .int .i64 r3]) ∧ Below w.heap.size w w' := by
  have HR0 := Aside0.mk hr0
  have HC0 := Aside0.mk hc0
  clear hr0 hc0
  have HB := Aside0.mk (Below.refl w.heap.size w)
  have H : ((spec_l20Open.f l0).bind fun bt128 => ((spec_l20Rd_pick.f k bt128.1 bt128.2 19).bind fun bt131 => ((spec_l20Workers.f k bt128.1 bt131.2 12).bind fun bt133 => ((spec_l20Workers.f k bt128.1 bt133.2 12).bind fun bt135 => (some (wrap64 (bt131.1 - 1), bt133.1, bt135.1)))))) = some (r1, r2, r3) := h
  clear h
  replace H := Option.bind_eq_some_iff.mp H
  obtain ⟨⟨t128, t129⟩, A20, H⟩ := H
  replace H : ((spec_l20Rd_pick.f k t128 t129 19).bind fun bt131 => ((spec_l20Workers.f k t128 bt131.2 12).bind fun bt133 => ((spec_l20Workers.f k t128 bt133.2 12).bind fun bt135 => (some (wrap64 (bt131.1 - 1), bt133.1, bt135.1))))) = some (r1, r2, r3) := H
  have A2 := Aside0.mk A20
  clear A20
  replace H := Option.bind_eq_some_iff.mp H
  obtain ⟨⟨t131, t132⟩, A30, H⟩ := H
  replace H : ((spec_l20Workers.f k t128 t132 12).bind fun bt133 => ((spec_l20Workers.f k t128 bt133.2 12).bind fun bt135 => (some (wrap64 (t131 - 1), bt133.1, bt135.1)))) = some (r1, r2, r3) := H
  have A3 := Aside0.mk A30
  clear A30
  replace H := Option.bind_eq_some_iff.mp H
  obtain ⟨⟨t133, t134⟩, A40, H⟩ := H
  replace H : ((spec_l20Workers.f k t128 t134 12).bind fun bt135 => (some (wrap64 (t131 - 1), t133, bt135.1))) = some (r1, r2, r3) := H
  have A4 := Aside0.mk A40
  clear A40
  replace H := Option.bind_eq_some_iff.mp H
  obtain ⟨⟨t135, t136⟩, A50, H⟩ := H
  replace H : (some (wrap64 (t131 - 1), t133, t135)) = some (r1, r2, r3) := H
  have A5 := Aside0.mk A50
  clear A50
  simp only [Option.some.injEq, Prod.mk.injEq] at H
  obtain ⟨rfl, rfl, rfl⟩ := H
  go_enter Try.func35, Try.ntmps35
  go_wp2_with (first | ((with_reducible refine gate_callee (f := 66) rfl ?_); refine goesL_ (some 7) rfl rfl Try.func66 (by kernel_rfl) rfl #[.slice A0 l0.length c0] rfl (by (try simp only [List.map_toArray, List.map_cons, List.map_nil]); first | done | rfl | (simp only [List.length_drop, List.length_take]; rfl)) ?_; (with_reducible refine (spec_l20Open.calls _ _ l0 t128 t129 w _ ?side1 ?side2 ?side3 A2.out).mono ?_); (case side1 => repeat (first | (with_reducible first | exact HB.out | apply below_alloc | apply pw_below_drewN | apply below_drew1) | exact HB.out)); (case side2 => exact HR0.out); (case side3 => exact HC0.out); rintro e w6 ⟨g130, rfl, hi, hb, hb2⟩; refine ⟨_, rfl, ?_⟩; have n0_ := Aside0.mk (hb); have n1_ := Aside0.mk (hi); clear HB; have HB := n0_; have HI130 := n1_; clear n0_ n1_; (try clear hb); (try clear hb2); (try clear hk); (try clear hi)) | ((with_reducible refine gate_callee (f := 76) rfl ?_); refine goesL_ (some 9) rfl rfl Try.func76 (by kernel_rfl) rfl #[.pointer (some ⟨g130, 0, none⟩), .int .i64 19] rfl (by (try simp only [List.map_toArray, List.map_cons, List.map_nil]); first | done | rfl | (simp only [List.length_drop, List.length_take]; rfl)) ?_; (with_reducible refine (spec_l20Rd_pick.calls k g130 t128 t129 19 t131 t132 w _ ?side1 ?side2 A3.out).mono ?_); (case side1 => repeat (first | (with_reducible first | exact HI130.out | apply IsS113.alloc | apply IsS113.drewN | apply IsS113.drew | apply IsS113.set_1) | exact HI130.out)); (case side2 => repeat (first | (with_reducible first | exact HB.out | apply below_alloc | apply pw_below_drewN | apply below_drew1 | refine below_set ?_ (IsS113.ge HI130.out)) | exact HB.out)); rintro e w7 ⟨rfl, hi, hb, hk⟩; refine ⟨_, rfl, ?_⟩; have n0_ := Aside0.mk (hb); have n1_ := Aside0.mk (hi); clear HB; clear HI130; have HB := n0_; have HI130 := n1_; clear n0_ n1_; (try clear hb); (try clear hb2); (try clear hk); (try clear hi)) | ((with_reducible refine gate_callee (f := 75) rfl ?_); refine goesL_ (some 12) rfl rfl Try.func75 (by kernel_rfl) rfl #[.pointer (some ⟨g130, 0, none⟩), .int .i64 12] rfl (by (try simp only [List.map_toArray, List.map_cons, List.map_nil]); first | done | rfl | (simp only [List.length_drop, List.length_take]; rfl)) ?_; (with_reducible refine (spec_l20Workers.calls k g130 t128 t132 12 t133 t134 w _ ?side1 ?side2 A4.out).mono ?_); (case side1 => repeat (first | (with_reducible first | exact HI130.out | apply IsS113.alloc | apply IsS113.drewN | apply IsS113.drew | apply IsS113.set_1) | exact HI130.out)); (case side2 => repeat (first | (with_reducible first | exact HB.out | apply below_alloc | apply pw_below_drewN | apply below_drew1 | refine below_set ?_ (IsS113.ge HI130.out)) | exact HB.out)); rintro e w8 ⟨rfl, hi, hb, hk⟩; refine ⟨_, rfl, ?_⟩; have n0_ := Aside0.mk (hb); have n1_ := Aside0.mk (hi); clear HB; clear HI130; have HB := n0_; have HI130 := n1_; clear n0_ n1_; (try clear hb); (try clear hb2); (try clear hk); (try clear hi)) | ((with_reducible refine gate_callee (f := 75) rfl ?_); refine goesL_ (some 14) rfl rfl Try.func75 (by kernel_rfl) rfl #[.pointer (some ⟨g130, 0, none⟩), .int .i64 12] rfl (by (try simp only [List.map_toArray, List.map_cons, List.map_nil]); first | done | rfl | (simp only [List.length_drop, List.length_take]; rfl)) ?_; (with_reducible refine (spec_l20Workers.calls k g130 t128 t134 12 t135 t136 w _ ?side1 ?side2 A5.out).mono ?_); (case side1 => repeat (first | (with_reducible first | exact HI130.out | apply IsS113.alloc | apply IsS113.drewN | apply IsS113.drew | apply IsS113.set_1) | exact HI130.out)); (case side2 => repeat (first | (with_reducible first | exact HB.out | apply below_alloc | apply pw_below_drewN | apply below_drew1 | refine below_set ?_ (IsS113.ge HI130.out)) | exact HB.out)); rintro e w9 ⟨rfl, hi, hb, hk⟩; refine ⟨_, rfl, ?_⟩; have n0_ := Aside0.mk (hb); have n1_ := Aside0.mk (hi); clear HB; clear HI130; have HB := n0_; have HI130 := n1_; clear n0_ n1_; (try clear hb); (try clear hb2); (try clear hk); (try clear hi)))
  go_ret3
  exact ⟨by first | rfl | (simp [errW_none, errW_some] <;> rfl) | (simp [*, errW_none, errW_some] <;> rfl), by repeat (first | (with_reducible first | exact HB.out | apply below_alloc | apply pw_below_drewN | apply below_drew1 | refine below_set ?_ (IsS113.ge HI130.out)) | exact HB.out)⟩

/-! ### impl_workersFit: function 77 -/
def impl_workersFit.f (a0 : Int) : Option (Bool) := if a0 ≥ 1 then (some (decide (a0 ≤ 6))) else (some false)
set_option maxHeartbeats 8000000 in
set_option maxRecDepth 100000 in
theorem impl_workersFit.calls (a0 : Int) (r : Bool) (w : World) (h : impl_workersFit.f a0 = some r) :
    Calls Try.prog 77 #[.int .i64 a0] w fun e w' => e = .returned (.bool r) ∧ Drawn0 w w' := by
  have H : (if a0 ≥ 1 then (some (decide (a0 ≤ 6))) else (some false)) = some r := h
  clear h
  by_cases c2 : a0 ≥ 1
  · rw [if_pos c2] at H
    have c2b0 : decide (1 ≤ a0) = true := decide_eq_true c2
    clear c2
    obtain rfl := Option.some.inj H
    go_enter Try.func77, Try.ntmps77
    go_wp2
    go_ret
    exact ⟨by first | rfl | (simp; done) | (simp [*]; done), by repeat (first | exact Drawn0.refl _ | apply Drawn0.step)⟩
  · rw [if_neg c2] at H
    have c2b0 : decide (1 ≤ a0) = false := decide_eq_false c2
    clear c2
    obtain rfl := Option.some.inj H
    go_enter Try.func77, Try.ntmps77
    go_wp2
    go_ret
    exact ⟨by first | rfl | (simp; done) | (simp [*]; done), by repeat (first | exact Drawn0.refl _ | apply Drawn0.step)⟩


/-! ### impl_ownerTable: function 79 -/
def ownN (n v : Nat) : Nat := (13 * v + 5) % 17 % n
def tbl (n k : Nat) : Array Value := Array.ofFn (n := 16) fun i => .int .i64 (if i.val < k then (ownN n i.val : Int) else 0)

theorem tbl_set (n k : Nat) (h : k < 16) : (tbl n k).setIfInBounds k (.int .i64 (ownN n k : Int)) = tbl n (k + 1) := by
  apply Array.ext
  · simp [tbl]
  · intro i h1 h2
    simp [tbl] at h1 h2
    rw [Array.getElem_setIfInBounds (by simpa [tbl] using h1)]
    simp [tbl]
    by_cases e : k = i
    · subst e; simp
    · rw [if_neg e]
      by_cases h3 : i < k
      · rw [if_pos h3, if_pos (by omega)]
      · rw [if_neg h3, if_neg (by omega)]

theorem tbl_size (n k : Nat) : (tbl n k).size = 16 := by simp [tbl]
theorem tbl_get (n k i : Nat) (h : i < 16) : (tbl n k)[i]? = some (.int .i64 (if i < k then (ownN n i : Int) else 0)) := by simp [tbl, h]
theorem tbl_one (n k : Nat) : (tbl n k).all (·.oneCell') = true := by rw [Array.all_eq_true_iff_forall_mem]; intro x hx; obtain ⟨i, rfl⟩ := Array.mem_ofFn.1 hx; rfl
theorem tbl_zero (n : Nat) : #[Value.int .i64 0, .int .i64 0, .int .i64 0, .int .i64 0, .int .i64 0, .int .i64 0, .int .i64 0, .int .i64 0, .int .i64 0, .int .i64 0, .int .i64 0, .int .i64 0, .int .i64 0, .int .i64 0, .int .i64 0, .int .i64 0] = tbl n 0 := rfl
attribute [irreducible] tbl
set_option maxHeartbeats 400000 in
theorem ownerTable_calls (n : Nat) (h1 : 1 ≤ n) (h6 : n ≤ 6) (w : World) :
    Calls Try.prog 79 #[.int .i64 n] w fun e w' => e = .returned (.agg (tbl n 16)) ∧ Below w.heap.size w w' := by
  go_enter Try.func79, Try.ntmps79
  go_wp2
  go_loopw [5] (fun i wr => ∃ k : Nat, k ≤ 16 ∧ i = .int .i64 k ∧ wr.heap.size = w.heap.size + 2 ∧ wr.heap[w.heap.size]? = some (.cells (tbl 1 0) 94 (0, 0)) ∧ wr.heap[w.heap.size + 1]? = some (.cells (tbl n k) 94 (0, 0)) ∧ Below w.heap.size w wr) (fun i _ => 16 - (intOf i).toNat)
  case atStart => exact ⟨0, by omega, rfl, by simp, by rw [heap_alloc2_old, tbl_zero 1], by rw [heap_alloc2_new, tbl_zero n], ((Below.refl _ _).alloc (Nat.le_refl _) _).alloc (by simp) _⟩
  case round =>
    obtain ⟨k, hk, rfl, hsz, hb0, hb1, hbel⟩ := hrel
    by_cases hlt : k < 16
    · have hc := kk_blk_cell hb1 k
      have hf := kk_blk_frozen hb1 k
      rw [tbl_get n k k hlt, if_neg (by omega)] at hc
      go_wp2
      go_roundw
      case rel => exact ⟨k + 1, by omega, by go_num, by simpa [World.setCell] using hsz, by rw [heap_setCell_other _ _ _ _ (by simp)]; exact hb0, by
        have := kk_blk_set hb1 k (.int .i64 (ownN n k : Int))
        rw [tbl_set n k hlt] at this
        exact this, hbel.setCell (by simp) _⟩
      case measure => simp [intOf]; omega
    · obtain rfl : k = 16 := by omega
      clear hlt hk
      go_wp2_with (first
        | ((with_reducible refine gate_ (.load 94 (.tmp 3)) rfl ?_); refine wpList_load_row rfl 94 _ rfl (w.heap.size + 1) rfl 94 _ (0, 0) _ hb1 Try.underlying94 rfl (by rw [tbl_size]; kernel_rfl) ?_)
        | ((with_reducible refine gate_store (t := 94) (p := 2) rfl ?_); refine wpList_store_row rfl 94 _ _ rfl (w.heap.size) (tbl n 16) rfl rfl 94 _ hb0 (by rw [tbl_size]; kernel_rfl) (by rw [tbl_size, tbl_size]) (tbl_one n 16) ?_))
      refine bodyPost_ret (v := .agg (tbl n 16)) ?_ rfl ⟨rfl, below_setRow hbel (Nat.le_refl _) _⟩
      exact results_cell_row rfl _ _ w.heap.size 94 _ (0, 0) _ rfl (setRow_heap _ _ _ _ _ _ hb0) Try.underlying94 rfl (by rw [tbl_size]; kernel_rfl)



/-! ### impl_MovedVertices: function 36 -/
def movedL (m a b : Int) : List Int := ((List.range m.toNat).filter fun v => decide (ownN a.toNat v ≠ ownN b.toNat v)).map fun (v : Nat) => (v : Int)
def impl_MovedVertices.f (a0 a1 a2 : Int) : Option (List Int) := some (if (0 ≤ a0 ∧ a0 ≤ 16) ∧ (1 ≤ a1 ∧ a1 ≤ 6) ∧ 1 ≤ a2 ∧ a2 ≤ 6 then movedL a0 a1 a2 else [])
theorem movedL_succ (k : Nat) (a b : Int) : movedL ((k + 1 : Nat) : Int) a b = movedL (k : Int) a b ++ if ownN a.toNat k ≠ ownN b.toNat k then [(k : Int)] else [] := by
  unfold movedL
  rw [Int.toNat_natCast, Int.toNat_natCast, List.range_succ, List.filter_append, List.map_append]
  congr 1
  by_cases h : ownN a.toNat k = ownN b.toNat k <;> simp [h]
theorem movedL_zero (a b : Int) : movedL 0 a b = [] := rfl
theorem movedL_len (k : Nat) (a b : Int) : (movedL (k : Int) a b).length ≤ k := by
  unfold movedL
  rw [List.length_map]
  refine Nat.le_trans (List.length_filter_le _ _) ?_
  simp

set_option maxHeartbeats 1000000 in
theorem impl_MovedVertices.calls (a0 a1 a2 : Int) (r : List Int) (w : World) (h : impl_MovedVertices.f a0 a1 a2 = some r) :
    Calls Try.prog 36 #[.int .i64 a0, .int .i64 a1, .int .i64 a2] w fun e w' => ∃ v0_ : Value, e = .returned (v0_) ∧ Kd.R (Kd.int .i64) 3 w' w.heap.size (fun _ => True) v0_ r ∧ Below w.heap.size w w' := by
  obtain rfl := Option.some.inj h
  clear h
  by_cases h0 : 0 ≤ a0
  · by_cases h0' : a0 ≤ 16
    · by_cases h1 : 1 ≤ a1 ∧ a1 ≤ 6
      · have hw1 : Aside0 (impl_workersFit.f a1 = some true) := ⟨by simp [impl_workersFit.f, h1]⟩
        by_cases h2 : 1 ≤ a2 ∧ a2 ≤ 6
        · have hw2 : Aside0 (impl_workersFit.f a2 = some true) := ⟨by simp [impl_workersFit.f, h2]⟩
          rw [if_pos ⟨⟨h0, h0'⟩, h1, h2⟩]
          obtain ⟨n, rfl⟩ := Int.eq_ofNat_of_zero_le h0
          obtain ⟨b, rfl⟩ := Int.eq_ofNat_of_zero_le (a := a1) (by omega)
          obtain ⟨c, rfl⟩ := Int.eq_ofNat_of_zero_le (a := a2) (by omega)
          obtain ⟨h1a, h1b⟩ := h1
          obtain ⟨h2a, h2b⟩ := h2
          go_enter Try.func36, Try.ntmps36
          go_upto_region 4 with (first
            | (go_at_call 77; (with_reducible refine (impl_workersFit.calls b true _ hw1.out).mono ?_); rintro e w' ⟨rfl, ⟨nd, rfl⟩⟩)
            | (go_at_call 77; (with_reducible refine (impl_workersFit.calls c true _ hw2.out).mono ?_); rintro e w' ⟨rfl, ⟨nd, rfl⟩⟩)
            | (go_at_call 79; (with_reducible refine (ownerTable_calls b (by omega) (by omega) _).mono ?_); rintro e w1 ⟨rfl, hb1⟩)
            | (go_at_call 79; (with_reducible refine (ownerTable_calls c (by omega) (by omega) _).mono ?_); rintro e w2 ⟨rfl, hb2⟩)
            | ((with_reducible refine gate_store (t := 94) (p := 7) rfl ?_); refine wpList_store_row rfl 94 _ _ rfl w2.heap.size (tbl b 16) rfl rfl 94 _ (heap_alloc2_old _ _ _) (by rw [tbl_size]; kernel_rfl) (by rw [tbl_size]; rfl) (tbl_one b 16) ?_)
            | ((with_reducible refine gate_store (t := 94) (p := 8) rfl ?_); refine wpList_store_row rfl 94 _ _ rfl (w2.heap.size + 1) (tbl c 16) rfl rfl 94 _ ((kk_setRow_other _ _ _ _ (by simp)).trans (heap_alloc2_new _ _ _)) (by rw [tbl_size]; kernel_rfl) (by rw [tbl_size]; rfl) (tbl_one c 16) ?_))
          obtain ⟨g, hg⟩ : ∃ g, w2.heap.size = g := ⟨_, rfl⟩
          have hbw : Below w.heap.size w w2 := below_then (below_then (pw_below_drewN (Below.refl _ _) _) (by simp) hb1) (by have := hb1.size; simp at this; omega) hb2
          obtain ⟨wc, hwc⟩ : ∃ wc, wc = (((w2.alloc (.cells #[Value.int .i64 0, .int .i64 0, .int .i64 0, .int .i64 0, .int .i64 0, .int .i64 0, .int .i64 0, .int .i64 0, .int .i64 0, .int .i64 0, .int .i64 0, .int .i64 0, .int .i64 0, .int .i64 0, .int .i64 0, .int .i64 0] 94)).alloc (.cells #[Value.int .i64 0, .int .i64 0, .int .i64 0, .int .i64 0, .int .i64 0, .int .i64 0, .int .i64 0, .int .i64 0, .int .i64 0, .int .i64 0, .int .i64 0, .int .i64 0, .int .i64 0, .int .i64 0, .int .i64 0, .int .i64 0] 94)).setRow w2.heap.size (tbl b 16)).setRow (w2.heap.size + 1) (tbl c 16) := ⟨_, rfl⟩
          rw [← hwc, hg]
          have hB : Below w.heap.size w wc := by
            have := hbw.size
            rw [hwc]
            exact below_setRow (below_setRow ((hbw.alloc this _).alloc (by simp; omega) _) this _) (by omega) _
          have hs : wc.heap.size = g + 2 := by rw [hwc, ← hg]; simp
          have h7 : wc.heap[g]? = some (.cells (tbl b 16) 94 (0, 0)) := by
            rw [hwc, ← hg, kk_setRow_other _ _ _ _ (by omega)]
            exact setRow_heap _ _ _ _ _ _ (heap_alloc2_old _ _ _)
          have h8 : wc.heap[g + 1]? = some (.cells (tbl c 16) 94 (0, 0)) := by
            rw [hwc, ← hg]
            exact setRow_heap _ _ _ _ _ _ ((kk_setRow_other _ _ _ _ (by simp)).trans (heap_alloc2_new _ _ _))
          have hgw : w.heap.size ≤ g := by have := hbw.size; omega
          clear hwc hg hbw hb1 hb2
          have HB : Aside0 (Below w.heap.size w wc) := ⟨hB⟩
          clear hB
          go_wp2
          go_loopw [9, 32] (fun v i wr => ∃ k : Nat, k ≤ n ∧ i = .int .i64 k ∧ g + 2 ≤ wr.heap.size ∧ Aside0 (Kd.R (Kd.int .i64) 3 wr w.heap.size (fun j => j ≠ g ∧ j ≠ g + 1) v (movedL (k : Int) b c)) ∧ wr.heap[g]? = some (.cells (tbl b 16) 94 (0, 0)) ∧ wr.heap[g + 1]? = some (.cells (tbl c 16) 94 (0, 0)) ∧ Aside0 (Below w.heap.size w wr)) (fun _ i _ => n - (intOf i).toNat)
          case atStart => exact ⟨0, by omega, rfl, by omega, ⟨Kd.R_nil _ _ _ _ _⟩, h7, h8, HB⟩
          case round =>
            clear h7 h8 HB hs
            obtain ⟨k, hk, rfl, hs, HR, h7, h8, HB⟩ := hrel
            by_cases hlt : k < n
            · have hc7 := kk_blk_cell h7 k
              have hc8 := kk_blk_cell h8 k
              rw [tbl_get _ _ _ (by omega), if_pos (by omega)] at hc7 hc8
              by_cases he : ownN b k = ownN c k
              · have HN : Aside0 (movedL ((k + 1 : Nat) : Int) b c = movedL (k : Int) b c) := ⟨by rw [movedL_succ]; simp [he]⟩
                have he1 : ((ownN b k : Int) != (ownN c k : Int)) = false := by simp [he]
                clear he
                go_wp2
                repeat (go_quiet (fail); try go_wp2)
                go_roundw
                case measure => simp [intOf]; omega
                case rel => exact ⟨k + 1, by omega, by go_num, by simpa using hs, ⟨by rw [HN.out]; (with_reducible repeat (first | apply Kd.R_alloc | apply Kd.R_drewN | apply Kd.R_drew)); exact HR.out⟩, h7, h8, ⟨pw_below_drewN HB.out _⟩⟩
              · have HN : Aside0 (movedL ((k + 1 : Nat) : Int) b c = movedL (k : Int) b c ++ [(k : Int)]) := ⟨by rw [movedL_succ]; simp [he]⟩
                have he1 : ((ownN b k : Int) != (ownN c k : Int)) = true := by simp; omega
                have hlen : Aside0 ((movedL (k : Int) b c).length ≤ k) := ⟨movedL_len _ _ _⟩
                clear he
                go_wp2
                go_quiet (fail)
                go_wp2_with (first | ((with_reducible refine gate_builtin (b := .append) (xs := #[.tmp 42, .tmp 44]) rfl ?_); at_builtin; refine Kd.R_append (Kd.int .i64) (w0 := w) w.heap.size rfl (.tmp 42) (.tmp 44) 32 3 (.int .i64 0) 8 rfl Try.underlying32 info3 rfl (by decide) (by omega) u9 (movedL (k : Int) b c) (k : Int) [.int .i64 k] (fun j => j ≠ g ∧ j ≠ g + 1) (fun _ => False) rfl rfl ?aP (fun _ hk => hk.elim) ?aF ?aO ?aB ?aS ?aL ?_; (case aP => exact rfl); (case aB => exact pw_below_drewN HB.out _); (case aF => exact (fun j hj => by simp at hj; omega)); (case aO => exact (by (with_reducible repeat (first | apply Kd.R_alloc | apply Kd.R_drewN | apply Kd.R_drew)); exact HR.out)); (case aS => exact (by simp; omega)); (case aL => have := hlen.out; omega); intro v1 w11 ho hb hg hat; rw [← HN.out] at ho; have HO := Aside0.mk ho; have HB2 := Aside0.mk hb; have HG := Aside0.mk hg; clear ho hb hg hat))
                go_roundw
                case measure => simp [intOf]; omega
                case rel =>
                  refine ⟨k + 1, by omega, by go_num, by have := HG.out.size; simp at this; omega, HO, ?_, ?_, HB2⟩
                  · rw [← h7]
                    exact HG.out.block g (by simp; omega) (fun e => ((HR.out.1 g e.symm).1 rfl))
                  · rw [← h8]
                    exact HG.out.block (g + 1) (by simp; omega) (fun e => ((HR.out.1 (g + 1) e.symm).2 rfl))
            · obtain rfl : k = n := by omega
              clear hk
              go_wp2
              go_ret
              exact ⟨_, rfl, Kd.R_mono HR.out (fun _ _ => trivial), HB.out⟩
        · have hw2 : Aside0 (impl_workersFit.f a2 = some false) := ⟨by unfold impl_workersFit.f; split; (· simp; omega); rfl⟩
          rw [if_neg (fun h => h2 h.2.2)]
          clear h2
          obtain ⟨n, rfl⟩ := Int.eq_ofNat_of_zero_le h0
          go_enter Try.func36, Try.ntmps36
          go_wp2_with (first
            | (go_at_call 77; (with_reducible refine (impl_workersFit.calls a1 true _ hw1.out).mono ?_); rintro e w' ⟨rfl, ⟨nd, rfl⟩⟩)
            | (go_at_call 77; (with_reducible refine (impl_workersFit.calls a2 false _ hw2.out).mono ?_); rintro e w' ⟨rfl, ⟨nd, rfl⟩⟩))
          go_ret
          exact ⟨_, rfl, Kd.R_nil _ _ _ _ _, pw_below_drewN (Below.refl _ _) _⟩
      · have hw1 : Aside0 (impl_workersFit.f a1 = some false) := ⟨by unfold impl_workersFit.f; split; (· simp; omega); rfl⟩
        rw [if_neg (fun h => h1 h.2.1)]
        clear h1
        obtain ⟨n, rfl⟩ := Int.eq_ofNat_of_zero_le h0
        go_enter Try.func36, Try.ntmps36
        go_wp2_with (first
            | (go_at_call 77; (with_reducible refine (impl_workersFit.calls a1 false _ hw1.out).mono ?_); rintro e w' ⟨rfl, ⟨nd, rfl⟩⟩))
        go_ret
        exact ⟨_, rfl, Kd.R_nil _ _ _ _ _, pw_below_drewN (Below.refl _ _) _⟩
    · rw [if_neg (fun h => h0' h.1.2)]
      obtain ⟨n, rfl⟩ := Int.eq_ofNat_of_zero_le h0
      go_enter Try.func36, Try.ntmps36
      go_wp2
      go_ret
      exact ⟨_, rfl, Kd.R_nil _ _ _ _ _, Below.refl _ _⟩
  · rw [if_neg (fun h => h0 h.1.1)]
    go_enter Try.func36, Try.ntmps36
    go_wp2
    go_ret
    exact ⟨_, rfl, Kd.R_nil _ _ _ _ _, Below.refl _ _⟩

/-! ### spec_l1In: function 68 -/
def spec_l1In.f (a0 : Int) (a1 : Int) (a2 : Int) : Option (Bool) := if a0 ≥ a1 then (some (decide (a0 ≤ a2))) else (some false)
set_option maxHeartbeats 8000000 in
set_option maxRecDepth 100000 in
theorem spec_l1In.calls (a0 : Int) (a1 : Int) (a2 : Int) (r : Bool) (w : World) (h : spec_l1In.f a0 a1 a2 = some r) :
    Calls Try.prog 68 #[.int .i64 a0, .int .i64 a1, .int .i64 a2] w fun e w' => e = .returned (.bool r) ∧ Drawn0 w w' := by
  have H : (if a0 ≥ a1 then (some (decide (a0 ≤ a2))) else (some false)) = some r := h
  clear h
  by_cases c4 : a0 ≥ a1
  · rw [if_pos c4] at H
    have c4b0 : decide (a1 ≤ a0) = true := decide_eq_true c4
    clear c4
    obtain rfl := Option.some.inj H
    go_enter Try.func68, Try.ntmps68
    go_wp2
    go_ret
    exact ⟨by first | rfl | (simp; done) | (simp [*]; done), by repeat (first | exact Drawn0.refl _ | apply Drawn0.step)⟩
  · rw [if_neg c4] at H
    have c4b0 : decide (a1 ≤ a0) = false := decide_eq_false c4
    clear c4
    obtain rfl := Option.some.inj H
    go_enter Try.func68, Try.ntmps68
    go_wp2
    go_ret
    exact ⟨by first | rfl | (simp; done) | (simp [*]; done), by repeat (first | exact Drawn0.refl _ | apply Drawn0.step)⟩

/-! ### spec_OwnerOf: function 80 -/
def spec_OwnerOf.f (a0 : Int) (a1 : Int) : Option (Int) := (spec_l1In.f a0 0 15).bind fun t137 => (if t137 = true then ((spec_l1In.f a1 1 6).bind fun t138 => (if t138 = true then (if a1 = 0 then (none) else (some (Int.tmod (Int.tmod (wrap64 ((wrap64 (13 * a0)) + 5)) 17) a1))) else (some (-1)))) else (some (-1)))
set_option maxHeartbeats 8000000 in
set_option maxRecDepth 100000 in
theorem spec_OwnerOf.calls (a0 : Int) (a1 : Int) (r : Int) (w : World) (h : spec_OwnerOf.f a0 a1 = some r) :
    Calls Try.prog 80 #[.int .i64 a0, .int .i64 a1] w fun e w' => e = .returned (.int .i64 r) ∧ Drawn0 w w' := by
  have H : ((spec_l1In.f a0 0 15).bind fun t137 => (if t137 = true then ((spec_l1In.f a1 1 6).bind fun t138 => (if t138 = true then (if a1 = 0 then (none) else (some (Int.tmod (Int.tmod (wrap64 ((wrap64 (13 * a0)) + 5)) 17) a1))) else (some (-1)))) else (some (-1)))) = some r := h
  clear h
  replace H := Option.bind_eq_some_iff.mp H
  obtain ⟨t137, A30, H⟩ := H
  replace H : (if t137 = true then ((spec_l1In.f a1 1 6).bind fun t138 => (if t138 = true then (if a1 = 0 then (none) else (some (Int.tmod (Int.tmod (wrap64 ((wrap64 (13 * a0)) + 5)) 17) a1))) else (some (-1)))) else (some (-1))) = some r := H
  have A3 := Aside0.mk A30
  clear A30
  by_cases c4 : t137 = true
  · subst c4
    have H1 : ((spec_l1In.f a1 1 6).bind fun t138 => (if t138 = true then (if a1 = 0 then (none) else (some (Int.tmod (Int.tmod (wrap64 ((wrap64 (13 * a0)) + 5)) 17) a1))) else (some (-1)))) = some r := by rw [if_pos rfl] at H; exact H
    clear H
    have H := H1
    clear H1
    replace H := Option.bind_eq_some_iff.mp H
    obtain ⟨t138, A50, H⟩ := H
    replace H : (if t138 = true then (if a1 = 0 then (none) else (some (Int.tmod (Int.tmod (wrap64 ((wrap64 (13 * a0)) + 5)) 17) a1))) else (some (-1))) = some r := H
    have A5 := Aside0.mk A50
    clear A50
    by_cases c6 : t138 = true
    · subst c6
      have H1 : (if a1 = 0 then (none) else (some (Int.tmod (Int.tmod (wrap64 ((wrap64 (13 * a0)) + 5)) 17) a1))) = some r := by rw [if_pos rfl] at H; exact H
      clear H
      have H := H1
      clear H1
      by_cases c7 : a1 = 0
      · rw [if_pos c7] at H
        exact absurd H (by simp)
      · rw [if_neg c7] at H
        have c7b0 : (a1 == 0) = false := beq_eq_false_iff_ne.mpr c7
        have c7b1 : (a1 != 0) = true := bne_iff_ne.mpr c7
        obtain rfl := Option.some.inj H
        go_enter Try.func80, Try.ntmps80
        go_wp2_with (first | ((with_reducible refine gate_callee (f := 68) rfl ?_); refine goesL_ (some 6) rfl rfl Try.func68 (by kernel_rfl) rfl #[.int .i64 a0, .int .i64 0, .int .i64 15] rfl (by (try simp only [List.map_toArray, List.map_cons, List.map_nil]); first | done | rfl | (simp only [List.length_drop, List.length_take]; rfl)) ?_; (with_reducible refine (spec_l1In.calls a0 0 15 true _ A3.out).mono ?_); rintro e w' ⟨rfl, ⟨nd, rfl⟩⟩; refine ⟨_, rfl, ?_⟩) | (go_at_call 68; (with_reducible refine (spec_l1In.calls a1 1 6 true _ A5.out).mono ?_); rintro e w' ⟨rfl, ⟨nd, rfl⟩⟩))
        go_ret
        exact ⟨by first | rfl | (simp; done) | (simp [*]; done), by repeat (first | exact Drawn0.refl _ | apply Drawn0.step)⟩
    · replace c6 := Bool.eq_false_iff.mpr c6
      subst c6
      have H1 : (some (-1)) = some r := by rw [if_neg (show ¬ (false = true) by decide)] at H; exact H
      clear H
      have H := H1
      clear H1
      obtain rfl := Option.some.inj H
      go_enter Try.func80, Try.ntmps80
      go_wp2_with (first | ((with_reducible refine gate_callee (f := 68) rfl ?_); refine goesL_ (some 6) rfl rfl Try.func68 (by kernel_rfl) rfl #[.int .i64 a0, .int .i64 0, .int .i64 15] rfl (by (try simp only [List.map_toArray, List.map_cons, List.map_nil]); first | done | rfl | (simp only [List.length_drop, List.length_take]; rfl)) ?_; (with_reducible refine (spec_l1In.calls a0 0 15 true _ A3.out).mono ?_); rintro e w' ⟨rfl, ⟨nd, rfl⟩⟩; refine ⟨_, rfl, ?_⟩) | (go_at_call 68; (with_reducible refine (spec_l1In.calls a1 1 6 false _ A5.out).mono ?_); rintro e w' ⟨rfl, ⟨nd, rfl⟩⟩))
      go_ret
      exact ⟨by first | rfl | (simp; done) | (simp [*]; done), by repeat (first | exact Drawn0.refl _ | apply Drawn0.step)⟩
  · replace c4 := Bool.eq_false_iff.mpr c4
    subst c4
    have H1 : (some (-1)) = some r := by rw [if_neg (show ¬ (false = true) by decide)] at H; exact H
    clear H
    have H := H1
    clear H1
    obtain rfl := Option.some.inj H
    go_enter Try.func80, Try.ntmps80
    go_wp2_with (first | ((with_reducible refine gate_callee (f := 68) rfl ?_); refine goesL_ (some 6) rfl rfl Try.func68 (by kernel_rfl) rfl #[.int .i64 a0, .int .i64 0, .int .i64 15] rfl (by (try simp only [List.map_toArray, List.map_cons, List.map_nil]); first | done | rfl | (simp only [List.length_drop, List.length_take]; rfl)) ?_; (with_reducible refine (spec_l1In.calls a0 0 15 false _ A3.out).mono ?_); rintro e w' ⟨rfl, ⟨nd, rfl⟩⟩; refine ⟨_, rfl, ?_⟩))
    go_ret
    exact ⟨by first | rfl | (simp; done) | (simp [*]; done), by repeat (first | exact Drawn0.refl _ | apply Drawn0.step)⟩

/-! ### spec_MovedVertices: function 37 -/
mutual
def spec_MovedVertices.l0 : Nat → Int → Int → Int → List Int → Int → Option (List Int)
  | 0, _, _, _, _, _ => none
  | k + 1, x0, x1, x2, x7, x8 => if x8 < x0 then ((spec_l1In.f x0 0 16).bind fun t142 => (if t142 = true then ((spec_l1In.f x1 1 6).bind fun t143 => (if t143 = true then ((spec_l1In.f x2 1 6).bind fun t144 => (spec_MovedVertices.j1 k x0 x1 x2 x7 x8 t144)) else (spec_MovedVertices.j1 k x0 x1 x2 x7 x8 false))) else (spec_MovedVertices.j1 k x0 x1 x2 x7 x8 false))) else (spec_MovedVertices.j1 k x0 x1 x2 x7 x8 false)
def spec_MovedVertices.j1 : Nat → Int → Int → Int → List Int → Int → Bool → Option (List Int)
  | 0, _, _, _, _, _, _ => none
  | k + 1, x0, x1, x2, x7, x8, x24 => if x24 = true then ((spec_OwnerOf.f x8 x1).bind fun t145 => ((spec_OwnerOf.f x8 x2).bind fun t146 => (if t145 = t146 then (spec_MovedVertices.l0 k x0 x1 x2 x7 (wrap64 (x8 + 1))) else (if x7.length < 17592186044416 then (spec_MovedVertices.l0 k x0 x1 x2 (x7 ++ [x8]) (wrap64 (x8 + 1))) else (none))))) else (some x7)
end
def spec_MovedVertices.f (k : Nat) (a0 : Int) (a1 : Int) (a2 : Int) : Option (List Int) := spec_MovedVertices.l0 k a0 a1 a2 (([] : List Int)) 0
theorem spec_MovedVertices.mono_l : ∀ k, (∀ y0 y1 y2 y3 y4, LeO (spec_MovedVertices.l0 k y0 y1 y2 y3 y4) (spec_MovedVertices.l0 (k + 1) y0 y1 y2 y3 y4)) ∧ (∀ y0 y1 y2 y3 y4 y5, LeO (spec_MovedVertices.j1 k y0 y1 y2 y3 y4 y5) (spec_MovedVertices.j1 (k + 1) y0 y1 y2 y3 y4 y5))
  | 0 => ⟨fun _ _ _ _ _ r h => by simp [spec_MovedVertices.l0] at h, fun _ _ _ _ _ _ r h => by simp [spec_MovedVertices.j1] at h⟩
  | k + 1 => by
    obtain ⟨ih0, ih1⟩ := spec_MovedVertices.mono_l k
    refine ⟨?_, ?_⟩
    · intro y0 y1 y2 y3 y4
      unfold spec_MovedVertices.l0
      repeat' first
      | (with_reducible exact ih0 _ _ _ _ _)
      | (with_reducible exact ih1 _ _ _ _ _ _)
      | (with_reducible exact LeO.refl _)
      | (with_reducible exact LeO.none _)
      | (with_reducible refine LeO.ite ?_ ?_)
      | (with_reducible refine LeO.bind ?_ (fun _ => ?_))
      | exact ih0 _ _ _ _ _
      | exact ih1 _ _ _ _ _ _
      | exact LeO.none _
      | refine LeO.ite ?_ ?_
      | refine LeO.bind ?_ (fun _ => ?_)
    · intro y0 y1 y2 y3 y4 y5
      unfold spec_MovedVertices.j1
      repeat' first
      | (with_reducible exact ih0 _ _ _ _ _)
      | (with_reducible exact ih1 _ _ _ _ _ _)
      | (with_reducible exact LeO.refl _)
      | (with_reducible exact LeO.none _)
      | (with_reducible refine LeO.ite ?_ ?_)
      | (with_reducible refine LeO.bind ?_ (fun _ => ?_))
      | exact ih0 _ _ _ _ _
      | exact ih1 _ _ _ _ _ _
      | exact LeO.none _
      | refine LeO.ite ?_ ?_
      | refine LeO.bind ?_ (fun _ => ?_)
theorem spec_MovedVertices.mono : ∀ a0 a1 a2 k, LeO (spec_MovedVertices.f k a0 a1 a2) (spec_MovedVertices.f (k + 1) a0 a1 a2) := by
  intro a0 a1 a2 k
  obtain ⟨ih0, ih1⟩ := spec_MovedVertices.mono_l k
  unfold spec_MovedVertices.f
  repeat' first
      | (with_reducible exact ih0 _ _ _ _ _)
      | (with_reducible exact ih1 _ _ _ _ _ _)
      | (with_reducible exact LeO.refl _)
      | (with_reducible exact LeO.none _)
      | (with_reducible refine LeO.ite ?_ ?_)
      | (with_reducible refine LeO.bind ?_ (fun _ => ?_))
      | exact ih0 _ _ _ _ _
      | exact ih1 _ _ _ _ _ _
      | exact LeO.none _
      | refine LeO.ite ?_ ?_
      | refine LeO.bind ?_ (fun _ => ?_)
set_option maxHeartbeats 8000000 in
set_option maxRecDepth 100000 in
theorem spec_MovedVertices.calls (k : Nat) (a0 : Int) (a1 : Int) (a2 : Int) (r : List Int) (w : World) (h : spec_MovedVertices.f k a0 a1 a2 = some r) :
    Calls Try.prog 37 #[.int .i64 a0, .int .i64 a1, .int .i64 a2] w fun e w' => ∃ v0_ : Value, e = .returned (v0_) ∧ Kd.R (Kd.int .i64) 3 w' w.heap.size (fun _ => True) v0_ r ∧ Below w.heap.size w w' := by
  have HB := Aside0.mk (Below.refl w.heap.size w)
  have H : (spec_MovedVertices.l0 k a0 a1 a2 (([] : List Int)) 0) = some r := h
  clear h
  obtain ⟨y139, hy139⟩ : ∃ y_ : List Int, y_ = (([] : List Int)) := ⟨_, rfl⟩
  replace H : (spec_MovedVertices.l0 k a0 a1 a2 y139 0) = some r := by first | (rw [hy139]; with_reducible exact H) | (have H2_ := (Option.bind_some _ _).symm.trans H; rw [hy139]; with_reducible exact H2_) | (have H2_ := (Option.bind_some _ _).symm.trans H; with_reducible exact H2_) | with_reducible exact H | (rw [hy139]; exact H) | exact H
  have Ny139 := Aside0.mk hy139
  clear hy139
  have H' := Aside0.mk H
  clear H
  go_enter Try.func37, Try.ntmps37
  go_wp2_with (first | ((with_reducible refine gate_dst (N := 9) rfl ?_); refine Kd.R_lit (Kd.int .i64) _ 3 ?hg (N := 9) ?hd (xs := ([] : List Int)) (inner := []) (ok := fun _ => True) (okp := fun _ => True) ?hr ?hp (fun _ hk => hk) trivial (Below.refl _ _) (Nat.le_refl _) (by simp) ?_; (case hd => rfl); (case hg => rfl); (case hr => first | (go_simp; done) | (go_simp; rfl)); (case hp => exact (Reps.none _ _)); intro v140 w4 ho5 hb hg_ hnew_; clear hg_ hnew_; (first | rw [← Ny139.out] at ho5 | (simp only [Int.reduceToNat] at ho5; rw [← Ny139.out] at ho5)); have n0_ := Aside0.mk (Kd.R_lower ho5 (below_size (by repeat (first | (with_reducible first | exact HB.out | apply below_alloc | apply pw_below_drewN | apply below_drew1) | exact HB.out)))); have n1_ := Aside0.mk (below_step (by repeat (first | (with_reducible first | exact HB.out | apply below_alloc | apply pw_below_drewN | apply below_drew1) | exact HB.out)) hb); clear HB; have HO141 := n0_; have HB := n1_; clear n0_ n1_; clear hb ho5))
  go_loopg [7, 8] k (fun kq v7 v8 w' => ∃ (x7_1 : List Int) (x8_1 : Int), v8 = .int .i64 x8_1 ∧ Aside0 (spec_MovedVertices.l0 kq a0 a1 a2 x7_1 x8_1 = some r) ∧ Aside0 (kq ≤ k) ∧ Aside0 (Kd.R (Kd.int .i64) 3 w' w.heap.size (fun _ => True) v7 x7_1) ∧ Aside0 (Below w.heap.size w w'))
  case atStart => exact ⟨(y139), (0), (by first | rfl | (simp; done) | (simp [*]; done)), H', ⟨Nat.le_refl _⟩, ⟨by (with_reducible repeat (first | apply Kd.R_alloc | apply Kd.R_drewN | apply Kd.R_drew)); exact HO141.out⟩, ⟨by repeat (first | (with_reducible first | exact HB.out | apply below_alloc | apply pw_below_drewN | apply below_drew1) | exact HB.out)⟩⟩
  case round =>
    clear H'
    try clear p2
    try clear c3
    obtain ⟨x7_1, x8_1, rfl, HA, HK1, HO_7, HB⟩ := hrel
    cases gk with
    | zero => exact absurd HA.out (by simp [spec_MovedVertices.l0])
    | succ k1 =>
      have H := HA.out
      clear HA
      simp only [spec_MovedVertices.l0] at H
      have HC6 := Aside0.mk H
      clear H
      go_upto_region 3 with (fail)
      go_cut [24] (fun v24 wc => ∃ (kq : Nat) (x24_5 : Bool), v24 = .bool x24_5 ∧ Aside0 (spec_MovedVertices.j1 kq a0 a1 a2 x7_1 x8_1 x24_5 = some r) ∧ Aside0 (kq ≤ k1) ∧ Aside0 (Kd.R (Kd.int .i64) 3 wc w.heap.size (fun _ => True) u7 x7_1) ∧ Aside0 (Below w.heap.size w wc))
      case first =>
        have H := HC6.out
        clear HC6
        by_cases c7 : x8_1 < a0
        · rw [if_pos c7] at H
          have c7b0 : decide (x8_1 < a0) = true := decide_eq_true c7
          clear c7
          (first | rw [c7b0] | (simp only [i64_w, i32_w]; rw [c7b0]) | skip)
          replace H := Option.bind_eq_some_iff.mp H
          obtain ⟨t142, A80, H⟩ := H
          replace H : (if t142 = true then ((spec_l1In.f a1 1 6).bind fun t143 => (if t143 = true then ((spec_l1In.f a2 1 6).bind fun t144 => (spec_MovedVertices.j1 k1 a0 a1 a2 x7_1 x8_1 t144)) else (spec_MovedVertices.j1 k1 a0 a1 a2 x7_1 x8_1 false))) else (spec_MovedVertices.j1 k1 a0 a1 a2 x7_1 x8_1 false)) = some r := H
          have A8 := Aside0.mk A80
          clear A80
          by_cases c9 : t142 = true
          · subst c9
            have H1 : ((spec_l1In.f a1 1 6).bind fun t143 => (if t143 = true then ((spec_l1In.f a2 1 6).bind fun t144 => (spec_MovedVertices.j1 k1 a0 a1 a2 x7_1 x8_1 t144)) else (spec_MovedVertices.j1 k1 a0 a1 a2 x7_1 x8_1 false))) = some r := by rw [if_pos rfl] at H; exact H
            clear H
            have H := H1
            clear H1
            replace H := Option.bind_eq_some_iff.mp H
            obtain ⟨t143, A100, H⟩ := H
            replace H : (if t143 = true then ((spec_l1In.f a2 1 6).bind fun t144 => (spec_MovedVertices.j1 k1 a0 a1 a2 x7_1 x8_1 t144)) else (spec_MovedVertices.j1 k1 a0 a1 a2 x7_1 x8_1 false)) = some r := H
            have A10 := Aside0.mk A100
            clear A100
            by_cases c11 : t143 = true
            · subst c11
              have H1 : ((spec_l1In.f a2 1 6).bind fun t144 => (spec_MovedVertices.j1 k1 a0 a1 a2 x7_1 x8_1 t144)) = some r := by rw [if_pos rfl] at H; exact H
              clear H
              have H := H1
              clear H1
              replace H := Option.bind_eq_some_iff.mp H
              obtain ⟨t144, A120, H⟩ := H
              replace H : (spec_MovedVertices.j1 k1 a0 a1 a2 x7_1 x8_1 t144) = some r := H
              have A12 := Aside0.mk A120
              clear A120
              have H' := Aside0.mk H
              clear H
              go_wp2_with (first | (go_at_call 68; (with_reducible refine (spec_l1In.calls a0 0 16 true _ A8.out).mono ?_); rintro e w' ⟨rfl, ⟨nd, rfl⟩⟩) | (go_at_call 68; (with_reducible refine (spec_l1In.calls a1 1 6 true _ A10.out).mono ?_); rintro e w' ⟨rfl, ⟨nd, rfl⟩⟩) | (go_at_call 68; (with_reducible refine (spec_l1In.calls a2 1 6 t144 _ A12.out).mono ?_); rintro e w' ⟨rfl, ⟨nd, rfl⟩⟩))
              go_meet
              case rel => exact ⟨_, (t144), (by first | rfl | (simp; done) | (simp [*]; done)), H', ⟨by have := HK1.out; first | omega | exact Nat.le_refl _⟩, ⟨by (with_reducible repeat (first | apply Kd.R_alloc | apply Kd.R_drewN | apply Kd.R_drew)); exact HO_7.out⟩, ⟨by repeat (first | (with_reducible first | exact HB.out | apply below_alloc | apply pw_below_drewN | apply below_drew1) | exact HB.out)⟩⟩
            · replace c11 := Bool.eq_false_iff.mpr c11
              subst c11
              have H1 : (spec_MovedVertices.j1 k1 a0 a1 a2 x7_1 x8_1 false) = some r := by rw [if_neg (show ¬ (false = true) by decide)] at H; exact H
              clear H
              have H := H1
              clear H1
              have H' := Aside0.mk H
              clear H
              go_wp2_with (first | (go_at_call 68; (with_reducible refine (spec_l1In.calls a0 0 16 true _ A8.out).mono ?_); rintro e w' ⟨rfl, ⟨nd, rfl⟩⟩) | (go_at_call 68; (with_reducible refine (spec_l1In.calls a1 1 6 false _ A10.out).mono ?_); rintro e w' ⟨rfl, ⟨nd, rfl⟩⟩))
              go_meet
              case rel => exact ⟨_, (false), (by first | rfl | (simp; done) | (simp [*]; done)), H', ⟨by have := HK1.out; first | omega | exact Nat.le_refl _⟩, ⟨by (with_reducible repeat (first | apply Kd.R_alloc | apply Kd.R_drewN | apply Kd.R_drew)); exact HO_7.out⟩, ⟨by repeat (first | (with_reducible first | exact HB.out | apply below_alloc | apply pw_below_drewN | apply below_drew1) | exact HB.out)⟩⟩
          · replace c9 := Bool.eq_false_iff.mpr c9
            subst c9
            have H1 : (spec_MovedVertices.j1 k1 a0 a1 a2 x7_1 x8_1 false) = some r := by rw [if_neg (show ¬ (false = true) by decide)] at H; exact H
            clear H
            have H := H1
            clear H1
            have H' := Aside0.mk H
            clear H
            go_wp2_with (first | (go_at_call 68; (with_reducible refine (spec_l1In.calls a0 0 16 false _ A8.out).mono ?_); rintro e w' ⟨rfl, ⟨nd, rfl⟩⟩))
            go_meet
            case rel => exact ⟨_, (false), (by first | rfl | (simp; done) | (simp [*]; done)), H', ⟨by have := HK1.out; first | omega | exact Nat.le_refl _⟩, ⟨by (with_reducible repeat (first | apply Kd.R_alloc | apply Kd.R_drewN | apply Kd.R_drew)); exact HO_7.out⟩, ⟨by repeat (first | (with_reducible first | exact HB.out | apply below_alloc | apply pw_below_drewN | apply below_drew1) | exact HB.out)⟩⟩
        · rw [if_neg c7] at H
          have c7b0 : decide (x8_1 < a0) = false := decide_eq_false c7
          clear c7
          (first | rw [c7b0] | (simp only [i64_w, i32_w]; rw [c7b0]) | skip)
          have H' := Aside0.mk H
          clear H
          go_wp2
          go_meet
          case rel => exact ⟨_, (false), (by first | rfl | (simp; done) | (simp [*]; done)), H', ⟨by have := HK1.out; first | omega | exact Nat.le_refl _⟩, ⟨by (with_reducible repeat (first | apply Kd.R_alloc | apply Kd.R_drewN | apply Kd.R_drew)); exact HO_7.out⟩, ⟨by repeat (first | (with_reducible first | exact HB.out | apply below_alloc | apply pw_below_drewN | apply below_drew1) | exact HB.out)⟩⟩
      case rest =>
        clear HC6
        try clear c1
        try clear p2
        try clear c3
        try clear c7
        try clear c7b0
        try clear c9
        try clear c11
        try clear p2
        obtain ⟨kq, x24_5, rfl, HA, HJ5, HO_7, HB⟩ := hcut
        cases kq with
        | zero => exact absurd HA.out (by simp [spec_MovedVertices.j1])
        | succ kj5 =>
          have H := HA.out
          clear HA
          simp only [spec_MovedVertices.j1] at H
          by_cases c13 : x24_5 = true
          · subst c13
            have H1 : ((spec_OwnerOf.f x8_1 a1).bind fun t145 => ((spec_OwnerOf.f x8_1 a2).bind fun t146 => (if t145 = t146 then (spec_MovedVertices.l0 kj5 a0 a1 a2 x7_1 (wrap64 (x8_1 + 1))) else (if x7_1.length < 17592186044416 then (spec_MovedVertices.l0 kj5 a0 a1 a2 (x7_1 ++ [x8_1]) (wrap64 (x8_1 + 1))) else (none))))) = some r := by rw [if_pos rfl] at H; exact H
            clear H
            have H := H1
            clear H1
            replace H := Option.bind_eq_some_iff.mp H
            obtain ⟨t145, A140, H⟩ := H
            replace H : ((spec_OwnerOf.f x8_1 a2).bind fun t146 => (if t145 = t146 then (spec_MovedVertices.l0 kj5 a0 a1 a2 x7_1 (wrap64 (x8_1 + 1))) else (if x7_1.length < 17592186044416 then (spec_MovedVertices.l0 kj5 a0 a1 a2 (x7_1 ++ [x8_1]) (wrap64 (x8_1 + 1))) else (none)))) = some r := H
            have A14 := Aside0.mk A140
            clear A140
            replace H := Option.bind_eq_some_iff.mp H
            obtain ⟨t146, A150, H⟩ := H
            replace H : (if t145 = t146 then (spec_MovedVertices.l0 kj5 a0 a1 a2 x7_1 (wrap64 (x8_1 + 1))) else (if x7_1.length < 17592186044416 then (spec_MovedVertices.l0 kj5 a0 a1 a2 (x7_1 ++ [x8_1]) (wrap64 (x8_1 + 1))) else (none))) = some r := H
            have A15 := Aside0.mk A150
            clear A150
            by_cases c16 : t145 = t146
            · rw [if_pos c16] at H
              have c16b0 : (t145 == t146) = true := beq_iff_eq.mpr c16
              have c16b1 : (t145 != t146) = false := bne_eq_false_iff_eq.mpr c16
              clear c16
              have H' := Aside0.mk H
              clear H
              go_wp2_with (first | ((with_reducible refine gate_callee (f := 80) rfl ?_); refine goesL_ (some 29) rfl rfl Try.func80 (by kernel_rfl) rfl #[.int .i64 x8_1, .int .i64 a1] rfl (by (try simp only [List.map_toArray, List.map_cons, List.map_nil]); first | done | rfl | (simp only [List.length_drop, List.length_take]; rfl)) ?_; (with_reducible refine (spec_OwnerOf.calls x8_1 a1 t145 _ A14.out).mono ?_); rintro e w' ⟨rfl, ⟨nd, rfl⟩⟩; refine ⟨_, rfl, ?_⟩) | ((with_reducible refine gate_callee (f := 80) rfl ?_); refine goesL_ (some 32) rfl rfl Try.func80 (by kernel_rfl) rfl #[.int .i64 x8_1, .int .i64 a2] rfl (by (try simp only [List.map_toArray, List.map_cons, List.map_nil]); first | done | rfl | (simp only [List.length_drop, List.length_take]; rfl)) ?_; (with_reducible refine (spec_OwnerOf.calls x8_1 a2 t146 _ A15.out).mono ?_); rintro e w' ⟨rfl, ⟨nd, rfl⟩⟩; refine ⟨_, rfl, ?_⟩))
              go_roundg kj5
              case measure => have := HK1.out; have := HJ5.out; omega
              case rel => exact ⟨(x7_1), (wrap64 (x8_1 + 1)), (by first | rfl | (simp; done) | (simp [*]; done)), H', ⟨by have := HK1.out; have := HJ5.out; omega⟩, ⟨by (with_reducible repeat (first | apply Kd.R_alloc | apply Kd.R_drewN | apply Kd.R_drew)); exact HO_7.out⟩, ⟨by repeat (first | (with_reducible first | exact HB.out | apply below_alloc | apply pw_below_drewN | apply below_drew1) | exact HB.out)⟩⟩
            · rw [if_neg c16] at H
              have c16b0 : (t145 == t146) = false := beq_eq_false_iff_ne.mpr c16
              have c16b1 : (t145 != t146) = true := bne_iff_ne.mpr c16
              by_cases c17 : x7_1.length < 17592186044416
              · rw [if_pos c17] at H
                have LMc17 := Aside0.mk c17
                clear c17
                obtain ⟨y147, hy147⟩ : ∃ y_ : List Int, y_ = (x7_1 ++ [x8_1]) := ⟨_, rfl⟩
                replace H : (spec_MovedVertices.l0 kj5 a0 a1 a2 y147 (wrap64 (x8_1 + 1))) = some r := by first | (rw [hy147]; with_reducible exact H) | (have H2_ := (Option.bind_some _ _).symm.trans H; rw [hy147]; with_reducible exact H2_) | (have H2_ := (Option.bind_some _ _).symm.trans H; with_reducible exact H2_) | with_reducible exact H | (rw [hy147]; exact H) | exact H
                have Ny147 := Aside0.mk hy147
                clear hy147
                have H' := Aside0.mk H
                clear H
                go_wp2_with (first | ((with_reducible refine gate_callee (f := 80) rfl ?_); refine goesL_ (some 29) rfl rfl Try.func80 (by kernel_rfl) rfl #[.int .i64 x8_1, .int .i64 a1] rfl (by (try simp only [List.map_toArray, List.map_cons, List.map_nil]); first | done | rfl | (simp only [List.length_drop, List.length_take]; rfl)) ?_; (with_reducible refine (spec_OwnerOf.calls x8_1 a1 t145 _ A14.out).mono ?_); rintro e w' ⟨rfl, ⟨nd, rfl⟩⟩; refine ⟨_, rfl, ?_⟩) | ((with_reducible refine gate_callee (f := 80) rfl ?_); refine goesL_ (some 32) rfl rfl Try.func80 (by kernel_rfl) rfl #[.int .i64 x8_1, .int .i64 a2] rfl (by (try simp only [List.map_toArray, List.map_cons, List.map_nil]); first | done | rfl | (simp only [List.length_drop, List.length_take]; rfl)) ?_; (with_reducible refine (spec_OwnerOf.calls x8_1 a2 t146 _ A15.out).mono ?_); rintro e w' ⟨rfl, ⟨nd, rfl⟩⟩; refine ⟨_, rfl, ?_⟩) | ((with_reducible refine gate_builtin (b := .append) (xs := #[.tmp 34, .tmp 36]) rfl ?_); at_builtin; refine Kd.R_append (Kd.int .i64) (w0 := w) w.heap.size rfl (.tmp 34) (.tmp 36) 32 3 (.int .i64 0) 8 rfl Try.underlying32 info3 rfl (by decide) (by omega) u7 x7_1 x8_1 [.int .i64 x8_1] (fun _ => True) (fun _ => False) rfl rfl ?aP (fun _ hk => hk.elim) ?aF ?aO ?aB ?aS ?aL ?_; (case aP => exact rfl); (case aB => exact (by repeat (first | (with_reducible first | exact HB.out | apply below_alloc | apply pw_below_drewN | apply below_drew1) | exact HB.out))); (case aF => exact (fun _ _ => trivial)); (case aO => exact (by (with_reducible repeat (first | apply Kd.R_alloc | apply Kd.R_drewN | apply Kd.R_drew)); exact HO_7.out)); (case aS => exact (below_size (by repeat (first | (with_reducible first | exact HB.out | apply below_alloc | apply pw_below_drewN | apply below_drew1) | exact HB.out)))); (case aL => have := LMc17.out; omega); intro v148 w18 ho hb hg hat; rw [← Ny147.out] at ho; have n0_ := Aside0.mk (hb); have n1_ := Aside0.mk (ho); clear HB; clear HO_7; have HB := n0_; have HO149 := n1_; clear n0_ n1_; clear ho hb hg hat))
                go_roundg kj5
                case measure => have := HK1.out; have := HJ5.out; omega
                case rel => exact ⟨(y147), (wrap64 (x8_1 + 1)), (by first | rfl | (simp; done) | (simp [*]; done)), H', ⟨by have := HK1.out; have := HJ5.out; omega⟩, ⟨by (with_reducible repeat (first | apply Kd.R_alloc | apply Kd.R_drewN | apply Kd.R_drew)); exact HO149.out⟩, ⟨by repeat (first | (with_reducible first | exact HB.out | apply below_alloc | apply pw_below_drewN | apply below_drew1) | exact HB.out)⟩⟩
              · rw [if_neg c17] at H
                exact absurd H (by simp)
          · replace c13 := Bool.eq_false_iff.mpr c13
            subst c13
            have H1 : (some x7_1) = some r := by rw [if_neg (show ¬ (false = true) by decide)] at H; exact H
            clear H
            have H := H1
            clear H1
            obtain rfl := Option.some.inj H
            go_wp2
            go_ret
            exact ⟨_, by first | rfl | (simp [errW_none, errW_some] <;> rfl) | (simp [*, errW_none, errW_some] <;> rfl), by (with_reducible repeat (first | apply Kd.R_alloc | apply Kd.R_drewN | apply Kd.R_drew)); exact HO_7.out, by repeat (first | (with_reducible first | exact HB.out | apply below_alloc | apply pw_below_drewN | apply below_drew1) | exact HB.out)⟩


/-! ### impl_OwnerOf: function 38 -/
theorem kk_index {P : Program} (t e : TypeId) (n : Nat) (k : IntKind) (cs : Array Value) (i : Nat) (v : Value) (h : P.underlying t = some (.array n e)) (he : P.underlying e = some (.int k)) (hs : (P.info? e).map (·.size) = some 1) (hi : i < n) (hv : cs[i]? = some v) (w : World) : (Instr.index t (.agg cs) (.int .i64 i)).run P w = .ok v w := by
  cases hq : P.info? e with
  | none => simp [hq] at hs
  | some q =>
    have h1 : q.size = 1 := by simpa [hq] using hs
    simp [Instr.index, run_underlying h, asIntOf, hi, part, isAgg, run_underlying he, sizeOf, typeInfo, hq, h1, hv]
def impl_OwnerOf.f (a0 a1 : Int) : Option Int := some (if (0 ≤ a0 ∧ a0 ≤ 15) ∧ 1 ≤ a1 ∧ a1 ≤ 6 then ((ownN a1.toNat a0.toNat : Nat) : Int) else -1)
set_option maxHeartbeats 1000000 in
set_option maxRecDepth 100000 in
theorem impl_OwnerOf.calls (a0 a1 : Int) (r : Int) (w : World) (h : impl_OwnerOf.f a0 a1 = some r) :
    Calls Try.prog 38 #[.int .i64 a0, .int .i64 a1] w fun e w' => e = .returned (.int .i64 r) ∧ Below w.heap.size w w' := by
  obtain rfl := Option.some.inj h
  clear h
  by_cases h0 : 0 ≤ a0
  · by_cases h0' : a0 ≤ 15
    · by_cases h1 : 1 ≤ a1 ∧ a1 ≤ 6
      · have hw1 : Aside0 (impl_workersFit.f a1 = some true) := ⟨by simp [impl_workersFit.f, h1]⟩
        rw [if_pos ⟨⟨h0, h0'⟩, h1⟩]
        obtain ⟨v, rfl⟩ := Int.eq_ofNat_of_zero_le h0
        obtain ⟨b, rfl⟩ := Int.eq_ofNat_of_zero_le (a := a1) (by omega)
        obtain ⟨h1a, h1b⟩ := h1
        have hv : v < (tbl b 16).size := by rw [tbl_size]; omega
        have hidx := fun w => kk_index (P := Try.prog) 94 3 16 .i64 (tbl b 16) v (.int .i64 (ownN b v : Nat)) Try.underlying94 Try.underlying3 (by kernel_rfl) (by omega) (by rw [tbl_get _ _ _ (by omega), if_pos (by omega)]) w
        have hg : Aside0 ((tbl b 16)[v]? = some (.int .i64 (ownN b v : Nat))) := ⟨by rw [tbl_get _ _ _ (by omega), if_pos (by omega)]⟩
        rw [Int.toNat_natCast, Int.toNat_natCast]
        go_enter Try.func38, Try.ntmps38
        go_wp2_with (first
            | (go_at_call 77; (with_reducible refine (impl_workersFit.calls b true _ hw1.out).mono ?_); rintro e w' ⟨rfl, ⟨nd, rfl⟩⟩)
            | (go_at_call 79; (with_reducible refine (ownerTable_calls b (by omega) (by omega) _).mono ?_); rintro e w1 ⟨rfl, hb1⟩))
        go_ret
        exact ⟨rfl, below_then (pw_below_drewN (Below.refl _ _) _) (by simp) hb1⟩
      · have hw1 : Aside0 (impl_workersFit.f a1 = some false) := ⟨by unfold impl_workersFit.f; split; (· simp; omega); rfl⟩
        rw [if_neg (fun h => h1 h.2)]
        clear h1
        obtain ⟨n, rfl⟩ := Int.eq_ofNat_of_zero_le h0
        go_enter Try.func38, Try.ntmps38
        go_wp2_with (first
            | (go_at_call 77; (with_reducible refine (impl_workersFit.calls a1 false _ hw1.out).mono ?_); rintro e w' ⟨rfl, ⟨nd, rfl⟩⟩))
        go_ret
        exact ⟨rfl, pw_below_drewN (Below.refl _ _) _⟩
    · rw [if_neg (fun h => h0' h.1.2)]
      obtain ⟨n, rfl⟩ := Int.eq_ofNat_of_zero_le h0
      go_enter Try.func38, Try.ntmps38
      go_wp2
      go_ret
      exact ⟨rfl, Below.refl _ _⟩
  · rw [if_neg (fun h => h0 h.1.1)]
    go_enter Try.func38, Try.ntmps38
    go_wp2
    go_ret
    exact ⟨rfl, Below.refl _ _⟩

end Go.Proofs.Ytloiafnoekpaoaa.PFnMovedVertices
