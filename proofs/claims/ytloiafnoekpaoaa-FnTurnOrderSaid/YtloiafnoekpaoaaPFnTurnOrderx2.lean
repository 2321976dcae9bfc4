/- Laid by a program of this session out of the translation: functions, their contracts, the row. Lean checks it. -/
import Derived.Test.YtloiafnoekpaoaaPFnTurnOrderx0
import Derived.Test.YtloiafnoekpaoaaPFnTurnOrderx1
namespace Go.Proofs.Ytloiafnoekpaoaa.PFnTurnOrder
open Go.RowKit Go.Proofs.YtloiafnoekpaoaaW.PrintWords Go.Proofs.YtloiafnoekpaoaaW.PrintLast Go.Proofs.YtloiafnoekpaoaaW.PrintMore
attribute [local go_sem] max2_int min2_int max_two min_two max_three min_three max_four min_four   -- for this text's walks alone
set_option linter.unusedVariables false
set_option linter.unusedSimpArgs false

/-! ### spec_DrawTurnOrder: function 28 -/
def spec_DrawTurnOrder.f (k : Nat) (l0 : List Int) : Option (Int × Int) := (spec_l20Open.f l0).bind fun bt126 => ((spec_l20Workers.f k bt126.1 bt126.2 6).bind fun bt129 => ((spec_l20Rd_pick.f k bt126.1 bt129.2 20).bind fun bt131 => ((some (([bt131.1, (-1), 9223372036854775807] : List Int) : List Int)).bind fun y133 => ((some (([0, 0, 0, 1, 2] : List Int) : List Int)).bind fun y136 => ((spec_l20Rd_pick.f k bt126.1 bt131.2 5).bind fun bt139 => (if 0 ≤ bt139.1 then (if bt139.1 < (y136.length : Int) then (if 0 ≤ (rd y136 bt139.1) then (if (rd y136 bt139.1) < (y133.length : Int) then (some (bt129.1, rd y133 (rd y136 bt139.1))) else (none)) else (none)) else (none)) else (none)))))))
theorem spec_DrawTurnOrder.mono : ∀ a0 k, LeO (spec_DrawTurnOrder.f k a0) (spec_DrawTurnOrder.f (k + 1) a0) := by
  intro a0 k
  unfold spec_DrawTurnOrder.f
  repeat' first
      | (with_reducible exact spec_l20Rd_pick.mono _ _ _ _)
      | (with_reducible exact spec_l20Workers.mono _ _ _ _)
      | (with_reducible exact LeO.refl _)
      | (with_reducible exact LeO.none _)
      | (with_reducible refine LeO.ite ?_ ?_)
      | (with_reducible refine LeO.bind ?_ (fun _ => ?_))
      | exact spec_l20Rd_pick.mono _ _ _ _
      | exact spec_l20Workers.mono _ _ _ _
      | exact LeO.none _
      | refine LeO.ite ?_ ?_
      | refine LeO.bind ?_ (fun _ => ?_)
def spec_DrawTurnOrder.T2 : Bool × List (List Nat × List Nat) := (true, [([], []), ([0], [0]), ([], []), ([2, 1], [2]), ([3], [3]), ([], []), ([], []), ([6, 3], [6]), ([5, 7], [5, 7]), ([8], [8]), ([4, 9], [4, 9]), ([10], [10]), ([1, 7, 0, 1], [1]), ([11, 12, 0, 1, 2, 3, 4, 5, 6, 7, 8, 9, 10, 11, 12], [11])])
def spec_DrawTurnOrder.B2 : List Nat := [0, 1, 0, 7, 15, 0, 0, 79, 239, 495, 1023, 2047, 207, 8191]
theorem spec_DrawTurnOrder.tab2 : rtab .any (opsOf Try.f28 2) = spec_DrawTurnOrder.T2 := by kernel_rfl
theorem spec_DrawTurnOrder.bits2 : waitsOk spec_DrawTurnOrder.T2.2 spec_DrawTurnOrder.B2 = true := by kernel_rfl
set_option maxHeartbeats 8000000 in
set_option maxRecDepth 100000 in
theorem spec_DrawTurnOrder.calls (k : Nat) (A0 : Option Addr) (c0 : Nat) (l0 : List Int) (r1 : Int) (r2 : Int) (w : World) (hr0 : Kd.C (Kd.int .u8) w A0 l0.length l0) (hc0 : l0.length ≤ c0) (h : spec_DrawTurnOrder.f k l0 = some (r1, r2)) :
    Calls Try.prog 28 #[.slice A0 l0.length c0] w fun e w' => e = .returned (.tuple #[.int .i64 r1, .int .i64 r2]) ∧ Below w.heap.size w w' := by
  have HR0 := Aside0.mk hr0
  have HC0 := Aside0.mk hc0
  clear hr0 hc0
  have HB := Aside0.mk (Below.refl w.heap.size w)
  have H : ((spec_l20Open.f l0).bind fun bt126 => ((spec_l20Workers.f k bt126.1 bt126.2 6).bind fun bt129 => ((spec_l20Rd_pick.f k bt126.1 bt129.2 20).bind fun bt131 => ((some (([bt131.1, (-1), 9223372036854775807] : List Int) : List Int)).bind fun y133 => ((some (([0, 0, 0, 1, 2] : List Int) : List Int)).bind fun y136 => ((spec_l20Rd_pick.f k bt126.1 bt131.2 5).bind fun bt139 => (if 0 ≤ bt139.1 then (if bt139.1 < (y136.length : Int) then (if 0 ≤ (rd y136 bt139.1) then (if (rd y136 bt139.1) < (y133.length : Int) then (some (bt129.1, rd y133 (rd y136 bt139.1))) else (none)) else (none)) else (none)) else (none)))))))) = some (r1, r2) := h
  clear h
  replace H := Option.bind_eq_some_iff.mp H
  obtain ⟨⟨t126, t127⟩, A20, H⟩ := H
  replace H : ((spec_l20Workers.f k t126 t127 6).bind fun bt129 => ((spec_l20Rd_pick.f k t126 bt129.2 20).bind fun bt131 => ((some (([bt131.1, (-1), 9223372036854775807] : List Int) : List Int)).bind fun y133 => ((some (([0, 0, 0, 1, 2] : List Int) : List Int)).bind fun y136 => ((spec_l20Rd_pick.f k t126 bt131.2 5).bind fun bt139 => (if 0 ≤ bt139.1 then (if bt139.1 < (y136.length : Int) then (if 0 ≤ (rd y136 bt139.1) then (if (rd y136 bt139.1) < (y133.length : Int) then (some (bt129.1, rd y133 (rd y136 bt139.1))) else (none)) else (none)) else (none)) else (none))))))) = some (r1, r2) := H
  have A2 := Aside0.mk A20
  clear A20
  replace H := Option.bind_eq_some_iff.mp H
  obtain ⟨⟨t129, t130⟩, A30, H⟩ := H
  replace H : ((spec_l20Rd_pick.f k t126 t130 20).bind fun bt131 => ((some (([bt131.1, (-1), 9223372036854775807] : List Int) : List Int)).bind fun y133 => ((some (([0, 0, 0, 1, 2] : List Int) : List Int)).bind fun y136 => ((spec_l20Rd_pick.f k t126 bt131.2 5).bind fun bt139 => (if 0 ≤ bt139.1 then (if bt139.1 < (y136.length : Int) then (if 0 ≤ (rd y136 bt139.1) then (if (rd y136 bt139.1) < (y133.length : Int) then (some (t129, rd y133 (rd y136 bt139.1))) else (none)) else (none)) else (none)) else (none)))))) = some (r1, r2) := H
  have A3 := Aside0.mk A30
  clear A30
  replace H := Option.bind_eq_some_iff.mp H
  obtain ⟨⟨t131, t132⟩, A40, H⟩ := H
  replace H : ((some (([t131, (-1), 9223372036854775807] : List Int) : List Int)).bind fun y133 => ((some (([0, 0, 0, 1, 2] : List Int) : List Int)).bind fun y136 => ((spec_l20Rd_pick.f k t126 t132 5).bind fun bt139 => (if 0 ≤ bt139.1 then (if bt139.1 < (y136.length : Int) then (if 0 ≤ (rd y136 bt139.1) then (if (rd y136 bt139.1) < (y133.length : Int) then (some (t129, rd y133 (rd y136 bt139.1))) else (none)) else (none)) else (none)) else (none))))) = some (r1, r2) := H
  have A4 := Aside0.mk A40
  clear A40
  obtain ⟨y133, hy133⟩ : ∃ y_ : List Int, y_ = (([t131, (-1), 9223372036854775807] : List Int)) := ⟨_, rfl⟩
  replace H : ((some (([0, 0, 0, 1, 2] : List Int) : List Int)).bind fun y136 => ((spec_l20Rd_pick.f k t126 t132 5).bind fun bt139 => (if 0 ≤ bt139.1 then (if bt139.1 < (y136.length : Int) then (if 0 ≤ (rd y136 bt139.1) then (if (rd y136 bt139.1) < (y133.length : Int) then (some (t129, rd y133 (rd y136 bt139.1))) else (none)) else (none)) else (none)) else (none)))) = some (r1, r2) := by first | (rw [hy133]; with_reducible exact H) | (have H2_ := (Option.bind_some _ _).symm.trans H; rw [hy133]; with_reducible exact H2_) | (have H2_ := (Option.bind_some _ _).symm.trans H; with_reducible exact H2_) | with_reducible exact H | (rw [hy133]; exact H) | exact H
  have Ny133 := Aside0.mk hy133
  clear hy133
  obtain ⟨y136, hy136⟩ : ∃ y_ : List Int, y_ = (([0, 0, 0, 1, 2] : List Int)) := ⟨_, rfl⟩
  replace H : ((spec_l20Rd_pick.f k t126 t132 5).bind fun bt139 => (if 0 ≤ bt139.1 then (if bt139.1 < (y136.length : Int) then (if 0 ≤ (rd y136 bt139.1) then (if (rd y136 bt139.1) < (y133.length : Int) then (some (t129, rd y133 (rd y136 bt139.1))) else (none)) else (none)) else (none)) else (none))) = some (r1, r2) := by first | (rw [hy136]; with_reducible exact H) | (have H2_ := (Option.bind_some _ _).symm.trans H; rw [hy136]; with_reducible exact H2_) | (have H2_ := (Option.bind_some _ _).symm.trans H; with_reducible exact H2_) | with_reducible exact H | (rw [hy136]; exact H) | exact H
  have Ny136 := Aside0.mk hy136
  clear hy136
  replace H := Option.bind_eq_some_iff.mp H
  obtain ⟨⟨t139, t140⟩, A50, H⟩ := H
  replace H : (if 0 ≤ t139 then (if t139 < (y136.length : Int) then (if 0 ≤ (rd y136 t139) then (if (rd y136 t139) < (y133.length : Int) then (some (t129, rd y133 (rd y136 t139))) else (none)) else (none)) else (none)) else (none)) = some (r1, r2) := H
  have A5 := Aside0.mk A50
  clear A50
  by_cases c6 : 0 ≤ t139
  · rw [if_pos c6] at H
    have c6b0 : decide (0 ≤ t139) = true := decide_eq_true c6
    clear c6
    by_cases c7 : t139 < (y136.length : Int)
    · rw [if_pos c7] at H
      have c7b0 : decide (t139 < (y136.length : Int)) = true := decide_eq_true c7
      clear c7
      by_cases c8 : 0 ≤ (rd y136 t139)
      · rw [if_pos c8] at H
        have c8b0 : decide (0 ≤ (rd y136 t139)) = true := decide_eq_true c8
        clear c8
        by_cases c9 : (rd y136 t139) < (y133.length : Int)
        · rw [if_pos c9] at H
          have c9b0 : decide ((rd y136 t139) < (y133.length : Int)) = true := decide_eq_true c9
          clear c9
          simp only [Option.some.injEq, Prod.mk.injEq] at H
          obtain ⟨rfl, rfl⟩ := H
          go_enter Try.func28, Try.ntmps28
          try go_wp2_with (first | ((with_reducible refine gate_callee (f := 66) rfl ?_); refine goesL_ (some 6) rfl rfl Try.func66 (by kernel_rfl) rfl #[.slice A0 l0.length c0] rfl (by (try simp only [List.map_toArray, List.map_cons, List.map_nil]); first | done | rfl | (simp only [List.length_drop, List.length_take]; rfl)) ?_; (with_reducible refine (spec_l20Open.calls _ _ l0 t126 t127 w _ ?side1 ?side2 ?side3 A2.out).mono ?_); (case side1 => repeat (first | (with_reducible first | exact HB.out | apply below_alloc | apply pw_below_drewN | apply below_drew1) | exact HB.out)); (case side2 => exact HR0.out); (case side3 => exact HC0.out); rintro e w10 ⟨g128, rfl, hi, hb, hb2⟩; refine ⟨_, rfl, ?_⟩; have n0_ := Aside0.mk (hb); have n1_ := Aside0.mk (hi); clear HB; have HB := n0_; have HI128 := n1_; clear n0_ n1_; (try clear hb); (try clear hb2); (try clear hk); (try clear hi)))
          have pi141 : (0 ≤ (t139 : Int)) = True := eq_true (of_decide_eq_true (by first | (with_reducible assumption) | assumption))
          have qi141 : (t139 < (y136.length : Int)) = True := eq_true (of_decide_eq_true (by first | (with_reducible assumption) | assumption))
          have pi142 : (0 ≤ ((rd y136 t139) : Int)) = True := eq_true (of_decide_eq_true (by first | (with_reducible assumption) | assumption))
          have qi142 : ((rd y136 t139) < (y133.length : Int)) = True := eq_true (of_decide_eq_true (by first | (with_reducible assumption) | assumption))
          have n0_ := Aside0.mk (IsS113.drew HI128.out)
          have n1_ := Aside0.mk (below_drew1 HB.out)
          clear HI128
          clear HB
          have HI128 := n0_
          have HB := n1_
          clear n0_ n1_
          refine start_ (n := 14) (S := fun w' => True) (ds := []) #[false, false, false, false, false, false, false, false, false, false, false, false, false, false] (by kernel_rfl) rfl rfl trivial (fun hHeld => ?_); refine with_tabW spec_DrawTurnOrder.tab2 spec_DrawTurnOrder.bits2 (fun HT_ HW_ => ?_)
          generalize w10.drew = w11 at HI128 HB hHeld ⊢
          refine pure_ (i := 0) (N := some 7) (v := ?_) (a' := ?_) #[true, false, false, false, false, false, false, false, false, false, false, false, false, false] rfl rfl (any_of HT_.out (by kernel_rfl)) (fun _ _ _ h => h) (Or.inl ⟨by rfl, ?_⟩) ?_ ?_
          rotate_left
          · intro w'
            go_simp
            with_reducible rfl
          rotate_left
          · simp only [Act.put, List.setIfInBounds_toArray, List.set_cons_zero, List.set_cons_succ, i64_w, i32_w]
            rfl
          refine pure_ (i := 2) (N := some 9) (v := ?_) (a' := ?_) #[true, false, true, false, false, false, false, false, false, false, false, false, false, false] rfl rfl (any_of HT_.out (by kernel_rfl)) (fun _ _ _ h => h) (Or.inl ⟨by rfl, ?_⟩) ?_ ?_
          rotate_left
          · intro w'
            go_simp
            with_reducible rfl
          rotate_left
          · simp only [Act.put, List.setIfInBounds_toArray, List.set_cons_zero, List.set_cons_succ, i64_w, i32_w]
            rfl
          refine pure_ (i := 6) (N := some 13) (v := ?_) (a' := ?_) #[true, false, true, false, false, false, true, false, false, false, false, false, false, false] rfl rfl (any_of HT_.out (by kernel_rfl)) (fun _ _ _ h => h) (Or.inl ⟨by rfl, ?_⟩) ?_ ?_
          rotate_left
          · intro w'
            go_simp
            with_reducible rfl
          rotate_left
          · simp only [Act.put, List.setIfInBounds_toArray, List.set_cons_zero, List.set_cons_succ, i64_w, i32_w]
            rfl
          refine inv_at [1, 3, 4, 5, 7, 8, 9, 10, 11, 12, 13] (fun a0_ b a w' => ∃ (v134 : Value) (adz_v134 : Addr) (v137 : Value) (adz_v137 : Addr) (m8_ : Value) (m10_ : Value), a = putSel a0_ b [(1, 8, .int .i64 t129), (3, 10, .int .i64 t131), (4, 11, v134), (5, 12, v137), (7, 14, .int .i64 t139), (8, 15, m8_), (9, 16, .int .i64 (rd y136 t139)), (10, 17, m10_), (11, 18, .int .i64 (rd y133 (rd y136 t139))), (12, 2, .int .i64 t129), (13, 3, .int .i64 (rd y133 (rd y136 t139)))] ∧ (b 1 = false → IsS113 w w' g128 t126 t127) ∧ (Below w.heap.size w w') ∧ (b 1 = true → b 3 = false → IsS113 w w' g128 t126 t130) ∧ (b 3 = true → b 7 = false → IsS113 w w' g128 t126 t132) ∧ (b 4 = true → Kd.R (Kd.int .i64) 3 w' w.heap.size (fun _ => True) v134 y133) ∧ (b 4 = true → ∃ c_, (v134 : Value) = .slice (some adz_v134) y133.length c_) ∧ (b 5 = true → Kd.R (Kd.int .i64) 3 w' w.heap.size (fun _ => True) v137 y136) ∧ (b 5 = true → ∃ c_, (v137 : Value) = .slice (some adz_v137) y136.length c_) ∧ (b 7 = true → IsS113 w w' g128 t126 t140) ∧ (b 8 = true → (m8_ : Value) = .pointer (some (adz_v137.add (t139).toNat))) ∧ (b 10 = true → (m10_ : Value) = .pointer (some (adz_v134.add ((rd y136 t139)).toNat)))) HT_.out HW_.out (by kernel_rfl) (by kernel_rfl) ?_ ?_ ?_
          · exact ⟨.bool false, ⟨0, 0, none⟩, .bool false, ⟨0, 0, none⟩, .bool false, .bool false, by simp only [putSel, Bool.false_eq_true, if_false], fun _ => HI128.out, HB.out, fun h_ => absurd h_ (by decide), fun h_ => absurd h_ (by decide), fun h_ => absurd h_ (by decide), fun h_ => absurd h_ (by decide), fun h_ => absurd h_ (by decide), fun h_ => absurd h_ (by decide), fun h_ => absurd h_ (by decide), fun h_ => absurd h_ (by decide), fun h_ => absurd h_ (by decide)⟩
          · skip
            clear HB HI128
            refine steps_cons ?_ ?_
            · rintro b a w' ⟨v134, adz_v134, v137, adz_v137, m8_, m10_, ha, Q_HI128, Q_HB, Q_HI128_e1, Q_HI128_e3, Q_HO135, Q_HA_HO135, Q_HO138, Q_HA_HO138, Q_HI128_e7, Q_X8_, Q_X10_⟩ hb_ hon hoff
              refine ⟨_, rfl, fun K hK => ?_⟩
              have e7 : a.tmps[7]? = some (.pointer (some ⟨g128, 0, none⟩)) := by rw [ha]; exact (putSel_off rfl).trans rfl
              replace ha := Aside0.mk ha
              have HI128 := Aside0.mk (Q_HI128 hb_)
              have HB := Aside0.mk Q_HB
              refine goes_ Try.func75 (by kernel_rfl) rfl #[.pointer (some ⟨g128, 0, none⟩), .int .i64 6] (by rfl) rfl rfl (by first | (simp only [List.map_toArray, List.map_cons, List.map_nil, Act.eval, Array.getD_eq_getD_getElem?, Option.getD_some, e7]; done) | (simp only [List.map_toArray, List.map_cons, List.map_nil, Act.eval, Array.getD_eq_getD_getElem?, Option.getD_some, e7]; rfl)) ?_
              with_reducible refine (spec_l20Workers.calls k g128 t126 t127 6 t129 t130 w _ ?side1 ?side2 A3.out).mono ?_
              (case side1 => repeat (first | (with_reducible first | exact HI128.out | apply IsS113.alloc | apply IsS113.drewN | apply IsS113.drew | apply IsS113.set_1) | exact HI128.out))
              (case side2 => repeat (first | (with_reducible first | exact HB.out | apply below_alloc | apply pw_below_drewN | apply below_drew1 | refine below_set ?_ (IsS113.ge HI128.out)) | exact HB.out))
              rintro e w12 ⟨rfl, hi, hb, hk⟩
              refine ⟨_, rfl, ?_⟩
              have n0_ := Aside0.mk (hb)
              have n1_ := Aside0.mk (hi)
              have z_HO138 := fun (h0_ : b 5 = true) => (show Kd.R (Kd.int .i64) 3 w12 w.heap.size (fun _ => True) v137 y136 from by first | exact (Kd.R_mono (Kd.R_keep (IsS113.apart (show IsS113 w _ g128 t126 t127 from by repeat (first | (with_reducible first | exact HI128.out | apply IsS113.alloc | apply IsS113.drewN | apply IsS113.drew | apply IsS113.set_1) | exact HI128.out)) (by (with_reducible repeat (first | apply Kd.R_alloc | apply Kd.R_drewN | apply Kd.R_drew)); exact (Q_HO138 h0_)) (by decide)) hk (fun _ h => h.2)) (fun _ h => h.1)) | exact Kd.R_mono (Kd.R_mono (Kd.R_keep (IsS113.apart (show IsS113 w _ g128 t126 t127 from by repeat (first | (with_reducible first | exact HI128.out | apply IsS113.alloc | apply IsS113.drewN | apply IsS113.drew | apply IsS113.set_1) | exact HI128.out)) (by (with_reducible repeat (first | apply Kd.R_alloc | apply Kd.R_drewN | apply Kd.R_drew)); exact (Q_HO138 h0_)) (by decide)) hk (fun _ h => h.2)) (fun _ h => h.1)) (fun _ h_ => by first | trivial | exact h_ | exact h_.1))
              clear HB
              clear HI128
              have HB := n0_
              have HI128 := n1_
              clear n0_ n1_
              (try clear hb)
              (try clear hb2)
              (try clear hk)
              (try clear hi)
              refine hK.out _ _ ⟨v134, adz_v134, v137, adz_v137, m8_, m10_, (by rw [ha.out]; exact putSel_upk 0 hb_ rfl rfl rfl), fun h0_ => absurd ((up_self b 1).symm.trans h0_) (by decide), (by repeat (first | (with_reducible first | exact HB.out | apply below_alloc | apply pw_below_drewN | apply below_drew1 | refine below_set ?_ (IsS113.ge HI128.out)) | exact HB.out)), fun _ _ => (by repeat (first | (with_reducible first | exact HI128.out | apply IsS113.alloc | apply IsS113.drewN | apply IsS113.drew | apply IsS113.set_1) | exact HI128.out)), fun h0_ _ => absurd ((hoff 3 (by kernel_rfl)).symm.trans h0_) (by decide), fun h0_ => absurd ((hoff 4 (by kernel_rfl)).symm.trans h0_) (by decide), fun h0_ => absurd ((hoff 4 (by kernel_rfl)).symm.trans h0_) (by decide), z_HO138, Q_HA_HO138, fun h0_ => absurd ((hoff 7 (by kernel_rfl)).symm.trans h0_) (by decide), fun h0_ => absurd ((hoff 8 (by kernel_rfl)).symm.trans h0_) (by decide), fun h0_ => absurd ((hoff 10 (by kernel_rfl)).symm.trans h0_) (by decide)⟩
            refine steps_cons ?_ ?_
            · rintro b a w' ⟨v134, adz_v134, v137, adz_v137, m8_, m10_, ha, Q_HI128, Q_HB, Q_HI128_e1, Q_HI128_e3, Q_HO135, Q_HA_HO135, Q_HO138, Q_HA_HO138, Q_HI128_e7, Q_X8_, Q_X10_⟩ hb_ hon hoff
              refine ⟨_, rfl, fun K hK => ?_⟩
              have e9 : a.tmps[9]? = some (.pointer (some ⟨g128, 0, none⟩)) := by rw [ha]; exact (putSel_off rfl).trans rfl
              replace ha := Aside0.mk ha
              have HB := Aside0.mk Q_HB
              have HI128 := Aside0.mk (Q_HI128_e1 (hon 1 (by kernel_rfl)) hb_)
              refine goes_ Try.func76 (by kernel_rfl) rfl #[.pointer (some ⟨g128, 0, none⟩), .int .i64 20] (by rfl) rfl rfl (by first | (simp only [List.map_toArray, List.map_cons, List.map_nil, Act.eval, Array.getD_eq_getD_getElem?, Option.getD_some, e9]; done) | (simp only [List.map_toArray, List.map_cons, List.map_nil, Act.eval, Array.getD_eq_getD_getElem?, Option.getD_some, e9]; rfl)) ?_
              with_reducible refine (spec_l20Rd_pick.calls k g128 t126 t130 20 t131 t132 w _ ?side1 ?side2 A4.out).mono ?_
              (case side1 => repeat (first | (with_reducible first | exact HI128.out | apply IsS113.alloc | apply IsS113.drewN | apply IsS113.drew | apply IsS113.set_1) | exact HI128.out))
              (case side2 => repeat (first | (with_reducible first | exact HB.out | apply below_alloc | apply pw_below_drewN | apply below_drew1 | refine below_set ?_ (IsS113.ge HI128.out)) | exact HB.out))
              rintro e w14 ⟨rfl, hi, hb, hk⟩
              refine ⟨_, rfl, ?_⟩
              have n0_ := Aside0.mk (hb)
              have n1_ := Aside0.mk (hi)
              have z_HO138 := fun (h0_ : b 5 = true) => (show Kd.R (Kd.int .i64) 3 w14 w.heap.size (fun _ => True) v137 y136 from by first | exact (Kd.R_mono (Kd.R_keep (IsS113.apart (show IsS113 w _ g128 t126 t130 from by repeat (first | (with_reducible first | exact HI128.out | apply IsS113.alloc | apply IsS113.drewN | apply IsS113.drew | apply IsS113.set_1) | exact HI128.out)) (by (with_reducible repeat (first | apply Kd.R_alloc | apply Kd.R_drewN | apply Kd.R_drew)); exact (Q_HO138 h0_)) (by decide)) hk (fun _ h => h.2)) (fun _ h => h.1)) | exact Kd.R_mono (Kd.R_mono (Kd.R_keep (IsS113.apart (show IsS113 w _ g128 t126 t130 from by repeat (first | (with_reducible first | exact HI128.out | apply IsS113.alloc | apply IsS113.drewN | apply IsS113.drew | apply IsS113.set_1) | exact HI128.out)) (by (with_reducible repeat (first | apply Kd.R_alloc | apply Kd.R_drewN | apply Kd.R_drew)); exact (Q_HO138 h0_)) (by decide)) hk (fun _ h => h.2)) (fun _ h => h.1)) (fun _ h_ => by first | trivial | exact h_ | exact h_.1))
              clear HB
              clear HI128
              have HB := n0_
              have HI128 := n1_
              clear n0_ n1_
              (try clear hb)
              (try clear hb2)
              (try clear hk)
              (try clear hi)
              refine hK.out _ _ ⟨v134, adz_v134, v137, adz_v137, m8_, m10_, (by rw [ha.out]; exact putSel_upk 1 hb_ rfl rfl rfl), fun h0_ => absurd ((hon 1 (by kernel_rfl)).symm.trans h0_) (by decide), (by repeat (first | (with_reducible first | exact HB.out | apply below_alloc | apply pw_below_drewN | apply below_drew1 | refine below_set ?_ (IsS113.ge HI128.out)) | exact HB.out)), fun _ h1_ => absurd ((up_self b 3).symm.trans h1_) (by decide), fun _ _ => (by repeat (first | (with_reducible first | exact HI128.out | apply IsS113.alloc | apply IsS113.drewN | apply IsS113.drew | apply IsS113.set_1) | exact HI128.out)), fun h0_ => absurd ((hoff 4 (by kernel_rfl)).symm.trans h0_) (by decide), fun h0_ => absurd ((hoff 4 (by kernel_rfl)).symm.trans h0_) (by decide), z_HO138, Q_HA_HO138, fun h0_ => absurd ((hoff 7 (by kernel_rfl)).symm.trans h0_) (by decide), fun h0_ => absurd ((hoff 8 (by kernel_rfl)).symm.trans h0_) (by decide), fun h0_ => absurd ((hoff 10 (by kernel_rfl)).symm.trans h0_) (by decide)⟩
            refine steps_cons ?_ ?_
            · rintro b a w' ⟨v134, adz_v134, v137, adz_v137, m8_, m10_, ha, Q_HI128, Q_HB, Q_HI128_e1, Q_HI128_e3, Q_HO135, Q_HA_HO135, Q_HO138, Q_HA_HO138, Q_HI128_e7, Q_X8_, Q_X10_⟩ hb_ hon hoff
              refine ⟨_, rfl, fun K hK => ?_⟩
              have e10 : a.tmps[10]? = some (.int .i64 t131) := by rw [ha]; exact putSel_on (e := (3, 10, .int .i64 t131)) 1 rfl rfl (hon 3 (by kernel_rfl)) rfl
              replace ha := Aside0.mk ha
              have HB := Aside0.mk Q_HB
              refine Kd.R_lit_step (Kd.int .i64) _ 3 ?hg (N := 11) ?hd (xs := ([t131, (-1), 9223372036854775807] : List Int)) (inner := [.int .i64 t131, .int .i64 (-1), .int .i64 9223372036854775807]) (ok := fun _ => True) (okp := fun _ => True) ?hr ?hp (fun _ hk => hk) trivial (Below.refl _ _) (Nat.le_refl _) (by simp) ?_; (case hd => rfl); (case hg => rfl); (case hr => first | (go_simp; done) | (go_simp; rfl)); (case hp => exact (Reps.one (show Kd.M (Kd.int .i64) _ _ _ t131 [.int .i64 t131] from rfl) (Reps.one (show Kd.M (Kd.int .i64) _ _ _ (-1) [.int .i64 (-1)] from rfl) (Reps.one (show Kd.M (Kd.int .i64) _ _ _ 9223372036854775807 [.int .i64 9223372036854775807] from rfl) (Reps.none _ _)))))
              intro v134 w15 ho16 hb hg_ hnew_
              clear hg_ hnew_
              (first | rw [← Ny133.out] at ho16 | (simp only [Int.reduceToNat] at ho16; rw [← Ny133.out] at ho16))
              have n0_ := Aside0.mk (Kd.R_lower ho16 (below_size (by repeat (first | (with_reducible first | exact HB.out | apply below_alloc | apply pw_below_drewN | apply below_drew1) | exact HB.out))))
              have n2_ := Aside0.mk (below_step (by repeat (first | (with_reducible first | exact HB.out | apply below_alloc | apply pw_below_drewN | apply below_drew1) | exact HB.out)) hb)
              have z_HI128_e3 := fun (h0_ : b 3 = true) (h1_ : b 7 = false) => (show IsS113 w w15 g128 t126 t132 from by first | exact (IsS113.below (by repeat (first | (with_reducible first | exact (Q_HI128_e3 h0_ h1_) | apply IsS113.alloc | apply IsS113.drewN | apply IsS113.drew | apply IsS113.set_1) | exact (Q_HI128_e3 h0_ h1_))) hb))
              have z_HO138 := fun (h0_ : b 5 = true) => (show Kd.R (Kd.int .i64) 3 w15 w.heap.size (fun _ => True) v137 y136 from by first | exact (Kd.R_elder' (by (with_reducible repeat (first | apply Kd.R_alloc | apply Kd.R_drewN | apply Kd.R_drew)); exact (Q_HO138 h0_)) (Kd.R_base ho16) hb) | exact Kd.R_mono (Kd.R_elder' (by (with_reducible repeat (first | apply Kd.R_alloc | apply Kd.R_drewN | apply Kd.R_drew)); exact (Q_HO138 h0_)) (Kd.R_base ho16) hb) (fun _ h_ => by first | trivial | exact h_ | exact h_.1))
              have z_HI128_e7 := fun (h0_ : b 7 = true) => (show IsS113 w w15 g128 t126 t140 from by first | exact (IsS113.below (by repeat (first | (with_reducible first | exact (Q_HI128_e7 h0_) | apply IsS113.alloc | apply IsS113.drewN | apply IsS113.drew | apply IsS113.set_1) | exact (Q_HI128_e7 h0_))) hb))
              clear HB
              have HO135 := n0_
              have HB := n2_
              clear n0_ n2_
              clear hb ho16
              obtain ⟨Ao17, co17, eo17⟩ := Kd.R_slice HO135.out
              subst eo17
              obtain ⟨ado17, fo17, _⟩ := Kd.at_int (Kd.R_reads' HO135.out).2.2 0 (by decide) (by rw [Ny133.out]; simp)
              cases fo17
              refine hK.out _ _ ⟨.slice (some ado17) y133.length co17, ado17, v137, adz_v137, m8_, m10_, (by rw [ha.out]; exact putSel_upk 2 hb_ rfl rfl rfl), fun h0_ => absurd ((hon 1 (by kernel_rfl)).symm.trans h0_) (by decide), (by repeat (first | (with_reducible first | exact HB.out | apply below_alloc | apply pw_below_drewN | apply below_drew1) | exact HB.out)), fun _ h1_ => absurd ((hon 3 (by kernel_rfl)).symm.trans h1_) (by decide), z_HI128_e3, fun _ => (by (with_reducible repeat (first | apply Kd.R_alloc | apply Kd.R_drewN | apply Kd.R_drew)); exact HO135.out), fun _ => ⟨_, rfl⟩, z_HO138, Q_HA_HO138, z_HI128_e7, Q_X8_, fun h0_ => absurd ((hoff 10 (by kernel_rfl)).symm.trans h0_) (by decide)⟩
            refine steps_cons ?_ ?_
            · rintro b a w' ⟨v134, adz_v134, v137, adz_v137, m8_, m10_, ha, Q_HI128, Q_HB, Q_HI128_e1, Q_HI128_e3, Q_HO135, Q_HA_HO135, Q_HO138, Q_HA_HO138, Q_HI128_e7, Q_X8_, Q_X10_⟩ hb_ hon hoff
              refine ⟨_, rfl, fun K hK => ?_⟩
              replace ha := Aside0.mk ha
              have HB := Aside0.mk Q_HB
              refine Kd.R_lit_step (Kd.int .i64) _ 3 ?hg (N := 12) ?hd (xs := ([0, 0, 0, 1, 2] : List Int)) (inner := [.int .i64 0, .int .i64 0, .int .i64 0, .int .i64 1, .int .i64 2]) (ok := fun _ => True) (okp := fun _ => True) ?hr ?hp (fun _ hk => hk) trivial (Below.refl _ _) (Nat.le_refl _) (by simp) ?_; (case hd => rfl); (case hg => rfl); (case hr => first | (go_simp; done) | (go_simp; rfl)); (case hp => exact (Reps.one (show Kd.M (Kd.int .i64) _ _ _ 0 [.int .i64 0] from rfl) (Reps.one (show Kd.M (Kd.int .i64) _ _ _ 0 [.int .i64 0] from rfl) (Reps.one (show Kd.M (Kd.int .i64) _ _ _ 0 [.int .i64 0] from rfl) (Reps.one (show Kd.M (Kd.int .i64) _ _ _ 1 [.int .i64 1] from rfl) (Reps.one (show Kd.M (Kd.int .i64) _ _ _ 2 [.int .i64 2] from rfl) (Reps.none _ _)))))))
              intro v137 w12 ho13 hb hg_ hnew_
              clear hg_ hnew_
              (first | rw [← Ny136.out] at ho13 | (simp only [Int.reduceToNat] at ho13; rw [← Ny136.out] at ho13))
              have n0_ := Aside0.mk (Kd.R_lower ho13 (below_size (by repeat (first | (with_reducible first | exact HB.out | apply below_alloc | apply pw_below_drewN | apply below_drew1) | exact HB.out))))
              have n2_ := Aside0.mk (below_step (by repeat (first | (with_reducible first | exact HB.out | apply below_alloc | apply pw_below_drewN | apply below_drew1) | exact HB.out)) hb)
              have z_HI128 := fun (h0_ : b 1 = false) => (show IsS113 w w12 g128 t126 t127 from by first | exact (IsS113.below (by repeat (first | (with_reducible first | exact (Q_HI128 h0_) | apply IsS113.alloc | apply IsS113.drewN | apply IsS113.drew | apply IsS113.set_1) | exact (Q_HI128 h0_))) hb))
              have z_HI128_e1 := fun (h0_ : b 1 = true) (h1_ : b 3 = false) => (show IsS113 w w12 g128 t126 t130 from by first | exact (IsS113.below (by repeat (first | (with_reducible first | exact (Q_HI128_e1 h0_ h1_) | apply IsS113.alloc | apply IsS113.drewN | apply IsS113.drew | apply IsS113.set_1) | exact (Q_HI128_e1 h0_ h1_))) hb))
              have z_HI128_e3 := fun (h0_ : b 3 = true) (h1_ : b 7 = false) => (show IsS113 w w12 g128 t126 t132 from by first | exact (IsS113.below (by repeat (first | (with_reducible first | exact (Q_HI128_e3 h0_ h1_) | apply IsS113.alloc | apply IsS113.drewN | apply IsS113.drew | apply IsS113.set_1) | exact (Q_HI128_e3 h0_ h1_))) hb))
              have z_HO135 := fun (h0_ : b 4 = true) => (show Kd.R (Kd.int .i64) 3 w12 w.heap.size (fun _ => True) v134 y133 from by first | exact (Kd.R_elder' (by (with_reducible repeat (first | apply Kd.R_alloc | apply Kd.R_drewN | apply Kd.R_drew)); exact (Q_HO135 h0_)) (Kd.R_base ho13) hb) | exact Kd.R_mono (Kd.R_elder' (by (with_reducible repeat (first | apply Kd.R_alloc | apply Kd.R_drewN | apply Kd.R_drew)); exact (Q_HO135 h0_)) (Kd.R_base ho13) hb) (fun _ h_ => by first | trivial | exact h_ | exact h_.1))
              have z_HI128_e7 := fun (h0_ : b 7 = true) => (show IsS113 w w12 g128 t126 t140 from by first | exact (IsS113.below (by repeat (first | (with_reducible first | exact (Q_HI128_e7 h0_) | apply IsS113.alloc | apply IsS113.drewN | apply IsS113.drew | apply IsS113.set_1) | exact (Q_HI128_e7 h0_))) hb))
              clear HB
              have HO138 := n0_
              have HB := n2_
              clear n0_ n2_
              clear hb ho13
              obtain ⟨Ao14, co14, eo14⟩ := Kd.R_slice HO138.out
              subst eo14
              obtain ⟨ado14, fo14, _⟩ := Kd.at_int (Kd.R_reads' HO138.out).2.2 0 (by decide) (by rw [Ny136.out]; simp)
              cases fo14
              refine hK.out _ _ ⟨v134, adz_v134, .slice (some ado14) y136.length co14, ado14, m8_, m10_, (by rw [ha.out]; exact putSel_upk 3 hb_ rfl rfl rfl), z_HI128, (by repeat (first | (with_reducible first | exact HB.out | apply below_alloc | apply pw_below_drewN | apply below_drew1) | exact HB.out)), z_HI128_e1, z_HI128_e3, z_HO135, Q_HA_HO135, fun _ => (by (with_reducible repeat (first | apply Kd.R_alloc | apply Kd.R_drewN | apply Kd.R_drew)); exact HO138.out), fun _ => ⟨_, rfl⟩, z_HI128_e7, fun h0_ => absurd ((hoff 8 (by kernel_rfl)).symm.trans h0_) (by decide), fun h0_ => absurd ((hoff 10 (by kernel_rfl)).symm.trans h0_) (by decide)⟩
            refine steps_cons ?_ ?_
            · rintro b a w' ⟨v134, adz_v134, v137, adz_v137, m8_, m10_, ha, Q_HI128, Q_HB, Q_HI128_e1, Q_HI128_e3, Q_HO135, Q_HA_HO135, Q_HO138, Q_HA_HO138, Q_HI128_e7, Q_X8_, Q_X10_⟩ hb_ hon hoff
              refine ⟨_, rfl, fun K hK => ?_⟩
              have e13 : a.tmps[13]? = some (.pointer (some ⟨g128, 0, none⟩)) := by rw [ha]; exact (putSel_off rfl).trans rfl
              replace ha := Aside0.mk ha
              have HB := Aside0.mk Q_HB
              have HI128 := Aside0.mk (Q_HI128_e3 (hon 3 (by kernel_rfl)) hb_)
              refine goes_ Try.func76 (by kernel_rfl) rfl #[.pointer (some ⟨g128, 0, none⟩), .int .i64 5] (by rfl) rfl rfl (by first | (simp only [List.map_toArray, List.map_cons, List.map_nil, Act.eval, Array.getD_eq_getD_getElem?, Option.getD_some, e13]; done) | (simp only [List.map_toArray, List.map_cons, List.map_nil, Act.eval, Array.getD_eq_getD_getElem?, Option.getD_some, e13]; rfl)) ?_
              with_reducible refine (spec_l20Rd_pick.calls k g128 t126 t132 5 t139 t140 w _ ?side1 ?side2 A5.out).mono ?_
              (case side1 => repeat (first | (with_reducible first | exact HI128.out | apply IsS113.alloc | apply IsS113.drewN | apply IsS113.drew | apply IsS113.set_1) | exact HI128.out))
              (case side2 => repeat (first | (with_reducible first | exact HB.out | apply below_alloc | apply pw_below_drewN | apply below_drew1 | refine below_set ?_ (IsS113.ge HI128.out)) | exact HB.out))
              rintro e w15 ⟨rfl, hi, hb, hk⟩
              refine ⟨_, rfl, ?_⟩
              have n0_ := Aside0.mk (hb)
              have n1_ := Aside0.mk (hi)
              have z_HO135 := fun (h0_ : b 4 = true) => (show Kd.R (Kd.int .i64) 3 w15 w.heap.size (fun _ => True) v134 y133 from by first | exact (Kd.R_mono (Kd.R_keep (IsS113.apart (show IsS113 w _ g128 t126 t132 from by repeat (first | (with_reducible first | exact HI128.out | apply IsS113.alloc | apply IsS113.drewN | apply IsS113.drew | apply IsS113.set_1) | exact HI128.out)) (by (with_reducible repeat (first | apply Kd.R_alloc | apply Kd.R_drewN | apply Kd.R_drew)); exact (Q_HO135 h0_)) (by decide)) hk (fun _ h => h.2)) (fun _ h => h.1)) | exact Kd.R_mono (Kd.R_mono (Kd.R_keep (IsS113.apart (show IsS113 w _ g128 t126 t132 from by repeat (first | (with_reducible first | exact HI128.out | apply IsS113.alloc | apply IsS113.drewN | apply IsS113.drew | apply IsS113.set_1) | exact HI128.out)) (by (with_reducible repeat (first | apply Kd.R_alloc | apply Kd.R_drewN | apply Kd.R_drew)); exact (Q_HO135 h0_)) (by decide)) hk (fun _ h => h.2)) (fun _ h => h.1)) (fun _ h_ => by first | trivial | exact h_ | exact h_.1))
              have z_HO138 := fun (h0_ : b 5 = true) => (show Kd.R (Kd.int .i64) 3 w15 w.heap.size (fun _ => True) v137 y136 from by first | exact (Kd.R_mono (Kd.R_keep (IsS113.apart (show IsS113 w _ g128 t126 t132 from by repeat (first | (with_reducible first | exact HI128.out | apply IsS113.alloc | apply IsS113.drewN | apply IsS113.drew | apply IsS113.set_1) | exact HI128.out)) (by (with_reducible repeat (first | apply Kd.R_alloc | apply Kd.R_drewN | apply Kd.R_drew)); exact (Q_HO138 h0_)) (by decide)) hk (fun _ h => h.2)) (fun _ h => h.1)) | exact Kd.R_mono (Kd.R_mono (Kd.R_keep (IsS113.apart (show IsS113 w _ g128 t126 t132 from by repeat (first | (with_reducible first | exact HI128.out | apply IsS113.alloc | apply IsS113.drewN | apply IsS113.drew | apply IsS113.set_1) | exact HI128.out)) (by (with_reducible repeat (first | apply Kd.R_alloc | apply Kd.R_drewN | apply Kd.R_drew)); exact (Q_HO138 h0_)) (by decide)) hk (fun _ h => h.2)) (fun _ h => h.1)) (fun _ h_ => by first | trivial | exact h_ | exact h_.1))
              clear HB
              clear HI128
              have HB := n0_
              have HI128 := n1_
              clear n0_ n1_
              (try clear hb)
              (try clear hb2)
              (try clear hk)
              (try clear hi)
              refine hK.out _ _ ⟨v134, adz_v134, v137, adz_v137, m8_, m10_, (by rw [ha.out]; exact putSel_upk 4 hb_ rfl rfl rfl), fun h0_ => absurd ((hon 1 (by kernel_rfl)).symm.trans h0_) (by decide), (by repeat (first | (with_reducible first | exact HB.out | apply below_alloc | apply pw_below_drewN | apply below_drew1 | refine below_set ?_ (IsS113.ge HI128.out)) | exact HB.out)), fun _ h1_ => absurd ((hon 3 (by kernel_rfl)).symm.trans h1_) (by decide), fun _ h1_ => absurd ((up_self b 7).symm.trans h1_) (by decide), z_HO135, Q_HA_HO135, z_HO138, Q_HA_HO138, fun _ => (by repeat (first | (with_reducible first | exact HI128.out | apply IsS113.alloc | apply IsS113.drewN | apply IsS113.drew | apply IsS113.set_1) | exact HI128.out)), fun h0_ => absurd ((hoff 8 (by kernel_rfl)).symm.trans h0_) (by decide), fun h0_ => absurd ((hoff 10 (by kernel_rfl)).symm.trans h0_) (by decide)⟩
            refine steps_cons ?_ ?_
            · rintro b a w' ⟨v134, adz_v134, v137, adz_v137, m8_, m10_, ha, Q_HI128, Q_HB, Q_HI128_e1, Q_HI128_e3, Q_HO135, Q_HA_HO135, Q_HO138, Q_HA_HO138, Q_HI128_e7, Q_X8_, Q_X10_⟩ hb_ hon hoff
              refine ⟨_, rfl, fun K hK => ?_⟩
              have e12 : a.tmps[12]? = some (v137) := by rw [ha]; exact putSel_on (e := (5, 12, v137)) 3 rfl rfl (hon 5 (by kernel_rfl)) rfl
              have e14 : a.tmps[14]? = some (.int .i64 t139) := by rw [ha]; exact putSel_on (e := (7, 14, .int .i64 t139)) 4 rfl rfl (hon 7 (by kernel_rfl)) rfl
              replace ha := Aside0.mk ha
              have HB := Aside0.mk Q_HB
              have HO138 := Aside0.mk (Q_HO138 (hon 5 (by kernel_rfl)))
              have HA_HO138 := Aside0.mk (Q_HA_HO138 (hon 5 (by kernel_rfl)))
              have HI128 := Aside0.mk (Q_HI128_e7 (hon 7 (by kernel_rfl)))
              obtain ⟨c_, hv_⟩ := HA_HO138.out
              rw [hv_] at e12
              refine value_ (w1 := w') (v := .pointer (some (adz_v137.add (t139).toNat))) (by rfl) rfl ?_ ?_
              · go_simp
                (try simp only [i64_w])
                try rfl
              refine hK.out _ _ ⟨v134, adz_v134, v137, adz_v137, (.pointer (some (adz_v137.add (t139).toNat))), m10_, (by rw [ha.out]; exact putSel_upk 5 hb_ rfl rfl rfl), fun h0_ => absurd ((hon 1 (by kernel_rfl)).symm.trans h0_) (by decide), Q_HB, fun _ h1_ => absurd ((hon 3 (by kernel_rfl)).symm.trans h1_) (by decide), fun _ h1_ => absurd ((hon 7 (by kernel_rfl)).symm.trans h1_) (by decide), Q_HO135, Q_HA_HO135, Q_HO138, Q_HA_HO138, Q_HI128_e7, fun _ => rfl, fun h0_ => absurd ((hoff 10 (by kernel_rfl)).symm.trans h0_) (by decide)⟩
            refine steps_cons ?_ ?_
            · rintro b a w' ⟨v134, adz_v134, v137, adz_v137, m8_, m10_, ha, Q_HI128, Q_HB, Q_HI128_e1, Q_HI128_e3, Q_HO135, Q_HA_HO135, Q_HO138, Q_HA_HO138, Q_HI128_e7, Q_X8_, Q_X10_⟩ hb_ hon hoff
              refine ⟨_, rfl, fun K hK => ?_⟩
              have e15 : a.tmps[15]? = some (m8_) := by rw [ha]; exact putSel_on (e := (8, 15, m8_)) 5 rfl rfl (hon 8 (by kernel_rfl)) rfl
              rw [Q_X8_ (hon 8 (by kernel_rfl))] at e15
              replace ha := Aside0.mk ha
              have HB := Aside0.mk Q_HB
              have HO138 := Aside0.mk (Q_HO138 (hon 5 (by kernel_rfl)))
              have HA_HO138 := Aside0.mk (Q_HA_HO138 (hon 5 (by kernel_rfl)))
              have HI128 := Aside0.mk (Q_HI128_e7 (hon 7 (by kernel_rfl)))
              obtain ⟨c_, hv_⟩ := HA_HO138.out
              have hF_ := HO138.out
              rw [hv_] at hF_
              obtain ⟨ad_, ea_, hx_⟩ := Kd.at_int (Kd.R_reads' hF_).2.2 t139 (of_eq_true pi141) (of_eq_true qi141)
              cases ea_
              refine value_ (w1 := w') (v := .int .i64 (rd y136 t139)) (by rfl) rfl ?_ ?_
              · go_simp
                (try simp only [i64_w])
                try rfl
              refine hK.out _ _ ⟨v134, adz_v134, v137, adz_v137, m8_, m10_, (by rw [ha.out]; exact putSel_upk 6 hb_ rfl rfl rfl), fun h0_ => absurd ((hon 1 (by kernel_rfl)).symm.trans h0_) (by decide), Q_HB, fun _ h1_ => absurd ((hon 3 (by kernel_rfl)).symm.trans h1_) (by decide), fun _ h1_ => absurd ((hon 7 (by kernel_rfl)).symm.trans h1_) (by decide), Q_HO135, Q_HA_HO135, Q_HO138, Q_HA_HO138, Q_HI128_e7, Q_X8_, fun h0_ => absurd ((hoff 10 (by kernel_rfl)).symm.trans h0_) (by decide)⟩
            refine steps_cons ?_ ?_
            · rintro b a w' ⟨v134, adz_v134, v137, adz_v137, m8_, m10_, ha, Q_HI128, Q_HB, Q_HI128_e1, Q_HI128_e3, Q_HO135, Q_HA_HO135, Q_HO138, Q_HA_HO138, Q_HI128_e7, Q_X8_, Q_X10_⟩ hb_ hon hoff
              refine ⟨_, rfl, fun K hK => ?_⟩
              have e11 : a.tmps[11]? = some (v134) := by rw [ha]; exact putSel_on (e := (4, 11, v134)) 2 rfl rfl (hon 4 (by kernel_rfl)) rfl
              have e16 : a.tmps[16]? = some (.int .i64 (rd y136 t139)) := by rw [ha]; exact putSel_on (e := (9, 16, .int .i64 (rd y136 t139))) 6 rfl rfl (hon 9 (by kernel_rfl)) rfl
              replace ha := Aside0.mk ha
              have HB := Aside0.mk Q_HB
              have HO135 := Aside0.mk (Q_HO135 (hon 4 (by kernel_rfl)))
              have HA_HO135 := Aside0.mk (Q_HA_HO135 (hon 4 (by kernel_rfl)))
              have HO138 := Aside0.mk (Q_HO138 (hon 5 (by kernel_rfl)))
              have HA_HO138 := Aside0.mk (Q_HA_HO138 (hon 5 (by kernel_rfl)))
              have HI128 := Aside0.mk (Q_HI128_e7 (hon 7 (by kernel_rfl)))
              obtain ⟨c_, hv_⟩ := HA_HO135.out
              rw [hv_] at e11
              refine value_ (w1 := w') (v := .pointer (some (adz_v134.add ((rd y136 t139)).toNat))) (by rfl) rfl ?_ ?_
              · go_simp
                (try simp only [i64_w])
                try rfl
              refine hK.out _ _ ⟨v134, adz_v134, v137, adz_v137, m8_, (.pointer (some (adz_v134.add ((rd y136 t139)).toNat))), (by rw [ha.out]; exact putSel_upk 7 hb_ rfl rfl rfl), fun h0_ => absurd ((hon 1 (by kernel_rfl)).symm.trans h0_) (by decide), Q_HB, fun _ h1_ => absurd ((hon 3 (by kernel_rfl)).symm.trans h1_) (by decide), fun _ h1_ => absurd ((hon 7 (by kernel_rfl)).symm.trans h1_) (by decide), Q_HO135, Q_HA_HO135, Q_HO138, Q_HA_HO138, Q_HI128_e7, Q_X8_, fun _ => rfl⟩
            refine steps_cons ?_ ?_
            · rintro b a w' ⟨v134, adz_v134, v137, adz_v137, m8_, m10_, ha, Q_HI128, Q_HB, Q_HI128_e1, Q_HI128_e3, Q_HO135, Q_HA_HO135, Q_HO138, Q_HA_HO138, Q_HI128_e7, Q_X8_, Q_X10_⟩ hb_ hon hoff
              refine ⟨_, rfl, fun K hK => ?_⟩
              have e17 : a.tmps[17]? = some (m10_) := by rw [ha]; exact putSel_on (e := (10, 17, m10_)) 7 rfl rfl (hon 10 (by kernel_rfl)) rfl
              rw [Q_X10_ (hon 10 (by kernel_rfl))] at e17
              replace ha := Aside0.mk ha
              have HB := Aside0.mk Q_HB
              have HO135 := Aside0.mk (Q_HO135 (hon 4 (by kernel_rfl)))
              have HA_HO135 := Aside0.mk (Q_HA_HO135 (hon 4 (by kernel_rfl)))
              have HO138 := Aside0.mk (Q_HO138 (hon 5 (by kernel_rfl)))
              have HA_HO138 := Aside0.mk (Q_HA_HO138 (hon 5 (by kernel_rfl)))
              have HI128 := Aside0.mk (Q_HI128_e7 (hon 7 (by kernel_rfl)))
              obtain ⟨c_, hv_⟩ := HA_HO135.out
              have hF_ := HO135.out
              rw [hv_] at hF_
              obtain ⟨ad_, ea_, hx_⟩ := Kd.at_int (Kd.R_reads' hF_).2.2 (rd y136 t139) (of_eq_true pi142) (of_eq_true qi142)
              cases ea_
              refine value_ (w1 := w') (v := .int .i64 (rd y133 (rd y136 t139))) (by rfl) rfl ?_ ?_
              · go_simp
                (try simp only [i64_w])
                try rfl
              refine hK.out _ _ ⟨v134, adz_v134, v137, adz_v137, m8_, m10_, (by rw [ha.out]; exact putSel_upk 8 hb_ rfl rfl rfl), fun h0_ => absurd ((hon 1 (by kernel_rfl)).symm.trans h0_) (by decide), Q_HB, fun _ h1_ => absurd ((hon 3 (by kernel_rfl)).symm.trans h1_) (by decide), fun _ h1_ => absurd ((hon 7 (by kernel_rfl)).symm.trans h1_) (by decide), Q_HO135, Q_HA_HO135, Q_HO138, Q_HA_HO138, Q_HI128_e7, Q_X8_, Q_X10_⟩
            refine steps_cons ?_ ?_
            · rintro b a w' ⟨v134, adz_v134, v137, adz_v137, m8_, m10_, ha, Q_HI128, Q_HB, Q_HI128_e1, Q_HI128_e3, Q_HO135, Q_HA_HO135, Q_HO138, Q_HA_HO138, Q_HI128_e7, Q_X8_, Q_X10_⟩ hb_ hon hoff
              refine ⟨_, rfl, fun K hK => ?_⟩
              have e8 : a.tmps[8]? = some (.int .i64 t129) := by rw [ha]; exact putSel_on (e := (1, 8, .int .i64 t129)) 0 rfl rfl (hon 1 (by kernel_rfl)) rfl
              replace ha := Aside0.mk ha
              have HB := Aside0.mk Q_HB
              have HI128 := Aside0.mk (Q_HI128_e7 (hon 7 (by kernel_rfl)))
              refine value_ (w1 := w') (v := .int .i64 t129) (by rfl) rfl ?_ ?_
              · go_simp
                (try simp only [i64_w])
                try rfl
              refine hK.out _ _ ⟨v134, adz_v134, v137, adz_v137, m8_, m10_, (by rw [ha.out]; exact putSel_upk 9 hb_ rfl rfl rfl), fun h0_ => absurd ((hon 1 (by kernel_rfl)).symm.trans h0_) (by decide), Q_HB, fun _ h1_ => absurd ((hon 3 (by kernel_rfl)).symm.trans h1_) (by decide), fun _ h1_ => absurd ((hon 7 (by kernel_rfl)).symm.trans h1_) (by decide), Q_HO135, Q_HA_HO135, Q_HO138, Q_HA_HO138, Q_HI128_e7, Q_X8_, Q_X10_⟩
            refine steps_cons ?_ ?_
            · rintro b a w' ⟨v134, adz_v134, v137, adz_v137, m8_, m10_, ha, Q_HI128, Q_HB, Q_HI128_e1, Q_HI128_e3, Q_HO135, Q_HA_HO135, Q_HO138, Q_HA_HO138, Q_HI128_e7, Q_X8_, Q_X10_⟩ hb_ hon hoff
              refine ⟨_, rfl, fun K hK => ?_⟩
              have e18 : a.tmps[18]? = some (.int .i64 (rd y133 (rd y136 t139))) := by rw [ha]; exact putSel_on (e := (11, 18, .int .i64 (rd y133 (rd y136 t139)))) 8 rfl rfl (hon 11 (by kernel_rfl)) rfl
              replace ha := Aside0.mk ha
              have HB := Aside0.mk Q_HB
              have HO135 := Aside0.mk (Q_HO135 (hon 4 (by kernel_rfl)))
              have HA_HO135 := Aside0.mk (Q_HA_HO135 (hon 4 (by kernel_rfl)))
              have HO138 := Aside0.mk (Q_HO138 (hon 5 (by kernel_rfl)))
              have HA_HO138 := Aside0.mk (Q_HA_HO138 (hon 5 (by kernel_rfl)))
              have HI128 := Aside0.mk (Q_HI128_e7 (hon 7 (by kernel_rfl)))
              refine value_ (w1 := w') (v := .int .i64 (rd y133 (rd y136 t139))) (by rfl) rfl ?_ ?_
              · go_simp
                (try simp only [i64_w])
                try rfl
              refine hK.out _ _ ⟨v134, adz_v134, v137, adz_v137, m8_, m10_, (by rw [ha.out]; exact putSel_upk 10 hb_ rfl rfl rfl), fun h0_ => absurd ((hon 1 (by kernel_rfl)).symm.trans h0_) (by decide), Q_HB, fun _ h1_ => absurd ((hon 3 (by kernel_rfl)).symm.trans h1_) (by decide), fun _ h1_ => absurd ((hon 7 (by kernel_rfl)).symm.trans h1_) (by decide), Q_HO135, Q_HA_HO135, Q_HO138, Q_HA_HO138, Q_HI128_e7, Q_X8_, Q_X10_⟩
            exact steps_nil
          rintro b a w21 hall ⟨v134, adz_v134, v137, adz_v137, m8_, m10_, ha, Q_HI128, Q_HB, Q_HI128_e1, Q_HI128_e3, Q_HO135, Q_HA_HO135, Q_HO138, Q_HA_HO138, Q_HI128_e7, Q_X8_, Q_X10_⟩
          clear HB HI128
          have hb1_ := hall 1 (by kernel_rfl)
          have hb3_ := hall 3 (by kernel_rfl)
          have hb4_ := hall 4 (by kernel_rfl)
          have hb5_ := hall 5 (by kernel_rfl)
          have hb7_ := hall 7 (by kernel_rfl)
          have hb8_ := hall 8 (by kernel_rfl)
          have hb9_ := hall 9 (by kernel_rfl)
          have hb10_ := hall 10 (by kernel_rfl)
          have hb11_ := hall 11 (by kernel_rfl)
          have hb12_ := hall 12 (by kernel_rfl)
          have hb13_ := hall 13 (by kernel_rfl)
          subst ha
          obtain rfl := Q_X8_ hb8_
          obtain rfl := Q_X10_ hb10_
          simp only [putSel, hb1_, hb3_, hb4_, hb5_, hb7_, hb8_, hb9_, hb10_, hb11_, hb12_, hb13_, if_true, Act.put, List.setIfInBounds_toArray, List.set_cons_zero, List.set_cons_succ]
          clear Q_HI128
          have HB := Aside0.mk Q_HB
          clear Q_HB
          clear Q_HI128_e1
          clear Q_HI128_e3
          have HO135 := Aside0.mk (Q_HO135 hb4_)
          clear Q_HO135
          have HA_HO135 := Aside0.mk (Q_HA_HO135 hb4_)
          clear Q_HA_HO135
          have HO138 := Aside0.mk (Q_HO138 hb5_)
          clear Q_HO138
          have HA_HO138 := Aside0.mk (Q_HA_HO138 hb5_)
          clear Q_HA_HO138
          have HI128 := Aside0.mk (Q_HI128_e7 hb7_)
          clear Q_HI128_e7
          clear hall hb1_ hb3_ hb4_ hb5_ hb7_ hb8_ hb9_ hb10_ hb11_ hb12_ hb13_
          obtain ⟨co22, eo22⟩ := HA_HO135.out
          clear HA_HO135
          subst eo22
          obtain ⟨co23, eo23⟩ := HA_HO138.out
          clear HA_HO138
          subst eo23
          try go_wp2
          go_ret2
          exact ⟨by first | rfl | (simp [errW_none, errW_some] <;> rfl) | (simp [*, errW_none, errW_some] <;> rfl), by repeat (first | (with_reducible first | exact HB.out | apply below_alloc | apply pw_below_drewN | apply below_drew1 | refine below_set ?_ (IsS113.ge HI128.out)) | exact HB.out)⟩
        · rw [if_neg c9] at H
          exact absurd H (by simp)
      · rw [if_neg c8] at H
        exact absurd H (by simp)
    · rw [if_neg c7] at H
      exact absurd H (by simp)
  · rw [if_neg c6] at H
    exact absurd H (by simp)

/-! ### impl_workersFit: function 77 -/
def impl_workersFit.f (a0 : Int) : Option (Bool) := if a0 ≥ 1 then (some (decide (a0 ≤ 6))) else (some false)
set_option maxHeartbeats 8000000 in
set_option maxRecDepth 100000 in
theorem impl_workersFit.calls (a0 : Int) (r : Bool) (w : World) (h : impl_workersFit.f a0 = some r) :
    Calls Try.prog 77 #[.int .i64 a0] w fun e w' => e = .returned (.bool r) ∧ Drawn0 w w' := by
  have H : (if a0 ≥ 1 then (some (decide (a0 ≤ 6))) else (some false)) = some r := h
  clear h
  by_cases c2 : a0 ≥ 1
  · rw [if_pos c2] at H
    have c2b0 : decide (1 ≤ a0) = true := decide_eq_true c2
    clear c2
    obtain rfl := Option.some.inj H
    go_enter Try.func77, Try.ntmps77
    go_wp2
    go_ret
    exact ⟨by first | rfl | (simp; done) | (simp [*]; done), by repeat (first | exact Drawn0.refl _ | apply Drawn0.step)⟩
  · rw [if_neg c2] at H
    have c2b0 : decide (1 ≤ a0) = false := decide_eq_false c2
    clear c2
    obtain rfl := Option.some.inj H
    go_enter Try.func77, Try.ntmps77
    go_wp2
    go_ret
    exact ⟨by first | rfl | (simp; done) | (simp [*]; done), by repeat (first | exact Drawn0.refl _ | apply Drawn0.step)⟩

/-! ### impl_TurnOrder: function 29 -/
mutual
def impl_TurnOrder.j0 : Nat → Int → Int → Bool → Option (List Int)
  | 0, _, _, _ => none
  | k + 1, x0, x1, x13 => if x13 = true then (some ([] : List Int)) else (if 0 ≤ x0 then (if (x0 : Int).toNat ≤ 35184372088832 then ((some (List.replicate (x0 : Int).toNat 0 : List Int)).bind fun y144 => (impl_TurnOrder.l0 k x0 x1 y144 (y144.length : Int) 0)) else (none)) else (none))
def impl_TurnOrder.l0 : Nat → Int → Int → List Int → Int → Int → Option (List Int)
  | 0, _, _, _, _, _ => none
  | k + 1, x0, x1, x5, x17, x18 => if x18 < x17 then (if x0 = 0 then (none) else (if 0 ≤ x18 then (if x18 < (x5.length : Int) then (impl_TurnOrder.l0 k x0 x1 (x5.set (x18 : Int).toNat (Int.tmod (wrap64 ((Int.tmod x1 x0) + x18)) x0)) x17 (wrap64 (x18 + 1))) else (none)) else (none))) else (some x5)
end
def impl_TurnOrder.f (k : Nat) (a0 : Int) (a1 : Int) : Option (List Int) := (impl_workersFit.f a0).bind fun t143 => (if t143 = true then (impl_TurnOrder.j0 k a0 a1 (decide (a1 < 0))) else (impl_TurnOrder.j0 k a0 a1 true))
theorem impl_TurnOrder.mono_l : ∀ k, (∀ y0 y1 y2, LeO (impl_TurnOrder.j0 k y0 y1 y2) (impl_TurnOrder.j0 (k + 1) y0 y1 y2)) ∧ (∀ y0 y1 y2 y3 y4, LeO (impl_TurnOrder.l0 k y0 y1 y2 y3 y4) (impl_TurnOrder.l0 (k + 1) y0 y1 y2 y3 y4))
  | 0 => ⟨fun _ _ _ r h => by simp [impl_TurnOrder.j0] at h, fun _ _ _ _ _ r h => by simp [impl_TurnOrder.l0] at h⟩
  | k + 1 => by
    obtain ⟨ih0, ih1⟩ := impl_TurnOrder.mono_l k
    refine ⟨?_, ?_⟩
    · intro y0 y1 y2
      unfold impl_TurnOrder.j0
      repeat' first
      | (with_reducible exact ih0 _ _ _)
      | (with_reducible exact ih1 _ _ _ _ _)
      | (with_reducible exact LeO.refl _)
      | (with_reducible exact LeO.none _)
      | (with_reducible refine LeO.ite ?_ ?_)
      | (with_reducible refine LeO.bind ?_ (fun _ => ?_))
      | exact ih0 _ _ _
      | exact ih1 _ _ _ _ _
      | exact LeO.none _
      | refine LeO.ite ?_ ?_
      | refine LeO.bind ?_ (fun _ => ?_)
    · intro y0 y1 y2 y3 y4
      unfold impl_TurnOrder.l0
      repeat' first
      | (with_reducible exact ih0 _ _ _)
      | (with_reducible exact ih1 _ _ _ _ _)
      | (with_reducible exact LeO.refl _)
      | (with_reducible exact LeO.none _)
      | (with_reducible refine LeO.ite ?_ ?_)
      | (with_reducible refine LeO.bind ?_ (fun _ => ?_))
      | exact ih0 _ _ _
      | exact ih1 _ _ _ _ _
      | exact LeO.none _
      | refine LeO.ite ?_ ?_
      | refine LeO.bind ?_ (fun _ => ?_)
theorem impl_TurnOrder.mono : ∀ a0 a1 k, LeO (impl_TurnOrder.f k a0 a1) (impl_TurnOrder.f (k + 1) a0 a1) := by
  intro a0 a1 k
  obtain ⟨ih0, ih1⟩ := impl_TurnOrder.mono_l k
  unfold impl_TurnOrder.f
  repeat' first
      | (with_reducible exact ih0 _ _ _)
      | (with_reducible exact ih1 _ _ _ _ _)
      | (with_reducible exact LeO.refl _)
      | (with_reducible exact LeO.none _)
      | (with_reducible refine LeO.ite ?_ ?_)
      | (with_reducible refine LeO.bind ?_ (fun _ => ?_))
      | exact ih0 _ _ _
      | exact ih1 _ _ _ _ _
      | exact LeO.none _
      | refine LeO.ite ?_ ?_
      | refine LeO.bind ?_ (fun _ => ?_)
set_option maxHeartbeats 8000000 in
set_option maxRecDepth 100000 in
theorem impl_TurnOrder.calls (k : Nat) (a0 : Int) (a1 : Int) (r : List Int) (w : World) (h : impl_TurnOrder.f k a0 a1 = some r) :
    Calls Try.prog 29 #[.int .i64 a0, .int .i64 a1] w fun e w' => ∃ v0_ : Value, e = .returned (v0_) ∧ Kd.R (Kd.int .i64) 3 w' w.heap.size (fun _ => True) v0_ r ∧ Below w.heap.size w w' := by
  have HB := Aside0.mk (Below.refl w.heap.size w)
  have H : ((impl_workersFit.f a0).bind fun t143 => (if t143 = true then (impl_TurnOrder.j0 k a0 a1 (decide (a1 < 0))) else (impl_TurnOrder.j0 k a0 a1 true))) = some r := h
  clear h
  have HC3 := Aside0.mk H
  clear H
  go_enter Try.func29, Try.ntmps29
  go_upto_region 1 with (fail)
  go_cut [13] (fun v13 wc => ∃ (kq : Nat) (x13_2 : Bool), v13 = .bool x13_2 ∧ Aside0 (impl_TurnOrder.j0 kq a0 a1 x13_2 = some r) ∧ Aside0 (kq ≤ k) ∧ Aside0 (Below w.heap.size w wc))
  case first =>
    have H := HC3.out
    clear HC3
    replace H := Option.bind_eq_some_iff.mp H
    obtain ⟨t143, A40, H⟩ := H
    replace H : (if t143 = true then (impl_TurnOrder.j0 k a0 a1 (decide (a1 < 0))) else (impl_TurnOrder.j0 k a0 a1 true)) = some r := H
    have A4 := Aside0.mk A40
    clear A40
    by_cases c5 : t143 = true
    · subst c5
      have H1 : (impl_TurnOrder.j0 k a0 a1 (decide (a1 < 0))) = some r := by rw [if_pos rfl] at H; exact H
      clear H
      have H := H1
      clear H1
      have H' := Aside0.mk H
      clear H
      go_wp2_with (first | ((with_reducible refine gate_callee (f := 77) rfl ?_); refine goesL_ (some 8) rfl rfl Try.func77 (by kernel_rfl) rfl #[.int .i64 a0] rfl (by (try simp only [List.map_toArray, List.map_cons, List.map_nil]); first | done | rfl | (simp only [List.length_drop, List.length_take]; rfl)) ?_; (with_reducible refine (impl_workersFit.calls a0 true _ A4.out).mono ?_); rintro e w' ⟨rfl, ⟨nd, rfl⟩⟩; refine ⟨_, rfl, ?_⟩))
      go_meet
      case rel => exact ⟨_, (decide (a1 < 0)), (by first | rfl | (simp; done) | (simp [*]; done)), H', ⟨by first | omega | exact Nat.le_refl _⟩, ⟨by repeat (first | (with_reducible first | exact HB.out | apply below_alloc | apply pw_below_drewN | apply below_drew1) | exact HB.out)⟩⟩
    · replace c5 := Bool.eq_false_iff.mpr c5
      subst c5
      have H1 : (impl_TurnOrder.j0 k a0 a1 true) = some r := by rw [if_neg (show ¬ (false = true) by decide)] at H; exact H
      clear H
      have H := H1
      clear H1
      have H' := Aside0.mk H
      clear H
      go_wp2_with (first | ((with_reducible refine gate_callee (f := 77) rfl ?_); refine goesL_ (some 8) rfl rfl Try.func77 (by kernel_rfl) rfl #[.int .i64 a0] rfl (by (try simp only [List.map_toArray, List.map_cons, List.map_nil]); first | done | rfl | (simp only [List.length_drop, List.length_take]; rfl)) ?_; (with_reducible refine (impl_workersFit.calls a0 false _ A4.out).mono ?_); rintro e w' ⟨rfl, ⟨nd, rfl⟩⟩; refine ⟨_, rfl, ?_⟩))
      go_meet
      case rel => exact ⟨_, (true), (by first | rfl | (simp; done) | (simp [*]; done)), H', ⟨by first | omega | exact Nat.le_refl _⟩, ⟨by repeat (first | (with_reducible first | exact HB.out | apply below_alloc | apply pw_below_drewN | apply below_drew1) | exact HB.out)⟩⟩
  case rest =>
    clear HC3
    try clear c2
    try clear p2
    try clear c5
    obtain ⟨kq, x13_2, rfl, HA, HJ2, HB⟩ := hcut
    cases kq with
    | zero => exact absurd HA.out (by simp [impl_TurnOrder.j0])
    | succ kj2 =>
      have H := HA.out
      clear HA
      simp only [impl_TurnOrder.j0] at H
      by_cases c6 : x13_2 = true
      · subst c6
        have H1 : (some ([] : List Int)) = some r := by rw [if_pos rfl] at H; exact H
        clear H
        have H := H1
        clear H1
        obtain rfl := Option.some.inj H
        go_wp2
        go_ret
        exact ⟨_, by first | rfl | (simp [errW_none, errW_some] <;> rfl) | (simp [*, errW_none, errW_some] <;> rfl), by first | exact Kd.R_nil _ _ _ _ _ | exact Kd.N_nil _ _ _ _ _ | exact Kd.V_nil _ _ _ _ _ | exact Kd.Q_nil _ _ _ _ _ | exact Kd.S_nil _ _ _ _ _, by repeat (first | (with_reducible first | exact HB.out | apply below_alloc | apply pw_below_drewN | apply below_drew1) | exact HB.out)⟩
      · replace c6 := Bool.eq_false_iff.mpr c6
        subst c6
        have H1 : (if 0 ≤ a0 then (if (a0 : Int).toNat ≤ 35184372088832 then ((some (List.replicate (a0 : Int).toNat 0 : List Int)).bind fun y144 => (impl_TurnOrder.l0 kj2 a0 a1 y144 (y144.length : Int) 0)) else (none)) else (none)) = some r := by rw [if_neg (show ¬ (false = true) by decide)] at H; exact H
        clear H
        have H := H1
        clear H1
        by_cases c7 : 0 ≤ a0
        · rw [if_pos c7] at H
          have c7b0 := eq_true c7
          have c7b1 : decide (0 ≤ a0) = true := decide_eq_true c7
          clear c7
          by_cases c8 : (a0 : Int).toNat ≤ 35184372088832
          · rw [if_pos c8] at H
            have c8b0 := eq_true c8
            have c8b1 : decide ((a0 : Int).toNat ≤ 35184372088832) = true := decide_eq_true c8
            clear c8
            obtain ⟨y144, hy144⟩ : ∃ y_ : List Int, y_ = (List.replicate (a0 : Int).toNat 0) := ⟨_, rfl⟩
            replace H : (impl_TurnOrder.l0 kj2 a0 a1 y144 (y144.length : Int) 0) = some r := by first | (rw [hy144]; with_reducible exact H) | (have H2_ := (Option.bind_some _ _).symm.trans H; rw [hy144]; with_reducible exact H2_) | (have H2_ := (Option.bind_some _ _).symm.trans H; with_reducible exact H2_) | with_reducible exact H | (rw [hy144]; exact H) | exact H
            have Ny144 := Aside0.mk hy144
            clear hy144
            have H' := Aside0.mk H
            clear H
            go_wp2_with (first | ((with_reducible refine gate_dst (N := 15) rfl ?_); refine Kd.R_make (Kd.int .i64) _ 3 rfl (N := 15) rfl 32 _ _ rfl a0 rfl rfl Try.underlying32 (.int .i64 0) 8 info3 rfl (by decide) (by omega) 0 (ok := fun _ => True) (okp := fun _ => True) rfl (fun _ hk => hk) trivial (of_decide_eq_true (by first | (with_reducible assumption) | assumption)) (Nat.le_trans (Nat.mul_le_mul_right _ (of_decide_eq_true (by first | (with_reducible assumption) | assumption) : a0.toNat ≤ 35184372088832)) (by omega)) (Below.refl _ _) (Nat.le_refl _) ?_; intro v145 w9 ho10 hb hg_ hnew_; clear hg_ hnew_; (first | rw [← Ny144.out] at ho10 | (simp only [Int.reduceToNat] at ho10; rw [← Ny144.out] at ho10)); have n0_ := Aside0.mk (Kd.R_lower ho10 (below_size (by repeat (first | (with_reducible first | exact HB.out | apply below_alloc | apply pw_below_drewN | apply below_drew1) | exact HB.out)))); have n1_ := Aside0.mk (below_step (by repeat (first | (with_reducible first | exact HB.out | apply below_alloc | apply pw_below_drewN | apply below_drew1) | exact HB.out)) hb); clear HB; have HO146 := n0_; have HB := n1_; clear n0_ n1_; clear hb ho10; obtain ⟨Ao11, co11, eo11⟩ := Kd.R_slice HO146.out; subst eo11))
            go_loopg [18] kj2 (fun kq v18 w' => ∃ (x5_2 : List Int) (x18_2 : Int), v18 = .int .i64 x18_2 ∧ Aside0 (impl_TurnOrder.l0 kq a0 a1 x5_2 (y144.length : Int) x18_2 = some r) ∧ Aside0 (kq ≤ kj2) ∧ Aside0 (Kd.R (Kd.int .i64) 3 w' w.heap.size (fun _ => True) (.slice Ao11 y144.length co11) x5_2) ∧ Aside0 (Below w.heap.size w w'))
            case atStart => exact ⟨(y144), (0), (by first | rfl | (simp; done) | (simp [*]; done)), H', ⟨Nat.le_refl _⟩, ⟨by (with_reducible repeat (first | apply Kd.R_alloc | apply Kd.R_drewN | apply Kd.R_drew)); exact HO146.out⟩, ⟨by repeat (first | (with_reducible first | exact HB.out | apply below_alloc | apply pw_below_drewN | apply below_drew1) | exact HB.out)⟩⟩
            case round =>
              clear H'
              try clear c2
              try clear p2
              try clear c5
              try clear c6
              try clear c7
              try clear c7b0
              try clear c7b1
              try clear c8
              try clear c8b0
              try clear c8b1
              try clear p2
              obtain ⟨x5_2, x18_2, rfl, HA, HK2, HO_5, HB⟩ := hrel
              have hl5_2 := (Kd.R_reads' HO_5.out).1
              rw [hl5_2] at HO_5
              (try simp only [hl5_2])
              cases gk with
              | zero => exact absurd HA.out (by simp [impl_TurnOrder.l0])
              | succ k2 =>
                have H := HA.out
                clear HA
                simp only [impl_TurnOrder.l0] at H
                by_cases c12 : x18_2 < (y144.length : Int)
                · rw [if_pos c12] at H
                  have c12b0 : decide (x18_2 < (y144.length : Int)) = true := decide_eq_true c12
                  clear c12
                  by_cases c13 : a0 = 0
                  · rw [if_pos c13] at H
                    exact absurd H (by simp)
                  · rw [if_neg c13] at H
                    have c13b0 : (a0 == 0) = false := beq_eq_false_iff_ne.mpr c13
                    have c13b1 : (a0 != 0) = true := bne_iff_ne.mpr c13
                    by_cases c14 : 0 ≤ x18_2
                    · rw [if_pos c14] at H
                      have c14b0 : decide (0 ≤ x18_2) = true := decide_eq_true c14
                      clear c14
                      by_cases c15 : x18_2 < (x5_2.length : Int)
                      · rw [if_pos c15] at H
                        have c15b0 : decide (x18_2 < (x5_2.length : Int)) = true := decide_eq_true c15
                        clear c15
                        obtain ⟨y147, hy147⟩ : ∃ y_ : List Int, y_ = (x5_2.set (x18_2 : Int).toNat (Int.tmod (wrap64 ((Int.tmod a1 a0) + x18_2)) a0)) := ⟨_, rfl⟩
                        replace H : (impl_TurnOrder.l0 k2 a0 a1 y147 (y144.length : Int) (wrap64 (x18_2 + 1))) = some r := by first | (rw [hy147]; with_reducible exact H) | (have H2_ := (Option.bind_some _ _).symm.trans H; rw [hy147]; with_reducible exact H2_) | (have H2_ := (Option.bind_some _ _).symm.trans H; with_reducible exact H2_) | with_reducible exact H | (rw [hy147]; exact H) | exact H
                        have Ny147 := Aside0.mk hy147
                        clear hy147
                        have H' := Aside0.mk H
                        clear H
                        have p16 : 0 ≤ (x18_2 : Int) := of_decide_eq_true (by first | (with_reducible assumption) | assumption)
                        have q16 : (x18_2 : Int) < ((x5_2.length : Int) : Int) := of_decide_eq_true (by first | (with_reducible assumption) | assumption)
                        obtain ⟨go16, co16, eo16, gb16, gl16, cl16, HG16⟩ := Kd.R_form HO_5.out (by omega)
                        (first | cases eo16 | (injection eo16 with ea_ en_ ec_; (first | subst ea_ | (injection ea_ with ea_; subst ea_)); subst ec_; clear en_))
                        have GB16 := Aside0.mk gb16
                        have GG16 := Aside0.mk HG16
                        clear gb16 gl16 HG16
                        obtain ⟨hx16_0, hf16_0⟩ := Kd.R_celln 0 HO_5.out (x18_2 : Int) p16 q16
                        replace p16 := eq_true p16
                        replace q16 := eq_true q16
                        have HP17 := Kd.R_putg HO_5.out (x18_2 : Int) (Int.tmod (wrap64 ((Int.tmod a1 a0) + x18_2)) a0)
                        go_wp2_with (first | ((with_reducible refine gate_store (t := 3) (p := 30) rfl ?_); refine store_event (t := 3) (p := 30) (v := ?vo_w18) (w1 := (wr.setCell ⟨go16, (x18_2 : Int).toNat, none⟩ (.int .i64 (Int.tmod (wrap64 ((Int.tmod a1 a0) + x18_2)) a0)))) ?hg ?ho ?hn ?hr ?_; (case ho => rfl); (case hg => rfl); (case hn => rfl); (case hr => first | (go_simp; done) | (go_simp; rfl)); intro w18 hw; have hg : wr.grownBy w18 (some go16) := (by rw [hw]; exact HP17.2); have hp_ : Kd.R (Kd.int .i64) 3 w18 w.heap.size (fun _ => True) (.slice (some ⟨go16, 0, none⟩) x5_2.length co11) y147 := (by rw [hw, Ny147.out]; exact HP17.1); clear HP17; have n0_ := Aside0.mk (hp_); have n1_ := Aside0.mk ((by rw [hw]; exact below_set (HB.out) GB16.out : Below w.heap.size w w18)); clear HO_5; clear HB; have HO_5 := n0_; have HB := n1_; clear n0_ n1_; clear hg hw hp_))
                        (try simp only [← hl5_2])
                        go_roundg k2
                        case measure => have := HJ2.out; have := HK2.out; omega
                        case rel => exact ⟨(y147), (wrap64 (x18_2 + 1)), (by first | rfl | (simp; done) | (simp [*]; done)), H', ⟨by have := HJ2.out; have := HK2.out; omega⟩, ⟨by (try simp only [hl5_2]); (with_reducible repeat (first | apply Kd.R_alloc | apply Kd.R_drewN | apply Kd.R_drew)); exact HO_5.out⟩, ⟨by repeat (first | (with_reducible first | exact HB.out | apply below_alloc | apply pw_below_drewN | apply below_drew1) | exact HB.out)⟩⟩
                      · rw [if_neg c15] at H
                        exact absurd H (by simp)
                    · rw [if_neg c14] at H
                      exact absurd H (by simp)
                · rw [if_neg c12] at H
                  have c12b0 : decide (x18_2 < (y144.length : Int)) = false := decide_eq_false c12
                  (try simp only [hl5_2] at c12b0)
                  clear c12
                  obtain rfl := Option.some.inj H
                  go_wp2
                  go_ret
                  exact ⟨_, by first | rfl | (simp [errW_none, errW_some] <;> rfl) | (simp [*, errW_none, errW_some] <;> rfl), by (with_reducible repeat (first | apply Kd.R_alloc | apply Kd.R_drewN | apply Kd.R_drew)); exact HO_5.out, by repeat (first | (with_reducible first | exact HB.out | apply below_alloc | apply pw_below_drewN | apply below_drew1) | exact HB.out)⟩
          · rw [if_neg c8] at H
            exact absurd H (by simp)
        · rw [if_neg c7] at H
          exact absurd H (by simp)

/-! ### laws_sameInts: function 30 -/
def laws_sameInts.l0 : Nat → List Int → List Int → Int → Option (Bool)
  | 0, _, _, _ => none
  | k + 1, x0, x1, x5 => if x5 < (x0.length : Int) then (if 0 ≤ x5 then (if x5 < (x1.length : Int) then (if (rd x0 x5) = (rd x1 x5) then (laws_sameInts.l0 k x0 x1 (wrap64 (x5 + 1))) else (some false)) else (none)) else (none)) else (some true)
def laws_sameInts.f (k : Nat) (l0 : List Int) (l1 : List Int) : Option (Bool) := if (l0.length : Int) = (l1.length : Int) then (laws_sameInts.l0 k l0 l1 0) else (some false)
theorem laws_sameInts.mono_l : ∀ k, (∀ y0 y1 y2, LeO (laws_sameInts.l0 k y0 y1 y2) (laws_sameInts.l0 (k + 1) y0 y1 y2))
  | 0 => fun _ _ _ r h => by simp [laws_sameInts.l0] at h
  | k + 1 => by
    have ih0 := laws_sameInts.mono_l k
    · intro y0 y1 y2
      unfold laws_sameInts.l0
      repeat' first
      | (with_reducible exact ih0 _ _ _)
      | (with_reducible exact LeO.refl _)
      | (with_reducible exact LeO.none _)
      | (with_reducible refine LeO.ite ?_ ?_)
      | (with_reducible refine LeO.bind ?_ (fun _ => ?_))
      | exact ih0 _ _ _
      | exact LeO.none _
      | refine LeO.ite ?_ ?_
      | refine LeO.bind ?_ (fun _ => ?_)
theorem laws_sameInts.mono : ∀ a0 a1 k, LeO (laws_sameInts.f k a0 a1) (laws_sameInts.f (k + 1) a0 a1) := by
  intro a0 a1 k
  have ih0 := laws_sameInts.mono_l k
  unfold laws_sameInts.f
  repeat' first
      | (with_reducible exact ih0 _ _ _)
      | (with_reducible exact LeO.refl _)
      | (with_reducible exact LeO.none _)
      | (with_reducible refine LeO.ite ?_ ?_)
      | (with_reducible refine LeO.bind ?_ (fun _ => ?_))
      | exact ih0 _ _ _
      | exact LeO.none _
      | refine LeO.ite ?_ ?_
      | refine LeO.bind ?_ (fun _ => ?_)
set_option maxHeartbeats 8000000 in
set_option maxRecDepth 100000 in
theorem laws_sameInts.calls (k : Nat) (A0 : Option Addr) (c0 : Nat) (l0 : List Int) (A1 : Option Addr) (c1 : Nat) (l1 : List Int) (r : Bool) (w : World) (hr0 : Kd.C (Kd.int .i64) w A0 l0.length l0) (hc0 : l0.length ≤ c0) (hr1 : Kd.C (Kd.int .i64) w A1 l1.length l1) (hc1 : l1.length ≤ c1) (h : laws_sameInts.f k l0 l1 = some r) :
    Calls Try.prog 30 #[.slice A0 l0.length c0, .slice A1 l1.length c1] w fun e w' => e = .returned (.bool r) ∧ Drawn0 w w' := by
  have HR0 := Aside0.mk hr0
  have HC0 := Aside0.mk hc0
  clear hr0 hc0
  have HR1 := Aside0.mk hr1
  have HC1 := Aside0.mk hc1
  clear hr1 hc1
  have H : (if (l0.length : Int) = (l1.length : Int) then (laws_sameInts.l0 k l0 l1 0) else (some false)) = some r := h
  clear h
  by_cases c3 : (l0.length : Int) = (l1.length : Int)
  · rw [if_pos c3] at H
    have c3b0 : ((l0.length : Int) == (l1.length : Int)) = true := beq_iff_eq.mpr c3
    have c3b1 : ((l0.length : Int) != (l1.length : Int)) = false := bne_eq_false_iff_eq.mpr c3
    have c3b2 : (l0.length == l1.length) = true := by first | simpa using c3 | (simp at c3 ⊢; omega)
    clear c3
    have H' := Aside0.mk H
    clear H
    go_enter Try.func30, Try.ntmps30
    go_wp2
    repeat (go_quiet (fail); try go_wp2)
    go_loopg [5] k (fun kq v5 w' => ∃ (x5_1 : Int), v5 = .int .i64 x5_1 ∧ Aside0 (laws_sameInts.l0 kq l0 l1 x5_1 = some r) ∧ Aside0 (kq ≤ k) ∧ Drawn0 w w')
    case atStart => exact ⟨(0), (by first | rfl | (simp; done) | (simp [*]; done)), H', ⟨Nat.le_refl _⟩, by repeat (first | exact Drawn0.refl _ | apply Drawn0.step)⟩
    case round =>
      clear H'
      try clear c1
      try clear p2
      try clear c3
      try clear c3b0
      try clear c3b1
      try clear c3b2
      obtain ⟨x5_1, rfl, HA, HK1, ⟨m1, rfl⟩⟩ := hrel
      cases gk with
      | zero => exact absurd HA.out (by simp [laws_sameInts.l0])
      | succ k1 =>
        have H := HA.out
        clear HA
        simp only [laws_sameInts.l0] at H
        by_cases c4 : x5_1 < (l0.length : Int)
        · rw [if_pos c4] at H
          have c4b0 : decide (x5_1 < (l0.length : Int)) = true := decide_eq_true c4
          clear c4
          by_cases c5 : 0 ≤ x5_1
          · rw [if_pos c5] at H
            have c5b0 : decide (0 ≤ x5_1) = true := decide_eq_true c5
            clear c5
            by_cases c6 : x5_1 < (l1.length : Int)
            · rw [if_pos c6] at H
              have c6b0 : decide (x5_1 < (l1.length : Int)) = true := decide_eq_true c6
              clear c6
              by_cases c7 : (rd l0 x5_1) = (rd l1 x5_1)
              · rw [if_pos c7] at H
                have c7b0 : ((rd l0 x5_1) == (rd l1 x5_1)) = true := beq_iff_eq.mpr c7
                have c7b1 : ((rd l0 x5_1) != (rd l1 x5_1)) = false := bne_eq_false_iff_eq.mpr c7
                clear c7
                have H' := Aside0.mk H
                clear H
                have p148 : 0 ≤ (x5_1 : Int) := of_decide_eq_true (by first | (with_reducible assumption) | assumption)
                have q148 : x5_1 < (l0.length : Int) := of_decide_eq_true (by first | (with_reducible assumption) | assumption)
                obtain ⟨ad148, e148, hx148_0⟩ := Kd.at_int HR0.out x5_1 p148 q148
                cases e148
                replace p148 := eq_true p148
                replace q148 := eq_true q148
                have p149 : 0 ≤ (x5_1 : Int) := of_decide_eq_true (by first | (with_reducible assumption) | assumption)
                have q149 : x5_1 < (l1.length : Int) := of_decide_eq_true (by first | (with_reducible assumption) | assumption)
                obtain ⟨ad149, e149, hx149_0⟩ := Kd.at_int HR1.out x5_1 p149 q149
                cases e149
                replace p149 := eq_true p149
                replace q149 := eq_true q149
                go_wp2
                repeat (go_quiet (fail); try go_wp2)
                go_roundg k1
                case measure => have := HK1.out; omega
                case rel => exact ⟨(wrap64 (x5_1 + 1)), (by first | rfl | (simp; done) | (simp [*]; done)), H', ⟨by have := HK1.out; omega⟩, by repeat (first | exact Drawn0.refl _ | apply Drawn0.step)⟩
              · rw [if_neg c7] at H
                have c7b0 : ((rd l0 x5_1) == (rd l1 x5_1)) = false := beq_eq_false_iff_ne.mpr c7
                have c7b1 : ((rd l0 x5_1) != (rd l1 x5_1)) = true := bne_iff_ne.mpr c7
                obtain rfl := Option.some.inj H
                have p148 : 0 ≤ (x5_1 : Int) := of_decide_eq_true (by first | (with_reducible assumption) | assumption)
                have q148 : x5_1 < (l0.length : Int) := of_decide_eq_true (by first | (with_reducible assumption) | assumption)
                obtain ⟨ad148, e148, hx148_0⟩ := Kd.at_int HR0.out x5_1 p148 q148
                cases e148
                replace p148 := eq_true p148
                replace q148 := eq_true q148
                have p149 : 0 ≤ (x5_1 : Int) := of_decide_eq_true (by first | (with_reducible assumption) | assumption)
                have q149 : x5_1 < (l1.length : Int) := of_decide_eq_true (by first | (with_reducible assumption) | assumption)
                obtain ⟨ad149, e149, hx149_0⟩ := Kd.at_int HR1.out x5_1 p149 q149
                cases e149
                replace p149 := eq_true p149
                replace q149 := eq_true q149
                go_wp2
                repeat (go_quiet (fail); try go_wp2)
                go_ret
                exact ⟨by first | rfl | (simp; done) | (simp [*]; done), by repeat (first | exact Drawn0.refl _ | apply Drawn0.step)⟩
            · rw [if_neg c6] at H
              exact absurd H (by simp)
          · rw [if_neg c5] at H
            exact absurd H (by simp)
        · rw [if_neg c4] at H
          have c4b0 : decide (x5_1 < (l0.length : Int)) = false := decide_eq_false c4
          clear c4
          obtain rfl := Option.some.inj H
          go_wp2
          repeat (go_quiet (fail); try go_wp2)
          go_ret
          exact ⟨by first | rfl | (simp; done) | (simp [*]; done), by repeat (first | exact Drawn0.refl _ | apply Drawn0.step)⟩
  · rw [if_neg c3] at H
    have c3b0 : ((l0.length : Int) == (l1.length : Int)) = false := beq_eq_false_iff_ne.mpr c3
    have c3b1 : ((l0.length : Int) != (l1.length : Int)) = true := bne_iff_ne.mpr c3
    have c3b2 : (l0.length == l1.length) = false := by first | simpa using c3 | (simp at c3 ⊢; omega)
    obtain rfl := Option.some.inj H
    go_enter Try.func30, Try.ntmps30
    go_wp2
    repeat (go_quiet (fail); try go_wp2)
    go_ret
    exact ⟨by first | rfl | (simp; done) | (simp [*]; done), by repeat (first | exact Drawn0.refl _ | apply Drawn0.step)⟩

/-! ### spec_l1In: function 68 -/
def spec_l1In.f (a0 : Int) (a1 : Int) (a2 : Int) : Option (Bool) := if a0 ≥ a1 then (some (decide (a0 ≤ a2))) else (some false)
set_option maxHeartbeats 8000000 in
set_option maxRecDepth 100000 in
theorem spec_l1In.calls (a0 : Int) (a1 : Int) (a2 : Int) (r : Bool) (w : World) (h : spec_l1In.f a0 a1 a2 = some r) :
    Calls Try.prog 68 #[.int .i64 a0, .int .i64 a1, .int .i64 a2] w fun e w' => e = .returned (.bool r) ∧ Drawn0 w w' := by
  have H : (if a0 ≥ a1 then (some (decide (a0 ≤ a2))) else (some false)) = some r := h
  clear h
  by_cases c4 : a0 ≥ a1
  · rw [if_pos c4] at H
    have c4b0 : decide (a1 ≤ a0) = true := decide_eq_true c4
    clear c4
    obtain rfl := Option.some.inj H
    go_enter Try.func68, Try.ntmps68
    go_wp2
    go_ret
    exact ⟨by first | rfl | (simp; done) | (simp [*]; done), by repeat (first | exact Drawn0.refl _ | apply Drawn0.step)⟩
  · rw [if_neg c4] at H
    have c4b0 : decide (a1 ≤ a0) = false := decide_eq_false c4
    clear c4
    obtain rfl := Option.some.inj H
    go_enter Try.func68, Try.ntmps68
    go_wp2
    go_ret
    exact ⟨by first | rfl | (simp; done) | (simp [*]; done), by repeat (first | exact Drawn0.refl _ | apply Drawn0.step)⟩

end Go.Proofs.Ytloiafnoekpaoaa.PFnTurnOrder
