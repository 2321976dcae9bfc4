/- Laid by a program of this session out of the translation: functions, their contracts, the row. Lean checks it. -/
import Derived.Test.YtloiafnoekpaoabPFnExactPiecesValidx0
namespace Go.Proofs.Ytloiafnoekpaoab.PFnExactPiecesValid
open Go.RowKit Go.Proofs.YtloiafnoekpaoabW.PrintWords Go.Proofs.YtloiafnoekpaoabW.PrintLast Go.Proofs.YtloiafnoekpaoabW.PrintMore
theorem z1_0 {p : Prop} (h : p := by first | (go_simp; done) | (go_simp; rfl)) : p := h
theorem z1_1 {p : Prop} (h : p := by repeat (first | (with_reducible first | exact HB.out | apply below_alloc | apply pw_below_drewN | apply below_drew1) | exact HB.out)) : p := h
theorem z1_2 {p : Prop} (h : p := by (try simp only [List.map_toArray, List.map_cons, List.map_nil]); first | done | rfl | (simp only [List.length_drop, List.length_take]; rfl)) : p := h
theorem z1_3 {p : Prop} (h : p := by repeat (first | (with_reducible first | exact HB.out | apply below_alloc | apply pw_below_drewN | apply below_drew1 | refine below_set ?_ GE101.out) | exact HB.out)) : p := h
theorem z1_4 {p : Prop} (h : p := by repeat (first | (with_reducible first | exact HB.out | apply below_alloc | apply pw_below_drewN | apply below_drew1 | refine below_set ?_ GE124.out) | exact HB.out)) : p := h
theorem z1_5 {p : Prop} (h : p := by first | rfl | (simp [errW_none, errW_some] <;> rfl) | (simp [*, errW_none, errW_some] <;> rfl)) : p := h
theorem z1_6 {p : Prop} (h : p := by first | rfl | (simp; done) | (simp [*]; done)) : p := h
theorem z1_7 {p : Prop} (h : p := by (with_reducible repeat (first | refine blk_drewN ?_ _ | refine blk_drew ?_ | refine blk_alloc ?_ _)); exact BK124.out) : p := h
theorem z1_8 {p : Prop} (h : p := by repeat (first | exact Drawn0.refl _ | apply Drawn0.step)) : p := h
theorem z1_9 {p : Prop} (h : p := by rw [hg]; exact (below_size z1_1)) : p := h
theorem z1_10 {p : Prop} (h : p := by (with_reducible repeat (first | apply Kd.R_alloc | apply Kd.R_drewN | apply Kd.R_drew)); exact HO_7.out) : p := h
theorem z1_11 {p : Prop} (h : p := by repeat (first | (with_reducible first | exact HB.out | apply below_alloc | apply pw_below_drewN | apply below_drew1 | refine below_set ?_ GE124.out | refine below_set ?_ GE125.out) | exact HB.out)) : p := h
theorem z1_12 {p : Prop} (h : p := by repeat (first | (with_reducible first | exact HB.out | apply below_alloc | apply pw_below_drewN | apply below_drew1 | refine below_set ?_ GE119.out) | exact HB.out)) : p := h
theorem z1_13 {p : Prop} (h : p := by first | (with_reducible assumption) | assumption) : p := h
theorem z1_14 {p : Prop} (h : p := by rw [hg]; exact Nat.ne_of_lt (blk_lt (g := gb124) (o := .cells #[.int .i64 a0_0, .int .i64 a0_1, .int .i64 a0_2] 122 (0, 0)) z1_7)) : p := h
theorem z1_15 {p : Prop} (h : p := by rw [hg]; exact Nat.ne_of_gt (blk_lt (g := gb124) (o := .cells #[.int .i64 a0_0, .int .i64 a0_1, .int .i64 a0_2] 122 (0, 0)) z1_7)) : p := h
theorem z1_16 {p : Prop} (h : p := by rw [hg]; exact (below_size z1_4)) : p := h
attribute [local go_sem] max2_int min2_int max_two min_two max_three min_three max_four min_four   -- for this text's walks alone
set_option linter.unusedVariables false
set_option linter.unusedSimpArgs false

/-! ### laws_szIntS: function 69 -/
def laws_szIntS.f (l0 : List Int) (a1 : Int) : Option (Int) := if (wrap64 (a1 - (l0.length : Int))) < 0 then (some (-1)) else (some (wrap64 (a1 - (l0.length : Int))))
set_option maxHeartbeats 8000000 in
set_option maxRecDepth 100000 in
theorem laws_szIntS.calls (A0 : Option Addr) (c0 : Nat) (l0 : List Int) (a1 : Int) (r : Int) (w : World) (hr0 : Kd.C (Kd.int .i64) w A0 l0.length l0) (hc0 : l0.length ≤ c0) (h : laws_szIntS.f l0 a1 = some r) :
  Calls Try.prog 69 #[.slice A0 l0.length c0, .int .i64 a1] w fun e w' => e = .returned (.int .i64 r) ∧ Drawn0 w w' := by
 have HR0 := Aside0.mk hr0
 have HC0 := Aside0.mk hc0
 clear hr0 hc0
 have H : (if (wrap64 (a1 - (l0.length : Int))) < 0 then (some (-1)) else (some (wrap64 (a1 - (l0.length : Int))))) = some r := h
 clear h
 by_cases c3 : (wrap64 (a1 - (l0.length : Int))) < 0
 ·rw [if_pos c3] at H
  have c3b0 : decide ((wrap64 (a1 - (l0.length : Int))) < 0) = true := decide_eq_true c3
  clear c3
  obtain rfl := Option.some.inj H
  go_enter Try.func69, Try.ntmps69
  go_wp2
  go_ret
  exact ⟨z1_6, z1_8⟩
 ·rw [if_neg c3] at H
  have c3b0 : decide ((wrap64 (a1 - (l0.length : Int))) < 0) = false := decide_eq_false c3
  clear c3
  obtain rfl := Option.some.inj H
  go_enter Try.func69, Try.ntmps69
  go_wp2
  go_ret
  exact ⟨z1_6, z1_8⟩

/-! ### laws_szBoolS: function 90 -/
def laws_szBoolS.f (l0 : List Bool) (a1 : Int) : Option (Int) := if (wrap64 (a1 - (l0.length : Int))) < 0 then (some (-1)) else (some (wrap64 (a1 - (l0.length : Int))))
set_option maxHeartbeats 8000000 in
set_option maxRecDepth 100000 in
theorem laws_szBoolS.calls (A0 : Option Addr) (c0 : Nat) (l0 : List Bool) (a1 : Int) (r : Int) (w : World) (hr0 : Kd.C Kd.bool w A0 l0.length l0) (hc0 : l0.length ≤ c0) (h : laws_szBoolS.f l0 a1 = some r) :
  Calls Try.prog 90 #[.slice A0 l0.length c0, .int .i64 a1] w fun e w' => e = .returned (.int .i64 r) ∧ Drawn0 w w' := by
 have HR0 := Aside0.mk hr0
 have HC0 := Aside0.mk hc0
 clear hr0 hc0
 have H : (if (wrap64 (a1 - (l0.length : Int))) < 0 then (some (-1)) else (some (wrap64 (a1 - (l0.length : Int))))) = some r := h
 clear h
 by_cases c3 : (wrap64 (a1 - (l0.length : Int))) < 0
 ·rw [if_pos c3] at H
  have c3b0 : decide ((wrap64 (a1 - (l0.length : Int))) < 0) = true := decide_eq_true c3
  clear c3
  obtain rfl := Option.some.inj H
  go_enter Try.func90, Try.ntmps90
  go_wp2
  go_ret
  exact ⟨z1_6, z1_8⟩
 ·rw [if_neg c3] at H
  have c3b0 : decide ((wrap64 (a1 - (l0.length : Int))) < 0) = false := decide_eq_false c3
  clear c3
  obtain rfl := Option.some.inj H
  go_enter Try.func90, Try.ntmps90
  go_wp2
  go_ret
  exact ⟨z1_6, z1_8⟩

/-! ### laws_szMessageS: function 91 -/
def laws_szMessageS.f (l0 : List (S157)) (a1 : Int) : Option (Int) := if (wrap64 (a1 - (l0.length : Int))) < 0 then (some (-1)) else (some (wrap64 (a1 - (l0.length : Int))))
set_option maxHeartbeats 8000000 in
set_option maxRecDepth 100000 in
theorem laws_szMessageS.calls (A0 : Option Addr) (c0 : Nat) (l0 : List (S157)) (a1 : Int) (r : Int) (w : World) (hr0 : Kd.C k157 w A0 l0.length l0) (hc0 : l0.length ≤ c0) (h : laws_szMessageS.f l0 a1 = some r) :
  Calls Try.prog 91 #[.slice A0 l0.length c0, .int .i64 a1] w fun e w' => e = .returned (.int .i64 r) ∧ Drawn0 w w' := by
 have HR0 := Aside0.mk hr0
 have HC0 := Aside0.mk hc0
 clear hr0 hc0
 have H : (if (wrap64 (a1 - (l0.length : Int))) < 0 then (some (-1)) else (some (wrap64 (a1 - (l0.length : Int))))) = some r := h
 clear h
 by_cases c3 : (wrap64 (a1 - (l0.length : Int))) < 0
 ·rw [if_pos c3] at H
  have c3b0 : decide ((wrap64 (a1 - (l0.length : Int))) < 0) = true := decide_eq_true c3
  clear c3
  obtain rfl := Option.some.inj H
  go_enter Try.func91, Try.ntmps91
  go_wp2
  go_ret
  exact ⟨z1_6, z1_8⟩
 ·rw [if_neg c3] at H
  have c3b0 : decide ((wrap64 (a1 - (l0.length : Int))) < 0) = false := decide_eq_false c3
  clear c3
  obtain rfl := Option.some.inj H
  go_enter Try.func91, Try.ntmps91
  go_wp2
  go_ret
  exact ⟨z1_6, z1_8⟩

/-! ### laws_szPiece: function 98 -/
def laws_szPiece.f (a0_0 : Int) (l0_1 : List Int) (l0_2 : List Int) (l0_3 : List Bool) (l0_4 : List (S157)) (a1 : Int) : Option (Int) := (laws_szIntS.f l0_1 a1).bind fun t102 => (if t102 < 0 then (some (-1)) else ((laws_szIntS.f l0_2 t102).bind fun t103 => (if t103 < 0 then (some (-1)) else ((laws_szBoolS.f l0_3 t103).bind fun t104 => (if t104 < 0 then (some (-1)) else ((laws_szMessageS.f l0_4 t104).bind fun t105 => (if t105 < 0 then (some (-1)) else (some t105))))))))
set_option maxHeartbeats 8000000 in
set_option maxRecDepth 100000 in
theorem laws_szPiece.calls (a0_0 : Int) (A0_1 : Option Addr) (c0_1 : Nat) (l0_1 : List Int) (A0_2 : Option Addr) (c0_2 : Nat) (l0_2 : List Int) (A0_3 : Option Addr) (c0_3 : Nat) (l0_3 : List Bool) (A0_4 : Option Addr) (c0_4 : Nat) (l0_4 : List (S157)) (a1 : Int) (r : Int) (w : World) (hr0_1 : Kd.C (Kd.int .i64) w A0_1 l0_1.length l0_1) (hc0_1 : l0_1.length ≤ c0_1) (hr0_2 : Kd.C (Kd.int .i64) w A0_2 l0_2.length l0_2) (hc0_2 : l0_2.length ≤ c0_2) (hr0_3 : Kd.C Kd.bool w A0_3 l0_3.length l0_3) (hc0_3 : l0_3.length ≤ c0_3) (hr0_4 : Kd.C k157 w A0_4 l0_4.length l0_4) (hc0_4 : l0_4.length ≤ c0_4) (h : laws_szPiece.f a0_0 l0_1 l0_2 l0_3 l0_4 a1 = some r) :
  Calls Try.prog 98 #[.agg #[.int .i64 a0_0, .slice A0_1 l0_1.length c0_1, .slice A0_2 l0_2.length c0_2, .slice A0_3 l0_3.length c0_3, .slice A0_4 l0_4.length c0_4], .int .i64 a1] w fun e w' => e = .returned (.int .i64 r) ∧ Below w.heap.size w w' := by
 have hu117 := Try.underlying117
 have HR0_1 := Aside0.mk hr0_1
 have HC0_1 := Aside0.mk hc0_1
 clear hr0_1 hc0_1
 have HR0_2 := Aside0.mk hr0_2
 have HC0_2 := Aside0.mk hc0_2
 clear hr0_2 hc0_2
 have HR0_3 := Aside0.mk hr0_3
 have HC0_3 := Aside0.mk hc0_3
 clear hr0_3 hc0_3
 have HR0_4 := Aside0.mk hr0_4
 have HC0_4 := Aside0.mk hc0_4
 clear hr0_4 hc0_4
 have HB := Aside0.mk (Below.refl w.heap.size w)
 have H : ((laws_szIntS.f l0_1 a1).bind fun t102 => (if t102 < 0 then (some (-1)) else ((laws_szIntS.f l0_2 t102).bind fun t103 => (if t103 < 0 then (some (-1)) else ((laws_szBoolS.f l0_3 t103).bind fun t104 => (if t104 < 0 then (some (-1)) else ((laws_szMessageS.f l0_4 t104).bind fun t105 => (if t105 < 0 then (some (-1)) else (some t105))))))))) = some r := h
 clear h
 replace H := Option.bind_eq_some_iff.mp H
 obtain ⟨t102, A30, H⟩ := H
 replace H : (if t102 < 0 then (some (-1)) else ((laws_szIntS.f l0_2 t102).bind fun t103 => (if t103 < 0 then (some (-1)) else ((laws_szBoolS.f l0_3 t103).bind fun t104 => (if t104 < 0 then (some (-1)) else ((laws_szMessageS.f l0_4 t104).bind fun t105 => (if t105 < 0 then (some (-1)) else (some t105)))))))) = some r := H
 have A3 := Aside0.mk A30
 clear A30
 by_cases c4 : t102 < 0
 ·rw [if_pos c4] at H
  have c4b0 : decide (t102 < 0) = true := decide_eq_true c4
  clear c4
  obtain rfl := Option.some.inj H
  go_enter Try.func98, Try.ntmps98
  go_wp2_with (first | ((with_reducible refine gate_dst (N := 2) rfl ?_); refine box_event ?hg (N := 2) ?hd (cs := #[.int .i64 a0_0, .slice A0_1 l0_1.length c0_1, .slice A0_2 l0_2.length c0_2, .slice A0_3 l0_3.length c0_3, .slice A0_4 l0_4.length c0_4]) (t := 117) ?hr ?_; (case hd => rfl); (case hg => rfl); (case hr => exact z1_0); intro gb101 hg w5 hbox hb; have n0_ := Aside0.mk (below_step z1_1 hb); have n1_ := Aside0.mk (hbox); have n2_ := Aside0.mk ((z1_9 : w.heap.size ≤ gb101)); have n3_ := Aside0.mk ((z1_9 : w.heap.size ≤ gb101)); clear HB; have HB := n0_; have BK101 := n1_; have GW101 := n2_; have GE101 := n3_; clear n0_ n1_ n2_ n3_; clear hb hbox hg; have hcz6_0 : w5.cell? ⟨gb101, 0, none⟩ = some (.int .i64 a0_0) := (blk_cell BK101.out 0).trans rfl; have hcz6_1 : w5.cell? ⟨gb101, 1, none⟩ = some (.slice A0_1 l0_1.length c0_1) := (blk_cell BK101.out 1).trans rfl; have hcz6_2 : w5.cell? ⟨gb101, 2, none⟩ = some (.slice A0_2 l0_2.length c0_2) := (blk_cell BK101.out 2).trans rfl; have hcz6_3 : w5.cell? ⟨gb101, 3, none⟩ = some (.slice A0_3 l0_3.length c0_3) := (blk_cell BK101.out 3).trans rfl; have hcz6_4 : w5.cell? ⟨gb101, 4, none⟩ = some (.slice A0_4 l0_4.length c0_4) := (blk_cell BK101.out 4).trans rfl; have hfz6_0 := blk_frozen BK101.out 0; have hfz6_1 := blk_frozen BK101.out 1; have hfz6_2 := blk_frozen BK101.out 2; have hfz6_3 := blk_frozen BK101.out 3; have hfz6_4 := blk_frozen BK101.out 4) | ((with_reducible refine gate_callee (f := 69) rfl ?_); refine goesL_ (some 8) rfl rfl Try.func69 (by kernel_rfl) rfl #[.slice A0_1 l0_1.length c0_1, .int .i64 a1] rfl z1_2 ?_; (with_reducible refine (laws_szIntS.calls _ _ l0_1 a1 t102 _ ?side1 ?side2 A3.out).mono ?_); (case side1 => repeat (first | exact (Kd.C_below HR0_1.out HB.out) | (with_reducible refine Kd.C_alloc ?_ _) | (with_reducible refine Kd.C_drewN ?_ _) | (with_reducible refine Kd.C_drew ?_))); (case side2 => exact HC0_1.out); rintro e w' ⟨rfl, ⟨nd, rfl⟩⟩; refine ⟨_, rfl, ?_⟩))
  go_ret
  exact ⟨z1_5, z1_3⟩
 ·rw [if_neg c4] at H
  have c4b0 : decide (t102 < 0) = false := decide_eq_false c4
  clear c4
  replace H := Option.bind_eq_some_iff.mp H
  obtain ⟨t103, A70, H⟩ := H
  replace H : (if t103 < 0 then (some (-1)) else ((laws_szBoolS.f l0_3 t103).bind fun t104 => (if t104 < 0 then (some (-1)) else ((laws_szMessageS.f l0_4 t104).bind fun t105 => (if t105 < 0 then (some (-1)) else (some t105)))))) = some r := H
  have A7 := Aside0.mk A70
  clear A70
  by_cases c8 : t103 < 0
  ·rw [if_pos c8] at H
   have c8b0 : decide (t103 < 0) = true := decide_eq_true c8
   clear c8
   obtain rfl := Option.some.inj H
   go_enter Try.func98, Try.ntmps98
   go_wp2_with (first | ((with_reducible refine gate_dst (N := 2) rfl ?_); refine box_event ?hg (N := 2) ?hd (cs := #[.int .i64 a0_0, .slice A0_1 l0_1.length c0_1, .slice A0_2 l0_2.length c0_2, .slice A0_3 l0_3.length c0_3, .slice A0_4 l0_4.length c0_4]) (t := 117) ?hr ?_; (case hd => rfl); (case hg => rfl); (case hr => exact z1_0); intro gb101 hg w9 hbox hb; have n0_ := Aside0.mk (below_step z1_1 hb); have n1_ := Aside0.mk (hbox); have n2_ := Aside0.mk ((z1_9 : w.heap.size ≤ gb101)); have n3_ := Aside0.mk ((z1_9 : w.heap.size ≤ gb101)); clear HB; have HB := n0_; have BK101 := n1_; have GW101 := n2_; have GE101 := n3_; clear n0_ n1_ n2_ n3_; clear hb hbox hg; have hcz10_0 : w9.cell? ⟨gb101, 0, none⟩ = some (.int .i64 a0_0) := (blk_cell BK101.out 0).trans rfl; have hcz10_1 : w9.cell? ⟨gb101, 1, none⟩ = some (.slice A0_1 l0_1.length c0_1) := (blk_cell BK101.out 1).trans rfl; have hcz10_2 : w9.cell? ⟨gb101, 2, none⟩ = some (.slice A0_2 l0_2.length c0_2) := (blk_cell BK101.out 2).trans rfl; have hcz10_3 : w9.cell? ⟨gb101, 3, none⟩ = some (.slice A0_3 l0_3.length c0_3) := (blk_cell BK101.out 3).trans rfl; have hcz10_4 : w9.cell? ⟨gb101, 4, none⟩ = some (.slice A0_4 l0_4.length c0_4) := (blk_cell BK101.out 4).trans rfl; have hfz10_0 := blk_frozen BK101.out 0; have hfz10_1 := blk_frozen BK101.out 1; have hfz10_2 := blk_frozen BK101.out 2; have hfz10_3 := blk_frozen BK101.out 3; have hfz10_4 := blk_frozen BK101.out 4) | ((with_reducible refine gate_callee (f := 69) rfl ?_); refine goesL_ (some 8) rfl rfl Try.func69 (by kernel_rfl) rfl #[.slice A0_1 l0_1.length c0_1, .int .i64 a1] rfl z1_2 ?_; (with_reducible refine (laws_szIntS.calls _ _ l0_1 a1 t102 _ ?side1 ?side2 A3.out).mono ?_); (case side1 => repeat (first | exact (Kd.C_below HR0_1.out HB.out) | (with_reducible refine Kd.C_alloc ?_ _) | (with_reducible refine Kd.C_drewN ?_ _) | (with_reducible refine Kd.C_drew ?_))); (case side2 => exact HC0_1.out); rintro e w' ⟨rfl, ⟨nd, rfl⟩⟩; refine ⟨_, rfl, ?_⟩) | ((with_reducible refine gate_callee (f := 69) rfl ?_); refine goesL_ (some 14) rfl rfl Try.func69 (by kernel_rfl) rfl #[.slice A0_2 l0_2.length c0_2, .int .i64 t102] rfl z1_2 ?_; (with_reducible refine (laws_szIntS.calls _ _ l0_2 t102 t103 _ ?side1 ?side2 A7.out).mono ?_); (case side1 => repeat (first | exact (Kd.C_below HR0_2.out z1_3) | (with_reducible refine Kd.C_alloc ?_ _) | (with_reducible refine Kd.C_drewN ?_ _) | (with_reducible refine Kd.C_drew ?_))); (case side2 => exact HC0_2.out); rintro e w' ⟨rfl, ⟨nd, rfl⟩⟩; refine ⟨_, rfl, ?_⟩))
   go_ret
   exact ⟨z1_5, z1_3⟩
  ·rw [if_neg c8] at H
   have c8b0 : decide (t103 < 0) = false := decide_eq_false c8
   clear c8
   replace H := Option.bind_eq_some_iff.mp H
   obtain ⟨t104, A110, H⟩ := H
   replace H : (if t104 < 0 then (some (-1)) else ((laws_szMessageS.f l0_4 t104).bind fun t105 => (if t105 < 0 then (some (-1)) else (some t105)))) = some r := H
   have A11 := Aside0.mk A110
   clear A110
   by_cases c12 : t104 < 0
   ·rw [if_pos c12] at H
    have c12b0 : decide (t104 < 0) = true := decide_eq_true c12
    clear c12
    obtain rfl := Option.some.inj H
    go_enter Try.func98, Try.ntmps98
    go_wp2_with (first | ((with_reducible refine gate_dst (N := 2) rfl ?_); refine box_event ?hg (N := 2) ?hd (cs := #[.int .i64 a0_0, .slice A0_1 l0_1.length c0_1, .slice A0_2 l0_2.length c0_2, .slice A0_3 l0_3.length c0_3, .slice A0_4 l0_4.length c0_4]) (t := 117) ?hr ?_; (case hd => rfl); (case hg => rfl); (case hr => exact z1_0); intro gb101 hg w13 hbox hb; have n0_ := Aside0.mk (below_step z1_1 hb); have n1_ := Aside0.mk (hbox); have n2_ := Aside0.mk ((z1_9 : w.heap.size ≤ gb101)); have n3_ := Aside0.mk ((z1_9 : w.heap.size ≤ gb101)); clear HB; have HB := n0_; have BK101 := n1_; have GW101 := n2_; have GE101 := n3_; clear n0_ n1_ n2_ n3_; clear hb hbox hg; have hcz14_0 : w13.cell? ⟨gb101, 0, none⟩ = some (.int .i64 a0_0) := (blk_cell BK101.out 0).trans rfl; have hcz14_1 : w13.cell? ⟨gb101, 1, none⟩ = some (.slice A0_1 l0_1.length c0_1) := (blk_cell BK101.out 1).trans rfl; have hcz14_2 : w13.cell? ⟨gb101, 2, none⟩ = some (.slice A0_2 l0_2.length c0_2) := (blk_cell BK101.out 2).trans rfl; have hcz14_3 : w13.cell? ⟨gb101, 3, none⟩ = some (.slice A0_3 l0_3.length c0_3) := (blk_cell BK101.out 3).trans rfl; have hcz14_4 : w13.cell? ⟨gb101, 4, none⟩ = some (.slice A0_4 l0_4.length c0_4) := (blk_cell BK101.out 4).trans rfl; have hfz14_0 := blk_frozen BK101.out 0; have hfz14_1 := blk_frozen BK101.out 1; have hfz14_2 := blk_frozen BK101.out 2; have hfz14_3 := blk_frozen BK101.out 3; have hfz14_4 := blk_frozen BK101.out 4) | ((with_reducible refine gate_callee (f := 69) rfl ?_); refine goesL_ (some 8) rfl rfl Try.func69 (by kernel_rfl) rfl #[.slice A0_1 l0_1.length c0_1, .int .i64 a1] rfl z1_2 ?_; (with_reducible refine (laws_szIntS.calls _ _ l0_1 a1 t102 _ ?side1 ?side2 A3.out).mono ?_); (case side1 => repeat (first | exact (Kd.C_below HR0_1.out HB.out) | (with_reducible refine Kd.C_alloc ?_ _) | (with_reducible refine Kd.C_drewN ?_ _) | (with_reducible refine Kd.C_drew ?_))); (case side2 => exact HC0_1.out); rintro e w' ⟨rfl, ⟨nd, rfl⟩⟩; refine ⟨_, rfl, ?_⟩) | ((with_reducible refine gate_callee (f := 69) rfl ?_); refine goesL_ (some 14) rfl rfl Try.func69 (by kernel_rfl) rfl #[.slice A0_2 l0_2.length c0_2, .int .i64 t102] rfl z1_2 ?_; (with_reducible refine (laws_szIntS.calls _ _ l0_2 t102 t103 _ ?side1 ?side2 A7.out).mono ?_); (case side1 => repeat (first | exact (Kd.C_below HR0_2.out z1_3) | (with_reducible refine Kd.C_alloc ?_ _) | (with_reducible refine Kd.C_drewN ?_ _) | (with_reducible refine Kd.C_drew ?_))); (case side2 => exact HC0_2.out); rintro e w' ⟨rfl, ⟨nd, rfl⟩⟩; refine ⟨_, rfl, ?_⟩) | ((with_reducible refine gate_callee (f := 90) rfl ?_); refine goesL_ (some 20) rfl rfl Try.func90 (by kernel_rfl) rfl #[.slice A0_3 l0_3.length c0_3, .int .i64 t103] rfl z1_2 ?_; (with_reducible refine (laws_szBoolS.calls _ _ l0_3 t103 t104 _ ?side1 ?side2 A11.out).mono ?_); (case side1 => repeat (first | exact (Kd.C_below HR0_3.out z1_3) | (with_reducible refine Kd.C_alloc ?_ _) | (with_reducible refine Kd.C_drewN ?_ _) | (with_reducible refine Kd.C_drew ?_))); (case side2 => exact HC0_3.out); rintro e w' ⟨rfl, ⟨nd, rfl⟩⟩; refine ⟨_, rfl, ?_⟩))
    go_ret
    exact ⟨z1_5, z1_3⟩
   ·rw [if_neg c12] at H
    have c12b0 : decide (t104 < 0) = false := decide_eq_false c12
    clear c12
    replace H := Option.bind_eq_some_iff.mp H
    obtain ⟨t105, A150, H⟩ := H
    replace H : (if t105 < 0 then (some (-1)) else (some t105)) = some r := H
    have A15 := Aside0.mk A150
    clear A150
    by_cases c16 : t105 < 0
    ·rw [if_pos c16] at H
     have c16b0 : decide (t105 < 0) = true := decide_eq_true c16
     clear c16
     obtain rfl := Option.some.inj H
     go_enter Try.func98, Try.ntmps98
     go_wp2_with (first | ((with_reducible refine gate_dst (N := 2) rfl ?_); refine box_event ?hg (N := 2) ?hd (cs := #[.int .i64 a0_0, .slice A0_1 l0_1.length c0_1, .slice A0_2 l0_2.length c0_2, .slice A0_3 l0_3.length c0_3, .slice A0_4 l0_4.length c0_4]) (t := 117) ?hr ?_; (case hd => rfl); (case hg => rfl); (case hr => exact z1_0); intro gb101 hg w17 hbox hb; have n0_ := Aside0.mk (below_step z1_1 hb); have n1_ := Aside0.mk (hbox); have n2_ := Aside0.mk ((z1_9 : w.heap.size ≤ gb101)); have n3_ := Aside0.mk ((z1_9 : w.heap.size ≤ gb101)); clear HB; have HB := n0_; have BK101 := n1_; have GW101 := n2_; have GE101 := n3_; clear n0_ n1_ n2_ n3_; clear hb hbox hg; have hcz18_0 : w17.cell? ⟨gb101, 0, none⟩ = some (.int .i64 a0_0) := (blk_cell BK101.out 0).trans rfl; have hcz18_1 : w17.cell? ⟨gb101, 1, none⟩ = some (.slice A0_1 l0_1.length c0_1) := (blk_cell BK101.out 1).trans rfl; have hcz18_2 : w17.cell? ⟨gb101, 2, none⟩ = some (.slice A0_2 l0_2.length c0_2) := (blk_cell BK101.out 2).trans rfl; have hcz18_3 : w17.cell? ⟨gb101, 3, none⟩ = some (.slice A0_3 l0_3.length c0_3) := (blk_cell BK101.out 3).trans rfl; have hcz18_4 : w17.cell? ⟨gb101, 4, none⟩ = some (.slice A0_4 l0_4.length c0_4) := (blk_cell BK101.out 4).trans rfl; have hfz18_0 := blk_frozen BK101.out 0; have hfz18_1 := blk_frozen BK101.out 1; have hfz18_2 := blk_frozen BK101.out 2; have hfz18_3 := blk_frozen BK101.out 3; have hfz18_4 := blk_frozen BK101.out 4) | ((with_reducible refine gate_callee (f := 69) rfl ?_); refine goesL_ (some 8) rfl rfl Try.func69 (by kernel_rfl) rfl #[.slice A0_1 l0_1.length c0_1, .int .i64 a1] rfl z1_2 ?_; (with_reducible refine (laws_szIntS.calls _ _ l0_1 a1 t102 _ ?side1 ?side2 A3.out).mono ?_); (case side1 => repeat (first | exact (Kd.C_below HR0_1.out HB.out) | (with_reducible refine Kd.C_alloc ?_ _) | (with_reducible refine Kd.C_drewN ?_ _) | (with_reducible refine Kd.C_drew ?_))); (case side2 => exact HC0_1.out); rintro e w' ⟨rfl, ⟨nd, rfl⟩⟩; refine ⟨_, rfl, ?_⟩) | ((with_reducible refine gate_callee (f := 69) rfl ?_); refine goesL_ (some 14) rfl rfl Try.func69 (by kernel_rfl) rfl #[.slice A0_2 l0_2.length c0_2, .int .i64 t102] rfl z1_2 ?_; (with_reducible refine (laws_szIntS.calls _ _ l0_2 t102 t103 _ ?side1 ?side2 A7.out).mono ?_); (case side1 => repeat (first | exact (Kd.C_below HR0_2.out z1_3) | (with_reducible refine Kd.C_alloc ?_ _) | (with_reducible refine Kd.C_drewN ?_ _) | (with_reducible refine Kd.C_drew ?_))); (case side2 => exact HC0_2.out); rintro e w' ⟨rfl, ⟨nd, rfl⟩⟩; refine ⟨_, rfl, ?_⟩) | ((with_reducible refine gate_callee (f := 90) rfl ?_); refine goesL_ (some 20) rfl rfl Try.func90 (by kernel_rfl) rfl #[.slice A0_3 l0_3.length c0_3, .int .i64 t103] rfl z1_2 ?_; (with_reducible refine (laws_szBoolS.calls _ _ l0_3 t103 t104 _ ?side1 ?side2 A11.out).mono ?_); (case side1 => repeat (first | exact (Kd.C_below HR0_3.out z1_3) | (with_reducible refine Kd.C_alloc ?_ _) | (with_reducible refine Kd.C_drewN ?_ _) | (with_reducible refine Kd.C_drew ?_))); (case side2 => exact HC0_3.out); rintro e w' ⟨rfl, ⟨nd, rfl⟩⟩; refine ⟨_, rfl, ?_⟩) | ((with_reducible refine gate_callee (f := 91) rfl ?_); refine goesL_ (some 26) rfl rfl Try.func91 (by kernel_rfl) rfl #[.slice A0_4 l0_4.length c0_4, .int .i64 t104] rfl z1_2 ?_; (with_reducible refine (laws_szMessageS.calls _ _ l0_4 t104 t105 _ ?side1 ?side2 A15.out).mono ?_); (case side1 => repeat (first | exact (Kd.C_below HR0_4.out z1_3) | (with_reducible refine Kd.C_alloc ?_ _) | (with_reducible refine Kd.C_drewN ?_ _) | (with_reducible refine Kd.C_drew ?_))); (case side2 => exact HC0_4.out); rintro e w' ⟨rfl, ⟨nd, rfl⟩⟩; refine ⟨_, rfl, ?_⟩))
     go_ret
     exact ⟨z1_5, z1_3⟩
    ·rw [if_neg c16] at H
     have c16b0 : decide (t105 < 0) = false := decide_eq_false c16
     clear c16
     obtain rfl := Option.some.inj H
     go_enter Try.func98, Try.ntmps98
     go_wp2_with (first | ((with_reducible refine gate_dst (N := 2) rfl ?_); refine box_event ?hg (N := 2) ?hd (cs := #[.int .i64 a0_0, .slice A0_1 l0_1.length c0_1, .slice A0_2 l0_2.length c0_2, .slice A0_3 l0_3.length c0_3, .slice A0_4 l0_4.length c0_4]) (t := 117) ?hr ?_; (case hd => rfl); (case hg => rfl); (case hr => exact z1_0); intro gb101 hg w19 hbox hb; have n0_ := Aside0.mk (below_step z1_1 hb); have n1_ := Aside0.mk (hbox); have n2_ := Aside0.mk ((z1_9 : w.heap.size ≤ gb101)); have n3_ := Aside0.mk ((z1_9 : w.heap.size ≤ gb101)); clear HB; have HB := n0_; have BK101 := n1_; have GW101 := n2_; have GE101 := n3_; clear n0_ n1_ n2_ n3_; clear hb hbox hg; have hcz20_0 : w19.cell? ⟨gb101, 0, none⟩ = some (.int .i64 a0_0) := (blk_cell BK101.out 0).trans rfl; have hcz20_1 : w19.cell? ⟨gb101, 1, none⟩ = some (.slice A0_1 l0_1.length c0_1) := (blk_cell BK101.out 1).trans rfl; have hcz20_2 : w19.cell? ⟨gb101, 2, none⟩ = some (.slice A0_2 l0_2.length c0_2) := (blk_cell BK101.out 2).trans rfl; have hcz20_3 : w19.cell? ⟨gb101, 3, none⟩ = some (.slice A0_3 l0_3.length c0_3) := (blk_cell BK101.out 3).trans rfl; have hcz20_4 : w19.cell? ⟨gb101, 4, none⟩ = some (.slice A0_4 l0_4.length c0_4) := (blk_cell BK101.out 4).trans rfl; have hfz20_0 := blk_frozen BK101.out 0; have hfz20_1 := blk_frozen BK101.out 1; have hfz20_2 := blk_frozen BK101.out 2; have hfz20_3 := blk_frozen BK101.out 3; have hfz20_4 := blk_frozen BK101.out 4) | ((with_reducible refine gate_callee (f := 69) rfl ?_); refine goesL_ (some 8) rfl rfl Try.func69 (by kernel_rfl) rfl #[.slice A0_1 l0_1.length c0_1, .int .i64 a1] rfl z1_2 ?_; (with_reducible refine (laws_szIntS.calls _ _ l0_1 a1 t102 _ ?side1 ?side2 A3.out).mono ?_); (case side1 => repeat (first | exact (Kd.C_below HR0_1.out HB.out) | (with_reducible refine Kd.C_alloc ?_ _) | (with_reducible refine Kd.C_drewN ?_ _) | (with_reducible refine Kd.C_drew ?_))); (case side2 => exact HC0_1.out); rintro e w' ⟨rfl, ⟨nd, rfl⟩⟩; refine ⟨_, rfl, ?_⟩) | ((with_reducible refine gate_callee (f := 69) rfl ?_); refine goesL_ (some 14) rfl rfl Try.func69 (by kernel_rfl) rfl #[.slice A0_2 l0_2.length c0_2, .int .i64 t102] rfl z1_2 ?_; (with_reducible refine (laws_szIntS.calls _ _ l0_2 t102 t103 _ ?side1 ?side2 A7.out).mono ?_); (case side1 => repeat (first | exact (Kd.C_below HR0_2.out z1_3) | (with_reducible refine Kd.C_alloc ?_ _) | (with_reducible refine Kd.C_drewN ?_ _) | (with_reducible refine Kd.C_drew ?_))); (case side2 => exact HC0_2.out); rintro e w' ⟨rfl, ⟨nd, rfl⟩⟩; refine ⟨_, rfl, ?_⟩) | ((with_reducible refine gate_callee (f := 90) rfl ?_); refine goesL_ (some 20) rfl rfl Try.func90 (by kernel_rfl) rfl #[.slice A0_3 l0_3.length c0_3, .int .i64 t103] rfl z1_2 ?_; (with_reducible refine (laws_szBoolS.calls _ _ l0_3 t103 t104 _ ?side1 ?side2 A11.out).mono ?_); (case side1 => repeat (first | exact (Kd.C_below HR0_3.out z1_3) | (with_reducible refine Kd.C_alloc ?_ _) | (with_reducible refine Kd.C_drewN ?_ _) | (with_reducible refine Kd.C_drew ?_))); (case side2 => exact HC0_3.out); rintro e w' ⟨rfl, ⟨nd, rfl⟩⟩; refine ⟨_, rfl, ?_⟩) | ((with_reducible refine gate_callee (f := 91) rfl ?_); refine goesL_ (some 26) rfl rfl Try.func91 (by kernel_rfl) rfl #[.slice A0_4 l0_4.length c0_4, .int .i64 t104] rfl z1_2 ?_; (with_reducible refine (laws_szMessageS.calls _ _ l0_4 t104 t105 _ ?side1 ?side2 A15.out).mono ?_); (case side1 => repeat (first | exact (Kd.C_below HR0_4.out z1_3) | (with_reducible refine Kd.C_alloc ?_ _) | (with_reducible refine Kd.C_drewN ?_ _) | (with_reducible refine Kd.C_drew ?_))); (case side2 => exact HC0_4.out); rintro e w' ⟨rfl, ⟨nd, rfl⟩⟩; refine ⟨_, rfl, ?_⟩))
     go_ret
     exact ⟨z1_5, z1_3⟩

/-! ### laws_szPieceS: function 44 -/
def laws_szPieceS.l0 : Nat → List (S117) → Int → Int → Option (Int)
 | 0, _, _, _ => none
 | k + 1, x0, x1, x5 => if x5 < (x0.length : Int) then (if 0 ≤ x5 then ((laws_szPiece.f ((rd_T117 x0 x5).f0) ((rd_T117 x0 x5).f1) ((rd_T117 x0 x5).f2) ((rd_T117 x0 x5).f3) ((rd_T117 x0 x5).f4) x1).bind fun t107 => (if t107 < 0 then (some (-1)) else (laws_szPieceS.l0 k x0 t107 (wrap64 (x5 + 1))))) else (none)) else (some x1)
def laws_szPieceS.f (k : Nat) (l0 : List (S117)) (a1 : Int) : Option (Int) := if (wrap64 (a1 - (l0.length : Int))) < 0 then (some (-1)) else (laws_szPieceS.l0 k l0 (wrap64 (a1 - (l0.length : Int))) 0)
theorem laws_szPieceS.mono_l : ∀ k, (∀ y0 y1 y2, LeO (laws_szPieceS.l0 k y0 y1 y2) (laws_szPieceS.l0 (k + 1) y0 y1 y2))
 | 0 => fun _ _ _ r h => by simp [laws_szPieceS.l0] at h
 | k + 1 => by
  have ih0 := laws_szPieceS.mono_l k
  ·intro y0 y1 y2
   unfold laws_szPieceS.l0
   repeat' first
   | (with_reducible exact ih0 _ _ _)
   | (with_reducible exact LeO.refl _)
   | (with_reducible exact LeO.none _)
   | (with_reducible refine LeO.ite ?_ ?_)
   | (with_reducible refine LeO.bind ?_ (fun _ => ?_))
   | exact ih0 _ _ _
   | exact LeO.none _
   | refine LeO.ite ?_ ?_
   | refine LeO.bind ?_ (fun _ => ?_)
theorem laws_szPieceS.mono : ∀ a0 a1 k, LeO (laws_szPieceS.f k a0 a1) (laws_szPieceS.f (k + 1) a0 a1) := by
 intro a0 a1 k
 have ih0 := laws_szPieceS.mono_l k
 unfold laws_szPieceS.f
 repeat' first
   | (with_reducible exact ih0 _ _ _)
   | (with_reducible exact LeO.refl _)
   | (with_reducible exact LeO.none _)
   | (with_reducible refine LeO.ite ?_ ?_)
   | (with_reducible refine LeO.bind ?_ (fun _ => ?_))
   | exact ih0 _ _ _
   | exact LeO.none _
   | refine LeO.ite ?_ ?_
   | refine LeO.bind ?_ (fun _ => ?_)
set_option maxHeartbeats 8000000 in
set_option maxRecDepth 100000 in
theorem laws_szPieceS.calls (k : Nat) (A0 : Option Addr) (c0 : Nat) (l0 : List (S117)) (a1 : Int) (r : Int) (w : World) (hr0 : Kd.C k117 w A0 l0.length l0) (hc0 : l0.length ≤ c0) (h : laws_szPieceS.f k l0 a1 = some r) :
  Calls Try.prog 44 #[.slice A0 l0.length c0, .int .i64 a1] w fun e w' => e = .returned (.int .i64 r) ∧ Below w.heap.size w w' := by
 have hu117 := Try.underlying117
 have HR0 := Aside0.mk hr0
 have HC0 := Aside0.mk hc0
 clear hr0 hc0
 have HB := Aside0.mk (Below.refl w.heap.size w)
 have H : (if (wrap64 (a1 - (l0.length : Int))) < 0 then (some (-1)) else (laws_szPieceS.l0 k l0 (wrap64 (a1 - (l0.length : Int))) 0)) = some r := h
 clear h
 by_cases c3 : (wrap64 (a1 - (l0.length : Int))) < 0
 ·rw [if_pos c3] at H
  have c3b0 : decide ((wrap64 (a1 - (l0.length : Int))) < 0) = true := decide_eq_true c3
  clear c3
  obtain rfl := Option.some.inj H
  go_enter Try.func44, Try.ntmps44
  go_wp2
  go_ret
  exact ⟨z1_5, z1_1⟩
 ·rw [if_neg c3] at H
  have c3b0 : decide ((wrap64 (a1 - (l0.length : Int))) < 0) = false := decide_eq_false c3
  clear c3
  have H' := Aside0.mk H
  clear H
  go_enter Try.func44, Try.ntmps44
  go_wp2
  go_loopg [1, 5] k (fun kq v1 v5 w' => ∃ (x1_1 : Int) (x5_1 : Int), v1 = .int .i64 x1_1 ∧ v5 = .int .i64 x5_1 ∧ Aside0 (laws_szPieceS.l0 kq l0 x1_1 x5_1 = some r) ∧ Aside0 (kq ≤ k) ∧ Aside0 (Below w.heap.size w w'))
  case atStart => exact ⟨(wrap64 (a1 - (l0.length : Int))), (0), z1_6, z1_6, H', ⟨Nat.le_refl _⟩, ⟨z1_1⟩⟩
  case round =>
   clear H'
   try clear p2
   try clear c3
   try clear c3b0
   obtain ⟨x1_1, x5_1, rfl, rfl, HA, HK1, HB⟩ := hrel
   cases gk with
   | zero => exact absurd HA.out (by simp [laws_szPieceS.l0])
   | succ k1 =>
    have H := HA.out
    clear HA
    simp only [laws_szPieceS.l0] at H
    by_cases c4 : x5_1 < (l0.length : Int)
    ·rw [if_pos c4] at H
     have c4b0 : decide (x5_1 < (l0.length : Int)) = true := decide_eq_true c4
     clear c4
     by_cases c5 : 0 ≤ x5_1
     ·rw [if_pos c5] at H
      have c5b0 : decide (0 ≤ x5_1) = true := decide_eq_true c5
      clear c5
      replace H := Option.bind_eq_some_iff.mp H
      obtain ⟨t107, A60, H⟩ := H
      replace H : (if t107 < 0 then (some (-1)) else (laws_szPieceS.l0 k1 l0 t107 (wrap64 (x5_1 + 1)))) = some r := H
      have A6 := Aside0.mk A60
      clear A60
      by_cases c7 : t107 < 0
      ·rw [if_pos c7] at H
       have c7b0 : decide (t107 < 0) = true := decide_eq_true c7
       clear c7
       obtain rfl := Option.some.inj H
       have p106 : 0 ≤ (x5_1 : Int) := of_decide_eq_true z1_13
       have q106 : x5_1 < (l0.length : Int) := of_decide_eq_true z1_13
       obtain ⟨ad106, A106_1, c106_1, A106_2, c106_2, A106_3, c106_3, A106_4, c106_4, e106, hx106_0, hx106_1, hx106_2, hx106_3, hx106_4, hl106_1, hi106_1, hl106_2, hi106_2, hl106_3, hi106_3, hl106_4, hi106_4⟩ := at_T117 HR0.out x5_1 p106 q106
       cases e106
       replace hx106_0 := (HB.out.cell (World.block_lt_of_cell? w _ hx106_0)).trans hx106_0
       replace hx106_1 := (HB.out.cell (World.block_lt_of_cell? w _ hx106_1)).trans hx106_1
       replace hx106_2 := (HB.out.cell (World.block_lt_of_cell? w _ hx106_2)).trans hx106_2
       replace hx106_3 := (HB.out.cell (World.block_lt_of_cell? w _ hx106_3)).trans hx106_3
       replace hx106_4 := (HB.out.cell (World.block_lt_of_cell? w _ hx106_4)).trans hx106_4
       have HR106_1 := Aside0.mk hi106_1
       have HC106_1 := Aside0.mk hl106_1
       clear hi106_1 hl106_1
       have HR106_2 := Aside0.mk hi106_2
       have HC106_2 := Aside0.mk hl106_2
       clear hi106_2 hl106_2
       have HR106_3 := Aside0.mk hi106_3
       have HC106_3 := Aside0.mk hl106_3
       clear hi106_3 hl106_3
       have HR106_4 := Aside0.mk hi106_4
       have HC106_4 := Aside0.mk hl106_4
       clear hi106_4 hl106_4
       replace p106 := eq_true p106
       replace q106 := eq_true q106
       go_wp2_with (first | ((with_reducible refine gate_callee (f := 98) rfl ?_); refine goesL_ (some 23) rfl rfl Try.func98 (by kernel_rfl) rfl #[.agg #[.int .i64 ((rd_T117 l0 x5_1).f0), .slice A106_1 ((rd_T117 l0 x5_1).f1).length c106_1, .slice A106_2 ((rd_T117 l0 x5_1).f2).length c106_2, .slice A106_3 ((rd_T117 l0 x5_1).f3).length c106_3, .slice A106_4 ((rd_T117 l0 x5_1).f4).length c106_4], .int .i64 x1_1] rfl z1_2 ?_; (with_reducible refine (laws_szPiece.calls ((rd_T117 l0 x5_1).f0) _ _ ((rd_T117 l0 x5_1).f1) _ _ ((rd_T117 l0 x5_1).f2) _ _ ((rd_T117 l0 x5_1).f3) _ _ ((rd_T117 l0 x5_1).f4) x1_1 t107 _ ?side1 ?side2 ?side3 ?side4 ?side5 ?side6 ?side7 ?side8 A6.out).mono ?_); (case side1 => repeat (first | exact (Kd.C_below HR106_1.out HB.out) | (with_reducible refine Kd.C_alloc ?_ _) | (with_reducible refine Kd.C_drewN ?_ _) | (with_reducible refine Kd.C_drew ?_))); (case side2 => exact HC106_1.out); (case side3 => repeat (first | exact (Kd.C_below HR106_2.out HB.out) | (with_reducible refine Kd.C_alloc ?_ _) | (with_reducible refine Kd.C_drewN ?_ _) | (with_reducible refine Kd.C_drew ?_))); (case side4 => exact HC106_2.out); (case side5 => repeat (first | exact (Kd.C_below HR106_3.out HB.out) | (with_reducible refine Kd.C_alloc ?_ _) | (with_reducible refine Kd.C_drewN ?_ _) | (with_reducible refine Kd.C_drew ?_))); (case side6 => exact HC106_3.out); (case side7 => repeat (first | exact (Kd.C_below HR106_4.out HB.out) | (with_reducible refine Kd.C_alloc ?_ _) | (with_reducible refine Kd.C_drewN ?_ _) | (with_reducible refine Kd.C_drew ?_))); (case side8 => exact HC106_4.out); rintro e w8 ⟨rfl, hb⟩; refine ⟨_, rfl, ?_⟩; have n0_ := Aside0.mk (below_step z1_1 hb); clear HB; have HB := n0_; clear n0_; (try clear hb); (try clear hb2); (try clear hk); (try clear hi)))
       go_ret
       exact ⟨z1_5, z1_1⟩
      ·rw [if_neg c7] at H
       have c7b0 : decide (t107 < 0) = false := decide_eq_false c7
       clear c7
       have H' := Aside0.mk H
       clear H
       have p106 : 0 ≤ (x5_1 : Int) := of_decide_eq_true z1_13
       have q106 : x5_1 < (l0.length : Int) := of_decide_eq_true z1_13
       obtain ⟨ad106, A106_1, c106_1, A106_2, c106_2, A106_3, c106_3, A106_4, c106_4, e106, hx106_0, hx106_1, hx106_2, hx106_3, hx106_4, hl106_1, hi106_1, hl106_2, hi106_2, hl106_3, hi106_3, hl106_4, hi106_4⟩ := at_T117 HR0.out x5_1 p106 q106
       cases e106
       replace hx106_0 := (HB.out.cell (World.block_lt_of_cell? w _ hx106_0)).trans hx106_0
       replace hx106_1 := (HB.out.cell (World.block_lt_of_cell? w _ hx106_1)).trans hx106_1
       replace hx106_2 := (HB.out.cell (World.block_lt_of_cell? w _ hx106_2)).trans hx106_2
       replace hx106_3 := (HB.out.cell (World.block_lt_of_cell? w _ hx106_3)).trans hx106_3
       replace hx106_4 := (HB.out.cell (World.block_lt_of_cell? w _ hx106_4)).trans hx106_4
       have HR106_1 := Aside0.mk hi106_1
       have HC106_1 := Aside0.mk hl106_1
       clear hi106_1 hl106_1
       have HR106_2 := Aside0.mk hi106_2
       have HC106_2 := Aside0.mk hl106_2
       clear hi106_2 hl106_2
       have HR106_3 := Aside0.mk hi106_3
       have HC106_3 := Aside0.mk hl106_3
       clear hi106_3 hl106_3
       have HR106_4 := Aside0.mk hi106_4
       have HC106_4 := Aside0.mk hl106_4
       clear hi106_4 hl106_4
       replace p106 := eq_true p106
       replace q106 := eq_true q106
       go_wp2_with (first | ((with_reducible refine gate_callee (f := 98) rfl ?_); refine goesL_ (some 23) rfl rfl Try.func98 (by kernel_rfl) rfl #[.agg #[.int .i64 ((rd_T117 l0 x5_1).f0), .slice A106_1 ((rd_T117 l0 x5_1).f1).length c106_1, .slice A106_2 ((rd_T117 l0 x5_1).f2).length c106_2, .slice A106_3 ((rd_T117 l0 x5_1).f3).length c106_3, .slice A106_4 ((rd_T117 l0 x5_1).f4).length c106_4], .int .i64 x1_1] rfl z1_2 ?_; (with_reducible refine (laws_szPiece.calls ((rd_T117 l0 x5_1).f0) _ _ ((rd_T117 l0 x5_1).f1) _ _ ((rd_T117 l0 x5_1).f2) _ _ ((rd_T117 l0 x5_1).f3) _ _ ((rd_T117 l0 x5_1).f4) x1_1 t107 _ ?side1 ?side2 ?side3 ?side4 ?side5 ?side6 ?side7 ?side8 A6.out).mono ?_); (case side1 => repeat (first | exact (Kd.C_below HR106_1.out HB.out) | (with_reducible refine Kd.C_alloc ?_ _) | (with_reducible refine Kd.C_drewN ?_ _) | (with_reducible refine Kd.C_drew ?_))); (case side2 => exact HC106_1.out); (case side3 => repeat (first | exact (Kd.C_below HR106_2.out HB.out) | (with_reducible refine Kd.C_alloc ?_ _) | (with_reducible refine Kd.C_drewN ?_ _) | (with_reducible refine Kd.C_drew ?_))); (case side4 => exact HC106_2.out); (case side5 => repeat (first | exact (Kd.C_below HR106_3.out HB.out) | (with_reducible refine Kd.C_alloc ?_ _) | (with_reducible refine Kd.C_drewN ?_ _) | (with_reducible refine Kd.C_drew ?_))); (case side6 => exact HC106_3.out); (case side7 => repeat (first | exact (Kd.C_below HR106_4.out HB.out) | (with_reducible refine Kd.C_alloc ?_ _) | (with_reducible refine Kd.C_drewN ?_ _) | (with_reducible refine Kd.C_drew ?_))); (case side8 => exact HC106_4.out); rintro e w9 ⟨rfl, hb⟩; refine ⟨_, rfl, ?_⟩; have n0_ := Aside0.mk (below_step z1_1 hb); clear HB; have HB := n0_; clear n0_; (try clear hb); (try clear hb2); (try clear hk); (try clear hi)))
       go_roundg k1
       case measure => have := HK1.out; omega
       case rel => exact ⟨(t107), (wrap64 (x5_1 + 1)), z1_6, z1_6, H', ⟨by have := HK1.out; omega⟩, ⟨z1_1⟩⟩
     ·rw [if_neg c5] at H
      exact absurd H (by simp)
    ·rw [if_neg c4] at H
     have c4b0 : decide (x5_1 < (l0.length : Int)) = false := decide_eq_false c4
     clear c4
     obtain rfl := Option.some.inj H
     go_wp2
     go_ret
     exact ⟨z1_5, z1_1⟩

/-! ### spec_l1In: function 71 -/
def spec_l1In.f (a0 : Int) (a1 : Int) (a2 : Int) : Option (Bool) := if a0 ≥ a1 then (some (decide (a0 ≤ a2))) else (some false)
set_option maxHeartbeats 8000000 in
set_option maxRecDepth 100000 in
theorem spec_l1In.calls (a0 : Int) (a1 : Int) (a2 : Int) (r : Bool) (w : World) (h : spec_l1In.f a0 a1 a2 = some r) :
  Calls Try.prog 71 #[.int .i64 a0, .int .i64 a1, .int .i64 a2] w fun e w' => e = .returned (.bool r) ∧ Drawn0 w w' := by
 have H : (if a0 ≥ a1 then (some (decide (a0 ≤ a2))) else (some false)) = some r := h
 clear h
 by_cases c4 : a0 ≥ a1
 ·rw [if_pos c4] at H
  have c4b0 : decide (a1 ≤ a0) = true := decide_eq_true c4
  clear c4
  obtain rfl := Option.some.inj H
  go_enter Try.func71, Try.ntmps71
  go_wp2
  go_ret
  exact ⟨z1_6, z1_8⟩
 ·rw [if_neg c4] at H
  have c4b0 : decide (a1 ≤ a0) = false := decide_eq_false c4
  clear c4
  obtain rfl := Option.some.inj H
  go_enter Try.func71, Try.ntmps71
  go_wp2
  go_ret
  exact ⟨z1_6, z1_8⟩

/-! ### spec_OwnerOf: function 112 -/
def spec_OwnerOf.f (a0 : Int) (a1 : Int) : Option (Int) := (spec_l1In.f a0 0 15).bind fun t108 => (if t108 = true then ((spec_l1In.f a1 1 6).bind fun t109 => (if t109 = true then (if a1 = 0 then (none) else (some (Int.tmod (Int.tmod (wrap64 ((wrap64 (13 * a0)) + 5)) 17) a1))) else (some (-1)))) else (some (-1)))
set_option maxHeartbeats 8000000 in
set_option maxRecDepth 100000 in
theorem spec_OwnerOf.calls (a0 : Int) (a1 : Int) (r : Int) (w : World) (h : spec_OwnerOf.f a0 a1 = some r) :
  Calls Try.prog 112 #[.int .i64 a0, .int .i64 a1] w fun e w' => e = .returned (.int .i64 r) ∧ Drawn0 w w' := by
 have H : ((spec_l1In.f a0 0 15).bind fun t108 => (if t108 = true then ((spec_l1In.f a1 1 6).bind fun t109 => (if t109 = true then (if a1 = 0 then (none) else (some (Int.tmod (Int.tmod (wrap64 ((wrap64 (13 * a0)) + 5)) 17) a1))) else (some (-1)))) else (some (-1)))) = some r := h
 clear h
 replace H := Option.bind_eq_some_iff.mp H
 obtain ⟨t108, A30, H⟩ := H
 replace H : (if t108 = true then ((spec_l1In.f a1 1 6).bind fun t109 => (if t109 = true then (if a1 = 0 then (none) else (some (Int.tmod (Int.tmod (wrap64 ((wrap64 (13 * a0)) + 5)) 17) a1))) else (some (-1)))) else (some (-1))) = some r := H
 have A3 := Aside0.mk A30
 clear A30
 by_cases c4 : t108 = true
 ·subst c4
  have H1 : ((spec_l1In.f a1 1 6).bind fun t109 => (if t109 = true then (if a1 = 0 then (none) else (some (Int.tmod (Int.tmod (wrap64 ((wrap64 (13 * a0)) + 5)) 17) a1))) else (some (-1)))) = some r := by rw [if_pos rfl] at H; exact H
  clear H
  have H := H1
  clear H1
  replace H := Option.bind_eq_some_iff.mp H
  obtain ⟨t109, A50, H⟩ := H
  replace H : (if t109 = true then (if a1 = 0 then (none) else (some (Int.tmod (Int.tmod (wrap64 ((wrap64 (13 * a0)) + 5)) 17) a1))) else (some (-1))) = some r := H
  have A5 := Aside0.mk A50
  clear A50
  by_cases c6 : t109 = true
  ·subst c6
   have H1 : (if a1 = 0 then (none) else (some (Int.tmod (Int.tmod (wrap64 ((wrap64 (13 * a0)) + 5)) 17) a1))) = some r := by rw [if_pos rfl] at H; exact H
   clear H
   have H := H1
   clear H1
   by_cases c7 : a1 = 0
   ·rw [if_pos c7] at H
    exact absurd H (by simp)
   ·rw [if_neg c7] at H
    have c7b0 : (a1 == 0) = false := beq_eq_false_iff_ne.mpr c7
    have c7b1 : (a1 != 0) = true := bne_iff_ne.mpr c7
    obtain rfl := Option.some.inj H
    go_enter Try.func112, Try.ntmps112
    go_wp2_with (first | ((with_reducible refine gate_callee (f := 71) rfl ?_); refine goesL_ (some 6) rfl rfl Try.func71 (by kernel_rfl) rfl #[.int .i64 a0, .int .i64 0, .int .i64 15] rfl z1_2 ?_; (with_reducible refine (spec_l1In.calls a0 0 15 true _ A3.out).mono ?_); rintro e w' ⟨rfl, ⟨nd, rfl⟩⟩; refine ⟨_, rfl, ?_⟩) | (go_at_call 71; (with_reducible refine (spec_l1In.calls a1 1 6 true _ A5.out).mono ?_); rintro e w' ⟨rfl, ⟨nd, rfl⟩⟩))
    go_ret
    exact ⟨z1_6, z1_8⟩
  ·replace c6 := Bool.eq_false_iff.mpr c6
   subst c6
   have H1 : (some (-1)) = some r := by rw [if_neg (show ¬ (false = true) by decide)] at H; exact H
   clear H
   have H := H1
   clear H1
   obtain rfl := Option.some.inj H
   go_enter Try.func112, Try.ntmps112
   go_wp2_with (first | ((with_reducible refine gate_callee (f := 71) rfl ?_); refine goesL_ (some 6) rfl rfl Try.func71 (by kernel_rfl) rfl #[.int .i64 a0, .int .i64 0, .int .i64 15] rfl z1_2 ?_; (with_reducible refine (spec_l1In.calls a0 0 15 true _ A3.out).mono ?_); rintro e w' ⟨rfl, ⟨nd, rfl⟩⟩; refine ⟨_, rfl, ?_⟩) | (go_at_call 71; (with_reducible refine (spec_l1In.calls a1 1 6 false _ A5.out).mono ?_); rintro e w' ⟨rfl, ⟨nd, rfl⟩⟩))
   go_ret
   exact ⟨z1_6, z1_8⟩
 ·replace c4 := Bool.eq_false_iff.mpr c4
  subst c4
  have H1 : (some (-1)) = some r := by rw [if_neg (show ¬ (false = true) by decide)] at H; exact H
  clear H
  have H := H1
  clear H1
  obtain rfl := Option.some.inj H
  go_enter Try.func112, Try.ntmps112
  go_wp2_with (first | ((with_reducible refine gate_callee (f := 71) rfl ?_); refine goesL_ (some 6) rfl rfl Try.func71 (by kernel_rfl) rfl #[.int .i64 a0, .int .i64 0, .int .i64 15] rfl z1_2 ?_; (with_reducible refine (spec_l1In.calls a0 0 15 false _ A3.out).mono ?_); rintro e w' ⟨rfl, ⟨nd, rfl⟩⟩; refine ⟨_, rfl, ?_⟩))
  go_ret
  exact ⟨z1_6, z1_8⟩

/-! ### spec_OwnedBy: function 75 -/
mutual
def spec_OwnedBy.l0 : Nat → Int → Int → Int → List Int → Int → Option (List Int)
 | 0, _, _, _, _, _ => none
 | k + 1, x0, x1, x2, x7, x8 => if x8 < x0 then ((spec_l1In.f x0 0 16).bind fun t113 => (if t113 = true then ((spec_l1In.f x1 1 6).bind fun t114 => (spec_OwnedBy.j1 k x0 x1 x2 x7 x8 t114)) else (spec_OwnedBy.j1 k x0 x1 x2 x7 x8 false))) else (spec_OwnedBy.j1 k x0 x1 x2 x7 x8 false)
def spec_OwnedBy.j1 : Nat → Int → Int → Int → List Int → Int → Bool → Option (List Int)
 | 0, _, _, _, _, _, _ => none
 | k + 1, x0, x1, x2, x7, x8, x20 => if x20 = true then ((spec_OwnerOf.f x8 x1).bind fun t115 => (if t115 = x2 then (if x7.length < 17592186044416 then (spec_OwnedBy.l0 k x0 x1 x2 (x7 ++ [x8]) (wrap64 (x8 + 1))) else (none)) else (spec_OwnedBy.l0 k x0 x1 x2 x7 (wrap64 (x8 + 1))))) else (some x7)
end
def spec_OwnedBy.f (k : Nat) (a0 : Int) (a1 : Int) (a2 : Int) : Option (List Int) := spec_OwnedBy.l0 k a0 a1 a2 (([] : List Int)) 0
theorem spec_OwnedBy.mono_l : ∀ k, (∀ y0 y1 y2 y3 y4, LeO (spec_OwnedBy.l0 k y0 y1 y2 y3 y4) (spec_OwnedBy.l0 (k + 1) y0 y1 y2 y3 y4)) ∧ (∀ y0 y1 y2 y3 y4 y5, LeO (spec_OwnedBy.j1 k y0 y1 y2 y3 y4 y5) (spec_OwnedBy.j1 (k + 1) y0 y1 y2 y3 y4 y5))
 | 0 => ⟨fun _ _ _ _ _ r h => by simp [spec_OwnedBy.l0] at h, fun _ _ _ _ _ _ r h => by simp [spec_OwnedBy.j1] at h⟩
 | k + 1 => by
  obtain ⟨ih0, ih1⟩ := spec_OwnedBy.mono_l k
  refine ⟨?_, ?_⟩
  ·intro y0 y1 y2 y3 y4
   unfold spec_OwnedBy.l0
   repeat' first
   | (with_reducible exact ih0 _ _ _ _ _)
   | (with_reducible exact ih1 _ _ _ _ _ _)
   | (with_reducible exact LeO.refl _)
   | (with_reducible exact LeO.none _)
   | (with_reducible refine LeO.ite ?_ ?_)
   | (with_reducible refine LeO.bind ?_ (fun _ => ?_))
   | exact ih0 _ _ _ _ _
   | exact ih1 _ _ _ _ _ _
   | exact LeO.none _
   | refine LeO.ite ?_ ?_
   | refine LeO.bind ?_ (fun _ => ?_)
  ·intro y0 y1 y2 y3 y4 y5
   unfold spec_OwnedBy.j1
   repeat' first
   | (with_reducible exact ih0 _ _ _ _ _)
   | (with_reducible exact ih1 _ _ _ _ _ _)
   | (with_reducible exact LeO.refl _)
   | (with_reducible exact LeO.none _)
   | (with_reducible refine LeO.ite ?_ ?_)
   | (with_reducible refine LeO.bind ?_ (fun _ => ?_))
   | exact ih0 _ _ _ _ _
   | exact ih1 _ _ _ _ _ _
   | exact LeO.none _
   | refine LeO.ite ?_ ?_
   | refine LeO.bind ?_ (fun _ => ?_)
theorem spec_OwnedBy.mono : ∀ a0 a1 a2 k, LeO (spec_OwnedBy.f k a0 a1 a2) (spec_OwnedBy.f (k + 1) a0 a1 a2) := by
 intro a0 a1 a2 k
 obtain ⟨ih0, ih1⟩ := spec_OwnedBy.mono_l k
 unfold spec_OwnedBy.f
 repeat' first
   | (with_reducible exact ih0 _ _ _ _ _)
   | (with_reducible exact ih1 _ _ _ _ _ _)
   | (with_reducible exact LeO.refl _)
   | (with_reducible exact LeO.none _)
   | (with_reducible refine LeO.ite ?_ ?_)
   | (with_reducible refine LeO.bind ?_ (fun _ => ?_))
   | exact ih0 _ _ _ _ _
   | exact ih1 _ _ _ _ _ _
   | exact LeO.none _
   | refine LeO.ite ?_ ?_
   | refine LeO.bind ?_ (fun _ => ?_)
set_option maxHeartbeats 8000000 in
set_option maxRecDepth 100000 in
theorem spec_OwnedBy.calls (k : Nat) (a0 : Int) (a1 : Int) (a2 : Int) (r : List Int) (w : World) (h : spec_OwnedBy.f k a0 a1 a2 = some r) :
  Calls Try.prog 75 #[.int .i64 a0, .int .i64 a1, .int .i64 a2] w fun e w' => ∃ v0_ : Value, e = .returned (v0_) ∧ Kd.R (Kd.int .i64) 3 w' w.heap.size (fun _ => True) v0_ r ∧ Below w.heap.size w w' := by
 have HB := Aside0.mk (Below.refl w.heap.size w)
 have H : (spec_OwnedBy.l0 k a0 a1 a2 (([] : List Int)) 0) = some r := h
 clear h
 obtain ⟨y110, hy110⟩ : ∃ y_ : List Int, y_ = (([] : List Int)) := ⟨_, rfl⟩
 replace H : (spec_OwnedBy.l0 k a0 a1 a2 y110 0) = some r := by first | (rw [hy110]; with_reducible exact H) | (have H2_ := (Option.bind_some _ _).symm.trans H; rw [hy110]; with_reducible exact H2_) | (have H2_ := (Option.bind_some _ _).symm.trans H; with_reducible exact H2_) | with_reducible exact H | (rw [hy110]; exact H) | exact H
 have Ny110 := Aside0.mk hy110
 clear hy110
 have H' := Aside0.mk H
 clear H
 go_enter Try.func75, Try.ntmps75
 go_wp2_with (first | ((with_reducible refine gate_dst (N := 9) rfl ?_); refine Kd.R_lit (Kd.int .i64) _ 3 ?hg (N := 9) ?hd (xs := ([] : List Int)) (inner := []) (ok := fun _ => True) (okp := fun _ => True) ?hr ?hp (fun _ hk => hk) trivial (Below.refl _ _) (Nat.le_refl _) (by simp) ?_; (case hd => rfl); (case hg => rfl); (case hr => exact z1_0); (case hp => exact (Reps.none _ _)); intro v111 w4 ho5 hb hg_ hnew_; clear hg_ hnew_; (first | rw [← Ny110.out] at ho5 | (simp only [Int.reduceToNat] at ho5; rw [← Ny110.out] at ho5)); have n0_ := Aside0.mk (Kd.R_lower ho5 (below_size z1_1)); have n1_ := Aside0.mk (below_step z1_1 hb); clear HB; have HO112 := n0_; have HB := n1_; clear n0_ n1_; clear hb ho5))
 go_loopg [7, 8] k (fun kq v7 v8 w' => ∃ (x7_1 : List Int) (x8_1 : Int), v8 = .int .i64 x8_1 ∧ Aside0 (spec_OwnedBy.l0 kq a0 a1 a2 x7_1 x8_1 = some r) ∧ Aside0 (kq ≤ k) ∧ Aside0 (Kd.R (Kd.int .i64) 3 w' w.heap.size (fun _ => True) v7 x7_1) ∧ Aside0 (Below w.heap.size w w'))
 case atStart => exact ⟨(y110), (0), z1_6, H', ⟨Nat.le_refl _⟩, ⟨by (with_reducible repeat (first | apply Kd.R_alloc | apply Kd.R_drewN | apply Kd.R_drew)); exact HO112.out⟩, ⟨z1_1⟩⟩
 case round =>
  clear H'
  try clear p2
  obtain ⟨x7_1, x8_1, rfl, HA, HK1, HO_7, HB⟩ := hrel
  cases gk with
  | zero => exact absurd HA.out (by simp [spec_OwnedBy.l0])
  | succ k1 =>
   have H := HA.out
   clear HA
   simp only [spec_OwnedBy.l0] at H
   have HC6 := Aside0.mk H
   clear H
   go_upto_region 3 with (fail)
   go_cut [20] (fun v20 wc => ∃ (kq : Nat) (x20_5 : Bool), v20 = .bool x20_5 ∧ Aside0 (spec_OwnedBy.j1 kq a0 a1 a2 x7_1 x8_1 x20_5 = some r) ∧ Aside0 (kq ≤ k1) ∧ Aside0 (Kd.R (Kd.int .i64) 3 wc w.heap.size (fun _ => True) u7 x7_1) ∧ Aside0 (Below w.heap.size w wc))
   case first =>
    have H := HC6.out
    clear HC6
    by_cases c7 : x8_1 < a0
    ·rw [if_pos c7] at H
     have c7b0 : decide (x8_1 < a0) = true := decide_eq_true c7
     clear c7
     (first | rw [c7b0] | (simp only [i64_w, i32_w]; rw [c7b0]) | skip)
     replace H := Option.bind_eq_some_iff.mp H
     obtain ⟨t113, A80, H⟩ := H
     replace H : (if t113 = true then ((spec_l1In.f a1 1 6).bind fun t114 => (spec_OwnedBy.j1 k1 a0 a1 a2 x7_1 x8_1 t114)) else (spec_OwnedBy.j1 k1 a0 a1 a2 x7_1 x8_1 false)) = some r := H
     have A8 := Aside0.mk A80
     clear A80
     by_cases c9 : t113 = true
     ·subst c9
      have H1 : ((spec_l1In.f a1 1 6).bind fun t114 => (spec_OwnedBy.j1 k1 a0 a1 a2 x7_1 x8_1 t114)) = some r := by rw [if_pos rfl] at H; exact H
      clear H
      have H := H1
      clear H1
      replace H := Option.bind_eq_some_iff.mp H
      obtain ⟨t114, A100, H⟩ := H
      replace H : (spec_OwnedBy.j1 k1 a0 a1 a2 x7_1 x8_1 t114) = some r := H
      have A10 := Aside0.mk A100
      clear A100
      have H' := Aside0.mk H
      clear H
      go_wp2_with (first | (go_at_call 71; (with_reducible refine (spec_l1In.calls a0 0 16 true _ A8.out).mono ?_); rintro e w' ⟨rfl, ⟨nd, rfl⟩⟩) | (go_at_call 71; (with_reducible refine (spec_l1In.calls a1 1 6 t114 _ A10.out).mono ?_); rintro e w' ⟨rfl, ⟨nd, rfl⟩⟩))
      go_meet
      case rel => exact ⟨_, (t114), z1_6, H', ⟨by have := HK1.out; first | omega | exact Nat.le_refl _⟩, ⟨z1_10⟩, ⟨z1_1⟩⟩
     ·replace c9 := Bool.eq_false_iff.mpr c9
      subst c9
      have H1 : (spec_OwnedBy.j1 k1 a0 a1 a2 x7_1 x8_1 false) = some r := by rw [if_neg (show ¬ (false = true) by decide)] at H; exact H
      clear H
      have H := H1
      clear H1
      have H' := Aside0.mk H
      clear H
      go_wp2_with (first | (go_at_call 71; (with_reducible refine (spec_l1In.calls a0 0 16 false _ A8.out).mono ?_); rintro e w' ⟨rfl, ⟨nd, rfl⟩⟩))
      go_meet
      case rel => exact ⟨_, (false), z1_6, H', ⟨by have := HK1.out; first | omega | exact Nat.le_refl _⟩, ⟨z1_10⟩, ⟨z1_1⟩⟩
    ·rw [if_neg c7] at H
     have c7b0 : decide (x8_1 < a0) = false := decide_eq_false c7
     clear c7
     (first | rw [c7b0] | (simp only [i64_w, i32_w]; rw [c7b0]) | skip)
     have H' := Aside0.mk H
     clear H
     go_wp2
     go_meet
     case rel => exact ⟨_, (false), z1_6, H', ⟨by have := HK1.out; first | omega | exact Nat.le_refl _⟩, ⟨z1_10⟩, ⟨z1_1⟩⟩
   case rest =>
    clear HC6
    try clear p2
    try clear c7
    try clear c7b0
    try clear c9
    try clear p2
    obtain ⟨kq, x20_5, rfl, HA, HJ5, HO_7, HB⟩ := hcut
    cases kq with
    | zero => exact absurd HA.out (by simp [spec_OwnedBy.j1])
    | succ kj5 =>
     have H := HA.out
     clear HA
     simp only [spec_OwnedBy.j1] at H
     by_cases c11 : x20_5 = true
     ·subst c11
      have H1 : ((spec_OwnerOf.f x8_1 a1).bind fun t115 => (if t115 = a2 then (if x7_1.length < 17592186044416 then (spec_OwnedBy.l0 kj5 a0 a1 a2 (x7_1 ++ [x8_1]) (wrap64 (x8_1 + 1))) else (none)) else (spec_OwnedBy.l0 kj5 a0 a1 a2 x7_1 (wrap64 (x8_1 + 1))))) = some r := by rw [if_pos rfl] at H; exact H
      clear H
      have H := H1
      clear H1
      replace H := Option.bind_eq_some_iff.mp H
      obtain ⟨t115, A120, H⟩ := H
      replace H : (if t115 = a2 then (if x7_1.length < 17592186044416 then (spec_OwnedBy.l0 kj5 a0 a1 a2 (x7_1 ++ [x8_1]) (wrap64 (x8_1 + 1))) else (none)) else (spec_OwnedBy.l0 kj5 a0 a1 a2 x7_1 (wrap64 (x8_1 + 1)))) = some r := H
      have A12 := Aside0.mk A120
      clear A120
      by_cases c13 : t115 = a2
      ·rw [if_pos c13] at H
       have c13b0 : (t115 == a2) = true := beq_iff_eq.mpr c13
       have c13b1 : (t115 != a2) = false := bne_eq_false_iff_eq.mpr c13
       clear c13
       by_cases c14 : x7_1.length < 17592186044416
       ·rw [if_pos c14] at H
        have LMc14 := Aside0.mk c14
        clear c14
        obtain ⟨y116, hy116⟩ : ∃ y_ : List Int, y_ = (x7_1 ++ [x8_1]) := ⟨_, rfl⟩
        replace H : (spec_OwnedBy.l0 kj5 a0 a1 a2 y116 (wrap64 (x8_1 + 1))) = some r := by first | (rw [hy116]; with_reducible exact H) | (have H2_ := (Option.bind_some _ _).symm.trans H; rw [hy116]; with_reducible exact H2_) | (have H2_ := (Option.bind_some _ _).symm.trans H; with_reducible exact H2_) | with_reducible exact H | (rw [hy116]; exact H) | exact H
        have Ny116 := Aside0.mk hy116
        clear hy116
        have H' := Aside0.mk H
        clear H
        go_wp2_with (first | ((with_reducible refine gate_callee (f := 112) rfl ?_); refine goesL_ (some 25) rfl rfl Try.func112 (by kernel_rfl) rfl #[.int .i64 x8_1, .int .i64 a1] rfl z1_2 ?_; (with_reducible refine (spec_OwnerOf.calls x8_1 a1 t115 _ A12.out).mono ?_); rintro e w' ⟨rfl, ⟨nd, rfl⟩⟩; refine ⟨_, rfl, ?_⟩) | ((with_reducible refine gate_builtin (b := .append) (xs := #[.tmp 28, .tmp 30]) rfl ?_); at_builtin; refine Kd.R_append (Kd.int .i64) (w0 := w) w.heap.size rfl (.tmp 28) (.tmp 30) 22 3 (.int .i64 0) 8 rfl Try.underlying22 info3 rfl (by decide) (by omega) u7 x7_1 x8_1 [.int .i64 x8_1] (fun _ => True) (fun _ => False) rfl rfl ?aP (fun _ hk => hk.elim) ?aF ?aO ?aB ?aS ?aL ?_; (case aP => exact rfl); (case aB => exact z1_1); (case aF => exact (fun _ _ => trivial)); (case aO => exact z1_10); (case aS => exact (below_size z1_1)); (case aL => have := LMc14.out; omega); intro v117 w15 ho hb hg hat; rw [← Ny116.out] at ho; have n0_ := Aside0.mk (hb); have n1_ := Aside0.mk (ho); clear HB; clear HO_7; have HB := n0_; have HO118 := n1_; clear n0_ n1_; clear ho hb hg hat))
        go_roundg kj5
        case measure => have := HK1.out; have := HJ5.out; omega
        case rel => exact ⟨(y116), (wrap64 (x8_1 + 1)), z1_6, H', ⟨by have := HK1.out; have := HJ5.out; omega⟩, ⟨by (with_reducible repeat (first | apply Kd.R_alloc | apply Kd.R_drewN | apply Kd.R_drew)); exact HO118.out⟩, ⟨z1_1⟩⟩
       ·rw [if_neg c14] at H
        exact absurd H (by simp)
      ·rw [if_neg c13] at H
       have c13b0 : (t115 == a2) = false := beq_eq_false_iff_ne.mpr c13
       have c13b1 : (t115 != a2) = true := bne_iff_ne.mpr c13
       have H' := Aside0.mk H
       clear H
       go_wp2_with (first | ((with_reducible refine gate_callee (f := 112) rfl ?_); refine goesL_ (some 25) rfl rfl Try.func112 (by kernel_rfl) rfl #[.int .i64 x8_1, .int .i64 a1] rfl z1_2 ?_; (with_reducible refine (spec_OwnerOf.calls x8_1 a1 t115 _ A12.out).mono ?_); rintro e w' ⟨rfl, ⟨nd, rfl⟩⟩; refine ⟨_, rfl, ?_⟩))
       go_roundg kj5
       case measure => have := HK1.out; have := HJ5.out; omega
       case rel => exact ⟨(x7_1), (wrap64 (x8_1 + 1)), z1_6, H', ⟨by have := HK1.out; have := HJ5.out; omega⟩, ⟨z1_10⟩, ⟨z1_1⟩⟩
     ·replace c11 := Bool.eq_false_iff.mpr c11
      subst c11
      have H1 : (some x7_1) = some r := by rw [if_neg (show ¬ (false = true) by decide)] at H; exact H
      clear H
      have H := H1
      clear H1
      obtain rfl := Option.some.inj H
      go_wp2
      go_ret
      exact ⟨_, z1_5, z1_10, z1_1⟩

/-! ### spec_l11Message: function 99 -/
def spec_l11Message.f (a0_0 : Int) (a0_1 : Int) (a0_2 : Int) (a1 : Int) : Option (Bool) := (spec_l1In.f a0_0 0 (wrap64 (a1 - 1))).bind fun t120 => (if t120 = true then ((spec_l1In.f a0_2 0 (wrap64 (a1 - 1))).bind fun t121 => (if t121 = true then ((spec_l1In.f a0_1 0 999999).bind fun t122 => (some t122)) else (some false))) else (some false))
set_option maxHeartbeats 8000000 in
set_option maxRecDepth 100000 in
theorem spec_l11Message.calls (a0_0 : Int) (a0_1 : Int) (a0_2 : Int) (a1 : Int) (r : Bool) (w : World) (h : spec_l11Message.f a0_0 a0_1 a0_2 a1 = some r) :
  Calls Try.prog 99 #[.agg #[.int .i64 a0_0, .int .i64 a0_1, .int .i64 a0_2], .int .i64 a1] w fun e w' => e = .returned (.bool r) ∧ Below w.heap.size w w' := by
 have hu122 := Try.underlying122
 have HB := Aside0.mk (Below.refl w.heap.size w)
 have H : ((spec_l1In.f a0_0 0 (wrap64 (a1 - 1))).bind fun t120 => (if t120 = true then ((spec_l1In.f a0_2 0 (wrap64 (a1 - 1))).bind fun t121 => (if t121 = true then ((spec_l1In.f a0_1 0 999999).bind fun t122 => (some t122)) else (some false))) else (some false))) = some r := h
 clear h
 replace H := Option.bind_eq_some_iff.mp H
 obtain ⟨t120, A30, H⟩ := H
 replace H : (if t120 = true then ((spec_l1In.f a0_2 0 (wrap64 (a1 - 1))).bind fun t121 => (if t121 = true then ((spec_l1In.f a0_1 0 999999).bind fun t122 => (some t122)) else (some false))) else (some false)) = some r := H
 have A3 := Aside0.mk A30
 clear A30
 by_cases c4 : t120 = true
 ·subst c4
  have H1 : ((spec_l1In.f a0_2 0 (wrap64 (a1 - 1))).bind fun t121 => (if t121 = true then ((spec_l1In.f a0_1 0 999999).bind fun t122 => (some t122)) else (some false))) = some r := by rw [if_pos rfl] at H; exact H
  clear H
  have H := H1
  clear H1
  replace H := Option.bind_eq_some_iff.mp H
  obtain ⟨t121, A50, H⟩ := H
  replace H : (if t121 = true then ((spec_l1In.f a0_1 0 999999).bind fun t122 => (some t122)) else (some false)) = some r := H
  have A5 := Aside0.mk A50
  clear A50
  by_cases c6 : t121 = true
  ·subst c6
   have H1 : ((spec_l1In.f a0_1 0 999999).bind fun t122 => (some t122)) = some r := by rw [if_pos rfl] at H; exact H
   clear H
   have H := H1
   clear H1
   replace H := Option.bind_eq_some_iff.mp H
   obtain ⟨t122, A70, H⟩ := H
   replace H : (some t122) = some r := H
   have A7 := Aside0.mk A70
   clear A70
   obtain rfl := Option.some.inj H
   go_enter Try.func99, Try.ntmps99
   go_wp2_with (first | ((with_reducible refine gate_dst (N := 2) rfl ?_); refine box_event ?hg (N := 2) ?hd (cs := #[.int .i64 a0_0, .int .i64 a0_1, .int .i64 a0_2]) (t := 122) ?hr ?_; (case hd => rfl); (case hg => rfl); (case hr => exact z1_0); intro gb119 hg w8 hbox hb; have n0_ := Aside0.mk (below_step z1_1 hb); have n1_ := Aside0.mk (hbox); have n2_ := Aside0.mk ((z1_9 : w.heap.size ≤ gb119)); have n3_ := Aside0.mk ((z1_9 : w.heap.size ≤ gb119)); clear HB; have HB := n0_; have BK119 := n1_; have GW119 := n2_; have GE119 := n3_; clear n0_ n1_ n2_ n3_; clear hb hbox hg; have hcz9_0 : w8.cell? ⟨gb119, 0, none⟩ = some (.int .i64 a0_0) := (blk_cell BK119.out 0).trans rfl; have hcz9_1 : w8.cell? ⟨gb119, 1, none⟩ = some (.int .i64 a0_1) := (blk_cell BK119.out 1).trans rfl; have hcz9_2 : w8.cell? ⟨gb119, 2, none⟩ = some (.int .i64 a0_2) := (blk_cell BK119.out 2).trans rfl; have hfz9_0 := blk_frozen BK119.out 0; have hfz9_1 := blk_frozen BK119.out 1; have hfz9_2 := blk_frozen BK119.out 2) | ((with_reducible refine gate_callee (f := 71) rfl ?_); refine goesL_ (some 9) rfl rfl Try.func71 (by kernel_rfl) rfl #[.int .i64 a0_0, .int .i64 0, .int .i64 (wrap64 (a1 - 1))] rfl z1_2 ?_; (with_reducible refine (spec_l1In.calls a0_0 0 (wrap64 (a1 - 1)) true _ A3.out).mono ?_); rintro e w' ⟨rfl, ⟨nd, rfl⟩⟩; refine ⟨_, rfl, ?_⟩) | (go_at_call 71; (with_reducible refine (spec_l1In.calls a0_2 0 (wrap64 (a1 - 1)) true _ A5.out).mono ?_); rintro e w' ⟨rfl, ⟨nd, rfl⟩⟩) | (go_at_call 71; (with_reducible refine (spec_l1In.calls a0_1 0 999999 t122 _ A7.out).mono ?_); rintro e w' ⟨rfl, ⟨nd, rfl⟩⟩))
   go_ret
   exact ⟨z1_5, z1_12⟩
  ·replace c6 := Bool.eq_false_iff.mpr c6
   subst c6
   have H1 : (some false) = some r := by rw [if_neg (show ¬ (false = true) by decide)] at H; exact H
   clear H
   have H := H1
   clear H1
   obtain rfl := Option.some.inj H
   go_enter Try.func99, Try.ntmps99
   go_wp2_with (first | ((with_reducible refine gate_dst (N := 2) rfl ?_); refine box_event ?hg (N := 2) ?hd (cs := #[.int .i64 a0_0, .int .i64 a0_1, .int .i64 a0_2]) (t := 122) ?hr ?_; (case hd => rfl); (case hg => rfl); (case hr => exact z1_0); intro gb119 hg w10 hbox hb; have n0_ := Aside0.mk (below_step z1_1 hb); have n1_ := Aside0.mk (hbox); have n2_ := Aside0.mk ((z1_9 : w.heap.size ≤ gb119)); have n3_ := Aside0.mk ((z1_9 : w.heap.size ≤ gb119)); clear HB; have HB := n0_; have BK119 := n1_; have GW119 := n2_; have GE119 := n3_; clear n0_ n1_ n2_ n3_; clear hb hbox hg; have hcz11_0 : w10.cell? ⟨gb119, 0, none⟩ = some (.int .i64 a0_0) := (blk_cell BK119.out 0).trans rfl; have hcz11_1 : w10.cell? ⟨gb119, 1, none⟩ = some (.int .i64 a0_1) := (blk_cell BK119.out 1).trans rfl; have hcz11_2 : w10.cell? ⟨gb119, 2, none⟩ = some (.int .i64 a0_2) := (blk_cell BK119.out 2).trans rfl; have hfz11_0 := blk_frozen BK119.out 0; have hfz11_1 := blk_frozen BK119.out 1; have hfz11_2 := blk_frozen BK119.out 2) | ((with_reducible refine gate_callee (f := 71) rfl ?_); refine goesL_ (some 9) rfl rfl Try.func71 (by kernel_rfl) rfl #[.int .i64 a0_0, .int .i64 0, .int .i64 (wrap64 (a1 - 1))] rfl z1_2 ?_; (with_reducible refine (spec_l1In.calls a0_0 0 (wrap64 (a1 - 1)) true _ A3.out).mono ?_); rintro e w' ⟨rfl, ⟨nd, rfl⟩⟩; refine ⟨_, rfl, ?_⟩) | (go_at_call 71; (with_reducible refine (spec_l1In.calls a0_2 0 (wrap64 (a1 - 1)) false _ A5.out).mono ?_); rintro e w' ⟨rfl, ⟨nd, rfl⟩⟩))
   go_ret
   exact ⟨z1_5, z1_12⟩
 ·replace c4 := Bool.eq_false_iff.mpr c4
  subst c4
  have H1 : (some false) = some r := by rw [if_neg (show ¬ (false = true) by decide)] at H; exact H
  clear H
  have H := H1
  clear H1
  obtain rfl := Option.some.inj H
  go_enter Try.func99, Try.ntmps99
  go_wp2_with (first | ((with_reducible refine gate_dst (N := 2) rfl ?_); refine box_event ?hg (N := 2) ?hd (cs := #[.int .i64 a0_0, .int .i64 a0_1, .int .i64 a0_2]) (t := 122) ?hr ?_; (case hd => rfl); (case hg => rfl); (case hr => exact z1_0); intro gb119 hg w12 hbox hb; have n0_ := Aside0.mk (below_step z1_1 hb); have n1_ := Aside0.mk (hbox); have n2_ := Aside0.mk ((z1_9 : w.heap.size ≤ gb119)); have n3_ := Aside0.mk ((z1_9 : w.heap.size ≤ gb119)); clear HB; have HB := n0_; have BK119 := n1_; have GW119 := n2_; have GE119 := n3_; clear n0_ n1_ n2_ n3_; clear hb hbox hg; have hcz13_0 : w12.cell? ⟨gb119, 0, none⟩ = some (.int .i64 a0_0) := (blk_cell BK119.out 0).trans rfl; have hcz13_1 : w12.cell? ⟨gb119, 1, none⟩ = some (.int .i64 a0_1) := (blk_cell BK119.out 1).trans rfl; have hcz13_2 : w12.cell? ⟨gb119, 2, none⟩ = some (.int .i64 a0_2) := (blk_cell BK119.out 2).trans rfl; have hfz13_0 := blk_frozen BK119.out 0; have hfz13_1 := blk_frozen BK119.out 1; have hfz13_2 := blk_frozen BK119.out 2) | ((with_reducible refine gate_callee (f := 71) rfl ?_); refine goesL_ (some 9) rfl rfl Try.func71 (by kernel_rfl) rfl #[.int .i64 a0_0, .int .i64 0, .int .i64 (wrap64 (a1 - 1))] rfl z1_2 ?_; (with_reducible refine (spec_l1In.calls a0_0 0 (wrap64 (a1 - 1)) false _ A3.out).mono ?_); rintro e w' ⟨rfl, ⟨nd, rfl⟩⟩; refine ⟨_, rfl, ?_⟩))
  go_ret
  exact ⟨z1_5, z1_12⟩

/-! ### spec_l7Has: function 100 -/
def spec_l7Has.l0 : Nat → List Int → Int → Int → Option (Bool)
 | 0, _, _, _ => none
 | k + 1, x0, x1, x5 => if x5 < (x0.length : Int) then (if 0 ≤ x5 then (if (rd x0 x5) = x1 then (some true) else (spec_l7Has.l0 k x0 x1 (wrap64 (x5 + 1)))) else (none)) else (some false)
def spec_l7Has.f (k : Nat) (l0 : List Int) (a1 : Int) : Option (Bool) := spec_l7Has.l0 k l0 a1 0
theorem spec_l7Has.mono_l : ∀ k, (∀ y0 y1 y2, LeO (spec_l7Has.l0 k y0 y1 y2) (spec_l7Has.l0 (k + 1) y0 y1 y2))
 | 0 => fun _ _ _ r h => by simp [spec_l7Has.l0] at h
 | k + 1 => by
  have ih0 := spec_l7Has.mono_l k
  ·intro y0 y1 y2
   unfold spec_l7Has.l0
   repeat' first
   | (with_reducible exact ih0 _ _ _)
   | (with_reducible exact LeO.refl _)
   | (with_reducible exact LeO.none _)
   | (with_reducible refine LeO.ite ?_ ?_)
   | (with_reducible refine LeO.bind ?_ (fun _ => ?_))
   | exact ih0 _ _ _
   | exact LeO.none _
   | refine LeO.ite ?_ ?_
   | refine LeO.bind ?_ (fun _ => ?_)
theorem spec_l7Has.mono : ∀ a0 a1 k, LeO (spec_l7Has.f k a0 a1) (spec_l7Has.f (k + 1) a0 a1) := by
 intro a0 a1 k
 have ih0 := spec_l7Has.mono_l k
 unfold spec_l7Has.f
 repeat' first
   | (with_reducible exact ih0 _ _ _)
   | (with_reducible exact LeO.refl _)
   | (with_reducible exact LeO.none _)
   | (with_reducible refine LeO.ite ?_ ?_)
   | (with_reducible refine LeO.bind ?_ (fun _ => ?_))
   | exact ih0 _ _ _
   | exact LeO.none _
   | refine LeO.ite ?_ ?_
   | refine LeO.bind ?_ (fun _ => ?_)
set_option maxHeartbeats 8000000 in
set_option maxRecDepth 100000 in
theorem spec_l7Has.calls (k : Nat) (A0 : Option Addr) (c0 : Nat) (l0 : List Int) (a1 : Int) (r : Bool) (w : World) (hr0 : Kd.C (Kd.int .i64) w A0 l0.length l0) (hc0 : l0.length ≤ c0) (h : spec_l7Has.f k l0 a1 = some r) :
  Calls Try.prog 100 #[.slice A0 l0.length c0, .int .i64 a1] w fun e w' => e = .returned (.bool r) ∧ Drawn0 w w' := by
 have HR0 := Aside0.mk hr0
 have HC0 := Aside0.mk hc0
 clear hr0 hc0
 have H : (spec_l7Has.l0 k l0 a1 0) = some r := h
 clear h
 have H' := Aside0.mk H
 clear H
 go_enter Try.func100, Try.ntmps100
 go_wp2
 go_loopg [5] k (fun kq v5 w' => ∃ (x5_1 : Int), v5 = .int .i64 x5_1 ∧ Aside0 (spec_l7Has.l0 kq l0 a1 x5_1 = some r) ∧ Aside0 (kq ≤ k) ∧ Drawn0 w w')
 case atStart => exact ⟨(0), z1_6, H', ⟨Nat.le_refl _⟩, z1_8⟩
 case round =>
  clear H'
  try clear c1
  try clear p2
  obtain ⟨x5_1, rfl, HA, HK1, ⟨m1, rfl⟩⟩ := hrel
  cases gk with
  | zero => exact absurd HA.out (by simp [spec_l7Has.l0])
  | succ k1 =>
   have H := HA.out
   clear HA
   simp only [spec_l7Has.l0] at H
   by_cases c3 : x5_1 < (l0.length : Int)
   ·rw [if_pos c3] at H
    have c3b0 : decide (x5_1 < (l0.length : Int)) = true := decide_eq_true c3
    clear c3
    by_cases c4 : 0 ≤ x5_1
    ·rw [if_pos c4] at H
     have c4b0 : decide (0 ≤ x5_1) = true := decide_eq_true c4
     clear c4
     by_cases c5 : (rd l0 x5_1) = a1
     ·rw [if_pos c5] at H
      have c5b0 : ((rd l0 x5_1) == a1) = true := beq_iff_eq.mpr c5
      have c5b1 : ((rd l0 x5_1) != a1) = false := bne_eq_false_iff_eq.mpr c5
      clear c5
      obtain rfl := Option.some.inj H
      have p123 : 0 ≤ (x5_1 : Int) := of_decide_eq_true z1_13
      have q123 : x5_1 < (l0.length : Int) := of_decide_eq_true z1_13
      obtain ⟨ad123, e123, hx123_0⟩ := Kd.at_int HR0.out x5_1 p123 q123
      cases e123
      replace p123 := eq_true p123
      replace q123 := eq_true q123
      go_wp2
      go_ret
      exact ⟨z1_6, z1_8⟩
     ·rw [if_neg c5] at H
      have c5b0 : ((rd l0 x5_1) == a1) = false := beq_eq_false_iff_ne.mpr c5
      have c5b1 : ((rd l0 x5_1) != a1) = true := bne_iff_ne.mpr c5
      have H' := Aside0.mk H
      clear H
      have p123 : 0 ≤ (x5_1 : Int) := of_decide_eq_true z1_13
      have q123 : x5_1 < (l0.length : Int) := of_decide_eq_true z1_13
      obtain ⟨ad123, e123, hx123_0⟩ := Kd.at_int HR0.out x5_1 p123 q123
      cases e123
      replace p123 := eq_true p123
      replace q123 := eq_true q123
      go_wp2
      go_roundg k1
      case measure => have := HK1.out; omega
      case rel => exact ⟨(wrap64 (x5_1 + 1)), z1_6, H', ⟨by have := HK1.out; omega⟩, z1_8⟩
    ·rw [if_neg c4] at H
     exact absurd H (by simp)
   ·rw [if_neg c3] at H
    have c3b0 : decide (x5_1 < (l0.length : Int)) = false := decide_eq_false c3
    clear c3
    obtain rfl := Option.some.inj H
    go_wp2
    go_ret
    exact ⟨z1_6, z1_8⟩

/-! ### spec_l9Before: function 101 -/
def spec_l9Before.f (a0_0 : Int) (a0_1 : Int) (a0_2 : Int) (a1_0 : Int) (a1_1 : Int) (a1_2 : Int) : Option (Bool) := if a0_0 = a1_0 then (if a0_1 = a1_1 then (some (decide (a0_2 < a1_2))) else (some (decide (a0_1 < a1_1)))) else (some (decide (a0_0 < a1_0)))
set_option maxHeartbeats 8000000 in
set_option maxRecDepth 100000 in
theorem spec_l9Before.calls (a0_0 : Int) (a0_1 : Int) (a0_2 : Int) (a1_0 : Int) (a1_1 : Int) (a1_2 : Int) (r : Bool) (w : World) (h : spec_l9Before.f a0_0 a0_1 a0_2 a1_0 a1_1 a1_2 = some r) :
  Calls Try.prog 101 #[.agg #[.int .i64 a0_0, .int .i64 a0_1, .int .i64 a0_2], .agg #[.int .i64 a1_0, .int .i64 a1_1, .int .i64 a1_2]] w fun e w' => e = .returned (.bool r) ∧ Below w.heap.size w w' := by
 have hu122 := Try.underlying122
 have HB := Aside0.mk (Below.refl w.heap.size w)
 have H : (if a0_0 = a1_0 then (if a0_1 = a1_1 then (some (decide (a0_2 < a1_2))) else (some (decide (a0_1 < a1_1)))) else (some (decide (a0_0 < a1_0)))) = some r := h
 clear h
 by_cases c3 : a0_0 = a1_0
 ·rw [if_pos c3] at H
  have c3b0 : (a0_0 == a1_0) = true := beq_iff_eq.mpr c3
  have c3b1 : (a0_0 != a1_0) = false := bne_eq_false_iff_eq.mpr c3
  clear c3
  by_cases c4 : a0_1 = a1_1
  ·rw [if_pos c4] at H
   have c4b0 : (a0_1 == a1_1) = true := beq_iff_eq.mpr c4
   have c4b1 : (a0_1 != a1_1) = false := bne_eq_false_iff_eq.mpr c4
   clear c4
   obtain rfl := Option.some.inj H
   go_enter Try.func101, Try.ntmps101
   go_wp2_with (first | ((with_reducible refine gate_dst (N := 2) rfl ?_); refine box_event ?hg (N := 2) ?hd (cs := #[.int .i64 a0_0, .int .i64 a0_1, .int .i64 a0_2]) (t := 122) ?hr ?_; (case hd => rfl); (case hg => rfl); (case hr => exact z1_0); intro gb124 hg w5 hbox hb; have n0_ := Aside0.mk (below_step z1_1 hb); have n1_ := Aside0.mk (hbox); have n2_ := Aside0.mk ((z1_9 : w.heap.size ≤ gb124)); have n3_ := Aside0.mk ((z1_9 : w.heap.size ≤ gb124)); clear HB; have HB := n0_; have BK124 := n1_; have GW124 := n2_; have GE124 := n3_; clear n0_ n1_ n2_ n3_; clear hb hbox hg) | ((with_reducible refine gate_dst (N := 3) rfl ?_); refine box_event ?hg (N := 3) ?hd (cs := #[.int .i64 a1_0, .int .i64 a1_1, .int .i64 a1_2]) (t := 122) ?hr ?_; (case hd => rfl); (case hg => rfl); (case hr => exact z1_0); intro gb125 hg w6 hbox hb; have n0_ := Aside0.mk (blk_below (g := gb124) (o := .cells #[.int .i64 a0_0, .int .i64 a0_1, .int .i64 a0_2] 122 (0, 0)) z1_7 hb); have n1_ := Aside0.mk (below_step z1_4 hb); have n2_ := Aside0.mk (hbox); have n3_ := Aside0.mk ((z1_16 : w.heap.size ≤ gb125)); have n4_ := Aside0.mk ((z1_16 : w.heap.size ≤ gb125)); have n5_ := Aside0.mk ((z1_14 : gb124 ≠ gb125)); have n6_ := Aside0.mk ((z1_15 : gb125 ≠ gb124)); clear BK124; clear HB; have BK124 := n0_; have HB := n1_; have BK125 := n2_; have GW125 := n3_; have GE125 := n4_; have NB124_125 := n5_; have NB125_124 := n6_; clear n0_ n1_ n2_ n3_ n4_ n5_ n6_; clear hb hbox hg; have hnb7 := NB124_125.out; have hnc7 := NB125_124.out; have hcz8_0 : w6.cell? ⟨gb124, 0, none⟩ = some (.int .i64 a0_0) := (blk_cell BK124.out 0).trans rfl; have hcz8_1 : w6.cell? ⟨gb124, 1, none⟩ = some (.int .i64 a0_1) := (blk_cell BK124.out 1).trans rfl; have hcz8_2 : w6.cell? ⟨gb124, 2, none⟩ = some (.int .i64 a0_2) := (blk_cell BK124.out 2).trans rfl; have hfz8_0 := blk_frozen BK124.out 0; have hfz8_1 := blk_frozen BK124.out 1; have hfz8_2 := blk_frozen BK124.out 2; have hcz9_0 : w6.cell? ⟨gb125, 0, none⟩ = some (.int .i64 a1_0) := (blk_cell BK125.out 0).trans rfl; have hcz9_1 : w6.cell? ⟨gb125, 1, none⟩ = some (.int .i64 a1_1) := (blk_cell BK125.out 1).trans rfl; have hcz9_2 : w6.cell? ⟨gb125, 2, none⟩ = some (.int .i64 a1_2) := (blk_cell BK125.out 2).trans rfl; have hfz9_0 := blk_frozen BK125.out 0; have hfz9_1 := blk_frozen BK125.out 1; have hfz9_2 := blk_frozen BK125.out 2))
   go_ret
   exact ⟨z1_5, z1_11⟩
  ·rw [if_neg c4] at H
   have c4b0 : (a0_1 == a1_1) = false := beq_eq_false_iff_ne.mpr c4
   have c4b1 : (a0_1 != a1_1) = true := bne_iff_ne.mpr c4
   obtain rfl := Option.some.inj H
   go_enter Try.func101, Try.ntmps101
   go_wp2_with (first | ((with_reducible refine gate_dst (N := 2) rfl ?_); refine box_event ?hg (N := 2) ?hd (cs := #[.int .i64 a0_0, .int .i64 a0_1, .int .i64 a0_2]) (t := 122) ?hr ?_; (case hd => rfl); (case hg => rfl); (case hr => exact z1_0); intro gb124 hg w10 hbox hb; have n0_ := Aside0.mk (below_step z1_1 hb); have n1_ := Aside0.mk (hbox); have n2_ := Aside0.mk ((z1_9 : w.heap.size ≤ gb124)); have n3_ := Aside0.mk ((z1_9 : w.heap.size ≤ gb124)); clear HB; have HB := n0_; have BK124 := n1_; have GW124 := n2_; have GE124 := n3_; clear n0_ n1_ n2_ n3_; clear hb hbox hg) | ((with_reducible refine gate_dst (N := 3) rfl ?_); refine box_event ?hg (N := 3) ?hd (cs := #[.int .i64 a1_0, .int .i64 a1_1, .int .i64 a1_2]) (t := 122) ?hr ?_; (case hd => rfl); (case hg => rfl); (case hr => exact z1_0); intro gb125 hg w11 hbox hb; have n0_ := Aside0.mk (blk_below (g := gb124) (o := .cells #[.int .i64 a0_0, .int .i64 a0_1, .int .i64 a0_2] 122 (0, 0)) z1_7 hb); have n1_ := Aside0.mk (below_step z1_4 hb); have n2_ := Aside0.mk (hbox); have n3_ := Aside0.mk ((z1_16 : w.heap.size ≤ gb125)); have n4_ := Aside0.mk ((z1_16 : w.heap.size ≤ gb125)); have n5_ := Aside0.mk ((z1_14 : gb124 ≠ gb125)); have n6_ := Aside0.mk ((z1_15 : gb125 ≠ gb124)); clear BK124; clear HB; have BK124 := n0_; have HB := n1_; have BK125 := n2_; have GW125 := n3_; have GE125 := n4_; have NB124_125 := n5_; have NB125_124 := n6_; clear n0_ n1_ n2_ n3_ n4_ n5_ n6_; clear hb hbox hg; have hnb12 := NB124_125.out; have hnc12 := NB125_124.out; have hcz13_0 : w11.cell? ⟨gb124, 0, none⟩ = some (.int .i64 a0_0) := (blk_cell BK124.out 0).trans rfl; have hcz13_1 : w11.cell? ⟨gb124, 1, none⟩ = some (.int .i64 a0_1) := (blk_cell BK124.out 1).trans rfl; have hcz13_2 : w11.cell? ⟨gb124, 2, none⟩ = some (.int .i64 a0_2) := (blk_cell BK124.out 2).trans rfl; have hfz13_0 := blk_frozen BK124.out 0; have hfz13_1 := blk_frozen BK124.out 1; have hfz13_2 := blk_frozen BK124.out 2; have hcz14_0 : w11.cell? ⟨gb125, 0, none⟩ = some (.int .i64 a1_0) := (blk_cell BK125.out 0).trans rfl; have hcz14_1 : w11.cell? ⟨gb125, 1, none⟩ = some (.int .i64 a1_1) := (blk_cell BK125.out 1).trans rfl; have hcz14_2 : w11.cell? ⟨gb125, 2, none⟩ = some (.int .i64 a1_2) := (blk_cell BK125.out 2).trans rfl; have hfz14_0 := blk_frozen BK125.out 0; have hfz14_1 := blk_frozen BK125.out 1; have hfz14_2 := blk_frozen BK125.out 2))
   go_ret
   exact ⟨z1_5, z1_11⟩
 ·rw [if_neg c3] at H
  have c3b0 : (a0_0 == a1_0) = false := beq_eq_false_iff_ne.mpr c3
  have c3b1 : (a0_0 != a1_0) = true := bne_iff_ne.mpr c3
  obtain rfl := Option.some.inj H
  go_enter Try.func101, Try.ntmps101
  go_wp2_with (first | ((with_reducible refine gate_dst (N := 2) rfl ?_); refine box_event ?hg (N := 2) ?hd (cs := #[.int .i64 a0_0, .int .i64 a0_1, .int .i64 a0_2]) (t := 122) ?hr ?_; (case hd => rfl); (case hg => rfl); (case hr => exact z1_0); intro gb124 hg w15 hbox hb; have n0_ := Aside0.mk (below_step z1_1 hb); have n1_ := Aside0.mk (hbox); have n2_ := Aside0.mk ((z1_9 : w.heap.size ≤ gb124)); have n3_ := Aside0.mk ((z1_9 : w.heap.size ≤ gb124)); clear HB; have HB := n0_; have BK124 := n1_; have GW124 := n2_; have GE124 := n3_; clear n0_ n1_ n2_ n3_; clear hb hbox hg) | ((with_reducible refine gate_dst (N := 3) rfl ?_); refine box_event ?hg (N := 3) ?hd (cs := #[.int .i64 a1_0, .int .i64 a1_1, .int .i64 a1_2]) (t := 122) ?hr ?_; (case hd => rfl); (case hg => rfl); (case hr => exact z1_0); intro gb125 hg w16 hbox hb; have n0_ := Aside0.mk (blk_below (g := gb124) (o := .cells #[.int .i64 a0_0, .int .i64 a0_1, .int .i64 a0_2] 122 (0, 0)) z1_7 hb); have n1_ := Aside0.mk (below_step z1_4 hb); have n2_ := Aside0.mk (hbox); have n3_ := Aside0.mk ((z1_16 : w.heap.size ≤ gb125)); have n4_ := Aside0.mk ((z1_16 : w.heap.size ≤ gb125)); have n5_ := Aside0.mk ((z1_14 : gb124 ≠ gb125)); have n6_ := Aside0.mk ((z1_15 : gb125 ≠ gb124)); clear BK124; clear HB; have BK124 := n0_; have HB := n1_; have BK125 := n2_; have GW125 := n3_; have GE125 := n4_; have NB124_125 := n5_; have NB125_124 := n6_; clear n0_ n1_ n2_ n3_ n4_ n5_ n6_; clear hb hbox hg; have hnb17 := NB124_125.out; have hnc17 := NB125_124.out; have hcz18_0 : w16.cell? ⟨gb124, 0, none⟩ = some (.int .i64 a0_0) := (blk_cell BK124.out 0).trans rfl; have hcz18_1 : w16.cell? ⟨gb124, 1, none⟩ = some (.int .i64 a0_1) := (blk_cell BK124.out 1).trans rfl; have hcz18_2 : w16.cell? ⟨gb124, 2, none⟩ = some (.int .i64 a0_2) := (blk_cell BK124.out 2).trans rfl; have hfz18_0 := blk_frozen BK124.out 0; have hfz18_1 := blk_frozen BK124.out 1; have hfz18_2 := blk_frozen BK124.out 2; have hcz19_0 : w16.cell? ⟨gb125, 0, none⟩ = some (.int .i64 a1_0) := (blk_cell BK125.out 0).trans rfl; have hcz19_1 : w16.cell? ⟨gb125, 1, none⟩ = some (.int .i64 a1_1) := (blk_cell BK125.out 1).trans rfl; have hcz19_2 : w16.cell? ⟨gb125, 2, none⟩ = some (.int .i64 a1_2) := (blk_cell BK125.out 2).trans rfl; have hfz19_0 := blk_frozen BK125.out 0; have hfz19_1 := blk_frozen BK125.out 1; have hfz19_2 := blk_frozen BK125.out 2))
  go_ret
  exact ⟨z1_5, z1_11⟩

end Go.Proofs.Ytloiafnoekpaoab.PFnExactPiecesValid
