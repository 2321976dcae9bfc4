/- Laid by a program of this session out of the translation: functions, their contracts, the row. Lean checks it. -/
import Derived.Test.YtloiafnoekpaoabPFnExactPiecesValidx0
import Derived.Test.YtloiafnoekpaoabPFnExactPiecesValidx3
import Derived.Test.YtloiafnoekpaoabPFnExactPiecesValidx7
namespace Go.Proofs.Ytloiafnoekpaoab.PFnExactPiecesValid
open Go.RowKit Go.Proofs.YtloiafnoekpaoabW.PrintWords Go.Proofs.YtloiafnoekpaoabW.PrintLast Go.Proofs.YtloiafnoekpaoabW.PrintMore
theorem z8_0 {p : Prop} (h : p := by first | (go_simp; done) | (go_simp; rfl)) : p := h
theorem z8_1 {p : Prop} (h : p := by repeat (first | (with_reducible first | exact HB.out | apply below_alloc | apply pw_below_drewN | apply below_drew1) | exact HB.out)) : p := h
theorem z8_2 {p : Prop} (h : p := by repeat (first | (with_reducible first | exact HB.out | apply below_alloc | apply pw_below_drewN | apply below_drew1 | refine below_set ?_ GE234.out) | exact HB.out)) : p := h
theorem z8_3 {p : Prop} (h : p := by repeat (first | (with_reducible first | exact HB.out | apply below_alloc | apply pw_below_drewN | apply below_drew1 | refine below_set ?_ GE240.out) | exact HB.out)) : p := h
theorem z8_4 {p : Prop} (h : p := by (with_reducible repeat (first | refine blk_drewN ?_ _ | refine blk_drew ?_ | refine blk_alloc ?_ _)); refine blk_put (cs := #[.int .i64 ((rd_T119 l0 x22_2).f0), .slice A233_1 ((rd_T119 l0 x22_2).f1).length c233_1, .slice A233_2 ((rd_T119 l0 x22_2).f2).length c233_2, .slice A233_3 ((rd_T119 l0 x22_2).f3).length c233_3, .slice none 0 0]) ?_ 4 _ rfl; (with_reducible repeat (first | refine blk_drewN ?_ _ | refine blk_drew ?_ | refine blk_alloc ?_ _)); refine blk_put (cs := #[.int .i64 ((rd_T119 l0 x22_2).f0), .slice A233_1 ((rd_T119 l0 x22_2).f1).length c233_1, .slice A233_2 ((rd_T119 l0 x22_2).f2).length c233_2, .slice none 0 0, .slice none 0 0]) ?_ 3 _ rfl; (with_reducible repeat (first | refine blk_drewN ?_ _ | refine blk_drew ?_ | refine blk_alloc ?_ _)); refine blk_put (cs := #[.int .i64 ((rd_T119 l0 x22_2).f0), .slice A233_1 ((rd_T119 l0 x22_2).f1).length c233_1, .slice none 0 0, .slice none 0 0, .slice none 0 0]) ?_ 2 _ rfl; (with_reducible repeat (first | refine blk_drewN ?_ _ | refine blk_drew ?_ | refine blk_alloc ?_ _)); refine blk_put (cs := #[.int .i64 ((rd_T119 l0 x22_2).f0), .slice none 0 0, .slice none 0 0, .slice none 0 0, .slice none 0 0]) ?_ 1 _ rfl; (with_reducible repeat (first | refine blk_drewN ?_ _ | refine blk_drew ?_ | refine blk_alloc ?_ _)); refine blk_put (cs := #[.int .i64 0, .slice none 0 0, .slice none 0 0, .slice none 0 0, .slice none 0 0]) ?_ 0 _ rfl; (with_reducible repeat (first | refine blk_drewN ?_ _ | refine blk_drew ?_ | refine blk_alloc ?_ _)); exact BK234.out) : p := h
theorem z8_5 {p : Prop} (h : p := by (with_reducible repeat (first | refine blk_drewN ?_ _ | refine blk_drew ?_ | refine blk_alloc ?_ _)); exact BK240.out) : p := h
theorem z8_6 {p : Prop} (h : p := by first | (with_reducible assumption) | assumption) : p := h
theorem z8_7 {p : Prop} (h : p := by first | rfl | (simp; done) | (simp [*]; done)) : p := h
theorem z8_8 {p : Prop} (h : p := by repeat (first | (with_reducible first | exact HB.out | apply below_alloc | apply pw_below_drewN | apply below_drew1 | refine below_set ?_ GE240.out | refine below_set ?_ GE241.out) | exact HB.out)) : p := h
theorem z8_9 {p : Prop} (h : p := by first | rfl | (simp [errW_none, errW_some] <;> rfl) | (simp [*, errW_none, errW_some] <;> rfl)) : p := h
theorem z8_10 {p : Prop} (h : p := by repeat (first | exact Drawn0.refl _ | apply Drawn0.step)) : p := h
theorem z8_11 {p : Prop} (h : p := by rw [hg]; exact Nat.ne_of_lt (blk_lt (g := gb240) (o := .cells #[.int .i64 a0_0, .int .i64 a0_1, .int .i64 a0_2] 122 (0, 0)) z8_5)) : p := h
theorem z8_12 {p : Prop} (h : p := by rw [hg]; exact Nat.ne_of_gt (blk_lt (g := gb240) (o := .cells #[.int .i64 a0_0, .int .i64 a0_1, .int .i64 a0_2] 122 (0, 0)) z8_5)) : p := h
theorem z8_13 {p : Prop} (h : p := by rw [hg]; exact (below_size z8_1)) : p := h
theorem z8_14 {p : Prop} (h : p := by rw [hg]; exact (below_size z8_3)) : p := h
theorem z8_15 {p : Prop} (h : p := by (try simp only [List.map_toArray, List.map_cons, List.map_nil]); first | done | rfl | (simp only [List.length_drop, List.length_take]; rfl)) : p := h
attribute [local go_sem] max2_int min2_int max_two min_two max_three min_three max_four min_four   -- for this text's walks alone
set_option linter.unusedVariables false
set_option linter.unusedSimpArgs false

/-! ### impl_PiecesValid: function 47 -/
mutual
def impl_PiecesValid.j0 : Nat → List (S119) → Int → Bool → Option (Bool)
 | 0, _, _, _ => none
 | k + 1, x0, x1, x19 => if x19 = true then (some false) else (impl_PiecesValid.l0 k x0 x1 0 x0 (x0.length : Int) 0)
def impl_PiecesValid.l0 : Nat → List (S119) → Int → Int → List (S119) → Int → Int → Option (Bool)
 | 0, _, _, _, _, _, _ => none
 | k + 1, x0, x1, x5, x20, x21, x22 => if x22 < x21 then (if 0 ≤ x22 then (if x22 < (x20.length : Int) then ((impl_Piece_fits.f k ((rd_T119 x20 x22).f0) ((rd_T119 x20 x22).f1) ((rd_T119 x20 x22).f2) ((rd_T119 x20 x22).f3) ((rd_T119 x20 x22).f4) x1 (x0.length : Int) x22).bind fun t235 => (if t235 = true then (impl_PiecesValid.l0 k x0 x1 (wrap64 (x5 + (((rd_T119 x20 x22).f4).length : Int))) x20 x21 (wrap64 (x22 + 1))) else (some false))) else (none)) else (none)) else (some (decide (x5 ≤ 2000)))
end
def impl_PiecesValid.f (k : Nat) (l0 : List (S119)) (a1 : Int) : Option (Bool) := if a1 < 0 then (impl_PiecesValid.j0 k l0 a1 true) else (if a1 > 16 then (impl_PiecesValid.j0 k l0 a1 true) else ((impl_workersFit.f (l0.length : Int)).bind fun t232 => (impl_PiecesValid.j0 k l0 a1 (!t232))))
theorem impl_PiecesValid.mono_l : ∀ k, (∀ y0 y1 y2, LeO (impl_PiecesValid.j0 k y0 y1 y2) (impl_PiecesValid.j0 (k + 1) y0 y1 y2)) ∧ (∀ y0 y1 y2 y3 y4 y5, LeO (impl_PiecesValid.l0 k y0 y1 y2 y3 y4 y5) (impl_PiecesValid.l0 (k + 1) y0 y1 y2 y3 y4 y5))
 | 0 => ⟨fun _ _ _ r h => by simp [impl_PiecesValid.j0] at h, fun _ _ _ _ _ _ r h => by simp [impl_PiecesValid.l0] at h⟩
 | k + 1 => by
  obtain ⟨ih0, ih1⟩ := impl_PiecesValid.mono_l k
  refine ⟨?_, ?_⟩
  ·intro y0 y1 y2
   unfold impl_PiecesValid.j0
   repeat' first
   | (with_reducible exact ih0 _ _ _)
   | (with_reducible exact ih1 _ _ _ _ _ _)
   | (with_reducible exact impl_Piece_fits.mono _ _ _ _ _ _ _ _ _)
   | (with_reducible exact LeO.refl _)
   | (with_reducible exact LeO.none _)
   | (with_reducible refine LeO.ite ?_ ?_)
   | (with_reducible refine LeO.bind ?_ (fun _ => ?_))
   | exact ih0 _ _ _
   | exact ih1 _ _ _ _ _ _
   | exact impl_Piece_fits.mono _ _ _ _ _ _ _ _ _
   | exact LeO.none _
   | refine LeO.ite ?_ ?_
   | refine LeO.bind ?_ (fun _ => ?_)
  ·intro y0 y1 y2 y3 y4 y5
   unfold impl_PiecesValid.l0
   repeat' first
   | (with_reducible exact ih0 _ _ _)
   | (with_reducible exact ih1 _ _ _ _ _ _)
   | (with_reducible exact impl_Piece_fits.mono _ _ _ _ _ _ _ _ _)
   | (with_reducible exact LeO.refl _)
   | (with_reducible exact LeO.none _)
   | (with_reducible refine LeO.ite ?_ ?_)
   | (with_reducible refine LeO.bind ?_ (fun _ => ?_))
   | exact ih0 _ _ _
   | exact ih1 _ _ _ _ _ _
   | exact impl_Piece_fits.mono _ _ _ _ _ _ _ _ _
   | exact LeO.none _
   | refine LeO.ite ?_ ?_
   | refine LeO.bind ?_ (fun _ => ?_)
theorem impl_PiecesValid.mono : ∀ a0 a1 k, LeO (impl_PiecesValid.f k a0 a1) (impl_PiecesValid.f (k + 1) a0 a1) := by
 intro a0 a1 k
 obtain ⟨ih0, ih1⟩ := impl_PiecesValid.mono_l k
 unfold impl_PiecesValid.f
 repeat' first
   | (with_reducible exact ih0 _ _ _)
   | (with_reducible exact ih1 _ _ _ _ _ _)
   | (with_reducible exact impl_Piece_fits.mono _ _ _ _ _ _ _ _ _)
   | (with_reducible exact LeO.refl _)
   | (with_reducible exact LeO.none _)
   | (with_reducible refine LeO.ite ?_ ?_)
   | (with_reducible refine LeO.bind ?_ (fun _ => ?_))
   | exact ih0 _ _ _
   | exact ih1 _ _ _ _ _ _
   | exact impl_Piece_fits.mono _ _ _ _ _ _ _ _ _
   | exact LeO.none _
   | refine LeO.ite ?_ ?_
   | refine LeO.bind ?_ (fun _ => ?_)
set_option maxHeartbeats 8000000 in
set_option maxRecDepth 100000 in
theorem impl_PiecesValid.calls (k : Nat) (A0 : Option Addr) (c0 : Nat) (l0 : List (S119)) (a1 : Int) (r : Bool) (w : World) (hr0 : Kd.C k119 w A0 l0.length l0) (hc0 : l0.length ≤ c0) (h : impl_PiecesValid.f k l0 a1 = some r) :
  Calls Try.prog 47 #[.slice A0 l0.length c0, .int .i64 a1] w fun e w' => e = .returned (.bool r) ∧ Below w.heap.size w w' := by
 have hu119 := Try.underlying119
 have HR0 := Aside0.mk hr0
 have HC0 := Aside0.mk hc0
 clear hr0 hc0
 have HB := Aside0.mk (Below.refl w.heap.size w)
 have H : (if a1 < 0 then (impl_PiecesValid.j0 k l0 a1 true) else (if a1 > 16 then (impl_PiecesValid.j0 k l0 a1 true) else ((impl_workersFit.f (l0.length : Int)).bind fun t232 => (impl_PiecesValid.j0 k l0 a1 (!t232))))) = some r := h
 clear h
 have HC3 := Aside0.mk H
 clear H
 go_enter Try.func47, Try.ntmps47
 go_upto_region 1 with (fail)
 go_cut [19] (fun v19 wc => ∃ (kq : Nat) (x19_2 : Bool), v19 = .bool x19_2 ∧ Aside0 (impl_PiecesValid.j0 kq l0 a1 x19_2 = some r) ∧ Aside0 (kq ≤ k) ∧ Aside0 (Below w.heap.size w wc))
 case first =>
  have H := HC3.out
  clear HC3
  by_cases c4 : a1 < 0
  ·rw [if_pos c4] at H
   have c4b0 : decide (a1 < 0) = true := decide_eq_true c4
   clear c4
   (first | rw [c4b0] | (simp only [i64_w, i32_w]; rw [c4b0]) | skip)
   have H' := Aside0.mk H
   clear H
   go_wp2
   go_meet
   case rel => exact ⟨_, (true), z8_7, H', ⟨by first | omega | exact Nat.le_refl _⟩, ⟨z8_1⟩⟩
  ·rw [if_neg c4] at H
   have c4b0 : decide (a1 < 0) = false := decide_eq_false c4
   clear c4
   (first | rw [c4b0] | (simp only [i64_w, i32_w]; rw [c4b0]) | skip)
   by_cases c5 : a1 > 16
   ·rw [if_pos c5] at H
    have c5b0 : decide (16 < a1) = true := decide_eq_true c5
    clear c5
    have H' := Aside0.mk H
    clear H
    go_wp2
    go_meet
    case rel => exact ⟨_, (true), z8_7, H', ⟨by first | omega | exact Nat.le_refl _⟩, ⟨z8_1⟩⟩
   ·rw [if_neg c5] at H
    have c5b0 : decide (16 < a1) = false := decide_eq_false c5
    clear c5
    replace H := Option.bind_eq_some_iff.mp H
    obtain ⟨t232, A60, H⟩ := H
    replace H : (impl_PiecesValid.j0 k l0 a1 (!t232)) = some r := H
    have A6 := Aside0.mk A60
    clear A60
    have H' := Aside0.mk H
    clear H
    go_wp2_with (first | (go_at_call 77; (with_reducible refine (impl_workersFit.calls (l0.length : Int) t232 _ A6.out).mono ?_); rintro e w' ⟨rfl, ⟨nd, rfl⟩⟩))
    go_meet
    case rel => exact ⟨_, (!t232), z8_7, H', ⟨by first | omega | exact Nat.le_refl _⟩, ⟨z8_1⟩⟩
 case rest =>
  clear HC3
  try clear p2
  try clear c4
  try clear c4b0
  try clear c5
  try clear c5b0
  obtain ⟨kq, x19_2, rfl, HA, HJ2, HB⟩ := hcut
  cases kq with
  | zero => exact absurd HA.out (by simp [impl_PiecesValid.j0])
  | succ kj2 =>
   have H := HA.out
   clear HA
   simp only [impl_PiecesValid.j0] at H
   by_cases c7 : x19_2 = true
   ·subst c7
    have H1 : (some false) = some r := by rw [if_pos rfl] at H; exact H
    clear H
    have H := H1
    clear H1
    obtain rfl := Option.some.inj H
    go_wp2
    go_ret
    exact ⟨z8_9, z8_1⟩
   ·replace c7 := Bool.eq_false_iff.mpr c7
    subst c7
    have H1 : (impl_PiecesValid.l0 kj2 l0 a1 0 l0 (l0.length : Int) 0) = some r := by rw [if_neg (show ¬ (false = true) by decide)] at H; exact H
    clear H
    have H := H1
    clear H1
    have H' := Aside0.mk H
    clear H
    go_wp2
    go_loopg [5, 22] kj2 (fun kq v5 v22 w' => ∃ (x5_2 : Int) (x22_2 : Int), v5 = .int .i64 x5_2 ∧ v22 = .int .i64 x22_2 ∧ Aside0 (impl_PiecesValid.l0 kq l0 a1 x5_2 l0 (l0.length : Int) x22_2 = some r) ∧ Aside0 (kq ≤ kj2) ∧ Aside0 (Below w.heap.size w w'))
    case atStart => exact ⟨(0), (0), z8_7, z8_7, H', ⟨Nat.le_refl _⟩, ⟨z8_1⟩⟩
    case round =>
     clear H'
     try clear p2
     try clear c4
     try clear c4b0
     try clear c5
     try clear c5b0
     try clear c7
     try clear p2
     obtain ⟨x5_2, x22_2, rfl, rfl, HA, HK2, HB⟩ := hrel
     cases gk with
     | zero => exact absurd HA.out (by simp [impl_PiecesValid.l0])
     | succ k2 =>
      have H := HA.out
      clear HA
      simp only [impl_PiecesValid.l0] at H
      by_cases c8 : x22_2 < (l0.length : Int)
      ·rw [if_pos c8] at H
       have c8b0 : decide (x22_2 < (l0.length : Int)) = true := decide_eq_true c8
       clear c8
       by_cases c9 : 0 ≤ x22_2
       ·rw [if_pos c9] at H
        have c9b0 : decide (0 ≤ x22_2) = true := decide_eq_true c9
        clear c9
        by_cases c10 : x22_2 < (l0.length : Int)
        ·rw [if_pos c10] at H
         have c10b0 : decide (x22_2 < (l0.length : Int)) = true := decide_eq_true c10
         clear c10
         replace H := Option.bind_eq_some_iff.mp H
         obtain ⟨t235, A110, H⟩ := H
         replace H : (if t235 = true then (impl_PiecesValid.l0 k2 l0 a1 (wrap64 (x5_2 + (((rd_T119 l0 x22_2).f4).length : Int))) l0 (l0.length : Int) (wrap64 (x22_2 + 1))) else (some false)) = some r := H
         have A11 := Aside0.mk A110
         clear A110
         by_cases c12 : t235 = true
         ·subst c12
          have H1 : (impl_PiecesValid.l0 k2 l0 a1 (wrap64 (x5_2 + (((rd_T119 l0 x22_2).f4).length : Int))) l0 (l0.length : Int) (wrap64 (x22_2 + 1))) = some r := by rw [if_pos rfl] at H; exact H
          clear H
          have H := H1
          clear H1
          have H' := Aside0.mk H
          clear H
          have p233 : 0 ≤ (x22_2 : Int) := of_decide_eq_true z8_6
          have q233 : x22_2 < (l0.length : Int) := of_decide_eq_true z8_6
          obtain ⟨ad233, A233_1, c233_1, A233_2, c233_2, A233_3, c233_3, A233_4, c233_4, e233, hx233_0, hx233_1, hx233_2, hx233_3, hx233_4, hl233_1, hi233_1, hl233_2, hi233_2, hl233_3, hi233_3, hl233_4, hi233_4⟩ := at_T119 HR0.out x22_2 p233 q233
          cases e233
          replace hx233_0 := (HB.out.cell (World.block_lt_of_cell? w _ hx233_0)).trans hx233_0
          replace hx233_1 := (HB.out.cell (World.block_lt_of_cell? w _ hx233_1)).trans hx233_1
          replace hx233_2 := (HB.out.cell (World.block_lt_of_cell? w _ hx233_2)).trans hx233_2
          replace hx233_3 := (HB.out.cell (World.block_lt_of_cell? w _ hx233_3)).trans hx233_3
          replace hx233_4 := (HB.out.cell (World.block_lt_of_cell? w _ hx233_4)).trans hx233_4
          have HR233_1 := Aside0.mk hi233_1
          have HC233_1 := Aside0.mk hl233_1
          clear hi233_1 hl233_1
          have HR233_2 := Aside0.mk hi233_2
          have HC233_2 := Aside0.mk hl233_2
          clear hi233_2 hl233_2
          have HR233_3 := Aside0.mk hi233_3
          have HC233_3 := Aside0.mk hl233_3
          clear hi233_3 hl233_3
          have HR233_4 := Aside0.mk hi233_4
          have HC233_4 := Aside0.mk hl233_4
          clear hi233_4 hl233_4
          replace p233 := eq_true p233
          replace q233 := eq_true q233
          go_wp2_with (first | ((with_reducible refine gate_dst (N := 7) rfl ?_); (try (refine gate_guard (by rfl) ?_; dsimp only)); refine box_event ?hg (N := 7) ?hd (cs := #[.int .i64 0, .slice none 0 0, .slice none 0 0, .slice none 0 0, .slice none 0 0]) (t := 119) ?hr ?_; (case hd => rfl); (case hg => rfl); (case hr => exact z8_0); intro gb234 hg w13 hbox hb; have n0_ := Aside0.mk (below_step z8_1 hb); have n1_ := Aside0.mk (hbox); have n2_ := Aside0.mk ((z8_13 : w.heap.size ≤ gb234)); have n3_ := Aside0.mk ((z8_13 : w.heap.size ≤ gb234)); clear HB; have HB := n0_; have BK234 := n1_; have GW234 := n2_; have GE234 := n3_; clear n0_ n1_ n2_ n3_; clear hb hbox hg; have hcz14_0 : w13.cell? ⟨gb234, 0, none⟩ = some (.int .i64 0) := (blk_cell BK234.out 0).trans rfl; have hcz14_1 : w13.cell? ⟨gb234, 1, none⟩ = some (.slice none 0 0) := (blk_cell BK234.out 1).trans rfl; have hcz14_2 : w13.cell? ⟨gb234, 2, none⟩ = some (.slice none 0 0) := (blk_cell BK234.out 2).trans rfl; have hcz14_3 : w13.cell? ⟨gb234, 3, none⟩ = some (.slice none 0 0) := (blk_cell BK234.out 3).trans rfl; have hcz14_4 : w13.cell? ⟨gb234, 4, none⟩ = some (.slice none 0 0) := (blk_cell BK234.out 4).trans rfl; have hfz14_0 := blk_frozen BK234.out 0; have hfz14_1 := blk_frozen BK234.out 1; have hfz14_2 := blk_frozen BK234.out 2; have hfz14_3 := blk_frozen BK234.out 3; have hfz14_4 := blk_frozen BK234.out 4) | ((with_reducible refine gate_callee (f := 103) rfl ?_); refine goesL_ (some 32) rfl rfl Try.func103 (by kernel_rfl) rfl #[.agg #[.int .i64 ((rd_T119 l0 x22_2).f0), .slice A233_1 ((rd_T119 l0 x22_2).f1).length c233_1, .slice A233_2 ((rd_T119 l0 x22_2).f2).length c233_2, .slice A233_3 ((rd_T119 l0 x22_2).f3).length c233_3, .slice A233_4 ((rd_T119 l0 x22_2).f4).length c233_4], .int .i64 a1, .int .i64 (l0.length : Int), .int .i64 x22_2] rfl z8_15 ?_; (with_reducible refine (impl_Piece_fits.calls k2 ((rd_T119 l0 x22_2).f0) _ _ ((rd_T119 l0 x22_2).f1) _ _ ((rd_T119 l0 x22_2).f2) _ _ ((rd_T119 l0 x22_2).f3) _ _ ((rd_T119 l0 x22_2).f4) a1 (l0.length : Int) x22_2 true _ ?side1 ?side2 ?side3 ?side4 ?side5 ?side6 ?side7 ?side8 A11.out).mono ?_); (case side1 => exact Kd.C_below HR233_1.out z8_2); (case side2 => exact HC233_1.out); (case side3 => exact Kd.C_below HR233_2.out z8_2); (case side4 => exact HC233_2.out); (case side5 => exact Kd.C_below HR233_3.out z8_2); (case side6 => exact HC233_3.out); (case side7 => exact Kd.C_below HR233_4.out z8_2); (case side8 => exact HC233_4.out); rintro e w15 ⟨rfl, hb⟩; refine ⟨_, rfl, ?_⟩; have n0_ := Aside0.mk (blk_below (g := gb234) (o := .cells #[.int .i64 ((rd_T119 l0 x22_2).f0), .slice A233_1 ((rd_T119 l0 x22_2).f1).length c233_1, .slice A233_2 ((rd_T119 l0 x22_2).f2).length c233_2, .slice A233_3 ((rd_T119 l0 x22_2).f3).length c233_3, .slice A233_4 ((rd_T119 l0 x22_2).f4).length c233_4] 119 (0, 0)) z8_4 hb); have n1_ := Aside0.mk (below_step z8_2 hb); clear BK234; clear HB; have BK234 := n0_; have HB := n1_; clear n0_ n1_; (try clear hb); (try clear hb2); (try clear hk); (try clear hi); have hcz16_0 : w15.cell? ⟨gb234, 0, none⟩ = some (.int .i64 ((rd_T119 l0 x22_2).f0)) := (blk_cell BK234.out 0).trans rfl; have hcz16_1 : w15.cell? ⟨gb234, 1, none⟩ = some (.slice A233_1 ((rd_T119 l0 x22_2).f1).length c233_1) := (blk_cell BK234.out 1).trans rfl; have hcz16_2 : w15.cell? ⟨gb234, 2, none⟩ = some (.slice A233_2 ((rd_T119 l0 x22_2).f2).length c233_2) := (blk_cell BK234.out 2).trans rfl; have hcz16_3 : w15.cell? ⟨gb234, 3, none⟩ = some (.slice A233_3 ((rd_T119 l0 x22_2).f3).length c233_3) := (blk_cell BK234.out 3).trans rfl; have hcz16_4 : w15.cell? ⟨gb234, 4, none⟩ = some (.slice A233_4 ((rd_T119 l0 x22_2).f4).length c233_4) := (blk_cell BK234.out 4).trans rfl; have hfz16_0 := blk_frozen BK234.out 0; have hfz16_1 := blk_frozen BK234.out 1; have hfz16_2 := blk_frozen BK234.out 2; have hfz16_3 := blk_frozen BK234.out 3; have hfz16_4 := blk_frozen BK234.out 4))
          go_roundg k2
          case measure => have := HJ2.out; have := HK2.out; omega
          case rel => exact ⟨(wrap64 (x5_2 + (((rd_T119 l0 x22_2).f4).length : Int))), (wrap64 (x22_2 + 1)), z8_7, z8_7, H', ⟨by have := HJ2.out; have := HK2.out; omega⟩, ⟨z8_2⟩⟩
         ·replace c12 := Bool.eq_false_iff.mpr c12
          subst c12
          have H1 : (some false) = some r := by rw [if_neg (show ¬ (false = true) by decide)] at H; exact H
          clear H
          have H := H1
          clear H1
          obtain rfl := Option.some.inj H
          have p233 : 0 ≤ (x22_2 : Int) := of_decide_eq_true z8_6
          have q233 : x22_2 < (l0.length : Int) := of_decide_eq_true z8_6
          obtain ⟨ad233, A233_1, c233_1, A233_2, c233_2, A233_3, c233_3, A233_4, c233_4, e233, hx233_0, hx233_1, hx233_2, hx233_3, hx233_4, hl233_1, hi233_1, hl233_2, hi233_2, hl233_3, hi233_3, hl233_4, hi233_4⟩ := at_T119 HR0.out x22_2 p233 q233
          cases e233
          replace hx233_0 := (HB.out.cell (World.block_lt_of_cell? w _ hx233_0)).trans hx233_0
          replace hx233_1 := (HB.out.cell (World.block_lt_of_cell? w _ hx233_1)).trans hx233_1
          replace hx233_2 := (HB.out.cell (World.block_lt_of_cell? w _ hx233_2)).trans hx233_2
          replace hx233_3 := (HB.out.cell (World.block_lt_of_cell? w _ hx233_3)).trans hx233_3
          replace hx233_4 := (HB.out.cell (World.block_lt_of_cell? w _ hx233_4)).trans hx233_4
          have HR233_1 := Aside0.mk hi233_1
          have HC233_1 := Aside0.mk hl233_1
          clear hi233_1 hl233_1
          have HR233_2 := Aside0.mk hi233_2
          have HC233_2 := Aside0.mk hl233_2
          clear hi233_2 hl233_2
          have HR233_3 := Aside0.mk hi233_3
          have HC233_3 := Aside0.mk hl233_3
          clear hi233_3 hl233_3
          have HR233_4 := Aside0.mk hi233_4
          have HC233_4 := Aside0.mk hl233_4
          clear hi233_4 hl233_4
          replace p233 := eq_true p233
          replace q233 := eq_true q233
          go_wp2_with (first | ((with_reducible refine gate_dst (N := 7) rfl ?_); (try (refine gate_guard (by rfl) ?_; dsimp only)); refine box_event ?hg (N := 7) ?hd (cs := #[.int .i64 0, .slice none 0 0, .slice none 0 0, .slice none 0 0, .slice none 0 0]) (t := 119) ?hr ?_; (case hd => rfl); (case hg => rfl); (case hr => exact z8_0); intro gb234 hg w17 hbox hb; have n0_ := Aside0.mk (below_step z8_1 hb); have n1_ := Aside0.mk (hbox); have n2_ := Aside0.mk ((z8_13 : w.heap.size ≤ gb234)); have n3_ := Aside0.mk ((z8_13 : w.heap.size ≤ gb234)); clear HB; have HB := n0_; have BK234 := n1_; have GW234 := n2_; have GE234 := n3_; clear n0_ n1_ n2_ n3_; clear hb hbox hg; have hcz18_0 : w17.cell? ⟨gb234, 0, none⟩ = some (.int .i64 0) := (blk_cell BK234.out 0).trans rfl; have hcz18_1 : w17.cell? ⟨gb234, 1, none⟩ = some (.slice none 0 0) := (blk_cell BK234.out 1).trans rfl; have hcz18_2 : w17.cell? ⟨gb234, 2, none⟩ = some (.slice none 0 0) := (blk_cell BK234.out 2).trans rfl; have hcz18_3 : w17.cell? ⟨gb234, 3, none⟩ = some (.slice none 0 0) := (blk_cell BK234.out 3).trans rfl; have hcz18_4 : w17.cell? ⟨gb234, 4, none⟩ = some (.slice none 0 0) := (blk_cell BK234.out 4).trans rfl; have hfz18_0 := blk_frozen BK234.out 0; have hfz18_1 := blk_frozen BK234.out 1; have hfz18_2 := blk_frozen BK234.out 2; have hfz18_3 := blk_frozen BK234.out 3; have hfz18_4 := blk_frozen BK234.out 4) | ((with_reducible refine gate_callee (f := 103) rfl ?_); refine goesL_ (some 32) rfl rfl Try.func103 (by kernel_rfl) rfl #[.agg #[.int .i64 ((rd_T119 l0 x22_2).f0), .slice A233_1 ((rd_T119 l0 x22_2).f1).length c233_1, .slice A233_2 ((rd_T119 l0 x22_2).f2).length c233_2, .slice A233_3 ((rd_T119 l0 x22_2).f3).length c233_3, .slice A233_4 ((rd_T119 l0 x22_2).f4).length c233_4], .int .i64 a1, .int .i64 (l0.length : Int), .int .i64 x22_2] rfl z8_15 ?_; (with_reducible refine (impl_Piece_fits.calls k2 ((rd_T119 l0 x22_2).f0) _ _ ((rd_T119 l0 x22_2).f1) _ _ ((rd_T119 l0 x22_2).f2) _ _ ((rd_T119 l0 x22_2).f3) _ _ ((rd_T119 l0 x22_2).f4) a1 (l0.length : Int) x22_2 false _ ?side1 ?side2 ?side3 ?side4 ?side5 ?side6 ?side7 ?side8 A11.out).mono ?_); (case side1 => exact Kd.C_below HR233_1.out z8_2); (case side2 => exact HC233_1.out); (case side3 => exact Kd.C_below HR233_2.out z8_2); (case side4 => exact HC233_2.out); (case side5 => exact Kd.C_below HR233_3.out z8_2); (case side6 => exact HC233_3.out); (case side7 => exact Kd.C_below HR233_4.out z8_2); (case side8 => exact HC233_4.out); rintro e w19 ⟨rfl, hb⟩; refine ⟨_, rfl, ?_⟩; have n0_ := Aside0.mk (blk_below (g := gb234) (o := .cells #[.int .i64 ((rd_T119 l0 x22_2).f0), .slice A233_1 ((rd_T119 l0 x22_2).f1).length c233_1, .slice A233_2 ((rd_T119 l0 x22_2).f2).length c233_2, .slice A233_3 ((rd_T119 l0 x22_2).f3).length c233_3, .slice A233_4 ((rd_T119 l0 x22_2).f4).length c233_4] 119 (0, 0)) z8_4 hb); have n1_ := Aside0.mk (below_step z8_2 hb); clear BK234; clear HB; have BK234 := n0_; have HB := n1_; clear n0_ n1_; (try clear hb); (try clear hb2); (try clear hk); (try clear hi)))
          go_ret
          exact ⟨z8_9, z8_2⟩
        ·rw [if_neg c10] at H
         exact absurd H (by simp)
       ·rw [if_neg c9] at H
        exact absurd H (by simp)
      ·rw [if_neg c8] at H
       have c8b0 : decide (x22_2 < (l0.length : Int)) = false := decide_eq_false c8
       clear c8
       obtain rfl := Option.some.inj H
       go_wp2
       go_ret
       exact ⟨z8_9, z8_1⟩

/-! ### laws_eqIntS: function 19 -/
def laws_eqIntS.l0 : Nat → List Int → List Int → Int → Option (Bool)
 | 0, _, _, _ => none
 | k + 1, x0, x1, x5 => if x5 < (x0.length : Int) then (if 0 ≤ x5 then (if x5 < (x1.length : Int) then (if (rd x0 x5) = (rd x1 x5) then (laws_eqIntS.l0 k x0 x1 (wrap64 (x5 + 1))) else (some false)) else (none)) else (none)) else (some true)
def laws_eqIntS.f (k : Nat) (l0 : List Int) (l1 : List Int) : Option (Bool) := if (l0.length : Int) = (l1.length : Int) then (laws_eqIntS.l0 k l0 l1 0) else (some false)
theorem laws_eqIntS.mono_l : ∀ k, (∀ y0 y1 y2, LeO (laws_eqIntS.l0 k y0 y1 y2) (laws_eqIntS.l0 (k + 1) y0 y1 y2))
 | 0 => fun _ _ _ r h => by simp [laws_eqIntS.l0] at h
 | k + 1 => by
  have ih0 := laws_eqIntS.mono_l k
  ·intro y0 y1 y2
   unfold laws_eqIntS.l0
   repeat' first
   | (with_reducible exact ih0 _ _ _)
   | (with_reducible exact LeO.refl _)
   | (with_reducible exact LeO.none _)
   | (with_reducible refine LeO.ite ?_ ?_)
   | (with_reducible refine LeO.bind ?_ (fun _ => ?_))
   | exact ih0 _ _ _
   | exact LeO.none _
   | refine LeO.ite ?_ ?_
   | refine LeO.bind ?_ (fun _ => ?_)
theorem laws_eqIntS.mono : ∀ a0 a1 k, LeO (laws_eqIntS.f k a0 a1) (laws_eqIntS.f (k + 1) a0 a1) := by
 intro a0 a1 k
 have ih0 := laws_eqIntS.mono_l k
 unfold laws_eqIntS.f
 repeat' first
   | (with_reducible exact ih0 _ _ _)
   | (with_reducible exact LeO.refl _)
   | (with_reducible exact LeO.none _)
   | (with_reducible refine LeO.ite ?_ ?_)
   | (with_reducible refine LeO.bind ?_ (fun _ => ?_))
   | exact ih0 _ _ _
   | exact LeO.none _
   | refine LeO.ite ?_ ?_
   | refine LeO.bind ?_ (fun _ => ?_)
set_option maxHeartbeats 8000000 in
set_option maxRecDepth 100000 in
theorem laws_eqIntS.calls (k : Nat) (A0 : Option Addr) (c0 : Nat) (l0 : List Int) (A1 : Option Addr) (c1 : Nat) (l1 : List Int) (r : Bool) (w : World) (hr0 : Kd.C (Kd.int .i64) w A0 l0.length l0) (hc0 : l0.length ≤ c0) (hr1 : Kd.C (Kd.int .i64) w A1 l1.length l1) (hc1 : l1.length ≤ c1) (h : laws_eqIntS.f k l0 l1 = some r) :
  Calls Try.prog 19 #[.slice A0 l0.length c0, .slice A1 l1.length c1] w fun e w' => e = .returned (.bool r) ∧ Drawn0 w w' := by
 have HR0 := Aside0.mk hr0
 have HC0 := Aside0.mk hc0
 clear hr0 hc0
 have HR1 := Aside0.mk hr1
 have HC1 := Aside0.mk hc1
 clear hr1 hc1
 have H : (if (l0.length : Int) = (l1.length : Int) then (laws_eqIntS.l0 k l0 l1 0) else (some false)) = some r := h
 clear h
 by_cases c3 : (l0.length : Int) = (l1.length : Int)
 ·rw [if_pos c3] at H
  have c3b0 : ((l0.length : Int) == (l1.length : Int)) = true := beq_iff_eq.mpr c3
  have c3b1 : ((l0.length : Int) != (l1.length : Int)) = false := bne_eq_false_iff_eq.mpr c3
  have c3b2 : (l0.length == l1.length) = true := by first | simpa using c3 | (simp at c3 ⊢; omega)
  clear c3
  have H' := Aside0.mk H
  clear H
  go_enter Try.func19, Try.ntmps19
  go_wp2
  repeat (go_quiet (fail); try go_wp2)
  go_loopg [5] k (fun kq v5 w' => ∃ (x5_1 : Int), v5 = .int .i64 x5_1 ∧ Aside0 (laws_eqIntS.l0 kq l0 l1 x5_1 = some r) ∧ Aside0 (kq ≤ k) ∧ Drawn0 w w')
  case atStart => exact ⟨(0), z8_7, H', ⟨Nat.le_refl _⟩, z8_10⟩
  case round =>
   clear H'
   try clear c1
   try clear p2
   try clear c3
   try clear c3b0
   try clear c3b1
   try clear c3b2
   obtain ⟨x5_1, rfl, HA, HK1, ⟨m1, rfl⟩⟩ := hrel
   cases gk with
   | zero => exact absurd HA.out (by simp [laws_eqIntS.l0])
   | succ k1 =>
    have H := HA.out
    clear HA
    simp only [laws_eqIntS.l0] at H
    by_cases c4 : x5_1 < (l0.length : Int)
    ·rw [if_pos c4] at H
     have c4b0 : decide (x5_1 < (l0.length : Int)) = true := decide_eq_true c4
     clear c4
     by_cases c5 : 0 ≤ x5_1
     ·rw [if_pos c5] at H
      have c5b0 : decide (0 ≤ x5_1) = true := decide_eq_true c5
      clear c5
      by_cases c6 : x5_1 < (l1.length : Int)
      ·rw [if_pos c6] at H
       have c6b0 : decide (x5_1 < (l1.length : Int)) = true := decide_eq_true c6
       clear c6
       by_cases c7 : (rd l0 x5_1) = (rd l1 x5_1)
       ·rw [if_pos c7] at H
        have c7b0 : ((rd l0 x5_1) == (rd l1 x5_1)) = true := beq_iff_eq.mpr c7
        have c7b1 : ((rd l0 x5_1) != (rd l1 x5_1)) = false := bne_eq_false_iff_eq.mpr c7
        clear c7
        have H' := Aside0.mk H
        clear H
        have p236 : 0 ≤ (x5_1 : Int) := of_decide_eq_true z8_6
        have q236 : x5_1 < (l0.length : Int) := of_decide_eq_true z8_6
        obtain ⟨ad236, e236, hx236_0⟩ := Kd.at_int HR0.out x5_1 p236 q236
        cases e236
        replace p236 := eq_true p236
        replace q236 := eq_true q236
        have p237 : 0 ≤ (x5_1 : Int) := of_decide_eq_true z8_6
        have q237 : x5_1 < (l1.length : Int) := of_decide_eq_true z8_6
        obtain ⟨ad237, e237, hx237_0⟩ := Kd.at_int HR1.out x5_1 p237 q237
        cases e237
        replace p237 := eq_true p237
        replace q237 := eq_true q237
        go_wp2
        repeat (go_quiet (fail); try go_wp2)
        go_roundg k1
        case measure => have := HK1.out; omega
        case rel => exact ⟨(wrap64 (x5_1 + 1)), z8_7, H', ⟨by have := HK1.out; omega⟩, z8_10⟩
       ·rw [if_neg c7] at H
        have c7b0 : ((rd l0 x5_1) == (rd l1 x5_1)) = false := beq_eq_false_iff_ne.mpr c7
        have c7b1 : ((rd l0 x5_1) != (rd l1 x5_1)) = true := bne_iff_ne.mpr c7
        obtain rfl := Option.some.inj H
        have p236 : 0 ≤ (x5_1 : Int) := of_decide_eq_true z8_6
        have q236 : x5_1 < (l0.length : Int) := of_decide_eq_true z8_6
        obtain ⟨ad236, e236, hx236_0⟩ := Kd.at_int HR0.out x5_1 p236 q236
        cases e236
        replace p236 := eq_true p236
        replace q236 := eq_true q236
        have p237 : 0 ≤ (x5_1 : Int) := of_decide_eq_true z8_6
        have q237 : x5_1 < (l1.length : Int) := of_decide_eq_true z8_6
        obtain ⟨ad237, e237, hx237_0⟩ := Kd.at_int HR1.out x5_1 p237 q237
        cases e237
        replace p237 := eq_true p237
        replace q237 := eq_true q237
        go_wp2
        repeat (go_quiet (fail); try go_wp2)
        go_ret
        exact ⟨z8_7, z8_10⟩
      ·rw [if_neg c6] at H
       exact absurd H (by simp)
     ·rw [if_neg c5] at H
      exact absurd H (by simp)
    ·rw [if_neg c4] at H
     have c4b0 : decide (x5_1 < (l0.length : Int)) = false := decide_eq_false c4
     clear c4
     obtain rfl := Option.some.inj H
     go_wp2
     repeat (go_quiet (fail); try go_wp2)
     go_ret
     exact ⟨z8_7, z8_10⟩
 ·rw [if_neg c3] at H
  have c3b0 : ((l0.length : Int) == (l1.length : Int)) = false := beq_eq_false_iff_ne.mpr c3
  have c3b1 : ((l0.length : Int) != (l1.length : Int)) = true := bne_iff_ne.mpr c3
  have c3b2 : (l0.length == l1.length) = false := by first | simpa using c3 | (simp at c3 ⊢; omega)
  obtain rfl := Option.some.inj H
  go_enter Try.func19, Try.ntmps19
  go_wp2
  repeat (go_quiet (fail); try go_wp2)
  go_ret
  exact ⟨z8_7, z8_10⟩

/-! ### laws_eqBoolS: function 96 -/
def laws_eqBoolS.l0 : Nat → List Bool → List Bool → Int → Option (Bool)
 | 0, _, _, _ => none
 | k + 1, x0, x1, x5 => if x5 < (x0.length : Int) then (if 0 ≤ x5 then (if x5 < (x1.length : Int) then (if ((rdOf false x0 x5) != (rdOf false x1 x5)) = true then (some false) else (laws_eqBoolS.l0 k x0 x1 (wrap64 (x5 + 1)))) else (none)) else (none)) else (some true)
def laws_eqBoolS.f (k : Nat) (l0 : List Bool) (l1 : List Bool) : Option (Bool) := if (l0.length : Int) = (l1.length : Int) then (laws_eqBoolS.l0 k l0 l1 0) else (some false)
theorem laws_eqBoolS.mono_l : ∀ k, (∀ y0 y1 y2, LeO (laws_eqBoolS.l0 k y0 y1 y2) (laws_eqBoolS.l0 (k + 1) y0 y1 y2))
 | 0 => fun _ _ _ r h => by simp [laws_eqBoolS.l0] at h
 | k + 1 => by
  have ih0 := laws_eqBoolS.mono_l k
  ·intro y0 y1 y2
   unfold laws_eqBoolS.l0
   repeat' first
   | (with_reducible exact ih0 _ _ _)
   | (with_reducible exact LeO.refl _)
   | (with_reducible exact LeO.none _)
   | (with_reducible refine LeO.ite ?_ ?_)
   | (with_reducible refine LeO.bind ?_ (fun _ => ?_))
   | exact ih0 _ _ _
   | exact LeO.none _
   | refine LeO.ite ?_ ?_
   | refine LeO.bind ?_ (fun _ => ?_)
theorem laws_eqBoolS.mono : ∀ a0 a1 k, LeO (laws_eqBoolS.f k a0 a1) (laws_eqBoolS.f (k + 1) a0 a1) := by
 intro a0 a1 k
 have ih0 := laws_eqBoolS.mono_l k
 unfold laws_eqBoolS.f
 repeat' first
   | (with_reducible exact ih0 _ _ _)
   | (with_reducible exact LeO.refl _)
   | (with_reducible exact LeO.none _)
   | (with_reducible refine LeO.ite ?_ ?_)
   | (with_reducible refine LeO.bind ?_ (fun _ => ?_))
   | exact ih0 _ _ _
   | exact LeO.none _
   | refine LeO.ite ?_ ?_
   | refine LeO.bind ?_ (fun _ => ?_)
set_option maxHeartbeats 8000000 in
set_option maxRecDepth 100000 in
theorem laws_eqBoolS.calls (k : Nat) (A0 : Option Addr) (c0 : Nat) (l0 : List Bool) (A1 : Option Addr) (c1 : Nat) (l1 : List Bool) (r : Bool) (w : World) (hr0 : Kd.C Kd.bool w A0 l0.length l0) (hc0 : l0.length ≤ c0) (hr1 : Kd.C Kd.bool w A1 l1.length l1) (hc1 : l1.length ≤ c1) (h : laws_eqBoolS.f k l0 l1 = some r) :
  Calls Try.prog 96 #[.slice A0 l0.length c0, .slice A1 l1.length c1] w fun e w' => e = .returned (.bool r) ∧ Drawn0 w w' := by
 have HR0 := Aside0.mk hr0
 have HC0 := Aside0.mk hc0
 clear hr0 hc0
 have HR1 := Aside0.mk hr1
 have HC1 := Aside0.mk hc1
 clear hr1 hc1
 have H : (if (l0.length : Int) = (l1.length : Int) then (laws_eqBoolS.l0 k l0 l1 0) else (some false)) = some r := h
 clear h
 by_cases c3 : (l0.length : Int) = (l1.length : Int)
 ·rw [if_pos c3] at H
  have c3b0 : ((l0.length : Int) == (l1.length : Int)) = true := beq_iff_eq.mpr c3
  have c3b1 : ((l0.length : Int) != (l1.length : Int)) = false := bne_eq_false_iff_eq.mpr c3
  have c3b2 : (l0.length == l1.length) = true := by first | simpa using c3 | (simp at c3 ⊢; omega)
  clear c3
  have H' := Aside0.mk H
  clear H
  go_enter Try.func96, Try.ntmps96
  go_wp2
  repeat (go_quiet (fail); try go_wp2)
  go_loopg [5] k (fun kq v5 w' => ∃ (x5_1 : Int), v5 = .int .i64 x5_1 ∧ Aside0 (laws_eqBoolS.l0 kq l0 l1 x5_1 = some r) ∧ Aside0 (kq ≤ k) ∧ Drawn0 w w')
  case atStart => exact ⟨(0), z8_7, H', ⟨Nat.le_refl _⟩, z8_10⟩
  case round =>
   clear H'
   try clear c1
   try clear p2
   try clear c3
   try clear c3b0
   try clear c3b1
   try clear c3b2
   obtain ⟨x5_1, rfl, HA, HK1, ⟨m1, rfl⟩⟩ := hrel
   cases gk with
   | zero => exact absurd HA.out (by simp [laws_eqBoolS.l0])
   | succ k1 =>
    have H := HA.out
    clear HA
    simp only [laws_eqBoolS.l0] at H
    by_cases c4 : x5_1 < (l0.length : Int)
    ·rw [if_pos c4] at H
     have c4b0 : decide (x5_1 < (l0.length : Int)) = true := decide_eq_true c4
     clear c4
     by_cases c5 : 0 ≤ x5_1
     ·rw [if_pos c5] at H
      have c5b0 : decide (0 ≤ x5_1) = true := decide_eq_true c5
      clear c5
      by_cases c6 : x5_1 < (l1.length : Int)
      ·rw [if_pos c6] at H
       have c6b0 : decide (x5_1 < (l1.length : Int)) = true := decide_eq_true c6
       clear c6
       by_cases c7 : ((rdOf false l0 x5_1) != (rdOf false l1 x5_1)) = true
       ·rw [if_pos c7] at H
        have c7b0 : ((rdOf false l0 x5_1) != (rdOf false l1 x5_1)) = true := c7
        (try (have c7b1 : decide ((rdOf false l0 x5_1) = (rdOf false l1 x5_1)) = false := by simpa using c7))
        (try (have c7b2 : ((rdOf false l0 x5_1) == (rdOf false l1 x5_1)) = false := by simpa using c7))
        (try (have c7b3 : ¬ ((rdOf false l0 x5_1) = (rdOf false l1 x5_1)) := by simpa using c7))
        clear c7
        obtain rfl := Option.some.inj H
        have p238 : 0 ≤ (x5_1 : Int) := of_decide_eq_true z8_6
        have q238 : x5_1 < (l0.length : Int) := of_decide_eq_true z8_6
        obtain ⟨ad238, e238, hx238_0⟩ := Kd.at_bool HR0.out x5_1 p238 q238
        cases e238
        replace p238 := eq_true p238
        replace q238 := eq_true q238
        have p239 : 0 ≤ (x5_1 : Int) := of_decide_eq_true z8_6
        have q239 : x5_1 < (l1.length : Int) := of_decide_eq_true z8_6
        obtain ⟨ad239, e239, hx239_0⟩ := Kd.at_bool HR1.out x5_1 p239 q239
        cases e239
        replace p239 := eq_true p239
        replace q239 := eq_true q239
        go_wp2
        repeat (go_quiet (fail); try go_wp2)
        go_ret
        exact ⟨z8_7, z8_10⟩
       ·rw [if_neg c7] at H
        have c7b0 : ((rdOf false l0 x5_1) != (rdOf false l1 x5_1)) = false := by simpa using c7
        (try (have c7b1 : decide ((rdOf false l0 x5_1) = (rdOf false l1 x5_1)) = true := by simpa using c7))
        (try (have c7b2 : ((rdOf false l0 x5_1) == (rdOf false l1 x5_1)) = true := by simpa using c7))
        clear c7
        have H' := Aside0.mk H
        clear H
        have p238 : 0 ≤ (x5_1 : Int) := of_decide_eq_true z8_6
        have q238 : x5_1 < (l0.length : Int) := of_decide_eq_true z8_6
        obtain ⟨ad238, e238, hx238_0⟩ := Kd.at_bool HR0.out x5_1 p238 q238
        cases e238
        replace p238 := eq_true p238
        replace q238 := eq_true q238
        have p239 : 0 ≤ (x5_1 : Int) := of_decide_eq_true z8_6
        have q239 : x5_1 < (l1.length : Int) := of_decide_eq_true z8_6
        obtain ⟨ad239, e239, hx239_0⟩ := Kd.at_bool HR1.out x5_1 p239 q239
        cases e239
        replace p239 := eq_true p239
        replace q239 := eq_true q239
        go_wp2
        repeat (go_quiet (fail); try go_wp2)
        go_roundg k1
        case measure => have := HK1.out; omega
        case rel => exact ⟨(wrap64 (x5_1 + 1)), z8_7, H', ⟨by have := HK1.out; omega⟩, z8_10⟩
      ·rw [if_neg c6] at H
       exact absurd H (by simp)
     ·rw [if_neg c5] at H
      exact absurd H (by simp)
    ·rw [if_neg c4] at H
     have c4b0 : decide (x5_1 < (l0.length : Int)) = false := decide_eq_false c4
     clear c4
     obtain rfl := Option.some.inj H
     go_wp2
     repeat (go_quiet (fail); try go_wp2)
     go_ret
     exact ⟨z8_7, z8_10⟩
 ·rw [if_neg c3] at H
  have c3b0 : ((l0.length : Int) == (l1.length : Int)) = false := beq_eq_false_iff_ne.mpr c3
  have c3b1 : ((l0.length : Int) != (l1.length : Int)) = true := bne_iff_ne.mpr c3
  have c3b2 : (l0.length == l1.length) = false := by first | simpa using c3 | (simp at c3 ⊢; omega)
  obtain rfl := Option.some.inj H
  go_enter Try.func96, Try.ntmps96
  go_wp2
  repeat (go_quiet (fail); try go_wp2)
  go_ret
  exact ⟨z8_7, z8_10⟩

/-! ### laws_eqMessage: function 130 -/
def laws_eqMessage.f (a0_0 : Int) (a0_1 : Int) (a0_2 : Int) (a1_0 : Int) (a1_1 : Int) (a1_2 : Int) : Option (Bool) := if a0_0 = a1_0 then (if a0_1 = a1_1 then (if a0_2 = a1_2 then (some true) else (some false)) else (some false)) else (some false)
set_option maxHeartbeats 8000000 in
set_option maxRecDepth 100000 in
theorem laws_eqMessage.calls (a0_0 : Int) (a0_1 : Int) (a0_2 : Int) (a1_0 : Int) (a1_1 : Int) (a1_2 : Int) (r : Bool) (w : World) (h : laws_eqMessage.f a0_0 a0_1 a0_2 a1_0 a1_1 a1_2 = some r) :
  Calls Try.prog 130 #[.agg #[.int .i64 a0_0, .int .i64 a0_1, .int .i64 a0_2], .agg #[.int .i64 a1_0, .int .i64 a1_1, .int .i64 a1_2]] w fun e w' => e = .returned (.bool r) ∧ Below w.heap.size w w' := by
 have hu122 := Try.underlying122
 have HB := Aside0.mk (Below.refl w.heap.size w)
 have H : (if a0_0 = a1_0 then (if a0_1 = a1_1 then (if a0_2 = a1_2 then (some true) else (some false)) else (some false)) else (some false)) = some r := h
 clear h
 by_cases c3 : a0_0 = a1_0
 ·rw [if_pos c3] at H
  have c3b0 : (a0_0 == a1_0) = true := beq_iff_eq.mpr c3
  have c3b1 : (a0_0 != a1_0) = false := bne_eq_false_iff_eq.mpr c3
  clear c3
  by_cases c4 : a0_1 = a1_1
  ·rw [if_pos c4] at H
   have c4b0 : (a0_1 == a1_1) = true := beq_iff_eq.mpr c4
   have c4b1 : (a0_1 != a1_1) = false := bne_eq_false_iff_eq.mpr c4
   clear c4
   by_cases c5 : a0_2 = a1_2
   ·rw [if_pos c5] at H
    have c5b0 : (a0_2 == a1_2) = true := beq_iff_eq.mpr c5
    have c5b1 : (a0_2 != a1_2) = false := bne_eq_false_iff_eq.mpr c5
    clear c5
    obtain rfl := Option.some.inj H
    go_enter Try.func130, Try.ntmps130
    go_wp2_with (first | ((with_reducible refine gate_dst (N := 2) rfl ?_); refine box_event ?hg (N := 2) ?hd (cs := #[.int .i64 a0_0, .int .i64 a0_1, .int .i64 a0_2]) (t := 122) ?hr ?_; (case hd => rfl); (case hg => rfl); (case hr => exact z8_0); intro gb240 hg w6 hbox hb; have n0_ := Aside0.mk (below_step z8_1 hb); have n1_ := Aside0.mk (hbox); have n2_ := Aside0.mk ((z8_13 : w.heap.size ≤ gb240)); have n3_ := Aside0.mk ((z8_13 : w.heap.size ≤ gb240)); clear HB; have HB := n0_; have BK240 := n1_; have GW240 := n2_; have GE240 := n3_; clear n0_ n1_ n2_ n3_; clear hb hbox hg) | ((with_reducible refine gate_dst (N := 3) rfl ?_); refine box_event ?hg (N := 3) ?hd (cs := #[.int .i64 a1_0, .int .i64 a1_1, .int .i64 a1_2]) (t := 122) ?hr ?_; (case hd => rfl); (case hg => rfl); (case hr => exact z8_0); intro gb241 hg w7 hbox hb; have n0_ := Aside0.mk (blk_below (g := gb240) (o := .cells #[.int .i64 a0_0, .int .i64 a0_1, .int .i64 a0_2] 122 (0, 0)) z8_5 hb); have n1_ := Aside0.mk (below_step z8_3 hb); have n2_ := Aside0.mk (hbox); have n3_ := Aside0.mk ((z8_14 : w.heap.size ≤ gb241)); have n4_ := Aside0.mk ((z8_14 : w.heap.size ≤ gb241)); have n5_ := Aside0.mk ((z8_11 : gb240 ≠ gb241)); have n6_ := Aside0.mk ((z8_12 : gb241 ≠ gb240)); clear BK240; clear HB; have BK240 := n0_; have HB := n1_; have BK241 := n2_; have GW241 := n3_; have GE241 := n4_; have NB240_241 := n5_; have NB241_240 := n6_; clear n0_ n1_ n2_ n3_ n4_ n5_ n6_; clear hb hbox hg; have hnb8 := NB240_241.out; have hnc8 := NB241_240.out; have hcz9_0 : w7.cell? ⟨gb240, 0, none⟩ = some (.int .i64 a0_0) := (blk_cell BK240.out 0).trans rfl; have hcz9_1 : w7.cell? ⟨gb240, 1, none⟩ = some (.int .i64 a0_1) := (blk_cell BK240.out 1).trans rfl; have hcz9_2 : w7.cell? ⟨gb240, 2, none⟩ = some (.int .i64 a0_2) := (blk_cell BK240.out 2).trans rfl; have hfz9_0 := blk_frozen BK240.out 0; have hfz9_1 := blk_frozen BK240.out 1; have hfz9_2 := blk_frozen BK240.out 2; have hcz10_0 : w7.cell? ⟨gb241, 0, none⟩ = some (.int .i64 a1_0) := (blk_cell BK241.out 0).trans rfl; have hcz10_1 : w7.cell? ⟨gb241, 1, none⟩ = some (.int .i64 a1_1) := (blk_cell BK241.out 1).trans rfl; have hcz10_2 : w7.cell? ⟨gb241, 2, none⟩ = some (.int .i64 a1_2) := (blk_cell BK241.out 2).trans rfl; have hfz10_0 := blk_frozen BK241.out 0; have hfz10_1 := blk_frozen BK241.out 1; have hfz10_2 := blk_frozen BK241.out 2))
    go_ret
    exact ⟨z8_9, z8_8⟩
   ·rw [if_neg c5] at H
    have c5b0 : (a0_2 == a1_2) = false := beq_eq_false_iff_ne.mpr c5
    have c5b1 : (a0_2 != a1_2) = true := bne_iff_ne.mpr c5
    obtain rfl := Option.some.inj H
    go_enter Try.func130, Try.ntmps130
    go_wp2_with (first | ((with_reducible refine gate_dst (N := 2) rfl ?_); refine box_event ?hg (N := 2) ?hd (cs := #[.int .i64 a0_0, .int .i64 a0_1, .int .i64 a0_2]) (t := 122) ?hr ?_; (case hd => rfl); (case hg => rfl); (case hr => exact z8_0); intro gb240 hg w11 hbox hb; have n0_ := Aside0.mk (below_step z8_1 hb); have n1_ := Aside0.mk (hbox); have n2_ := Aside0.mk ((z8_13 : w.heap.size ≤ gb240)); have n3_ := Aside0.mk ((z8_13 : w.heap.size ≤ gb240)); clear HB; have HB := n0_; have BK240 := n1_; have GW240 := n2_; have GE240 := n3_; clear n0_ n1_ n2_ n3_; clear hb hbox hg) | ((with_reducible refine gate_dst (N := 3) rfl ?_); refine box_event ?hg (N := 3) ?hd (cs := #[.int .i64 a1_0, .int .i64 a1_1, .int .i64 a1_2]) (t := 122) ?hr ?_; (case hd => rfl); (case hg => rfl); (case hr => exact z8_0); intro gb241 hg w12 hbox hb; have n0_ := Aside0.mk (blk_below (g := gb240) (o := .cells #[.int .i64 a0_0, .int .i64 a0_1, .int .i64 a0_2] 122 (0, 0)) z8_5 hb); have n1_ := Aside0.mk (below_step z8_3 hb); have n2_ := Aside0.mk (hbox); have n3_ := Aside0.mk ((z8_14 : w.heap.size ≤ gb241)); have n4_ := Aside0.mk ((z8_14 : w.heap.size ≤ gb241)); have n5_ := Aside0.mk ((z8_11 : gb240 ≠ gb241)); have n6_ := Aside0.mk ((z8_12 : gb241 ≠ gb240)); clear BK240; clear HB; have BK240 := n0_; have HB := n1_; have BK241 := n2_; have GW241 := n3_; have GE241 := n4_; have NB240_241 := n5_; have NB241_240 := n6_; clear n0_ n1_ n2_ n3_ n4_ n5_ n6_; clear hb hbox hg; have hnb13 := NB240_241.out; have hnc13 := NB241_240.out; have hcz14_0 : w12.cell? ⟨gb240, 0, none⟩ = some (.int .i64 a0_0) := (blk_cell BK240.out 0).trans rfl; have hcz14_1 : w12.cell? ⟨gb240, 1, none⟩ = some (.int .i64 a0_1) := (blk_cell BK240.out 1).trans rfl; have hcz14_2 : w12.cell? ⟨gb240, 2, none⟩ = some (.int .i64 a0_2) := (blk_cell BK240.out 2).trans rfl; have hfz14_0 := blk_frozen BK240.out 0; have hfz14_1 := blk_frozen BK240.out 1; have hfz14_2 := blk_frozen BK240.out 2; have hcz15_0 : w12.cell? ⟨gb241, 0, none⟩ = some (.int .i64 a1_0) := (blk_cell BK241.out 0).trans rfl; have hcz15_1 : w12.cell? ⟨gb241, 1, none⟩ = some (.int .i64 a1_1) := (blk_cell BK241.out 1).trans rfl; have hcz15_2 : w12.cell? ⟨gb241, 2, none⟩ = some (.int .i64 a1_2) := (blk_cell BK241.out 2).trans rfl; have hfz15_0 := blk_frozen BK241.out 0; have hfz15_1 := blk_frozen BK241.out 1; have hfz15_2 := blk_frozen BK241.out 2))
    go_ret
    exact ⟨z8_9, z8_8⟩
  ·rw [if_neg c4] at H
   have c4b0 : (a0_1 == a1_1) = false := beq_eq_false_iff_ne.mpr c4
   have c4b1 : (a0_1 != a1_1) = true := bne_iff_ne.mpr c4
   obtain rfl := Option.some.inj H
   go_enter Try.func130, Try.ntmps130
   go_wp2_with (first | ((with_reducible refine gate_dst (N := 2) rfl ?_); refine box_event ?hg (N := 2) ?hd (cs := #[.int .i64 a0_0, .int .i64 a0_1, .int .i64 a0_2]) (t := 122) ?hr ?_; (case hd => rfl); (case hg => rfl); (case hr => exact z8_0); intro gb240 hg w16 hbox hb; have n0_ := Aside0.mk (below_step z8_1 hb); have n1_ := Aside0.mk (hbox); have n2_ := Aside0.mk ((z8_13 : w.heap.size ≤ gb240)); have n3_ := Aside0.mk ((z8_13 : w.heap.size ≤ gb240)); clear HB; have HB := n0_; have BK240 := n1_; have GW240 := n2_; have GE240 := n3_; clear n0_ n1_ n2_ n3_; clear hb hbox hg) | ((with_reducible refine gate_dst (N := 3) rfl ?_); refine box_event ?hg (N := 3) ?hd (cs := #[.int .i64 a1_0, .int .i64 a1_1, .int .i64 a1_2]) (t := 122) ?hr ?_; (case hd => rfl); (case hg => rfl); (case hr => exact z8_0); intro gb241 hg w17 hbox hb; have n0_ := Aside0.mk (blk_below (g := gb240) (o := .cells #[.int .i64 a0_0, .int .i64 a0_1, .int .i64 a0_2] 122 (0, 0)) z8_5 hb); have n1_ := Aside0.mk (below_step z8_3 hb); have n2_ := Aside0.mk (hbox); have n3_ := Aside0.mk ((z8_14 : w.heap.size ≤ gb241)); have n4_ := Aside0.mk ((z8_14 : w.heap.size ≤ gb241)); have n5_ := Aside0.mk ((z8_11 : gb240 ≠ gb241)); have n6_ := Aside0.mk ((z8_12 : gb241 ≠ gb240)); clear BK240; clear HB; have BK240 := n0_; have HB := n1_; have BK241 := n2_; have GW241 := n3_; have GE241 := n4_; have NB240_241 := n5_; have NB241_240 := n6_; clear n0_ n1_ n2_ n3_ n4_ n5_ n6_; clear hb hbox hg; have hnb18 := NB240_241.out; have hnc18 := NB241_240.out; have hcz19_0 : w17.cell? ⟨gb240, 0, none⟩ = some (.int .i64 a0_0) := (blk_cell BK240.out 0).trans rfl; have hcz19_1 : w17.cell? ⟨gb240, 1, none⟩ = some (.int .i64 a0_1) := (blk_cell BK240.out 1).trans rfl; have hcz19_2 : w17.cell? ⟨gb240, 2, none⟩ = some (.int .i64 a0_2) := (blk_cell BK240.out 2).trans rfl; have hfz19_0 := blk_frozen BK240.out 0; have hfz19_1 := blk_frozen BK240.out 1; have hfz19_2 := blk_frozen BK240.out 2; have hcz20_0 : w17.cell? ⟨gb241, 0, none⟩ = some (.int .i64 a1_0) := (blk_cell BK241.out 0).trans rfl; have hcz20_1 : w17.cell? ⟨gb241, 1, none⟩ = some (.int .i64 a1_1) := (blk_cell BK241.out 1).trans rfl; have hcz20_2 : w17.cell? ⟨gb241, 2, none⟩ = some (.int .i64 a1_2) := (blk_cell BK241.out 2).trans rfl; have hfz20_0 := blk_frozen BK241.out 0; have hfz20_1 := blk_frozen BK241.out 1; have hfz20_2 := blk_frozen BK241.out 2))
   go_ret
   exact ⟨z8_9, z8_8⟩
 ·rw [if_neg c3] at H
  have c3b0 : (a0_0 == a1_0) = false := beq_eq_false_iff_ne.mpr c3
  have c3b1 : (a0_0 != a1_0) = true := bne_iff_ne.mpr c3
  obtain rfl := Option.some.inj H
  go_enter Try.func130, Try.ntmps130
  go_wp2_with (first | ((with_reducible refine gate_dst (N := 2) rfl ?_); refine box_event ?hg (N := 2) ?hd (cs := #[.int .i64 a0_0, .int .i64 a0_1, .int .i64 a0_2]) (t := 122) ?hr ?_; (case hd => rfl); (case hg => rfl); (case hr => exact z8_0); intro gb240 hg w21 hbox hb; have n0_ := Aside0.mk (below_step z8_1 hb); have n1_ := Aside0.mk (hbox); have n2_ := Aside0.mk ((z8_13 : w.heap.size ≤ gb240)); have n3_ := Aside0.mk ((z8_13 : w.heap.size ≤ gb240)); clear HB; have HB := n0_; have BK240 := n1_; have GW240 := n2_; have GE240 := n3_; clear n0_ n1_ n2_ n3_; clear hb hbox hg) | ((with_reducible refine gate_dst (N := 3) rfl ?_); refine box_event ?hg (N := 3) ?hd (cs := #[.int .i64 a1_0, .int .i64 a1_1, .int .i64 a1_2]) (t := 122) ?hr ?_; (case hd => rfl); (case hg => rfl); (case hr => exact z8_0); intro gb241 hg w22 hbox hb; have n0_ := Aside0.mk (blk_below (g := gb240) (o := .cells #[.int .i64 a0_0, .int .i64 a0_1, .int .i64 a0_2] 122 (0, 0)) z8_5 hb); have n1_ := Aside0.mk (below_step z8_3 hb); have n2_ := Aside0.mk (hbox); have n3_ := Aside0.mk ((z8_14 : w.heap.size ≤ gb241)); have n4_ := Aside0.mk ((z8_14 : w.heap.size ≤ gb241)); have n5_ := Aside0.mk ((z8_11 : gb240 ≠ gb241)); have n6_ := Aside0.mk ((z8_12 : gb241 ≠ gb240)); clear BK240; clear HB; have BK240 := n0_; have HB := n1_; have BK241 := n2_; have GW241 := n3_; have GE241 := n4_; have NB240_241 := n5_; have NB241_240 := n6_; clear n0_ n1_ n2_ n3_ n4_ n5_ n6_; clear hb hbox hg; have hnb23 := NB240_241.out; have hnc23 := NB241_240.out; have hcz24_0 : w22.cell? ⟨gb240, 0, none⟩ = some (.int .i64 a0_0) := (blk_cell BK240.out 0).trans rfl; have hcz24_1 : w22.cell? ⟨gb240, 1, none⟩ = some (.int .i64 a0_1) := (blk_cell BK240.out 1).trans rfl; have hcz24_2 : w22.cell? ⟨gb240, 2, none⟩ = some (.int .i64 a0_2) := (blk_cell BK240.out 2).trans rfl; have hfz24_0 := blk_frozen BK240.out 0; have hfz24_1 := blk_frozen BK240.out 1; have hfz24_2 := blk_frozen BK240.out 2; have hcz25_0 : w22.cell? ⟨gb241, 0, none⟩ = some (.int .i64 a1_0) := (blk_cell BK241.out 0).trans rfl; have hcz25_1 : w22.cell? ⟨gb241, 1, none⟩ = some (.int .i64 a1_1) := (blk_cell BK241.out 1).trans rfl; have hcz25_2 : w22.cell? ⟨gb241, 2, none⟩ = some (.int .i64 a1_2) := (blk_cell BK241.out 2).trans rfl; have hfz25_0 := blk_frozen BK241.out 0; have hfz25_1 := blk_frozen BK241.out 1; have hfz25_2 := blk_frozen BK241.out 2))
  go_ret
  exact ⟨z8_9, z8_8⟩

end Go.Proofs.Ytloiafnoekpaoab.PFnExactPiecesValid
