/- Laid by a program of this session out of the translation: functions, their contracts, the row. Lean checks it. -/
import Derived.Test.YtloiafnoekpaoabPFnExactPiecesValidx0
namespace Go.Proofs.Ytloiafnoekpaoab.PFnExactPiecesValid
open Go.RowKit Go.Proofs.YtloiafnoekpaoabW.PrintWords Go.Proofs.YtloiafnoekpaoabW.PrintLast Go.Proofs.YtloiafnoekpaoabW.PrintMore
theorem z3_0 {p : Prop} (h : p := by first | (go_simp; done) | (go_simp; rfl)) : p := h
theorem z3_1 {p : Prop} (h : p := by repeat (first | (with_reducible first | exact HB.out | apply below_alloc | apply pw_below_drewN | apply below_drew1) | exact HB.out)) : p := h
theorem z3_2 {p : Prop} (h : p := by repeat (first | (with_reducible first | exact HB.out | apply below_alloc | apply pw_below_drewN | apply below_drew1 | refine below_set ?_ GE165.out | refine below_set ?_ GE166.out | refine below_set ?_ GE167.out) | exact HB.out)) : p := h
theorem z3_3 {p : Prop} (h : p := by first | (with_reducible assumption) | assumption) : p := h
theorem z3_4 {p : Prop} (h : p := by (with_reducible repeat (first | refine blk_drewN ?_ _ | refine blk_drew ?_ | refine blk_alloc ?_ _)); refine blk_far ?_ NB165_167.out _; (with_reducible repeat (first | refine blk_drewN ?_ _ | refine blk_drew ?_ | refine blk_alloc ?_ _)); exact BK165.out) : p := h
theorem z3_5 {p : Prop} (h : p := by (with_reducible repeat (first | refine blk_drewN ?_ _ | refine blk_drew ?_ | refine blk_alloc ?_ _)); refine blk_far ?_ NB166_167.out _; (with_reducible repeat (first | refine blk_drewN ?_ _ | refine blk_drew ?_ | refine blk_alloc ?_ _)); exact BK166.out) : p := h
theorem z3_6 {p : Prop} (h : p := by (with_reducible repeat (first | apply Kd.R_alloc | apply Kd.R_drewN | apply Kd.R_drew)); exact HO_3.out) : p := h
theorem z3_7 {p : Prop} (h : p := by (try simp only [List.map_toArray, List.map_cons, List.map_nil]); first | done | rfl | (simp only [List.length_drop, List.length_take]; rfl)) : p := h
theorem z3_8 {p : Prop} (h : p := by first | rfl | (simp; done) | (simp [*]; done)) : p := h
theorem z3_9 {p : Prop} (h : p := by (with_reducible repeat (first | refine blk_drewN ?_ _ | refine blk_drew ?_ | refine blk_alloc ?_ _)); exact BK154.out) : p := h
theorem z3_10 {p : Prop} (h : p := by (with_reducible repeat (first | refine blk_drewN ?_ _ | refine blk_drew ?_ | refine blk_alloc ?_ _)); exact BK165.out) : p := h
theorem z3_11 {p : Prop} (h : p := by first | rfl | (simp [errW_none, errW_some] <;> rfl) | (simp [*, errW_none, errW_some] <;> rfl)) : p := h
theorem z3_12 {p : Prop} (h : p := by repeat (first | exact Drawn0.refl _ | apply Drawn0.step)) : p := h
theorem z3_13 {p : Prop} (h : p := by repeat (first | (with_reducible first | exact HB.out | apply below_alloc | apply pw_below_drewN | apply below_drew1 | refine below_set ?_ GE154.out | refine below_set ?_ GE155.out) | exact HB.out)) : p := h
theorem z3_14 {p : Prop} (h : p := by repeat (first | (with_reducible first | exact HB.out | apply below_alloc | apply pw_below_drewN | apply below_drew1 | refine below_set ?_ GE165.out | refine below_set ?_ GE166.out) | exact HB.out)) : p := h
theorem z3_15 {p : Prop} (h : p := by repeat (first | (with_reducible first | exact HB.out | apply below_alloc | apply pw_below_drewN | apply below_drew1 | refine below_set ?_ GE154.out) | exact HB.out)) : p := h
theorem z3_16 {p : Prop} (h : p := by repeat (first | (with_reducible first | exact HB.out | apply below_alloc | apply pw_below_drewN | apply below_drew1 | refine below_set ?_ GE165.out) | exact HB.out)) : p := h
theorem z3_17 {p : Prop} (h : p := by (with_reducible repeat (first | apply Kd.R_alloc | apply Kd.R_drewN | apply Kd.R_drew)); exact (Kd.R_mono (Kd.R_far (p := ⟨gb167, 1, none⟩) (Kd.R_types HO170.out BK167.out (by decide)) (fun _ hk => hk.2) (.slice Ao15 t168.length co15)) (fun _ h_ => h_.1))) : p := h
theorem z3_18 {p : Prop} (h : p := by (with_reducible repeat (first | refine blk_drewN ?_ _ | refine blk_drew ?_ | refine blk_alloc ?_ _)); exact BK155.out) : p := h
theorem z3_19 {p : Prop} (h : p := by (with_reducible repeat (first | refine blk_drewN ?_ _ | refine blk_drew ?_ | refine blk_alloc ?_ _)); exact BK166.out) : p := h
theorem z3_20 {p : Prop} (h : p := by rw [hg]; exact Nat.ne_of_lt (blk_lt (g := gb165) (o := .cells #[.int .i64 a0_0, .slice A0_1 l0_1.length c0_1, .slice A0_2 l0_2.length c0_2, .slice A0_3 l0_3.length c0_3, .slice A0_4 l0_4.length c0_4] 117 (0, 0)) z3_10)) : p := h
theorem z3_21 {p : Prop} (h : p := by rw [hg]; exact Nat.ne_of_gt (blk_lt (g := gb165) (o := .cells #[.int .i64 a0_0, .slice A0_1 l0_1.length c0_1, .slice A0_2 l0_2.length c0_2, .slice A0_3 l0_3.length c0_3, .slice A0_4 l0_4.length c0_4] 117 (0, 0)) z3_10)) : p := h
theorem z3_22 {p : Prop} (h : p := by (with_reducible repeat (first | apply Kd.S_alloc | apply Kd.S_drewN | apply Kd.S_drew)); exact HO_3.out) : p := h
theorem z3_23 {p : Prop} (h : p := by rw [hg]; exact Nat.ne_of_lt (blk_lt (g := gb154) (o := .cells #[.int .i64 a0_0, .int .i64 a0_1, .int .i64 a0_2] 157 (0, 0)) z3_9)) : p := h
theorem z3_24 {p : Prop} (h : p := by rw [hg]; exact Nat.ne_of_gt (blk_lt (g := gb154) (o := .cells #[.int .i64 a0_0, .int .i64 a0_1, .int .i64 a0_2] 157 (0, 0)) z3_9)) : p := h
attribute [local go_sem] max2_int min2_int max_two min_two max_three min_three max_four min_four   -- for this text's walks alone
set_option linter.unusedVariables false
set_option linter.unusedSimpArgs false

/-! ### laws_toIntS: function 16 -/
def laws_toIntS.l0 : Nat → List Int → List Int → Int → Option (List Int)
 | 0, _, _, _ => none
 | k + 1, x0, x3, x4 => if x4 < (x0.length : Int) then (if 0 ≤ x4 then (if x4 < (x3.length : Int) then (laws_toIntS.l0 k x0 (x3.set (x4 : Int).toNat (rd x0 x4)) (wrap64 (x4 + 1))) else (none)) else (none)) else (some x3)
def laws_toIntS.f (k : Nat) (l0 : List Int) : Option (List Int) := if 0 ≤ (l0.length : Int) then (if ((l0.length : Int) : Int).toNat ≤ 35184372088832 then (laws_toIntS.l0 k l0 (List.replicate ((l0.length : Int) : Int).toNat 0) 0) else (none)) else (none)
theorem laws_toIntS.mono_l : ∀ k, (∀ y0 y1 y2, LeO (laws_toIntS.l0 k y0 y1 y2) (laws_toIntS.l0 (k + 1) y0 y1 y2))
 | 0 => fun _ _ _ r h => by simp [laws_toIntS.l0] at h
 | k + 1 => by
  have ih0 := laws_toIntS.mono_l k
  ·intro y0 y1 y2
   unfold laws_toIntS.l0
   repeat' first
   | (with_reducible exact ih0 _ _ _)
   | (with_reducible exact LeO.refl _)
   | (with_reducible exact LeO.none _)
   | (with_reducible refine LeO.ite ?_ ?_)
   | (with_reducible refine LeO.bind ?_ (fun _ => ?_))
   | exact ih0 _ _ _
   | exact LeO.none _
   | refine LeO.ite ?_ ?_
   | refine LeO.bind ?_ (fun _ => ?_)
theorem laws_toIntS.mono : ∀ a0 k, LeO (laws_toIntS.f k a0) (laws_toIntS.f (k + 1) a0) := by
 intro a0 k
 have ih0 := laws_toIntS.mono_l k
 unfold laws_toIntS.f
 repeat' first
   | (with_reducible exact ih0 _ _ _)
   | (with_reducible exact LeO.refl _)
   | (with_reducible exact LeO.none _)
   | (with_reducible refine LeO.ite ?_ ?_)
   | (with_reducible refine LeO.bind ?_ (fun _ => ?_))
   | exact ih0 _ _ _
   | exact LeO.none _
   | refine LeO.ite ?_ ?_
   | refine LeO.bind ?_ (fun _ => ?_)
set_option maxHeartbeats 8000000 in
set_option maxRecDepth 100000 in
theorem laws_toIntS.calls (k : Nat) (A0 : Option Addr) (c0 : Nat) (l0 : List Int) (r : List Int) (w : World) (hr0 : Kd.C (Kd.int .i64) w A0 l0.length l0) (hc0 : l0.length ≤ c0) (h : laws_toIntS.f k l0 = some r) :
  Calls Try.prog 16 #[.slice A0 l0.length c0] w fun e w' => ∃ v0_ : Value, e = .returned (v0_) ∧ Kd.R (Kd.int .i64) 3 w' w.heap.size (fun _ => True) v0_ r ∧ Below w.heap.size w w' := by
 have HR0 := Aside0.mk hr0
 have HC0 := Aside0.mk hc0
 clear hr0 hc0
 have HB := Aside0.mk (Below.refl w.heap.size w)
 have H : (if 0 ≤ (l0.length : Int) then (if ((l0.length : Int) : Int).toNat ≤ 35184372088832 then (laws_toIntS.l0 k l0 (List.replicate ((l0.length : Int) : Int).toNat 0) 0) else (none)) else (none)) = some r := h
 clear h
 by_cases c2 : 0 ≤ (l0.length : Int)
 ·rw [if_pos c2] at H
  have c2b0 := eq_true c2
  have c2b1 : decide (0 ≤ (l0.length : Int)) = true := decide_eq_true c2
  clear c2
  by_cases c3 : ((l0.length : Int) : Int).toNat ≤ 35184372088832
  ·rw [if_pos c3] at H
   have c3b0 := eq_true c3
   have c3b1 : decide (((l0.length : Int) : Int).toNat ≤ 35184372088832) = true := decide_eq_true c3
   clear c3
   obtain ⟨y144, hy144⟩ : ∃ y_ : List Int, y_ = (List.replicate ((l0.length : Int) : Int).toNat 0) := ⟨_, rfl⟩
   replace H : (laws_toIntS.l0 k l0 y144 0) = some r := by first | (rw [hy144]; with_reducible exact H) | (have H2_ := (Option.bind_some _ _).symm.trans H; rw [hy144]; with_reducible exact H2_) | (have H2_ := (Option.bind_some _ _).symm.trans H; with_reducible exact H2_) | with_reducible exact H | (rw [hy144]; exact H) | exact H
   have Ny144 := Aside0.mk hy144
   clear hy144
   have H' := Aside0.mk H
   clear H
   go_enter Try.func16, Try.ntmps16
   go_wp2_with (first | ((with_reducible refine gate_dst (N := 7) rfl ?_); refine Kd.R_make (Kd.int .i64) _ 3 rfl (N := 7) rfl 22 _ _ rfl (l0.length : Int) rfl rfl Try.underlying22 (.int .i64 0) 8 info3 rfl (by decide) (by omega) 0 (ok := fun _ => True) (okp := fun _ => True) rfl (fun _ hk => hk) trivial (of_decide_eq_true z3_3) (Nat.le_trans (Nat.mul_le_mul_right _ (of_decide_eq_true z3_3 : (l0.length : Int).toNat ≤ 35184372088832)) (by omega)) (Below.refl _ _) (Nat.le_refl _) ?_; intro v145 w4 ho5 hb hg_ hnew_; clear hg_ hnew_; (first | rw [← Ny144.out] at ho5 | (simp only [Int.reduceToNat] at ho5; rw [← Ny144.out] at ho5)); have n0_ := Aside0.mk (Kd.R_lower ho5 (below_size z3_1)); have n1_ := Aside0.mk (below_step z3_1 hb); clear HB; have HO146 := n0_; have HB := n1_; clear n0_ n1_; clear hb ho5))
   go_loopg [4] k (fun kq v4 w' => ∃ (x3_1 : List Int) (x4_1 : Int), v4 = .int .i64 x4_1 ∧ Aside0 (laws_toIntS.l0 kq l0 x3_1 x4_1 = some r) ∧ Aside0 (kq ≤ k) ∧ Aside0 (Kd.R (Kd.int .i64) 3 w' w.heap.size (fun _ => True) v145 x3_1) ∧ Aside0 (Below w.heap.size w w'))
   case atStart => exact ⟨(y144), (0), z3_8, H', ⟨Nat.le_refl _⟩, ⟨by (with_reducible repeat (first | apply Kd.R_alloc | apply Kd.R_drewN | apply Kd.R_drew)); exact HO146.out⟩, ⟨z3_1⟩⟩
   case round =>
    clear H'
    try clear c1
    try clear c2
    try clear c2b0
    try clear c2b1
    try clear p2
    try clear c3
    try clear c3b0
    try clear c3b1
    obtain ⟨x3_1, x4_1, rfl, HA, HK1, HO_3, HB⟩ := hrel
    cases gk with
    | zero => exact absurd HA.out (by simp [laws_toIntS.l0])
    | succ k1 =>
     have H := HA.out
     clear HA
     simp only [laws_toIntS.l0] at H
     by_cases c6 : x4_1 < (l0.length : Int)
     ·rw [if_pos c6] at H
      have c6b0 : decide (x4_1 < (l0.length : Int)) = true := decide_eq_true c6
      clear c6
      by_cases c7 : 0 ≤ x4_1
      ·rw [if_pos c7] at H
       have c7b0 : decide (0 ≤ x4_1) = true := decide_eq_true c7
       clear c7
       by_cases c8 : x4_1 < (x3_1.length : Int)
       ·rw [if_pos c8] at H
        have c8b0 : decide (x4_1 < (x3_1.length : Int)) = true := decide_eq_true c8
        clear c8
        obtain ⟨y148, hy148⟩ : ∃ y_ : List Int, y_ = (x3_1.set (x4_1 : Int).toNat (rd l0 x4_1)) := ⟨_, rfl⟩
        replace H : (laws_toIntS.l0 k1 l0 y148 (wrap64 (x4_1 + 1))) = some r := by first | (rw [hy148]; with_reducible exact H) | (have H2_ := (Option.bind_some _ _).symm.trans H; rw [hy148]; with_reducible exact H2_) | (have H2_ := (Option.bind_some _ _).symm.trans H; with_reducible exact H2_) | with_reducible exact H | (rw [hy148]; exact H) | exact H
        have Ny148 := Aside0.mk hy148
        clear hy148
        have H' := Aside0.mk H
        clear H
        have p147 : 0 ≤ (x4_1 : Int) := of_decide_eq_true z3_3
        have q147 : x4_1 < (l0.length : Int) := of_decide_eq_true z3_3
        obtain ⟨ad147, e147, hx147_0⟩ := Kd.at_int HR0.out x4_1 p147 q147
        cases e147
        replace hx147_0 := (HB.out.cell (World.block_lt_of_cell? w _ hx147_0)).trans hx147_0
        replace p147 := eq_true p147
        replace q147 := eq_true q147
        have p9 : 0 ≤ (x4_1 : Int) := of_decide_eq_true z3_3
        have q9 : (x4_1 : Int) < ((x3_1.length : Int) : Int) := of_decide_eq_true z3_3
        obtain ⟨go9, co9, eo9, gb9, gl9, cl9, HG9⟩ := Kd.R_form HO_3.out (by omega)
        (first | cases eo9 | (injection eo9 with ea_ en_ ec_; (first | subst ea_ | (injection ea_ with ea_; subst ea_)); subst ec_; clear en_))
        have GB9 := Aside0.mk gb9
        have GG9 := Aside0.mk HG9
        clear gb9 gl9 HG9
        obtain ⟨hx9_0, hf9_0⟩ := Kd.R_celln 0 HO_3.out (x4_1 : Int) p9 q9
        replace p9 := eq_true p9
        replace q9 := eq_true q9
        have HP10 := Kd.R_putg HO_3.out (x4_1 : Int) (rd l0 x4_1)
        go_wp2_with (first | ((with_reducible refine gate_store (t := 3) (p := 20) rfl ?_); refine store_event (t := 3) (p := 20) (v := ?vo_w11) (w1 := (wr.setCell ⟨go9, (x4_1 : Int).toNat, none⟩ (.int .i64 (rd l0 x4_1)))) ?hg ?ho ?hn ?hr ?_; (case ho => rfl); (case hg => rfl); (case hn => rfl); (case hr => exact z3_0); intro w11 hw; have hg : wr.grownBy w11 (some go9) := (by rw [hw]; exact HP10.2); have hp_ : Kd.R (Kd.int .i64) 3 w11 w.heap.size (fun _ => True) (.slice (some ⟨go9, 0, none⟩) x3_1.length co9) y148 := (by rw [hw, Ny148.out]; exact HP10.1); clear HP10; have n0_ := Aside0.mk (hp_); have n1_ := Aside0.mk ((by rw [hw]; exact below_set (HB.out) GB9.out : Below w.heap.size w w11)); clear HO_3; clear HB; have HO_3 := n0_; have HB := n1_; clear n0_ n1_; clear hg hw hp_))
        go_roundg k1
        case measure => have := HK1.out; omega
        case rel => exact ⟨(y148), (wrap64 (x4_1 + 1)), z3_8, H', ⟨by have := HK1.out; omega⟩, ⟨z3_6⟩, ⟨z3_1⟩⟩
       ·rw [if_neg c8] at H
        exact absurd H (by simp)
      ·rw [if_neg c7] at H
       exact absurd H (by simp)
     ·rw [if_neg c6] at H
      have c6b0 : decide (x4_1 < (l0.length : Int)) = false := decide_eq_false c6
      clear c6
      obtain rfl := Option.some.inj H
      go_wp2
      go_ret
      exact ⟨_, z3_11, z3_6, z3_1⟩
  ·rw [if_neg c3] at H
   exact absurd H (by simp)
 ·rw [if_neg c2] at H
  exact absurd H (by simp)

/-! ### laws_toBoolS: function 92 -/
def laws_toBoolS.l0 : Nat → List Bool → List Bool → Int → Option (List Bool)
 | 0, _, _, _ => none
 | k + 1, x0, x3, x4 => if x4 < (x0.length : Int) then (if 0 ≤ x4 then (if x4 < (x3.length : Int) then (laws_toBoolS.l0 k x0 (x3.set (x4 : Int).toNat (rdOf false x0 x4)) (wrap64 (x4 + 1))) else (none)) else (none)) else (some x3)
def laws_toBoolS.f (k : Nat) (l0 : List Bool) : Option (List Bool) := if 0 ≤ (l0.length : Int) then (if ((l0.length : Int) : Int).toNat ≤ 281474976710656 then (laws_toBoolS.l0 k l0 (List.replicate ((l0.length : Int) : Int).toNat false) 0) else (none)) else (none)
theorem laws_toBoolS.mono_l : ∀ k, (∀ y0 y1 y2, LeO (laws_toBoolS.l0 k y0 y1 y2) (laws_toBoolS.l0 (k + 1) y0 y1 y2))
 | 0 => fun _ _ _ r h => by simp [laws_toBoolS.l0] at h
 | k + 1 => by
  have ih0 := laws_toBoolS.mono_l k
  ·intro y0 y1 y2
   unfold laws_toBoolS.l0
   repeat' first
   | (with_reducible exact ih0 _ _ _)
   | (with_reducible exact LeO.refl _)
   | (with_reducible exact LeO.none _)
   | (with_reducible refine LeO.ite ?_ ?_)
   | (with_reducible refine LeO.bind ?_ (fun _ => ?_))
   | exact ih0 _ _ _
   | exact LeO.none _
   | refine LeO.ite ?_ ?_
   | refine LeO.bind ?_ (fun _ => ?_)
theorem laws_toBoolS.mono : ∀ a0 k, LeO (laws_toBoolS.f k a0) (laws_toBoolS.f (k + 1) a0) := by
 intro a0 k
 have ih0 := laws_toBoolS.mono_l k
 unfold laws_toBoolS.f
 repeat' first
   | (with_reducible exact ih0 _ _ _)
   | (with_reducible exact LeO.refl _)
   | (with_reducible exact LeO.none _)
   | (with_reducible refine LeO.ite ?_ ?_)
   | (with_reducible refine LeO.bind ?_ (fun _ => ?_))
   | exact ih0 _ _ _
   | exact LeO.none _
   | refine LeO.ite ?_ ?_
   | refine LeO.bind ?_ (fun _ => ?_)
set_option maxHeartbeats 8000000 in
set_option maxRecDepth 100000 in
theorem laws_toBoolS.calls (k : Nat) (A0 : Option Addr) (c0 : Nat) (l0 : List Bool) (r : List Bool) (w : World) (hr0 : Kd.C Kd.bool w A0 l0.length l0) (hc0 : l0.length ≤ c0) (h : laws_toBoolS.f k l0 = some r) :
  Calls Try.prog 92 #[.slice A0 l0.length c0] w fun e w' => ∃ v0_ : Value, e = .returned (v0_) ∧ Kd.R Kd.bool 4 w' w.heap.size (fun _ => True) v0_ r ∧ Below w.heap.size w w' := by
 have HR0 := Aside0.mk hr0
 have HC0 := Aside0.mk hc0
 clear hr0 hc0
 have HB := Aside0.mk (Below.refl w.heap.size w)
 have H : (if 0 ≤ (l0.length : Int) then (if ((l0.length : Int) : Int).toNat ≤ 281474976710656 then (laws_toBoolS.l0 k l0 (List.replicate ((l0.length : Int) : Int).toNat false) 0) else (none)) else (none)) = some r := h
 clear h
 by_cases c2 : 0 ≤ (l0.length : Int)
 ·rw [if_pos c2] at H
  have c2b0 := eq_true c2
  have c2b1 : decide (0 ≤ (l0.length : Int)) = true := decide_eq_true c2
  clear c2
  by_cases c3 : ((l0.length : Int) : Int).toNat ≤ 281474976710656
  ·rw [if_pos c3] at H
   have c3b0 := eq_true c3
   have c3b1 : decide (((l0.length : Int) : Int).toNat ≤ 281474976710656) = true := decide_eq_true c3
   clear c3
   obtain ⟨y149, hy149⟩ : ∃ y_ : List Bool, y_ = (List.replicate ((l0.length : Int) : Int).toNat false) := ⟨_, rfl⟩
   replace H : (laws_toBoolS.l0 k l0 y149 0) = some r := by first | (rw [hy149]; with_reducible exact H) | (have H2_ := (Option.bind_some _ _).symm.trans H; rw [hy149]; with_reducible exact H2_) | (have H2_ := (Option.bind_some _ _).symm.trans H; with_reducible exact H2_) | with_reducible exact H | (rw [hy149]; exact H) | exact H
   have Ny149 := Aside0.mk hy149
   clear hy149
   have H' := Aside0.mk H
   clear H
   go_enter Try.func92, Try.ntmps92
   go_wp2_with (first | ((with_reducible refine gate_dst (N := 7) rfl ?_); refine Kd.R_make Kd.bool _ 4 rfl (N := 7) rfl 55 _ _ rfl (l0.length : Int) rfl rfl Try.underlying55 (.bool false) 1 info4 rfl (by decide) (by omega) false (ok := fun _ => True) (okp := fun _ => True) rfl (fun _ hk => hk) trivial (of_decide_eq_true z3_3) (Nat.le_trans (Nat.mul_le_mul_right _ (of_decide_eq_true z3_3 : (l0.length : Int).toNat ≤ 281474976710656)) (by omega)) (Below.refl _ _) (Nat.le_refl _) ?_; intro v150 w4 ho5 hb hg_ hnew_; clear hg_ hnew_; (first | rw [← Ny149.out] at ho5 | (simp only [Int.reduceToNat] at ho5; rw [← Ny149.out] at ho5)); have n0_ := Aside0.mk (Kd.R_lower ho5 (below_size z3_1)); have n1_ := Aside0.mk (below_step z3_1 hb); clear HB; have HO151 := n0_; have HB := n1_; clear n0_ n1_; clear hb ho5))
   go_loopg [4] k (fun kq v4 w' => ∃ (x3_1 : List Bool) (x4_1 : Int), v4 = .int .i64 x4_1 ∧ Aside0 (laws_toBoolS.l0 kq l0 x3_1 x4_1 = some r) ∧ Aside0 (kq ≤ k) ∧ Aside0 (Kd.R Kd.bool 4 w' w.heap.size (fun _ => True) v150 x3_1) ∧ Aside0 (Below w.heap.size w w'))
   case atStart => exact ⟨(y149), (0), z3_8, H', ⟨Nat.le_refl _⟩, ⟨by (with_reducible repeat (first | apply Kd.R_alloc | apply Kd.R_drewN | apply Kd.R_drew)); exact HO151.out⟩, ⟨z3_1⟩⟩
   case round =>
    clear H'
    try clear c2
    try clear c2b0
    try clear c2b1
    try clear p2
    try clear c3
    try clear c3b0
    try clear c3b1
    obtain ⟨x3_1, x4_1, rfl, HA, HK1, HO_3, HB⟩ := hrel
    cases gk with
    | zero => exact absurd HA.out (by simp [laws_toBoolS.l0])
    | succ k1 =>
     have H := HA.out
     clear HA
     simp only [laws_toBoolS.l0] at H
     by_cases c6 : x4_1 < (l0.length : Int)
     ·rw [if_pos c6] at H
      have c6b0 : decide (x4_1 < (l0.length : Int)) = true := decide_eq_true c6
      clear c6
      by_cases c7 : 0 ≤ x4_1
      ·rw [if_pos c7] at H
       have c7b0 : decide (0 ≤ x4_1) = true := decide_eq_true c7
       clear c7
       by_cases c8 : x4_1 < (x3_1.length : Int)
       ·rw [if_pos c8] at H
        have c8b0 : decide (x4_1 < (x3_1.length : Int)) = true := decide_eq_true c8
        clear c8
        obtain ⟨y153, hy153⟩ : ∃ y_ : List Bool, y_ = (x3_1.set (x4_1 : Int).toNat (rdOf false l0 x4_1)) := ⟨_, rfl⟩
        replace H : (laws_toBoolS.l0 k1 l0 y153 (wrap64 (x4_1 + 1))) = some r := by first | (rw [hy153]; with_reducible exact H) | (have H2_ := (Option.bind_some _ _).symm.trans H; rw [hy153]; with_reducible exact H2_) | (have H2_ := (Option.bind_some _ _).symm.trans H; with_reducible exact H2_) | with_reducible exact H | (rw [hy153]; exact H) | exact H
        have Ny153 := Aside0.mk hy153
        clear hy153
        have H' := Aside0.mk H
        clear H
        have p152 : 0 ≤ (x4_1 : Int) := of_decide_eq_true z3_3
        have q152 : x4_1 < (l0.length : Int) := of_decide_eq_true z3_3
        obtain ⟨ad152, e152, hx152_0⟩ := Kd.at_bool HR0.out x4_1 p152 q152
        cases e152
        replace hx152_0 := (HB.out.cell (World.block_lt_of_cell? w _ hx152_0)).trans hx152_0
        replace p152 := eq_true p152
        replace q152 := eq_true q152
        have p9 : 0 ≤ (x4_1 : Int) := of_decide_eq_true z3_3
        have q9 : (x4_1 : Int) < ((x3_1.length : Int) : Int) := of_decide_eq_true z3_3
        obtain ⟨go9, co9, eo9, gb9, gl9, cl9, HG9⟩ := Kd.R_form HO_3.out (by omega)
        (first | cases eo9 | (injection eo9 with ea_ en_ ec_; (first | subst ea_ | (injection ea_ with ea_; subst ea_)); subst ec_; clear en_))
        have GB9 := Aside0.mk gb9
        have GG9 := Aside0.mk HG9
        clear gb9 gl9 HG9
        obtain ⟨hx9_0, hf9_0⟩ := Kd.R_celln false HO_3.out (x4_1 : Int) p9 q9
        replace p9 := eq_true p9
        replace q9 := eq_true q9
        have HP10 := Kd.R_putg HO_3.out (x4_1 : Int) (rdOf false l0 x4_1)
        go_wp2_with (first | ((with_reducible refine gate_store (t := 4) (p := 20) rfl ?_); refine store_event (t := 4) (p := 20) (v := ?vo_w11) (w1 := (wr.setCell ⟨go9, (x4_1 : Int).toNat, none⟩ (.bool (rdOf false l0 x4_1)))) ?hg ?ho ?hn ?hr ?_; (case ho => rfl); (case hg => rfl); (case hn => rfl); (case hr => exact z3_0); intro w11 hw; have hg : wr.grownBy w11 (some go9) := (by rw [hw]; exact HP10.2); have hp_ : Kd.R Kd.bool 4 w11 w.heap.size (fun _ => True) (.slice (some ⟨go9, 0, none⟩) x3_1.length co9) y153 := (by rw [hw, Ny153.out]; exact HP10.1); clear HP10; have n0_ := Aside0.mk (hp_); have n1_ := Aside0.mk ((by rw [hw]; exact below_set (HB.out) GB9.out : Below w.heap.size w w11)); clear HO_3; clear HB; have HO_3 := n0_; have HB := n1_; clear n0_ n1_; clear hg hw hp_))
        go_roundg k1
        case measure => have := HK1.out; omega
        case rel => exact ⟨(y153), (wrap64 (x4_1 + 1)), z3_8, H', ⟨by have := HK1.out; omega⟩, ⟨z3_6⟩, ⟨z3_1⟩⟩
       ·rw [if_neg c8] at H
        exact absurd H (by simp)
      ·rw [if_neg c7] at H
       exact absurd H (by simp)
     ·rw [if_neg c6] at H
      have c6b0 : decide (x4_1 < (l0.length : Int)) = false := decide_eq_false c6
      clear c6
      obtain rfl := Option.some.inj H
      go_wp2
      go_ret
      exact ⟨_, z3_11, z3_6, z3_1⟩
  ·rw [if_neg c3] at H
   exact absurd H (by simp)
 ·rw [if_neg c2] at H
  exact absurd H (by simp)

/-! ### laws_toMessage: function 128 -/
def laws_toMessage.f (a0_0 : Int) (a0_1 : Int) (a0_2 : Int) : Option (Int × Int × Int) := some (a0_0, a0_1, a0_2)
set_option maxHeartbeats 8000000 in
set_option maxRecDepth 100000 in
theorem laws_toMessage.calls (a0_0 : Int) (a0_1 : Int) (a0_2 : Int) (r1 : Int) (r2 : Int) (r3 : Int) (w : World) (h : laws_toMessage.f a0_0 a0_1 a0_2 = some (r1, r2, r3)) :
  Calls Try.prog 128 #[.agg #[.int .i64 a0_0, .int .i64 a0_1, .int .i64 a0_2]] w fun e w' => e = .returned (.agg #[.int .i64 r1, .int .i64 r2, .int .i64 r3]) ∧ Below w.heap.size w w' := by
 have hu157 := Try.underlying157
 have hu122 := Try.underlying122
 have HB := Aside0.mk (Below.refl w.heap.size w)
 have H : (some (a0_0, a0_1, a0_2)) = some (r1, r2, r3) := h
 clear h
 simp only [Option.some.injEq, Prod.mk.injEq] at H
 obtain ⟨rfl, rfl, rfl⟩ := H
 go_enter Try.func128, Try.ntmps128
 go_wp2_with (first | ((with_reducible refine gate_dst (N := 1) rfl ?_); refine box_event ?hg (N := 1) ?hd (cs := #[.int .i64 a0_0, .int .i64 a0_1, .int .i64 a0_2]) (t := 157) ?hr ?_; (case hd => rfl); (case hg => rfl); (case hr => exact z3_0); intro gb154 hg w2 hbox hb; have n0_ := Aside0.mk (below_step z3_1 hb); have n1_ := Aside0.mk (hbox); have n2_ := Aside0.mk ((by rw [hg]; exact (below_size z3_1) : w.heap.size ≤ gb154)); have n3_ := Aside0.mk ((by rw [hg]; exact (below_size z3_1) : w.heap.size ≤ gb154)); clear HB; have HB := n0_; have BK154 := n1_; have GW154 := n2_; have GE154 := n3_; clear n0_ n1_ n2_ n3_; clear hb hbox hg) | ((with_reducible refine gate_dst (N := 2) rfl ?_); refine box_event ?hg (N := 2) ?hd (cs := #[.int .i64 0, .int .i64 0, .int .i64 0]) (t := 122) ?hr ?_; (case hd => rfl); (case hg => rfl); (case hr => exact z3_0); intro gb155 hg w3 hbox hb; have n0_ := Aside0.mk (blk_below (g := gb154) (o := .cells #[.int .i64 a0_0, .int .i64 a0_1, .int .i64 a0_2] 157 (0, 0)) z3_9 hb); have n1_ := Aside0.mk (below_step z3_15 hb); have n2_ := Aside0.mk (hbox); have n3_ := Aside0.mk ((by rw [hg]; exact (below_size z3_15) : w.heap.size ≤ gb155)); have n4_ := Aside0.mk ((by rw [hg]; exact (below_size z3_15) : w.heap.size ≤ gb155)); have n5_ := Aside0.mk ((z3_23 : gb154 ≠ gb155)); have n6_ := Aside0.mk ((z3_24 : gb155 ≠ gb154)); clear BK154; clear HB; have BK154 := n0_; have HB := n1_; have BK155 := n2_; have GW155 := n3_; have GE155 := n4_; have NB154_155 := n5_; have NB155_154 := n6_; clear n0_ n1_ n2_ n3_ n4_ n5_ n6_; clear hb hbox hg) | ((with_reducible refine gate_dst (N := 3) rfl ?_); refine box_event ?hg (N := 3) ?hd (cs := #[.int .i64 0, .int .i64 0, .int .i64 0]) (t := 122) ?hr ?_; (case hd => rfl); (case hg => rfl); (case hr => exact z3_0); intro gb156 hg w4 hbox hb; have n0_ := Aside0.mk (blk_below (g := gb154) (o := .cells #[.int .i64 a0_0, .int .i64 a0_1, .int .i64 a0_2] 157 (0, 0)) z3_9 hb); have n1_ := Aside0.mk (blk_below (g := gb155) (o := .cells #[.int .i64 0, .int .i64 0, .int .i64 0] 122 (0, 0)) z3_18 hb); have n2_ := Aside0.mk (below_step z3_13 hb); have n3_ := Aside0.mk (hbox); have n4_ := Aside0.mk ((by rw [hg]; exact (below_size z3_13) : w.heap.size ≤ gb156)); have n5_ := Aside0.mk ((by rw [hg]; exact (below_size z3_13) : w.heap.size ≤ gb156)); have n6_ := Aside0.mk ((z3_23 : gb154 ≠ gb156)); have n7_ := Aside0.mk ((z3_24 : gb156 ≠ gb154)); have n8_ := Aside0.mk ((by rw [hg]; exact Nat.ne_of_lt (blk_lt (g := gb155) (o := .cells #[.int .i64 0, .int .i64 0, .int .i64 0] 122 (0, 0)) z3_18) : gb155 ≠ gb156)); have n9_ := Aside0.mk ((by rw [hg]; exact Nat.ne_of_gt (blk_lt (g := gb155) (o := .cells #[.int .i64 0, .int .i64 0, .int .i64 0] 122 (0, 0)) z3_18) : gb156 ≠ gb155)); clear BK154; clear BK155; clear HB; have BK154 := n0_; have BK155 := n1_; have HB := n2_; have BK156 := n3_; have GW156 := n4_; have GE156 := n5_; have NB154_156 := n6_; have NB156_154 := n7_; have NB155_156 := n8_; have NB156_155 := n9_; clear n0_ n1_ n2_ n3_ n4_ n5_ n6_ n7_ n8_ n9_; clear hb hbox hg; have hnb5 := NB154_155.out; have hnc5 := NB155_154.out; have hnb6 := NB154_156.out; have hnc6 := NB156_154.out; have hcz7_0 : w4.cell? ⟨gb154, 0, none⟩ = some (.int .i64 a0_0) := (blk_cell BK154.out 0).trans rfl; have hcz7_1 : w4.cell? ⟨gb154, 1, none⟩ = some (.int .i64 a0_1) := (blk_cell BK154.out 1).trans rfl; have hcz7_2 : w4.cell? ⟨gb154, 2, none⟩ = some (.int .i64 a0_2) := (blk_cell BK154.out 2).trans rfl; have hfz7_0 := blk_frozen BK154.out 0; have hfz7_1 := blk_frozen BK154.out 1; have hfz7_2 := blk_frozen BK154.out 2; have hnb8 := NB156_155.out; have hnc8 := NB155_156.out; have hcz9_0 : w4.cell? ⟨gb156, 0, none⟩ = some (.int .i64 0) := (blk_cell BK156.out 0).trans rfl; have hcz9_1 : w4.cell? ⟨gb156, 1, none⟩ = some (.int .i64 0) := (blk_cell BK156.out 1).trans rfl; have hcz9_2 : w4.cell? ⟨gb156, 2, none⟩ = some (.int .i64 0) := (blk_cell BK156.out 2).trans rfl; have hfz9_0 := blk_frozen BK156.out 0; have hfz9_1 := blk_frozen BK156.out 1; have hfz9_2 := blk_frozen BK156.out 2; have hcz10_0 : w4.cell? ⟨gb155, 0, none⟩ = some (.int .i64 0) := (blk_cell BK155.out 0).trans rfl; have hcz10_1 : w4.cell? ⟨gb155, 1, none⟩ = some (.int .i64 0) := (blk_cell BK155.out 1).trans rfl; have hcz10_2 : w4.cell? ⟨gb155, 2, none⟩ = some (.int .i64 0) := (blk_cell BK155.out 2).trans rfl; have hfz10_0 := blk_frozen BK155.out 0; have hfz10_1 := blk_frozen BK155.out 1; have hfz10_2 := blk_frozen BK155.out 2))
 refine bodyPost_ret (results_cell_row rfl _ _ gb155 122 #[.int .i64 a0_0, .int .i64 a0_1, .int .i64 a0_2] (0, 0) _ rfl (by (with_reducible repeat (first | refine blk_drewN ?_ _ | refine blk_drew ?_ | refine blk_alloc ?_ _)); refine blk_put (cs := #[.int .i64 a0_0, .int .i64 a0_1, .int .i64 0]) ?_ 2 _ rfl; (with_reducible repeat (first | refine blk_drewN ?_ _ | refine blk_drew ?_ | refine blk_alloc ?_ _)); refine blk_put (cs := #[.int .i64 a0_0, .int .i64 0, .int .i64 0]) ?_ 1 _ rfl; (with_reducible repeat (first | refine blk_drewN ?_ _ | refine blk_drew ?_ | refine blk_alloc ?_ _)); refine blk_put (cs := #[.int .i64 0, .int .i64 0, .int .i64 0]) ?_ 0 _ rfl; (with_reducible repeat (first | refine blk_drewN ?_ _ | refine blk_drew ?_ | refine blk_alloc ?_ _)); refine blk_far ?_ NB155_156.out _; (with_reducible repeat (first | refine blk_drewN ?_ _ | refine blk_drew ?_ | refine blk_alloc ?_ _)); refine blk_far ?_ NB155_156.out _; (with_reducible repeat (first | refine blk_drewN ?_ _ | refine blk_drew ?_ | refine blk_alloc ?_ _)); refine blk_far ?_ NB155_156.out _; (with_reducible repeat (first | refine blk_drewN ?_ _ | refine blk_drew ?_ | refine blk_alloc ?_ _)); exact BK155.out) Try.underlying122 rfl (by kernel_rfl)) rfl ?_
 exact ⟨z3_11, by repeat (first | (with_reducible first | exact HB.out | apply below_alloc | apply pw_below_drewN | apply below_drew1 | refine below_set ?_ GE154.out | refine below_set ?_ GE155.out | refine below_set ?_ GE156.out) | exact HB.out)⟩

/-! ### laws_toMessageS: function 93 -/
def laws_toMessageS.l0 : Nat → List (S157) → List (S122) → Int → Option ((List (S122)))
 | 0, _, _, _ => none
 | k + 1, x0, x3, x4 => if x4 < (x0.length : Int) then (if 0 ≤ x4 then ((laws_toMessage.f ((rd_T157 x0 x4).f0) ((rd_T157 x0 x4).f1) ((rd_T157 x0 x4).f2)).bind fun bt161 => (if x4 < (x3.length : Int) then (laws_toMessageS.l0 k x0 (x3.set (x4 : Int).toNat (⟨bt161.1, bt161.2.1, bt161.2.2⟩ : S122)) (wrap64 (x4 + 1))) else (none))) else (none)) else (some x3)
def laws_toMessageS.f (k : Nat) (l0 : List (S157)) : Option ((List (S122))) := if 0 ≤ (l0.length : Int) then (if ((l0.length : Int) : Int).toNat ≤ 11728124029610 then (laws_toMessageS.l0 k l0 (List.replicate ((l0.length : Int) : Int).toNat z122) 0) else (none)) else (none)
theorem laws_toMessageS.mono_l : ∀ k, (∀ y0 y1 y2, LeO (laws_toMessageS.l0 k y0 y1 y2) (laws_toMessageS.l0 (k + 1) y0 y1 y2))
 | 0 => fun _ _ _ r h => by simp [laws_toMessageS.l0] at h
 | k + 1 => by
  have ih0 := laws_toMessageS.mono_l k
  ·intro y0 y1 y2
   unfold laws_toMessageS.l0
   repeat' first
   | (with_reducible exact ih0 _ _ _)
   | (with_reducible exact LeO.refl _)
   | (with_reducible exact LeO.none _)
   | (with_reducible refine LeO.ite ?_ ?_)
   | (with_reducible refine LeO.bind ?_ (fun _ => ?_))
   | exact ih0 _ _ _
   | exact LeO.none _
   | refine LeO.ite ?_ ?_
   | refine LeO.bind ?_ (fun _ => ?_)
theorem laws_toMessageS.mono : ∀ a0 k, LeO (laws_toMessageS.f k a0) (laws_toMessageS.f (k + 1) a0) := by
 intro a0 k
 have ih0 := laws_toMessageS.mono_l k
 unfold laws_toMessageS.f
 repeat' first
   | (with_reducible exact ih0 _ _ _)
   | (with_reducible exact LeO.refl _)
   | (with_reducible exact LeO.none _)
   | (with_reducible refine LeO.ite ?_ ?_)
   | (with_reducible refine LeO.bind ?_ (fun _ => ?_))
   | exact ih0 _ _ _
   | exact LeO.none _
   | refine LeO.ite ?_ ?_
   | refine LeO.bind ?_ (fun _ => ?_)
set_option maxHeartbeats 8000000 in
set_option maxRecDepth 100000 in
theorem laws_toMessageS.calls (k : Nat) (A0 : Option Addr) (c0 : Nat) (l0 : List (S157)) (r : List (S122)) (w : World) (hr0 : Kd.C k157 w A0 l0.length l0) (hc0 : l0.length ≤ c0) (h : laws_toMessageS.f k l0 = some r) :
  Calls Try.prog 93 #[.slice A0 l0.length c0] w fun e w' => ∃ v0_ : Value, e = .returned (v0_) ∧ Kd.R k122 122 w' w.heap.size (fun _ => True) v0_ r ∧ Below w.heap.size w w' := by
 have hu157 := Try.underlying157
 have hu122 := Try.underlying122
 have HR0 := Aside0.mk hr0
 have HC0 := Aside0.mk hc0
 clear hr0 hc0
 have HB := Aside0.mk (Below.refl w.heap.size w)
 have H : (if 0 ≤ (l0.length : Int) then (if ((l0.length : Int) : Int).toNat ≤ 11728124029610 then (laws_toMessageS.l0 k l0 (List.replicate ((l0.length : Int) : Int).toNat z122) 0) else (none)) else (none)) = some r := h
 clear h
 by_cases c2 : 0 ≤ (l0.length : Int)
 ·rw [if_pos c2] at H
  have c2b0 := eq_true c2
  have c2b1 : decide (0 ≤ (l0.length : Int)) = true := decide_eq_true c2
  clear c2
  by_cases c3 : ((l0.length : Int) : Int).toNat ≤ 11728124029610
  ·rw [if_pos c3] at H
   have c3b0 := eq_true c3
   have c3b1 : decide (((l0.length : Int) : Int).toNat ≤ 11728124029610) = true := decide_eq_true c3
   clear c3
   obtain ⟨y157, hy157⟩ : ∃ y_ : List (S122), y_ = (List.replicate ((l0.length : Int) : Int).toNat z122) := ⟨_, rfl⟩
   replace H : (laws_toMessageS.l0 k l0 y157 0) = some r := by first | (rw [hy157]; with_reducible exact H) | (have H2_ := (Option.bind_some _ _).symm.trans H; rw [hy157]; with_reducible exact H2_) | (have H2_ := (Option.bind_some _ _).symm.trans H; with_reducible exact H2_) | with_reducible exact H | (rw [hy157]; exact H) | exact H
   have Ny157 := Aside0.mk hy157
   clear hy157
   have H' := Aside0.mk H
   clear H
   go_enter Try.func93, Try.ntmps93
   go_wp2_with (first | ((with_reducible refine gate_dst (N := 7) rfl ?_); refine Kd.R_make k122 _ 122 rfl (N := 7) rfl 61 _ _ rfl (l0.length : Int) rfl rfl Try.underlying61 (.agg #[(.int .i64 0), (.int .i64 0), (.int .i64 0)]) 24 info122 rfl (by decide) (by omega) z122 (ok := fun _ => True) (okp := fun _ => True) (k122_mkM _ _ _ z122 ) (fun _ hk => hk) trivial (of_decide_eq_true z3_3) (Nat.le_trans (Nat.mul_le_mul_right _ (of_decide_eq_true z3_3 : (l0.length : Int).toNat ≤ 11728124029610)) (by omega)) (Below.refl _ _) (Nat.le_refl _) ?_; intro v158 w4 ho5 hb hg_ hnew_; clear hg_ hnew_; (first | rw [← Ny157.out] at ho5 | (simp only [Int.reduceToNat] at ho5; rw [← Ny157.out] at ho5)); have n0_ := Aside0.mk (Kd.R_lower ho5 (below_size z3_1)); have n1_ := Aside0.mk (below_step z3_1 hb); clear HB; have HO159 := n0_; have HB := n1_; clear n0_ n1_; clear hb ho5))
   go_loopg [4] k (fun kq v4 w' => ∃ (x3_1 : List (S122)) (x4_1 : Int), v4 = .int .i64 x4_1 ∧ Aside0 (laws_toMessageS.l0 kq l0 x3_1 x4_1 = some r) ∧ Aside0 (kq ≤ k) ∧ Aside0 (Kd.R k122 122 w' w.heap.size (fun _ => True) v158 x3_1) ∧ Aside0 (Below w.heap.size w w'))
   case atStart => exact ⟨(y157), (0), z3_8, H', ⟨Nat.le_refl _⟩, ⟨by (with_reducible repeat (first | apply Kd.R_alloc | apply Kd.R_drewN | apply Kd.R_drew)); exact HO159.out⟩, ⟨z3_1⟩⟩
   case round =>
    clear H'
    try clear c2
    try clear c2b0
    try clear c2b1
    try clear p2
    try clear c3
    try clear c3b0
    try clear c3b1
    obtain ⟨x3_1, x4_1, rfl, HA, HK1, HO_3, HB⟩ := hrel
    cases gk with
    | zero => exact absurd HA.out (by simp [laws_toMessageS.l0])
    | succ k1 =>
     have H := HA.out
     clear HA
     simp only [laws_toMessageS.l0] at H
     by_cases c6 : x4_1 < (l0.length : Int)
     ·rw [if_pos c6] at H
      have c6b0 : decide (x4_1 < (l0.length : Int)) = true := decide_eq_true c6
      clear c6
      by_cases c7 : 0 ≤ x4_1
      ·rw [if_pos c7] at H
       have c7b0 : decide (0 ≤ x4_1) = true := decide_eq_true c7
       clear c7
       replace H := Option.bind_eq_some_iff.mp H
       obtain ⟨⟨t161, t162, t163⟩, A80, H⟩ := H
       replace H : (if x4_1 < (x3_1.length : Int) then (laws_toMessageS.l0 k1 l0 (x3_1.set (x4_1 : Int).toNat (⟨t161, t162, t163⟩ : S122)) (wrap64 (x4_1 + 1))) else (none)) = some r := H
       have A8 := Aside0.mk A80
       clear A80
       by_cases c9 : x4_1 < (x3_1.length : Int)
       ·rw [if_pos c9] at H
        have c9b0 : decide (x4_1 < (x3_1.length : Int)) = true := decide_eq_true c9
        clear c9
        obtain ⟨y164, hy164⟩ : ∃ y_ : List (S122), y_ = (x3_1.set (x4_1 : Int).toNat (⟨t161, t162, t163⟩ : S122)) := ⟨_, rfl⟩
        replace H : (laws_toMessageS.l0 k1 l0 y164 (wrap64 (x4_1 + 1))) = some r := by first | (rw [hy164]; with_reducible exact H) | (have H2_ := (Option.bind_some _ _).symm.trans H; rw [hy164]; with_reducible exact H2_) | (have H2_ := (Option.bind_some _ _).symm.trans H; with_reducible exact H2_) | with_reducible exact H | (rw [hy164]; exact H) | exact H
        have Ny164 := Aside0.mk hy164
        clear hy164
        have H' := Aside0.mk H
        clear H
        have p160 : 0 ≤ (x4_1 : Int) := of_decide_eq_true z3_3
        have q160 : x4_1 < (l0.length : Int) := of_decide_eq_true z3_3
        obtain ⟨ad160, e160, hx160_0, hx160_1, hx160_2⟩ := at_T157 HR0.out x4_1 p160 q160
        cases e160
        replace hx160_0 := (HB.out.cell (World.block_lt_of_cell? w _ hx160_0)).trans hx160_0
        replace hx160_1 := (HB.out.cell (World.block_lt_of_cell? w _ hx160_1)).trans hx160_1
        replace hx160_2 := (HB.out.cell (World.block_lt_of_cell? w _ hx160_2)).trans hx160_2
        replace p160 := eq_true p160
        replace q160 := eq_true q160
        go_wp2_with (first | ((with_reducible refine gate_callee (f := 128) rfl ?_); refine goesL_ (some 20) rfl rfl Try.func128 (by kernel_rfl) rfl #[.agg #[.int .i64 ((rd_T157 l0 x4_1).f0), .int .i64 ((rd_T157 l0 x4_1).f1), .int .i64 ((rd_T157 l0 x4_1).f2)]] rfl z3_7 ?_; (with_reducible refine (laws_toMessage.calls ((rd_T157 l0 x4_1).f0) ((rd_T157 l0 x4_1).f1) ((rd_T157 l0 x4_1).f2) t161 t162 t163 _ A8.out).mono ?_); rintro e w11 ⟨rfl, hb⟩; refine ⟨_, rfl, ?_⟩; have n0_ := Aside0.mk (Kd.R_below z3_6 hb); have n1_ := Aside0.mk (below_step z3_1 hb); clear HO_3; clear HB; have HO_3 := n0_; have HB := n1_; clear n0_ n1_; (try clear hb); (try clear hb2); (try clear hk); (try clear hi); have p10 : 0 ≤ (x4_1 : Int) := of_decide_eq_true z3_3; have q10 : (x4_1 : Int) < ((x3_1.length : Int) : Int) := of_decide_eq_true z3_3; obtain ⟨go10, co10, eo10, gb10, gl10, cl10, HG10⟩ := Kd.R_form HO_3.out (by omega); (first | cases eo10 | (injection eo10 with ea_ en_ ec_; (first | subst ea_ | (injection ea_ with ea_; subst ea_)); subst ec_; clear en_)); have GB10 := Aside0.mk gb10; have GG10 := Aside0.mk HG10; clear gb10 gl10 HG10; obtain ⟨ce10, hcl10, hM10, hcc10, hfr10⟩ := Kd.R_elem HO_3.out z122 (x4_1 : Int) p10 q10; obtain rfl := k122_openM hM10; have hx10_0 : w11.cell? ⟨go10, (x4_1 : Int).toNat * 3, none⟩ = some (.int .i64 ((rd_T122 x3_1 x4_1).f0)) := hcc10 0 _ rfl; have hx10_1 : w11.cell? ⟨go10, (x4_1 : Int).toNat * 3 + 1, none⟩ = some (.int .i64 ((rd_T122 x3_1 x4_1).f1)) := hcc10 1 _ rfl; have hx10_2 : w11.cell? ⟨go10, (x4_1 : Int).toNat * 3 + 2, none⟩ = some (.int .i64 ((rd_T122 x3_1 x4_1).f2)) := hcc10 2 _ rfl; have hf10_0 : w11.frozen? ⟨go10, (x4_1 : Int).toNat * 3, none⟩ = false := hfr10 0; have hf10_1 : w11.frozen? ⟨go10, (x4_1 : Int).toNat * 3 + 1, none⟩ = false := hfr10 1; have hf10_2 : w11.frozen? ⟨go10, (x4_1 : Int).toNat * 3 + 2, none⟩ = false := hfr10 2; clear hcl10 hcc10 hfr10 hM10; replace p10 := eq_true p10; replace q10 := eq_true q10; have HX12 := Aside0.mk (show Kd.R k122 122 w11 w.heap.size (fun _ => True) (.slice (some ⟨go10, 0, none⟩) x3_1.length co10) x3_1 from z3_6); obtain ⟨ce12, hcl12, hM12, hcc12, hfr12⟩ := Kd.R_elem HX12.out z122 (x4_1 : Int) (of_decide_eq_true z3_3) (by have h_ : (x4_1 : Int) < ((x3_1.length : Int) : Int) := of_decide_eq_true z3_3; first | exact h_ | (have e_ := (Kd.R_reads' HO_3.out).1; omega) | simpa using h_); obtain rfl := k122_openM hM12; have HP12 := Kd.R_seg HX12.out (x4_1 : Int) (of_decide_eq_true z3_3) (by have h_ : (x4_1 : Int) < ((x3_1.length : Int) : Int) := of_decide_eq_true z3_3; first | exact h_ | (have e_ := (Kd.R_reads' HO_3.out).1; omega) | simpa using h_) (seg := [.int .i64 t161, .int .i64 t162, .int .i64 t163]) (j := 0) hcl12 hcc12 (show 3 ≤ 3 from by decide) (x' := (⟨t161, t162, t163⟩ : S122)) (k122_mkM _ _ _ (⟨t161, t162, t163⟩ : S122) ) (fun _ hk => hk); have hx12_0 := hcc12 0 _ rfl; (try simp only [show (k122).sz = 3 from rfl, Nat.mul_one, Nat.add_zero] at hx12_0); have hf12_0 := hfr12 0; (try simp only [show (k122).sz = 3 from rfl, Nat.mul_one, Nat.add_zero] at hf12_0); have hx12_1 := hcc12 1 _ rfl; (try simp only [show (k122).sz = 3 from rfl, Nat.mul_one, Nat.add_zero] at hx12_1); have hf12_1 := hfr12 1; (try simp only [show (k122).sz = 3 from rfl, Nat.mul_one, Nat.add_zero] at hf12_1); have hx12_2 := hcc12 2 _ rfl; (try simp only [show (k122).sz = 3 from rfl, Nat.mul_one, Nat.add_zero] at hx12_2); have hf12_2 := hfr12 2; (try simp only [show (k122).sz = 3 from rfl, Nat.mul_one, Nat.add_zero] at hf12_2); clear hcl12 hcc12 hfr12 hM12) | ((with_reducible refine gate_store (t := 122) (p := 21) rfl ?_); refine store_event (t := 122) (p := 21) (v := ?vo_w13) (w1 := (((w11.setCell ⟨go10, (x4_1 : Int).toNat * 3, none⟩ (.int .i64 t161)).setCell ⟨go10, (x4_1 : Int).toNat * 3 + 1, none⟩ (.int .i64 t162)).setCell ⟨go10, (x4_1 : Int).toNat * 3 + 2, none⟩ (.int .i64 t163))) ?hg ?ho ?hn ?hr ?_; (case ho => rfl); (case hg => rfl); (case hn => rfl); (case hr => exact z3_0); intro w13 hw; have hg : w11.grownBy w13 (some go10) := (by rw [hw]; exact HP12.2); have hp_ : Kd.R k122 122 w13 w.heap.size (fun _ => True) (.slice (some ⟨go10, 0, none⟩) x3_1.length co10) y164 := (by rw [hw, Ny164.out]; exact HP12.1); clear HP12; have n0_ := Aside0.mk (hp_); have n1_ := Aside0.mk ((by rw [hw]; exact below_set (below_set (below_set (HB.out) GB10.out) GB10.out) GB10.out : Below w.heap.size w w13)); clear HO_3; clear HB; have HO_3 := n0_; have HB := n1_; clear n0_ n1_; clear hg hw hp_))
        go_roundg k1
        case measure => have := HK1.out; omega
        case rel => exact ⟨(y164), (wrap64 (x4_1 + 1)), z3_8, H', ⟨by have := HK1.out; omega⟩, ⟨z3_6⟩, ⟨z3_1⟩⟩
       ·rw [if_neg c9] at H
        exact absurd H (by simp)
      ·rw [if_neg c7] at H
       exact absurd H (by simp)
     ·rw [if_neg c6] at H
      have c6b0 : decide (x4_1 < (l0.length : Int)) = false := decide_eq_false c6
      clear c6
      obtain rfl := Option.some.inj H
      go_wp2
      go_ret
      exact ⟨_, z3_11, z3_6, z3_1⟩
  ·rw [if_neg c3] at H
   exact absurd H (by simp)
 ·rw [if_neg c2] at H
  exact absurd H (by simp)

/-! ### laws_toPiece: function 102 -/
def laws_toPiece.f (k : Nat) (a0_0 : Int) (l0_1 : List Int) (l0_2 : List Int) (l0_3 : List Bool) (l0_4 : List (S157)) : Option (Int × List Int × List Int × List Bool × (List (S122))) := (laws_toIntS.f k l0_1).bind fun t168 => ((laws_toIntS.f k l0_2).bind fun t171 => ((laws_toBoolS.f k l0_3).bind fun t174 => ((laws_toMessageS.f k l0_4).bind fun t177 => (some (a0_0, t168, t171, t174, t177)))))
theorem laws_toPiece.mono : ∀ a0 a1 a2 a3 a4 k, LeO (laws_toPiece.f k a0 a1 a2 a3 a4) (laws_toPiece.f (k + 1) a0 a1 a2 a3 a4) := by
 intro a0 a1 a2 a3 a4 k
 unfold laws_toPiece.f
 repeat' first
   | (with_reducible exact laws_toBoolS.mono _ _)
   | (with_reducible exact laws_toIntS.mono _ _)
   | (with_reducible exact laws_toMessageS.mono _ _)
   | (with_reducible exact LeO.refl _)
   | (with_reducible exact LeO.none _)
   | (with_reducible refine LeO.ite ?_ ?_)
   | (with_reducible refine LeO.bind ?_ (fun _ => ?_))
   | exact laws_toBoolS.mono _ _
   | exact laws_toIntS.mono _ _
   | exact laws_toMessageS.mono _ _
   | exact LeO.none _
   | refine LeO.ite ?_ ?_
   | refine LeO.bind ?_ (fun _ => ?_)
set_option maxHeartbeats 8000000 in
set_option maxRecDepth 100000 in
theorem laws_toPiece.calls (k : Nat) (a0_0 : Int) (A0_1 : Option Addr) (c0_1 : Nat) (l0_1 : List Int) (A0_2 : Option Addr) (c0_2 : Nat) (l0_2 : List Int) (A0_3 : Option Addr) (c0_3 : Nat) (l0_3 : List Bool) (A0_4 : Option Addr) (c0_4 : Nat) (l0_4 : List (S157)) (r1 : Int) (r2 : List Int) (r3 : List Int) (r4 : List Bool) (r5 : List (S122)) (w : World) (hr0_1 : Kd.C (Kd.int .i64) w A0_1 l0_1.length l0_1) (hc0_1 : l0_1.length ≤ c0_1) (hr0_2 : Kd.C (Kd.int .i64) w A0_2 l0_2.length l0_2) (hc0_2 : l0_2.length ≤ c0_2) (hr0_3 : Kd.C Kd.bool w A0_3 l0_3.length l0_3) (hc0_3 : l0_3.length ≤ c0_3) (hr0_4 : Kd.C k157 w A0_4 l0_4.length l0_4) (hc0_4 : l0_4.length ≤ c0_4) (h : laws_toPiece.f k a0_0 l0_1 l0_2 l0_3 l0_4 = some (r1, r2, r3, r4, r5)) :
  Calls Try.prog 102 #[.agg #[.int .i64 a0_0, .slice A0_1 l0_1.length c0_1, .slice A0_2 l0_2.length c0_2, .slice A0_3 l0_3.length c0_3, .slice A0_4 l0_4.length c0_4]] w fun e w' => ∃ v1_ v2_ v3_ v4_ : Value, e = .returned (.agg #[.int .i64 r1, v1_, v2_, v3_, v4_]) ∧ Kd.R (Kd.int .i64) 3 w' w.heap.size (fun k_ => some k_ ≠ (v2_ : Value).ownBlock) v1_ r2 ∧ Kd.R (Kd.int .i64) 3 w' w.heap.size (fun k_ => some k_ ≠ (v1_ : Value).ownBlock) v2_ r3 ∧ Kd.R Kd.bool 4 w' w.heap.size (fun _ => True) v3_ r4 ∧ Kd.R k122 122 w' w.heap.size (fun _ => True) v4_ r5 ∧ Below w.heap.size w w' := by
 have hu117 := Try.underlying117
 have hu119 := Try.underlying119
 have HR0_1 := Aside0.mk hr0_1
 have HC0_1 := Aside0.mk hc0_1
 clear hr0_1 hc0_1
 have HR0_2 := Aside0.mk hr0_2
 have HC0_2 := Aside0.mk hc0_2
 clear hr0_2 hc0_2
 have HR0_3 := Aside0.mk hr0_3
 have HC0_3 := Aside0.mk hc0_3
 clear hr0_3 hc0_3
 have HR0_4 := Aside0.mk hr0_4
 have HC0_4 := Aside0.mk hc0_4
 clear hr0_4 hc0_4
 have HB := Aside0.mk (Below.refl w.heap.size w)
 have H : ((laws_toIntS.f k l0_1).bind fun t168 => ((laws_toIntS.f k l0_2).bind fun t171 => ((laws_toBoolS.f k l0_3).bind fun t174 => ((laws_toMessageS.f k l0_4).bind fun t177 => (some (a0_0, t168, t171, t174, t177)))))) = some (r1, r2, r3, r4, r5) := h
 clear h
 replace H := Option.bind_eq_some_iff.mp H
 obtain ⟨t168, A20, H⟩ := H
 replace H : ((laws_toIntS.f k l0_2).bind fun t171 => ((laws_toBoolS.f k l0_3).bind fun t174 => ((laws_toMessageS.f k l0_4).bind fun t177 => (some (a0_0, t168, t171, t174, t177))))) = some (r1, r2, r3, r4, r5) := H
 have A2 := Aside0.mk A20
 clear A20
 replace H := Option.bind_eq_some_iff.mp H
 obtain ⟨t171, A30, H⟩ := H
 replace H : ((laws_toBoolS.f k l0_3).bind fun t174 => ((laws_toMessageS.f k l0_4).bind fun t177 => (some (a0_0, t168, t171, t174, t177)))) = some (r1, r2, r3, r4, r5) := H
 have A3 := Aside0.mk A30
 clear A30
 replace H := Option.bind_eq_some_iff.mp H
 obtain ⟨t174, A40, H⟩ := H
 replace H : ((laws_toMessageS.f k l0_4).bind fun t177 => (some (a0_0, t168, t171, t174, t177))) = some (r1, r2, r3, r4, r5) := H
 have A4 := Aside0.mk A40
 clear A40
 replace H := Option.bind_eq_some_iff.mp H
 obtain ⟨t177, A50, H⟩ := H
 replace H : (some (a0_0, t168, t171, t174, t177)) = some (r1, r2, r3, r4, r5) := H
 have A5 := Aside0.mk A50
 clear A50
 simp only [Option.some.injEq, Prod.mk.injEq] at H
 obtain ⟨rfl, rfl, rfl, rfl, rfl⟩ := H
 go_enter Try.func102, Try.ntmps102
 go_wp2_with (first | ((with_reducible refine gate_dst (N := 1) rfl ?_); refine box_event ?hg (N := 1) ?hd (cs := #[.int .i64 a0_0, .slice A0_1 l0_1.length c0_1, .slice A0_2 l0_2.length c0_2, .slice A0_3 l0_3.length c0_3, .slice A0_4 l0_4.length c0_4]) (t := 117) ?hr ?_; (case hd => rfl); (case hg => rfl); (case hr => exact z3_0); intro gb165 hg w6 hbox hb; have n0_ := Aside0.mk (below_step z3_1 hb); have n1_ := Aside0.mk (hbox); have n2_ := Aside0.mk ((by rw [hg]; exact (below_size z3_1) : w.heap.size ≤ gb165)); have n3_ := Aside0.mk ((by rw [hg]; exact (below_size z3_1) : w.heap.size ≤ gb165)); clear HB; have HB := n0_; have BK165 := n1_; have GW165 := n2_; have GE165 := n3_; clear n0_ n1_ n2_ n3_; clear hb hbox hg) | ((with_reducible refine gate_dst (N := 2) rfl ?_); refine box_event ?hg (N := 2) ?hd (cs := #[.int .i64 0, .slice none 0 0, .slice none 0 0, .slice none 0 0, .slice none 0 0]) (t := 119) ?hr ?_; (case hd => rfl); (case hg => rfl); (case hr => exact z3_0); intro gb166 hg w7 hbox hb; have n0_ := Aside0.mk (blk_below (g := gb165) (o := .cells #[.int .i64 a0_0, .slice A0_1 l0_1.length c0_1, .slice A0_2 l0_2.length c0_2, .slice A0_3 l0_3.length c0_3, .slice A0_4 l0_4.length c0_4] 117 (0, 0)) z3_10 hb); have n1_ := Aside0.mk (below_step z3_16 hb); have n2_ := Aside0.mk (hbox); have n3_ := Aside0.mk ((by rw [hg]; exact (below_size z3_16) : w.heap.size ≤ gb166)); have n4_ := Aside0.mk ((by rw [hg]; exact (below_size z3_16) : w.heap.size ≤ gb166)); have n5_ := Aside0.mk ((z3_20 : gb165 ≠ gb166)); have n6_ := Aside0.mk ((z3_21 : gb166 ≠ gb165)); clear BK165; clear HB; have BK165 := n0_; have HB := n1_; have BK166 := n2_; have GW166 := n3_; have GE166 := n4_; have NB165_166 := n5_; have NB166_165 := n6_; clear n0_ n1_ n2_ n3_ n4_ n5_ n6_; clear hb hbox hg) | ((with_reducible refine gate_dst (N := 3) rfl ?_); refine box_event ?hg (N := 3) ?hd (cs := #[.int .i64 0, .slice none 0 0, .slice none 0 0, .slice none 0 0, .slice none 0 0]) (t := 119) ?hr ?_; (case hd => rfl); (case hg => rfl); (case hr => exact z3_0); intro gb167 hg w8 hbox hb; have n0_ := Aside0.mk (blk_below (g := gb165) (o := .cells #[.int .i64 a0_0, .slice A0_1 l0_1.length c0_1, .slice A0_2 l0_2.length c0_2, .slice A0_3 l0_3.length c0_3, .slice A0_4 l0_4.length c0_4] 117 (0, 0)) z3_10 hb); have n1_ := Aside0.mk (blk_below (g := gb166) (o := .cells #[.int .i64 0, .slice none 0 0, .slice none 0 0, .slice none 0 0, .slice none 0 0] 119 (0, 0)) z3_19 hb); have n2_ := Aside0.mk (below_step z3_14 hb); have n3_ := Aside0.mk (hbox); have n4_ := Aside0.mk ((by rw [hg]; exact (below_size z3_14) : w.heap.size ≤ gb167)); have n5_ := Aside0.mk ((by rw [hg]; exact (below_size z3_14) : w.heap.size ≤ gb167)); have n6_ := Aside0.mk ((z3_20 : gb165 ≠ gb167)); have n7_ := Aside0.mk ((z3_21 : gb167 ≠ gb165)); have n8_ := Aside0.mk ((by rw [hg]; exact Nat.ne_of_lt (blk_lt (g := gb166) (o := .cells #[.int .i64 0, .slice none 0 0, .slice none 0 0, .slice none 0 0, .slice none 0 0] 119 (0, 0)) z3_19) : gb166 ≠ gb167)); have n9_ := Aside0.mk ((by rw [hg]; exact Nat.ne_of_gt (blk_lt (g := gb166) (o := .cells #[.int .i64 0, .slice none 0 0, .slice none 0 0, .slice none 0 0, .slice none 0 0] 119 (0, 0)) z3_19) : gb167 ≠ gb166)); clear BK165; clear BK166; clear HB; have BK165 := n0_; have BK166 := n1_; have HB := n2_; have BK167 := n3_; have GW167 := n4_; have GE167 := n5_; have NB165_167 := n6_; have NB167_165 := n7_; have NB166_167 := n8_; have NB167_166 := n9_; clear n0_ n1_ n2_ n3_ n4_ n5_ n6_ n7_ n8_ n9_; clear hb hbox hg; have hnb9 := NB165_166.out; have hnc9 := NB166_165.out; have hnb10 := NB165_167.out; have hnc10 := NB167_165.out; have hcz11_0 : w8.cell? ⟨gb165, 0, none⟩ = some (.int .i64 a0_0) := (blk_cell BK165.out 0).trans rfl; have hcz11_1 : w8.cell? ⟨gb165, 1, none⟩ = some (.slice A0_1 l0_1.length c0_1) := (blk_cell BK165.out 1).trans rfl; have hcz11_2 : w8.cell? ⟨gb165, 2, none⟩ = some (.slice A0_2 l0_2.length c0_2) := (blk_cell BK165.out 2).trans rfl; have hcz11_3 : w8.cell? ⟨gb165, 3, none⟩ = some (.slice A0_3 l0_3.length c0_3) := (blk_cell BK165.out 3).trans rfl; have hcz11_4 : w8.cell? ⟨gb165, 4, none⟩ = some (.slice A0_4 l0_4.length c0_4) := (blk_cell BK165.out 4).trans rfl; have hfz11_0 := blk_frozen BK165.out 0; have hfz11_1 := blk_frozen BK165.out 1; have hfz11_2 := blk_frozen BK165.out 2; have hfz11_3 := blk_frozen BK165.out 3; have hfz11_4 := blk_frozen BK165.out 4; have hnb12 := NB167_166.out; have hnc12 := NB166_167.out; have hcz13_0 : w8.cell? ⟨gb167, 0, none⟩ = some (.int .i64 0) := (blk_cell BK167.out 0).trans rfl; have hcz13_1 : w8.cell? ⟨gb167, 1, none⟩ = some (.slice none 0 0) := (blk_cell BK167.out 1).trans rfl; have hcz13_2 : w8.cell? ⟨gb167, 2, none⟩ = some (.slice none 0 0) := (blk_cell BK167.out 2).trans rfl; have hcz13_3 : w8.cell? ⟨gb167, 3, none⟩ = some (.slice none 0 0) := (blk_cell BK167.out 3).trans rfl; have hcz13_4 : w8.cell? ⟨gb167, 4, none⟩ = some (.slice none 0 0) := (blk_cell BK167.out 4).trans rfl; have hfz13_0 := blk_frozen BK167.out 0; have hfz13_1 := blk_frozen BK167.out 1; have hfz13_2 := blk_frozen BK167.out 2; have hfz13_3 := blk_frozen BK167.out 3; have hfz13_4 := blk_frozen BK167.out 4) | ((with_reducible refine gate_callee (f := 16) rfl ?_); refine goesL_ (some 9) rfl rfl Try.func16 (by kernel_rfl) rfl #[.slice A0_1 l0_1.length c0_1] rfl z3_7 ?_; (with_reducible refine (laws_toIntS.calls k _ _ l0_1 t168 _ ?side1 ?side2 A2.out).mono ?_); (case side1 => exact Kd.C_below HR0_1.out z3_2); (case side2 => exact HC0_1.out); rintro e w14 ⟨v169, rfl, ho0, hb⟩; refine ⟨_, rfl, ?_⟩; have n0_ := Aside0.mk (Kd.R_lower ho0 (below_size z3_2)); have n1_ := Aside0.mk (blk_below (g := gb165) (o := .cells #[.int .i64 a0_0, .slice A0_1 l0_1.length c0_1, .slice A0_2 l0_2.length c0_2, .slice A0_3 l0_3.length c0_3, .slice A0_4 l0_4.length c0_4] 117 (0, 0)) z3_4 hb); have n2_ := Aside0.mk (blk_below (g := gb166) (o := .cells #[.int .i64 0, .slice none 0 0, .slice none 0 0, .slice none 0 0, .slice none 0 0] 119 (0, 0)) z3_5 hb); have n3_ := Aside0.mk (blk_below (g := gb167) (o := .cells #[.int .i64 a0_0, .slice none 0 0, .slice none 0 0, .slice none 0 0, .slice none 0 0] 119 (0, 0)) (by (with_reducible repeat (first | refine blk_drewN ?_ _ | refine blk_drew ?_ | refine blk_alloc ?_ _)); refine blk_put (cs := #[.int .i64 0, .slice none 0 0, .slice none 0 0, .slice none 0 0, .slice none 0 0]) ?_ 0 _ rfl; (with_reducible repeat (first | refine blk_drewN ?_ _ | refine blk_drew ?_ | refine blk_alloc ?_ _)); exact BK167.out) hb); have n4_ := Aside0.mk (below_step z3_2 hb); clear BK165; clear BK166; clear BK167; clear HB; have HO170 := n0_; have BK165 := n1_; have BK166 := n2_; have BK167 := n3_; have HB := n4_; clear n0_ n1_ n2_ n3_ n4_; (try clear hb); (try clear hb2); (try clear hk); (try clear hi); (try clear ho0); obtain ⟨Ao15, co15, eo15⟩ := Kd.R_slice HO170.out; subst eo15; have hcz16_0 : w14.cell? ⟨gb167, 0, none⟩ = some (.int .i64 a0_0) := (blk_cell BK167.out 0).trans rfl; have hcz16_1 : w14.cell? ⟨gb167, 1, none⟩ = some (.slice none 0 0) := (blk_cell BK167.out 1).trans rfl; have hcz16_2 : w14.cell? ⟨gb167, 2, none⟩ = some (.slice none 0 0) := (blk_cell BK167.out 2).trans rfl; have hcz16_3 : w14.cell? ⟨gb167, 3, none⟩ = some (.slice none 0 0) := (blk_cell BK167.out 3).trans rfl; have hcz16_4 : w14.cell? ⟨gb167, 4, none⟩ = some (.slice none 0 0) := (blk_cell BK167.out 4).trans rfl; have hfz16_0 := blk_frozen BK167.out 0; have hfz16_1 := blk_frozen BK167.out 1; have hfz16_2 := blk_frozen BK167.out 2; have hfz16_3 := blk_frozen BK167.out 3; have hfz16_4 := blk_frozen BK167.out 4; have hcz17_0 : w14.cell? ⟨gb165, 0, none⟩ = some (.int .i64 a0_0) := (blk_cell BK165.out 0).trans rfl; have hcz17_1 : w14.cell? ⟨gb165, 1, none⟩ = some (.slice A0_1 l0_1.length c0_1) := (blk_cell BK165.out 1).trans rfl; have hcz17_2 : w14.cell? ⟨gb165, 2, none⟩ = some (.slice A0_2 l0_2.length c0_2) := (blk_cell BK165.out 2).trans rfl; have hcz17_3 : w14.cell? ⟨gb165, 3, none⟩ = some (.slice A0_3 l0_3.length c0_3) := (blk_cell BK165.out 3).trans rfl; have hcz17_4 : w14.cell? ⟨gb165, 4, none⟩ = some (.slice A0_4 l0_4.length c0_4) := (blk_cell BK165.out 4).trans rfl; have hfz17_0 := blk_frozen BK165.out 0; have hfz17_1 := blk_frozen BK165.out 1; have hfz17_2 := blk_frozen BK165.out 2; have hfz17_3 := blk_frozen BK165.out 3; have hfz17_4 := blk_frozen BK165.out 4) | ((with_reducible refine gate_callee (f := 16) rfl ?_); refine goesL_ (some 13) rfl rfl Try.func16 (by kernel_rfl) rfl #[.slice A0_2 l0_2.length c0_2] rfl z3_7 ?_; (with_reducible refine (laws_toIntS.calls k _ _ l0_2 t171 _ ?side1 ?side2 A3.out).mono ?_); (case side1 => exact Kd.C_below HR0_2.out z3_2); (case side2 => exact HC0_2.out); rintro e w18 ⟨v172, rfl, ho0, hb⟩; refine ⟨_, rfl, ?_⟩; have n0_ := Aside0.mk (Kd.R_elder' z3_17 (Kd.R_base ho0) hb); have n1_ := Aside0.mk (Kd.R_lower (Kd.R_new' ho0 (Kd.R_lt z3_17)) (below_size z3_2)); have n2_ := Aside0.mk (blk_below (g := gb165) (o := .cells #[.int .i64 a0_0, .slice A0_1 l0_1.length c0_1, .slice A0_2 l0_2.length c0_2, .slice A0_3 l0_3.length c0_3, .slice A0_4 l0_4.length c0_4] 117 (0, 0)) z3_4 hb); have n3_ := Aside0.mk (blk_below (g := gb166) (o := .cells #[.int .i64 0, .slice none 0 0, .slice none 0 0, .slice none 0 0, .slice none 0 0] 119 (0, 0)) z3_5 hb); have n4_ := Aside0.mk (blk_below (g := gb167) (o := .cells #[.int .i64 a0_0, .slice Ao15 t168.length co15, .slice none 0 0, .slice none 0 0, .slice none 0 0] 119 (0, 0)) (by (with_reducible repeat (first | refine blk_drewN ?_ _ | refine blk_drew ?_ | refine blk_alloc ?_ _)); refine blk_put (cs := #[.int .i64 a0_0, .slice none 0 0, .slice none 0 0, .slice none 0 0, .slice none 0 0]) ?_ 1 _ rfl; (with_reducible repeat (first | refine blk_drewN ?_ _ | refine blk_drew ?_ | refine blk_alloc ?_ _)); exact BK167.out) hb); have n5_ := Aside0.mk (below_step z3_2 hb); clear HO170; clear BK165; clear BK166; clear BK167; clear HB; have HO170 := n0_; have HO173 := n1_; have BK165 := n2_; have BK166 := n3_; have BK167 := n4_; have HB := n5_; clear n0_ n1_ n2_ n3_ n4_ n5_; (try clear hb); (try clear hb2); (try clear hk); (try clear hi); (try clear ho0); obtain ⟨Ao19, co19, eo19⟩ := Kd.R_slice HO173.out; subst eo19; have hcz20_0 : w18.cell? ⟨gb167, 0, none⟩ = some (.int .i64 a0_0) := (blk_cell BK167.out 0).trans rfl; have hcz20_1 : w18.cell? ⟨gb167, 1, none⟩ = some (.slice Ao15 t168.length co15) := (blk_cell BK167.out 1).trans rfl; have hcz20_2 : w18.cell? ⟨gb167, 2, none⟩ = some (.slice none 0 0) := (blk_cell BK167.out 2).trans rfl; have hcz20_3 : w18.cell? ⟨gb167, 3, none⟩ = some (.slice none 0 0) := (blk_cell BK167.out 3).trans rfl; have hcz20_4 : w18.cell? ⟨gb167, 4, none⟩ = some (.slice none 0 0) := (blk_cell BK167.out 4).trans rfl; have hfz20_0 := blk_frozen BK167.out 0; have hfz20_1 := blk_frozen BK167.out 1; have hfz20_2 := blk_frozen BK167.out 2; have hfz20_3 := blk_frozen BK167.out 3; have hfz20_4 := blk_frozen BK167.out 4; have hcz21_0 : w18.cell? ⟨gb165, 0, none⟩ = some (.int .i64 a0_0) := (blk_cell BK165.out 0).trans rfl; have hcz21_1 : w18.cell? ⟨gb165, 1, none⟩ = some (.slice A0_1 l0_1.length c0_1) := (blk_cell BK165.out 1).trans rfl; have hcz21_2 : w18.cell? ⟨gb165, 2, none⟩ = some (.slice A0_2 l0_2.length c0_2) := (blk_cell BK165.out 2).trans rfl; have hcz21_3 : w18.cell? ⟨gb165, 3, none⟩ = some (.slice A0_3 l0_3.length c0_3) := (blk_cell BK165.out 3).trans rfl; have hcz21_4 : w18.cell? ⟨gb165, 4, none⟩ = some (.slice A0_4 l0_4.length c0_4) := (blk_cell BK165.out 4).trans rfl; have hfz21_0 := blk_frozen BK165.out 0; have hfz21_1 := blk_frozen BK165.out 1; have hfz21_2 := blk_frozen BK165.out 2; have hfz21_3 := blk_frozen BK165.out 3; have hfz21_4 := blk_frozen BK165.out 4) | ((with_reducible refine gate_callee (f := 92) rfl ?_); refine goesL_ (some 17) rfl rfl Try.func92 (by kernel_rfl) rfl #[.slice A0_3 l0_3.length c0_3] rfl z3_7 ?_; (with_reducible refine (laws_toBoolS.calls k _ _ l0_3 t174 _ ?side1 ?side2 A4.out).mono ?_); (case side1 => exact Kd.C_below HR0_3.out z3_2); (case side2 => exact HC0_3.out); rintro e w22 ⟨v175, rfl, ho0, hb⟩; refine ⟨_, rfl, ?_⟩; have n0_ := Aside0.mk (Kd.R_below (by (with_reducible repeat (first | apply Kd.R_alloc | apply Kd.R_drewN | apply Kd.R_drew)); exact (Kd.R_mono (Kd.R_far (p := ⟨gb167, 2, none⟩) (Kd.R_types HO170.out BK167.out (by decide)) (fun _ hk => hk.2) (.slice Ao19 t171.length co19)) (fun _ h_ => h_.1))) hb); have n1_ := Aside0.mk (Kd.R_below (by (with_reducible repeat (first | apply Kd.R_alloc | apply Kd.R_drewN | apply Kd.R_drew)); exact (Kd.R_mono (Kd.R_far (p := ⟨gb167, 2, none⟩) (Kd.R_types HO173.out BK167.out (by decide)) (fun _ hk => hk.2) (.slice Ao19 t171.length co19)) (fun _ h_ => h_.1))) hb); have n2_ := Aside0.mk (Kd.R_lower ho0 (below_size z3_2)); have n3_ := Aside0.mk (blk_below (g := gb165) (o := .cells #[.int .i64 a0_0, .slice A0_1 l0_1.length c0_1, .slice A0_2 l0_2.length c0_2, .slice A0_3 l0_3.length c0_3, .slice A0_4 l0_4.length c0_4] 117 (0, 0)) z3_4 hb); have n4_ := Aside0.mk (blk_below (g := gb166) (o := .cells #[.int .i64 0, .slice none 0 0, .slice none 0 0, .slice none 0 0, .slice none 0 0] 119 (0, 0)) z3_5 hb); have n5_ := Aside0.mk (blk_below (g := gb167) (o := .cells #[.int .i64 a0_0, .slice Ao15 t168.length co15, .slice Ao19 t171.length co19, .slice none 0 0, .slice none 0 0] 119 (0, 0)) (by (with_reducible repeat (first | refine blk_drewN ?_ _ | refine blk_drew ?_ | refine blk_alloc ?_ _)); refine blk_put (cs := #[.int .i64 a0_0, .slice Ao15 t168.length co15, .slice none 0 0, .slice none 0 0, .slice none 0 0]) ?_ 2 _ rfl; (with_reducible repeat (first | refine blk_drewN ?_ _ | refine blk_drew ?_ | refine blk_alloc ?_ _)); exact BK167.out) hb); have n6_ := Aside0.mk (below_step z3_2 hb); clear HO170; clear HO173; clear BK165; clear BK166; clear BK167; clear HB; have HO170 := n0_; have HO173 := n1_; have HO176 := n2_; have BK165 := n3_; have BK166 := n4_; have BK167 := n5_; have HB := n6_; clear n0_ n1_ n2_ n3_ n4_ n5_ n6_; (try clear hb); (try clear hb2); (try clear hk); (try clear hi); (try clear ho0); obtain ⟨Ao23, co23, eo23⟩ := Kd.R_slice HO176.out; subst eo23; have hcz24_0 : w22.cell? ⟨gb167, 0, none⟩ = some (.int .i64 a0_0) := (blk_cell BK167.out 0).trans rfl; have hcz24_1 : w22.cell? ⟨gb167, 1, none⟩ = some (.slice Ao15 t168.length co15) := (blk_cell BK167.out 1).trans rfl; have hcz24_2 : w22.cell? ⟨gb167, 2, none⟩ = some (.slice Ao19 t171.length co19) := (blk_cell BK167.out 2).trans rfl; have hcz24_3 : w22.cell? ⟨gb167, 3, none⟩ = some (.slice none 0 0) := (blk_cell BK167.out 3).trans rfl; have hcz24_4 : w22.cell? ⟨gb167, 4, none⟩ = some (.slice none 0 0) := (blk_cell BK167.out 4).trans rfl; have hfz24_0 := blk_frozen BK167.out 0; have hfz24_1 := blk_frozen BK167.out 1; have hfz24_2 := blk_frozen BK167.out 2; have hfz24_3 := blk_frozen BK167.out 3; have hfz24_4 := blk_frozen BK167.out 4; have hcz25_0 : w22.cell? ⟨gb165, 0, none⟩ = some (.int .i64 a0_0) := (blk_cell BK165.out 0).trans rfl; have hcz25_1 : w22.cell? ⟨gb165, 1, none⟩ = some (.slice A0_1 l0_1.length c0_1) := (blk_cell BK165.out 1).trans rfl; have hcz25_2 : w22.cell? ⟨gb165, 2, none⟩ = some (.slice A0_2 l0_2.length c0_2) := (blk_cell BK165.out 2).trans rfl; have hcz25_3 : w22.cell? ⟨gb165, 3, none⟩ = some (.slice A0_3 l0_3.length c0_3) := (blk_cell BK165.out 3).trans rfl; have hcz25_4 : w22.cell? ⟨gb165, 4, none⟩ = some (.slice A0_4 l0_4.length c0_4) := (blk_cell BK165.out 4).trans rfl; have hfz25_0 := blk_frozen BK165.out 0; have hfz25_1 := blk_frozen BK165.out 1; have hfz25_2 := blk_frozen BK165.out 2; have hfz25_3 := blk_frozen BK165.out 3; have hfz25_4 := blk_frozen BK165.out 4) | ((with_reducible refine gate_callee (f := 93) rfl ?_); refine goesL_ (some 21) rfl rfl Try.func93 (by kernel_rfl) rfl #[.slice A0_4 l0_4.length c0_4] rfl z3_7 ?_; (with_reducible refine (laws_toMessageS.calls k _ _ l0_4 t177 _ ?side1 ?side2 A5.out).mono ?_); (case side1 => exact Kd.C_below HR0_4.out z3_2); (case side2 => exact HC0_4.out); rintro e w26 ⟨v178, rfl, ho0, hb⟩; refine ⟨_, rfl, ?_⟩; have n0_ := Aside0.mk (Kd.R_below (by (with_reducible repeat (first | apply Kd.R_alloc | apply Kd.R_drewN | apply Kd.R_drew)); exact (Kd.R_mono (Kd.R_far (p := ⟨gb167, 3, none⟩) (Kd.R_types HO170.out BK167.out (by decide)) (fun _ hk => hk.2) (.slice Ao23 t174.length co23)) (fun _ h_ => h_.1))) hb); have n1_ := Aside0.mk (Kd.R_below (by (with_reducible repeat (first | apply Kd.R_alloc | apply Kd.R_drewN | apply Kd.R_drew)); exact (Kd.R_mono (Kd.R_far (p := ⟨gb167, 3, none⟩) (Kd.R_types HO173.out BK167.out (by decide)) (fun _ hk => hk.2) (.slice Ao23 t174.length co23)) (fun _ h_ => h_.1))) hb); have n2_ := Aside0.mk (Kd.R_below (by (with_reducible repeat (first | apply Kd.R_alloc | apply Kd.R_drewN | apply Kd.R_drew)); exact (Kd.R_mono (Kd.R_far (p := ⟨gb167, 3, none⟩) (Kd.R_types HO176.out BK167.out (by decide)) (fun _ hk => hk.2) (.slice Ao23 t174.length co23)) (fun _ h_ => h_.1))) hb); have n3_ := Aside0.mk (Kd.R_lower ho0 (below_size z3_2)); have n4_ := Aside0.mk (blk_below (g := gb165) (o := .cells #[.int .i64 a0_0, .slice A0_1 l0_1.length c0_1, .slice A0_2 l0_2.length c0_2, .slice A0_3 l0_3.length c0_3, .slice A0_4 l0_4.length c0_4] 117 (0, 0)) z3_4 hb); have n5_ := Aside0.mk (blk_below (g := gb166) (o := .cells #[.int .i64 0, .slice none 0 0, .slice none 0 0, .slice none 0 0, .slice none 0 0] 119 (0, 0)) z3_5 hb); have n6_ := Aside0.mk (blk_below (g := gb167) (o := .cells #[.int .i64 a0_0, .slice Ao15 t168.length co15, .slice Ao19 t171.length co19, .slice Ao23 t174.length co23, .slice none 0 0] 119 (0, 0)) (by (with_reducible repeat (first | refine blk_drewN ?_ _ | refine blk_drew ?_ | refine blk_alloc ?_ _)); refine blk_put (cs := #[.int .i64 a0_0, .slice Ao15 t168.length co15, .slice Ao19 t171.length co19, .slice none 0 0, .slice none 0 0]) ?_ 3 _ rfl; (with_reducible repeat (first | refine blk_drewN ?_ _ | refine blk_drew ?_ | refine blk_alloc ?_ _)); exact BK167.out) hb); have n7_ := Aside0.mk (below_step z3_2 hb); clear HO170; clear HO173; clear HO176; clear BK165; clear BK166; clear BK167; clear HB; have HO170 := n0_; have HO173 := n1_; have HO176 := n2_; have HO179 := n3_; have BK165 := n4_; have BK166 := n5_; have BK167 := n6_; have HB := n7_; clear n0_ n1_ n2_ n3_ n4_ n5_ n6_ n7_; (try clear hb); (try clear hb2); (try clear hk); (try clear hi); (try clear ho0); obtain ⟨Ao27, co27, eo27⟩ := Kd.R_slice HO179.out; subst eo27; have hcz28_0 : w26.cell? ⟨gb167, 0, none⟩ = some (.int .i64 a0_0) := (blk_cell BK167.out 0).trans rfl; have hcz28_1 : w26.cell? ⟨gb167, 1, none⟩ = some (.slice Ao15 t168.length co15) := (blk_cell BK167.out 1).trans rfl; have hcz28_2 : w26.cell? ⟨gb167, 2, none⟩ = some (.slice Ao19 t171.length co19) := (blk_cell BK167.out 2).trans rfl; have hcz28_3 : w26.cell? ⟨gb167, 3, none⟩ = some (.slice Ao23 t174.length co23) := (blk_cell BK167.out 3).trans rfl; have hcz28_4 : w26.cell? ⟨gb167, 4, none⟩ = some (.slice none 0 0) := (blk_cell BK167.out 4).trans rfl; have hfz28_0 := blk_frozen BK167.out 0; have hfz28_1 := blk_frozen BK167.out 1; have hfz28_2 := blk_frozen BK167.out 2; have hfz28_3 := blk_frozen BK167.out 3; have hfz28_4 := blk_frozen BK167.out 4; have hcz29_0 : w26.cell? ⟨gb166, 0, none⟩ = some (.int .i64 0) := (blk_cell BK166.out 0).trans rfl; have hcz29_1 : w26.cell? ⟨gb166, 1, none⟩ = some (.slice none 0 0) := (blk_cell BK166.out 1).trans rfl; have hcz29_2 : w26.cell? ⟨gb166, 2, none⟩ = some (.slice none 0 0) := (blk_cell BK166.out 2).trans rfl; have hcz29_3 : w26.cell? ⟨gb166, 3, none⟩ = some (.slice none 0 0) := (blk_cell BK166.out 3).trans rfl; have hcz29_4 : w26.cell? ⟨gb166, 4, none⟩ = some (.slice none 0 0) := (blk_cell BK166.out 4).trans rfl; have hfz29_0 := blk_frozen BK166.out 0; have hfz29_1 := blk_frozen BK166.out 1; have hfz29_2 := blk_frozen BK166.out 2; have hfz29_3 := blk_frozen BK166.out 3; have hfz29_4 := blk_frozen BK166.out 4))
 refine bodyPost_ret (results_cell_row rfl _ _ gb166 119 #[.int .i64 a0_0, .slice Ao15 t168.length co15, .slice Ao19 t171.length co19, .slice Ao23 t174.length co23, .slice Ao27 t177.length co27] (0, 0) _ rfl (by (with_reducible repeat (first | refine blk_drewN ?_ _ | refine blk_drew ?_ | refine blk_alloc ?_ _)); refine blk_put (cs := #[.int .i64 a0_0, .slice Ao15 t168.length co15, .slice Ao19 t171.length co19, .slice Ao23 t174.length co23, .slice none 0 0]) ?_ 4 _ rfl; (with_reducible repeat (first | refine blk_drewN ?_ _ | refine blk_drew ?_ | refine blk_alloc ?_ _)); refine blk_put (cs := #[.int .i64 a0_0, .slice Ao15 t168.length co15, .slice Ao19 t171.length co19, .slice none 0 0, .slice none 0 0]) ?_ 3 _ rfl; (with_reducible repeat (first | refine blk_drewN ?_ _ | refine blk_drew ?_ | refine blk_alloc ?_ _)); refine blk_put (cs := #[.int .i64 a0_0, .slice Ao15 t168.length co15, .slice none 0 0, .slice none 0 0, .slice none 0 0]) ?_ 2 _ rfl; (with_reducible repeat (first | refine blk_drewN ?_ _ | refine blk_drew ?_ | refine blk_alloc ?_ _)); refine blk_put (cs := #[.int .i64 a0_0, .slice none 0 0, .slice none 0 0, .slice none 0 0, .slice none 0 0]) ?_ 1 _ rfl; (with_reducible repeat (first | refine blk_drewN ?_ _ | refine blk_drew ?_ | refine blk_alloc ?_ _)); refine blk_put (cs := #[.int .i64 0, .slice none 0 0, .slice none 0 0, .slice none 0 0, .slice none 0 0]) ?_ 0 _ rfl; (with_reducible repeat (first | refine blk_drewN ?_ _ | refine blk_drew ?_ | refine blk_alloc ?_ _)); refine blk_far ?_ NB166_167.out _; (with_reducible repeat (first | refine blk_drewN ?_ _ | refine blk_drew ?_ | refine blk_alloc ?_ _)); exact BK166.out) Try.underlying119 rfl (by kernel_rfl)) rfl ?_
 exact ⟨_, _, _, _, z3_11, by (with_reducible repeat (first | apply Kd.R_alloc | apply Kd.R_drewN | apply Kd.R_drew)); exact Kd.R_mono (Kd.R_far (p := ⟨gb166, 4, none⟩) (Kd.R_far (p := ⟨gb166, 3, none⟩) (Kd.R_far (p := ⟨gb166, 2, none⟩) (Kd.R_far (p := ⟨gb166, 1, none⟩) (Kd.R_far (p := ⟨gb166, 0, none⟩) (Kd.R_far (p := ⟨gb167, 4, none⟩) (Kd.R_types (Kd.R_types HO170.out BK167.out (by decide)) BK166.out (by decide)) (fun _ hk => hk.1.2) (.slice Ao27 t177.length co27)) (fun _ hk => hk.2) (.int .i64 a0_0)) (fun _ hk => hk.2) (.slice Ao15 t168.length co15)) (fun _ hk => hk.2) (.slice Ao19 t171.length co19)) (fun _ hk => hk.2) (.slice Ao23 t174.length co23)) (fun _ hk => hk.2) (.slice Ao27 t177.length co27)) (fun _ hk => hk.1.1.2), by (with_reducible repeat (first | apply Kd.R_alloc | apply Kd.R_drewN | apply Kd.R_drew)); exact Kd.R_mono (Kd.R_far (p := ⟨gb166, 4, none⟩) (Kd.R_far (p := ⟨gb166, 3, none⟩) (Kd.R_far (p := ⟨gb166, 2, none⟩) (Kd.R_far (p := ⟨gb166, 1, none⟩) (Kd.R_far (p := ⟨gb166, 0, none⟩) (Kd.R_far (p := ⟨gb167, 4, none⟩) (Kd.R_types (Kd.R_types HO173.out BK167.out (by decide)) BK166.out (by decide)) (fun _ hk => hk.1.2) (.slice Ao27 t177.length co27)) (fun _ hk => hk.2) (.int .i64 a0_0)) (fun _ hk => hk.2) (.slice Ao15 t168.length co15)) (fun _ hk => hk.2) (.slice Ao19 t171.length co19)) (fun _ hk => hk.2) (.slice Ao23 t174.length co23)) (fun _ hk => hk.2) (.slice Ao27 t177.length co27)) (fun _ hk => hk.1.1.2), by (with_reducible repeat (first | apply Kd.R_alloc | apply Kd.R_drewN | apply Kd.R_drew)); exact Kd.R_mono (Kd.R_far (p := ⟨gb166, 4, none⟩) (Kd.R_far (p := ⟨gb166, 3, none⟩) (Kd.R_far (p := ⟨gb166, 2, none⟩) (Kd.R_far (p := ⟨gb166, 1, none⟩) (Kd.R_far (p := ⟨gb166, 0, none⟩) (Kd.R_far (p := ⟨gb167, 4, none⟩) (Kd.R_types (Kd.R_types HO176.out BK167.out (by decide)) BK166.out (by decide)) (fun _ hk => hk.1.2) (.slice Ao27 t177.length co27)) (fun _ hk => hk.2) (.int .i64 a0_0)) (fun _ hk => hk.2) (.slice Ao15 t168.length co15)) (fun _ hk => hk.2) (.slice Ao19 t171.length co19)) (fun _ hk => hk.2) (.slice Ao23 t174.length co23)) (fun _ hk => hk.2) (.slice Ao27 t177.length co27)) (fun _ hk => trivial), by (with_reducible repeat (first | apply Kd.R_alloc | apply Kd.R_drewN | apply Kd.R_drew)); exact Kd.R_mono (Kd.R_far (p := ⟨gb166, 4, none⟩) (Kd.R_far (p := ⟨gb166, 3, none⟩) (Kd.R_far (p := ⟨gb166, 2, none⟩) (Kd.R_far (p := ⟨gb166, 1, none⟩) (Kd.R_far (p := ⟨gb166, 0, none⟩) (Kd.R_far (p := ⟨gb167, 4, none⟩) (Kd.R_types (Kd.R_types HO179.out BK167.out (by decide)) BK166.out (by decide)) (fun _ hk => hk.1.2) (.slice Ao27 t177.length co27)) (fun _ hk => hk.2) (.int .i64 a0_0)) (fun _ hk => hk.2) (.slice Ao15 t168.length co15)) (fun _ hk => hk.2) (.slice Ao19 t171.length co19)) (fun _ hk => hk.2) (.slice Ao23 t174.length co23)) (fun _ hk => hk.2) (.slice Ao27 t177.length co27)) (fun _ hk => trivial), z3_2⟩

/-! ### laws_toPieceS: function 46 -/
def laws_toPieceS.l0 : Nat → List (S117) → List (S119) → Int → Option ((List (S119)))
 | 0, _, _, _ => none
 | k + 1, x0, x3, x4 => if x4 < (x0.length : Int) then (if 0 ≤ x4 then ((laws_toPiece.f k ((rd_T117 x0 x4).f0) ((rd_T117 x0 x4).f1) ((rd_T117 x0 x4).f2) ((rd_T117 x0 x4).f3) ((rd_T117 x0 x4).f4)).bind fun bt184 => (if x4 < (x3.length : Int) then (laws_toPieceS.l0 k x0 (x3.set (x4 : Int).toNat (⟨bt184.1, bt184.2.1, bt184.2.2.1, bt184.2.2.2.1, bt184.2.2.2.2⟩ : S119)) (wrap64 (x4 + 1))) else (none))) else (none)) else (some x3)
def laws_toPieceS.f (k : Nat) (l0 : List (S117)) : Option ((List (S119))) := if 0 ≤ (l0.length : Int) then (if ((l0.length : Int) : Int).toNat ≤ 2706490160679 then (laws_toPieceS.l0 k l0 (List.replicate ((l0.length : Int) : Int).toNat z119) 0) else (none)) else (none)
theorem laws_toPieceS.mono_l : ∀ k, (∀ y0 y1 y2, LeO (laws_toPieceS.l0 k y0 y1 y2) (laws_toPieceS.l0 (k + 1) y0 y1 y2))
 | 0 => fun _ _ _ r h => by simp [laws_toPieceS.l0] at h
 | k + 1 => by
  have ih0 := laws_toPieceS.mono_l k
  ·intro y0 y1 y2
   unfold laws_toPieceS.l0
   repeat' first
   | (with_reducible exact ih0 _ _ _)
   | (with_reducible exact laws_toPiece.mono _ _ _ _ _ _)
   | (with_reducible exact LeO.refl _)
   | (with_reducible exact LeO.none _)
   | (with_reducible refine LeO.ite ?_ ?_)
   | (with_reducible refine LeO.bind ?_ (fun _ => ?_))
   | exact ih0 _ _ _
   | exact laws_toPiece.mono _ _ _ _ _ _
   | exact LeO.none _
   | refine LeO.ite ?_ ?_
   | refine LeO.bind ?_ (fun _ => ?_)
theorem laws_toPieceS.mono : ∀ a0 k, LeO (laws_toPieceS.f k a0) (laws_toPieceS.f (k + 1) a0) := by
 intro a0 k
 have ih0 := laws_toPieceS.mono_l k
 unfold laws_toPieceS.f
 repeat' first
   | (with_reducible exact ih0 _ _ _)
   | (with_reducible exact laws_toPiece.mono _ _ _ _ _ _)
   | (with_reducible exact LeO.refl _)
   | (with_reducible exact LeO.none _)
   | (with_reducible refine LeO.ite ?_ ?_)
   | (with_reducible refine LeO.bind ?_ (fun _ => ?_))
   | exact ih0 _ _ _
   | exact laws_toPiece.mono _ _ _ _ _ _
   | exact LeO.none _
   | refine LeO.ite ?_ ?_
   | refine LeO.bind ?_ (fun _ => ?_)
set_option maxHeartbeats 8000000 in
set_option maxRecDepth 100000 in
theorem laws_toPieceS.calls (k : Nat) (A0 : Option Addr) (c0 : Nat) (l0 : List (S117)) (r : List (S119)) (w : World) (hr0 : Kd.C k117 w A0 l0.length l0) (hc0 : l0.length ≤ c0) (h : laws_toPieceS.f k l0 = some r) :
  Calls Try.prog 46 #[.slice A0 l0.length c0] w fun e w' => ∃ v0_ : Value, e = .returned (v0_) ∧ Kd.S k119 119 w' w.heap.size (fun _ => True) v0_ r ∧ Below w.heap.size w w' := by
 have hu117 := Try.underlying117
 have hu119 := Try.underlying119
 have HR0 := Aside0.mk hr0
 have HC0 := Aside0.mk hc0
 clear hr0 hc0
 have HB := Aside0.mk (Below.refl w.heap.size w)
 have H : (if 0 ≤ (l0.length : Int) then (if ((l0.length : Int) : Int).toNat ≤ 2706490160679 then (laws_toPieceS.l0 k l0 (List.replicate ((l0.length : Int) : Int).toNat z119) 0) else (none)) else (none)) = some r := h
 clear h
 by_cases c2 : 0 ≤ (l0.length : Int)
 ·rw [if_pos c2] at H
  have c2b0 := eq_true c2
  have c2b1 : decide (0 ≤ (l0.length : Int)) = true := decide_eq_true c2
  clear c2
  by_cases c3 : ((l0.length : Int) : Int).toNat ≤ 2706490160679
  ·rw [if_pos c3] at H
   have c3b0 := eq_true c3
   have c3b1 : decide (((l0.length : Int) : Int).toNat ≤ 2706490160679) = true := decide_eq_true c3
   clear c3
   obtain ⟨y180, hy180⟩ : ∃ y_ : List (S119), y_ = (List.replicate ((l0.length : Int) : Int).toNat z119) := ⟨_, rfl⟩
   replace H : (laws_toPieceS.l0 k l0 y180 0) = some r := by first | (rw [hy180]; with_reducible exact H) | (have H2_ := (Option.bind_some _ _).symm.trans H; rw [hy180]; with_reducible exact H2_) | (have H2_ := (Option.bind_some _ _).symm.trans H; with_reducible exact H2_) | with_reducible exact H | (rw [hy180]; exact H) | exact H
   have Ny180 := Aside0.mk hy180
   clear hy180
   have H' := Aside0.mk H
   clear H
   go_enter Try.func46, Try.ntmps46
   go_wp2_with (first | ((with_reducible refine gate_dst (N := 7) rfl ?_); refine Kd.S_make k119 _ 119 rfl (N := 7) rfl 70 _ _ rfl (l0.length : Int) rfl rfl Try.underlying70 (.agg #[(.int .i64 0), (.slice none 0 0), (.slice none 0 0), (.slice none 0 0), (.slice none 0 0)]) 104 info119 rfl (by decide) (by omega) z119 (ok := fun _ => True) (okp := fun _ => True) (k119_mkM _ _ _ z119 (Kd.R_nil _ _ _ _ _) (Kd.R_nil _ _ _ _ _) (Kd.R_nil _ _ _ _ _) (Kd.R_nil _ _ _ _ _)) (fun _ hk => hk) trivial (of_decide_eq_true z3_3) (Nat.le_trans (Nat.mul_le_mul_right _ (of_decide_eq_true z3_3 : (l0.length : Int).toNat ≤ 2706490160679)) (by omega)) (Below.refl _ _) (Nat.le_refl _) ?_; intro v181 w4 ho5 hb hg_ hnew_; clear hg_ hnew_; (first | rw [← Ny180.out] at ho5 | (simp only [Int.reduceToNat] at ho5; rw [← Ny180.out] at ho5)); have n0_ := Aside0.mk (Kd.S_lower ho5 (below_size z3_1)); have n1_ := Aside0.mk (below_step z3_1 hb); clear HB; have HO182 := n0_; have HB := n1_; clear n0_ n1_; clear hb ho5))
   go_loopg [4] k (fun kq v4 w' => ∃ (x3_1 : List (S119)) (x4_1 : Int), v4 = .int .i64 x4_1 ∧ Aside0 (laws_toPieceS.l0 kq l0 x3_1 x4_1 = some r) ∧ Aside0 (kq ≤ k) ∧ Aside0 (Kd.S k119 119 w' w.heap.size (fun _ => True) v181 x3_1) ∧ Aside0 (Below w.heap.size w w'))
   case atStart => exact ⟨(y180), (0), z3_8, H', ⟨Nat.le_refl _⟩, ⟨by (with_reducible repeat (first | apply Kd.S_alloc | apply Kd.S_drewN | apply Kd.S_drew)); exact HO182.out⟩, ⟨z3_1⟩⟩
   case round =>
    clear H'
    try clear c2
    try clear c2b0
    try clear c2b1
    try clear p2
    try clear c3
    try clear c3b0
    try clear c3b1
    try clear c4
    obtain ⟨x3_1, x4_1, rfl, HA, HK1, HO_3, HB⟩ := hrel
    cases gk with
    | zero => exact absurd HA.out (by simp [laws_toPieceS.l0])
    | succ k1 =>
     have H := HA.out
     clear HA
     simp only [laws_toPieceS.l0] at H
     by_cases c6 : x4_1 < (l0.length : Int)
     ·rw [if_pos c6] at H
      have c6b0 : decide (x4_1 < (l0.length : Int)) = true := decide_eq_true c6
      clear c6
      by_cases c7 : 0 ≤ x4_1
      ·rw [if_pos c7] at H
       have c7b0 : decide (0 ≤ x4_1) = true := decide_eq_true c7
       clear c7
       replace H := Option.bind_eq_some_iff.mp H
       obtain ⟨⟨t184, t185, t188, t191, t194⟩, A80, H⟩ := H
       replace H : (if x4_1 < (x3_1.length : Int) then (laws_toPieceS.l0 k1 l0 (x3_1.set (x4_1 : Int).toNat (⟨t184, t185, t188, t191, t194⟩ : S119)) (wrap64 (x4_1 + 1))) else (none)) = some r := H
       have A8 := Aside0.mk A80
       clear A80
       by_cases c9 : x4_1 < (x3_1.length : Int)
       ·rw [if_pos c9] at H
        have c9b0 : decide (x4_1 < (x3_1.length : Int)) = true := decide_eq_true c9
        clear c9
        obtain ⟨y197, hy197⟩ : ∃ y_ : List (S119), y_ = (x3_1.set (x4_1 : Int).toNat (⟨t184, t185, t188, t191, t194⟩ : S119)) := ⟨_, rfl⟩
        replace H : (laws_toPieceS.l0 k1 l0 y197 (wrap64 (x4_1 + 1))) = some r := by first | (rw [hy197]; with_reducible exact H) | (have H2_ := (Option.bind_some _ _).symm.trans H; rw [hy197]; with_reducible exact H2_) | (have H2_ := (Option.bind_some _ _).symm.trans H; with_reducible exact H2_) | with_reducible exact H | (rw [hy197]; exact H) | exact H
        have Ny197 := Aside0.mk hy197
        clear hy197
        have H' := Aside0.mk H
        clear H
        have p183 : 0 ≤ (x4_1 : Int) := of_decide_eq_true z3_3
        have q183 : x4_1 < (l0.length : Int) := of_decide_eq_true z3_3
        obtain ⟨ad183, A183_1, c183_1, A183_2, c183_2, A183_3, c183_3, A183_4, c183_4, e183, hx183_0, hx183_1, hx183_2, hx183_3, hx183_4, hl183_1, hi183_1, hl183_2, hi183_2, hl183_3, hi183_3, hl183_4, hi183_4⟩ := at_T117 HR0.out x4_1 p183 q183
        cases e183
        replace hx183_0 := (HB.out.cell (World.block_lt_of_cell? w _ hx183_0)).trans hx183_0
        replace hx183_1 := (HB.out.cell (World.block_lt_of_cell? w _ hx183_1)).trans hx183_1
        replace hx183_2 := (HB.out.cell (World.block_lt_of_cell? w _ hx183_2)).trans hx183_2
        replace hx183_3 := (HB.out.cell (World.block_lt_of_cell? w _ hx183_3)).trans hx183_3
        replace hx183_4 := (HB.out.cell (World.block_lt_of_cell? w _ hx183_4)).trans hx183_4
        have HR183_1 := Aside0.mk hi183_1
        have HC183_1 := Aside0.mk hl183_1
        clear hi183_1 hl183_1
        have HR183_2 := Aside0.mk hi183_2
        have HC183_2 := Aside0.mk hl183_2
        clear hi183_2 hl183_2
        have HR183_3 := Aside0.mk hi183_3
        have HC183_3 := Aside0.mk hl183_3
        clear hi183_3 hl183_3
        have HR183_4 := Aside0.mk hi183_4
        have HC183_4 := Aside0.mk hl183_4
        clear hi183_4 hl183_4
        replace p183 := eq_true p183
        replace q183 := eq_true q183
        go_wp2_with (first | ((with_reducible refine gate_callee (f := 102) rfl ?_); refine goesL_ (some 20) rfl rfl Try.func102 (by kernel_rfl) rfl #[.agg #[.int .i64 ((rd_T117 l0 x4_1).f0), .slice A183_1 ((rd_T117 l0 x4_1).f1).length c183_1, .slice A183_2 ((rd_T117 l0 x4_1).f2).length c183_2, .slice A183_3 ((rd_T117 l0 x4_1).f3).length c183_3, .slice A183_4 ((rd_T117 l0 x4_1).f4).length c183_4]] rfl z3_7 ?_; (with_reducible refine (laws_toPiece.calls k1 ((rd_T117 l0 x4_1).f0) _ _ ((rd_T117 l0 x4_1).f1) _ _ ((rd_T117 l0 x4_1).f2) _ _ ((rd_T117 l0 x4_1).f3) _ _ ((rd_T117 l0 x4_1).f4) t184 t185 t188 t191 t194 _ ?side1 ?side2 ?side3 ?side4 ?side5 ?side6 ?side7 ?side8 A8.out).mono ?_); (case side1 => repeat (first | exact (Kd.C_below HR183_1.out HB.out) | (with_reducible refine Kd.C_alloc ?_ _) | (with_reducible refine Kd.C_drewN ?_ _) | (with_reducible refine Kd.C_drew ?_))); (case side2 => exact HC183_1.out); (case side3 => repeat (first | exact (Kd.C_below HR183_2.out HB.out) | (with_reducible refine Kd.C_alloc ?_ _) | (with_reducible refine Kd.C_drewN ?_ _) | (with_reducible refine Kd.C_drew ?_))); (case side4 => exact HC183_2.out); (case side5 => repeat (first | exact (Kd.C_below HR183_3.out HB.out) | (with_reducible refine Kd.C_alloc ?_ _) | (with_reducible refine Kd.C_drewN ?_ _) | (with_reducible refine Kd.C_drew ?_))); (case side6 => exact HC183_3.out); (case side7 => repeat (first | exact (Kd.C_below HR183_4.out HB.out) | (with_reducible refine Kd.C_alloc ?_ _) | (with_reducible refine Kd.C_drewN ?_ _) | (with_reducible refine Kd.C_drew ?_))); (case side8 => exact HC183_4.out); rintro e w11 ⟨v186, v189, v192, v195, rfl, ho0, ho1, ho2, ho3, hb⟩; refine ⟨_, rfl, ?_⟩; have n0_ := Aside0.mk (Kd.S_mono (Kd.S_told (Kd.S_told (Kd.S_told (Kd.S_told (Kd.S_old z3_22 hb) (Kd.R_base ho0)) (Kd.R_base ho1)) (Kd.R_base ho2)) (Kd.R_base ho3)) (fun _ h_ => h_.1)); have n1_ := Aside0.mk (Kd.R_lower ho0 (below_size z3_1)); have n2_ := Aside0.mk (Kd.R_lower ho1 (below_size z3_1)); have n3_ := Aside0.mk (Kd.R_lower ho2 (below_size z3_1)); have n4_ := Aside0.mk (Kd.R_lower ho3 (below_size z3_1)); have n5_ := Aside0.mk (below_step z3_1 hb); clear HO_3; clear HB; have HO_3 := n0_; have HO187 := n1_; have HO190 := n2_; have HO193 := n3_; have HO196 := n4_; have HB := n5_; clear n0_ n1_ n2_ n3_ n4_ n5_; (try clear hb); (try clear hb2); (try clear hk); (try clear hi); (try clear ho0); (try clear ho1); (try clear ho2); (try clear ho3); have p10 : 0 ≤ (x4_1 : Int) := of_decide_eq_true z3_3; have q10 : (x4_1 : Int) < ((x3_1.length : Int) : Int) := of_decide_eq_true z3_3; obtain ⟨go10, co10, eo10, gb10, gl10, cl10, HG10⟩ := Kd.S_form HO_3.out (by omega); (first | cases eo10 | (injection eo10 with ea_ en_ ec_; (first | subst ea_ | (injection ea_ with ea_; subst ea_)); subst ec_; clear en_)); have GB10 := Aside0.mk gb10; have GG10 := Aside0.mk HG10; clear gb10 gl10 HG10; obtain ⟨_, ce10, hcl10, hM10, hcc10, hfr10, _, _⟩ := Kd.S_elem HO_3.out z119 (x4_1 : Int) p10 q10; obtain ⟨ve10_1, ve10_2, ve10_3, ve10_4, rfl, ge10_1, ge10_2, ge10_3, ge10_4⟩ := k119_openM hM10; have hx10_0 : w11.cell? ⟨go10, (x4_1 : Int).toNat * 5, none⟩ = some (.int .i64 ((rd_T119 x3_1 x4_1).f0)) := hcc10 0 _ rfl; have hx10_1 : w11.cell? ⟨go10, (x4_1 : Int).toNat * 5 + 1, none⟩ = some (ve10_1) := hcc10 1 _ rfl; have hx10_2 : w11.cell? ⟨go10, (x4_1 : Int).toNat * 5 + 2, none⟩ = some (ve10_2) := hcc10 2 _ rfl; have hx10_3 : w11.cell? ⟨go10, (x4_1 : Int).toNat * 5 + 3, none⟩ = some (ve10_3) := hcc10 3 _ rfl; have hx10_4 : w11.cell? ⟨go10, (x4_1 : Int).toNat * 5 + 4, none⟩ = some (ve10_4) := hcc10 4 _ rfl; have hf10_0 : w11.frozen? ⟨go10, (x4_1 : Int).toNat * 5, none⟩ = false := hfr10 0; have hf10_1 : w11.frozen? ⟨go10, (x4_1 : Int).toNat * 5 + 1, none⟩ = false := hfr10 1; have hf10_2 : w11.frozen? ⟨go10, (x4_1 : Int).toNat * 5 + 2, none⟩ = false := hfr10 2; have hf10_3 : w11.frozen? ⟨go10, (x4_1 : Int).toNat * 5 + 3, none⟩ = false := hfr10 3; have hf10_4 : w11.frozen? ⟨go10, (x4_1 : Int).toNat * 5 + 4, none⟩ = false := hfr10 4; clear hcl10 hcc10 hfr10 hM10; replace p10 := eq_true p10; replace q10 := eq_true q10; obtain ⟨Ao12, co12, eo12⟩ := Kd.R_slice HO187.out; subst eo12; obtain ⟨Ao13, co13, eo13⟩ := Kd.R_slice HO190.out; subst eo13; obtain ⟨Ao14, co14, eo14⟩ := Kd.R_slice HO193.out; subst eo14; obtain ⟨Ao15, co15, eo15⟩ := Kd.R_slice HO196.out; subst eo15; have n_ := Aside0.mk (Kd.S_mono (ok' := (fun k_ => some k_ ≠ (.slice Ao12 t185.length co12 : Value).ownBlock ∧ some k_ ≠ (.slice Ao13 t188.length co13 : Value).ownBlock ∧ some k_ ≠ (.slice Ao14 t191.length co14 : Value).ownBlock ∧ some k_ ≠ (.slice Ao15 t194.length co15 : Value).ownBlock)) HO_3.out (fun k_ hk => ⟨hk.1.1.1.2, ⟨hk.1.1.2, ⟨hk.1.2, hk.2⟩⟩⟩)); clear HO_3; have HO_3 := n_; clear n_; have HX16 := Aside0.mk (show Kd.S k119 119 w11 w.heap.size (fun k_ => ((fun _ => True)) k_ ∧ ¬ ((fun k_ => some k_ = (.slice Ao12 t185.length co12 : Value).ownBlock ∨ some k_ = (.slice Ao13 t188.length co13 : Value).ownBlock ∨ some k_ = (.slice Ao14 t191.length co14 : Value).ownBlock ∨ some k_ = (.slice Ao15 t194.length co15 : Value).ownBlock)) k_) (.slice (some ⟨go10, 0, none⟩) x3_1.length co10) x3_1 from (by (with_reducible repeat (first | apply Kd.S_alloc | apply Kd.S_drewN | apply Kd.S_drew)); exact Kd.S_mono HO_3.out (fun k_ hk => ⟨trivial, fun e_ => e_.elim (fun h_ => hk.1 h_) (fun h_ => h_.elim (fun h_ => hk.2.1 h_) (fun h_ => h_.elim (fun h_ => hk.2.2.1 h_) (fun h_ => hk.2.2.2 h_)))⟩))); obtain ⟨oki16, ce16, hcl16, hM16, hcc16, hfr16, hoki16, hH16⟩ := Kd.S_elem HX16.out z119 (x4_1 : Int) (of_decide_eq_true z3_3) (by have h_ : (x4_1 : Int) < ((x3_1.length : Int) : Int) := of_decide_eq_true z3_3; first | exact h_ | (have e_ := (Kd.S_reads' HO_3.out).1; omega) | simpa using h_); obtain ⟨ve16_1, ve16_2, ve16_3, ve16_4, rfl, ge16_1, ge16_2, ge16_3, ge16_4⟩ := k119_openM hM16; have HP16 := Kd.S_seg hH16 (of_decide_eq_true z3_3) (by have h_ : (x4_1 : Int) < ((x3_1.length : Int) : Int) := of_decide_eq_true z3_3; first | exact h_ | (have e_ := (Kd.S_reads' HO_3.out).1; omega) | simpa using h_) (seg := [.int .i64 t184, .slice Ao12 t185.length co12, .slice Ao13 t188.length co13, .slice Ao14 t191.length co14, .slice Ao15 t194.length co15]) (j := 0) (show 5 ≤ 5 from by decide) (x' := (⟨t184, t185, t188, t191, t194⟩ : S119)) (k119_mkM _ _ _ (⟨t184, t185, t188, t191, t194⟩ : S119) (Kd.R_mono (Kd.R_tight rfl (Kd.R_mono (ok' := fun k_ => ((fun _ => True)) k_ ∧ k_ ≠ go10) (Kd.R_apart' (HO187.out) (Kd.S_typed HO_3.out) (by decide)) (fun k_ hk => ⟨trivial, fun e_ => (hk.2) (by rw [e_]; rfl)⟩))) (fun _ h_ => Or.inr (Or.inl h_))) (Kd.R_mono (Kd.R_tight rfl (Kd.R_mono (ok' := fun k_ => ((fun _ => True)) k_ ∧ k_ ≠ go10) (Kd.R_apart' (HO190.out) (Kd.S_typed HO_3.out) (by decide)) (fun k_ hk => ⟨trivial, fun e_ => (hk.2) (by rw [e_]; rfl)⟩))) (fun _ h_ => Or.inr (Or.inr (Or.inl h_)))) (Kd.R_mono (Kd.R_tight rfl (Kd.R_mono (ok' := fun k_ => ((fun _ => True)) k_ ∧ k_ ≠ go10) (Kd.R_apart' (HO193.out) (Kd.S_typed HO_3.out) (by decide)) (fun k_ hk => ⟨trivial, fun e_ => (hk.2) (by rw [e_]; rfl)⟩))) (fun _ h_ => Or.inr (Or.inr (Or.inr (Or.inl h_))))) (Kd.R_mono (Kd.R_tight rfl (Kd.R_mono (ok' := fun k_ => ((fun _ => True)) k_ ∧ k_ ≠ go10) (Kd.R_apart' (HO196.out) (Kd.S_typed HO_3.out) (by decide)) (fun k_ hk => ⟨trivial, fun e_ => (hk.2) (by rw [e_]; rfl)⟩))) (fun _ h_ => Or.inr (Or.inr (Or.inr (Or.inr (h_))))))) (fun _ hk => hk) (fun k_ hk_ => hk_.elim (fun h_ => ((Kd.R_mono (ok' := fun k_ => ((fun _ => True)) k_ ∧ k_ ≠ go10) (Kd.R_apart' (HO187.out) (Kd.S_typed HO_3.out) (by decide)) (fun k_ hk => ⟨trivial, fun e_ => (hk.2) (by rw [e_]; rfl)⟩))).1 k_ h_.symm) (fun h_ => h_.elim (fun h_ => ((Kd.R_mono (ok' := fun k_ => ((fun _ => True)) k_ ∧ k_ ≠ go10) (Kd.R_apart' (HO190.out) (Kd.S_typed HO_3.out) (by decide)) (fun k_ hk => ⟨trivial, fun e_ => (hk.2) (by rw [e_]; rfl)⟩))).1 k_ h_.symm) (fun h_ => h_.elim (fun h_ => ((Kd.R_mono (ok' := fun k_ => ((fun _ => True)) k_ ∧ k_ ≠ go10) (Kd.R_apart' (HO193.out) (Kd.S_typed HO_3.out) (by decide)) (fun k_ hk => ⟨trivial, fun e_ => (hk.2) (by rw [e_]; rfl)⟩))).1 k_ h_.symm) (fun h_ => ((Kd.R_mono (ok' := fun k_ => ((fun _ => True)) k_ ∧ k_ ≠ go10) (Kd.R_apart' (HO196.out) (Kd.S_typed HO_3.out) (by decide)) (fun k_ hk => ⟨trivial, fun e_ => (hk.2) (by rw [e_]; rfl)⟩))).1 k_ h_.symm)))); have hx16_0 := hcc16 0 _ rfl; (try simp only [show (k119).sz = 5 from rfl, Nat.mul_one, Nat.add_zero] at hx16_0); have hf16_0 := hfr16 0; (try simp only [show (k119).sz = 5 from rfl, Nat.mul_one, Nat.add_zero] at hf16_0); have hx16_1 := hcc16 1 _ rfl; (try simp only [show (k119).sz = 5 from rfl, Nat.mul_one, Nat.add_zero] at hx16_1); have hf16_1 := hfr16 1; (try simp only [show (k119).sz = 5 from rfl, Nat.mul_one, Nat.add_zero] at hf16_1); have hx16_2 := hcc16 2 _ rfl; (try simp only [show (k119).sz = 5 from rfl, Nat.mul_one, Nat.add_zero] at hx16_2); have hf16_2 := hfr16 2; (try simp only [show (k119).sz = 5 from rfl, Nat.mul_one, Nat.add_zero] at hf16_2); have hx16_3 := hcc16 3 _ rfl; (try simp only [show (k119).sz = 5 from rfl, Nat.mul_one, Nat.add_zero] at hx16_3); have hf16_3 := hfr16 3; (try simp only [show (k119).sz = 5 from rfl, Nat.mul_one, Nat.add_zero] at hf16_3); have hx16_4 := hcc16 4 _ rfl; (try simp only [show (k119).sz = 5 from rfl, Nat.mul_one, Nat.add_zero] at hx16_4); have hf16_4 := hfr16 4; (try simp only [show (k119).sz = 5 from rfl, Nat.mul_one, Nat.add_zero] at hf16_4); clear hcl16 hcc16 hfr16 hM16 hoki16 hH16) | ((with_reducible refine gate_store (t := 119) (p := 21) rfl ?_); refine store_event (t := 119) (p := 21) (v := ?vo_w17) (w1 := (((((w11.setCell ⟨go10, (x4_1 : Int).toNat * 5, none⟩ (.int .i64 t184)).setCell ⟨go10, (x4_1 : Int).toNat * 5 + 1, none⟩ (.slice Ao12 t185.length co12)).setCell ⟨go10, (x4_1 : Int).toNat * 5 + 2, none⟩ (.slice Ao13 t188.length co13)).setCell ⟨go10, (x4_1 : Int).toNat * 5 + 3, none⟩ (.slice Ao14 t191.length co14)).setCell ⟨go10, (x4_1 : Int).toNat * 5 + 4, none⟩ (.slice Ao15 t194.length co15))) ?hg ?ho ?hn ?hr ?_; (case ho => rfl); (case hg => rfl); (case hn => rfl); (case hr => exact z3_0); intro w17 hw; have hg : w11.grownBy w17 (some go10) := (by rw [hw]; exact HP16.2); have hp_ : Kd.S k119 119 w17 w.heap.size (fun _ => True) (.slice (some ⟨go10, 0, none⟩) x3_1.length co10) y197 := (by rw [hw, Ny197.out]; exact HP16.1); clear HP16; have n0_ := Aside0.mk (hp_); have n1_ := Aside0.mk ((by rw [hw]; exact below_set (below_set (below_set (below_set (below_set (HB.out) GB10.out) GB10.out) GB10.out) GB10.out) GB10.out : Below w.heap.size w w17)); clear HO_3; clear HB; clear HO187; clear HO190; clear HO193; clear HO196; have HO_3 := n0_; have HB := n1_; clear n0_ n1_; clear hg hw hp_))
        go_roundg k1
        case measure => have := HK1.out; omega
        case rel => exact ⟨(y197), (wrap64 (x4_1 + 1)), z3_8, H', ⟨by have := HK1.out; omega⟩, ⟨z3_22⟩, ⟨z3_1⟩⟩
       ·rw [if_neg c9] at H
        exact absurd H (by simp)
      ·rw [if_neg c7] at H
       exact absurd H (by simp)
     ·rw [if_neg c6] at H
      have c6b0 : decide (x4_1 < (l0.length : Int)) = false := decide_eq_false c6
      clear c6
      obtain rfl := Option.some.inj H
      go_wp2
      go_ret
      exact ⟨_, z3_11, z3_22, z3_1⟩
  ·rw [if_neg c3] at H
   exact absurd H (by simp)
 ·rw [if_neg c2] at H
  exact absurd H (by simp)

/-! ### impl_workersFit: function 77 -/
def impl_workersFit.f (a0 : Int) : Option (Bool) := if a0 ≥ 1 then (some (decide (a0 ≤ 6))) else (some false)
set_option maxHeartbeats 8000000 in
set_option maxRecDepth 100000 in
theorem impl_workersFit.calls (a0 : Int) (r : Bool) (w : World) (h : impl_workersFit.f a0 = some r) :
  Calls Try.prog 77 #[.int .i64 a0] w fun e w' => e = .returned (.bool r) ∧ Drawn0 w w' := by
 have H : (if a0 ≥ 1 then (some (decide (a0 ≤ 6))) else (some false)) = some r := h
 clear h
 by_cases c2 : a0 ≥ 1
 ·rw [if_pos c2] at H
  have c2b0 : decide (1 ≤ a0) = true := decide_eq_true c2
  clear c2
  obtain rfl := Option.some.inj H
  go_enter Try.func77, Try.ntmps77
  go_wp2
  go_ret
  exact ⟨z3_8, z3_12⟩
 ·rw [if_neg c2] at H
  have c2b0 : decide (1 ≤ a0) = false := decide_eq_false c2
  clear c2
  obtain rfl := Option.some.inj H
  go_enter Try.func77, Try.ntmps77
  go_wp2
  go_ret
  exact ⟨z3_8, z3_12⟩

/-! ### slices_Equal_int_int: function 73 -/
def slices_Equal_int_int.l0 : Nat → List Int → List Int → Int → Int → Option (Bool)
 | 0, _, _, _, _ => none
 | k + 1, x0, x1, x12, x13 => if x13 < x12 then (if 0 ≤ x13 then (if x13 < (x0.length : Int) then (if x13 < (x1.length : Int) then (if (rd x0 x13) = (rd x1 x13) then (slices_Equal_int_int.l0 k x0 x1 x12 (wrap64 (x13 + 1))) else (some false)) else (none)) else (none)) else (none)) else (some true)
def slices_Equal_int_int.f (k : Nat) (l0 : List Int) (l1 : List Int) : Option (Bool) := if (l0.length : Int) = (l1.length : Int) then (slices_Equal_int_int.l0 k l0 l1 (l0.length : Int) 0) else (some false)
theorem slices_Equal_int_int.mono_l : ∀ k, (∀ y0 y1 y2 y3, LeO (slices_Equal_int_int.l0 k y0 y1 y2 y3) (slices_Equal_int_int.l0 (k + 1) y0 y1 y2 y3))
 | 0 => fun _ _ _ _ r h => by simp [slices_Equal_int_int.l0] at h
 | k + 1 => by
  have ih0 := slices_Equal_int_int.mono_l k
  ·intro y0 y1 y2 y3
   unfold slices_Equal_int_int.l0
   repeat' first
   | (with_reducible exact ih0 _ _ _ _)
   | (with_reducible exact LeO.refl _)
   | (with_reducible exact LeO.none _)
   | (with_reducible refine LeO.ite ?_ ?_)
   | (with_reducible refine LeO.bind ?_ (fun _ => ?_))
   | exact ih0 _ _ _ _
   | exact LeO.none _
   | refine LeO.ite ?_ ?_
   | refine LeO.bind ?_ (fun _ => ?_)
theorem slices_Equal_int_int.mono : ∀ a0 a1 k, LeO (slices_Equal_int_int.f k a0 a1) (slices_Equal_int_int.f (k + 1) a0 a1) := by
 intro a0 a1 k
 have ih0 := slices_Equal_int_int.mono_l k
 unfold slices_Equal_int_int.f
 repeat' first
   | (with_reducible exact ih0 _ _ _ _)
   | (with_reducible exact LeO.refl _)
   | (with_reducible exact LeO.none _)
   | (with_reducible refine LeO.ite ?_ ?_)
   | (with_reducible refine LeO.bind ?_ (fun _ => ?_))
   | exact ih0 _ _ _ _
   | exact LeO.none _
   | refine LeO.ite ?_ ?_
   | refine LeO.bind ?_ (fun _ => ?_)
set_option maxHeartbeats 8000000 in
set_option maxRecDepth 100000 in
theorem slices_Equal_int_int.calls (k : Nat) (A0 : Option Addr) (c0 : Nat) (l0 : List Int) (A1 : Option Addr) (c1 : Nat) (l1 : List Int) (r : Bool) (w : World) (hr0 : Kd.C (Kd.int .i64) w A0 l0.length l0) (hc0 : l0.length ≤ c0) (hr1 : Kd.C (Kd.int .i64) w A1 l1.length l1) (hc1 : l1.length ≤ c1) (h : slices_Equal_int_int.f k l0 l1 = some r) :
  Calls Try.prog 73 #[.slice A0 l0.length c0, .slice A1 l1.length c1] w fun e w' => e = .returned (.bool r) ∧ Drawn0 w w' := by
 have HR0 := Aside0.mk hr0
 have HC0 := Aside0.mk hc0
 clear hr0 hc0
 have HR1 := Aside0.mk hr1
 have HC1 := Aside0.mk hc1
 clear hr1 hc1
 have H : (if (l0.length : Int) = (l1.length : Int) then (slices_Equal_int_int.l0 k l0 l1 (l0.length : Int) 0) else (some false)) = some r := h
 clear h
 by_cases c3 : (l0.length : Int) = (l1.length : Int)
 ·rw [if_pos c3] at H
  have c3b0 : ((l0.length : Int) == (l1.length : Int)) = true := beq_iff_eq.mpr c3
  have c3b1 : ((l0.length : Int) != (l1.length : Int)) = false := bne_eq_false_iff_eq.mpr c3
  have c3b2 : (l0.length == l1.length) = true := by first | simpa using c3 | (simp at c3 ⊢; omega)
  clear c3
  have H' := Aside0.mk H
  clear H
  go_enter Try.func73, Try.ntmps73
  go_wp2
  repeat (go_quiet (fail); try go_wp2)
  go_loopg [13] k (fun kq v13 w' => ∃ (x13_1 : Int), v13 = .int .i64 x13_1 ∧ Aside0 (slices_Equal_int_int.l0 kq l0 l1 (l0.length : Int) x13_1 = some r) ∧ Aside0 (kq ≤ k) ∧ Drawn0 w w')
  case atStart => exact ⟨(0), z3_8, H', ⟨Nat.le_refl _⟩, z3_12⟩
  case round =>
   clear H'
   try clear c1
   try clear p2
   try clear c3
   try clear c3b0
   try clear c3b1
   try clear c3b2
   obtain ⟨x13_1, rfl, HA, HK1, ⟨m1, rfl⟩⟩ := hrel
   cases gk with
   | zero => exact absurd HA.out (by simp [slices_Equal_int_int.l0])
   | succ k1 =>
    have H := HA.out
    clear HA
    simp only [slices_Equal_int_int.l0] at H
    by_cases c4 : x13_1 < (l0.length : Int)
    ·rw [if_pos c4] at H
     have c4b0 : decide (x13_1 < (l0.length : Int)) = true := decide_eq_true c4
     clear c4
     by_cases c5 : 0 ≤ x13_1
     ·rw [if_pos c5] at H
      have c5b0 : decide (0 ≤ x13_1) = true := decide_eq_true c5
      clear c5
      by_cases c6 : x13_1 < (l0.length : Int)
      ·rw [if_pos c6] at H
       have c6b0 : decide (x13_1 < (l0.length : Int)) = true := decide_eq_true c6
       clear c6
       by_cases c7 : x13_1 < (l1.length : Int)
       ·rw [if_pos c7] at H
        have c7b0 : decide (x13_1 < (l1.length : Int)) = true := decide_eq_true c7
        clear c7
        by_cases c8 : (rd l0 x13_1) = (rd l1 x13_1)
        ·rw [if_pos c8] at H
         have c8b0 : ((rd l0 x13_1) == (rd l1 x13_1)) = true := beq_iff_eq.mpr c8
         have c8b1 : ((rd l0 x13_1) != (rd l1 x13_1)) = false := bne_eq_false_iff_eq.mpr c8
         clear c8
         have H' := Aside0.mk H
         clear H
         have p198 : 0 ≤ (x13_1 : Int) := of_decide_eq_true z3_3
         have q198 : x13_1 < (l0.length : Int) := of_decide_eq_true z3_3
         obtain ⟨ad198, e198, hx198_0⟩ := Kd.at_int HR0.out x13_1 p198 q198
         cases e198
         replace p198 := eq_true p198
         replace q198 := eq_true q198
         have p199 : 0 ≤ (x13_1 : Int) := of_decide_eq_true z3_3
         have q199 : x13_1 < (l1.length : Int) := of_decide_eq_true z3_3
         obtain ⟨ad199, e199, hx199_0⟩ := Kd.at_int HR1.out x13_1 p199 q199
         cases e199
         replace p199 := eq_true p199
         replace q199 := eq_true q199
         go_wp2
         repeat (go_quiet (fail); try go_wp2)
         go_roundg k1
         case measure => have := HK1.out; omega
         case rel => exact ⟨(wrap64 (x13_1 + 1)), z3_8, H', ⟨by have := HK1.out; omega⟩, z3_12⟩
        ·rw [if_neg c8] at H
         have c8b0 : ((rd l0 x13_1) == (rd l1 x13_1)) = false := beq_eq_false_iff_ne.mpr c8
         have c8b1 : ((rd l0 x13_1) != (rd l1 x13_1)) = true := bne_iff_ne.mpr c8
         obtain rfl := Option.some.inj H
         have p198 : 0 ≤ (x13_1 : Int) := of_decide_eq_true z3_3
         have q198 : x13_1 < (l0.length : Int) := of_decide_eq_true z3_3
         obtain ⟨ad198, e198, hx198_0⟩ := Kd.at_int HR0.out x13_1 p198 q198
         cases e198
         replace p198 := eq_true p198
         replace q198 := eq_true q198
         have p199 : 0 ≤ (x13_1 : Int) := of_decide_eq_true z3_3
         have q199 : x13_1 < (l1.length : Int) := of_decide_eq_true z3_3
         obtain ⟨ad199, e199, hx199_0⟩ := Kd.at_int HR1.out x13_1 p199 q199
         cases e199
         replace p199 := eq_true p199
         replace q199 := eq_true q199
         go_wp2
         repeat (go_quiet (fail); try go_wp2)
         go_ret
         exact ⟨z3_8, z3_12⟩
       ·rw [if_neg c7] at H
        exact absurd H (by simp)
      ·rw [if_neg c6] at H
       exact absurd H (by simp)
     ·rw [if_neg c5] at H
      exact absurd H (by simp)
    ·rw [if_neg c4] at H
     have c4b0 : decide (x13_1 < (l0.length : Int)) = false := decide_eq_false c4
     clear c4
     obtain rfl := Option.some.inj H
     go_wp2
     repeat (go_quiet (fail); try go_wp2)
     go_ret
     exact ⟨z3_8, z3_12⟩
 ·rw [if_neg c3] at H
  have c3b0 : ((l0.length : Int) == (l1.length : Int)) = false := beq_eq_false_iff_ne.mpr c3
  have c3b1 : ((l0.length : Int) != (l1.length : Int)) = true := bne_iff_ne.mpr c3
  have c3b2 : (l0.length == l1.length) = false := by first | simpa using c3 | (simp at c3 ⊢; omega)
  obtain rfl := Option.some.inj H
  go_enter Try.func73, Try.ntmps73
  go_wp2
  repeat (go_quiet (fail); try go_wp2)
  go_ret
  exact ⟨z3_8, z3_12⟩

/-! ### impl_valueFits: function 123 -/
def impl_valueFits.f (a0 : Int) : Option (Bool) := if a0 ≥ (-1) then (some (decide (a0 < 1000000))) else (some false)
set_option maxHeartbeats 8000000 in
set_option maxRecDepth 100000 in
theorem impl_valueFits.calls (a0 : Int) (r : Bool) (w : World) (h : impl_valueFits.f a0 = some r) :
  Calls Try.prog 123 #[.int .i64 a0] w fun e w' => e = .returned (.bool r) ∧ Drawn0 w w' := by
 have H : (if a0 ≥ (-1) then (some (decide (a0 < 1000000))) else (some false)) = some r := h
 clear h
 by_cases c2 : a0 ≥ (-1)
 ·rw [if_pos c2] at H
  have c2b0 : decide ((-1) ≤ a0) = true := decide_eq_true c2
  clear c2
  obtain rfl := Option.some.inj H
  go_enter Try.func123, Try.ntmps123
  go_wp2
  go_ret
  exact ⟨z3_8, z3_12⟩
 ·rw [if_neg c2] at H
  have c2b0 : decide ((-1) ≤ a0) = false := decide_eq_false c2
  clear c2
  obtain rfl := Option.some.inj H
  go_enter Try.func123, Try.ntmps123
  go_wp2
  go_ret
  exact ⟨z3_8, z3_12⟩

end Go.Proofs.Ytloiafnoekpaoab.PFnExactPiecesValid
