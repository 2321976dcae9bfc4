/- Laid by a program of this session out of the translation: functions, their contracts, the row. Lean checks it. -/
import Derived.Test.YtgdcnlmhdbdijaaPFnExactCombineMessagesx0
import Derived.Test.YtgdcnlmhdbdijaaPFnExactCombineMessagesx1
import Derived.Test.YtgdcnlmhdbdijaaPFnExactCombineMessagesx4
import Derived.Test.YtgdcnlmhdbdijaaPFnExactCombineMessagesx5
import Derived.Test.YtgdcnlmhdbdijaaPFnExactCombineMessagesx8
namespace Go.Proofs.Ytgdcnlmhdbdijaa.PFnExactCombineMessages
open Go.RowKit Go.Proofs.YtgdcnlmhdbdijaaW.PrintWords Go.Proofs.YtgdcnlmhdbdijaaW.PrintLast Go.Proofs.YtgdcnlmhdbdijaaW.PrintMore
theorem z9_0 {p : Prop} (h : p := by first | (go_simp; done) | (go_simp; rfl)) : p := h
theorem z9_1 {p : Prop} (h : p := by repeat (first | (with_reducible first | exact HB.out | apply below_alloc | apply pw_below_drewN | apply below_drew1 | refine below_set ?_ GE237.out) | exact HB.out)) : p := h
theorem z9_2 {p : Prop} (h : p := by (try simp only [List.map_toArray, List.map_cons, List.map_nil]); first | done | rfl | (simp only [List.length_drop, List.length_take]; rfl)) : p := h
theorem z9_3 {p : Prop} (h : p := by (with_reducible repeat (first | refine blk_drewN ?_ _ | refine blk_drew ?_ | refine blk_alloc ?_ _)); exact BK237.out) : p := h
theorem z9_4 {p : Prop} (h : p := by first | (with_reducible assumption) | assumption) : p := h
theorem z9_5 {p : Prop} (h : p := by (with_reducible repeat (first | apply Kd.R_alloc | apply Kd.R_drewN | apply Kd.R_drew)); exact HO244.out) : p := h
theorem z9_6 {p : Prop} (h : p := by repeat (first | (with_reducible first | exact HB.out | apply below_alloc | apply pw_below_drewN | apply below_drew1) | exact HB.out)) : p := h
theorem z9_7 {p : Prop} (h : p := by (with_reducible repeat (first | apply Kd.R_alloc | apply Kd.R_drewN | apply Kd.R_drew)); exact HO247.out) : p := h
theorem z9_8 {p : Prop} (h : p := by (with_reducible repeat (first | apply Kd.R_alloc | apply Kd.R_drewN | apply Kd.R_drew)); exact HO250.out) : p := h
theorem z9_9 {p : Prop} (h : p := by repeat (first | (with_reducible first | exact HK.out | apply Kept.alloc | apply Kept.drewN | apply Kept.drew) | exact HK.out)) : p := h
theorem z9_10 {p : Prop} (h : p := by first | rfl | (simp; done) | (simp [*]; done)) : p := h
theorem z9_11 {p : Prop} (h : p := by (with_reducible repeat (first | apply Kd.R_alloc | apply Kd.R_drewN | apply Kd.R_drew)); exact HO_6.out) : p := h
theorem z9_12 {p : Prop} (h : p := by (with_reducible repeat (first | apply Kd.R_alloc | apply Kd.R_drewN | apply Kd.R_drew)); exact HO_8.out) : p := h
theorem z9_13 {p : Prop} (h : p := by (with_reducible repeat (first | apply Kd.R_alloc | apply Kd.R_drewN | apply Kd.R_drew)); exact HO256.out) : p := h
theorem z9_14 {p : Prop} (h : p := by (with_reducible repeat (first | apply Kd.R_alloc | apply Kd.R_drewN | apply Kd.R_drew)); exact HO_0.out) : p := h
theorem z9_15 {p : Prop} (h : p := by repeat (first | exact Drawn0.refl _ | apply Drawn0.step)) : p := h
theorem z9_16 {p : Prop} (h : p := by (try simp only [List.map_toArray, List.map_cons, List.map_nil]); first | done | (rw [show t266.length = t254.length from (Kd.R_reads' HO_8.out).1.symm] <;> rfl) | rfl | (simp only [List.length_drop, List.length_take]; rfl)) : p := h
theorem z9_17 {p : Prop} (h : p := by (with_reducible repeat (first | apply Kd.R_alloc | apply Kd.R_drewN | apply Kd.R_drew)); exact HO273.out) : p := h
theorem z9_18 {p : Prop} (h : p := by first | rfl | (simp [errW_none, errW_some] <;> rfl) | (simp [*, errW_none, errW_some] <;> rfl)) : p := h
theorem z9_19 {p : Prop} (h : p := by (with_reducible repeat (first | apply Kd.R_alloc | apply Kd.R_drewN | apply Kd.R_drew)); exact Kd.R_mono HO247.out (fun _ hk => hk.2.2.1)) : p := h
theorem z9_20 {p : Prop} (h : p := by (with_reducible repeat (first | apply Kd.R_alloc | apply Kd.R_drewN | apply Kd.R_drew)); exact Kd.R_mono HO256.out (fun _ hk => hk.2.1)) : p := h
theorem z9_21 {p : Prop} (h : p := by (with_reducible repeat (first | apply Kd.R_alloc | apply Kd.R_drewN | apply Kd.R_drew)); exact HO260.out) : p := h
attribute [local go_sem] max2_int min2_int max_two min_two max_three min_three max_four min_four   -- for this text's walks alone
set_option linter.unusedVariables false
set_option linter.unusedSimpArgs false

/-! ### laws_markMessageS: function 36 -/
def laws_markMessageS.l0 : Nat → List (S34) → Int → Int → Option (Int × (List (S34)))
 | 0, _, _, _ => none
 | k + 1, x0, x1, x5 => if x5 < (x0.length : Int) then (if 0 ≤ x5 then ((some (x0.set (x5 : Int).toNat (⟨x1, (rd_T34 x0 x5).f1, (rd_T34 x0 x5).f2⟩ : S34) : List (S34))).bind fun y231 => ((some (y231.set (x5 : Int).toNat (⟨(rd_T34 y231 x5).f0, wrap64 (x1 + 1), (rd_T34 y231 x5).f2⟩ : S34) : List (S34))).bind fun y232 => (laws_markMessageS.l0 k (y232.set (x5 : Int).toNat (⟨(rd_T34 y232 x5).f0, (rd_T34 y232 x5).f1, wrap64 ((wrap64 (x1 + 1)) + 1)⟩ : S34)) (wrap64 ((wrap64 ((wrap64 (x1 + 1)) + 1)) + 1)) (wrap64 (x5 + 1))))) else (none)) else (some (x1, x0))
def laws_markMessageS.f (k : Nat) (l0 : List (S34)) (a1 : Int) : Option (Int × (List (S34))) := laws_markMessageS.l0 k l0 a1 0
theorem laws_markMessageS.mono_l : ∀ k, (∀ y0 y1 y2, LeO (laws_markMessageS.l0 k y0 y1 y2) (laws_markMessageS.l0 (k + 1) y0 y1 y2))
 | 0 => fun _ _ _ r h => by simp [laws_markMessageS.l0] at h
 | k + 1 => by
  have ih0 := laws_markMessageS.mono_l k
  ·intro y0 y1 y2
   unfold laws_markMessageS.l0
   repeat' first
   | (with_reducible exact ih0 _ _ _)
   | (with_reducible exact LeO.refl _)
   | (with_reducible exact LeO.none _)
   | (with_reducible refine LeO.ite ?_ ?_)
   | (with_reducible refine LeO.bind ?_ (fun _ => ?_))
   | exact ih0 _ _ _
   | exact LeO.none _
   | refine LeO.ite ?_ ?_
   | refine LeO.bind ?_ (fun _ => ?_)
theorem laws_markMessageS.mono : ∀ a0 a1 k, LeO (laws_markMessageS.f k a0 a1) (laws_markMessageS.f (k + 1) a0 a1) := by
 intro a0 a1 k
 have ih0 := laws_markMessageS.mono_l k
 unfold laws_markMessageS.f
 repeat' first
   | (with_reducible exact ih0 _ _ _)
   | (with_reducible exact LeO.refl _)
   | (with_reducible exact LeO.none _)
   | (with_reducible refine LeO.ite ?_ ?_)
   | (with_reducible refine LeO.bind ?_ (fun _ => ?_))
   | exact ih0 _ _ _
   | exact LeO.none _
   | refine LeO.ite ?_ ?_
   | refine LeO.bind ?_ (fun _ => ?_)
set_option maxHeartbeats 8000000 in
set_option maxRecDepth 100000 in
theorem laws_markMessageS.calls (k : Nat) (P0_ : Nat → Prop) (u9000_ : Value) (l0 : List (S34)) (a1 : Int) (r1 : Int) (r2 : List (S34)) (w0 w : World) (hB : Below w0.heap.size w0 w) (ho0 : Kd.R k34 34 w w0.heap.size P0_ u9000_ l0) (h : laws_markMessageS.f k l0 a1 = some (r1, r2)) :
  Calls Try.prog 36 #[u9000_, .int .i64 a1] w fun e w' => e = .returned (.int .i64 r1) ∧ Kd.R k34 34 w' w0.heap.size (fun k_ => (P0_ k_ ∨ w.heap.size ≤ k_)) u9000_ r2 ∧ Below w0.heap.size w0 w' ∧ Kept w w' (fun k_ => P0_ k_) := by
 have HO0 := Aside0.mk (show Kd.R k34 34 w w0.heap.size (fun k_ => (P0_ k_ ∨ w.heap.size ≤ k_)) u9000_ l0 from Kd.R_mono ho0 (fun k_ hk => (.inl hk)))
 have HK := Aside0.mk (Kept.refl w (fun k_ => P0_ k_))
 have HW0 := Aside0.mk hB.size
 have HB := Aside0.mk hB
 clear hB
 have H : (laws_markMessageS.l0 k l0 a1 0) = some (r1, r2) := h
 clear h
 have H' := Aside0.mk H
 clear H
 go_enter Try.func36, Try.ntmps36
 go_wp2
 go_loopg [1, 5] k (fun kq v1 v5 w' => ∃ (x0_1 : List (S34)) (x1_1 : Int) (x5_1 : Int), v1 = .int .i64 x1_1 ∧ v5 = .int .i64 x5_1 ∧ Aside0 (laws_markMessageS.l0 kq x0_1 x1_1 x5_1 = some (r1, r2)) ∧ Aside0 (kq ≤ k) ∧ Aside0 (Kd.R k34 34 w' w0.heap.size (fun k_ => (P0_ k_ ∨ w.heap.size ≤ k_)) u9000_ x0_1) ∧ Aside0 (Kept w w' (fun k_ => P0_ k_)) ∧ Aside0 (Below w0.heap.size w0 w'))
 case atStart => exact ⟨(l0), (a1), (0), z9_10, z9_10, H', ⟨Nat.le_refl _⟩, ⟨by (with_reducible repeat (first | apply Kd.R_alloc | apply Kd.R_drewN | apply Kd.R_drew)); exact HO0.out⟩, ⟨z9_9⟩, ⟨z9_6⟩⟩
 case round =>
  clear H'
  try clear p2
  obtain ⟨x0_1, x1_1, x5_1, rfl, rfl, HA, HK1, HO_0, HK, HB⟩ := hrel
  cases gk with
  | zero => exact absurd HA.out (by simp [laws_markMessageS.l0])
  | succ k1 =>
   have H := HA.out
   clear HA
   simp only [laws_markMessageS.l0] at H
   by_cases c3 : x5_1 < (x0_1.length : Int)
   ·rw [if_pos c3] at H
    have c3b0 : decide (x5_1 < (x0_1.length : Int)) = true := decide_eq_true c3
    clear c3
    by_cases c4 : 0 ≤ x5_1
    ·rw [if_pos c4] at H
     have c4b0 : decide (0 ≤ x5_1) = true := decide_eq_true c4
     clear c4
     obtain ⟨y231, hy231⟩ : ∃ y_ : List (S34), y_ = (x0_1.set (x5_1 : Int).toNat (⟨x1_1, (rd_T34 x0_1 x5_1).f1, (rd_T34 x0_1 x5_1).f2⟩ : S34)) := ⟨_, rfl⟩
     replace H : ((some (y231.set (x5_1 : Int).toNat (⟨(rd_T34 y231 x5_1).f0, wrap64 (x1_1 + 1), (rd_T34 y231 x5_1).f2⟩ : S34) : List (S34))).bind fun y232 => (laws_markMessageS.l0 k1 (y232.set (x5_1 : Int).toNat (⟨(rd_T34 y232 x5_1).f0, (rd_T34 y232 x5_1).f1, wrap64 ((wrap64 (x1_1 + 1)) + 1)⟩ : S34)) (wrap64 ((wrap64 ((wrap64 (x1_1 + 1)) + 1)) + 1)) (wrap64 (x5_1 + 1)))) = some (r1, r2) := by first | (rw [hy231]; with_reducible exact H) | (have H2_ := (Option.bind_some _ _).symm.trans H; rw [hy231]; with_reducible exact H2_) | (have H2_ := (Option.bind_some _ _).symm.trans H; with_reducible exact H2_) | with_reducible exact H | (rw [hy231]; exact H) | exact H
     have Ny231 := Aside0.mk hy231
     clear hy231
     obtain ⟨y232, hy232⟩ : ∃ y_ : List (S34), y_ = (y231.set (x5_1 : Int).toNat (⟨(rd_T34 y231 x5_1).f0, wrap64 (x1_1 + 1), (rd_T34 y231 x5_1).f2⟩ : S34)) := ⟨_, rfl⟩
     replace H : (laws_markMessageS.l0 k1 (y232.set (x5_1 : Int).toNat (⟨(rd_T34 y232 x5_1).f0, (rd_T34 y232 x5_1).f1, wrap64 ((wrap64 (x1_1 + 1)) + 1)⟩ : S34)) (wrap64 ((wrap64 ((wrap64 (x1_1 + 1)) + 1)) + 1)) (wrap64 (x5_1 + 1))) = some (r1, r2) := by first | (rw [hy232]; with_reducible exact H) | (have H2_ := (Option.bind_some _ _).symm.trans H; rw [hy232]; with_reducible exact H2_) | (have H2_ := (Option.bind_some _ _).symm.trans H; with_reducible exact H2_) | with_reducible exact H | (rw [hy232]; exact H) | exact H
     have Ny232 := Aside0.mk hy232
     clear hy232
     obtain ⟨y233, hy233⟩ : ∃ y_ : List (S34), y_ = (y232.set (x5_1 : Int).toNat (⟨(rd_T34 y232 x5_1).f0, (rd_T34 y232 x5_1).f1, wrap64 ((wrap64 (x1_1 + 1)) + 1)⟩ : S34)) := ⟨_, rfl⟩
     replace H : (laws_markMessageS.l0 k1 y233 (wrap64 ((wrap64 ((wrap64 (x1_1 + 1)) + 1)) + 1)) (wrap64 (x5_1 + 1))) = some (r1, r2) := by first | (rw [hy233]; with_reducible exact H) | (have H2_ := (Option.bind_some _ _).symm.trans H; rw [hy233]; with_reducible exact H2_) | (have H2_ := (Option.bind_some _ _).symm.trans H; with_reducible exact H2_) | with_reducible exact H | (rw [hy233]; exact H) | exact H
     have Ny233 := Aside0.mk hy233
     clear hy233
     have H' := Aside0.mk H
     clear H
     obtain ⟨Ao8, co8, eo8⟩ := Kd.R_slice HO_0.out
     subst eo8
     have p5 : 0 ≤ (x5_1 : Int) := of_decide_eq_true z9_4
     have q5 : (x5_1 : Int) < ((x0_1.length : Int) : Int) := of_decide_eq_true z9_4
     obtain ⟨go5, co5, eo5, gb5, gl5, cl5, HG5⟩ := Kd.R_form HO_0.out (by omega)
     (first | cases eo5 | (injection eo5 with ea_ en_ ec_; (first | subst ea_ | (injection ea_ with ea_; subst ea_)); subst ec_; clear en_))
     have GB5 := Aside0.mk gb5
     have GG5 := Aside0.mk HG5
     clear gb5 gl5 HG5
     have HMgo5 := Aside0.mk (show (P0_ go5 ∨ w.heap.size ≤ go5) from (HO_0.out.1 _ rfl))
     obtain ⟨ce5, hcl5, hM5, hcc5, hfr5⟩ := Kd.R_elem HO_0.out z34 (x5_1 : Int) p5 q5
     obtain rfl := k34_openM hM5
     have hx5_0 : wr.cell? ⟨go5, (x5_1 : Int).toNat * 3, none⟩ = some (.int .i64 ((rd_T34 x0_1 x5_1).f0)) := hcc5 0 _ rfl
     have hx5_1 : wr.cell? ⟨go5, (x5_1 : Int).toNat * 3 + 1, none⟩ = some (.int .i64 ((rd_T34 x0_1 x5_1).f1)) := hcc5 1 _ rfl
     have hx5_2 : wr.cell? ⟨go5, (x5_1 : Int).toNat * 3 + 2, none⟩ = some (.int .i64 ((rd_T34 x0_1 x5_1).f2)) := hcc5 2 _ rfl
     have hf5_0 : wr.frozen? ⟨go5, (x5_1 : Int).toNat * 3, none⟩ = false := hfr5 0
     have hf5_1 : wr.frozen? ⟨go5, (x5_1 : Int).toNat * 3 + 1, none⟩ = false := hfr5 1
     have hf5_2 : wr.frozen? ⟨go5, (x5_1 : Int).toNat * 3 + 2, none⟩ = false := hfr5 2
     clear hcl5 hcc5 hfr5 hM5
     replace p5 := eq_true p5
     replace q5 := eq_true q5
     have HX9 := Aside0.mk (show Kd.R k34 34 wr w0.heap.size (fun k_ => (P0_ k_ ∨ w.heap.size ≤ k_)) (.slice (some ⟨go5, 0, none⟩) x0_1.length co8) x0_1 from z9_14)
     obtain ⟨ce9, hcl9, hM9, hcc9, hfr9⟩ := Kd.R_elem HX9.out z34 (x5_1 : Int) (of_decide_eq_true z9_4) (by have h_ : (x5_1 : Int) < ((x0_1.length : Int) : Int) := of_decide_eq_true z9_4; first | exact h_ | (have e_ := (Kd.R_reads' HO_0.out).1; omega) | simpa using h_)
     obtain rfl := k34_openM hM9
     have HP9 := Kd.R_seg HX9.out (x5_1 : Int) (of_decide_eq_true z9_4) (by have h_ : (x5_1 : Int) < ((x0_1.length : Int) : Int) := of_decide_eq_true z9_4; first | exact h_ | (have e_ := (Kd.R_reads' HO_0.out).1; omega) | simpa using h_) (seg := [.int .i64 x1_1]) (j := 0) hcl9 hcc9 (show 1 ≤ 3 from by decide) (x' := (⟨x1_1, (rd_T34 x0_1 x5_1).f1, (rd_T34 x0_1 x5_1).f2⟩ : S34)) (k34_mkM _ _ _ (⟨x1_1, (rd_T34 x0_1 x5_1).f1, (rd_T34 x0_1 x5_1).f2⟩ : S34) ) (fun _ hk => hk)
     have hx9_0 := hcc9 0 _ rfl
     (try simp only [show (k34).sz = 3 from rfl, Nat.mul_one, Nat.add_zero] at hx9_0)
     have hf9_0 := hfr9 0
     (try simp only [show (k34).sz = 3 from rfl, Nat.mul_one, Nat.add_zero] at hf9_0)
     clear hcl9 hcc9 hfr9 hM9
     go_wp2_with (first | ((with_reducible refine gate_store (t := 3) (p := 16) rfl ?_); refine store_event (t := 3) (p := 16) (v := ?vo_w10) (w1 := (wr.setCell ⟨go5, (x5_1 : Int).toNat * 3, none⟩ (.int .i64 x1_1))) ?hg ?ho ?hn ?hr ?_; (case ho => rfl); (case hg => rfl); (case hn => rfl); (case hr => exact z9_0); intro w10 hw; have hg : wr.grownBy w10 (some go5) := (by rw [hw]; exact HP9.2); have hp_ : Kd.R k34 34 w10 w0.heap.size (fun k_ => (P0_ k_ ∨ w.heap.size ≤ k_)) (.slice (some ⟨go5, 0, none⟩) x0_1.length co8) y231 := (by rw [hw, Ny231.out]; exact HP9.1); clear HP9; have n0_ := Aside0.mk (hp_); have n1_ := Aside0.mk ((by rw [hw]; exact below_set (HB.out) GB5.out : Below w0.heap.size w0 w10)); have n2_ := Aside0.mk (Kept.of_grown (S := (fun k_ => P0_ k_)) hg z9_9 (fun k_ e_ => (HO_0.out.1 k_ e_))); clear HO_0; clear HB; clear HK; have HO_0 := n0_; have HB := n1_; have HK := n2_; clear n0_ n1_ n2_; clear hg hw hp_; have p6 : 0 ≤ (x5_1 : Int) := of_decide_eq_true z9_4; have q6 : (x5_1 : Int) < ((x0_1.length : Int) : Int) := of_decide_eq_true z9_4; obtain ⟨ce6, hcl6, hM6, hcc6, hfr6⟩ := Kd.R_elem HO_0.out z34 (x5_1 : Int) p6 q6; obtain rfl := k34_openM hM6; have hx6_0 : w10.cell? ⟨go5, (x5_1 : Int).toNat * 3, none⟩ = some (.int .i64 ((rd_T34 y231 x5_1).f0)) := hcc6 0 _ rfl; have hx6_1 : w10.cell? ⟨go5, (x5_1 : Int).toNat * 3 + 1, none⟩ = some (.int .i64 ((rd_T34 y231 x5_1).f1)) := hcc6 1 _ rfl; have hx6_2 : w10.cell? ⟨go5, (x5_1 : Int).toNat * 3 + 2, none⟩ = some (.int .i64 ((rd_T34 y231 x5_1).f2)) := hcc6 2 _ rfl; have hf6_0 : w10.frozen? ⟨go5, (x5_1 : Int).toNat * 3, none⟩ = false := hfr6 0; have hf6_1 : w10.frozen? ⟨go5, (x5_1 : Int).toNat * 3 + 1, none⟩ = false := hfr6 1; have hf6_2 : w10.frozen? ⟨go5, (x5_1 : Int).toNat * 3 + 2, none⟩ = false := hfr6 2; clear hcl6 hcc6 hfr6 hM6; replace p6 := eq_true p6; replace q6 := eq_true q6; have HX11 := Aside0.mk (show Kd.R k34 34 w10 w0.heap.size (fun k_ => (P0_ k_ ∨ w.heap.size ≤ k_)) (.slice (some ⟨go5, 0, none⟩) x0_1.length co8) y231 from z9_14); obtain ⟨ce11, hcl11, hM11, hcc11, hfr11⟩ := Kd.R_elem HX11.out z34 (x5_1 : Int) (of_decide_eq_true z9_4) (by have h_ : (x5_1 : Int) < ((x0_1.length : Int) : Int) := of_decide_eq_true z9_4; first | exact h_ | (have e_ := (Kd.R_reads' HO_0.out).1; omega) | simpa using h_); obtain rfl := k34_openM hM11; have HP11 := Kd.R_seg HX11.out (x5_1 : Int) (of_decide_eq_true z9_4) (by have h_ : (x5_1 : Int) < ((x0_1.length : Int) : Int) := of_decide_eq_true z9_4; first | exact h_ | (have e_ := (Kd.R_reads' HO_0.out).1; omega) | simpa using h_) (seg := [.int .i64 (wrap64 (x1_1 + 1))]) (j := 1) hcl11 hcc11 (show 2 ≤ 3 from by decide) (x' := (⟨(rd_T34 y231 x5_1).f0, wrap64 (x1_1 + 1), (rd_T34 y231 x5_1).f2⟩ : S34)) (k34_mkM _ _ _ (⟨(rd_T34 y231 x5_1).f0, wrap64 (x1_1 + 1), (rd_T34 y231 x5_1).f2⟩ : S34) ) (fun _ hk => hk); have hx11_1 := hcc11 1 _ rfl; (try simp only [show (k34).sz = 3 from rfl, Nat.mul_one, Nat.add_zero] at hx11_1); have hf11_1 := hfr11 1; (try simp only [show (k34).sz = 3 from rfl, Nat.mul_one, Nat.add_zero] at hf11_1); clear hcl11 hcc11 hfr11 hM11) | ((with_reducible refine gate_store (t := 3) (p := 23) rfl ?_); refine store_event (t := 3) (p := 23) (v := ?vo_w12) (w1 := (w10.setCell ⟨go5, (x5_1 : Int).toNat * 3 + 1, none⟩ (.int .i64 (wrap64 (x1_1 + 1))))) ?hg ?ho ?hn ?hr ?_; (case ho => rfl); (case hg => rfl); (case hn => rfl); (case hr => exact z9_0); intro w12 hw; have hg : w10.grownBy w12 (some go5) := (by rw [hw]; exact HP11.2); have hp_ : Kd.R k34 34 w12 w0.heap.size (fun k_ => (P0_ k_ ∨ w.heap.size ≤ k_)) (.slice (some ⟨go5, 0, none⟩) x0_1.length co8) y232 := (by rw [hw, Ny232.out]; exact HP11.1); clear HP11; have n0_ := Aside0.mk (hp_); have n1_ := Aside0.mk ((by rw [hw]; exact below_set (HB.out) GB5.out : Below w0.heap.size w0 w12)); have n2_ := Aside0.mk (Kept.of_grown (S := (fun k_ => P0_ k_)) hg z9_9 (fun k_ e_ => (HO_0.out.1 k_ e_))); clear HO_0; clear HB; clear HK; have HO_0 := n0_; have HB := n1_; have HK := n2_; clear n0_ n1_ n2_; clear hg hw hp_; have p7 : 0 ≤ (x5_1 : Int) := of_decide_eq_true z9_4; have q7 : (x5_1 : Int) < ((x0_1.length : Int) : Int) := of_decide_eq_true z9_4; obtain ⟨ce7, hcl7, hM7, hcc7, hfr7⟩ := Kd.R_elem HO_0.out z34 (x5_1 : Int) p7 q7; obtain rfl := k34_openM hM7; have hx7_0 : w12.cell? ⟨go5, (x5_1 : Int).toNat * 3, none⟩ = some (.int .i64 ((rd_T34 y232 x5_1).f0)) := hcc7 0 _ rfl; have hx7_1 : w12.cell? ⟨go5, (x5_1 : Int).toNat * 3 + 1, none⟩ = some (.int .i64 ((rd_T34 y232 x5_1).f1)) := hcc7 1 _ rfl; have hx7_2 : w12.cell? ⟨go5, (x5_1 : Int).toNat * 3 + 2, none⟩ = some (.int .i64 ((rd_T34 y232 x5_1).f2)) := hcc7 2 _ rfl; have hf7_0 : w12.frozen? ⟨go5, (x5_1 : Int).toNat * 3, none⟩ = false := hfr7 0; have hf7_1 : w12.frozen? ⟨go5, (x5_1 : Int).toNat * 3 + 1, none⟩ = false := hfr7 1; have hf7_2 : w12.frozen? ⟨go5, (x5_1 : Int).toNat * 3 + 2, none⟩ = false := hfr7 2; clear hcl7 hcc7 hfr7 hM7; replace p7 := eq_true p7; replace q7 := eq_true q7; have HX13 := Aside0.mk (show Kd.R k34 34 w12 w0.heap.size (fun k_ => (P0_ k_ ∨ w.heap.size ≤ k_)) (.slice (some ⟨go5, 0, none⟩) x0_1.length co8) y232 from z9_14); obtain ⟨ce13, hcl13, hM13, hcc13, hfr13⟩ := Kd.R_elem HX13.out z34 (x5_1 : Int) (of_decide_eq_true z9_4) (by have h_ : (x5_1 : Int) < ((x0_1.length : Int) : Int) := of_decide_eq_true z9_4; first | exact h_ | (have e_ := (Kd.R_reads' HO_0.out).1; omega) | simpa using h_); obtain rfl := k34_openM hM13; have HP13 := Kd.R_seg HX13.out (x5_1 : Int) (of_decide_eq_true z9_4) (by have h_ : (x5_1 : Int) < ((x0_1.length : Int) : Int) := of_decide_eq_true z9_4; first | exact h_ | (have e_ := (Kd.R_reads' HO_0.out).1; omega) | simpa using h_) (seg := [.int .i64 (wrap64 ((wrap64 (x1_1 + 1)) + 1))]) (j := 2) hcl13 hcc13 (show 3 ≤ 3 from by decide) (x' := (⟨(rd_T34 y232 x5_1).f0, (rd_T34 y232 x5_1).f1, wrap64 ((wrap64 (x1_1 + 1)) + 1)⟩ : S34)) (k34_mkM _ _ _ (⟨(rd_T34 y232 x5_1).f0, (rd_T34 y232 x5_1).f1, wrap64 ((wrap64 (x1_1 + 1)) + 1)⟩ : S34) ) (fun _ hk => hk); have hx13_2 := hcc13 2 _ rfl; (try simp only [show (k34).sz = 3 from rfl, Nat.mul_one, Nat.add_zero] at hx13_2); have hf13_2 := hfr13 2; (try simp only [show (k34).sz = 3 from rfl, Nat.mul_one, Nat.add_zero] at hf13_2); clear hcl13 hcc13 hfr13 hM13) | ((with_reducible refine gate_store (t := 3) (p := 30) rfl ?_); refine store_event (t := 3) (p := 30) (v := ?vo_w14) (w1 := (w12.setCell ⟨go5, (x5_1 : Int).toNat * 3 + 2, none⟩ (.int .i64 (wrap64 ((wrap64 (x1_1 + 1)) + 1))))) ?hg ?ho ?hn ?hr ?_; (case ho => rfl); (case hg => rfl); (case hn => rfl); (case hr => exact z9_0); intro w14 hw; have hg : w12.grownBy w14 (some go5) := (by rw [hw]; exact HP13.2); have hp_ : Kd.R k34 34 w14 w0.heap.size (fun k_ => (P0_ k_ ∨ w.heap.size ≤ k_)) (.slice (some ⟨go5, 0, none⟩) x0_1.length co8) y233 := (by rw [hw, Ny233.out]; exact HP13.1); clear HP13; have n0_ := Aside0.mk (hp_); have n1_ := Aside0.mk ((by rw [hw]; exact below_set (HB.out) GB5.out : Below w0.heap.size w0 w14)); have n2_ := Aside0.mk (Kept.of_grown (S := (fun k_ => P0_ k_)) hg z9_9 (fun k_ e_ => (HO_0.out.1 k_ e_))); clear HO_0; clear HB; clear HK; have HO_0 := n0_; have HB := n1_; have HK := n2_; clear n0_ n1_ n2_; clear hg hw hp_))
     go_roundg k1
     case measure => have := HK1.out; omega
     case rel => exact ⟨(y233), (wrap64 ((wrap64 ((wrap64 (x1_1 + 1)) + 1)) + 1)), (wrap64 (x5_1 + 1)), z9_10, z9_10, H', ⟨by have := HK1.out; omega⟩, ⟨z9_14⟩, ⟨z9_9⟩, ⟨z9_6⟩⟩
    ·rw [if_neg c4] at H
     exact absurd H (by simp)
   ·rw [if_neg c3] at H
    have c3b0 : decide (x5_1 < (x0_1.length : Int)) = false := decide_eq_false c3
    clear c3
    simp only [Option.some.injEq, Prod.mk.injEq] at H
    obtain ⟨rfl, rfl⟩ := H
    obtain ⟨Ao15, co15, eo15⟩ := Kd.R_slice HO_0.out
    subst eo15
    go_wp2
    go_ret
    exact ⟨z9_18, z9_14, z9_6, z9_9⟩

/-! ### laws_heldMessageS: function 37 -/
def laws_heldMessageS.l0 : Nat → List (S34) → Int → Int → Option (Int)
 | 0, _, _, _ => none
 | k + 1, x0, x1, x5 => if x5 < (x0.length : Int) then (if 0 ≤ x5 then (if ((rd_T34 x0 x5).f0) = x1 then (if ((rd_T34 x0 x5).f1) = (wrap64 (x1 + 1)) then (if ((rd_T34 x0 x5).f2) = (wrap64 ((wrap64 (x1 + 1)) + 1)) then (laws_heldMessageS.l0 k x0 (wrap64 ((wrap64 ((wrap64 (x1 + 1)) + 1)) + 1)) (wrap64 (x5 + 1))) else (some (-1))) else (some (-1))) else (some (-1))) else (none)) else (some x1)
def laws_heldMessageS.f (k : Nat) (l0 : List (S34)) (a1 : Int) : Option (Int) := laws_heldMessageS.l0 k l0 a1 0
theorem laws_heldMessageS.mono_l : ∀ k, (∀ y0 y1 y2, LeO (laws_heldMessageS.l0 k y0 y1 y2) (laws_heldMessageS.l0 (k + 1) y0 y1 y2))
 | 0 => fun _ _ _ r h => by simp [laws_heldMessageS.l0] at h
 | k + 1 => by
  have ih0 := laws_heldMessageS.mono_l k
  ·intro y0 y1 y2
   unfold laws_heldMessageS.l0
   repeat' first
   | (with_reducible exact ih0 _ _ _)
   | (with_reducible exact LeO.refl _)
   | (with_reducible exact LeO.none _)
   | (with_reducible refine LeO.ite ?_ ?_)
   | (with_reducible refine LeO.bind ?_ (fun _ => ?_))
   | exact ih0 _ _ _
   | exact LeO.none _
   | refine LeO.ite ?_ ?_
   | refine LeO.bind ?_ (fun _ => ?_)
theorem laws_heldMessageS.mono : ∀ a0 a1 k, LeO (laws_heldMessageS.f k a0 a1) (laws_heldMessageS.f (k + 1) a0 a1) := by
 intro a0 a1 k
 have ih0 := laws_heldMessageS.mono_l k
 unfold laws_heldMessageS.f
 repeat' first
   | (with_reducible exact ih0 _ _ _)
   | (with_reducible exact LeO.refl _)
   | (with_reducible exact LeO.none _)
   | (with_reducible refine LeO.ite ?_ ?_)
   | (with_reducible refine LeO.bind ?_ (fun _ => ?_))
   | exact ih0 _ _ _
   | exact LeO.none _
   | refine LeO.ite ?_ ?_
   | refine LeO.bind ?_ (fun _ => ?_)
set_option maxHeartbeats 8000000 in
set_option maxRecDepth 100000 in
theorem laws_heldMessageS.calls (k : Nat) (A0 : Option Addr) (c0 : Nat) (l0 : List (S34)) (a1 : Int) (r : Int) (w : World) (hr0 : Kd.C k34 w A0 l0.length l0) (hc0 : l0.length ≤ c0) (h : laws_heldMessageS.f k l0 a1 = some r) :
  Calls Try.prog 37 #[.slice A0 l0.length c0, .int .i64 a1] w fun e w' => e = .returned (.int .i64 r) ∧ Drawn0 w w' := by
 have HR0 := Aside0.mk hr0
 have HC0 := Aside0.mk hc0
 clear hr0 hc0
 have H : (laws_heldMessageS.l0 k l0 a1 0) = some r := h
 clear h
 have H' := Aside0.mk H
 clear H
 go_enter Try.func37, Try.ntmps37
 go_wp2
 go_loopg [1, 5] k (fun kq v1 v5 w' => ∃ (x1_1 : Int) (x5_1 : Int), v1 = .int .i64 x1_1 ∧ v5 = .int .i64 x5_1 ∧ Aside0 (laws_heldMessageS.l0 kq l0 x1_1 x5_1 = some r) ∧ Aside0 (kq ≤ k) ∧ Drawn0 w w')
 case atStart => exact ⟨(a1), (0), z9_10, z9_10, H', ⟨Nat.le_refl _⟩, z9_15⟩
 case round =>
  clear H'
  try clear p2
  obtain ⟨x1_1, x5_1, rfl, rfl, HA, HK1, ⟨m1, rfl⟩⟩ := hrel
  cases gk with
  | zero => exact absurd HA.out (by simp [laws_heldMessageS.l0])
  | succ k1 =>
   have H := HA.out
   clear HA
   simp only [laws_heldMessageS.l0] at H
   by_cases c3 : x5_1 < (l0.length : Int)
   ·rw [if_pos c3] at H
    have c3b0 : decide (x5_1 < (l0.length : Int)) = true := decide_eq_true c3
    clear c3
    by_cases c4 : 0 ≤ x5_1
    ·rw [if_pos c4] at H
     have c4b0 : decide (0 ≤ x5_1) = true := decide_eq_true c4
     clear c4
     by_cases c5 : ((rd_T34 l0 x5_1).f0) = x1_1
     ·rw [if_pos c5] at H
      have c5b0 : (((rd_T34 l0 x5_1).f0) == x1_1) = true := beq_iff_eq.mpr c5
      have c5b1 : (((rd_T34 l0 x5_1).f0) != x1_1) = false := bne_eq_false_iff_eq.mpr c5
      clear c5
      by_cases c6 : ((rd_T34 l0 x5_1).f1) = (wrap64 (x1_1 + 1))
      ·rw [if_pos c6] at H
       have c6b0 : (((rd_T34 l0 x5_1).f1) == (wrap64 (x1_1 + 1))) = true := beq_iff_eq.mpr c6
       have c6b1 : (((rd_T34 l0 x5_1).f1) != (wrap64 (x1_1 + 1))) = false := bne_eq_false_iff_eq.mpr c6
       clear c6
       by_cases c7 : ((rd_T34 l0 x5_1).f2) = (wrap64 ((wrap64 (x1_1 + 1)) + 1))
       ·rw [if_pos c7] at H
        have c7b0 : (((rd_T34 l0 x5_1).f2) == (wrap64 ((wrap64 (x1_1 + 1)) + 1))) = true := beq_iff_eq.mpr c7
        have c7b1 : (((rd_T34 l0 x5_1).f2) != (wrap64 ((wrap64 (x1_1 + 1)) + 1))) = false := bne_eq_false_iff_eq.mpr c7
        clear c7
        have H' := Aside0.mk H
        clear H
        have p234 : 0 ≤ (x5_1 : Int) := of_decide_eq_true z9_4
        have q234 : x5_1 < (l0.length : Int) := of_decide_eq_true z9_4
        obtain ⟨ad234, e234, hx234_0, hx234_1, hx234_2⟩ := at_T34 HR0.out x5_1 p234 q234
        cases e234
        replace p234 := eq_true p234
        replace q234 := eq_true q234
        have p235 : 0 ≤ (x5_1 : Int) := of_decide_eq_true z9_4
        have q235 : x5_1 < (l0.length : Int) := of_decide_eq_true z9_4
        obtain ⟨ad235, e235, hx235_0, hx235_1, hx235_2⟩ := at_T34 HR0.out x5_1 p235 q235
        obtain rfl : ad234 = ad235 := (by injection e235)
        replace p235 := eq_true p235
        replace q235 := eq_true q235
        have p236 : 0 ≤ (x5_1 : Int) := of_decide_eq_true z9_4
        have q236 : x5_1 < (l0.length : Int) := of_decide_eq_true z9_4
        obtain ⟨ad236, e236, hx236_0, hx236_1, hx236_2⟩ := at_T34 HR0.out x5_1 p236 q236
        obtain rfl : ad234 = ad236 := (by injection e236)
        replace p236 := eq_true p236
        replace q236 := eq_true q236
        go_wp2
        go_roundg k1
        case measure => have := HK1.out; omega
        case rel => exact ⟨(wrap64 ((wrap64 ((wrap64 (x1_1 + 1)) + 1)) + 1)), (wrap64 (x5_1 + 1)), z9_10, z9_10, H', ⟨by have := HK1.out; omega⟩, z9_15⟩
       ·rw [if_neg c7] at H
        have c7b0 : (((rd_T34 l0 x5_1).f2) == (wrap64 ((wrap64 (x1_1 + 1)) + 1))) = false := beq_eq_false_iff_ne.mpr c7
        have c7b1 : (((rd_T34 l0 x5_1).f2) != (wrap64 ((wrap64 (x1_1 + 1)) + 1))) = true := bne_iff_ne.mpr c7
        obtain rfl := Option.some.inj H
        have p234 : 0 ≤ (x5_1 : Int) := of_decide_eq_true z9_4
        have q234 : x5_1 < (l0.length : Int) := of_decide_eq_true z9_4
        obtain ⟨ad234, e234, hx234_0, hx234_1, hx234_2⟩ := at_T34 HR0.out x5_1 p234 q234
        cases e234
        replace p234 := eq_true p234
        replace q234 := eq_true q234
        have p235 : 0 ≤ (x5_1 : Int) := of_decide_eq_true z9_4
        have q235 : x5_1 < (l0.length : Int) := of_decide_eq_true z9_4
        obtain ⟨ad235, e235, hx235_0, hx235_1, hx235_2⟩ := at_T34 HR0.out x5_1 p235 q235
        obtain rfl : ad234 = ad235 := (by injection e235)
        replace p235 := eq_true p235
        replace q235 := eq_true q235
        have p236 : 0 ≤ (x5_1 : Int) := of_decide_eq_true z9_4
        have q236 : x5_1 < (l0.length : Int) := of_decide_eq_true z9_4
        obtain ⟨ad236, e236, hx236_0, hx236_1, hx236_2⟩ := at_T34 HR0.out x5_1 p236 q236
        obtain rfl : ad234 = ad236 := (by injection e236)
        replace p236 := eq_true p236
        replace q236 := eq_true q236
        go_wp2
        go_ret
        exact ⟨z9_10, z9_15⟩
      ·rw [if_neg c6] at H
       have c6b0 : (((rd_T34 l0 x5_1).f1) == (wrap64 (x1_1 + 1))) = false := beq_eq_false_iff_ne.mpr c6
       have c6b1 : (((rd_T34 l0 x5_1).f1) != (wrap64 (x1_1 + 1))) = true := bne_iff_ne.mpr c6
       obtain rfl := Option.some.inj H
       have p234 : 0 ≤ (x5_1 : Int) := of_decide_eq_true z9_4
       have q234 : x5_1 < (l0.length : Int) := of_decide_eq_true z9_4
       obtain ⟨ad234, e234, hx234_0, hx234_1, hx234_2⟩ := at_T34 HR0.out x5_1 p234 q234
       cases e234
       replace p234 := eq_true p234
       replace q234 := eq_true q234
       have p235 : 0 ≤ (x5_1 : Int) := of_decide_eq_true z9_4
       have q235 : x5_1 < (l0.length : Int) := of_decide_eq_true z9_4
       obtain ⟨ad235, e235, hx235_0, hx235_1, hx235_2⟩ := at_T34 HR0.out x5_1 p235 q235
       obtain rfl : ad234 = ad235 := (by injection e235)
       replace p235 := eq_true p235
       replace q235 := eq_true q235
       go_wp2
       go_ret
       exact ⟨z9_10, z9_15⟩
     ·rw [if_neg c5] at H
      have c5b0 : (((rd_T34 l0 x5_1).f0) == x1_1) = false := beq_eq_false_iff_ne.mpr c5
      have c5b1 : (((rd_T34 l0 x5_1).f0) != x1_1) = true := bne_iff_ne.mpr c5
      obtain rfl := Option.some.inj H
      have p234 : 0 ≤ (x5_1 : Int) := of_decide_eq_true z9_4
      have q234 : x5_1 < (l0.length : Int) := of_decide_eq_true z9_4
      obtain ⟨ad234, e234, hx234_0, hx234_1, hx234_2⟩ := at_T34 HR0.out x5_1 p234 q234
      cases e234
      replace p234 := eq_true p234
      replace q234 := eq_true q234
      go_wp2
      go_ret
      exact ⟨z9_10, z9_15⟩
    ·rw [if_neg c4] at H
     exact absurd H (by simp)
   ·rw [if_neg c3] at H
    have c3b0 : decide (x5_1 < (l0.length : Int)) = false := decide_eq_false c3
    clear c3
    obtain rfl := Option.some.inj H
    go_wp2
    go_ret
    exact ⟨z9_10, z9_15⟩

/-! ### laws_FnExactCombineMessages: function 7 -/
def laws_FnExactCombineMessages.j0 : Nat → List (S95) → List (S34) → List (S34) → Bool → Int → Int → Int → Option (Bool)
 | 0, _, _, _, _, _, _, _ => none
 | k + 1, x1, x6, x8, x48, x238000, x238001, x238002 => if x48 = true then (none) else ((laws_markMessageS.f k x8 1).bind fun bt265 => ((laws_heldMessageS.f k bt265.2 1).bind fun t267 => (if t267 < 0 then (none) else (if t267 = bt265.1 then ((laws_toProgram.f x238000 x238001 x238002).bind fun bt268 => ((laws_toMessageS.f k x1).bind fun t271 => ((impl_CombineMessages.f k bt268.1 bt268.2.1 bt268.2.2 t271).bind fun t274 => ((laws_eqMessageS.f k t274 x6).bind fun t277 => (if t277 = true then ((laws_heldMessageS.f k bt265.2 1).bind fun t278 => (if t278 < 0 then (none) else (if t278 = bt265.1 then (some true) else (none)))) else (none)))))) else (none)))))
def laws_FnExactCombineMessages.f (k : Nat) (a0_0 : Int) (a0_1 : Int) (a0_2 : Int) (l1 : List (S95)) : Option (Bool) := (laws_szMessageS.f l1 1048576).bind fun t238 => (if t238 < 0 then (some true) else ((laws_toProgram.f a0_0 a0_1 a0_2).bind fun bt239 => ((laws_toMessageS.f k l1).bind fun t242 => ((spec_CombineMessages.f k bt239.1 bt239.2.1 bt239.2.2 t242).bind fun t245 => ((laws_toMessageS.f k l1).bind fun t248 => ((laws_toProgram.f a0_0 a0_1 a0_2).bind fun bt251 => ((impl_CombineMessages.f k bt251.1 bt251.2.1 bt251.2.2 t248).bind fun t254 => ((laws_eqMessageS.f k t254 t245).bind fun t257 => (if t257 = true then ((laws_toMessageS.f k l1).bind fun t258 => ((laws_eqMessageS.f k t248 t258).bind fun t261 => (if t261 = true then ((laws_markMessageS.f k t248 1).bind fun bt262 => (if bt262.1 < 0 then (laws_FnExactCombineMessages.j0 k l1 t245 t254 true a0_0 a0_1 a0_2) else ((laws_eqMessageS.f k t254 t245).bind fun t264 => (laws_FnExactCombineMessages.j0 k l1 t245 t254 (!t264) a0_0 a0_1 a0_2)))) else (none)))) else (none))))))))))
theorem laws_FnExactCombineMessages.mono_l : ∀ k, (∀ y0 y1 y2 y3 y4 y5 y6, LeO (laws_FnExactCombineMessages.j0 k y0 y1 y2 y3 y4 y5 y6) (laws_FnExactCombineMessages.j0 (k + 1) y0 y1 y2 y3 y4 y5 y6))
 | 0 => fun _ _ _ _ _ _ _ r h => by simp [laws_FnExactCombineMessages.j0] at h
 | k + 1 => by
  have ih0 := laws_FnExactCombineMessages.mono_l k
  ·intro y0 y1 y2 y3 y4 y5 y6
   unfold laws_FnExactCombineMessages.j0
   repeat' first
   | (with_reducible exact ih0 _ _ _ _ _ _ _)
   | (with_reducible exact impl_CombineMessages.mono _ _ _ _ _)
   | (with_reducible exact laws_eqMessageS.mono _ _ _)
   | (with_reducible exact laws_heldMessageS.mono _ _ _)
   | (with_reducible exact laws_markMessageS.mono _ _ _)
   | (with_reducible exact laws_toMessageS.mono _ _)
   | (with_reducible exact spec_CombineMessages.mono _ _ _ _ _)
   | (with_reducible exact LeO.refl _)
   | (with_reducible exact LeO.none _)
   | (with_reducible refine LeO.ite ?_ ?_)
   | (with_reducible refine LeO.bind ?_ (fun _ => ?_))
   | exact ih0 _ _ _ _ _ _ _
   | exact impl_CombineMessages.mono _ _ _ _ _
   | exact laws_eqMessageS.mono _ _ _
   | exact laws_heldMessageS.mono _ _ _
   | exact laws_markMessageS.mono _ _ _
   | exact laws_toMessageS.mono _ _
   | exact spec_CombineMessages.mono _ _ _ _ _
   | exact LeO.none _
   | refine LeO.ite ?_ ?_
   | refine LeO.bind ?_ (fun _ => ?_)
theorem laws_FnExactCombineMessages.mono : ∀ a0 a1 a2 a3 k, LeO (laws_FnExactCombineMessages.f k a0 a1 a2 a3) (laws_FnExactCombineMessages.f (k + 1) a0 a1 a2 a3) := by
 intro a0 a1 a2 a3 k
 have ih0 := laws_FnExactCombineMessages.mono_l k
 unfold laws_FnExactCombineMessages.f
 repeat' first
   | (with_reducible exact ih0 _ _ _ _ _ _ _)
   | (with_reducible exact impl_CombineMessages.mono _ _ _ _ _)
   | (with_reducible exact laws_eqMessageS.mono _ _ _)
   | (with_reducible exact laws_heldMessageS.mono _ _ _)
   | (with_reducible exact laws_markMessageS.mono _ _ _)
   | (with_reducible exact laws_toMessageS.mono _ _)
   | (with_reducible exact spec_CombineMessages.mono _ _ _ _ _)
   | (with_reducible exact LeO.refl _)
   | (with_reducible exact LeO.none _)
   | (with_reducible refine LeO.ite ?_ ?_)
   | (with_reducible refine LeO.bind ?_ (fun _ => ?_))
   | exact ih0 _ _ _ _ _ _ _
   | exact impl_CombineMessages.mono _ _ _ _ _
   | exact laws_eqMessageS.mono _ _ _
   | exact laws_heldMessageS.mono _ _ _
   | exact laws_markMessageS.mono _ _ _
   | exact laws_toMessageS.mono _ _
   | exact spec_CombineMessages.mono _ _ _ _ _
   | exact LeO.none _
   | refine LeO.ite ?_ ?_
   | refine LeO.bind ?_ (fun _ => ?_)
set_option maxHeartbeats 8000000 in
set_option maxRecDepth 100000 in
theorem laws_FnExactCombineMessages.calls (k : Nat) (a0_0 : Int) (a0_1 : Int) (a0_2 : Int) (A1 : Option Addr) (c1 : Nat) (l1 : List (S95)) (r : Bool) (w : World) (hr1 : Kd.C k95 w A1 l1.length l1) (hc1 : l1.length ≤ c1) (h : laws_FnExactCombineMessages.f k a0_0 a0_1 a0_2 l1 = some r) :
  Calls Try.prog 7 #[.agg #[.int .i64 a0_0, .int .i64 a0_1, .int .i64 a0_2], .slice A1 l1.length c1] w fun e w' => e = .returned (.bool r) ∧ Below w.heap.size w w' := by
 have hu43 := Try.underlying43
 have HR1 := Aside0.mk hr1
 have HC1 := Aside0.mk hc1
 clear hr1 hc1
 have HB := Aside0.mk (Below.refl w.heap.size w)
 have H : ((laws_szMessageS.f l1 1048576).bind fun t238 => (if t238 < 0 then (some true) else ((laws_toProgram.f a0_0 a0_1 a0_2).bind fun bt239 => ((laws_toMessageS.f k l1).bind fun t242 => ((spec_CombineMessages.f k bt239.1 bt239.2.1 bt239.2.2 t242).bind fun t245 => ((laws_toMessageS.f k l1).bind fun t248 => ((laws_toProgram.f a0_0 a0_1 a0_2).bind fun bt251 => ((impl_CombineMessages.f k bt251.1 bt251.2.1 bt251.2.2 t248).bind fun t254 => ((laws_eqMessageS.f k t254 t245).bind fun t257 => (if t257 = true then ((laws_toMessageS.f k l1).bind fun t258 => ((laws_eqMessageS.f k t248 t258).bind fun t261 => (if t261 = true then ((laws_markMessageS.f k t248 1).bind fun bt262 => (if bt262.1 < 0 then (laws_FnExactCombineMessages.j0 k l1 t245 t254 true a0_0 a0_1 a0_2) else ((laws_eqMessageS.f k t254 t245).bind fun t264 => (laws_FnExactCombineMessages.j0 k l1 t245 t254 (!t264) a0_0 a0_1 a0_2)))) else (none)))) else (none))))))))))) = some r := h
 clear h
 replace H := Option.bind_eq_some_iff.mp H
 obtain ⟨t238, A30, H⟩ := H
 replace H : (if t238 < 0 then (some true) else ((laws_toProgram.f a0_0 a0_1 a0_2).bind fun bt239 => ((laws_toMessageS.f k l1).bind fun t242 => ((spec_CombineMessages.f k bt239.1 bt239.2.1 bt239.2.2 t242).bind fun t245 => ((laws_toMessageS.f k l1).bind fun t248 => ((laws_toProgram.f a0_0 a0_1 a0_2).bind fun bt251 => ((impl_CombineMessages.f k bt251.1 bt251.2.1 bt251.2.2 t248).bind fun t254 => ((laws_eqMessageS.f k t254 t245).bind fun t257 => (if t257 = true then ((laws_toMessageS.f k l1).bind fun t258 => ((laws_eqMessageS.f k t248 t258).bind fun t261 => (if t261 = true then ((laws_markMessageS.f k t248 1).bind fun bt262 => (if bt262.1 < 0 then (laws_FnExactCombineMessages.j0 k l1 t245 t254 true a0_0 a0_1 a0_2) else ((laws_eqMessageS.f k t254 t245).bind fun t264 => (laws_FnExactCombineMessages.j0 k l1 t245 t254 (!t264) a0_0 a0_1 a0_2)))) else (none)))) else (none)))))))))) = some r := H
 have A3 := Aside0.mk A30
 clear A30
 by_cases c4 : t238 < 0
 ·rw [if_pos c4] at H
  have c4b0 : decide (t238 < 0) = true := decide_eq_true c4
  clear c4
  obtain rfl := Option.some.inj H
  go_enter Try.func7, Try.ntmps7
  go_wp2_with (first | ((with_reducible refine gate_dst (N := 2) rfl ?_); refine box_event ?hg (N := 2) ?hd (cs := #[.int .i64 a0_0, .int .i64 a0_1, .int .i64 a0_2]) (t := 43) ?hr ?_; (case hd => rfl); (case hg => rfl); (case hr => exact z9_0); intro gb237 hg w5 hbox hb; have n0_ := Aside0.mk (below_step z9_6 hb); have n1_ := Aside0.mk (hbox); have n2_ := Aside0.mk ((by rw [hg]; exact (below_size z9_6) : w.heap.size ≤ gb237)); have n3_ := Aside0.mk ((by rw [hg]; exact (below_size z9_6) : w.heap.size ≤ gb237)); clear HB; have HB := n0_; have BK237 := n1_; have GW237 := n2_; have GE237 := n3_; clear n0_ n1_ n2_ n3_; clear hb hbox hg) | ((with_reducible refine gate_callee (f := 30) rfl ?_); refine goesL_ (some 15) rfl rfl Try.func30 (by kernel_rfl) rfl #[.slice A1 l1.length c1, .int .i64 1048576] rfl z9_2 ?_; (with_reducible refine (laws_szMessageS.calls _ _ l1 1048576 t238 _ ?side1 ?side2 A3.out).mono ?_); (case side1 => repeat (first | exact (Kd.C_below HR1.out HB.out) | (with_reducible refine Kd.C_alloc ?_ _) | (with_reducible refine Kd.C_drewN ?_ _) | (with_reducible refine Kd.C_drew ?_))); (case side2 => exact HC1.out); rintro e w' ⟨rfl, ⟨nd, rfl⟩⟩; refine ⟨_, rfl, ?_⟩))
  go_ret
  exact ⟨z9_18, z9_1⟩
 ·rw [if_neg c4] at H
  have c4b0 : decide (t238 < 0) = false := decide_eq_false c4
  clear c4
  replace H := Option.bind_eq_some_iff.mp H
  obtain ⟨⟨t239, t240, t241⟩, A60, H⟩ := H
  replace H : ((laws_toMessageS.f k l1).bind fun t242 => ((spec_CombineMessages.f k t239 t240 t241 t242).bind fun t245 => ((laws_toMessageS.f k l1).bind fun t248 => ((laws_toProgram.f a0_0 a0_1 a0_2).bind fun bt251 => ((impl_CombineMessages.f k bt251.1 bt251.2.1 bt251.2.2 t248).bind fun t254 => ((laws_eqMessageS.f k t254 t245).bind fun t257 => (if t257 = true then ((laws_toMessageS.f k l1).bind fun t258 => ((laws_eqMessageS.f k t248 t258).bind fun t261 => (if t261 = true then ((laws_markMessageS.f k t248 1).bind fun bt262 => (if bt262.1 < 0 then (laws_FnExactCombineMessages.j0 k l1 t245 t254 true a0_0 a0_1 a0_2) else ((laws_eqMessageS.f k t254 t245).bind fun t264 => (laws_FnExactCombineMessages.j0 k l1 t245 t254 (!t264) a0_0 a0_1 a0_2)))) else (none)))) else (none)))))))) = some r := H
  have A6 := Aside0.mk A60
  clear A60
  replace H := Option.bind_eq_some_iff.mp H
  obtain ⟨t242, A70, H⟩ := H
  replace H : ((spec_CombineMessages.f k t239 t240 t241 t242).bind fun t245 => ((laws_toMessageS.f k l1).bind fun t248 => ((laws_toProgram.f a0_0 a0_1 a0_2).bind fun bt251 => ((impl_CombineMessages.f k bt251.1 bt251.2.1 bt251.2.2 t248).bind fun t254 => ((laws_eqMessageS.f k t254 t245).bind fun t257 => (if t257 = true then ((laws_toMessageS.f k l1).bind fun t258 => ((laws_eqMessageS.f k t248 t258).bind fun t261 => (if t261 = true then ((laws_markMessageS.f k t248 1).bind fun bt262 => (if bt262.1 < 0 then (laws_FnExactCombineMessages.j0 k l1 t245 t254 true a0_0 a0_1 a0_2) else ((laws_eqMessageS.f k t254 t245).bind fun t264 => (laws_FnExactCombineMessages.j0 k l1 t245 t254 (!t264) a0_0 a0_1 a0_2)))) else (none)))) else (none))))))) = some r := H
  have A7 := Aside0.mk A70
  clear A70
  replace H := Option.bind_eq_some_iff.mp H
  obtain ⟨t245, A80, H⟩ := H
  replace H : ((laws_toMessageS.f k l1).bind fun t248 => ((laws_toProgram.f a0_0 a0_1 a0_2).bind fun bt251 => ((impl_CombineMessages.f k bt251.1 bt251.2.1 bt251.2.2 t248).bind fun t254 => ((laws_eqMessageS.f k t254 t245).bind fun t257 => (if t257 = true then ((laws_toMessageS.f k l1).bind fun t258 => ((laws_eqMessageS.f k t248 t258).bind fun t261 => (if t261 = true then ((laws_markMessageS.f k t248 1).bind fun bt262 => (if bt262.1 < 0 then (laws_FnExactCombineMessages.j0 k l1 t245 t254 true a0_0 a0_1 a0_2) else ((laws_eqMessageS.f k t254 t245).bind fun t264 => (laws_FnExactCombineMessages.j0 k l1 t245 t254 (!t264) a0_0 a0_1 a0_2)))) else (none)))) else (none)))))) = some r := H
  have A8 := Aside0.mk A80
  clear A80
  replace H := Option.bind_eq_some_iff.mp H
  obtain ⟨t248, A90, H⟩ := H
  replace H : ((laws_toProgram.f a0_0 a0_1 a0_2).bind fun bt251 => ((impl_CombineMessages.f k bt251.1 bt251.2.1 bt251.2.2 t248).bind fun t254 => ((laws_eqMessageS.f k t254 t245).bind fun t257 => (if t257 = true then ((laws_toMessageS.f k l1).bind fun t258 => ((laws_eqMessageS.f k t248 t258).bind fun t261 => (if t261 = true then ((laws_markMessageS.f k t248 1).bind fun bt262 => (if bt262.1 < 0 then (laws_FnExactCombineMessages.j0 k l1 t245 t254 true a0_0 a0_1 a0_2) else ((laws_eqMessageS.f k t254 t245).bind fun t264 => (laws_FnExactCombineMessages.j0 k l1 t245 t254 (!t264) a0_0 a0_1 a0_2)))) else (none)))) else (none))))) = some r := H
  have A9 := Aside0.mk A90
  clear A90
  replace H := Option.bind_eq_some_iff.mp H
  obtain ⟨⟨t251, t252, t253⟩, A100, H⟩ := H
  replace H : ((impl_CombineMessages.f k t251 t252 t253 t248).bind fun t254 => ((laws_eqMessageS.f k t254 t245).bind fun t257 => (if t257 = true then ((laws_toMessageS.f k l1).bind fun t258 => ((laws_eqMessageS.f k t248 t258).bind fun t261 => (if t261 = true then ((laws_markMessageS.f k t248 1).bind fun bt262 => (if bt262.1 < 0 then (laws_FnExactCombineMessages.j0 k l1 t245 t254 true a0_0 a0_1 a0_2) else ((laws_eqMessageS.f k t254 t245).bind fun t264 => (laws_FnExactCombineMessages.j0 k l1 t245 t254 (!t264) a0_0 a0_1 a0_2)))) else (none)))) else (none)))) = some r := H
  have A10 := Aside0.mk A100
  clear A100
  replace H := Option.bind_eq_some_iff.mp H
  obtain ⟨t254, A110, H⟩ := H
  replace H : ((laws_eqMessageS.f k t254 t245).bind fun t257 => (if t257 = true then ((laws_toMessageS.f k l1).bind fun t258 => ((laws_eqMessageS.f k t248 t258).bind fun t261 => (if t261 = true then ((laws_markMessageS.f k t248 1).bind fun bt262 => (if bt262.1 < 0 then (laws_FnExactCombineMessages.j0 k l1 t245 t254 true a0_0 a0_1 a0_2) else ((laws_eqMessageS.f k t254 t245).bind fun t264 => (laws_FnExactCombineMessages.j0 k l1 t245 t254 (!t264) a0_0 a0_1 a0_2)))) else (none)))) else (none))) = some r := H
  have A11 := Aside0.mk A110
  clear A110
  replace H := Option.bind_eq_some_iff.mp H
  obtain ⟨t257, A120, H⟩ := H
  replace H : (if t257 = true then ((laws_toMessageS.f k l1).bind fun t258 => ((laws_eqMessageS.f k t248 t258).bind fun t261 => (if t261 = true then ((laws_markMessageS.f k t248 1).bind fun bt262 => (if bt262.1 < 0 then (laws_FnExactCombineMessages.j0 k l1 t245 t254 true a0_0 a0_1 a0_2) else ((laws_eqMessageS.f k t254 t245).bind fun t264 => (laws_FnExactCombineMessages.j0 k l1 t245 t254 (!t264) a0_0 a0_1 a0_2)))) else (none)))) else (none)) = some r := H
  have A12 := Aside0.mk A120
  clear A120
  by_cases c13 : t257 = true
  ·subst c13
   have H1 : ((laws_toMessageS.f k l1).bind fun t258 => ((laws_eqMessageS.f k t248 t258).bind fun t261 => (if t261 = true then ((laws_markMessageS.f k t248 1).bind fun bt262 => (if bt262.1 < 0 then (laws_FnExactCombineMessages.j0 k l1 t245 t254 true a0_0 a0_1 a0_2) else ((laws_eqMessageS.f k t254 t245).bind fun t264 => (laws_FnExactCombineMessages.j0 k l1 t245 t254 (!t264) a0_0 a0_1 a0_2)))) else (none)))) = some r := by rw [if_pos rfl] at H; exact H
   clear H
   have H := H1
   clear H1
   replace H := Option.bind_eq_some_iff.mp H
   obtain ⟨t258, A140, H⟩ := H
   replace H : ((laws_eqMessageS.f k t248 t258).bind fun t261 => (if t261 = true then ((laws_markMessageS.f k t248 1).bind fun bt262 => (if bt262.1 < 0 then (laws_FnExactCombineMessages.j0 k l1 t245 t254 true a0_0 a0_1 a0_2) else ((laws_eqMessageS.f k t254 t245).bind fun t264 => (laws_FnExactCombineMessages.j0 k l1 t245 t254 (!t264) a0_0 a0_1 a0_2)))) else (none))) = some r := H
   have A14 := Aside0.mk A140
   clear A140
   replace H := Option.bind_eq_some_iff.mp H
   obtain ⟨t261, A150, H⟩ := H
   replace H : (if t261 = true then ((laws_markMessageS.f k t248 1).bind fun bt262 => (if bt262.1 < 0 then (laws_FnExactCombineMessages.j0 k l1 t245 t254 true a0_0 a0_1 a0_2) else ((laws_eqMessageS.f k t254 t245).bind fun t264 => (laws_FnExactCombineMessages.j0 k l1 t245 t254 (!t264) a0_0 a0_1 a0_2)))) else (none)) = some r := H
   have A15 := Aside0.mk A150
   clear A150
   by_cases c16 : t261 = true
   ·subst c16
    have H1 : ((laws_markMessageS.f k t248 1).bind fun bt262 => (if bt262.1 < 0 then (laws_FnExactCombineMessages.j0 k l1 t245 t254 true a0_0 a0_1 a0_2) else ((laws_eqMessageS.f k t254 t245).bind fun t264 => (laws_FnExactCombineMessages.j0 k l1 t245 t254 (!t264) a0_0 a0_1 a0_2)))) = some r := by rw [if_pos rfl] at H; exact H
    clear H
    have H := H1
    clear H1
    replace H := Option.bind_eq_some_iff.mp H
    obtain ⟨⟨t262, t263⟩, A170, H⟩ := H
    replace H : (if t262 < 0 then (laws_FnExactCombineMessages.j0 k l1 t245 t254 true a0_0 a0_1 a0_2) else ((laws_eqMessageS.f k t254 t245).bind fun t264 => (laws_FnExactCombineMessages.j0 k l1 t245 t254 (!t264) a0_0 a0_1 a0_2))) = some r := H
    have A17 := Aside0.mk A170
    clear A170
    have HC18 := Aside0.mk H
    clear H
    go_enter Try.func7, Try.ntmps7
    go_upto_region 14 with (first | ((with_reducible refine gate_dst (N := 2) rfl ?_); refine box_event ?hg (N := 2) ?hd (cs := #[.int .i64 a0_0, .int .i64 a0_1, .int .i64 a0_2]) (t := 43) ?hr ?_; (case hd => rfl); (case hg => rfl); (case hr => exact z9_0); intro gb237 hg w19 hbox hb; have n0_ := Aside0.mk (below_step z9_6 hb); have n1_ := Aside0.mk (hbox); have n2_ := Aside0.mk ((by rw [hg]; exact (below_size z9_6) : w.heap.size ≤ gb237)); have n3_ := Aside0.mk ((by rw [hg]; exact (below_size z9_6) : w.heap.size ≤ gb237)); clear HB; have HB := n0_; have BK237 := n1_; have GW237 := n2_; have GE237 := n3_; clear n0_ n1_ n2_ n3_; clear hb hbox hg) | ((with_reducible refine gate_callee (f := 30) rfl ?_); refine goesL_ (some 15) rfl rfl Try.func30 (by kernel_rfl) rfl #[.slice A1 l1.length c1, .int .i64 1048576] rfl z9_2 ?_; (with_reducible refine (laws_szMessageS.calls _ _ l1 1048576 t238 _ ?side1 ?side2 A3.out).mono ?_); (case side1 => repeat (first | exact (Kd.C_below HR1.out HB.out) | (with_reducible refine Kd.C_alloc ?_ _) | (with_reducible refine Kd.C_drewN ?_ _) | (with_reducible refine Kd.C_drew ?_))); (case side2 => exact HC1.out); rintro e w' ⟨rfl, ⟨nd, rfl⟩⟩; refine ⟨_, rfl, ?_⟩; have hcz20_0 : w19.cell? ⟨gb237, 0, none⟩ = some (.int .i64 a0_0) := (blk_cell BK237.out 0).trans rfl; have hcz20_1 : w19.cell? ⟨gb237, 1, none⟩ = some (.int .i64 a0_1) := (blk_cell BK237.out 1).trans rfl; have hcz20_2 : w19.cell? ⟨gb237, 2, none⟩ = some (.int .i64 a0_2) := (blk_cell BK237.out 2).trans rfl; have hfz20_0 := blk_frozen BK237.out 0; have hfz20_1 := blk_frozen BK237.out 1; have hfz20_2 := blk_frozen BK237.out 2) | ((with_reducible refine gate_callee (f := 32) rfl ?_); refine goesL_ (some 19) rfl rfl Try.func32 (by kernel_rfl) rfl #[.agg #[.int .i64 a0_0, .int .i64 a0_1, .int .i64 a0_2]] rfl z9_2 ?_; (with_reducible refine (laws_toProgram.calls a0_0 a0_1 a0_2 t239 t240 t241 _ A6.out).mono ?_); rintro e w21 ⟨rfl, hb⟩; refine ⟨_, rfl, ?_⟩; have n0_ := Aside0.mk (blk_below (g := gb237) (o := .cells #[.int .i64 a0_0, .int .i64 a0_1, .int .i64 a0_2] 43 (0, 0)) z9_3 hb); have n1_ := Aside0.mk (below_step z9_1 hb); clear BK237; clear HB; have BK237 := n0_; have HB := n1_; clear n0_ n1_; (try clear hb); (try clear hb2); (try clear hk); (try clear hi)) | ((with_reducible refine gate_callee (f := 33) rfl ?_); refine goesL_ (some 21) rfl rfl Try.func33 (by kernel_rfl) rfl #[.slice A1 l1.length c1] rfl z9_2 ?_; (with_reducible refine (laws_toMessageS.calls k _ _ l1 t242 _ ?side1 ?side2 A7.out).mono ?_); (case side1 => repeat (first | exact (Kd.C_below HR1.out HB.out) | (with_reducible refine Kd.C_alloc ?_ _) | (with_reducible refine Kd.C_drewN ?_ _) | (with_reducible refine Kd.C_drew ?_))); (case side2 => exact HC1.out); rintro e w22 ⟨v243, rfl, ho0, hb⟩; refine ⟨_, rfl, ?_⟩; have n0_ := Aside0.mk (Kd.R_lower ho0 (below_size z9_1)); have n1_ := Aside0.mk (blk_below (g := gb237) (o := .cells #[.int .i64 a0_0, .int .i64 a0_1, .int .i64 a0_2] 43 (0, 0)) z9_3 hb); have n2_ := Aside0.mk (below_step z9_1 hb); clear BK237; clear HB; have HO244 := n0_; have BK237 := n1_; have HB := n2_; clear n0_ n1_ n2_; (try clear hb); (try clear hb2); (try clear hk); (try clear hi); (try clear ho0); obtain ⟨Ao23, co23, eo23⟩ := Kd.R_slice HO244.out; subst eo23) | ((with_reducible refine gate_callee (f := 31) rfl ?_); refine goesL_ (some 22) rfl rfl Try.func31 (by kernel_rfl) rfl #[.agg #[.int .i64 t239, .int .i64 t240, .int .i64 t241], .slice Ao23 t242.length co23] rfl z9_2 ?_; (with_reducible refine (spec_CombineMessages.calls k t239 t240 t241 _ _ t242 t245 _ ?side1 ?side2 A8.out).mono ?_); (case side1 => repeat (first | exact (Kd.R_reads' HO244.out).2.2 | (with_reducible refine Kd.C_alloc ?_ _) | (with_reducible refine Kd.C_drewN ?_ _) | (with_reducible refine Kd.C_drew ?_))); (case side2 => exact (Kd.R_reads' HO244.out).2.1); rintro e w24 ⟨v246, rfl, ho0, hb⟩; refine ⟨_, rfl, ?_⟩; have n0_ := Aside0.mk (Kd.R_elder' z9_5 (Kd.R_base ho0) hb); have n1_ := Aside0.mk (Kd.R_lower (Kd.R_new' ho0 (Kd.R_lt z9_5)) (below_size z9_1)); have n2_ := Aside0.mk (blk_below (g := gb237) (o := .cells #[.int .i64 a0_0, .int .i64 a0_1, .int .i64 a0_2] 43 (0, 0)) z9_3 hb); have n3_ := Aside0.mk (below_step z9_1 hb); clear HO244; clear BK237; clear HB; have HO244 := n0_; have HO247 := n1_; have BK237 := n2_; have HB := n3_; clear n0_ n1_ n2_ n3_; (try clear hb); (try clear hb2); (try clear hk); (try clear hi); (try clear ho0)) | ((with_reducible refine gate_callee (f := 33) rfl ?_); refine goesL_ (some 24) rfl rfl Try.func33 (by kernel_rfl) rfl #[.slice A1 l1.length c1] rfl z9_2 ?_; (with_reducible refine (laws_toMessageS.calls k _ _ l1 t248 _ ?side1 ?side2 A9.out).mono ?_); (case side1 => repeat (first | exact (Kd.C_below HR1.out HB.out) | (with_reducible refine Kd.C_alloc ?_ _) | (with_reducible refine Kd.C_drewN ?_ _) | (with_reducible refine Kd.C_drew ?_))); (case side2 => exact HC1.out); rintro e w25 ⟨v249, rfl, ho0, hb⟩; refine ⟨_, rfl, ?_⟩; have n0_ := Aside0.mk (Kd.R_elder' z9_5 (Kd.R_base ho0) hb); have n1_ := Aside0.mk (Kd.R_elder' z9_7 (Kd.R_base ho0) hb); have n2_ := Aside0.mk (Kd.R_lower (Kd.R_new' (Kd.R_new' ho0 (Kd.R_lt z9_5)) (Kd.R_lt z9_7)) (below_size z9_1)); have n3_ := Aside0.mk (blk_below (g := gb237) (o := .cells #[.int .i64 a0_0, .int .i64 a0_1, .int .i64 a0_2] 43 (0, 0)) z9_3 hb); have n4_ := Aside0.mk (below_step z9_1 hb); clear HO244; clear HO247; clear BK237; clear HB; have HO244 := n0_; have HO247 := n1_; have HO250 := n2_; have BK237 := n3_; have HB := n4_; clear n0_ n1_ n2_ n3_ n4_; (try clear hb); (try clear hb2); (try clear hk); (try clear hi); (try clear ho0); have hcz26_0 : w25.cell? ⟨gb237, 0, none⟩ = some (.int .i64 a0_0) := (blk_cell BK237.out 0).trans rfl; have hcz26_1 : w25.cell? ⟨gb237, 1, none⟩ = some (.int .i64 a0_1) := (blk_cell BK237.out 1).trans rfl; have hcz26_2 : w25.cell? ⟨gb237, 2, none⟩ = some (.int .i64 a0_2) := (blk_cell BK237.out 2).trans rfl; have hfz26_0 := blk_frozen BK237.out 0; have hfz26_1 := blk_frozen BK237.out 1; have hfz26_2 := blk_frozen BK237.out 2) | ((with_reducible refine gate_callee (f := 32) rfl ?_); refine goesL_ (some 26) rfl rfl Try.func32 (by kernel_rfl) rfl #[.agg #[.int .i64 a0_0, .int .i64 a0_1, .int .i64 a0_2]] rfl z9_2 ?_; (with_reducible refine (laws_toProgram.calls a0_0 a0_1 a0_2 t251 t252 t253 _ A10.out).mono ?_); rintro e w27 ⟨rfl, hb⟩; refine ⟨_, rfl, ?_⟩; have n0_ := Aside0.mk (Kd.R_below z9_5 hb); have n1_ := Aside0.mk (Kd.R_below z9_7 hb); have n2_ := Aside0.mk (Kd.R_below z9_8 hb); have n3_ := Aside0.mk (blk_below (g := gb237) (o := .cells #[.int .i64 a0_0, .int .i64 a0_1, .int .i64 a0_2] 43 (0, 0)) z9_3 hb); have n4_ := Aside0.mk (below_step z9_1 hb); clear HO244; clear HO247; clear HO250; clear BK237; clear HB; have HO244 := n0_; have HO247 := n1_; have HO250 := n2_; have BK237 := n3_; have HB := n4_; clear n0_ n1_ n2_ n3_ n4_; (try clear hb); (try clear hb2); (try clear hk); (try clear hi); obtain ⟨Ao28, co28, eo28⟩ := Kd.R_slice HO250.out; subst eo28) | ((with_reducible refine gate_callee (f := 34) rfl ?_); refine goesL_ (some 28) rfl rfl Try.func34 (by kernel_rfl) rfl #[.agg #[.int .i64 t251, .int .i64 t252, .int .i64 t253], .slice Ao28 t248.length co28] rfl z9_2 ?_; (with_reducible refine (impl_CombineMessages.calls k t251 t252 t253 _ _ t248 t254 _ ?side1 ?side2 A11.out).mono ?_); (case side1 => repeat (first | exact (Kd.R_reads' HO250.out).2.2 | (with_reducible refine Kd.C_alloc ?_ _) | (with_reducible refine Kd.C_drewN ?_ _) | (with_reducible refine Kd.C_drew ?_))); (case side2 => exact (Kd.R_reads' HO250.out).2.1); rintro e w29 ⟨v255, rfl, ho0, hb⟩; refine ⟨_, rfl, ?_⟩; have n0_ := Aside0.mk (Kd.R_elder' z9_5 (Kd.R_base ho0) hb); have n1_ := Aside0.mk (Kd.R_elder' z9_7 (Kd.R_base ho0) hb); have n2_ := Aside0.mk (Kd.R_elder' z9_8 (Kd.R_base ho0) hb); have n3_ := Aside0.mk (Kd.R_lower (Kd.R_new' (Kd.R_new' (Kd.R_new' ho0 (Kd.R_lt z9_5)) (Kd.R_lt z9_7)) (Kd.R_lt z9_8)) (below_size z9_1)); have n4_ := Aside0.mk (blk_below (g := gb237) (o := .cells #[.int .i64 a0_0, .int .i64 a0_1, .int .i64 a0_2] 43 (0, 0)) z9_3 hb); have n5_ := Aside0.mk (below_step z9_1 hb); clear HO244; clear HO247; clear HO250; clear BK237; clear HB; have HO244 := n0_; have HO247 := n1_; have HO250 := n2_; have HO256 := n3_; have BK237 := n4_; have HB := n5_; clear n0_ n1_ n2_ n3_ n4_ n5_; (try clear hb); (try clear hb2); (try clear hk); (try clear hi); (try clear ho0); obtain ⟨Ao30, co30, eo30⟩ := Kd.R_slice HO256.out; subst eo30; obtain ⟨Ao31, co31, eo31⟩ := Kd.R_slice HO247.out; subst eo31) | ((with_reducible refine gate_callee (f := 35) rfl ?_); refine goesL_ (some 31) rfl rfl Try.func35 (by kernel_rfl) rfl #[.slice Ao30 t254.length co30, .slice Ao31 t245.length co31] rfl z9_2 ?_; (with_reducible refine (laws_eqMessageS.calls k _ _ t254 _ _ t245 true _ ?side1 ?side2 ?side3 ?side4 A12.out).mono ?_); (case side1 => repeat (first | exact (Kd.R_reads' HO256.out).2.2 | (with_reducible refine Kd.C_alloc ?_ _) | (with_reducible refine Kd.C_drewN ?_ _) | (with_reducible refine Kd.C_drew ?_))); (case side2 => exact (Kd.R_reads' HO256.out).2.1); (case side3 => repeat (first | exact (Kd.R_reads' HO247.out).2.2 | (with_reducible refine Kd.C_alloc ?_ _) | (with_reducible refine Kd.C_drewN ?_ _) | (with_reducible refine Kd.C_drew ?_))); (case side4 => exact (Kd.R_reads' HO247.out).2.1); rintro e w32 ⟨rfl, hb⟩; refine ⟨_, rfl, ?_⟩; have n0_ := Aside0.mk (Kd.R_below z9_5 hb); have n1_ := Aside0.mk (Kd.R_below z9_7 hb); have n2_ := Aside0.mk (Kd.R_below z9_8 hb); have n3_ := Aside0.mk (Kd.R_below z9_13 hb); have n4_ := Aside0.mk (blk_below (g := gb237) (o := .cells #[.int .i64 a0_0, .int .i64 a0_1, .int .i64 a0_2] 43 (0, 0)) z9_3 hb); have n5_ := Aside0.mk (below_step z9_1 hb); clear HO244; clear HO247; clear HO250; clear HO256; clear BK237; clear HB; have HO244 := n0_; have HO247 := n1_; have HO250 := n2_; have HO256 := n3_; have BK237 := n4_; have HB := n5_; clear n0_ n1_ n2_ n3_ n4_ n5_; (try clear hb); (try clear hb2); (try clear hk); (try clear hi)) | ((with_reducible refine gate_callee (f := 33) rfl ?_); refine goesL_ (some 35) rfl rfl Try.func33 (by kernel_rfl) rfl #[.slice A1 l1.length c1] rfl z9_2 ?_; (with_reducible refine (laws_toMessageS.calls k _ _ l1 t258 _ ?side1 ?side2 A14.out).mono ?_); (case side1 => repeat (first | exact (Kd.C_below HR1.out HB.out) | (with_reducible refine Kd.C_alloc ?_ _) | (with_reducible refine Kd.C_drewN ?_ _) | (with_reducible refine Kd.C_drew ?_))); (case side2 => exact HC1.out); rintro e w33 ⟨v259, rfl, ho0, hb⟩; refine ⟨_, rfl, ?_⟩; have n0_ := Aside0.mk (Kd.R_elder' z9_5 (Kd.R_base ho0) hb); have n1_ := Aside0.mk (Kd.R_elder' z9_7 (Kd.R_base ho0) hb); have n2_ := Aside0.mk (Kd.R_elder' z9_8 (Kd.R_base ho0) hb); have n3_ := Aside0.mk (Kd.R_elder' z9_13 (Kd.R_base ho0) hb); have n4_ := Aside0.mk (Kd.R_lower (Kd.R_new' (Kd.R_new' (Kd.R_new' (Kd.R_new' ho0 (Kd.R_lt z9_5)) (Kd.R_lt z9_7)) (Kd.R_lt z9_8)) (Kd.R_lt z9_13)) (below_size z9_1)); have n5_ := Aside0.mk (blk_below (g := gb237) (o := .cells #[.int .i64 a0_0, .int .i64 a0_1, .int .i64 a0_2] 43 (0, 0)) z9_3 hb); have n6_ := Aside0.mk (below_step z9_1 hb); clear HO244; clear HO247; clear HO250; clear HO256; clear BK237; clear HB; have HO244 := n0_; have HO247 := n1_; have HO250 := n2_; have HO256 := n3_; have HO260 := n4_; have BK237 := n5_; have HB := n6_; clear n0_ n1_ n2_ n3_ n4_ n5_ n6_; (try clear hb); (try clear hb2); (try clear hk); (try clear hi); (try clear ho0); obtain ⟨Ao34, co34, eo34⟩ := Kd.R_slice HO260.out; subst eo34) | ((with_reducible refine gate_callee (f := 35) rfl ?_); refine goesL_ (some 36) rfl rfl Try.func35 (by kernel_rfl) rfl #[.slice Ao28 t248.length co28, .slice Ao34 t258.length co34] rfl z9_2 ?_; (with_reducible refine (laws_eqMessageS.calls k _ _ t248 _ _ t258 true _ ?side1 ?side2 ?side3 ?side4 A15.out).mono ?_); (case side1 => repeat (first | exact (Kd.R_reads' HO250.out).2.2 | (with_reducible refine Kd.C_alloc ?_ _) | (with_reducible refine Kd.C_drewN ?_ _) | (with_reducible refine Kd.C_drew ?_))); (case side2 => exact (Kd.R_reads' HO250.out).2.1); (case side3 => repeat (first | exact (Kd.R_reads' HO260.out).2.2 | (with_reducible refine Kd.C_alloc ?_ _) | (with_reducible refine Kd.C_drewN ?_ _) | (with_reducible refine Kd.C_drew ?_))); (case side4 => exact (Kd.R_reads' HO260.out).2.1); rintro e w35 ⟨rfl, hb⟩; refine ⟨_, rfl, ?_⟩; have n0_ := Aside0.mk (Kd.R_below z9_5 hb); have n1_ := Aside0.mk (Kd.R_below z9_7 hb); have n2_ := Aside0.mk (Kd.R_below z9_8 hb); have n3_ := Aside0.mk (Kd.R_below z9_13 hb); have n4_ := Aside0.mk (Kd.R_below z9_21 hb); have n5_ := Aside0.mk (blk_below (g := gb237) (o := .cells #[.int .i64 a0_0, .int .i64 a0_1, .int .i64 a0_2] 43 (0, 0)) z9_3 hb); have n6_ := Aside0.mk (below_step z9_1 hb); clear HO244; clear HO247; clear HO250; clear HO256; clear HO260; clear BK237; clear HB; have HO244 := n0_; have HO247 := n1_; have HO250 := n2_; have HO256 := n3_; have HO260 := n4_; have BK237 := n5_; have HB := n6_; clear n0_ n1_ n2_ n3_ n4_ n5_ n6_; (try clear hb); (try clear hb2); (try clear hk); (try clear hi)) | ((with_reducible refine gate_callee (f := 36) rfl ?_); refine goesL_ (some 40) rfl rfl Try.func36 (by kernel_rfl) rfl #[.slice Ao28 t248.length co28, .int .i64 1] rfl z9_2 ?_; (with_reducible refine (laws_markMessageS.calls k (fun k_ => some k_ = (.slice Ao28 t248.length co28 : Value).ownBlock) (.slice Ao28 t248.length co28) t248 1 t262 t263 w _ ?side1 ?side2 A17.out).mono ?_); (case side1 => repeat (first | (with_reducible first | exact HB.out | apply below_alloc | apply pw_below_drewN | apply below_drew1 | refine below_set ?_ GE237.out) | exact HB.out)); (case side2 => exact Kd.R_tight rfl HO250.out); rintro e w36 ⟨rfl, hy0, hb, hkp⟩; refine ⟨_, rfl, ?_⟩; have n0_ := Aside0.mk (blk_kept z9_3 hkp (fun hs_ => (fun e_ => (Kd.R_ne HO250.out BK237.out (by decide)) e_) hs_)); have n1_ := Aside0.mk (Kd.R_mono (ok' := fun k_ => some k_ ≠ (.slice Ao31 t245.length co31 : Value).ownBlock ∧ some k_ ≠ (.slice Ao28 t248.length co28 : Value).ownBlock ∧ some k_ ≠ (.slice Ao30 t254.length co30 : Value).ownBlock ∧ some k_ ≠ (.slice Ao34 t258.length co34 : Value).ownBlock) (Kd.R_keptB (HO244.out) hkp (fun k_ hk_ hs_ => (hk_.1.1.2) hs_)) (fun k_ hk_ => ⟨hk_.1.1.1.1.2, hk_.1.1.1.2, hk_.1.1.2, hk_.1.2⟩)); have n2_ := Aside0.mk (Kd.R_mono (ok' := fun k_ => some k_ ≠ (.slice Ao23 t242.length co23 : Value).ownBlock ∧ some k_ ≠ (.slice Ao28 t248.length co28 : Value).ownBlock ∧ some k_ ≠ (.slice Ao30 t254.length co30 : Value).ownBlock ∧ some k_ ≠ (.slice Ao34 t258.length co34 : Value).ownBlock) (Kd.R_keptB (HO247.out) hkp (fun k_ hk_ hs_ => (hk_.1.1.2) hs_)) (fun k_ hk_ => ⟨hk_.1.1.1.1.2, hk_.1.1.1.2, hk_.1.1.2, hk_.1.2⟩)); have n3_ := Aside0.mk (Kd.R_reok rfl hy0 (fun k_ e_ => HO250.out.1 k_ e_)); have n4_ := Aside0.mk (Kd.R_mono (ok' := fun k_ => some k_ ≠ (.slice Ao23 t242.length co23 : Value).ownBlock ∧ some k_ ≠ (.slice Ao31 t245.length co31 : Value).ownBlock ∧ some k_ ≠ (.slice Ao28 t248.length co28 : Value).ownBlock ∧ some k_ ≠ (.slice Ao34 t258.length co34 : Value).ownBlock) (Kd.R_keptB (HO256.out) hkp (fun k_ hk_ hs_ => (hk_.1.2) hs_)) (fun k_ hk_ => ⟨hk_.1.1.1.1.2, hk_.1.1.1.2, hk_.1.1.2, hk_.1.2⟩)); have n5_ := Aside0.mk (Kd.R_mono (ok' := fun k_ => some k_ ≠ (.slice Ao23 t242.length co23 : Value).ownBlock ∧ some k_ ≠ (.slice Ao31 t245.length co31 : Value).ownBlock ∧ some k_ ≠ (.slice Ao28 t248.length co28 : Value).ownBlock ∧ some k_ ≠ (.slice Ao30 t254.length co30 : Value).ownBlock) (Kd.R_keptB (HO260.out) hkp (fun k_ hk_ hs_ => (hk_.1.2) hs_)) (fun k_ hk_ => ⟨hk_.1.1.1.1.2, hk_.1.1.1.2, hk_.1.1.2, hk_.1.2⟩)); have n6_ := Aside0.mk (hb); clear BK237; clear HO244; clear HO247; clear HO250; clear HO256; clear HO260; clear HB; have BK237 := n0_; have HO244 := n1_; have HO247 := n2_; have HO250 := n3_; have HO256 := n4_; have HO260 := n5_; have HB := n6_; clear n0_ n1_ n2_ n3_ n4_ n5_ n6_; (try clear hb); (try clear hkp); (try clear hy0)))
    (try simp only [Act.put, List.setIfInBounds_toArray, List.set_cons_zero, List.set_cons_succ])
    go_cut [48] (fun v48 wc => ∃ (kq : Nat) (x48_17 : Bool), v48 = .bool x48_17 ∧ Aside0 (laws_FnExactCombineMessages.j0 kq l1 t245 t254 x48_17 a0_0 a0_1 a0_2 = some r) ∧ Aside0 (kq ≤ k) ∧ Aside0 (Kd.R k34 34 wc w.heap.size (fun k_ => some k_ ≠ ((.slice Ao30 t254.length co30) : Value).ownBlock) (.slice Ao31 t245.length co31) t245) ∧ Aside0 (Kd.R k34 34 wc w.heap.size (fun k_ => some k_ ≠ ((.slice Ao31 t245.length co31) : Value).ownBlock) (.slice Ao30 t254.length co30) t254) ∧ Aside0 (wc.heap[gb237]? = some (.cells #[.int .i64 a0_0, .int .i64 a0_1, .int .i64 a0_2] 43 (0, 0))) ∧ Aside0 (Below w.heap.size w wc))
    case first =>
     have H := HC18.out
     clear HC18
     by_cases c37 : t262 < 0
     ·rw [if_pos c37] at H
      have c37b0 : decide (t262 < 0) = true := decide_eq_true c37
      clear c37
      (first | rw [c37b0] | (simp only [i64_w, i32_w]; rw [c37b0]) | skip)
      have H' := Aside0.mk H
      clear H
      go_wp2
      go_meet
      case rel => exact ⟨_, (true), z9_10, H', ⟨by first | omega | exact Nat.le_refl _⟩, ⟨z9_19⟩, ⟨z9_20⟩, ⟨z9_3⟩, ⟨z9_1⟩⟩
     ·rw [if_neg c37] at H
      have c37b0 : decide (t262 < 0) = false := decide_eq_false c37
      clear c37
      (first | rw [c37b0] | (simp only [i64_w, i32_w]; rw [c37b0]) | skip)
      replace H := Option.bind_eq_some_iff.mp H
      obtain ⟨t264, A380, H⟩ := H
      replace H : (laws_FnExactCombineMessages.j0 k l1 t245 t254 (!t264) a0_0 a0_1 a0_2) = some r := H
      have A38 := Aside0.mk A380
      clear A380
      have H' := Aside0.mk H
      clear H
      go_wp2_with (first | (go_at_call 35; (with_reducible refine (laws_eqMessageS.calls k _ _ t254 _ _ t245 t264 _ ?side1 ?side2 ?side3 ?side4 A38.out).mono ?_); (case side1 => repeat (first | exact (Kd.R_reads' HO256.out).2.2 | (with_reducible refine Kd.C_alloc ?_ _) | (with_reducible refine Kd.C_drewN ?_ _) | (with_reducible refine Kd.C_drew ?_))); (case side2 => exact (Kd.R_reads' HO256.out).2.1); (case side3 => repeat (first | exact (Kd.R_reads' HO247.out).2.2 | (with_reducible refine Kd.C_alloc ?_ _) | (with_reducible refine Kd.C_drewN ?_ _) | (with_reducible refine Kd.C_drew ?_))); (case side4 => exact (Kd.R_reads' HO247.out).2.1); rintro e w39 ⟨rfl, hb⟩; have n0_ := Aside0.mk (Kd.R_below z9_5 hb); have n1_ := Aside0.mk (Kd.R_below z9_7 hb); have n2_ := Aside0.mk (Kd.R_below z9_8 hb); have n3_ := Aside0.mk (Kd.R_below z9_13 hb); have n4_ := Aside0.mk (Kd.R_below z9_21 hb); have n5_ := Aside0.mk (blk_below (g := gb237) (o := .cells #[.int .i64 a0_0, .int .i64 a0_1, .int .i64 a0_2] 43 (0, 0)) z9_3 hb); have n6_ := Aside0.mk (below_step z9_1 hb); clear HO244; clear HO247; clear HO250; clear HO256; clear HO260; clear BK237; clear HB; have HO244 := n0_; have HO247 := n1_; have HO250 := n2_; have HO256 := n3_; have HO260 := n4_; have BK237 := n5_; have HB := n6_; clear n0_ n1_ n2_ n3_ n4_ n5_ n6_; (try clear hb); (try clear hb2); (try clear hk); (try clear hi)))
      go_meet
      case rel => exact ⟨_, (!t264), z9_10, H', ⟨by first | omega | exact Nat.le_refl _⟩, ⟨z9_19⟩, ⟨z9_20⟩, ⟨z9_3⟩, ⟨z9_1⟩⟩
    case rest =>
     clear HC18
     try clear c1
     try clear p2
     try clear c3
     try clear c4
     try clear c4b0
     try clear c7
     try clear c13
     try clear c16
     try clear c30
     try clear c31
     try clear c32
     try clear c33
     try clear c34
     try clear c35
     try clear c36
     try clear c37
     try clear c37b0
     try clear hcz20_0
     try clear hcz20_1
     try clear hcz20_2
     try clear hcz26_0
     try clear hcz26_1
     try clear hcz26_2
     try clear hfz20_0
     try clear hfz20_1
     try clear hfz20_2
     try clear hfz26_0
     try clear hfz26_1
     try clear hfz26_2
     obtain ⟨kq, x48_17, rfl, HA, HJ17, HO_6, HO_8, BK237, HB⟩ := hcut
     cases kq with
     | zero => exact absurd HA.out (by simp [laws_FnExactCombineMessages.j0])
     | succ kj17 =>
      have H := HA.out
      clear HA
      simp only [laws_FnExactCombineMessages.j0] at H
      by_cases c40 : x48_17 = true
      ·subst c40
       have H1 : (none) = some r := by rw [if_pos rfl] at H; exact H
       clear H
       have H := H1
       clear H1
       exact absurd H (by simp)
      ·replace c40 := Bool.eq_false_iff.mpr c40
       subst c40
       have H1 : ((laws_markMessageS.f kj17 t254 1).bind fun bt265 => ((laws_heldMessageS.f kj17 bt265.2 1).bind fun t267 => (if t267 < 0 then (none) else (if t267 = bt265.1 then ((laws_toProgram.f a0_0 a0_1 a0_2).bind fun bt268 => ((laws_toMessageS.f kj17 l1).bind fun t271 => ((impl_CombineMessages.f kj17 bt268.1 bt268.2.1 bt268.2.2 t271).bind fun t274 => ((laws_eqMessageS.f kj17 t274 t245).bind fun t277 => (if t277 = true then ((laws_heldMessageS.f kj17 bt265.2 1).bind fun t278 => (if t278 < 0 then (none) else (if t278 = bt265.1 then (some true) else (none)))) else (none)))))) else (none))))) = some r := by rw [if_neg (show ¬ (false = true) by decide)] at H; exact H
       clear H
       have H := H1
       clear H1
       replace H := Option.bind_eq_some_iff.mp H
       obtain ⟨⟨t265, t266⟩, A410, H⟩ := H
       replace H : ((laws_heldMessageS.f kj17 t266 1).bind fun t267 => (if t267 < 0 then (none) else (if t267 = t265 then ((laws_toProgram.f a0_0 a0_1 a0_2).bind fun bt268 => ((laws_toMessageS.f kj17 l1).bind fun t271 => ((impl_CombineMessages.f kj17 bt268.1 bt268.2.1 bt268.2.2 t271).bind fun t274 => ((laws_eqMessageS.f kj17 t274 t245).bind fun t277 => (if t277 = true then ((laws_heldMessageS.f kj17 t266 1).bind fun t278 => (if t278 < 0 then (none) else (if t278 = t265 then (some true) else (none)))) else (none)))))) else (none)))) = some r := H
       have A41 := Aside0.mk A410
       clear A410
       replace H := Option.bind_eq_some_iff.mp H
       obtain ⟨t267, A420, H⟩ := H
       replace H : (if t267 < 0 then (none) else (if t267 = t265 then ((laws_toProgram.f a0_0 a0_1 a0_2).bind fun bt268 => ((laws_toMessageS.f kj17 l1).bind fun t271 => ((impl_CombineMessages.f kj17 bt268.1 bt268.2.1 bt268.2.2 t271).bind fun t274 => ((laws_eqMessageS.f kj17 t274 t245).bind fun t277 => (if t277 = true then ((laws_heldMessageS.f kj17 t266 1).bind fun t278 => (if t278 < 0 then (none) else (if t278 = t265 then (some true) else (none)))) else (none)))))) else (none))) = some r := H
       have A42 := Aside0.mk A420
       clear A420
       by_cases c43 : t267 < 0
       ·rw [if_pos c43] at H
        exact absurd H (by simp)
       ·rw [if_neg c43] at H
        have c43b0 : decide (t267 < 0) = false := decide_eq_false c43
        clear c43
        by_cases c44 : t267 = t265
        ·rw [if_pos c44] at H
         have c44b0 : (t267 == t265) = true := beq_iff_eq.mpr c44
         have c44b1 : (t267 != t265) = false := bne_eq_false_iff_eq.mpr c44
         clear c44
         replace H := Option.bind_eq_some_iff.mp H
         obtain ⟨⟨t268, t269, t270⟩, A450, H⟩ := H
         replace H : ((laws_toMessageS.f kj17 l1).bind fun t271 => ((impl_CombineMessages.f kj17 t268 t269 t270 t271).bind fun t274 => ((laws_eqMessageS.f kj17 t274 t245).bind fun t277 => (if t277 = true then ((laws_heldMessageS.f kj17 t266 1).bind fun t278 => (if t278 < 0 then (none) else (if t278 = t265 then (some true) else (none)))) else (none))))) = some r := H
         have A45 := Aside0.mk A450
         clear A450
         replace H := Option.bind_eq_some_iff.mp H
         obtain ⟨t271, A460, H⟩ := H
         replace H : ((impl_CombineMessages.f kj17 t268 t269 t270 t271).bind fun t274 => ((laws_eqMessageS.f kj17 t274 t245).bind fun t277 => (if t277 = true then ((laws_heldMessageS.f kj17 t266 1).bind fun t278 => (if t278 < 0 then (none) else (if t278 = t265 then (some true) else (none)))) else (none)))) = some r := H
         have A46 := Aside0.mk A460
         clear A460
         replace H := Option.bind_eq_some_iff.mp H
         obtain ⟨t274, A470, H⟩ := H
         replace H : ((laws_eqMessageS.f kj17 t274 t245).bind fun t277 => (if t277 = true then ((laws_heldMessageS.f kj17 t266 1).bind fun t278 => (if t278 < 0 then (none) else (if t278 = t265 then (some true) else (none)))) else (none))) = some r := H
         have A47 := Aside0.mk A470
         clear A470
         replace H := Option.bind_eq_some_iff.mp H
         obtain ⟨t277, A480, H⟩ := H
         replace H : (if t277 = true then ((laws_heldMessageS.f kj17 t266 1).bind fun t278 => (if t278 < 0 then (none) else (if t278 = t265 then (some true) else (none)))) else (none)) = some r := H
         have A48 := Aside0.mk A480
         clear A480
         by_cases c49 : t277 = true
         ·subst c49
          have H1 : ((laws_heldMessageS.f kj17 t266 1).bind fun t278 => (if t278 < 0 then (none) else (if t278 = t265 then (some true) else (none)))) = some r := by rw [if_pos rfl] at H; exact H
          clear H
          have H := H1
          clear H1
          replace H := Option.bind_eq_some_iff.mp H
          obtain ⟨t278, A500, H⟩ := H
          replace H : (if t278 < 0 then (none) else (if t278 = t265 then (some true) else (none))) = some r := H
          have A50 := Aside0.mk A500
          clear A500
          by_cases c51 : t278 < 0
          ·rw [if_pos c51] at H
           exact absurd H (by simp)
          ·rw [if_neg c51] at H
           have c51b0 : decide (t278 < 0) = false := decide_eq_false c51
           clear c51
           by_cases c52 : t278 = t265
           ·rw [if_pos c52] at H
            have c52b0 : (t278 == t265) = true := beq_iff_eq.mpr c52
            have c52b1 : (t278 != t265) = false := bne_eq_false_iff_eq.mpr c52
            clear c52
            obtain rfl := Option.some.inj H
            go_wp2_with (first | ((with_reducible refine gate_callee (f := 36) rfl ?_); refine goesL_ (some 51) rfl rfl Try.func36 (by kernel_rfl) rfl #[.slice Ao30 t254.length co30, .int .i64 1] rfl z9_2 ?_; (with_reducible refine (laws_markMessageS.calls kj17 (fun k_ => some k_ = (.slice Ao30 t254.length co30 : Value).ownBlock) (.slice Ao30 t254.length co30) t254 1 t265 t266 w _ ?side1 ?side2 A41.out).mono ?_); (case side1 => repeat (first | (with_reducible first | exact HB.out | apply below_alloc | apply pw_below_drewN | apply below_drew1 | refine below_set ?_ GE237.out) | exact HB.out)); (case side2 => exact Kd.R_tight rfl HO_8.out); rintro e w53 ⟨rfl, hy0, hb, hkp⟩; refine ⟨_, rfl, ?_⟩; have n0_ := Aside0.mk (Kd.R_mono (ok' := fun k_ => some k_ ≠ (.slice Ao30 t254.length co30 : Value).ownBlock) (Kd.R_keptB (HO_6.out) hkp (fun k_ hk_ hs_ => (hk_) hs_)) (fun k_ hk_ => hk_.1)); have n1_ := Aside0.mk (Kd.R_reok rfl hy0 (fun k_ e_ => HO_8.out.1 k_ e_)); have n2_ := Aside0.mk (blk_kept z9_3 hkp (fun hs_ => (fun e_ => (Kd.R_ne HO_8.out BK237.out (by decide)) e_) hs_)); have n3_ := Aside0.mk (hb); clear HO_6; clear HO_8; clear BK237; clear HB; have HO_6 := n0_; have HO_8 := n1_; have BK237 := n2_; have HB := n3_; clear n0_ n1_ n2_ n3_; (try clear hb); (try clear hkp); (try clear hy0)) | ((with_reducible refine gate_callee (f := 37) rfl ?_); refine goesL_ (some 54) rfl rfl Try.func37 (by kernel_rfl) rfl #[.slice Ao30 t266.length co30, .int .i64 1] rfl z9_16 ?_; (with_reducible refine (laws_heldMessageS.calls kj17 _ _ t266 1 t267 _ ?side1 ?side2 A42.out).mono ?_); (case side1 => repeat (first | exact (Kd.R_reads' HO_8.out).2.2 | (with_reducible refine Kd.C_alloc ?_ _) | (with_reducible refine Kd.C_drewN ?_ _) | (with_reducible refine Kd.C_drew ?_))); (case side2 => rw [show t266.length = t254.length from (Kd.R_reads' HO_8.out).1.symm]; exact (Kd.R_reads' HO_8.out).2.1); rintro e w' ⟨rfl, ⟨nd, rfl⟩⟩; refine ⟨_, rfl, ?_⟩; have hcz54_0 : w53.cell? ⟨gb237, 0, none⟩ = some (.int .i64 a0_0) := (blk_cell BK237.out 0).trans rfl; have hcz54_1 : w53.cell? ⟨gb237, 1, none⟩ = some (.int .i64 a0_1) := (blk_cell BK237.out 1).trans rfl; have hcz54_2 : w53.cell? ⟨gb237, 2, none⟩ = some (.int .i64 a0_2) := (blk_cell BK237.out 2).trans rfl; have hfz54_0 := blk_frozen BK237.out 0; have hfz54_1 := blk_frozen BK237.out 1; have hfz54_2 := blk_frozen BK237.out 2) | ((with_reducible refine gate_callee (f := 32) rfl ?_); refine goesL_ (some 61) rfl rfl Try.func32 (by kernel_rfl) rfl #[.agg #[.int .i64 a0_0, .int .i64 a0_1, .int .i64 a0_2]] rfl z9_2 ?_; (with_reducible refine (laws_toProgram.calls a0_0 a0_1 a0_2 t268 t269 t270 _ A45.out).mono ?_); rintro e w55 ⟨rfl, hb⟩; refine ⟨_, rfl, ?_⟩; have n0_ := Aside0.mk (Kd.R_below z9_11 hb); have n1_ := Aside0.mk (Kd.R_below z9_12 hb); have n2_ := Aside0.mk (blk_below (g := gb237) (o := .cells #[.int .i64 a0_0, .int .i64 a0_1, .int .i64 a0_2] 43 (0, 0)) z9_3 hb); have n3_ := Aside0.mk (below_step z9_1 hb); clear HO_6; clear HO_8; clear BK237; clear HB; have HO_6 := n0_; have HO_8 := n1_; have BK237 := n2_; have HB := n3_; clear n0_ n1_ n2_ n3_; (try clear hb); (try clear hb2); (try clear hk); (try clear hi)) | ((with_reducible refine gate_callee (f := 33) rfl ?_); refine goesL_ (some 63) rfl rfl Try.func33 (by kernel_rfl) rfl #[.slice A1 l1.length c1] rfl z9_2 ?_; (with_reducible refine (laws_toMessageS.calls kj17 _ _ l1 t271 _ ?side1 ?side2 A46.out).mono ?_); (case side1 => repeat (first | exact (Kd.C_below HR1.out HB.out) | (with_reducible refine Kd.C_alloc ?_ _) | (with_reducible refine Kd.C_drewN ?_ _) | (with_reducible refine Kd.C_drew ?_))); (case side2 => exact HC1.out); rintro e w56 ⟨v272, rfl, ho0, hb⟩; refine ⟨_, rfl, ?_⟩; have n0_ := Aside0.mk (Kd.R_elder' z9_11 (Kd.R_base ho0) hb); have n1_ := Aside0.mk (Kd.R_elder' z9_12 (Kd.R_base ho0) hb); have n2_ := Aside0.mk (Kd.R_lower (Kd.R_new' (Kd.R_new' ho0 (Kd.R_lt z9_11)) (Kd.R_lt z9_12)) (below_size z9_1)); have n3_ := Aside0.mk (blk_below (g := gb237) (o := .cells #[.int .i64 a0_0, .int .i64 a0_1, .int .i64 a0_2] 43 (0, 0)) z9_3 hb); have n4_ := Aside0.mk (below_step z9_1 hb); clear HO_6; clear HO_8; clear BK237; clear HB; have HO_6 := n0_; have HO_8 := n1_; have HO273 := n2_; have BK237 := n3_; have HB := n4_; clear n0_ n1_ n2_ n3_ n4_; (try clear hb); (try clear hb2); (try clear hk); (try clear hi); (try clear ho0); obtain ⟨Ao57, co57, eo57⟩ := Kd.R_slice HO273.out; subst eo57) | ((with_reducible refine gate_callee (f := 34) rfl ?_); refine goesL_ (some 64) rfl rfl Try.func34 (by kernel_rfl) rfl #[.agg #[.int .i64 t268, .int .i64 t269, .int .i64 t270], .slice Ao57 t271.length co57] rfl z9_2 ?_; (with_reducible refine (impl_CombineMessages.calls kj17 t268 t269 t270 _ _ t271 t274 _ ?side1 ?side2 A47.out).mono ?_); (case side1 => repeat (first | exact (Kd.R_reads' HO273.out).2.2 | (with_reducible refine Kd.C_alloc ?_ _) | (with_reducible refine Kd.C_drewN ?_ _) | (with_reducible refine Kd.C_drew ?_))); (case side2 => exact (Kd.R_reads' HO273.out).2.1); rintro e w58 ⟨v275, rfl, ho0, hb⟩; refine ⟨_, rfl, ?_⟩; have n0_ := Aside0.mk (Kd.R_elder' z9_11 (Kd.R_base ho0) hb); have n1_ := Aside0.mk (Kd.R_elder' z9_12 (Kd.R_base ho0) hb); have n2_ := Aside0.mk (Kd.R_elder' z9_17 (Kd.R_base ho0) hb); have n3_ := Aside0.mk (Kd.R_lower (Kd.R_new' (Kd.R_new' (Kd.R_new' ho0 (Kd.R_lt z9_11)) (Kd.R_lt z9_12)) (Kd.R_lt z9_17)) (below_size z9_1)); have n4_ := Aside0.mk (blk_below (g := gb237) (o := .cells #[.int .i64 a0_0, .int .i64 a0_1, .int .i64 a0_2] 43 (0, 0)) z9_3 hb); have n5_ := Aside0.mk (below_step z9_1 hb); clear HO_6; clear HO_8; clear HO273; clear BK237; clear HB; have HO_6 := n0_; have HO_8 := n1_; have HO273 := n2_; have HO276 := n3_; have BK237 := n4_; have HB := n5_; clear n0_ n1_ n2_ n3_ n4_ n5_; (try clear hb); (try clear hb2); (try clear hk); (try clear hi); (try clear ho0); obtain ⟨Ao59, co59, eo59⟩ := Kd.R_slice HO276.out; subst eo59) | ((with_reducible refine gate_callee (f := 35) rfl ?_); refine goesL_ (some 67) rfl rfl Try.func35 (by kernel_rfl) rfl #[.slice Ao59 t274.length co59, .slice Ao31 t245.length co31] rfl z9_2 ?_; (with_reducible refine (laws_eqMessageS.calls kj17 _ _ t274 _ _ t245 true _ ?side1 ?side2 ?side3 ?side4 A48.out).mono ?_); (case side1 => repeat (first | exact (Kd.R_reads' HO276.out).2.2 | (with_reducible refine Kd.C_alloc ?_ _) | (with_reducible refine Kd.C_drewN ?_ _) | (with_reducible refine Kd.C_drew ?_))); (case side2 => exact (Kd.R_reads' HO276.out).2.1); (case side3 => repeat (first | exact (Kd.R_reads' HO_6.out).2.2 | (with_reducible refine Kd.C_alloc ?_ _) | (with_reducible refine Kd.C_drewN ?_ _) | (with_reducible refine Kd.C_drew ?_))); (case side4 => exact (Kd.R_reads' HO_6.out).2.1); rintro e w60 ⟨rfl, hb⟩; refine ⟨_, rfl, ?_⟩; have n0_ := Aside0.mk (Kd.R_below z9_11 hb); have n1_ := Aside0.mk (Kd.R_below z9_12 hb); have n2_ := Aside0.mk (Kd.R_below z9_17 hb); have n3_ := Aside0.mk (Kd.R_below (by (with_reducible repeat (first | apply Kd.R_alloc | apply Kd.R_drewN | apply Kd.R_drew)); exact HO276.out) hb); have n4_ := Aside0.mk (blk_below (g := gb237) (o := .cells #[.int .i64 a0_0, .int .i64 a0_1, .int .i64 a0_2] 43 (0, 0)) z9_3 hb); have n5_ := Aside0.mk (below_step z9_1 hb); clear HO_6; clear HO_8; clear HO273; clear HO276; clear BK237; clear HB; have HO_6 := n0_; have HO_8 := n1_; have HO273 := n2_; have HO276 := n3_; have BK237 := n4_; have HB := n5_; clear n0_ n1_ n2_ n3_ n4_ n5_; (try clear hb); (try clear hb2); (try clear hk); (try clear hi)) | ((with_reducible refine gate_callee (f := 37) rfl ?_); refine goesL_ (some 71) rfl rfl Try.func37 (by kernel_rfl) rfl #[.slice Ao30 t266.length co30, .int .i64 1] rfl z9_16 ?_; (with_reducible refine (laws_heldMessageS.calls kj17 _ _ t266 1 t278 _ ?side1 ?side2 A50.out).mono ?_); (case side1 => repeat (first | exact (Kd.R_reads' HO_8.out).2.2 | (with_reducible refine Kd.C_alloc ?_ _) | (with_reducible refine Kd.C_drewN ?_ _) | (with_reducible refine Kd.C_drew ?_))); (case side2 => rw [show t266.length = t254.length from (Kd.R_reads' HO_8.out).1.symm]; exact (Kd.R_reads' HO_8.out).2.1); rintro e w' ⟨rfl, ⟨nd, rfl⟩⟩; refine ⟨_, rfl, ?_⟩))
            go_ret
            exact ⟨z9_18, z9_1⟩
           ·rw [if_neg c52] at H
            exact absurd H (by simp)
         ·replace c49 := Bool.eq_false_iff.mpr c49
          subst c49
          have H1 : (none) = some r := by rw [if_neg (show ¬ (false = true) by decide)] at H; exact H
          clear H
          have H := H1
          clear H1
          exact absurd H (by simp)
        ·rw [if_neg c44] at H
         exact absurd H (by simp)
   ·replace c16 := Bool.eq_false_iff.mpr c16
    subst c16
    have H1 : (none) = some r := by rw [if_neg (show ¬ (false = true) by decide)] at H; exact H
    clear H
    have H := H1
    clear H1
    exact absurd H (by simp)
  ·replace c13 := Bool.eq_false_iff.mpr c13
   subst c13
   have H1 : (none) = some r := by rw [if_neg (show ¬ (false = true) by decide)] at H; exact H
   clear H
   have H := H1
   clear H1
   exact absurd H (by simp)

end Go.Proofs.Ytgdcnlmhdbdijaa.PFnExactCombineMessages
