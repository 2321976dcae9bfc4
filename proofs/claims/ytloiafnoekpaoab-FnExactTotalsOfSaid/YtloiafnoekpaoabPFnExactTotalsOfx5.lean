/- Laid by a program of this session out of the translation: functions, their contracts, the row. Lean checks it. -/
import Derived.Test.YtloiafnoekpaoabPFnExactTotalsOfx0
import Derived.Test.YtloiafnoekpaoabPFnExactTotalsOfx2
import Derived.Test.YtloiafnoekpaoabPFnExactTotalsOfx3
import Derived.Test.YtloiafnoekpaoabPFnExactTotalsOfx4
namespace Go.Proofs.Ytloiafnoekpaoab.PFnExactTotalsOf
open Go.RowKit Go.Proofs.YtloiafnoekpaoabW.PrintWords Go.Proofs.YtloiafnoekpaoabW.PrintLast Go.Proofs.YtloiafnoekpaoabW.PrintMore
attribute [local go_sem] max2_int min2_int max_two min_two max_three min_three max_four min_four   -- for this text's walks alone
set_option linter.unusedVariables false
set_option linter.unusedSimpArgs false

/-! ### laws_markTotalS: function 30 -/
def laws_markTotalS.l0 : Nat → List (S52) → Int → Int → Option (Int × (List (S52)))
  | 0, _, _, _ => none
  | k + 1, x0, x1, x5 => if x5 < (x0.length : Int) then (if 0 ≤ x5 then ((some (x0.set (x5 : Int).toNat (⟨x1, (rd_T52 x0 x5).f1, (rd_T52 x0 x5).f2, (rd_T52 x0 x5).f3⟩ : S52) : List (S52))).bind fun y160 => ((some (y160.set (x5 : Int).toNat (⟨(rd_T52 y160 x5).f0, wrap64 (x1 + 1), (rd_T52 y160 x5).f2, (rd_T52 y160 x5).f3⟩ : S52) : List (S52))).bind fun y161 => ((some (y161.set (x5 : Int).toNat (⟨(rd_T52 y161 x5).f0, (rd_T52 y161 x5).f1, wrap64 ((wrap64 (x1 + 1)) + 1), (rd_T52 y161 x5).f3⟩ : S52) : List (S52))).bind fun y162 => (laws_markTotalS.l0 k (y162.set (x5 : Int).toNat (⟨(rd_T52 y162 x5).f0, (rd_T52 y162 x5).f1, (rd_T52 y162 x5).f2, wrap64 ((wrap64 ((wrap64 (x1 + 1)) + 1)) + 1)⟩ : S52)) (wrap64 ((wrap64 ((wrap64 ((wrap64 (x1 + 1)) + 1)) + 1)) + 1)) (wrap64 (x5 + 1)))))) else (none)) else (some (x1, x0))
def laws_markTotalS.f (k : Nat) (l0 : List (S52)) (a1 : Int) : Option (Int × (List (S52))) := laws_markTotalS.l0 k l0 a1 0
theorem laws_markTotalS.mono_l : ∀ k, (∀ y0 y1 y2, LeO (laws_markTotalS.l0 k y0 y1 y2) (laws_markTotalS.l0 (k + 1) y0 y1 y2))
  | 0 => fun _ _ _ r h => by simp [laws_markTotalS.l0] at h
  | k + 1 => by
    have ih0 := laws_markTotalS.mono_l k
    · intro y0 y1 y2
      unfold laws_markTotalS.l0
      repeat' first
      | (with_reducible exact ih0 _ _ _)
      | (with_reducible exact LeO.refl _)
      | (with_reducible exact LeO.none _)
      | (with_reducible refine LeO.ite ?_ ?_)
      | (with_reducible refine LeO.bind ?_ (fun _ => ?_))
      | exact ih0 _ _ _
      | exact LeO.none _
      | refine LeO.ite ?_ ?_
      | refine LeO.bind ?_ (fun _ => ?_)
theorem laws_markTotalS.mono : ∀ a0 a1 k, LeO (laws_markTotalS.f k a0 a1) (laws_markTotalS.f (k + 1) a0 a1) := by
  intro a0 a1 k
  have ih0 := laws_markTotalS.mono_l k
  unfold laws_markTotalS.f
  repeat' first
      | (with_reducible exact ih0 _ _ _)
      | (with_reducible exact LeO.refl _)
      | (with_reducible exact LeO.none _)
      | (with_reducible refine LeO.ite ?_ ?_)
      | (with_reducible refine LeO.bind ?_ (fun _ => ?_))
      | exact ih0 _ _ _
      | exact LeO.none _
      | refine LeO.ite ?_ ?_
      | refine LeO.bind ?_ (fun _ => ?_)
set_option maxHeartbeats 8000000 in
set_option maxRecDepth 100000 in
theorem laws_markTotalS.calls (k : Nat) (P0_ : Nat → Prop) (u9000_ : Value) (l0 : List (S52)) (a1 : Int) (r1 : Int) (r2 : List (S52)) (w0 w : World) (hB : Below w0.heap.size w0 w) (ho0 : Kd.R k52 52 w w0.heap.size P0_ u9000_ l0) (h : laws_markTotalS.f k l0 a1 = some (r1, r2)) :
    Calls Try.prog 30 #[u9000_, .int .i64 a1] w fun e w' => e = .returned (.int .i64 r1) ∧ Kd.R k52 52 w' w0.heap.size (fun k_ => (P0_ k_ ∨ w.heap.size ≤ k_)) u9000_ r2 ∧ Below w0.heap.size w0 w' ∧ Kept w w' (fun k_ => P0_ k_) := by
  have HO0 := Aside0.mk (show Kd.R k52 52 w w0.heap.size (fun k_ => (P0_ k_ ∨ w.heap.size ≤ k_)) u9000_ l0 from Kd.R_mono ho0 (fun k_ hk => (.inl hk)))
  have HK := Aside0.mk (Kept.refl w (fun k_ => P0_ k_))
  have HW0 := Aside0.mk hB.size
  have HB := Aside0.mk hB
  clear hB
  have H : (laws_markTotalS.l0 k l0 a1 0) = some (r1, r2) := h
  clear h
  have H' := Aside0.mk H
  clear H
  go_enter Try.func30, Try.ntmps30
  go_wp2
  go_loopg [1, 5] k (fun kq v1 v5 w' => ∃ (x0_1 : List (S52)) (x1_1 : Int) (x5_1 : Int), v1 = .int .i64 x1_1 ∧ v5 = .int .i64 x5_1 ∧ Aside0 (laws_markTotalS.l0 kq x0_1 x1_1 x5_1 = some (r1, r2)) ∧ Aside0 (kq ≤ k) ∧ Aside0 (Kd.R k52 52 w' w0.heap.size (fun k_ => (P0_ k_ ∨ w.heap.size ≤ k_)) u9000_ x0_1) ∧ Aside0 (Kept w w' (fun k_ => P0_ k_)) ∧ Aside0 (Below w0.heap.size w0 w'))
  case atStart => exact ⟨(l0), (a1), (0), (by first | rfl | (simp; done) | (simp [*]; done)), (by first | rfl | (simp; done) | (simp [*]; done)), H', ⟨Nat.le_refl _⟩, ⟨by (with_reducible repeat (first | apply Kd.R_alloc | apply Kd.R_drewN | apply Kd.R_drew)); exact HO0.out⟩, ⟨by repeat (first | (with_reducible first | exact HK.out | apply Kept.alloc | apply Kept.drewN | apply Kept.drew) | exact HK.out)⟩, ⟨by repeat (first | (with_reducible first | exact HB.out | apply below_alloc | apply pw_below_drewN | apply below_drew1) | exact HB.out)⟩⟩
  case round =>
    clear H'
    try clear p2
    obtain ⟨x0_1, x1_1, x5_1, rfl, rfl, HA, HK1, HO_0, HK, HB⟩ := hrel
    cases gk with
    | zero => exact absurd HA.out (by simp [laws_markTotalS.l0])
    | succ k1 =>
      have H := HA.out
      clear HA
      simp only [laws_markTotalS.l0] at H
      by_cases c3 : x5_1 < (x0_1.length : Int)
      · rw [if_pos c3] at H
        have c3b0 : decide (x5_1 < (x0_1.length : Int)) = true := decide_eq_true c3
        clear c3
        by_cases c4 : 0 ≤ x5_1
        · rw [if_pos c4] at H
          have c4b0 : decide (0 ≤ x5_1) = true := decide_eq_true c4
          clear c4
          obtain ⟨y160, hy160⟩ : ∃ y_ : List (S52), y_ = (x0_1.set (x5_1 : Int).toNat (⟨x1_1, (rd_T52 x0_1 x5_1).f1, (rd_T52 x0_1 x5_1).f2, (rd_T52 x0_1 x5_1).f3⟩ : S52)) := ⟨_, rfl⟩
          replace H : ((some (y160.set (x5_1 : Int).toNat (⟨(rd_T52 y160 x5_1).f0, wrap64 (x1_1 + 1), (rd_T52 y160 x5_1).f2, (rd_T52 y160 x5_1).f3⟩ : S52) : List (S52))).bind fun y161 => ((some (y161.set (x5_1 : Int).toNat (⟨(rd_T52 y161 x5_1).f0, (rd_T52 y161 x5_1).f1, wrap64 ((wrap64 (x1_1 + 1)) + 1), (rd_T52 y161 x5_1).f3⟩ : S52) : List (S52))).bind fun y162 => (laws_markTotalS.l0 k1 (y162.set (x5_1 : Int).toNat (⟨(rd_T52 y162 x5_1).f0, (rd_T52 y162 x5_1).f1, (rd_T52 y162 x5_1).f2, wrap64 ((wrap64 ((wrap64 (x1_1 + 1)) + 1)) + 1)⟩ : S52)) (wrap64 ((wrap64 ((wrap64 ((wrap64 (x1_1 + 1)) + 1)) + 1)) + 1)) (wrap64 (x5_1 + 1))))) = some (r1, r2) := by first | (rw [hy160]; with_reducible exact H) | (have H2_ := (Option.bind_some _ _).symm.trans H; rw [hy160]; with_reducible exact H2_) | (have H2_ := (Option.bind_some _ _).symm.trans H; with_reducible exact H2_) | with_reducible exact H | (rw [hy160]; exact H) | exact H
          have Ny160 := Aside0.mk hy160
          clear hy160
          obtain ⟨y161, hy161⟩ : ∃ y_ : List (S52), y_ = (y160.set (x5_1 : Int).toNat (⟨(rd_T52 y160 x5_1).f0, wrap64 (x1_1 + 1), (rd_T52 y160 x5_1).f2, (rd_T52 y160 x5_1).f3⟩ : S52)) := ⟨_, rfl⟩
          replace H : ((some (y161.set (x5_1 : Int).toNat (⟨(rd_T52 y161 x5_1).f0, (rd_T52 y161 x5_1).f1, wrap64 ((wrap64 (x1_1 + 1)) + 1), (rd_T52 y161 x5_1).f3⟩ : S52) : List (S52))).bind fun y162 => (laws_markTotalS.l0 k1 (y162.set (x5_1 : Int).toNat (⟨(rd_T52 y162 x5_1).f0, (rd_T52 y162 x5_1).f1, (rd_T52 y162 x5_1).f2, wrap64 ((wrap64 ((wrap64 (x1_1 + 1)) + 1)) + 1)⟩ : S52)) (wrap64 ((wrap64 ((wrap64 ((wrap64 (x1_1 + 1)) + 1)) + 1)) + 1)) (wrap64 (x5_1 + 1)))) = some (r1, r2) := by first | (rw [hy161]; with_reducible exact H) | (have H2_ := (Option.bind_some _ _).symm.trans H; rw [hy161]; with_reducible exact H2_) | (have H2_ := (Option.bind_some _ _).symm.trans H; with_reducible exact H2_) | with_reducible exact H | (rw [hy161]; exact H) | exact H
          have Ny161 := Aside0.mk hy161
          clear hy161
          obtain ⟨y162, hy162⟩ : ∃ y_ : List (S52), y_ = (y161.set (x5_1 : Int).toNat (⟨(rd_T52 y161 x5_1).f0, (rd_T52 y161 x5_1).f1, wrap64 ((wrap64 (x1_1 + 1)) + 1), (rd_T52 y161 x5_1).f3⟩ : S52)) := ⟨_, rfl⟩
          replace H : (laws_markTotalS.l0 k1 (y162.set (x5_1 : Int).toNat (⟨(rd_T52 y162 x5_1).f0, (rd_T52 y162 x5_1).f1, (rd_T52 y162 x5_1).f2, wrap64 ((wrap64 ((wrap64 (x1_1 + 1)) + 1)) + 1)⟩ : S52)) (wrap64 ((wrap64 ((wrap64 ((wrap64 (x1_1 + 1)) + 1)) + 1)) + 1)) (wrap64 (x5_1 + 1))) = some (r1, r2) := by first | (rw [hy162]; with_reducible exact H) | (have H2_ := (Option.bind_some _ _).symm.trans H; rw [hy162]; with_reducible exact H2_) | (have H2_ := (Option.bind_some _ _).symm.trans H; with_reducible exact H2_) | with_reducible exact H | (rw [hy162]; exact H) | exact H
          have Ny162 := Aside0.mk hy162
          clear hy162
          obtain ⟨y163, hy163⟩ : ∃ y_ : List (S52), y_ = (y162.set (x5_1 : Int).toNat (⟨(rd_T52 y162 x5_1).f0, (rd_T52 y162 x5_1).f1, (rd_T52 y162 x5_1).f2, wrap64 ((wrap64 ((wrap64 (x1_1 + 1)) + 1)) + 1)⟩ : S52)) := ⟨_, rfl⟩
          replace H : (laws_markTotalS.l0 k1 y163 (wrap64 ((wrap64 ((wrap64 ((wrap64 (x1_1 + 1)) + 1)) + 1)) + 1)) (wrap64 (x5_1 + 1))) = some (r1, r2) := by first | (rw [hy163]; with_reducible exact H) | (have H2_ := (Option.bind_some _ _).symm.trans H; rw [hy163]; with_reducible exact H2_) | (have H2_ := (Option.bind_some _ _).symm.trans H; with_reducible exact H2_) | with_reducible exact H | (rw [hy163]; exact H) | exact H
          have Ny163 := Aside0.mk hy163
          clear hy163
          have H' := Aside0.mk H
          clear H
          obtain ⟨Ao9, co9, eo9⟩ := Kd.R_slice HO_0.out
          subst eo9
          have p5 : 0 ≤ (x5_1 : Int) := of_decide_eq_true (by first | (with_reducible assumption) | assumption)
          have q5 : (x5_1 : Int) < ((x0_1.length : Int) : Int) := of_decide_eq_true (by first | (with_reducible assumption) | assumption)
          obtain ⟨go5, co5, eo5, gb5, gl5, cl5, HG5⟩ := Kd.R_form HO_0.out (by omega)
          (first | cases eo5 | (injection eo5 with ea_ en_ ec_; (first | subst ea_ | (injection ea_ with ea_; subst ea_)); subst ec_; clear en_))
          have GB5 := Aside0.mk gb5
          have GG5 := Aside0.mk HG5
          clear gb5 gl5 HG5
          have HMgo5 := Aside0.mk (show (P0_ go5 ∨ w.heap.size ≤ go5) from (HO_0.out.1 _ rfl))
          obtain ⟨ce5, hcl5, hM5, hcc5, hfr5⟩ := Kd.R_elem HO_0.out z52 (x5_1 : Int) p5 q5
          obtain rfl := k52_openM hM5
          have hx5_0 : wr.cell? ⟨go5, (x5_1 : Int).toNat * 4, none⟩ = some (.int .i64 ((rd_T52 x0_1 x5_1).f0)) := hcc5 0 _ rfl
          have hx5_1 : wr.cell? ⟨go5, (x5_1 : Int).toNat * 4 + 1, none⟩ = some (.int .i64 ((rd_T52 x0_1 x5_1).f1)) := hcc5 1 _ rfl
          have hx5_2 : wr.cell? ⟨go5, (x5_1 : Int).toNat * 4 + 2, none⟩ = some (.int .i64 ((rd_T52 x0_1 x5_1).f2)) := hcc5 2 _ rfl
          have hx5_3 : wr.cell? ⟨go5, (x5_1 : Int).toNat * 4 + 3, none⟩ = some (.int .i64 ((rd_T52 x0_1 x5_1).f3)) := hcc5 3 _ rfl
          have hf5_0 : wr.frozen? ⟨go5, (x5_1 : Int).toNat * 4, none⟩ = false := hfr5 0
          have hf5_1 : wr.frozen? ⟨go5, (x5_1 : Int).toNat * 4 + 1, none⟩ = false := hfr5 1
          have hf5_2 : wr.frozen? ⟨go5, (x5_1 : Int).toNat * 4 + 2, none⟩ = false := hfr5 2
          have hf5_3 : wr.frozen? ⟨go5, (x5_1 : Int).toNat * 4 + 3, none⟩ = false := hfr5 3
          clear hcl5 hcc5 hfr5 hM5
          replace p5 := eq_true p5
          replace q5 := eq_true q5
          have HX10 := Aside0.mk (show Kd.R k52 52 wr w0.heap.size (fun k_ => (P0_ k_ ∨ w.heap.size ≤ k_)) (.slice (some ⟨go5, 0, none⟩) x0_1.length co9) x0_1 from (by (with_reducible repeat (first | apply Kd.R_alloc | apply Kd.R_drewN | apply Kd.R_drew)); exact HO_0.out))
          obtain ⟨ce10, hcl10, hM10, hcc10, hfr10⟩ := Kd.R_elem HX10.out z52 (x5_1 : Int) (of_decide_eq_true (by first | (with_reducible assumption) | assumption)) (by have h_ : (x5_1 : Int) < ((x0_1.length : Int) : Int) := of_decide_eq_true (by first | (with_reducible assumption) | assumption); first | exact h_ | (have e_ := (Kd.R_reads' HO_0.out).1; omega) | simpa using h_)
          obtain rfl := k52_openM hM10
          have HP10 := Kd.R_seg HX10.out (x5_1 : Int) (of_decide_eq_true (by first | (with_reducible assumption) | assumption)) (by have h_ : (x5_1 : Int) < ((x0_1.length : Int) : Int) := of_decide_eq_true (by first | (with_reducible assumption) | assumption); first | exact h_ | (have e_ := (Kd.R_reads' HO_0.out).1; omega) | simpa using h_) (seg := [.int .i64 x1_1]) (j := 0) hcl10 hcc10 (show 1 ≤ 4 from by decide) (x' := (⟨x1_1, (rd_T52 x0_1 x5_1).f1, (rd_T52 x0_1 x5_1).f2, (rd_T52 x0_1 x5_1).f3⟩ : S52)) (k52_mkM _ _ _ (⟨x1_1, (rd_T52 x0_1 x5_1).f1, (rd_T52 x0_1 x5_1).f2, (rd_T52 x0_1 x5_1).f3⟩ : S52) ) (fun _ hk => hk)
          have hx10_0 := hcc10 0 _ rfl
          (try simp only [show (k52).sz = 4 from rfl, Nat.mul_one, Nat.add_zero] at hx10_0)
          have hf10_0 := hfr10 0
          (try simp only [show (k52).sz = 4 from rfl, Nat.mul_one, Nat.add_zero] at hf10_0)
          clear hcl10 hcc10 hfr10 hM10
          go_wp2_with (first | ((with_reducible refine gate_store (t := 3) (p := 16) rfl ?_); refine store_event (t := 3) (p := 16) (v := ?vo_w11) (w1 := (wr.setCell ⟨go5, (x5_1 : Int).toNat * 4, none⟩ (.int .i64 x1_1))) ?hg ?ho ?hn ?hr ?_; (case ho => rfl); (case hg => rfl); (case hn => rfl); (case hr => first | (go_simp; done) | (go_simp; rfl)); intro w11 hw; have hg : wr.grownBy w11 (some go5) := (by rw [hw]; exact HP10.2); have hp_ : Kd.R k52 52 w11 w0.heap.size (fun k_ => (P0_ k_ ∨ w.heap.size ≤ k_)) (.slice (some ⟨go5, 0, none⟩) x0_1.length co9) y160 := (by rw [hw, Ny160.out]; exact HP10.1); clear HP10; have n0_ := Aside0.mk (hp_); have n1_ := Aside0.mk ((by rw [hw]; exact below_set (HB.out) GB5.out : Below w0.heap.size w0 w11)); have n2_ := Aside0.mk (Kept.of_grown (S := (fun k_ => P0_ k_)) hg (by repeat (first | (with_reducible first | exact HK.out | apply Kept.alloc | apply Kept.drewN | apply Kept.drew) | exact HK.out)) (fun k_ e_ => (HO_0.out.1 k_ e_))); clear HO_0; clear HB; clear HK; have HO_0 := n0_; have HB := n1_; have HK := n2_; clear n0_ n1_ n2_; clear hg hw hp_; have p6 : 0 ≤ (x5_1 : Int) := of_decide_eq_true (by first | (with_reducible assumption) | assumption); have q6 : (x5_1 : Int) < ((x0_1.length : Int) : Int) := of_decide_eq_true (by first | (with_reducible assumption) | assumption); obtain ⟨ce6, hcl6, hM6, hcc6, hfr6⟩ := Kd.R_elem HO_0.out z52 (x5_1 : Int) p6 q6; obtain rfl := k52_openM hM6; have hx6_0 : w11.cell? ⟨go5, (x5_1 : Int).toNat * 4, none⟩ = some (.int .i64 ((rd_T52 y160 x5_1).f0)) := hcc6 0 _ rfl; have hx6_1 : w11.cell? ⟨go5, (x5_1 : Int).toNat * 4 + 1, none⟩ = some (.int .i64 ((rd_T52 y160 x5_1).f1)) := hcc6 1 _ rfl; have hx6_2 : w11.cell? ⟨go5, (x5_1 : Int).toNat * 4 + 2, none⟩ = some (.int .i64 ((rd_T52 y160 x5_1).f2)) := hcc6 2 _ rfl; have hx6_3 : w11.cell? ⟨go5, (x5_1 : Int).toNat * 4 + 3, none⟩ = some (.int .i64 ((rd_T52 y160 x5_1).f3)) := hcc6 3 _ rfl; have hf6_0 : w11.frozen? ⟨go5, (x5_1 : Int).toNat * 4, none⟩ = false := hfr6 0; have hf6_1 : w11.frozen? ⟨go5, (x5_1 : Int).toNat * 4 + 1, none⟩ = false := hfr6 1; have hf6_2 : w11.frozen? ⟨go5, (x5_1 : Int).toNat * 4 + 2, none⟩ = false := hfr6 2; have hf6_3 : w11.frozen? ⟨go5, (x5_1 : Int).toNat * 4 + 3, none⟩ = false := hfr6 3; clear hcl6 hcc6 hfr6 hM6; replace p6 := eq_true p6; replace q6 := eq_true q6; have HX12 := Aside0.mk (show Kd.R k52 52 w11 w0.heap.size (fun k_ => (P0_ k_ ∨ w.heap.size ≤ k_)) (.slice (some ⟨go5, 0, none⟩) x0_1.length co9) y160 from (by (with_reducible repeat (first | apply Kd.R_alloc | apply Kd.R_drewN | apply Kd.R_drew)); exact HO_0.out)); obtain ⟨ce12, hcl12, hM12, hcc12, hfr12⟩ := Kd.R_elem HX12.out z52 (x5_1 : Int) (of_decide_eq_true (by first | (with_reducible assumption) | assumption)) (by have h_ : (x5_1 : Int) < ((x0_1.length : Int) : Int) := of_decide_eq_true (by first | (with_reducible assumption) | assumption); first | exact h_ | (have e_ := (Kd.R_reads' HO_0.out).1; omega) | simpa using h_); obtain rfl := k52_openM hM12; have HP12 := Kd.R_seg HX12.out (x5_1 : Int) (of_decide_eq_true (by first | (with_reducible assumption) | assumption)) (by have h_ : (x5_1 : Int) < ((x0_1.length : Int) : Int) := of_decide_eq_true (by first | (with_reducible assumption) | assumption); first | exact h_ | (have e_ := (Kd.R_reads' HO_0.out).1; omega) | simpa using h_) (seg := [.int .i64 (wrap64 (x1_1 + 1))]) (j := 1) hcl12 hcc12 (show 2 ≤ 4 from by decide) (x' := (⟨(rd_T52 y160 x5_1).f0, wrap64 (x1_1 + 1), (rd_T52 y160 x5_1).f2, (rd_T52 y160 x5_1).f3⟩ : S52)) (k52_mkM _ _ _ (⟨(rd_T52 y160 x5_1).f0, wrap64 (x1_1 + 1), (rd_T52 y160 x5_1).f2, (rd_T52 y160 x5_1).f3⟩ : S52) ) (fun _ hk => hk); have hx12_1 := hcc12 1 _ rfl; (try simp only [show (k52).sz = 4 from rfl, Nat.mul_one, Nat.add_zero] at hx12_1); have hf12_1 := hfr12 1; (try simp only [show (k52).sz = 4 from rfl, Nat.mul_one, Nat.add_zero] at hf12_1); clear hcl12 hcc12 hfr12 hM12) | ((with_reducible refine gate_store (t := 3) (p := 23) rfl ?_); refine store_event (t := 3) (p := 23) (v := ?vo_w13) (w1 := (w11.setCell ⟨go5, (x5_1 : Int).toNat * 4 + 1, none⟩ (.int .i64 (wrap64 (x1_1 + 1))))) ?hg ?ho ?hn ?hr ?_; (case ho => rfl); (case hg => rfl); (case hn => rfl); (case hr => first | (go_simp; done) | (go_simp; rfl)); intro w13 hw; have hg : w11.grownBy w13 (some go5) := (by rw [hw]; exact HP12.2); have hp_ : Kd.R k52 52 w13 w0.heap.size (fun k_ => (P0_ k_ ∨ w.heap.size ≤ k_)) (.slice (some ⟨go5, 0, none⟩) x0_1.length co9) y161 := (by rw [hw, Ny161.out]; exact HP12.1); clear HP12; have n0_ := Aside0.mk (hp_); have n1_ := Aside0.mk ((by rw [hw]; exact below_set (HB.out) GB5.out : Below w0.heap.size w0 w13)); have n2_ := Aside0.mk (Kept.of_grown (S := (fun k_ => P0_ k_)) hg (by repeat (first | (with_reducible first | exact HK.out | apply Kept.alloc | apply Kept.drewN | apply Kept.drew) | exact HK.out)) (fun k_ e_ => (HO_0.out.1 k_ e_))); clear HO_0; clear HB; clear HK; have HO_0 := n0_; have HB := n1_; have HK := n2_; clear n0_ n1_ n2_; clear hg hw hp_; have p7 : 0 ≤ (x5_1 : Int) := of_decide_eq_true (by first | (with_reducible assumption) | assumption); have q7 : (x5_1 : Int) < ((x0_1.length : Int) : Int) := of_decide_eq_true (by first | (with_reducible assumption) | assumption); obtain ⟨ce7, hcl7, hM7, hcc7, hfr7⟩ := Kd.R_elem HO_0.out z52 (x5_1 : Int) p7 q7; obtain rfl := k52_openM hM7; have hx7_0 : w13.cell? ⟨go5, (x5_1 : Int).toNat * 4, none⟩ = some (.int .i64 ((rd_T52 y161 x5_1).f0)) := hcc7 0 _ rfl; have hx7_1 : w13.cell? ⟨go5, (x5_1 : Int).toNat * 4 + 1, none⟩ = some (.int .i64 ((rd_T52 y161 x5_1).f1)) := hcc7 1 _ rfl; have hx7_2 : w13.cell? ⟨go5, (x5_1 : Int).toNat * 4 + 2, none⟩ = some (.int .i64 ((rd_T52 y161 x5_1).f2)) := hcc7 2 _ rfl; have hx7_3 : w13.cell? ⟨go5, (x5_1 : Int).toNat * 4 + 3, none⟩ = some (.int .i64 ((rd_T52 y161 x5_1).f3)) := hcc7 3 _ rfl; have hf7_0 : w13.frozen? ⟨go5, (x5_1 : Int).toNat * 4, none⟩ = false := hfr7 0; have hf7_1 : w13.frozen? ⟨go5, (x5_1 : Int).toNat * 4 + 1, none⟩ = false := hfr7 1; have hf7_2 : w13.frozen? ⟨go5, (x5_1 : Int).toNat * 4 + 2, none⟩ = false := hfr7 2; have hf7_3 : w13.frozen? ⟨go5, (x5_1 : Int).toNat * 4 + 3, none⟩ = false := hfr7 3; clear hcl7 hcc7 hfr7 hM7; replace p7 := eq_true p7; replace q7 := eq_true q7; have HX14 := Aside0.mk (show Kd.R k52 52 w13 w0.heap.size (fun k_ => (P0_ k_ ∨ w.heap.size ≤ k_)) (.slice (some ⟨go5, 0, none⟩) x0_1.length co9) y161 from (by (with_reducible repeat (first | apply Kd.R_alloc | apply Kd.R_drewN | apply Kd.R_drew)); exact HO_0.out)); obtain ⟨ce14, hcl14, hM14, hcc14, hfr14⟩ := Kd.R_elem HX14.out z52 (x5_1 : Int) (of_decide_eq_true (by first | (with_reducible assumption) | assumption)) (by have h_ : (x5_1 : Int) < ((x0_1.length : Int) : Int) := of_decide_eq_true (by first | (with_reducible assumption) | assumption); first | exact h_ | (have e_ := (Kd.R_reads' HO_0.out).1; omega) | simpa using h_); obtain rfl := k52_openM hM14; have HP14 := Kd.R_seg HX14.out (x5_1 : Int) (of_decide_eq_true (by first | (with_reducible assumption) | assumption)) (by have h_ : (x5_1 : Int) < ((x0_1.length : Int) : Int) := of_decide_eq_true (by first | (with_reducible assumption) | assumption); first | exact h_ | (have e_ := (Kd.R_reads' HO_0.out).1; omega) | simpa using h_) (seg := [.int .i64 (wrap64 ((wrap64 (x1_1 + 1)) + 1))]) (j := 2) hcl14 hcc14 (show 3 ≤ 4 from by decide) (x' := (⟨(rd_T52 y161 x5_1).f0, (rd_T52 y161 x5_1).f1, wrap64 ((wrap64 (x1_1 + 1)) + 1), (rd_T52 y161 x5_1).f3⟩ : S52)) (k52_mkM _ _ _ (⟨(rd_T52 y161 x5_1).f0, (rd_T52 y161 x5_1).f1, wrap64 ((wrap64 (x1_1 + 1)) + 1), (rd_T52 y161 x5_1).f3⟩ : S52) ) (fun _ hk => hk); have hx14_2 := hcc14 2 _ rfl; (try simp only [show (k52).sz = 4 from rfl, Nat.mul_one, Nat.add_zero] at hx14_2); have hf14_2 := hfr14 2; (try simp only [show (k52).sz = 4 from rfl, Nat.mul_one, Nat.add_zero] at hf14_2); clear hcl14 hcc14 hfr14 hM14) | ((with_reducible refine gate_store (t := 3) (p := 30) rfl ?_); refine store_event (t := 3) (p := 30) (v := ?vo_w15) (w1 := (w13.setCell ⟨go5, (x5_1 : Int).toNat * 4 + 2, none⟩ (.int .i64 (wrap64 ((wrap64 (x1_1 + 1)) + 1))))) ?hg ?ho ?hn ?hr ?_; (case ho => rfl); (case hg => rfl); (case hn => rfl); (case hr => first | (go_simp; done) | (go_simp; rfl)); intro w15 hw; have hg : w13.grownBy w15 (some go5) := (by rw [hw]; exact HP14.2); have hp_ : Kd.R k52 52 w15 w0.heap.size (fun k_ => (P0_ k_ ∨ w.heap.size ≤ k_)) (.slice (some ⟨go5, 0, none⟩) x0_1.length co9) y162 := (by rw [hw, Ny162.out]; exact HP14.1); clear HP14; have n0_ := Aside0.mk (hp_); have n1_ := Aside0.mk ((by rw [hw]; exact below_set (HB.out) GB5.out : Below w0.heap.size w0 w15)); have n2_ := Aside0.mk (Kept.of_grown (S := (fun k_ => P0_ k_)) hg (by repeat (first | (with_reducible first | exact HK.out | apply Kept.alloc | apply Kept.drewN | apply Kept.drew) | exact HK.out)) (fun k_ e_ => (HO_0.out.1 k_ e_))); clear HO_0; clear HB; clear HK; have HO_0 := n0_; have HB := n1_; have HK := n2_; clear n0_ n1_ n2_; clear hg hw hp_; have p8 : 0 ≤ (x5_1 : Int) := of_decide_eq_true (by first | (with_reducible assumption) | assumption); have q8 : (x5_1 : Int) < ((x0_1.length : Int) : Int) := of_decide_eq_true (by first | (with_reducible assumption) | assumption); obtain ⟨ce8, hcl8, hM8, hcc8, hfr8⟩ := Kd.R_elem HO_0.out z52 (x5_1 : Int) p8 q8; obtain rfl := k52_openM hM8; have hx8_0 : w15.cell? ⟨go5, (x5_1 : Int).toNat * 4, none⟩ = some (.int .i64 ((rd_T52 y162 x5_1).f0)) := hcc8 0 _ rfl; have hx8_1 : w15.cell? ⟨go5, (x5_1 : Int).toNat * 4 + 1, none⟩ = some (.int .i64 ((rd_T52 y162 x5_1).f1)) := hcc8 1 _ rfl; have hx8_2 : w15.cell? ⟨go5, (x5_1 : Int).toNat * 4 + 2, none⟩ = some (.int .i64 ((rd_T52 y162 x5_1).f2)) := hcc8 2 _ rfl; have hx8_3 : w15.cell? ⟨go5, (x5_1 : Int).toNat * 4 + 3, none⟩ = some (.int .i64 ((rd_T52 y162 x5_1).f3)) := hcc8 3 _ rfl; have hf8_0 : w15.frozen? ⟨go5, (x5_1 : Int).toNat * 4, none⟩ = false := hfr8 0; have hf8_1 : w15.frozen? ⟨go5, (x5_1 : Int).toNat * 4 + 1, none⟩ = false := hfr8 1; have hf8_2 : w15.frozen? ⟨go5, (x5_1 : Int).toNat * 4 + 2, none⟩ = false := hfr8 2; have hf8_3 : w15.frozen? ⟨go5, (x5_1 : Int).toNat * 4 + 3, none⟩ = false := hfr8 3; clear hcl8 hcc8 hfr8 hM8; replace p8 := eq_true p8; replace q8 := eq_true q8; have HX16 := Aside0.mk (show Kd.R k52 52 w15 w0.heap.size (fun k_ => (P0_ k_ ∨ w.heap.size ≤ k_)) (.slice (some ⟨go5, 0, none⟩) x0_1.length co9) y162 from (by (with_reducible repeat (first | apply Kd.R_alloc | apply Kd.R_drewN | apply Kd.R_drew)); exact HO_0.out)); obtain ⟨ce16, hcl16, hM16, hcc16, hfr16⟩ := Kd.R_elem HX16.out z52 (x5_1 : Int) (of_decide_eq_true (by first | (with_reducible assumption) | assumption)) (by have h_ : (x5_1 : Int) < ((x0_1.length : Int) : Int) := of_decide_eq_true (by first | (with_reducible assumption) | assumption); first | exact h_ | (have e_ := (Kd.R_reads' HO_0.out).1; omega) | simpa using h_); obtain rfl := k52_openM hM16; have HP16 := Kd.R_seg HX16.out (x5_1 : Int) (of_decide_eq_true (by first | (with_reducible assumption) | assumption)) (by have h_ : (x5_1 : Int) < ((x0_1.length : Int) : Int) := of_decide_eq_true (by first | (with_reducible assumption) | assumption); first | exact h_ | (have e_ := (Kd.R_reads' HO_0.out).1; omega) | simpa using h_) (seg := [.int .i64 (wrap64 ((wrap64 ((wrap64 (x1_1 + 1)) + 1)) + 1))]) (j := 3) hcl16 hcc16 (show 4 ≤ 4 from by decide) (x' := (⟨(rd_T52 y162 x5_1).f0, (rd_T52 y162 x5_1).f1, (rd_T52 y162 x5_1).f2, wrap64 ((wrap64 ((wrap64 (x1_1 + 1)) + 1)) + 1)⟩ : S52)) (k52_mkM _ _ _ (⟨(rd_T52 y162 x5_1).f0, (rd_T52 y162 x5_1).f1, (rd_T52 y162 x5_1).f2, wrap64 ((wrap64 ((wrap64 (x1_1 + 1)) + 1)) + 1)⟩ : S52) ) (fun _ hk => hk); have hx16_3 := hcc16 3 _ rfl; (try simp only [show (k52).sz = 4 from rfl, Nat.mul_one, Nat.add_zero] at hx16_3); have hf16_3 := hfr16 3; (try simp only [show (k52).sz = 4 from rfl, Nat.mul_one, Nat.add_zero] at hf16_3); clear hcl16 hcc16 hfr16 hM16) | ((with_reducible refine gate_store (t := 3) (p := 37) rfl ?_); refine store_event (t := 3) (p := 37) (v := ?vo_w17) (w1 := (w15.setCell ⟨go5, (x5_1 : Int).toNat * 4 + 3, none⟩ (.int .i64 (wrap64 ((wrap64 ((wrap64 (x1_1 + 1)) + 1)) + 1))))) ?hg ?ho ?hn ?hr ?_; (case ho => rfl); (case hg => rfl); (case hn => rfl); (case hr => first | (go_simp; done) | (go_simp; rfl)); intro w17 hw; have hg : w15.grownBy w17 (some go5) := (by rw [hw]; exact HP16.2); have hp_ : Kd.R k52 52 w17 w0.heap.size (fun k_ => (P0_ k_ ∨ w.heap.size ≤ k_)) (.slice (some ⟨go5, 0, none⟩) x0_1.length co9) y163 := (by rw [hw, Ny163.out]; exact HP16.1); clear HP16; have n0_ := Aside0.mk (hp_); have n1_ := Aside0.mk ((by rw [hw]; exact below_set (HB.out) GB5.out : Below w0.heap.size w0 w17)); have n2_ := Aside0.mk (Kept.of_grown (S := (fun k_ => P0_ k_)) hg (by repeat (first | (with_reducible first | exact HK.out | apply Kept.alloc | apply Kept.drewN | apply Kept.drew) | exact HK.out)) (fun k_ e_ => (HO_0.out.1 k_ e_))); clear HO_0; clear HB; clear HK; have HO_0 := n0_; have HB := n1_; have HK := n2_; clear n0_ n1_ n2_; clear hg hw hp_))
          go_roundg k1
          case measure => have := HK1.out; omega
          case rel => exact ⟨(y163), (wrap64 ((wrap64 ((wrap64 ((wrap64 (x1_1 + 1)) + 1)) + 1)) + 1)), (wrap64 (x5_1 + 1)), (by first | rfl | (simp; done) | (simp [*]; done)), (by first | rfl | (simp; done) | (simp [*]; done)), H', ⟨by have := HK1.out; omega⟩, ⟨by (with_reducible repeat (first | apply Kd.R_alloc | apply Kd.R_drewN | apply Kd.R_drew)); exact HO_0.out⟩, ⟨by repeat (first | (with_reducible first | exact HK.out | apply Kept.alloc | apply Kept.drewN | apply Kept.drew) | exact HK.out)⟩, ⟨by repeat (first | (with_reducible first | exact HB.out | apply below_alloc | apply pw_below_drewN | apply below_drew1) | exact HB.out)⟩⟩
        · rw [if_neg c4] at H
          exact absurd H (by simp)
      · rw [if_neg c3] at H
        have c3b0 : decide (x5_1 < (x0_1.length : Int)) = false := decide_eq_false c3
        clear c3
        simp only [Option.some.injEq, Prod.mk.injEq] at H
        obtain ⟨rfl, rfl⟩ := H
        obtain ⟨Ao18, co18, eo18⟩ := Kd.R_slice HO_0.out
        subst eo18
        go_wp2
        go_ret
        exact ⟨by first | rfl | (simp [errW_none, errW_some] <;> rfl) | (simp [*, errW_none, errW_some] <;> rfl), by (with_reducible repeat (first | apply Kd.R_alloc | apply Kd.R_drewN | apply Kd.R_drew)); exact HO_0.out, by repeat (first | (with_reducible first | exact HB.out | apply below_alloc | apply pw_below_drewN | apply below_drew1) | exact HB.out), by repeat (first | (with_reducible first | exact HK.out | apply Kept.alloc | apply Kept.drewN | apply Kept.drew) | exact HK.out)⟩

/-! ### laws_heldTotalS: function 31 -/
def laws_heldTotalS.l0 : Nat → List (S52) → Int → Int → Option (Int)
  | 0, _, _, _ => none
  | k + 1, x0, x1, x5 => if x5 < (x0.length : Int) then (if 0 ≤ x5 then (if ((rd_T52 x0 x5).f0) = x1 then (if ((rd_T52 x0 x5).f1) = (wrap64 (x1 + 1)) then (if ((rd_T52 x0 x5).f2) = (wrap64 ((wrap64 (x1 + 1)) + 1)) then (if ((rd_T52 x0 x5).f3) = (wrap64 ((wrap64 ((wrap64 (x1 + 1)) + 1)) + 1)) then (laws_heldTotalS.l0 k x0 (wrap64 ((wrap64 ((wrap64 ((wrap64 (x1 + 1)) + 1)) + 1)) + 1)) (wrap64 (x5 + 1))) else (some (-1))) else (some (-1))) else (some (-1))) else (some (-1))) else (none)) else (some x1)
def laws_heldTotalS.f (k : Nat) (l0 : List (S52)) (a1 : Int) : Option (Int) := laws_heldTotalS.l0 k l0 a1 0
theorem laws_heldTotalS.mono_l : ∀ k, (∀ y0 y1 y2, LeO (laws_heldTotalS.l0 k y0 y1 y2) (laws_heldTotalS.l0 (k + 1) y0 y1 y2))
  | 0 => fun _ _ _ r h => by simp [laws_heldTotalS.l0] at h
  | k + 1 => by
    have ih0 := laws_heldTotalS.mono_l k
    · intro y0 y1 y2
      unfold laws_heldTotalS.l0
      repeat' first
      | (with_reducible exact ih0 _ _ _)
      | (with_reducible exact LeO.refl _)
      | (with_reducible exact LeO.none _)
      | (with_reducible refine LeO.ite ?_ ?_)
      | (with_reducible refine LeO.bind ?_ (fun _ => ?_))
      | exact ih0 _ _ _
      | exact LeO.none _
      | refine LeO.ite ?_ ?_
      | refine LeO.bind ?_ (fun _ => ?_)
theorem laws_heldTotalS.mono : ∀ a0 a1 k, LeO (laws_heldTotalS.f k a0 a1) (laws_heldTotalS.f (k + 1) a0 a1) := by
  intro a0 a1 k
  have ih0 := laws_heldTotalS.mono_l k
  unfold laws_heldTotalS.f
  repeat' first
      | (with_reducible exact ih0 _ _ _)
      | (with_reducible exact LeO.refl _)
      | (with_reducible exact LeO.none _)
      | (with_reducible refine LeO.ite ?_ ?_)
      | (with_reducible refine LeO.bind ?_ (fun _ => ?_))
      | exact ih0 _ _ _
      | exact LeO.none _
      | refine LeO.ite ?_ ?_
      | refine LeO.bind ?_ (fun _ => ?_)
set_option maxHeartbeats 8000000 in
set_option maxRecDepth 100000 in
theorem laws_heldTotalS.calls (k : Nat) (A0 : Option Addr) (c0 : Nat) (l0 : List (S52)) (a1 : Int) (r : Int) (w : World) (hr0 : Kd.C k52 w A0 l0.length l0) (hc0 : l0.length ≤ c0) (h : laws_heldTotalS.f k l0 a1 = some r) :
    Calls Try.prog 31 #[.slice A0 l0.length c0, .int .i64 a1] w fun e w' => e = .returned (.int .i64 r) ∧ Drawn0 w w' := by
  have HR0 := Aside0.mk hr0
  have HC0 := Aside0.mk hc0
  clear hr0 hc0
  have H : (laws_heldTotalS.l0 k l0 a1 0) = some r := h
  clear h
  have H' := Aside0.mk H
  clear H
  go_enter Try.func31, Try.ntmps31
  go_wp2
  go_loopg [1, 5] k (fun kq v1 v5 w' => ∃ (x1_1 : Int) (x5_1 : Int), v1 = .int .i64 x1_1 ∧ v5 = .int .i64 x5_1 ∧ Aside0 (laws_heldTotalS.l0 kq l0 x1_1 x5_1 = some r) ∧ Aside0 (kq ≤ k) ∧ Drawn0 w w')
  case atStart => exact ⟨(a1), (0), (by first | rfl | (simp; done) | (simp [*]; done)), (by first | rfl | (simp; done) | (simp [*]; done)), H', ⟨Nat.le_refl _⟩, by repeat (first | exact Drawn0.refl _ | apply Drawn0.step)⟩
  case round =>
    clear H'
    try clear p2
    obtain ⟨x1_1, x5_1, rfl, rfl, HA, HK1, ⟨m1, rfl⟩⟩ := hrel
    cases gk with
    | zero => exact absurd HA.out (by simp [laws_heldTotalS.l0])
    | succ k1 =>
      have H := HA.out
      clear HA
      simp only [laws_heldTotalS.l0] at H
      by_cases c3 : x5_1 < (l0.length : Int)
      · rw [if_pos c3] at H
        have c3b0 : decide (x5_1 < (l0.length : Int)) = true := decide_eq_true c3
        clear c3
        by_cases c4 : 0 ≤ x5_1
        · rw [if_pos c4] at H
          have c4b0 : decide (0 ≤ x5_1) = true := decide_eq_true c4
          clear c4
          by_cases c5 : ((rd_T52 l0 x5_1).f0) = x1_1
          · rw [if_pos c5] at H
            have c5b0 : (((rd_T52 l0 x5_1).f0) == x1_1) = true := beq_iff_eq.mpr c5
            have c5b1 : (((rd_T52 l0 x5_1).f0) != x1_1) = false := bne_eq_false_iff_eq.mpr c5
            clear c5
            by_cases c6 : ((rd_T52 l0 x5_1).f1) = (wrap64 (x1_1 + 1))
            · rw [if_pos c6] at H
              have c6b0 : (((rd_T52 l0 x5_1).f1) == (wrap64 (x1_1 + 1))) = true := beq_iff_eq.mpr c6
              have c6b1 : (((rd_T52 l0 x5_1).f1) != (wrap64 (x1_1 + 1))) = false := bne_eq_false_iff_eq.mpr c6
              clear c6
              by_cases c7 : ((rd_T52 l0 x5_1).f2) = (wrap64 ((wrap64 (x1_1 + 1)) + 1))
              · rw [if_pos c7] at H
                have c7b0 : (((rd_T52 l0 x5_1).f2) == (wrap64 ((wrap64 (x1_1 + 1)) + 1))) = true := beq_iff_eq.mpr c7
                have c7b1 : (((rd_T52 l0 x5_1).f2) != (wrap64 ((wrap64 (x1_1 + 1)) + 1))) = false := bne_eq_false_iff_eq.mpr c7
                clear c7
                by_cases c8 : ((rd_T52 l0 x5_1).f3) = (wrap64 ((wrap64 ((wrap64 (x1_1 + 1)) + 1)) + 1))
                · rw [if_pos c8] at H
                  have c8b0 : (((rd_T52 l0 x5_1).f3) == (wrap64 ((wrap64 ((wrap64 (x1_1 + 1)) + 1)) + 1))) = true := beq_iff_eq.mpr c8
                  have c8b1 : (((rd_T52 l0 x5_1).f3) != (wrap64 ((wrap64 ((wrap64 (x1_1 + 1)) + 1)) + 1))) = false := bne_eq_false_iff_eq.mpr c8
                  clear c8
                  have H' := Aside0.mk H
                  clear H
                  have p164 : 0 ≤ (x5_1 : Int) := of_decide_eq_true (by first | (with_reducible assumption) | assumption)
                  have q164 : x5_1 < (l0.length : Int) := of_decide_eq_true (by first | (with_reducible assumption) | assumption)
                  obtain ⟨ad164, e164, hx164_0, hx164_1, hx164_2, hx164_3⟩ := at_T52 HR0.out x5_1 p164 q164
                  cases e164
                  replace p164 := eq_true p164
                  replace q164 := eq_true q164
                  have p165 : 0 ≤ (x5_1 : Int) := of_decide_eq_true (by first | (with_reducible assumption) | assumption)
                  have q165 : x5_1 < (l0.length : Int) := of_decide_eq_true (by first | (with_reducible assumption) | assumption)
                  obtain ⟨ad165, e165, hx165_0, hx165_1, hx165_2, hx165_3⟩ := at_T52 HR0.out x5_1 p165 q165
                  obtain rfl : ad164 = ad165 := (by injection e165)
                  replace p165 := eq_true p165
                  replace q165 := eq_true q165
                  have p166 : 0 ≤ (x5_1 : Int) := of_decide_eq_true (by first | (with_reducible assumption) | assumption)
                  have q166 : x5_1 < (l0.length : Int) := of_decide_eq_true (by first | (with_reducible assumption) | assumption)
                  obtain ⟨ad166, e166, hx166_0, hx166_1, hx166_2, hx166_3⟩ := at_T52 HR0.out x5_1 p166 q166
                  obtain rfl : ad164 = ad166 := (by injection e166)
                  replace p166 := eq_true p166
                  replace q166 := eq_true q166
                  have p167 : 0 ≤ (x5_1 : Int) := of_decide_eq_true (by first | (with_reducible assumption) | assumption)
                  have q167 : x5_1 < (l0.length : Int) := of_decide_eq_true (by first | (with_reducible assumption) | assumption)
                  obtain ⟨ad167, e167, hx167_0, hx167_1, hx167_2, hx167_3⟩ := at_T52 HR0.out x5_1 p167 q167
                  obtain rfl : ad164 = ad167 := (by injection e167)
                  replace p167 := eq_true p167
                  replace q167 := eq_true q167
                  go_wp2
                  go_roundg k1
                  case measure => have := HK1.out; omega
                  case rel => exact ⟨(wrap64 ((wrap64 ((wrap64 ((wrap64 (x1_1 + 1)) + 1)) + 1)) + 1)), (wrap64 (x5_1 + 1)), (by first | rfl | (simp; done) | (simp [*]; done)), (by first | rfl | (simp; done) | (simp [*]; done)), H', ⟨by have := HK1.out; omega⟩, by repeat (first | exact Drawn0.refl _ | apply Drawn0.step)⟩
                · rw [if_neg c8] at H
                  have c8b0 : (((rd_T52 l0 x5_1).f3) == (wrap64 ((wrap64 ((wrap64 (x1_1 + 1)) + 1)) + 1))) = false := beq_eq_false_iff_ne.mpr c8
                  have c8b1 : (((rd_T52 l0 x5_1).f3) != (wrap64 ((wrap64 ((wrap64 (x1_1 + 1)) + 1)) + 1))) = true := bne_iff_ne.mpr c8
                  obtain rfl := Option.some.inj H
                  have p164 : 0 ≤ (x5_1 : Int) := of_decide_eq_true (by first | (with_reducible assumption) | assumption)
                  have q164 : x5_1 < (l0.length : Int) := of_decide_eq_true (by first | (with_reducible assumption) | assumption)
                  obtain ⟨ad164, e164, hx164_0, hx164_1, hx164_2, hx164_3⟩ := at_T52 HR0.out x5_1 p164 q164
                  cases e164
                  replace p164 := eq_true p164
                  replace q164 := eq_true q164
                  have p165 : 0 ≤ (x5_1 : Int) := of_decide_eq_true (by first | (with_reducible assumption) | assumption)
                  have q165 : x5_1 < (l0.length : Int) := of_decide_eq_true (by first | (with_reducible assumption) | assumption)
                  obtain ⟨ad165, e165, hx165_0, hx165_1, hx165_2, hx165_3⟩ := at_T52 HR0.out x5_1 p165 q165
                  obtain rfl : ad164 = ad165 := (by injection e165)
                  replace p165 := eq_true p165
                  replace q165 := eq_true q165
                  have p166 : 0 ≤ (x5_1 : Int) := of_decide_eq_true (by first | (with_reducible assumption) | assumption)
                  have q166 : x5_1 < (l0.length : Int) := of_decide_eq_true (by first | (with_reducible assumption) | assumption)
                  obtain ⟨ad166, e166, hx166_0, hx166_1, hx166_2, hx166_3⟩ := at_T52 HR0.out x5_1 p166 q166
                  obtain rfl : ad164 = ad166 := (by injection e166)
                  replace p166 := eq_true p166
                  replace q166 := eq_true q166
                  have p167 : 0 ≤ (x5_1 : Int) := of_decide_eq_true (by first | (with_reducible assumption) | assumption)
                  have q167 : x5_1 < (l0.length : Int) := of_decide_eq_true (by first | (with_reducible assumption) | assumption)
                  obtain ⟨ad167, e167, hx167_0, hx167_1, hx167_2, hx167_3⟩ := at_T52 HR0.out x5_1 p167 q167
                  obtain rfl : ad164 = ad167 := (by injection e167)
                  replace p167 := eq_true p167
                  replace q167 := eq_true q167
                  go_wp2
                  go_ret
                  exact ⟨by first | rfl | (simp; done) | (simp [*]; done), by repeat (first | exact Drawn0.refl _ | apply Drawn0.step)⟩
              · rw [if_neg c7] at H
                have c7b0 : (((rd_T52 l0 x5_1).f2) == (wrap64 ((wrap64 (x1_1 + 1)) + 1))) = false := beq_eq_false_iff_ne.mpr c7
                have c7b1 : (((rd_T52 l0 x5_1).f2) != (wrap64 ((wrap64 (x1_1 + 1)) + 1))) = true := bne_iff_ne.mpr c7
                obtain rfl := Option.some.inj H
                have p164 : 0 ≤ (x5_1 : Int) := of_decide_eq_true (by first | (with_reducible assumption) | assumption)
                have q164 : x5_1 < (l0.length : Int) := of_decide_eq_true (by first | (with_reducible assumption) | assumption)
                obtain ⟨ad164, e164, hx164_0, hx164_1, hx164_2, hx164_3⟩ := at_T52 HR0.out x5_1 p164 q164
                cases e164
                replace p164 := eq_true p164
                replace q164 := eq_true q164
                have p165 : 0 ≤ (x5_1 : Int) := of_decide_eq_true (by first | (with_reducible assumption) | assumption)
                have q165 : x5_1 < (l0.length : Int) := of_decide_eq_true (by first | (with_reducible assumption) | assumption)
                obtain ⟨ad165, e165, hx165_0, hx165_1, hx165_2, hx165_3⟩ := at_T52 HR0.out x5_1 p165 q165
                obtain rfl : ad164 = ad165 := (by injection e165)
                replace p165 := eq_true p165
                replace q165 := eq_true q165
                have p166 : 0 ≤ (x5_1 : Int) := of_decide_eq_true (by first | (with_reducible assumption) | assumption)
                have q166 : x5_1 < (l0.length : Int) := of_decide_eq_true (by first | (with_reducible assumption) | assumption)
                obtain ⟨ad166, e166, hx166_0, hx166_1, hx166_2, hx166_3⟩ := at_T52 HR0.out x5_1 p166 q166
                obtain rfl : ad164 = ad166 := (by injection e166)
                replace p166 := eq_true p166
                replace q166 := eq_true q166
                go_wp2
                go_ret
                exact ⟨by first | rfl | (simp; done) | (simp [*]; done), by repeat (first | exact Drawn0.refl _ | apply Drawn0.step)⟩
            · rw [if_neg c6] at H
              have c6b0 : (((rd_T52 l0 x5_1).f1) == (wrap64 (x1_1 + 1))) = false := beq_eq_false_iff_ne.mpr c6
              have c6b1 : (((rd_T52 l0 x5_1).f1) != (wrap64 (x1_1 + 1))) = true := bne_iff_ne.mpr c6
              obtain rfl := Option.some.inj H
              have p164 : 0 ≤ (x5_1 : Int) := of_decide_eq_true (by first | (with_reducible assumption) | assumption)
              have q164 : x5_1 < (l0.length : Int) := of_decide_eq_true (by first | (with_reducible assumption) | assumption)
              obtain ⟨ad164, e164, hx164_0, hx164_1, hx164_2, hx164_3⟩ := at_T52 HR0.out x5_1 p164 q164
              cases e164
              replace p164 := eq_true p164
              replace q164 := eq_true q164
              have p165 : 0 ≤ (x5_1 : Int) := of_decide_eq_true (by first | (with_reducible assumption) | assumption)
              have q165 : x5_1 < (l0.length : Int) := of_decide_eq_true (by first | (with_reducible assumption) | assumption)
              obtain ⟨ad165, e165, hx165_0, hx165_1, hx165_2, hx165_3⟩ := at_T52 HR0.out x5_1 p165 q165
              obtain rfl : ad164 = ad165 := (by injection e165)
              replace p165 := eq_true p165
              replace q165 := eq_true q165
              go_wp2
              go_ret
              exact ⟨by first | rfl | (simp; done) | (simp [*]; done), by repeat (first | exact Drawn0.refl _ | apply Drawn0.step)⟩
          · rw [if_neg c5] at H
            have c5b0 : (((rd_T52 l0 x5_1).f0) == x1_1) = false := beq_eq_false_iff_ne.mpr c5
            have c5b1 : (((rd_T52 l0 x5_1).f0) != x1_1) = true := bne_iff_ne.mpr c5
            obtain rfl := Option.some.inj H
            have p164 : 0 ≤ (x5_1 : Int) := of_decide_eq_true (by first | (with_reducible assumption) | assumption)
            have q164 : x5_1 < (l0.length : Int) := of_decide_eq_true (by first | (with_reducible assumption) | assumption)
            obtain ⟨ad164, e164, hx164_0, hx164_1, hx164_2, hx164_3⟩ := at_T52 HR0.out x5_1 p164 q164
            cases e164
            replace p164 := eq_true p164
            replace q164 := eq_true q164
            go_wp2
            go_ret
            exact ⟨by first | rfl | (simp; done) | (simp [*]; done), by repeat (first | exact Drawn0.refl _ | apply Drawn0.step)⟩
        · rw [if_neg c4] at H
          exact absurd H (by simp)
      · rw [if_neg c3] at H
        have c3b0 : decide (x5_1 < (l0.length : Int)) = false := decide_eq_false c3
        clear c3
        obtain rfl := Option.some.inj H
        go_wp2
        go_ret
        exact ⟨by first | rfl | (simp; done) | (simp [*]; done), by repeat (first | exact Drawn0.refl _ | apply Drawn0.step)⟩

/-! ### laws_FnExactTotalsOf: function 5 -/
def laws_FnExactTotalsOf.j0 : Nat → List Int → Int → List (S52) → List (S52) → Bool → Option (Bool)
  | 0, _, _, _, _, _ => none
  | k + 1, x0, x1, x5, x7, x43 => if x43 = true then (none) else ((laws_markTotalS.f k x7 1).bind fun bt188 => ((laws_heldTotalS.f k bt188.2 1).bind fun t190 => (if t190 < 0 then (none) else (if t190 = bt188.1 then ((laws_toIntS.f k x0).bind fun t191 => ((impl_TotalsOf.f k t191 x1).bind fun t194 => ((laws_eqTotalS.f k t194 x5).bind fun t197 => (if t197 = true then ((laws_heldTotalS.f k bt188.2 1).bind fun t198 => (if t198 < 0 then (none) else (if t198 = bt188.1 then (some true) else (none)))) else (none))))) else (none)))))
def laws_FnExactTotalsOf.f (k : Nat) (l0 : List Int) (a1 : Int) : Option (Bool) := if (l0.length : Int) > 1048576 then (some true) else ((laws_toIntS.f k l0).bind fun t168 => ((spec_TotalsOf.f k t168 a1).bind fun t171 => ((laws_toIntS.f k l0).bind fun t174 => ((impl_TotalsOf.f k t174 a1).bind fun t177 => ((laws_eqTotalS.f k t177 t171).bind fun t180 => (if t180 = true then ((laws_toIntS.f k l0).bind fun t181 => ((laws_eqIntS.f k t174 t181).bind fun t184 => (if t184 = true then ((laws_markIntS.f k t174 1).bind fun bt185 => (if bt185.1 < 0 then (laws_FnExactTotalsOf.j0 k l0 a1 t171 t177 true) else ((laws_eqTotalS.f k t177 t171).bind fun t187 => (laws_FnExactTotalsOf.j0 k l0 a1 t171 t177 (!t187))))) else (none)))) else (none)))))))
theorem laws_FnExactTotalsOf.mono_l : ∀ k, (∀ y0 y1 y2 y3 y4, LeO (laws_FnExactTotalsOf.j0 k y0 y1 y2 y3 y4) (laws_FnExactTotalsOf.j0 (k + 1) y0 y1 y2 y3 y4))
  | 0 => fun _ _ _ _ _ r h => by simp [laws_FnExactTotalsOf.j0] at h
  | k + 1 => by
    have ih0 := laws_FnExactTotalsOf.mono_l k
    · intro y0 y1 y2 y3 y4
      unfold laws_FnExactTotalsOf.j0
      repeat' first
      | (with_reducible exact ih0 _ _ _ _ _)
      | (with_reducible exact impl_TotalsOf.mono _ _ _)
      | (with_reducible exact laws_eqIntS.mono _ _ _)
      | (with_reducible exact laws_eqTotalS.mono _ _ _)
      | (with_reducible exact laws_heldTotalS.mono _ _ _)
      | (with_reducible exact laws_markIntS.mono _ _ _)
      | (with_reducible exact laws_markTotalS.mono _ _ _)
      | (with_reducible exact laws_toIntS.mono _ _)
      | (with_reducible exact spec_TotalsOf.mono _ _ _)
      | (with_reducible exact LeO.refl _)
      | (with_reducible exact LeO.none _)
      | (with_reducible refine LeO.ite ?_ ?_)
      | (with_reducible refine LeO.bind ?_ (fun _ => ?_))
      | exact ih0 _ _ _ _ _
      | exact impl_TotalsOf.mono _ _ _
      | exact laws_eqIntS.mono _ _ _
      | exact laws_eqTotalS.mono _ _ _
      | exact laws_heldTotalS.mono _ _ _
      | exact laws_markIntS.mono _ _ _
      | exact laws_markTotalS.mono _ _ _
      | exact laws_toIntS.mono _ _
      | exact spec_TotalsOf.mono _ _ _
      | exact LeO.none _
      | refine LeO.ite ?_ ?_
      | refine LeO.bind ?_ (fun _ => ?_)
theorem laws_FnExactTotalsOf.mono : ∀ a0 a1 k, LeO (laws_FnExactTotalsOf.f k a0 a1) (laws_FnExactTotalsOf.f (k + 1) a0 a1) := by
  intro a0 a1 k
  have ih0 := laws_FnExactTotalsOf.mono_l k
  unfold laws_FnExactTotalsOf.f
  repeat' first
      | (with_reducible exact ih0 _ _ _ _ _)
      | (with_reducible exact impl_TotalsOf.mono _ _ _)
      | (with_reducible exact laws_eqIntS.mono _ _ _)
      | (with_reducible exact laws_eqTotalS.mono _ _ _)
      | (with_reducible exact laws_heldTotalS.mono _ _ _)
      | (with_reducible exact laws_markIntS.mono _ _ _)
      | (with_reducible exact laws_markTotalS.mono _ _ _)
      | (with_reducible exact laws_toIntS.mono _ _)
      | (with_reducible exact spec_TotalsOf.mono _ _ _)
      | (with_reducible exact LeO.refl _)
      | (with_reducible exact LeO.none _)
      | (with_reducible refine LeO.ite ?_ ?_)
      | (with_reducible refine LeO.bind ?_ (fun _ => ?_))
      | exact ih0 _ _ _ _ _
      | exact impl_TotalsOf.mono _ _ _
      | exact laws_eqIntS.mono _ _ _
      | exact laws_eqTotalS.mono _ _ _
      | exact laws_heldTotalS.mono _ _ _
      | exact laws_markIntS.mono _ _ _
      | exact laws_markTotalS.mono _ _ _
      | exact laws_toIntS.mono _ _
      | exact spec_TotalsOf.mono _ _ _
      | exact LeO.none _
      | refine LeO.ite ?_ ?_
      | refine LeO.bind ?_ (fun _ => ?_)
set_option maxHeartbeats 8000000 in
set_option maxRecDepth 100000 in
theorem laws_FnExactTotalsOf.calls (k : Nat) (A0 : Option Addr) (c0 : Nat) (l0 : List Int) (a1 : Int) (r : Bool) (w : World) (hr0 : Kd.C (Kd.int .i64) w A0 l0.length l0) (hc0 : l0.length ≤ c0) (h : laws_FnExactTotalsOf.f k l0 a1 = some r) :
    Calls Try.prog 5 #[.slice A0 l0.length c0, .int .i64 a1] w fun e w' => e = .returned (.bool r) ∧ Below w.heap.size w w' := by
  have HR0 := Aside0.mk hr0
  have HC0 := Aside0.mk hc0
  clear hr0 hc0
  have HB := Aside0.mk (Below.refl w.heap.size w)
  have H : (if (l0.length : Int) > 1048576 then (some true) else ((laws_toIntS.f k l0).bind fun t168 => ((spec_TotalsOf.f k t168 a1).bind fun t171 => ((laws_toIntS.f k l0).bind fun t174 => ((impl_TotalsOf.f k t174 a1).bind fun t177 => ((laws_eqTotalS.f k t177 t171).bind fun t180 => (if t180 = true then ((laws_toIntS.f k l0).bind fun t181 => ((laws_eqIntS.f k t174 t181).bind fun t184 => (if t184 = true then ((laws_markIntS.f k t174 1).bind fun bt185 => (if bt185.1 < 0 then (laws_FnExactTotalsOf.j0 k l0 a1 t171 t177 true) else ((laws_eqTotalS.f k t177 t171).bind fun t187 => (laws_FnExactTotalsOf.j0 k l0 a1 t171 t177 (!t187))))) else (none)))) else (none)))))))) = some r := h
  clear h
  by_cases c3 : (l0.length : Int) > 1048576
  · rw [if_pos c3] at H
    have c3b0 : decide (1048576 < (l0.length : Int)) = true := decide_eq_true c3
    have c3b1 : decide (1048576 < l0.length) = true := decide_eq_true (by omega)
    clear c3
    obtain rfl := Option.some.inj H
    go_enter Try.func5, Try.ntmps5
    go_wp2
    go_ret
    exact ⟨by first | rfl | (simp [errW_none, errW_some] <;> rfl) | (simp [*, errW_none, errW_some] <;> rfl), by repeat (first | (with_reducible first | exact HB.out | apply below_alloc | apply pw_below_drewN | apply below_drew1) | exact HB.out)⟩
  · rw [if_neg c3] at H
    have c3b0 : decide (1048576 < (l0.length : Int)) = false := decide_eq_false c3
    have c3b1 : decide (1048576 < l0.length) = false := decide_eq_false (by omega)
    clear c3
    replace H := Option.bind_eq_some_iff.mp H
    obtain ⟨t168, A40, H⟩ := H
    replace H : ((spec_TotalsOf.f k t168 a1).bind fun t171 => ((laws_toIntS.f k l0).bind fun t174 => ((impl_TotalsOf.f k t174 a1).bind fun t177 => ((laws_eqTotalS.f k t177 t171).bind fun t180 => (if t180 = true then ((laws_toIntS.f k l0).bind fun t181 => ((laws_eqIntS.f k t174 t181).bind fun t184 => (if t184 = true then ((laws_markIntS.f k t174 1).bind fun bt185 => (if bt185.1 < 0 then (laws_FnExactTotalsOf.j0 k l0 a1 t171 t177 true) else ((laws_eqTotalS.f k t177 t171).bind fun t187 => (laws_FnExactTotalsOf.j0 k l0 a1 t171 t177 (!t187))))) else (none)))) else (none)))))) = some r := H
    have A4 := Aside0.mk A40
    clear A40
    replace H := Option.bind_eq_some_iff.mp H
    obtain ⟨t171, A50, H⟩ := H
    replace H : ((laws_toIntS.f k l0).bind fun t174 => ((impl_TotalsOf.f k t174 a1).bind fun t177 => ((laws_eqTotalS.f k t177 t171).bind fun t180 => (if t180 = true then ((laws_toIntS.f k l0).bind fun t181 => ((laws_eqIntS.f k t174 t181).bind fun t184 => (if t184 = true then ((laws_markIntS.f k t174 1).bind fun bt185 => (if bt185.1 < 0 then (laws_FnExactTotalsOf.j0 k l0 a1 t171 t177 true) else ((laws_eqTotalS.f k t177 t171).bind fun t187 => (laws_FnExactTotalsOf.j0 k l0 a1 t171 t177 (!t187))))) else (none)))) else (none))))) = some r := H
    have A5 := Aside0.mk A50
    clear A50
    replace H := Option.bind_eq_some_iff.mp H
    obtain ⟨t174, A60, H⟩ := H
    replace H : ((impl_TotalsOf.f k t174 a1).bind fun t177 => ((laws_eqTotalS.f k t177 t171).bind fun t180 => (if t180 = true then ((laws_toIntS.f k l0).bind fun t181 => ((laws_eqIntS.f k t174 t181).bind fun t184 => (if t184 = true then ((laws_markIntS.f k t174 1).bind fun bt185 => (if bt185.1 < 0 then (laws_FnExactTotalsOf.j0 k l0 a1 t171 t177 true) else ((laws_eqTotalS.f k t177 t171).bind fun t187 => (laws_FnExactTotalsOf.j0 k l0 a1 t171 t177 (!t187))))) else (none)))) else (none)))) = some r := H
    have A6 := Aside0.mk A60
    clear A60
    replace H := Option.bind_eq_some_iff.mp H
    obtain ⟨t177, A70, H⟩ := H
    replace H : ((laws_eqTotalS.f k t177 t171).bind fun t180 => (if t180 = true then ((laws_toIntS.f k l0).bind fun t181 => ((laws_eqIntS.f k t174 t181).bind fun t184 => (if t184 = true then ((laws_markIntS.f k t174 1).bind fun bt185 => (if bt185.1 < 0 then (laws_FnExactTotalsOf.j0 k l0 a1 t171 t177 true) else ((laws_eqTotalS.f k t177 t171).bind fun t187 => (laws_FnExactTotalsOf.j0 k l0 a1 t171 t177 (!t187))))) else (none)))) else (none))) = some r := H
    have A7 := Aside0.mk A70
    clear A70
    replace H := Option.bind_eq_some_iff.mp H
    obtain ⟨t180, A80, H⟩ := H
    replace H : (if t180 = true then ((laws_toIntS.f k l0).bind fun t181 => ((laws_eqIntS.f k t174 t181).bind fun t184 => (if t184 = true then ((laws_markIntS.f k t174 1).bind fun bt185 => (if bt185.1 < 0 then (laws_FnExactTotalsOf.j0 k l0 a1 t171 t177 true) else ((laws_eqTotalS.f k t177 t171).bind fun t187 => (laws_FnExactTotalsOf.j0 k l0 a1 t171 t177 (!t187))))) else (none)))) else (none)) = some r := H
    have A8 := Aside0.mk A80
    clear A80
    by_cases c9 : t180 = true
    · subst c9
      have H1 : ((laws_toIntS.f k l0).bind fun t181 => ((laws_eqIntS.f k t174 t181).bind fun t184 => (if t184 = true then ((laws_markIntS.f k t174 1).bind fun bt185 => (if bt185.1 < 0 then (laws_FnExactTotalsOf.j0 k l0 a1 t171 t177 true) else ((laws_eqTotalS.f k t177 t171).bind fun t187 => (laws_FnExactTotalsOf.j0 k l0 a1 t171 t177 (!t187))))) else (none)))) = some r := by rw [if_pos rfl] at H; exact H
      clear H
      have H := H1
      clear H1
      replace H := Option.bind_eq_some_iff.mp H
      obtain ⟨t181, A100, H⟩ := H
      replace H : ((laws_eqIntS.f k t174 t181).bind fun t184 => (if t184 = true then ((laws_markIntS.f k t174 1).bind fun bt185 => (if bt185.1 < 0 then (laws_FnExactTotalsOf.j0 k l0 a1 t171 t177 true) else ((laws_eqTotalS.f k t177 t171).bind fun t187 => (laws_FnExactTotalsOf.j0 k l0 a1 t171 t177 (!t187))))) else (none))) = some r := H
      have A10 := Aside0.mk A100
      clear A100
      replace H := Option.bind_eq_some_iff.mp H
      obtain ⟨t184, A110, H⟩ := H
      replace H : (if t184 = true then ((laws_markIntS.f k t174 1).bind fun bt185 => (if bt185.1 < 0 then (laws_FnExactTotalsOf.j0 k l0 a1 t171 t177 true) else ((laws_eqTotalS.f k t177 t171).bind fun t187 => (laws_FnExactTotalsOf.j0 k l0 a1 t171 t177 (!t187))))) else (none)) = some r := H
      have A11 := Aside0.mk A110
      clear A110
      by_cases c12 : t184 = true
      · subst c12
        have H1 : ((laws_markIntS.f k t174 1).bind fun bt185 => (if bt185.1 < 0 then (laws_FnExactTotalsOf.j0 k l0 a1 t171 t177 true) else ((laws_eqTotalS.f k t177 t171).bind fun t187 => (laws_FnExactTotalsOf.j0 k l0 a1 t171 t177 (!t187))))) = some r := by rw [if_pos rfl] at H; exact H
        clear H
        have H := H1
        clear H1
        replace H := Option.bind_eq_some_iff.mp H
        obtain ⟨⟨t185, t186⟩, A130, H⟩ := H
        replace H : (if t185 < 0 then (laws_FnExactTotalsOf.j0 k l0 a1 t171 t177 true) else ((laws_eqTotalS.f k t177 t171).bind fun t187 => (laws_FnExactTotalsOf.j0 k l0 a1 t171 t177 (!t187)))) = some r := H
        have A13 := Aside0.mk A130
        clear A130
        have HC14 := Aside0.mk H
        clear H
        go_enter Try.func5, Try.ntmps5
        go_upto_region 12 with (first | ((with_reducible refine gate_callee (f := 16) rfl ?_); refine goesL_ (some 16) rfl rfl Try.func16 (by kernel_rfl) rfl #[.slice A0 l0.length c0] rfl (by (try simp only [List.map_toArray, List.map_cons, List.map_nil]); first | done | rfl | (simp only [List.length_drop, List.length_take]; rfl)) ?_; (with_reducible refine (laws_toIntS.calls k _ _ l0 t168 _ ?side1 ?side2 A4.out).mono ?_); (case side1 => repeat (first | exact HR0.out | (with_reducible refine Kd.C_alloc ?_ _) | (with_reducible refine Kd.C_drewN ?_ _) | (with_reducible refine Kd.C_drew ?_))); (case side2 => exact HC0.out); rintro e w15 ⟨v169, rfl, ho0, hb⟩; refine ⟨_, rfl, ?_⟩; have n0_ := Aside0.mk (Kd.R_lower ho0 (below_size (by repeat (first | (with_reducible first | exact HB.out | apply below_alloc | apply pw_below_drewN | apply below_drew1) | exact HB.out)))); have n1_ := Aside0.mk (below_step (by repeat (first | (with_reducible first | exact HB.out | apply below_alloc | apply pw_below_drewN | apply below_drew1) | exact HB.out)) hb); clear HB; have HO170 := n0_; have HB := n1_; clear n0_ n1_; (try clear hb); (try clear hb2); (try clear hk); (try clear hi); (try clear ho0); obtain ⟨Ao16, co16, eo16⟩ := Kd.R_slice HO170.out; subst eo16) | ((with_reducible refine gate_callee (f := 27) rfl ?_); refine goesL_ (some 18) rfl rfl Try.func27 (by kernel_rfl) rfl #[.slice Ao16 t168.length co16, .int .i64 a1] rfl (by (try simp only [List.map_toArray, List.map_cons, List.map_nil]); first | done | rfl | (simp only [List.length_drop, List.length_take]; rfl)) ?_; (with_reducible refine (spec_TotalsOf.calls k _ _ t168 a1 t171 _ ?side1 ?side2 A5.out).mono ?_); (case side1 => repeat (first | exact (Kd.R_reads' HO170.out).2.2 | (with_reducible refine Kd.C_alloc ?_ _) | (with_reducible refine Kd.C_drewN ?_ _) | (with_reducible refine Kd.C_drew ?_))); (case side2 => exact (Kd.R_reads' HO170.out).2.1); rintro e w17 ⟨v172, rfl, ho0, hb⟩; refine ⟨_, rfl, ?_⟩; have n0_ := Aside0.mk (Kd.R_below (by (with_reducible repeat (first | apply Kd.R_alloc | apply Kd.R_drewN | apply Kd.R_drew)); exact HO170.out) hb); have n1_ := Aside0.mk (Kd.R_lower ho0 (below_size (by repeat (first | (with_reducible first | exact HB.out | apply below_alloc | apply pw_below_drewN | apply below_drew1) | exact HB.out)))); have n2_ := Aside0.mk (below_step (by repeat (first | (with_reducible first | exact HB.out | apply below_alloc | apply pw_below_drewN | apply below_drew1) | exact HB.out)) hb); clear HO170; clear HB; have HO170 := n0_; have HO173 := n1_; have HB := n2_; clear n0_ n1_ n2_; (try clear hb); (try clear hb2); (try clear hk); (try clear hi); (try clear ho0)) | ((with_reducible refine gate_callee (f := 16) rfl ?_); refine goesL_ (some 20) rfl rfl Try.func16 (by kernel_rfl) rfl #[.slice A0 l0.length c0] rfl (by (try simp only [List.map_toArray, List.map_cons, List.map_nil]); first | done | rfl | (simp only [List.length_drop, List.length_take]; rfl)) ?_; (with_reducible refine (laws_toIntS.calls k _ _ l0 t174 _ ?side1 ?side2 A6.out).mono ?_); (case side1 => repeat (first | exact (Kd.C_below HR0.out HB.out) | (with_reducible refine Kd.C_alloc ?_ _) | (with_reducible refine Kd.C_drewN ?_ _) | (with_reducible refine Kd.C_drew ?_))); (case side2 => exact HC0.out); rintro e w18 ⟨v175, rfl, ho0, hb⟩; refine ⟨_, rfl, ?_⟩; have n0_ := Aside0.mk (Kd.R_elder' (by (with_reducible repeat (first | apply Kd.R_alloc | apply Kd.R_drewN | apply Kd.R_drew)); exact HO170.out) (Kd.R_base ho0) hb); have n1_ := Aside0.mk (Kd.R_below (by (with_reducible repeat (first | apply Kd.R_alloc | apply Kd.R_drewN | apply Kd.R_drew)); exact HO173.out) hb); have n2_ := Aside0.mk (Kd.R_lower (Kd.R_new' ho0 (Kd.R_lt (by (with_reducible repeat (first | apply Kd.R_alloc | apply Kd.R_drewN | apply Kd.R_drew)); exact HO170.out))) (below_size (by repeat (first | (with_reducible first | exact HB.out | apply below_alloc | apply pw_below_drewN | apply below_drew1) | exact HB.out)))); have n3_ := Aside0.mk (below_step (by repeat (first | (with_reducible first | exact HB.out | apply below_alloc | apply pw_below_drewN | apply below_drew1) | exact HB.out)) hb); clear HO170; clear HO173; clear HB; have HO170 := n0_; have HO173 := n1_; have HO176 := n2_; have HB := n3_; clear n0_ n1_ n2_ n3_; (try clear hb); (try clear hb2); (try clear hk); (try clear hi); (try clear ho0); obtain ⟨Ao19, co19, eo19⟩ := Kd.R_slice HO176.out; subst eo19) | ((with_reducible refine gate_callee (f := 28) rfl ?_); refine goesL_ (some 23) rfl rfl Try.func28 (by kernel_rfl) rfl #[.slice Ao19 t174.length co19, .int .i64 a1] rfl (by (try simp only [List.map_toArray, List.map_cons, List.map_nil]); first | done | rfl | (simp only [List.length_drop, List.length_take]; rfl)) ?_; (with_reducible refine (impl_TotalsOf.calls k _ _ t174 a1 t177 _ ?side1 ?side2 A7.out).mono ?_); (case side1 => repeat (first | exact (Kd.R_reads' HO176.out).2.2 | (with_reducible refine Kd.C_alloc ?_ _) | (with_reducible refine Kd.C_drewN ?_ _) | (with_reducible refine Kd.C_drew ?_))); (case side2 => exact (Kd.R_reads' HO176.out).2.1); rintro e w20 ⟨v178, rfl, ho0, hb⟩; refine ⟨_, rfl, ?_⟩; have n0_ := Aside0.mk (Kd.R_below (by (with_reducible repeat (first | apply Kd.R_alloc | apply Kd.R_drewN | apply Kd.R_drew)); exact HO170.out) hb); have n1_ := Aside0.mk (Kd.R_elder' (by (with_reducible repeat (first | apply Kd.R_alloc | apply Kd.R_drewN | apply Kd.R_drew)); exact HO173.out) (Kd.R_base ho0) hb); have n2_ := Aside0.mk (Kd.R_below (by (with_reducible repeat (first | apply Kd.R_alloc | apply Kd.R_drewN | apply Kd.R_drew)); exact HO176.out) hb); have n3_ := Aside0.mk (Kd.R_lower (Kd.R_new' ho0 (Kd.R_lt (by (with_reducible repeat (first | apply Kd.R_alloc | apply Kd.R_drewN | apply Kd.R_drew)); exact HO173.out))) (below_size (by repeat (first | (with_reducible first | exact HB.out | apply below_alloc | apply pw_below_drewN | apply below_drew1) | exact HB.out)))); have n4_ := Aside0.mk (below_step (by repeat (first | (with_reducible first | exact HB.out | apply below_alloc | apply pw_below_drewN | apply below_drew1) | exact HB.out)) hb); clear HO170; clear HO173; clear HO176; clear HB; have HO170 := n0_; have HO173 := n1_; have HO176 := n2_; have HO179 := n3_; have HB := n4_; clear n0_ n1_ n2_ n3_ n4_; (try clear hb); (try clear hb2); (try clear hk); (try clear hi); (try clear ho0); obtain ⟨Ao21, co21, eo21⟩ := Kd.R_slice HO179.out; subst eo21; obtain ⟨Ao22, co22, eo22⟩ := Kd.R_slice HO173.out; subst eo22) | ((with_reducible refine gate_callee (f := 29) rfl ?_); refine goesL_ (some 26) rfl rfl Try.func29 (by kernel_rfl) rfl #[.slice Ao21 t177.length co21, .slice Ao22 t171.length co22] rfl (by (try simp only [List.map_toArray, List.map_cons, List.map_nil]); first | done | rfl | (simp only [List.length_drop, List.length_take]; rfl)) ?_; (with_reducible refine (laws_eqTotalS.calls k _ _ t177 _ _ t171 true _ ?side1 ?side2 ?side3 ?side4 A8.out).mono ?_); (case side1 => repeat (first | exact (Kd.R_reads' HO179.out).2.2 | (with_reducible refine Kd.C_alloc ?_ _) | (with_reducible refine Kd.C_drewN ?_ _) | (with_reducible refine Kd.C_drew ?_))); (case side2 => exact (Kd.R_reads' HO179.out).2.1); (case side3 => repeat (first | exact (Kd.R_reads' HO173.out).2.2 | (with_reducible refine Kd.C_alloc ?_ _) | (with_reducible refine Kd.C_drewN ?_ _) | (with_reducible refine Kd.C_drew ?_))); (case side4 => exact (Kd.R_reads' HO173.out).2.1); rintro e w23 ⟨rfl, hb⟩; refine ⟨_, rfl, ?_⟩; have n0_ := Aside0.mk (Kd.R_below (by (with_reducible repeat (first | apply Kd.R_alloc | apply Kd.R_drewN | apply Kd.R_drew)); exact HO170.out) hb); have n1_ := Aside0.mk (Kd.R_below (by (with_reducible repeat (first | apply Kd.R_alloc | apply Kd.R_drewN | apply Kd.R_drew)); exact HO173.out) hb); have n2_ := Aside0.mk (Kd.R_below (by (with_reducible repeat (first | apply Kd.R_alloc | apply Kd.R_drewN | apply Kd.R_drew)); exact HO176.out) hb); have n3_ := Aside0.mk (Kd.R_below (by (with_reducible repeat (first | apply Kd.R_alloc | apply Kd.R_drewN | apply Kd.R_drew)); exact HO179.out) hb); have n4_ := Aside0.mk (below_step (by repeat (first | (with_reducible first | exact HB.out | apply below_alloc | apply pw_below_drewN | apply below_drew1) | exact HB.out)) hb); clear HO170; clear HO173; clear HO176; clear HO179; clear HB; have HO170 := n0_; have HO173 := n1_; have HO176 := n2_; have HO179 := n3_; have HB := n4_; clear n0_ n1_ n2_ n3_ n4_; (try clear hb); (try clear hb2); (try clear hk); (try clear hi)) | ((with_reducible refine gate_callee (f := 16) rfl ?_); refine goesL_ (some 30) rfl rfl Try.func16 (by kernel_rfl) rfl #[.slice A0 l0.length c0] rfl (by (try simp only [List.map_toArray, List.map_cons, List.map_nil]); first | done | rfl | (simp only [List.length_drop, List.length_take]; rfl)) ?_; (with_reducible refine (laws_toIntS.calls k _ _ l0 t181 _ ?side1 ?side2 A10.out).mono ?_); (case side1 => repeat (first | exact (Kd.C_below HR0.out HB.out) | (with_reducible refine Kd.C_alloc ?_ _) | (with_reducible refine Kd.C_drewN ?_ _) | (with_reducible refine Kd.C_drew ?_))); (case side2 => exact HC0.out); rintro e w24 ⟨v182, rfl, ho0, hb⟩; refine ⟨_, rfl, ?_⟩; have n0_ := Aside0.mk (Kd.R_elder' (by (with_reducible repeat (first | apply Kd.R_alloc | apply Kd.R_drewN | apply Kd.R_drew)); exact HO170.out) (Kd.R_base ho0) hb); have n1_ := Aside0.mk (Kd.R_below (by (with_reducible repeat (first | apply Kd.R_alloc | apply Kd.R_drewN | apply Kd.R_drew)); exact HO173.out) hb); have n2_ := Aside0.mk (Kd.R_elder' (by (with_reducible repeat (first | apply Kd.R_alloc | apply Kd.R_drewN | apply Kd.R_drew)); exact HO176.out) (Kd.R_base ho0) hb); have n3_ := Aside0.mk (Kd.R_below (by (with_reducible repeat (first | apply Kd.R_alloc | apply Kd.R_drewN | apply Kd.R_drew)); exact HO179.out) hb); have n4_ := Aside0.mk (Kd.R_lower (Kd.R_new' (Kd.R_new' ho0 (Kd.R_lt (by (with_reducible repeat (first | apply Kd.R_alloc | apply Kd.R_drewN | apply Kd.R_drew)); exact HO170.out))) (Kd.R_lt (by (with_reducible repeat (first | apply Kd.R_alloc | apply Kd.R_drewN | apply Kd.R_drew)); exact HO176.out))) (below_size (by repeat (first | (with_reducible first | exact HB.out | apply below_alloc | apply pw_below_drewN | apply below_drew1) | exact HB.out)))); have n5_ := Aside0.mk (below_step (by repeat (first | (with_reducible first | exact HB.out | apply below_alloc | apply pw_below_drewN | apply below_drew1) | exact HB.out)) hb); clear HO170; clear HO173; clear HO176; clear HO179; clear HB; have HO170 := n0_; have HO173 := n1_; have HO176 := n2_; have HO179 := n3_; have HO183 := n4_; have HB := n5_; clear n0_ n1_ n2_ n3_ n4_ n5_; (try clear hb); (try clear hb2); (try clear hk); (try clear hi); (try clear ho0); obtain ⟨Ao25, co25, eo25⟩ := Kd.R_slice HO183.out; subst eo25) | ((with_reducible refine gate_callee (f := 19) rfl ?_); refine goesL_ (some 31) rfl rfl Try.func19 (by kernel_rfl) rfl #[.slice Ao19 t174.length co19, .slice Ao25 t181.length co25] rfl (by (try simp only [List.map_toArray, List.map_cons, List.map_nil]); first | done | rfl | (simp only [List.length_drop, List.length_take]; rfl)) ?_; (with_reducible refine (laws_eqIntS.calls k _ _ t174 _ _ t181 true _ ?side1 ?side2 ?side3 ?side4 A11.out).mono ?_); (case side1 => repeat (first | exact (Kd.R_reads' HO176.out).2.2 | (with_reducible refine Kd.C_alloc ?_ _) | (with_reducible refine Kd.C_drewN ?_ _) | (with_reducible refine Kd.C_drew ?_))); (case side2 => exact (Kd.R_reads' HO176.out).2.1); (case side3 => repeat (first | exact (Kd.R_reads' HO183.out).2.2 | (with_reducible refine Kd.C_alloc ?_ _) | (with_reducible refine Kd.C_drewN ?_ _) | (with_reducible refine Kd.C_drew ?_))); (case side4 => exact (Kd.R_reads' HO183.out).2.1); rintro e w' ⟨rfl, ⟨nd, rfl⟩⟩; refine ⟨_, rfl, ?_⟩) | ((with_reducible refine gate_callee (f := 20) rfl ?_); refine goesL_ (some 35) rfl rfl Try.func20 (by kernel_rfl) rfl #[.slice Ao19 t174.length co19, .int .i64 1] rfl (by (try simp only [List.map_toArray, List.map_cons, List.map_nil]); first | done | rfl | (simp only [List.length_drop, List.length_take]; rfl)) ?_; (with_reducible refine (laws_markIntS.calls k (fun k_ => some k_ = (.slice Ao19 t174.length co19 : Value).ownBlock) (.slice Ao19 t174.length co19) t174 1 t185 t186 w _ ?side1 ?side2 A13.out).mono ?_); (case side1 => repeat (first | (with_reducible first | exact HB.out | apply below_alloc | apply pw_below_drewN | apply below_drew1) | exact HB.out)); (case side2 => exact Kd.R_tight rfl HO176.out); rintro e w26 ⟨rfl, hy0, hb, hkp⟩; refine ⟨_, rfl, ?_⟩; have n0_ := Aside0.mk (Kd.R_mono (ok' := fun k_ => some k_ ≠ (.slice Ao19 t174.length co19 : Value).ownBlock ∧ some k_ ≠ (.slice Ao25 t181.length co25 : Value).ownBlock) (Kd.R_keptB (HO170.out) hkp (fun k_ hk_ hs_ => (hk_.1.2) hs_)) (fun k_ hk_ => ⟨hk_.1.1.2, hk_.1.2⟩)); have n1_ := Aside0.mk (Kd.R_mono (ok' := fun k_ => some k_ ≠ (.slice Ao21 t177.length co21 : Value).ownBlock) (Kd.R_keptB ((Kd.R_apart' HO173.out (Kd.R_typed HO176.out) (by decide))) hkp (fun k_ hk_ hs_ => (hk_.2) hs_)) (fun k_ hk_ => hk_.1.1.2)); have n2_ := Aside0.mk (Kd.R_reok rfl hy0 (fun k_ e_ => HO176.out.1 k_ e_)); have n3_ := Aside0.mk (Kd.R_mono (ok' := fun k_ => some k_ ≠ (.slice Ao22 t171.length co22 : Value).ownBlock) (Kd.R_keptB ((Kd.R_apart' HO179.out (Kd.R_typed HO176.out) (by decide))) hkp (fun k_ hk_ hs_ => (hk_.2) hs_)) (fun k_ hk_ => hk_.1.1.2)); have n4_ := Aside0.mk (Kd.R_mono (ok' := fun k_ => some k_ ≠ (.slice Ao16 t168.length co16 : Value).ownBlock ∧ some k_ ≠ (.slice Ao19 t174.length co19 : Value).ownBlock) (Kd.R_keptB (HO183.out) hkp (fun k_ hk_ hs_ => (hk_.2) hs_)) (fun k_ hk_ => ⟨hk_.1.1.2, hk_.1.2⟩)); have n5_ := Aside0.mk (hb); clear HO170; clear HO173; clear HO176; clear HO179; clear HO183; clear HB; have HO170 := n0_; have HO173 := n1_; have HO176 := n2_; have HO179 := n3_; have HO183 := n4_; have HB := n5_; clear n0_ n1_ n2_ n3_ n4_ n5_; (try clear hb); (try clear hkp); (try clear hy0)))
        (try simp only [Act.put, List.setIfInBounds_toArray, List.set_cons_zero, List.set_cons_succ])
        go_cut [43] (fun v43 wc => ∃ (kq : Nat) (x43_13 : Bool), v43 = .bool x43_13 ∧ Aside0 (laws_FnExactTotalsOf.j0 kq l0 a1 t171 t177 x43_13 = some r) ∧ Aside0 (kq ≤ k) ∧ Aside0 (Kd.R k52 52 wc w.heap.size (fun k_ => some k_ ≠ ((.slice Ao21 t177.length co21) : Value).ownBlock) (.slice Ao22 t171.length co22) t171) ∧ Aside0 (Kd.R k52 52 wc w.heap.size (fun k_ => some k_ ≠ ((.slice Ao22 t171.length co22) : Value).ownBlock) (.slice Ao21 t177.length co21) t177) ∧ Aside0 (Below w.heap.size w wc))
        case first =>
          have H := HC14.out
          clear HC14
          by_cases c27 : t185 < 0
          · rw [if_pos c27] at H
            have c27b0 : decide (t185 < 0) = true := decide_eq_true c27
            clear c27
            (first | rw [c27b0] | (simp only [i64_w, i32_w]; rw [c27b0]) | skip)
            have H' := Aside0.mk H
            clear H
            go_wp2
            go_meet
            case rel => exact ⟨_, (true), (by first | rfl | (simp; done) | (simp [*]; done)), H', ⟨by first | omega | exact Nat.le_refl _⟩, ⟨by (with_reducible repeat (first | apply Kd.R_alloc | apply Kd.R_drewN | apply Kd.R_drew)); exact HO173.out⟩, ⟨by (with_reducible repeat (first | apply Kd.R_alloc | apply Kd.R_drewN | apply Kd.R_drew)); exact HO179.out⟩, ⟨by repeat (first | (with_reducible first | exact HB.out | apply below_alloc | apply pw_below_drewN | apply below_drew1) | exact HB.out)⟩⟩
          · rw [if_neg c27] at H
            have c27b0 : decide (t185 < 0) = false := decide_eq_false c27
            clear c27
            (first | rw [c27b0] | (simp only [i64_w, i32_w]; rw [c27b0]) | skip)
            replace H := Option.bind_eq_some_iff.mp H
            obtain ⟨t187, A280, H⟩ := H
            replace H : (laws_FnExactTotalsOf.j0 k l0 a1 t171 t177 (!t187)) = some r := H
            have A28 := Aside0.mk A280
            clear A280
            have H' := Aside0.mk H
            clear H
            go_wp2_with (first | (go_at_call 29; (with_reducible refine (laws_eqTotalS.calls k _ _ t177 _ _ t171 t187 _ ?side1 ?side2 ?side3 ?side4 A28.out).mono ?_); (case side1 => repeat (first | exact (Kd.R_reads' HO179.out).2.2 | (with_reducible refine Kd.C_alloc ?_ _) | (with_reducible refine Kd.C_drewN ?_ _) | (with_reducible refine Kd.C_drew ?_))); (case side2 => exact (Kd.R_reads' HO179.out).2.1); (case side3 => repeat (first | exact (Kd.R_reads' HO173.out).2.2 | (with_reducible refine Kd.C_alloc ?_ _) | (with_reducible refine Kd.C_drewN ?_ _) | (with_reducible refine Kd.C_drew ?_))); (case side4 => exact (Kd.R_reads' HO173.out).2.1); rintro e w29 ⟨rfl, hb⟩; have n0_ := Aside0.mk (Kd.R_below (by (with_reducible repeat (first | apply Kd.R_alloc | apply Kd.R_drewN | apply Kd.R_drew)); exact HO170.out) hb); have n1_ := Aside0.mk (Kd.R_below (by (with_reducible repeat (first | apply Kd.R_alloc | apply Kd.R_drewN | apply Kd.R_drew)); exact HO173.out) hb); have n2_ := Aside0.mk (Kd.R_below (by (with_reducible repeat (first | apply Kd.R_alloc | apply Kd.R_drewN | apply Kd.R_drew)); exact HO176.out) hb); have n3_ := Aside0.mk (Kd.R_below (by (with_reducible repeat (first | apply Kd.R_alloc | apply Kd.R_drewN | apply Kd.R_drew)); exact HO179.out) hb); have n4_ := Aside0.mk (Kd.R_below (by (with_reducible repeat (first | apply Kd.R_alloc | apply Kd.R_drewN | apply Kd.R_drew)); exact HO183.out) hb); have n5_ := Aside0.mk (below_step (by repeat (first | (with_reducible first | exact HB.out | apply below_alloc | apply pw_below_drewN | apply below_drew1) | exact HB.out)) hb); clear HO170; clear HO173; clear HO176; clear HO179; clear HO183; clear HB; have HO170 := n0_; have HO173 := n1_; have HO176 := n2_; have HO179 := n3_; have HO183 := n4_; have HB := n5_; clear n0_ n1_ n2_ n3_ n4_ n5_; (try clear hb); (try clear hb2); (try clear hk); (try clear hi)))
            go_meet
            case rel => exact ⟨_, (!t187), (by first | rfl | (simp; done) | (simp [*]; done)), H', ⟨by first | omega | exact Nat.le_refl _⟩, ⟨by (with_reducible repeat (first | apply Kd.R_alloc | apply Kd.R_drewN | apply Kd.R_drew)); exact HO173.out⟩, ⟨by (with_reducible repeat (first | apply Kd.R_alloc | apply Kd.R_drewN | apply Kd.R_drew)); exact HO179.out⟩, ⟨by repeat (first | (with_reducible first | exact HB.out | apply below_alloc | apply pw_below_drewN | apply below_drew1) | exact HB.out)⟩⟩
        case rest =>
          clear HC14
          try clear c1
          try clear c2
          try clear p2
          try clear c3
          try clear c3b0
          try clear c3b1
          try clear c5
          try clear c9
          try clear c12
          try clear c16
          try clear c19
          try clear c20
          try clear c27
          try clear c27b0
          try clear c28
          try clear c29
          obtain ⟨kq, x43_13, rfl, HA, HJ13, HO_5, HO_7, HB⟩ := hcut
          cases kq with
          | zero => exact absurd HA.out (by simp [laws_FnExactTotalsOf.j0])
          | succ kj13 =>
            have H := HA.out
            clear HA
            simp only [laws_FnExactTotalsOf.j0] at H
            by_cases c30 : x43_13 = true
            · subst c30
              have H1 : (none) = some r := by rw [if_pos rfl] at H; exact H
              clear H
              have H := H1
              clear H1
              exact absurd H (by simp)
            · replace c30 := Bool.eq_false_iff.mpr c30
              subst c30
              have H1 : ((laws_markTotalS.f kj13 t177 1).bind fun bt188 => ((laws_heldTotalS.f kj13 bt188.2 1).bind fun t190 => (if t190 < 0 then (none) else (if t190 = bt188.1 then ((laws_toIntS.f kj13 l0).bind fun t191 => ((impl_TotalsOf.f kj13 t191 a1).bind fun t194 => ((laws_eqTotalS.f kj13 t194 t171).bind fun t197 => (if t197 = true then ((laws_heldTotalS.f kj13 bt188.2 1).bind fun t198 => (if t198 < 0 then (none) else (if t198 = bt188.1 then (some true) else (none)))) else (none))))) else (none))))) = some r := by rw [if_neg (show ¬ (false = true) by decide)] at H; exact H
              clear H
              have H := H1
              clear H1
              replace H := Option.bind_eq_some_iff.mp H
              obtain ⟨⟨t188, t189⟩, A310, H⟩ := H
              replace H : ((laws_heldTotalS.f kj13 t189 1).bind fun t190 => (if t190 < 0 then (none) else (if t190 = t188 then ((laws_toIntS.f kj13 l0).bind fun t191 => ((impl_TotalsOf.f kj13 t191 a1).bind fun t194 => ((laws_eqTotalS.f kj13 t194 t171).bind fun t197 => (if t197 = true then ((laws_heldTotalS.f kj13 t189 1).bind fun t198 => (if t198 < 0 then (none) else (if t198 = t188 then (some true) else (none)))) else (none))))) else (none)))) = some r := H
              have A31 := Aside0.mk A310
              clear A310
              replace H := Option.bind_eq_some_iff.mp H
              obtain ⟨t190, A320, H⟩ := H
              replace H : (if t190 < 0 then (none) else (if t190 = t188 then ((laws_toIntS.f kj13 l0).bind fun t191 => ((impl_TotalsOf.f kj13 t191 a1).bind fun t194 => ((laws_eqTotalS.f kj13 t194 t171).bind fun t197 => (if t197 = true then ((laws_heldTotalS.f kj13 t189 1).bind fun t198 => (if t198 < 0 then (none) else (if t198 = t188 then (some true) else (none)))) else (none))))) else (none))) = some r := H
              have A32 := Aside0.mk A320
              clear A320
              by_cases c33 : t190 < 0
              · rw [if_pos c33] at H
                exact absurd H (by simp)
              · rw [if_neg c33] at H
                have c33b0 : decide (t190 < 0) = false := decide_eq_false c33
                clear c33
                by_cases c34 : t190 = t188
                · rw [if_pos c34] at H
                  have c34b0 : (t190 == t188) = true := beq_iff_eq.mpr c34
                  have c34b1 : (t190 != t188) = false := bne_eq_false_iff_eq.mpr c34
                  clear c34
                  replace H := Option.bind_eq_some_iff.mp H
                  obtain ⟨t191, A350, H⟩ := H
                  replace H : ((impl_TotalsOf.f kj13 t191 a1).bind fun t194 => ((laws_eqTotalS.f kj13 t194 t171).bind fun t197 => (if t197 = true then ((laws_heldTotalS.f kj13 t189 1).bind fun t198 => (if t198 < 0 then (none) else (if t198 = t188 then (some true) else (none)))) else (none)))) = some r := H
                  have A35 := Aside0.mk A350
                  clear A350
                  replace H := Option.bind_eq_some_iff.mp H
                  obtain ⟨t194, A360, H⟩ := H
                  replace H : ((laws_eqTotalS.f kj13 t194 t171).bind fun t197 => (if t197 = true then ((laws_heldTotalS.f kj13 t189 1).bind fun t198 => (if t198 < 0 then (none) else (if t198 = t188 then (some true) else (none)))) else (none))) = some r := H
                  have A36 := Aside0.mk A360
                  clear A360
                  replace H := Option.bind_eq_some_iff.mp H
                  obtain ⟨t197, A370, H⟩ := H
                  replace H : (if t197 = true then ((laws_heldTotalS.f kj13 t189 1).bind fun t198 => (if t198 < 0 then (none) else (if t198 = t188 then (some true) else (none)))) else (none)) = some r := H
                  have A37 := Aside0.mk A370
                  clear A370
                  by_cases c38 : t197 = true
                  · subst c38
                    have H1 : ((laws_heldTotalS.f kj13 t189 1).bind fun t198 => (if t198 < 0 then (none) else (if t198 = t188 then (some true) else (none)))) = some r := by rw [if_pos rfl] at H; exact H
                    clear H
                    have H := H1
                    clear H1
                    replace H := Option.bind_eq_some_iff.mp H
                    obtain ⟨t198, A390, H⟩ := H
                    replace H : (if t198 < 0 then (none) else (if t198 = t188 then (some true) else (none))) = some r := H
                    have A39 := Aside0.mk A390
                    clear A390
                    by_cases c40 : t198 < 0
                    · rw [if_pos c40] at H
                      exact absurd H (by simp)
                    · rw [if_neg c40] at H
                      have c40b0 : decide (t198 < 0) = false := decide_eq_false c40
                      clear c40
                      by_cases c41 : t198 = t188
                      · rw [if_pos c41] at H
                        have c41b0 : (t198 == t188) = true := beq_iff_eq.mpr c41
                        have c41b1 : (t198 != t188) = false := bne_eq_false_iff_eq.mpr c41
                        clear c41
                        obtain rfl := Option.some.inj H
                        go_wp2_with (first | ((with_reducible refine gate_callee (f := 30) rfl ?_); refine goesL_ (some 46) rfl rfl Try.func30 (by kernel_rfl) rfl #[.slice Ao21 t177.length co21, .int .i64 1] rfl (by (try simp only [List.map_toArray, List.map_cons, List.map_nil]); first | done | rfl | (simp only [List.length_drop, List.length_take]; rfl)) ?_; (with_reducible refine (laws_markTotalS.calls kj13 (fun k_ => some k_ = (.slice Ao21 t177.length co21 : Value).ownBlock) (.slice Ao21 t177.length co21) t177 1 t188 t189 w _ ?side1 ?side2 A31.out).mono ?_); (case side1 => repeat (first | (with_reducible first | exact HB.out | apply below_alloc | apply pw_below_drewN | apply below_drew1) | exact HB.out)); (case side2 => exact Kd.R_tight rfl HO_7.out); rintro e w42 ⟨rfl, hy0, hb, hkp⟩; refine ⟨_, rfl, ?_⟩; have n0_ := Aside0.mk (Kd.R_mono (ok' := fun k_ => some k_ ≠ (.slice Ao21 t177.length co21 : Value).ownBlock) (Kd.R_keptB (HO_5.out) hkp (fun k_ hk_ hs_ => (hk_) hs_)) (fun k_ hk_ => hk_.1)); have n1_ := Aside0.mk (Kd.R_reok rfl hy0 (fun k_ e_ => HO_7.out.1 k_ e_)); have n2_ := Aside0.mk (hb); clear HO_5; clear HO_7; clear HB; have HO_5 := n0_; have HO_7 := n1_; have HB := n2_; clear n0_ n1_ n2_; (try clear hb); (try clear hkp); (try clear hy0)) | ((with_reducible refine gate_callee (f := 31) rfl ?_); refine goesL_ (some 49) rfl rfl Try.func31 (by kernel_rfl) rfl #[.slice Ao21 t189.length co21, .int .i64 1] rfl (by (try simp only [List.map_toArray, List.map_cons, List.map_nil]); first | done | (rw [show t189.length = t177.length from (Kd.R_reads' HO_7.out).1.symm] <;> rfl) | rfl | (simp only [List.length_drop, List.length_take]; rfl)) ?_; (with_reducible refine (laws_heldTotalS.calls kj13 _ _ t189 1 t190 _ ?side1 ?side2 A32.out).mono ?_); (case side1 => repeat (first | exact (Kd.R_reads' HO_7.out).2.2 | (with_reducible refine Kd.C_alloc ?_ _) | (with_reducible refine Kd.C_drewN ?_ _) | (with_reducible refine Kd.C_drew ?_))); (case side2 => rw [show t189.length = t177.length from (Kd.R_reads' HO_7.out).1.symm]; exact (Kd.R_reads' HO_7.out).2.1); rintro e w' ⟨rfl, ⟨nd, rfl⟩⟩; refine ⟨_, rfl, ?_⟩) | ((with_reducible refine gate_callee (f := 16) rfl ?_); refine goesL_ (some 56) rfl rfl Try.func16 (by kernel_rfl) rfl #[.slice A0 l0.length c0] rfl (by (try simp only [List.map_toArray, List.map_cons, List.map_nil]); first | done | rfl | (simp only [List.length_drop, List.length_take]; rfl)) ?_; (with_reducible refine (laws_toIntS.calls kj13 _ _ l0 t191 _ ?side1 ?side2 A35.out).mono ?_); (case side1 => repeat (first | exact (Kd.C_below HR0.out (by repeat (first | (with_reducible first | exact HB.out | apply below_alloc | apply pw_below_drewN | apply below_drew1) | exact HB.out))) | (with_reducible refine Kd.C_alloc ?_ _) | (with_reducible refine Kd.C_drewN ?_ _) | (with_reducible refine Kd.C_drew ?_))); (case side2 => exact HC0.out); rintro e w43 ⟨v192, rfl, ho0, hb⟩; refine ⟨_, rfl, ?_⟩; have n0_ := Aside0.mk (Kd.R_below (by (with_reducible repeat (first | apply Kd.R_alloc | apply Kd.R_drewN | apply Kd.R_drew)); exact HO_5.out) hb); have n1_ := Aside0.mk (Kd.R_below (by (with_reducible repeat (first | apply Kd.R_alloc | apply Kd.R_drewN | apply Kd.R_drew)); exact HO_7.out) hb); have n2_ := Aside0.mk (Kd.R_lower ho0 (below_size (by repeat (first | (with_reducible first | exact HB.out | apply below_alloc | apply pw_below_drewN | apply below_drew1) | exact HB.out)))); have n3_ := Aside0.mk (below_step (by repeat (first | (with_reducible first | exact HB.out | apply below_alloc | apply pw_below_drewN | apply below_drew1) | exact HB.out)) hb); clear HO_5; clear HO_7; clear HB; have HO_5 := n0_; have HO_7 := n1_; have HO193 := n2_; have HB := n3_; clear n0_ n1_ n2_ n3_; (try clear hb); (try clear hb2); (try clear hk); (try clear hi); (try clear ho0); obtain ⟨Ao44, co44, eo44⟩ := Kd.R_slice HO193.out; subst eo44) | ((with_reducible refine gate_callee (f := 28) rfl ?_); refine goesL_ (some 58) rfl rfl Try.func28 (by kernel_rfl) rfl #[.slice Ao44 t191.length co44, .int .i64 a1] rfl (by (try simp only [List.map_toArray, List.map_cons, List.map_nil]); first | done | rfl | (simp only [List.length_drop, List.length_take]; rfl)) ?_; (with_reducible refine (impl_TotalsOf.calls kj13 _ _ t191 a1 t194 _ ?side1 ?side2 A36.out).mono ?_); (case side1 => repeat (first | exact (Kd.R_reads' HO193.out).2.2 | (with_reducible refine Kd.C_alloc ?_ _) | (with_reducible refine Kd.C_drewN ?_ _) | (with_reducible refine Kd.C_drew ?_))); (case side2 => exact (Kd.R_reads' HO193.out).2.1); rintro e w45 ⟨v195, rfl, ho0, hb⟩; refine ⟨_, rfl, ?_⟩; have n0_ := Aside0.mk (Kd.R_elder' (by (with_reducible repeat (first | apply Kd.R_alloc | apply Kd.R_drewN | apply Kd.R_drew)); exact HO_5.out) (Kd.R_base ho0) hb); have n1_ := Aside0.mk (Kd.R_elder' (by (with_reducible repeat (first | apply Kd.R_alloc | apply Kd.R_drewN | apply Kd.R_drew)); exact HO_7.out) (Kd.R_base ho0) hb); have n2_ := Aside0.mk (Kd.R_below (by (with_reducible repeat (first | apply Kd.R_alloc | apply Kd.R_drewN | apply Kd.R_drew)); exact HO193.out) hb); have n3_ := Aside0.mk (Kd.R_lower (Kd.R_new' (Kd.R_new' ho0 (Kd.R_lt (by (with_reducible repeat (first | apply Kd.R_alloc | apply Kd.R_drewN | apply Kd.R_drew)); exact HO_5.out))) (Kd.R_lt (by (with_reducible repeat (first | apply Kd.R_alloc | apply Kd.R_drewN | apply Kd.R_drew)); exact HO_7.out))) (below_size (by repeat (first | (with_reducible first | exact HB.out | apply below_alloc | apply pw_below_drewN | apply below_drew1) | exact HB.out)))); have n4_ := Aside0.mk (below_step (by repeat (first | (with_reducible first | exact HB.out | apply below_alloc | apply pw_below_drewN | apply below_drew1) | exact HB.out)) hb); clear HO_5; clear HO_7; clear HO193; clear HB; have HO_5 := n0_; have HO_7 := n1_; have HO193 := n2_; have HO196 := n3_; have HB := n4_; clear n0_ n1_ n2_ n3_ n4_; (try clear hb); (try clear hb2); (try clear hk); (try clear hi); (try clear ho0); obtain ⟨Ao46, co46, eo46⟩ := Kd.R_slice HO196.out; subst eo46) | ((with_reducible refine gate_callee (f := 29) rfl ?_); refine goesL_ (some 61) rfl rfl Try.func29 (by kernel_rfl) rfl #[.slice Ao46 t194.length co46, .slice Ao22 t171.length co22] rfl (by (try simp only [List.map_toArray, List.map_cons, List.map_nil]); first | done | rfl | (simp only [List.length_drop, List.length_take]; rfl)) ?_; (with_reducible refine (laws_eqTotalS.calls kj13 _ _ t194 _ _ t171 true _ ?side1 ?side2 ?side3 ?side4 A37.out).mono ?_); (case side1 => repeat (first | exact (Kd.R_reads' HO196.out).2.2 | (with_reducible refine Kd.C_alloc ?_ _) | (with_reducible refine Kd.C_drewN ?_ _) | (with_reducible refine Kd.C_drew ?_))); (case side2 => exact (Kd.R_reads' HO196.out).2.1); (case side3 => repeat (first | exact (Kd.R_reads' HO_5.out).2.2 | (with_reducible refine Kd.C_alloc ?_ _) | (with_reducible refine Kd.C_drewN ?_ _) | (with_reducible refine Kd.C_drew ?_))); (case side4 => exact (Kd.R_reads' HO_5.out).2.1); rintro e w47 ⟨rfl, hb⟩; refine ⟨_, rfl, ?_⟩; have n0_ := Aside0.mk (Kd.R_below (by (with_reducible repeat (first | apply Kd.R_alloc | apply Kd.R_drewN | apply Kd.R_drew)); exact HO_5.out) hb); have n1_ := Aside0.mk (Kd.R_below (by (with_reducible repeat (first | apply Kd.R_alloc | apply Kd.R_drewN | apply Kd.R_drew)); exact HO_7.out) hb); have n2_ := Aside0.mk (Kd.R_below (by (with_reducible repeat (first | apply Kd.R_alloc | apply Kd.R_drewN | apply Kd.R_drew)); exact HO193.out) hb); have n3_ := Aside0.mk (Kd.R_below (by (with_reducible repeat (first | apply Kd.R_alloc | apply Kd.R_drewN | apply Kd.R_drew)); exact HO196.out) hb); have n4_ := Aside0.mk (below_step (by repeat (first | (with_reducible first | exact HB.out | apply below_alloc | apply pw_below_drewN | apply below_drew1) | exact HB.out)) hb); clear HO_5; clear HO_7; clear HO193; clear HO196; clear HB; have HO_5 := n0_; have HO_7 := n1_; have HO193 := n2_; have HO196 := n3_; have HB := n4_; clear n0_ n1_ n2_ n3_ n4_; (try clear hb); (try clear hb2); (try clear hk); (try clear hi)) | ((with_reducible refine gate_callee (f := 31) rfl ?_); refine goesL_ (some 65) rfl rfl Try.func31 (by kernel_rfl) rfl #[.slice Ao21 t189.length co21, .int .i64 1] rfl (by (try simp only [List.map_toArray, List.map_cons, List.map_nil]); first | done | (rw [show t189.length = t177.length from (Kd.R_reads' HO_7.out).1.symm] <;> rfl) | rfl | (simp only [List.length_drop, List.length_take]; rfl)) ?_; (with_reducible refine (laws_heldTotalS.calls kj13 _ _ t189 1 t198 _ ?side1 ?side2 A39.out).mono ?_); (case side1 => repeat (first | exact (Kd.R_reads' HO_7.out).2.2 | (with_reducible refine Kd.C_alloc ?_ _) | (with_reducible refine Kd.C_drewN ?_ _) | (with_reducible refine Kd.C_drew ?_))); (case side2 => rw [show t189.length = t177.length from (Kd.R_reads' HO_7.out).1.symm]; exact (Kd.R_reads' HO_7.out).2.1); rintro e w' ⟨rfl, ⟨nd, rfl⟩⟩; refine ⟨_, rfl, ?_⟩))
                        go_ret
                        exact ⟨by first | rfl | (simp [errW_none, errW_some] <;> rfl) | (simp [*, errW_none, errW_some] <;> rfl), by repeat (first | (with_reducible first | exact HB.out | apply below_alloc | apply pw_below_drewN | apply below_drew1) | exact HB.out)⟩
                      · rw [if_neg c41] at H
                        exact absurd H (by simp)
                  · replace c38 := Bool.eq_false_iff.mpr c38
                    subst c38
                    have H1 : (none) = some r := by rw [if_neg (show ¬ (false = true) by decide)] at H; exact H
                    clear H
                    have H := H1
                    clear H1
                    exact absurd H (by simp)
                · rw [if_neg c34] at H
                  exact absurd H (by simp)
      · replace c12 := Bool.eq_false_iff.mpr c12
        subst c12
        have H1 : (none) = some r := by rw [if_neg (show ¬ (false = true) by decide)] at H; exact H
        clear H
        have H := H1
        clear H1
        exact absurd H (by simp)
    · replace c9 := Bool.eq_false_iff.mpr c9
      subst c9
      have H1 : (none) = some r := by rw [if_neg (show ¬ (false = true) by decide)] at H; exact H
      clear H
      have H := H1
      clear H1
      exact absurd H (by simp)

/-- THE ONE PURE STATEMENT of laws_FnExactTotalsOf: yours. -/
def laws_FnExactTotalsOf.Pure : Prop := ∀ (l0 : List Int) (a1 : Int), l0.length ≤ maxLen → l0.length * 8 ≤ 140737488351232 → (∀ x ∈ l0, (Lit.int .i64 x).wf = true) → (Lit.int .i64 a1).wf = true → ∃ k, laws_FnExactTotalsOf.f k l0 a1 = some true
theorem laws_FnExactTotalsOf.walk (P : laws_FnExactTotalsOf.Pure) (a0 : Option Addr) (len0 cap0 : Nat) (z0 : List Int) (a1 : Int) (w : World) (w0 : (a0 = none ∧ len0 = 0 ∧ cap0 = 0 ∧ z0 = []) ∨ ∃ x, a0 = some x ∧ len0 ≤ cap0 ∧ cap0 ≤ maxLen ∧ z0.length = cap0 ∧ (∀ i, i < z0.length → w.cell? (x.add i) = some (.int .i64 (z0.getD i 0))) ∧ ∀ n ∈ z0, (Lit.int .i64 n).wf = true) (y0 : len0 * 8 ≤ 140737488351232) (w1 : (Lit.int .i64 a1).wf = true) :
    Calls Try.prog 5 #[.slice a0 len0 cap0, .int .i64 a1] w fun e w' => e = .returned (.bool true) ∧ Below w.heap.size w w' := by
  obtain ⟨l0, rfl, hr0, hm0, hw0, hc0⟩ := ReadsInt.ofRowC w0
  obtain ⟨k, h⟩ := P l0 a1 hm0 y0 hw0 w1
  refine (laws_FnExactTotalsOf.calls k _ _ l0 a1 true w (Kd.C_of_reads (d := (0 : Int)) (h1 := fun _ => rfl) hr0) hc0 h).mono ?_
  rintro e w' ⟨rfl, hd⟩
  exact ⟨rfl, hd⟩

end Go.Proofs.Ytloiafnoekpaoab.PFnExactTotalsOf
