/- Laid by a program of this session out of the translation: functions, their contracts, the row. Lean checks it. -/
import Derived.Test.YtloiafnoekpaoabPFnExactPiecesValidx0
import Derived.Test.YtloiafnoekpaoabPFnExactPiecesValidx8
namespace Go.Proofs.Ytloiafnoekpaoab.PFnExactPiecesValid
open Go.RowKit Go.Proofs.YtloiafnoekpaoabW.PrintWords Go.Proofs.YtloiafnoekpaoabW.PrintLast Go.Proofs.YtloiafnoekpaoabW.PrintMore
theorem z9_0 {p : Prop} (h : p := by first | (go_simp; done) | (go_simp; rfl)) : p := h
theorem z9_1 {p : Prop} (h : p := by repeat (first | (with_reducible first | exact HB.out | apply below_alloc | apply pw_below_drewN | apply below_drew1 | refine below_set ?_ GE245.out | refine below_set ?_ GE246.out) | exact HB.out)) : p := h
theorem z9_2 {p : Prop} (h : p := by repeat (first | (with_reducible first | exact HB.out | apply below_alloc | apply pw_below_drewN | apply below_drew1) | exact HB.out)) : p := h
theorem z9_3 {p : Prop} (h : p := by repeat (first | (with_reducible first | exact HB.out | apply below_alloc | apply pw_below_drewN | apply below_drew1 | refine below_set ?_ GE245.out) | exact HB.out)) : p := h
theorem z9_4 {p : Prop} (h : p := by (with_reducible repeat (first | refine blk_drewN ?_ _ | refine blk_drew ?_ | refine blk_alloc ?_ _)); exact BK245.out) : p := h
theorem z9_5 {p : Prop} (h : p := by (try simp only [List.map_toArray, List.map_cons, List.map_nil]); first | done | rfl | (simp only [List.length_drop, List.length_take]; rfl)) : p := h
theorem z9_6 {p : Prop} (h : p := by rw [hg]; exact Nat.ne_of_lt (blk_lt (g := gb245) (o := .cells #[.int .i64 a0_0, .slice A0_1 l0_1.length c0_1, .slice A0_2 l0_2.length c0_2, .slice A0_3 l0_3.length c0_3, .slice A0_4 l0_4.length c0_4] 119 (0, 0)) z9_4)) : p := h
theorem z9_7 {p : Prop} (h : p := by rw [hg]; exact Nat.ne_of_gt (blk_lt (g := gb245) (o := .cells #[.int .i64 a0_0, .slice A0_1 l0_1.length c0_1, .slice A0_2 l0_2.length c0_2, .slice A0_3 l0_3.length c0_3, .slice A0_4 l0_4.length c0_4] 119 (0, 0)) z9_4)) : p := h
theorem z9_8 {p : Prop} (h : p := by first | rfl | (simp [errW_none, errW_some] <;> rfl) | (simp [*, errW_none, errW_some] <;> rfl)) : p := h
theorem z9_9 {p : Prop} (h : p := by rw [hg]; exact (below_size z9_2)) : p := h
theorem z9_10 {p : Prop} (h : p := by rw [hg]; exact (below_size z9_3)) : p := h
theorem z9_11 {p : Prop} (h : p := by first | (with_reducible assumption) | assumption) : p := h
theorem z9_12 {p : Prop} (h : p := by (with_reducible repeat (first | refine blk_drewN ?_ _ | refine blk_drew ?_ | refine blk_alloc ?_ _)); exact BK246.out) : p := h
attribute [local go_sem] max2_int min2_int max_two min_two max_three min_three max_four min_four   -- for this text's walks alone
set_option linter.unusedVariables false
set_option linter.unusedSimpArgs false

/-! ### laws_eqMessageS: function 97 -/
def laws_eqMessageS.l0 : Nat → List (S122) → List (S122) → Int → Option (Bool)
 | 0, _, _, _ => none
 | k + 1, x0, x1, x5 => if x5 < (x0.length : Int) then (if 0 ≤ x5 then (if x5 < (x1.length : Int) then ((laws_eqMessage.f ((rd_T122 x0 x5).f0) ((rd_T122 x0 x5).f1) ((rd_T122 x0 x5).f2) ((rd_T122 x1 x5).f0) ((rd_T122 x1 x5).f1) ((rd_T122 x1 x5).f2)).bind fun t244 => (if t244 = true then (laws_eqMessageS.l0 k x0 x1 (wrap64 (x5 + 1))) else (some false))) else (none)) else (none)) else (some true)
def laws_eqMessageS.f (k : Nat) (l0 : List (S122)) (l1 : List (S122)) : Option (Bool) := if (l0.length : Int) = (l1.length : Int) then (laws_eqMessageS.l0 k l0 l1 0) else (some false)
theorem laws_eqMessageS.mono_l : ∀ k, (∀ y0 y1 y2, LeO (laws_eqMessageS.l0 k y0 y1 y2) (laws_eqMessageS.l0 (k + 1) y0 y1 y2))
 | 0 => fun _ _ _ r h => by simp [laws_eqMessageS.l0] at h
 | k + 1 => by
  have ih0 := laws_eqMessageS.mono_l k
  ·intro y0 y1 y2
   unfold laws_eqMessageS.l0
   repeat' first
   | (with_reducible exact ih0 _ _ _)
   | (with_reducible exact LeO.refl _)
   | (with_reducible exact LeO.none _)
   | (with_reducible refine LeO.ite ?_ ?_)
   | (with_reducible refine LeO.bind ?_ (fun _ => ?_))
   | exact ih0 _ _ _
   | exact LeO.none _
   | refine LeO.ite ?_ ?_
   | refine LeO.bind ?_ (fun _ => ?_)
theorem laws_eqMessageS.mono : ∀ a0 a1 k, LeO (laws_eqMessageS.f k a0 a1) (laws_eqMessageS.f (k + 1) a0 a1) := by
 intro a0 a1 k
 have ih0 := laws_eqMessageS.mono_l k
 unfold laws_eqMessageS.f
 repeat' first
   | (with_reducible exact ih0 _ _ _)
   | (with_reducible exact LeO.refl _)
   | (with_reducible exact LeO.none _)
   | (with_reducible refine LeO.ite ?_ ?_)
   | (with_reducible refine LeO.bind ?_ (fun _ => ?_))
   | exact ih0 _ _ _
   | exact LeO.none _
   | refine LeO.ite ?_ ?_
   | refine LeO.bind ?_ (fun _ => ?_)
def laws_eqMessageS.T6 : Bool × List (List Nat × List Nat) := (true, [([], []), ([], []), ([0, 1], [0, 1]), ([2], [2]), ([], []), ([], []), ([4, 5], [4, 5]), ([6], [6]), ([3, 7], [3, 7]), ([8], [8])])
def laws_eqMessageS.B6 : List Nat := [0, 0, 3, 7, 0, 0, 48, 112, 255, 511]
theorem laws_eqMessageS.tab6 : rtab .any (opsOf Try.f97 6) = laws_eqMessageS.T6 := by kernel_rfl
theorem laws_eqMessageS.bits6 : waitsOk laws_eqMessageS.T6.2 laws_eqMessageS.B6 = true := by kernel_rfl
set_option maxHeartbeats 8000000 in
set_option maxRecDepth 100000 in
theorem laws_eqMessageS.calls (k : Nat) (A0 : Option Addr) (c0 : Nat) (l0 : List (S122)) (A1 : Option Addr) (c1 : Nat) (l1 : List (S122)) (r : Bool) (w : World) (hr0 : Kd.C k122 w A0 l0.length l0) (hc0 : l0.length ≤ c0) (hr1 : Kd.C k122 w A1 l1.length l1) (hc1 : l1.length ≤ c1) (h : laws_eqMessageS.f k l0 l1 = some r) :
  Calls Try.prog 97 #[.slice A0 l0.length c0, .slice A1 l1.length c1] w fun e w' => e = .returned (.bool r) ∧ Below w.heap.size w w' := by
 have hu122 := Try.underlying122
 have HR0 := Aside0.mk hr0
 have HC0 := Aside0.mk hc0
 clear hr0 hc0
 have HR1 := Aside0.mk hr1
 have HC1 := Aside0.mk hc1
 clear hr1 hc1
 have HB := Aside0.mk (Below.refl w.heap.size w)
 have H : (if (l0.length : Int) = (l1.length : Int) then (laws_eqMessageS.l0 k l0 l1 0) else (some false)) = some r := h
 clear h
 by_cases c3 : (l0.length : Int) = (l1.length : Int)
 ·rw [if_pos c3] at H
  have c3b0 : ((l0.length : Int) == (l1.length : Int)) = true := beq_iff_eq.mpr c3
  have c3b1 : ((l0.length : Int) != (l1.length : Int)) = false := bne_eq_false_iff_eq.mpr c3
  have c3b2 : (l0.length == l1.length) = true := by first | simpa using c3 | (simp at c3 ⊢; omega)
  clear c3
  have H' := Aside0.mk H
  clear H
  go_enter Try.func97, Try.ntmps97
  go_wp2
  go_loopg [5] k (fun kq v5 w' => ∃ (x5_1 : Int), v5 = .int .i64 x5_1 ∧ Aside0 (laws_eqMessageS.l0 kq l0 l1 x5_1 = some r) ∧ Aside0 (kq ≤ k) ∧ Aside0 (Below w.heap.size w w'))
  case atStart => exact ⟨(0), (by first | rfl | (simp; done) | (simp [*]; done)), H', ⟨Nat.le_refl _⟩, ⟨z9_2⟩⟩
  case round =>
   clear H'
   try clear c1
   try clear p2
   try clear c3
   try clear c3b0
   try clear c3b1
   try clear c3b2
   obtain ⟨x5_1, rfl, HA, HK1, HB⟩ := hrel
   cases gk with
   | zero => exact absurd HA.out (by simp [laws_eqMessageS.l0])
   | succ k1 =>
    have H := HA.out
    clear HA
    simp only [laws_eqMessageS.l0] at H
    by_cases c4 : x5_1 < (l0.length : Int)
    ·rw [if_pos c4] at H
     have c4b0 : decide (x5_1 < (l0.length : Int)) = true := decide_eq_true c4
     clear c4
     by_cases c5 : 0 ≤ x5_1
     ·rw [if_pos c5] at H
      have c5b0 : decide (0 ≤ x5_1) = true := decide_eq_true c5
      clear c5
      by_cases c6 : x5_1 < (l1.length : Int)
      ·rw [if_pos c6] at H
       have c6b0 : decide (x5_1 < (l1.length : Int)) = true := decide_eq_true c6
       clear c6
       replace H := Option.bind_eq_some_iff.mp H
       obtain ⟨t244, A70, H⟩ := H
       replace H : (if t244 = true then (laws_eqMessageS.l0 k1 l0 l1 (wrap64 (x5_1 + 1))) else (some false)) = some r := H
       have A7 := Aside0.mk A70
       clear A70
       by_cases c8 : t244 = true
       ·subst c8
        have H1 : (laws_eqMessageS.l0 k1 l0 l1 (wrap64 (x5_1 + 1))) = some r := by rw [if_pos rfl] at H; exact H
        clear H
        have H := H1
        clear H1
        have H' := Aside0.mk H
        clear H
        try go_wp2
        have n0_ := Aside0.mk (below_drew1 HB.out)
        clear HB
        have HB := n0_
        clear n0_
        have p242 : 0 ≤ (x5_1 : Int) := of_decide_eq_true z9_11
        have q242 : x5_1 < (l0.length : Int) := of_decide_eq_true z9_11
        obtain ⟨ad242, e242, hx242_0, hx242_1, hx242_2⟩ := at_T122 HR0.out x5_1 p242 q242
        have hw242_2 := hx242_2
        have hw242_1 := hx242_1
        have hw242_0 := hx242_0
        cases e242
        replace hx242_0 := (HB.out.cell (World.block_lt_of_cell? w _ hx242_0)).trans hx242_0
        replace hx242_1 := (HB.out.cell (World.block_lt_of_cell? w _ hx242_1)).trans hx242_1
        replace hx242_2 := (HB.out.cell (World.block_lt_of_cell? w _ hx242_2)).trans hx242_2
        replace p242 := eq_true p242
        replace q242 := eq_true q242
        have p243 : 0 ≤ (x5_1 : Int) := of_decide_eq_true z9_11
        have q243 : x5_1 < (l1.length : Int) := of_decide_eq_true z9_11
        obtain ⟨ad243, e243, hx243_0, hx243_1, hx243_2⟩ := at_T122 HR1.out x5_1 p243 q243
        have hw243_2 := hx243_2
        have hw243_1 := hx243_1
        have hw243_0 := hx243_0
        cases e243
        replace hx243_0 := (HB.out.cell (World.block_lt_of_cell? w _ hx243_0)).trans hx243_0
        replace hx243_1 := (HB.out.cell (World.block_lt_of_cell? w _ hx243_1)).trans hx243_1
        replace hx243_2 := (HB.out.cell (World.block_lt_of_cell? w _ hx243_2)).trans hx243_2
        replace p243 := eq_true p243
        replace q243 := eq_true q243
        refine start_ (n := 10) (S := fun w' => w'.cell? (ad242.add ((x5_1).toNat * 3)) = some (.int .i64 ((rd_T122 l0 x5_1).f0)) ∧ w'.cell? ⟨(ad242.add ((x5_1).toNat * 3)).block, (ad242.add ((x5_1).toNat * 3)).off + 1, none⟩ = some (.int .i64 ((rd_T122 l0 x5_1).f1)) ∧ w'.cell? ⟨(ad242.add ((x5_1).toNat * 3)).block, (ad242.add ((x5_1).toNat * 3)).off + 2, none⟩ = some (.int .i64 ((rd_T122 l0 x5_1).f2)) ∧ w'.cell? (ad243.add ((x5_1).toNat * 3)) = some (.int .i64 ((rd_T122 l1 x5_1).f0)) ∧ w'.cell? ⟨(ad243.add ((x5_1).toNat * 3)).block, (ad243.add ((x5_1).toNat * 3)).off + 1, none⟩ = some (.int .i64 ((rd_T122 l1 x5_1).f1)) ∧ w'.cell? ⟨(ad243.add ((x5_1).toNat * 3)).block, (ad243.add ((x5_1).toNat * 3)).off + 2, none⟩ = some (.int .i64 ((rd_T122 l1 x5_1).f2))) (ds := []) (bm 10 0) (by kernel_rfl) rfl rfl ⟨((HB.out.cell (World.block_lt_of_cell? w _ hw242_0)).trans hw242_0), ((HB.out.cell (World.block_lt_of_cell? w _ hw242_1)).trans hw242_1), ((HB.out.cell (World.block_lt_of_cell? w _ hw242_2)).trans hw242_2), ((HB.out.cell (World.block_lt_of_cell? w _ hw243_0)).trans hw243_0), ((HB.out.cell (World.block_lt_of_cell? w _ hw243_1)).trans hw243_1), ((HB.out.cell (World.block_lt_of_cell? w _ hw243_2)).trans hw243_2)⟩ (fun hHeld => ?_); refine with_tabW laws_eqMessageS.tab6 laws_eqMessageS.bits6 (fun HT_ HW_ => ?_)
        generalize wr.drew = w9 at HB hx242_0 hx242_1 hx242_2 hx243_0 hx243_1 hx243_2 hHeld ⊢
        refine pure_ (i := 0) (N := some 17) (v := ?_) (a' := ?_) (bm 10 1) rfl rfl (any_of HT_.out (by kernel_rfl)) (fun _ _ _ h => h) (Or.inl ⟨by rfl, ?_⟩) ?_ ?_
        rotate_left
        ·intro w'
         go_simp
         with_reducible rfl
        rotate_left
        ·simp only [Act.put, List.setIfInBounds_toArray, List.set_cons_zero, List.set_cons_succ, i64_w, i32_w]
         rfl
        refine pure_ (i := 1) (N := some 18) (v := ?_) (a' := ?_) (bm 10 3) rfl rfl (any_of HT_.out (by kernel_rfl)) (fun _ _ _ h => h) (Or.inl ⟨by rfl, ?_⟩) ?_ ?_
        rotate_left
        ·intro w'
         go_simp
         with_reducible rfl
        rotate_left
        ·simp only [Act.put, List.setIfInBounds_toArray, List.set_cons_zero, List.set_cons_succ, i64_w, i32_w]
         rfl
        refine pure_ (i := 2) (N := some 19) (v := ?_) (a' := ?_) (bm 10 7) rfl rfl (any_of HT_.out (by kernel_rfl)) (fun _ _ _ h => h) (Or.inl ⟨by rfl, ?_⟩) ?_ ?_
        rotate_left
        ·intro w'
         go_simp
         with_reducible rfl
        rotate_left
        ·simp only [Act.put, List.setIfInBounds_toArray, List.set_cons_zero, List.set_cons_succ, i64_w, i32_w]
         rfl
        refine pure_ (i := 4) (N := some 21) (v := ?_) (a' := ?_) (bm 10 23) rfl rfl (any_of HT_.out (by kernel_rfl)) (fun _ _ _ h => h) (Or.inl ⟨by rfl, ?_⟩) ?_ ?_
        rotate_left
        ·intro w'
         go_simp
         with_reducible rfl
        rotate_left
        ·simp only [Act.put, List.setIfInBounds_toArray, List.set_cons_zero, List.set_cons_succ, i64_w, i32_w]
         rfl
        refine pure_ (i := 5) (N := some 22) (v := ?_) (a' := ?_) (bm 10 55) rfl rfl (any_of HT_.out (by kernel_rfl)) (fun _ _ _ h => h) (Or.inl ⟨by rfl, ?_⟩) ?_ ?_
        rotate_left
        ·intro w'
         go_simp
         with_reducible rfl
        rotate_left
        ·simp only [Act.put, List.setIfInBounds_toArray, List.set_cons_zero, List.set_cons_succ, i64_w, i32_w]
         rfl
        refine pure_ (i := 6) (N := some 23) (v := ?_) (a' := ?_) (bm 10 119) rfl rfl (any_of HT_.out (by kernel_rfl)) (fun _ _ _ h => h) (Or.inl ⟨by rfl, ?_⟩) ?_ ?_
        rotate_left
        ·intro w'
         go_simp
         with_reducible rfl
        rotate_left
        ·simp only [Act.put, List.setIfInBounds_toArray, List.set_cons_zero, List.set_cons_succ, i64_w, i32_w]
         rfl
        refine take_ (i := 3) (N := some 20) (v := ?_) (a' := ?_) (bm 10 127) rfl rfl (take_ofW HT_.out HW_.out (by kernel_rfl)) (fun _ _ _ h => h) (Or.inl ⟨by rfl, ?_⟩) hHeld ?_ ?_
        rotate_left
        ·rintro w' ⟨s0, s1, s2, s3, s4, s5⟩
         go_simp
         with_reducible rfl
        rotate_left
        ·simp only [Act.put, List.setIfInBounds_toArray, List.set_cons_zero, List.set_cons_succ, i64_w, i32_w]
         rfl
        refine take_ (i := 7) (N := some 24) (v := ?_) (a' := ?_) (bm 10 255) rfl rfl (take_ofW HT_.out HW_.out (by kernel_rfl)) (fun _ _ _ h => h) (Or.inl ⟨by rfl, ?_⟩) hHeld ?_ ?_
        rotate_left
        ·rintro w' ⟨s0, s1, s2, s3, s4, s5⟩
         go_simp
         with_reducible rfl
        rotate_left
        ·simp only [Act.put, List.setIfInBounds_toArray, List.set_cons_zero, List.set_cons_succ, i64_w, i32_w]
         rfl
        refine one_ (i := 8) (N := some 25) (bm 10 511) rfl rfl (one_of HT_.out (by kernel_rfl)) (by decide) (fun K hK => ?_)
        refine goes_ Try.func130 (by kernel_rfl) rfl #[.agg #[.int .i64 ((rd_T122 l0 x5_1).f0), .int .i64 ((rd_T122 l0 x5_1).f1), .int .i64 ((rd_T122 l0 x5_1).f2)], .agg #[.int .i64 ((rd_T122 l1 x5_1).f0), .int .i64 ((rd_T122 l1 x5_1).f1), .int .i64 ((rd_T122 l1 x5_1).f2)]] (by rfl) rfl rfl z9_5 ?_
        with_reducible refine (laws_eqMessage.calls ((rd_T122 l0 x5_1).f0) ((rd_T122 l0 x5_1).f1) ((rd_T122 l0 x5_1).f2) ((rd_T122 l1 x5_1).f0) ((rd_T122 l1 x5_1).f1) ((rd_T122 l1 x5_1).f2) true _ A7.out).mono ?_
        rintro e w10 ⟨rfl, hb⟩
        refine ⟨_, rfl, ?_⟩
        have n0_ := Aside0.mk (below_step z9_2 hb)
        clear HB
        have HB := n0_
        clear n0_
        (try clear hb)
        (try clear hb2)
        (try clear hk)
        (try clear hi)
        refine hK.out _ _ ⟨((HB.out.cell (World.block_lt_of_cell? w _ hw242_0)).trans hw242_0), ((HB.out.cell (World.block_lt_of_cell? w _ hw242_1)).trans hw242_1), ((HB.out.cell (World.block_lt_of_cell? w _ hw242_2)).trans hw242_2), ((HB.out.cell (World.block_lt_of_cell? w _ hw243_0)).trans hw243_0), ((HB.out.cell (World.block_lt_of_cell? w _ hw243_1)).trans hw243_1), ((HB.out.cell (World.block_lt_of_cell? w _ hw243_2)).trans hw243_2)⟩ (fun hHeld => ?_)
        clear hK K
        refine norm_ (a' := ?_) ?_ ?_
        rotate_left
        ·show Act.put _ (some 25) _ = _
         simp only [Act.put, List.setIfInBounds_toArray, List.set_cons_zero, List.set_cons_succ, i64_w, i32_w]
         rfl
        refine pure_ (i := 9) (N := some 26) (v := ?_) (a' := ?_) (bm 10 1023) rfl rfl (any_of HT_.out (by kernel_rfl)) (fun _ _ _ h => h) (Or.inl ⟨by rfl, ?_⟩) ?_ ?_
        rotate_left
        ·intro w'
         go_simp
         with_reducible rfl
        rotate_left
        ·simp only [Act.put, List.setIfInBounds_toArray, List.set_cons_zero, List.set_cons_succ, i64_w, i32_w]
         rfl
        refine done_ (done_of HT_.out (by kernel_rfl)) ?_
        try go_wp2
        go_roundg k1
        case measure => have := HK1.out; omega
        case rel => exact ⟨(wrap64 (x5_1 + 1)), (by first | rfl | (simp; done) | (simp [*]; done)), H', ⟨by have := HK1.out; omega⟩, ⟨z9_2⟩⟩
       ·replace c8 := Bool.eq_false_iff.mpr c8
        subst c8
        have H1 : (some false) = some r := by rw [if_neg (show ¬ (false = true) by decide)] at H; exact H
        clear H
        have H := H1
        clear H1
        obtain rfl := Option.some.inj H
        try go_wp2
        have n0_ := Aside0.mk (below_drew1 HB.out)
        clear HB
        have HB := n0_
        clear n0_
        have p242 : 0 ≤ (x5_1 : Int) := of_decide_eq_true z9_11
        have q242 : x5_1 < (l0.length : Int) := of_decide_eq_true z9_11
        obtain ⟨ad242, e242, hx242_0, hx242_1, hx242_2⟩ := at_T122 HR0.out x5_1 p242 q242
        have hw242_2 := hx242_2
        have hw242_1 := hx242_1
        have hw242_0 := hx242_0
        cases e242
        replace hx242_0 := (HB.out.cell (World.block_lt_of_cell? w _ hx242_0)).trans hx242_0
        replace hx242_1 := (HB.out.cell (World.block_lt_of_cell? w _ hx242_1)).trans hx242_1
        replace hx242_2 := (HB.out.cell (World.block_lt_of_cell? w _ hx242_2)).trans hx242_2
        replace p242 := eq_true p242
        replace q242 := eq_true q242
        have p243 : 0 ≤ (x5_1 : Int) := of_decide_eq_true z9_11
        have q243 : x5_1 < (l1.length : Int) := of_decide_eq_true z9_11
        obtain ⟨ad243, e243, hx243_0, hx243_1, hx243_2⟩ := at_T122 HR1.out x5_1 p243 q243
        have hw243_2 := hx243_2
        have hw243_1 := hx243_1
        have hw243_0 := hx243_0
        cases e243
        replace hx243_0 := (HB.out.cell (World.block_lt_of_cell? w _ hx243_0)).trans hx243_0
        replace hx243_1 := (HB.out.cell (World.block_lt_of_cell? w _ hx243_1)).trans hx243_1
        replace hx243_2 := (HB.out.cell (World.block_lt_of_cell? w _ hx243_2)).trans hx243_2
        replace p243 := eq_true p243
        replace q243 := eq_true q243
        refine start_ (n := 10) (S := fun w' => w'.cell? (ad242.add ((x5_1).toNat * 3)) = some (.int .i64 ((rd_T122 l0 x5_1).f0)) ∧ w'.cell? ⟨(ad242.add ((x5_1).toNat * 3)).block, (ad242.add ((x5_1).toNat * 3)).off + 1, none⟩ = some (.int .i64 ((rd_T122 l0 x5_1).f1)) ∧ w'.cell? ⟨(ad242.add ((x5_1).toNat * 3)).block, (ad242.add ((x5_1).toNat * 3)).off + 2, none⟩ = some (.int .i64 ((rd_T122 l0 x5_1).f2)) ∧ w'.cell? (ad243.add ((x5_1).toNat * 3)) = some (.int .i64 ((rd_T122 l1 x5_1).f0)) ∧ w'.cell? ⟨(ad243.add ((x5_1).toNat * 3)).block, (ad243.add ((x5_1).toNat * 3)).off + 1, none⟩ = some (.int .i64 ((rd_T122 l1 x5_1).f1)) ∧ w'.cell? ⟨(ad243.add ((x5_1).toNat * 3)).block, (ad243.add ((x5_1).toNat * 3)).off + 2, none⟩ = some (.int .i64 ((rd_T122 l1 x5_1).f2))) (ds := []) (bm 10 0) (by kernel_rfl) rfl rfl ⟨((HB.out.cell (World.block_lt_of_cell? w _ hw242_0)).trans hw242_0), ((HB.out.cell (World.block_lt_of_cell? w _ hw242_1)).trans hw242_1), ((HB.out.cell (World.block_lt_of_cell? w _ hw242_2)).trans hw242_2), ((HB.out.cell (World.block_lt_of_cell? w _ hw243_0)).trans hw243_0), ((HB.out.cell (World.block_lt_of_cell? w _ hw243_1)).trans hw243_1), ((HB.out.cell (World.block_lt_of_cell? w _ hw243_2)).trans hw243_2)⟩ (fun hHeld => ?_); refine with_tabW laws_eqMessageS.tab6 laws_eqMessageS.bits6 (fun HT_ HW_ => ?_)
        generalize wr.drew = w11 at HB hx242_0 hx242_1 hx242_2 hx243_0 hx243_1 hx243_2 hHeld ⊢
        refine pure_ (i := 0) (N := some 17) (v := ?_) (a' := ?_) (bm 10 1) rfl rfl (any_of HT_.out (by kernel_rfl)) (fun _ _ _ h => h) (Or.inl ⟨by rfl, ?_⟩) ?_ ?_
        rotate_left
        ·intro w'
         go_simp
         with_reducible rfl
        rotate_left
        ·simp only [Act.put, List.setIfInBounds_toArray, List.set_cons_zero, List.set_cons_succ, i64_w, i32_w]
         rfl
        refine pure_ (i := 1) (N := some 18) (v := ?_) (a' := ?_) (bm 10 3) rfl rfl (any_of HT_.out (by kernel_rfl)) (fun _ _ _ h => h) (Or.inl ⟨by rfl, ?_⟩) ?_ ?_
        rotate_left
        ·intro w'
         go_simp
         with_reducible rfl
        rotate_left
        ·simp only [Act.put, List.setIfInBounds_toArray, List.set_cons_zero, List.set_cons_succ, i64_w, i32_w]
         rfl
        refine pure_ (i := 2) (N := some 19) (v := ?_) (a' := ?_) (bm 10 7) rfl rfl (any_of HT_.out (by kernel_rfl)) (fun _ _ _ h => h) (Or.inl ⟨by rfl, ?_⟩) ?_ ?_
        rotate_left
        ·intro w'
         go_simp
         with_reducible rfl
        rotate_left
        ·simp only [Act.put, List.setIfInBounds_toArray, List.set_cons_zero, List.set_cons_succ, i64_w, i32_w]
         rfl
        refine pure_ (i := 4) (N := some 21) (v := ?_) (a' := ?_) (bm 10 23) rfl rfl (any_of HT_.out (by kernel_rfl)) (fun _ _ _ h => h) (Or.inl ⟨by rfl, ?_⟩) ?_ ?_
        rotate_left
        ·intro w'
         go_simp
         with_reducible rfl
        rotate_left
        ·simp only [Act.put, List.setIfInBounds_toArray, List.set_cons_zero, List.set_cons_succ, i64_w, i32_w]
         rfl
        refine pure_ (i := 5) (N := some 22) (v := ?_) (a' := ?_) (bm 10 55) rfl rfl (any_of HT_.out (by kernel_rfl)) (fun _ _ _ h => h) (Or.inl ⟨by rfl, ?_⟩) ?_ ?_
        rotate_left
        ·intro w'
         go_simp
         with_reducible rfl
        rotate_left
        ·simp only [Act.put, List.setIfInBounds_toArray, List.set_cons_zero, List.set_cons_succ, i64_w, i32_w]
         rfl
        refine pure_ (i := 6) (N := some 23) (v := ?_) (a' := ?_) (bm 10 119) rfl rfl (any_of HT_.out (by kernel_rfl)) (fun _ _ _ h => h) (Or.inl ⟨by rfl, ?_⟩) ?_ ?_
        rotate_left
        ·intro w'
         go_simp
         with_reducible rfl
        rotate_left
        ·simp only [Act.put, List.setIfInBounds_toArray, List.set_cons_zero, List.set_cons_succ, i64_w, i32_w]
         rfl
        refine take_ (i := 3) (N := some 20) (v := ?_) (a' := ?_) (bm 10 127) rfl rfl (take_ofW HT_.out HW_.out (by kernel_rfl)) (fun _ _ _ h => h) (Or.inl ⟨by rfl, ?_⟩) hHeld ?_ ?_
        rotate_left
        ·rintro w' ⟨s0, s1, s2, s3, s4, s5⟩
         go_simp
         with_reducible rfl
        rotate_left
        ·simp only [Act.put, List.setIfInBounds_toArray, List.set_cons_zero, List.set_cons_succ, i64_w, i32_w]
         rfl
        refine take_ (i := 7) (N := some 24) (v := ?_) (a' := ?_) (bm 10 255) rfl rfl (take_ofW HT_.out HW_.out (by kernel_rfl)) (fun _ _ _ h => h) (Or.inl ⟨by rfl, ?_⟩) hHeld ?_ ?_
        rotate_left
        ·rintro w' ⟨s0, s1, s2, s3, s4, s5⟩
         go_simp
         with_reducible rfl
        rotate_left
        ·simp only [Act.put, List.setIfInBounds_toArray, List.set_cons_zero, List.set_cons_succ, i64_w, i32_w]
         rfl
        refine one_ (i := 8) (N := some 25) (bm 10 511) rfl rfl (one_of HT_.out (by kernel_rfl)) (by decide) (fun K hK => ?_)
        refine goes_ Try.func130 (by kernel_rfl) rfl #[.agg #[.int .i64 ((rd_T122 l0 x5_1).f0), .int .i64 ((rd_T122 l0 x5_1).f1), .int .i64 ((rd_T122 l0 x5_1).f2)], .agg #[.int .i64 ((rd_T122 l1 x5_1).f0), .int .i64 ((rd_T122 l1 x5_1).f1), .int .i64 ((rd_T122 l1 x5_1).f2)]] (by rfl) rfl rfl z9_5 ?_
        with_reducible refine (laws_eqMessage.calls ((rd_T122 l0 x5_1).f0) ((rd_T122 l0 x5_1).f1) ((rd_T122 l0 x5_1).f2) ((rd_T122 l1 x5_1).f0) ((rd_T122 l1 x5_1).f1) ((rd_T122 l1 x5_1).f2) false _ A7.out).mono ?_
        rintro e w12 ⟨rfl, hb⟩
        refine ⟨_, rfl, ?_⟩
        have n0_ := Aside0.mk (below_step z9_2 hb)
        clear HB
        have HB := n0_
        clear n0_
        (try clear hb)
        (try clear hb2)
        (try clear hk)
        (try clear hi)
        refine hK.out _ _ ⟨((HB.out.cell (World.block_lt_of_cell? w _ hw242_0)).trans hw242_0), ((HB.out.cell (World.block_lt_of_cell? w _ hw242_1)).trans hw242_1), ((HB.out.cell (World.block_lt_of_cell? w _ hw242_2)).trans hw242_2), ((HB.out.cell (World.block_lt_of_cell? w _ hw243_0)).trans hw243_0), ((HB.out.cell (World.block_lt_of_cell? w _ hw243_1)).trans hw243_1), ((HB.out.cell (World.block_lt_of_cell? w _ hw243_2)).trans hw243_2)⟩ (fun hHeld => ?_)
        clear hK K
        refine norm_ (a' := ?_) ?_ ?_
        rotate_left
        ·show Act.put _ (some 25) _ = _
         simp only [Act.put, List.setIfInBounds_toArray, List.set_cons_zero, List.set_cons_succ, i64_w, i32_w]
         rfl
        refine pure_ (i := 9) (N := some 26) (v := ?_) (a' := ?_) (bm 10 1023) rfl rfl (any_of HT_.out (by kernel_rfl)) (fun _ _ _ h => h) (Or.inl ⟨by rfl, ?_⟩) ?_ ?_
        rotate_left
        ·intro w'
         go_simp
         with_reducible rfl
        rotate_left
        ·simp only [Act.put, List.setIfInBounds_toArray, List.set_cons_zero, List.set_cons_succ, i64_w, i32_w]
         rfl
        refine done_ (done_of HT_.out (by kernel_rfl)) ?_
        try go_wp2
        go_ret
        exact ⟨z9_8, z9_2⟩
      ·rw [if_neg c6] at H
       exact absurd H (by simp)
     ·rw [if_neg c5] at H
      exact absurd H (by simp)
    ·rw [if_neg c4] at H
     have c4b0 : decide (x5_1 < (l0.length : Int)) = false := decide_eq_false c4
     clear c4
     obtain rfl := Option.some.inj H
     go_wp2
     go_ret
     exact ⟨z9_8, z9_2⟩
 ·rw [if_neg c3] at H
  have c3b0 : ((l0.length : Int) == (l1.length : Int)) = false := beq_eq_false_iff_ne.mpr c3
  have c3b1 : ((l0.length : Int) != (l1.length : Int)) = true := bne_iff_ne.mpr c3
  have c3b2 : (l0.length == l1.length) = false := by first | simpa using c3 | (simp at c3 ⊢; omega)
  obtain rfl := Option.some.inj H
  go_enter Try.func97, Try.ntmps97
  go_wp2
  go_ret
  exact ⟨z9_8, z9_2⟩

/-! ### laws_eqPiece: function 104 -/
def laws_eqPiece.f (k : Nat) (a0_0 : Int) (l0_1 : List Int) (l0_2 : List Int) (l0_3 : List Bool) (l0_4 : List (S122)) (a1_0 : Int) (l1_1 : List Int) (l1_2 : List Int) (l1_3 : List Bool) (l1_4 : List (S122)) : Option (Bool) := if a0_0 = a1_0 then ((laws_eqIntS.f k l0_1 l1_1).bind fun t247 => (if t247 = true then ((laws_eqIntS.f k l0_2 l1_2).bind fun t248 => (if t248 = true then ((laws_eqBoolS.f k l0_3 l1_3).bind fun t249 => (if t249 = true then ((laws_eqMessageS.f k l0_4 l1_4).bind fun t250 => (if t250 = true then (some true) else (some false))) else (some false))) else (some false))) else (some false))) else (some false)
theorem laws_eqPiece.mono : ∀ a0 a1 a2 a3 a4 a5 a6 a7 a8 a9 k, LeO (laws_eqPiece.f k a0 a1 a2 a3 a4 a5 a6 a7 a8 a9) (laws_eqPiece.f (k + 1) a0 a1 a2 a3 a4 a5 a6 a7 a8 a9) := by
 intro a0 a1 a2 a3 a4 a5 a6 a7 a8 a9 k
 unfold laws_eqPiece.f
 repeat' first
   | (with_reducible exact laws_eqBoolS.mono _ _ _)
   | (with_reducible exact laws_eqIntS.mono _ _ _)
   | (with_reducible exact laws_eqMessageS.mono _ _ _)
   | (with_reducible exact LeO.refl _)
   | (with_reducible exact LeO.none _)
   | (with_reducible refine LeO.ite ?_ ?_)
   | (with_reducible refine LeO.bind ?_ (fun _ => ?_))
   | exact laws_eqBoolS.mono _ _ _
   | exact laws_eqIntS.mono _ _ _
   | exact laws_eqMessageS.mono _ _ _
   | exact LeO.none _
   | refine LeO.ite ?_ ?_
   | refine LeO.bind ?_ (fun _ => ?_)
set_option maxHeartbeats 8000000 in
set_option maxRecDepth 100000 in
theorem laws_eqPiece.calls (k : Nat) (a0_0 : Int) (A0_1 : Option Addr) (c0_1 : Nat) (l0_1 : List Int) (A0_2 : Option Addr) (c0_2 : Nat) (l0_2 : List Int) (A0_3 : Option Addr) (c0_3 : Nat) (l0_3 : List Bool) (A0_4 : Option Addr) (c0_4 : Nat) (l0_4 : List (S122)) (a1_0 : Int) (A1_1 : Option Addr) (c1_1 : Nat) (l1_1 : List Int) (A1_2 : Option Addr) (c1_2 : Nat) (l1_2 : List Int) (A1_3 : Option Addr) (c1_3 : Nat) (l1_3 : List Bool) (A1_4 : Option Addr) (c1_4 : Nat) (l1_4 : List (S122)) (r : Bool) (w : World) (hr0_1 : Kd.C (Kd.int .i64) w A0_1 l0_1.length l0_1) (hc0_1 : l0_1.length ≤ c0_1) (hr0_2 : Kd.C (Kd.int .i64) w A0_2 l0_2.length l0_2) (hc0_2 : l0_2.length ≤ c0_2) (hr0_3 : Kd.C Kd.bool w A0_3 l0_3.length l0_3) (hc0_3 : l0_3.length ≤ c0_3) (hr0_4 : Kd.C k122 w A0_4 l0_4.length l0_4) (hc0_4 : l0_4.length ≤ c0_4) (hr1_1 : Kd.C (Kd.int .i64) w A1_1 l1_1.length l1_1) (hc1_1 : l1_1.length ≤ c1_1) (hr1_2 : Kd.C (Kd.int .i64) w A1_2 l1_2.length l1_2) (hc1_2 : l1_2.length ≤ c1_2) (hr1_3 : Kd.C Kd.bool w A1_3 l1_3.length l1_3) (hc1_3 : l1_3.length ≤ c1_3) (hr1_4 : Kd.C k122 w A1_4 l1_4.length l1_4) (hc1_4 : l1_4.length ≤ c1_4) (h : laws_eqPiece.f k a0_0 l0_1 l0_2 l0_3 l0_4 a1_0 l1_1 l1_2 l1_3 l1_4 = some r) :
  Calls Try.prog 104 #[.agg #[.int .i64 a0_0, .slice A0_1 l0_1.length c0_1, .slice A0_2 l0_2.length c0_2, .slice A0_3 l0_3.length c0_3, .slice A0_4 l0_4.length c0_4], .agg #[.int .i64 a1_0, .slice A1_1 l1_1.length c1_1, .slice A1_2 l1_2.length c1_2, .slice A1_3 l1_3.length c1_3, .slice A1_4 l1_4.length c1_4]] w fun e w' => e = .returned (.bool r) ∧ Below w.heap.size w w' := by
 have hu119 := Try.underlying119
 have HR0_1 := Aside0.mk hr0_1
 have HC0_1 := Aside0.mk hc0_1
 clear hr0_1 hc0_1
 have HR0_2 := Aside0.mk hr0_2
 have HC0_2 := Aside0.mk hc0_2
 clear hr0_2 hc0_2
 have HR0_3 := Aside0.mk hr0_3
 have HC0_3 := Aside0.mk hc0_3
 clear hr0_3 hc0_3
 have HR0_4 := Aside0.mk hr0_4
 have HC0_4 := Aside0.mk hc0_4
 clear hr0_4 hc0_4
 have HR1_1 := Aside0.mk hr1_1
 have HC1_1 := Aside0.mk hc1_1
 clear hr1_1 hc1_1
 have HR1_2 := Aside0.mk hr1_2
 have HC1_2 := Aside0.mk hc1_2
 clear hr1_2 hc1_2
 have HR1_3 := Aside0.mk hr1_3
 have HC1_3 := Aside0.mk hc1_3
 clear hr1_3 hc1_3
 have HR1_4 := Aside0.mk hr1_4
 have HC1_4 := Aside0.mk hc1_4
 clear hr1_4 hc1_4
 have HB := Aside0.mk (Below.refl w.heap.size w)
 have H : (if a0_0 = a1_0 then ((laws_eqIntS.f k l0_1 l1_1).bind fun t247 => (if t247 = true then ((laws_eqIntS.f k l0_2 l1_2).bind fun t248 => (if t248 = true then ((laws_eqBoolS.f k l0_3 l1_3).bind fun t249 => (if t249 = true then ((laws_eqMessageS.f k l0_4 l1_4).bind fun t250 => (if t250 = true then (some true) else (some false))) else (some false))) else (some false))) else (some false))) else (some false)) = some r := h
 clear h
 by_cases c3 : a0_0 = a1_0
 ·rw [if_pos c3] at H
  have c3b0 : (a0_0 == a1_0) = true := beq_iff_eq.mpr c3
  have c3b1 : (a0_0 != a1_0) = false := bne_eq_false_iff_eq.mpr c3
  clear c3
  replace H := Option.bind_eq_some_iff.mp H
  obtain ⟨t247, A40, H⟩ := H
  replace H : (if t247 = true then ((laws_eqIntS.f k l0_2 l1_2).bind fun t248 => (if t248 = true then ((laws_eqBoolS.f k l0_3 l1_3).bind fun t249 => (if t249 = true then ((laws_eqMessageS.f k l0_4 l1_4).bind fun t250 => (if t250 = true then (some true) else (some false))) else (some false))) else (some false))) else (some false)) = some r := H
  have A4 := Aside0.mk A40
  clear A40
  by_cases c5 : t247 = true
  ·subst c5
   have H1 : ((laws_eqIntS.f k l0_2 l1_2).bind fun t248 => (if t248 = true then ((laws_eqBoolS.f k l0_3 l1_3).bind fun t249 => (if t249 = true then ((laws_eqMessageS.f k l0_4 l1_4).bind fun t250 => (if t250 = true then (some true) else (some false))) else (some false))) else (some false))) = some r := by rw [if_pos rfl] at H; exact H
   clear H
   have H := H1
   clear H1
   replace H := Option.bind_eq_some_iff.mp H
   obtain ⟨t248, A60, H⟩ := H
   replace H : (if t248 = true then ((laws_eqBoolS.f k l0_3 l1_3).bind fun t249 => (if t249 = true then ((laws_eqMessageS.f k l0_4 l1_4).bind fun t250 => (if t250 = true then (some true) else (some false))) else (some false))) else (some false)) = some r := H
   have A6 := Aside0.mk A60
   clear A60
   by_cases c7 : t248 = true
   ·subst c7
    have H1 : ((laws_eqBoolS.f k l0_3 l1_3).bind fun t249 => (if t249 = true then ((laws_eqMessageS.f k l0_4 l1_4).bind fun t250 => (if t250 = true then (some true) else (some false))) else (some false))) = some r := by rw [if_pos rfl] at H; exact H
    clear H
    have H := H1
    clear H1
    replace H := Option.bind_eq_some_iff.mp H
    obtain ⟨t249, A80, H⟩ := H
    replace H : (if t249 = true then ((laws_eqMessageS.f k l0_4 l1_4).bind fun t250 => (if t250 = true then (some true) else (some false))) else (some false)) = some r := H
    have A8 := Aside0.mk A80
    clear A80
    by_cases c9 : t249 = true
    ·subst c9
     have H1 : ((laws_eqMessageS.f k l0_4 l1_4).bind fun t250 => (if t250 = true then (some true) else (some false))) = some r := by rw [if_pos rfl] at H; exact H
     clear H
     have H := H1
     clear H1
     replace H := Option.bind_eq_some_iff.mp H
     obtain ⟨t250, A100, H⟩ := H
     replace H : (if t250 = true then (some true) else (some false)) = some r := H
     have A10 := Aside0.mk A100
     clear A100
     by_cases c11 : t250 = true
     ·subst c11
      have H1 : (some true) = some r := by rw [if_pos rfl] at H; exact H
      clear H
      have H := H1
      clear H1
      obtain rfl := Option.some.inj H
      go_enter Try.func104, Try.ntmps104
      go_wp2_with (first | ((with_reducible refine gate_dst (N := 2) rfl ?_); refine box_event ?hg (N := 2) ?hd (cs := #[.int .i64 a0_0, .slice A0_1 l0_1.length c0_1, .slice A0_2 l0_2.length c0_2, .slice A0_3 l0_3.length c0_3, .slice A0_4 l0_4.length c0_4]) (t := 119) ?hr ?_; (case hd => rfl); (case hg => rfl); (case hr => exact z9_0); intro gb245 hg w12 hbox hb; have n0_ := Aside0.mk (below_step z9_2 hb); have n1_ := Aside0.mk (hbox); have n2_ := Aside0.mk ((z9_9 : w.heap.size ≤ gb245)); have n3_ := Aside0.mk ((z9_9 : w.heap.size ≤ gb245)); clear HB; have HB := n0_; have BK245 := n1_; have GW245 := n2_; have GE245 := n3_; clear n0_ n1_ n2_ n3_; clear hb hbox hg) | ((with_reducible refine gate_dst (N := 3) rfl ?_); refine box_event ?hg (N := 3) ?hd (cs := #[.int .i64 a1_0, .slice A1_1 l1_1.length c1_1, .slice A1_2 l1_2.length c1_2, .slice A1_3 l1_3.length c1_3, .slice A1_4 l1_4.length c1_4]) (t := 119) ?hr ?_; (case hd => rfl); (case hg => rfl); (case hr => exact z9_0); intro gb246 hg w13 hbox hb; have n0_ := Aside0.mk (blk_below (g := gb245) (o := .cells #[.int .i64 a0_0, .slice A0_1 l0_1.length c0_1, .slice A0_2 l0_2.length c0_2, .slice A0_3 l0_3.length c0_3, .slice A0_4 l0_4.length c0_4] 119 (0, 0)) z9_4 hb); have n1_ := Aside0.mk (below_step z9_3 hb); have n2_ := Aside0.mk (hbox); have n3_ := Aside0.mk ((z9_10 : w.heap.size ≤ gb246)); have n4_ := Aside0.mk ((z9_10 : w.heap.size ≤ gb246)); have n5_ := Aside0.mk ((z9_6 : gb245 ≠ gb246)); have n6_ := Aside0.mk ((z9_7 : gb246 ≠ gb245)); clear BK245; clear HB; have BK245 := n0_; have HB := n1_; have BK246 := n2_; have GW246 := n3_; have GE246 := n4_; have NB245_246 := n5_; have NB246_245 := n6_; clear n0_ n1_ n2_ n3_ n4_ n5_ n6_; clear hb hbox hg; have hnb14 := NB245_246.out; have hnc14 := NB246_245.out; have hcz15_0 : w13.cell? ⟨gb245, 0, none⟩ = some (.int .i64 a0_0) := (blk_cell BK245.out 0).trans rfl; have hcz15_1 : w13.cell? ⟨gb245, 1, none⟩ = some (.slice A0_1 l0_1.length c0_1) := (blk_cell BK245.out 1).trans rfl; have hcz15_2 : w13.cell? ⟨gb245, 2, none⟩ = some (.slice A0_2 l0_2.length c0_2) := (blk_cell BK245.out 2).trans rfl; have hcz15_3 : w13.cell? ⟨gb245, 3, none⟩ = some (.slice A0_3 l0_3.length c0_3) := (blk_cell BK245.out 3).trans rfl; have hcz15_4 : w13.cell? ⟨gb245, 4, none⟩ = some (.slice A0_4 l0_4.length c0_4) := (blk_cell BK245.out 4).trans rfl; have hfz15_0 := blk_frozen BK245.out 0; have hfz15_1 := blk_frozen BK245.out 1; have hfz15_2 := blk_frozen BK245.out 2; have hfz15_3 := blk_frozen BK245.out 3; have hfz15_4 := blk_frozen BK245.out 4; have hcz16_0 : w13.cell? ⟨gb246, 0, none⟩ = some (.int .i64 a1_0) := (blk_cell BK246.out 0).trans rfl; have hcz16_1 : w13.cell? ⟨gb246, 1, none⟩ = some (.slice A1_1 l1_1.length c1_1) := (blk_cell BK246.out 1).trans rfl; have hcz16_2 : w13.cell? ⟨gb246, 2, none⟩ = some (.slice A1_2 l1_2.length c1_2) := (blk_cell BK246.out 2).trans rfl; have hcz16_3 : w13.cell? ⟨gb246, 3, none⟩ = some (.slice A1_3 l1_3.length c1_3) := (blk_cell BK246.out 3).trans rfl; have hcz16_4 : w13.cell? ⟨gb246, 4, none⟩ = some (.slice A1_4 l1_4.length c1_4) := (blk_cell BK246.out 4).trans rfl; have hfz16_0 := blk_frozen BK246.out 0; have hfz16_1 := blk_frozen BK246.out 1; have hfz16_2 := blk_frozen BK246.out 2; have hfz16_3 := blk_frozen BK246.out 3; have hfz16_4 := blk_frozen BK246.out 4) | ((with_reducible refine gate_callee (f := 19) rfl ?_); refine goesL_ (some 14) rfl rfl Try.func19 (by kernel_rfl) rfl #[.slice A0_1 l0_1.length c0_1, .slice A1_1 l1_1.length c1_1] rfl z9_5 ?_; (with_reducible refine (laws_eqIntS.calls k _ _ l0_1 _ _ l1_1 true _ ?side1 ?side2 ?side3 ?side4 A4.out).mono ?_); (case side1 => repeat (first | exact (Kd.C_below HR0_1.out HB.out) | (with_reducible refine Kd.C_alloc ?_ _) | (with_reducible refine Kd.C_drewN ?_ _) | (with_reducible refine Kd.C_drew ?_))); (case side2 => exact HC0_1.out); (case side3 => repeat (first | exact (Kd.C_below HR1_1.out HB.out) | (with_reducible refine Kd.C_alloc ?_ _) | (with_reducible refine Kd.C_drewN ?_ _) | (with_reducible refine Kd.C_drew ?_))); (case side4 => exact HC1_1.out); rintro e w' ⟨rfl, ⟨nd, rfl⟩⟩; refine ⟨_, rfl, ?_⟩) | ((with_reducible refine gate_callee (f := 19) rfl ?_); refine goesL_ (some 20) rfl rfl Try.func19 (by kernel_rfl) rfl #[.slice A0_2 l0_2.length c0_2, .slice A1_2 l1_2.length c1_2] rfl z9_5 ?_; (with_reducible refine (laws_eqIntS.calls k _ _ l0_2 _ _ l1_2 true _ ?side1 ?side2 ?side3 ?side4 A6.out).mono ?_); (case side1 => repeat (first | exact (Kd.C_below HR0_2.out z9_1) | (with_reducible refine Kd.C_alloc ?_ _) | (with_reducible refine Kd.C_drewN ?_ _) | (with_reducible refine Kd.C_drew ?_))); (case side2 => exact HC0_2.out); (case side3 => repeat (first | exact (Kd.C_below HR1_2.out z9_1) | (with_reducible refine Kd.C_alloc ?_ _) | (with_reducible refine Kd.C_drewN ?_ _) | (with_reducible refine Kd.C_drew ?_))); (case side4 => exact HC1_2.out); rintro e w' ⟨rfl, ⟨nd, rfl⟩⟩; refine ⟨_, rfl, ?_⟩) | ((with_reducible refine gate_callee (f := 96) rfl ?_); refine goesL_ (some 26) rfl rfl Try.func96 (by kernel_rfl) rfl #[.slice A0_3 l0_3.length c0_3, .slice A1_3 l1_3.length c1_3] rfl z9_5 ?_; (with_reducible refine (laws_eqBoolS.calls k _ _ l0_3 _ _ l1_3 true _ ?side1 ?side2 ?side3 ?side4 A8.out).mono ?_); (case side1 => repeat (first | exact (Kd.C_below HR0_3.out z9_1) | (with_reducible refine Kd.C_alloc ?_ _) | (with_reducible refine Kd.C_drewN ?_ _) | (with_reducible refine Kd.C_drew ?_))); (case side2 => exact HC0_3.out); (case side3 => repeat (first | exact (Kd.C_below HR1_3.out z9_1) | (with_reducible refine Kd.C_alloc ?_ _) | (with_reducible refine Kd.C_drewN ?_ _) | (with_reducible refine Kd.C_drew ?_))); (case side4 => exact HC1_3.out); rintro e w' ⟨rfl, ⟨nd, rfl⟩⟩; refine ⟨_, rfl, ?_⟩) | ((with_reducible refine gate_callee (f := 97) rfl ?_); refine goesL_ (some 32) rfl rfl Try.func97 (by kernel_rfl) rfl #[.slice A0_4 l0_4.length c0_4, .slice A1_4 l1_4.length c1_4] rfl z9_5 ?_; (with_reducible refine (laws_eqMessageS.calls k _ _ l0_4 _ _ l1_4 true _ ?side1 ?side2 ?side3 ?side4 A10.out).mono ?_); (case side1 => repeat (first | exact (Kd.C_below HR0_4.out z9_1) | (with_reducible refine Kd.C_alloc ?_ _) | (with_reducible refine Kd.C_drewN ?_ _) | (with_reducible refine Kd.C_drew ?_))); (case side2 => exact HC0_4.out); (case side3 => repeat (first | exact (Kd.C_below HR1_4.out z9_1) | (with_reducible refine Kd.C_alloc ?_ _) | (with_reducible refine Kd.C_drewN ?_ _) | (with_reducible refine Kd.C_drew ?_))); (case side4 => exact HC1_4.out); rintro e w17 ⟨rfl, hb⟩; refine ⟨_, rfl, ?_⟩; have n0_ := Aside0.mk (blk_below (g := gb245) (o := .cells #[.int .i64 a0_0, .slice A0_1 l0_1.length c0_1, .slice A0_2 l0_2.length c0_2, .slice A0_3 l0_3.length c0_3, .slice A0_4 l0_4.length c0_4] 119 (0, 0)) z9_4 hb); have n1_ := Aside0.mk (blk_below (g := gb246) (o := .cells #[.int .i64 a1_0, .slice A1_1 l1_1.length c1_1, .slice A1_2 l1_2.length c1_2, .slice A1_3 l1_3.length c1_3, .slice A1_4 l1_4.length c1_4] 119 (0, 0)) z9_12 hb); have n2_ := Aside0.mk (below_step z9_1 hb); clear BK245; clear BK246; clear HB; have BK245 := n0_; have BK246 := n1_; have HB := n2_; clear n0_ n1_ n2_; (try clear hb); (try clear hb2); (try clear hk); (try clear hi)))
      go_ret
      exact ⟨z9_8, z9_1⟩
     ·replace c11 := Bool.eq_false_iff.mpr c11
      subst c11
      have H1 : (some false) = some r := by rw [if_neg (show ¬ (false = true) by decide)] at H; exact H
      clear H
      have H := H1
      clear H1
      obtain rfl := Option.some.inj H
      go_enter Try.func104, Try.ntmps104
      go_wp2_with (first | ((with_reducible refine gate_dst (N := 2) rfl ?_); refine box_event ?hg (N := 2) ?hd (cs := #[.int .i64 a0_0, .slice A0_1 l0_1.length c0_1, .slice A0_2 l0_2.length c0_2, .slice A0_3 l0_3.length c0_3, .slice A0_4 l0_4.length c0_4]) (t := 119) ?hr ?_; (case hd => rfl); (case hg => rfl); (case hr => exact z9_0); intro gb245 hg w18 hbox hb; have n0_ := Aside0.mk (below_step z9_2 hb); have n1_ := Aside0.mk (hbox); have n2_ := Aside0.mk ((z9_9 : w.heap.size ≤ gb245)); have n3_ := Aside0.mk ((z9_9 : w.heap.size ≤ gb245)); clear HB; have HB := n0_; have BK245 := n1_; have GW245 := n2_; have GE245 := n3_; clear n0_ n1_ n2_ n3_; clear hb hbox hg) | ((with_reducible refine gate_dst (N := 3) rfl ?_); refine box_event ?hg (N := 3) ?hd (cs := #[.int .i64 a1_0, .slice A1_1 l1_1.length c1_1, .slice A1_2 l1_2.length c1_2, .slice A1_3 l1_3.length c1_3, .slice A1_4 l1_4.length c1_4]) (t := 119) ?hr ?_; (case hd => rfl); (case hg => rfl); (case hr => exact z9_0); intro gb246 hg w19 hbox hb; have n0_ := Aside0.mk (blk_below (g := gb245) (o := .cells #[.int .i64 a0_0, .slice A0_1 l0_1.length c0_1, .slice A0_2 l0_2.length c0_2, .slice A0_3 l0_3.length c0_3, .slice A0_4 l0_4.length c0_4] 119 (0, 0)) z9_4 hb); have n1_ := Aside0.mk (below_step z9_3 hb); have n2_ := Aside0.mk (hbox); have n3_ := Aside0.mk ((z9_10 : w.heap.size ≤ gb246)); have n4_ := Aside0.mk ((z9_10 : w.heap.size ≤ gb246)); have n5_ := Aside0.mk ((z9_6 : gb245 ≠ gb246)); have n6_ := Aside0.mk ((z9_7 : gb246 ≠ gb245)); clear BK245; clear HB; have BK245 := n0_; have HB := n1_; have BK246 := n2_; have GW246 := n3_; have GE246 := n4_; have NB245_246 := n5_; have NB246_245 := n6_; clear n0_ n1_ n2_ n3_ n4_ n5_ n6_; clear hb hbox hg; have hnb20 := NB245_246.out; have hnc20 := NB246_245.out; have hcz21_0 : w19.cell? ⟨gb245, 0, none⟩ = some (.int .i64 a0_0) := (blk_cell BK245.out 0).trans rfl; have hcz21_1 : w19.cell? ⟨gb245, 1, none⟩ = some (.slice A0_1 l0_1.length c0_1) := (blk_cell BK245.out 1).trans rfl; have hcz21_2 : w19.cell? ⟨gb245, 2, none⟩ = some (.slice A0_2 l0_2.length c0_2) := (blk_cell BK245.out 2).trans rfl; have hcz21_3 : w19.cell? ⟨gb245, 3, none⟩ = some (.slice A0_3 l0_3.length c0_3) := (blk_cell BK245.out 3).trans rfl; have hcz21_4 : w19.cell? ⟨gb245, 4, none⟩ = some (.slice A0_4 l0_4.length c0_4) := (blk_cell BK245.out 4).trans rfl; have hfz21_0 := blk_frozen BK245.out 0; have hfz21_1 := blk_frozen BK245.out 1; have hfz21_2 := blk_frozen BK245.out 2; have hfz21_3 := blk_frozen BK245.out 3; have hfz21_4 := blk_frozen BK245.out 4; have hcz22_0 : w19.cell? ⟨gb246, 0, none⟩ = some (.int .i64 a1_0) := (blk_cell BK246.out 0).trans rfl; have hcz22_1 : w19.cell? ⟨gb246, 1, none⟩ = some (.slice A1_1 l1_1.length c1_1) := (blk_cell BK246.out 1).trans rfl; have hcz22_2 : w19.cell? ⟨gb246, 2, none⟩ = some (.slice A1_2 l1_2.length c1_2) := (blk_cell BK246.out 2).trans rfl; have hcz22_3 : w19.cell? ⟨gb246, 3, none⟩ = some (.slice A1_3 l1_3.length c1_3) := (blk_cell BK246.out 3).trans rfl; have hcz22_4 : w19.cell? ⟨gb246, 4, none⟩ = some (.slice A1_4 l1_4.length c1_4) := (blk_cell BK246.out 4).trans rfl; have hfz22_0 := blk_frozen BK246.out 0; have hfz22_1 := blk_frozen BK246.out 1; have hfz22_2 := blk_frozen BK246.out 2; have hfz22_3 := blk_frozen BK246.out 3; have hfz22_4 := blk_frozen BK246.out 4) | ((with_reducible refine gate_callee (f := 19) rfl ?_); refine goesL_ (some 14) rfl rfl Try.func19 (by kernel_rfl) rfl #[.slice A0_1 l0_1.length c0_1, .slice A1_1 l1_1.length c1_1] rfl z9_5 ?_; (with_reducible refine (laws_eqIntS.calls k _ _ l0_1 _ _ l1_1 true _ ?side1 ?side2 ?side3 ?side4 A4.out).mono ?_); (case side1 => repeat (first | exact (Kd.C_below HR0_1.out HB.out) | (with_reducible refine Kd.C_alloc ?_ _) | (with_reducible refine Kd.C_drewN ?_ _) | (with_reducible refine Kd.C_drew ?_))); (case side2 => exact HC0_1.out); (case side3 => repeat (first | exact (Kd.C_below HR1_1.out HB.out) | (with_reducible refine Kd.C_alloc ?_ _) | (with_reducible refine Kd.C_drewN ?_ _) | (with_reducible refine Kd.C_drew ?_))); (case side4 => exact HC1_1.out); rintro e w' ⟨rfl, ⟨nd, rfl⟩⟩; refine ⟨_, rfl, ?_⟩) | ((with_reducible refine gate_callee (f := 19) rfl ?_); refine goesL_ (some 20) rfl rfl Try.func19 (by kernel_rfl) rfl #[.slice A0_2 l0_2.length c0_2, .slice A1_2 l1_2.length c1_2] rfl z9_5 ?_; (with_reducible refine (laws_eqIntS.calls k _ _ l0_2 _ _ l1_2 true _ ?side1 ?side2 ?side3 ?side4 A6.out).mono ?_); (case side1 => repeat (first | exact (Kd.C_below HR0_2.out z9_1) | (with_reducible refine Kd.C_alloc ?_ _) | (with_reducible refine Kd.C_drewN ?_ _) | (with_reducible refine Kd.C_drew ?_))); (case side2 => exact HC0_2.out); (case side3 => repeat (first | exact (Kd.C_below HR1_2.out z9_1) | (with_reducible refine Kd.C_alloc ?_ _) | (with_reducible refine Kd.C_drewN ?_ _) | (with_reducible refine Kd.C_drew ?_))); (case side4 => exact HC1_2.out); rintro e w' ⟨rfl, ⟨nd, rfl⟩⟩; refine ⟨_, rfl, ?_⟩) | ((with_reducible refine gate_callee (f := 96) rfl ?_); refine goesL_ (some 26) rfl rfl Try.func96 (by kernel_rfl) rfl #[.slice A0_3 l0_3.length c0_3, .slice A1_3 l1_3.length c1_3] rfl z9_5 ?_; (with_reducible refine (laws_eqBoolS.calls k _ _ l0_3 _ _ l1_3 true _ ?side1 ?side2 ?side3 ?side4 A8.out).mono ?_); (case side1 => repeat (first | exact (Kd.C_below HR0_3.out z9_1) | (with_reducible refine Kd.C_alloc ?_ _) | (with_reducible refine Kd.C_drewN ?_ _) | (with_reducible refine Kd.C_drew ?_))); (case side2 => exact HC0_3.out); (case side3 => repeat (first | exact (Kd.C_below HR1_3.out z9_1) | (with_reducible refine Kd.C_alloc ?_ _) | (with_reducible refine Kd.C_drewN ?_ _) | (with_reducible refine Kd.C_drew ?_))); (case side4 => exact HC1_3.out); rintro e w' ⟨rfl, ⟨nd, rfl⟩⟩; refine ⟨_, rfl, ?_⟩) | ((with_reducible refine gate_callee (f := 97) rfl ?_); refine goesL_ (some 32) rfl rfl Try.func97 (by kernel_rfl) rfl #[.slice A0_4 l0_4.length c0_4, .slice A1_4 l1_4.length c1_4] rfl z9_5 ?_; (with_reducible refine (laws_eqMessageS.calls k _ _ l0_4 _ _ l1_4 false _ ?side1 ?side2 ?side3 ?side4 A10.out).mono ?_); (case side1 => repeat (first | exact (Kd.C_below HR0_4.out z9_1) | (with_reducible refine Kd.C_alloc ?_ _) | (with_reducible refine Kd.C_drewN ?_ _) | (with_reducible refine Kd.C_drew ?_))); (case side2 => exact HC0_4.out); (case side3 => repeat (first | exact (Kd.C_below HR1_4.out z9_1) | (with_reducible refine Kd.C_alloc ?_ _) | (with_reducible refine Kd.C_drewN ?_ _) | (with_reducible refine Kd.C_drew ?_))); (case side4 => exact HC1_4.out); rintro e w23 ⟨rfl, hb⟩; refine ⟨_, rfl, ?_⟩; have n0_ := Aside0.mk (blk_below (g := gb245) (o := .cells #[.int .i64 a0_0, .slice A0_1 l0_1.length c0_1, .slice A0_2 l0_2.length c0_2, .slice A0_3 l0_3.length c0_3, .slice A0_4 l0_4.length c0_4] 119 (0, 0)) z9_4 hb); have n1_ := Aside0.mk (blk_below (g := gb246) (o := .cells #[.int .i64 a1_0, .slice A1_1 l1_1.length c1_1, .slice A1_2 l1_2.length c1_2, .slice A1_3 l1_3.length c1_3, .slice A1_4 l1_4.length c1_4] 119 (0, 0)) z9_12 hb); have n2_ := Aside0.mk (below_step z9_1 hb); clear BK245; clear BK246; clear HB; have BK245 := n0_; have BK246 := n1_; have HB := n2_; clear n0_ n1_ n2_; (try clear hb); (try clear hb2); (try clear hk); (try clear hi)))
      go_ret
      exact ⟨z9_8, z9_1⟩
    ·replace c9 := Bool.eq_false_iff.mpr c9
     subst c9
     have H1 : (some false) = some r := by rw [if_neg (show ¬ (false = true) by decide)] at H; exact H
     clear H
     have H := H1
     clear H1
     obtain rfl := Option.some.inj H
     go_enter Try.func104, Try.ntmps104
     go_wp2_with (first | ((with_reducible refine gate_dst (N := 2) rfl ?_); refine box_event ?hg (N := 2) ?hd (cs := #[.int .i64 a0_0, .slice A0_1 l0_1.length c0_1, .slice A0_2 l0_2.length c0_2, .slice A0_3 l0_3.length c0_3, .slice A0_4 l0_4.length c0_4]) (t := 119) ?hr ?_; (case hd => rfl); (case hg => rfl); (case hr => exact z9_0); intro gb245 hg w24 hbox hb; have n0_ := Aside0.mk (below_step z9_2 hb); have n1_ := Aside0.mk (hbox); have n2_ := Aside0.mk ((z9_9 : w.heap.size ≤ gb245)); have n3_ := Aside0.mk ((z9_9 : w.heap.size ≤ gb245)); clear HB; have HB := n0_; have BK245 := n1_; have GW245 := n2_; have GE245 := n3_; clear n0_ n1_ n2_ n3_; clear hb hbox hg) | ((with_reducible refine gate_dst (N := 3) rfl ?_); refine box_event ?hg (N := 3) ?hd (cs := #[.int .i64 a1_0, .slice A1_1 l1_1.length c1_1, .slice A1_2 l1_2.length c1_2, .slice A1_3 l1_3.length c1_3, .slice A1_4 l1_4.length c1_4]) (t := 119) ?hr ?_; (case hd => rfl); (case hg => rfl); (case hr => exact z9_0); intro gb246 hg w25 hbox hb; have n0_ := Aside0.mk (blk_below (g := gb245) (o := .cells #[.int .i64 a0_0, .slice A0_1 l0_1.length c0_1, .slice A0_2 l0_2.length c0_2, .slice A0_3 l0_3.length c0_3, .slice A0_4 l0_4.length c0_4] 119 (0, 0)) z9_4 hb); have n1_ := Aside0.mk (below_step z9_3 hb); have n2_ := Aside0.mk (hbox); have n3_ := Aside0.mk ((z9_10 : w.heap.size ≤ gb246)); have n4_ := Aside0.mk ((z9_10 : w.heap.size ≤ gb246)); have n5_ := Aside0.mk ((z9_6 : gb245 ≠ gb246)); have n6_ := Aside0.mk ((z9_7 : gb246 ≠ gb245)); clear BK245; clear HB; have BK245 := n0_; have HB := n1_; have BK246 := n2_; have GW246 := n3_; have GE246 := n4_; have NB245_246 := n5_; have NB246_245 := n6_; clear n0_ n1_ n2_ n3_ n4_ n5_ n6_; clear hb hbox hg; have hnb26 := NB245_246.out; have hnc26 := NB246_245.out; have hcz27_0 : w25.cell? ⟨gb245, 0, none⟩ = some (.int .i64 a0_0) := (blk_cell BK245.out 0).trans rfl; have hcz27_1 : w25.cell? ⟨gb245, 1, none⟩ = some (.slice A0_1 l0_1.length c0_1) := (blk_cell BK245.out 1).trans rfl; have hcz27_2 : w25.cell? ⟨gb245, 2, none⟩ = some (.slice A0_2 l0_2.length c0_2) := (blk_cell BK245.out 2).trans rfl; have hcz27_3 : w25.cell? ⟨gb245, 3, none⟩ = some (.slice A0_3 l0_3.length c0_3) := (blk_cell BK245.out 3).trans rfl; have hcz27_4 : w25.cell? ⟨gb245, 4, none⟩ = some (.slice A0_4 l0_4.length c0_4) := (blk_cell BK245.out 4).trans rfl; have hfz27_0 := blk_frozen BK245.out 0; have hfz27_1 := blk_frozen BK245.out 1; have hfz27_2 := blk_frozen BK245.out 2; have hfz27_3 := blk_frozen BK245.out 3; have hfz27_4 := blk_frozen BK245.out 4; have hcz28_0 : w25.cell? ⟨gb246, 0, none⟩ = some (.int .i64 a1_0) := (blk_cell BK246.out 0).trans rfl; have hcz28_1 : w25.cell? ⟨gb246, 1, none⟩ = some (.slice A1_1 l1_1.length c1_1) := (blk_cell BK246.out 1).trans rfl; have hcz28_2 : w25.cell? ⟨gb246, 2, none⟩ = some (.slice A1_2 l1_2.length c1_2) := (blk_cell BK246.out 2).trans rfl; have hcz28_3 : w25.cell? ⟨gb246, 3, none⟩ = some (.slice A1_3 l1_3.length c1_3) := (blk_cell BK246.out 3).trans rfl; have hcz28_4 : w25.cell? ⟨gb246, 4, none⟩ = some (.slice A1_4 l1_4.length c1_4) := (blk_cell BK246.out 4).trans rfl; have hfz28_0 := blk_frozen BK246.out 0; have hfz28_1 := blk_frozen BK246.out 1; have hfz28_2 := blk_frozen BK246.out 2; have hfz28_3 := blk_frozen BK246.out 3; have hfz28_4 := blk_frozen BK246.out 4) | ((with_reducible refine gate_callee (f := 19) rfl ?_); refine goesL_ (some 14) rfl rfl Try.func19 (by kernel_rfl) rfl #[.slice A0_1 l0_1.length c0_1, .slice A1_1 l1_1.length c1_1] rfl z9_5 ?_; (with_reducible refine (laws_eqIntS.calls k _ _ l0_1 _ _ l1_1 true _ ?side1 ?side2 ?side3 ?side4 A4.out).mono ?_); (case side1 => repeat (first | exact (Kd.C_below HR0_1.out HB.out) | (with_reducible refine Kd.C_alloc ?_ _) | (with_reducible refine Kd.C_drewN ?_ _) | (with_reducible refine Kd.C_drew ?_))); (case side2 => exact HC0_1.out); (case side3 => repeat (first | exact (Kd.C_below HR1_1.out HB.out) | (with_reducible refine Kd.C_alloc ?_ _) | (with_reducible refine Kd.C_drewN ?_ _) | (with_reducible refine Kd.C_drew ?_))); (case side4 => exact HC1_1.out); rintro e w' ⟨rfl, ⟨nd, rfl⟩⟩; refine ⟨_, rfl, ?_⟩) | ((with_reducible refine gate_callee (f := 19) rfl ?_); refine goesL_ (some 20) rfl rfl Try.func19 (by kernel_rfl) rfl #[.slice A0_2 l0_2.length c0_2, .slice A1_2 l1_2.length c1_2] rfl z9_5 ?_; (with_reducible refine (laws_eqIntS.calls k _ _ l0_2 _ _ l1_2 true _ ?side1 ?side2 ?side3 ?side4 A6.out).mono ?_); (case side1 => repeat (first | exact (Kd.C_below HR0_2.out z9_1) | (with_reducible refine Kd.C_alloc ?_ _) | (with_reducible refine Kd.C_drewN ?_ _) | (with_reducible refine Kd.C_drew ?_))); (case side2 => exact HC0_2.out); (case side3 => repeat (first | exact (Kd.C_below HR1_2.out z9_1) | (with_reducible refine Kd.C_alloc ?_ _) | (with_reducible refine Kd.C_drewN ?_ _) | (with_reducible refine Kd.C_drew ?_))); (case side4 => exact HC1_2.out); rintro e w' ⟨rfl, ⟨nd, rfl⟩⟩; refine ⟨_, rfl, ?_⟩) | ((with_reducible refine gate_callee (f := 96) rfl ?_); refine goesL_ (some 26) rfl rfl Try.func96 (by kernel_rfl) rfl #[.slice A0_3 l0_3.length c0_3, .slice A1_3 l1_3.length c1_3] rfl z9_5 ?_; (with_reducible refine (laws_eqBoolS.calls k _ _ l0_3 _ _ l1_3 false _ ?side1 ?side2 ?side3 ?side4 A8.out).mono ?_); (case side1 => repeat (first | exact (Kd.C_below HR0_3.out z9_1) | (with_reducible refine Kd.C_alloc ?_ _) | (with_reducible refine Kd.C_drewN ?_ _) | (with_reducible refine Kd.C_drew ?_))); (case side2 => exact HC0_3.out); (case side3 => repeat (first | exact (Kd.C_below HR1_3.out z9_1) | (with_reducible refine Kd.C_alloc ?_ _) | (with_reducible refine Kd.C_drewN ?_ _) | (with_reducible refine Kd.C_drew ?_))); (case side4 => exact HC1_3.out); rintro e w' ⟨rfl, ⟨nd, rfl⟩⟩; refine ⟨_, rfl, ?_⟩))
     go_ret
     exact ⟨z9_8, z9_1⟩
   ·replace c7 := Bool.eq_false_iff.mpr c7
    subst c7
    have H1 : (some false) = some r := by rw [if_neg (show ¬ (false = true) by decide)] at H; exact H
    clear H
    have H := H1
    clear H1
    obtain rfl := Option.some.inj H
    go_enter Try.func104, Try.ntmps104
    go_wp2_with (first | ((with_reducible refine gate_dst (N := 2) rfl ?_); refine box_event ?hg (N := 2) ?hd (cs := #[.int .i64 a0_0, .slice A0_1 l0_1.length c0_1, .slice A0_2 l0_2.length c0_2, .slice A0_3 l0_3.length c0_3, .slice A0_4 l0_4.length c0_4]) (t := 119) ?hr ?_; (case hd => rfl); (case hg => rfl); (case hr => exact z9_0); intro gb245 hg w29 hbox hb; have n0_ := Aside0.mk (below_step z9_2 hb); have n1_ := Aside0.mk (hbox); have n2_ := Aside0.mk ((z9_9 : w.heap.size ≤ gb245)); have n3_ := Aside0.mk ((z9_9 : w.heap.size ≤ gb245)); clear HB; have HB := n0_; have BK245 := n1_; have GW245 := n2_; have GE245 := n3_; clear n0_ n1_ n2_ n3_; clear hb hbox hg) | ((with_reducible refine gate_dst (N := 3) rfl ?_); refine box_event ?hg (N := 3) ?hd (cs := #[.int .i64 a1_0, .slice A1_1 l1_1.length c1_1, .slice A1_2 l1_2.length c1_2, .slice A1_3 l1_3.length c1_3, .slice A1_4 l1_4.length c1_4]) (t := 119) ?hr ?_; (case hd => rfl); (case hg => rfl); (case hr => exact z9_0); intro gb246 hg w30 hbox hb; have n0_ := Aside0.mk (blk_below (g := gb245) (o := .cells #[.int .i64 a0_0, .slice A0_1 l0_1.length c0_1, .slice A0_2 l0_2.length c0_2, .slice A0_3 l0_3.length c0_3, .slice A0_4 l0_4.length c0_4] 119 (0, 0)) z9_4 hb); have n1_ := Aside0.mk (below_step z9_3 hb); have n2_ := Aside0.mk (hbox); have n3_ := Aside0.mk ((z9_10 : w.heap.size ≤ gb246)); have n4_ := Aside0.mk ((z9_10 : w.heap.size ≤ gb246)); have n5_ := Aside0.mk ((z9_6 : gb245 ≠ gb246)); have n6_ := Aside0.mk ((z9_7 : gb246 ≠ gb245)); clear BK245; clear HB; have BK245 := n0_; have HB := n1_; have BK246 := n2_; have GW246 := n3_; have GE246 := n4_; have NB245_246 := n5_; have NB246_245 := n6_; clear n0_ n1_ n2_ n3_ n4_ n5_ n6_; clear hb hbox hg; have hnb31 := NB245_246.out; have hnc31 := NB246_245.out; have hcz32_0 : w30.cell? ⟨gb245, 0, none⟩ = some (.int .i64 a0_0) := (blk_cell BK245.out 0).trans rfl; have hcz32_1 : w30.cell? ⟨gb245, 1, none⟩ = some (.slice A0_1 l0_1.length c0_1) := (blk_cell BK245.out 1).trans rfl; have hcz32_2 : w30.cell? ⟨gb245, 2, none⟩ = some (.slice A0_2 l0_2.length c0_2) := (blk_cell BK245.out 2).trans rfl; have hcz32_3 : w30.cell? ⟨gb245, 3, none⟩ = some (.slice A0_3 l0_3.length c0_3) := (blk_cell BK245.out 3).trans rfl; have hcz32_4 : w30.cell? ⟨gb245, 4, none⟩ = some (.slice A0_4 l0_4.length c0_4) := (blk_cell BK245.out 4).trans rfl; have hfz32_0 := blk_frozen BK245.out 0; have hfz32_1 := blk_frozen BK245.out 1; have hfz32_2 := blk_frozen BK245.out 2; have hfz32_3 := blk_frozen BK245.out 3; have hfz32_4 := blk_frozen BK245.out 4; have hcz33_0 : w30.cell? ⟨gb246, 0, none⟩ = some (.int .i64 a1_0) := (blk_cell BK246.out 0).trans rfl; have hcz33_1 : w30.cell? ⟨gb246, 1, none⟩ = some (.slice A1_1 l1_1.length c1_1) := (blk_cell BK246.out 1).trans rfl; have hcz33_2 : w30.cell? ⟨gb246, 2, none⟩ = some (.slice A1_2 l1_2.length c1_2) := (blk_cell BK246.out 2).trans rfl; have hcz33_3 : w30.cell? ⟨gb246, 3, none⟩ = some (.slice A1_3 l1_3.length c1_3) := (blk_cell BK246.out 3).trans rfl; have hcz33_4 : w30.cell? ⟨gb246, 4, none⟩ = some (.slice A1_4 l1_4.length c1_4) := (blk_cell BK246.out 4).trans rfl; have hfz33_0 := blk_frozen BK246.out 0; have hfz33_1 := blk_frozen BK246.out 1; have hfz33_2 := blk_frozen BK246.out 2; have hfz33_3 := blk_frozen BK246.out 3; have hfz33_4 := blk_frozen BK246.out 4) | ((with_reducible refine gate_callee (f := 19) rfl ?_); refine goesL_ (some 14) rfl rfl Try.func19 (by kernel_rfl) rfl #[.slice A0_1 l0_1.length c0_1, .slice A1_1 l1_1.length c1_1] rfl z9_5 ?_; (with_reducible refine (laws_eqIntS.calls k _ _ l0_1 _ _ l1_1 true _ ?side1 ?side2 ?side3 ?side4 A4.out).mono ?_); (case side1 => repeat (first | exact (Kd.C_below HR0_1.out HB.out) | (with_reducible refine Kd.C_alloc ?_ _) | (with_reducible refine Kd.C_drewN ?_ _) | (with_reducible refine Kd.C_drew ?_))); (case side2 => exact HC0_1.out); (case side3 => repeat (first | exact (Kd.C_below HR1_1.out HB.out) | (with_reducible refine Kd.C_alloc ?_ _) | (with_reducible refine Kd.C_drewN ?_ _) | (with_reducible refine Kd.C_drew ?_))); (case side4 => exact HC1_1.out); rintro e w' ⟨rfl, ⟨nd, rfl⟩⟩; refine ⟨_, rfl, ?_⟩) | ((with_reducible refine gate_callee (f := 19) rfl ?_); refine goesL_ (some 20) rfl rfl Try.func19 (by kernel_rfl) rfl #[.slice A0_2 l0_2.length c0_2, .slice A1_2 l1_2.length c1_2] rfl z9_5 ?_; (with_reducible refine (laws_eqIntS.calls k _ _ l0_2 _ _ l1_2 false _ ?side1 ?side2 ?side3 ?side4 A6.out).mono ?_); (case side1 => repeat (first | exact (Kd.C_below HR0_2.out z9_1) | (with_reducible refine Kd.C_alloc ?_ _) | (with_reducible refine Kd.C_drewN ?_ _) | (with_reducible refine Kd.C_drew ?_))); (case side2 => exact HC0_2.out); (case side3 => repeat (first | exact (Kd.C_below HR1_2.out z9_1) | (with_reducible refine Kd.C_alloc ?_ _) | (with_reducible refine Kd.C_drewN ?_ _) | (with_reducible refine Kd.C_drew ?_))); (case side4 => exact HC1_2.out); rintro e w' ⟨rfl, ⟨nd, rfl⟩⟩; refine ⟨_, rfl, ?_⟩))
    go_ret
    exact ⟨z9_8, z9_1⟩
  ·replace c5 := Bool.eq_false_iff.mpr c5
   subst c5
   have H1 : (some false) = some r := by rw [if_neg (show ¬ (false = true) by decide)] at H; exact H
   clear H
   have H := H1
   clear H1
   obtain rfl := Option.some.inj H
   go_enter Try.func104, Try.ntmps104
   go_wp2_with (first | ((with_reducible refine gate_dst (N := 2) rfl ?_); refine box_event ?hg (N := 2) ?hd (cs := #[.int .i64 a0_0, .slice A0_1 l0_1.length c0_1, .slice A0_2 l0_2.length c0_2, .slice A0_3 l0_3.length c0_3, .slice A0_4 l0_4.length c0_4]) (t := 119) ?hr ?_; (case hd => rfl); (case hg => rfl); (case hr => exact z9_0); intro gb245 hg w34 hbox hb; have n0_ := Aside0.mk (below_step z9_2 hb); have n1_ := Aside0.mk (hbox); have n2_ := Aside0.mk ((z9_9 : w.heap.size ≤ gb245)); have n3_ := Aside0.mk ((z9_9 : w.heap.size ≤ gb245)); clear HB; have HB := n0_; have BK245 := n1_; have GW245 := n2_; have GE245 := n3_; clear n0_ n1_ n2_ n3_; clear hb hbox hg) | ((with_reducible refine gate_dst (N := 3) rfl ?_); refine box_event ?hg (N := 3) ?hd (cs := #[.int .i64 a1_0, .slice A1_1 l1_1.length c1_1, .slice A1_2 l1_2.length c1_2, .slice A1_3 l1_3.length c1_3, .slice A1_4 l1_4.length c1_4]) (t := 119) ?hr ?_; (case hd => rfl); (case hg => rfl); (case hr => exact z9_0); intro gb246 hg w35 hbox hb; have n0_ := Aside0.mk (blk_below (g := gb245) (o := .cells #[.int .i64 a0_0, .slice A0_1 l0_1.length c0_1, .slice A0_2 l0_2.length c0_2, .slice A0_3 l0_3.length c0_3, .slice A0_4 l0_4.length c0_4] 119 (0, 0)) z9_4 hb); have n1_ := Aside0.mk (below_step z9_3 hb); have n2_ := Aside0.mk (hbox); have n3_ := Aside0.mk ((z9_10 : w.heap.size ≤ gb246)); have n4_ := Aside0.mk ((z9_10 : w.heap.size ≤ gb246)); have n5_ := Aside0.mk ((z9_6 : gb245 ≠ gb246)); have n6_ := Aside0.mk ((z9_7 : gb246 ≠ gb245)); clear BK245; clear HB; have BK245 := n0_; have HB := n1_; have BK246 := n2_; have GW246 := n3_; have GE246 := n4_; have NB245_246 := n5_; have NB246_245 := n6_; clear n0_ n1_ n2_ n3_ n4_ n5_ n6_; clear hb hbox hg; have hnb36 := NB245_246.out; have hnc36 := NB246_245.out; have hcz37_0 : w35.cell? ⟨gb245, 0, none⟩ = some (.int .i64 a0_0) := (blk_cell BK245.out 0).trans rfl; have hcz37_1 : w35.cell? ⟨gb245, 1, none⟩ = some (.slice A0_1 l0_1.length c0_1) := (blk_cell BK245.out 1).trans rfl; have hcz37_2 : w35.cell? ⟨gb245, 2, none⟩ = some (.slice A0_2 l0_2.length c0_2) := (blk_cell BK245.out 2).trans rfl; have hcz37_3 : w35.cell? ⟨gb245, 3, none⟩ = some (.slice A0_3 l0_3.length c0_3) := (blk_cell BK245.out 3).trans rfl; have hcz37_4 : w35.cell? ⟨gb245, 4, none⟩ = some (.slice A0_4 l0_4.length c0_4) := (blk_cell BK245.out 4).trans rfl; have hfz37_0 := blk_frozen BK245.out 0; have hfz37_1 := blk_frozen BK245.out 1; have hfz37_2 := blk_frozen BK245.out 2; have hfz37_3 := blk_frozen BK245.out 3; have hfz37_4 := blk_frozen BK245.out 4; have hcz38_0 : w35.cell? ⟨gb246, 0, none⟩ = some (.int .i64 a1_0) := (blk_cell BK246.out 0).trans rfl; have hcz38_1 : w35.cell? ⟨gb246, 1, none⟩ = some (.slice A1_1 l1_1.length c1_1) := (blk_cell BK246.out 1).trans rfl; have hcz38_2 : w35.cell? ⟨gb246, 2, none⟩ = some (.slice A1_2 l1_2.length c1_2) := (blk_cell BK246.out 2).trans rfl; have hcz38_3 : w35.cell? ⟨gb246, 3, none⟩ = some (.slice A1_3 l1_3.length c1_3) := (blk_cell BK246.out 3).trans rfl; have hcz38_4 : w35.cell? ⟨gb246, 4, none⟩ = some (.slice A1_4 l1_4.length c1_4) := (blk_cell BK246.out 4).trans rfl; have hfz38_0 := blk_frozen BK246.out 0; have hfz38_1 := blk_frozen BK246.out 1; have hfz38_2 := blk_frozen BK246.out 2; have hfz38_3 := blk_frozen BK246.out 3; have hfz38_4 := blk_frozen BK246.out 4) | ((with_reducible refine gate_callee (f := 19) rfl ?_); refine goesL_ (some 14) rfl rfl Try.func19 (by kernel_rfl) rfl #[.slice A0_1 l0_1.length c0_1, .slice A1_1 l1_1.length c1_1] rfl z9_5 ?_; (with_reducible refine (laws_eqIntS.calls k _ _ l0_1 _ _ l1_1 false _ ?side1 ?side2 ?side3 ?side4 A4.out).mono ?_); (case side1 => repeat (first | exact (Kd.C_below HR0_1.out HB.out) | (with_reducible refine Kd.C_alloc ?_ _) | (with_reducible refine Kd.C_drewN ?_ _) | (with_reducible refine Kd.C_drew ?_))); (case side2 => exact HC0_1.out); (case side3 => repeat (first | exact (Kd.C_below HR1_1.out HB.out) | (with_reducible refine Kd.C_alloc ?_ _) | (with_reducible refine Kd.C_drewN ?_ _) | (with_reducible refine Kd.C_drew ?_))); (case side4 => exact HC1_1.out); rintro e w' ⟨rfl, ⟨nd, rfl⟩⟩; refine ⟨_, rfl, ?_⟩))
   go_ret
   exact ⟨z9_8, z9_1⟩
 ·rw [if_neg c3] at H
  have c3b0 : (a0_0 == a1_0) = false := beq_eq_false_iff_ne.mpr c3
  have c3b1 : (a0_0 != a1_0) = true := bne_iff_ne.mpr c3
  obtain rfl := Option.some.inj H
  go_enter Try.func104, Try.ntmps104
  go_wp2_with (first | ((with_reducible refine gate_dst (N := 2) rfl ?_); refine box_event ?hg (N := 2) ?hd (cs := #[.int .i64 a0_0, .slice A0_1 l0_1.length c0_1, .slice A0_2 l0_2.length c0_2, .slice A0_3 l0_3.length c0_3, .slice A0_4 l0_4.length c0_4]) (t := 119) ?hr ?_; (case hd => rfl); (case hg => rfl); (case hr => exact z9_0); intro gb245 hg w39 hbox hb; have n0_ := Aside0.mk (below_step z9_2 hb); have n1_ := Aside0.mk (hbox); have n2_ := Aside0.mk ((z9_9 : w.heap.size ≤ gb245)); have n3_ := Aside0.mk ((z9_9 : w.heap.size ≤ gb245)); clear HB; have HB := n0_; have BK245 := n1_; have GW245 := n2_; have GE245 := n3_; clear n0_ n1_ n2_ n3_; clear hb hbox hg) | ((with_reducible refine gate_dst (N := 3) rfl ?_); refine box_event ?hg (N := 3) ?hd (cs := #[.int .i64 a1_0, .slice A1_1 l1_1.length c1_1, .slice A1_2 l1_2.length c1_2, .slice A1_3 l1_3.length c1_3, .slice A1_4 l1_4.length c1_4]) (t := 119) ?hr ?_; (case hd => rfl); (case hg => rfl); (case hr => exact z9_0); intro gb246 hg w40 hbox hb; have n0_ := Aside0.mk (blk_below (g := gb245) (o := .cells #[.int .i64 a0_0, .slice A0_1 l0_1.length c0_1, .slice A0_2 l0_2.length c0_2, .slice A0_3 l0_3.length c0_3, .slice A0_4 l0_4.length c0_4] 119 (0, 0)) z9_4 hb); have n1_ := Aside0.mk (below_step z9_3 hb); have n2_ := Aside0.mk (hbox); have n3_ := Aside0.mk ((z9_10 : w.heap.size ≤ gb246)); have n4_ := Aside0.mk ((z9_10 : w.heap.size ≤ gb246)); have n5_ := Aside0.mk ((z9_6 : gb245 ≠ gb246)); have n6_ := Aside0.mk ((z9_7 : gb246 ≠ gb245)); clear BK245; clear HB; have BK245 := n0_; have HB := n1_; have BK246 := n2_; have GW246 := n3_; have GE246 := n4_; have NB245_246 := n5_; have NB246_245 := n6_; clear n0_ n1_ n2_ n3_ n4_ n5_ n6_; clear hb hbox hg; have hnb41 := NB245_246.out; have hnc41 := NB246_245.out; have hcz42_0 : w40.cell? ⟨gb245, 0, none⟩ = some (.int .i64 a0_0) := (blk_cell BK245.out 0).trans rfl; have hcz42_1 : w40.cell? ⟨gb245, 1, none⟩ = some (.slice A0_1 l0_1.length c0_1) := (blk_cell BK245.out 1).trans rfl; have hcz42_2 : w40.cell? ⟨gb245, 2, none⟩ = some (.slice A0_2 l0_2.length c0_2) := (blk_cell BK245.out 2).trans rfl; have hcz42_3 : w40.cell? ⟨gb245, 3, none⟩ = some (.slice A0_3 l0_3.length c0_3) := (blk_cell BK245.out 3).trans rfl; have hcz42_4 : w40.cell? ⟨gb245, 4, none⟩ = some (.slice A0_4 l0_4.length c0_4) := (blk_cell BK245.out 4).trans rfl; have hfz42_0 := blk_frozen BK245.out 0; have hfz42_1 := blk_frozen BK245.out 1; have hfz42_2 := blk_frozen BK245.out 2; have hfz42_3 := blk_frozen BK245.out 3; have hfz42_4 := blk_frozen BK245.out 4; have hcz43_0 : w40.cell? ⟨gb246, 0, none⟩ = some (.int .i64 a1_0) := (blk_cell BK246.out 0).trans rfl; have hcz43_1 : w40.cell? ⟨gb246, 1, none⟩ = some (.slice A1_1 l1_1.length c1_1) := (blk_cell BK246.out 1).trans rfl; have hcz43_2 : w40.cell? ⟨gb246, 2, none⟩ = some (.slice A1_2 l1_2.length c1_2) := (blk_cell BK246.out 2).trans rfl; have hcz43_3 : w40.cell? ⟨gb246, 3, none⟩ = some (.slice A1_3 l1_3.length c1_3) := (blk_cell BK246.out 3).trans rfl; have hcz43_4 : w40.cell? ⟨gb246, 4, none⟩ = some (.slice A1_4 l1_4.length c1_4) := (blk_cell BK246.out 4).trans rfl; have hfz43_0 := blk_frozen BK246.out 0; have hfz43_1 := blk_frozen BK246.out 1; have hfz43_2 := blk_frozen BK246.out 2; have hfz43_3 := blk_frozen BK246.out 3; have hfz43_4 := blk_frozen BK246.out 4))
  go_ret
  exact ⟨z9_8, z9_1⟩

end Go.Proofs.Ytloiafnoekpaoab.PFnExactPiecesValid
