/- Laid by a program of this session out of the translation: functions, their contracts, the row. Lean checks it. -/
import Derived.Test.YtloiafnoekpaoabPFnExactPiecesValidx0
import Derived.Test.YtloiafnoekpaoabPFnExactPiecesValidx3
import Derived.Test.YtloiafnoekpaoabPFnExactPiecesValidx4
namespace Go.Proofs.Ytloiafnoekpaoab.PFnExactPiecesValid
open Go.RowKit Go.Proofs.YtloiafnoekpaoabW.PrintWords Go.Proofs.YtloiafnoekpaoabW.PrintLast Go.Proofs.YtloiafnoekpaoabW.PrintMore
theorem z5_0 {p : Prop} (h : p := by first | (go_simp; done) | (go_simp; rfl)) : p := h
theorem z5_1 {p : Prop} (h : p := by repeat (first | (with_reducible first | exact HB.out | apply below_alloc | apply pw_below_drewN | apply below_drew1) | exact HB.out)) : p := h
theorem z5_2 {p : Prop} (h : p := by first | rfl | (simp [errW_none, errW_some] <;> rfl) | (simp [*, errW_none, errW_some] <;> rfl)) : p := h
theorem z5_3 {p : Prop} (h : p := by repeat (first | (with_reducible first | exact HB.out | apply below_alloc | apply pw_below_drewN | apply below_drew1 | refine below_set ?_ GE217.out) | exact HB.out)) : p := h
theorem z5_4 {p : Prop} (h : p := by (with_reducible repeat (first | refine blk_drewN ?_ _ | refine blk_drew ?_ | refine blk_alloc ?_ _)); refine blk_put (cs := #[.int .i64 ((rd_T122 l0 x17_2).f0), .int .i64 ((rd_T122 l0 x17_2).f1), .int .i64 0]) ?_ 2 _ rfl; (with_reducible repeat (first | refine blk_drewN ?_ _ | refine blk_drew ?_ | refine blk_alloc ?_ _)); refine blk_put (cs := #[.int .i64 ((rd_T122 l0 x17_2).f0), .int .i64 0, .int .i64 0]) ?_ 1 _ rfl; (with_reducible repeat (first | refine blk_drewN ?_ _ | refine blk_drew ?_ | refine blk_alloc ?_ _)); refine blk_put (cs := #[.int .i64 0, .int .i64 0, .int .i64 0]) ?_ 0 _ rfl; (with_reducible repeat (first | refine blk_drewN ?_ _ | refine blk_drew ?_ | refine blk_alloc ?_ _)); exact BK220.out) : p := h
theorem z5_5 {p : Prop} (h : p := by first | (with_reducible assumption) | assumption) : p := h
theorem z5_6 {p : Prop} (h : p := by repeat (first | (with_reducible first | exact HB.out | apply below_alloc | apply pw_below_drewN | apply below_drew1 | refine below_set ?_ GE220.out) | exact HB.out)) : p := h
theorem z5_7 {p : Prop} (h : p := by rw [hg]; exact (below_size z5_1)) : p := h
theorem z5_8 {p : Prop} (h : p := by first | rfl | (simp; done) | (simp [*]; done)) : p := h
theorem z5_9 {p : Prop} (h : p := by (try simp only [List.map_toArray, List.map_cons, List.map_nil]); first | done | (simp only [hji6]; rfl) | rfl | (simp only [List.length_drop, List.length_take]; rfl)) : p := h
theorem z5_10 {p : Prop} (h : p := by (try simp only [List.map_toArray, List.map_cons, List.map_nil]); first | done | rfl | (simp only [List.length_drop, List.length_take]; rfl)) : p := h
attribute [local go_sem] max2_int min2_int max_two min_two max_three min_three max_four min_four   -- for this text's walks alone
set_option linter.unusedVariables false
set_option linter.unusedSimpArgs false

/-! ### impl_Message: function 142 -/
def impl_Message.l0 : Nat → List (S122) → Int → Option (Bool)
 | 0, _, _ => none
 | k + 1, x0, x5 => if x5 > 0 then (if 0 ≤ x5 then (if x5 < (x0.length : Int) then (if 0 ≤ (wrap64 (x5 - 1)) then (if (wrap64 (x5 - 1)) < (x0.length : Int) then ((impl_compareMessages.f k ((rd_T122 x0 x5).f0) ((rd_T122 x0 x5).f1) ((rd_T122 x0 x5).f2) ((rd_T122 x0 (wrap64 (x5 - 1))).f0) ((rd_T122 x0 (wrap64 (x5 - 1))).f1) ((rd_T122 x0 (wrap64 (x5 - 1))).f2)).bind fun t216 => (if t216 < 0 then (some false) else (impl_Message.l0 k x0 (wrap64 (x5 - 1))))) else (none)) else (none)) else (none)) else (none)) else (some true)
def impl_Message.f (k : Nat) (l0 : List (S122)) (a1 : Int) : Option (Bool) := impl_Message.l0 k l0 (wrap64 ((l0.length : Int) - 1))
theorem impl_Message.mono_l : ∀ k, (∀ y0 y1, LeO (impl_Message.l0 k y0 y1) (impl_Message.l0 (k + 1) y0 y1))
 | 0 => fun _ _ r h => by simp [impl_Message.l0] at h
 | k + 1 => by
  have ih0 := impl_Message.mono_l k
  ·intro y0 y1
   unfold impl_Message.l0
   repeat' first
   | (with_reducible exact ih0 _ _)
   | (with_reducible exact impl_compareMessages.mono _ _ _ _ _ _ _)
   | (with_reducible exact LeO.refl _)
   | (with_reducible exact LeO.none _)
   | (with_reducible refine LeO.ite ?_ ?_)
   | (with_reducible refine LeO.bind ?_ (fun _ => ?_))
   | exact ih0 _ _
   | exact impl_compareMessages.mono _ _ _ _ _ _ _
   | exact LeO.none _
   | refine LeO.ite ?_ ?_
   | refine LeO.bind ?_ (fun _ => ?_)
theorem impl_Message.mono : ∀ a0 a1 k, LeO (impl_Message.f k a0 a1) (impl_Message.f (k + 1) a0 a1) := by
 intro a0 a1 k
 have ih0 := impl_Message.mono_l k
 unfold impl_Message.f
 repeat' first
   | (with_reducible exact ih0 _ _)
   | (with_reducible exact impl_compareMessages.mono _ _ _ _ _ _ _)
   | (with_reducible exact LeO.refl _)
   | (with_reducible exact LeO.none _)
   | (with_reducible refine LeO.ite ?_ ?_)
   | (with_reducible refine LeO.bind ?_ (fun _ => ?_))
   | exact ih0 _ _
   | exact impl_compareMessages.mono _ _ _ _ _ _ _
   | exact LeO.none _
   | refine LeO.ite ?_ ?_
   | refine LeO.bind ?_ (fun _ => ?_)
def impl_Message.T4 : Bool × List (List Nat × List Nat) := (true, [([], []), ([], []), ([], []), ([1, 2], [1, 2]), ([3], [3]), ([], []), ([], []), ([6], [6]), ([5, 7], [5, 7]), ([8], [8]), ([0, 4, 9], [0, 4, 9]), ([10], [10])])
def impl_Message.B4 : List Nat := [0, 0, 0, 6, 14, 0, 0, 64, 224, 480, 1023, 2047]
theorem impl_Message.tab4 : rtab .any (opsOf Try.f142 4) = impl_Message.T4 := by kernel_rfl
theorem impl_Message.bits4 : waitsOk impl_Message.T4.2 impl_Message.B4 = true := by kernel_rfl
set_option maxHeartbeats 8000000 in
set_option maxRecDepth 100000 in
theorem impl_Message.calls (k : Nat) (A0 : Option Addr) (c0 : Nat) (l0 : List (S122)) (a1 : Int) (r : Bool) (w : World) (hr0 : Kd.C k122 w A0 l0.length l0) (hc0 : l0.length ≤ c0) (h : impl_Message.f k l0 a1 = some r) :
  Calls Try.prog 142 #[.slice A0 l0.length c0, .func (.func 143) #[] #[]] w fun e w' => e = .returned (.bool r) ∧ Below w.heap.size w w' := by
 have hu122 := Try.underlying122
 have HR0 := Aside0.mk hr0
 have HC0 := Aside0.mk hc0
 clear hr0 hc0
 have HB := Aside0.mk (Below.refl w.heap.size w)
 have H : (impl_Message.l0 k l0 (wrap64 ((l0.length : Int) - 1))) = some r := h
 clear h
 have H' := Aside0.mk H
 clear H
 go_enter Try.func142, Try.ntmps142
 go_wp2
 go_loopg [5] k (fun kq v5 w' => ∃ (x5_1 : Int), v5 = .int .i64 x5_1 ∧ Aside0 (impl_Message.l0 kq l0 x5_1 = some r) ∧ Aside0 (kq ≤ k) ∧ Aside0 (Below w.heap.size w w'))
 case atStart => exact ⟨(wrap64 ((l0.length : Int) - 1)), z5_8, H', ⟨Nat.le_refl _⟩, ⟨z5_1⟩⟩
 case round =>
  clear H'
  try clear c1
  try clear p2
  obtain ⟨x5_1, rfl, HA, HK1, HB⟩ := hrel
  cases gk with
  | zero => exact absurd HA.out (by simp [impl_Message.l0])
  | succ k1 =>
   have H := HA.out
   clear HA
   simp only [impl_Message.l0] at H
   by_cases c3 : x5_1 > 0
   ·rw [if_pos c3] at H
    have c3b0 : decide (0 < x5_1) = true := decide_eq_true c3
    clear c3
    by_cases c4 : 0 ≤ x5_1
    ·rw [if_pos c4] at H
     have c4b0 : decide (0 ≤ x5_1) = true := decide_eq_true c4
     clear c4
     by_cases c5 : x5_1 < (l0.length : Int)
     ·rw [if_pos c5] at H
      have c5b0 : decide (x5_1 < (l0.length : Int)) = true := decide_eq_true c5
      clear c5
      obtain ⟨ji6, hji6⟩ : ∃ j_ : Int, (wrap64 (x5_1 - 1)) = j_ := ⟨_, rfl⟩
      replace H : (if 0 ≤ (ji6) then (if (ji6) < (l0.length : Int) then ((impl_compareMessages.f k1 ((rd_T122 l0 x5_1).f0) ((rd_T122 l0 x5_1).f1) ((rd_T122 l0 x5_1).f2) ((rd_T122 l0 (ji6)).f0) ((rd_T122 l0 (ji6)).f1) ((rd_T122 l0 (ji6)).f2)).bind fun t216 => (if t216 < 0 then (some false) else (impl_Message.l0 k1 l0 ji6))) else (none)) else (none)) = some r := by first | (rw [hji6] at H; exact H) | (simp only [hji6] at H ⊢; exact H)
      have hji6w : (IntKind.i64.wrap (x5_1 - 1)) = ji6 := (i64_w _).trans hji6
      by_cases c7 : 0 ≤ (ji6)
      ·rw [if_pos c7] at H
       have c7b0 : decide (0 ≤ (ji6)) = true := decide_eq_true c7
       clear c7
       by_cases c8 : (ji6) < (l0.length : Int)
       ·rw [if_pos c8] at H
        have c8b0 : decide ((ji6) < (l0.length : Int)) = true := decide_eq_true c8
        clear c8
        replace H := Option.bind_eq_some_iff.mp H
        obtain ⟨t216, A90, H⟩ := H
        replace H : (if t216 < 0 then (some false) else (impl_Message.l0 k1 l0 ji6)) = some r := H
        have A9 := Aside0.mk A90
        clear A90
        by_cases c10 : t216 < 0
        ·rw [if_pos c10] at H
         have c10b0 : decide (t216 < 0) = true := decide_eq_true c10
         clear c10
         obtain rfl := Option.some.inj H
         try go_wp2
         have n0_ := Aside0.mk (below_drew1 HB.out)
         clear HB
         have HB := n0_
         clear n0_
         have p214 : 0 ≤ (x5_1 : Int) := of_decide_eq_true z5_5
         have q214 : x5_1 < (l0.length : Int) := of_decide_eq_true z5_5
         obtain ⟨ad214, e214, hx214_0, hx214_1, hx214_2⟩ := at_T122 HR0.out x5_1 p214 q214
         have hw214_2 := hx214_2
         have hw214_1 := hx214_1
         have hw214_0 := hx214_0
         cases e214
         replace hx214_0 := (HB.out.cell (World.block_lt_of_cell? w _ hx214_0)).trans hx214_0
         replace hx214_1 := (HB.out.cell (World.block_lt_of_cell? w _ hx214_1)).trans hx214_1
         replace hx214_2 := (HB.out.cell (World.block_lt_of_cell? w _ hx214_2)).trans hx214_2
         replace p214 := eq_true p214
         replace q214 := eq_true q214
         have p215 : 0 ≤ ((ji6) : Int) := of_decide_eq_true z5_5
         have q215 : (ji6) < (l0.length : Int) := of_decide_eq_true z5_5
         obtain ⟨ad215, e215, hx215_0, hx215_1, hx215_2⟩ := at_T122 HR0.out (ji6) p215 q215
         have hw215_2 := hx215_2
         have hw215_1 := hx215_1
         have hw215_0 := hx215_0
         obtain rfl : ad214 = ad215 := (by injection e215)
         replace hx215_0 := (HB.out.cell (World.block_lt_of_cell? w _ hx215_0)).trans hx215_0
         replace hx215_1 := (HB.out.cell (World.block_lt_of_cell? w _ hx215_1)).trans hx215_1
         replace hx215_2 := (HB.out.cell (World.block_lt_of_cell? w _ hx215_2)).trans hx215_2
         replace p215 := eq_true p215
         replace q215 := eq_true q215
         refine start_ (n := 12) (S := fun w' => w'.cell? (ad214.add ((x5_1).toNat * 3)) = some (.int .i64 ((rd_T122 l0 x5_1).f0)) ∧ w'.cell? ⟨(ad214.add ((x5_1).toNat * 3)).block, (ad214.add ((x5_1).toNat * 3)).off + 1, none⟩ = some (.int .i64 ((rd_T122 l0 x5_1).f1)) ∧ w'.cell? ⟨(ad214.add ((x5_1).toNat * 3)).block, (ad214.add ((x5_1).toNat * 3)).off + 2, none⟩ = some (.int .i64 ((rd_T122 l0 x5_1).f2)) ∧ w'.cell? (ad214.add (((ji6)).toNat * 3)) = some (.int .i64 ((rd_T122 l0 (ji6)).f0)) ∧ w'.cell? ⟨(ad214.add (((ji6)).toNat * 3)).block, (ad214.add (((ji6)).toNat * 3)).off + 1, none⟩ = some (.int .i64 ((rd_T122 l0 (ji6)).f1)) ∧ w'.cell? ⟨(ad214.add (((ji6)).toNat * 3)).block, (ad214.add (((ji6)).toNat * 3)).off + 2, none⟩ = some (.int .i64 ((rd_T122 l0 (ji6)).f2))) (ds := []) (bm 12 0) (by kernel_rfl) rfl rfl ⟨((HB.out.cell (World.block_lt_of_cell? w _ hw214_0)).trans hw214_0), ((HB.out.cell (World.block_lt_of_cell? w _ hw214_1)).trans hw214_1), ((HB.out.cell (World.block_lt_of_cell? w _ hw214_2)).trans hw214_2), ((HB.out.cell (World.block_lt_of_cell? w _ hw215_0)).trans hw215_0), ((HB.out.cell (World.block_lt_of_cell? w _ hw215_1)).trans hw215_1), ((HB.out.cell (World.block_lt_of_cell? w _ hw215_2)).trans hw215_2)⟩ (fun hHeld => ?_); refine with_tabW impl_Message.tab4 impl_Message.bits4 (fun HT_ HW_ => ?_)
         generalize wr.drew = w11 at HB hx214_0 hx214_1 hx214_2 hx215_0 hx215_1 hx215_2 hHeld ⊢
         refine pure_ (i := 0) (N := some 13) (v := ?_) (a' := ?_) (bm 12 1) rfl rfl (any_of HT_.out (by kernel_rfl)) (fun _ _ _ h => h) (Or.inl ⟨by rfl, ?_⟩) ?_ ?_
         rotate_left
         ·intro w'
          go_simp
          with_reducible rfl
         rotate_left
         ·simp only [Act.put, List.setIfInBounds_toArray, List.set_cons_zero, List.set_cons_succ, i64_w, i32_w]
          rfl
         refine pure_ (i := 1) (N := some 14) (v := ?_) (a' := ?_) (bm 12 3) rfl rfl (any_of HT_.out (by kernel_rfl)) (fun _ _ _ h => h) (Or.inl ⟨by rfl, ?_⟩) ?_ ?_
         rotate_left
         ·intro w'
          go_simp
          with_reducible rfl
         rotate_left
         ·simp only [Act.put, List.setIfInBounds_toArray, List.set_cons_zero, List.set_cons_succ, i64_w, i32_w]
          rfl
         refine pure_ (i := 2) (N := some 15) (v := ?_) (a' := ?_) (bm 12 7) rfl rfl (any_of HT_.out (by kernel_rfl)) (fun _ _ _ h => h) (Or.inl ⟨by rfl, ?_⟩) ?_ ?_
         rotate_left
         ·intro w'
          go_simp
          with_reducible rfl
         rotate_left
         ·simp only [Act.put, List.setIfInBounds_toArray, List.set_cons_zero, List.set_cons_succ, i64_w, i32_w]
          rfl
         refine pure_ (i := 3) (N := some 16) (v := ?_) (a' := ?_) (bm 12 15) rfl rfl (any_of HT_.out (by kernel_rfl)) (fun _ _ _ h => h) (Or.inl ⟨by rfl, ?_⟩) ?_ ?_
         rotate_left
         ·intro w'
          go_simp
          with_reducible rfl
         rotate_left
         ·simp only [Act.put, List.setIfInBounds_toArray, List.set_cons_zero, List.set_cons_succ, i64_w, i32_w]
          rfl
         refine pure_ (i := 5) (N := some 18) (v := ?_) (a' := ?_) (bm 12 47) rfl rfl (any_of HT_.out (by kernel_rfl)) (fun _ _ _ h => h) (Or.inl ⟨by rfl, ?_⟩) ?_ ?_
         rotate_left
         ·intro w'
          go_simp
          with_reducible rfl
         rotate_left
         ·simp only [Act.put, List.setIfInBounds_toArray, List.set_cons_zero, List.set_cons_succ, i64_w, i32_w]
          rfl
         refine pure_ (i := 6) (N := some 19) (v := ?_) (a' := ?_) (bm 12 111) rfl rfl (any_of HT_.out (by kernel_rfl)) (fun _ _ _ h => h) (Or.inl ⟨by rfl, ?_⟩) ?_ ?_
         rotate_left
         ·intro w'
          go_simp
          with_reducible rfl
         rotate_left
         ·simp only [Act.put, List.setIfInBounds_toArray, List.set_cons_zero, List.set_cons_succ, i64_w, i32_w]
          rfl
         refine pure_ (i := 7) (N := some 20) (v := ?_) (a' := ?_) (bm 12 239) rfl rfl (any_of HT_.out (by kernel_rfl)) (fun _ _ _ h => h) (Or.inl ⟨by rfl, ?_⟩) ?_ ?_
         rotate_left
         ·intro w'
          go_simp
          with_reducible rfl
         rotate_left
         ·simp only [Act.put, List.setIfInBounds_toArray, List.set_cons_zero, List.set_cons_succ, i64_w, i32_w]
          rfl
         refine pure_ (i := 8) (N := some 21) (v := ?_) (a' := ?_) (bm 12 495) rfl rfl (any_of HT_.out (by kernel_rfl)) (fun _ _ _ h => h) (Or.inl ⟨by rfl, ?_⟩) ?_ ?_
         rotate_left
         ·intro w'
          go_simp
          with_reducible rfl
         rotate_left
         ·simp only [Act.put, List.setIfInBounds_toArray, List.set_cons_zero, List.set_cons_succ, i64_w, i32_w]
          rfl
         refine take_ (i := 4) (N := some 17) (v := ?_) (a' := ?_) (bm 12 511) rfl rfl (take_ofW HT_.out HW_.out (by kernel_rfl)) (fun _ _ _ h => h) (Or.inl ⟨by rfl, ?_⟩) hHeld ?_ ?_
         rotate_left
         ·rintro w' ⟨s0, s1, s2, s3, s4, s5⟩
          go_simp
          with_reducible rfl
         rotate_left
         ·simp only [Act.put, List.setIfInBounds_toArray, List.set_cons_zero, List.set_cons_succ, i64_w, i32_w]
          rfl
         refine take_ (i := 9) (N := some 22) (v := ?_) (a' := ?_) (bm 12 1023) rfl rfl (take_ofW HT_.out HW_.out (by kernel_rfl)) (fun _ _ _ h => h) (Or.inl ⟨by rfl, ?_⟩) hHeld ?_ ?_
         rotate_left
         ·rintro w' ⟨s0, s1, s2, s3, s4, s5⟩
          go_simp
          with_reducible rfl
         rotate_left
         ·simp only [Act.put, List.setIfInBounds_toArray, List.set_cons_zero, List.set_cons_succ, i64_w, i32_w]
          rfl
         refine one_ (i := 10) (N := some 23) (bm 12 2047) rfl rfl (one_of HT_.out (by kernel_rfl)) (by decide) (fun K hK => ?_)
         refine goesT_ (by rfl) Try.func143 (by kernel_rfl) rfl #[.agg #[.int .i64 ((rd_T122 l0 x5_1).f0), .int .i64 ((rd_T122 l0 x5_1).f1), .int .i64 ((rd_T122 l0 x5_1).f2)], .agg #[.int .i64 ((rd_T122 l0 (ji6)).f0), .int .i64 ((rd_T122 l0 (ji6)).f1), .int .i64 ((rd_T122 l0 (ji6)).f2)]] (by rfl) rfl rfl z5_9 ?_
         with_reducible refine (impl_compareMessages.calls k1 ((rd_T122 l0 x5_1).f0) ((rd_T122 l0 x5_1).f1) ((rd_T122 l0 x5_1).f2) ((rd_T122 l0 (ji6)).f0) ((rd_T122 l0 (ji6)).f1) ((rd_T122 l0 (ji6)).f2) t216 _ A9.out).mono ?_
         rintro e w12 ⟨rfl, hb⟩
         refine ⟨_, rfl, ?_⟩
         have n0_ := Aside0.mk (below_step z5_1 hb)
         clear HB
         have HB := n0_
         clear n0_
         (try clear hb)
         (try clear hb2)
         (try clear hk)
         (try clear hi)
         refine hK.out _ _ ⟨((HB.out.cell (World.block_lt_of_cell? w _ hw214_0)).trans hw214_0), ((HB.out.cell (World.block_lt_of_cell? w _ hw214_1)).trans hw214_1), ((HB.out.cell (World.block_lt_of_cell? w _ hw214_2)).trans hw214_2), ((HB.out.cell (World.block_lt_of_cell? w _ hw215_0)).trans hw215_0), ((HB.out.cell (World.block_lt_of_cell? w _ hw215_1)).trans hw215_1), ((HB.out.cell (World.block_lt_of_cell? w _ hw215_2)).trans hw215_2)⟩ (fun hHeld => ?_)
         clear hK K
         refine norm_ (a' := ?_) ?_ ?_
         rotate_left
         ·show Act.put _ (some 23) _ = _
          simp only [Act.put, List.setIfInBounds_toArray, List.set_cons_zero, List.set_cons_succ, i64_w, i32_w]
          rfl
         refine pure_ (i := 11) (N := some 24) (v := ?_) (a' := ?_) (bm 12 4095) rfl rfl (any_of HT_.out (by kernel_rfl)) (fun _ _ _ h => h) (Or.inl ⟨by rfl, ?_⟩) ?_ ?_
         rotate_left
         ·intro w'
          go_simp
          with_reducible rfl
         rotate_left
         ·simp only [Act.put, List.setIfInBounds_toArray, List.set_cons_zero, List.set_cons_succ, i64_w, i32_w]
          rfl
         refine done_ (done_of HT_.out (by kernel_rfl)) ?_
         try go_wp2
         go_ret
         exact ⟨by first | rfl | (simp [errW_none, errW_some] <;> rfl) | (simp only [← hji6]; first | rfl | (simp [errW_none, errW_some] <;> rfl)) | (simp [*, errW_none, errW_some] <;> rfl), z5_1⟩
        ·rw [if_neg c10] at H
         have c10b0 : decide (t216 < 0) = false := decide_eq_false c10
         clear c10
         have H' := Aside0.mk H
         clear H
         try go_wp2
         have n0_ := Aside0.mk (below_drew1 HB.out)
         clear HB
         have HB := n0_
         clear n0_
         have p214 : 0 ≤ (x5_1 : Int) := of_decide_eq_true z5_5
         have q214 : x5_1 < (l0.length : Int) := of_decide_eq_true z5_5
         obtain ⟨ad214, e214, hx214_0, hx214_1, hx214_2⟩ := at_T122 HR0.out x5_1 p214 q214
         have hw214_2 := hx214_2
         have hw214_1 := hx214_1
         have hw214_0 := hx214_0
         cases e214
         replace hx214_0 := (HB.out.cell (World.block_lt_of_cell? w _ hx214_0)).trans hx214_0
         replace hx214_1 := (HB.out.cell (World.block_lt_of_cell? w _ hx214_1)).trans hx214_1
         replace hx214_2 := (HB.out.cell (World.block_lt_of_cell? w _ hx214_2)).trans hx214_2
         replace p214 := eq_true p214
         replace q214 := eq_true q214
         have p215 : 0 ≤ ((ji6) : Int) := of_decide_eq_true z5_5
         have q215 : (ji6) < (l0.length : Int) := of_decide_eq_true z5_5
         obtain ⟨ad215, e215, hx215_0, hx215_1, hx215_2⟩ := at_T122 HR0.out (ji6) p215 q215
         have hw215_2 := hx215_2
         have hw215_1 := hx215_1
         have hw215_0 := hx215_0
         obtain rfl : ad214 = ad215 := (by injection e215)
         replace hx215_0 := (HB.out.cell (World.block_lt_of_cell? w _ hx215_0)).trans hx215_0
         replace hx215_1 := (HB.out.cell (World.block_lt_of_cell? w _ hx215_1)).trans hx215_1
         replace hx215_2 := (HB.out.cell (World.block_lt_of_cell? w _ hx215_2)).trans hx215_2
         replace p215 := eq_true p215
         replace q215 := eq_true q215
         refine start_ (n := 12) (S := fun w' => w'.cell? (ad214.add ((x5_1).toNat * 3)) = some (.int .i64 ((rd_T122 l0 x5_1).f0)) ∧ w'.cell? ⟨(ad214.add ((x5_1).toNat * 3)).block, (ad214.add ((x5_1).toNat * 3)).off + 1, none⟩ = some (.int .i64 ((rd_T122 l0 x5_1).f1)) ∧ w'.cell? ⟨(ad214.add ((x5_1).toNat * 3)).block, (ad214.add ((x5_1).toNat * 3)).off + 2, none⟩ = some (.int .i64 ((rd_T122 l0 x5_1).f2)) ∧ w'.cell? (ad214.add (((ji6)).toNat * 3)) = some (.int .i64 ((rd_T122 l0 (ji6)).f0)) ∧ w'.cell? ⟨(ad214.add (((ji6)).toNat * 3)).block, (ad214.add (((ji6)).toNat * 3)).off + 1, none⟩ = some (.int .i64 ((rd_T122 l0 (ji6)).f1)) ∧ w'.cell? ⟨(ad214.add (((ji6)).toNat * 3)).block, (ad214.add (((ji6)).toNat * 3)).off + 2, none⟩ = some (.int .i64 ((rd_T122 l0 (ji6)).f2))) (ds := []) (bm 12 0) (by kernel_rfl) rfl rfl ⟨((HB.out.cell (World.block_lt_of_cell? w _ hw214_0)).trans hw214_0), ((HB.out.cell (World.block_lt_of_cell? w _ hw214_1)).trans hw214_1), ((HB.out.cell (World.block_lt_of_cell? w _ hw214_2)).trans hw214_2), ((HB.out.cell (World.block_lt_of_cell? w _ hw215_0)).trans hw215_0), ((HB.out.cell (World.block_lt_of_cell? w _ hw215_1)).trans hw215_1), ((HB.out.cell (World.block_lt_of_cell? w _ hw215_2)).trans hw215_2)⟩ (fun hHeld => ?_); refine with_tabW impl_Message.tab4 impl_Message.bits4 (fun HT_ HW_ => ?_)
         generalize wr.drew = w13 at HB hx214_0 hx214_1 hx214_2 hx215_0 hx215_1 hx215_2 hHeld ⊢
         refine pure_ (i := 0) (N := some 13) (v := ?_) (a' := ?_) (bm 12 1) rfl rfl (any_of HT_.out (by kernel_rfl)) (fun _ _ _ h => h) (Or.inl ⟨by rfl, ?_⟩) ?_ ?_
         rotate_left
         ·intro w'
          go_simp
          with_reducible rfl
         rotate_left
         ·simp only [Act.put, List.setIfInBounds_toArray, List.set_cons_zero, List.set_cons_succ, i64_w, i32_w]
          rfl
         refine pure_ (i := 1) (N := some 14) (v := ?_) (a' := ?_) (bm 12 3) rfl rfl (any_of HT_.out (by kernel_rfl)) (fun _ _ _ h => h) (Or.inl ⟨by rfl, ?_⟩) ?_ ?_
         rotate_left
         ·intro w'
          go_simp
          with_reducible rfl
         rotate_left
         ·simp only [Act.put, List.setIfInBounds_toArray, List.set_cons_zero, List.set_cons_succ, i64_w, i32_w]
          rfl
         refine pure_ (i := 2) (N := some 15) (v := ?_) (a' := ?_) (bm 12 7) rfl rfl (any_of HT_.out (by kernel_rfl)) (fun _ _ _ h => h) (Or.inl ⟨by rfl, ?_⟩) ?_ ?_
         rotate_left
         ·intro w'
          go_simp
          with_reducible rfl
         rotate_left
         ·simp only [Act.put, List.setIfInBounds_toArray, List.set_cons_zero, List.set_cons_succ, i64_w, i32_w]
          rfl
         refine pure_ (i := 3) (N := some 16) (v := ?_) (a' := ?_) (bm 12 15) rfl rfl (any_of HT_.out (by kernel_rfl)) (fun _ _ _ h => h) (Or.inl ⟨by rfl, ?_⟩) ?_ ?_
         rotate_left
         ·intro w'
          go_simp
          with_reducible rfl
         rotate_left
         ·simp only [Act.put, List.setIfInBounds_toArray, List.set_cons_zero, List.set_cons_succ, i64_w, i32_w]
          rfl
         refine pure_ (i := 5) (N := some 18) (v := ?_) (a' := ?_) (bm 12 47) rfl rfl (any_of HT_.out (by kernel_rfl)) (fun _ _ _ h => h) (Or.inl ⟨by rfl, ?_⟩) ?_ ?_
         rotate_left
         ·intro w'
          go_simp
          with_reducible rfl
         rotate_left
         ·simp only [Act.put, List.setIfInBounds_toArray, List.set_cons_zero, List.set_cons_succ, i64_w, i32_w]
          rfl
         refine pure_ (i := 6) (N := some 19) (v := ?_) (a' := ?_) (bm 12 111) rfl rfl (any_of HT_.out (by kernel_rfl)) (fun _ _ _ h => h) (Or.inl ⟨by rfl, ?_⟩) ?_ ?_
         rotate_left
         ·intro w'
          go_simp
          with_reducible rfl
         rotate_left
         ·simp only [Act.put, List.setIfInBounds_toArray, List.set_cons_zero, List.set_cons_succ, i64_w, i32_w]
          rfl
         refine pure_ (i := 7) (N := some 20) (v := ?_) (a' := ?_) (bm 12 239) rfl rfl (any_of HT_.out (by kernel_rfl)) (fun _ _ _ h => h) (Or.inl ⟨by rfl, ?_⟩) ?_ ?_
         rotate_left
         ·intro w'
          go_simp
          with_reducible rfl
         rotate_left
         ·simp only [Act.put, List.setIfInBounds_toArray, List.set_cons_zero, List.set_cons_succ, i64_w, i32_w]
          rfl
         refine pure_ (i := 8) (N := some 21) (v := ?_) (a' := ?_) (bm 12 495) rfl rfl (any_of HT_.out (by kernel_rfl)) (fun _ _ _ h => h) (Or.inl ⟨by rfl, ?_⟩) ?_ ?_
         rotate_left
         ·intro w'
          go_simp
          with_reducible rfl
         rotate_left
         ·simp only [Act.put, List.setIfInBounds_toArray, List.set_cons_zero, List.set_cons_succ, i64_w, i32_w]
          rfl
         refine take_ (i := 4) (N := some 17) (v := ?_) (a' := ?_) (bm 12 511) rfl rfl (take_ofW HT_.out HW_.out (by kernel_rfl)) (fun _ _ _ h => h) (Or.inl ⟨by rfl, ?_⟩) hHeld ?_ ?_
         rotate_left
         ·rintro w' ⟨s0, s1, s2, s3, s4, s5⟩
          go_simp
          with_reducible rfl
         rotate_left
         ·simp only [Act.put, List.setIfInBounds_toArray, List.set_cons_zero, List.set_cons_succ, i64_w, i32_w]
          rfl
         refine take_ (i := 9) (N := some 22) (v := ?_) (a' := ?_) (bm 12 1023) rfl rfl (take_ofW HT_.out HW_.out (by kernel_rfl)) (fun _ _ _ h => h) (Or.inl ⟨by rfl, ?_⟩) hHeld ?_ ?_
         rotate_left
         ·rintro w' ⟨s0, s1, s2, s3, s4, s5⟩
          go_simp
          with_reducible rfl
         rotate_left
         ·simp only [Act.put, List.setIfInBounds_toArray, List.set_cons_zero, List.set_cons_succ, i64_w, i32_w]
          rfl
         refine one_ (i := 10) (N := some 23) (bm 12 2047) rfl rfl (one_of HT_.out (by kernel_rfl)) (by decide) (fun K hK => ?_)
         refine goesT_ (by rfl) Try.func143 (by kernel_rfl) rfl #[.agg #[.int .i64 ((rd_T122 l0 x5_1).f0), .int .i64 ((rd_T122 l0 x5_1).f1), .int .i64 ((rd_T122 l0 x5_1).f2)], .agg #[.int .i64 ((rd_T122 l0 (ji6)).f0), .int .i64 ((rd_T122 l0 (ji6)).f1), .int .i64 ((rd_T122 l0 (ji6)).f2)]] (by rfl) rfl rfl z5_9 ?_
         with_reducible refine (impl_compareMessages.calls k1 ((rd_T122 l0 x5_1).f0) ((rd_T122 l0 x5_1).f1) ((rd_T122 l0 x5_1).f2) ((rd_T122 l0 (ji6)).f0) ((rd_T122 l0 (ji6)).f1) ((rd_T122 l0 (ji6)).f2) t216 _ A9.out).mono ?_
         rintro e w14 ⟨rfl, hb⟩
         refine ⟨_, rfl, ?_⟩
         have n0_ := Aside0.mk (below_step z5_1 hb)
         clear HB
         have HB := n0_
         clear n0_
         (try clear hb)
         (try clear hb2)
         (try clear hk)
         (try clear hi)
         refine hK.out _ _ ⟨((HB.out.cell (World.block_lt_of_cell? w _ hw214_0)).trans hw214_0), ((HB.out.cell (World.block_lt_of_cell? w _ hw214_1)).trans hw214_1), ((HB.out.cell (World.block_lt_of_cell? w _ hw214_2)).trans hw214_2), ((HB.out.cell (World.block_lt_of_cell? w _ hw215_0)).trans hw215_0), ((HB.out.cell (World.block_lt_of_cell? w _ hw215_1)).trans hw215_1), ((HB.out.cell (World.block_lt_of_cell? w _ hw215_2)).trans hw215_2)⟩ (fun hHeld => ?_)
         clear hK K
         refine norm_ (a' := ?_) ?_ ?_
         rotate_left
         ·show Act.put _ (some 23) _ = _
          simp only [Act.put, List.setIfInBounds_toArray, List.set_cons_zero, List.set_cons_succ, i64_w, i32_w]
          rfl
         refine pure_ (i := 11) (N := some 24) (v := ?_) (a' := ?_) (bm 12 4095) rfl rfl (any_of HT_.out (by kernel_rfl)) (fun _ _ _ h => h) (Or.inl ⟨by rfl, ?_⟩) ?_ ?_
         rotate_left
         ·intro w'
          go_simp
          with_reducible rfl
         rotate_left
         ·simp only [Act.put, List.setIfInBounds_toArray, List.set_cons_zero, List.set_cons_succ, i64_w, i32_w]
          rfl
         refine done_ (done_of HT_.out (by kernel_rfl)) ?_
         try go_wp2
         go_roundg k1
         case measure => have := HK1.out; omega
         case rel => exact ⟨(ji6), (by first | rfl | (simp; done) | (simp only [← hji6] <;> (first | rfl | simp)) | (simp [*]; done)), H', ⟨by have := HK1.out; omega⟩, ⟨z5_1⟩⟩
       ·rw [if_neg c8] at H
        exact absurd H (by simp)
      ·rw [if_neg c7] at H
       exact absurd H (by simp)
     ·rw [if_neg c5] at H
      exact absurd H (by simp)
    ·rw [if_neg c4] at H
     exact absurd H (by simp)
   ·rw [if_neg c3] at H
    have c3b0 : decide (0 < x5_1) = false := decide_eq_false c3
    clear c3
    obtain rfl := Option.some.inj H
    go_wp2
    go_ret
    exact ⟨z5_2, z5_1⟩

/-! ### impl_messageFits: function 144 -/
def impl_messageFits.f (a0_0 : Int) (a0_1 : Int) (a0_2 : Int) (a1 : Int) : Option (Bool) := if a0_0 ≥ 0 then (if a0_0 < a1 then (if a0_2 ≥ 0 then (if a0_2 < a1 then (if a0_1 ≥ 0 then (some (decide (a0_1 < 1000000))) else (some false)) else (some false)) else (some false)) else (some false)) else (some false)
set_option maxHeartbeats 8000000 in
set_option maxRecDepth 100000 in
theorem impl_messageFits.calls (a0_0 : Int) (a0_1 : Int) (a0_2 : Int) (a1 : Int) (r : Bool) (w : World) (h : impl_messageFits.f a0_0 a0_1 a0_2 a1 = some r) :
  Calls Try.prog 144 #[.agg #[.int .i64 a0_0, .int .i64 a0_1, .int .i64 a0_2], .int .i64 a1] w fun e w' => e = .returned (.bool r) ∧ Below w.heap.size w w' := by
 have hu122 := Try.underlying122
 have HB := Aside0.mk (Below.refl w.heap.size w)
 have H : (if a0_0 ≥ 0 then (if a0_0 < a1 then (if a0_2 ≥ 0 then (if a0_2 < a1 then (if a0_1 ≥ 0 then (some (decide (a0_1 < 1000000))) else (some false)) else (some false)) else (some false)) else (some false)) else (some false)) = some r := h
 clear h
 by_cases c3 : a0_0 ≥ 0
 ·rw [if_pos c3] at H
  have c3b0 : decide (0 ≤ a0_0) = true := decide_eq_true c3
  clear c3
  by_cases c4 : a0_0 < a1
  ·rw [if_pos c4] at H
   have c4b0 : decide (a0_0 < a1) = true := decide_eq_true c4
   clear c4
   by_cases c5 : a0_2 ≥ 0
   ·rw [if_pos c5] at H
    have c5b0 : decide (0 ≤ a0_2) = true := decide_eq_true c5
    clear c5
    by_cases c6 : a0_2 < a1
    ·rw [if_pos c6] at H
     have c6b0 : decide (a0_2 < a1) = true := decide_eq_true c6
     clear c6
     by_cases c7 : a0_1 ≥ 0
     ·rw [if_pos c7] at H
      have c7b0 : decide (0 ≤ a0_1) = true := decide_eq_true c7
      clear c7
      obtain rfl := Option.some.inj H
      go_enter Try.func144, Try.ntmps144
      go_wp2_with (first | ((with_reducible refine gate_dst (N := 2) rfl ?_); refine box_event ?hg (N := 2) ?hd (cs := #[.int .i64 a0_0, .int .i64 a0_1, .int .i64 a0_2]) (t := 122) ?hr ?_; (case hd => rfl); (case hg => rfl); (case hr => exact z5_0); intro gb217 hg w8 hbox hb; have n0_ := Aside0.mk (below_step z5_1 hb); have n1_ := Aside0.mk (hbox); have n2_ := Aside0.mk ((z5_7 : w.heap.size ≤ gb217)); have n3_ := Aside0.mk ((z5_7 : w.heap.size ≤ gb217)); clear HB; have HB := n0_; have BK217 := n1_; have GW217 := n2_; have GE217 := n3_; clear n0_ n1_ n2_ n3_; clear hb hbox hg; have hcz9_0 : w8.cell? ⟨gb217, 0, none⟩ = some (.int .i64 a0_0) := (blk_cell BK217.out 0).trans rfl; have hcz9_1 : w8.cell? ⟨gb217, 1, none⟩ = some (.int .i64 a0_1) := (blk_cell BK217.out 1).trans rfl; have hcz9_2 : w8.cell? ⟨gb217, 2, none⟩ = some (.int .i64 a0_2) := (blk_cell BK217.out 2).trans rfl; have hfz9_0 := blk_frozen BK217.out 0; have hfz9_1 := blk_frozen BK217.out 1; have hfz9_2 := blk_frozen BK217.out 2))
      go_ret
      exact ⟨z5_2, z5_3⟩
     ·rw [if_neg c7] at H
      have c7b0 : decide (0 ≤ a0_1) = false := decide_eq_false c7
      clear c7
      obtain rfl := Option.some.inj H
      go_enter Try.func144, Try.ntmps144
      go_wp2_with (first | ((with_reducible refine gate_dst (N := 2) rfl ?_); refine box_event ?hg (N := 2) ?hd (cs := #[.int .i64 a0_0, .int .i64 a0_1, .int .i64 a0_2]) (t := 122) ?hr ?_; (case hd => rfl); (case hg => rfl); (case hr => exact z5_0); intro gb217 hg w10 hbox hb; have n0_ := Aside0.mk (below_step z5_1 hb); have n1_ := Aside0.mk (hbox); have n2_ := Aside0.mk ((z5_7 : w.heap.size ≤ gb217)); have n3_ := Aside0.mk ((z5_7 : w.heap.size ≤ gb217)); clear HB; have HB := n0_; have BK217 := n1_; have GW217 := n2_; have GE217 := n3_; clear n0_ n1_ n2_ n3_; clear hb hbox hg; have hcz11_0 : w10.cell? ⟨gb217, 0, none⟩ = some (.int .i64 a0_0) := (blk_cell BK217.out 0).trans rfl; have hcz11_1 : w10.cell? ⟨gb217, 1, none⟩ = some (.int .i64 a0_1) := (blk_cell BK217.out 1).trans rfl; have hcz11_2 : w10.cell? ⟨gb217, 2, none⟩ = some (.int .i64 a0_2) := (blk_cell BK217.out 2).trans rfl; have hfz11_0 := blk_frozen BK217.out 0; have hfz11_1 := blk_frozen BK217.out 1; have hfz11_2 := blk_frozen BK217.out 2))
      go_ret
      exact ⟨z5_2, z5_3⟩
    ·rw [if_neg c6] at H
     have c6b0 : decide (a0_2 < a1) = false := decide_eq_false c6
     clear c6
     obtain rfl := Option.some.inj H
     go_enter Try.func144, Try.ntmps144
     go_wp2_with (first | ((with_reducible refine gate_dst (N := 2) rfl ?_); refine box_event ?hg (N := 2) ?hd (cs := #[.int .i64 a0_0, .int .i64 a0_1, .int .i64 a0_2]) (t := 122) ?hr ?_; (case hd => rfl); (case hg => rfl); (case hr => exact z5_0); intro gb217 hg w12 hbox hb; have n0_ := Aside0.mk (below_step z5_1 hb); have n1_ := Aside0.mk (hbox); have n2_ := Aside0.mk ((z5_7 : w.heap.size ≤ gb217)); have n3_ := Aside0.mk ((z5_7 : w.heap.size ≤ gb217)); clear HB; have HB := n0_; have BK217 := n1_; have GW217 := n2_; have GE217 := n3_; clear n0_ n1_ n2_ n3_; clear hb hbox hg; have hcz13_0 : w12.cell? ⟨gb217, 0, none⟩ = some (.int .i64 a0_0) := (blk_cell BK217.out 0).trans rfl; have hcz13_1 : w12.cell? ⟨gb217, 1, none⟩ = some (.int .i64 a0_1) := (blk_cell BK217.out 1).trans rfl; have hcz13_2 : w12.cell? ⟨gb217, 2, none⟩ = some (.int .i64 a0_2) := (blk_cell BK217.out 2).trans rfl; have hfz13_0 := blk_frozen BK217.out 0; have hfz13_1 := blk_frozen BK217.out 1; have hfz13_2 := blk_frozen BK217.out 2))
     go_ret
     exact ⟨z5_2, z5_3⟩
   ·rw [if_neg c5] at H
    have c5b0 : decide (0 ≤ a0_2) = false := decide_eq_false c5
    clear c5
    obtain rfl := Option.some.inj H
    go_enter Try.func144, Try.ntmps144
    go_wp2_with (first | ((with_reducible refine gate_dst (N := 2) rfl ?_); refine box_event ?hg (N := 2) ?hd (cs := #[.int .i64 a0_0, .int .i64 a0_1, .int .i64 a0_2]) (t := 122) ?hr ?_; (case hd => rfl); (case hg => rfl); (case hr => exact z5_0); intro gb217 hg w14 hbox hb; have n0_ := Aside0.mk (below_step z5_1 hb); have n1_ := Aside0.mk (hbox); have n2_ := Aside0.mk ((z5_7 : w.heap.size ≤ gb217)); have n3_ := Aside0.mk ((z5_7 : w.heap.size ≤ gb217)); clear HB; have HB := n0_; have BK217 := n1_; have GW217 := n2_; have GE217 := n3_; clear n0_ n1_ n2_ n3_; clear hb hbox hg; have hcz15_0 : w14.cell? ⟨gb217, 0, none⟩ = some (.int .i64 a0_0) := (blk_cell BK217.out 0).trans rfl; have hcz15_1 : w14.cell? ⟨gb217, 1, none⟩ = some (.int .i64 a0_1) := (blk_cell BK217.out 1).trans rfl; have hcz15_2 : w14.cell? ⟨gb217, 2, none⟩ = some (.int .i64 a0_2) := (blk_cell BK217.out 2).trans rfl; have hfz15_0 := blk_frozen BK217.out 0; have hfz15_1 := blk_frozen BK217.out 1; have hfz15_2 := blk_frozen BK217.out 2))
    go_ret
    exact ⟨z5_2, z5_3⟩
  ·rw [if_neg c4] at H
   have c4b0 : decide (a0_0 < a1) = false := decide_eq_false c4
   clear c4
   obtain rfl := Option.some.inj H
   go_enter Try.func144, Try.ntmps144
   go_wp2_with (first | ((with_reducible refine gate_dst (N := 2) rfl ?_); refine box_event ?hg (N := 2) ?hd (cs := #[.int .i64 a0_0, .int .i64 a0_1, .int .i64 a0_2]) (t := 122) ?hr ?_; (case hd => rfl); (case hg => rfl); (case hr => exact z5_0); intro gb217 hg w16 hbox hb; have n0_ := Aside0.mk (below_step z5_1 hb); have n1_ := Aside0.mk (hbox); have n2_ := Aside0.mk ((z5_7 : w.heap.size ≤ gb217)); have n3_ := Aside0.mk ((z5_7 : w.heap.size ≤ gb217)); clear HB; have HB := n0_; have BK217 := n1_; have GW217 := n2_; have GE217 := n3_; clear n0_ n1_ n2_ n3_; clear hb hbox hg; have hcz17_0 : w16.cell? ⟨gb217, 0, none⟩ = some (.int .i64 a0_0) := (blk_cell BK217.out 0).trans rfl; have hcz17_1 : w16.cell? ⟨gb217, 1, none⟩ = some (.int .i64 a0_1) := (blk_cell BK217.out 1).trans rfl; have hcz17_2 : w16.cell? ⟨gb217, 2, none⟩ = some (.int .i64 a0_2) := (blk_cell BK217.out 2).trans rfl; have hfz17_0 := blk_frozen BK217.out 0; have hfz17_1 := blk_frozen BK217.out 1; have hfz17_2 := blk_frozen BK217.out 2))
   go_ret
   exact ⟨z5_2, z5_3⟩
 ·rw [if_neg c3] at H
  have c3b0 : decide (0 ≤ a0_0) = false := decide_eq_false c3
  clear c3
  obtain rfl := Option.some.inj H
  go_enter Try.func144, Try.ntmps144
  go_wp2_with (first | ((with_reducible refine gate_dst (N := 2) rfl ?_); refine box_event ?hg (N := 2) ?hd (cs := #[.int .i64 a0_0, .int .i64 a0_1, .int .i64 a0_2]) (t := 122) ?hr ?_; (case hd => rfl); (case hg => rfl); (case hr => exact z5_0); intro gb217 hg w18 hbox hb; have n0_ := Aside0.mk (below_step z5_1 hb); have n1_ := Aside0.mk (hbox); have n2_ := Aside0.mk ((z5_7 : w.heap.size ≤ gb217)); have n3_ := Aside0.mk ((z5_7 : w.heap.size ≤ gb217)); clear HB; have HB := n0_; have BK217 := n1_; have GW217 := n2_; have GE217 := n3_; clear n0_ n1_ n2_ n3_; clear hb hbox hg; have hcz19_0 : w18.cell? ⟨gb217, 0, none⟩ = some (.int .i64 a0_0) := (blk_cell BK217.out 0).trans rfl; have hcz19_1 : w18.cell? ⟨gb217, 1, none⟩ = some (.int .i64 a0_1) := (blk_cell BK217.out 1).trans rfl; have hcz19_2 : w18.cell? ⟨gb217, 2, none⟩ = some (.int .i64 a0_2) := (blk_cell BK217.out 2).trans rfl; have hfz19_0 := blk_frozen BK217.out 0; have hfz19_1 := blk_frozen BK217.out 1; have hfz19_2 := blk_frozen BK217.out 2))
  go_ret
  exact ⟨z5_2, z5_3⟩

/-! ### impl_inboxFits: function 119 -/
mutual
def impl_inboxFits.j0 : Nat → List (S122) → Int → Bool → Option (Bool)
 | 0, _, _, _ => none
 | k + 1, x0, x1, x14 => if x14 = true then (some false) else (impl_inboxFits.l0 k x1 x0 (x0.length : Int) 0)
def impl_inboxFits.l0 : Nat → Int → List (S122) → Int → Int → Option (Bool)
 | 0, _, _, _, _ => none
 | k + 1, x1, x15, x16, x17 => if x17 < x16 then (if 0 ≤ x17 then (if x17 < (x15.length : Int) then ((impl_messageFits.f ((rd_T122 x15 x17).f0) ((rd_T122 x15 x17).f1) ((rd_T122 x15 x17).f2) x1).bind fun t221 => (if t221 = true then (impl_inboxFits.l0 k x1 x15 x16 (wrap64 (x17 + 1))) else (some false))) else (none)) else (none)) else (some true)
end
def impl_inboxFits.f (k : Nat) (l0 : List (S122)) (a1 : Int) : Option (Bool) := if (l0.length : Int) > 2000 then (impl_inboxFits.j0 k l0 a1 true) else ((impl_Message.f k l0 143).bind fun t218 => (impl_inboxFits.j0 k l0 a1 (!t218)))
theorem impl_inboxFits.mono_l : ∀ k, (∀ y0 y1 y2, LeO (impl_inboxFits.j0 k y0 y1 y2) (impl_inboxFits.j0 (k + 1) y0 y1 y2)) ∧ (∀ y0 y1 y2 y3, LeO (impl_inboxFits.l0 k y0 y1 y2 y3) (impl_inboxFits.l0 (k + 1) y0 y1 y2 y3))
 | 0 => ⟨fun _ _ _ r h => by simp [impl_inboxFits.j0] at h, fun _ _ _ _ r h => by simp [impl_inboxFits.l0] at h⟩
 | k + 1 => by
  obtain ⟨ih0, ih1⟩ := impl_inboxFits.mono_l k
  refine ⟨?_, ?_⟩
  ·intro y0 y1 y2
   unfold impl_inboxFits.j0
   repeat' first
   | (with_reducible exact ih0 _ _ _)
   | (with_reducible exact ih1 _ _ _ _)
   | (with_reducible exact impl_Message.mono _ _ _)
   | (with_reducible exact LeO.refl _)
   | (with_reducible exact LeO.none _)
   | (with_reducible refine LeO.ite ?_ ?_)
   | (with_reducible refine LeO.bind ?_ (fun _ => ?_))
   | exact ih0 _ _ _
   | exact ih1 _ _ _ _
   | exact impl_Message.mono _ _ _
   | exact LeO.none _
   | refine LeO.ite ?_ ?_
   | refine LeO.bind ?_ (fun _ => ?_)
  ·intro y0 y1 y2 y3
   unfold impl_inboxFits.l0
   repeat' first
   | (with_reducible exact ih0 _ _ _)
   | (with_reducible exact ih1 _ _ _ _)
   | (with_reducible exact impl_Message.mono _ _ _)
   | (with_reducible exact LeO.refl _)
   | (with_reducible exact LeO.none _)
   | (with_reducible refine LeO.ite ?_ ?_)
   | (with_reducible refine LeO.bind ?_ (fun _ => ?_))
   | exact ih0 _ _ _
   | exact ih1 _ _ _ _
   | exact impl_Message.mono _ _ _
   | exact LeO.none _
   | refine LeO.ite ?_ ?_
   | refine LeO.bind ?_ (fun _ => ?_)
theorem impl_inboxFits.mono : ∀ a0 a1 k, LeO (impl_inboxFits.f k a0 a1) (impl_inboxFits.f (k + 1) a0 a1) := by
 intro a0 a1 k
 obtain ⟨ih0, ih1⟩ := impl_inboxFits.mono_l k
 unfold impl_inboxFits.f
 repeat' first
   | (with_reducible exact ih0 _ _ _)
   | (with_reducible exact ih1 _ _ _ _)
   | (with_reducible exact impl_Message.mono _ _ _)
   | (with_reducible exact LeO.refl _)
   | (with_reducible exact LeO.none _)
   | (with_reducible refine LeO.ite ?_ ?_)
   | (with_reducible refine LeO.bind ?_ (fun _ => ?_))
   | exact ih0 _ _ _
   | exact ih1 _ _ _ _
   | exact impl_Message.mono _ _ _
   | exact LeO.none _
   | refine LeO.ite ?_ ?_
   | refine LeO.bind ?_ (fun _ => ?_)
set_option maxHeartbeats 8000000 in
set_option maxRecDepth 100000 in
theorem impl_inboxFits.calls (k : Nat) (A0 : Option Addr) (c0 : Nat) (l0 : List (S122)) (a1 : Int) (r : Bool) (w : World) (hr0 : Kd.C k122 w A0 l0.length l0) (hc0 : l0.length ≤ c0) (h : impl_inboxFits.f k l0 a1 = some r) :
  Calls Try.prog 119 #[.slice A0 l0.length c0, .int .i64 a1] w fun e w' => e = .returned (.bool r) ∧ Below w.heap.size w w' := by
 have hu122 := Try.underlying122
 have HR0 := Aside0.mk hr0
 have HC0 := Aside0.mk hc0
 clear hr0 hc0
 have HB := Aside0.mk (Below.refl w.heap.size w)
 have H : (if (l0.length : Int) > 2000 then (impl_inboxFits.j0 k l0 a1 true) else ((impl_Message.f k l0 143).bind fun t218 => (impl_inboxFits.j0 k l0 a1 (!t218)))) = some r := h
 clear h
 have HC3 := Aside0.mk H
 clear H
 go_enter Try.func119, Try.ntmps119
 go_upto_region 1 with (fail)
 go_cut [14] (fun v14 wc => ∃ (kq : Nat) (x14_2 : Bool), v14 = .bool x14_2 ∧ Aside0 (impl_inboxFits.j0 kq l0 a1 x14_2 = some r) ∧ Aside0 (kq ≤ k) ∧ Aside0 (Below w.heap.size w wc))
 case first =>
  have H := HC3.out
  clear HC3
  by_cases c4 : (l0.length : Int) > 2000
  ·rw [if_pos c4] at H
   have c4b0 : decide (2000 < (l0.length : Int)) = true := decide_eq_true c4
   have c4b1 : decide (2000 < l0.length) = true := decide_eq_true (by omega)
   clear c4
   (first | rw [c4b0] | (simp only [i64_w, i32_w]; rw [c4b0]) | skip)
   have H' := Aside0.mk H
   clear H
   go_wp2
   go_meet
   case rel => exact ⟨_, (true), z5_8, H', ⟨by first | omega | exact Nat.le_refl _⟩, ⟨z5_1⟩⟩
  ·rw [if_neg c4] at H
   have c4b0 : decide (2000 < (l0.length : Int)) = false := decide_eq_false c4
   have c4b1 : decide (2000 < l0.length) = false := decide_eq_false (by omega)
   clear c4
   (first | rw [c4b0] | (simp only [i64_w, i32_w]; rw [c4b0]) | skip)
   replace H := Option.bind_eq_some_iff.mp H
   obtain ⟨t218, A50, H⟩ := H
   replace H : (impl_inboxFits.j0 k l0 a1 (!t218)) = some r := H
   have A5 := Aside0.mk A50
   clear A50
   have H' := Aside0.mk H
   clear H
   go_wp2_with (first | (go_at_call 142; (with_reducible refine (impl_Message.calls k _ _ l0 143 t218 _ ?side1 ?side2 A5.out).mono ?_); (case side1 => repeat (first | exact (Kd.C_below HR0.out HB.out) | (with_reducible refine Kd.C_alloc ?_ _) | (with_reducible refine Kd.C_drewN ?_ _) | (with_reducible refine Kd.C_drew ?_))); (case side2 => exact HC0.out); rintro e w6 ⟨rfl, hb⟩; have n0_ := Aside0.mk (below_step z5_1 hb); clear HB; have HB := n0_; clear n0_; (try clear hb); (try clear hb2); (try clear hk); (try clear hi)))
   go_meet
   case rel => exact ⟨_, (!t218), z5_8, H', ⟨by first | omega | exact Nat.le_refl _⟩, ⟨z5_1⟩⟩
 case rest =>
  clear HC3
  try clear c1
  try clear p2
  try clear c4
  try clear c4b0
  try clear c4b1
  obtain ⟨kq, x14_2, rfl, HA, HJ2, HB⟩ := hcut
  cases kq with
  | zero => exact absurd HA.out (by simp [impl_inboxFits.j0])
  | succ kj2 =>
   have H := HA.out
   clear HA
   simp only [impl_inboxFits.j0] at H
   by_cases c7 : x14_2 = true
   ·subst c7
    have H1 : (some false) = some r := by rw [if_pos rfl] at H; exact H
    clear H
    have H := H1
    clear H1
    obtain rfl := Option.some.inj H
    go_wp2
    go_ret
    exact ⟨z5_2, z5_1⟩
   ·replace c7 := Bool.eq_false_iff.mpr c7
    subst c7
    have H1 : (impl_inboxFits.l0 kj2 a1 l0 (l0.length : Int) 0) = some r := by rw [if_neg (show ¬ (false = true) by decide)] at H; exact H
    clear H
    have H := H1
    clear H1
    have H' := Aside0.mk H
    clear H
    go_wp2
    go_loopg [17] kj2 (fun kq v17 w' => ∃ (x17_2 : Int), v17 = .int .i64 x17_2 ∧ Aside0 (impl_inboxFits.l0 kq a1 l0 (l0.length : Int) x17_2 = some r) ∧ Aside0 (kq ≤ kj2) ∧ Aside0 (Below w.heap.size w w'))
    case atStart => exact ⟨(0), z5_8, H', ⟨Nat.le_refl _⟩, ⟨z5_1⟩⟩
    case round =>
     clear H'
     try clear c1
     try clear p2
     try clear c4
     try clear c4b0
     try clear c4b1
     try clear c7
     try clear p2
     obtain ⟨x17_2, rfl, HA, HK2, HB⟩ := hrel
     cases gk with
     | zero => exact absurd HA.out (by simp [impl_inboxFits.l0])
     | succ k2 =>
      have H := HA.out
      clear HA
      simp only [impl_inboxFits.l0] at H
      by_cases c8 : x17_2 < (l0.length : Int)
      ·rw [if_pos c8] at H
       have c8b0 : decide (x17_2 < (l0.length : Int)) = true := decide_eq_true c8
       clear c8
       by_cases c9 : 0 ≤ x17_2
       ·rw [if_pos c9] at H
        have c9b0 : decide (0 ≤ x17_2) = true := decide_eq_true c9
        clear c9
        by_cases c10 : x17_2 < (l0.length : Int)
        ·rw [if_pos c10] at H
         have c10b0 : decide (x17_2 < (l0.length : Int)) = true := decide_eq_true c10
         clear c10
         replace H := Option.bind_eq_some_iff.mp H
         obtain ⟨t221, A110, H⟩ := H
         replace H : (if t221 = true then (impl_inboxFits.l0 k2 a1 l0 (l0.length : Int) (wrap64 (x17_2 + 1))) else (some false)) = some r := H
         have A11 := Aside0.mk A110
         clear A110
         by_cases c12 : t221 = true
         ·subst c12
          have H1 : (impl_inboxFits.l0 k2 a1 l0 (l0.length : Int) (wrap64 (x17_2 + 1))) = some r := by rw [if_pos rfl] at H; exact H
          clear H
          have H := H1
          clear H1
          have H' := Aside0.mk H
          clear H
          have p219 : 0 ≤ (x17_2 : Int) := of_decide_eq_true z5_5
          have q219 : x17_2 < (l0.length : Int) := of_decide_eq_true z5_5
          obtain ⟨ad219, e219, hx219_0, hx219_1, hx219_2⟩ := at_T122 HR0.out x17_2 p219 q219
          cases e219
          replace hx219_0 := (HB.out.cell (World.block_lt_of_cell? w _ hx219_0)).trans hx219_0
          replace hx219_1 := (HB.out.cell (World.block_lt_of_cell? w _ hx219_1)).trans hx219_1
          replace hx219_2 := (HB.out.cell (World.block_lt_of_cell? w _ hx219_2)).trans hx219_2
          replace p219 := eq_true p219
          replace q219 := eq_true q219
          go_wp2_with (first | ((with_reducible refine gate_dst (N := 6) rfl ?_); refine box_event ?hg (N := 6) ?hd (cs := #[.int .i64 0, .int .i64 0, .int .i64 0]) (t := 122) ?hr ?_; (case hd => rfl); (case hg => rfl); (case hr => exact z5_0); intro gb220 hg w13 hbox hb; have n0_ := Aside0.mk (below_step z5_1 hb); have n1_ := Aside0.mk (hbox); have n2_ := Aside0.mk ((z5_7 : w.heap.size ≤ gb220)); have n3_ := Aside0.mk ((z5_7 : w.heap.size ≤ gb220)); clear HB; have HB := n0_; have BK220 := n1_; have GW220 := n2_; have GE220 := n3_; clear n0_ n1_ n2_ n3_; clear hb hbox hg; have hcz14_0 : w13.cell? ⟨gb220, 0, none⟩ = some (.int .i64 0) := (blk_cell BK220.out 0).trans rfl; have hcz14_1 : w13.cell? ⟨gb220, 1, none⟩ = some (.int .i64 0) := (blk_cell BK220.out 1).trans rfl; have hcz14_2 : w13.cell? ⟨gb220, 2, none⟩ = some (.int .i64 0) := (blk_cell BK220.out 2).trans rfl; have hfz14_0 := blk_frozen BK220.out 0; have hfz14_1 := blk_frozen BK220.out 1; have hfz14_2 := blk_frozen BK220.out 2) | ((with_reducible refine gate_callee (f := 144) rfl ?_); refine goesL_ (some 23) rfl rfl Try.func144 (by kernel_rfl) rfl #[.agg #[.int .i64 ((rd_T122 l0 x17_2).f0), .int .i64 ((rd_T122 l0 x17_2).f1), .int .i64 ((rd_T122 l0 x17_2).f2)], .int .i64 a1] rfl z5_10 ?_; (with_reducible refine (impl_messageFits.calls ((rd_T122 l0 x17_2).f0) ((rd_T122 l0 x17_2).f1) ((rd_T122 l0 x17_2).f2) a1 true _ A11.out).mono ?_); rintro e w15 ⟨rfl, hb⟩; refine ⟨_, rfl, ?_⟩; have n0_ := Aside0.mk (blk_below (g := gb220) (o := .cells #[.int .i64 ((rd_T122 l0 x17_2).f0), .int .i64 ((rd_T122 l0 x17_2).f1), .int .i64 ((rd_T122 l0 x17_2).f2)] 122 (0, 0)) z5_4 hb); have n1_ := Aside0.mk (below_step z5_6 hb); clear BK220; clear HB; have BK220 := n0_; have HB := n1_; clear n0_ n1_; (try clear hb); (try clear hb2); (try clear hk); (try clear hi)))
          go_roundg k2
          case measure => have := HJ2.out; have := HK2.out; omega
          case rel => exact ⟨(wrap64 (x17_2 + 1)), z5_8, H', ⟨by have := HJ2.out; have := HK2.out; omega⟩, ⟨z5_6⟩⟩
         ·replace c12 := Bool.eq_false_iff.mpr c12
          subst c12
          have H1 : (some false) = some r := by rw [if_neg (show ¬ (false = true) by decide)] at H; exact H
          clear H
          have H := H1
          clear H1
          obtain rfl := Option.some.inj H
          have p219 : 0 ≤ (x17_2 : Int) := of_decide_eq_true z5_5
          have q219 : x17_2 < (l0.length : Int) := of_decide_eq_true z5_5
          obtain ⟨ad219, e219, hx219_0, hx219_1, hx219_2⟩ := at_T122 HR0.out x17_2 p219 q219
          cases e219
          replace hx219_0 := (HB.out.cell (World.block_lt_of_cell? w _ hx219_0)).trans hx219_0
          replace hx219_1 := (HB.out.cell (World.block_lt_of_cell? w _ hx219_1)).trans hx219_1
          replace hx219_2 := (HB.out.cell (World.block_lt_of_cell? w _ hx219_2)).trans hx219_2
          replace p219 := eq_true p219
          replace q219 := eq_true q219
          go_wp2_with (first | ((with_reducible refine gate_dst (N := 6) rfl ?_); refine box_event ?hg (N := 6) ?hd (cs := #[.int .i64 0, .int .i64 0, .int .i64 0]) (t := 122) ?hr ?_; (case hd => rfl); (case hg => rfl); (case hr => exact z5_0); intro gb220 hg w16 hbox hb; have n0_ := Aside0.mk (below_step z5_1 hb); have n1_ := Aside0.mk (hbox); have n2_ := Aside0.mk ((z5_7 : w.heap.size ≤ gb220)); have n3_ := Aside0.mk ((z5_7 : w.heap.size ≤ gb220)); clear HB; have HB := n0_; have BK220 := n1_; have GW220 := n2_; have GE220 := n3_; clear n0_ n1_ n2_ n3_; clear hb hbox hg; have hcz17_0 : w16.cell? ⟨gb220, 0, none⟩ = some (.int .i64 0) := (blk_cell BK220.out 0).trans rfl; have hcz17_1 : w16.cell? ⟨gb220, 1, none⟩ = some (.int .i64 0) := (blk_cell BK220.out 1).trans rfl; have hcz17_2 : w16.cell? ⟨gb220, 2, none⟩ = some (.int .i64 0) := (blk_cell BK220.out 2).trans rfl; have hfz17_0 := blk_frozen BK220.out 0; have hfz17_1 := blk_frozen BK220.out 1; have hfz17_2 := blk_frozen BK220.out 2) | ((with_reducible refine gate_callee (f := 144) rfl ?_); refine goesL_ (some 23) rfl rfl Try.func144 (by kernel_rfl) rfl #[.agg #[.int .i64 ((rd_T122 l0 x17_2).f0), .int .i64 ((rd_T122 l0 x17_2).f1), .int .i64 ((rd_T122 l0 x17_2).f2)], .int .i64 a1] rfl z5_10 ?_; (with_reducible refine (impl_messageFits.calls ((rd_T122 l0 x17_2).f0) ((rd_T122 l0 x17_2).f1) ((rd_T122 l0 x17_2).f2) a1 false _ A11.out).mono ?_); rintro e w18 ⟨rfl, hb⟩; refine ⟨_, rfl, ?_⟩; have n0_ := Aside0.mk (blk_below (g := gb220) (o := .cells #[.int .i64 ((rd_T122 l0 x17_2).f0), .int .i64 ((rd_T122 l0 x17_2).f1), .int .i64 ((rd_T122 l0 x17_2).f2)] 122 (0, 0)) z5_4 hb); have n1_ := Aside0.mk (below_step z5_6 hb); clear BK220; clear HB; have BK220 := n0_; have HB := n1_; clear n0_ n1_; (try clear hb); (try clear hb2); (try clear hk); (try clear hi)))
          go_ret
          exact ⟨z5_2, z5_6⟩
        ·rw [if_neg c10] at H
         exact absurd H (by simp)
       ·rw [if_neg c9] at H
        exact absurd H (by simp)
      ·rw [if_neg c8] at H
       have c8b0 : decide (x17_2 < (l0.length : Int)) = false := decide_eq_false c8
       clear c8
       obtain rfl := Option.some.inj H
       go_wp2
       go_ret
       exact ⟨z5_2, z5_1⟩


/-! ### impl_ownerTable: function 79 -/
def ownN (n v : Nat) : Nat := (13 * v + 5) % 17 % n
def tbl (n k : Nat) : Array Value := Array.ofFn (n := 16) fun i => .int .i64 (if i.val < k then (ownN n i.val : Int) else 0)

theorem tbl_set (n k : Nat) (h : k < 16) : (tbl n k).setIfInBounds k (.int .i64 (ownN n k : Int)) = tbl n (k + 1) := by
 apply Array.ext
 ·simp [tbl]
 ·intro i h1 h2
  simp [tbl] at h1 h2
  rw [Array.getElem_setIfInBounds (by simpa [tbl] using h1)]
  simp [tbl]
  by_cases e : k = i
  ·subst e; simp
  ·rw [if_neg e]
   by_cases h3 : i < k
   ·rw [if_pos h3, if_pos (by omega)]
   ·rw [if_neg h3, if_neg (by omega)]

theorem tbl_size (n k : Nat) : (tbl n k).size = 16 := by simp [tbl]
theorem tbl_get (n k i : Nat) (h : i < 16) : (tbl n k)[i]? = some (.int .i64 (if i < k then (ownN n i : Int) else 0)) := by simp [tbl, h]
theorem tbl_one (n k : Nat) : (tbl n k).all (·.oneCell') = true := by rw [Array.all_eq_true_iff_forall_mem]; intro x hx; obtain ⟨i, rfl⟩ := Array.mem_ofFn.1 hx; rfl
theorem tbl_zero (n : Nat) : #[Value.int .i64 0, .int .i64 0, .int .i64 0, .int .i64 0, .int .i64 0, .int .i64 0, .int .i64 0, .int .i64 0, .int .i64 0, .int .i64 0, .int .i64 0, .int .i64 0, .int .i64 0, .int .i64 0, .int .i64 0, .int .i64 0] = tbl n 0 := rfl
attribute [irreducible] tbl
set_option maxHeartbeats 400000 in
theorem ownerTable_calls (n : Nat) (h1 : 1 ≤ n) (h6 : n ≤ 6) (w : World) :
  Calls Try.prog 79 #[.int .i64 n] w fun e w' => e = .returned (.agg (tbl n 16)) ∧ Below w.heap.size w w' := by
 go_enter Try.func79, Try.ntmps79
 go_wp2
 go_loopw [5] (fun i wr => ∃ k : Nat, k ≤ 16 ∧ i = .int .i64 k ∧ wr.heap.size = w.heap.size + 2 ∧ wr.heap[w.heap.size]? = some (.cells (tbl 1 0) 96 (0, 0)) ∧ wr.heap[w.heap.size + 1]? = some (.cells (tbl n k) 96 (0, 0)) ∧ Below w.heap.size w wr) (fun i _ => 16 - (intOf i).toNat)
 case atStart => exact ⟨0, by omega, rfl, by simp, by rw [heap_alloc2_old, tbl_zero 1], by rw [heap_alloc2_new, tbl_zero n], ((Below.refl _ _).alloc (Nat.le_refl _) _).alloc (by simp) _⟩
 case round =>
  obtain ⟨k, hk, rfl, hsz, hb0, hb1, hbel⟩ := hrel
  by_cases hlt : k < 16
  ·have hc := kk_blk_cell hb1 k
   have hf := kk_blk_frozen hb1 k
   rw [tbl_get n k k hlt, if_neg (by omega)] at hc
   go_wp2
   go_roundw
   case rel => exact ⟨k + 1, by omega, by go_num, by simpa [World.setCell] using hsz, by rw [heap_setCell_other _ _ _ _ (by simp)]; exact hb0, by
    have := kk_blk_set hb1 k (.int .i64 (ownN n k : Int))
    rw [tbl_set n k hlt] at this
    exact this, hbel.setCell (by simp) _⟩
   case measure => simp [intOf]; omega
  ·obtain rfl : k = 16 := by omega
   clear hlt hk
   go_wp2_with (first
    | ((with_reducible refine gate_ (.load 96 (.tmp 3)) rfl ?_); refine wpList_load_row rfl 96 _ rfl (w.heap.size + 1) rfl 96 _ (0, 0) _ hb1 Try.underlying96 rfl (by rw [tbl_size]; kernel_rfl) ?_)
    | ((with_reducible refine gate_store (t := 96) (p := 2) rfl ?_); refine wpList_store_row rfl 96 _ _ rfl (w.heap.size) (tbl n 16) rfl rfl 96 _ hb0 (by rw [tbl_size]; kernel_rfl) (by rw [tbl_size, tbl_size]) (tbl_one n 16) ?_))
   refine bodyPost_ret (v := .agg (tbl n 16)) ?_ rfl ⟨rfl, below_setRow hbel (Nat.le_refl _) _⟩
   exact results_cell_row rfl _ _ w.heap.size 96 _ (0, 0) _ rfl (setRow_heap _ _ _ _ _ _ hb0) Try.underlying96 rfl (by rw [tbl_size]; kernel_rfl)



/-! ### impl_OwnedBy: function 131 -/
/-- The first n vertices that worker w of b owns. -/
def ownI (b w n : Nat) : List Int := ((List.range n).filter fun v => ownN b v == w).map fun (v : Nat) => (v : Int)
def impl_OwnedBy.f (a0 a1 a2 : Int) : Option (List Int) := some (if (0 ≤ a0 ∧ a0 ≤ 16) ∧ (1 ≤ a1 ∧ a1 ≤ 6) ∧ 0 ≤ a2 ∧ a2 < a1 then ownI a1.toNat a2.toNat a0.toNat else [])
theorem ownI_succ (b w n : Nat) : ownI b w (n + 1) = ownI b w n ++ if ownN b n = w then [(n : Int)] else [] := by
 unfold ownI
 rw [List.range_succ, List.filter_append, List.map_append]
 congr 1
 by_cases h : ownN b n = w <;> simp [h]
theorem ownI_len (b w n : Nat) : (ownI b w n).length ≤ n := by
 unfold ownI
 rw [List.length_map]
 exact Nat.le_trans (List.length_filter_le _ _) (by simp)
theorem kk_alloc_setRow2 (w : World) (t : Nat) (zs cs : Array Value) : (w.alloc (.cells zs t (0, 0))).setRow w.heap.size cs = w.alloc (.cells cs t (0, 0)) := by
 unfold World.setRow World.alloc
 congr 1
 apply Array.ext_getElem?
 intro i
 rw [Array.getElem?_modify, Array.getElem?_push, Array.getElem?_push]
 by_cases h : w.heap.size = i
 ·rw [if_pos h, if_pos h.symm, if_pos h.symm]; rfl
 ·rw [if_neg h, if_neg (fun e => h e.symm), if_neg (fun e => h e.symm)]
theorem ownedNo_calls (a0 a1 a2 : Int) (w : World) (h : ¬ ((0 ≤ a0 ∧ a0 ≤ 16) ∧ (1 ≤ a1 ∧ a1 ≤ 6) ∧ 0 ≤ a2 ∧ a2 < a1)) :
  Calls Try.prog 131 #[.int .i64 a0, .int .i64 a1, .int .i64 a2] w fun e w' => e = .returned (.slice none 0 0) ∧ Below w.heap.size w w' := by
 have HH := Aside0.mk h
 clear h
 by_cases h0 : a0 < 0
 ·go_enter Try.func131, Try.ntmps131
  go_wp2
  go_ret
  exact ⟨rfl, Below.refl _ _⟩
 ·have h0' : 0 ≤ a0 := by omega
  clear h0
  by_cases h1 : 16 < a0
  ·go_enter Try.func131, Try.ntmps131
   go_wp2
   go_ret
   exact ⟨rfl, Below.refl _ _⟩
  ·have h1' : a0 ≤ 16 := by omega
   clear h1
   by_cases h2 : 1 ≤ a1 ∧ a1 ≤ 6
   ·have hw1 : Aside0 (impl_workersFit.f a1 = some true) := ⟨by simp [impl_workersFit.f, h2]⟩
    obtain ⟨h2a, h2b⟩ := h2
    by_cases h3 : a2 < 0
    ·go_enter Try.func131, Try.ntmps131
     go_wp2_with (go_at_call 77; (with_reducible refine (impl_workersFit.calls a1 true _ hw1.out).mono ?_); rintro e w' ⟨rfl, ⟨nd, rfl⟩⟩)
     go_ret
     exact ⟨rfl, pw_below_drewN (Below.refl _ _) _⟩
    ·have h3' : 0 ≤ a2 := by omega
     have h4 : a1 ≤ a2 := by have := HH.out; omega
     clear h3
     go_enter Try.func131, Try.ntmps131
     go_wp2_with (go_at_call 77; (with_reducible refine (impl_workersFit.calls a1 true _ hw1.out).mono ?_); rintro e w' ⟨rfl, ⟨nd, rfl⟩⟩)
     go_ret
     exact ⟨rfl, pw_below_drewN (Below.refl _ _) _⟩
   ·have hw1 : Aside0 (impl_workersFit.f a1 = some false) := ⟨by unfold impl_workersFit.f; split; (· simp; omega); rfl⟩
    clear h2
    go_enter Try.func131, Try.ntmps131
    go_wp2_with (go_at_call 77; (with_reducible refine (impl_workersFit.calls a1 false _ hw1.out).mono ?_); rintro e w' ⟨rfl, ⟨nd, rfl⟩⟩)
    go_ret
    exact ⟨rfl, pw_below_drewN (Below.refl _ _) _⟩
set_option maxHeartbeats 4000000 in
set_option maxRecDepth 100000 in
theorem impl_OwnedBy.calls (a0 a1 a2 : Int) (r : List Int) (w : World) (h : impl_OwnedBy.f a0 a1 a2 = some r) :
  Calls Try.prog 131 #[.int .i64 a0, .int .i64 a1, .int .i64 a2] w fun e w' => ∃ v0_ : Value, e = .returned (v0_) ∧ Kd.R (Kd.int .i64) 3 w' w.heap.size (fun _ => True) v0_ r ∧ Below w.heap.size w w' := by
 obtain rfl := Option.some.inj h
 clear h
 by_cases hc : (0 ≤ a0 ∧ a0 ≤ 16) ∧ (1 ≤ a1 ∧ a1 ≤ 6) ∧ 0 ≤ a2 ∧ a2 < a1
 ·rw [if_pos hc]
  obtain ⟨⟨h0, h1⟩, ⟨h2a, h2b⟩, h3, h4⟩ := hc
  have hw1 : Aside0 (impl_workersFit.f a1 = some true) := ⟨by simp [impl_workersFit.f, h2a, h2b]⟩
  obtain ⟨n, rfl⟩ := Int.eq_ofNat_of_zero_le h0
  obtain ⟨b, rfl⟩ := Int.eq_ofNat_of_zero_le (a := a1) (by omega)
  obtain ⟨q, rfl⟩ := Int.eq_ofNat_of_zero_le h3
  simp only [Int.toNat_natCast]
  go_enter Try.func131, Try.ntmps131
  go_wp2_with (first
   | (go_at_call 77; (with_reducible refine (impl_workersFit.calls b true _ hw1.out).mono ?_); rintro e w' ⟨rfl, ⟨nd, rfl⟩⟩)
   | (go_at_call 79; (with_reducible refine (ownerTable_calls b (by omega) (by omega) _).mono ?_); rintro e w1 ⟨rfl, hb1⟩)
   | ((with_reducible refine gate_store (t := 96) (p := 7) rfl ?_); refine wpList_store_row rfl 96 _ _ rfl w1.heap.size (tbl b 16) rfl rfl 96 _ (heap_alloc_new _ _) (by rw [tbl_size]; kernel_rfl) (by rw [tbl_size]; rfl) (tbl_one b 16) ?_; rw [kk_alloc_setRow2]; have HB6 := Aside0.mk (below_alloc (below_then (pw_below_drewN (Below.refl _ _) _) (by simp) hb1) (.cells (tbl b 16) 96)); have h7 : (w1.alloc (.cells (tbl b 16) 96)).heap[w1.heap.size]? = some (.cells (tbl b 16) 96 (0, 0)) := heap_alloc_new _ _; have hs : w1.heap.size + 1 ≤ (w1.alloc (.cells (tbl b 16) 96)).heap.size := (by simp); have hgw : w.heap.size ≤ w1.heap.size := (by have := hb1.size; simpa using this); clear hb1; generalize w1.alloc (.cells (tbl b 16) 96) = wc at HB6 h7 hs ⊢; generalize w1.heap.size = g at h7 hs hgw ⊢))
  go_loopw [8, 33] (fun v i wr => ∃ k : Nat, k ≤ n ∧ i = .int .i64 k ∧ g + 1 ≤ wr.heap.size ∧ Aside0 (Kd.R (Kd.int .i64) 3 wr w.heap.size (fun j => j ≠ g) v (ownI b q k)) ∧ wr.heap[g]? = some (.cells (tbl b 16) 96 (0, 0)) ∧ Aside0 (Below w.heap.size w wr)) (fun _ i _ => n - (intOf i).toNat)
  case atStart => exact ⟨0, by omega, rfl, hs, ⟨Kd.R_nil _ _ _ _ _⟩, h7, HB6⟩
  case round =>
   clear h7 hs HB6
   obtain ⟨k, hk, rfl, hs, HR, h7, HB⟩ := hrel
   by_cases hlt : k < n
   ·have hc7 := kk_blk_cell h7 k
    rw [tbl_get _ _ _ (by omega), if_pos (by omega)] at hc7
    by_cases he : ownN b k = q
    ·have HN : Aside0 (ownI b q (k + 1) = ownI b q k ++ [(k : Int)]) := ⟨by rw [ownI_succ]; simp [he]⟩
     have he1 : ((ownN b k : Int) == (q : Int)) = true := by simp; omega
     have hlen : Aside0 ((ownI b q k).length ≤ k) := ⟨ownI_len _ _ _⟩
     clear he
     go_wp2_with (first | ((with_reducible refine gate_builtin (b := .append) (xs := #[.tmp 41, .tmp 43]) rfl ?_); at_builtin; refine Kd.R_append (Kd.int .i64) (w0 := w) w.heap.size rfl (.tmp 41) (.tmp 43) 22 3 (.int .i64 0) 8 rfl Try.underlying22 info3 rfl (by decide) (by omega) u8 (ownI b q k) (k : Int) [.int .i64 k] (fun j => j ≠ g) (fun _ => False) rfl rfl ?aP (fun _ hk => hk.elim) ?aF ?aO ?aB ?aS ?aL ?_; (case aP => exact rfl); (case aB => exact HB.out); (case aF => exact (fun j hj => by first | omega | (simp at hj; omega))); (case aO => exact (by (with_reducible repeat (first | apply Kd.R_alloc | apply Kd.R_drewN | apply Kd.R_drew)); exact HR.out)); (case aS => exact (by first | omega | (simp; omega))); (case aL => have := hlen.out; omega); intro v1 w11 ho hb hg hat; rw [← HN.out] at ho; have HO := Aside0.mk ho; have HB2 := Aside0.mk hb; have HG := Aside0.mk hg; clear ho hb hg hat))
     go_roundw
     case measure => simp [intOf]; omega
     case rel =>
      refine ⟨k + 1, by omega, by go_num, by have := HG.out.size; first | omega | (simp at this; omega), HO, ?_, HB2⟩
      rw [← h7]
      exact HG.out.block g (by first | omega | (simp; omega)) (fun e => ((HR.out.1 g e.symm) rfl))
    ·have HN : Aside0 (ownI b q (k + 1) = ownI b q k) := ⟨by rw [ownI_succ]; simp [he]⟩
     have he1 : ((ownN b k : Int) == (q : Int)) = false := by simp; omega
     clear he
     go_wp2
     go_roundw
     case measure => simp [intOf]; omega
     case rel => exact ⟨k + 1, by omega, by go_num, by first | exact hs | simpa using hs, ⟨by rw [HN.out]; exact HR.out⟩, h7, HB⟩
   ·obtain rfl : k = n := by omega
    clear hk
    go_wp2
    go_ret
    exact ⟨_, rfl, Kd.R_mono HR.out (fun _ _ => trivial), HB.out⟩
 ·rw [if_neg hc]
  refine (ownedNo_calls a0 a1 a2 w hc).mono fun e w' ⟨he, hb⟩ => ?_
  subst he
  exact ⟨_, rfl, Kd.R_nil _ _ _ _ _, hb⟩

end Go.Proofs.Ytloiafnoekpaoab.PFnExactPiecesValid
