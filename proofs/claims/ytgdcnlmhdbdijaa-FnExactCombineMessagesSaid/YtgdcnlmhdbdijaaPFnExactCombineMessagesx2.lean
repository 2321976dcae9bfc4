/- Laid by a program of this session out of the translation: functions, their contracts, the row. Lean checks it. -/
import Derived.Test.YtgdcnlmhdbdijaaPFnExactCombineMessagesx0
import Derived.Test.YtgdcnlmhdbdijaaPFnExactCombineMessagesx1
namespace Go.Proofs.Ytgdcnlmhdbdijaa.PFnExactCombineMessages
open Go.RowKit Go.Proofs.YtgdcnlmhdbdijaaW.PrintWords Go.Proofs.YtgdcnlmhdbdijaaW.PrintLast Go.Proofs.YtgdcnlmhdbdijaaW.PrintMore
theorem z2_0 {p : Prop} (h : p := by first | (go_simp; done) | (go_simp; rfl)) : p := h
theorem z2_1 {p : Prop} (h : p := by repeat (first | (with_reducible first | exact HB.out | apply below_alloc | apply pw_below_drewN | apply below_drew1) | exact HB.out)) : p := h
theorem z2_2 {p : Prop} (h : p := by (with_reducible repeat (first | apply Kd.R_alloc | apply Kd.R_drewN | apply Kd.R_drew)); exact HO_3.out) : p := h
theorem z2_3 {p : Prop} (h : p := by first | (with_reducible assumption) | assumption) : p := h
theorem z2_4 {p : Prop} (h : p := by first | rfl | (simp; done) | (simp [*]; done)) : p := h
theorem z2_5 {p : Prop} (h : p := by (with_reducible repeat (first | apply Kd.R_alloc | apply Kd.R_drewN | apply Kd.R_drew)); exact HO122.out) : p := h
theorem z2_6 {p : Prop} (h : p := by (with_reducible repeat (first | apply Kd.R_alloc | apply Kd.R_drewN | apply Kd.R_drew)); exact HO142.out) : p := h
theorem z2_7 {p : Prop} (h : p := by (try simp only [List.map_toArray, List.map_cons, List.map_nil]); first | done | (simp only [hji11]; rfl) | rfl | (simp only [List.length_drop, List.length_take]; rfl)) : p := h
theorem z2_8 {p : Prop} (h : p := by have := HK1.out; have := HJ3.out; have := HK3.out; omega) : p := h
attribute [local go_sem] max2_int min2_int max_two min_two max_three min_three max_four min_four   -- for this text's walks alone
set_option linter.unusedVariables false
set_option linter.unusedSimpArgs false

/-! ### spec_SortMessages: function 73 -/
mutual
def spec_SortMessages.l0 : Nat → List (S34) → List (S34) → Int → Option ((List (S34)))
 | 0, _, _, _ => none
 | k + 1, x0, x3, x4 => if x4 < (x0.length : Int) then (spec_SortMessages.j1 k x0 x3 x4 (decide ((x0.length : Int) ≤ 2000))) else (spec_SortMessages.j1 k x0 x3 x4 false)
def spec_SortMessages.j1 : Nat → List (S34) → List (S34) → Int → Bool → Option ((List (S34)))
 | 0, _, _, _, _ => none
 | k + 1, x0, x3, x4, x16 => if x16 = true then (spec_SortMessages.l1 k x0 x3 x4 (x3.length : Int)) else (some x3)
def spec_SortMessages.l1 : Nat → List (S34) → List (S34) → Int → Int → Option ((List (S34)))
 | 0, _, _, _, _ => none
 | k + 1, x0, x3, x4, x5 => if x5 > 0 then (if 0 ≤ x4 then (if x4 < (x0.length : Int) then (if 0 ≤ (wrap64 (x5 - 1)) then (if (wrap64 (x5 - 1)) < (x3.length : Int) then ((spec_l9Before.f ((rd_T34 x0 x4).f0) ((rd_T34 x0 x4).f1) ((rd_T34 x0 x4).f2) ((rd_T34 x3 (wrap64 (x5 - 1))).f0) ((rd_T34 x3 (wrap64 (x5 - 1))).f1) ((rd_T34 x3 (wrap64 (x5 - 1))).f2)).bind fun t112 => (if t112 = true then (spec_SortMessages.l1 k x0 x3 x4 (wrap64 (x5 - 1))) else ((some (([] : List (S34)) : List (S34))).bind fun y113 => (if 0 ≤ x5 then (if x5 ≤ (x3.length : Int) then ((some (x3.drop (x5 : Int).toNat : List (S34))).bind fun y116 => (if y113.length + y116.length < 5864062014805 then ((some (y113 ++ y116 : List (S34))).bind fun y120 => ((some (x3.take (x5 : Int).toNat : List (S34))).bind fun y123 => (if y123.length < 5864062014805 then ((some (y123 ++ [(⟨(rd_T34 x0 x4).f0, (rd_T34 x0 x4).f1, (rd_T34 x0 x4).f2⟩ : S34)] : List (S34))).bind fun y127 => (if y127.length + y120.length < 5864062014805 then (spec_SortMessages.l0 k x0 (y127 ++ y120) (wrap64 (x4 + 1))) else (none))) else (none)))) else (none))) else (none)) else (none))))) else (none)) else (none)) else (none)) else (none)) else ((some (([] : List (S34)) : List (S34))).bind fun y133 => (if 0 ≤ x5 then (if x5 ≤ (x3.length : Int) then ((some (x3.drop (x5 : Int).toNat : List (S34))).bind fun y136 => (if y133.length + y136.length < 5864062014805 then ((some (y133 ++ y136 : List (S34))).bind fun y140 => ((some (x3.take (x5 : Int).toNat : List (S34))).bind fun y143 => (if 0 ≤ x4 then (if x4 < (x0.length : Int) then (if y143.length < 5864062014805 then ((some (y143 ++ [(⟨(rd_T34 x0 x4).f0, (rd_T34 x0 x4).f1, (rd_T34 x0 x4).f2⟩ : S34)] : List (S34))).bind fun y147 => (if y147.length + y140.length < 5864062014805 then (spec_SortMessages.l0 k x0 (y147 ++ y140) (wrap64 (x4 + 1))) else (none))) else (none)) else (none)) else (none)))) else (none))) else (none)) else (none)))
end
def spec_SortMessages.f (k : Nat) (l0 : List (S34)) : Option ((List (S34))) := spec_SortMessages.l0 k l0 (([] : List (S34))) 0
theorem spec_SortMessages.mono_l : ∀ k, (∀ y0 y1 y2, LeO (spec_SortMessages.l0 k y0 y1 y2) (spec_SortMessages.l0 (k + 1) y0 y1 y2)) ∧ (∀ y0 y1 y2 y3, LeO (spec_SortMessages.j1 k y0 y1 y2 y3) (spec_SortMessages.j1 (k + 1) y0 y1 y2 y3)) ∧ (∀ y0 y1 y2 y3, LeO (spec_SortMessages.l1 k y0 y1 y2 y3) (spec_SortMessages.l1 (k + 1) y0 y1 y2 y3))
 | 0 => ⟨fun _ _ _ r h => by simp [spec_SortMessages.l0] at h, fun _ _ _ _ r h => by simp [spec_SortMessages.j1] at h, fun _ _ _ _ r h => by simp [spec_SortMessages.l1] at h⟩
 | k + 1 => by
  obtain ⟨ih0, ih1, ih2⟩ := spec_SortMessages.mono_l k
  refine ⟨?_, ?_, ?_⟩
  ·intro y0 y1 y2
   unfold spec_SortMessages.l0
   repeat' first
   | (with_reducible exact ih0 _ _ _)
   | (with_reducible exact ih1 _ _ _ _)
   | (with_reducible exact ih2 _ _ _ _)
   | (with_reducible exact LeO.refl _)
   | (with_reducible exact LeO.none _)
   | (with_reducible refine LeO.ite ?_ ?_)
   | (with_reducible refine LeO.bind ?_ (fun _ => ?_))
   | exact ih0 _ _ _
   | exact ih1 _ _ _ _
   | exact ih2 _ _ _ _
   | exact LeO.none _
   | refine LeO.ite ?_ ?_
   | refine LeO.bind ?_ (fun _ => ?_)
  ·intro y0 y1 y2 y3
   unfold spec_SortMessages.j1
   repeat' first
   | (with_reducible exact ih0 _ _ _)
   | (with_reducible exact ih1 _ _ _ _)
   | (with_reducible exact ih2 _ _ _ _)
   | (with_reducible exact LeO.refl _)
   | (with_reducible exact LeO.none _)
   | (with_reducible refine LeO.ite ?_ ?_)
   | (with_reducible refine LeO.bind ?_ (fun _ => ?_))
   | exact ih0 _ _ _
   | exact ih1 _ _ _ _
   | exact ih2 _ _ _ _
   | exact LeO.none _
   | refine LeO.ite ?_ ?_
   | refine LeO.bind ?_ (fun _ => ?_)
  ·intro y0 y1 y2 y3
   unfold spec_SortMessages.l1
   repeat' first
   | (with_reducible exact ih0 _ _ _)
   | (with_reducible exact ih1 _ _ _ _)
   | (with_reducible exact ih2 _ _ _ _)
   | (with_reducible exact LeO.refl _)
   | (with_reducible exact LeO.none _)
   | (with_reducible refine LeO.ite ?_ ?_)
   | (with_reducible refine LeO.bind ?_ (fun _ => ?_))
   | exact ih0 _ _ _
   | exact ih1 _ _ _ _
   | exact ih2 _ _ _ _
   | exact LeO.none _
   | refine LeO.ite ?_ ?_
   | refine LeO.bind ?_ (fun _ => ?_)
theorem spec_SortMessages.mono : ∀ a0 k, LeO (spec_SortMessages.f k a0) (spec_SortMessages.f (k + 1) a0) := by
 intro a0 k
 obtain ⟨ih0, ih1, ih2⟩ := spec_SortMessages.mono_l k
 unfold spec_SortMessages.f
 repeat' first
   | (with_reducible exact ih0 _ _ _)
   | (with_reducible exact ih1 _ _ _ _)
   | (with_reducible exact ih2 _ _ _ _)
   | (with_reducible exact LeO.refl _)
   | (with_reducible exact LeO.none _)
   | (with_reducible refine LeO.ite ?_ ?_)
   | (with_reducible refine LeO.bind ?_ (fun _ => ?_))
   | exact ih0 _ _ _
   | exact ih1 _ _ _ _
   | exact ih2 _ _ _ _
   | exact LeO.none _
   | refine LeO.ite ?_ ?_
   | refine LeO.bind ?_ (fun _ => ?_)
def spec_SortMessages.T6 : Bool × List (List Nat × List Nat) := (true, [([], []), ([0], [0]), ([1], [1]), ([2], [2]), ([2], [2]), ([3, 4, 2], [2, 3, 4]), ([5, 2], [2, 5]), ([2], [2]), ([2], [2]), ([8, 2], [2, 8]), ([7, 9, 2], [2, 7, 9]), ([10, 2], [2, 10]), ([6, 11, 2, 2], [2, 6, 11]), ([2, 12], [2, 12])])
def spec_SortMessages.B6 : List Nat := [0, 1, 3, 7, 7, 31, 63, 7, 7, 263, 903, 1927, 4095, 8191]
theorem spec_SortMessages.tab6 : rtab .any (opsOf Try.f73 6) = spec_SortMessages.T6 := by kernel_rfl
theorem spec_SortMessages.bits6 : waitsOk spec_SortMessages.T6.2 spec_SortMessages.B6 = true := by kernel_rfl
def spec_SortMessages.T9 : Bool × List (List Nat × List Nat) := (true, [([], []), ([], []), ([0, 1], [0, 1]), ([], []), ([], []), ([3, 4], [3, 4]), ([5], [5]), ([6], [6]), ([2, 7], [2, 7]), ([], []), ([8, 9, 8], [8, 9]), ([10, 10, 0, 1, 2, 3, 4, 5, 6, 7, 8, 9, 10], [0, 10])])
def spec_SortMessages.B9 : List Nat := [0, 0, 3, 0, 0, 24, 56, 120, 255, 0, 1023, 2047]
theorem spec_SortMessages.tab9 : rtab .any (opsOf Try.f73 9) = spec_SortMessages.T9 := by kernel_rfl
theorem spec_SortMessages.bits9 : waitsOk spec_SortMessages.T9.2 spec_SortMessages.B9 = true := by kernel_rfl
set_option maxHeartbeats 8000000 in
set_option maxRecDepth 100000 in
theorem spec_SortMessages.calls (k : Nat) (A0 : Option Addr) (c0 : Nat) (l0 : List (S34)) (r : List (S34)) (w : World) (hr0 : Kd.C k34 w A0 l0.length l0) (hc0 : l0.length ≤ c0) (h : spec_SortMessages.f k l0 = some r) :
  Calls Try.prog 73 #[.slice A0 l0.length c0] w fun e w' => ∃ v0_ : Value, e = .returned (v0_) ∧ Kd.R k34 34 w' w.heap.size (fun _ => True) v0_ r ∧ Below w.heap.size w w' := by
 have hu34 := Try.underlying34
 have HR0 := Aside0.mk hr0
 have HC0 := Aside0.mk hc0
 clear hr0 hc0
 have HB := Aside0.mk (Below.refl w.heap.size w)
 have H : (spec_SortMessages.l0 k l0 (([] : List (S34))) 0) = some r := h
 clear h
 obtain ⟨y107, hy107⟩ : ∃ y_ : List (S34), y_ = (([] : List (S34))) := ⟨_, rfl⟩
 replace H : (spec_SortMessages.l0 k l0 y107 0) = some r := by first | (rw [hy107]; with_reducible exact H) | (have H2_ := (Option.bind_some _ _).symm.trans H; rw [hy107]; with_reducible exact H2_) | (have H2_ := (Option.bind_some _ _).symm.trans H; with_reducible exact H2_) | with_reducible exact H | (rw [hy107]; exact H) | exact H
 have Ny107 := Aside0.mk hy107
 clear hy107
 have H' := Aside0.mk H
 clear H
 go_enter Try.func73, Try.ntmps73
 go_wp2_with (first | ((with_reducible refine gate_dst (N := 7) rfl ?_); (try (refine gate_guard (by rfl) ?_; dsimp only)); refine Kd.R_lit k34 _ 34 ?hg (N := 7) ?hd (xs := ([] : List (S34))) (inner := []) (ok := fun _ => True) (okp := fun _ => True) ?hr ?hp (fun _ hk => hk) trivial (Below.refl _ _) (Nat.le_refl _) (by simp) ?_; (case hd => rfl); (case hg => rfl); (case hr => exact z2_0); (case hp => exact (Reps.none _ _)); intro v108 w2 ho3 hb hg_ hnew_; clear hg_ hnew_; (first | rw [← Ny107.out] at ho3 | (simp only [Int.reduceToNat] at ho3; rw [← Ny107.out] at ho3)); have n0_ := Aside0.mk (Kd.R_lower ho3 (below_size z2_1)); have n1_ := Aside0.mk (below_step z2_1 hb); clear HB; have HO109 := n0_; have HB := n1_; clear n0_ n1_; clear hb ho3))
 go_loopg [3, 4] k (fun kq v3 v4 w' => ∃ (x3_1 : List (S34)) (x4_1 : Int), v4 = .int .i64 x4_1 ∧ Aside0 (spec_SortMessages.l0 kq l0 x3_1 x4_1 = some r) ∧ Aside0 (kq ≤ k) ∧ Aside0 (Kd.R k34 34 w' w.heap.size (fun _ => True) v3 x3_1) ∧ Aside0 (Below w.heap.size w w'))
 case atStart => exact ⟨(y107), (0), z2_4, H', ⟨Nat.le_refl _⟩, ⟨by (with_reducible repeat (first | apply Kd.R_alloc | apply Kd.R_drewN | apply Kd.R_drew)); exact HO109.out⟩, ⟨z2_1⟩⟩
 case round =>
  clear H'
  try clear p2
  obtain ⟨x3_1, x4_1, rfl, HA, HK1, HO_3, HB⟩ := hrel
  cases gk with
  | zero => exact absurd HA.out (by simp [spec_SortMessages.l0])
  | succ k1 =>
   have H := HA.out
   clear HA
   simp only [spec_SortMessages.l0] at H
   have HC4 := Aside0.mk H
   clear H
   go_upto_region 3 with (fail)
   go_cut [16] (fun v16 wc => ∃ (kq : Nat) (x16_3 : Bool), v16 = .bool x16_3 ∧ Aside0 (spec_SortMessages.j1 kq l0 x3_1 x4_1 x16_3 = some r) ∧ Aside0 (kq ≤ k1) ∧ Aside0 (Kd.R k34 34 wc w.heap.size (fun _ => True) u3 x3_1) ∧ Aside0 (Below w.heap.size w wc))
   case first =>
    have H := HC4.out
    clear HC4
    by_cases c5 : x4_1 < (l0.length : Int)
    ·rw [if_pos c5] at H
     have c5b0 : decide (x4_1 < (l0.length : Int)) = true := decide_eq_true c5
     clear c5
     (first | rw [c5b0] | (simp only [i64_w, i32_w]; rw [c5b0]) | skip)
     have H' := Aside0.mk H
     clear H
     go_wp2
     go_meet
     case rel => exact ⟨_, (decide ((l0.length : Int) ≤ 2000)), z2_4, H', ⟨by have := HK1.out; first | omega | exact Nat.le_refl _⟩, ⟨z2_2⟩, ⟨z2_1⟩⟩
    ·rw [if_neg c5] at H
     have c5b0 : decide (x4_1 < (l0.length : Int)) = false := decide_eq_false c5
     clear c5
     (first | rw [c5b0] | (simp only [i64_w, i32_w]; rw [c5b0]) | skip)
     have H' := Aside0.mk H
     clear H
     go_wp2
     go_meet
     case rel => exact ⟨_, (false), z2_4, H', ⟨by have := HK1.out; first | omega | exact Nat.le_refl _⟩, ⟨z2_2⟩, ⟨z2_1⟩⟩
   case rest =>
    clear HC4
    try clear p2
    try clear c5
    try clear c5b0
    try clear p2
    obtain ⟨kq, x16_3, rfl, HA, HJ3, HO_3, HB⟩ := hcut
    cases kq with
    | zero => exact absurd HA.out (by simp [spec_SortMessages.j1])
    | succ kj3 =>
     have H := HA.out
     clear HA
     simp only [spec_SortMessages.j1] at H
     by_cases c6 : x16_3 = true
     ·subst c6
      have H1 : (spec_SortMessages.l1 kj3 l0 x3_1 x4_1 (x3_1.length : Int)) = some r := by rw [if_pos rfl] at H; exact H
      clear H
      have H := H1
      clear H1
      have H' := Aside0.mk H
      clear H
      obtain ⟨Ao7, co7, eo7⟩ := Kd.R_slice HO_3.out
      subst eo7
      go_wp2
      go_loopg [5] kj3 (fun kq v5 w' => ∃ (x5_3 : Int), v5 = .int .i64 x5_3 ∧ Aside0 (spec_SortMessages.l1 kq l0 x3_1 x4_1 x5_3 = some r) ∧ Aside0 (kq ≤ kj3) ∧ Aside0 (Kd.R k34 34 w' w.heap.size (fun _ => True) (.slice Ao7 x3_1.length co7) x3_1) ∧ Aside0 (Below w.heap.size w w'))
      case atStart => exact ⟨((x3_1.length : Int)), z2_4, H', ⟨Nat.le_refl _⟩, ⟨z2_2⟩, ⟨z2_1⟩⟩
      case round =>
       clear H'
       try clear p2
       try clear c5
       try clear c5b0
       try clear c6
       try clear c7
       try clear p2
       obtain ⟨x5_3, rfl, HA, HK3, HO_3, HB⟩ := hrel
       cases gk with
       | zero => exact absurd HA.out (by simp [spec_SortMessages.l1])
       | succ k3 =>
        have H := HA.out
        clear HA
        simp only [spec_SortMessages.l1] at H
        by_cases c8 : x5_3 > 0
        ·rw [if_pos c8] at H
         have c8b0 : decide (0 < x5_3) = true := decide_eq_true c8
         clear c8
         by_cases c9 : 0 ≤ x4_1
         ·rw [if_pos c9] at H
          have c9b0 : decide (0 ≤ x4_1) = true := decide_eq_true c9
          clear c9
          by_cases c10 : x4_1 < (l0.length : Int)
          ·rw [if_pos c10] at H
           have c10b0 : decide (x4_1 < (l0.length : Int)) = true := decide_eq_true c10
           clear c10
           obtain ⟨ji11, hji11⟩ : ∃ j_ : Int, (wrap64 (x5_3 - 1)) = j_ := ⟨_, rfl⟩
           replace H : (if 0 ≤ (ji11) then (if (ji11) < (x3_1.length : Int) then ((spec_l9Before.f ((rd_T34 l0 x4_1).f0) ((rd_T34 l0 x4_1).f1) ((rd_T34 l0 x4_1).f2) ((rd_T34 x3_1 (ji11)).f0) ((rd_T34 x3_1 (ji11)).f1) ((rd_T34 x3_1 (ji11)).f2)).bind fun t112 => (if t112 = true then (spec_SortMessages.l1 k3 l0 x3_1 x4_1 ji11) else ((some (([] : List (S34)) : List (S34))).bind fun y113 => (if 0 ≤ x5_3 then (if x5_3 ≤ (x3_1.length : Int) then ((some (x3_1.drop (x5_3 : Int).toNat : List (S34))).bind fun y116 => (if y113.length + y116.length < 5864062014805 then ((some (y113 ++ y116 : List (S34))).bind fun y120 => ((some (x3_1.take (x5_3 : Int).toNat : List (S34))).bind fun y123 => (if y123.length < 5864062014805 then ((some (y123 ++ [(⟨(rd_T34 l0 x4_1).f0, (rd_T34 l0 x4_1).f1, (rd_T34 l0 x4_1).f2⟩ : S34)] : List (S34))).bind fun y127 => (if y127.length + y120.length < 5864062014805 then (spec_SortMessages.l0 k3 l0 (y127 ++ y120) (wrap64 (x4_1 + 1))) else (none))) else (none)))) else (none))) else (none)) else (none))))) else (none)) else (none)) = some r := by first | (rw [hji11] at H; exact H) | (simp only [hji11] at H ⊢; exact H)
           have hji11w : (IntKind.i64.wrap (x5_3 - 1)) = ji11 := (i64_w _).trans hji11
           by_cases c12 : 0 ≤ (ji11)
           ·rw [if_pos c12] at H
            have c12b0 : decide (0 ≤ (ji11)) = true := decide_eq_true c12
            clear c12
            by_cases c13 : (ji11) < (x3_1.length : Int)
            ·rw [if_pos c13] at H
             have c13b0 : decide ((ji11) < (x3_1.length : Int)) = true := decide_eq_true c13
             clear c13
             replace H := Option.bind_eq_some_iff.mp H
             obtain ⟨t112, A140, H⟩ := H
             replace H : (if t112 = true then (spec_SortMessages.l1 k3 l0 x3_1 x4_1 ji11) else ((some (([] : List (S34)) : List (S34))).bind fun y113 => (if 0 ≤ x5_3 then (if x5_3 ≤ (x3_1.length : Int) then ((some (x3_1.drop (x5_3 : Int).toNat : List (S34))).bind fun y116 => (if y113.length + y116.length < 5864062014805 then ((some (y113 ++ y116 : List (S34))).bind fun y120 => ((some (x3_1.take (x5_3 : Int).toNat : List (S34))).bind fun y123 => (if y123.length < 5864062014805 then ((some (y123 ++ [(⟨(rd_T34 l0 x4_1).f0, (rd_T34 l0 x4_1).f1, (rd_T34 l0 x4_1).f2⟩ : S34)] : List (S34))).bind fun y127 => (if y127.length + y120.length < 5864062014805 then (spec_SortMessages.l0 k3 l0 (y127 ++ y120) (wrap64 (x4_1 + 1))) else (none))) else (none)))) else (none))) else (none)) else (none)))) = some r := H
             have A14 := Aside0.mk A140
             clear A140
             by_cases c15 : t112 = true
             ·subst c15
              have H1 : (spec_SortMessages.l1 k3 l0 x3_1 x4_1 ji11) = some r := by rw [if_pos rfl] at H; exact H
              clear H
              have H := H1
              clear H1
              have H' := Aside0.mk H
              clear H
              try go_wp2
              have n0_ := Aside0.mk (Kd.R_drew HO_3.out)
              have n1_ := Aside0.mk (below_drew1 HB.out)
              clear HO_3
              clear HB
              have HO_3 := n0_
              have HB := n1_
              clear n0_ n1_
              have p110 : 0 ≤ (x4_1 : Int) := of_decide_eq_true z2_3
              have q110 : x4_1 < (l0.length : Int) := of_decide_eq_true z2_3
              obtain ⟨ad110, e110, hx110_0, hx110_1, hx110_2⟩ := at_T34 HR0.out x4_1 p110 q110
              have hw110_2 := hx110_2
              have hw110_1 := hx110_1
              have hw110_0 := hx110_0
              cases e110
              replace hx110_0 := (HB.out.cell (World.block_lt_of_cell? w _ hx110_0)).trans hx110_0
              replace hx110_1 := (HB.out.cell (World.block_lt_of_cell? w _ hx110_1)).trans hx110_1
              replace hx110_2 := (HB.out.cell (World.block_lt_of_cell? w _ hx110_2)).trans hx110_2
              replace p110 := eq_true p110
              replace q110 := eq_true q110
              have p111 : 0 ≤ ((ji11) : Int) := of_decide_eq_true z2_3
              have q111 : (ji11) < (x3_1.length : Int) := of_decide_eq_true z2_3
              obtain ⟨ad111, e111, hx111_0, hx111_1, hx111_2⟩ := at_T34 (Kd.R_reads' HO_3.out).2.2 (ji11) p111 q111
              cases e111
              replace p111 := eq_true p111
              replace q111 := eq_true q111
              refine start_ (n := 14) (S := fun w' => w'.cell? (ad110.add ((x4_1).toNat * 3)) = some (.int .i64 ((rd_T34 l0 x4_1).f0)) ∧ w'.cell? ⟨(ad110.add ((x4_1).toNat * 3)).block, (ad110.add ((x4_1).toNat * 3)).off + 1, none⟩ = some (.int .i64 ((rd_T34 l0 x4_1).f1)) ∧ w'.cell? ⟨(ad110.add ((x4_1).toNat * 3)).block, (ad110.add ((x4_1).toNat * 3)).off + 2, none⟩ = some (.int .i64 ((rd_T34 l0 x4_1).f2)) ∧ w'.cell? (ad111.add (((ji11)).toNat * 3)) = some (.int .i64 ((rd_T34 x3_1 (ji11)).f0)) ∧ w'.cell? ⟨(ad111.add (((ji11)).toNat * 3)).block, (ad111.add (((ji11)).toNat * 3)).off + 1, none⟩ = some (.int .i64 ((rd_T34 x3_1 (ji11)).f1)) ∧ w'.cell? ⟨(ad111.add (((ji11)).toNat * 3)).block, (ad111.add (((ji11)).toNat * 3)).off + 2, none⟩ = some (.int .i64 ((rd_T34 x3_1 (ji11)).f2))) (ds := []) (bm 14 0) (by kernel_rfl) rfl rfl ⟨((HB.out.cell (World.block_lt_of_cell? w _ hw110_0)).trans hw110_0), ((HB.out.cell (World.block_lt_of_cell? w _ hw110_1)).trans hw110_1), ((HB.out.cell (World.block_lt_of_cell? w _ hw110_2)).trans hw110_2), hx111_0, hx111_1, hx111_2⟩ (fun hHeld => ?_); refine with_tabW spec_SortMessages.tab6 spec_SortMessages.bits6 (fun HT_ HW_ => ?_)
              generalize wr.drew = w16 at HO_3 HB hx110_0 hx110_1 hx110_2 hx111_0 hx111_1 hx111_2 hHeld ⊢
              refine pure_ (i := 0) (N := some 21) (v := ?_) (a' := ?_) (bm 14 1) rfl rfl (any_of HT_.out (by kernel_rfl)) (fun _ _ _ h => h) (Or.inl ⟨by rfl, ?_⟩) ?_ ?_
              rotate_left
              ·intro w'
               go_simp
               with_reducible rfl
              rotate_left
              ·simp only [Act.put, List.setIfInBounds_toArray, List.set_cons_zero, List.set_cons_succ, i64_w, i32_w]
               rfl
              refine pure_ (i := 1) (N := some 22) (v := ?_) (a' := ?_) (bm 14 3) rfl rfl (any_of HT_.out (by kernel_rfl)) (fun _ _ _ h => h) (Or.inl ⟨by rfl, ?_⟩) ?_ ?_
              rotate_left
              ·intro w'
               go_simp
               with_reducible rfl
              rotate_left
              ·simp only [Act.put, List.setIfInBounds_toArray, List.set_cons_zero, List.set_cons_succ, i64_w, i32_w]
               rfl
              refine pure_ (i := 2) (N := some 23) (v := ?_) (a' := ?_) (bm 14 7) rfl rfl (any_of HT_.out (by kernel_rfl)) (fun _ _ _ h => h) (Or.inl ⟨by rfl, ?_⟩) ?_ ?_
              rotate_left
              ·intro w'
               go_simp
               with_reducible rfl
              rotate_left
              ·simp only [Act.put, List.setIfInBounds_toArray, List.set_cons_zero, List.set_cons_succ, i64_w, i32_w]
               rfl
              refine pure_ (i := 3) (N := some 24) (v := ?_) (a' := ?_) (bm 14 15) rfl rfl (any_of HT_.out (by kernel_rfl)) (fun _ _ _ h => h) (Or.inl ⟨by rfl, ?_⟩) ?_ ?_
              rotate_left
              ·intro w'
               go_simp
               with_reducible rfl
              rotate_left
              ·simp only [Act.put, List.setIfInBounds_toArray, List.set_cons_zero, List.set_cons_succ, i64_w, i32_w]
               rfl
              refine pure_ (i := 4) (N := some 25) (v := ?_) (a' := ?_) (bm 14 31) rfl rfl (any_of HT_.out (by kernel_rfl)) (fun _ _ _ h => h) (Or.inl ⟨by rfl, ?_⟩) ?_ ?_
              rotate_left
              ·intro w'
               go_simp
               with_reducible rfl
              rotate_left
              ·simp only [Act.put, List.setIfInBounds_toArray, List.set_cons_zero, List.set_cons_succ, i64_w, i32_w]
               rfl
              refine pure_ (i := 5) (N := some 26) (v := ?_) (a' := ?_) (bm 14 63) rfl rfl (any_of HT_.out (by kernel_rfl)) (fun _ _ _ h => h) (Or.inl ⟨by rfl, ?_⟩) ?_ ?_
              rotate_left
              ·intro w'
               go_simp
               with_reducible rfl
              rotate_left
              ·simp only [Act.put, List.setIfInBounds_toArray, List.set_cons_zero, List.set_cons_succ, i64_w, i32_w]
               rfl
              refine pure_ (i := 7) (N := some 28) (v := ?_) (a' := ?_) (bm 14 191) rfl rfl (any_of HT_.out (by kernel_rfl)) (fun _ _ _ h => h) (Or.inl ⟨by rfl, ?_⟩) ?_ ?_
              rotate_left
              ·intro w'
               go_simp
               with_reducible rfl
              rotate_left
              ·simp only [Act.put, List.setIfInBounds_toArray, List.set_cons_zero, List.set_cons_succ, i64_w, i32_w]
               rfl
              refine pure_ (i := 8) (N := some 29) (v := ?_) (a' := ?_) (bm 14 447) rfl rfl (any_of HT_.out (by kernel_rfl)) (fun _ _ _ h => h) (Or.inl ⟨by rfl, ?_⟩) ?_ ?_
              rotate_left
              ·intro w'
               go_simp
               with_reducible rfl
              rotate_left
              ·simp only [Act.put, List.setIfInBounds_toArray, List.set_cons_zero, List.set_cons_succ, i64_w, i32_w]
               rfl
              refine pure_ (i := 9) (N := some 30) (v := ?_) (a' := ?_) (bm 14 959) rfl rfl (any_of HT_.out (by kernel_rfl)) (fun _ _ _ h => h) (Or.inl ⟨by rfl, ?_⟩) ?_ ?_
              rotate_left
              ·intro w'
               go_simp
               with_reducible rfl
              rotate_left
              ·simp only [Act.put, List.setIfInBounds_toArray, List.set_cons_zero, List.set_cons_succ, i64_w, i32_w]
               rfl
              refine pure_ (i := 10) (N := some 31) (v := ?_) (a' := ?_) (bm 14 1983) rfl rfl (any_of HT_.out (by kernel_rfl)) (fun _ _ _ h => h) (Or.inl ⟨by rfl, ?_⟩) ?_ ?_
              rotate_left
              ·intro w'
               go_simp
               with_reducible rfl
              rotate_left
              ·simp only [Act.put, List.setIfInBounds_toArray, List.set_cons_zero, List.set_cons_succ, i64_w, i32_w]
               rfl
              refine take_ (i := 6) (N := some 27) (v := ?_) (a' := ?_) (bm 14 2047) rfl rfl (take_ofW HT_.out HW_.out (by kernel_rfl)) (fun _ _ _ h => h) (Or.inl ⟨by rfl, ?_⟩) hHeld ?_ ?_
              rotate_left
              ·rintro w' ⟨s0, s1, s2, s3, s4, s5⟩
               go_simp
               with_reducible rfl
              rotate_left
              ·simp only [Act.put, List.setIfInBounds_toArray, List.set_cons_zero, List.set_cons_succ, i64_w, i32_w]
               rfl
              refine take_ (i := 11) (N := some 32) (v := ?_) (a' := ?_) (bm 14 4095) rfl rfl (take_ofW HT_.out HW_.out (by kernel_rfl)) (fun _ _ _ h => h) (Or.inl ⟨by rfl, ?_⟩) hHeld ?_ ?_
              rotate_left
              ·rintro w' ⟨s0, s1, s2, s3, s4, s5⟩
               go_simp
               with_reducible rfl
              rotate_left
              ·simp only [Act.put, List.setIfInBounds_toArray, List.set_cons_zero, List.set_cons_succ, i64_w, i32_w]
               rfl
              refine one_ (i := 12) (N := some 33) (bm 14 8191) rfl rfl (one_of HT_.out (by kernel_rfl)) (by decide) (fun K hK => ?_)
              refine goes_ Try.func109 (by kernel_rfl) rfl #[.agg #[.int .i64 ((rd_T34 l0 x4_1).f0), .int .i64 ((rd_T34 l0 x4_1).f1), .int .i64 ((rd_T34 l0 x4_1).f2)], .agg #[.int .i64 ((rd_T34 x3_1 (ji11)).f0), .int .i64 ((rd_T34 x3_1 (ji11)).f1), .int .i64 ((rd_T34 x3_1 (ji11)).f2)]] (by rfl) rfl rfl z2_7 ?_
              with_reducible refine (spec_l9Before.calls ((rd_T34 l0 x4_1).f0) ((rd_T34 l0 x4_1).f1) ((rd_T34 l0 x4_1).f2) ((rd_T34 x3_1 (ji11)).f0) ((rd_T34 x3_1 (ji11)).f1) ((rd_T34 x3_1 (ji11)).f2) true _ A14.out).mono ?_
              rintro e w17 ⟨rfl, hb⟩
              have HS3_ := (hb.cell (World.block_lt_of_cell? _ _ (hHeld.2.2.2.1))).trans (hHeld.2.2.2.1)
              have HS4_ := (hb.cell (World.block_lt_of_cell? _ _ (hHeld.2.2.2.2.1))).trans (hHeld.2.2.2.2.1)
              have HS5_ := (hb.cell (World.block_lt_of_cell? _ _ (hHeld.2.2.2.2.2))).trans (hHeld.2.2.2.2.2)
              refine ⟨_, rfl, ?_⟩
              have n0_ := Aside0.mk (Kd.R_below z2_2 hb)
              have n1_ := Aside0.mk (below_step z2_1 hb)
              clear HO_3
              clear HB
              have HO_3 := n0_
              have HB := n1_
              clear n0_ n1_
              (try clear hb)
              (try clear hb2)
              (try clear hk)
              (try clear hi)
              refine hK.out _ _ ⟨((HB.out.cell (World.block_lt_of_cell? w _ hw110_0)).trans hw110_0), ((HB.out.cell (World.block_lt_of_cell? w _ hw110_1)).trans hw110_1), ((HB.out.cell (World.block_lt_of_cell? w _ hw110_2)).trans hw110_2), HS3_, HS4_, HS5_⟩ (fun hHeld => ?_)
              clear hK K
              refine norm_ (a' := ?_) ?_ ?_
              rotate_left
              ·show Act.put _ (some 33) _ = _
               simp only [Act.put, List.setIfInBounds_toArray, List.set_cons_zero, List.set_cons_succ, i64_w, i32_w]
               rfl
              refine pure_ (i := 13) (N := some 34) (v := ?_) (a' := ?_) (bm 14 16383) rfl rfl (any_of HT_.out (by kernel_rfl)) (fun _ _ _ h => h) (Or.inl ⟨by rfl, ?_⟩) ?_ ?_
              rotate_left
              ·intro w'
               go_simp
               with_reducible rfl
              rotate_left
              ·simp only [Act.put, List.setIfInBounds_toArray, List.set_cons_zero, List.set_cons_succ, i64_w, i32_w]
               rfl
              refine done_ (done_of HT_.out (by kernel_rfl)) ?_
              try go_wp2
              go_roundg k3
              case measure => have := HK1.out; have := HJ3.out; have := HK3.out; omega
              case rel => exact ⟨(ji11), (by first | rfl | (simp; done) | (simp only [← hji11] <;> (first | rfl | simp)) | (simp [*]; done)), H', ⟨z2_8⟩, ⟨z2_2⟩, ⟨z2_1⟩⟩
             ·replace c15 := Bool.eq_false_iff.mpr c15
              subst c15
              have H1 : ((some (([] : List (S34)) : List (S34))).bind fun y113 => (if 0 ≤ x5_3 then (if x5_3 ≤ (x3_1.length : Int) then ((some (x3_1.drop (x5_3 : Int).toNat : List (S34))).bind fun y116 => (if y113.length + y116.length < 5864062014805 then ((some (y113 ++ y116 : List (S34))).bind fun y120 => ((some (x3_1.take (x5_3 : Int).toNat : List (S34))).bind fun y123 => (if y123.length < 5864062014805 then ((some (y123 ++ [(⟨(rd_T34 l0 x4_1).f0, (rd_T34 l0 x4_1).f1, (rd_T34 l0 x4_1).f2⟩ : S34)] : List (S34))).bind fun y127 => (if y127.length + y120.length < 5864062014805 then (spec_SortMessages.l0 k3 l0 (y127 ++ y120) (wrap64 (x4_1 + 1))) else (none))) else (none)))) else (none))) else (none)) else (none))) = some r := by rw [if_neg (show ¬ (false = true) by decide)] at H; exact H
              clear H
              have H := H1
              clear H1
              obtain ⟨y113, hy113⟩ : ∃ y_ : List (S34), y_ = (([] : List (S34))) := ⟨_, rfl⟩
              replace H : (if 0 ≤ x5_3 then (if x5_3 ≤ (x3_1.length : Int) then ((some (x3_1.drop (x5_3 : Int).toNat : List (S34))).bind fun y116 => (if y113.length + y116.length < 5864062014805 then ((some (y113 ++ y116 : List (S34))).bind fun y120 => ((some (x3_1.take (x5_3 : Int).toNat : List (S34))).bind fun y123 => (if y123.length < 5864062014805 then ((some (y123 ++ [(⟨(rd_T34 l0 x4_1).f0, (rd_T34 l0 x4_1).f1, (rd_T34 l0 x4_1).f2⟩ : S34)] : List (S34))).bind fun y127 => (if y127.length + y120.length < 5864062014805 then (spec_SortMessages.l0 k3 l0 (y127 ++ y120) (wrap64 (x4_1 + 1))) else (none))) else (none)))) else (none))) else (none)) else (none)) = some r := by first | (rw [hy113]; with_reducible exact H) | (have H2_ := (Option.bind_some _ _).symm.trans H; rw [hy113]; with_reducible exact H2_) | (have H2_ := (Option.bind_some _ _).symm.trans H; with_reducible exact H2_) | with_reducible exact H | (rw [hy113]; exact H) | exact H
              have Ny113 := Aside0.mk hy113
              clear hy113
              by_cases c18 : 0 ≤ x5_3
              ·rw [if_pos c18] at H
               have c18b0 := eq_true c18
               have c18b1 : decide (0 ≤ x5_3) = true := decide_eq_true c18
               clear c18
               by_cases c19 : x5_3 ≤ (x3_1.length : Int)
               ·rw [if_pos c19] at H
                have c19b0 := eq_true c19
                have c19b1 : decide (x5_3 ≤ (x3_1.length : Int)) = true := decide_eq_true c19
                clear c19
                obtain ⟨y116, hy116⟩ : ∃ y_ : List (S34), y_ = (x3_1.drop (x5_3 : Int).toNat) := ⟨_, rfl⟩
                replace H : (if y113.length + y116.length < 5864062014805 then ((some (y113 ++ y116 : List (S34))).bind fun y120 => ((some (x3_1.take (x5_3 : Int).toNat : List (S34))).bind fun y123 => (if y123.length < 5864062014805 then ((some (y123 ++ [(⟨(rd_T34 l0 x4_1).f0, (rd_T34 l0 x4_1).f1, (rd_T34 l0 x4_1).f2⟩ : S34)] : List (S34))).bind fun y127 => (if y127.length + y120.length < 5864062014805 then (spec_SortMessages.l0 k3 l0 (y127 ++ y120) (wrap64 (x4_1 + 1))) else (none))) else (none)))) else (none)) = some r := by first | (rw [hy116]; with_reducible exact H) | (have H2_ := (Option.bind_some _ _).symm.trans H; rw [hy116]; with_reducible exact H2_) | (have H2_ := (Option.bind_some _ _).symm.trans H; with_reducible exact H2_) | with_reducible exact H | (rw [hy116]; exact H) | exact H
                have Ny116 := Aside0.mk hy116
                clear hy116
                by_cases c20 : y113.length + y116.length < 5864062014805
                ·rw [if_pos c20] at H
                 have LMc20 := Aside0.mk c20
                 clear c20
                 obtain ⟨y120, hy120⟩ : ∃ y_ : List (S34), y_ = (y113 ++ y116) := ⟨_, rfl⟩
                 replace H : ((some (x3_1.take (x5_3 : Int).toNat : List (S34))).bind fun y123 => (if y123.length < 5864062014805 then ((some (y123 ++ [(⟨(rd_T34 l0 x4_1).f0, (rd_T34 l0 x4_1).f1, (rd_T34 l0 x4_1).f2⟩ : S34)] : List (S34))).bind fun y127 => (if y127.length + y120.length < 5864062014805 then (spec_SortMessages.l0 k3 l0 (y127 ++ y120) (wrap64 (x4_1 + 1))) else (none))) else (none))) = some r := by first | (rw [hy120]; with_reducible exact H) | (have H2_ := (Option.bind_some _ _).symm.trans H; rw [hy120]; with_reducible exact H2_) | (have H2_ := (Option.bind_some _ _).symm.trans H; with_reducible exact H2_) | with_reducible exact H | (rw [hy120]; exact H) | exact H
                 have Ny120 := Aside0.mk hy120
                 clear hy120
                 have c21b0 := eq_true (of_decide_eq_true z2_3 : x5_3 ≤ (x3_1.length : Int))
                 obtain ⟨y123, hy123⟩ : ∃ y_ : List (S34), y_ = (x3_1.take (x5_3 : Int).toNat) := ⟨_, rfl⟩
                 replace H : (if y123.length < 5864062014805 then ((some (y123 ++ [(⟨(rd_T34 l0 x4_1).f0, (rd_T34 l0 x4_1).f1, (rd_T34 l0 x4_1).f2⟩ : S34)] : List (S34))).bind fun y127 => (if y127.length + y120.length < 5864062014805 then (spec_SortMessages.l0 k3 l0 (y127 ++ y120) (wrap64 (x4_1 + 1))) else (none))) else (none)) = some r := by first | (rw [hy123]; with_reducible exact H) | (have H2_ := (Option.bind_some _ _).symm.trans H; rw [hy123]; with_reducible exact H2_) | (have H2_ := (Option.bind_some _ _).symm.trans H; with_reducible exact H2_) | with_reducible exact H | (rw [hy123]; exact H) | exact H
                 have Ny123 := Aside0.mk hy123
                 clear hy123
                 by_cases c22 : y123.length < 5864062014805
                 ·rw [if_pos c22] at H
                  have LMc22 := Aside0.mk c22
                  clear c22
                  obtain ⟨y127, hy127⟩ : ∃ y_ : List (S34), y_ = (y123 ++ [(⟨(rd_T34 l0 x4_1).f0, (rd_T34 l0 x4_1).f1, (rd_T34 l0 x4_1).f2⟩ : S34)]) := ⟨_, rfl⟩
                  replace H : (if y127.length + y120.length < 5864062014805 then (spec_SortMessages.l0 k3 l0 (y127 ++ y120) (wrap64 (x4_1 + 1))) else (none)) = some r := by first | (rw [hy127]; with_reducible exact H) | (have H2_ := (Option.bind_some _ _).symm.trans H; rw [hy127]; with_reducible exact H2_) | (have H2_ := (Option.bind_some _ _).symm.trans H; with_reducible exact H2_) | with_reducible exact H | (rw [hy127]; exact H) | exact H
                  have Ny127 := Aside0.mk hy127
                  clear hy127
                  by_cases c23 : y127.length + y120.length < 5864062014805
                  ·rw [if_pos c23] at H
                   have LMc23 := Aside0.mk c23
                   clear c23
                   obtain ⟨y130, hy130⟩ : ∃ y_ : List (S34), y_ = (y127 ++ y120) := ⟨_, rfl⟩
                   replace H : (spec_SortMessages.l0 k3 l0 y130 (wrap64 (x4_1 + 1))) = some r := by first | (rw [hy130]; with_reducible exact H) | (have H2_ := (Option.bind_some _ _).symm.trans H; rw [hy130]; with_reducible exact H2_) | (have H2_ := (Option.bind_some _ _).symm.trans H; with_reducible exact H2_) | with_reducible exact H | (rw [hy130]; exact H) | exact H
                   have Ny130 := Aside0.mk hy130
                   clear hy130
                   have H' := Aside0.mk H
                   clear H
                   try go_wp2
                   have n0_ := Aside0.mk (Kd.R_drew HO_3.out)
                   have n1_ := Aside0.mk (below_drew1 HB.out)
                   clear HO_3
                   clear HB
                   have HO_3 := n0_
                   have HB := n1_
                   clear n0_ n1_
                   have p110 : 0 ≤ (x4_1 : Int) := of_decide_eq_true z2_3
                   have q110 : x4_1 < (l0.length : Int) := of_decide_eq_true z2_3
                   obtain ⟨ad110, e110, hx110_0, hx110_1, hx110_2⟩ := at_T34 HR0.out x4_1 p110 q110
                   have hw110_2 := hx110_2
                   have hw110_1 := hx110_1
                   have hw110_0 := hx110_0
                   cases e110
                   replace hx110_0 := (HB.out.cell (World.block_lt_of_cell? w _ hx110_0)).trans hx110_0
                   replace hx110_1 := (HB.out.cell (World.block_lt_of_cell? w _ hx110_1)).trans hx110_1
                   replace hx110_2 := (HB.out.cell (World.block_lt_of_cell? w _ hx110_2)).trans hx110_2
                   replace p110 := eq_true p110
                   replace q110 := eq_true q110
                   have p111 : 0 ≤ ((ji11) : Int) := of_decide_eq_true z2_3
                   have q111 : (ji11) < (x3_1.length : Int) := of_decide_eq_true z2_3
                   obtain ⟨ad111, e111, hx111_0, hx111_1, hx111_2⟩ := at_T34 (Kd.R_reads' HO_3.out).2.2 (ji11) p111 q111
                   cases e111
                   replace p111 := eq_true p111
                   replace q111 := eq_true q111
                   refine start_ (n := 14) (S := fun w' => w'.cell? (ad110.add ((x4_1).toNat * 3)) = some (.int .i64 ((rd_T34 l0 x4_1).f0)) ∧ w'.cell? ⟨(ad110.add ((x4_1).toNat * 3)).block, (ad110.add ((x4_1).toNat * 3)).off + 1, none⟩ = some (.int .i64 ((rd_T34 l0 x4_1).f1)) ∧ w'.cell? ⟨(ad110.add ((x4_1).toNat * 3)).block, (ad110.add ((x4_1).toNat * 3)).off + 2, none⟩ = some (.int .i64 ((rd_T34 l0 x4_1).f2)) ∧ w'.cell? (ad111.add (((ji11)).toNat * 3)) = some (.int .i64 ((rd_T34 x3_1 (ji11)).f0)) ∧ w'.cell? ⟨(ad111.add (((ji11)).toNat * 3)).block, (ad111.add (((ji11)).toNat * 3)).off + 1, none⟩ = some (.int .i64 ((rd_T34 x3_1 (ji11)).f1)) ∧ w'.cell? ⟨(ad111.add (((ji11)).toNat * 3)).block, (ad111.add (((ji11)).toNat * 3)).off + 2, none⟩ = some (.int .i64 ((rd_T34 x3_1 (ji11)).f2))) (ds := []) (bm 14 0) (by kernel_rfl) rfl rfl ⟨((HB.out.cell (World.block_lt_of_cell? w _ hw110_0)).trans hw110_0), ((HB.out.cell (World.block_lt_of_cell? w _ hw110_1)).trans hw110_1), ((HB.out.cell (World.block_lt_of_cell? w _ hw110_2)).trans hw110_2), hx111_0, hx111_1, hx111_2⟩ (fun hHeld => ?_); refine with_tabW spec_SortMessages.tab6 spec_SortMessages.bits6 (fun HT_ HW_ => ?_)
                   generalize wr.drew = w24 at HO_3 HB hx110_0 hx110_1 hx110_2 hx111_0 hx111_1 hx111_2 hHeld ⊢
                   refine pure_ (i := 0) (N := some 21) (v := ?_) (a' := ?_) (bm 14 1) rfl rfl (any_of HT_.out (by kernel_rfl)) (fun _ _ _ h => h) (Or.inl ⟨by rfl, ?_⟩) ?_ ?_
                   rotate_left
                   ·intro w'
                    go_simp
                    with_reducible rfl
                   rotate_left
                   ·simp only [Act.put, List.setIfInBounds_toArray, List.set_cons_zero, List.set_cons_succ, i64_w, i32_w]
                    rfl
                   refine pure_ (i := 1) (N := some 22) (v := ?_) (a' := ?_) (bm 14 3) rfl rfl (any_of HT_.out (by kernel_rfl)) (fun _ _ _ h => h) (Or.inl ⟨by rfl, ?_⟩) ?_ ?_
                   rotate_left
                   ·intro w'
                    go_simp
                    with_reducible rfl
                   rotate_left
                   ·simp only [Act.put, List.setIfInBounds_toArray, List.set_cons_zero, List.set_cons_succ, i64_w, i32_w]
                    rfl
                   refine pure_ (i := 2) (N := some 23) (v := ?_) (a' := ?_) (bm 14 7) rfl rfl (any_of HT_.out (by kernel_rfl)) (fun _ _ _ h => h) (Or.inl ⟨by rfl, ?_⟩) ?_ ?_
                   rotate_left
                   ·intro w'
                    go_simp
                    with_reducible rfl
                   rotate_left
                   ·simp only [Act.put, List.setIfInBounds_toArray, List.set_cons_zero, List.set_cons_succ, i64_w, i32_w]
                    rfl
                   refine pure_ (i := 3) (N := some 24) (v := ?_) (a' := ?_) (bm 14 15) rfl rfl (any_of HT_.out (by kernel_rfl)) (fun _ _ _ h => h) (Or.inl ⟨by rfl, ?_⟩) ?_ ?_
                   rotate_left
                   ·intro w'
                    go_simp
                    with_reducible rfl
                   rotate_left
                   ·simp only [Act.put, List.setIfInBounds_toArray, List.set_cons_zero, List.set_cons_succ, i64_w, i32_w]
                    rfl
                   refine pure_ (i := 4) (N := some 25) (v := ?_) (a' := ?_) (bm 14 31) rfl rfl (any_of HT_.out (by kernel_rfl)) (fun _ _ _ h => h) (Or.inl ⟨by rfl, ?_⟩) ?_ ?_
                   rotate_left
                   ·intro w'
                    go_simp
                    with_reducible rfl
                   rotate_left
                   ·simp only [Act.put, List.setIfInBounds_toArray, List.set_cons_zero, List.set_cons_succ, i64_w, i32_w]
                    rfl
                   refine pure_ (i := 5) (N := some 26) (v := ?_) (a' := ?_) (bm 14 63) rfl rfl (any_of HT_.out (by kernel_rfl)) (fun _ _ _ h => h) (Or.inl ⟨by rfl, ?_⟩) ?_ ?_
                   rotate_left
                   ·intro w'
                    go_simp
                    with_reducible rfl
                   rotate_left
                   ·simp only [Act.put, List.setIfInBounds_toArray, List.set_cons_zero, List.set_cons_succ, i64_w, i32_w]
                    rfl
                   refine pure_ (i := 7) (N := some 28) (v := ?_) (a' := ?_) (bm 14 191) rfl rfl (any_of HT_.out (by kernel_rfl)) (fun _ _ _ h => h) (Or.inl ⟨by rfl, ?_⟩) ?_ ?_
                   rotate_left
                   ·intro w'
                    go_simp
                    with_reducible rfl
                   rotate_left
                   ·simp only [Act.put, List.setIfInBounds_toArray, List.set_cons_zero, List.set_cons_succ, i64_w, i32_w]
                    rfl
                   refine pure_ (i := 8) (N := some 29) (v := ?_) (a' := ?_) (bm 14 447) rfl rfl (any_of HT_.out (by kernel_rfl)) (fun _ _ _ h => h) (Or.inl ⟨by rfl, ?_⟩) ?_ ?_
                   rotate_left
                   ·intro w'
                    go_simp
                    with_reducible rfl
                   rotate_left
                   ·simp only [Act.put, List.setIfInBounds_toArray, List.set_cons_zero, List.set_cons_succ, i64_w, i32_w]
                    rfl
                   refine pure_ (i := 9) (N := some 30) (v := ?_) (a' := ?_) (bm 14 959) rfl rfl (any_of HT_.out (by kernel_rfl)) (fun _ _ _ h => h) (Or.inl ⟨by rfl, ?_⟩) ?_ ?_
                   rotate_left
                   ·intro w'
                    go_simp
                    with_reducible rfl
                   rotate_left
                   ·simp only [Act.put, List.setIfInBounds_toArray, List.set_cons_zero, List.set_cons_succ, i64_w, i32_w]
                    rfl
                   refine pure_ (i := 10) (N := some 31) (v := ?_) (a' := ?_) (bm 14 1983) rfl rfl (any_of HT_.out (by kernel_rfl)) (fun _ _ _ h => h) (Or.inl ⟨by rfl, ?_⟩) ?_ ?_
                   rotate_left
                   ·intro w'
                    go_simp
                    with_reducible rfl
                   rotate_left
                   ·simp only [Act.put, List.setIfInBounds_toArray, List.set_cons_zero, List.set_cons_succ, i64_w, i32_w]
                    rfl
                   refine take_ (i := 6) (N := some 27) (v := ?_) (a' := ?_) (bm 14 2047) rfl rfl (take_ofW HT_.out HW_.out (by kernel_rfl)) (fun _ _ _ h => h) (Or.inl ⟨by rfl, ?_⟩) hHeld ?_ ?_
                   rotate_left
                   ·rintro w' ⟨s0, s1, s2, s3, s4, s5⟩
                    go_simp
                    with_reducible rfl
                   rotate_left
                   ·simp only [Act.put, List.setIfInBounds_toArray, List.set_cons_zero, List.set_cons_succ, i64_w, i32_w]
                    rfl
                   refine take_ (i := 11) (N := some 32) (v := ?_) (a' := ?_) (bm 14 4095) rfl rfl (take_ofW HT_.out HW_.out (by kernel_rfl)) (fun _ _ _ h => h) (Or.inl ⟨by rfl, ?_⟩) hHeld ?_ ?_
                   rotate_left
                   ·rintro w' ⟨s0, s1, s2, s3, s4, s5⟩
                    go_simp
                    with_reducible rfl
                   rotate_left
                   ·simp only [Act.put, List.setIfInBounds_toArray, List.set_cons_zero, List.set_cons_succ, i64_w, i32_w]
                    rfl
                   refine one_ (i := 12) (N := some 33) (bm 14 8191) rfl rfl (one_of HT_.out (by kernel_rfl)) (by decide) (fun K hK => ?_)
                   refine goes_ Try.func109 (by kernel_rfl) rfl #[.agg #[.int .i64 ((rd_T34 l0 x4_1).f0), .int .i64 ((rd_T34 l0 x4_1).f1), .int .i64 ((rd_T34 l0 x4_1).f2)], .agg #[.int .i64 ((rd_T34 x3_1 (ji11)).f0), .int .i64 ((rd_T34 x3_1 (ji11)).f1), .int .i64 ((rd_T34 x3_1 (ji11)).f2)]] (by rfl) rfl rfl z2_7 ?_
                   with_reducible refine (spec_l9Before.calls ((rd_T34 l0 x4_1).f0) ((rd_T34 l0 x4_1).f1) ((rd_T34 l0 x4_1).f2) ((rd_T34 x3_1 (ji11)).f0) ((rd_T34 x3_1 (ji11)).f1) ((rd_T34 x3_1 (ji11)).f2) false _ A14.out).mono ?_
                   rintro e w25 ⟨rfl, hb⟩
                   have HS3_ := (hb.cell (World.block_lt_of_cell? _ _ (hHeld.2.2.2.1))).trans (hHeld.2.2.2.1)
                   have HS4_ := (hb.cell (World.block_lt_of_cell? _ _ (hHeld.2.2.2.2.1))).trans (hHeld.2.2.2.2.1)
                   have HS5_ := (hb.cell (World.block_lt_of_cell? _ _ (hHeld.2.2.2.2.2))).trans (hHeld.2.2.2.2.2)
                   refine ⟨_, rfl, ?_⟩
                   have n0_ := Aside0.mk (Kd.R_below z2_2 hb)
                   have n1_ := Aside0.mk (below_step z2_1 hb)
                   clear HO_3
                   clear HB
                   have HO_3 := n0_
                   have HB := n1_
                   clear n0_ n1_
                   (try clear hb)
                   (try clear hb2)
                   (try clear hk)
                   (try clear hi)
                   refine hK.out _ _ ⟨((HB.out.cell (World.block_lt_of_cell? w _ hw110_0)).trans hw110_0), ((HB.out.cell (World.block_lt_of_cell? w _ hw110_1)).trans hw110_1), ((HB.out.cell (World.block_lt_of_cell? w _ hw110_2)).trans hw110_2), HS3_, HS4_, HS5_⟩ (fun hHeld => ?_)
                   clear hK K
                   refine norm_ (a' := ?_) ?_ ?_
                   rotate_left
                   ·show Act.put _ (some 33) _ = _
                    simp only [Act.put, List.setIfInBounds_toArray, List.set_cons_zero, List.set_cons_succ, i64_w, i32_w]
                    rfl
                   refine pure_ (i := 13) (N := some 34) (v := ?_) (a' := ?_) (bm 14 16383) rfl rfl (any_of HT_.out (by kernel_rfl)) (fun _ _ _ h => h) (Or.inl ⟨by rfl, ?_⟩) ?_ ?_
                   rotate_left
                   ·intro w'
                    go_simp
                    with_reducible rfl
                   rotate_left
                   ·simp only [Act.put, List.setIfInBounds_toArray, List.set_cons_zero, List.set_cons_succ, i64_w, i32_w]
                    rfl
                   refine done_ (done_of HT_.out (by kernel_rfl)) ?_
                   try go_wp2_with (first | ((with_reducible refine gate_dst (N := 37) rfl ?_); (try (refine gate_guard (by rfl) ?_; dsimp only)); refine Kd.R_lit k34 _ 34 ?hg (N := 37) ?hd (xs := ([] : List (S34))) (inner := []) (ok := fun _ => True) (okp := fun _ => True) ?hr ?hp (fun _ hk => hk) trivial (Below.refl _ _) (Nat.le_refl _) (by simp) ?_; (case hd => rfl); (case hg => rfl); (case hr => exact z2_0); (case hp => exact (Reps.none _ _)); intro v114 w26 ho27 hb hg_ hnew_; clear hg_ hnew_; (first | rw [← Ny113.out] at ho27 | (simp only [Int.reduceToNat] at ho27; rw [← Ny113.out] at ho27)); have n0_ := Aside0.mk (Kd.R_elder' z2_2 (Kd.R_base ho27) hb); have n1_ := Aside0.mk (Kd.R_lower (Kd.R_new' ho27 (Kd.R_lt z2_2)) (below_size z2_1)); have n2_ := Aside0.mk (below_step z2_1 hb); clear HO_3; clear HB; have HO_3 := n0_; have HO115 := n1_; have HB := n2_; clear n0_ n1_ n2_; clear hb ho27; have q28 : (x5_3 : Int) ≤ ((x3_1.length : Int) : Int) := of_decide_eq_true z2_3; obtain ⟨i028, hi028, _, hsz28, _⟩ := info_parts info34; have hroom28 : x3_1.length ≤ co7 := (Kd.R_reads' HO_3.out).2.1; have hC28 : Kd.C k34 _ (some ad111) x3_1.length x3_1 := (Kd.R_reads' HO_3.out).2.2; have q028 : (0 : Int) ≤ (x5_3 : Int) := of_decide_eq_true z2_3; have hcut28 := cut_from (P := Try.prog) 28 34 .i64 Try.underlying28 hi028 3 hsz28 (some ad111) x3_1.length co7 x5_3 q028 q28; have hr28 := Kd.C_drop (m := (x5_3 : Int).toNat) (c := co7) hC28 (by omega) hroom28; obtain ⟨A28, hA28⟩ : ∃ A1, A1 = (if co7 = (x5_3 : Int).toNat then (some ad111) else ((some ad111) : Option Addr).map (·.add ((x5_3 : Int).toNat * 3))) := ⟨_, rfl⟩; obtain ⟨c28, hc28⟩ : ∃ c1, c1 = co7 - (x5_3 : Int).toNat := ⟨_, rfl⟩; have hy28 : y116.length = x3_1.length - (x5_3 : Int).toNat := (by rw [Ny116.out, List.length_drop] <;> omega); rw [show (x3_1).drop (x5_3 : Int).toNat = y116 from Ny116.out.symm] at hr28; replace hr28 : Kd.C k34 _ A28 y116.length y116 := (by rw [hA28]; exact hr28); rw [← hy28, ← hA28, ← hc28] at hcut28; have HR119 := Aside0.mk hr28; have HC119 := Aside0.mk (show y116.length ≤ c28 from by rw [hy28, hc28]; exact Nat.sub_le_sub_right hroom28 _); clear hr28 hC28 hroom28 hi028 hsz28 hc28; have KY28 := Aside0.mk hy28; have KA28 := Aside0.mk hA28; clear hy28 hA28; have KL28 := Aside0.mk (show (x5_3 : Int).toNat ≤ x3_1.length from by omega); replace q28 := eq_true q28) | ((with_reducible refine gate_builtin (b := .append) (xs := #[.tmp 37, .tmp 40]) rfl ?_); (try (refine gate_guard (by rfl) ?_; dsimp only)); at_builtin; refine Kd.R_append_rows k34 (w0 := w) w.heap.size rfl (.tmp 37) (.tmp 40) 28 34 (.agg #[(.int .i64 0), (.int .i64 0), (.int .i64 0)]) 24 rfl Try.underlying28 info34 rfl (by decide) (by omega) v114 y113 y116 _ _ _ (fun k_ => some k_ ≠ (.slice (some ad111) x3_1.length co7 : Value).ownBlock) (fun _ => False) rfl rfl ?aO ?aR (fun _ _ h => h) (fun _ h => h.elim) ?aF ?aB ?aS ?aL ?_; (case aR => repeat (first | exact (by repeat (first | (with_reducible exact HR119.out) | (with_reducible refine Kd.C_alloc ?_ _) | (with_reducible refine Kd.C_drewN ?_ _) | (with_reducible refine Kd.C_drew ?_) | exact HR119.out)) | (with_reducible refine Kd.C_alloc ?_ _) | (with_reducible refine Kd.C_drewN ?_ _) | (with_reducible refine Kd.C_drew ?_))); (case aB => exact z2_1); (case aF => exact (fun k_ hk => Kd.fresh' (Kd.R_lt z2_2) k_ hk)); (case aO => exact (by (with_reducible repeat (first | apply Kd.R_alloc | apply Kd.R_drewN | apply Kd.R_drew)); exact Kd.R_mono HO115.out (fun _ hk => hk.2))); (case aS => exact (below_size z2_1)); (case aL => have := LMc20.out; omega); intro v121 w29 ho hb hg hat; rw [← Ny120.out] at ho; have n0_ := Aside0.mk (Kd.R_after (ok := (fun _ => True)) z2_2 hg hat); have n1_ := Aside0.mk (hb); have n2_ := Aside0.mk ((show Kd.C k34 w29 A28 y116.length y116 from by rw [Ny116.out, KA28.out]; exact Kd.C_drop (m := (x5_3 : Int).toNat) (c := co7) ((Kd.R_reads' (Kd.R_after (ok := (fun _ => True)) z2_2 hg hat)).2.2) KL28.out ((Kd.R_reads' (Kd.R_after (ok := (fun _ => True)) z2_2 hg hat)).2.1))); have n3_ := Aside0.mk (ho); clear HO_3; clear HB; clear HR119; clear HO115; have HO_3 := n0_; have HB := n1_; have HR119 := n2_; have HO122 := n3_; clear n0_ n1_ n2_ n3_; clear ho hb hg hat))
                   have n0_ := Aside0.mk (Kd.R_drew HO_3.out)
                   have n1_ := Aside0.mk (Kd.R_drew HO122.out)
                   have n2_ := Aside0.mk (Kd.C_drew HR119.out)
                   have n3_ := Aside0.mk (below_drew1 HB.out)
                   clear HO_3
                   clear HO122
                   clear HR119
                   clear HB
                   have HO_3 := n0_
                   have HO122 := n1_
                   have HR119 := n2_
                   have HB := n3_
                   clear n0_ n1_ n2_ n3_
                   have q31 : (x5_3 : Int) ≤ ((x3_1.length : Int) : Int) := of_decide_eq_true z2_3
                   obtain ⟨i031, hi031, _, hsz31, _⟩ := info_parts info34
                   have hcut31 := cut_to (P := Try.prog) 28 34 .i64 Try.underlying28 hi031 (some ad111) x3_1.length co7 x5_3 (of_decide_eq_true z2_3) q31 (Kd.R_reads' HO_3.out).2.1
                   have hr31 := Kd.R_take (m := (x5_3 : Int).toNat) HO_3.out (by omega)
                   have hy31 : y123.length = (x5_3 : Int).toNat := (by rw [Ny123.out, List.length_take]; omega)
                   rw [← Ny123.out] at hr31
                   rw [← hy31] at hr31 hcut31
                   clear hy31 hi031 hsz31 HO_3
                   have HO125 := Aside0.mk hr31
                   clear hr31
                   replace q31 := eq_true q31
                   have p126 : 0 ≤ (x4_1 : Int) := of_decide_eq_true z2_3
                   have q126 : x4_1 < (l0.length : Int) := of_decide_eq_true z2_3
                   obtain ⟨ad126, e126, hx126_0, hx126_1, hx126_2⟩ := at_T34 HR0.out x4_1 p126 q126
                   have hw126_2 := hx126_2
                   have hw126_1 := hx126_1
                   have hw126_0 := hx126_0
                   obtain rfl : ad110 = ad126 := (by injection e126)
                   replace hx126_0 := (HB.out.cell (World.block_lt_of_cell? w _ hx126_0)).trans hx126_0
                   replace hx126_1 := (HB.out.cell (World.block_lt_of_cell? w _ hx126_1)).trans hx126_1
                   replace hx126_2 := (HB.out.cell (World.block_lt_of_cell? w _ hx126_2)).trans hx126_2
                   replace p126 := eq_true p126
                   replace q126 := eq_true q126
                   refine start_ (n := 12) (S := fun w' => w'.cell? (ad110.add ((x4_1).toNat * 3)) = some (.int .i64 ((rd_T34 l0 x4_1).f0)) ∧ w'.cell? ⟨(ad110.add ((x4_1).toNat * 3)).block, (ad110.add ((x4_1).toNat * 3)).off + 1, none⟩ = some (.int .i64 ((rd_T34 l0 x4_1).f1)) ∧ w'.cell? ⟨(ad110.add ((x4_1).toNat * 3)).block, (ad110.add ((x4_1).toNat * 3)).off + 2, none⟩ = some (.int .i64 ((rd_T34 l0 x4_1).f2))) (ds := []) (bm 12 0) (by kernel_rfl) rfl rfl ⟨((HB.out.cell (World.block_lt_of_cell? w _ hw126_0)).trans hw126_0), ((HB.out.cell (World.block_lt_of_cell? w _ hw126_1)).trans hw126_1), ((HB.out.cell (World.block_lt_of_cell? w _ hw126_2)).trans hw126_2)⟩ (fun hHeld => ?_); refine with_tabW spec_SortMessages.tab9 spec_SortMessages.bits9 (fun HT_ HW_ => ?_)
                   generalize w29.drew = w30 at HO_3 HO122 HR119 HB HO125 hx126_0 hx126_1 hx126_2 hHeld ⊢
                   refine pure_ (i := 0) (N := some 42) (v := ?_) (a' := ?_) (bm 12 1) rfl rfl (any_of HT_.out (by kernel_rfl)) (fun _ _ _ h => h) (Or.inl ⟨by rfl, ?_⟩) ?_ ?_
                   rotate_left
                   ·intro w'
                    go_simp
                    with_reducible rfl
                   rotate_left
                   ·simp only [Act.put, List.setIfInBounds_toArray, List.set_cons_zero, List.set_cons_succ, i64_w, i32_w]
                    rfl
                   refine pure_ (i := 1) (N := some 43) (v := ?_) (a' := ?_) (bm 12 3) rfl rfl (any_of HT_.out (by kernel_rfl)) (fun _ _ _ h => h) (Or.inl ⟨by rfl, ?_⟩) ?_ ?_
                   rotate_left
                   ·intro w'
                    go_simp
                    with_reducible rfl
                   rotate_left
                   ·simp only [Act.put, List.setIfInBounds_toArray, List.set_cons_zero, List.set_cons_succ, i64_w, i32_w]
                    rfl
                   refine pure_ (i := 2) (N := some 44) (v := ?_) (a' := ?_) (bm 12 7) rfl rfl (any_of HT_.out (by kernel_rfl)) (fun _ _ _ h => h) (Or.inl ⟨by rfl, ?_⟩) ?_ ?_
                   rotate_left
                   ·intro w'
                    go_simp
                    with_reducible rfl
                   rotate_left
                   ·simp only [Act.put, List.setIfInBounds_toArray, List.set_cons_zero, List.set_cons_succ, i64_w, i32_w]
                    rfl
                   refine pure_ (i := 3) (N := some 45) (v := ?_) (a' := ?_) (bm 12 15) rfl rfl (any_of HT_.out (by kernel_rfl)) (fun _ _ _ h => h) (Or.inl ⟨by rfl, ?_⟩) ?_ ?_
                   rotate_left
                   ·intro w'
                    go_simp
                    with_reducible rfl
                   rotate_left
                   ·simp only [Act.put, List.setIfInBounds_toArray, List.set_cons_zero, List.set_cons_succ, i64_w, i32_w]
                    rfl
                   refine pure_ (i := 4) (N := some 46) (v := ?_) (a' := ?_) (bm 12 31) rfl rfl (any_of HT_.out (by kernel_rfl)) (fun _ _ _ h => h) (Or.inl ⟨by rfl, ?_⟩) ?_ ?_
                   rotate_left
                   ·intro w'
                    go_simp
                    with_reducible rfl
                   rotate_left
                   ·simp only [Act.put, List.setIfInBounds_toArray, List.set_cons_zero, List.set_cons_succ, i64_w, i32_w]
                    rfl
                   refine pure_ (i := 5) (N := some 47) (v := ?_) (a' := ?_) (bm 12 63) rfl rfl (any_of HT_.out (by kernel_rfl)) (fun _ _ _ h => h) (Or.inl ⟨by rfl, ?_⟩) ?_ ?_
                   rotate_left
                   ·intro w'
                    go_simp
                    with_reducible rfl
                   rotate_left
                   ·simp only [Act.put, List.setIfInBounds_toArray, List.set_cons_zero, List.set_cons_succ, i64_w, i32_w]
                    rfl
                   refine pure_ (i := 9) (N := some 51) (v := ?_) (a' := ?_) (bm 12 575) rfl rfl (any_of HT_.out (by kernel_rfl)) (fun _ _ _ h => h) (Or.inl ⟨by rfl, ?_⟩) ?_ ?_
                   rotate_left
                   ·intro w'
                    go_simp
                    with_reducible rfl
                   rotate_left
                   ·simp only [Act.put, List.setIfInBounds_toArray, List.set_cons_zero, List.set_cons_succ, i64_w, i32_w]
                    rfl
                   refine take_ (i := 6) (N := some 48) (v := ?_) (a' := ?_) (bm 12 639) rfl rfl (take_ofW HT_.out HW_.out (by kernel_rfl)) (fun _ _ _ h => h) (Or.inl ⟨by rfl, ?_⟩) hHeld ?_ ?_
                   rotate_left
                   ·rintro w' ⟨s0, s1, s2⟩
                    go_simp
                    with_reducible rfl
                   rotate_left
                   ·simp only [Act.put, List.setIfInBounds_toArray, List.set_cons_zero, List.set_cons_succ, i64_w, i32_w]
                    rfl
                   refine one_ (i := 7) (N := some 49) (bm 12 767) rfl rfl (one_of HT_.out (by kernel_rfl)) (by decide) (fun K hK => ?_)
                   refine value_ (w1 := ?_) (v := ?_) (by rfl) rfl ?_ ?_
                   rotate_left 2
                   ·go_simp
                    constructor
                    ·rfl
                    ·rfl
                   refine hK.out _ _ ⟨(World.cell?_alloc_lt _ _ _ (World.block_lt_of_cell? _ _ (((HB.out.cell (World.block_lt_of_cell? w _ hw126_0)).trans hw126_0)))).trans (((HB.out.cell (World.block_lt_of_cell? w _ hw126_0)).trans hw126_0)), (World.cell?_alloc_lt _ _ _ (World.block_lt_of_cell? _ _ (((HB.out.cell (World.block_lt_of_cell? w _ hw126_1)).trans hw126_1)))).trans (((HB.out.cell (World.block_lt_of_cell? w _ hw126_1)).trans hw126_1)), (World.cell?_alloc_lt _ _ _ (World.block_lt_of_cell? _ _ (((HB.out.cell (World.block_lt_of_cell? w _ hw126_2)).trans hw126_2)))).trans (((HB.out.cell (World.block_lt_of_cell? w _ hw126_2)).trans hw126_2))⟩ (fun hHeld => ?_)
                   clear hK K
                   refine norm_ (a' := ?_) ?_ ?_
                   rotate_left
                   ·show Act.put _ (some 49) _ = _
                    simp only [Act.put, List.setIfInBounds_toArray, List.set_cons_zero, List.set_cons_succ, i64_w, i32_w]
                    rfl
                   refine one_ (i := 8) (N := some 50) (bm 12 1023) rfl rfl (one_of HT_.out (by kernel_rfl)) (by decide) (fun K hK => ?_)
                   refine Kd.R_append_step k34 (w0 := w) w.heap.size (by rfl) (.tmp 44) (.tmp 49) 28 34 (.agg #[(.int .i64 0), (.int .i64 0), (.int .i64 0)]) 24 rfl Try.underlying28 info34 rfl (by decide) (by omega) (.slice (some ad111) y123.length co7) y123 (⟨(rd_T34 l0 x4_1).f0, (rd_T34 l0 x4_1).f1, (rd_T34 l0 x4_1).f2⟩ : S34) [.int .i64 ((rd_T34 l0 x4_1).f0), .int .i64 ((rd_T34 l0 x4_1).f1), .int .i64 ((rd_T34 l0 x4_1).f2)] (fun k_ => some k_ ≠ (v121 : Value).ownBlock) (fun _ => False) rfl rfl ?aP (fun _ hk => hk.elim) ?aF ?aO ?aB ?aS ?aL ?_
                   (case aP => exact k34_mkM _ _ _ (⟨(rd_T34 l0 x4_1).f0, (rd_T34 l0 x4_1).f1, (rd_T34 l0 x4_1).f2⟩ : S34))
                   (case aB => exact z2_1)
                   (case aF => exact (fun k_ hk => Kd.fresh' (Kd.R_lt z2_5) k_ hk))
                   (case aO => exact (by (with_reducible repeat (first | apply Kd.R_alloc | apply Kd.R_drewN | apply Kd.R_drew)); exact Kd.R_mono HO125.out (fun _ hk => hk.2)))
                   (case aS => exact (below_size z2_1))
                   (case aL => have := LMc22.out; omega)
                   intro v128 w32 ho hb hg hat
                   rw [← Ny127.out] at ho
                   have n0_ := Aside0.mk (Kd.R_after (ok := (fun _ => True)) (by (with_reducible repeat (first | apply Kd.R_alloc | apply Kd.R_drewN | apply Kd.R_drew)); exact Kd.R_mono HO122.out (fun _ hk => ⟨trivial, by first | exact hk | exact fun e => hk (e.trans (by kernel_rfl))⟩)) hg hat)
                   have n1_ := Aside0.mk (hb)
                   have n2_ := Aside0.mk (ho)
                   clear HO122
                   clear HB
                   clear HO125
                   have HO122 := n0_
                   have HB := n1_
                   have HO129 := n2_
                   clear n0_ n1_ n2_
                   clear ho hb hg hat
                   obtain ⟨Ao34, co34, eo34⟩ := Kd.R_slice HO122.out
                   (first | subst eo34 | (injection eo34 with f1_ f2_ f3_; have f4_ := f1_.symm; have f5_ := f3_.symm; clear f1_ f2_ f3_; subst f4_; subst f5_))
                   refine hK.out _ _ ⟨((HB.out.cell (World.block_lt_of_cell? w _ hw126_0)).trans hw126_0), ((HB.out.cell (World.block_lt_of_cell? w _ hw126_1)).trans hw126_1), ((HB.out.cell (World.block_lt_of_cell? w _ hw126_2)).trans hw126_2)⟩ (fun hHeld => ?_)
                   clear hK K
                   refine norm_ (a' := ?_) ?_ ?_
                   rotate_left
                   ·show Act.put _ (some 50) _ = _
                    simp only [Act.put, List.setIfInBounds_toArray, List.set_cons_zero, List.set_cons_succ, i64_w, i32_w]
                    rfl
                   refine one_ (i := 10) (N := some 52) (bm 12 2047) rfl rfl (one_of HT_.out (by kernel_rfl)) (by decide) (fun K hK => ?_)
                   refine Kd.R_append_rows_step k34 (w0 := w) w.heap.size (by rfl) (.tmp 50) (.tmp 51) 28 34 (.agg #[(.int .i64 0), (.int .i64 0), (.int .i64 0)]) 24 rfl Try.underlying28 info34 rfl (by decide) (by omega) v128 y127 y120 _ _ _ (fun k_ => some k_ ≠ (.slice Ao34 y120.length co34 : Value).ownBlock) (fun _ => False) rfl rfl ?aO ?aR (fun _ _ h => h) (fun _ h => h.elim) ?aF ?aB ?aS ?aL ?_
                   (case aR => repeat (first | exact (Kd.R_reads' HO122.out).2.2 | (with_reducible refine Kd.C_alloc ?_ _) | (with_reducible refine Kd.C_drewN ?_ _) | (with_reducible refine Kd.C_drew ?_)))
                   (case aB => exact z2_1)
                   (case aF => exact (fun k_ hk => Kd.fresh' (Kd.R_lt z2_5) k_ hk))
                   (case aO => exact (by (with_reducible repeat (first | apply Kd.R_alloc | apply Kd.R_drewN | apply Kd.R_drew)); exact HO129.out))
                   (case aS => exact (below_size z2_1))
                   (case aL => have := LMc23.out; omega)
                   intro v131 w33 ho hb hg hat
                   rw [← Ny130.out] at ho
                   have n0_ := Aside0.mk (Kd.R_after (ok := (fun _ => True)) z2_5 hg hat)
                   have n1_ := Aside0.mk (hb)
                   have n2_ := Aside0.mk (ho)
                   clear HO122
                   clear HB
                   clear HO129
                   have HO122 := n0_
                   have HB := n1_
                   have HO132 := n2_
                   clear n0_ n1_ n2_
                   clear ho hb hg hat
                   refine hK.out _ _ ⟨((HB.out.cell (World.block_lt_of_cell? w _ hw126_0)).trans hw126_0), ((HB.out.cell (World.block_lt_of_cell? w _ hw126_1)).trans hw126_1), ((HB.out.cell (World.block_lt_of_cell? w _ hw126_2)).trans hw126_2)⟩ (fun hHeld => ?_)
                   clear hK K
                   refine norm_ (a' := ?_) ?_ ?_
                   rotate_left
                   ·show Act.put _ (some 52) _ = _
                    simp only [Act.put, List.setIfInBounds_toArray, List.set_cons_zero, List.set_cons_succ, i64_w, i32_w]
                    rfl
                   refine pure_ (i := 11) (N := some 3) (v := ?_) (a' := ?_) (bm 12 4095) rfl rfl (any_of HT_.out (by kernel_rfl)) (fun _ _ _ h => h) (Or.inl ⟨by rfl, ?_⟩) ?_ ?_
                   rotate_left
                   ·intro w'
                    go_simp
                    with_reducible rfl
                   rotate_left
                   ·simp only [Act.put, List.setIfInBounds_toArray, List.set_cons_zero, List.set_cons_succ, i64_w, i32_w]
                    rfl
                   refine done_ (done_of HT_.out (by kernel_rfl)) ?_
                   try go_wp2
                   go_roundg k3
                   case measure => have := HK1.out; have := HJ3.out; have := HK3.out; omega
                   case rel => exact ⟨(y130), (wrap64 (x4_1 + 1)), z2_4, H', ⟨z2_8⟩, ⟨by (with_reducible repeat (first | apply Kd.R_alloc | apply Kd.R_drewN | apply Kd.R_drew)); exact Kd.R_mono HO132.out (fun _ hk => trivial)⟩, ⟨z2_1⟩⟩
                  ·rw [if_neg c23] at H
                   exact absurd H (by simp)
                 ·rw [if_neg c22] at H
                  exact absurd H (by simp)
                ·rw [if_neg c20] at H
                 exact absurd H (by simp)
               ·rw [if_neg c19] at H
                exact absurd H (by simp)
              ·rw [if_neg c18] at H
               exact absurd H (by simp)
            ·rw [if_neg c13] at H
             exact absurd H (by simp)
           ·rw [if_neg c12] at H
            exact absurd H (by simp)
          ·rw [if_neg c10] at H
           exact absurd H (by simp)
         ·rw [if_neg c9] at H
          exact absurd H (by simp)
        ·rw [if_neg c8] at H
         have c8b0 : decide (0 < x5_3) = false := decide_eq_false c8
         clear c8
         obtain ⟨y133, hy133⟩ : ∃ y_ : List (S34), y_ = (([] : List (S34))) := ⟨_, rfl⟩
         replace H : (if 0 ≤ x5_3 then (if x5_3 ≤ (x3_1.length : Int) then ((some (x3_1.drop (x5_3 : Int).toNat : List (S34))).bind fun y136 => (if y133.length + y136.length < 5864062014805 then ((some (y133 ++ y136 : List (S34))).bind fun y140 => ((some (x3_1.take (x5_3 : Int).toNat : List (S34))).bind fun y143 => (if 0 ≤ x4_1 then (if x4_1 < (l0.length : Int) then (if y143.length < 5864062014805 then ((some (y143 ++ [(⟨(rd_T34 l0 x4_1).f0, (rd_T34 l0 x4_1).f1, (rd_T34 l0 x4_1).f2⟩ : S34)] : List (S34))).bind fun y147 => (if y147.length + y140.length < 5864062014805 then (spec_SortMessages.l0 k3 l0 (y147 ++ y140) (wrap64 (x4_1 + 1))) else (none))) else (none)) else (none)) else (none)))) else (none))) else (none)) else (none)) = some r := by first | (rw [hy133]; with_reducible exact H) | (have H2_ := (Option.bind_some _ _).symm.trans H; rw [hy133]; with_reducible exact H2_) | (have H2_ := (Option.bind_some _ _).symm.trans H; with_reducible exact H2_) | with_reducible exact H | (rw [hy133]; exact H) | exact H
         have Ny133 := Aside0.mk hy133
         clear hy133
         by_cases c35 : 0 ≤ x5_3
         ·rw [if_pos c35] at H
          have c35b0 := eq_true c35
          have c35b1 : decide (0 ≤ x5_3) = true := decide_eq_true c35
          clear c35
          by_cases c36 : x5_3 ≤ (x3_1.length : Int)
          ·rw [if_pos c36] at H
           have c36b0 := eq_true c36
           have c36b1 : decide (x5_3 ≤ (x3_1.length : Int)) = true := decide_eq_true c36
           clear c36
           obtain ⟨y136, hy136⟩ : ∃ y_ : List (S34), y_ = (x3_1.drop (x5_3 : Int).toNat) := ⟨_, rfl⟩
           replace H : (if y133.length + y136.length < 5864062014805 then ((some (y133 ++ y136 : List (S34))).bind fun y140 => ((some (x3_1.take (x5_3 : Int).toNat : List (S34))).bind fun y143 => (if 0 ≤ x4_1 then (if x4_1 < (l0.length : Int) then (if y143.length < 5864062014805 then ((some (y143 ++ [(⟨(rd_T34 l0 x4_1).f0, (rd_T34 l0 x4_1).f1, (rd_T34 l0 x4_1).f2⟩ : S34)] : List (S34))).bind fun y147 => (if y147.length + y140.length < 5864062014805 then (spec_SortMessages.l0 k3 l0 (y147 ++ y140) (wrap64 (x4_1 + 1))) else (none))) else (none)) else (none)) else (none)))) else (none)) = some r := by first | (rw [hy136]; with_reducible exact H) | (have H2_ := (Option.bind_some _ _).symm.trans H; rw [hy136]; with_reducible exact H2_) | (have H2_ := (Option.bind_some _ _).symm.trans H; with_reducible exact H2_) | with_reducible exact H | (rw [hy136]; exact H) | exact H
           have Ny136 := Aside0.mk hy136
           clear hy136
           by_cases c37 : y133.length + y136.length < 5864062014805
           ·rw [if_pos c37] at H
            have LMc37 := Aside0.mk c37
            clear c37
            obtain ⟨y140, hy140⟩ : ∃ y_ : List (S34), y_ = (y133 ++ y136) := ⟨_, rfl⟩
            replace H : ((some (x3_1.take (x5_3 : Int).toNat : List (S34))).bind fun y143 => (if 0 ≤ x4_1 then (if x4_1 < (l0.length : Int) then (if y143.length < 5864062014805 then ((some (y143 ++ [(⟨(rd_T34 l0 x4_1).f0, (rd_T34 l0 x4_1).f1, (rd_T34 l0 x4_1).f2⟩ : S34)] : List (S34))).bind fun y147 => (if y147.length + y140.length < 5864062014805 then (spec_SortMessages.l0 k3 l0 (y147 ++ y140) (wrap64 (x4_1 + 1))) else (none))) else (none)) else (none)) else (none))) = some r := by first | (rw [hy140]; with_reducible exact H) | (have H2_ := (Option.bind_some _ _).symm.trans H; rw [hy140]; with_reducible exact H2_) | (have H2_ := (Option.bind_some _ _).symm.trans H; with_reducible exact H2_) | with_reducible exact H | (rw [hy140]; exact H) | exact H
            have Ny140 := Aside0.mk hy140
            clear hy140
            have c38b0 := eq_true (of_decide_eq_true z2_3 : x5_3 ≤ (x3_1.length : Int))
            obtain ⟨y143, hy143⟩ : ∃ y_ : List (S34), y_ = (x3_1.take (x5_3 : Int).toNat) := ⟨_, rfl⟩
            replace H : (if 0 ≤ x4_1 then (if x4_1 < (l0.length : Int) then (if y143.length < 5864062014805 then ((some (y143 ++ [(⟨(rd_T34 l0 x4_1).f0, (rd_T34 l0 x4_1).f1, (rd_T34 l0 x4_1).f2⟩ : S34)] : List (S34))).bind fun y147 => (if y147.length + y140.length < 5864062014805 then (spec_SortMessages.l0 k3 l0 (y147 ++ y140) (wrap64 (x4_1 + 1))) else (none))) else (none)) else (none)) else (none)) = some r := by first | (rw [hy143]; with_reducible exact H) | (have H2_ := (Option.bind_some _ _).symm.trans H; rw [hy143]; with_reducible exact H2_) | (have H2_ := (Option.bind_some _ _).symm.trans H; with_reducible exact H2_) | with_reducible exact H | (rw [hy143]; exact H) | exact H
            have Ny143 := Aside0.mk hy143
            clear hy143
            by_cases c39 : 0 ≤ x4_1
            ·rw [if_pos c39] at H
             have c39b0 : decide (0 ≤ x4_1) = true := decide_eq_true c39
             clear c39
             by_cases c40 : x4_1 < (l0.length : Int)
             ·rw [if_pos c40] at H
              have c40b0 : decide (x4_1 < (l0.length : Int)) = true := decide_eq_true c40
              clear c40
              by_cases c41 : y143.length < 5864062014805
              ·rw [if_pos c41] at H
               have LMc41 := Aside0.mk c41
               clear c41
               obtain ⟨y147, hy147⟩ : ∃ y_ : List (S34), y_ = (y143 ++ [(⟨(rd_T34 l0 x4_1).f0, (rd_T34 l0 x4_1).f1, (rd_T34 l0 x4_1).f2⟩ : S34)]) := ⟨_, rfl⟩
               replace H : (if y147.length + y140.length < 5864062014805 then (spec_SortMessages.l0 k3 l0 (y147 ++ y140) (wrap64 (x4_1 + 1))) else (none)) = some r := by first | (rw [hy147]; with_reducible exact H) | (have H2_ := (Option.bind_some _ _).symm.trans H; rw [hy147]; with_reducible exact H2_) | (have H2_ := (Option.bind_some _ _).symm.trans H; with_reducible exact H2_) | with_reducible exact H | (rw [hy147]; exact H) | exact H
               have Ny147 := Aside0.mk hy147
               clear hy147
               by_cases c42 : y147.length + y140.length < 5864062014805
               ·rw [if_pos c42] at H
                have LMc42 := Aside0.mk c42
                clear c42
                obtain ⟨y150, hy150⟩ : ∃ y_ : List (S34), y_ = (y147 ++ y140) := ⟨_, rfl⟩
                replace H : (spec_SortMessages.l0 k3 l0 y150 (wrap64 (x4_1 + 1))) = some r := by first | (rw [hy150]; with_reducible exact H) | (have H2_ := (Option.bind_some _ _).symm.trans H; rw [hy150]; with_reducible exact H2_) | (have H2_ := (Option.bind_some _ _).symm.trans H; with_reducible exact H2_) | with_reducible exact H | (rw [hy150]; exact H) | exact H
                have Ny150 := Aside0.mk hy150
                clear hy150
                have H' := Aside0.mk H
                clear H
                try go_wp2
                have n0_ := Aside0.mk (Kd.R_drew HO_3.out)
                have n1_ := Aside0.mk (below_drew1 HB.out)
                clear HO_3
                clear HB
                have HO_3 := n0_
                have HB := n1_
                clear n0_ n1_
                refine start_ (n := 14) (S := fun w' => True) (ds := []) (bm 14 0) (by kernel_rfl) rfl rfl trivial (fun hHeld => ?_); refine with_tabW spec_SortMessages.tab6 spec_SortMessages.bits6 (fun HT_ HW_ => ?_)
                generalize wr.drew = w43 at HO_3 HB hHeld ⊢
                refine pure_ (i := 0) (N := some 21) (v := ?_) (a' := ?_) (bm 14 1) rfl rfl (any_of HT_.out (by kernel_rfl)) (fun _ _ _ h => h) (Or.inl ⟨by rfl, ?_⟩) ?_ ?_
                rotate_left
                ·intro w'
                 go_simp
                 with_reducible rfl
                rotate_left
                ·simp only [Act.put, List.setIfInBounds_toArray, List.set_cons_zero, List.set_cons_succ, i64_w, i32_w]
                 rfl
                refine pure_ (i := 1) (N := some 22) (v := ?_) (a' := ?_) (bm 14 3) rfl rfl (any_of HT_.out (by kernel_rfl)) (fun _ _ _ h => h) (Or.inl ⟨by rfl, ?_⟩) ?_ ?_
                rotate_left
                ·intro w'
                 go_simp
                 with_reducible rfl
                rotate_left
                ·simp only [Act.put, List.setIfInBounds_toArray, List.set_cons_zero, List.set_cons_succ, i64_w, i32_w]
                 rfl
                refine pure_ (i := 2) (N := some 23) (v := ?_) (a' := ?_) (bm 14 7) rfl rfl (any_of HT_.out (by kernel_rfl)) (fun _ _ _ h => h) (Or.inl ⟨by rfl, ?_⟩) ?_ ?_
                rotate_left
                ·intro w'
                 go_simp
                 with_reducible rfl
                rotate_left
                ·simp only [Act.put, List.setIfInBounds_toArray, List.set_cons_zero, List.set_cons_succ, i64_w, i32_w]
                 rfl
                refine pure_ (i := 3) (N := some 24) (v := undef) (a' := ?_) (bm 14 15) rfl rfl (any_of HT_.out (by kernel_rfl)) (fun _ _ _ h => h) (Or.inr ⟨by rfl, rfl⟩) ?_ ?_
                rotate_left
                ·simp only [Act.put, List.setIfInBounds_toArray, List.set_cons_zero, List.set_cons_succ, i64_w, i32_w]
                 rfl
                refine pure_ (i := 4) (N := some 25) (v := undef) (a' := ?_) (bm 14 31) rfl rfl (any_of HT_.out (by kernel_rfl)) (fun _ _ _ h => h) (Or.inr ⟨by rfl, rfl⟩) ?_ ?_
                rotate_left
                ·simp only [Act.put, List.setIfInBounds_toArray, List.set_cons_zero, List.set_cons_succ, i64_w, i32_w]
                 rfl
                refine pure_ (i := 5) (N := some 26) (v := undef) (a' := ?_) (bm 14 63) rfl rfl (any_of HT_.out (by kernel_rfl)) (fun _ _ _ h => h) (Or.inr ⟨by rfl, rfl⟩) ?_ ?_
                rotate_left
                ·simp only [Act.put, List.setIfInBounds_toArray, List.set_cons_zero, List.set_cons_succ, i64_w, i32_w]
                 rfl
                refine pure_ (i := 6) (N := some 27) (v := undef) (a' := ?_) (bm 14 127) rfl rfl (any_of HT_.out (by kernel_rfl)) (fun _ _ _ h => h) (Or.inr ⟨by rfl, rfl⟩) ?_ ?_
                rotate_left
                ·simp only [Act.put, List.setIfInBounds_toArray, List.set_cons_zero, List.set_cons_succ, i64_w, i32_w]
                 rfl
                refine pure_ (i := 7) (N := some 28) (v := undef) (a' := ?_) (bm 14 255) rfl rfl (any_of HT_.out (by kernel_rfl)) (fun _ _ _ h => h) (Or.inr ⟨by rfl, rfl⟩) ?_ ?_
                rotate_left
                ·simp only [Act.put, List.setIfInBounds_toArray, List.set_cons_zero, List.set_cons_succ, i64_w, i32_w]
                 rfl
                refine pure_ (i := 8) (N := some 29) (v := undef) (a' := ?_) (bm 14 511) rfl rfl (any_of HT_.out (by kernel_rfl)) (fun _ _ _ h => h) (Or.inr ⟨by rfl, rfl⟩) ?_ ?_
                rotate_left
                ·simp only [Act.put, List.setIfInBounds_toArray, List.set_cons_zero, List.set_cons_succ, i64_w, i32_w]
                 rfl
                refine pure_ (i := 9) (N := some 30) (v := undef) (a' := ?_) (bm 14 1023) rfl rfl (any_of HT_.out (by kernel_rfl)) (fun _ _ _ h => h) (Or.inr ⟨by rfl, rfl⟩) ?_ ?_
                rotate_left
                ·simp only [Act.put, List.setIfInBounds_toArray, List.set_cons_zero, List.set_cons_succ, i64_w, i32_w]
                 rfl
                refine pure_ (i := 10) (N := some 31) (v := undef) (a' := ?_) (bm 14 2047) rfl rfl (any_of HT_.out (by kernel_rfl)) (fun _ _ _ h => h) (Or.inr ⟨by rfl, rfl⟩) ?_ ?_
                rotate_left
                ·simp only [Act.put, List.setIfInBounds_toArray, List.set_cons_zero, List.set_cons_succ, i64_w, i32_w]
                 rfl
                refine pure_ (i := 11) (N := some 32) (v := undef) (a' := ?_) (bm 14 4095) rfl rfl (any_of HT_.out (by kernel_rfl)) (fun _ _ _ h => h) (Or.inr ⟨by rfl, rfl⟩) ?_ ?_
                rotate_left
                ·simp only [Act.put, List.setIfInBounds_toArray, List.set_cons_zero, List.set_cons_succ, i64_w, i32_w]
                 rfl
                refine pure_ (i := 12) (N := some 33) (v := undef) (a' := ?_) (bm 14 8191) rfl rfl (any_of HT_.out (by kernel_rfl)) (fun _ _ _ h => h) (Or.inr ⟨by rfl, rfl⟩) ?_ ?_
                rotate_left
                ·simp only [Act.put, List.setIfInBounds_toArray, List.set_cons_zero, List.set_cons_succ, i64_w, i32_w]
                 rfl
                refine pure_ (i := 13) (N := some 34) (v := ?_) (a' := ?_) (bm 14 16383) rfl rfl (any_of HT_.out (by kernel_rfl)) (fun _ _ _ h => h) (Or.inl ⟨by rfl, ?_⟩) ?_ ?_
                rotate_left
                ·intro w'
                 go_simp
                 with_reducible rfl
                rotate_left
                ·simp only [Act.put, List.setIfInBounds_toArray, List.set_cons_zero, List.set_cons_succ, i64_w, i32_w]
                 rfl
                refine done_ (done_of HT_.out (by kernel_rfl)) ?_
                try go_wp2_with (first | ((with_reducible refine gate_dst (N := 37) rfl ?_); (try (refine gate_guard (by rfl) ?_; dsimp only)); refine Kd.R_lit k34 _ 34 ?hg (N := 37) ?hd (xs := ([] : List (S34))) (inner := []) (ok := fun _ => True) (okp := fun _ => True) ?hr ?hp (fun _ hk => hk) trivial (Below.refl _ _) (Nat.le_refl _) (by simp) ?_; (case hd => rfl); (case hg => rfl); (case hr => exact z2_0); (case hp => exact (Reps.none _ _)); intro v134 w44 ho45 hb hg_ hnew_; clear hg_ hnew_; (first | rw [← Ny133.out] at ho45 | (simp only [Int.reduceToNat] at ho45; rw [← Ny133.out] at ho45)); have n0_ := Aside0.mk (Kd.R_elder' z2_2 (Kd.R_base ho45) hb); have n1_ := Aside0.mk (Kd.R_lower (Kd.R_new' ho45 (Kd.R_lt z2_2)) (below_size z2_1)); have n2_ := Aside0.mk (below_step z2_1 hb); clear HO_3; clear HB; have HO_3 := n0_; have HO135 := n1_; have HB := n2_; clear n0_ n1_ n2_; clear hb ho45; have q46 : (x5_3 : Int) ≤ ((x3_1.length : Int) : Int) := of_decide_eq_true z2_3; obtain ⟨i046, hi046, _, hsz46, _⟩ := info_parts info34; have hroom46 : x3_1.length ≤ co7 := (Kd.R_reads' HO_3.out).2.1; have hC46 : Kd.C k34 _ Ao7 x3_1.length x3_1 := (Kd.R_reads' HO_3.out).2.2; have q046 : (0 : Int) ≤ (x5_3 : Int) := of_decide_eq_true z2_3; have hcut46 := cut_from (P := Try.prog) 28 34 .i64 Try.underlying28 hi046 3 hsz46 Ao7 x3_1.length co7 x5_3 q046 q46; have hr46 := Kd.C_drop (m := (x5_3 : Int).toNat) (c := co7) hC46 (by omega) hroom46; obtain ⟨A46, hA46⟩ : ∃ A1, A1 = (if co7 = (x5_3 : Int).toNat then Ao7 else (Ao7 : Option Addr).map (·.add ((x5_3 : Int).toNat * 3))) := ⟨_, rfl⟩; obtain ⟨c46, hc46⟩ : ∃ c1, c1 = co7 - (x5_3 : Int).toNat := ⟨_, rfl⟩; have hy46 : y136.length = x3_1.length - (x5_3 : Int).toNat := (by rw [Ny136.out, List.length_drop] <;> omega); rw [show (x3_1).drop (x5_3 : Int).toNat = y136 from Ny136.out.symm] at hr46; replace hr46 : Kd.C k34 _ A46 y136.length y136 := (by rw [hA46]; exact hr46); rw [← hy46, ← hA46, ← hc46] at hcut46; have HR139 := Aside0.mk hr46; have HC139 := Aside0.mk (show y136.length ≤ c46 from by rw [hy46, hc46]; exact Nat.sub_le_sub_right hroom46 _); clear hr46 hC46 hroom46 hi046 hsz46 hc46; have KY46 := Aside0.mk hy46; have KA46 := Aside0.mk hA46; clear hy46 hA46; have KL46 := Aside0.mk (show (x5_3 : Int).toNat ≤ x3_1.length from by omega); replace q46 := eq_true q46) | ((with_reducible refine gate_builtin (b := .append) (xs := #[.tmp 37, .tmp 40]) rfl ?_); (try (refine gate_guard (by rfl) ?_; dsimp only)); at_builtin; refine Kd.R_append_rows k34 (w0 := w) w.heap.size rfl (.tmp 37) (.tmp 40) 28 34 (.agg #[(.int .i64 0), (.int .i64 0), (.int .i64 0)]) 24 rfl Try.underlying28 info34 rfl (by decide) (by omega) v134 y133 y136 _ _ _ (fun k_ => some k_ ≠ (.slice Ao7 x3_1.length co7 : Value).ownBlock) (fun _ => False) rfl rfl ?aO ?aR (fun _ _ h => h) (fun _ h => h.elim) ?aF ?aB ?aS ?aL ?_; (case aR => repeat (first | exact (by repeat (first | (with_reducible exact HR139.out) | (with_reducible refine Kd.C_alloc ?_ _) | (with_reducible refine Kd.C_drewN ?_ _) | (with_reducible refine Kd.C_drew ?_) | exact HR139.out)) | (with_reducible refine Kd.C_alloc ?_ _) | (with_reducible refine Kd.C_drewN ?_ _) | (with_reducible refine Kd.C_drew ?_))); (case aB => exact z2_1); (case aF => exact (fun k_ hk => Kd.fresh' (Kd.R_lt z2_2) k_ hk)); (case aO => exact (by (with_reducible repeat (first | apply Kd.R_alloc | apply Kd.R_drewN | apply Kd.R_drew)); exact Kd.R_mono HO135.out (fun _ hk => hk.2))); (case aS => exact (below_size z2_1)); (case aL => have := LMc37.out; omega); intro v141 w47 ho hb hg hat; rw [← Ny140.out] at ho; have n0_ := Aside0.mk (Kd.R_after (ok := (fun _ => True)) z2_2 hg hat); have n1_ := Aside0.mk (hb); have n2_ := Aside0.mk ((show Kd.C k34 w47 A46 y136.length y136 from by rw [Ny136.out, KA46.out]; exact Kd.C_drop (m := (x5_3 : Int).toNat) (c := co7) ((Kd.R_reads' (Kd.R_after (ok := (fun _ => True)) z2_2 hg hat)).2.2) KL46.out ((Kd.R_reads' (Kd.R_after (ok := (fun _ => True)) z2_2 hg hat)).2.1))); have n3_ := Aside0.mk (ho); clear HO_3; clear HB; clear HR139; clear HO135; have HO_3 := n0_; have HB := n1_; have HR139 := n2_; have HO142 := n3_; clear n0_ n1_ n2_ n3_; clear ho hb hg hat))
                have n0_ := Aside0.mk (Kd.R_drew HO_3.out)
                have n1_ := Aside0.mk (Kd.R_drew HO142.out)
                have n2_ := Aside0.mk (Kd.C_drew HR139.out)
                have n3_ := Aside0.mk (below_drew1 HB.out)
                clear HO_3
                clear HO142
                clear HR139
                clear HB
                have HO_3 := n0_
                have HO142 := n1_
                have HR139 := n2_
                have HB := n3_
                clear n0_ n1_ n2_ n3_
                have q49 : (x5_3 : Int) ≤ ((x3_1.length : Int) : Int) := of_decide_eq_true z2_3
                obtain ⟨i049, hi049, _, hsz49, _⟩ := info_parts info34
                have hcut49 := cut_to (P := Try.prog) 28 34 .i64 Try.underlying28 hi049 Ao7 x3_1.length co7 x5_3 (of_decide_eq_true z2_3) q49 (Kd.R_reads' HO_3.out).2.1
                have hr49 := Kd.R_take (m := (x5_3 : Int).toNat) HO_3.out (by omega)
                have hy49 : y143.length = (x5_3 : Int).toNat := (by rw [Ny143.out, List.length_take]; omega)
                rw [← Ny143.out] at hr49
                rw [← hy49] at hr49 hcut49
                clear hy49 hi049 hsz49 HO_3
                have HO145 := Aside0.mk hr49
                clear hr49
                replace q49 := eq_true q49
                have p146 : 0 ≤ (x4_1 : Int) := of_decide_eq_true z2_3
                have q146 : x4_1 < (l0.length : Int) := of_decide_eq_true z2_3
                obtain ⟨ad146, e146, hx146_0, hx146_1, hx146_2⟩ := at_T34 HR0.out x4_1 p146 q146
                have hw146_2 := hx146_2
                have hw146_1 := hx146_1
                have hw146_0 := hx146_0
                cases e146
                replace hx146_0 := (HB.out.cell (World.block_lt_of_cell? w _ hx146_0)).trans hx146_0
                replace hx146_1 := (HB.out.cell (World.block_lt_of_cell? w _ hx146_1)).trans hx146_1
                replace hx146_2 := (HB.out.cell (World.block_lt_of_cell? w _ hx146_2)).trans hx146_2
                replace p146 := eq_true p146
                replace q146 := eq_true q146
                refine start_ (n := 12) (S := fun w' => w'.cell? (ad146.add ((x4_1).toNat * 3)) = some (.int .i64 ((rd_T34 l0 x4_1).f0)) ∧ w'.cell? ⟨(ad146.add ((x4_1).toNat * 3)).block, (ad146.add ((x4_1).toNat * 3)).off + 1, none⟩ = some (.int .i64 ((rd_T34 l0 x4_1).f1)) ∧ w'.cell? ⟨(ad146.add ((x4_1).toNat * 3)).block, (ad146.add ((x4_1).toNat * 3)).off + 2, none⟩ = some (.int .i64 ((rd_T34 l0 x4_1).f2))) (ds := []) (bm 12 0) (by kernel_rfl) rfl rfl ⟨((HB.out.cell (World.block_lt_of_cell? w _ hw146_0)).trans hw146_0), ((HB.out.cell (World.block_lt_of_cell? w _ hw146_1)).trans hw146_1), ((HB.out.cell (World.block_lt_of_cell? w _ hw146_2)).trans hw146_2)⟩ (fun hHeld => ?_); refine with_tabW spec_SortMessages.tab9 spec_SortMessages.bits9 (fun HT_ HW_ => ?_)
                generalize w47.drew = w48 at HO_3 HO142 HR139 HB HO145 hx146_0 hx146_1 hx146_2 hHeld ⊢
                refine pure_ (i := 0) (N := some 42) (v := ?_) (a' := ?_) (bm 12 1) rfl rfl (any_of HT_.out (by kernel_rfl)) (fun _ _ _ h => h) (Or.inl ⟨by rfl, ?_⟩) ?_ ?_
                rotate_left
                ·intro w'
                 go_simp
                 with_reducible rfl
                rotate_left
                ·simp only [Act.put, List.setIfInBounds_toArray, List.set_cons_zero, List.set_cons_succ, i64_w, i32_w]
                 rfl
                refine pure_ (i := 1) (N := some 43) (v := ?_) (a' := ?_) (bm 12 3) rfl rfl (any_of HT_.out (by kernel_rfl)) (fun _ _ _ h => h) (Or.inl ⟨by rfl, ?_⟩) ?_ ?_
                rotate_left
                ·intro w'
                 go_simp
                 with_reducible rfl
                rotate_left
                ·simp only [Act.put, List.setIfInBounds_toArray, List.set_cons_zero, List.set_cons_succ, i64_w, i32_w]
                 rfl
                refine pure_ (i := 2) (N := some 44) (v := ?_) (a' := ?_) (bm 12 7) rfl rfl (any_of HT_.out (by kernel_rfl)) (fun _ _ _ h => h) (Or.inl ⟨by rfl, ?_⟩) ?_ ?_
                rotate_left
                ·intro w'
                 go_simp
                 with_reducible rfl
                rotate_left
                ·simp only [Act.put, List.setIfInBounds_toArray, List.set_cons_zero, List.set_cons_succ, i64_w, i32_w]
                 rfl
                refine pure_ (i := 3) (N := some 45) (v := ?_) (a' := ?_) (bm 12 15) rfl rfl (any_of HT_.out (by kernel_rfl)) (fun _ _ _ h => h) (Or.inl ⟨by rfl, ?_⟩) ?_ ?_
                rotate_left
                ·intro w'
                 go_simp
                 with_reducible rfl
                rotate_left
                ·simp only [Act.put, List.setIfInBounds_toArray, List.set_cons_zero, List.set_cons_succ, i64_w, i32_w]
                 rfl
                refine pure_ (i := 4) (N := some 46) (v := ?_) (a' := ?_) (bm 12 31) rfl rfl (any_of HT_.out (by kernel_rfl)) (fun _ _ _ h => h) (Or.inl ⟨by rfl, ?_⟩) ?_ ?_
                rotate_left
                ·intro w'
                 go_simp
                 with_reducible rfl
                rotate_left
                ·simp only [Act.put, List.setIfInBounds_toArray, List.set_cons_zero, List.set_cons_succ, i64_w, i32_w]
                 rfl
                refine pure_ (i := 5) (N := some 47) (v := ?_) (a' := ?_) (bm 12 63) rfl rfl (any_of HT_.out (by kernel_rfl)) (fun _ _ _ h => h) (Or.inl ⟨by rfl, ?_⟩) ?_ ?_
                rotate_left
                ·intro w'
                 go_simp
                 with_reducible rfl
                rotate_left
                ·simp only [Act.put, List.setIfInBounds_toArray, List.set_cons_zero, List.set_cons_succ, i64_w, i32_w]
                 rfl
                refine pure_ (i := 9) (N := some 51) (v := ?_) (a' := ?_) (bm 12 575) rfl rfl (any_of HT_.out (by kernel_rfl)) (fun _ _ _ h => h) (Or.inl ⟨by rfl, ?_⟩) ?_ ?_
                rotate_left
                ·intro w'
                 go_simp
                 with_reducible rfl
                rotate_left
                ·simp only [Act.put, List.setIfInBounds_toArray, List.set_cons_zero, List.set_cons_succ, i64_w, i32_w]
                 rfl
                refine take_ (i := 6) (N := some 48) (v := ?_) (a' := ?_) (bm 12 639) rfl rfl (take_ofW HT_.out HW_.out (by kernel_rfl)) (fun _ _ _ h => h) (Or.inl ⟨by rfl, ?_⟩) hHeld ?_ ?_
                rotate_left
                ·rintro w' ⟨s0, s1, s2⟩
                 go_simp
                 with_reducible rfl
                rotate_left
                ·simp only [Act.put, List.setIfInBounds_toArray, List.set_cons_zero, List.set_cons_succ, i64_w, i32_w]
                 rfl
                refine one_ (i := 7) (N := some 49) (bm 12 767) rfl rfl (one_of HT_.out (by kernel_rfl)) (by decide) (fun K hK => ?_)
                refine value_ (w1 := ?_) (v := ?_) (by rfl) rfl ?_ ?_
                rotate_left 2
                ·go_simp
                 constructor
                 ·rfl
                 ·rfl
                refine hK.out _ _ ⟨(World.cell?_alloc_lt _ _ _ (World.block_lt_of_cell? _ _ (((HB.out.cell (World.block_lt_of_cell? w _ hw146_0)).trans hw146_0)))).trans (((HB.out.cell (World.block_lt_of_cell? w _ hw146_0)).trans hw146_0)), (World.cell?_alloc_lt _ _ _ (World.block_lt_of_cell? _ _ (((HB.out.cell (World.block_lt_of_cell? w _ hw146_1)).trans hw146_1)))).trans (((HB.out.cell (World.block_lt_of_cell? w _ hw146_1)).trans hw146_1)), (World.cell?_alloc_lt _ _ _ (World.block_lt_of_cell? _ _ (((HB.out.cell (World.block_lt_of_cell? w _ hw146_2)).trans hw146_2)))).trans (((HB.out.cell (World.block_lt_of_cell? w _ hw146_2)).trans hw146_2))⟩ (fun hHeld => ?_)
                clear hK K
                refine norm_ (a' := ?_) ?_ ?_
                rotate_left
                ·show Act.put _ (some 49) _ = _
                 simp only [Act.put, List.setIfInBounds_toArray, List.set_cons_zero, List.set_cons_succ, i64_w, i32_w]
                 rfl
                refine one_ (i := 8) (N := some 50) (bm 12 1023) rfl rfl (one_of HT_.out (by kernel_rfl)) (by decide) (fun K hK => ?_)
                refine Kd.R_append_step k34 (w0 := w) w.heap.size (by rfl) (.tmp 44) (.tmp 49) 28 34 (.agg #[(.int .i64 0), (.int .i64 0), (.int .i64 0)]) 24 rfl Try.underlying28 info34 rfl (by decide) (by omega) (.slice Ao7 y143.length co7) y143 (⟨(rd_T34 l0 x4_1).f0, (rd_T34 l0 x4_1).f1, (rd_T34 l0 x4_1).f2⟩ : S34) [.int .i64 ((rd_T34 l0 x4_1).f0), .int .i64 ((rd_T34 l0 x4_1).f1), .int .i64 ((rd_T34 l0 x4_1).f2)] (fun k_ => some k_ ≠ (v141 : Value).ownBlock) (fun _ => False) rfl rfl ?aP (fun _ hk => hk.elim) ?aF ?aO ?aB ?aS ?aL ?_
                (case aP => exact k34_mkM _ _ _ (⟨(rd_T34 l0 x4_1).f0, (rd_T34 l0 x4_1).f1, (rd_T34 l0 x4_1).f2⟩ : S34))
                (case aB => exact z2_1)
                (case aF => exact (fun k_ hk => Kd.fresh' (Kd.R_lt z2_6) k_ hk))
                (case aO => exact (by (with_reducible repeat (first | apply Kd.R_alloc | apply Kd.R_drewN | apply Kd.R_drew)); exact Kd.R_mono HO145.out (fun _ hk => hk.2)))
                (case aS => exact (below_size z2_1))
                (case aL => have := LMc41.out; omega)
                intro v148 w50 ho hb hg hat
                rw [← Ny147.out] at ho
                have n0_ := Aside0.mk (Kd.R_after (ok := (fun _ => True)) (by (with_reducible repeat (first | apply Kd.R_alloc | apply Kd.R_drewN | apply Kd.R_drew)); exact Kd.R_mono HO142.out (fun _ hk => ⟨trivial, by first | exact hk | exact fun e => hk (e.trans (by kernel_rfl))⟩)) hg hat)
                have n1_ := Aside0.mk (hb)
                have n2_ := Aside0.mk (ho)
                clear HO142
                clear HB
                clear HO145
                have HO142 := n0_
                have HB := n1_
                have HO149 := n2_
                clear n0_ n1_ n2_
                clear ho hb hg hat
                obtain ⟨Ao52, co52, eo52⟩ := Kd.R_slice HO142.out
                (first | subst eo52 | (injection eo52 with f1_ f2_ f3_; have f4_ := f1_.symm; have f5_ := f3_.symm; clear f1_ f2_ f3_; subst f4_; subst f5_))
                refine hK.out _ _ ⟨((HB.out.cell (World.block_lt_of_cell? w _ hw146_0)).trans hw146_0), ((HB.out.cell (World.block_lt_of_cell? w _ hw146_1)).trans hw146_1), ((HB.out.cell (World.block_lt_of_cell? w _ hw146_2)).trans hw146_2)⟩ (fun hHeld => ?_)
                clear hK K
                refine norm_ (a' := ?_) ?_ ?_
                rotate_left
                ·show Act.put _ (some 50) _ = _
                 simp only [Act.put, List.setIfInBounds_toArray, List.set_cons_zero, List.set_cons_succ, i64_w, i32_w]
                 rfl
                refine one_ (i := 10) (N := some 52) (bm 12 2047) rfl rfl (one_of HT_.out (by kernel_rfl)) (by decide) (fun K hK => ?_)
                refine Kd.R_append_rows_step k34 (w0 := w) w.heap.size (by rfl) (.tmp 50) (.tmp 51) 28 34 (.agg #[(.int .i64 0), (.int .i64 0), (.int .i64 0)]) 24 rfl Try.underlying28 info34 rfl (by decide) (by omega) v148 y147 y140 _ _ _ (fun k_ => some k_ ≠ (.slice Ao52 y140.length co52 : Value).ownBlock) (fun _ => False) rfl rfl ?aO ?aR (fun _ _ h => h) (fun _ h => h.elim) ?aF ?aB ?aS ?aL ?_
                (case aR => repeat (first | exact (Kd.R_reads' HO142.out).2.2 | (with_reducible refine Kd.C_alloc ?_ _) | (with_reducible refine Kd.C_drewN ?_ _) | (with_reducible refine Kd.C_drew ?_)))
                (case aB => exact z2_1)
                (case aF => exact (fun k_ hk => Kd.fresh' (Kd.R_lt z2_6) k_ hk))
                (case aO => exact (by (with_reducible repeat (first | apply Kd.R_alloc | apply Kd.R_drewN | apply Kd.R_drew)); exact HO149.out))
                (case aS => exact (below_size z2_1))
                (case aL => have := LMc42.out; omega)
                intro v151 w51 ho hb hg hat
                rw [← Ny150.out] at ho
                have n0_ := Aside0.mk (Kd.R_after (ok := (fun _ => True)) z2_6 hg hat)
                have n1_ := Aside0.mk (hb)
                have n2_ := Aside0.mk (ho)
                clear HO142
                clear HB
                clear HO149
                have HO142 := n0_
                have HB := n1_
                have HO152 := n2_
                clear n0_ n1_ n2_
                clear ho hb hg hat
                refine hK.out _ _ ⟨((HB.out.cell (World.block_lt_of_cell? w _ hw146_0)).trans hw146_0), ((HB.out.cell (World.block_lt_of_cell? w _ hw146_1)).trans hw146_1), ((HB.out.cell (World.block_lt_of_cell? w _ hw146_2)).trans hw146_2)⟩ (fun hHeld => ?_)
                clear hK K
                refine norm_ (a' := ?_) ?_ ?_
                rotate_left
                ·show Act.put _ (some 52) _ = _
                 simp only [Act.put, List.setIfInBounds_toArray, List.set_cons_zero, List.set_cons_succ, i64_w, i32_w]
                 rfl
                refine pure_ (i := 11) (N := some 3) (v := ?_) (a' := ?_) (bm 12 4095) rfl rfl (any_of HT_.out (by kernel_rfl)) (fun _ _ _ h => h) (Or.inl ⟨by rfl, ?_⟩) ?_ ?_
                rotate_left
                ·intro w'
                 go_simp
                 with_reducible rfl
                rotate_left
                ·simp only [Act.put, List.setIfInBounds_toArray, List.set_cons_zero, List.set_cons_succ, i64_w, i32_w]
                 rfl
                refine done_ (done_of HT_.out (by kernel_rfl)) ?_
                try go_wp2
                go_roundg k3
                case measure => have := HK1.out; have := HJ3.out; have := HK3.out; omega
                case rel => exact ⟨(y150), (wrap64 (x4_1 + 1)), z2_4, H', ⟨z2_8⟩, ⟨by (with_reducible repeat (first | apply Kd.R_alloc | apply Kd.R_drewN | apply Kd.R_drew)); exact Kd.R_mono HO152.out (fun _ hk => trivial)⟩, ⟨z2_1⟩⟩
               ·rw [if_neg c42] at H
                exact absurd H (by simp)
              ·rw [if_neg c41] at H
               exact absurd H (by simp)
             ·rw [if_neg c40] at H
              exact absurd H (by simp)
            ·rw [if_neg c39] at H
             exact absurd H (by simp)
           ·rw [if_neg c37] at H
            exact absurd H (by simp)
          ·rw [if_neg c36] at H
           exact absurd H (by simp)
         ·rw [if_neg c35] at H
          exact absurd H (by simp)
     ·replace c6 := Bool.eq_false_iff.mpr c6
      subst c6
      have H1 : (some x3_1) = some r := by rw [if_neg (show ¬ (false = true) by decide)] at H; exact H
      clear H
      have H := H1
      clear H1
      obtain rfl := Option.some.inj H
      go_wp2
      go_ret
      exact ⟨_, by first | rfl | (simp [errW_none, errW_some] <;> rfl) | (simp [*, errW_none, errW_some] <;> rfl), z2_2, z2_1⟩

end Go.Proofs.Ytgdcnlmhdbdijaa.PFnExactCombineMessages
