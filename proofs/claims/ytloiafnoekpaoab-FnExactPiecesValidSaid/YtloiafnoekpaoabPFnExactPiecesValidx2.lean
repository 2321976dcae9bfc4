/- Laid by a program of this session out of the translation: functions, their contracts, the row. Lean checks it. -/
import Derived.Test.YtloiafnoekpaoabPFnExactPiecesValidx0
import Derived.Test.YtloiafnoekpaoabPFnExactPiecesValidx1
namespace Go.Proofs.Ytloiafnoekpaoab.PFnExactPiecesValid
open Go.RowKit Go.Proofs.YtloiafnoekpaoabW.PrintWords Go.Proofs.YtloiafnoekpaoabW.PrintLast Go.Proofs.YtloiafnoekpaoabW.PrintMore
theorem z2_0 {p : Prop} (h : p := by repeat (first | (with_reducible first | exact HB.out | apply below_alloc | apply pw_below_drewN | apply below_drew1 | refine below_set ?_ GE129.out) | exact HB.out)) : p := h
theorem z2_1 {p : Prop} (h : p := by first | (with_reducible assumption) | assumption) : p := h
theorem z2_2 {p : Prop} (h : p := by (try simp only [List.map_toArray, List.map_cons, List.map_nil]); first | done | rfl | (simp only [List.length_drop, List.length_take]; rfl)) : p := h
theorem z2_3 {p : Prop} (h : p := by (with_reducible repeat (first | refine blk_drewN ?_ _ | refine blk_drew ?_ | refine blk_alloc ?_ _)); exact BK129.out) : p := h
theorem z2_4 {p : Prop} (h : p := by (with_reducible repeat (first | apply Kd.R_alloc | apply Kd.R_drewN | apply Kd.R_drew)); exact HO_8.out) : p := h
theorem z2_5 {p : Prop} (h : p := by repeat (first | (with_reducible first | exact HB.out | apply below_alloc | apply pw_below_drewN | apply below_drew1) | exact HB.out)) : p := h
theorem z2_6 {p : Prop} (h : p := by first | rfl | (simp [errW_none, errW_some] <;> rfl) | (simp [*, errW_none, errW_some] <;> rfl)) : p := h
theorem z2_7 {p : Prop} (h : p := by first | rfl | (simp; done) | (simp [*]; done)) : p := h
theorem z2_8 {p : Prop} (h : p := by (with_reducible repeat (first | apply Kd.R_alloc | apply Kd.R_drewN | apply Kd.R_drew)); exact HO132.out) : p := h
theorem z2_9 {p : Prop} (h : p := by (try simp only [List.map_toArray, List.map_cons, List.map_nil]); first | done | (simp only [hji42]; rfl) | rfl | (simp only [List.length_drop, List.length_take]; rfl)) : p := h
theorem z2_10 {p : Prop} (h : p := by have := HK1.out; first | omega | exact Nat.le_refl _) : p := h
theorem z2_11 {p : Prop} (h : p := by have := HK1.out; have := HJ5.out; have := HK3.out; have := HK4.out; omega) : p := h
attribute [local go_sem] max2_int min2_int max_two min_two max_three min_three max_four min_four   -- for this text's walks alone
set_option linter.unusedVariables false
set_option linter.unusedSimpArgs false

/-! ### spec_PiecesValid: function 45 -/
mutual
def spec_PiecesValid.l0 : Nat → List (S119) → Int → Int → Int → Option (Bool)
 | 0, _, _, _, _ => none
 | k + 1, x0, x1, x5, x6 => if x6 < (x0.length : Int) then (if 0 ≤ x6 then ((spec_OwnedBy.f k x1 (x0.length : Int) x6).bind fun t130 => (if ((rd_T119 x0 x6).f0) = x6 then (if (t130.length : Int) = (((rd_T119 x0 x6).f1).length : Int) then (if (((rd_T119 x0 x6).f2).length : Int) = (t130.length : Int) then (spec_PiecesValid.j1 k x0 x1 x5 x6 t130 ((((rd_T119 x0 x6).f3).length : Int) != (t130.length : Int)) ((rd_T119 x0 x6).f0) ((rd_T119 x0 x6).f1) ((rd_T119 x0 x6).f2) ((rd_T119 x0 x6).f3) ((rd_T119 x0 x6).f4)) else (spec_PiecesValid.j1 k x0 x1 x5 x6 t130 true ((rd_T119 x0 x6).f0) ((rd_T119 x0 x6).f1) ((rd_T119 x0 x6).f2) ((rd_T119 x0 x6).f3) ((rd_T119 x0 x6).f4))) else (spec_PiecesValid.j1 k x0 x1 x5 x6 t130 true ((rd_T119 x0 x6).f0) ((rd_T119 x0 x6).f1) ((rd_T119 x0 x6).f2) ((rd_T119 x0 x6).f3) ((rd_T119 x0 x6).f4))) else (spec_PiecesValid.j1 k x0 x1 x5 x6 t130 true ((rd_T119 x0 x6).f0) ((rd_T119 x0 x6).f1) ((rd_T119 x0 x6).f2) ((rd_T119 x0 x6).f3) ((rd_T119 x0 x6).f4)))) else (none)) else ((spec_l1In.f x1 0 16).bind fun t126 => (if t126 = true then ((spec_l1In.f (x0.length : Int) 1 6).bind fun t127 => (if t127 = true then (some (decide (x5 ≤ 2000))) else (some false))) else (some false)))
def spec_PiecesValid.j1 : Nat → List (S119) → Int → Int → Int → List Int → Bool → Int → List Int → List Int → List Bool → List (S122) → Option (Bool)
 | 0, _, _, _, _, _, _, _, _, _, _, _ => none
 | k + 1, x0, x1, x5, x6, x8, x53, x130000, x130001, x130002, x130003, x130004 => if x53 = true then (some false) else (spec_PiecesValid.l1 k x0 x1 x5 x6 x8 0 x130000 x130001 x130002 x130003 x130004)
def spec_PiecesValid.l1 : Nat → List (S119) → Int → Int → Int → List Int → Int → Int → List Int → List Int → List Bool → List (S122) → Option (Bool)
 | 0, _, _, _, _, _, _, _, _, _, _, _ => none
 | k + 1, x0, x1, x5, x6, x8, x9, x130000, x130001, x130002, x130003, x130004 => if x9 < (x8.length : Int) then (if 0 ≤ x9 then (if x9 < (x130001.length : Int) then (if (rd x8 x9) = (rd x130001 x9) then (if x9 < (x130002.length : Int) then ((spec_l1In.f (rd x130002 x9) (-1) 999999).bind fun t136 => (if t136 = true then (spec_PiecesValid.l1 k x0 x1 x5 x6 x8 (wrap64 (x9 + 1)) x130000 x130001 x130002 x130003 x130004) else (some false))) else (none)) else (some false)) else (none)) else (none)) else (spec_PiecesValid.l2 k x0 x1 x5 x6 x8 0 x130000 x130001 x130002 x130003 x130004)
def spec_PiecesValid.l2 : Nat → List (S119) → Int → Int → Int → List Int → Int → Int → List Int → List Int → List Bool → List (S122) → Option (Bool)
 | 0, _, _, _, _, _, _, _, _, _, _, _ => none
 | k + 1, x0, x1, x5, x6, x8, x10, x130000, x130001, x130002, x130003, x130004 => if x10 < (x130004.length : Int) then (if 0 ≤ x10 then ((spec_l11Message.f ((rd_T122 x130004 x10).f0) ((rd_T122 x130004 x10).f1) ((rd_T122 x130004 x10).f2) x1).bind fun t138 => (if t138 = true then ((spec_l7Has.f k x8 ((rd_T122 x130004 x10).f0)).bind fun t140 => (if t140 = true then (if x10 > 0 then (if 0 ≤ (wrap64 (x10 - 1)) then (if (wrap64 (x10 - 1)) < (x130004.length : Int) then ((spec_l9Before.f ((rd_T122 x130004 x10).f0) ((rd_T122 x130004 x10).f1) ((rd_T122 x130004 x10).f2) ((rd_T122 x130004 (wrap64 (x10 - 1))).f0) ((rd_T122 x130004 (wrap64 (x10 - 1))).f1) ((rd_T122 x130004 (wrap64 (x10 - 1))).f2)).bind fun t143 => (if t143 = true then (some false) else (spec_PiecesValid.l2 k x0 x1 x5 x6 x8 (wrap64 (x10 + 1)) x130000 x130001 x130002 x130003 x130004))) else (none)) else (none)) else (spec_PiecesValid.l2 k x0 x1 x5 x6 x8 (wrap64 (x10 + 1)) x130000 x130001 x130002 x130003 x130004)) else (some false))) else (some false))) else (none)) else (spec_PiecesValid.l0 k x0 x1 (wrap64 (x5 + (x130004.length : Int))) (wrap64 (x6 + 1)))
end
def spec_PiecesValid.f (k : Nat) (l0 : List (S119)) (a1 : Int) : Option (Bool) := spec_PiecesValid.l0 k l0 a1 0 0
theorem spec_PiecesValid.mono_l : ∀ k, (∀ y0 y1 y2 y3, LeO (spec_PiecesValid.l0 k y0 y1 y2 y3) (spec_PiecesValid.l0 (k + 1) y0 y1 y2 y3)) ∧ (∀ y0 y1 y2 y3 y4 y5 y6 y7 y8 y9 y10, LeO (spec_PiecesValid.j1 k y0 y1 y2 y3 y4 y5 y6 y7 y8 y9 y10) (spec_PiecesValid.j1 (k + 1) y0 y1 y2 y3 y4 y5 y6 y7 y8 y9 y10)) ∧ (∀ y0 y1 y2 y3 y4 y5 y6 y7 y8 y9 y10, LeO (spec_PiecesValid.l1 k y0 y1 y2 y3 y4 y5 y6 y7 y8 y9 y10) (spec_PiecesValid.l1 (k + 1) y0 y1 y2 y3 y4 y5 y6 y7 y8 y9 y10)) ∧ (∀ y0 y1 y2 y3 y4 y5 y6 y7 y8 y9 y10, LeO (spec_PiecesValid.l2 k y0 y1 y2 y3 y4 y5 y6 y7 y8 y9 y10) (spec_PiecesValid.l2 (k + 1) y0 y1 y2 y3 y4 y5 y6 y7 y8 y9 y10))
 | 0 => ⟨fun _ _ _ _ r h => by simp [spec_PiecesValid.l0] at h, fun _ _ _ _ _ _ _ _ _ _ _ r h => by simp [spec_PiecesValid.j1] at h, fun _ _ _ _ _ _ _ _ _ _ _ r h => by simp [spec_PiecesValid.l1] at h, fun _ _ _ _ _ _ _ _ _ _ _ r h => by simp [spec_PiecesValid.l2] at h⟩
 | k + 1 => by
  obtain ⟨ih0, ih1, ih2, ih3⟩ := spec_PiecesValid.mono_l k
  refine ⟨?_, ?_, ?_, ?_⟩
  ·intro y0 y1 y2 y3
   unfold spec_PiecesValid.l0
   repeat' first
   | (with_reducible exact ih0 _ _ _ _)
   | (with_reducible exact ih1 _ _ _ _ _ _ _ _ _ _ _)
   | (with_reducible exact ih2 _ _ _ _ _ _ _ _ _ _ _)
   | (with_reducible exact ih3 _ _ _ _ _ _ _ _ _ _ _)
   | (with_reducible exact spec_OwnedBy.mono _ _ _ _)
   | (with_reducible exact spec_l7Has.mono _ _ _)
   | (with_reducible exact LeO.refl _)
   | (with_reducible exact LeO.none _)
   | (with_reducible refine LeO.ite ?_ ?_)
   | (with_reducible refine LeO.bind ?_ (fun _ => ?_))
   | exact ih0 _ _ _ _
   | exact ih1 _ _ _ _ _ _ _ _ _ _ _
   | exact ih2 _ _ _ _ _ _ _ _ _ _ _
   | exact ih3 _ _ _ _ _ _ _ _ _ _ _
   | exact spec_OwnedBy.mono _ _ _ _
   | exact spec_l7Has.mono _ _ _
   | exact LeO.none _
   | refine LeO.ite ?_ ?_
   | refine LeO.bind ?_ (fun _ => ?_)
  ·intro y0 y1 y2 y3 y4 y5 y6 y7 y8 y9 y10
   unfold spec_PiecesValid.j1
   repeat' first
   | (with_reducible exact ih0 _ _ _ _)
   | (with_reducible exact ih1 _ _ _ _ _ _ _ _ _ _ _)
   | (with_reducible exact ih2 _ _ _ _ _ _ _ _ _ _ _)
   | (with_reducible exact ih3 _ _ _ _ _ _ _ _ _ _ _)
   | (with_reducible exact spec_OwnedBy.mono _ _ _ _)
   | (with_reducible exact spec_l7Has.mono _ _ _)
   | (with_reducible exact LeO.refl _)
   | (with_reducible exact LeO.none _)
   | (with_reducible refine LeO.ite ?_ ?_)
   | (with_reducible refine LeO.bind ?_ (fun _ => ?_))
   | exact ih0 _ _ _ _
   | exact ih1 _ _ _ _ _ _ _ _ _ _ _
   | exact ih2 _ _ _ _ _ _ _ _ _ _ _
   | exact ih3 _ _ _ _ _ _ _ _ _ _ _
   | exact spec_OwnedBy.mono _ _ _ _
   | exact spec_l7Has.mono _ _ _
   | exact LeO.none _
   | refine LeO.ite ?_ ?_
   | refine LeO.bind ?_ (fun _ => ?_)
  ·intro y0 y1 y2 y3 y4 y5 y6 y7 y8 y9 y10
   unfold spec_PiecesValid.l1
   repeat' first
   | (with_reducible exact ih0 _ _ _ _)
   | (with_reducible exact ih1 _ _ _ _ _ _ _ _ _ _ _)
   | (with_reducible exact ih2 _ _ _ _ _ _ _ _ _ _ _)
   | (with_reducible exact ih3 _ _ _ _ _ _ _ _ _ _ _)
   | (with_reducible exact spec_OwnedBy.mono _ _ _ _)
   | (with_reducible exact spec_l7Has.mono _ _ _)
   | (with_reducible exact LeO.refl _)
   | (with_reducible exact LeO.none _)
   | (with_reducible refine LeO.ite ?_ ?_)
   | (with_reducible refine LeO.bind ?_ (fun _ => ?_))
   | exact ih0 _ _ _ _
   | exact ih1 _ _ _ _ _ _ _ _ _ _ _
   | exact ih2 _ _ _ _ _ _ _ _ _ _ _
   | exact ih3 _ _ _ _ _ _ _ _ _ _ _
   | exact spec_OwnedBy.mono _ _ _ _
   | exact spec_l7Has.mono _ _ _
   | exact LeO.none _
   | refine LeO.ite ?_ ?_
   | refine LeO.bind ?_ (fun _ => ?_)
  ·intro y0 y1 y2 y3 y4 y5 y6 y7 y8 y9 y10
   unfold spec_PiecesValid.l2
   repeat' first
   | (with_reducible exact ih0 _ _ _ _)
   | (with_reducible exact ih1 _ _ _ _ _ _ _ _ _ _ _)
   | (with_reducible exact ih2 _ _ _ _ _ _ _ _ _ _ _)
   | (with_reducible exact ih3 _ _ _ _ _ _ _ _ _ _ _)
   | (with_reducible exact spec_OwnedBy.mono _ _ _ _)
   | (with_reducible exact spec_l7Has.mono _ _ _)
   | (with_reducible exact LeO.refl _)
   | (with_reducible exact LeO.none _)
   | (with_reducible refine LeO.ite ?_ ?_)
   | (with_reducible refine LeO.bind ?_ (fun _ => ?_))
   | exact ih0 _ _ _ _
   | exact ih1 _ _ _ _ _ _ _ _ _ _ _
   | exact ih2 _ _ _ _ _ _ _ _ _ _ _
   | exact ih3 _ _ _ _ _ _ _ _ _ _ _
   | exact spec_OwnedBy.mono _ _ _ _
   | exact spec_l7Has.mono _ _ _
   | exact LeO.none _
   | refine LeO.ite ?_ ?_
   | refine LeO.bind ?_ (fun _ => ?_)
theorem spec_PiecesValid.mono : ∀ a0 a1 k, LeO (spec_PiecesValid.f k a0 a1) (spec_PiecesValid.f (k + 1) a0 a1) := by
 intro a0 a1 k
 obtain ⟨ih0, ih1, ih2, ih3⟩ := spec_PiecesValid.mono_l k
 unfold spec_PiecesValid.f
 repeat' first
   | (with_reducible exact ih0 _ _ _ _)
   | (with_reducible exact ih1 _ _ _ _ _ _ _ _ _ _ _)
   | (with_reducible exact ih2 _ _ _ _ _ _ _ _ _ _ _)
   | (with_reducible exact ih3 _ _ _ _ _ _ _ _ _ _ _)
   | (with_reducible exact spec_OwnedBy.mono _ _ _ _)
   | (with_reducible exact spec_l7Has.mono _ _ _)
   | (with_reducible exact LeO.refl _)
   | (with_reducible exact LeO.none _)
   | (with_reducible refine LeO.ite ?_ ?_)
   | (with_reducible refine LeO.bind ?_ (fun _ => ?_))
   | exact ih0 _ _ _ _
   | exact ih1 _ _ _ _ _ _ _ _ _ _ _
   | exact ih2 _ _ _ _ _ _ _ _ _ _ _
   | exact ih3 _ _ _ _ _ _ _ _ _ _ _
   | exact spec_OwnedBy.mono _ _ _ _
   | exact spec_l7Has.mono _ _ _
   | exact LeO.none _
   | refine LeO.ite ?_ ?_
   | refine LeO.bind ?_ (fun _ => ?_)
def spec_PiecesValid.T12 : Bool × List (List Nat × List Nat) := (true, [([], []), ([], []), ([0, 1], [0, 1]), ([2], [2]), ([], []), ([4], [4]), ([], []), ([5, 6], [5, 6]), ([7], [7]), ([3, 8], [3, 8]), ([9], [9]), ([10], [10]), ([11, 10], [10, 11]), ([10], [10]), ([12, 13, 10], [10, 12, 13]), ([14, 10], [10, 14]), ([15, 10, 10], [10, 15]), ([16, 10], [10, 16]), ([10, 17], [10, 17])])
def spec_PiecesValid.B12 : List Nat := [0, 0, 3, 7, 0, 16, 0, 112, 240, 511, 1023, 2047, 4095, 2047, 16383, 32767, 65535, 131071, 262143]
theorem spec_PiecesValid.tab12 : rtab .any (opsOf Try.f45 12) = spec_PiecesValid.T12 := by kernel_rfl
theorem spec_PiecesValid.bits12 : waitsOk spec_PiecesValid.T12.2 spec_PiecesValid.B12 = true := by kernel_rfl
def spec_PiecesValid.T17 : Bool × List (List Nat × List Nat) := (true, [([], []), ([0], [0]), ([], []), ([1, 2], [1, 2]), ([3], [3]), ([], []), ([4, 5], [4, 5]), ([6], [6]), ([7, 6], [7]), ([8], [8]), ([8], [8]), ([10, 8], [8, 10]), ([8], [8]), ([11, 12, 8], [8, 11, 12]), ([13, 8], [8, 13]), ([14, 8], [8, 14]), ([9, 15, 8, 8], [8, 9, 15]), ([16, 8], [8, 16]), ([8, 17], [8, 17]), ([18, 16], [18]), ([19], [19]), ([20, 19], [19, 20]), ([21, 19, 19], [19, 21]), ([22], [22]), ([23, 22], [22, 23]), ([22], [22]), ([24, 25, 22], [22, 24, 25]), ([26, 22], [22, 26]), ([22], [22]), ([28, 22], [22, 28]), ([22], [22]), ([30, 22], [22, 30]), ([29, 31, 22], [22, 29, 31]), ([32, 22], [22, 32]), ([27, 33, 22, 22], [22, 27, 33]), ([22, 34, 19], [19, 22, 34]), ([19, 35], [19, 35])])
def spec_PiecesValid.B17 : List Nat := [0, 1, 0, 7, 15, 0, 63, 127, 255, 511, 511, 1535, 511, 7679, 15871, 32255, 65535, 131071, 262143, 524287, 1048575, 2097151, 4194303, 8388607, 16777215, 8388607, 67108863, 134217727, 8388607, 276824063, 8388607, 1082130431, 4034920447, 8329887743, 17179869183, 34359738367, 68719476735]
theorem spec_PiecesValid.tab17 : rtab .any (opsOf Try.f45 17) = spec_PiecesValid.T17 := by kernel_rfl
theorem spec_PiecesValid.bits17 : waitsOk spec_PiecesValid.T17.2 spec_PiecesValid.B17 = true := by kernel_rfl
set_option maxHeartbeats 8000000 in
set_option maxRecDepth 100000 in
theorem spec_PiecesValid.calls (k : Nat) (A0 : Option Addr) (c0 : Nat) (l0 : List (S119)) (a1 : Int) (r : Bool) (w : World) (hr0 : Kd.C k119 w A0 l0.length l0) (hc0 : l0.length ≤ c0) (h : spec_PiecesValid.f k l0 a1 = some r) :
  Calls Try.prog 45 #[.slice A0 l0.length c0, .int .i64 a1] w fun e w' => e = .returned (.bool r) ∧ Below w.heap.size w w' := by
 have hu119 := Try.underlying119
 have hu122 := Try.underlying122
 have HR0 := Aside0.mk hr0
 have HC0 := Aside0.mk hc0
 clear hr0 hc0
 have HB := Aside0.mk (Below.refl w.heap.size w)
 have H : (spec_PiecesValid.l0 k l0 a1 0 0) = some r := h
 clear h
 have H' := Aside0.mk H
 clear H
 go_enter Try.func45, Try.ntmps45
 go_wp2
 go_loopg [5, 6] k (fun kq v5 v6 w' => ∃ (x5_1 : Int) (x6_1 : Int), v5 = .int .i64 x5_1 ∧ v6 = .int .i64 x6_1 ∧ Aside0 (spec_PiecesValid.l0 kq l0 a1 x5_1 x6_1 = some r) ∧ Aside0 (kq ≤ k) ∧ Aside0 (Below w.heap.size w w'))
 case atStart => exact ⟨(0), (0), z2_7, z2_7, H', ⟨Nat.le_refl _⟩, ⟨z2_5⟩⟩
 case round =>
  clear H'
  try clear p2
  obtain ⟨x5_1, x6_1, rfl, rfl, HA, HK1, HB⟩ := hrel
  cases gk with
  | zero => exact absurd HA.out (by simp [spec_PiecesValid.l0])
  | succ k1 =>
   have H := HA.out
   clear HA
   simp only [spec_PiecesValid.l0] at H
   by_cases c3 : x6_1 < (l0.length : Int)
   ·rw [if_pos c3] at H
    have c3b0 : decide (x6_1 < (l0.length : Int)) = true := decide_eq_true c3
    clear c3
    by_cases c4 : 0 ≤ x6_1
    ·rw [if_pos c4] at H
     have c4b0 : decide (0 ≤ x6_1) = true := decide_eq_true c4
     clear c4
     replace H := Option.bind_eq_some_iff.mp H
     obtain ⟨t130, A50, H⟩ := H
     replace H : (if ((rd_T119 l0 x6_1).f0) = x6_1 then (if (t130.length : Int) = (((rd_T119 l0 x6_1).f1).length : Int) then (if (((rd_T119 l0 x6_1).f2).length : Int) = (t130.length : Int) then (spec_PiecesValid.j1 k1 l0 a1 x5_1 x6_1 t130 ((((rd_T119 l0 x6_1).f3).length : Int) != (t130.length : Int)) ((rd_T119 l0 x6_1).f0) ((rd_T119 l0 x6_1).f1) ((rd_T119 l0 x6_1).f2) ((rd_T119 l0 x6_1).f3) ((rd_T119 l0 x6_1).f4)) else (spec_PiecesValid.j1 k1 l0 a1 x5_1 x6_1 t130 true ((rd_T119 l0 x6_1).f0) ((rd_T119 l0 x6_1).f1) ((rd_T119 l0 x6_1).f2) ((rd_T119 l0 x6_1).f3) ((rd_T119 l0 x6_1).f4))) else (spec_PiecesValid.j1 k1 l0 a1 x5_1 x6_1 t130 true ((rd_T119 l0 x6_1).f0) ((rd_T119 l0 x6_1).f1) ((rd_T119 l0 x6_1).f2) ((rd_T119 l0 x6_1).f3) ((rd_T119 l0 x6_1).f4))) else (spec_PiecesValid.j1 k1 l0 a1 x5_1 x6_1 t130 true ((rd_T119 l0 x6_1).f0) ((rd_T119 l0 x6_1).f1) ((rd_T119 l0 x6_1).f2) ((rd_T119 l0 x6_1).f3) ((rd_T119 l0 x6_1).f4))) = some r := H
     have A5 := Aside0.mk A50
     clear A50
     have HC6 := Aside0.mk H
     clear H
     have p128 : 0 ≤ (x6_1 : Int) := of_decide_eq_true z2_1
     have q128 : x6_1 < (l0.length : Int) := of_decide_eq_true z2_1
     obtain ⟨ad128, A128_1, c128_1, A128_2, c128_2, A128_3, c128_3, A128_4, c128_4, e128, hx128_0, hx128_1, hx128_2, hx128_3, hx128_4, hl128_1, hi128_1, hl128_2, hi128_2, hl128_3, hi128_3, hl128_4, hi128_4⟩ := at_T119 HR0.out x6_1 p128 q128
     cases e128
     replace hx128_0 := (HB.out.cell (World.block_lt_of_cell? w _ hx128_0)).trans hx128_0
     replace hx128_1 := (HB.out.cell (World.block_lt_of_cell? w _ hx128_1)).trans hx128_1
     replace hx128_2 := (HB.out.cell (World.block_lt_of_cell? w _ hx128_2)).trans hx128_2
     replace hx128_3 := (HB.out.cell (World.block_lt_of_cell? w _ hx128_3)).trans hx128_3
     replace hx128_4 := (HB.out.cell (World.block_lt_of_cell? w _ hx128_4)).trans hx128_4
     have HR128_1 := Aside0.mk hi128_1
     have HC128_1 := Aside0.mk hl128_1
     clear hi128_1 hl128_1
     have HR128_2 := Aside0.mk hi128_2
     have HC128_2 := Aside0.mk hl128_2
     clear hi128_2 hl128_2
     have HR128_3 := Aside0.mk hi128_3
     have HC128_3 := Aside0.mk hl128_3
     clear hi128_3 hl128_3
     have HR128_4 := Aside0.mk hi128_4
     have HC128_4 := Aside0.mk hl128_4
     clear hi128_4 hl128_4
     replace p128 := eq_true p128
     replace q128 := eq_true q128
     go_upto_region 7 with (first | ((with_reducible refine gate_dst (N := 7) rfl ?_); (try (refine gate_guard (by rfl) ?_; dsimp only)); refine box_event ?hg (N := 7) ?hd (cs := #[.int .i64 0, .slice none 0 0, .slice none 0 0, .slice none 0 0, .slice none 0 0]) (t := 119) ?hr ?_; (case hd => rfl); (case hg => rfl); (case hr => first | (go_simp; done) | (go_simp; rfl)); intro gb129 hg w7 hbox hb; have n0_ := Aside0.mk (below_step z2_5 hb); have n1_ := Aside0.mk (hbox); have n2_ := Aside0.mk ((by rw [hg]; exact (below_size z2_5) : w.heap.size ≤ gb129)); have n3_ := Aside0.mk ((by rw [hg]; exact (below_size z2_5) : w.heap.size ≤ gb129)); clear HB; have HB := n0_; have BK129 := n1_; have GW129 := n2_; have GE129 := n3_; clear n0_ n1_ n2_ n3_; clear hb hbox hg; have hcz8_0 : w7.cell? ⟨gb129, 0, none⟩ = some (.int .i64 0) := (blk_cell BK129.out 0).trans rfl; have hcz8_1 : w7.cell? ⟨gb129, 1, none⟩ = some (.slice none 0 0) := (blk_cell BK129.out 1).trans rfl; have hcz8_2 : w7.cell? ⟨gb129, 2, none⟩ = some (.slice none 0 0) := (blk_cell BK129.out 2).trans rfl; have hcz8_3 : w7.cell? ⟨gb129, 3, none⟩ = some (.slice none 0 0) := (blk_cell BK129.out 3).trans rfl; have hcz8_4 : w7.cell? ⟨gb129, 4, none⟩ = some (.slice none 0 0) := (blk_cell BK129.out 4).trans rfl; have hfz8_0 := blk_frozen BK129.out 0; have hfz8_1 := blk_frozen BK129.out 1; have hfz8_2 := blk_frozen BK129.out 2; have hfz8_3 := blk_frozen BK129.out 3; have hfz8_4 := blk_frozen BK129.out 4) | ((with_reducible refine gate_callee (f := 75) rfl ?_); refine goesL_ (some 25) rfl rfl Try.func75 (by kernel_rfl) rfl #[.int .i64 a1, .int .i64 (l0.length : Int), .int .i64 x6_1] rfl z2_2 ?_; (with_reducible refine (spec_OwnedBy.calls k1 a1 (l0.length : Int) x6_1 t130 _ A5.out).mono ?_); rintro e w9 ⟨v131, rfl, ho0, hb⟩; refine ⟨_, rfl, ?_⟩; have n0_ := Aside0.mk (Kd.R_lower ho0 (below_size z2_0)); have n1_ := Aside0.mk (blk_below (g := gb129) (o := .cells #[.int .i64 ((rd_T119 l0 x6_1).f0), .slice A128_1 ((rd_T119 l0 x6_1).f1).length c128_1, .slice A128_2 ((rd_T119 l0 x6_1).f2).length c128_2, .slice A128_3 ((rd_T119 l0 x6_1).f3).length c128_3, .slice A128_4 ((rd_T119 l0 x6_1).f4).length c128_4] 119 (0, 0)) (by (with_reducible repeat (first | refine blk_drewN ?_ _ | refine blk_drew ?_ | refine blk_alloc ?_ _)); refine blk_put (cs := #[.int .i64 ((rd_T119 l0 x6_1).f0), .slice A128_1 ((rd_T119 l0 x6_1).f1).length c128_1, .slice A128_2 ((rd_T119 l0 x6_1).f2).length c128_2, .slice A128_3 ((rd_T119 l0 x6_1).f3).length c128_3, .slice none 0 0]) ?_ 4 _ rfl; (with_reducible repeat (first | refine blk_drewN ?_ _ | refine blk_drew ?_ | refine blk_alloc ?_ _)); refine blk_put (cs := #[.int .i64 ((rd_T119 l0 x6_1).f0), .slice A128_1 ((rd_T119 l0 x6_1).f1).length c128_1, .slice A128_2 ((rd_T119 l0 x6_1).f2).length c128_2, .slice none 0 0, .slice none 0 0]) ?_ 3 _ rfl; (with_reducible repeat (first | refine blk_drewN ?_ _ | refine blk_drew ?_ | refine blk_alloc ?_ _)); refine blk_put (cs := #[.int .i64 ((rd_T119 l0 x6_1).f0), .slice A128_1 ((rd_T119 l0 x6_1).f1).length c128_1, .slice none 0 0, .slice none 0 0, .slice none 0 0]) ?_ 2 _ rfl; (with_reducible repeat (first | refine blk_drewN ?_ _ | refine blk_drew ?_ | refine blk_alloc ?_ _)); refine blk_put (cs := #[.int .i64 ((rd_T119 l0 x6_1).f0), .slice none 0 0, .slice none 0 0, .slice none 0 0, .slice none 0 0]) ?_ 1 _ rfl; (with_reducible repeat (first | refine blk_drewN ?_ _ | refine blk_drew ?_ | refine blk_alloc ?_ _)); refine blk_put (cs := #[.int .i64 0, .slice none 0 0, .slice none 0 0, .slice none 0 0, .slice none 0 0]) ?_ 0 _ rfl; (with_reducible repeat (first | refine blk_drewN ?_ _ | refine blk_drew ?_ | refine blk_alloc ?_ _)); exact BK129.out) hb); have n2_ := Aside0.mk (below_step z2_0 hb); clear BK129; clear HB; have HO132 := n0_; have BK129 := n1_; have HB := n2_; clear n0_ n1_ n2_; (try clear hb); (try clear hb2); (try clear hk); (try clear hi); (try clear ho0)))
     (try simp only [Act.put, List.setIfInBounds_toArray, List.set_cons_zero, List.set_cons_succ])
     go_cut [53] (fun v53 wc => ∃ (kq : Nat) (x53_5 : Bool), v53 = .bool x53_5 ∧ Aside0 (spec_PiecesValid.j1 kq l0 a1 x5_1 x6_1 t130 x53_5 ((rd_T119 l0 x6_1).f0) ((rd_T119 l0 x6_1).f1) ((rd_T119 l0 x6_1).f2) ((rd_T119 l0 x6_1).f3) ((rd_T119 l0 x6_1).f4) = some r) ∧ Aside0 (kq ≤ k1) ∧ Aside0 (Kd.R (Kd.int .i64) 3 wc w.heap.size (fun _ => True) v131 t130) ∧ Aside0 (wc.heap[gb129]? = some (.cells #[.int .i64 ((rd_T119 l0 x6_1).f0), (.slice A128_1 ((rd_T119 l0 x6_1).f1).length c128_1), (.slice A128_2 ((rd_T119 l0 x6_1).f2).length c128_2), (.slice A128_3 ((rd_T119 l0 x6_1).f3).length c128_3), (.slice A128_4 ((rd_T119 l0 x6_1).f4).length c128_4)] 119 (0, 0))) ∧ Aside0 (Below w.heap.size w wc))
     case first =>
      have H := HC6.out
      clear HC6
      by_cases c10 : ((rd_T119 l0 x6_1).f0) = x6_1
      ·rw [if_pos c10] at H
       have c10b0 : (((rd_T119 l0 x6_1).f0) == x6_1) = true := beq_iff_eq.mpr c10
       have c10b1 : (((rd_T119 l0 x6_1).f0) != x6_1) = false := bne_eq_false_iff_eq.mpr c10
       clear c10
       (first | rw [c10b0] | (simp only [i64_w, i32_w]; rw [c10b0]) | skip)
       by_cases c11 : (t130.length : Int) = (((rd_T119 l0 x6_1).f1).length : Int)
       ·rw [if_pos c11] at H
        have c11b0 : ((t130.length : Int) == (((rd_T119 l0 x6_1).f1).length : Int)) = true := beq_iff_eq.mpr c11
        have c11b1 : ((t130.length : Int) != (((rd_T119 l0 x6_1).f1).length : Int)) = false := bne_eq_false_iff_eq.mpr c11
        have c11b2 : (t130.length == ((rd_T119 l0 x6_1).f1).length) = true := by first | simpa using c11 | (simp at c11 ⊢; omega)
        clear c11
        by_cases c12 : (((rd_T119 l0 x6_1).f2).length : Int) = (t130.length : Int)
        ·rw [if_pos c12] at H
         have c12b0 : ((((rd_T119 l0 x6_1).f2).length : Int) == (t130.length : Int)) = true := beq_iff_eq.mpr c12
         have c12b1 : ((((rd_T119 l0 x6_1).f2).length : Int) != (t130.length : Int)) = false := bne_eq_false_iff_eq.mpr c12
         have c12b2 : (((rd_T119 l0 x6_1).f2).length == t130.length) = true := by first | simpa using c12 | (simp at c12 ⊢; omega)
         clear c12
         have H' := Aside0.mk H
         clear H
         have hcz13_0 : w9.cell? ⟨gb129, 0, none⟩ = some (.int .i64 ((rd_T119 l0 x6_1).f0)) := (blk_cell BK129.out 0).trans rfl
         have hcz13_1 : w9.cell? ⟨gb129, 1, none⟩ = some (.slice A128_1 ((rd_T119 l0 x6_1).f1).length c128_1) := (blk_cell BK129.out 1).trans rfl
         have hcz13_2 : w9.cell? ⟨gb129, 2, none⟩ = some (.slice A128_2 ((rd_T119 l0 x6_1).f2).length c128_2) := (blk_cell BK129.out 2).trans rfl
         have hcz13_3 : w9.cell? ⟨gb129, 3, none⟩ = some (.slice A128_3 ((rd_T119 l0 x6_1).f3).length c128_3) := (blk_cell BK129.out 3).trans rfl
         have hcz13_4 : w9.cell? ⟨gb129, 4, none⟩ = some (.slice A128_4 ((rd_T119 l0 x6_1).f4).length c128_4) := (blk_cell BK129.out 4).trans rfl
         have hfz13_0 := blk_frozen BK129.out 0
         have hfz13_1 := blk_frozen BK129.out 1
         have hfz13_2 := blk_frozen BK129.out 2
         have hfz13_3 := blk_frozen BK129.out 3
         have hfz13_4 := blk_frozen BK129.out 4
         obtain ⟨Ao14, co14, eo14⟩ := Kd.R_slice HO132.out
         subst eo14
         go_wp2
         go_meet
         case rel => exact ⟨_, (((((rd_T119 l0 x6_1).f3).length : Int) != (t130.length : Int))), z2_7, H', ⟨z2_10⟩, ⟨z2_8⟩, ⟨z2_3⟩, ⟨z2_0⟩⟩
        ·rw [if_neg c12] at H
         have c12b0 : ((((rd_T119 l0 x6_1).f2).length : Int) == (t130.length : Int)) = false := beq_eq_false_iff_ne.mpr c12
         have c12b1 : ((((rd_T119 l0 x6_1).f2).length : Int) != (t130.length : Int)) = true := bne_iff_ne.mpr c12
         have c12b2 : (((rd_T119 l0 x6_1).f2).length == t130.length) = false := by first | simpa using c12 | (simp at c12 ⊢; omega)
         have H' := Aside0.mk H
         clear H
         have hcz15_0 : w9.cell? ⟨gb129, 0, none⟩ = some (.int .i64 ((rd_T119 l0 x6_1).f0)) := (blk_cell BK129.out 0).trans rfl
         have hcz15_1 : w9.cell? ⟨gb129, 1, none⟩ = some (.slice A128_1 ((rd_T119 l0 x6_1).f1).length c128_1) := (blk_cell BK129.out 1).trans rfl
         have hcz15_2 : w9.cell? ⟨gb129, 2, none⟩ = some (.slice A128_2 ((rd_T119 l0 x6_1).f2).length c128_2) := (blk_cell BK129.out 2).trans rfl
         have hcz15_3 : w9.cell? ⟨gb129, 3, none⟩ = some (.slice A128_3 ((rd_T119 l0 x6_1).f3).length c128_3) := (blk_cell BK129.out 3).trans rfl
         have hcz15_4 : w9.cell? ⟨gb129, 4, none⟩ = some (.slice A128_4 ((rd_T119 l0 x6_1).f4).length c128_4) := (blk_cell BK129.out 4).trans rfl
         have hfz15_0 := blk_frozen BK129.out 0
         have hfz15_1 := blk_frozen BK129.out 1
         have hfz15_2 := blk_frozen BK129.out 2
         have hfz15_3 := blk_frozen BK129.out 3
         have hfz15_4 := blk_frozen BK129.out 4
         obtain ⟨Ao16, co16, eo16⟩ := Kd.R_slice HO132.out
         subst eo16
         go_wp2
         go_meet
         case rel => exact ⟨_, (true), z2_7, H', ⟨z2_10⟩, ⟨z2_8⟩, ⟨z2_3⟩, ⟨z2_0⟩⟩
       ·rw [if_neg c11] at H
        have c11b0 : ((t130.length : Int) == (((rd_T119 l0 x6_1).f1).length : Int)) = false := beq_eq_false_iff_ne.mpr c11
        have c11b1 : ((t130.length : Int) != (((rd_T119 l0 x6_1).f1).length : Int)) = true := bne_iff_ne.mpr c11
        have c11b2 : (t130.length == ((rd_T119 l0 x6_1).f1).length) = false := by first | simpa using c11 | (simp at c11 ⊢; omega)
        have H' := Aside0.mk H
        clear H
        have hcz17_0 : w9.cell? ⟨gb129, 0, none⟩ = some (.int .i64 ((rd_T119 l0 x6_1).f0)) := (blk_cell BK129.out 0).trans rfl
        have hcz17_1 : w9.cell? ⟨gb129, 1, none⟩ = some (.slice A128_1 ((rd_T119 l0 x6_1).f1).length c128_1) := (blk_cell BK129.out 1).trans rfl
        have hcz17_2 : w9.cell? ⟨gb129, 2, none⟩ = some (.slice A128_2 ((rd_T119 l0 x6_1).f2).length c128_2) := (blk_cell BK129.out 2).trans rfl
        have hcz17_3 : w9.cell? ⟨gb129, 3, none⟩ = some (.slice A128_3 ((rd_T119 l0 x6_1).f3).length c128_3) := (blk_cell BK129.out 3).trans rfl
        have hcz17_4 : w9.cell? ⟨gb129, 4, none⟩ = some (.slice A128_4 ((rd_T119 l0 x6_1).f4).length c128_4) := (blk_cell BK129.out 4).trans rfl
        have hfz17_0 := blk_frozen BK129.out 0
        have hfz17_1 := blk_frozen BK129.out 1
        have hfz17_2 := blk_frozen BK129.out 2
        have hfz17_3 := blk_frozen BK129.out 3
        have hfz17_4 := blk_frozen BK129.out 4
        obtain ⟨Ao18, co18, eo18⟩ := Kd.R_slice HO132.out
        subst eo18
        go_wp2
        go_meet
        case rel => exact ⟨_, (true), z2_7, H', ⟨z2_10⟩, ⟨z2_8⟩, ⟨z2_3⟩, ⟨z2_0⟩⟩
      ·rw [if_neg c10] at H
       have c10b0 : (((rd_T119 l0 x6_1).f0) == x6_1) = false := beq_eq_false_iff_ne.mpr c10
       have c10b1 : (((rd_T119 l0 x6_1).f0) != x6_1) = true := bne_iff_ne.mpr c10
       (first | rw [c10b0] | (simp only [i64_w, i32_w]; rw [c10b0]) | skip)
       have H' := Aside0.mk H
       clear H
       have hcz19_0 : w9.cell? ⟨gb129, 0, none⟩ = some (.int .i64 ((rd_T119 l0 x6_1).f0)) := (blk_cell BK129.out 0).trans rfl
       have hcz19_1 : w9.cell? ⟨gb129, 1, none⟩ = some (.slice A128_1 ((rd_T119 l0 x6_1).f1).length c128_1) := (blk_cell BK129.out 1).trans rfl
       have hcz19_2 : w9.cell? ⟨gb129, 2, none⟩ = some (.slice A128_2 ((rd_T119 l0 x6_1).f2).length c128_2) := (blk_cell BK129.out 2).trans rfl
       have hcz19_3 : w9.cell? ⟨gb129, 3, none⟩ = some (.slice A128_3 ((rd_T119 l0 x6_1).f3).length c128_3) := (blk_cell BK129.out 3).trans rfl
       have hcz19_4 : w9.cell? ⟨gb129, 4, none⟩ = some (.slice A128_4 ((rd_T119 l0 x6_1).f4).length c128_4) := (blk_cell BK129.out 4).trans rfl
       have hfz19_0 := blk_frozen BK129.out 0
       have hfz19_1 := blk_frozen BK129.out 1
       have hfz19_2 := blk_frozen BK129.out 2
       have hfz19_3 := blk_frozen BK129.out 3
       have hfz19_4 := blk_frozen BK129.out 4
       go_wp2
       go_meet
       case rel => exact ⟨_, (true), z2_7, H', ⟨z2_10⟩, ⟨z2_8⟩, ⟨z2_3⟩, ⟨z2_0⟩⟩
     case rest =>
      clear HC6
      try clear c1
      try clear p1
      try clear q1
      try clear hx1
      try clear p2
      try clear c3
      try clear c3b0
      try clear c4
      try clear c4b0
      try clear c7
      try clear c10
      try clear c10b0
      try clear c10b1
      try clear c11
      try clear c11b0
      try clear c11b1
      try clear c11b2
      try clear c12
      try clear c12b0
      try clear c12b1
      try clear c12b2
      try clear p12
      try clear q12
      try clear hx12
      try clear hcz13_0
      try clear hcz13_1
      try clear hcz13_2
      try clear hcz13_3
      try clear hcz13_4
      try clear hcz15_0
      try clear hcz15_1
      try clear hcz15_2
      try clear hcz15_3
      try clear hcz15_4
      try clear hcz17_0
      try clear hcz17_1
      try clear hcz17_2
      try clear hcz17_3
      try clear hcz17_4
      try clear hcz19_0
      try clear hcz19_1
      try clear hcz19_2
      try clear hcz19_3
      try clear hcz19_4
      try clear hcz8_0
      try clear hcz8_1
      try clear hcz8_2
      try clear hcz8_3
      try clear hcz8_4
      try clear hfz13_0
      try clear hfz13_1
      try clear hfz13_2
      try clear hfz13_3
      try clear hfz13_4
      try clear hfz15_0
      try clear hfz15_1
      try clear hfz15_2
      try clear hfz15_3
      try clear hfz15_4
      try clear hfz17_0
      try clear hfz17_1
      try clear hfz17_2
      try clear hfz17_3
      try clear hfz17_4
      try clear hfz19_0
      try clear hfz19_1
      try clear hfz19_2
      try clear hfz19_3
      try clear hfz19_4
      try clear hfz8_0
      try clear hfz8_1
      try clear hfz8_2
      try clear hfz8_3
      try clear hfz8_4
      try clear hx128_0
      try clear hx128_1
      try clear hx128_2
      try clear hx128_3
      try clear hx128_4
      try clear p128
      try clear p2
      try clear q128
      obtain ⟨kq, x53_5, rfl, HA, HJ5, HO_8, BK129, HB⟩ := hcut
      cases kq with
      | zero => exact absurd HA.out (by simp [spec_PiecesValid.j1])
      | succ kj5 =>
       have H := HA.out
       clear HA
       simp only [spec_PiecesValid.j1] at H
       by_cases c20 : x53_5 = true
       ·subst c20
        have H1 : (some false) = some r := by rw [if_pos rfl] at H; exact H
        clear H
        have H := H1
        clear H1
        obtain rfl := Option.some.inj H
        go_wp2
        go_ret
        exact ⟨z2_6, z2_0⟩
       ·replace c20 := Bool.eq_false_iff.mpr c20
        subst c20
        have H1 : (spec_PiecesValid.l1 kj5 l0 a1 x5_1 x6_1 t130 0 ((rd_T119 l0 x6_1).f0) ((rd_T119 l0 x6_1).f1) ((rd_T119 l0 x6_1).f2) ((rd_T119 l0 x6_1).f3) ((rd_T119 l0 x6_1).f4)) = some r := by rw [if_neg (show ¬ (false = true) by decide)] at H; exact H
        clear H
        have H := H1
        clear H1
        have H' := Aside0.mk H
        clear H
        go_wp2
        go_loopg [9] kj5 (fun kq v9 w' => ∃ (x9_3 : Int), v9 = .int .i64 x9_3 ∧ Aside0 (spec_PiecesValid.l1 kq l0 a1 x5_1 x6_1 t130 x9_3 ((rd_T119 l0 x6_1).f0) ((rd_T119 l0 x6_1).f1) ((rd_T119 l0 x6_1).f2) ((rd_T119 l0 x6_1).f3) ((rd_T119 l0 x6_1).f4) = some r) ∧ Aside0 (kq ≤ kj5) ∧ Aside0 (Kd.R (Kd.int .i64) 3 w' w.heap.size (fun _ => True) v131 t130) ∧ Aside0 (w'.heap[gb129]? = some (.cells #[.int .i64 ((rd_T119 l0 x6_1).f0), (.slice A128_1 ((rd_T119 l0 x6_1).f1).length c128_1), (.slice A128_2 ((rd_T119 l0 x6_1).f2).length c128_2), (.slice A128_3 ((rd_T119 l0 x6_1).f3).length c128_3), (.slice A128_4 ((rd_T119 l0 x6_1).f4).length c128_4)] 119 (0, 0))) ∧ Aside0 (Below w.heap.size w w'))
        case atStart => exact ⟨(0), z2_7, H', ⟨Nat.le_refl _⟩, ⟨z2_4⟩, ⟨z2_3⟩, ⟨z2_0⟩⟩
        case round =>
         clear H'
         try clear c1
         try clear p1
         try clear q1
         try clear hx1
         try clear c2
         try clear p2
         try clear c3
         try clear c3b0
         try clear c4
         try clear c4b0
         try clear c7
         try clear c10
         try clear c10b0
         try clear c10b1
         try clear c11
         try clear c11b0
         try clear c11b1
         try clear c11b2
         try clear c12
         try clear c12b0
         try clear c12b1
         try clear c12b2
         try clear p12
         try clear q12
         try clear hx12
         try clear c20
         try clear hcz13_0
         try clear hcz13_1
         try clear hcz13_2
         try clear hcz13_3
         try clear hcz13_4
         try clear hcz15_0
         try clear hcz15_1
         try clear hcz15_2
         try clear hcz15_3
         try clear hcz15_4
         try clear hcz17_0
         try clear hcz17_1
         try clear hcz17_2
         try clear hcz17_3
         try clear hcz17_4
         try clear hcz19_0
         try clear hcz19_1
         try clear hcz19_2
         try clear hcz19_3
         try clear hcz19_4
         try clear hcz8_0
         try clear hcz8_1
         try clear hcz8_2
         try clear hcz8_3
         try clear hcz8_4
         try clear hfz13_0
         try clear hfz13_1
         try clear hfz13_2
         try clear hfz13_3
         try clear hfz13_4
         try clear hfz15_0
         try clear hfz15_1
         try clear hfz15_2
         try clear hfz15_3
         try clear hfz15_4
         try clear hfz17_0
         try clear hfz17_1
         try clear hfz17_2
         try clear hfz17_3
         try clear hfz17_4
         try clear hfz19_0
         try clear hfz19_1
         try clear hfz19_2
         try clear hfz19_3
         try clear hfz19_4
         try clear hfz8_0
         try clear hfz8_1
         try clear hfz8_2
         try clear hfz8_3
         try clear hfz8_4
         try clear hx128_0
         try clear hx128_1
         try clear hx128_2
         try clear hx128_3
         try clear hx128_4
         try clear p1
         try clear p12
         try clear p128
         try clear p2
         try clear q1
         try clear q12
         try clear q128
         obtain ⟨x9_3, rfl, HA, HK3, HO_8, BK129, HB⟩ := hrel
         cases gk with
         | zero => exact absurd HA.out (by simp [spec_PiecesValid.l1])
         | succ k3 =>
          have H := HA.out
          clear HA
          simp only [spec_PiecesValid.l1] at H
          by_cases c21 : x9_3 < (t130.length : Int)
          ·rw [if_pos c21] at H
           have c21b0 : decide (x9_3 < (t130.length : Int)) = true := decide_eq_true c21
           clear c21
           by_cases c22 : 0 ≤ x9_3
           ·rw [if_pos c22] at H
            have c22b0 : decide (0 ≤ x9_3) = true := decide_eq_true c22
            clear c22
            by_cases c23 : x9_3 < (((rd_T119 l0 x6_1).f1).length : Int)
            ·rw [if_pos c23] at H
             have c23b0 : decide (x9_3 < (((rd_T119 l0 x6_1).f1).length : Int)) = true := decide_eq_true c23
             clear c23
             by_cases c24 : (rd t130 x9_3) = (rd ((rd_T119 l0 x6_1).f1) x9_3)
             ·rw [if_pos c24] at H
              have c24b0 : ((rd t130 x9_3) == (rd ((rd_T119 l0 x6_1).f1) x9_3)) = true := beq_iff_eq.mpr c24
              have c24b1 : ((rd t130 x9_3) != (rd ((rd_T119 l0 x6_1).f1) x9_3)) = false := bne_eq_false_iff_eq.mpr c24
              clear c24
              by_cases c25 : x9_3 < (((rd_T119 l0 x6_1).f2).length : Int)
              ·rw [if_pos c25] at H
               have c25b0 : decide (x9_3 < (((rd_T119 l0 x6_1).f2).length : Int)) = true := decide_eq_true c25
               clear c25
               replace H := Option.bind_eq_some_iff.mp H
               obtain ⟨t136, A260, H⟩ := H
               replace H : (if t136 = true then (spec_PiecesValid.l1 k3 l0 a1 x5_1 x6_1 t130 (wrap64 (x9_3 + 1)) ((rd_T119 l0 x6_1).f0) ((rd_T119 l0 x6_1).f1) ((rd_T119 l0 x6_1).f2) ((rd_T119 l0 x6_1).f3) ((rd_T119 l0 x6_1).f4)) else (some false)) = some r := H
               have A26 := Aside0.mk A260
               clear A260
               by_cases c27 : t136 = true
               ·subst c27
                have H1 : (spec_PiecesValid.l1 k3 l0 a1 x5_1 x6_1 t130 (wrap64 (x9_3 + 1)) ((rd_T119 l0 x6_1).f0) ((rd_T119 l0 x6_1).f1) ((rd_T119 l0 x6_1).f2) ((rd_T119 l0 x6_1).f3) ((rd_T119 l0 x6_1).f4)) = some r := by rw [if_pos rfl] at H; exact H
                clear H
                have H := H1
                clear H1
                have H' := Aside0.mk H
                clear H
                obtain ⟨Ao28, co28, eo28⟩ := Kd.R_slice HO_8.out
                subst eo28
                try go_wp2
                have n0_ := Aside0.mk (Kd.R_drew HO_8.out)
                have n1_ := Aside0.mk (blk_drew BK129.out)
                have n2_ := Aside0.mk (below_drew1 HB.out)
                clear HO_8
                clear BK129
                clear HB
                have HO_8 := n0_
                have BK129 := n1_
                have HB := n2_
                clear n0_ n1_ n2_
                have p133 : 0 ≤ (x9_3 : Int) := of_decide_eq_true z2_1
                have q133 : x9_3 < (t130.length : Int) := of_decide_eq_true z2_1
                obtain ⟨ad133, e133, hx133_0⟩ := Kd.at_int (Kd.R_reads' HO_8.out).2.2 x9_3 p133 q133
                cases e133
                replace p133 := eq_true p133
                replace q133 := eq_true q133
                have p134 : 0 ≤ (x9_3 : Int) := of_decide_eq_true z2_1
                have q134 : x9_3 < (((rd_T119 l0 x6_1).f1).length : Int) := of_decide_eq_true z2_1
                obtain ⟨ad134, e134, hx134_0⟩ := Kd.at_int HR128_1.out x9_3 p134 q134
                have hw134_0 := hx134_0
                cases e134
                replace hx134_0 := (HB.out.cell (World.block_lt_of_cell? w _ hx134_0)).trans hx134_0
                replace p134 := eq_true p134
                replace q134 := eq_true q134
                have p135 : 0 ≤ (x9_3 : Int) := of_decide_eq_true z2_1
                have q135 : x9_3 < (((rd_T119 l0 x6_1).f2).length : Int) := of_decide_eq_true z2_1
                obtain ⟨ad135, e135, hx135_0⟩ := Kd.at_int HR128_2.out x9_3 p135 q135
                have hw135_0 := hx135_0
                cases e135
                replace hx135_0 := (HB.out.cell (World.block_lt_of_cell? w _ hx135_0)).trans hx135_0
                replace p135 := eq_true p135
                replace q135 := eq_true q135
                refine start_ (n := 19) (S := fun w' => w'.cell? ⟨gb129, 0, none⟩ = some (.int .i64 ((rd_T119 l0 x6_1).f0)) ∧ w'.cell? ⟨gb129, 1, none⟩ = some (.slice (some ad134) ((rd_T119 l0 x6_1).f1).length c128_1) ∧ w'.cell? ⟨gb129, 2, none⟩ = some (.slice (some ad135) ((rd_T119 l0 x6_1).f2).length c128_2) ∧ w'.cell? ⟨gb129, 3, none⟩ = some (.slice A128_3 ((rd_T119 l0 x6_1).f3).length c128_3) ∧ w'.cell? ⟨gb129, 4, none⟩ = some (.slice A128_4 ((rd_T119 l0 x6_1).f4).length c128_4) ∧ w'.cell? (ad133.add (x9_3).toNat) = some (.int .i64 (rd t130 x9_3)) ∧ w'.cell? (ad134.add (x9_3).toNat) = some (.int .i64 (rd ((rd_T119 l0 x6_1).f1) x9_3)) ∧ w'.cell? (ad135.add (x9_3).toNat) = some (.int .i64 (rd ((rd_T119 l0 x6_1).f2) x9_3))) (ds := []) (bm 19 0) (by kernel_rfl) rfl rfl ⟨(blk_cell BK129.out 0).trans rfl, (blk_cell BK129.out 1).trans rfl, (blk_cell BK129.out 2).trans rfl, (blk_cell BK129.out 3).trans rfl, (blk_cell BK129.out 4).trans rfl, hx133_0, ((HB.out.cell (World.block_lt_of_cell? w _ hw134_0)).trans hw134_0), ((HB.out.cell (World.block_lt_of_cell? w _ hw135_0)).trans hw135_0)⟩ (fun hHeld => ?_); refine with_tabW spec_PiecesValid.tab12 spec_PiecesValid.bits12 (fun HT_ HW_ => ?_)
                generalize wr.drew = w29 at HO_8 BK129 HB hx133_0 hx134_0 hx135_0 hHeld ⊢
                refine pure_ (i := 0) (N := some 60) (v := ?_) (a' := ?_) (bm 19 1) rfl rfl (any_of HT_.out (by kernel_rfl)) (fun _ _ _ h => h) (Or.inl ⟨by rfl, ?_⟩) ?_ ?_
                rotate_left
                ·intro w'
                 go_simp
                 with_reducible rfl
                rotate_left
                ·simp only [Act.put, List.setIfInBounds_toArray, List.set_cons_zero, List.set_cons_succ, i64_w, i32_w]
                 rfl
                refine pure_ (i := 1) (N := some 61) (v := ?_) (a' := ?_) (bm 19 3) rfl rfl (any_of HT_.out (by kernel_rfl)) (fun _ _ _ h => h) (Or.inl ⟨by rfl, ?_⟩) ?_ ?_
                rotate_left
                ·intro w'
                 go_simp
                 with_reducible rfl
                rotate_left
                ·simp only [Act.put, List.setIfInBounds_toArray, List.set_cons_zero, List.set_cons_succ, i64_w, i32_w]
                 rfl
                refine pure_ (i := 2) (N := some 62) (v := ?_) (a' := ?_) (bm 19 7) rfl rfl (any_of HT_.out (by kernel_rfl)) (fun _ _ _ h => h) (Or.inl ⟨by rfl, ?_⟩) ?_ ?_
                rotate_left
                ·intro w'
                 go_simp
                 with_reducible rfl
                rotate_left
                ·simp only [Act.put, List.setIfInBounds_toArray, List.set_cons_zero, List.set_cons_succ, i64_w, i32_w]
                 rfl
                refine pure_ (i := 4) (N := some 64) (v := ?_) (a' := ?_) (bm 19 23) rfl rfl (any_of HT_.out (by kernel_rfl)) (fun _ _ _ h => h) (Or.inl ⟨by rfl, ?_⟩) ?_ ?_
                rotate_left
                ·intro w'
                 go_simp
                 with_reducible rfl
                rotate_left
                ·simp only [Act.put, List.setIfInBounds_toArray, List.set_cons_zero, List.set_cons_succ, i64_w, i32_w]
                 rfl
                refine pure_ (i := 6) (N := some 66) (v := ?_) (a' := ?_) (bm 19 87) rfl rfl (any_of HT_.out (by kernel_rfl)) (fun _ _ _ h => h) (Or.inl ⟨by rfl, ?_⟩) ?_ ?_
                rotate_left
                ·intro w'
                 go_simp
                 with_reducible rfl
                rotate_left
                ·simp only [Act.put, List.setIfInBounds_toArray, List.set_cons_zero, List.set_cons_succ, i64_w, i32_w]
                 rfl
                refine take_ (i := 3) (N := some 63) (v := ?_) (a' := ?_) (bm 19 95) rfl rfl (take_ofW HT_.out HW_.out (by kernel_rfl)) (fun _ _ _ h => h) (Or.inl ⟨by rfl, ?_⟩) hHeld ?_ ?_
                rotate_left
                ·rintro w' ⟨s0, s1, s2, s3, s4, s5, s6, s7⟩
                 go_simp
                 with_reducible rfl
                rotate_left
                ·simp only [Act.put, List.setIfInBounds_toArray, List.set_cons_zero, List.set_cons_succ, i64_w, i32_w]
                 rfl
                refine take_ (i := 5) (N := some 65) (v := ?_) (a' := ?_) (bm 19 127) rfl rfl (take_ofW HT_.out HW_.out (by kernel_rfl)) (fun _ _ _ h => h) (Or.inl ⟨by rfl, ?_⟩) hHeld ?_ ?_
                rotate_left
                ·rintro w' ⟨s0, s1, s2, s3, s4, s5, s6, s7⟩
                 go_simp
                 with_reducible rfl
                rotate_left
                ·simp only [Act.put, List.setIfInBounds_toArray, List.set_cons_zero, List.set_cons_succ, i64_w, i32_w]
                 rfl
                refine pure_ (i := 7) (N := some 67) (v := ?_) (a' := ?_) (bm 19 255) rfl rfl (any_of HT_.out (by kernel_rfl)) (fun _ _ _ h => h) (Or.inl ⟨by rfl, ?_⟩) ?_ ?_
                rotate_left
                ·intro w'
                 go_simp
                 with_reducible rfl
                rotate_left
                ·simp only [Act.put, List.setIfInBounds_toArray, List.set_cons_zero, List.set_cons_succ, i64_w, i32_w]
                 rfl
                refine take_ (i := 8) (N := some 68) (v := ?_) (a' := ?_) (bm 19 511) rfl rfl (take_ofW HT_.out HW_.out (by kernel_rfl)) (fun _ _ _ h => h) (Or.inl ⟨by rfl, ?_⟩) hHeld ?_ ?_
                rotate_left
                ·rintro w' ⟨s0, s1, s2, s3, s4, s5, s6, s7⟩
                 go_simp
                 with_reducible rfl
                rotate_left
                ·simp only [Act.put, List.setIfInBounds_toArray, List.set_cons_zero, List.set_cons_succ, i64_w, i32_w]
                 rfl
                refine pure_ (i := 9) (N := some 69) (v := ?_) (a' := ?_) (bm 19 1023) rfl rfl (any_of HT_.out (by kernel_rfl)) (fun _ _ _ h => h) (Or.inl ⟨by rfl, ?_⟩) ?_ ?_
                rotate_left
                ·intro w'
                 go_simp
                 with_reducible rfl
                rotate_left
                ·simp only [Act.put, List.setIfInBounds_toArray, List.set_cons_zero, List.set_cons_succ, i64_w, i32_w]
                 rfl
                refine pure_ (i := 10) (N := some 70) (v := ?_) (a' := ?_) (bm 19 2047) rfl rfl (any_of HT_.out (by kernel_rfl)) (fun _ _ _ h => h) (Or.inl ⟨by rfl, ?_⟩) ?_ ?_
                rotate_left
                ·intro w'
                 go_simp
                 with_reducible rfl
                rotate_left
                ·simp only [Act.put, List.setIfInBounds_toArray, List.set_cons_zero, List.set_cons_succ, i64_w, i32_w]
                 rfl
                refine pure_ (i := 11) (N := some 71) (v := ?_) (a' := ?_) (bm 19 4095) rfl rfl (any_of HT_.out (by kernel_rfl)) (fun _ _ _ h => h) (Or.inl ⟨by rfl, ?_⟩) ?_ ?_
                rotate_left
                ·intro w'
                 go_simp
                 with_reducible rfl
                rotate_left
                ·simp only [Act.put, List.setIfInBounds_toArray, List.set_cons_zero, List.set_cons_succ, i64_w, i32_w]
                 rfl
                refine pure_ (i := 13) (N := some 73) (v := ?_) (a' := ?_) (bm 19 12287) rfl rfl (any_of HT_.out (by kernel_rfl)) (fun _ _ _ h => h) (Or.inl ⟨by rfl, ?_⟩) ?_ ?_
                rotate_left
                ·intro w'
                 go_simp
                 with_reducible rfl
                rotate_left
                ·simp only [Act.put, List.setIfInBounds_toArray, List.set_cons_zero, List.set_cons_succ, i64_w, i32_w]
                 rfl
                refine take_ (i := 12) (N := some 72) (v := ?_) (a' := ?_) (bm 19 16383) rfl rfl (take_ofW HT_.out HW_.out (by kernel_rfl)) (fun _ _ _ h => h) (Or.inl ⟨by rfl, ?_⟩) hHeld ?_ ?_
                rotate_left
                ·rintro w' ⟨s0, s1, s2, s3, s4, s5, s6, s7⟩
                 go_simp
                 with_reducible rfl
                rotate_left
                ·simp only [Act.put, List.setIfInBounds_toArray, List.set_cons_zero, List.set_cons_succ, i64_w, i32_w]
                 rfl
                refine pure_ (i := 14) (N := some 74) (v := ?_) (a' := ?_) (bm 19 32767) rfl rfl (any_of HT_.out (by kernel_rfl)) (fun _ _ _ h => h) (Or.inl ⟨by rfl, ?_⟩) ?_ ?_
                rotate_left
                ·intro w'
                 go_simp
                 with_reducible rfl
                rotate_left
                ·simp only [Act.put, List.setIfInBounds_toArray, List.set_cons_zero, List.set_cons_succ, i64_w, i32_w]
                 rfl
                refine take_ (i := 15) (N := some 75) (v := ?_) (a' := ?_) (bm 19 65535) rfl rfl (take_ofW HT_.out HW_.out (by kernel_rfl)) (fun _ _ _ h => h) (Or.inl ⟨by rfl, ?_⟩) hHeld ?_ ?_
                rotate_left
                ·rintro w' ⟨s0, s1, s2, s3, s4, s5, s6, s7⟩
                 go_simp
                 with_reducible rfl
                rotate_left
                ·simp only [Act.put, List.setIfInBounds_toArray, List.set_cons_zero, List.set_cons_succ, i64_w, i32_w]
                 rfl
                refine one_ (i := 16) (N := some 76) (bm 19 131071) rfl rfl (one_of HT_.out (by kernel_rfl)) (by decide) (fun K hK => ?_)
                refine goes_ Try.func71 (by kernel_rfl) rfl #[.int .i64 (rd ((rd_T119 l0 x6_1).f2) x9_3), .int .i64 (-1), .int .i64 999999] (by rfl) rfl rfl z2_2 ?_
                with_reducible refine (spec_l1In.calls (rd ((rd_T119 l0 x6_1).f2) x9_3) (-1) 999999 true _ A26.out).mono ?_
                rintro e w' ⟨rfl, ⟨nd, rfl⟩⟩
                refine ⟨_, rfl, ?_⟩
                refine hK.out _ _ ⟨(blk_cell BK129.out 0).trans rfl, (blk_cell BK129.out 1).trans rfl, (blk_cell BK129.out 2).trans rfl, (blk_cell BK129.out 3).trans rfl, (blk_cell BK129.out 4).trans rfl, hHeld.2.2.2.2.2.1, ((HB.out.cell (World.block_lt_of_cell? w _ hw134_0)).trans hw134_0), ((HB.out.cell (World.block_lt_of_cell? w _ hw135_0)).trans hw135_0)⟩ (fun hHeld => ?_)
                clear hK K
                refine norm_ (a' := ?_) ?_ ?_
                rotate_left
                ·show Act.put _ (some 76) _ = _
                 simp only [Act.put, List.setIfInBounds_toArray, List.set_cons_zero, List.set_cons_succ, i64_w, i32_w]
                 rfl
                refine pure_ (i := 17) (N := some 77) (v := ?_) (a' := ?_) (bm 19 262143) rfl rfl (any_of HT_.out (by kernel_rfl)) (fun _ _ _ h => h) (Or.inl ⟨by rfl, ?_⟩) ?_ ?_
                rotate_left
                ·intro w'
                 go_simp
                 with_reducible rfl
                rotate_left
                ·simp only [Act.put, List.setIfInBounds_toArray, List.set_cons_zero, List.set_cons_succ, i64_w, i32_w]
                 rfl
                refine pure_ (i := 18) (N := some 78) (v := ?_) (a' := ?_) (bm 19 524287) rfl rfl (any_of HT_.out (by kernel_rfl)) (fun _ _ _ h => h) (Or.inl ⟨by rfl, ?_⟩) ?_ ?_
                rotate_left
                ·intro w'
                 go_simp
                 with_reducible rfl
                rotate_left
                ·simp only [Act.put, List.setIfInBounds_toArray, List.set_cons_zero, List.set_cons_succ, i64_w, i32_w]
                 rfl
                refine done_ (done_of HT_.out (by kernel_rfl)) ?_
                try go_wp2
                go_roundg k3
                case measure => have := HK1.out; have := HJ5.out; have := HK3.out; omega
                case rel => exact ⟨(wrap64 (x9_3 + 1)), z2_7, H', ⟨by have := HK1.out; have := HJ5.out; have := HK3.out; omega⟩, ⟨z2_4⟩, ⟨z2_3⟩, ⟨z2_0⟩⟩
               ·replace c27 := Bool.eq_false_iff.mpr c27
                subst c27
                have H1 : (some false) = some r := by rw [if_neg (show ¬ (false = true) by decide)] at H; exact H
                clear H
                have H := H1
                clear H1
                obtain rfl := Option.some.inj H
                obtain ⟨Ao30, co30, eo30⟩ := Kd.R_slice HO_8.out
                subst eo30
                try go_wp2
                have n0_ := Aside0.mk (Kd.R_drew HO_8.out)
                have n1_ := Aside0.mk (blk_drew BK129.out)
                have n2_ := Aside0.mk (below_drew1 HB.out)
                clear HO_8
                clear BK129
                clear HB
                have HO_8 := n0_
                have BK129 := n1_
                have HB := n2_
                clear n0_ n1_ n2_
                have p133 : 0 ≤ (x9_3 : Int) := of_decide_eq_true z2_1
                have q133 : x9_3 < (t130.length : Int) := of_decide_eq_true z2_1
                obtain ⟨ad133, e133, hx133_0⟩ := Kd.at_int (Kd.R_reads' HO_8.out).2.2 x9_3 p133 q133
                cases e133
                replace p133 := eq_true p133
                replace q133 := eq_true q133
                have p134 : 0 ≤ (x9_3 : Int) := of_decide_eq_true z2_1
                have q134 : x9_3 < (((rd_T119 l0 x6_1).f1).length : Int) := of_decide_eq_true z2_1
                obtain ⟨ad134, e134, hx134_0⟩ := Kd.at_int HR128_1.out x9_3 p134 q134
                have hw134_0 := hx134_0
                cases e134
                replace hx134_0 := (HB.out.cell (World.block_lt_of_cell? w _ hx134_0)).trans hx134_0
                replace p134 := eq_true p134
                replace q134 := eq_true q134
                have p135 : 0 ≤ (x9_3 : Int) := of_decide_eq_true z2_1
                have q135 : x9_3 < (((rd_T119 l0 x6_1).f2).length : Int) := of_decide_eq_true z2_1
                obtain ⟨ad135, e135, hx135_0⟩ := Kd.at_int HR128_2.out x9_3 p135 q135
                have hw135_0 := hx135_0
                cases e135
                replace hx135_0 := (HB.out.cell (World.block_lt_of_cell? w _ hx135_0)).trans hx135_0
                replace p135 := eq_true p135
                replace q135 := eq_true q135
                refine start_ (n := 19) (S := fun w' => w'.cell? ⟨gb129, 0, none⟩ = some (.int .i64 ((rd_T119 l0 x6_1).f0)) ∧ w'.cell? ⟨gb129, 1, none⟩ = some (.slice (some ad134) ((rd_T119 l0 x6_1).f1).length c128_1) ∧ w'.cell? ⟨gb129, 2, none⟩ = some (.slice (some ad135) ((rd_T119 l0 x6_1).f2).length c128_2) ∧ w'.cell? ⟨gb129, 3, none⟩ = some (.slice A128_3 ((rd_T119 l0 x6_1).f3).length c128_3) ∧ w'.cell? ⟨gb129, 4, none⟩ = some (.slice A128_4 ((rd_T119 l0 x6_1).f4).length c128_4) ∧ w'.cell? (ad133.add (x9_3).toNat) = some (.int .i64 (rd t130 x9_3)) ∧ w'.cell? (ad134.add (x9_3).toNat) = some (.int .i64 (rd ((rd_T119 l0 x6_1).f1) x9_3)) ∧ w'.cell? (ad135.add (x9_3).toNat) = some (.int .i64 (rd ((rd_T119 l0 x6_1).f2) x9_3))) (ds := []) (bm 19 0) (by kernel_rfl) rfl rfl ⟨(blk_cell BK129.out 0).trans rfl, (blk_cell BK129.out 1).trans rfl, (blk_cell BK129.out 2).trans rfl, (blk_cell BK129.out 3).trans rfl, (blk_cell BK129.out 4).trans rfl, hx133_0, ((HB.out.cell (World.block_lt_of_cell? w _ hw134_0)).trans hw134_0), ((HB.out.cell (World.block_lt_of_cell? w _ hw135_0)).trans hw135_0)⟩ (fun hHeld => ?_); refine with_tabW spec_PiecesValid.tab12 spec_PiecesValid.bits12 (fun HT_ HW_ => ?_)
                generalize wr.drew = w31 at HO_8 BK129 HB hx133_0 hx134_0 hx135_0 hHeld ⊢
                refine pure_ (i := 0) (N := some 60) (v := ?_) (a' := ?_) (bm 19 1) rfl rfl (any_of HT_.out (by kernel_rfl)) (fun _ _ _ h => h) (Or.inl ⟨by rfl, ?_⟩) ?_ ?_
                rotate_left
                ·intro w'
                 go_simp
                 with_reducible rfl
                rotate_left
                ·simp only [Act.put, List.setIfInBounds_toArray, List.set_cons_zero, List.set_cons_succ, i64_w, i32_w]
                 rfl
                refine pure_ (i := 1) (N := some 61) (v := ?_) (a' := ?_) (bm 19 3) rfl rfl (any_of HT_.out (by kernel_rfl)) (fun _ _ _ h => h) (Or.inl ⟨by rfl, ?_⟩) ?_ ?_
                rotate_left
                ·intro w'
                 go_simp
                 with_reducible rfl
                rotate_left
                ·simp only [Act.put, List.setIfInBounds_toArray, List.set_cons_zero, List.set_cons_succ, i64_w, i32_w]
                 rfl
                refine pure_ (i := 2) (N := some 62) (v := ?_) (a' := ?_) (bm 19 7) rfl rfl (any_of HT_.out (by kernel_rfl)) (fun _ _ _ h => h) (Or.inl ⟨by rfl, ?_⟩) ?_ ?_
                rotate_left
                ·intro w'
                 go_simp
                 with_reducible rfl
                rotate_left
                ·simp only [Act.put, List.setIfInBounds_toArray, List.set_cons_zero, List.set_cons_succ, i64_w, i32_w]
                 rfl
                refine pure_ (i := 4) (N := some 64) (v := ?_) (a' := ?_) (bm 19 23) rfl rfl (any_of HT_.out (by kernel_rfl)) (fun _ _ _ h => h) (Or.inl ⟨by rfl, ?_⟩) ?_ ?_
                rotate_left
                ·intro w'
                 go_simp
                 with_reducible rfl
                rotate_left
                ·simp only [Act.put, List.setIfInBounds_toArray, List.set_cons_zero, List.set_cons_succ, i64_w, i32_w]
                 rfl
                refine pure_ (i := 6) (N := some 66) (v := ?_) (a' := ?_) (bm 19 87) rfl rfl (any_of HT_.out (by kernel_rfl)) (fun _ _ _ h => h) (Or.inl ⟨by rfl, ?_⟩) ?_ ?_
                rotate_left
                ·intro w'
                 go_simp
                 with_reducible rfl
                rotate_left
                ·simp only [Act.put, List.setIfInBounds_toArray, List.set_cons_zero, List.set_cons_succ, i64_w, i32_w]
                 rfl
                refine take_ (i := 3) (N := some 63) (v := ?_) (a' := ?_) (bm 19 95) rfl rfl (take_ofW HT_.out HW_.out (by kernel_rfl)) (fun _ _ _ h => h) (Or.inl ⟨by rfl, ?_⟩) hHeld ?_ ?_
                rotate_left
                ·rintro w' ⟨s0, s1, s2, s3, s4, s5, s6, s7⟩
                 go_simp
                 with_reducible rfl
                rotate_left
                ·simp only [Act.put, List.setIfInBounds_toArray, List.set_cons_zero, List.set_cons_succ, i64_w, i32_w]
                 rfl
                refine take_ (i := 5) (N := some 65) (v := ?_) (a' := ?_) (bm 19 127) rfl rfl (take_ofW HT_.out HW_.out (by kernel_rfl)) (fun _ _ _ h => h) (Or.inl ⟨by rfl, ?_⟩) hHeld ?_ ?_
                rotate_left
                ·rintro w' ⟨s0, s1, s2, s3, s4, s5, s6, s7⟩
                 go_simp
                 with_reducible rfl
                rotate_left
                ·simp only [Act.put, List.setIfInBounds_toArray, List.set_cons_zero, List.set_cons_succ, i64_w, i32_w]
                 rfl
                refine pure_ (i := 7) (N := some 67) (v := ?_) (a' := ?_) (bm 19 255) rfl rfl (any_of HT_.out (by kernel_rfl)) (fun _ _ _ h => h) (Or.inl ⟨by rfl, ?_⟩) ?_ ?_
                rotate_left
                ·intro w'
                 go_simp
                 with_reducible rfl
                rotate_left
                ·simp only [Act.put, List.setIfInBounds_toArray, List.set_cons_zero, List.set_cons_succ, i64_w, i32_w]
                 rfl
                refine take_ (i := 8) (N := some 68) (v := ?_) (a' := ?_) (bm 19 511) rfl rfl (take_ofW HT_.out HW_.out (by kernel_rfl)) (fun _ _ _ h => h) (Or.inl ⟨by rfl, ?_⟩) hHeld ?_ ?_
                rotate_left
                ·rintro w' ⟨s0, s1, s2, s3, s4, s5, s6, s7⟩
                 go_simp
                 with_reducible rfl
                rotate_left
                ·simp only [Act.put, List.setIfInBounds_toArray, List.set_cons_zero, List.set_cons_succ, i64_w, i32_w]
                 rfl
                refine pure_ (i := 9) (N := some 69) (v := ?_) (a' := ?_) (bm 19 1023) rfl rfl (any_of HT_.out (by kernel_rfl)) (fun _ _ _ h => h) (Or.inl ⟨by rfl, ?_⟩) ?_ ?_
                rotate_left
                ·intro w'
                 go_simp
                 with_reducible rfl
                rotate_left
                ·simp only [Act.put, List.setIfInBounds_toArray, List.set_cons_zero, List.set_cons_succ, i64_w, i32_w]
                 rfl
                refine pure_ (i := 10) (N := some 70) (v := ?_) (a' := ?_) (bm 19 2047) rfl rfl (any_of HT_.out (by kernel_rfl)) (fun _ _ _ h => h) (Or.inl ⟨by rfl, ?_⟩) ?_ ?_
                rotate_left
                ·intro w'
                 go_simp
                 with_reducible rfl
                rotate_left
                ·simp only [Act.put, List.setIfInBounds_toArray, List.set_cons_zero, List.set_cons_succ, i64_w, i32_w]
                 rfl
                refine pure_ (i := 11) (N := some 71) (v := ?_) (a' := ?_) (bm 19 4095) rfl rfl (any_of HT_.out (by kernel_rfl)) (fun _ _ _ h => h) (Or.inl ⟨by rfl, ?_⟩) ?_ ?_
                rotate_left
                ·intro w'
                 go_simp
                 with_reducible rfl
                rotate_left
                ·simp only [Act.put, List.setIfInBounds_toArray, List.set_cons_zero, List.set_cons_succ, i64_w, i32_w]
                 rfl
                refine pure_ (i := 13) (N := some 73) (v := ?_) (a' := ?_) (bm 19 12287) rfl rfl (any_of HT_.out (by kernel_rfl)) (fun _ _ _ h => h) (Or.inl ⟨by rfl, ?_⟩) ?_ ?_
                rotate_left
                ·intro w'
                 go_simp
                 with_reducible rfl
                rotate_left
                ·simp only [Act.put, List.setIfInBounds_toArray, List.set_cons_zero, List.set_cons_succ, i64_w, i32_w]
                 rfl
                refine take_ (i := 12) (N := some 72) (v := ?_) (a' := ?_) (bm 19 16383) rfl rfl (take_ofW HT_.out HW_.out (by kernel_rfl)) (fun _ _ _ h => h) (Or.inl ⟨by rfl, ?_⟩) hHeld ?_ ?_
                rotate_left
                ·rintro w' ⟨s0, s1, s2, s3, s4, s5, s6, s7⟩
                 go_simp
                 with_reducible rfl
                rotate_left
                ·simp only [Act.put, List.setIfInBounds_toArray, List.set_cons_zero, List.set_cons_succ, i64_w, i32_w]
                 rfl
                refine pure_ (i := 14) (N := some 74) (v := ?_) (a' := ?_) (bm 19 32767) rfl rfl (any_of HT_.out (by kernel_rfl)) (fun _ _ _ h => h) (Or.inl ⟨by rfl, ?_⟩) ?_ ?_
                rotate_left
                ·intro w'
                 go_simp
                 with_reducible rfl
                rotate_left
                ·simp only [Act.put, List.setIfInBounds_toArray, List.set_cons_zero, List.set_cons_succ, i64_w, i32_w]
                 rfl
                refine take_ (i := 15) (N := some 75) (v := ?_) (a' := ?_) (bm 19 65535) rfl rfl (take_ofW HT_.out HW_.out (by kernel_rfl)) (fun _ _ _ h => h) (Or.inl ⟨by rfl, ?_⟩) hHeld ?_ ?_
                rotate_left
                ·rintro w' ⟨s0, s1, s2, s3, s4, s5, s6, s7⟩
                 go_simp
                 with_reducible rfl
                rotate_left
                ·simp only [Act.put, List.setIfInBounds_toArray, List.set_cons_zero, List.set_cons_succ, i64_w, i32_w]
                 rfl
                refine one_ (i := 16) (N := some 76) (bm 19 131071) rfl rfl (one_of HT_.out (by kernel_rfl)) (by decide) (fun K hK => ?_)
                refine goes_ Try.func71 (by kernel_rfl) rfl #[.int .i64 (rd ((rd_T119 l0 x6_1).f2) x9_3), .int .i64 (-1), .int .i64 999999] (by rfl) rfl rfl z2_2 ?_
                with_reducible refine (spec_l1In.calls (rd ((rd_T119 l0 x6_1).f2) x9_3) (-1) 999999 false _ A26.out).mono ?_
                rintro e w' ⟨rfl, ⟨nd, rfl⟩⟩
                refine ⟨_, rfl, ?_⟩
                refine hK.out _ _ ⟨(blk_cell BK129.out 0).trans rfl, (blk_cell BK129.out 1).trans rfl, (blk_cell BK129.out 2).trans rfl, (blk_cell BK129.out 3).trans rfl, (blk_cell BK129.out 4).trans rfl, hHeld.2.2.2.2.2.1, ((HB.out.cell (World.block_lt_of_cell? w _ hw134_0)).trans hw134_0), ((HB.out.cell (World.block_lt_of_cell? w _ hw135_0)).trans hw135_0)⟩ (fun hHeld => ?_)
                clear hK K
                refine norm_ (a' := ?_) ?_ ?_
                rotate_left
                ·show Act.put _ (some 76) _ = _
                 simp only [Act.put, List.setIfInBounds_toArray, List.set_cons_zero, List.set_cons_succ, i64_w, i32_w]
                 rfl
                refine pure_ (i := 17) (N := some 77) (v := ?_) (a' := ?_) (bm 19 262143) rfl rfl (any_of HT_.out (by kernel_rfl)) (fun _ _ _ h => h) (Or.inl ⟨by rfl, ?_⟩) ?_ ?_
                rotate_left
                ·intro w'
                 go_simp
                 with_reducible rfl
                rotate_left
                ·simp only [Act.put, List.setIfInBounds_toArray, List.set_cons_zero, List.set_cons_succ, i64_w, i32_w]
                 rfl
                refine pure_ (i := 18) (N := some 78) (v := ?_) (a' := ?_) (bm 19 524287) rfl rfl (any_of HT_.out (by kernel_rfl)) (fun _ _ _ h => h) (Or.inl ⟨by rfl, ?_⟩) ?_ ?_
                rotate_left
                ·intro w'
                 go_simp
                 with_reducible rfl
                rotate_left
                ·simp only [Act.put, List.setIfInBounds_toArray, List.set_cons_zero, List.set_cons_succ, i64_w, i32_w]
                 rfl
                refine done_ (done_of HT_.out (by kernel_rfl)) ?_
                try go_wp2
                go_ret
                exact ⟨z2_6, z2_0⟩
              ·rw [if_neg c25] at H
               exact absurd H (by simp)
             ·rw [if_neg c24] at H
              have c24b0 : ((rd t130 x9_3) == (rd ((rd_T119 l0 x6_1).f1) x9_3)) = false := beq_eq_false_iff_ne.mpr c24
              have c24b1 : ((rd t130 x9_3) != (rd ((rd_T119 l0 x6_1).f1) x9_3)) = true := bne_iff_ne.mpr c24
              obtain rfl := Option.some.inj H
              obtain ⟨Ao32, co32, eo32⟩ := Kd.R_slice HO_8.out
              subst eo32
              try go_wp2
              have n0_ := Aside0.mk (Kd.R_drew HO_8.out)
              have n1_ := Aside0.mk (blk_drew BK129.out)
              have n2_ := Aside0.mk (below_drew1 HB.out)
              clear HO_8
              clear BK129
              clear HB
              have HO_8 := n0_
              have BK129 := n1_
              have HB := n2_
              clear n0_ n1_ n2_
              have p133 : 0 ≤ (x9_3 : Int) := of_decide_eq_true z2_1
              have q133 : x9_3 < (t130.length : Int) := of_decide_eq_true z2_1
              obtain ⟨ad133, e133, hx133_0⟩ := Kd.at_int (Kd.R_reads' HO_8.out).2.2 x9_3 p133 q133
              cases e133
              replace p133 := eq_true p133
              replace q133 := eq_true q133
              have p134 : 0 ≤ (x9_3 : Int) := of_decide_eq_true z2_1
              have q134 : x9_3 < (((rd_T119 l0 x6_1).f1).length : Int) := of_decide_eq_true z2_1
              obtain ⟨ad134, e134, hx134_0⟩ := Kd.at_int HR128_1.out x9_3 p134 q134
              have hw134_0 := hx134_0
              cases e134
              replace hx134_0 := (HB.out.cell (World.block_lt_of_cell? w _ hx134_0)).trans hx134_0
              replace p134 := eq_true p134
              replace q134 := eq_true q134
              refine start_ (n := 19) (S := fun w' => w'.cell? ⟨gb129, 0, none⟩ = some (.int .i64 ((rd_T119 l0 x6_1).f0)) ∧ w'.cell? ⟨gb129, 1, none⟩ = some (.slice (some ad134) ((rd_T119 l0 x6_1).f1).length c128_1) ∧ w'.cell? ⟨gb129, 2, none⟩ = some (.slice A128_2 ((rd_T119 l0 x6_1).f2).length c128_2) ∧ w'.cell? ⟨gb129, 3, none⟩ = some (.slice A128_3 ((rd_T119 l0 x6_1).f3).length c128_3) ∧ w'.cell? ⟨gb129, 4, none⟩ = some (.slice A128_4 ((rd_T119 l0 x6_1).f4).length c128_4) ∧ w'.cell? (ad133.add (x9_3).toNat) = some (.int .i64 (rd t130 x9_3)) ∧ w'.cell? (ad134.add (x9_3).toNat) = some (.int .i64 (rd ((rd_T119 l0 x6_1).f1) x9_3))) (ds := []) (bm 19 0) (by kernel_rfl) rfl rfl ⟨(blk_cell BK129.out 0).trans rfl, (blk_cell BK129.out 1).trans rfl, (blk_cell BK129.out 2).trans rfl, (blk_cell BK129.out 3).trans rfl, (blk_cell BK129.out 4).trans rfl, hx133_0, ((HB.out.cell (World.block_lt_of_cell? w _ hw134_0)).trans hw134_0)⟩ (fun hHeld => ?_); refine with_tabW spec_PiecesValid.tab12 spec_PiecesValid.bits12 (fun HT_ HW_ => ?_)
              generalize wr.drew = w33 at HO_8 BK129 HB hx133_0 hx134_0 hHeld ⊢
              refine pure_ (i := 0) (N := some 60) (v := ?_) (a' := ?_) (bm 19 1) rfl rfl (any_of HT_.out (by kernel_rfl)) (fun _ _ _ h => h) (Or.inl ⟨by rfl, ?_⟩) ?_ ?_
              rotate_left
              ·intro w'
               go_simp
               with_reducible rfl
              rotate_left
              ·simp only [Act.put, List.setIfInBounds_toArray, List.set_cons_zero, List.set_cons_succ, i64_w, i32_w]
               rfl
              refine pure_ (i := 1) (N := some 61) (v := ?_) (a' := ?_) (bm 19 3) rfl rfl (any_of HT_.out (by kernel_rfl)) (fun _ _ _ h => h) (Or.inl ⟨by rfl, ?_⟩) ?_ ?_
              rotate_left
              ·intro w'
               go_simp
               with_reducible rfl
              rotate_left
              ·simp only [Act.put, List.setIfInBounds_toArray, List.set_cons_zero, List.set_cons_succ, i64_w, i32_w]
               rfl
              refine pure_ (i := 2) (N := some 62) (v := ?_) (a' := ?_) (bm 19 7) rfl rfl (any_of HT_.out (by kernel_rfl)) (fun _ _ _ h => h) (Or.inl ⟨by rfl, ?_⟩) ?_ ?_
              rotate_left
              ·intro w'
               go_simp
               with_reducible rfl
              rotate_left
              ·simp only [Act.put, List.setIfInBounds_toArray, List.set_cons_zero, List.set_cons_succ, i64_w, i32_w]
               rfl
              refine pure_ (i := 4) (N := some 64) (v := ?_) (a' := ?_) (bm 19 23) rfl rfl (any_of HT_.out (by kernel_rfl)) (fun _ _ _ h => h) (Or.inl ⟨by rfl, ?_⟩) ?_ ?_
              rotate_left
              ·intro w'
               go_simp
               with_reducible rfl
              rotate_left
              ·simp only [Act.put, List.setIfInBounds_toArray, List.set_cons_zero, List.set_cons_succ, i64_w, i32_w]
               rfl
              refine pure_ (i := 6) (N := some 66) (v := ?_) (a' := ?_) (bm 19 87) rfl rfl (any_of HT_.out (by kernel_rfl)) (fun _ _ _ h => h) (Or.inl ⟨by rfl, ?_⟩) ?_ ?_
              rotate_left
              ·intro w'
               go_simp
               with_reducible rfl
              rotate_left
              ·simp only [Act.put, List.setIfInBounds_toArray, List.set_cons_zero, List.set_cons_succ, i64_w, i32_w]
               rfl
              refine take_ (i := 3) (N := some 63) (v := ?_) (a' := ?_) (bm 19 95) rfl rfl (take_ofW HT_.out HW_.out (by kernel_rfl)) (fun _ _ _ h => h) (Or.inl ⟨by rfl, ?_⟩) hHeld ?_ ?_
              rotate_left
              ·rintro w' ⟨s0, s1, s2, s3, s4, s5, s6⟩
               go_simp
               with_reducible rfl
              rotate_left
              ·simp only [Act.put, List.setIfInBounds_toArray, List.set_cons_zero, List.set_cons_succ, i64_w, i32_w]
               rfl
              refine take_ (i := 5) (N := some 65) (v := ?_) (a' := ?_) (bm 19 127) rfl rfl (take_ofW HT_.out HW_.out (by kernel_rfl)) (fun _ _ _ h => h) (Or.inl ⟨by rfl, ?_⟩) hHeld ?_ ?_
              rotate_left
              ·rintro w' ⟨s0, s1, s2, s3, s4, s5, s6⟩
               go_simp
               with_reducible rfl
              rotate_left
              ·simp only [Act.put, List.setIfInBounds_toArray, List.set_cons_zero, List.set_cons_succ, i64_w, i32_w]
               rfl
              refine pure_ (i := 7) (N := some 67) (v := ?_) (a' := ?_) (bm 19 255) rfl rfl (any_of HT_.out (by kernel_rfl)) (fun _ _ _ h => h) (Or.inl ⟨by rfl, ?_⟩) ?_ ?_
              rotate_left
              ·intro w'
               go_simp
               with_reducible rfl
              rotate_left
              ·simp only [Act.put, List.setIfInBounds_toArray, List.set_cons_zero, List.set_cons_succ, i64_w, i32_w]
               rfl
              refine take_ (i := 8) (N := some 68) (v := ?_) (a' := ?_) (bm 19 511) rfl rfl (take_ofW HT_.out HW_.out (by kernel_rfl)) (fun _ _ _ h => h) (Or.inl ⟨by rfl, ?_⟩) hHeld ?_ ?_
              rotate_left
              ·rintro w' ⟨s0, s1, s2, s3, s4, s5, s6⟩
               go_simp
               with_reducible rfl
              rotate_left
              ·simp only [Act.put, List.setIfInBounds_toArray, List.set_cons_zero, List.set_cons_succ, i64_w, i32_w]
               rfl
              refine pure_ (i := 9) (N := some 69) (v := ?_) (a' := ?_) (bm 19 1023) rfl rfl (any_of HT_.out (by kernel_rfl)) (fun _ _ _ h => h) (Or.inl ⟨by rfl, ?_⟩) ?_ ?_
              rotate_left
              ·intro w'
               go_simp
               with_reducible rfl
              rotate_left
              ·simp only [Act.put, List.setIfInBounds_toArray, List.set_cons_zero, List.set_cons_succ, i64_w, i32_w]
               rfl
              refine pure_ (i := 10) (N := some 70) (v := ?_) (a' := ?_) (bm 19 2047) rfl rfl (any_of HT_.out (by kernel_rfl)) (fun _ _ _ h => h) (Or.inl ⟨by rfl, ?_⟩) ?_ ?_
              rotate_left
              ·intro w'
               go_simp
               with_reducible rfl
              rotate_left
              ·simp only [Act.put, List.setIfInBounds_toArray, List.set_cons_zero, List.set_cons_succ, i64_w, i32_w]
               rfl
              refine pure_ (i := 11) (N := some 71) (v := undef) (a' := ?_) (bm 19 4095) rfl rfl (any_of HT_.out (by kernel_rfl)) (fun _ _ _ h => h) (Or.inr ⟨by rfl, rfl⟩) ?_ ?_
              rotate_left
              ·simp only [Act.put, List.setIfInBounds_toArray, List.set_cons_zero, List.set_cons_succ, i64_w, i32_w]
               rfl
              refine pure_ (i := 12) (N := some 72) (v := undef) (a' := ?_) (bm 19 8191) rfl rfl (any_of HT_.out (by kernel_rfl)) (fun _ _ _ h => h) (Or.inr ⟨by rfl, rfl⟩) ?_ ?_
              rotate_left
              ·simp only [Act.put, List.setIfInBounds_toArray, List.set_cons_zero, List.set_cons_succ, i64_w, i32_w]
               rfl
              refine pure_ (i := 13) (N := some 73) (v := undef) (a' := ?_) (bm 19 16383) rfl rfl (any_of HT_.out (by kernel_rfl)) (fun _ _ _ h => h) (Or.inr ⟨by rfl, rfl⟩) ?_ ?_
              rotate_left
              ·simp only [Act.put, List.setIfInBounds_toArray, List.set_cons_zero, List.set_cons_succ, i64_w, i32_w]
               rfl
              refine pure_ (i := 14) (N := some 74) (v := undef) (a' := ?_) (bm 19 32767) rfl rfl (any_of HT_.out (by kernel_rfl)) (fun _ _ _ h => h) (Or.inr ⟨by rfl, rfl⟩) ?_ ?_
              rotate_left
              ·simp only [Act.put, List.setIfInBounds_toArray, List.set_cons_zero, List.set_cons_succ, i64_w, i32_w]
               rfl
              refine pure_ (i := 15) (N := some 75) (v := undef) (a' := ?_) (bm 19 65535) rfl rfl (any_of HT_.out (by kernel_rfl)) (fun _ _ _ h => h) (Or.inr ⟨by rfl, rfl⟩) ?_ ?_
              rotate_left
              ·simp only [Act.put, List.setIfInBounds_toArray, List.set_cons_zero, List.set_cons_succ, i64_w, i32_w]
               rfl
              refine pure_ (i := 16) (N := some 76) (v := undef) (a' := ?_) (bm 19 131071) rfl rfl (any_of HT_.out (by kernel_rfl)) (fun _ _ _ h => h) (Or.inr ⟨by rfl, rfl⟩) ?_ ?_
              rotate_left
              ·simp only [Act.put, List.setIfInBounds_toArray, List.set_cons_zero, List.set_cons_succ, i64_w, i32_w]
               rfl
              refine pure_ (i := 17) (N := some 77) (v := undef) (a' := ?_) (bm 19 262143) rfl rfl (any_of HT_.out (by kernel_rfl)) (fun _ _ _ h => h) (Or.inr ⟨by rfl, rfl⟩) ?_ ?_
              rotate_left
              ·simp only [Act.put, List.setIfInBounds_toArray, List.set_cons_zero, List.set_cons_succ, i64_w, i32_w]
               rfl
              refine pure_ (i := 18) (N := some 78) (v := ?_) (a' := ?_) (bm 19 524287) rfl rfl (any_of HT_.out (by kernel_rfl)) (fun _ _ _ h => h) (Or.inl ⟨by rfl, ?_⟩) ?_ ?_
              rotate_left
              ·intro w'
               go_simp
               with_reducible rfl
              rotate_left
              ·simp only [Act.put, List.setIfInBounds_toArray, List.set_cons_zero, List.set_cons_succ, i64_w, i32_w]
               rfl
              refine done_ (done_of HT_.out (by kernel_rfl)) ?_
              try go_wp2
              go_ret
              exact ⟨z2_6, z2_0⟩
            ·rw [if_neg c23] at H
             exact absurd H (by simp)
           ·rw [if_neg c22] at H
            exact absurd H (by simp)
          ·rw [if_neg c21] at H
           have c21b0 : decide (x9_3 < (t130.length : Int)) = false := decide_eq_false c21
           clear c21
           have H' := Aside0.mk H
           clear H
           obtain ⟨Ao34, co34, eo34⟩ := Kd.R_slice HO_8.out
           subst eo34
           go_wp2
           go_loopg [10] k3 (fun kq v10 w' => ∃ (x10_4 : Int), v10 = .int .i64 x10_4 ∧ Aside0 (spec_PiecesValid.l2 kq l0 a1 x5_1 x6_1 t130 x10_4 ((rd_T119 l0 x6_1).f0) ((rd_T119 l0 x6_1).f1) ((rd_T119 l0 x6_1).f2) ((rd_T119 l0 x6_1).f3) ((rd_T119 l0 x6_1).f4) = some r) ∧ Aside0 (kq ≤ k3) ∧ Aside0 (Kd.R (Kd.int .i64) 3 w' w.heap.size (fun _ => True) (.slice Ao34 t130.length co34) t130) ∧ Aside0 (w'.heap[gb129]? = some (.cells #[.int .i64 ((rd_T119 l0 x6_1).f0), (.slice A128_1 ((rd_T119 l0 x6_1).f1).length c128_1), (.slice A128_2 ((rd_T119 l0 x6_1).f2).length c128_2), (.slice A128_3 ((rd_T119 l0 x6_1).f3).length c128_3), (.slice A128_4 ((rd_T119 l0 x6_1).f4).length c128_4)] 119 (0, 0))) ∧ Aside0 (Below w.heap.size w w'))
           case atStart => exact ⟨(0), z2_7, H', ⟨Nat.le_refl _⟩, ⟨z2_4⟩, ⟨z2_3⟩, ⟨z2_0⟩⟩
           case round =>
            clear H'
            try clear c1
            try clear p1
            try clear q1
            try clear hx1
            try clear c2
            try clear p2
            try clear p6
            try clear c7
            try clear c12
            try clear p13
            try clear q13
            try clear hx13
            try clear c21
            try clear c21b0
            try clear c22
            try clear c23
            try clear c24
            try clear c24b0
            try clear c24b1
            try clear c25
            try clear c25b0
            try clear c27
            try clear hx133_0
            try clear hx134_0
            try clear hx135_0
            try clear p133
            try clear p134
            try clear p135
            try clear q133
            try clear q134
            try clear q135
            obtain ⟨x10_4, rfl, HA, HK4, HO_8, BK129, HB⟩ := hrel
            cases gk with
            | zero => exact absurd HA.out (by simp [spec_PiecesValid.l2])
            | succ k4 =>
             have H := HA.out
             clear HA
             simp only [spec_PiecesValid.l2] at H
             by_cases c35 : x10_4 < (((rd_T119 l0 x6_1).f4).length : Int)
             ·rw [if_pos c35] at H
              have c35b0 : decide (x10_4 < (((rd_T119 l0 x6_1).f4).length : Int)) = true := decide_eq_true c35
              clear c35
              by_cases c36 : 0 ≤ x10_4
              ·rw [if_pos c36] at H
               have c36b0 : decide (0 ≤ x10_4) = true := decide_eq_true c36
               clear c36
               replace H := Option.bind_eq_some_iff.mp H
               obtain ⟨t138, A370, H⟩ := H
               replace H : (if t138 = true then ((spec_l7Has.f k4 t130 ((rd_T122 ((rd_T119 l0 x6_1).f4) x10_4).f0)).bind fun t140 => (if t140 = true then (if x10_4 > 0 then (if 0 ≤ (wrap64 (x10_4 - 1)) then (if (wrap64 (x10_4 - 1)) < (((rd_T119 l0 x6_1).f4).length : Int) then ((spec_l9Before.f ((rd_T122 ((rd_T119 l0 x6_1).f4) x10_4).f0) ((rd_T122 ((rd_T119 l0 x6_1).f4) x10_4).f1) ((rd_T122 ((rd_T119 l0 x6_1).f4) x10_4).f2) ((rd_T122 ((rd_T119 l0 x6_1).f4) (wrap64 (x10_4 - 1))).f0) ((rd_T122 ((rd_T119 l0 x6_1).f4) (wrap64 (x10_4 - 1))).f1) ((rd_T122 ((rd_T119 l0 x6_1).f4) (wrap64 (x10_4 - 1))).f2)).bind fun t143 => (if t143 = true then (some false) else (spec_PiecesValid.l2 k4 l0 a1 x5_1 x6_1 t130 (wrap64 (x10_4 + 1)) ((rd_T119 l0 x6_1).f0) ((rd_T119 l0 x6_1).f1) ((rd_T119 l0 x6_1).f2) ((rd_T119 l0 x6_1).f3) ((rd_T119 l0 x6_1).f4)))) else (none)) else (none)) else (spec_PiecesValid.l2 k4 l0 a1 x5_1 x6_1 t130 (wrap64 (x10_4 + 1)) ((rd_T119 l0 x6_1).f0) ((rd_T119 l0 x6_1).f1) ((rd_T119 l0 x6_1).f2) ((rd_T119 l0 x6_1).f3) ((rd_T119 l0 x6_1).f4))) else (some false))) else (some false)) = some r := H
               have A37 := Aside0.mk A370
               clear A370
               by_cases c38 : t138 = true
               ·subst c38
                have H1 : ((spec_l7Has.f k4 t130 ((rd_T122 ((rd_T119 l0 x6_1).f4) x10_4).f0)).bind fun t140 => (if t140 = true then (if x10_4 > 0 then (if 0 ≤ (wrap64 (x10_4 - 1)) then (if (wrap64 (x10_4 - 1)) < (((rd_T119 l0 x6_1).f4).length : Int) then ((spec_l9Before.f ((rd_T122 ((rd_T119 l0 x6_1).f4) x10_4).f0) ((rd_T122 ((rd_T119 l0 x6_1).f4) x10_4).f1) ((rd_T122 ((rd_T119 l0 x6_1).f4) x10_4).f2) ((rd_T122 ((rd_T119 l0 x6_1).f4) (wrap64 (x10_4 - 1))).f0) ((rd_T122 ((rd_T119 l0 x6_1).f4) (wrap64 (x10_4 - 1))).f1) ((rd_T122 ((rd_T119 l0 x6_1).f4) (wrap64 (x10_4 - 1))).f2)).bind fun t143 => (if t143 = true then (some false) else (spec_PiecesValid.l2 k4 l0 a1 x5_1 x6_1 t130 (wrap64 (x10_4 + 1)) ((rd_T119 l0 x6_1).f0) ((rd_T119 l0 x6_1).f1) ((rd_T119 l0 x6_1).f2) ((rd_T119 l0 x6_1).f3) ((rd_T119 l0 x6_1).f4)))) else (none)) else (none)) else (spec_PiecesValid.l2 k4 l0 a1 x5_1 x6_1 t130 (wrap64 (x10_4 + 1)) ((rd_T119 l0 x6_1).f0) ((rd_T119 l0 x6_1).f1) ((rd_T119 l0 x6_1).f2) ((rd_T119 l0 x6_1).f3) ((rd_T119 l0 x6_1).f4))) else (some false))) = some r := by rw [if_pos rfl] at H; exact H
                clear H
                have H := H1
                clear H1
                replace H := Option.bind_eq_some_iff.mp H
                obtain ⟨t140, A390, H⟩ := H
                replace H : (if t140 = true then (if x10_4 > 0 then (if 0 ≤ (wrap64 (x10_4 - 1)) then (if (wrap64 (x10_4 - 1)) < (((rd_T119 l0 x6_1).f4).length : Int) then ((spec_l9Before.f ((rd_T122 ((rd_T119 l0 x6_1).f4) x10_4).f0) ((rd_T122 ((rd_T119 l0 x6_1).f4) x10_4).f1) ((rd_T122 ((rd_T119 l0 x6_1).f4) x10_4).f2) ((rd_T122 ((rd_T119 l0 x6_1).f4) (wrap64 (x10_4 - 1))).f0) ((rd_T122 ((rd_T119 l0 x6_1).f4) (wrap64 (x10_4 - 1))).f1) ((rd_T122 ((rd_T119 l0 x6_1).f4) (wrap64 (x10_4 - 1))).f2)).bind fun t143 => (if t143 = true then (some false) else (spec_PiecesValid.l2 k4 l0 a1 x5_1 x6_1 t130 (wrap64 (x10_4 + 1)) ((rd_T119 l0 x6_1).f0) ((rd_T119 l0 x6_1).f1) ((rd_T119 l0 x6_1).f2) ((rd_T119 l0 x6_1).f3) ((rd_T119 l0 x6_1).f4)))) else (none)) else (none)) else (spec_PiecesValid.l2 k4 l0 a1 x5_1 x6_1 t130 (wrap64 (x10_4 + 1)) ((rd_T119 l0 x6_1).f0) ((rd_T119 l0 x6_1).f1) ((rd_T119 l0 x6_1).f2) ((rd_T119 l0 x6_1).f3) ((rd_T119 l0 x6_1).f4))) else (some false)) = some r := H
                have A39 := Aside0.mk A390
                clear A390
                by_cases c40 : t140 = true
                ·subst c40
                 have H1 : (if x10_4 > 0 then (if 0 ≤ (wrap64 (x10_4 - 1)) then (if (wrap64 (x10_4 - 1)) < (((rd_T119 l0 x6_1).f4).length : Int) then ((spec_l9Before.f ((rd_T122 ((rd_T119 l0 x6_1).f4) x10_4).f0) ((rd_T122 ((rd_T119 l0 x6_1).f4) x10_4).f1) ((rd_T122 ((rd_T119 l0 x6_1).f4) x10_4).f2) ((rd_T122 ((rd_T119 l0 x6_1).f4) (wrap64 (x10_4 - 1))).f0) ((rd_T122 ((rd_T119 l0 x6_1).f4) (wrap64 (x10_4 - 1))).f1) ((rd_T122 ((rd_T119 l0 x6_1).f4) (wrap64 (x10_4 - 1))).f2)).bind fun t143 => (if t143 = true then (some false) else (spec_PiecesValid.l2 k4 l0 a1 x5_1 x6_1 t130 (wrap64 (x10_4 + 1)) ((rd_T119 l0 x6_1).f0) ((rd_T119 l0 x6_1).f1) ((rd_T119 l0 x6_1).f2) ((rd_T119 l0 x6_1).f3) ((rd_T119 l0 x6_1).f4)))) else (none)) else (none)) else (spec_PiecesValid.l2 k4 l0 a1 x5_1 x6_1 t130 (wrap64 (x10_4 + 1)) ((rd_T119 l0 x6_1).f0) ((rd_T119 l0 x6_1).f1) ((rd_T119 l0 x6_1).f2) ((rd_T119 l0 x6_1).f3) ((rd_T119 l0 x6_1).f4))) = some r := by rw [if_pos rfl] at H; exact H
                 clear H
                 have H := H1
                 clear H1
                 by_cases c41 : x10_4 > 0
                 ·rw [if_pos c41] at H
                  have c41b0 : decide (0 < x10_4) = true := decide_eq_true c41
                  clear c41
                  obtain ⟨ji42, hji42⟩ : ∃ j_ : Int, (wrap64 (x10_4 - 1)) = j_ := ⟨_, rfl⟩
                  replace H : (if 0 ≤ (ji42) then (if (ji42) < (((rd_T119 l0 x6_1).f4).length : Int) then ((spec_l9Before.f ((rd_T122 ((rd_T119 l0 x6_1).f4) x10_4).f0) ((rd_T122 ((rd_T119 l0 x6_1).f4) x10_4).f1) ((rd_T122 ((rd_T119 l0 x6_1).f4) x10_4).f2) ((rd_T122 ((rd_T119 l0 x6_1).f4) (ji42)).f0) ((rd_T122 ((rd_T119 l0 x6_1).f4) (ji42)).f1) ((rd_T122 ((rd_T119 l0 x6_1).f4) (ji42)).f2)).bind fun t143 => (if t143 = true then (some false) else (spec_PiecesValid.l2 k4 l0 a1 x5_1 x6_1 t130 (wrap64 (x10_4 + 1)) ((rd_T119 l0 x6_1).f0) ((rd_T119 l0 x6_1).f1) ((rd_T119 l0 x6_1).f2) ((rd_T119 l0 x6_1).f3) ((rd_T119 l0 x6_1).f4)))) else (none)) else (none)) = some r := by first | (rw [hji42] at H; exact H) | (simp only [hji42] at H ⊢; exact H)
                  (try rw [hji42] at A37)
                  (try rw [hji42] at A39)
                  have hji42w : (IntKind.i64.wrap (x10_4 - 1)) = ji42 := (i64_w _).trans hji42
                  by_cases c43 : 0 ≤ (ji42)
                  ·rw [if_pos c43] at H
                   have c43b0 : decide (0 ≤ (ji42)) = true := decide_eq_true c43
                   clear c43
                   by_cases c44 : (ji42) < (((rd_T119 l0 x6_1).f4).length : Int)
                   ·rw [if_pos c44] at H
                    have c44b0 : decide ((ji42) < (((rd_T119 l0 x6_1).f4).length : Int)) = true := decide_eq_true c44
                    clear c44
                    replace H := Option.bind_eq_some_iff.mp H
                    obtain ⟨t143, A450, H⟩ := H
                    replace H : (if t143 = true then (some false) else (spec_PiecesValid.l2 k4 l0 a1 x5_1 x6_1 t130 (wrap64 (x10_4 + 1)) ((rd_T119 l0 x6_1).f0) ((rd_T119 l0 x6_1).f1) ((rd_T119 l0 x6_1).f2) ((rd_T119 l0 x6_1).f3) ((rd_T119 l0 x6_1).f4))) = some r := H
                    have A45 := Aside0.mk A450
                    clear A450
                    by_cases c46 : t143 = true
                    ·subst c46
                     have H1 : (some false) = some r := by rw [if_pos rfl] at H; exact H
                     clear H
                     have H := H1
                     clear H1
                     obtain rfl := Option.some.inj H
                     have hcz47_0 : wr.cell? ⟨gb129, 0, none⟩ = some (.int .i64 ((rd_T119 l0 x6_1).f0)) := (blk_cell BK129.out 0).trans rfl
                     have hcz47_1 : wr.cell? ⟨gb129, 1, none⟩ = some (.slice A128_1 ((rd_T119 l0 x6_1).f1).length c128_1) := (blk_cell BK129.out 1).trans rfl
                     have hcz47_2 : wr.cell? ⟨gb129, 2, none⟩ = some (.slice A128_2 ((rd_T119 l0 x6_1).f2).length c128_2) := (blk_cell BK129.out 2).trans rfl
                     have hcz47_3 : wr.cell? ⟨gb129, 3, none⟩ = some (.slice A128_3 ((rd_T119 l0 x6_1).f3).length c128_3) := (blk_cell BK129.out 3).trans rfl
                     have hcz47_4 : wr.cell? ⟨gb129, 4, none⟩ = some (.slice A128_4 ((rd_T119 l0 x6_1).f4).length c128_4) := (blk_cell BK129.out 4).trans rfl
                     have hfz47_0 := blk_frozen BK129.out 0
                     have hfz47_1 := blk_frozen BK129.out 1
                     have hfz47_2 := blk_frozen BK129.out 2
                     have hfz47_3 := blk_frozen BK129.out 3
                     have hfz47_4 := blk_frozen BK129.out 4
                     try go_wp2
                     have n0_ := Aside0.mk (Kd.R_drew HO_8.out)
                     have n1_ := Aside0.mk (blk_drew BK129.out)
                     have n2_ := Aside0.mk (below_drew1 HB.out)
                     clear HO_8
                     clear BK129
                     clear HB
                     have HO_8 := n0_
                     have BK129 := n1_
                     have HB := n2_
                     clear n0_ n1_ n2_
                     have p137 : 0 ≤ (x10_4 : Int) := of_decide_eq_true z2_1
                     have q137 : x10_4 < (((rd_T119 l0 x6_1).f4).length : Int) := of_decide_eq_true z2_1
                     obtain ⟨ad137, e137, hx137_0, hx137_1, hx137_2⟩ := at_T122 HR128_4.out x10_4 p137 q137
                     have hw137_2 := hx137_2
                     have hw137_1 := hx137_1
                     have hw137_0 := hx137_0
                     cases e137
                     replace hx137_0 := (HB.out.cell (World.block_lt_of_cell? w _ hx137_0)).trans hx137_0
                     replace hx137_1 := (HB.out.cell (World.block_lt_of_cell? w _ hx137_1)).trans hx137_1
                     replace hx137_2 := (HB.out.cell (World.block_lt_of_cell? w _ hx137_2)).trans hx137_2
                     replace p137 := eq_true p137
                     replace q137 := eq_true q137
                     have p139 : 0 ≤ (x10_4 : Int) := of_decide_eq_true z2_1
                     have q139 : x10_4 < (((rd_T119 l0 x6_1).f4).length : Int) := of_decide_eq_true z2_1
                     obtain ⟨ad139, e139, hx139_0, hx139_1, hx139_2⟩ := at_T122 HR128_4.out x10_4 p139 q139
                     have hw139_2 := hx139_2
                     have hw139_1 := hx139_1
                     have hw139_0 := hx139_0
                     obtain rfl : ad137 = ad139 := (by injection e139)
                     replace hx139_0 := (HB.out.cell (World.block_lt_of_cell? w _ hx139_0)).trans hx139_0
                     replace hx139_1 := (HB.out.cell (World.block_lt_of_cell? w _ hx139_1)).trans hx139_1
                     replace hx139_2 := (HB.out.cell (World.block_lt_of_cell? w _ hx139_2)).trans hx139_2
                     replace p139 := eq_true p139
                     replace q139 := eq_true q139
                     have p141 : 0 ≤ (x10_4 : Int) := of_decide_eq_true z2_1
                     have q141 : x10_4 < (((rd_T119 l0 x6_1).f4).length : Int) := of_decide_eq_true z2_1
                     obtain ⟨ad141, e141, hx141_0, hx141_1, hx141_2⟩ := at_T122 HR128_4.out x10_4 p141 q141
                     have hw141_2 := hx141_2
                     have hw141_1 := hx141_1
                     have hw141_0 := hx141_0
                     obtain rfl : ad137 = ad141 := (by injection e141)
                     replace hx141_0 := (HB.out.cell (World.block_lt_of_cell? w _ hx141_0)).trans hx141_0
                     replace hx141_1 := (HB.out.cell (World.block_lt_of_cell? w _ hx141_1)).trans hx141_1
                     replace hx141_2 := (HB.out.cell (World.block_lt_of_cell? w _ hx141_2)).trans hx141_2
                     replace p141 := eq_true p141
                     replace q141 := eq_true q141
                     have p142 : 0 ≤ ((ji42) : Int) := of_decide_eq_true z2_1
                     have q142 : (ji42) < (((rd_T119 l0 x6_1).f4).length : Int) := of_decide_eq_true z2_1
                     obtain ⟨ad142, e142, hx142_0, hx142_1, hx142_2⟩ := at_T122 HR128_4.out (ji42) p142 q142
                     have hw142_2 := hx142_2
                     have hw142_1 := hx142_1
                     have hw142_0 := hx142_0
                     obtain rfl : ad137 = ad142 := (by injection e142)
                     replace hx142_0 := (HB.out.cell (World.block_lt_of_cell? w _ hx142_0)).trans hx142_0
                     replace hx142_1 := (HB.out.cell (World.block_lt_of_cell? w _ hx142_1)).trans hx142_1
                     replace hx142_2 := (HB.out.cell (World.block_lt_of_cell? w _ hx142_2)).trans hx142_2
                     replace p142 := eq_true p142
                     replace q142 := eq_true q142
                     refine start_ (n := 37) (S := fun w' => w'.cell? ⟨gb129, 0, none⟩ = some (.int .i64 ((rd_T119 l0 x6_1).f0)) ∧ w'.cell? ⟨gb129, 1, none⟩ = some (.slice A128_1 ((rd_T119 l0 x6_1).f1).length c128_1) ∧ w'.cell? ⟨gb129, 2, none⟩ = some (.slice A128_2 ((rd_T119 l0 x6_1).f2).length c128_2) ∧ w'.cell? ⟨gb129, 3, none⟩ = some (.slice A128_3 ((rd_T119 l0 x6_1).f3).length c128_3) ∧ w'.cell? ⟨gb129, 4, none⟩ = some (.slice (some ad137) ((rd_T119 l0 x6_1).f4).length c128_4) ∧ w'.cell? (ad137.add ((x10_4).toNat * 3)) = some (.int .i64 ((rd_T122 ((rd_T119 l0 x6_1).f4) x10_4).f0)) ∧ w'.cell? ⟨(ad137.add ((x10_4).toNat * 3)).block, (ad137.add ((x10_4).toNat * 3)).off + 1, none⟩ = some (.int .i64 ((rd_T122 ((rd_T119 l0 x6_1).f4) x10_4).f1)) ∧ w'.cell? ⟨(ad137.add ((x10_4).toNat * 3)).block, (ad137.add ((x10_4).toNat * 3)).off + 2, none⟩ = some (.int .i64 ((rd_T122 ((rd_T119 l0 x6_1).f4) x10_4).f2)) ∧ w'.cell? (ad137.add ((x10_4).toNat * 3)) = some (.int .i64 ((rd_T122 ((rd_T119 l0 x6_1).f4) x10_4).f0)) ∧ w'.cell? ⟨(ad137.add ((x10_4).toNat * 3)).block, (ad137.add ((x10_4).toNat * 3)).off + 1, none⟩ = some (.int .i64 ((rd_T122 ((rd_T119 l0 x6_1).f4) x10_4).f1)) ∧ w'.cell? ⟨(ad137.add ((x10_4).toNat * 3)).block, (ad137.add ((x10_4).toNat * 3)).off + 2, none⟩ = some (.int .i64 ((rd_T122 ((rd_T119 l0 x6_1).f4) x10_4).f2)) ∧ w'.cell? (ad137.add ((x10_4).toNat * 3)) = some (.int .i64 ((rd_T122 ((rd_T119 l0 x6_1).f4) x10_4).f0)) ∧ w'.cell? ⟨(ad137.add ((x10_4).toNat * 3)).block, (ad137.add ((x10_4).toNat * 3)).off + 1, none⟩ = some (.int .i64 ((rd_T122 ((rd_T119 l0 x6_1).f4) x10_4).f1)) ∧ w'.cell? ⟨(ad137.add ((x10_4).toNat * 3)).block, (ad137.add ((x10_4).toNat * 3)).off + 2, none⟩ = some (.int .i64 ((rd_T122 ((rd_T119 l0 x6_1).f4) x10_4).f2)) ∧ w'.cell? (ad137.add (((ji42)).toNat * 3)) = some (.int .i64 ((rd_T122 ((rd_T119 l0 x6_1).f4) (ji42)).f0)) ∧ w'.cell? ⟨(ad137.add (((ji42)).toNat * 3)).block, (ad137.add (((ji42)).toNat * 3)).off + 1, none⟩ = some (.int .i64 ((rd_T122 ((rd_T119 l0 x6_1).f4) (ji42)).f1)) ∧ w'.cell? ⟨(ad137.add (((ji42)).toNat * 3)).block, (ad137.add (((ji42)).toNat * 3)).off + 2, none⟩ = some (.int .i64 ((rd_T122 ((rd_T119 l0 x6_1).f4) (ji42)).f2))) (ds := []) (bm 37 0) (by kernel_rfl) rfl rfl ⟨(blk_cell BK129.out 0).trans rfl, (blk_cell BK129.out 1).trans rfl, (blk_cell BK129.out 2).trans rfl, (blk_cell BK129.out 3).trans rfl, (blk_cell BK129.out 4).trans rfl, ((HB.out.cell (World.block_lt_of_cell? w _ hw137_0)).trans hw137_0), ((HB.out.cell (World.block_lt_of_cell? w _ hw137_1)).trans hw137_1), ((HB.out.cell (World.block_lt_of_cell? w _ hw137_2)).trans hw137_2), ((HB.out.cell (World.block_lt_of_cell? w _ hw139_0)).trans hw139_0), ((HB.out.cell (World.block_lt_of_cell? w _ hw139_1)).trans hw139_1), ((HB.out.cell (World.block_lt_of_cell? w _ hw139_2)).trans hw139_2), ((HB.out.cell (World.block_lt_of_cell? w _ hw141_0)).trans hw141_0), ((HB.out.cell (World.block_lt_of_cell? w _ hw141_1)).trans hw141_1), ((HB.out.cell (World.block_lt_of_cell? w _ hw141_2)).trans hw141_2), ((HB.out.cell (World.block_lt_of_cell? w _ hw142_0)).trans hw142_0), ((HB.out.cell (World.block_lt_of_cell? w _ hw142_1)).trans hw142_1), ((HB.out.cell (World.block_lt_of_cell? w _ hw142_2)).trans hw142_2)⟩ (fun hHeld => ?_); refine with_tabW spec_PiecesValid.tab17 spec_PiecesValid.bits17 (fun HT_ HW_ => ?_)
                     generalize wr.drew = w48 at HO_8 BK129 HB hx137_0 hx137_1 hx137_2 hx139_0 hx139_1 hx139_2 hx141_0 hx141_1 hx141_2 hx142_0 hx142_1 hx142_2 hHeld ⊢
                     refine pure_ (i := 0) (N := some 86) (v := ?_) (a' := ?_) (bm 37 1) rfl rfl (any_of HT_.out (by kernel_rfl)) (fun _ _ _ h => h) (Or.inl ⟨by rfl, ?_⟩) ?_ ?_
                     rotate_left
                     ·intro w'
                      go_simp
                      with_reducible rfl
                     rotate_left
                     ·simp only [Act.put, List.setIfInBounds_toArray, List.set_cons_zero, List.set_cons_succ, i64_w, i32_w]
                      rfl
                     refine pure_ (i := 2) (N := some 88) (v := ?_) (a' := ?_) (bm 37 5) rfl rfl (any_of HT_.out (by kernel_rfl)) (fun _ _ _ h => h) (Or.inl ⟨by rfl, ?_⟩) ?_ ?_
                     rotate_left
                     ·intro w'
                      go_simp
                      with_reducible rfl
                     rotate_left
                     ·simp only [Act.put, List.setIfInBounds_toArray, List.set_cons_zero, List.set_cons_succ, i64_w, i32_w]
                      rfl
                     refine pure_ (i := 5) (N := some 91) (v := ?_) (a' := ?_) (bm 37 37) rfl rfl (any_of HT_.out (by kernel_rfl)) (fun _ _ _ h => h) (Or.inl ⟨by rfl, ?_⟩) ?_ ?_
                     rotate_left
                     ·intro w'
                      go_simp
                      with_reducible rfl
                     rotate_left
                     ·simp only [Act.put, List.setIfInBounds_toArray, List.set_cons_zero, List.set_cons_succ, i64_w, i32_w]
                      rfl
                     refine take_ (i := 1) (N := some 87) (v := ?_) (a' := ?_) (bm 37 39) rfl rfl (take_ofW HT_.out HW_.out (by kernel_rfl)) (fun _ _ _ h => h) (Or.inl ⟨by rfl, ?_⟩) hHeld ?_ ?_
                     rotate_left
                     ·rintro w' ⟨s0, s1, s2, s3, s4, s5, s6, s7, s8, s9, s10, s11, s12, s13, s14, s15, s16⟩
                      go_simp
                      with_reducible rfl
                     rotate_left
                     ·simp only [Act.put, List.setIfInBounds_toArray, List.set_cons_zero, List.set_cons_succ, i64_w, i32_w]
                      rfl
                     refine pure_ (i := 3) (N := some 89) (v := ?_) (a' := ?_) (bm 37 47) rfl rfl (any_of HT_.out (by kernel_rfl)) (fun _ _ _ h => h) (Or.inl ⟨by rfl, ?_⟩) ?_ ?_
                     rotate_left
                     ·intro w'
                      go_simp
                      with_reducible rfl
                     rotate_left
                     ·simp only [Act.put, List.setIfInBounds_toArray, List.set_cons_zero, List.set_cons_succ, i64_w, i32_w]
                      rfl
                     refine take_ (i := 4) (N := some 90) (v := ?_) (a' := ?_) (bm 37 63) rfl rfl (take_ofW HT_.out HW_.out (by kernel_rfl)) (fun _ _ _ h => h) (Or.inl ⟨by rfl, ?_⟩) hHeld ?_ ?_
                     rotate_left
                     ·rintro w' ⟨s0, s1, s2, s3, s4, s5, s6, s7, s8, s9, s10, s11, s12, s13, s14, s15, s16⟩
                      go_simp
                      with_reducible rfl
                     rotate_left
                     ·simp only [Act.put, List.setIfInBounds_toArray, List.set_cons_zero, List.set_cons_succ, i64_w, i32_w]
                      rfl
                     refine one_ (i := 6) (N := some 92) (bm 37 127) rfl rfl (one_of HT_.out (by kernel_rfl)) (by decide) (fun K hK => ?_)
                     refine goes_ Try.func99 (by kernel_rfl) rfl #[.agg #[.int .i64 ((rd_T122 ((rd_T119 l0 x6_1).f4) x10_4).f0), .int .i64 ((rd_T122 ((rd_T119 l0 x6_1).f4) x10_4).f1), .int .i64 ((rd_T122 ((rd_T119 l0 x6_1).f4) x10_4).f2)], .int .i64 a1] (by rfl) rfl rfl z2_2 ?_
                     with_reducible refine (spec_l11Message.calls ((rd_T122 ((rd_T119 l0 x6_1).f4) x10_4).f0) ((rd_T122 ((rd_T119 l0 x6_1).f4) x10_4).f1) ((rd_T122 ((rd_T119 l0 x6_1).f4) x10_4).f2) a1 true _ A37.out).mono ?_
                     rintro e w49 ⟨rfl, hb⟩
                     refine ⟨_, rfl, ?_⟩
                     have n0_ := Aside0.mk (Kd.R_below z2_4 hb)
                     have n1_ := Aside0.mk (blk_below (g := gb129) (o := .cells #[.int .i64 ((rd_T119 l0 x6_1).f0), .slice A128_1 ((rd_T119 l0 x6_1).f1).length c128_1, .slice A128_2 ((rd_T119 l0 x6_1).f2).length c128_2, .slice A128_3 ((rd_T119 l0 x6_1).f3).length c128_3, .slice (some ad137) ((rd_T119 l0 x6_1).f4).length c128_4] 119 (0, 0)) z2_3 hb)
                     have n2_ := Aside0.mk (below_step z2_0 hb)
                     clear HO_8
                     clear BK129
                     clear HB
                     have HO_8 := n0_
                     have BK129 := n1_
                     have HB := n2_
                     clear n0_ n1_ n2_
                     (try clear hb)
                     (try clear hb2)
                     (try clear hk)
                     (try clear hi)
                     refine hK.out _ _ ⟨(blk_cell BK129.out 0).trans rfl, (blk_cell BK129.out 1).trans rfl, (blk_cell BK129.out 2).trans rfl, (blk_cell BK129.out 3).trans rfl, (blk_cell BK129.out 4).trans rfl, ((HB.out.cell (World.block_lt_of_cell? w _ hw137_0)).trans hw137_0), ((HB.out.cell (World.block_lt_of_cell? w _ hw137_1)).trans hw137_1), ((HB.out.cell (World.block_lt_of_cell? w _ hw137_2)).trans hw137_2), ((HB.out.cell (World.block_lt_of_cell? w _ hw139_0)).trans hw139_0), ((HB.out.cell (World.block_lt_of_cell? w _ hw139_1)).trans hw139_1), ((HB.out.cell (World.block_lt_of_cell? w _ hw139_2)).trans hw139_2), ((HB.out.cell (World.block_lt_of_cell? w _ hw141_0)).trans hw141_0), ((HB.out.cell (World.block_lt_of_cell? w _ hw141_1)).trans hw141_1), ((HB.out.cell (World.block_lt_of_cell? w _ hw141_2)).trans hw141_2), ((HB.out.cell (World.block_lt_of_cell? w _ hw142_0)).trans hw142_0), ((HB.out.cell (World.block_lt_of_cell? w _ hw142_1)).trans hw142_1), ((HB.out.cell (World.block_lt_of_cell? w _ hw142_2)).trans hw142_2)⟩ (fun hHeld => ?_)
                     clear hK K
                     refine norm_ (a' := ?_) ?_ ?_
                     rotate_left
                     ·show Act.put _ (some 92) _ = _
                      simp only [Act.put, List.setIfInBounds_toArray, List.set_cons_zero, List.set_cons_succ, i64_w, i32_w]
                      rfl
                     refine pure_ (i := 7) (N := some 93) (v := ?_) (a' := ?_) (bm 37 255) rfl rfl (any_of HT_.out (by kernel_rfl)) (fun _ _ _ h => h) (Or.inl ⟨by rfl, ?_⟩) ?_ ?_
                     rotate_left
                     ·intro w'
                      go_simp
                      with_reducible rfl
                     rotate_left
                     ·simp only [Act.put, List.setIfInBounds_toArray, List.set_cons_zero, List.set_cons_succ, i64_w, i32_w]
                      rfl
                     refine pure_ (i := 8) (N := some 94) (v := ?_) (a' := ?_) (bm 37 511) rfl rfl (any_of HT_.out (by kernel_rfl)) (fun _ _ _ h => h) (Or.inl ⟨by rfl, ?_⟩) ?_ ?_
                     rotate_left
                     ·intro w'
                      go_simp
                      with_reducible rfl
                     rotate_left
                     ·simp only [Act.put, List.setIfInBounds_toArray, List.set_cons_zero, List.set_cons_succ, i64_w, i32_w]
                      rfl
                     refine pure_ (i := 9) (N := some 95) (v := ?_) (a' := ?_) (bm 37 1023) rfl rfl (any_of HT_.out (by kernel_rfl)) (fun _ _ _ h => h) (Or.inl ⟨by rfl, ?_⟩) ?_ ?_
                     rotate_left
                     ·intro w'
                      go_simp
                      with_reducible rfl
                     rotate_left
                     ·simp only [Act.put, List.setIfInBounds_toArray, List.set_cons_zero, List.set_cons_succ, i64_w, i32_w]
                      rfl
                     refine pure_ (i := 10) (N := some 96) (v := ?_) (a' := ?_) (bm 37 2047) rfl rfl (any_of HT_.out (by kernel_rfl)) (fun _ _ _ h => h) (Or.inl ⟨by rfl, ?_⟩) ?_ ?_
                     rotate_left
                     ·intro w'
                      go_simp
                      with_reducible rfl
                     rotate_left
                     ·simp only [Act.put, List.setIfInBounds_toArray, List.set_cons_zero, List.set_cons_succ, i64_w, i32_w]
                      rfl
                     refine pure_ (i := 12) (N := some 98) (v := ?_) (a' := ?_) (bm 37 6143) rfl rfl (any_of HT_.out (by kernel_rfl)) (fun _ _ _ h => h) (Or.inl ⟨by rfl, ?_⟩) ?_ ?_
                     rotate_left
                     ·intro w'
                      go_simp
                      with_reducible rfl
                     rotate_left
                     ·simp only [Act.put, List.setIfInBounds_toArray, List.set_cons_zero, List.set_cons_succ, i64_w, i32_w]
                      rfl
                     refine take_ (i := 11) (N := some 97) (v := ?_) (a' := ?_) (bm 37 8191) rfl rfl (take_ofW HT_.out HW_.out (by kernel_rfl)) (fun _ _ _ h => h) (Or.inl ⟨by rfl, ?_⟩) hHeld ?_ ?_
                     rotate_left
                     ·rintro w' ⟨s0, s1, s2, s3, s4, s5, s6, s7, s8, s9, s10, s11, s12, s13, s14, s15, s16⟩
                      go_simp
                      with_reducible rfl
                     rotate_left
                     ·simp only [Act.put, List.setIfInBounds_toArray, List.set_cons_zero, List.set_cons_succ, i64_w, i32_w]
                      rfl
                     refine pure_ (i := 13) (N := some 99) (v := ?_) (a' := ?_) (bm 37 16383) rfl rfl (any_of HT_.out (by kernel_rfl)) (fun _ _ _ h => h) (Or.inl ⟨by rfl, ?_⟩) ?_ ?_
                     rotate_left
                     ·intro w'
                      go_simp
                      with_reducible rfl
                     rotate_left
                     ·simp only [Act.put, List.setIfInBounds_toArray, List.set_cons_zero, List.set_cons_succ, i64_w, i32_w]
                      rfl
                     refine pure_ (i := 14) (N := some 100) (v := ?_) (a' := ?_) (bm 37 32767) rfl rfl (any_of HT_.out (by kernel_rfl)) (fun _ _ _ h => h) (Or.inl ⟨by rfl, ?_⟩) ?_ ?_
                     rotate_left
                     ·intro w'
                      go_simp
                      with_reducible rfl
                     rotate_left
                     ·simp only [Act.put, List.setIfInBounds_toArray, List.set_cons_zero, List.set_cons_succ, i64_w, i32_w]
                      rfl
                     refine take_ (i := 15) (N := some 101) (v := ?_) (a' := ?_) (bm 37 65535) rfl rfl (take_ofW HT_.out HW_.out (by kernel_rfl)) (fun _ _ _ h => h) (Or.inl ⟨by rfl, ?_⟩) hHeld ?_ ?_
                     rotate_left
                     ·rintro w' ⟨s0, s1, s2, s3, s4, s5, s6, s7, s8, s9, s10, s11, s12, s13, s14, s15, s16⟩
                      go_simp
                      with_reducible rfl
                     rotate_left
                     ·simp only [Act.put, List.setIfInBounds_toArray, List.set_cons_zero, List.set_cons_succ, i64_w, i32_w]
                      rfl
                     refine one_ (i := 16) (N := some 102) (bm 37 131071) rfl rfl (one_of HT_.out (by kernel_rfl)) (by decide) (fun K hK => ?_)
                     refine goes_ Try.func100 (by kernel_rfl) rfl #[.slice Ao34 t130.length co34, .int .i64 ((rd_T122 ((rd_T119 l0 x6_1).f4) x10_4).f0)] (by rfl) rfl rfl z2_2 ?_
                     with_reducible refine (spec_l7Has.calls k4 _ _ t130 ((rd_T122 ((rd_T119 l0 x6_1).f4) x10_4).f0) true _ ?side1 ?side2 A39.out).mono ?_
                     (case side1 => repeat (first | exact (Kd.R_reads' HO_8.out).2.2 | (with_reducible refine Kd.C_alloc ?_ _) | (with_reducible refine Kd.C_drewN ?_ _) | (with_reducible refine Kd.C_drew ?_)))
                     (case side2 => exact (Kd.R_reads' HO_8.out).2.1)
                     rintro e w' ⟨rfl, ⟨nd, rfl⟩⟩
                     refine ⟨_, rfl, ?_⟩
                     refine hK.out _ _ ⟨(blk_cell BK129.out 0).trans rfl, (blk_cell BK129.out 1).trans rfl, (blk_cell BK129.out 2).trans rfl, (blk_cell BK129.out 3).trans rfl, (blk_cell BK129.out 4).trans rfl, ((HB.out.cell (World.block_lt_of_cell? w _ hw137_0)).trans hw137_0), ((HB.out.cell (World.block_lt_of_cell? w _ hw137_1)).trans hw137_1), ((HB.out.cell (World.block_lt_of_cell? w _ hw137_2)).trans hw137_2), ((HB.out.cell (World.block_lt_of_cell? w _ hw139_0)).trans hw139_0), ((HB.out.cell (World.block_lt_of_cell? w _ hw139_1)).trans hw139_1), ((HB.out.cell (World.block_lt_of_cell? w _ hw139_2)).trans hw139_2), ((HB.out.cell (World.block_lt_of_cell? w _ hw141_0)).trans hw141_0), ((HB.out.cell (World.block_lt_of_cell? w _ hw141_1)).trans hw141_1), ((HB.out.cell (World.block_lt_of_cell? w _ hw141_2)).trans hw141_2), ((HB.out.cell (World.block_lt_of_cell? w _ hw142_0)).trans hw142_0), ((HB.out.cell (World.block_lt_of_cell? w _ hw142_1)).trans hw142_1), ((HB.out.cell (World.block_lt_of_cell? w _ hw142_2)).trans hw142_2)⟩ (fun hHeld => ?_)
                     clear hK K
                     refine norm_ (a' := ?_) ?_ ?_
                     rotate_left
                     ·show Act.put _ (some 102) _ = _
                      simp only [Act.put, List.setIfInBounds_toArray, List.set_cons_zero, List.set_cons_succ, i64_w, i32_w]
                      rfl
                     refine pure_ (i := 17) (N := some 103) (v := ?_) (a' := ?_) (bm 37 262143) rfl rfl (any_of HT_.out (by kernel_rfl)) (fun _ _ _ h => h) (Or.inl ⟨by rfl, ?_⟩) ?_ ?_
                     rotate_left
                     ·intro w'
                      go_simp
                      with_reducible rfl
                     rotate_left
                     ·simp only [Act.put, List.setIfInBounds_toArray, List.set_cons_zero, List.set_cons_succ, i64_w, i32_w]
                      rfl
                     refine pure_ (i := 18) (N := some 104) (v := ?_) (a' := ?_) (bm 37 524287) rfl rfl (any_of HT_.out (by kernel_rfl)) (fun _ _ _ h => h) (Or.inl ⟨by rfl, ?_⟩) ?_ ?_
                     rotate_left
                     ·intro w'
                      go_simp
                      with_reducible rfl
                     rotate_left
                     ·simp only [Act.put, List.setIfInBounds_toArray, List.set_cons_zero, List.set_cons_succ, i64_w, i32_w]
                      rfl
                     refine pure_ (i := 19) (N := some 105) (v := ?_) (a' := ?_) (bm 37 1048575) rfl rfl (any_of HT_.out (by kernel_rfl)) (fun _ _ _ h => h) (Or.inl ⟨by rfl, ?_⟩) ?_ ?_
                     rotate_left
                     ·intro w'
                      go_simp
                      with_reducible rfl
                     rotate_left
                     ·simp only [Act.put, List.setIfInBounds_toArray, List.set_cons_zero, List.set_cons_succ, i64_w, i32_w]
                      rfl
                     refine pure_ (i := 20) (N := some 106) (v := ?_) (a' := ?_) (bm 37 2097151) rfl rfl (any_of HT_.out (by kernel_rfl)) (fun _ _ _ h => h) (Or.inl ⟨by rfl, ?_⟩) ?_ ?_
                     rotate_left
                     ·intro w'
                      go_simp
                      with_reducible rfl
                     rotate_left
                     ·simp only [Act.put, List.setIfInBounds_toArray, List.set_cons_zero, List.set_cons_succ, i64_w, i32_w]
                      rfl
                     refine pure_ (i := 21) (N := some 107) (v := ?_) (a' := ?_) (bm 37 4194303) rfl rfl (any_of HT_.out (by kernel_rfl)) (fun _ _ _ h => h) (Or.inl ⟨by rfl, ?_⟩) ?_ ?_
                     rotate_left
                     ·intro w'
                      go_simp
                      with_reducible rfl
                     rotate_left
                     ·simp only [Act.put, List.setIfInBounds_toArray, List.set_cons_zero, List.set_cons_succ, i64_w, i32_w]
                      rfl
                     refine pure_ (i := 22) (N := some 108) (v := ?_) (a' := ?_) (bm 37 8388607) rfl rfl (any_of HT_.out (by kernel_rfl)) (fun _ _ _ h => h) (Or.inl ⟨by rfl, ?_⟩) ?_ ?_
                     rotate_left
                     ·intro w'
                      go_simp
                      with_reducible rfl
                     rotate_left
                     ·simp only [Act.put, List.setIfInBounds_toArray, List.set_cons_zero, List.set_cons_succ, i64_w, i32_w]
                      rfl
                     refine pure_ (i := 23) (N := some 109) (v := ?_) (a' := ?_) (bm 37 16777215) rfl rfl (any_of HT_.out (by kernel_rfl)) (fun _ _ _ h => h) (Or.inl ⟨by rfl, ?_⟩) ?_ ?_
                     rotate_left
                     ·intro w'
                      go_simp
                      with_reducible rfl
                     rotate_left
                     ·simp only [Act.put, List.setIfInBounds_toArray, List.set_cons_zero, List.set_cons_succ, i64_w, i32_w]
                      rfl
                     refine pure_ (i := 25) (N := some 111) (v := ?_) (a' := ?_) (bm 37 50331647) rfl rfl (any_of HT_.out (by kernel_rfl)) (fun _ _ _ h => h) (Or.inl ⟨by rfl, ?_⟩) ?_ ?_
                     rotate_left
                     ·intro w'
                      go_simp
                      with_reducible rfl
                     rotate_left
                     ·simp only [Act.put, List.setIfInBounds_toArray, List.set_cons_zero, List.set_cons_succ, i64_w, i32_w]
                      rfl
                     refine pure_ (i := 28) (N := some 114) (v := ?_) (a' := ?_) (bm 37 318767103) rfl rfl (any_of HT_.out (by kernel_rfl)) (fun _ _ _ h => h) (Or.inl ⟨by rfl, ?_⟩) ?_ ?_
                     rotate_left
                     ·intro w'
                      go_simp
                      with_reducible rfl
                     rotate_left
                     ·simp only [Act.put, List.setIfInBounds_toArray, List.set_cons_zero, List.set_cons_succ, i64_w, i32_w]
                      rfl
                     refine pure_ (i := 30) (N := some 116) (v := ?_) (a' := ?_) (bm 37 1392508927) rfl rfl (any_of HT_.out (by kernel_rfl)) (fun _ _ _ h => h) (Or.inl ⟨by rfl, ?_⟩) ?_ ?_
                     rotate_left
                     ·intro w'
                      go_simp
                      with_reducible rfl
                     rotate_left
                     ·simp only [Act.put, List.setIfInBounds_toArray, List.set_cons_zero, List.set_cons_succ, i64_w, i32_w]
                      rfl
                     refine pure_ (i := 31) (N := some 117) (v := ?_) (a' := ?_) (bm 37 3539992575) rfl rfl (any_of HT_.out (by kernel_rfl)) (fun _ _ _ h => h) (Or.inl ⟨by rfl, ?_⟩) ?_ ?_
                     rotate_left
                     ·intro w'
                      go_simp
                      with_reducible rfl
                     rotate_left
                     ·simp only [Act.put, List.setIfInBounds_toArray, List.set_cons_zero, List.set_cons_succ, i64_w, i32_w]
                      rfl
                     refine take_ (i := 24) (N := some 110) (v := ?_) (a' := ?_) (bm 37 3556769791) rfl rfl (take_ofW HT_.out HW_.out (by kernel_rfl)) (fun _ _ _ h => h) (Or.inl ⟨by rfl, ?_⟩) hHeld ?_ ?_
                     rotate_left
                     ·rintro w' ⟨s0, s1, s2, s3, s4, s5, s6, s7, s8, s9, s10, s11, s12, s13, s14, s15, s16⟩
                      go_simp
                      with_reducible rfl
                     rotate_left
                     ·simp only [Act.put, List.setIfInBounds_toArray, List.set_cons_zero, List.set_cons_succ, i64_w, i32_w]
                      rfl
                     refine pure_ (i := 26) (N := some 112) (v := ?_) (a' := ?_) (bm 37 3623878655) rfl rfl (any_of HT_.out (by kernel_rfl)) (fun _ _ _ h => h) (Or.inl ⟨by rfl, ?_⟩) ?_ ?_
                     rotate_left
                     ·intro w'
                      go_simp
                      with_reducible rfl
                     rotate_left
                     ·simp only [Act.put, List.setIfInBounds_toArray, List.set_cons_zero, List.set_cons_succ, i64_w, i32_w]
                      rfl
                     refine take_ (i := 27) (N := some 113) (v := ?_) (a' := ?_) (bm 37 3758096383) rfl rfl (take_ofW HT_.out HW_.out (by kernel_rfl)) (fun _ _ _ h => h) (Or.inl ⟨by rfl, ?_⟩) hHeld ?_ ?_
                     rotate_left
                     ·rintro w' ⟨s0, s1, s2, s3, s4, s5, s6, s7, s8, s9, s10, s11, s12, s13, s14, s15, s16⟩
                      go_simp
                      with_reducible rfl
                     rotate_left
                     ·simp only [Act.put, List.setIfInBounds_toArray, List.set_cons_zero, List.set_cons_succ, i64_w, i32_w]
                      rfl
                     refine take_ (i := 29) (N := some 115) (v := ?_) (a' := ?_) (bm 37 4294967295) rfl rfl (take_ofW HT_.out HW_.out (by kernel_rfl)) (fun _ _ _ h => h) (Or.inl ⟨by rfl, ?_⟩) hHeld ?_ ?_
                     rotate_left
                     ·rintro w' ⟨s0, s1, s2, s3, s4, s5, s6, s7, s8, s9, s10, s11, s12, s13, s14, s15, s16⟩
                      go_simp
                      with_reducible rfl
                     rotate_left
                     ·simp only [Act.put, List.setIfInBounds_toArray, List.set_cons_zero, List.set_cons_succ, i64_w, i32_w]
                      rfl
                     refine pure_ (i := 32) (N := some 118) (v := ?_) (a' := ?_) (bm 37 8589934591) rfl rfl (any_of HT_.out (by kernel_rfl)) (fun _ _ _ h => h) (Or.inl ⟨by rfl, ?_⟩) ?_ ?_
                     rotate_left
                     ·intro w'
                      go_simp
                      with_reducible rfl
                     rotate_left
                     ·simp only [Act.put, List.setIfInBounds_toArray, List.set_cons_zero, List.set_cons_succ, i64_w, i32_w]
                      rfl
                     refine take_ (i := 33) (N := some 119) (v := ?_) (a' := ?_) (bm 37 17179869183) rfl rfl (take_ofW HT_.out HW_.out (by kernel_rfl)) (fun _ _ _ h => h) (Or.inl ⟨by rfl, ?_⟩) hHeld ?_ ?_
                     rotate_left
                     ·rintro w' ⟨s0, s1, s2, s3, s4, s5, s6, s7, s8, s9, s10, s11, s12, s13, s14, s15, s16⟩
                      go_simp
                      with_reducible rfl
                     rotate_left
                     ·simp only [Act.put, List.setIfInBounds_toArray, List.set_cons_zero, List.set_cons_succ, i64_w, i32_w]
                      rfl
                     refine one_ (i := 34) (N := some 120) (bm 37 34359738367) rfl rfl (one_of HT_.out (by kernel_rfl)) (by decide) (fun K hK => ?_)
                     refine goes_ Try.func101 (by kernel_rfl) rfl #[.agg #[.int .i64 ((rd_T122 ((rd_T119 l0 x6_1).f4) x10_4).f0), .int .i64 ((rd_T122 ((rd_T119 l0 x6_1).f4) x10_4).f1), .int .i64 ((rd_T122 ((rd_T119 l0 x6_1).f4) x10_4).f2)], .agg #[.int .i64 ((rd_T122 ((rd_T119 l0 x6_1).f4) (ji42)).f0), .int .i64 ((rd_T122 ((rd_T119 l0 x6_1).f4) (ji42)).f1), .int .i64 ((rd_T122 ((rd_T119 l0 x6_1).f4) (ji42)).f2)]] (by rfl) rfl rfl z2_9 ?_
                     with_reducible refine (spec_l9Before.calls ((rd_T122 ((rd_T119 l0 x6_1).f4) x10_4).f0) ((rd_T122 ((rd_T119 l0 x6_1).f4) x10_4).f1) ((rd_T122 ((rd_T119 l0 x6_1).f4) x10_4).f2) ((rd_T122 ((rd_T119 l0 x6_1).f4) (ji42)).f0) ((rd_T122 ((rd_T119 l0 x6_1).f4) (ji42)).f1) ((rd_T122 ((rd_T119 l0 x6_1).f4) (ji42)).f2) true _ A45.out).mono ?_
                     rintro e w50 ⟨rfl, hb⟩
                     refine ⟨_, rfl, ?_⟩
                     have n0_ := Aside0.mk (Kd.R_below z2_4 hb)
                     have n1_ := Aside0.mk (blk_below (g := gb129) (o := .cells #[.int .i64 ((rd_T119 l0 x6_1).f0), .slice A128_1 ((rd_T119 l0 x6_1).f1).length c128_1, .slice A128_2 ((rd_T119 l0 x6_1).f2).length c128_2, .slice A128_3 ((rd_T119 l0 x6_1).f3).length c128_3, .slice (some ad137) ((rd_T119 l0 x6_1).f4).length c128_4] 119 (0, 0)) z2_3 hb)
                     have n2_ := Aside0.mk (below_step z2_0 hb)
                     clear HO_8
                     clear BK129
                     clear HB
                     have HO_8 := n0_
                     have BK129 := n1_
                     have HB := n2_
                     clear n0_ n1_ n2_
                     (try clear hb)
                     (try clear hb2)
                     (try clear hk)
                     (try clear hi)
                     refine hK.out _ _ ⟨(blk_cell BK129.out 0).trans rfl, (blk_cell BK129.out 1).trans rfl, (blk_cell BK129.out 2).trans rfl, (blk_cell BK129.out 3).trans rfl, (blk_cell BK129.out 4).trans rfl, ((HB.out.cell (World.block_lt_of_cell? w _ hw137_0)).trans hw137_0), ((HB.out.cell (World.block_lt_of_cell? w _ hw137_1)).trans hw137_1), ((HB.out.cell (World.block_lt_of_cell? w _ hw137_2)).trans hw137_2), ((HB.out.cell (World.block_lt_of_cell? w _ hw139_0)).trans hw139_0), ((HB.out.cell (World.block_lt_of_cell? w _ hw139_1)).trans hw139_1), ((HB.out.cell (World.block_lt_of_cell? w _ hw139_2)).trans hw139_2), ((HB.out.cell (World.block_lt_of_cell? w _ hw141_0)).trans hw141_0), ((HB.out.cell (World.block_lt_of_cell? w _ hw141_1)).trans hw141_1), ((HB.out.cell (World.block_lt_of_cell? w _ hw141_2)).trans hw141_2), ((HB.out.cell (World.block_lt_of_cell? w _ hw142_0)).trans hw142_0), ((HB.out.cell (World.block_lt_of_cell? w _ hw142_1)).trans hw142_1), ((HB.out.cell (World.block_lt_of_cell? w _ hw142_2)).trans hw142_2)⟩ (fun hHeld => ?_)
                     clear hK K
                     refine norm_ (a' := ?_) ?_ ?_
                     rotate_left
                     ·show Act.put _ (some 120) _ = _
                      simp only [Act.put, List.setIfInBounds_toArray, List.set_cons_zero, List.set_cons_succ, i64_w, i32_w]
                      rfl
                     refine pure_ (i := 35) (N := some 121) (v := ?_) (a' := ?_) (bm 37 68719476735) rfl rfl (any_of HT_.out (by kernel_rfl)) (fun _ _ _ h => h) (Or.inl ⟨by rfl, ?_⟩) ?_ ?_
                     rotate_left
                     ·intro w'
                      go_simp
                      with_reducible rfl
                     rotate_left
                     ·simp only [Act.put, List.setIfInBounds_toArray, List.set_cons_zero, List.set_cons_succ, i64_w, i32_w]
                      rfl
                     refine pure_ (i := 36) (N := some 122) (v := ?_) (a' := ?_) (bm 37 137438953471) rfl rfl (any_of HT_.out (by kernel_rfl)) (fun _ _ _ h => h) (Or.inl ⟨by rfl, ?_⟩) ?_ ?_
                     rotate_left
                     ·intro w'
                      go_simp
                      with_reducible rfl
                     rotate_left
                     ·simp only [Act.put, List.setIfInBounds_toArray, List.set_cons_zero, List.set_cons_succ, i64_w, i32_w]
                      rfl
                     refine done_ (done_of HT_.out (by kernel_rfl)) ?_
                     try go_wp2
                     go_ret
                     exact ⟨by first | rfl | (simp [errW_none, errW_some] <;> rfl) | (simp only [← hji42]; first | rfl | (simp [errW_none, errW_some] <;> rfl)) | (simp [*, errW_none, errW_some] <;> rfl), z2_0⟩
                    ·replace c46 := Bool.eq_false_iff.mpr c46
                     subst c46
                     have H1 : (spec_PiecesValid.l2 k4 l0 a1 x5_1 x6_1 t130 (wrap64 (x10_4 + 1)) ((rd_T119 l0 x6_1).f0) ((rd_T119 l0 x6_1).f1) ((rd_T119 l0 x6_1).f2) ((rd_T119 l0 x6_1).f3) ((rd_T119 l0 x6_1).f4)) = some r := by rw [if_neg (show ¬ (false = true) by decide)] at H; exact H
                     clear H
                     have H := H1
                     clear H1
                     have H' := Aside0.mk H
                     clear H
                     have hcz51_0 : wr.cell? ⟨gb129, 0, none⟩ = some (.int .i64 ((rd_T119 l0 x6_1).f0)) := (blk_cell BK129.out 0).trans rfl
                     have hcz51_1 : wr.cell? ⟨gb129, 1, none⟩ = some (.slice A128_1 ((rd_T119 l0 x6_1).f1).length c128_1) := (blk_cell BK129.out 1).trans rfl
                     have hcz51_2 : wr.cell? ⟨gb129, 2, none⟩ = some (.slice A128_2 ((rd_T119 l0 x6_1).f2).length c128_2) := (blk_cell BK129.out 2).trans rfl
                     have hcz51_3 : wr.cell? ⟨gb129, 3, none⟩ = some (.slice A128_3 ((rd_T119 l0 x6_1).f3).length c128_3) := (blk_cell BK129.out 3).trans rfl
                     have hcz51_4 : wr.cell? ⟨gb129, 4, none⟩ = some (.slice A128_4 ((rd_T119 l0 x6_1).f4).length c128_4) := (blk_cell BK129.out 4).trans rfl
                     have hfz51_0 := blk_frozen BK129.out 0
                     have hfz51_1 := blk_frozen BK129.out 1
                     have hfz51_2 := blk_frozen BK129.out 2
                     have hfz51_3 := blk_frozen BK129.out 3
                     have hfz51_4 := blk_frozen BK129.out 4
                     try go_wp2
                     have n0_ := Aside0.mk (Kd.R_drew HO_8.out)
                     have n1_ := Aside0.mk (blk_drew BK129.out)
                     have n2_ := Aside0.mk (below_drew1 HB.out)
                     clear HO_8
                     clear BK129
                     clear HB
                     have HO_8 := n0_
                     have BK129 := n1_
                     have HB := n2_
                     clear n0_ n1_ n2_
                     have p137 : 0 ≤ (x10_4 : Int) := of_decide_eq_true z2_1
                     have q137 : x10_4 < (((rd_T119 l0 x6_1).f4).length : Int) := of_decide_eq_true z2_1
                     obtain ⟨ad137, e137, hx137_0, hx137_1, hx137_2⟩ := at_T122 HR128_4.out x10_4 p137 q137
                     have hw137_2 := hx137_2
                     have hw137_1 := hx137_1
                     have hw137_0 := hx137_0
                     cases e137
                     replace hx137_0 := (HB.out.cell (World.block_lt_of_cell? w _ hx137_0)).trans hx137_0
                     replace hx137_1 := (HB.out.cell (World.block_lt_of_cell? w _ hx137_1)).trans hx137_1
                     replace hx137_2 := (HB.out.cell (World.block_lt_of_cell? w _ hx137_2)).trans hx137_2
                     replace p137 := eq_true p137
                     replace q137 := eq_true q137
                     have p139 : 0 ≤ (x10_4 : Int) := of_decide_eq_true z2_1
                     have q139 : x10_4 < (((rd_T119 l0 x6_1).f4).length : Int) := of_decide_eq_true z2_1
                     obtain ⟨ad139, e139, hx139_0, hx139_1, hx139_2⟩ := at_T122 HR128_4.out x10_4 p139 q139
                     have hw139_2 := hx139_2
                     have hw139_1 := hx139_1
                     have hw139_0 := hx139_0
                     obtain rfl : ad137 = ad139 := (by injection e139)
                     replace hx139_0 := (HB.out.cell (World.block_lt_of_cell? w _ hx139_0)).trans hx139_0
                     replace hx139_1 := (HB.out.cell (World.block_lt_of_cell? w _ hx139_1)).trans hx139_1
                     replace hx139_2 := (HB.out.cell (World.block_lt_of_cell? w _ hx139_2)).trans hx139_2
                     replace p139 := eq_true p139
                     replace q139 := eq_true q139
                     have p141 : 0 ≤ (x10_4 : Int) := of_decide_eq_true z2_1
                     have q141 : x10_4 < (((rd_T119 l0 x6_1).f4).length : Int) := of_decide_eq_true z2_1
                     obtain ⟨ad141, e141, hx141_0, hx141_1, hx141_2⟩ := at_T122 HR128_4.out x10_4 p141 q141
                     have hw141_2 := hx141_2
                     have hw141_1 := hx141_1
                     have hw141_0 := hx141_0
                     obtain rfl : ad137 = ad141 := (by injection e141)
                     replace hx141_0 := (HB.out.cell (World.block_lt_of_cell? w _ hx141_0)).trans hx141_0
                     replace hx141_1 := (HB.out.cell (World.block_lt_of_cell? w _ hx141_1)).trans hx141_1
                     replace hx141_2 := (HB.out.cell (World.block_lt_of_cell? w _ hx141_2)).trans hx141_2
                     replace p141 := eq_true p141
                     replace q141 := eq_true q141
                     have p142 : 0 ≤ ((ji42) : Int) := of_decide_eq_true z2_1
                     have q142 : (ji42) < (((rd_T119 l0 x6_1).f4).length : Int) := of_decide_eq_true z2_1
                     obtain ⟨ad142, e142, hx142_0, hx142_1, hx142_2⟩ := at_T122 HR128_4.out (ji42) p142 q142
                     have hw142_2 := hx142_2
                     have hw142_1 := hx142_1
                     have hw142_0 := hx142_0
                     obtain rfl : ad137 = ad142 := (by injection e142)
                     replace hx142_0 := (HB.out.cell (World.block_lt_of_cell? w _ hx142_0)).trans hx142_0
                     replace hx142_1 := (HB.out.cell (World.block_lt_of_cell? w _ hx142_1)).trans hx142_1
                     replace hx142_2 := (HB.out.cell (World.block_lt_of_cell? w _ hx142_2)).trans hx142_2
                     replace p142 := eq_true p142
                     replace q142 := eq_true q142
                     refine start_ (n := 37) (S := fun w' => w'.cell? ⟨gb129, 0, none⟩ = some (.int .i64 ((rd_T119 l0 x6_1).f0)) ∧ w'.cell? ⟨gb129, 1, none⟩ = some (.slice A128_1 ((rd_T119 l0 x6_1).f1).length c128_1) ∧ w'.cell? ⟨gb129, 2, none⟩ = some (.slice A128_2 ((rd_T119 l0 x6_1).f2).length c128_2) ∧ w'.cell? ⟨gb129, 3, none⟩ = some (.slice A128_3 ((rd_T119 l0 x6_1).f3).length c128_3) ∧ w'.cell? ⟨gb129, 4, none⟩ = some (.slice (some ad137) ((rd_T119 l0 x6_1).f4).length c128_4) ∧ w'.cell? (ad137.add ((x10_4).toNat * 3)) = some (.int .i64 ((rd_T122 ((rd_T119 l0 x6_1).f4) x10_4).f0)) ∧ w'.cell? ⟨(ad137.add ((x10_4).toNat * 3)).block, (ad137.add ((x10_4).toNat * 3)).off + 1, none⟩ = some (.int .i64 ((rd_T122 ((rd_T119 l0 x6_1).f4) x10_4).f1)) ∧ w'.cell? ⟨(ad137.add ((x10_4).toNat * 3)).block, (ad137.add ((x10_4).toNat * 3)).off + 2, none⟩ = some (.int .i64 ((rd_T122 ((rd_T119 l0 x6_1).f4) x10_4).f2)) ∧ w'.cell? (ad137.add ((x10_4).toNat * 3)) = some (.int .i64 ((rd_T122 ((rd_T119 l0 x6_1).f4) x10_4).f0)) ∧ w'.cell? ⟨(ad137.add ((x10_4).toNat * 3)).block, (ad137.add ((x10_4).toNat * 3)).off + 1, none⟩ = some (.int .i64 ((rd_T122 ((rd_T119 l0 x6_1).f4) x10_4).f1)) ∧ w'.cell? ⟨(ad137.add ((x10_4).toNat * 3)).block, (ad137.add ((x10_4).toNat * 3)).off + 2, none⟩ = some (.int .i64 ((rd_T122 ((rd_T119 l0 x6_1).f4) x10_4).f2)) ∧ w'.cell? (ad137.add ((x10_4).toNat * 3)) = some (.int .i64 ((rd_T122 ((rd_T119 l0 x6_1).f4) x10_4).f0)) ∧ w'.cell? ⟨(ad137.add ((x10_4).toNat * 3)).block, (ad137.add ((x10_4).toNat * 3)).off + 1, none⟩ = some (.int .i64 ((rd_T122 ((rd_T119 l0 x6_1).f4) x10_4).f1)) ∧ w'.cell? ⟨(ad137.add ((x10_4).toNat * 3)).block, (ad137.add ((x10_4).toNat * 3)).off + 2, none⟩ = some (.int .i64 ((rd_T122 ((rd_T119 l0 x6_1).f4) x10_4).f2)) ∧ w'.cell? (ad137.add (((ji42)).toNat * 3)) = some (.int .i64 ((rd_T122 ((rd_T119 l0 x6_1).f4) (ji42)).f0)) ∧ w'.cell? ⟨(ad137.add (((ji42)).toNat * 3)).block, (ad137.add (((ji42)).toNat * 3)).off + 1, none⟩ = some (.int .i64 ((rd_T122 ((rd_T119 l0 x6_1).f4) (ji42)).f1)) ∧ w'.cell? ⟨(ad137.add (((ji42)).toNat * 3)).block, (ad137.add (((ji42)).toNat * 3)).off + 2, none⟩ = some (.int .i64 ((rd_T122 ((rd_T119 l0 x6_1).f4) (ji42)).f2))) (ds := []) (bm 37 0) (by kernel_rfl) rfl rfl ⟨(blk_cell BK129.out 0).trans rfl, (blk_cell BK129.out 1).trans rfl, (blk_cell BK129.out 2).trans rfl, (blk_cell BK129.out 3).trans rfl, (blk_cell BK129.out 4).trans rfl, ((HB.out.cell (World.block_lt_of_cell? w _ hw137_0)).trans hw137_0), ((HB.out.cell (World.block_lt_of_cell? w _ hw137_1)).trans hw137_1), ((HB.out.cell (World.block_lt_of_cell? w _ hw137_2)).trans hw137_2), ((HB.out.cell (World.block_lt_of_cell? w _ hw139_0)).trans hw139_0), ((HB.out.cell (World.block_lt_of_cell? w _ hw139_1)).trans hw139_1), ((HB.out.cell (World.block_lt_of_cell? w _ hw139_2)).trans hw139_2), ((HB.out.cell (World.block_lt_of_cell? w _ hw141_0)).trans hw141_0), ((HB.out.cell (World.block_lt_of_cell? w _ hw141_1)).trans hw141_1), ((HB.out.cell (World.block_lt_of_cell? w _ hw141_2)).trans hw141_2), ((HB.out.cell (World.block_lt_of_cell? w _ hw142_0)).trans hw142_0), ((HB.out.cell (World.block_lt_of_cell? w _ hw142_1)).trans hw142_1), ((HB.out.cell (World.block_lt_of_cell? w _ hw142_2)).trans hw142_2)⟩ (fun hHeld => ?_); refine with_tabW spec_PiecesValid.tab17 spec_PiecesValid.bits17 (fun HT_ HW_ => ?_)
                     generalize wr.drew = w52 at HO_8 BK129 HB hx137_0 hx137_1 hx137_2 hx139_0 hx139_1 hx139_2 hx141_0 hx141_1 hx141_2 hx142_0 hx142_1 hx142_2 hHeld ⊢
                     refine pure_ (i := 0) (N := some 86) (v := ?_) (a' := ?_) (bm 37 1) rfl rfl (any_of HT_.out (by kernel_rfl)) (fun _ _ _ h => h) (Or.inl ⟨by rfl, ?_⟩) ?_ ?_
                     rotate_left
                     ·intro w'
                      go_simp
                      with_reducible rfl
                     rotate_left
                     ·simp only [Act.put, List.setIfInBounds_toArray, List.set_cons_zero, List.set_cons_succ, i64_w, i32_w]
                      rfl
                     refine pure_ (i := 2) (N := some 88) (v := ?_) (a' := ?_) (bm 37 5) rfl rfl (any_of HT_.out (by kernel_rfl)) (fun _ _ _ h => h) (Or.inl ⟨by rfl, ?_⟩) ?_ ?_
                     rotate_left
                     ·intro w'
                      go_simp
                      with_reducible rfl
                     rotate_left
                     ·simp only [Act.put, List.setIfInBounds_toArray, List.set_cons_zero, List.set_cons_succ, i64_w, i32_w]
                      rfl
                     refine pure_ (i := 5) (N := some 91) (v := ?_) (a' := ?_) (bm 37 37) rfl rfl (any_of HT_.out (by kernel_rfl)) (fun _ _ _ h => h) (Or.inl ⟨by rfl, ?_⟩) ?_ ?_
                     rotate_left
                     ·intro w'
                      go_simp
                      with_reducible rfl
                     rotate_left
                     ·simp only [Act.put, List.setIfInBounds_toArray, List.set_cons_zero, List.set_cons_succ, i64_w, i32_w]
                      rfl
                     refine take_ (i := 1) (N := some 87) (v := ?_) (a' := ?_) (bm 37 39) rfl rfl (take_ofW HT_.out HW_.out (by kernel_rfl)) (fun _ _ _ h => h) (Or.inl ⟨by rfl, ?_⟩) hHeld ?_ ?_
                     rotate_left
                     ·rintro w' ⟨s0, s1, s2, s3, s4, s5, s6, s7, s8, s9, s10, s11, s12, s13, s14, s15, s16⟩
                      go_simp
                      with_reducible rfl
                     rotate_left
                     ·simp only [Act.put, List.setIfInBounds_toArray, List.set_cons_zero, List.set_cons_succ, i64_w, i32_w]
                      rfl
                     refine pure_ (i := 3) (N := some 89) (v := ?_) (a' := ?_) (bm 37 47) rfl rfl (any_of HT_.out (by kernel_rfl)) (fun _ _ _ h => h) (Or.inl ⟨by rfl, ?_⟩) ?_ ?_
                     rotate_left
                     ·intro w'
                      go_simp
                      with_reducible rfl
                     rotate_left
                     ·simp only [Act.put, List.setIfInBounds_toArray, List.set_cons_zero, List.set_cons_succ, i64_w, i32_w]
                      rfl
                     refine take_ (i := 4) (N := some 90) (v := ?_) (a' := ?_) (bm 37 63) rfl rfl (take_ofW HT_.out HW_.out (by kernel_rfl)) (fun _ _ _ h => h) (Or.inl ⟨by rfl, ?_⟩) hHeld ?_ ?_
                     rotate_left
                     ·rintro w' ⟨s0, s1, s2, s3, s4, s5, s6, s7, s8, s9, s10, s11, s12, s13, s14, s15, s16⟩
                      go_simp
                      with_reducible rfl
                     rotate_left
                     ·simp only [Act.put, List.setIfInBounds_toArray, List.set_cons_zero, List.set_cons_succ, i64_w, i32_w]
                      rfl
                     refine one_ (i := 6) (N := some 92) (bm 37 127) rfl rfl (one_of HT_.out (by kernel_rfl)) (by decide) (fun K hK => ?_)
                     refine goes_ Try.func99 (by kernel_rfl) rfl #[.agg #[.int .i64 ((rd_T122 ((rd_T119 l0 x6_1).f4) x10_4).f0), .int .i64 ((rd_T122 ((rd_T119 l0 x6_1).f4) x10_4).f1), .int .i64 ((rd_T122 ((rd_T119 l0 x6_1).f4) x10_4).f2)], .int .i64 a1] (by rfl) rfl rfl z2_2 ?_
                     with_reducible refine (spec_l11Message.calls ((rd_T122 ((rd_T119 l0 x6_1).f4) x10_4).f0) ((rd_T122 ((rd_T119 l0 x6_1).f4) x10_4).f1) ((rd_T122 ((rd_T119 l0 x6_1).f4) x10_4).f2) a1 true _ A37.out).mono ?_
                     rintro e w53 ⟨rfl, hb⟩
                     refine ⟨_, rfl, ?_⟩
                     have n0_ := Aside0.mk (Kd.R_below z2_4 hb)
                     have n1_ := Aside0.mk (blk_below (g := gb129) (o := .cells #[.int .i64 ((rd_T119 l0 x6_1).f0), .slice A128_1 ((rd_T119 l0 x6_1).f1).length c128_1, .slice A128_2 ((rd_T119 l0 x6_1).f2).length c128_2, .slice A128_3 ((rd_T119 l0 x6_1).f3).length c128_3, .slice (some ad137) ((rd_T119 l0 x6_1).f4).length c128_4] 119 (0, 0)) z2_3 hb)
                     have n2_ := Aside0.mk (below_step z2_0 hb)
                     clear HO_8
                     clear BK129
                     clear HB
                     have HO_8 := n0_
                     have BK129 := n1_
                     have HB := n2_
                     clear n0_ n1_ n2_
                     (try clear hb)
                     (try clear hb2)
                     (try clear hk)
                     (try clear hi)
                     refine hK.out _ _ ⟨(blk_cell BK129.out 0).trans rfl, (blk_cell BK129.out 1).trans rfl, (blk_cell BK129.out 2).trans rfl, (blk_cell BK129.out 3).trans rfl, (blk_cell BK129.out 4).trans rfl, ((HB.out.cell (World.block_lt_of_cell? w _ hw137_0)).trans hw137_0), ((HB.out.cell (World.block_lt_of_cell? w _ hw137_1)).trans hw137_1), ((HB.out.cell (World.block_lt_of_cell? w _ hw137_2)).trans hw137_2), ((HB.out.cell (World.block_lt_of_cell? w _ hw139_0)).trans hw139_0), ((HB.out.cell (World.block_lt_of_cell? w _ hw139_1)).trans hw139_1), ((HB.out.cell (World.block_lt_of_cell? w _ hw139_2)).trans hw139_2), ((HB.out.cell (World.block_lt_of_cell? w _ hw141_0)).trans hw141_0), ((HB.out.cell (World.block_lt_of_cell? w _ hw141_1)).trans hw141_1), ((HB.out.cell (World.block_lt_of_cell? w _ hw141_2)).trans hw141_2), ((HB.out.cell (World.block_lt_of_cell? w _ hw142_0)).trans hw142_0), ((HB.out.cell (World.block_lt_of_cell? w _ hw142_1)).trans hw142_1), ((HB.out.cell (World.block_lt_of_cell? w _ hw142_2)).trans hw142_2)⟩ (fun hHeld => ?_)
                     clear hK K
                     refine norm_ (a' := ?_) ?_ ?_
                     rotate_left
                     ·show Act.put _ (some 92) _ = _
                      simp only [Act.put, List.setIfInBounds_toArray, List.set_cons_zero, List.set_cons_succ, i64_w, i32_w]
                      rfl
                     refine pure_ (i := 7) (N := some 93) (v := ?_) (a' := ?_) (bm 37 255) rfl rfl (any_of HT_.out (by kernel_rfl)) (fun _ _ _ h => h) (Or.inl ⟨by rfl, ?_⟩) ?_ ?_
                     rotate_left
                     ·intro w'
                      go_simp
                      with_reducible rfl
                     rotate_left
                     ·simp only [Act.put, List.setIfInBounds_toArray, List.set_cons_zero, List.set_cons_succ, i64_w, i32_w]
                      rfl
                     refine pure_ (i := 8) (N := some 94) (v := ?_) (a' := ?_) (bm 37 511) rfl rfl (any_of HT_.out (by kernel_rfl)) (fun _ _ _ h => h) (Or.inl ⟨by rfl, ?_⟩) ?_ ?_
                     rotate_left
                     ·intro w'
                      go_simp
                      with_reducible rfl
                     rotate_left
                     ·simp only [Act.put, List.setIfInBounds_toArray, List.set_cons_zero, List.set_cons_succ, i64_w, i32_w]
                      rfl
                     refine pure_ (i := 9) (N := some 95) (v := ?_) (a' := ?_) (bm 37 1023) rfl rfl (any_of HT_.out (by kernel_rfl)) (fun _ _ _ h => h) (Or.inl ⟨by rfl, ?_⟩) ?_ ?_
                     rotate_left
                     ·intro w'
                      go_simp
                      with_reducible rfl
                     rotate_left
                     ·simp only [Act.put, List.setIfInBounds_toArray, List.set_cons_zero, List.set_cons_succ, i64_w, i32_w]
                      rfl
                     refine pure_ (i := 10) (N := some 96) (v := ?_) (a' := ?_) (bm 37 2047) rfl rfl (any_of HT_.out (by kernel_rfl)) (fun _ _ _ h => h) (Or.inl ⟨by rfl, ?_⟩) ?_ ?_
                     rotate_left
                     ·intro w'
                      go_simp
                      with_reducible rfl
                     rotate_left
                     ·simp only [Act.put, List.setIfInBounds_toArray, List.set_cons_zero, List.set_cons_succ, i64_w, i32_w]
                      rfl
                     refine pure_ (i := 12) (N := some 98) (v := ?_) (a' := ?_) (bm 37 6143) rfl rfl (any_of HT_.out (by kernel_rfl)) (fun _ _ _ h => h) (Or.inl ⟨by rfl, ?_⟩) ?_ ?_
                     rotate_left
                     ·intro w'
                      go_simp
                      with_reducible rfl
                     rotate_left
                     ·simp only [Act.put, List.setIfInBounds_toArray, List.set_cons_zero, List.set_cons_succ, i64_w, i32_w]
                      rfl
                     refine take_ (i := 11) (N := some 97) (v := ?_) (a' := ?_) (bm 37 8191) rfl rfl (take_ofW HT_.out HW_.out (by kernel_rfl)) (fun _ _ _ h => h) (Or.inl ⟨by rfl, ?_⟩) hHeld ?_ ?_
                     rotate_left
                     ·rintro w' ⟨s0, s1, s2, s3, s4, s5, s6, s7, s8, s9, s10, s11, s12, s13, s14, s15, s16⟩
                      go_simp
                      with_reducible rfl
                     rotate_left
                     ·simp only [Act.put, List.setIfInBounds_toArray, List.set_cons_zero, List.set_cons_succ, i64_w, i32_w]
                      rfl
                     refine pure_ (i := 13) (N := some 99) (v := ?_) (a' := ?_) (bm 37 16383) rfl rfl (any_of HT_.out (by kernel_rfl)) (fun _ _ _ h => h) (Or.inl ⟨by rfl, ?_⟩) ?_ ?_
                     rotate_left
                     ·intro w'
                      go_simp
                      with_reducible rfl
                     rotate_left
                     ·simp only [Act.put, List.setIfInBounds_toArray, List.set_cons_zero, List.set_cons_succ, i64_w, i32_w]
                      rfl
                     refine pure_ (i := 14) (N := some 100) (v := ?_) (a' := ?_) (bm 37 32767) rfl rfl (any_of HT_.out (by kernel_rfl)) (fun _ _ _ h => h) (Or.inl ⟨by rfl, ?_⟩) ?_ ?_
                     rotate_left
                     ·intro w'
                      go_simp
                      with_reducible rfl
                     rotate_left
                     ·simp only [Act.put, List.setIfInBounds_toArray, List.set_cons_zero, List.set_cons_succ, i64_w, i32_w]
                      rfl
                     refine take_ (i := 15) (N := some 101) (v := ?_) (a' := ?_) (bm 37 65535) rfl rfl (take_ofW HT_.out HW_.out (by kernel_rfl)) (fun _ _ _ h => h) (Or.inl ⟨by rfl, ?_⟩) hHeld ?_ ?_
                     rotate_left
                     ·rintro w' ⟨s0, s1, s2, s3, s4, s5, s6, s7, s8, s9, s10, s11, s12, s13, s14, s15, s16⟩
                      go_simp
                      with_reducible rfl
                     rotate_left
                     ·simp only [Act.put, List.setIfInBounds_toArray, List.set_cons_zero, List.set_cons_succ, i64_w, i32_w]
                      rfl
                     refine one_ (i := 16) (N := some 102) (bm 37 131071) rfl rfl (one_of HT_.out (by kernel_rfl)) (by decide) (fun K hK => ?_)
                     refine goes_ Try.func100 (by kernel_rfl) rfl #[.slice Ao34 t130.length co34, .int .i64 ((rd_T122 ((rd_T119 l0 x6_1).f4) x10_4).f0)] (by rfl) rfl rfl z2_2 ?_
                     with_reducible refine (spec_l7Has.calls k4 _ _ t130 ((rd_T122 ((rd_T119 l0 x6_1).f4) x10_4).f0) true _ ?side1 ?side2 A39.out).mono ?_
                     (case side1 => repeat (first | exact (Kd.R_reads' HO_8.out).2.2 | (with_reducible refine Kd.C_alloc ?_ _) | (with_reducible refine Kd.C_drewN ?_ _) | (with_reducible refine Kd.C_drew ?_)))
                     (case side2 => exact (Kd.R_reads' HO_8.out).2.1)
                     rintro e w' ⟨rfl, ⟨nd, rfl⟩⟩
                     refine ⟨_, rfl, ?_⟩
                     refine hK.out _ _ ⟨(blk_cell BK129.out 0).trans rfl, (blk_cell BK129.out 1).trans rfl, (blk_cell BK129.out 2).trans rfl, (blk_cell BK129.out 3).trans rfl, (blk_cell BK129.out 4).trans rfl, ((HB.out.cell (World.block_lt_of_cell? w _ hw137_0)).trans hw137_0), ((HB.out.cell (World.block_lt_of_cell? w _ hw137_1)).trans hw137_1), ((HB.out.cell (World.block_lt_of_cell? w _ hw137_2)).trans hw137_2), ((HB.out.cell (World.block_lt_of_cell? w _ hw139_0)).trans hw139_0), ((HB.out.cell (World.block_lt_of_cell? w _ hw139_1)).trans hw139_1), ((HB.out.cell (World.block_lt_of_cell? w _ hw139_2)).trans hw139_2), ((HB.out.cell (World.block_lt_of_cell? w _ hw141_0)).trans hw141_0), ((HB.out.cell (World.block_lt_of_cell? w _ hw141_1)).trans hw141_1), ((HB.out.cell (World.block_lt_of_cell? w _ hw141_2)).trans hw141_2), ((HB.out.cell (World.block_lt_of_cell? w _ hw142_0)).trans hw142_0), ((HB.out.cell (World.block_lt_of_cell? w _ hw142_1)).trans hw142_1), ((HB.out.cell (World.block_lt_of_cell? w _ hw142_2)).trans hw142_2)⟩ (fun hHeld => ?_)
                     clear hK K
                     refine norm_ (a' := ?_) ?_ ?_
                     rotate_left
                     ·show Act.put _ (some 102) _ = _
                      simp only [Act.put, List.setIfInBounds_toArray, List.set_cons_zero, List.set_cons_succ, i64_w, i32_w]
                      rfl
                     refine pure_ (i := 17) (N := some 103) (v := ?_) (a' := ?_) (bm 37 262143) rfl rfl (any_of HT_.out (by kernel_rfl)) (fun _ _ _ h => h) (Or.inl ⟨by rfl, ?_⟩) ?_ ?_
                     rotate_left
                     ·intro w'
                      go_simp
                      with_reducible rfl
                     rotate_left
                     ·simp only [Act.put, List.setIfInBounds_toArray, List.set_cons_zero, List.set_cons_succ, i64_w, i32_w]
                      rfl
                     refine pure_ (i := 18) (N := some 104) (v := ?_) (a' := ?_) (bm 37 524287) rfl rfl (any_of HT_.out (by kernel_rfl)) (fun _ _ _ h => h) (Or.inl ⟨by rfl, ?_⟩) ?_ ?_
                     rotate_left
                     ·intro w'
                      go_simp
                      with_reducible rfl
                     rotate_left
                     ·simp only [Act.put, List.setIfInBounds_toArray, List.set_cons_zero, List.set_cons_succ, i64_w, i32_w]
                      rfl
                     refine pure_ (i := 19) (N := some 105) (v := ?_) (a' := ?_) (bm 37 1048575) rfl rfl (any_of HT_.out (by kernel_rfl)) (fun _ _ _ h => h) (Or.inl ⟨by rfl, ?_⟩) ?_ ?_
                     rotate_left
                     ·intro w'
                      go_simp
                      with_reducible rfl
                     rotate_left
                     ·simp only [Act.put, List.setIfInBounds_toArray, List.set_cons_zero, List.set_cons_succ, i64_w, i32_w]
                      rfl
                     refine pure_ (i := 20) (N := some 106) (v := ?_) (a' := ?_) (bm 37 2097151) rfl rfl (any_of HT_.out (by kernel_rfl)) (fun _ _ _ h => h) (Or.inl ⟨by rfl, ?_⟩) ?_ ?_
                     rotate_left
                     ·intro w'
                      go_simp
                      with_reducible rfl
                     rotate_left
                     ·simp only [Act.put, List.setIfInBounds_toArray, List.set_cons_zero, List.set_cons_succ, i64_w, i32_w]
                      rfl
                     refine pure_ (i := 21) (N := some 107) (v := ?_) (a' := ?_) (bm 37 4194303) rfl rfl (any_of HT_.out (by kernel_rfl)) (fun _ _ _ h => h) (Or.inl ⟨by rfl, ?_⟩) ?_ ?_
                     rotate_left
                     ·intro w'
                      go_simp
                      with_reducible rfl
                     rotate_left
                     ·simp only [Act.put, List.setIfInBounds_toArray, List.set_cons_zero, List.set_cons_succ, i64_w, i32_w]
                      rfl
                     refine pure_ (i := 22) (N := some 108) (v := ?_) (a' := ?_) (bm 37 8388607) rfl rfl (any_of HT_.out (by kernel_rfl)) (fun _ _ _ h => h) (Or.inl ⟨by rfl, ?_⟩) ?_ ?_
                     rotate_left
                     ·intro w'
                      go_simp
                      with_reducible rfl
                     rotate_left
                     ·simp only [Act.put, List.setIfInBounds_toArray, List.set_cons_zero, List.set_cons_succ, i64_w, i32_w]
                      rfl
                     refine pure_ (i := 23) (N := some 109) (v := ?_) (a' := ?_) (bm 37 16777215) rfl rfl (any_of HT_.out (by kernel_rfl)) (fun _ _ _ h => h) (Or.inl ⟨by rfl, ?_⟩) ?_ ?_
                     rotate_left
                     ·intro w'
                      go_simp
                      with_reducible rfl
                     rotate_left
                     ·simp only [Act.put, List.setIfInBounds_toArray, List.set_cons_zero, List.set_cons_succ, i64_w, i32_w]
                      rfl
                     refine pure_ (i := 25) (N := some 111) (v := ?_) (a' := ?_) (bm 37 50331647) rfl rfl (any_of HT_.out (by kernel_rfl)) (fun _ _ _ h => h) (Or.inl ⟨by rfl, ?_⟩) ?_ ?_
                     rotate_left
                     ·intro w'
                      go_simp
                      with_reducible rfl
                     rotate_left
                     ·simp only [Act.put, List.setIfInBounds_toArray, List.set_cons_zero, List.set_cons_succ, i64_w, i32_w]
                      rfl
                     refine pure_ (i := 28) (N := some 114) (v := ?_) (a' := ?_) (bm 37 318767103) rfl rfl (any_of HT_.out (by kernel_rfl)) (fun _ _ _ h => h) (Or.inl ⟨by rfl, ?_⟩) ?_ ?_
                     rotate_left
                     ·intro w'
                      go_simp
                      with_reducible rfl
                     rotate_left
                     ·simp only [Act.put, List.setIfInBounds_toArray, List.set_cons_zero, List.set_cons_succ, i64_w, i32_w]
                      rfl
                     refine pure_ (i := 30) (N := some 116) (v := ?_) (a' := ?_) (bm 37 1392508927) rfl rfl (any_of HT_.out (by kernel_rfl)) (fun _ _ _ h => h) (Or.inl ⟨by rfl, ?_⟩) ?_ ?_
                     rotate_left
                     ·intro w'
                      go_simp
                      with_reducible rfl
                     rotate_left
                     ·simp only [Act.put, List.setIfInBounds_toArray, List.set_cons_zero, List.set_cons_succ, i64_w, i32_w]
                      rfl
                     refine pure_ (i := 31) (N := some 117) (v := ?_) (a' := ?_) (bm 37 3539992575) rfl rfl (any_of HT_.out (by kernel_rfl)) (fun _ _ _ h => h) (Or.inl ⟨by rfl, ?_⟩) ?_ ?_
                     rotate_left
                     ·intro w'
                      go_simp
                      with_reducible rfl
                     rotate_left
                     ·simp only [Act.put, List.setIfInBounds_toArray, List.set_cons_zero, List.set_cons_succ, i64_w, i32_w]
                      rfl
                     refine take_ (i := 24) (N := some 110) (v := ?_) (a' := ?_) (bm 37 3556769791) rfl rfl (take_ofW HT_.out HW_.out (by kernel_rfl)) (fun _ _ _ h => h) (Or.inl ⟨by rfl, ?_⟩) hHeld ?_ ?_
                     rotate_left
                     ·rintro w' ⟨s0, s1, s2, s3, s4, s5, s6, s7, s8, s9, s10, s11, s12, s13, s14, s15, s16⟩
                      go_simp
                      with_reducible rfl
                     rotate_left
                     ·simp only [Act.put, List.setIfInBounds_toArray, List.set_cons_zero, List.set_cons_succ, i64_w, i32_w]
                      rfl
                     refine pure_ (i := 26) (N := some 112) (v := ?_) (a' := ?_) (bm 37 3623878655) rfl rfl (any_of HT_.out (by kernel_rfl)) (fun _ _ _ h => h) (Or.inl ⟨by rfl, ?_⟩) ?_ ?_
                     rotate_left
                     ·intro w'
                      go_simp
                      with_reducible rfl
                     rotate_left
                     ·simp only [Act.put, List.setIfInBounds_toArray, List.set_cons_zero, List.set_cons_succ, i64_w, i32_w]
                      rfl
                     refine take_ (i := 27) (N := some 113) (v := ?_) (a' := ?_) (bm 37 3758096383) rfl rfl (take_ofW HT_.out HW_.out (by kernel_rfl)) (fun _ _ _ h => h) (Or.inl ⟨by rfl, ?_⟩) hHeld ?_ ?_
                     rotate_left
                     ·rintro w' ⟨s0, s1, s2, s3, s4, s5, s6, s7, s8, s9, s10, s11, s12, s13, s14, s15, s16⟩
                      go_simp
                      with_reducible rfl
                     rotate_left
                     ·simp only [Act.put, List.setIfInBounds_toArray, List.set_cons_zero, List.set_cons_succ, i64_w, i32_w]
                      rfl
                     refine take_ (i := 29) (N := some 115) (v := ?_) (a' := ?_) (bm 37 4294967295) rfl rfl (take_ofW HT_.out HW_.out (by kernel_rfl)) (fun _ _ _ h => h) (Or.inl ⟨by rfl, ?_⟩) hHeld ?_ ?_
                     rotate_left
                     ·rintro w' ⟨s0, s1, s2, s3, s4, s5, s6, s7, s8, s9, s10, s11, s12, s13, s14, s15, s16⟩
                      go_simp
                      with_reducible rfl
                     rotate_left
                     ·simp only [Act.put, List.setIfInBounds_toArray, List.set_cons_zero, List.set_cons_succ, i64_w, i32_w]
                      rfl
                     refine pure_ (i := 32) (N := some 118) (v := ?_) (a' := ?_) (bm 37 8589934591) rfl rfl (any_of HT_.out (by kernel_rfl)) (fun _ _ _ h => h) (Or.inl ⟨by rfl, ?_⟩) ?_ ?_
                     rotate_left
                     ·intro w'
                      go_simp
                      with_reducible rfl
                     rotate_left
                     ·simp only [Act.put, List.setIfInBounds_toArray, List.set_cons_zero, List.set_cons_succ, i64_w, i32_w]
                      rfl
                     refine take_ (i := 33) (N := some 119) (v := ?_) (a' := ?_) (bm 37 17179869183) rfl rfl (take_ofW HT_.out HW_.out (by kernel_rfl)) (fun _ _ _ h => h) (Or.inl ⟨by rfl, ?_⟩) hHeld ?_ ?_
                     rotate_left
                     ·rintro w' ⟨s0, s1, s2, s3, s4, s5, s6, s7, s8, s9, s10, s11, s12, s13, s14, s15, s16⟩
                      go_simp
                      with_reducible rfl
                     rotate_left
                     ·simp only [Act.put, List.setIfInBounds_toArray, List.set_cons_zero, List.set_cons_succ, i64_w, i32_w]
                      rfl
                     refine one_ (i := 34) (N := some 120) (bm 37 34359738367) rfl rfl (one_of HT_.out (by kernel_rfl)) (by decide) (fun K hK => ?_)
                     refine goes_ Try.func101 (by kernel_rfl) rfl #[.agg #[.int .i64 ((rd_T122 ((rd_T119 l0 x6_1).f4) x10_4).f0), .int .i64 ((rd_T122 ((rd_T119 l0 x6_1).f4) x10_4).f1), .int .i64 ((rd_T122 ((rd_T119 l0 x6_1).f4) x10_4).f2)], .agg #[.int .i64 ((rd_T122 ((rd_T119 l0 x6_1).f4) (ji42)).f0), .int .i64 ((rd_T122 ((rd_T119 l0 x6_1).f4) (ji42)).f1), .int .i64 ((rd_T122 ((rd_T119 l0 x6_1).f4) (ji42)).f2)]] (by rfl) rfl rfl z2_9 ?_
                     with_reducible refine (spec_l9Before.calls ((rd_T122 ((rd_T119 l0 x6_1).f4) x10_4).f0) ((rd_T122 ((rd_T119 l0 x6_1).f4) x10_4).f1) ((rd_T122 ((rd_T119 l0 x6_1).f4) x10_4).f2) ((rd_T122 ((rd_T119 l0 x6_1).f4) (ji42)).f0) ((rd_T122 ((rd_T119 l0 x6_1).f4) (ji42)).f1) ((rd_T122 ((rd_T119 l0 x6_1).f4) (ji42)).f2) false _ A45.out).mono ?_
                     rintro e w54 ⟨rfl, hb⟩
                     refine ⟨_, rfl, ?_⟩
                     have n0_ := Aside0.mk (Kd.R_below z2_4 hb)
                     have n1_ := Aside0.mk (blk_below (g := gb129) (o := .cells #[.int .i64 ((rd_T119 l0 x6_1).f0), .slice A128_1 ((rd_T119 l0 x6_1).f1).length c128_1, .slice A128_2 ((rd_T119 l0 x6_1).f2).length c128_2, .slice A128_3 ((rd_T119 l0 x6_1).f3).length c128_3, .slice (some ad137) ((rd_T119 l0 x6_1).f4).length c128_4] 119 (0, 0)) z2_3 hb)
                     have n2_ := Aside0.mk (below_step z2_0 hb)
                     clear HO_8
                     clear BK129
                     clear HB
                     have HO_8 := n0_
                     have BK129 := n1_
                     have HB := n2_
                     clear n0_ n1_ n2_
                     (try clear hb)
                     (try clear hb2)
                     (try clear hk)
                     (try clear hi)
                     refine hK.out _ _ ⟨(blk_cell BK129.out 0).trans rfl, (blk_cell BK129.out 1).trans rfl, (blk_cell BK129.out 2).trans rfl, (blk_cell BK129.out 3).trans rfl, (blk_cell BK129.out 4).trans rfl, ((HB.out.cell (World.block_lt_of_cell? w _ hw137_0)).trans hw137_0), ((HB.out.cell (World.block_lt_of_cell? w _ hw137_1)).trans hw137_1), ((HB.out.cell (World.block_lt_of_cell? w _ hw137_2)).trans hw137_2), ((HB.out.cell (World.block_lt_of_cell? w _ hw139_0)).trans hw139_0), ((HB.out.cell (World.block_lt_of_cell? w _ hw139_1)).trans hw139_1), ((HB.out.cell (World.block_lt_of_cell? w _ hw139_2)).trans hw139_2), ((HB.out.cell (World.block_lt_of_cell? w _ hw141_0)).trans hw141_0), ((HB.out.cell (World.block_lt_of_cell? w _ hw141_1)).trans hw141_1), ((HB.out.cell (World.block_lt_of_cell? w _ hw141_2)).trans hw141_2), ((HB.out.cell (World.block_lt_of_cell? w _ hw142_0)).trans hw142_0), ((HB.out.cell (World.block_lt_of_cell? w _ hw142_1)).trans hw142_1), ((HB.out.cell (World.block_lt_of_cell? w _ hw142_2)).trans hw142_2)⟩ (fun hHeld => ?_)
                     clear hK K
                     refine norm_ (a' := ?_) ?_ ?_
                     rotate_left
                     ·show Act.put _ (some 120) _ = _
                      simp only [Act.put, List.setIfInBounds_toArray, List.set_cons_zero, List.set_cons_succ, i64_w, i32_w]
                      rfl
                     refine pure_ (i := 35) (N := some 121) (v := ?_) (a' := ?_) (bm 37 68719476735) rfl rfl (any_of HT_.out (by kernel_rfl)) (fun _ _ _ h => h) (Or.inl ⟨by rfl, ?_⟩) ?_ ?_
                     rotate_left
                     ·intro w'
                      go_simp
                      with_reducible rfl
                     rotate_left
                     ·simp only [Act.put, List.setIfInBounds_toArray, List.set_cons_zero, List.set_cons_succ, i64_w, i32_w]
                      rfl
                     refine pure_ (i := 36) (N := some 122) (v := ?_) (a' := ?_) (bm 37 137438953471) rfl rfl (any_of HT_.out (by kernel_rfl)) (fun _ _ _ h => h) (Or.inl ⟨by rfl, ?_⟩) ?_ ?_
                     rotate_left
                     ·intro w'
                      go_simp
                      with_reducible rfl
                     rotate_left
                     ·simp only [Act.put, List.setIfInBounds_toArray, List.set_cons_zero, List.set_cons_succ, i64_w, i32_w]
                      rfl
                     refine done_ (done_of HT_.out (by kernel_rfl)) ?_
                     try go_wp2
                     go_roundg k4
                     case measure => have := HK1.out; have := HJ5.out; have := HK3.out; have := HK4.out; omega
                     case rel => exact ⟨(wrap64 (x10_4 + 1)), z2_7, H', ⟨z2_11⟩, ⟨z2_4⟩, ⟨z2_3⟩, ⟨z2_0⟩⟩
                   ·rw [if_neg c44] at H
                    exact absurd H (by simp)
                  ·rw [if_neg c43] at H
                   exact absurd H (by simp)
                 ·rw [if_neg c41] at H
                  have c41b0 : decide (0 < x10_4) = false := decide_eq_false c41
                  clear c41
                  have H' := Aside0.mk H
                  clear H
                  have hcz55_0 : wr.cell? ⟨gb129, 0, none⟩ = some (.int .i64 ((rd_T119 l0 x6_1).f0)) := (blk_cell BK129.out 0).trans rfl
                  have hcz55_1 : wr.cell? ⟨gb129, 1, none⟩ = some (.slice A128_1 ((rd_T119 l0 x6_1).f1).length c128_1) := (blk_cell BK129.out 1).trans rfl
                  have hcz55_2 : wr.cell? ⟨gb129, 2, none⟩ = some (.slice A128_2 ((rd_T119 l0 x6_1).f2).length c128_2) := (blk_cell BK129.out 2).trans rfl
                  have hcz55_3 : wr.cell? ⟨gb129, 3, none⟩ = some (.slice A128_3 ((rd_T119 l0 x6_1).f3).length c128_3) := (blk_cell BK129.out 3).trans rfl
                  have hcz55_4 : wr.cell? ⟨gb129, 4, none⟩ = some (.slice A128_4 ((rd_T119 l0 x6_1).f4).length c128_4) := (blk_cell BK129.out 4).trans rfl
                  have hfz55_0 := blk_frozen BK129.out 0
                  have hfz55_1 := blk_frozen BK129.out 1
                  have hfz55_2 := blk_frozen BK129.out 2
                  have hfz55_3 := blk_frozen BK129.out 3
                  have hfz55_4 := blk_frozen BK129.out 4
                  try go_wp2
                  have n0_ := Aside0.mk (Kd.R_drew HO_8.out)
                  have n1_ := Aside0.mk (blk_drew BK129.out)
                  have n2_ := Aside0.mk (below_drew1 HB.out)
                  clear HO_8
                  clear BK129
                  clear HB
                  have HO_8 := n0_
                  have BK129 := n1_
                  have HB := n2_
                  clear n0_ n1_ n2_
                  have p137 : 0 ≤ (x10_4 : Int) := of_decide_eq_true z2_1
                  have q137 : x10_4 < (((rd_T119 l0 x6_1).f4).length : Int) := of_decide_eq_true z2_1
                  obtain ⟨ad137, e137, hx137_0, hx137_1, hx137_2⟩ := at_T122 HR128_4.out x10_4 p137 q137
                  have hw137_2 := hx137_2
                  have hw137_1 := hx137_1
                  have hw137_0 := hx137_0
                  cases e137
                  replace hx137_0 := (HB.out.cell (World.block_lt_of_cell? w _ hx137_0)).trans hx137_0
                  replace hx137_1 := (HB.out.cell (World.block_lt_of_cell? w _ hx137_1)).trans hx137_1
                  replace hx137_2 := (HB.out.cell (World.block_lt_of_cell? w _ hx137_2)).trans hx137_2
                  replace p137 := eq_true p137
                  replace q137 := eq_true q137
                  have p139 : 0 ≤ (x10_4 : Int) := of_decide_eq_true z2_1
                  have q139 : x10_4 < (((rd_T119 l0 x6_1).f4).length : Int) := of_decide_eq_true z2_1
                  obtain ⟨ad139, e139, hx139_0, hx139_1, hx139_2⟩ := at_T122 HR128_4.out x10_4 p139 q139
                  have hw139_2 := hx139_2
                  have hw139_1 := hx139_1
                  have hw139_0 := hx139_0
                  obtain rfl : ad137 = ad139 := (by injection e139)
                  replace hx139_0 := (HB.out.cell (World.block_lt_of_cell? w _ hx139_0)).trans hx139_0
                  replace hx139_1 := (HB.out.cell (World.block_lt_of_cell? w _ hx139_1)).trans hx139_1
                  replace hx139_2 := (HB.out.cell (World.block_lt_of_cell? w _ hx139_2)).trans hx139_2
                  replace p139 := eq_true p139
                  replace q139 := eq_true q139
                  refine start_ (n := 37) (S := fun w' => w'.cell? ⟨gb129, 0, none⟩ = some (.int .i64 ((rd_T119 l0 x6_1).f0)) ∧ w'.cell? ⟨gb129, 1, none⟩ = some (.slice A128_1 ((rd_T119 l0 x6_1).f1).length c128_1) ∧ w'.cell? ⟨gb129, 2, none⟩ = some (.slice A128_2 ((rd_T119 l0 x6_1).f2).length c128_2) ∧ w'.cell? ⟨gb129, 3, none⟩ = some (.slice A128_3 ((rd_T119 l0 x6_1).f3).length c128_3) ∧ w'.cell? ⟨gb129, 4, none⟩ = some (.slice (some ad137) ((rd_T119 l0 x6_1).f4).length c128_4) ∧ w'.cell? (ad137.add ((x10_4).toNat * 3)) = some (.int .i64 ((rd_T122 ((rd_T119 l0 x6_1).f4) x10_4).f0)) ∧ w'.cell? ⟨(ad137.add ((x10_4).toNat * 3)).block, (ad137.add ((x10_4).toNat * 3)).off + 1, none⟩ = some (.int .i64 ((rd_T122 ((rd_T119 l0 x6_1).f4) x10_4).f1)) ∧ w'.cell? ⟨(ad137.add ((x10_4).toNat * 3)).block, (ad137.add ((x10_4).toNat * 3)).off + 2, none⟩ = some (.int .i64 ((rd_T122 ((rd_T119 l0 x6_1).f4) x10_4).f2)) ∧ w'.cell? (ad137.add ((x10_4).toNat * 3)) = some (.int .i64 ((rd_T122 ((rd_T119 l0 x6_1).f4) x10_4).f0)) ∧ w'.cell? ⟨(ad137.add ((x10_4).toNat * 3)).block, (ad137.add ((x10_4).toNat * 3)).off + 1, none⟩ = some (.int .i64 ((rd_T122 ((rd_T119 l0 x6_1).f4) x10_4).f1)) ∧ w'.cell? ⟨(ad137.add ((x10_4).toNat * 3)).block, (ad137.add ((x10_4).toNat * 3)).off + 2, none⟩ = some (.int .i64 ((rd_T122 ((rd_T119 l0 x6_1).f4) x10_4).f2))) (ds := []) (bm 37 0) (by kernel_rfl) rfl rfl ⟨(blk_cell BK129.out 0).trans rfl, (blk_cell BK129.out 1).trans rfl, (blk_cell BK129.out 2).trans rfl, (blk_cell BK129.out 3).trans rfl, (blk_cell BK129.out 4).trans rfl, ((HB.out.cell (World.block_lt_of_cell? w _ hw137_0)).trans hw137_0), ((HB.out.cell (World.block_lt_of_cell? w _ hw137_1)).trans hw137_1), ((HB.out.cell (World.block_lt_of_cell? w _ hw137_2)).trans hw137_2), ((HB.out.cell (World.block_lt_of_cell? w _ hw139_0)).trans hw139_0), ((HB.out.cell (World.block_lt_of_cell? w _ hw139_1)).trans hw139_1), ((HB.out.cell (World.block_lt_of_cell? w _ hw139_2)).trans hw139_2)⟩ (fun hHeld => ?_); refine with_tabW spec_PiecesValid.tab17 spec_PiecesValid.bits17 (fun HT_ HW_ => ?_)
                  generalize wr.drew = w56 at HO_8 BK129 HB hx137_0 hx137_1 hx137_2 hx139_0 hx139_1 hx139_2 hHeld ⊢
                  refine pure_ (i := 0) (N := some 86) (v := ?_) (a' := ?_) (bm 37 1) rfl rfl (any_of HT_.out (by kernel_rfl)) (fun _ _ _ h => h) (Or.inl ⟨by rfl, ?_⟩) ?_ ?_
                  rotate_left
                  ·intro w'
                   go_simp
                   with_reducible rfl
                  rotate_left
                  ·simp only [Act.put, List.setIfInBounds_toArray, List.set_cons_zero, List.set_cons_succ, i64_w, i32_w]
                   rfl
                  refine pure_ (i := 2) (N := some 88) (v := ?_) (a' := ?_) (bm 37 5) rfl rfl (any_of HT_.out (by kernel_rfl)) (fun _ _ _ h => h) (Or.inl ⟨by rfl, ?_⟩) ?_ ?_
                  rotate_left
                  ·intro w'
                   go_simp
                   with_reducible rfl
                  rotate_left
                  ·simp only [Act.put, List.setIfInBounds_toArray, List.set_cons_zero, List.set_cons_succ, i64_w, i32_w]
                   rfl
                  refine pure_ (i := 5) (N := some 91) (v := ?_) (a' := ?_) (bm 37 37) rfl rfl (any_of HT_.out (by kernel_rfl)) (fun _ _ _ h => h) (Or.inl ⟨by rfl, ?_⟩) ?_ ?_
                  rotate_left
                  ·intro w'
                   go_simp
                   with_reducible rfl
                  rotate_left
                  ·simp only [Act.put, List.setIfInBounds_toArray, List.set_cons_zero, List.set_cons_succ, i64_w, i32_w]
                   rfl
                  refine take_ (i := 1) (N := some 87) (v := ?_) (a' := ?_) (bm 37 39) rfl rfl (take_ofW HT_.out HW_.out (by kernel_rfl)) (fun _ _ _ h => h) (Or.inl ⟨by rfl, ?_⟩) hHeld ?_ ?_
                  rotate_left
                  ·rintro w' ⟨s0, s1, s2, s3, s4, s5, s6, s7, s8, s9, s10⟩
                   go_simp
                   with_reducible rfl
                  rotate_left
                  ·simp only [Act.put, List.setIfInBounds_toArray, List.set_cons_zero, List.set_cons_succ, i64_w, i32_w]
                   rfl
                  refine pure_ (i := 3) (N := some 89) (v := ?_) (a' := ?_) (bm 37 47) rfl rfl (any_of HT_.out (by kernel_rfl)) (fun _ _ _ h => h) (Or.inl ⟨by rfl, ?_⟩) ?_ ?_
                  rotate_left
                  ·intro w'
                   go_simp
                   with_reducible rfl
                  rotate_left
                  ·simp only [Act.put, List.setIfInBounds_toArray, List.set_cons_zero, List.set_cons_succ, i64_w, i32_w]
                   rfl
                  refine take_ (i := 4) (N := some 90) (v := ?_) (a' := ?_) (bm 37 63) rfl rfl (take_ofW HT_.out HW_.out (by kernel_rfl)) (fun _ _ _ h => h) (Or.inl ⟨by rfl, ?_⟩) hHeld ?_ ?_
                  rotate_left
                  ·rintro w' ⟨s0, s1, s2, s3, s4, s5, s6, s7, s8, s9, s10⟩
                   go_simp
                   with_reducible rfl
                  rotate_left
                  ·simp only [Act.put, List.setIfInBounds_toArray, List.set_cons_zero, List.set_cons_succ, i64_w, i32_w]
                   rfl
                  refine one_ (i := 6) (N := some 92) (bm 37 127) rfl rfl (one_of HT_.out (by kernel_rfl)) (by decide) (fun K hK => ?_)
                  refine goes_ Try.func99 (by kernel_rfl) rfl #[.agg #[.int .i64 ((rd_T122 ((rd_T119 l0 x6_1).f4) x10_4).f0), .int .i64 ((rd_T122 ((rd_T119 l0 x6_1).f4) x10_4).f1), .int .i64 ((rd_T122 ((rd_T119 l0 x6_1).f4) x10_4).f2)], .int .i64 a1] (by rfl) rfl rfl z2_2 ?_
                  with_reducible refine (spec_l11Message.calls ((rd_T122 ((rd_T119 l0 x6_1).f4) x10_4).f0) ((rd_T122 ((rd_T119 l0 x6_1).f4) x10_4).f1) ((rd_T122 ((rd_T119 l0 x6_1).f4) x10_4).f2) a1 true _ A37.out).mono ?_
                  rintro e w57 ⟨rfl, hb⟩
                  refine ⟨_, rfl, ?_⟩
                  have n0_ := Aside0.mk (Kd.R_below z2_4 hb)
                  have n1_ := Aside0.mk (blk_below (g := gb129) (o := .cells #[.int .i64 ((rd_T119 l0 x6_1).f0), .slice A128_1 ((rd_T119 l0 x6_1).f1).length c128_1, .slice A128_2 ((rd_T119 l0 x6_1).f2).length c128_2, .slice A128_3 ((rd_T119 l0 x6_1).f3).length c128_3, .slice (some ad137) ((rd_T119 l0 x6_1).f4).length c128_4] 119 (0, 0)) z2_3 hb)
                  have n2_ := Aside0.mk (below_step z2_0 hb)
                  clear HO_8
                  clear BK129
                  clear HB
                  have HO_8 := n0_
                  have BK129 := n1_
                  have HB := n2_
                  clear n0_ n1_ n2_
                  (try clear hb)
                  (try clear hb2)
                  (try clear hk)
                  (try clear hi)
                  refine hK.out _ _ ⟨(blk_cell BK129.out 0).trans rfl, (blk_cell BK129.out 1).trans rfl, (blk_cell BK129.out 2).trans rfl, (blk_cell BK129.out 3).trans rfl, (blk_cell BK129.out 4).trans rfl, ((HB.out.cell (World.block_lt_of_cell? w _ hw137_0)).trans hw137_0), ((HB.out.cell (World.block_lt_of_cell? w _ hw137_1)).trans hw137_1), ((HB.out.cell (World.block_lt_of_cell? w _ hw137_2)).trans hw137_2), ((HB.out.cell (World.block_lt_of_cell? w _ hw139_0)).trans hw139_0), ((HB.out.cell (World.block_lt_of_cell? w _ hw139_1)).trans hw139_1), ((HB.out.cell (World.block_lt_of_cell? w _ hw139_2)).trans hw139_2)⟩ (fun hHeld => ?_)
                  clear hK K
                  refine norm_ (a' := ?_) ?_ ?_
                  rotate_left
                  ·show Act.put _ (some 92) _ = _
                   simp only [Act.put, List.setIfInBounds_toArray, List.set_cons_zero, List.set_cons_succ, i64_w, i32_w]
                   rfl
                  refine pure_ (i := 7) (N := some 93) (v := ?_) (a' := ?_) (bm 37 255) rfl rfl (any_of HT_.out (by kernel_rfl)) (fun _ _ _ h => h) (Or.inl ⟨by rfl, ?_⟩) ?_ ?_
                  rotate_left
                  ·intro w'
                   go_simp
                   with_reducible rfl
                  rotate_left
                  ·simp only [Act.put, List.setIfInBounds_toArray, List.set_cons_zero, List.set_cons_succ, i64_w, i32_w]
                   rfl
                  refine pure_ (i := 8) (N := some 94) (v := ?_) (a' := ?_) (bm 37 511) rfl rfl (any_of HT_.out (by kernel_rfl)) (fun _ _ _ h => h) (Or.inl ⟨by rfl, ?_⟩) ?_ ?_
                  rotate_left
                  ·intro w'
                   go_simp
                   with_reducible rfl
                  rotate_left
                  ·simp only [Act.put, List.setIfInBounds_toArray, List.set_cons_zero, List.set_cons_succ, i64_w, i32_w]
                   rfl
                  refine pure_ (i := 9) (N := some 95) (v := ?_) (a' := ?_) (bm 37 1023) rfl rfl (any_of HT_.out (by kernel_rfl)) (fun _ _ _ h => h) (Or.inl ⟨by rfl, ?_⟩) ?_ ?_
                  rotate_left
                  ·intro w'
                   go_simp
                   with_reducible rfl
                  rotate_left
                  ·simp only [Act.put, List.setIfInBounds_toArray, List.set_cons_zero, List.set_cons_succ, i64_w, i32_w]
                   rfl
                  refine pure_ (i := 10) (N := some 96) (v := ?_) (a' := ?_) (bm 37 2047) rfl rfl (any_of HT_.out (by kernel_rfl)) (fun _ _ _ h => h) (Or.inl ⟨by rfl, ?_⟩) ?_ ?_
                  rotate_left
                  ·intro w'
                   go_simp
                   with_reducible rfl
                  rotate_left
                  ·simp only [Act.put, List.setIfInBounds_toArray, List.set_cons_zero, List.set_cons_succ, i64_w, i32_w]
                   rfl
                  refine pure_ (i := 12) (N := some 98) (v := ?_) (a' := ?_) (bm 37 6143) rfl rfl (any_of HT_.out (by kernel_rfl)) (fun _ _ _ h => h) (Or.inl ⟨by rfl, ?_⟩) ?_ ?_
                  rotate_left
                  ·intro w'
                   go_simp
                   with_reducible rfl
                  rotate_left
                  ·simp only [Act.put, List.setIfInBounds_toArray, List.set_cons_zero, List.set_cons_succ, i64_w, i32_w]
                   rfl
                  refine take_ (i := 11) (N := some 97) (v := ?_) (a' := ?_) (bm 37 8191) rfl rfl (take_ofW HT_.out HW_.out (by kernel_rfl)) (fun _ _ _ h => h) (Or.inl ⟨by rfl, ?_⟩) hHeld ?_ ?_
                  rotate_left
                  ·rintro w' ⟨s0, s1, s2, s3, s4, s5, s6, s7, s8, s9, s10⟩
                   go_simp
                   with_reducible rfl
                  rotate_left
                  ·simp only [Act.put, List.setIfInBounds_toArray, List.set_cons_zero, List.set_cons_succ, i64_w, i32_w]
                   rfl
                  refine pure_ (i := 13) (N := some 99) (v := ?_) (a' := ?_) (bm 37 16383) rfl rfl (any_of HT_.out (by kernel_rfl)) (fun _ _ _ h => h) (Or.inl ⟨by rfl, ?_⟩) ?_ ?_
                  rotate_left
                  ·intro w'
                   go_simp
                   with_reducible rfl
                  rotate_left
                  ·simp only [Act.put, List.setIfInBounds_toArray, List.set_cons_zero, List.set_cons_succ, i64_w, i32_w]
                   rfl
                  refine pure_ (i := 14) (N := some 100) (v := ?_) (a' := ?_) (bm 37 32767) rfl rfl (any_of HT_.out (by kernel_rfl)) (fun _ _ _ h => h) (Or.inl ⟨by rfl, ?_⟩) ?_ ?_
                  rotate_left
                  ·intro w'
                   go_simp
                   with_reducible rfl
                  rotate_left
                  ·simp only [Act.put, List.setIfInBounds_toArray, List.set_cons_zero, List.set_cons_succ, i64_w, i32_w]
                   rfl
                  refine take_ (i := 15) (N := some 101) (v := ?_) (a' := ?_) (bm 37 65535) rfl rfl (take_ofW HT_.out HW_.out (by kernel_rfl)) (fun _ _ _ h => h) (Or.inl ⟨by rfl, ?_⟩) hHeld ?_ ?_
                  rotate_left
                  ·rintro w' ⟨s0, s1, s2, s3, s4, s5, s6, s7, s8, s9, s10⟩
                   go_simp
                   with_reducible rfl
                  rotate_left
                  ·simp only [Act.put, List.setIfInBounds_toArray, List.set_cons_zero, List.set_cons_succ, i64_w, i32_w]
                   rfl
                  refine one_ (i := 16) (N := some 102) (bm 37 131071) rfl rfl (one_of HT_.out (by kernel_rfl)) (by decide) (fun K hK => ?_)
                  refine goes_ Try.func100 (by kernel_rfl) rfl #[.slice Ao34 t130.length co34, .int .i64 ((rd_T122 ((rd_T119 l0 x6_1).f4) x10_4).f0)] (by rfl) rfl rfl z2_2 ?_
                  with_reducible refine (spec_l7Has.calls k4 _ _ t130 ((rd_T122 ((rd_T119 l0 x6_1).f4) x10_4).f0) true _ ?side1 ?side2 A39.out).mono ?_
                  (case side1 => repeat (first | exact (Kd.R_reads' HO_8.out).2.2 | (with_reducible refine Kd.C_alloc ?_ _) | (with_reducible refine Kd.C_drewN ?_ _) | (with_reducible refine Kd.C_drew ?_)))
                  (case side2 => exact (Kd.R_reads' HO_8.out).2.1)
                  rintro e w' ⟨rfl, ⟨nd, rfl⟩⟩
                  refine ⟨_, rfl, ?_⟩
                  refine hK.out _ _ ⟨(blk_cell BK129.out 0).trans rfl, (blk_cell BK129.out 1).trans rfl, (blk_cell BK129.out 2).trans rfl, (blk_cell BK129.out 3).trans rfl, (blk_cell BK129.out 4).trans rfl, ((HB.out.cell (World.block_lt_of_cell? w _ hw137_0)).trans hw137_0), ((HB.out.cell (World.block_lt_of_cell? w _ hw137_1)).trans hw137_1), ((HB.out.cell (World.block_lt_of_cell? w _ hw137_2)).trans hw137_2), ((HB.out.cell (World.block_lt_of_cell? w _ hw139_0)).trans hw139_0), ((HB.out.cell (World.block_lt_of_cell? w _ hw139_1)).trans hw139_1), ((HB.out.cell (World.block_lt_of_cell? w _ hw139_2)).trans hw139_2)⟩ (fun hHeld => ?_)
                  clear hK K
                  refine norm_ (a' := ?_) ?_ ?_
                  rotate_left
                  ·show Act.put _ (some 102) _ = _
                   simp only [Act.put, List.setIfInBounds_toArray, List.set_cons_zero, List.set_cons_succ, i64_w, i32_w]
                   rfl
                  refine pure_ (i := 17) (N := some 103) (v := ?_) (a' := ?_) (bm 37 262143) rfl rfl (any_of HT_.out (by kernel_rfl)) (fun _ _ _ h => h) (Or.inl ⟨by rfl, ?_⟩) ?_ ?_
                  rotate_left
                  ·intro w'
                   go_simp
                   with_reducible rfl
                  rotate_left
                  ·simp only [Act.put, List.setIfInBounds_toArray, List.set_cons_zero, List.set_cons_succ, i64_w, i32_w]
                   rfl
                  refine pure_ (i := 18) (N := some 104) (v := ?_) (a' := ?_) (bm 37 524287) rfl rfl (any_of HT_.out (by kernel_rfl)) (fun _ _ _ h => h) (Or.inl ⟨by rfl, ?_⟩) ?_ ?_
                  rotate_left
                  ·intro w'
                   go_simp
                   with_reducible rfl
                  rotate_left
                  ·simp only [Act.put, List.setIfInBounds_toArray, List.set_cons_zero, List.set_cons_succ, i64_w, i32_w]
                   rfl
                  refine pure_ (i := 19) (N := some 105) (v := ?_) (a' := ?_) (bm 37 1048575) rfl rfl (any_of HT_.out (by kernel_rfl)) (fun _ _ _ h => h) (Or.inl ⟨by rfl, ?_⟩) ?_ ?_
                  rotate_left
                  ·intro w'
                   go_simp
                   with_reducible rfl
                  rotate_left
                  ·simp only [Act.put, List.setIfInBounds_toArray, List.set_cons_zero, List.set_cons_succ, i64_w, i32_w]
                   rfl
                  refine pure_ (i := 20) (N := some 106) (v := ?_) (a' := ?_) (bm 37 2097151) rfl rfl (any_of HT_.out (by kernel_rfl)) (fun _ _ _ h => h) (Or.inl ⟨by rfl, ?_⟩) ?_ ?_
                  rotate_left
                  ·intro w'
                   go_simp
                   with_reducible rfl
                  rotate_left
                  ·simp only [Act.put, List.setIfInBounds_toArray, List.set_cons_zero, List.set_cons_succ, i64_w, i32_w]
                   rfl
                  refine pure_ (i := 21) (N := some 107) (v := ?_) (a' := ?_) (bm 37 4194303) rfl rfl (any_of HT_.out (by kernel_rfl)) (fun _ _ _ h => h) (Or.inl ⟨by rfl, ?_⟩) ?_ ?_
                  rotate_left
                  ·intro w'
                   go_simp
                   with_reducible rfl
                  rotate_left
                  ·simp only [Act.put, List.setIfInBounds_toArray, List.set_cons_zero, List.set_cons_succ, i64_w, i32_w]
                   rfl
                  refine pure_ (i := 22) (N := some 108) (v := ?_) (a' := ?_) (bm 37 8388607) rfl rfl (any_of HT_.out (by kernel_rfl)) (fun _ _ _ h => h) (Or.inl ⟨by rfl, ?_⟩) ?_ ?_
                  rotate_left
                  ·intro w'
                   go_simp
                   with_reducible rfl
                  rotate_left
                  ·simp only [Act.put, List.setIfInBounds_toArray, List.set_cons_zero, List.set_cons_succ, i64_w, i32_w]
                   rfl
                  refine pure_ (i := 23) (N := some 109) (v := undef) (a' := ?_) (bm 37 16777215) rfl rfl (any_of HT_.out (by kernel_rfl)) (fun _ _ _ h => h) (Or.inr ⟨by rfl, rfl⟩) ?_ ?_
                  rotate_left
                  ·simp only [Act.put, List.setIfInBounds_toArray, List.set_cons_zero, List.set_cons_succ, i64_w, i32_w]
                   rfl
                  refine pure_ (i := 24) (N := some 110) (v := undef) (a' := ?_) (bm 37 33554431) rfl rfl (any_of HT_.out (by kernel_rfl)) (fun _ _ _ h => h) (Or.inr ⟨by rfl, rfl⟩) ?_ ?_
                  rotate_left
                  ·simp only [Act.put, List.setIfInBounds_toArray, List.set_cons_zero, List.set_cons_succ, i64_w, i32_w]
                   rfl
                  refine pure_ (i := 25) (N := some 111) (v := undef) (a' := ?_) (bm 37 67108863) rfl rfl (any_of HT_.out (by kernel_rfl)) (fun _ _ _ h => h) (Or.inr ⟨by rfl, rfl⟩) ?_ ?_
                  rotate_left
                  ·simp only [Act.put, List.setIfInBounds_toArray, List.set_cons_zero, List.set_cons_succ, i64_w, i32_w]
                   rfl
                  refine pure_ (i := 26) (N := some 112) (v := undef) (a' := ?_) (bm 37 134217727) rfl rfl (any_of HT_.out (by kernel_rfl)) (fun _ _ _ h => h) (Or.inr ⟨by rfl, rfl⟩) ?_ ?_
                  rotate_left
                  ·simp only [Act.put, List.setIfInBounds_toArray, List.set_cons_zero, List.set_cons_succ, i64_w, i32_w]
                   rfl
                  refine pure_ (i := 27) (N := some 113) (v := undef) (a' := ?_) (bm 37 268435455) rfl rfl (any_of HT_.out (by kernel_rfl)) (fun _ _ _ h => h) (Or.inr ⟨by rfl, rfl⟩) ?_ ?_
                  rotate_left
                  ·simp only [Act.put, List.setIfInBounds_toArray, List.set_cons_zero, List.set_cons_succ, i64_w, i32_w]
                   rfl
                  refine pure_ (i := 28) (N := some 114) (v := undef) (a' := ?_) (bm 37 536870911) rfl rfl (any_of HT_.out (by kernel_rfl)) (fun _ _ _ h => h) (Or.inr ⟨by rfl, rfl⟩) ?_ ?_
                  rotate_left
                  ·simp only [Act.put, List.setIfInBounds_toArray, List.set_cons_zero, List.set_cons_succ, i64_w, i32_w]
                   rfl
                  refine pure_ (i := 29) (N := some 115) (v := undef) (a' := ?_) (bm 37 1073741823) rfl rfl (any_of HT_.out (by kernel_rfl)) (fun _ _ _ h => h) (Or.inr ⟨by rfl, rfl⟩) ?_ ?_
                  rotate_left
                  ·simp only [Act.put, List.setIfInBounds_toArray, List.set_cons_zero, List.set_cons_succ, i64_w, i32_w]
                   rfl
                  refine pure_ (i := 30) (N := some 116) (v := undef) (a' := ?_) (bm 37 2147483647) rfl rfl (any_of HT_.out (by kernel_rfl)) (fun _ _ _ h => h) (Or.inr ⟨by rfl, rfl⟩) ?_ ?_
                  rotate_left
                  ·simp only [Act.put, List.setIfInBounds_toArray, List.set_cons_zero, List.set_cons_succ, i64_w, i32_w]
                   rfl
                  refine pure_ (i := 31) (N := some 117) (v := undef) (a' := ?_) (bm 37 4294967295) rfl rfl (any_of HT_.out (by kernel_rfl)) (fun _ _ _ h => h) (Or.inr ⟨by rfl, rfl⟩) ?_ ?_
                  rotate_left
                  ·simp only [Act.put, List.setIfInBounds_toArray, List.set_cons_zero, List.set_cons_succ, i64_w, i32_w]
                   rfl
                  refine pure_ (i := 32) (N := some 118) (v := undef) (a' := ?_) (bm 37 8589934591) rfl rfl (any_of HT_.out (by kernel_rfl)) (fun _ _ _ h => h) (Or.inr ⟨by rfl, rfl⟩) ?_ ?_
                  rotate_left
                  ·simp only [Act.put, List.setIfInBounds_toArray, List.set_cons_zero, List.set_cons_succ, i64_w, i32_w]
                   rfl
                  refine pure_ (i := 33) (N := some 119) (v := undef) (a' := ?_) (bm 37 17179869183) rfl rfl (any_of HT_.out (by kernel_rfl)) (fun _ _ _ h => h) (Or.inr ⟨by rfl, rfl⟩) ?_ ?_
                  rotate_left
                  ·simp only [Act.put, List.setIfInBounds_toArray, List.set_cons_zero, List.set_cons_succ, i64_w, i32_w]
                   rfl
                  refine pure_ (i := 34) (N := some 120) (v := undef) (a' := ?_) (bm 37 34359738367) rfl rfl (any_of HT_.out (by kernel_rfl)) (fun _ _ _ h => h) (Or.inr ⟨by rfl, rfl⟩) ?_ ?_
                  rotate_left
                  ·simp only [Act.put, List.setIfInBounds_toArray, List.set_cons_zero, List.set_cons_succ, i64_w, i32_w]
                   rfl
                  refine pure_ (i := 35) (N := some 121) (v := ?_) (a' := ?_) (bm 37 68719476735) rfl rfl (any_of HT_.out (by kernel_rfl)) (fun _ _ _ h => h) (Or.inl ⟨by rfl, ?_⟩) ?_ ?_
                  rotate_left
                  ·intro w'
                   go_simp
                   with_reducible rfl
                  rotate_left
                  ·simp only [Act.put, List.setIfInBounds_toArray, List.set_cons_zero, List.set_cons_succ, i64_w, i32_w]
                   rfl
                  refine pure_ (i := 36) (N := some 122) (v := ?_) (a' := ?_) (bm 37 137438953471) rfl rfl (any_of HT_.out (by kernel_rfl)) (fun _ _ _ h => h) (Or.inl ⟨by rfl, ?_⟩) ?_ ?_
                  rotate_left
                  ·intro w'
                   go_simp
                   with_reducible rfl
                  rotate_left
                  ·simp only [Act.put, List.setIfInBounds_toArray, List.set_cons_zero, List.set_cons_succ, i64_w, i32_w]
                   rfl
                  refine done_ (done_of HT_.out (by kernel_rfl)) ?_
                  try go_wp2
                  go_roundg k4
                  case measure => have := HK1.out; have := HJ5.out; have := HK3.out; have := HK4.out; omega
                  case rel => exact ⟨(wrap64 (x10_4 + 1)), z2_7, H', ⟨z2_11⟩, ⟨z2_4⟩, ⟨z2_3⟩, ⟨z2_0⟩⟩
                ·replace c40 := Bool.eq_false_iff.mpr c40
                 subst c40
                 have H1 : (some false) = some r := by rw [if_neg (show ¬ (false = true) by decide)] at H; exact H
                 clear H
                 have H := H1
                 clear H1
                 obtain rfl := Option.some.inj H
                 have hcz58_0 : wr.cell? ⟨gb129, 0, none⟩ = some (.int .i64 ((rd_T119 l0 x6_1).f0)) := (blk_cell BK129.out 0).trans rfl
                 have hcz58_1 : wr.cell? ⟨gb129, 1, none⟩ = some (.slice A128_1 ((rd_T119 l0 x6_1).f1).length c128_1) := (blk_cell BK129.out 1).trans rfl
                 have hcz58_2 : wr.cell? ⟨gb129, 2, none⟩ = some (.slice A128_2 ((rd_T119 l0 x6_1).f2).length c128_2) := (blk_cell BK129.out 2).trans rfl
                 have hcz58_3 : wr.cell? ⟨gb129, 3, none⟩ = some (.slice A128_3 ((rd_T119 l0 x6_1).f3).length c128_3) := (blk_cell BK129.out 3).trans rfl
                 have hcz58_4 : wr.cell? ⟨gb129, 4, none⟩ = some (.slice A128_4 ((rd_T119 l0 x6_1).f4).length c128_4) := (blk_cell BK129.out 4).trans rfl
                 have hfz58_0 := blk_frozen BK129.out 0
                 have hfz58_1 := blk_frozen BK129.out 1
                 have hfz58_2 := blk_frozen BK129.out 2
                 have hfz58_3 := blk_frozen BK129.out 3
                 have hfz58_4 := blk_frozen BK129.out 4
                 try go_wp2
                 have n0_ := Aside0.mk (Kd.R_drew HO_8.out)
                 have n1_ := Aside0.mk (blk_drew BK129.out)
                 have n2_ := Aside0.mk (below_drew1 HB.out)
                 clear HO_8
                 clear BK129
                 clear HB
                 have HO_8 := n0_
                 have BK129 := n1_
                 have HB := n2_
                 clear n0_ n1_ n2_
                 have p137 : 0 ≤ (x10_4 : Int) := of_decide_eq_true z2_1
                 have q137 : x10_4 < (((rd_T119 l0 x6_1).f4).length : Int) := of_decide_eq_true z2_1
                 obtain ⟨ad137, e137, hx137_0, hx137_1, hx137_2⟩ := at_T122 HR128_4.out x10_4 p137 q137
                 have hw137_2 := hx137_2
                 have hw137_1 := hx137_1
                 have hw137_0 := hx137_0
                 cases e137
                 replace hx137_0 := (HB.out.cell (World.block_lt_of_cell? w _ hx137_0)).trans hx137_0
                 replace hx137_1 := (HB.out.cell (World.block_lt_of_cell? w _ hx137_1)).trans hx137_1
                 replace hx137_2 := (HB.out.cell (World.block_lt_of_cell? w _ hx137_2)).trans hx137_2
                 replace p137 := eq_true p137
                 replace q137 := eq_true q137
                 have p139 : 0 ≤ (x10_4 : Int) := of_decide_eq_true z2_1
                 have q139 : x10_4 < (((rd_T119 l0 x6_1).f4).length : Int) := of_decide_eq_true z2_1
                 obtain ⟨ad139, e139, hx139_0, hx139_1, hx139_2⟩ := at_T122 HR128_4.out x10_4 p139 q139
                 have hw139_2 := hx139_2
                 have hw139_1 := hx139_1
                 have hw139_0 := hx139_0
                 obtain rfl : ad137 = ad139 := (by injection e139)
                 replace hx139_0 := (HB.out.cell (World.block_lt_of_cell? w _ hx139_0)).trans hx139_0
                 replace hx139_1 := (HB.out.cell (World.block_lt_of_cell? w _ hx139_1)).trans hx139_1
                 replace hx139_2 := (HB.out.cell (World.block_lt_of_cell? w _ hx139_2)).trans hx139_2
                 replace p139 := eq_true p139
                 replace q139 := eq_true q139
                 refine start_ (n := 37) (S := fun w' => w'.cell? ⟨gb129, 0, none⟩ = some (.int .i64 ((rd_T119 l0 x6_1).f0)) ∧ w'.cell? ⟨gb129, 1, none⟩ = some (.slice A128_1 ((rd_T119 l0 x6_1).f1).length c128_1) ∧ w'.cell? ⟨gb129, 2, none⟩ = some (.slice A128_2 ((rd_T119 l0 x6_1).f2).length c128_2) ∧ w'.cell? ⟨gb129, 3, none⟩ = some (.slice A128_3 ((rd_T119 l0 x6_1).f3).length c128_3) ∧ w'.cell? ⟨gb129, 4, none⟩ = some (.slice (some ad137) ((rd_T119 l0 x6_1).f4).length c128_4) ∧ w'.cell? (ad137.add ((x10_4).toNat * 3)) = some (.int .i64 ((rd_T122 ((rd_T119 l0 x6_1).f4) x10_4).f0)) ∧ w'.cell? ⟨(ad137.add ((x10_4).toNat * 3)).block, (ad137.add ((x10_4).toNat * 3)).off + 1, none⟩ = some (.int .i64 ((rd_T122 ((rd_T119 l0 x6_1).f4) x10_4).f1)) ∧ w'.cell? ⟨(ad137.add ((x10_4).toNat * 3)).block, (ad137.add ((x10_4).toNat * 3)).off + 2, none⟩ = some (.int .i64 ((rd_T122 ((rd_T119 l0 x6_1).f4) x10_4).f2)) ∧ w'.cell? (ad137.add ((x10_4).toNat * 3)) = some (.int .i64 ((rd_T122 ((rd_T119 l0 x6_1).f4) x10_4).f0)) ∧ w'.cell? ⟨(ad137.add ((x10_4).toNat * 3)).block, (ad137.add ((x10_4).toNat * 3)).off + 1, none⟩ = some (.int .i64 ((rd_T122 ((rd_T119 l0 x6_1).f4) x10_4).f1)) ∧ w'.cell? ⟨(ad137.add ((x10_4).toNat * 3)).block, (ad137.add ((x10_4).toNat * 3)).off + 2, none⟩ = some (.int .i64 ((rd_T122 ((rd_T119 l0 x6_1).f4) x10_4).f2))) (ds := []) (bm 37 0) (by kernel_rfl) rfl rfl ⟨(blk_cell BK129.out 0).trans rfl, (blk_cell BK129.out 1).trans rfl, (blk_cell BK129.out 2).trans rfl, (blk_cell BK129.out 3).trans rfl, (blk_cell BK129.out 4).trans rfl, ((HB.out.cell (World.block_lt_of_cell? w _ hw137_0)).trans hw137_0), ((HB.out.cell (World.block_lt_of_cell? w _ hw137_1)).trans hw137_1), ((HB.out.cell (World.block_lt_of_cell? w _ hw137_2)).trans hw137_2), ((HB.out.cell (World.block_lt_of_cell? w _ hw139_0)).trans hw139_0), ((HB.out.cell (World.block_lt_of_cell? w _ hw139_1)).trans hw139_1), ((HB.out.cell (World.block_lt_of_cell? w _ hw139_2)).trans hw139_2)⟩ (fun hHeld => ?_); refine with_tabW spec_PiecesValid.tab17 spec_PiecesValid.bits17 (fun HT_ HW_ => ?_)
                 generalize wr.drew = w59 at HO_8 BK129 HB hx137_0 hx137_1 hx137_2 hx139_0 hx139_1 hx139_2 hHeld ⊢
                 refine pure_ (i := 0) (N := some 86) (v := ?_) (a' := ?_) (bm 37 1) rfl rfl (any_of HT_.out (by kernel_rfl)) (fun _ _ _ h => h) (Or.inl ⟨by rfl, ?_⟩) ?_ ?_
                 rotate_left
                 ·intro w'
                  go_simp
                  with_reducible rfl
                 rotate_left
                 ·simp only [Act.put, List.setIfInBounds_toArray, List.set_cons_zero, List.set_cons_succ, i64_w, i32_w]
                  rfl
                 refine pure_ (i := 2) (N := some 88) (v := ?_) (a' := ?_) (bm 37 5) rfl rfl (any_of HT_.out (by kernel_rfl)) (fun _ _ _ h => h) (Or.inl ⟨by rfl, ?_⟩) ?_ ?_
                 rotate_left
                 ·intro w'
                  go_simp
                  with_reducible rfl
                 rotate_left
                 ·simp only [Act.put, List.setIfInBounds_toArray, List.set_cons_zero, List.set_cons_succ, i64_w, i32_w]
                  rfl
                 refine pure_ (i := 5) (N := some 91) (v := ?_) (a' := ?_) (bm 37 37) rfl rfl (any_of HT_.out (by kernel_rfl)) (fun _ _ _ h => h) (Or.inl ⟨by rfl, ?_⟩) ?_ ?_
                 rotate_left
                 ·intro w'
                  go_simp
                  with_reducible rfl
                 rotate_left
                 ·simp only [Act.put, List.setIfInBounds_toArray, List.set_cons_zero, List.set_cons_succ, i64_w, i32_w]
                  rfl
                 refine take_ (i := 1) (N := some 87) (v := ?_) (a' := ?_) (bm 37 39) rfl rfl (take_ofW HT_.out HW_.out (by kernel_rfl)) (fun _ _ _ h => h) (Or.inl ⟨by rfl, ?_⟩) hHeld ?_ ?_
                 rotate_left
                 ·rintro w' ⟨s0, s1, s2, s3, s4, s5, s6, s7, s8, s9, s10⟩
                  go_simp
                  with_reducible rfl
                 rotate_left
                 ·simp only [Act.put, List.setIfInBounds_toArray, List.set_cons_zero, List.set_cons_succ, i64_w, i32_w]
                  rfl
                 refine pure_ (i := 3) (N := some 89) (v := ?_) (a' := ?_) (bm 37 47) rfl rfl (any_of HT_.out (by kernel_rfl)) (fun _ _ _ h => h) (Or.inl ⟨by rfl, ?_⟩) ?_ ?_
                 rotate_left
                 ·intro w'
                  go_simp
                  with_reducible rfl
                 rotate_left
                 ·simp only [Act.put, List.setIfInBounds_toArray, List.set_cons_zero, List.set_cons_succ, i64_w, i32_w]
                  rfl
                 refine take_ (i := 4) (N := some 90) (v := ?_) (a' := ?_) (bm 37 63) rfl rfl (take_ofW HT_.out HW_.out (by kernel_rfl)) (fun _ _ _ h => h) (Or.inl ⟨by rfl, ?_⟩) hHeld ?_ ?_
                 rotate_left
                 ·rintro w' ⟨s0, s1, s2, s3, s4, s5, s6, s7, s8, s9, s10⟩
                  go_simp
                  with_reducible rfl
                 rotate_left
                 ·simp only [Act.put, List.setIfInBounds_toArray, List.set_cons_zero, List.set_cons_succ, i64_w, i32_w]
                  rfl
                 refine one_ (i := 6) (N := some 92) (bm 37 127) rfl rfl (one_of HT_.out (by kernel_rfl)) (by decide) (fun K hK => ?_)
                 refine goes_ Try.func99 (by kernel_rfl) rfl #[.agg #[.int .i64 ((rd_T122 ((rd_T119 l0 x6_1).f4) x10_4).f0), .int .i64 ((rd_T122 ((rd_T119 l0 x6_1).f4) x10_4).f1), .int .i64 ((rd_T122 ((rd_T119 l0 x6_1).f4) x10_4).f2)], .int .i64 a1] (by rfl) rfl rfl z2_2 ?_
                 with_reducible refine (spec_l11Message.calls ((rd_T122 ((rd_T119 l0 x6_1).f4) x10_4).f0) ((rd_T122 ((rd_T119 l0 x6_1).f4) x10_4).f1) ((rd_T122 ((rd_T119 l0 x6_1).f4) x10_4).f2) a1 true _ A37.out).mono ?_
                 rintro e w60 ⟨rfl, hb⟩
                 refine ⟨_, rfl, ?_⟩
                 have n0_ := Aside0.mk (Kd.R_below z2_4 hb)
                 have n1_ := Aside0.mk (blk_below (g := gb129) (o := .cells #[.int .i64 ((rd_T119 l0 x6_1).f0), .slice A128_1 ((rd_T119 l0 x6_1).f1).length c128_1, .slice A128_2 ((rd_T119 l0 x6_1).f2).length c128_2, .slice A128_3 ((rd_T119 l0 x6_1).f3).length c128_3, .slice (some ad137) ((rd_T119 l0 x6_1).f4).length c128_4] 119 (0, 0)) z2_3 hb)
                 have n2_ := Aside0.mk (below_step z2_0 hb)
                 clear HO_8
                 clear BK129
                 clear HB
                 have HO_8 := n0_
                 have BK129 := n1_
                 have HB := n2_
                 clear n0_ n1_ n2_
                 (try clear hb)
                 (try clear hb2)
                 (try clear hk)
                 (try clear hi)
                 refine hK.out _ _ ⟨(blk_cell BK129.out 0).trans rfl, (blk_cell BK129.out 1).trans rfl, (blk_cell BK129.out 2).trans rfl, (blk_cell BK129.out 3).trans rfl, (blk_cell BK129.out 4).trans rfl, ((HB.out.cell (World.block_lt_of_cell? w _ hw137_0)).trans hw137_0), ((HB.out.cell (World.block_lt_of_cell? w _ hw137_1)).trans hw137_1), ((HB.out.cell (World.block_lt_of_cell? w _ hw137_2)).trans hw137_2), ((HB.out.cell (World.block_lt_of_cell? w _ hw139_0)).trans hw139_0), ((HB.out.cell (World.block_lt_of_cell? w _ hw139_1)).trans hw139_1), ((HB.out.cell (World.block_lt_of_cell? w _ hw139_2)).trans hw139_2)⟩ (fun hHeld => ?_)
                 clear hK K
                 refine norm_ (a' := ?_) ?_ ?_
                 rotate_left
                 ·show Act.put _ (some 92) _ = _
                  simp only [Act.put, List.setIfInBounds_toArray, List.set_cons_zero, List.set_cons_succ, i64_w, i32_w]
                  rfl
                 refine pure_ (i := 7) (N := some 93) (v := ?_) (a' := ?_) (bm 37 255) rfl rfl (any_of HT_.out (by kernel_rfl)) (fun _ _ _ h => h) (Or.inl ⟨by rfl, ?_⟩) ?_ ?_
                 rotate_left
                 ·intro w'
                  go_simp
                  with_reducible rfl
                 rotate_left
                 ·simp only [Act.put, List.setIfInBounds_toArray, List.set_cons_zero, List.set_cons_succ, i64_w, i32_w]
                  rfl
                 refine pure_ (i := 8) (N := some 94) (v := ?_) (a' := ?_) (bm 37 511) rfl rfl (any_of HT_.out (by kernel_rfl)) (fun _ _ _ h => h) (Or.inl ⟨by rfl, ?_⟩) ?_ ?_
                 rotate_left
                 ·intro w'
                  go_simp
                  with_reducible rfl
                 rotate_left
                 ·simp only [Act.put, List.setIfInBounds_toArray, List.set_cons_zero, List.set_cons_succ, i64_w, i32_w]
                  rfl
                 refine pure_ (i := 9) (N := some 95) (v := ?_) (a' := ?_) (bm 37 1023) rfl rfl (any_of HT_.out (by kernel_rfl)) (fun _ _ _ h => h) (Or.inl ⟨by rfl, ?_⟩) ?_ ?_
                 rotate_left
                 ·intro w'
                  go_simp
                  with_reducible rfl
                 rotate_left
                 ·simp only [Act.put, List.setIfInBounds_toArray, List.set_cons_zero, List.set_cons_succ, i64_w, i32_w]
                  rfl
                 refine pure_ (i := 10) (N := some 96) (v := ?_) (a' := ?_) (bm 37 2047) rfl rfl (any_of HT_.out (by kernel_rfl)) (fun _ _ _ h => h) (Or.inl ⟨by rfl, ?_⟩) ?_ ?_
                 rotate_left
                 ·intro w'
                  go_simp
                  with_reducible rfl
                 rotate_left
                 ·simp only [Act.put, List.setIfInBounds_toArray, List.set_cons_zero, List.set_cons_succ, i64_w, i32_w]
                  rfl
                 refine pure_ (i := 12) (N := some 98) (v := ?_) (a' := ?_) (bm 37 6143) rfl rfl (any_of HT_.out (by kernel_rfl)) (fun _ _ _ h => h) (Or.inl ⟨by rfl, ?_⟩) ?_ ?_
                 rotate_left
                 ·intro w'
                  go_simp
                  with_reducible rfl
                 rotate_left
                 ·simp only [Act.put, List.setIfInBounds_toArray, List.set_cons_zero, List.set_cons_succ, i64_w, i32_w]
                  rfl
                 refine take_ (i := 11) (N := some 97) (v := ?_) (a' := ?_) (bm 37 8191) rfl rfl (take_ofW HT_.out HW_.out (by kernel_rfl)) (fun _ _ _ h => h) (Or.inl ⟨by rfl, ?_⟩) hHeld ?_ ?_
                 rotate_left
                 ·rintro w' ⟨s0, s1, s2, s3, s4, s5, s6, s7, s8, s9, s10⟩
                  go_simp
                  with_reducible rfl
                 rotate_left
                 ·simp only [Act.put, List.setIfInBounds_toArray, List.set_cons_zero, List.set_cons_succ, i64_w, i32_w]
                  rfl
                 refine pure_ (i := 13) (N := some 99) (v := ?_) (a' := ?_) (bm 37 16383) rfl rfl (any_of HT_.out (by kernel_rfl)) (fun _ _ _ h => h) (Or.inl ⟨by rfl, ?_⟩) ?_ ?_
                 rotate_left
                 ·intro w'
                  go_simp
                  with_reducible rfl
                 rotate_left
                 ·simp only [Act.put, List.setIfInBounds_toArray, List.set_cons_zero, List.set_cons_succ, i64_w, i32_w]
                  rfl
                 refine pure_ (i := 14) (N := some 100) (v := ?_) (a' := ?_) (bm 37 32767) rfl rfl (any_of HT_.out (by kernel_rfl)) (fun _ _ _ h => h) (Or.inl ⟨by rfl, ?_⟩) ?_ ?_
                 rotate_left
                 ·intro w'
                  go_simp
                  with_reducible rfl
                 rotate_left
                 ·simp only [Act.put, List.setIfInBounds_toArray, List.set_cons_zero, List.set_cons_succ, i64_w, i32_w]
                  rfl
                 refine take_ (i := 15) (N := some 101) (v := ?_) (a' := ?_) (bm 37 65535) rfl rfl (take_ofW HT_.out HW_.out (by kernel_rfl)) (fun _ _ _ h => h) (Or.inl ⟨by rfl, ?_⟩) hHeld ?_ ?_
                 rotate_left
                 ·rintro w' ⟨s0, s1, s2, s3, s4, s5, s6, s7, s8, s9, s10⟩
                  go_simp
                  with_reducible rfl
                 rotate_left
                 ·simp only [Act.put, List.setIfInBounds_toArray, List.set_cons_zero, List.set_cons_succ, i64_w, i32_w]
                  rfl
                 refine one_ (i := 16) (N := some 102) (bm 37 131071) rfl rfl (one_of HT_.out (by kernel_rfl)) (by decide) (fun K hK => ?_)
                 refine goes_ Try.func100 (by kernel_rfl) rfl #[.slice Ao34 t130.length co34, .int .i64 ((rd_T122 ((rd_T119 l0 x6_1).f4) x10_4).f0)] (by rfl) rfl rfl z2_2 ?_
                 with_reducible refine (spec_l7Has.calls k4 _ _ t130 ((rd_T122 ((rd_T119 l0 x6_1).f4) x10_4).f0) false _ ?side1 ?side2 A39.out).mono ?_
                 (case side1 => repeat (first | exact (Kd.R_reads' HO_8.out).2.2 | (with_reducible refine Kd.C_alloc ?_ _) | (with_reducible refine Kd.C_drewN ?_ _) | (with_reducible refine Kd.C_drew ?_)))
                 (case side2 => exact (Kd.R_reads' HO_8.out).2.1)
                 rintro e w' ⟨rfl, ⟨nd, rfl⟩⟩
                 refine ⟨_, rfl, ?_⟩
                 refine hK.out _ _ ⟨(blk_cell BK129.out 0).trans rfl, (blk_cell BK129.out 1).trans rfl, (blk_cell BK129.out 2).trans rfl, (blk_cell BK129.out 3).trans rfl, (blk_cell BK129.out 4).trans rfl, ((HB.out.cell (World.block_lt_of_cell? w _ hw137_0)).trans hw137_0), ((HB.out.cell (World.block_lt_of_cell? w _ hw137_1)).trans hw137_1), ((HB.out.cell (World.block_lt_of_cell? w _ hw137_2)).trans hw137_2), ((HB.out.cell (World.block_lt_of_cell? w _ hw139_0)).trans hw139_0), ((HB.out.cell (World.block_lt_of_cell? w _ hw139_1)).trans hw139_1), ((HB.out.cell (World.block_lt_of_cell? w _ hw139_2)).trans hw139_2)⟩ (fun hHeld => ?_)
                 clear hK K
                 refine norm_ (a' := ?_) ?_ ?_
                 rotate_left
                 ·show Act.put _ (some 102) _ = _
                  simp only [Act.put, List.setIfInBounds_toArray, List.set_cons_zero, List.set_cons_succ, i64_w, i32_w]
                  rfl
                 refine pure_ (i := 17) (N := some 103) (v := ?_) (a' := ?_) (bm 37 262143) rfl rfl (any_of HT_.out (by kernel_rfl)) (fun _ _ _ h => h) (Or.inl ⟨by rfl, ?_⟩) ?_ ?_
                 rotate_left
                 ·intro w'
                  go_simp
                  with_reducible rfl
                 rotate_left
                 ·simp only [Act.put, List.setIfInBounds_toArray, List.set_cons_zero, List.set_cons_succ, i64_w, i32_w]
                  rfl
                 refine pure_ (i := 18) (N := some 104) (v := ?_) (a' := ?_) (bm 37 524287) rfl rfl (any_of HT_.out (by kernel_rfl)) (fun _ _ _ h => h) (Or.inl ⟨by rfl, ?_⟩) ?_ ?_
                 rotate_left
                 ·intro w'
                  go_simp
                  with_reducible rfl
                 rotate_left
                 ·simp only [Act.put, List.setIfInBounds_toArray, List.set_cons_zero, List.set_cons_succ, i64_w, i32_w]
                  rfl
                 refine pure_ (i := 19) (N := some 105) (v := ?_) (a' := ?_) (bm 37 1048575) rfl rfl (any_of HT_.out (by kernel_rfl)) (fun _ _ _ h => h) (Or.inl ⟨by rfl, ?_⟩) ?_ ?_
                 rotate_left
                 ·intro w'
                  go_simp
                  with_reducible rfl
                 rotate_left
                 ·simp only [Act.put, List.setIfInBounds_toArray, List.set_cons_zero, List.set_cons_succ, i64_w, i32_w]
                  rfl
                 refine pure_ (i := 20) (N := some 106) (v := undef) (a' := ?_) (bm 37 2097151) rfl rfl (any_of HT_.out (by kernel_rfl)) (fun _ _ _ h => h) (Or.inr ⟨by rfl, rfl⟩) ?_ ?_
                 rotate_left
                 ·simp only [Act.put, List.setIfInBounds_toArray, List.set_cons_zero, List.set_cons_succ, i64_w, i32_w]
                  rfl
                 refine pure_ (i := 21) (N := some 107) (v := undef) (a' := ?_) (bm 37 4194303) rfl rfl (any_of HT_.out (by kernel_rfl)) (fun _ _ _ h => h) (Or.inr ⟨by rfl, rfl⟩) ?_ ?_
                 rotate_left
                 ·simp only [Act.put, List.setIfInBounds_toArray, List.set_cons_zero, List.set_cons_succ, i64_w, i32_w]
                  rfl
                 refine pure_ (i := 22) (N := some 108) (v := undef) (a' := ?_) (bm 37 8388607) rfl rfl (any_of HT_.out (by kernel_rfl)) (fun _ _ _ h => h) (Or.inr ⟨by rfl, rfl⟩) ?_ ?_
                 rotate_left
                 ·simp only [Act.put, List.setIfInBounds_toArray, List.set_cons_zero, List.set_cons_succ, i64_w, i32_w]
                  rfl
                 refine pure_ (i := 23) (N := some 109) (v := undef) (a' := ?_) (bm 37 16777215) rfl rfl (any_of HT_.out (by kernel_rfl)) (fun _ _ _ h => h) (Or.inr ⟨by rfl, rfl⟩) ?_ ?_
                 rotate_left
                 ·simp only [Act.put, List.setIfInBounds_toArray, List.set_cons_zero, List.set_cons_succ, i64_w, i32_w]
                  rfl
                 refine pure_ (i := 24) (N := some 110) (v := undef) (a' := ?_) (bm 37 33554431) rfl rfl (any_of HT_.out (by kernel_rfl)) (fun _ _ _ h => h) (Or.inr ⟨by rfl, rfl⟩) ?_ ?_
                 rotate_left
                 ·simp only [Act.put, List.setIfInBounds_toArray, List.set_cons_zero, List.set_cons_succ, i64_w, i32_w]
                  rfl
                 refine pure_ (i := 25) (N := some 111) (v := undef) (a' := ?_) (bm 37 67108863) rfl rfl (any_of HT_.out (by kernel_rfl)) (fun _ _ _ h => h) (Or.inr ⟨by rfl, rfl⟩) ?_ ?_
                 rotate_left
                 ·simp only [Act.put, List.setIfInBounds_toArray, List.set_cons_zero, List.set_cons_succ, i64_w, i32_w]
                  rfl
                 refine pure_ (i := 26) (N := some 112) (v := undef) (a' := ?_) (bm 37 134217727) rfl rfl (any_of HT_.out (by kernel_rfl)) (fun _ _ _ h => h) (Or.inr ⟨by rfl, rfl⟩) ?_ ?_
                 rotate_left
                 ·simp only [Act.put, List.setIfInBounds_toArray, List.set_cons_zero, List.set_cons_succ, i64_w, i32_w]
                  rfl
                 refine pure_ (i := 27) (N := some 113) (v := undef) (a' := ?_) (bm 37 268435455) rfl rfl (any_of HT_.out (by kernel_rfl)) (fun _ _ _ h => h) (Or.inr ⟨by rfl, rfl⟩) ?_ ?_
                 rotate_left
                 ·simp only [Act.put, List.setIfInBounds_toArray, List.set_cons_zero, List.set_cons_succ, i64_w, i32_w]
                  rfl
                 refine pure_ (i := 28) (N := some 114) (v := undef) (a' := ?_) (bm 37 536870911) rfl rfl (any_of HT_.out (by kernel_rfl)) (fun _ _ _ h => h) (Or.inr ⟨by rfl, rfl⟩) ?_ ?_
                 rotate_left
                 ·simp only [Act.put, List.setIfInBounds_toArray, List.set_cons_zero, List.set_cons_succ, i64_w, i32_w]
                  rfl
                 refine pure_ (i := 29) (N := some 115) (v := undef) (a' := ?_) (bm 37 1073741823) rfl rfl (any_of HT_.out (by kernel_rfl)) (fun _ _ _ h => h) (Or.inr ⟨by rfl, rfl⟩) ?_ ?_
                 rotate_left
                 ·simp only [Act.put, List.setIfInBounds_toArray, List.set_cons_zero, List.set_cons_succ, i64_w, i32_w]
                  rfl
                 refine pure_ (i := 30) (N := some 116) (v := undef) (a' := ?_) (bm 37 2147483647) rfl rfl (any_of HT_.out (by kernel_rfl)) (fun _ _ _ h => h) (Or.inr ⟨by rfl, rfl⟩) ?_ ?_
                 rotate_left
                 ·simp only [Act.put, List.setIfInBounds_toArray, List.set_cons_zero, List.set_cons_succ, i64_w, i32_w]
                  rfl
                 refine pure_ (i := 31) (N := some 117) (v := undef) (a' := ?_) (bm 37 4294967295) rfl rfl (any_of HT_.out (by kernel_rfl)) (fun _ _ _ h => h) (Or.inr ⟨by rfl, rfl⟩) ?_ ?_
                 rotate_left
                 ·simp only [Act.put, List.setIfInBounds_toArray, List.set_cons_zero, List.set_cons_succ, i64_w, i32_w]
                  rfl
                 refine pure_ (i := 32) (N := some 118) (v := undef) (a' := ?_) (bm 37 8589934591) rfl rfl (any_of HT_.out (by kernel_rfl)) (fun _ _ _ h => h) (Or.inr ⟨by rfl, rfl⟩) ?_ ?_
                 rotate_left
                 ·simp only [Act.put, List.setIfInBounds_toArray, List.set_cons_zero, List.set_cons_succ, i64_w, i32_w]
                  rfl
                 refine pure_ (i := 33) (N := some 119) (v := undef) (a' := ?_) (bm 37 17179869183) rfl rfl (any_of HT_.out (by kernel_rfl)) (fun _ _ _ h => h) (Or.inr ⟨by rfl, rfl⟩) ?_ ?_
                 rotate_left
                 ·simp only [Act.put, List.setIfInBounds_toArray, List.set_cons_zero, List.set_cons_succ, i64_w, i32_w]
                  rfl
                 refine pure_ (i := 34) (N := some 120) (v := undef) (a' := ?_) (bm 37 34359738367) rfl rfl (any_of HT_.out (by kernel_rfl)) (fun _ _ _ h => h) (Or.inr ⟨by rfl, rfl⟩) ?_ ?_
                 rotate_left
                 ·simp only [Act.put, List.setIfInBounds_toArray, List.set_cons_zero, List.set_cons_succ, i64_w, i32_w]
                  rfl
                 refine pure_ (i := 35) (N := some 121) (v := undef) (a' := ?_) (bm 37 68719476735) rfl rfl (any_of HT_.out (by kernel_rfl)) (fun _ _ _ h => h) (Or.inr ⟨by rfl, rfl⟩) ?_ ?_
                 rotate_left
                 ·simp only [Act.put, List.setIfInBounds_toArray, List.set_cons_zero, List.set_cons_succ, i64_w, i32_w]
                  rfl
                 refine pure_ (i := 36) (N := some 122) (v := ?_) (a' := ?_) (bm 37 137438953471) rfl rfl (any_of HT_.out (by kernel_rfl)) (fun _ _ _ h => h) (Or.inl ⟨by rfl, ?_⟩) ?_ ?_
                 rotate_left
                 ·intro w'
                  go_simp
                  with_reducible rfl
                 rotate_left
                 ·simp only [Act.put, List.setIfInBounds_toArray, List.set_cons_zero, List.set_cons_succ, i64_w, i32_w]
                  rfl
                 refine done_ (done_of HT_.out (by kernel_rfl)) ?_
                 try go_wp2
                 go_ret
                 exact ⟨z2_6, z2_0⟩
               ·replace c38 := Bool.eq_false_iff.mpr c38
                subst c38
                have H1 : (some false) = some r := by rw [if_neg (show ¬ (false = true) by decide)] at H; exact H
                clear H
                have H := H1
                clear H1
                obtain rfl := Option.some.inj H
                have hcz61_0 : wr.cell? ⟨gb129, 0, none⟩ = some (.int .i64 ((rd_T119 l0 x6_1).f0)) := (blk_cell BK129.out 0).trans rfl
                have hcz61_1 : wr.cell? ⟨gb129, 1, none⟩ = some (.slice A128_1 ((rd_T119 l0 x6_1).f1).length c128_1) := (blk_cell BK129.out 1).trans rfl
                have hcz61_2 : wr.cell? ⟨gb129, 2, none⟩ = some (.slice A128_2 ((rd_T119 l0 x6_1).f2).length c128_2) := (blk_cell BK129.out 2).trans rfl
                have hcz61_3 : wr.cell? ⟨gb129, 3, none⟩ = some (.slice A128_3 ((rd_T119 l0 x6_1).f3).length c128_3) := (blk_cell BK129.out 3).trans rfl
                have hcz61_4 : wr.cell? ⟨gb129, 4, none⟩ = some (.slice A128_4 ((rd_T119 l0 x6_1).f4).length c128_4) := (blk_cell BK129.out 4).trans rfl
                have hfz61_0 := blk_frozen BK129.out 0
                have hfz61_1 := blk_frozen BK129.out 1
                have hfz61_2 := blk_frozen BK129.out 2
                have hfz61_3 := blk_frozen BK129.out 3
                have hfz61_4 := blk_frozen BK129.out 4
                try go_wp2
                have n0_ := Aside0.mk (Kd.R_drew HO_8.out)
                have n1_ := Aside0.mk (blk_drew BK129.out)
                have n2_ := Aside0.mk (below_drew1 HB.out)
                clear HO_8
                clear BK129
                clear HB
                have HO_8 := n0_
                have BK129 := n1_
                have HB := n2_
                clear n0_ n1_ n2_
                have p137 : 0 ≤ (x10_4 : Int) := of_decide_eq_true z2_1
                have q137 : x10_4 < (((rd_T119 l0 x6_1).f4).length : Int) := of_decide_eq_true z2_1
                obtain ⟨ad137, e137, hx137_0, hx137_1, hx137_2⟩ := at_T122 HR128_4.out x10_4 p137 q137
                have hw137_2 := hx137_2
                have hw137_1 := hx137_1
                have hw137_0 := hx137_0
                cases e137
                replace hx137_0 := (HB.out.cell (World.block_lt_of_cell? w _ hx137_0)).trans hx137_0
                replace hx137_1 := (HB.out.cell (World.block_lt_of_cell? w _ hx137_1)).trans hx137_1
                replace hx137_2 := (HB.out.cell (World.block_lt_of_cell? w _ hx137_2)).trans hx137_2
                replace p137 := eq_true p137
                replace q137 := eq_true q137
                refine start_ (n := 37) (S := fun w' => w'.cell? ⟨gb129, 0, none⟩ = some (.int .i64 ((rd_T119 l0 x6_1).f0)) ∧ w'.cell? ⟨gb129, 1, none⟩ = some (.slice A128_1 ((rd_T119 l0 x6_1).f1).length c128_1) ∧ w'.cell? ⟨gb129, 2, none⟩ = some (.slice A128_2 ((rd_T119 l0 x6_1).f2).length c128_2) ∧ w'.cell? ⟨gb129, 3, none⟩ = some (.slice A128_3 ((rd_T119 l0 x6_1).f3).length c128_3) ∧ w'.cell? ⟨gb129, 4, none⟩ = some (.slice (some ad137) ((rd_T119 l0 x6_1).f4).length c128_4) ∧ w'.cell? (ad137.add ((x10_4).toNat * 3)) = some (.int .i64 ((rd_T122 ((rd_T119 l0 x6_1).f4) x10_4).f0)) ∧ w'.cell? ⟨(ad137.add ((x10_4).toNat * 3)).block, (ad137.add ((x10_4).toNat * 3)).off + 1, none⟩ = some (.int .i64 ((rd_T122 ((rd_T119 l0 x6_1).f4) x10_4).f1)) ∧ w'.cell? ⟨(ad137.add ((x10_4).toNat * 3)).block, (ad137.add ((x10_4).toNat * 3)).off + 2, none⟩ = some (.int .i64 ((rd_T122 ((rd_T119 l0 x6_1).f4) x10_4).f2))) (ds := []) (bm 37 0) (by kernel_rfl) rfl rfl ⟨(blk_cell BK129.out 0).trans rfl, (blk_cell BK129.out 1).trans rfl, (blk_cell BK129.out 2).trans rfl, (blk_cell BK129.out 3).trans rfl, (blk_cell BK129.out 4).trans rfl, ((HB.out.cell (World.block_lt_of_cell? w _ hw137_0)).trans hw137_0), ((HB.out.cell (World.block_lt_of_cell? w _ hw137_1)).trans hw137_1), ((HB.out.cell (World.block_lt_of_cell? w _ hw137_2)).trans hw137_2)⟩ (fun hHeld => ?_); refine with_tabW spec_PiecesValid.tab17 spec_PiecesValid.bits17 (fun HT_ HW_ => ?_)
                generalize wr.drew = w62 at HO_8 BK129 HB hx137_0 hx137_1 hx137_2 hHeld ⊢
                refine pure_ (i := 0) (N := some 86) (v := ?_) (a' := ?_) (bm 37 1) rfl rfl (any_of HT_.out (by kernel_rfl)) (fun _ _ _ h => h) (Or.inl ⟨by rfl, ?_⟩) ?_ ?_
                rotate_left
                ·intro w'
                 go_simp
                 with_reducible rfl
                rotate_left
                ·simp only [Act.put, List.setIfInBounds_toArray, List.set_cons_zero, List.set_cons_succ, i64_w, i32_w]
                 rfl
                refine pure_ (i := 2) (N := some 88) (v := ?_) (a' := ?_) (bm 37 5) rfl rfl (any_of HT_.out (by kernel_rfl)) (fun _ _ _ h => h) (Or.inl ⟨by rfl, ?_⟩) ?_ ?_
                rotate_left
                ·intro w'
                 go_simp
                 with_reducible rfl
                rotate_left
                ·simp only [Act.put, List.setIfInBounds_toArray, List.set_cons_zero, List.set_cons_succ, i64_w, i32_w]
                 rfl
                refine pure_ (i := 5) (N := some 91) (v := ?_) (a' := ?_) (bm 37 37) rfl rfl (any_of HT_.out (by kernel_rfl)) (fun _ _ _ h => h) (Or.inl ⟨by rfl, ?_⟩) ?_ ?_
                rotate_left
                ·intro w'
                 go_simp
                 with_reducible rfl
                rotate_left
                ·simp only [Act.put, List.setIfInBounds_toArray, List.set_cons_zero, List.set_cons_succ, i64_w, i32_w]
                 rfl
                refine take_ (i := 1) (N := some 87) (v := ?_) (a' := ?_) (bm 37 39) rfl rfl (take_ofW HT_.out HW_.out (by kernel_rfl)) (fun _ _ _ h => h) (Or.inl ⟨by rfl, ?_⟩) hHeld ?_ ?_
                rotate_left
                ·rintro w' ⟨s0, s1, s2, s3, s4, s5, s6, s7⟩
                 go_simp
                 with_reducible rfl
                rotate_left
                ·simp only [Act.put, List.setIfInBounds_toArray, List.set_cons_zero, List.set_cons_succ, i64_w, i32_w]
                 rfl
                refine pure_ (i := 3) (N := some 89) (v := ?_) (a' := ?_) (bm 37 47) rfl rfl (any_of HT_.out (by kernel_rfl)) (fun _ _ _ h => h) (Or.inl ⟨by rfl, ?_⟩) ?_ ?_
                rotate_left
                ·intro w'
                 go_simp
                 with_reducible rfl
                rotate_left
                ·simp only [Act.put, List.setIfInBounds_toArray, List.set_cons_zero, List.set_cons_succ, i64_w, i32_w]
                 rfl
                refine take_ (i := 4) (N := some 90) (v := ?_) (a' := ?_) (bm 37 63) rfl rfl (take_ofW HT_.out HW_.out (by kernel_rfl)) (fun _ _ _ h => h) (Or.inl ⟨by rfl, ?_⟩) hHeld ?_ ?_
                rotate_left
                ·rintro w' ⟨s0, s1, s2, s3, s4, s5, s6, s7⟩
                 go_simp
                 with_reducible rfl
                rotate_left
                ·simp only [Act.put, List.setIfInBounds_toArray, List.set_cons_zero, List.set_cons_succ, i64_w, i32_w]
                 rfl
                refine one_ (i := 6) (N := some 92) (bm 37 127) rfl rfl (one_of HT_.out (by kernel_rfl)) (by decide) (fun K hK => ?_)
                refine goes_ Try.func99 (by kernel_rfl) rfl #[.agg #[.int .i64 ((rd_T122 ((rd_T119 l0 x6_1).f4) x10_4).f0), .int .i64 ((rd_T122 ((rd_T119 l0 x6_1).f4) x10_4).f1), .int .i64 ((rd_T122 ((rd_T119 l0 x6_1).f4) x10_4).f2)], .int .i64 a1] (by rfl) rfl rfl z2_2 ?_
                with_reducible refine (spec_l11Message.calls ((rd_T122 ((rd_T119 l0 x6_1).f4) x10_4).f0) ((rd_T122 ((rd_T119 l0 x6_1).f4) x10_4).f1) ((rd_T122 ((rd_T119 l0 x6_1).f4) x10_4).f2) a1 false _ A37.out).mono ?_
                rintro e w63 ⟨rfl, hb⟩
                refine ⟨_, rfl, ?_⟩
                have n0_ := Aside0.mk (Kd.R_below z2_4 hb)
                have n1_ := Aside0.mk (blk_below (g := gb129) (o := .cells #[.int .i64 ((rd_T119 l0 x6_1).f0), .slice A128_1 ((rd_T119 l0 x6_1).f1).length c128_1, .slice A128_2 ((rd_T119 l0 x6_1).f2).length c128_2, .slice A128_3 ((rd_T119 l0 x6_1).f3).length c128_3, .slice (some ad137) ((rd_T119 l0 x6_1).f4).length c128_4] 119 (0, 0)) z2_3 hb)
                have n2_ := Aside0.mk (below_step z2_0 hb)
                clear HO_8
                clear BK129
                clear HB
                have HO_8 := n0_
                have BK129 := n1_
                have HB := n2_
                clear n0_ n1_ n2_
                (try clear hb)
                (try clear hb2)
                (try clear hk)
                (try clear hi)
                refine hK.out _ _ ⟨(blk_cell BK129.out 0).trans rfl, (blk_cell BK129.out 1).trans rfl, (blk_cell BK129.out 2).trans rfl, (blk_cell BK129.out 3).trans rfl, (blk_cell BK129.out 4).trans rfl, ((HB.out.cell (World.block_lt_of_cell? w _ hw137_0)).trans hw137_0), ((HB.out.cell (World.block_lt_of_cell? w _ hw137_1)).trans hw137_1), ((HB.out.cell (World.block_lt_of_cell? w _ hw137_2)).trans hw137_2)⟩ (fun hHeld => ?_)
                clear hK K
                refine norm_ (a' := ?_) ?_ ?_
                rotate_left
                ·show Act.put _ (some 92) _ = _
                 simp only [Act.put, List.setIfInBounds_toArray, List.set_cons_zero, List.set_cons_succ, i64_w, i32_w]
                 rfl
                refine pure_ (i := 7) (N := some 93) (v := ?_) (a' := ?_) (bm 37 255) rfl rfl (any_of HT_.out (by kernel_rfl)) (fun _ _ _ h => h) (Or.inl ⟨by rfl, ?_⟩) ?_ ?_
                rotate_left
                ·intro w'
                 go_simp
                 with_reducible rfl
                rotate_left
                ·simp only [Act.put, List.setIfInBounds_toArray, List.set_cons_zero, List.set_cons_succ, i64_w, i32_w]
                 rfl
                refine pure_ (i := 8) (N := some 94) (v := ?_) (a' := ?_) (bm 37 511) rfl rfl (any_of HT_.out (by kernel_rfl)) (fun _ _ _ h => h) (Or.inl ⟨by rfl, ?_⟩) ?_ ?_
                rotate_left
                ·intro w'
                 go_simp
                 with_reducible rfl
                rotate_left
                ·simp only [Act.put, List.setIfInBounds_toArray, List.set_cons_zero, List.set_cons_succ, i64_w, i32_w]
                 rfl
                refine pure_ (i := 9) (N := some 95) (v := undef) (a' := ?_) (bm 37 1023) rfl rfl (any_of HT_.out (by kernel_rfl)) (fun _ _ _ h => h) (Or.inr ⟨by rfl, rfl⟩) ?_ ?_
                rotate_left
                ·simp only [Act.put, List.setIfInBounds_toArray, List.set_cons_zero, List.set_cons_succ, i64_w, i32_w]
                 rfl
                refine pure_ (i := 10) (N := some 96) (v := undef) (a' := ?_) (bm 37 2047) rfl rfl (any_of HT_.out (by kernel_rfl)) (fun _ _ _ h => h) (Or.inr ⟨by rfl, rfl⟩) ?_ ?_
                rotate_left
                ·simp only [Act.put, List.setIfInBounds_toArray, List.set_cons_zero, List.set_cons_succ, i64_w, i32_w]
                 rfl
                refine pure_ (i := 11) (N := some 97) (v := undef) (a' := ?_) (bm 37 4095) rfl rfl (any_of HT_.out (by kernel_rfl)) (fun _ _ _ h => h) (Or.inr ⟨by rfl, rfl⟩) ?_ ?_
                rotate_left
                ·simp only [Act.put, List.setIfInBounds_toArray, List.set_cons_zero, List.set_cons_succ, i64_w, i32_w]
                 rfl
                refine pure_ (i := 12) (N := some 98) (v := undef) (a' := ?_) (bm 37 8191) rfl rfl (any_of HT_.out (by kernel_rfl)) (fun _ _ _ h => h) (Or.inr ⟨by rfl, rfl⟩) ?_ ?_
                rotate_left
                ·simp only [Act.put, List.setIfInBounds_toArray, List.set_cons_zero, List.set_cons_succ, i64_w, i32_w]
                 rfl
                refine pure_ (i := 13) (N := some 99) (v := undef) (a' := ?_) (bm 37 16383) rfl rfl (any_of HT_.out (by kernel_rfl)) (fun _ _ _ h => h) (Or.inr ⟨by rfl, rfl⟩) ?_ ?_
                rotate_left
                ·simp only [Act.put, List.setIfInBounds_toArray, List.set_cons_zero, List.set_cons_succ, i64_w, i32_w]
                 rfl
                refine pure_ (i := 14) (N := some 100) (v := undef) (a' := ?_) (bm 37 32767) rfl rfl (any_of HT_.out (by kernel_rfl)) (fun _ _ _ h => h) (Or.inr ⟨by rfl, rfl⟩) ?_ ?_
                rotate_left
                ·simp only [Act.put, List.setIfInBounds_toArray, List.set_cons_zero, List.set_cons_succ, i64_w, i32_w]
                 rfl
                refine pure_ (i := 15) (N := some 101) (v := undef) (a' := ?_) (bm 37 65535) rfl rfl (any_of HT_.out (by kernel_rfl)) (fun _ _ _ h => h) (Or.inr ⟨by rfl, rfl⟩) ?_ ?_
                rotate_left
                ·simp only [Act.put, List.setIfInBounds_toArray, List.set_cons_zero, List.set_cons_succ, i64_w, i32_w]
                 rfl
                refine pure_ (i := 16) (N := some 102) (v := undef) (a' := ?_) (bm 37 131071) rfl rfl (any_of HT_.out (by kernel_rfl)) (fun _ _ _ h => h) (Or.inr ⟨by rfl, rfl⟩) ?_ ?_
                rotate_left
                ·simp only [Act.put, List.setIfInBounds_toArray, List.set_cons_zero, List.set_cons_succ, i64_w, i32_w]
                 rfl
                refine pure_ (i := 17) (N := some 103) (v := undef) (a' := ?_) (bm 37 262143) rfl rfl (any_of HT_.out (by kernel_rfl)) (fun _ _ _ h => h) (Or.inr ⟨by rfl, rfl⟩) ?_ ?_
                rotate_left
                ·simp only [Act.put, List.setIfInBounds_toArray, List.set_cons_zero, List.set_cons_succ, i64_w, i32_w]
                 rfl
                refine pure_ (i := 18) (N := some 104) (v := ?_) (a' := ?_) (bm 37 524287) rfl rfl (any_of HT_.out (by kernel_rfl)) (fun _ _ _ h => h) (Or.inl ⟨by rfl, ?_⟩) ?_ ?_
                rotate_left
                ·intro w'
                 go_simp
                 with_reducible rfl
                rotate_left
                ·simp only [Act.put, List.setIfInBounds_toArray, List.set_cons_zero, List.set_cons_succ, i64_w, i32_w]
                 rfl
                refine pure_ (i := 19) (N := some 105) (v := ?_) (a' := ?_) (bm 37 1048575) rfl rfl (any_of HT_.out (by kernel_rfl)) (fun _ _ _ h => h) (Or.inl ⟨by rfl, ?_⟩) ?_ ?_
                rotate_left
                ·intro w'
                 go_simp
                 with_reducible rfl
                rotate_left
                ·simp only [Act.put, List.setIfInBounds_toArray, List.set_cons_zero, List.set_cons_succ, i64_w, i32_w]
                 rfl
                refine pure_ (i := 20) (N := some 106) (v := undef) (a' := ?_) (bm 37 2097151) rfl rfl (any_of HT_.out (by kernel_rfl)) (fun _ _ _ h => h) (Or.inr ⟨by rfl, rfl⟩) ?_ ?_
                rotate_left
                ·simp only [Act.put, List.setIfInBounds_toArray, List.set_cons_zero, List.set_cons_succ, i64_w, i32_w]
                 rfl
                refine pure_ (i := 21) (N := some 107) (v := undef) (a' := ?_) (bm 37 4194303) rfl rfl (any_of HT_.out (by kernel_rfl)) (fun _ _ _ h => h) (Or.inr ⟨by rfl, rfl⟩) ?_ ?_
                rotate_left
                ·simp only [Act.put, List.setIfInBounds_toArray, List.set_cons_zero, List.set_cons_succ, i64_w, i32_w]
                 rfl
                refine pure_ (i := 22) (N := some 108) (v := undef) (a' := ?_) (bm 37 8388607) rfl rfl (any_of HT_.out (by kernel_rfl)) (fun _ _ _ h => h) (Or.inr ⟨by rfl, rfl⟩) ?_ ?_
                rotate_left
                ·simp only [Act.put, List.setIfInBounds_toArray, List.set_cons_zero, List.set_cons_succ, i64_w, i32_w]
                 rfl
                refine pure_ (i := 23) (N := some 109) (v := undef) (a' := ?_) (bm 37 16777215) rfl rfl (any_of HT_.out (by kernel_rfl)) (fun _ _ _ h => h) (Or.inr ⟨by rfl, rfl⟩) ?_ ?_
                rotate_left
                ·simp only [Act.put, List.setIfInBounds_toArray, List.set_cons_zero, List.set_cons_succ, i64_w, i32_w]
                 rfl
                refine pure_ (i := 24) (N := some 110) (v := undef) (a' := ?_) (bm 37 33554431) rfl rfl (any_of HT_.out (by kernel_rfl)) (fun _ _ _ h => h) (Or.inr ⟨by rfl, rfl⟩) ?_ ?_
                rotate_left
                ·simp only [Act.put, List.setIfInBounds_toArray, List.set_cons_zero, List.set_cons_succ, i64_w, i32_w]
                 rfl
                refine pure_ (i := 25) (N := some 111) (v := undef) (a' := ?_) (bm 37 67108863) rfl rfl (any_of HT_.out (by kernel_rfl)) (fun _ _ _ h => h) (Or.inr ⟨by rfl, rfl⟩) ?_ ?_
                rotate_left
                ·simp only [Act.put, List.setIfInBounds_toArray, List.set_cons_zero, List.set_cons_succ, i64_w, i32_w]
                 rfl
                refine pure_ (i := 26) (N := some 112) (v := undef) (a' := ?_) (bm 37 134217727) rfl rfl (any_of HT_.out (by kernel_rfl)) (fun _ _ _ h => h) (Or.inr ⟨by rfl, rfl⟩) ?_ ?_
                rotate_left
                ·simp only [Act.put, List.setIfInBounds_toArray, List.set_cons_zero, List.set_cons_succ, i64_w, i32_w]
                 rfl
                refine pure_ (i := 27) (N := some 113) (v := undef) (a' := ?_) (bm 37 268435455) rfl rfl (any_of HT_.out (by kernel_rfl)) (fun _ _ _ h => h) (Or.inr ⟨by rfl, rfl⟩) ?_ ?_
                rotate_left
                ·simp only [Act.put, List.setIfInBounds_toArray, List.set_cons_zero, List.set_cons_succ, i64_w, i32_w]
                 rfl
                refine pure_ (i := 28) (N := some 114) (v := undef) (a' := ?_) (bm 37 536870911) rfl rfl (any_of HT_.out (by kernel_rfl)) (fun _ _ _ h => h) (Or.inr ⟨by rfl, rfl⟩) ?_ ?_
                rotate_left
                ·simp only [Act.put, List.setIfInBounds_toArray, List.set_cons_zero, List.set_cons_succ, i64_w, i32_w]
                 rfl
                refine pure_ (i := 29) (N := some 115) (v := undef) (a' := ?_) (bm 37 1073741823) rfl rfl (any_of HT_.out (by kernel_rfl)) (fun _ _ _ h => h) (Or.inr ⟨by rfl, rfl⟩) ?_ ?_
                rotate_left
                ·simp only [Act.put, List.setIfInBounds_toArray, List.set_cons_zero, List.set_cons_succ, i64_w, i32_w]
                 rfl
                refine pure_ (i := 30) (N := some 116) (v := undef) (a' := ?_) (bm 37 2147483647) rfl rfl (any_of HT_.out (by kernel_rfl)) (fun _ _ _ h => h) (Or.inr ⟨by rfl, rfl⟩) ?_ ?_
                rotate_left
                ·simp only [Act.put, List.setIfInBounds_toArray, List.set_cons_zero, List.set_cons_succ, i64_w, i32_w]
                 rfl
                refine pure_ (i := 31) (N := some 117) (v := undef) (a' := ?_) (bm 37 4294967295) rfl rfl (any_of HT_.out (by kernel_rfl)) (fun _ _ _ h => h) (Or.inr ⟨by rfl, rfl⟩) ?_ ?_
                rotate_left
                ·simp only [Act.put, List.setIfInBounds_toArray, List.set_cons_zero, List.set_cons_succ, i64_w, i32_w]
                 rfl
                refine pure_ (i := 32) (N := some 118) (v := undef) (a' := ?_) (bm 37 8589934591) rfl rfl (any_of HT_.out (by kernel_rfl)) (fun _ _ _ h => h) (Or.inr ⟨by rfl, rfl⟩) ?_ ?_
                rotate_left
                ·simp only [Act.put, List.setIfInBounds_toArray, List.set_cons_zero, List.set_cons_succ, i64_w, i32_w]
                 rfl
                refine pure_ (i := 33) (N := some 119) (v := undef) (a' := ?_) (bm 37 17179869183) rfl rfl (any_of HT_.out (by kernel_rfl)) (fun _ _ _ h => h) (Or.inr ⟨by rfl, rfl⟩) ?_ ?_
                rotate_left
                ·simp only [Act.put, List.setIfInBounds_toArray, List.set_cons_zero, List.set_cons_succ, i64_w, i32_w]
                 rfl
                refine pure_ (i := 34) (N := some 120) (v := undef) (a' := ?_) (bm 37 34359738367) rfl rfl (any_of HT_.out (by kernel_rfl)) (fun _ _ _ h => h) (Or.inr ⟨by rfl, rfl⟩) ?_ ?_
                rotate_left
                ·simp only [Act.put, List.setIfInBounds_toArray, List.set_cons_zero, List.set_cons_succ, i64_w, i32_w]
                 rfl
                refine pure_ (i := 35) (N := some 121) (v := undef) (a' := ?_) (bm 37 68719476735) rfl rfl (any_of HT_.out (by kernel_rfl)) (fun _ _ _ h => h) (Or.inr ⟨by rfl, rfl⟩) ?_ ?_
                rotate_left
                ·simp only [Act.put, List.setIfInBounds_toArray, List.set_cons_zero, List.set_cons_succ, i64_w, i32_w]
                 rfl
                refine pure_ (i := 36) (N := some 122) (v := ?_) (a' := ?_) (bm 37 137438953471) rfl rfl (any_of HT_.out (by kernel_rfl)) (fun _ _ _ h => h) (Or.inl ⟨by rfl, ?_⟩) ?_ ?_
                rotate_left
                ·intro w'
                 go_simp
                 with_reducible rfl
                rotate_left
                ·simp only [Act.put, List.setIfInBounds_toArray, List.set_cons_zero, List.set_cons_succ, i64_w, i32_w]
                 rfl
                refine done_ (done_of HT_.out (by kernel_rfl)) ?_
                try go_wp2
                go_ret
                exact ⟨z2_6, z2_0⟩
              ·rw [if_neg c36] at H
               exact absurd H (by simp)
             ·rw [if_neg c35] at H
              have c35b0 : decide (x10_4 < (((rd_T119 l0 x6_1).f4).length : Int)) = false := decide_eq_false c35
              clear c35
              have H' := Aside0.mk H
              clear H
              have hcz64_0 : wr.cell? ⟨gb129, 0, none⟩ = some (.int .i64 ((rd_T119 l0 x6_1).f0)) := (blk_cell BK129.out 0).trans rfl
              have hcz64_1 : wr.cell? ⟨gb129, 1, none⟩ = some (.slice A128_1 ((rd_T119 l0 x6_1).f1).length c128_1) := (blk_cell BK129.out 1).trans rfl
              have hcz64_2 : wr.cell? ⟨gb129, 2, none⟩ = some (.slice A128_2 ((rd_T119 l0 x6_1).f2).length c128_2) := (blk_cell BK129.out 2).trans rfl
              have hcz64_3 : wr.cell? ⟨gb129, 3, none⟩ = some (.slice A128_3 ((rd_T119 l0 x6_1).f3).length c128_3) := (blk_cell BK129.out 3).trans rfl
              have hcz64_4 : wr.cell? ⟨gb129, 4, none⟩ = some (.slice A128_4 ((rd_T119 l0 x6_1).f4).length c128_4) := (blk_cell BK129.out 4).trans rfl
              have hfz64_0 := blk_frozen BK129.out 0
              have hfz64_1 := blk_frozen BK129.out 1
              have hfz64_2 := blk_frozen BK129.out 2
              have hfz64_3 := blk_frozen BK129.out 3
              have hfz64_4 := blk_frozen BK129.out 4
              go_wp2
              go_roundg k4
              case measure => have := HK1.out; have := HJ5.out; have := HK3.out; have := HK4.out; omega
              case rel => exact ⟨(wrap64 (x5_1 + (((rd_T119 l0 x6_1).f4).length : Int))), (wrap64 (x6_1 + 1)), z2_7, z2_7, H', ⟨z2_11⟩, ⟨z2_0⟩⟩
    ·rw [if_neg c4] at H
     exact absurd H (by simp)
   ·rw [if_neg c3] at H
    have c3b0 : decide (x6_1 < (l0.length : Int)) = false := decide_eq_false c3
    clear c3
    replace H := Option.bind_eq_some_iff.mp H
    obtain ⟨t126, A650, H⟩ := H
    replace H : (if t126 = true then ((spec_l1In.f (l0.length : Int) 1 6).bind fun t127 => (if t127 = true then (some (decide (x5_1 ≤ 2000))) else (some false))) else (some false)) = some r := H
    have A65 := Aside0.mk A650
    clear A650
    by_cases c66 : t126 = true
    ·subst c66
     have H1 : ((spec_l1In.f (l0.length : Int) 1 6).bind fun t127 => (if t127 = true then (some (decide (x5_1 ≤ 2000))) else (some false))) = some r := by rw [if_pos rfl] at H; exact H
     clear H
     have H := H1
     clear H1
     replace H := Option.bind_eq_some_iff.mp H
     obtain ⟨t127, A670, H⟩ := H
     replace H : (if t127 = true then (some (decide (x5_1 ≤ 2000))) else (some false)) = some r := H
     have A67 := Aside0.mk A670
     clear A670
     by_cases c68 : t127 = true
     ·subst c68
      have H1 : (some (decide (x5_1 ≤ 2000))) = some r := by rw [if_pos rfl] at H; exact H
      clear H
      have H := H1
      clear H1
      obtain rfl := Option.some.inj H
      go_wp2_with (first | ((with_reducible refine gate_callee (f := 71) rfl ?_); refine goesL_ (some 129) rfl rfl Try.func71 (by kernel_rfl) rfl #[.int .i64 a1, .int .i64 0, .int .i64 16] rfl z2_2 ?_; (with_reducible refine (spec_l1In.calls a1 0 16 true _ A65.out).mono ?_); rintro e w' ⟨rfl, ⟨nd, rfl⟩⟩; refine ⟨_, rfl, ?_⟩) | (go_at_call 71; (with_reducible refine (spec_l1In.calls (l0.length : Int) 1 6 true _ A67.out).mono ?_); rintro e w' ⟨rfl, ⟨nd, rfl⟩⟩))
      go_ret
      exact ⟨z2_6, z2_5⟩
     ·replace c68 := Bool.eq_false_iff.mpr c68
      subst c68
      have H1 : (some false) = some r := by rw [if_neg (show ¬ (false = true) by decide)] at H; exact H
      clear H
      have H := H1
      clear H1
      obtain rfl := Option.some.inj H
      go_wp2_with (first | ((with_reducible refine gate_callee (f := 71) rfl ?_); refine goesL_ (some 129) rfl rfl Try.func71 (by kernel_rfl) rfl #[.int .i64 a1, .int .i64 0, .int .i64 16] rfl z2_2 ?_; (with_reducible refine (spec_l1In.calls a1 0 16 true _ A65.out).mono ?_); rintro e w' ⟨rfl, ⟨nd, rfl⟩⟩; refine ⟨_, rfl, ?_⟩) | (go_at_call 71; (with_reducible refine (spec_l1In.calls (l0.length : Int) 1 6 false _ A67.out).mono ?_); rintro e w' ⟨rfl, ⟨nd, rfl⟩⟩))
      go_ret
      exact ⟨z2_6, z2_5⟩
    ·replace c66 := Bool.eq_false_iff.mpr c66
     subst c66
     have H1 : (some false) = some r := by rw [if_neg (show ¬ (false = true) by decide)] at H; exact H
     clear H
     have H := H1
     clear H1
     obtain rfl := Option.some.inj H
     go_wp2_with (first | ((with_reducible refine gate_callee (f := 71) rfl ?_); refine goesL_ (some 129) rfl rfl Try.func71 (by kernel_rfl) rfl #[.int .i64 a1, .int .i64 0, .int .i64 16] rfl z2_2 ?_; (with_reducible refine (spec_l1In.calls a1 0 16 false _ A65.out).mono ?_); rintro e w' ⟨rfl, ⟨nd, rfl⟩⟩; refine ⟨_, rfl, ?_⟩))
     go_ret
     exact ⟨z2_6, z2_5⟩

end Go.Proofs.Ytloiafnoekpaoab.PFnExactPiecesValid
