/- Laid by a program of this session out of the translation: functions, their contracts, the row. Lean checks it. -/
import Derived.Test.YtloiafnoekpaoabPFnExactPiecesValidx0
import Derived.Test.YtloiafnoekpaoabPFnExactPiecesValidx1
import Derived.Test.YtloiafnoekpaoabPFnExactPiecesValidx2
import Derived.Test.YtloiafnoekpaoabPFnExactPiecesValidx3
import Derived.Test.YtloiafnoekpaoabPFnExactPiecesValidx8
import Derived.Test.YtloiafnoekpaoabPFnExactPiecesValidx9
namespace Go.Proofs.Ytloiafnoekpaoab.PFnExactPiecesValid
open Go.RowKit Go.Proofs.YtloiafnoekpaoabW.PrintWords Go.Proofs.YtloiafnoekpaoabW.PrintLast Go.Proofs.YtloiafnoekpaoabW.PrintMore
theorem z10_0 {p : Prop} (h : p := by repeat (first | (with_reducible first | exact HB.out | apply below_alloc | apply pw_below_drewN | apply below_drew1) | exact HB.out)) : p := h
theorem z10_1 {p : Prop} (h : p := by (try simp only [List.map_toArray, List.map_cons, List.map_nil]); first | done | rfl | (simp only [List.length_drop, List.length_take]; rfl)) : p := h
theorem z10_2 {p : Prop} (h : p := by (with_reducible repeat (first | apply Kd.S_alloc | apply Kd.S_drewN | apply Kd.S_drew)); exact HO257.out) : p := h
theorem z10_3 {p : Prop} (h : p := by first | rfl | (simp [errW_none, errW_some] <;> rfl) | (simp [*, errW_none, errW_some] <;> rfl)) : p := h
theorem z10_4 {p : Prop} (h : p := by first | (with_reducible assumption) | assumption) : p := h
theorem z10_5 {p : Prop} (h : p := by (with_reducible repeat (first | apply Kd.S_alloc | apply Kd.S_drewN | apply Kd.S_drew)); exact HO261.out) : p := h
attribute [local go_sem] max2_int min2_int max_two min_two max_three min_three max_four min_four   -- for this text's walks alone
set_option linter.unusedVariables false
set_option linter.unusedSimpArgs false

/-! ### laws_eqPieceS: function 48 -/
def laws_eqPieceS.l0 : Nat → List (S119) → List (S119) → Int → Option (Bool)
 | 0, _, _, _ => none
 | k + 1, x0, x1, x5 => if x5 < (x0.length : Int) then (if 0 ≤ x5 then (if x5 < (x1.length : Int) then ((laws_eqPiece.f k ((rd_T119 x0 x5).f0) ((rd_T119 x0 x5).f1) ((rd_T119 x0 x5).f2) ((rd_T119 x0 x5).f3) ((rd_T119 x0 x5).f4) ((rd_T119 x1 x5).f0) ((rd_T119 x1 x5).f1) ((rd_T119 x1 x5).f2) ((rd_T119 x1 x5).f3) ((rd_T119 x1 x5).f4)).bind fun t253 => (if t253 = true then (laws_eqPieceS.l0 k x0 x1 (wrap64 (x5 + 1))) else (some false))) else (none)) else (none)) else (some true)
def laws_eqPieceS.f (k : Nat) (l0 : List (S119)) (l1 : List (S119)) : Option (Bool) := if (l0.length : Int) = (l1.length : Int) then (laws_eqPieceS.l0 k l0 l1 0) else (some false)
theorem laws_eqPieceS.mono_l : ∀ k, (∀ y0 y1 y2, LeO (laws_eqPieceS.l0 k y0 y1 y2) (laws_eqPieceS.l0 (k + 1) y0 y1 y2))
 | 0 => fun _ _ _ r h => by simp [laws_eqPieceS.l0] at h
 | k + 1 => by
  have ih0 := laws_eqPieceS.mono_l k
  ·intro y0 y1 y2
   unfold laws_eqPieceS.l0
   repeat' first
   | (with_reducible exact ih0 _ _ _)
   | (with_reducible exact laws_eqPiece.mono _ _ _ _ _ _ _ _ _ _ _)
   | (with_reducible exact LeO.refl _)
   | (with_reducible exact LeO.none _)
   | (with_reducible refine LeO.ite ?_ ?_)
   | (with_reducible refine LeO.bind ?_ (fun _ => ?_))
   | exact ih0 _ _ _
   | exact laws_eqPiece.mono _ _ _ _ _ _ _ _ _ _ _
   | exact LeO.none _
   | refine LeO.ite ?_ ?_
   | refine LeO.bind ?_ (fun _ => ?_)
theorem laws_eqPieceS.mono : ∀ a0 a1 k, LeO (laws_eqPieceS.f k a0 a1) (laws_eqPieceS.f (k + 1) a0 a1) := by
 intro a0 a1 k
 have ih0 := laws_eqPieceS.mono_l k
 unfold laws_eqPieceS.f
 repeat' first
   | (with_reducible exact ih0 _ _ _)
   | (with_reducible exact laws_eqPiece.mono _ _ _ _ _ _ _ _ _ _ _)
   | (with_reducible exact LeO.refl _)
   | (with_reducible exact LeO.none _)
   | (with_reducible refine LeO.ite ?_ ?_)
   | (with_reducible refine LeO.bind ?_ (fun _ => ?_))
   | exact ih0 _ _ _
   | exact laws_eqPiece.mono _ _ _ _ _ _ _ _ _ _ _
   | exact LeO.none _
   | refine LeO.ite ?_ ?_
   | refine LeO.bind ?_ (fun _ => ?_)
def laws_eqPieceS.T6 : Bool × List (List Nat × List Nat) := (true, [([], []), ([], []), ([0, 1], [0, 1]), ([2], [2]), ([], []), ([], []), ([4, 5], [4, 5]), ([6], [6]), ([3, 7], [3, 7]), ([8], [8])])
def laws_eqPieceS.B6 : List Nat := [0, 0, 3, 7, 0, 0, 48, 112, 255, 511]
theorem laws_eqPieceS.tab6 : rtab .any (opsOf Try.f48 6) = laws_eqPieceS.T6 := by kernel_rfl
theorem laws_eqPieceS.bits6 : waitsOk laws_eqPieceS.T6.2 laws_eqPieceS.B6 = true := by kernel_rfl
set_option maxHeartbeats 8000000 in
set_option maxRecDepth 100000 in
theorem laws_eqPieceS.calls (k : Nat) (A0 : Option Addr) (c0 : Nat) (l0 : List (S119)) (A1 : Option Addr) (c1 : Nat) (l1 : List (S119)) (r : Bool) (w : World) (hr0 : Kd.C k119 w A0 l0.length l0) (hc0 : l0.length ≤ c0) (hr1 : Kd.C k119 w A1 l1.length l1) (hc1 : l1.length ≤ c1) (h : laws_eqPieceS.f k l0 l1 = some r) :
  Calls Try.prog 48 #[.slice A0 l0.length c0, .slice A1 l1.length c1] w fun e w' => e = .returned (.bool r) ∧ Below w.heap.size w w' := by
 have hu119 := Try.underlying119
 have HR0 := Aside0.mk hr0
 have HC0 := Aside0.mk hc0
 clear hr0 hc0
 have HR1 := Aside0.mk hr1
 have HC1 := Aside0.mk hc1
 clear hr1 hc1
 have HB := Aside0.mk (Below.refl w.heap.size w)
 have H : (if (l0.length : Int) = (l1.length : Int) then (laws_eqPieceS.l0 k l0 l1 0) else (some false)) = some r := h
 clear h
 by_cases c3 : (l0.length : Int) = (l1.length : Int)
 ·rw [if_pos c3] at H
  have c3b0 : ((l0.length : Int) == (l1.length : Int)) = true := beq_iff_eq.mpr c3
  have c3b1 : ((l0.length : Int) != (l1.length : Int)) = false := bne_eq_false_iff_eq.mpr c3
  have c3b2 : (l0.length == l1.length) = true := by first | simpa using c3 | (simp at c3 ⊢; omega)
  clear c3
  have H' := Aside0.mk H
  clear H
  go_enter Try.func48, Try.ntmps48
  go_wp2
  go_loopg [5] k (fun kq v5 w' => ∃ (x5_1 : Int), v5 = .int .i64 x5_1 ∧ Aside0 (laws_eqPieceS.l0 kq l0 l1 x5_1 = some r) ∧ Aside0 (kq ≤ k) ∧ Aside0 (Below w.heap.size w w'))
  case atStart => exact ⟨(0), (by first | rfl | (simp; done) | (simp [*]; done)), H', ⟨Nat.le_refl _⟩, ⟨z10_0⟩⟩
  case round =>
   clear H'
   try clear c1
   try clear p2
   try clear c3
   try clear c3b0
   try clear c3b1
   try clear c3b2
   obtain ⟨x5_1, rfl, HA, HK1, HB⟩ := hrel
   cases gk with
   | zero => exact absurd HA.out (by simp [laws_eqPieceS.l0])
   | succ k1 =>
    have H := HA.out
    clear HA
    simp only [laws_eqPieceS.l0] at H
    by_cases c4 : x5_1 < (l0.length : Int)
    ·rw [if_pos c4] at H
     have c4b0 : decide (x5_1 < (l0.length : Int)) = true := decide_eq_true c4
     clear c4
     by_cases c5 : 0 ≤ x5_1
     ·rw [if_pos c5] at H
      have c5b0 : decide (0 ≤ x5_1) = true := decide_eq_true c5
      clear c5
      by_cases c6 : x5_1 < (l1.length : Int)
      ·rw [if_pos c6] at H
       have c6b0 : decide (x5_1 < (l1.length : Int)) = true := decide_eq_true c6
       clear c6
       replace H := Option.bind_eq_some_iff.mp H
       obtain ⟨t253, A70, H⟩ := H
       replace H : (if t253 = true then (laws_eqPieceS.l0 k1 l0 l1 (wrap64 (x5_1 + 1))) else (some false)) = some r := H
       have A7 := Aside0.mk A70
       clear A70
       by_cases c8 : t253 = true
       ·subst c8
        have H1 : (laws_eqPieceS.l0 k1 l0 l1 (wrap64 (x5_1 + 1))) = some r := by rw [if_pos rfl] at H; exact H
        clear H
        have H := H1
        clear H1
        have H' := Aside0.mk H
        clear H
        try go_wp2
        have n0_ := Aside0.mk (below_drew1 HB.out)
        clear HB
        have HB := n0_
        clear n0_
        have p251 : 0 ≤ (x5_1 : Int) := of_decide_eq_true z10_4
        have q251 : x5_1 < (l0.length : Int) := of_decide_eq_true z10_4
        obtain ⟨ad251, A251_1, c251_1, A251_2, c251_2, A251_3, c251_3, A251_4, c251_4, e251, hx251_0, hx251_1, hx251_2, hx251_3, hx251_4, hl251_1, hi251_1, hl251_2, hi251_2, hl251_3, hi251_3, hl251_4, hi251_4⟩ := at_T119 HR0.out x5_1 p251 q251
        have hw251_4 := hx251_4
        have hw251_3 := hx251_3
        have hw251_2 := hx251_2
        have hw251_1 := hx251_1
        have hw251_0 := hx251_0
        cases e251
        replace hx251_0 := (HB.out.cell (World.block_lt_of_cell? w _ hx251_0)).trans hx251_0
        replace hx251_1 := (HB.out.cell (World.block_lt_of_cell? w _ hx251_1)).trans hx251_1
        replace hx251_2 := (HB.out.cell (World.block_lt_of_cell? w _ hx251_2)).trans hx251_2
        replace hx251_3 := (HB.out.cell (World.block_lt_of_cell? w _ hx251_3)).trans hx251_3
        replace hx251_4 := (HB.out.cell (World.block_lt_of_cell? w _ hx251_4)).trans hx251_4
        have HR251_1 := Aside0.mk hi251_1
        have HC251_1 := Aside0.mk hl251_1
        clear hi251_1 hl251_1
        have HR251_2 := Aside0.mk hi251_2
        have HC251_2 := Aside0.mk hl251_2
        clear hi251_2 hl251_2
        have HR251_3 := Aside0.mk hi251_3
        have HC251_3 := Aside0.mk hl251_3
        clear hi251_3 hl251_3
        have HR251_4 := Aside0.mk hi251_4
        have HC251_4 := Aside0.mk hl251_4
        clear hi251_4 hl251_4
        replace p251 := eq_true p251
        replace q251 := eq_true q251
        have p252 : 0 ≤ (x5_1 : Int) := of_decide_eq_true z10_4
        have q252 : x5_1 < (l1.length : Int) := of_decide_eq_true z10_4
        obtain ⟨ad252, A252_1, c252_1, A252_2, c252_2, A252_3, c252_3, A252_4, c252_4, e252, hx252_0, hx252_1, hx252_2, hx252_3, hx252_4, hl252_1, hi252_1, hl252_2, hi252_2, hl252_3, hi252_3, hl252_4, hi252_4⟩ := at_T119 HR1.out x5_1 p252 q252
        have hw252_4 := hx252_4
        have hw252_3 := hx252_3
        have hw252_2 := hx252_2
        have hw252_1 := hx252_1
        have hw252_0 := hx252_0
        cases e252
        replace hx252_0 := (HB.out.cell (World.block_lt_of_cell? w _ hx252_0)).trans hx252_0
        replace hx252_1 := (HB.out.cell (World.block_lt_of_cell? w _ hx252_1)).trans hx252_1
        replace hx252_2 := (HB.out.cell (World.block_lt_of_cell? w _ hx252_2)).trans hx252_2
        replace hx252_3 := (HB.out.cell (World.block_lt_of_cell? w _ hx252_3)).trans hx252_3
        replace hx252_4 := (HB.out.cell (World.block_lt_of_cell? w _ hx252_4)).trans hx252_4
        have HR252_1 := Aside0.mk hi252_1
        have HC252_1 := Aside0.mk hl252_1
        clear hi252_1 hl252_1
        have HR252_2 := Aside0.mk hi252_2
        have HC252_2 := Aside0.mk hl252_2
        clear hi252_2 hl252_2
        have HR252_3 := Aside0.mk hi252_3
        have HC252_3 := Aside0.mk hl252_3
        clear hi252_3 hl252_3
        have HR252_4 := Aside0.mk hi252_4
        have HC252_4 := Aside0.mk hl252_4
        clear hi252_4 hl252_4
        replace p252 := eq_true p252
        replace q252 := eq_true q252
        refine start_ (n := 10) (S := fun w' => w'.cell? (ad251.add ((x5_1).toNat * 5)) = some (.int .i64 ((rd_T119 l0 x5_1).f0)) ∧ w'.cell? ⟨(ad251.add ((x5_1).toNat * 5)).block, (ad251.add ((x5_1).toNat * 5)).off + 1, none⟩ = some (.slice A251_1 ((rd_T119 l0 x5_1).f1).length c251_1) ∧ w'.cell? ⟨(ad251.add ((x5_1).toNat * 5)).block, (ad251.add ((x5_1).toNat * 5)).off + 2, none⟩ = some (.slice A251_2 ((rd_T119 l0 x5_1).f2).length c251_2) ∧ w'.cell? ⟨(ad251.add ((x5_1).toNat * 5)).block, (ad251.add ((x5_1).toNat * 5)).off + 3, none⟩ = some (.slice A251_3 ((rd_T119 l0 x5_1).f3).length c251_3) ∧ w'.cell? ⟨(ad251.add ((x5_1).toNat * 5)).block, (ad251.add ((x5_1).toNat * 5)).off + 4, none⟩ = some (.slice A251_4 ((rd_T119 l0 x5_1).f4).length c251_4) ∧ w'.cell? (ad252.add ((x5_1).toNat * 5)) = some (.int .i64 ((rd_T119 l1 x5_1).f0)) ∧ w'.cell? ⟨(ad252.add ((x5_1).toNat * 5)).block, (ad252.add ((x5_1).toNat * 5)).off + 1, none⟩ = some (.slice A252_1 ((rd_T119 l1 x5_1).f1).length c252_1) ∧ w'.cell? ⟨(ad252.add ((x5_1).toNat * 5)).block, (ad252.add ((x5_1).toNat * 5)).off + 2, none⟩ = some (.slice A252_2 ((rd_T119 l1 x5_1).f2).length c252_2) ∧ w'.cell? ⟨(ad252.add ((x5_1).toNat * 5)).block, (ad252.add ((x5_1).toNat * 5)).off + 3, none⟩ = some (.slice A252_3 ((rd_T119 l1 x5_1).f3).length c252_3) ∧ w'.cell? ⟨(ad252.add ((x5_1).toNat * 5)).block, (ad252.add ((x5_1).toNat * 5)).off + 4, none⟩ = some (.slice A252_4 ((rd_T119 l1 x5_1).f4).length c252_4)) (ds := []) (bm 10 0) (by kernel_rfl) rfl rfl ⟨((HB.out.cell (World.block_lt_of_cell? w _ hw251_0)).trans hw251_0), ((HB.out.cell (World.block_lt_of_cell? w _ hw251_1)).trans hw251_1), ((HB.out.cell (World.block_lt_of_cell? w _ hw251_2)).trans hw251_2), ((HB.out.cell (World.block_lt_of_cell? w _ hw251_3)).trans hw251_3), ((HB.out.cell (World.block_lt_of_cell? w _ hw251_4)).trans hw251_4), ((HB.out.cell (World.block_lt_of_cell? w _ hw252_0)).trans hw252_0), ((HB.out.cell (World.block_lt_of_cell? w _ hw252_1)).trans hw252_1), ((HB.out.cell (World.block_lt_of_cell? w _ hw252_2)).trans hw252_2), ((HB.out.cell (World.block_lt_of_cell? w _ hw252_3)).trans hw252_3), ((HB.out.cell (World.block_lt_of_cell? w _ hw252_4)).trans hw252_4)⟩ (fun hHeld => ?_); refine with_tabW laws_eqPieceS.tab6 laws_eqPieceS.bits6 (fun HT_ HW_ => ?_)
        generalize wr.drew = w9 at HB HR251_1 HR251_2 HR251_3 HR251_4 HR252_1 HR252_2 HR252_3 HR252_4 hx251_0 hx251_1 hx251_2 hx251_3 hx251_4 hx252_0 hx252_1 hx252_2 hx252_3 hx252_4 hHeld ⊢
        refine pure_ (i := 0) (N := some 17) (v := ?_) (a' := ?_) (bm 10 1) rfl rfl (any_of HT_.out (by kernel_rfl)) (fun _ _ _ h => h) (Or.inl ⟨by rfl, ?_⟩) ?_ ?_
        rotate_left
        ·intro w'
         go_simp
         with_reducible rfl
        rotate_left
        ·simp only [Act.put, List.setIfInBounds_toArray, List.set_cons_zero, List.set_cons_succ, i64_w, i32_w]
         rfl
        refine pure_ (i := 1) (N := some 18) (v := ?_) (a' := ?_) (bm 10 3) rfl rfl (any_of HT_.out (by kernel_rfl)) (fun _ _ _ h => h) (Or.inl ⟨by rfl, ?_⟩) ?_ ?_
        rotate_left
        ·intro w'
         go_simp
         with_reducible rfl
        rotate_left
        ·simp only [Act.put, List.setIfInBounds_toArray, List.set_cons_zero, List.set_cons_succ, i64_w, i32_w]
         rfl
        refine pure_ (i := 2) (N := some 19) (v := ?_) (a' := ?_) (bm 10 7) rfl rfl (any_of HT_.out (by kernel_rfl)) (fun _ _ _ h => h) (Or.inl ⟨by rfl, ?_⟩) ?_ ?_
        rotate_left
        ·intro w'
         go_simp
         with_reducible rfl
        rotate_left
        ·simp only [Act.put, List.setIfInBounds_toArray, List.set_cons_zero, List.set_cons_succ, i64_w, i32_w]
         rfl
        refine pure_ (i := 4) (N := some 21) (v := ?_) (a' := ?_) (bm 10 23) rfl rfl (any_of HT_.out (by kernel_rfl)) (fun _ _ _ h => h) (Or.inl ⟨by rfl, ?_⟩) ?_ ?_
        rotate_left
        ·intro w'
         go_simp
         with_reducible rfl
        rotate_left
        ·simp only [Act.put, List.setIfInBounds_toArray, List.set_cons_zero, List.set_cons_succ, i64_w, i32_w]
         rfl
        refine pure_ (i := 5) (N := some 22) (v := ?_) (a' := ?_) (bm 10 55) rfl rfl (any_of HT_.out (by kernel_rfl)) (fun _ _ _ h => h) (Or.inl ⟨by rfl, ?_⟩) ?_ ?_
        rotate_left
        ·intro w'
         go_simp
         with_reducible rfl
        rotate_left
        ·simp only [Act.put, List.setIfInBounds_toArray, List.set_cons_zero, List.set_cons_succ, i64_w, i32_w]
         rfl
        refine pure_ (i := 6) (N := some 23) (v := ?_) (a' := ?_) (bm 10 119) rfl rfl (any_of HT_.out (by kernel_rfl)) (fun _ _ _ h => h) (Or.inl ⟨by rfl, ?_⟩) ?_ ?_
        rotate_left
        ·intro w'
         go_simp
         with_reducible rfl
        rotate_left
        ·simp only [Act.put, List.setIfInBounds_toArray, List.set_cons_zero, List.set_cons_succ, i64_w, i32_w]
         rfl
        refine take_ (i := 3) (N := some 20) (v := ?_) (a' := ?_) (bm 10 127) rfl rfl (take_ofW HT_.out HW_.out (by kernel_rfl)) (fun _ _ _ h => h) (Or.inl ⟨by rfl, ?_⟩) hHeld ?_ ?_
        rotate_left
        ·rintro w' ⟨s0, s1, s2, s3, s4, s5, s6, s7, s8, s9⟩
         go_simp
         with_reducible rfl
        rotate_left
        ·simp only [Act.put, List.setIfInBounds_toArray, List.set_cons_zero, List.set_cons_succ, i64_w, i32_w]
         rfl
        refine take_ (i := 7) (N := some 24) (v := ?_) (a' := ?_) (bm 10 255) rfl rfl (take_ofW HT_.out HW_.out (by kernel_rfl)) (fun _ _ _ h => h) (Or.inl ⟨by rfl, ?_⟩) hHeld ?_ ?_
        rotate_left
        ·rintro w' ⟨s0, s1, s2, s3, s4, s5, s6, s7, s8, s9⟩
         go_simp
         with_reducible rfl
        rotate_left
        ·simp only [Act.put, List.setIfInBounds_toArray, List.set_cons_zero, List.set_cons_succ, i64_w, i32_w]
         rfl
        refine one_ (i := 8) (N := some 25) (bm 10 511) rfl rfl (one_of HT_.out (by kernel_rfl)) (by decide) (fun K hK => ?_)
        refine goes_ Try.func104 (by kernel_rfl) rfl #[.agg #[.int .i64 ((rd_T119 l0 x5_1).f0), .slice A251_1 ((rd_T119 l0 x5_1).f1).length c251_1, .slice A251_2 ((rd_T119 l0 x5_1).f2).length c251_2, .slice A251_3 ((rd_T119 l0 x5_1).f3).length c251_3, .slice A251_4 ((rd_T119 l0 x5_1).f4).length c251_4], .agg #[.int .i64 ((rd_T119 l1 x5_1).f0), .slice A252_1 ((rd_T119 l1 x5_1).f1).length c252_1, .slice A252_2 ((rd_T119 l1 x5_1).f2).length c252_2, .slice A252_3 ((rd_T119 l1 x5_1).f3).length c252_3, .slice A252_4 ((rd_T119 l1 x5_1).f4).length c252_4]] (by rfl) rfl rfl z10_1 ?_
        with_reducible refine (laws_eqPiece.calls k1 ((rd_T119 l0 x5_1).f0) _ _ ((rd_T119 l0 x5_1).f1) _ _ ((rd_T119 l0 x5_1).f2) _ _ ((rd_T119 l0 x5_1).f3) _ _ ((rd_T119 l0 x5_1).f4) ((rd_T119 l1 x5_1).f0) _ _ ((rd_T119 l1 x5_1).f1) _ _ ((rd_T119 l1 x5_1).f2) _ _ ((rd_T119 l1 x5_1).f3) _ _ ((rd_T119 l1 x5_1).f4) true _ ?side1 ?side2 ?side3 ?side4 ?side5 ?side6 ?side7 ?side8 ?side9 ?side10 ?side11 ?side12 ?side13 ?side14 ?side15 ?side16 A7.out).mono ?_
        (case side1 => repeat (first | exact (Kd.C_below HR251_1.out HB.out) | (with_reducible refine Kd.C_alloc ?_ _) | (with_reducible refine Kd.C_drewN ?_ _) | (with_reducible refine Kd.C_drew ?_)))
        (case side2 => exact HC251_1.out)
        (case side3 => repeat (first | exact (Kd.C_below HR251_2.out HB.out) | (with_reducible refine Kd.C_alloc ?_ _) | (with_reducible refine Kd.C_drewN ?_ _) | (with_reducible refine Kd.C_drew ?_)))
        (case side4 => exact HC251_2.out)
        (case side5 => repeat (first | exact (Kd.C_below HR251_3.out HB.out) | (with_reducible refine Kd.C_alloc ?_ _) | (with_reducible refine Kd.C_drewN ?_ _) | (with_reducible refine Kd.C_drew ?_)))
        (case side6 => exact HC251_3.out)
        (case side7 => repeat (first | exact (Kd.C_below HR251_4.out HB.out) | (with_reducible refine Kd.C_alloc ?_ _) | (with_reducible refine Kd.C_drewN ?_ _) | (with_reducible refine Kd.C_drew ?_)))
        (case side8 => exact HC251_4.out)
        (case side9 => repeat (first | exact (Kd.C_below HR252_1.out HB.out) | (with_reducible refine Kd.C_alloc ?_ _) | (with_reducible refine Kd.C_drewN ?_ _) | (with_reducible refine Kd.C_drew ?_)))
        (case side10 => exact HC252_1.out)
        (case side11 => repeat (first | exact (Kd.C_below HR252_2.out HB.out) | (with_reducible refine Kd.C_alloc ?_ _) | (with_reducible refine Kd.C_drewN ?_ _) | (with_reducible refine Kd.C_drew ?_)))
        (case side12 => exact HC252_2.out)
        (case side13 => repeat (first | exact (Kd.C_below HR252_3.out HB.out) | (with_reducible refine Kd.C_alloc ?_ _) | (with_reducible refine Kd.C_drewN ?_ _) | (with_reducible refine Kd.C_drew ?_)))
        (case side14 => exact HC252_3.out)
        (case side15 => repeat (first | exact (Kd.C_below HR252_4.out HB.out) | (with_reducible refine Kd.C_alloc ?_ _) | (with_reducible refine Kd.C_drewN ?_ _) | (with_reducible refine Kd.C_drew ?_)))
        (case side16 => exact HC252_4.out)
        rintro e w10 ⟨rfl, hb⟩
        refine ⟨_, rfl, ?_⟩
        have n0_ := Aside0.mk (below_step z10_0 hb)
        clear HB
        have HB := n0_
        clear n0_
        (try clear hb)
        (try clear hb2)
        (try clear hk)
        (try clear hi)
        refine hK.out _ _ ⟨((HB.out.cell (World.block_lt_of_cell? w _ hw251_0)).trans hw251_0), ((HB.out.cell (World.block_lt_of_cell? w _ hw251_1)).trans hw251_1), ((HB.out.cell (World.block_lt_of_cell? w _ hw251_2)).trans hw251_2), ((HB.out.cell (World.block_lt_of_cell? w _ hw251_3)).trans hw251_3), ((HB.out.cell (World.block_lt_of_cell? w _ hw251_4)).trans hw251_4), ((HB.out.cell (World.block_lt_of_cell? w _ hw252_0)).trans hw252_0), ((HB.out.cell (World.block_lt_of_cell? w _ hw252_1)).trans hw252_1), ((HB.out.cell (World.block_lt_of_cell? w _ hw252_2)).trans hw252_2), ((HB.out.cell (World.block_lt_of_cell? w _ hw252_3)).trans hw252_3), ((HB.out.cell (World.block_lt_of_cell? w _ hw252_4)).trans hw252_4)⟩ (fun hHeld => ?_)
        clear hK K
        refine norm_ (a' := ?_) ?_ ?_
        rotate_left
        ·show Act.put _ (some 25) _ = _
         simp only [Act.put, List.setIfInBounds_toArray, List.set_cons_zero, List.set_cons_succ, i64_w, i32_w]
         rfl
        refine pure_ (i := 9) (N := some 26) (v := ?_) (a' := ?_) (bm 10 1023) rfl rfl (any_of HT_.out (by kernel_rfl)) (fun _ _ _ h => h) (Or.inl ⟨by rfl, ?_⟩) ?_ ?_
        rotate_left
        ·intro w'
         go_simp
         with_reducible rfl
        rotate_left
        ·simp only [Act.put, List.setIfInBounds_toArray, List.set_cons_zero, List.set_cons_succ, i64_w, i32_w]
         rfl
        refine done_ (done_of HT_.out (by kernel_rfl)) ?_
        try go_wp2
        go_roundg k1
        case measure => have := HK1.out; omega
        case rel => exact ⟨(wrap64 (x5_1 + 1)), (by first | rfl | (simp; done) | (simp [*]; done)), H', ⟨by have := HK1.out; omega⟩, ⟨z10_0⟩⟩
       ·replace c8 := Bool.eq_false_iff.mpr c8
        subst c8
        have H1 : (some false) = some r := by rw [if_neg (show ¬ (false = true) by decide)] at H; exact H
        clear H
        have H := H1
        clear H1
        obtain rfl := Option.some.inj H
        try go_wp2
        have n0_ := Aside0.mk (below_drew1 HB.out)
        clear HB
        have HB := n0_
        clear n0_
        have p251 : 0 ≤ (x5_1 : Int) := of_decide_eq_true z10_4
        have q251 : x5_1 < (l0.length : Int) := of_decide_eq_true z10_4
        obtain ⟨ad251, A251_1, c251_1, A251_2, c251_2, A251_3, c251_3, A251_4, c251_4, e251, hx251_0, hx251_1, hx251_2, hx251_3, hx251_4, hl251_1, hi251_1, hl251_2, hi251_2, hl251_3, hi251_3, hl251_4, hi251_4⟩ := at_T119 HR0.out x5_1 p251 q251
        have hw251_4 := hx251_4
        have hw251_3 := hx251_3
        have hw251_2 := hx251_2
        have hw251_1 := hx251_1
        have hw251_0 := hx251_0
        cases e251
        replace hx251_0 := (HB.out.cell (World.block_lt_of_cell? w _ hx251_0)).trans hx251_0
        replace hx251_1 := (HB.out.cell (World.block_lt_of_cell? w _ hx251_1)).trans hx251_1
        replace hx251_2 := (HB.out.cell (World.block_lt_of_cell? w _ hx251_2)).trans hx251_2
        replace hx251_3 := (HB.out.cell (World.block_lt_of_cell? w _ hx251_3)).trans hx251_3
        replace hx251_4 := (HB.out.cell (World.block_lt_of_cell? w _ hx251_4)).trans hx251_4
        have HR251_1 := Aside0.mk hi251_1
        have HC251_1 := Aside0.mk hl251_1
        clear hi251_1 hl251_1
        have HR251_2 := Aside0.mk hi251_2
        have HC251_2 := Aside0.mk hl251_2
        clear hi251_2 hl251_2
        have HR251_3 := Aside0.mk hi251_3
        have HC251_3 := Aside0.mk hl251_3
        clear hi251_3 hl251_3
        have HR251_4 := Aside0.mk hi251_4
        have HC251_4 := Aside0.mk hl251_4
        clear hi251_4 hl251_4
        replace p251 := eq_true p251
        replace q251 := eq_true q251
        have p252 : 0 ≤ (x5_1 : Int) := of_decide_eq_true z10_4
        have q252 : x5_1 < (l1.length : Int) := of_decide_eq_true z10_4
        obtain ⟨ad252, A252_1, c252_1, A252_2, c252_2, A252_3, c252_3, A252_4, c252_4, e252, hx252_0, hx252_1, hx252_2, hx252_3, hx252_4, hl252_1, hi252_1, hl252_2, hi252_2, hl252_3, hi252_3, hl252_4, hi252_4⟩ := at_T119 HR1.out x5_1 p252 q252
        have hw252_4 := hx252_4
        have hw252_3 := hx252_3
        have hw252_2 := hx252_2
        have hw252_1 := hx252_1
        have hw252_0 := hx252_0
        cases e252
        replace hx252_0 := (HB.out.cell (World.block_lt_of_cell? w _ hx252_0)).trans hx252_0
        replace hx252_1 := (HB.out.cell (World.block_lt_of_cell? w _ hx252_1)).trans hx252_1
        replace hx252_2 := (HB.out.cell (World.block_lt_of_cell? w _ hx252_2)).trans hx252_2
        replace hx252_3 := (HB.out.cell (World.block_lt_of_cell? w _ hx252_3)).trans hx252_3
        replace hx252_4 := (HB.out.cell (World.block_lt_of_cell? w _ hx252_4)).trans hx252_4
        have HR252_1 := Aside0.mk hi252_1
        have HC252_1 := Aside0.mk hl252_1
        clear hi252_1 hl252_1
        have HR252_2 := Aside0.mk hi252_2
        have HC252_2 := Aside0.mk hl252_2
        clear hi252_2 hl252_2
        have HR252_3 := Aside0.mk hi252_3
        have HC252_3 := Aside0.mk hl252_3
        clear hi252_3 hl252_3
        have HR252_4 := Aside0.mk hi252_4
        have HC252_4 := Aside0.mk hl252_4
        clear hi252_4 hl252_4
        replace p252 := eq_true p252
        replace q252 := eq_true q252
        refine start_ (n := 10) (S := fun w' => w'.cell? (ad251.add ((x5_1).toNat * 5)) = some (.int .i64 ((rd_T119 l0 x5_1).f0)) ∧ w'.cell? ⟨(ad251.add ((x5_1).toNat * 5)).block, (ad251.add ((x5_1).toNat * 5)).off + 1, none⟩ = some (.slice A251_1 ((rd_T119 l0 x5_1).f1).length c251_1) ∧ w'.cell? ⟨(ad251.add ((x5_1).toNat * 5)).block, (ad251.add ((x5_1).toNat * 5)).off + 2, none⟩ = some (.slice A251_2 ((rd_T119 l0 x5_1).f2).length c251_2) ∧ w'.cell? ⟨(ad251.add ((x5_1).toNat * 5)).block, (ad251.add ((x5_1).toNat * 5)).off + 3, none⟩ = some (.slice A251_3 ((rd_T119 l0 x5_1).f3).length c251_3) ∧ w'.cell? ⟨(ad251.add ((x5_1).toNat * 5)).block, (ad251.add ((x5_1).toNat * 5)).off + 4, none⟩ = some (.slice A251_4 ((rd_T119 l0 x5_1).f4).length c251_4) ∧ w'.cell? (ad252.add ((x5_1).toNat * 5)) = some (.int .i64 ((rd_T119 l1 x5_1).f0)) ∧ w'.cell? ⟨(ad252.add ((x5_1).toNat * 5)).block, (ad252.add ((x5_1).toNat * 5)).off + 1, none⟩ = some (.slice A252_1 ((rd_T119 l1 x5_1).f1).length c252_1) ∧ w'.cell? ⟨(ad252.add ((x5_1).toNat * 5)).block, (ad252.add ((x5_1).toNat * 5)).off + 2, none⟩ = some (.slice A252_2 ((rd_T119 l1 x5_1).f2).length c252_2) ∧ w'.cell? ⟨(ad252.add ((x5_1).toNat * 5)).block, (ad252.add ((x5_1).toNat * 5)).off + 3, none⟩ = some (.slice A252_3 ((rd_T119 l1 x5_1).f3).length c252_3) ∧ w'.cell? ⟨(ad252.add ((x5_1).toNat * 5)).block, (ad252.add ((x5_1).toNat * 5)).off + 4, none⟩ = some (.slice A252_4 ((rd_T119 l1 x5_1).f4).length c252_4)) (ds := []) (bm 10 0) (by kernel_rfl) rfl rfl ⟨((HB.out.cell (World.block_lt_of_cell? w _ hw251_0)).trans hw251_0), ((HB.out.cell (World.block_lt_of_cell? w _ hw251_1)).trans hw251_1), ((HB.out.cell (World.block_lt_of_cell? w _ hw251_2)).trans hw251_2), ((HB.out.cell (World.block_lt_of_cell? w _ hw251_3)).trans hw251_3), ((HB.out.cell (World.block_lt_of_cell? w _ hw251_4)).trans hw251_4), ((HB.out.cell (World.block_lt_of_cell? w _ hw252_0)).trans hw252_0), ((HB.out.cell (World.block_lt_of_cell? w _ hw252_1)).trans hw252_1), ((HB.out.cell (World.block_lt_of_cell? w _ hw252_2)).trans hw252_2), ((HB.out.cell (World.block_lt_of_cell? w _ hw252_3)).trans hw252_3), ((HB.out.cell (World.block_lt_of_cell? w _ hw252_4)).trans hw252_4)⟩ (fun hHeld => ?_); refine with_tabW laws_eqPieceS.tab6 laws_eqPieceS.bits6 (fun HT_ HW_ => ?_)
        generalize wr.drew = w11 at HB HR251_1 HR251_2 HR251_3 HR251_4 HR252_1 HR252_2 HR252_3 HR252_4 hx251_0 hx251_1 hx251_2 hx251_3 hx251_4 hx252_0 hx252_1 hx252_2 hx252_3 hx252_4 hHeld ⊢
        refine pure_ (i := 0) (N := some 17) (v := ?_) (a' := ?_) (bm 10 1) rfl rfl (any_of HT_.out (by kernel_rfl)) (fun _ _ _ h => h) (Or.inl ⟨by rfl, ?_⟩) ?_ ?_
        rotate_left
        ·intro w'
         go_simp
         with_reducible rfl
        rotate_left
        ·simp only [Act.put, List.setIfInBounds_toArray, List.set_cons_zero, List.set_cons_succ, i64_w, i32_w]
         rfl
        refine pure_ (i := 1) (N := some 18) (v := ?_) (a' := ?_) (bm 10 3) rfl rfl (any_of HT_.out (by kernel_rfl)) (fun _ _ _ h => h) (Or.inl ⟨by rfl, ?_⟩) ?_ ?_
        rotate_left
        ·intro w'
         go_simp
         with_reducible rfl
        rotate_left
        ·simp only [Act.put, List.setIfInBounds_toArray, List.set_cons_zero, List.set_cons_succ, i64_w, i32_w]
         rfl
        refine pure_ (i := 2) (N := some 19) (v := ?_) (a' := ?_) (bm 10 7) rfl rfl (any_of HT_.out (by kernel_rfl)) (fun _ _ _ h => h) (Or.inl ⟨by rfl, ?_⟩) ?_ ?_
        rotate_left
        ·intro w'
         go_simp
         with_reducible rfl
        rotate_left
        ·simp only [Act.put, List.setIfInBounds_toArray, List.set_cons_zero, List.set_cons_succ, i64_w, i32_w]
         rfl
        refine pure_ (i := 4) (N := some 21) (v := ?_) (a' := ?_) (bm 10 23) rfl rfl (any_of HT_.out (by kernel_rfl)) (fun _ _ _ h => h) (Or.inl ⟨by rfl, ?_⟩) ?_ ?_
        rotate_left
        ·intro w'
         go_simp
         with_reducible rfl
        rotate_left
        ·simp only [Act.put, List.setIfInBounds_toArray, List.set_cons_zero, List.set_cons_succ, i64_w, i32_w]
         rfl
        refine pure_ (i := 5) (N := some 22) (v := ?_) (a' := ?_) (bm 10 55) rfl rfl (any_of HT_.out (by kernel_rfl)) (fun _ _ _ h => h) (Or.inl ⟨by rfl, ?_⟩) ?_ ?_
        rotate_left
        ·intro w'
         go_simp
         with_reducible rfl
        rotate_left
        ·simp only [Act.put, List.setIfInBounds_toArray, List.set_cons_zero, List.set_cons_succ, i64_w, i32_w]
         rfl
        refine pure_ (i := 6) (N := some 23) (v := ?_) (a' := ?_) (bm 10 119) rfl rfl (any_of HT_.out (by kernel_rfl)) (fun _ _ _ h => h) (Or.inl ⟨by rfl, ?_⟩) ?_ ?_
        rotate_left
        ·intro w'
         go_simp
         with_reducible rfl
        rotate_left
        ·simp only [Act.put, List.setIfInBounds_toArray, List.set_cons_zero, List.set_cons_succ, i64_w, i32_w]
         rfl
        refine take_ (i := 3) (N := some 20) (v := ?_) (a' := ?_) (bm 10 127) rfl rfl (take_ofW HT_.out HW_.out (by kernel_rfl)) (fun _ _ _ h => h) (Or.inl ⟨by rfl, ?_⟩) hHeld ?_ ?_
        rotate_left
        ·rintro w' ⟨s0, s1, s2, s3, s4, s5, s6, s7, s8, s9⟩
         go_simp
         with_reducible rfl
        rotate_left
        ·simp only [Act.put, List.setIfInBounds_toArray, List.set_cons_zero, List.set_cons_succ, i64_w, i32_w]
         rfl
        refine take_ (i := 7) (N := some 24) (v := ?_) (a' := ?_) (bm 10 255) rfl rfl (take_ofW HT_.out HW_.out (by kernel_rfl)) (fun _ _ _ h => h) (Or.inl ⟨by rfl, ?_⟩) hHeld ?_ ?_
        rotate_left
        ·rintro w' ⟨s0, s1, s2, s3, s4, s5, s6, s7, s8, s9⟩
         go_simp
         with_reducible rfl
        rotate_left
        ·simp only [Act.put, List.setIfInBounds_toArray, List.set_cons_zero, List.set_cons_succ, i64_w, i32_w]
         rfl
        refine one_ (i := 8) (N := some 25) (bm 10 511) rfl rfl (one_of HT_.out (by kernel_rfl)) (by decide) (fun K hK => ?_)
        refine goes_ Try.func104 (by kernel_rfl) rfl #[.agg #[.int .i64 ((rd_T119 l0 x5_1).f0), .slice A251_1 ((rd_T119 l0 x5_1).f1).length c251_1, .slice A251_2 ((rd_T119 l0 x5_1).f2).length c251_2, .slice A251_3 ((rd_T119 l0 x5_1).f3).length c251_3, .slice A251_4 ((rd_T119 l0 x5_1).f4).length c251_4], .agg #[.int .i64 ((rd_T119 l1 x5_1).f0), .slice A252_1 ((rd_T119 l1 x5_1).f1).length c252_1, .slice A252_2 ((rd_T119 l1 x5_1).f2).length c252_2, .slice A252_3 ((rd_T119 l1 x5_1).f3).length c252_3, .slice A252_4 ((rd_T119 l1 x5_1).f4).length c252_4]] (by rfl) rfl rfl z10_1 ?_
        with_reducible refine (laws_eqPiece.calls k1 ((rd_T119 l0 x5_1).f0) _ _ ((rd_T119 l0 x5_1).f1) _ _ ((rd_T119 l0 x5_1).f2) _ _ ((rd_T119 l0 x5_1).f3) _ _ ((rd_T119 l0 x5_1).f4) ((rd_T119 l1 x5_1).f0) _ _ ((rd_T119 l1 x5_1).f1) _ _ ((rd_T119 l1 x5_1).f2) _ _ ((rd_T119 l1 x5_1).f3) _ _ ((rd_T119 l1 x5_1).f4) false _ ?side1 ?side2 ?side3 ?side4 ?side5 ?side6 ?side7 ?side8 ?side9 ?side10 ?side11 ?side12 ?side13 ?side14 ?side15 ?side16 A7.out).mono ?_
        (case side1 => repeat (first | exact (Kd.C_below HR251_1.out HB.out) | (with_reducible refine Kd.C_alloc ?_ _) | (with_reducible refine Kd.C_drewN ?_ _) | (with_reducible refine Kd.C_drew ?_)))
        (case side2 => exact HC251_1.out)
        (case side3 => repeat (first | exact (Kd.C_below HR251_2.out HB.out) | (with_reducible refine Kd.C_alloc ?_ _) | (with_reducible refine Kd.C_drewN ?_ _) | (with_reducible refine Kd.C_drew ?_)))
        (case side4 => exact HC251_2.out)
        (case side5 => repeat (first | exact (Kd.C_below HR251_3.out HB.out) | (with_reducible refine Kd.C_alloc ?_ _) | (with_reducible refine Kd.C_drewN ?_ _) | (with_reducible refine Kd.C_drew ?_)))
        (case side6 => exact HC251_3.out)
        (case side7 => repeat (first | exact (Kd.C_below HR251_4.out HB.out) | (with_reducible refine Kd.C_alloc ?_ _) | (with_reducible refine Kd.C_drewN ?_ _) | (with_reducible refine Kd.C_drew ?_)))
        (case side8 => exact HC251_4.out)
        (case side9 => repeat (first | exact (Kd.C_below HR252_1.out HB.out) | (with_reducible refine Kd.C_alloc ?_ _) | (with_reducible refine Kd.C_drewN ?_ _) | (with_reducible refine Kd.C_drew ?_)))
        (case side10 => exact HC252_1.out)
        (case side11 => repeat (first | exact (Kd.C_below HR252_2.out HB.out) | (with_reducible refine Kd.C_alloc ?_ _) | (with_reducible refine Kd.C_drewN ?_ _) | (with_reducible refine Kd.C_drew ?_)))
        (case side12 => exact HC252_2.out)
        (case side13 => repeat (first | exact (Kd.C_below HR252_3.out HB.out) | (with_reducible refine Kd.C_alloc ?_ _) | (with_reducible refine Kd.C_drewN ?_ _) | (with_reducible refine Kd.C_drew ?_)))
        (case side14 => exact HC252_3.out)
        (case side15 => repeat (first | exact (Kd.C_below HR252_4.out HB.out) | (with_reducible refine Kd.C_alloc ?_ _) | (with_reducible refine Kd.C_drewN ?_ _) | (with_reducible refine Kd.C_drew ?_)))
        (case side16 => exact HC252_4.out)
        rintro e w12 ⟨rfl, hb⟩
        refine ⟨_, rfl, ?_⟩
        have n0_ := Aside0.mk (below_step z10_0 hb)
        clear HB
        have HB := n0_
        clear n0_
        (try clear hb)
        (try clear hb2)
        (try clear hk)
        (try clear hi)
        refine hK.out _ _ ⟨((HB.out.cell (World.block_lt_of_cell? w _ hw251_0)).trans hw251_0), ((HB.out.cell (World.block_lt_of_cell? w _ hw251_1)).trans hw251_1), ((HB.out.cell (World.block_lt_of_cell? w _ hw251_2)).trans hw251_2), ((HB.out.cell (World.block_lt_of_cell? w _ hw251_3)).trans hw251_3), ((HB.out.cell (World.block_lt_of_cell? w _ hw251_4)).trans hw251_4), ((HB.out.cell (World.block_lt_of_cell? w _ hw252_0)).trans hw252_0), ((HB.out.cell (World.block_lt_of_cell? w _ hw252_1)).trans hw252_1), ((HB.out.cell (World.block_lt_of_cell? w _ hw252_2)).trans hw252_2), ((HB.out.cell (World.block_lt_of_cell? w _ hw252_3)).trans hw252_3), ((HB.out.cell (World.block_lt_of_cell? w _ hw252_4)).trans hw252_4)⟩ (fun hHeld => ?_)
        clear hK K
        refine norm_ (a' := ?_) ?_ ?_
        rotate_left
        ·show Act.put _ (some 25) _ = _
         simp only [Act.put, List.setIfInBounds_toArray, List.set_cons_zero, List.set_cons_succ, i64_w, i32_w]
         rfl
        refine pure_ (i := 9) (N := some 26) (v := ?_) (a' := ?_) (bm 10 1023) rfl rfl (any_of HT_.out (by kernel_rfl)) (fun _ _ _ h => h) (Or.inl ⟨by rfl, ?_⟩) ?_ ?_
        rotate_left
        ·intro w'
         go_simp
         with_reducible rfl
        rotate_left
        ·simp only [Act.put, List.setIfInBounds_toArray, List.set_cons_zero, List.set_cons_succ, i64_w, i32_w]
         rfl
        refine done_ (done_of HT_.out (by kernel_rfl)) ?_
        try go_wp2
        go_ret
        exact ⟨z10_3, z10_0⟩
      ·rw [if_neg c6] at H
       exact absurd H (by simp)
     ·rw [if_neg c5] at H
      exact absurd H (by simp)
    ·rw [if_neg c4] at H
     have c4b0 : decide (x5_1 < (l0.length : Int)) = false := decide_eq_false c4
     clear c4
     obtain rfl := Option.some.inj H
     go_wp2
     go_ret
     exact ⟨z10_3, z10_0⟩
 ·rw [if_neg c3] at H
  have c3b0 : ((l0.length : Int) == (l1.length : Int)) = false := beq_eq_false_iff_ne.mpr c3
  have c3b1 : ((l0.length : Int) != (l1.length : Int)) = true := bne_iff_ne.mpr c3
  have c3b2 : (l0.length == l1.length) = false := by first | simpa using c3 | (simp at c3 ⊢; omega)
  obtain rfl := Option.some.inj H
  go_enter Try.func48, Try.ntmps48
  go_wp2
  go_ret
  exact ⟨z10_3, z10_0⟩

/-! ### laws_FnExactPiecesValid: function 10 -/
def laws_FnExactPiecesValid.f (k : Nat) (l0 : List (S117)) (a1 : Int) : Option (Bool) := (laws_szPieceS.f k l0 1048576).bind fun t254 => (if t254 < 0 then (some true) else ((laws_toPieceS.f k l0).bind fun t255 => ((spec_PiecesValid.f k t255 a1).bind fun t258 => ((laws_toPieceS.f k l0).bind fun t259 => ((impl_PiecesValid.f k t259 a1).bind fun t262 => (if (t262 != t258) = true then (none) else ((laws_toPieceS.f k l0).bind fun t263 => ((laws_eqPieceS.f k t259 t263).bind fun t266 => (if t266 = true then (some true) else (none))))))))))
theorem laws_FnExactPiecesValid.mono : ∀ a0 a1 k, LeO (laws_FnExactPiecesValid.f k a0 a1) (laws_FnExactPiecesValid.f (k + 1) a0 a1) := by
 intro a0 a1 k
 unfold laws_FnExactPiecesValid.f
 repeat' first
   | (with_reducible exact impl_PiecesValid.mono _ _ _)
   | (with_reducible exact laws_eqPieceS.mono _ _ _)
   | (with_reducible exact laws_szPieceS.mono _ _ _)
   | (with_reducible exact laws_toPieceS.mono _ _)
   | (with_reducible exact spec_PiecesValid.mono _ _ _)
   | (with_reducible exact LeO.refl _)
   | (with_reducible exact LeO.none _)
   | (with_reducible refine LeO.ite ?_ ?_)
   | (with_reducible refine LeO.bind ?_ (fun _ => ?_))
   | exact impl_PiecesValid.mono _ _ _
   | exact laws_eqPieceS.mono _ _ _
   | exact laws_szPieceS.mono _ _ _
   | exact laws_toPieceS.mono _ _
   | exact spec_PiecesValid.mono _ _ _
   | exact LeO.none _
   | refine LeO.ite ?_ ?_
   | refine LeO.bind ?_ (fun _ => ?_)
set_option maxHeartbeats 8000000 in
set_option maxRecDepth 100000 in
theorem laws_FnExactPiecesValid.calls (k : Nat) (A0 : Option Addr) (c0 : Nat) (l0 : List (S117)) (a1 : Int) (r : Bool) (w : World) (hr0 : Kd.C k117 w A0 l0.length l0) (hc0 : l0.length ≤ c0) (h : laws_FnExactPiecesValid.f k l0 a1 = some r) :
  Calls Try.prog 10 #[.slice A0 l0.length c0, .int .i64 a1] w fun e w' => e = .returned (.bool r) ∧ Below w.heap.size w w' := by
 have HR0 := Aside0.mk hr0
 have HC0 := Aside0.mk hc0
 clear hr0 hc0
 have HB := Aside0.mk (Below.refl w.heap.size w)
 have H : ((laws_szPieceS.f k l0 1048576).bind fun t254 => (if t254 < 0 then (some true) else ((laws_toPieceS.f k l0).bind fun t255 => ((spec_PiecesValid.f k t255 a1).bind fun t258 => ((laws_toPieceS.f k l0).bind fun t259 => ((impl_PiecesValid.f k t259 a1).bind fun t262 => (if (t262 != t258) = true then (none) else ((laws_toPieceS.f k l0).bind fun t263 => ((laws_eqPieceS.f k t259 t263).bind fun t266 => (if t266 = true then (some true) else (none))))))))))) = some r := h
 clear h
 replace H := Option.bind_eq_some_iff.mp H
 obtain ⟨t254, A30, H⟩ := H
 replace H : (if t254 < 0 then (some true) else ((laws_toPieceS.f k l0).bind fun t255 => ((spec_PiecesValid.f k t255 a1).bind fun t258 => ((laws_toPieceS.f k l0).bind fun t259 => ((impl_PiecesValid.f k t259 a1).bind fun t262 => (if (t262 != t258) = true then (none) else ((laws_toPieceS.f k l0).bind fun t263 => ((laws_eqPieceS.f k t259 t263).bind fun t266 => (if t266 = true then (some true) else (none)))))))))) = some r := H
 have A3 := Aside0.mk A30
 clear A30
 by_cases c4 : t254 < 0
 ·rw [if_pos c4] at H
  have c4b0 : decide (t254 < 0) = true := decide_eq_true c4
  clear c4
  obtain rfl := Option.some.inj H
  go_enter Try.func10, Try.ntmps10
  go_wp2_with (first | ((with_reducible refine gate_callee (f := 44) rfl ?_); refine goesL_ (some 11) rfl rfl Try.func44 (by kernel_rfl) rfl #[.slice A0 l0.length c0, .int .i64 1048576] rfl z10_1 ?_; (with_reducible refine (laws_szPieceS.calls k _ _ l0 1048576 t254 _ ?side1 ?side2 A3.out).mono ?_); (case side1 => repeat (first | exact HR0.out | (with_reducible refine Kd.C_alloc ?_ _) | (with_reducible refine Kd.C_drewN ?_ _) | (with_reducible refine Kd.C_drew ?_))); (case side2 => exact HC0.out); rintro e w5 ⟨rfl, hb⟩; refine ⟨_, rfl, ?_⟩; have n0_ := Aside0.mk (below_step z10_0 hb); clear HB; have HB := n0_; clear n0_; (try clear hb); (try clear hb2); (try clear hk); (try clear hi)))
  go_ret
  exact ⟨z10_3, z10_0⟩
 ·rw [if_neg c4] at H
  have c4b0 : decide (t254 < 0) = false := decide_eq_false c4
  clear c4
  replace H := Option.bind_eq_some_iff.mp H
  obtain ⟨t255, A60, H⟩ := H
  replace H : ((spec_PiecesValid.f k t255 a1).bind fun t258 => ((laws_toPieceS.f k l0).bind fun t259 => ((impl_PiecesValid.f k t259 a1).bind fun t262 => (if (t262 != t258) = true then (none) else ((laws_toPieceS.f k l0).bind fun t263 => ((laws_eqPieceS.f k t259 t263).bind fun t266 => (if t266 = true then (some true) else (none)))))))) = some r := H
  have A6 := Aside0.mk A60
  clear A60
  replace H := Option.bind_eq_some_iff.mp H
  obtain ⟨t258, A70, H⟩ := H
  replace H : ((laws_toPieceS.f k l0).bind fun t259 => ((impl_PiecesValid.f k t259 a1).bind fun t262 => (if (t262 != t258) = true then (none) else ((laws_toPieceS.f k l0).bind fun t263 => ((laws_eqPieceS.f k t259 t263).bind fun t266 => (if t266 = true then (some true) else (none))))))) = some r := H
  have A7 := Aside0.mk A70
  clear A70
  replace H := Option.bind_eq_some_iff.mp H
  obtain ⟨t259, A80, H⟩ := H
  replace H : ((impl_PiecesValid.f k t259 a1).bind fun t262 => (if (t262 != t258) = true then (none) else ((laws_toPieceS.f k l0).bind fun t263 => ((laws_eqPieceS.f k t259 t263).bind fun t266 => (if t266 = true then (some true) else (none)))))) = some r := H
  have A8 := Aside0.mk A80
  clear A80
  replace H := Option.bind_eq_some_iff.mp H
  obtain ⟨t262, A90, H⟩ := H
  replace H : (if (t262 != t258) = true then (none) else ((laws_toPieceS.f k l0).bind fun t263 => ((laws_eqPieceS.f k t259 t263).bind fun t266 => (if t266 = true then (some true) else (none))))) = some r := H
  have A9 := Aside0.mk A90
  clear A90
  by_cases c10 : (t262 != t258) = true
  ·rw [if_pos c10] at H
   exact absurd H (by simp)
  ·rw [if_neg c10] at H
   have c10b0 : (t262 != t258) = false := by simpa using c10
   (try (have c10b1 : decide (t262 = t258) = true := by simpa using c10))
   (try (have c10b2 : (t262 == t258) = true := by simpa using c10))
   clear c10
   replace H := Option.bind_eq_some_iff.mp H
   obtain ⟨t263, A110, H⟩ := H
   replace H : ((laws_eqPieceS.f k t259 t263).bind fun t266 => (if t266 = true then (some true) else (none))) = some r := H
   have A11 := Aside0.mk A110
   clear A110
   replace H := Option.bind_eq_some_iff.mp H
   obtain ⟨t266, A120, H⟩ := H
   replace H : (if t266 = true then (some true) else (none)) = some r := H
   have A12 := Aside0.mk A120
   clear A120
   by_cases c13 : t266 = true
   ·subst c13
    have H1 : (some true) = some r := by rw [if_pos rfl] at H; exact H
    clear H
    have H := H1
    clear H1
    obtain rfl := Option.some.inj H
    go_enter Try.func10, Try.ntmps10
    go_wp2_with (first | ((with_reducible refine gate_callee (f := 44) rfl ?_); refine goesL_ (some 11) rfl rfl Try.func44 (by kernel_rfl) rfl #[.slice A0 l0.length c0, .int .i64 1048576] rfl z10_1 ?_; (with_reducible refine (laws_szPieceS.calls k _ _ l0 1048576 t254 _ ?side1 ?side2 A3.out).mono ?_); (case side1 => repeat (first | exact HR0.out | (with_reducible refine Kd.C_alloc ?_ _) | (with_reducible refine Kd.C_drewN ?_ _) | (with_reducible refine Kd.C_drew ?_))); (case side2 => exact HC0.out); rintro e w14 ⟨rfl, hb⟩; refine ⟨_, rfl, ?_⟩; have n0_ := Aside0.mk (below_step z10_0 hb); clear HB; have HB := n0_; clear n0_; (try clear hb); (try clear hb2); (try clear hk); (try clear hi)) | ((with_reducible refine gate_callee (f := 46) rfl ?_); refine goesL_ (some 15) rfl rfl Try.func46 (by kernel_rfl) rfl #[.slice A0 l0.length c0] rfl z10_1 ?_; (with_reducible refine (laws_toPieceS.calls k _ _ l0 t255 _ ?side1 ?side2 A6.out).mono ?_); (case side1 => repeat (first | exact (Kd.C_below HR0.out HB.out) | (with_reducible refine Kd.C_alloc ?_ _) | (with_reducible refine Kd.C_drewN ?_ _) | (with_reducible refine Kd.C_drew ?_))); (case side2 => exact HC0.out); rintro e w15 ⟨v256, rfl, ho0, hb⟩; refine ⟨_, rfl, ?_⟩; have n0_ := Aside0.mk (Kd.S_lower ho0 (below_size z10_0)); have n1_ := Aside0.mk (below_step z10_0 hb); clear HB; have HO257 := n0_; have HB := n1_; clear n0_ n1_; (try clear hb); (try clear hb2); (try clear hk); (try clear hi); (try clear ho0); obtain ⟨Ao16, co16, eo16⟩ := Kd.S_slice HO257.out; subst eo16) | ((with_reducible refine gate_callee (f := 45) rfl ?_); refine goesL_ (some 17) rfl rfl Try.func45 (by kernel_rfl) rfl #[.slice Ao16 t255.length co16, .int .i64 a1] rfl z10_1 ?_; (with_reducible refine (spec_PiecesValid.calls k _ _ t255 a1 t258 _ ?side1 ?side2 A7.out).mono ?_); (case side1 => repeat (first | exact (Kd.S_reads' HO257.out).2.2 | (with_reducible refine Kd.C_alloc ?_ _) | (with_reducible refine Kd.C_drewN ?_ _) | (with_reducible refine Kd.C_drew ?_))); (case side2 => exact (Kd.S_reads' HO257.out).2.1); rintro e w17 ⟨rfl, hb⟩; refine ⟨_, rfl, ?_⟩; have n0_ := Aside0.mk (Kd.S_below z10_2 hb); have n1_ := Aside0.mk (below_step z10_0 hb); clear HO257; clear HB; have HO257 := n0_; have HB := n1_; clear n0_ n1_; (try clear hb); (try clear hb2); (try clear hk); (try clear hi)) | ((with_reducible refine gate_callee (f := 46) rfl ?_); refine goesL_ (some 19) rfl rfl Try.func46 (by kernel_rfl) rfl #[.slice A0 l0.length c0] rfl z10_1 ?_; (with_reducible refine (laws_toPieceS.calls k _ _ l0 t259 _ ?side1 ?side2 A8.out).mono ?_); (case side1 => repeat (first | exact (Kd.C_below HR0.out HB.out) | (with_reducible refine Kd.C_alloc ?_ _) | (with_reducible refine Kd.C_drewN ?_ _) | (with_reducible refine Kd.C_drew ?_))); (case side2 => exact HC0.out); rintro e w18 ⟨v260, rfl, ho0, hb⟩; refine ⟨_, rfl, ?_⟩; have n0_ := Aside0.mk (Kd.S_elder' z10_2 (Kd.S_base ho0) hb); have n1_ := Aside0.mk (Kd.S_lower (Kd.S_new' ho0 (Kd.S_lt z10_2)) (below_size z10_0)); have n2_ := Aside0.mk (below_step z10_0 hb); clear HO257; clear HB; have HO257 := n0_; have HO261 := n1_; have HB := n2_; clear n0_ n1_ n2_; (try clear hb); (try clear hb2); (try clear hk); (try clear hi); (try clear ho0); obtain ⟨Ao19, co19, eo19⟩ := Kd.S_slice HO261.out; subst eo19) | ((with_reducible refine gate_callee (f := 47) rfl ?_); refine goesL_ (some 22) rfl rfl Try.func47 (by kernel_rfl) rfl #[.slice Ao19 t259.length co19, .int .i64 a1] rfl z10_1 ?_; (with_reducible refine (impl_PiecesValid.calls k _ _ t259 a1 t262 _ ?side1 ?side2 A9.out).mono ?_); (case side1 => repeat (first | exact (Kd.S_reads' HO261.out).2.2 | (with_reducible refine Kd.C_alloc ?_ _) | (with_reducible refine Kd.C_drewN ?_ _) | (with_reducible refine Kd.C_drew ?_))); (case side2 => exact (Kd.S_reads' HO261.out).2.1); rintro e w20 ⟨rfl, hb⟩; refine ⟨_, rfl, ?_⟩; have n0_ := Aside0.mk (Kd.S_below z10_2 hb); have n1_ := Aside0.mk (Kd.S_below z10_5 hb); have n2_ := Aside0.mk (below_step z10_0 hb); clear HO257; clear HO261; clear HB; have HO257 := n0_; have HO261 := n1_; have HB := n2_; clear n0_ n1_ n2_; (try clear hb); (try clear hb2); (try clear hk); (try clear hi)) | ((with_reducible refine gate_callee (f := 46) rfl ?_); refine goesL_ (some 28) rfl rfl Try.func46 (by kernel_rfl) rfl #[.slice A0 l0.length c0] rfl z10_1 ?_; (with_reducible refine (laws_toPieceS.calls k _ _ l0 t263 _ ?side1 ?side2 A11.out).mono ?_); (case side1 => repeat (first | exact (Kd.C_below HR0.out HB.out) | (with_reducible refine Kd.C_alloc ?_ _) | (with_reducible refine Kd.C_drewN ?_ _) | (with_reducible refine Kd.C_drew ?_))); (case side2 => exact HC0.out); rintro e w21 ⟨v264, rfl, ho0, hb⟩; refine ⟨_, rfl, ?_⟩; have n0_ := Aside0.mk (Kd.S_elder' z10_2 (Kd.S_base ho0) hb); have n1_ := Aside0.mk (Kd.S_elder' z10_5 (Kd.S_base ho0) hb); have n2_ := Aside0.mk (Kd.S_lower (Kd.S_new' (Kd.S_new' ho0 (Kd.S_lt z10_2)) (Kd.S_lt z10_5)) (below_size z10_0)); have n3_ := Aside0.mk (below_step z10_0 hb); clear HO257; clear HO261; clear HB; have HO257 := n0_; have HO261 := n1_; have HO265 := n2_; have HB := n3_; clear n0_ n1_ n2_ n3_; (try clear hb); (try clear hb2); (try clear hk); (try clear hi); (try clear ho0); obtain ⟨Ao22, co22, eo22⟩ := Kd.S_slice HO265.out; subst eo22) | ((with_reducible refine gate_callee (f := 48) rfl ?_); refine goesL_ (some 29) rfl rfl Try.func48 (by kernel_rfl) rfl #[.slice Ao19 t259.length co19, .slice Ao22 t263.length co22] rfl z10_1 ?_; (with_reducible refine (laws_eqPieceS.calls k _ _ t259 _ _ t263 true _ ?side1 ?side2 ?side3 ?side4 A12.out).mono ?_); (case side1 => repeat (first | exact (Kd.S_reads' HO261.out).2.2 | (with_reducible refine Kd.C_alloc ?_ _) | (with_reducible refine Kd.C_drewN ?_ _) | (with_reducible refine Kd.C_drew ?_))); (case side2 => exact (Kd.S_reads' HO261.out).2.1); (case side3 => repeat (first | exact (Kd.S_reads' HO265.out).2.2 | (with_reducible refine Kd.C_alloc ?_ _) | (with_reducible refine Kd.C_drewN ?_ _) | (with_reducible refine Kd.C_drew ?_))); (case side4 => exact (Kd.S_reads' HO265.out).2.1); rintro e w23 ⟨rfl, hb⟩; refine ⟨_, rfl, ?_⟩; have n0_ := Aside0.mk (Kd.S_below z10_2 hb); have n1_ := Aside0.mk (Kd.S_below z10_5 hb); have n2_ := Aside0.mk (Kd.S_below (by (with_reducible repeat (first | apply Kd.S_alloc | apply Kd.S_drewN | apply Kd.S_drew)); exact HO265.out) hb); have n3_ := Aside0.mk (below_step z10_0 hb); clear HO257; clear HO261; clear HO265; clear HB; have HO257 := n0_; have HO261 := n1_; have HO265 := n2_; have HB := n3_; clear n0_ n1_ n2_ n3_; (try clear hb); (try clear hb2); (try clear hk); (try clear hi)))
    go_ret
    exact ⟨z10_3, z10_0⟩
   ·replace c13 := Bool.eq_false_iff.mpr c13
    subst c13
    have H1 : (none) = some r := by rw [if_neg (show ¬ (false = true) by decide)] at H; exact H
    clear H
    have H := H1
    clear H1
    exact absurd H (by simp)

end Go.Proofs.Ytloiafnoekpaoab.PFnExactPiecesValid
