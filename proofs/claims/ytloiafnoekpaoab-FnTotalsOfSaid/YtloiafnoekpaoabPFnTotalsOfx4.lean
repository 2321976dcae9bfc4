/- Laid by a program of this session out of the translation: functions, their contracts, the row. Lean checks it. -/
import Derived.Test.YtloiafnoekpaoabPFnTotalsOfx0
import Derived.Test.YtloiafnoekpaoabPFnTotalsOfx3
namespace Go.Proofs.Ytloiafnoekpaoab.PFnTotalsOf
open Go.RowKit Go.Proofs.YtloiafnoekpaoabW.PrintWords Go.Proofs.YtloiafnoekpaoabW.PrintLast Go.Proofs.YtloiafnoekpaoabW.PrintMore
attribute [local go_sem] max2_int min2_int max_two min_two max_three min_three max_four min_four   -- for this text's walks alone
set_option linter.unusedVariables false
set_option linter.unusedSimpArgs false


/-! ### impl_TotalsOf: function 28 -/
def tsStep (b : Nat) (ts : List S52) (k : Nat) (x : Int) : Option (List S52) := (impl_Total_with.f (rd_T52 ts (ownN b k : Nat)).f0 (rd_T52 ts (ownN b k : Nat)).f1 (rd_T52 ts (ownN b k : Nat)).f2 (rd_T52 ts (ownN b k : Nat)).f3 x).bind fun t => some (ts.set (ownN b k) ⟨t.1, t.2.1, t.2.2.1, t.2.2.2⟩)
def tsGo (b : Nat) : List Int → Nat → List S52 → Option (List S52)
  | [], _, ts => some ts
  | x :: xs, k, ts => (tsStep b ts k x).bind fun ts' => tsGo b xs (k + 1) ts'
def noT : S52 := ⟨0, 0, -1, -1⟩
def impl_TotalsOf.f (k : Nat) (l0 : List Int) (a1 : Int) : Option (List S52) := if (l0.length : Int) > 16 then some [] else (impl_valuesFit.f k l0).bind fun t => if t = true then (impl_workersFit.f a1).bind fun u => if u = true then tsGo a1.toNat l0 0 (List.replicate a1.toNat noT) else some [] else some []
theorem impl_TotalsOf.mono : ∀ a0 a1 k, LeO (impl_TotalsOf.f k a0 a1) (impl_TotalsOf.f (k + 1) a0 a1) := by
  intro a0 a1 k
  unfold impl_TotalsOf.f
  refine LeO.ite (LeO.refl _) ?_
  exact LeO.bind (impl_valuesFit.mono _ _) (fun _ => LeO.refl _)
def impl_TotalsOf.T13 : Bool × List (List Nat × List Nat) := (true, [([], []), ([], []), ([1], [1]), ([2], [2]), ([], []), ([], []), ([5], [5]), ([6], [6]), ([4, 7], [4, 7]), ([8], [8]), ([], []), ([9, 10], [9, 10]), ([0, 3, 0, 1, 2, 3, 4, 5, 6, 7, 8, 9, 10, 11], [0, 3]), ([12, 11, 11, 0, 1, 2, 3, 4, 5, 6, 7, 8, 9, 10, 11], [11, 12])])
def impl_TotalsOf.B13 : List Nat := [0, 0, 2, 6, 0, 0, 32, 96, 240, 496, 0, 2032, 4095, 8191]
theorem impl_TotalsOf.tab13 : rtab .any (opsOf Try.f28 13) = impl_TotalsOf.T13 := by kernel_rfl
theorem impl_TotalsOf.bits13 : waitsOk impl_TotalsOf.T13.2 impl_TotalsOf.B13 = true := by kernel_rfl
def tsInit (b j : Nat) : List S52 := List.replicate j noT ++ List.replicate (b - j) z52
theorem tsInit_zero (b : Nat) : tsInit b 0 = List.replicate b z52 := by simp [tsInit]
theorem tsInit_all (b : Nat) : tsInit b b = List.replicate b noT := by simp [tsInit]
theorem tsInit_len (b j : Nat) (h : j ≤ b) : (tsInit b j).length = b := by simp [tsInit]; omega
theorem tsInit_set (b j : Nat) (h : j < b) : (tsInit b j).set j noT = tsInit b (j + 1) := by
  unfold tsInit
  obtain ⟨d, rfl⟩ : ∃ d, b = j + 1 + d := ⟨b - (j + 1), by omega⟩
  rw [show j + 1 + d - j = d + 1 by omega, show j + 1 + d - (j + 1) = d by omega, List.replicate_succ, List.set_append_right _ _ (by simp), List.length_replicate, Nat.sub_self, List.set_cons_zero, List.replicate_succ' (n := j), List.append_assoc]
  rfl
theorem ownN_lt (b k : Nat) (h : 1 ≤ b) : ownN b k < b := by unfold ownN; exact Nat.mod_lt _ (by omega)
theorem kk_alloc_setRow (w : World) (t : Nat) (zs cs : Array Value) : (w.alloc (.cells zs t (0, 0))).setRow w.heap.size cs = w.alloc (.cells cs t (0, 0)) := by
  unfold World.setRow World.alloc
  congr 1
  apply Array.ext_getElem?
  intro i
  rw [Array.getElem?_modify, Array.getElem?_push, Array.getElem?_push]
  by_cases h : w.heap.size = i
  · rw [if_pos h, if_pos h.symm, if_pos h.symm]; rfl
  · rw [if_neg h, if_neg (fun e => h e.symm), if_neg (fun e => h e.symm)]
set_option maxHeartbeats 8000000 in
set_option maxRecDepth 100000 in
theorem impl_TotalsOf.calls (k : Nat) (A0 : Option Addr) (c0 : Nat) (l0 : List Int) (a1 : Int) (r : List (S52)) (w : World) (hr0 : Kd.C (Kd.int .i64) w A0 l0.length l0) (hc0 : l0.length ≤ c0) (h : impl_TotalsOf.f k l0 a1 = some r) :
    Calls Try.prog 28 #[.slice A0 l0.length c0, .int .i64 a1] w fun e w' => ∃ v0_ : Value, e = .returned (v0_) ∧ Kd.R k52 52 w' w.heap.size (fun _ => True) v0_ r ∧ Below w.heap.size w w' := by
  have HR0 := Aside0.mk hr0
  have HC0 := Aside0.mk hc0
  clear hr0 hc0
  unfold impl_TotalsOf.f at h
  by_cases c1 : (l0.length : Int) > 16
  · rw [if_pos c1] at h
    obtain rfl := Option.some.inj h
    clear h
    have c1b0 : decide (16 < (l0.length : Int)) = true := decide_eq_true c1
    have c1b1 : decide (16 < l0.length) = true := decide_eq_true (by omega)
    clear c1
    go_enter Try.func28, Try.ntmps28
    go_wp2
    go_ret
    exact ⟨_, rfl, Kd.R_nil _ _ _ _ _, Below.refl _ _⟩
  · rw [if_neg c1] at h
    have c1b0 : decide (16 < (l0.length : Int)) = false := decide_eq_false c1
    have c1b1 : decide (16 < l0.length) = false := decide_eq_false (by omega)
    have HL := Aside0.mk (show l0.length ≤ 16 by omega)
    clear c1
    replace h := Option.bind_eq_some_iff.mp h
    obtain ⟨t, A1, h⟩ := h
    have HV := Aside0.mk A1
    clear A1
    cases t
    · rw [if_neg (by simp)] at h
      obtain rfl := Option.some.inj h
      clear h
      go_enter Try.func28, Try.ntmps28
      go_wp2_with (first | (go_at_call 76; (with_reducible refine (impl_valuesFit.calls k A0 c0 l0 false _ HR0.out HC0.out HV.out).mono ?_); rintro e w' ⟨rfl, ⟨nd, rfl⟩⟩))
      go_ret
      exact ⟨_, rfl, Kd.R_nil _ _ _ _ _, pw_below_drewN (Below.refl _ _) _⟩
    · rw [if_pos rfl] at h
      replace h := Option.bind_eq_some_iff.mp h
      obtain ⟨u, A2, h⟩ := h
      have HF := Aside0.mk A2
      cases u
      · rw [if_neg (by simp)] at h
        obtain rfl := Option.some.inj h
        clear h A2
        go_enter Try.func28, Try.ntmps28
        go_wp2_with (first | (go_at_call 76; (with_reducible refine (impl_valuesFit.calls k A0 c0 l0 true _ HR0.out HC0.out HV.out).mono ?_); rintro e w' ⟨rfl, ⟨nd, rfl⟩⟩) | (go_at_call 77; (with_reducible refine (impl_workersFit.calls a1 false _ HF.out).mono ?_); rintro e w' ⟨rfl, ⟨nd2, rfl⟩⟩))
        go_ret
        exact ⟨_, rfl, Kd.R_nil _ _ _ _ _, by repeat (first | exact Below.refl _ _ | (with_reducible refine pw_below_drewN ?_ _))⟩
      · rw [if_pos rfl] at h
        have hb1 : 1 ≤ a1 ∧ a1 ≤ 6 := by
          unfold impl_workersFit.f at A2
          by_cases q : a1 ≥ 1
          · rw [if_pos q] at A2; simp at A2; exact ⟨q, A2⟩
          · rw [if_neg q] at A2; simp at A2
        clear A2
        obtain ⟨b, rfl⟩ := Int.eq_ofNat_of_zero_le (a := a1) (by omega)
        obtain ⟨hb1, hb6⟩ := hb1
        rw [Int.toNat_natCast] at h
        have HH := Aside0.mk h
        clear h
        have HB := Aside0.mk (Below.refl w.heap.size w)
        go_enter Try.func28, Try.ntmps28
        go_upto_region 3 with (first
          | (go_at_call 76; (with_reducible refine (impl_valuesFit.calls k A0 c0 l0 true _ HR0.out HC0.out HV.out).mono ?_); rintro e w' ⟨rfl, ⟨nd, rfl⟩⟩)
          | (go_at_call 77; (with_reducible refine (impl_workersFit.calls b true _ HF.out).mono ?_); rintro e w' ⟨rfl, ⟨nd2, rfl⟩⟩))
        go_wp2_with ((with_reducible refine gate_dst (N := 24) rfl ?_); refine Kd.R_make k52 _ 52 rfl (N := 24) rfl 40 _ _ rfl (b : Int) rfl rfl Try.underlying40 (.agg #[(.int .i64 0), (.int .i64 0), (.int .i64 0), (.int .i64 0)]) 32 info52 rfl (by decide) (by omega) z52 (ok := fun _ => True) (okp := fun _ => True) (k52_mkM _ _ _ z52) (fun _ hk => hk) trivial (by omega) (by omega) (Below.refl _ _) (Nat.le_refl _) ?_; intro v1 w4 ho hb hg_ hnew_; clear hg_ hnew_; rw [Int.toNat_natCast, ← tsInit_zero] at ho; have HR1 := Aside0.mk (Kd.R_lower ho (show w.heap.size ≤ _ by simp)); have HB1 := Aside0.mk (below_step (show Below w.heap.size w _ from pw_below_drewN HB.out _) hb); obtain ⟨go, co, eo, hge0, hlt0, cells, HG⟩ := Kd.R_form HR1.out (by rw [tsInit_len _ _ (by omega)]; omega); rw [tsInit_len _ _ (by omega)] at eo; subst eo; clear HG hb ho)
        clear HV HF HB
        go_loopw [27] (fun i wr => ∃ j : Nat, j ≤ b ∧ i = .int .i64 j ∧ Aside0 (Kd.R k52 52 wr w.heap.size (fun _ => True) (.slice (some ⟨go, 0, none⟩) b co) (tsInit b j)) ∧ Aside0 (Below w.heap.size w wr)) (fun i _ => b - (intOf i).toNat)
        case atStart => exact ⟨0, by omega, rfl, HR1, HB1⟩
        case round =>
          clear HR1 HB1 hlt0
          obtain ⟨j, hj, rfl, HR, HBr⟩ := hrel
          by_cases hlt : j < b
          · have hln := tsInit_len b j (by omega)
            go_wp2_with (first | (go_at_call 78; (with_reducible refine (impl_noTotal.calls 0 0 (-1) (-1) _ rfl).mono ?_); rintro e w5 ⟨rfl, hb⟩; have HR5 := Aside0.mk (Kd.R_below HR.out hb); have HB5 := Aside0.mk (below_step HBr.out hb); clear hb; obtain ⟨ce, hcl, hM, hcc, hfr⟩ := Kd.R_elem HR5.out z52 (j : Int) (by omega) (by omega); obtain rfl := k52_openM hM; have HP := Kd.R_seg HR5.out (j : Int) (by omega) (by omega) (seg := [.int .i64 0, .int .i64 0, .int .i64 (-1), .int .i64 (-1)]) (j := 0) hcl hcc (show 4 ≤ 4 from by decide) (x' := noT) (k52_mkM _ _ _ noT) (fun _ hk => hk); have hx0 := hcc 0 _ rfl; simp only [show (k52).sz = 4 from rfl, Nat.mul_one, Nat.add_zero, Int.toNat_natCast] at hx0; have hf0 := hfr 0; simp only [show (k52).sz = 4 from rfl, Nat.mul_one, Nat.add_zero, Int.toNat_natCast] at hf0; have hx1 := hcc 1 _ rfl; simp only [show (k52).sz = 4 from rfl, Nat.mul_one, Nat.add_zero, Int.toNat_natCast] at hx1; have hf1 := hfr 1; simp only [show (k52).sz = 4 from rfl, Nat.mul_one, Nat.add_zero, Int.toNat_natCast] at hf1; have hx2 := hcc 2 _ rfl; simp only [show (k52).sz = 4 from rfl, Nat.mul_one, Nat.add_zero, Int.toNat_natCast] at hx2; have hf2 := hfr 2; simp only [show (k52).sz = 4 from rfl, Nat.mul_one, Nat.add_zero, Int.toNat_natCast] at hf2; have hx3 := hcc 3 _ rfl; simp only [show (k52).sz = 4 from rfl, Nat.mul_one, Nat.add_zero, Int.toNat_natCast] at hx3; have hf3 := hfr 3; simp only [show (k52).sz = 4 from rfl, Nat.mul_one, Nat.add_zero, Int.toNat_natCast] at hf3; clear hcl hcc hfr hM))
            go_roundw
            case measure => simp [intOf]; omega
            case rel => exact ⟨j + 1, by omega, by go_num, ⟨by rw [← tsInit_set b j hlt]; exact HP.1⟩, ⟨below_set (below_set (below_set (below_set HB5.out hge0) hge0) hge0) hge0⟩⟩
          · have e : j = b := by omega
            rw [e, tsInit_all] at HR
            go_wp2_with (first
              | (go_at_call 79; (with_reducible refine (ownerTable_calls b (by omega) (by omega) _).mono ?_); rintro e w5 ⟨rfl, hb⟩; have HR5 := Aside0.mk (Kd.R_below HR.out hb); have HB5 := Aside0.mk (below_step HBr.out hb); clear hb)
              | ((with_reducible refine gate_store (t := 96) (p := 7) rfl ?_); refine wpList_store_row rfl 96 _ _ rfl w5.heap.size (tbl b 16) rfl rfl 96 _ (heap_alloc_new _ _) (by rw [tbl_size]; kernel_rfl) (by rw [tbl_size]; rfl) (tbl_one b 16) ?_; rw [kk_alloc_setRow]; obtain ⟨g2, c2, e2, _, hl2, _⟩ := Kd.R_form HR5.out (by rw [List.length_replicate]; omega); have hgo5 : go < w5.heap.size := (by injection e2 with e3 e4 e5; injection e3 with e6; injection e6 with e7; omega); have HR6 := Aside0.mk (Kd.R_alloc HR5.out (.cells (tbl b 16) 96)); have HB6 := Aside0.mk (below_alloc HB5.out (.cells (tbl b 16) 96)); have h76 : (w5.alloc (.cells (tbl b 16) 96)).heap[w5.heap.size]? = some (.cells (tbl b 16) 96 (0, 0)) := heap_alloc_new _ _; clear e2 hl2 HR5 HB5; generalize w5.alloc (.cells (tbl b 16) 96) = w6 at HR6 HB6 h76 ⊢; generalize w5.heap.size = ga at h76 hgo5 ⊢))
            clear HR HBr e hlt hj
            have hne : go ≠ ga := by omega
            go_loopw [39] (fun i wr => ∃ (q : Nat) (ts : List S52), q ≤ l0.length ∧ i = .int .i64 q ∧ Aside0 (tsGo b (l0.drop q) q ts = some r) ∧ ts.length = b ∧ Aside0 (Kd.R k52 52 wr w.heap.size (fun _ => True) (.slice (some ⟨go, 0, none⟩) b co) ts) ∧ wr.heap[ga]? = some (.cells (tbl b 16) 96 (0, 0)) ∧ Aside0 (Below w.heap.size w wr)) (fun i _ => l0.length - (intOf i).toNat)
            case atStart => exact ⟨0, _, by omega, rfl, HH, by simp, HR6, h76, HB6⟩
            case round =>
              clear HR6 h76 HB6
              obtain ⟨q, ts, hq', rfl, HN, hts, HR4, h74, HB4⟩ := hrel
              by_cases hq : q < l0.length
              · have HN0 := HN.out
                rw [List.drop_eq_getElem_cons hq] at HN0
                have HN1 : ((tsStep b ts q (l0[q]'hq)).bind fun ts' => tsGo b (l0.drop (q + 1)) (q + 1) ts') = some r := HN0
                clear HN HN0
                obtain ⟨ts', hst, HN2⟩ := Option.bind_eq_some_iff.mp HN1
                obtain ⟨⟨t1, t2, t3, t4⟩, hw, hts'⟩ := Option.bind_eq_some_iff.mp hst
                obtain rfl := Option.some.inj hts'
                have HW := Aside0.mk hw
                have HN := Aside0.mk HN2
                clear HN1 HN2 hst hw hts'
                have hol := ownN_lt b q (by omega)
                have h16 := HL.out
                obtain ⟨ad, ea, hx⟩ := Kd.at_int HR0.out (q : Int) (by omega) (by omega)
                cases ea
                rw [Int.toNat_natCast, show rd l0 (q : Int) = l0[q]'hq from by simp [rd, hq]] at hx
                replace hx := (HB4.out.cell (World.block_lt_of_cell? w _ hx)).trans hx
                have hc7 := kk_blk_cell h74 q
                rw [tbl_get _ _ _ (by omega), if_pos (by omega)] at hc7
                obtain ⟨ce, hcl, hM, hcc, hfr⟩ := Kd.R_elem HR4.out z52 ((ownN b q : Nat) : Int) (by omega) (by omega)
                obtain rfl := k52_openM hM
                have hy0 : wr.cell? ⟨go, ownN b q * 4, none⟩ = some (.int .i64 (rd_T52 ts ((ownN b q : Nat) : Int)).f0) := hcc 0 _ rfl
                have hy1 : wr.cell? ⟨go, ownN b q * 4 + 1, none⟩ = some (.int .i64 (rd_T52 ts ((ownN b q : Nat) : Int)).f1) := hcc 1 _ rfl
                have hy2 : wr.cell? ⟨go, ownN b q * 4 + 2, none⟩ = some (.int .i64 (rd_T52 ts ((ownN b q : Nat) : Int)).f2) := hcc 2 _ rfl
                have hy3 : wr.cell? ⟨go, ownN b q * 4 + 3, none⟩ = some (.int .i64 (rd_T52 ts ((ownN b q : Nat) : Int)).f3) := hcc 3 _ rfl
                clear hcl hM hcc hfr
                go_wp2
                have qi0 : ((q : Int) < 16) = True := eq_true (by omega)
                have qi1 : (q < 16) = True := eq_true (by omega)
                have qi2 : (((ownN b q : Nat) : Int) < (b : Int)) = True := eq_true (by omega)
                have qi3 : (ownN b q < b) = True := eq_true hol
                refine start_ (n := 14) (S := fun w1 => w1.cell? ⟨ga, q, none⟩ = some (.int .i64 ((ownN b q : Nat) : Int)) ∧ w1.cell? ⟨go, ownN b q * 4, none⟩ = some (.int .i64 (rd_T52 ts ((ownN b q : Nat) : Int)).f0) ∧ w1.cell? ⟨go, ownN b q * 4 + 1, none⟩ = some (.int .i64 (rd_T52 ts ((ownN b q : Nat) : Int)).f1) ∧ w1.cell? ⟨go, ownN b q * 4 + 2, none⟩ = some (.int .i64 (rd_T52 ts ((ownN b q : Nat) : Int)).f2) ∧ w1.cell? ⟨go, ownN b q * 4 + 3, none⟩ = some (.int .i64 (rd_T52 ts ((ownN b q : Nat) : Int)).f3)) (ds := [13]) #[false, false, false, false, false, false, false, false, false, false, false, false, false, false] (by kernel_rfl) rfl rfl ⟨hc7, hy0, hy1, hy2, hy3⟩ (fun hHeld => ?_)
                refine with_tabW impl_TotalsOf.tab13 impl_TotalsOf.bits13 (fun HT_ HW_ => ?_)
                have HR5 := Aside0.mk (Kd.R_drew HR4.out)
                have HB5 := Aside0.mk (below_drew1 HB4.out)
                have h75 : wr.drew.heap[ga]? = some (.cells (tbl b 16) 96 (0, 0)) := h74
                clear HR4 HB4 h74 hc7 hy0 hy1 hy2 hy3 hx
                generalize wr.drew = w5 at HR5 HB5 h75 hHeld ⊢
                refine pure_ (i := 0) (N := some 44) (v := ?_) (a' := ?_) #[true, false, false, false, false, false, false, false, false, false, false, false, false, false] rfl rfl (any_of HT_.out (by kernel_rfl)) (fun _ _ _ h => h) (Or.inl ⟨by rfl, ?_⟩) ?_ ?_
                rotate_left
                · intro w1
                  go_simp
                  with_reducible rfl
                rotate_left
                · simp only [Act.put, List.setIfInBounds_toArray, List.set_cons_zero, List.set_cons_succ, i64_w, i32_w]
                  rfl
                refine pure_ (i := 1) (N := some 45) (v := ?_) (a' := ?_) #[true, true, false, false, false, false, false, false, false, false, false, false, false, false] rfl rfl (any_of HT_.out (by kernel_rfl)) (fun _ _ _ h => h) (Or.inl ⟨by rfl, ?_⟩) ?_ ?_
                rotate_left
                · intro w1
                  go_simp
                  with_reducible rfl
                rotate_left
                · simp only [Act.put, List.setIfInBounds_toArray, List.set_cons_zero, List.set_cons_succ, i64_w, i32_w]
                  rfl
                refine pure_ (i := 2) (N := some 46) (v := ?_) (a' := ?_) #[true, true, true, false, false, false, false, false, false, false, false, false, false, false] rfl rfl (any_of HT_.out (by kernel_rfl)) (fun _ _ _ h => h) (Or.inl ⟨by rfl, ?_⟩) ?_ ?_
                rotate_left
                · intro w1
                  go_simp
                  with_reducible rfl
                rotate_left
                · simp only [Act.put, List.setIfInBounds_toArray, List.set_cons_zero, List.set_cons_succ, i64_w, i32_w]
                  rfl
                refine pure_ (i := 4) (N := some 48) (v := ?_) (a' := ?_) #[true, true, true, false, true, false, false, false, false, false, false, false, false, false] rfl rfl (any_of HT_.out (by kernel_rfl)) (fun _ _ _ h => h) (Or.inl ⟨by rfl, ?_⟩) ?_ ?_
                rotate_left
                · intro w1
                  go_simp
                  with_reducible rfl
                rotate_left
                · simp only [Act.put, List.setIfInBounds_toArray, List.set_cons_zero, List.set_cons_succ, i64_w, i32_w]
                  rfl
                refine pure_ (i := 5) (N := some 49) (v := ?_) (a' := ?_) #[true, true, true, false, true, true, false, false, false, false, false, false, false, false] rfl rfl (any_of HT_.out (by kernel_rfl)) (fun _ _ _ h => h) (Or.inl ⟨by rfl, ?_⟩) ?_ ?_
                rotate_left
                · intro w1
                  go_simp
                  with_reducible rfl
                rotate_left
                · simp only [Act.put, List.setIfInBounds_toArray, List.set_cons_zero, List.set_cons_succ, i64_w, i32_w]
                  rfl
                refine pure_ (i := 6) (N := some 50) (v := ?_) (a' := ?_) #[true, true, true, false, true, true, true, false, false, false, false, false, false, false] rfl rfl (any_of HT_.out (by kernel_rfl)) (fun _ _ _ h => h) (Or.inl ⟨by rfl, ?_⟩) ?_ ?_
                rotate_left
                · intro w1
                  go_simp
                  with_reducible rfl
                rotate_left
                · simp only [Act.put, List.setIfInBounds_toArray, List.set_cons_zero, List.set_cons_succ, i64_w, i32_w]
                  rfl
                refine pure_ (i := 10) (N := some 54) (v := ?_) (a' := ?_) #[true, true, true, false, true, true, true, false, false, false, true, false, false, false] rfl rfl (any_of HT_.out (by kernel_rfl)) (fun _ _ _ h => h) (Or.inl ⟨by rfl, ?_⟩) ?_ ?_
                rotate_left
                · intro w1
                  go_simp
                  with_reducible rfl
                rotate_left
                · simp only [Act.put, List.setIfInBounds_toArray, List.set_cons_zero, List.set_cons_succ, i64_w, i32_w]
                  rfl
                refine take_ (i := 3) (N := some 47) (v := ?_) (a' := ?_) #[true, true, true, true, true, true, true, false, false, false, true, false, false, false] rfl rfl (take_ofW HT_.out HW_.out (by kernel_rfl)) (fun _ _ _ h => h) (Or.inl ⟨by rfl, ?_⟩) hHeld ?_ ?_
                rotate_left
                · rintro w1 ⟨s0, s1, s2, s3, s4⟩
                  go_simp
                  with_reducible rfl
                rotate_left
                · simp only [Act.put, List.setIfInBounds_toArray, List.set_cons_zero, List.set_cons_succ, i64_w, i32_w]
                  rfl
                refine take_ (i := 7) (N := some 51) (v := ?_) (a' := ?_) #[true, true, true, true, true, true, true, true, false, false, true, false, false, false] rfl rfl (take_ofW HT_.out HW_.out (by kernel_rfl)) (fun _ _ _ h => h) (Or.inl ⟨by rfl, ?_⟩) hHeld ?_ ?_
                rotate_left
                · rintro w1 ⟨s0, s1, s2, s3, s4⟩
                  go_simp
                  with_reducible rfl
                rotate_left
                · simp only [Act.put, List.setIfInBounds_toArray, List.set_cons_zero, List.set_cons_succ, i64_w, i32_w]
                  rfl
                refine pure_ (i := 8) (N := some 52) (v := ?_) (a' := ?_) #[true, true, true, true, true, true, true, true, true, false, true, false, false, false] rfl rfl (any_of HT_.out (by kernel_rfl)) (fun _ _ _ h => h) (Or.inl ⟨by rfl, ?_⟩) ?_ ?_
                rotate_left
                · intro w1
                  go_simp
                  with_reducible rfl
                rotate_left
                · simp only [Act.put, List.setIfInBounds_toArray, List.set_cons_zero, List.set_cons_succ, i64_w, i32_w]
                  rfl
                refine take_ (i := 9) (N := some 53) (v := ?_) (a' := ?_) #[true, true, true, true, true, true, true, true, true, true, true, false, false, false] rfl rfl (take_ofW HT_.out HW_.out (by kernel_rfl)) (fun _ _ _ h => h) (Or.inl ⟨by rfl, ?_⟩) hHeld ?_ ?_
                rotate_left
                · rintro w1 ⟨s0, s1, s2, s3, s4⟩
                  go_simp
                  with_reducible rfl
                rotate_left
                · simp only [Act.put, List.setIfInBounds_toArray, List.set_cons_zero, List.set_cons_succ, i64_w, i32_w]
                  rfl
                refine one_ (i := 11) (N := some 55) #[true, true, true, true, true, true, true, true, true, true, true, true, false, false] rfl rfl (one_of HT_.out (by kernel_rfl)) (by decide) (fun K hK => ?_)
                refine goes_ Try.func80 (by kernel_rfl) rfl #[.agg #[.int .i64 (rd_T52 ts ((ownN b q : Nat) : Int)).f0, .int .i64 (rd_T52 ts ((ownN b q : Nat) : Int)).f1, .int .i64 (rd_T52 ts ((ownN b q : Nat) : Int)).f2, .int .i64 (rd_T52 ts ((ownN b q : Nat) : Int)).f3], .int .i64 (l0[q]'hq)] (by rfl) rfl rfl (by (try simp only [List.map_toArray, List.map_cons, List.map_nil]); first | done | rfl) ?_
                with_reducible refine (impl_Total_with.calls (rd_T52 ts ((ownN b q : Nat) : Int)).f0 (rd_T52 ts ((ownN b q : Nat) : Int)).f1 (rd_T52 ts ((ownN b q : Nat) : Int)).f2 (rd_T52 ts ((ownN b q : Nat) : Int)).f3 (l0[q]'hq) t1 t2 t3 t4 _ HW.out).mono ?_
                rintro e w6 ⟨rfl, hb⟩
                refine ⟨_, rfl, ?_⟩
                refine hK.out _ _ ⟨(hb.cell (World.block_lt_of_cell? _ _ hHeld.1)).trans hHeld.1, (hb.cell (World.block_lt_of_cell? _ _ hHeld.2.1)).trans hHeld.2.1, (hb.cell (World.block_lt_of_cell? _ _ hHeld.2.2.1)).trans hHeld.2.2.1, (hb.cell (World.block_lt_of_cell? _ _ hHeld.2.2.2.1)).trans hHeld.2.2.2.1, (hb.cell (World.block_lt_of_cell? _ _ hHeld.2.2.2.2)).trans hHeld.2.2.2.2⟩ (fun hHeld2 => ?_)
                clear hK K
                refine norm_ (a' := ?_) ?_ ?_
                rotate_left
                · show Act.put _ (some 55) _ = _
                  simp only [Act.put, List.setIfInBounds_toArray, List.set_cons_zero, List.set_cons_succ, i64_w, i32_w]
                  rfl
                refine pure_ (i := 12) (N := some 56) (v := ?_) (a' := ?_) #[true, true, true, true, true, true, true, true, true, true, true, true, true, false] rfl rfl (any_of HT_.out (by kernel_rfl)) (fun _ _ _ h => h) (Or.inl ⟨by rfl, ?_⟩) ?_ ?_
                rotate_left
                · intro w1
                  go_simp
                  with_reducible rfl
                rotate_left
                · simp only [Act.put, List.setIfInBounds_toArray, List.set_cons_zero, List.set_cons_succ, i64_w, i32_w]
                  rfl
                have HR6 := Aside0.mk (Kd.R_below HR5.out hb)
                have HB6 := Aside0.mk (below_step HB5.out hb)
                have h76 : w6.heap[ga]? = some (.cells (tbl b 16) 96 (0, 0)) := blk_below h75 hb
                obtain ⟨ce, hcl, hM, hcc, hfr⟩ := Kd.R_elem HR6.out z52 ((ownN b q : Nat) : Int) (by omega) (by omega)
                obtain rfl := k52_openM hM
                have HP := Kd.R_seg HR6.out ((ownN b q : Nat) : Int) (by omega) (by omega) (seg := [.int .i64 t1, .int .i64 t2, .int .i64 t3, .int .i64 t4]) (j := 0) hcl hcc (show 4 ≤ 4 from by decide) (x' := (⟨t1, t2, t3, t4⟩ : S52)) (k52_mkM _ _ _ (⟨t1, t2, t3, t4⟩ : S52)) (fun _ hk => hk)
                have hx0 := hcc 0 _ rfl
                simp only [show (k52).sz = 4 from rfl, Nat.mul_one, Nat.add_zero, Int.toNat_natCast] at hx0
                have hf0 := hfr 0
                simp only [show (k52).sz = 4 from rfl, Nat.mul_one, Nat.add_zero, Int.toNat_natCast] at hf0
                have hx1 := hcc 1 _ rfl
                simp only [show (k52).sz = 4 from rfl, Nat.mul_one, Nat.add_zero, Int.toNat_natCast] at hx1
                have hf1 := hfr 1
                simp only [show (k52).sz = 4 from rfl, Nat.mul_one, Nat.add_zero, Int.toNat_natCast] at hf1
                have hx2 := hcc 2 _ rfl
                simp only [show (k52).sz = 4 from rfl, Nat.mul_one, Nat.add_zero, Int.toNat_natCast] at hx2
                have hf2 := hfr 2
                simp only [show (k52).sz = 4 from rfl, Nat.mul_one, Nat.add_zero, Int.toNat_natCast] at hf2
                have hx3 := hcc 3 _ rfl
                simp only [show (k52).sz = 4 from rfl, Nat.mul_one, Nat.add_zero, Int.toNat_natCast] at hx3
                have hf3 := hfr 3
                simp only [show (k52).sz = 4 from rfl, Nat.mul_one, Nat.add_zero, Int.toNat_natCast] at hf3
                clear hcl hcc hfr hM
                refine last_ (i := 13) (N := none) #[true, true, true, true, true, true, true, true, true, true, true, true, true, true] rfl rfl (one_of HT_.out (by kernel_rfl)) (by decide) (fun K hK => ?_)
                refine skip_ (w1 := (((w6.setCell ⟨go, ownN b q * 4, none⟩ (.int .i64 t1)).setCell ⟨go, ownN b q * 4 + 1, none⟩ (.int .i64 t2)).setCell ⟨go, ownN b q * 4 + 2, none⟩ (.int .i64 t3)).setCell ⟨go, ownN b q * 4 + 3, none⟩ (.int .i64 t4)) (by rfl) rfl ?_ ?_
                · first | (go_simp; done) | (go_simp; rfl)
                refine hK.out _ _ ?_
                clear hK K
                refine done_ (done_of HT_.out (by kernel_rfl)) ?_
                go_wp2
                go_roundw
                case measure => simp [intOf]; omega
                case rel => exact ⟨q + 1, _, by omega, by go_num, ⟨HN.out⟩, by simpa using hts, ⟨HP.1⟩, (by rw [heap_setCell_other _ _ _ _ hne.symm, heap_setCell_other _ _ _ _ hne.symm, heap_setCell_other _ _ _ _ hne.symm, heap_setCell_other _ _ _ _ hne.symm]; exact h76), ⟨below_set (below_set (below_set (below_set HB6.out hge0) hge0) hge0) hge0⟩⟩
              · have he : ts = r := by
                  have h2 := HN.out
                  rw [List.drop_of_length_le (by omega)] at h2
                  exact Option.some.inj h2
                subst he
                go_wp2
                go_ret
                exact ⟨_, rfl, HR4.out, HB4.out⟩

/-! ### impl_BytesValid: function 127 -/
def impl_BytesValid.l0 : Nat → List Int → Int → Int → Option (Bool)
  | 0, _, _, _ => none
  | k + 1, x8, x9, x10 => if x10 < x9 then (if 0 ≤ x10 then (if x10 < (x8.length : Int) then (if (rd x8 x10) < 0 then (some false) else (if (rd x8 x10) > 255 then (some false) else (impl_BytesValid.l0 k x8 x9 (wrap64 (x10 + 1))))) else (none)) else (none)) else (some true)
def impl_BytesValid.f (k : Nat) (l0 : List Int) : Option (Bool) := if (l0.length : Int) > 2000 then (some false) else (impl_BytesValid.l0 k l0 (l0.length : Int) 0)
theorem impl_BytesValid.mono_l : ∀ k, (∀ y0 y1 y2, LeO (impl_BytesValid.l0 k y0 y1 y2) (impl_BytesValid.l0 (k + 1) y0 y1 y2))
  | 0 => fun _ _ _ r h => by simp [impl_BytesValid.l0] at h
  | k + 1 => by
    have ih0 := impl_BytesValid.mono_l k
    · intro y0 y1 y2
      unfold impl_BytesValid.l0
      repeat' first
      | (with_reducible exact ih0 _ _ _)
      | (with_reducible exact LeO.refl _)
      | (with_reducible exact LeO.none _)
      | (with_reducible refine LeO.ite ?_ ?_)
      | (with_reducible refine LeO.bind ?_ (fun _ => ?_))
      | exact ih0 _ _ _
      | exact LeO.none _
      | refine LeO.ite ?_ ?_
      | refine LeO.bind ?_ (fun _ => ?_)
theorem impl_BytesValid.mono : ∀ a0 k, LeO (impl_BytesValid.f k a0) (impl_BytesValid.f (k + 1) a0) := by
  intro a0 k
  have ih0 := impl_BytesValid.mono_l k
  unfold impl_BytesValid.f
  repeat' first
      | (with_reducible exact ih0 _ _ _)
      | (with_reducible exact LeO.refl _)
      | (with_reducible exact LeO.none _)
      | (with_reducible refine LeO.ite ?_ ?_)
      | (with_reducible refine LeO.bind ?_ (fun _ => ?_))
      | exact ih0 _ _ _
      | exact LeO.none _
      | refine LeO.ite ?_ ?_
      | refine LeO.bind ?_ (fun _ => ?_)
set_option maxHeartbeats 8000000 in
set_option maxRecDepth 100000 in
theorem impl_BytesValid.calls (k : Nat) (A0 : Option Addr) (c0 : Nat) (l0 : List Int) (r : Bool) (w : World) (hr0 : Kd.C (Kd.int .i64) w A0 l0.length l0) (hc0 : l0.length ≤ c0) (h : impl_BytesValid.f k l0 = some r) :
    Calls Try.prog 127 #[.slice A0 l0.length c0] w fun e w' => e = .returned (.bool r) ∧ Drawn0 w w' := by
  have HR0 := Aside0.mk hr0
  have HC0 := Aside0.mk hc0
  clear hr0 hc0
  have H : (if (l0.length : Int) > 2000 then (some false) else (impl_BytesValid.l0 k l0 (l0.length : Int) 0)) = some r := h
  clear h
  by_cases c2 : (l0.length : Int) > 2000
  · rw [if_pos c2] at H
    have c2b0 : decide (2000 < (l0.length : Int)) = true := decide_eq_true c2
    have c2b1 : decide (2000 < l0.length) = true := decide_eq_true (by omega)
    clear c2
    obtain rfl := Option.some.inj H
    go_enter Try.func127, Try.ntmps127
    go_wp2
    go_ret
    exact ⟨by first | rfl | (simp; done) | (simp [*]; done), by repeat (first | exact Drawn0.refl _ | apply Drawn0.step)⟩
  · rw [if_neg c2] at H
    have c2b0 : decide (2000 < (l0.length : Int)) = false := decide_eq_false c2
    have c2b1 : decide (2000 < l0.length) = false := decide_eq_false (by omega)
    clear c2
    have H' := Aside0.mk H
    clear H
    go_enter Try.func127, Try.ntmps127
    go_wp2
    go_loopg [10] k (fun kq v10 w' => ∃ (x10_1 : Int), v10 = .int .i64 x10_1 ∧ Aside0 (impl_BytesValid.l0 kq l0 (l0.length : Int) x10_1 = some r) ∧ Aside0 (kq ≤ k) ∧ Drawn0 w w')
    case atStart => exact ⟨(0), (by first | rfl | (simp; done) | (simp [*]; done)), H', ⟨Nat.le_refl _⟩, by repeat (first | exact Drawn0.refl _ | apply Drawn0.step)⟩
    case round =>
      clear H'
      try clear c1
      try clear c2
      try clear c2b0
      try clear c2b1
      try clear p2
      obtain ⟨x10_1, rfl, HA, HK1, ⟨m1, rfl⟩⟩ := hrel
      cases gk with
      | zero => exact absurd HA.out (by simp [impl_BytesValid.l0])
      | succ k1 =>
        have H := HA.out
        clear HA
        simp only [impl_BytesValid.l0] at H
        by_cases c3 : x10_1 < (l0.length : Int)
        · rw [if_pos c3] at H
          have c3b0 : decide (x10_1 < (l0.length : Int)) = true := decide_eq_true c3
          clear c3
          by_cases c4 : 0 ≤ x10_1
          · rw [if_pos c4] at H
            have c4b0 : decide (0 ≤ x10_1) = true := decide_eq_true c4
            clear c4
            by_cases c5 : x10_1 < (l0.length : Int)
            · rw [if_pos c5] at H
              have c5b0 : decide (x10_1 < (l0.length : Int)) = true := decide_eq_true c5
              clear c5
              by_cases c6 : (rd l0 x10_1) < 0
              · rw [if_pos c6] at H
                have c6b0 : decide ((rd l0 x10_1) < 0) = true := decide_eq_true c6
                clear c6
                obtain rfl := Option.some.inj H
                have p147 : 0 ≤ (x10_1 : Int) := of_decide_eq_true (by first | (with_reducible assumption) | assumption)
                have q147 : x10_1 < (l0.length : Int) := of_decide_eq_true (by first | (with_reducible assumption) | assumption)
                obtain ⟨ad147, e147, hx147_0⟩ := Kd.at_int HR0.out x10_1 p147 q147
                cases e147
                replace p147 := eq_true p147
                replace q147 := eq_true q147
                go_wp2
                go_ret
                exact ⟨by first | rfl | (simp; done) | (simp [*]; done), by repeat (first | exact Drawn0.refl _ | apply Drawn0.step)⟩
              · rw [if_neg c6] at H
                have c6b0 : decide ((rd l0 x10_1) < 0) = false := decide_eq_false c6
                clear c6
                by_cases c7 : (rd l0 x10_1) > 255
                · rw [if_pos c7] at H
                  have c7b0 : decide (255 < (rd l0 x10_1)) = true := decide_eq_true c7
                  clear c7
                  obtain rfl := Option.some.inj H
                  have p147 : 0 ≤ (x10_1 : Int) := of_decide_eq_true (by first | (with_reducible assumption) | assumption)
                  have q147 : x10_1 < (l0.length : Int) := of_decide_eq_true (by first | (with_reducible assumption) | assumption)
                  obtain ⟨ad147, e147, hx147_0⟩ := Kd.at_int HR0.out x10_1 p147 q147
                  cases e147
                  replace p147 := eq_true p147
                  replace q147 := eq_true q147
                  go_wp2
                  go_ret
                  exact ⟨by first | rfl | (simp; done) | (simp [*]; done), by repeat (first | exact Drawn0.refl _ | apply Drawn0.step)⟩
                · rw [if_neg c7] at H
                  have c7b0 : decide (255 < (rd l0 x10_1)) = false := decide_eq_false c7
                  clear c7
                  have H' := Aside0.mk H
                  clear H
                  have p147 : 0 ≤ (x10_1 : Int) := of_decide_eq_true (by first | (with_reducible assumption) | assumption)
                  have q147 : x10_1 < (l0.length : Int) := of_decide_eq_true (by first | (with_reducible assumption) | assumption)
                  obtain ⟨ad147, e147, hx147_0⟩ := Kd.at_int HR0.out x10_1 p147 q147
                  cases e147
                  replace p147 := eq_true p147
                  replace q147 := eq_true q147
                  go_wp2
                  go_roundg k1
                  case measure => have := HK1.out; omega
                  case rel => exact ⟨(wrap64 (x10_1 + 1)), (by first | rfl | (simp; done) | (simp [*]; done)), H', ⟨by have := HK1.out; omega⟩, by repeat (first | exact Drawn0.refl _ | apply Drawn0.step)⟩
            · rw [if_neg c5] at H
              exact absurd H (by simp)
          · rw [if_neg c4] at H
            exact absurd H (by simp)
        · rw [if_neg c3] at H
          have c3b0 : decide (x10_1 < (l0.length : Int)) = false := decide_eq_false c3
          clear c3
          obtain rfl := Option.some.inj H
          go_wp2
          go_ret
          exact ⟨by first | rfl | (simp; done) | (simp [*]; done), by repeat (first | exact Drawn0.refl _ | apply Drawn0.step)⟩

/-! ### impl_CheckSum: function 85 -/
def impl_CheckSum.l0 : Nat → Int → List Int → Int → Int → Option (Int)
  | 0, _, _, _, _ => none
  | k + 1, x3, x9, x10, x11 => if x11 < x10 then (if 0 ≤ x11 then (if x11 < (x9.length : Int) then (impl_CheckSum.l0 k (Int.tmod (wrap64 ((wrap64 ((wrap64 (31 * x3)) + (rd x9 x11))) + 1)) 251) x9 x10 (wrap64 (x11 + 1))) else (none)) else (none)) else (some x3)
def impl_CheckSum.f (k : Nat) (l0 : List Int) : Option (Int) := (impl_BytesValid.f k l0).bind fun t148 => (if t148 = true then (impl_CheckSum.l0 k 7 l0 (l0.length : Int) 0) else (some (-1)))
theorem impl_CheckSum.mono_l : ∀ k, (∀ y0 y1 y2 y3, LeO (impl_CheckSum.l0 k y0 y1 y2 y3) (impl_CheckSum.l0 (k + 1) y0 y1 y2 y3))
  | 0 => fun _ _ _ _ r h => by simp [impl_CheckSum.l0] at h
  | k + 1 => by
    have ih0 := impl_CheckSum.mono_l k
    · intro y0 y1 y2 y3
      unfold impl_CheckSum.l0
      repeat' first
      | (with_reducible exact ih0 _ _ _ _)
      | (with_reducible exact impl_BytesValid.mono _ _)
      | (with_reducible exact LeO.refl _)
      | (with_reducible exact LeO.none _)
      | (with_reducible refine LeO.ite ?_ ?_)
      | (with_reducible refine LeO.bind ?_ (fun _ => ?_))
      | exact ih0 _ _ _ _
      | exact impl_BytesValid.mono _ _
      | exact LeO.none _
      | refine LeO.ite ?_ ?_
      | refine LeO.bind ?_ (fun _ => ?_)
theorem impl_CheckSum.mono : ∀ a0 k, LeO (impl_CheckSum.f k a0) (impl_CheckSum.f (k + 1) a0) := by
  intro a0 k
  have ih0 := impl_CheckSum.mono_l k
  unfold impl_CheckSum.f
  repeat' first
      | (with_reducible exact ih0 _ _ _ _)
      | (with_reducible exact impl_BytesValid.mono _ _)
      | (with_reducible exact LeO.refl _)
      | (with_reducible exact LeO.none _)
      | (with_reducible refine LeO.ite ?_ ?_)
      | (with_reducible refine LeO.bind ?_ (fun _ => ?_))
      | exact ih0 _ _ _ _
      | exact impl_BytesValid.mono _ _
      | exact LeO.none _
      | refine LeO.ite ?_ ?_
      | refine LeO.bind ?_ (fun _ => ?_)
set_option maxHeartbeats 8000000 in
set_option maxRecDepth 100000 in
theorem impl_CheckSum.calls (k : Nat) (A0 : Option Addr) (c0 : Nat) (l0 : List Int) (r : Int) (w : World) (hr0 : Kd.C (Kd.int .i64) w A0 l0.length l0) (hc0 : l0.length ≤ c0) (h : impl_CheckSum.f k l0 = some r) :
    Calls Try.prog 85 #[.slice A0 l0.length c0] w fun e w' => e = .returned (.int .i64 r) ∧ Drawn0 w w' := by
  have HR0 := Aside0.mk hr0
  have HC0 := Aside0.mk hc0
  clear hr0 hc0
  have H : ((impl_BytesValid.f k l0).bind fun t148 => (if t148 = true then (impl_CheckSum.l0 k 7 l0 (l0.length : Int) 0) else (some (-1)))) = some r := h
  clear h
  replace H := Option.bind_eq_some_iff.mp H
  obtain ⟨t148, A20, H⟩ := H
  replace H : (if t148 = true then (impl_CheckSum.l0 k 7 l0 (l0.length : Int) 0) else (some (-1))) = some r := H
  have A2 := Aside0.mk A20
  clear A20
  by_cases c3 : t148 = true
  · subst c3
    have H1 : (impl_CheckSum.l0 k 7 l0 (l0.length : Int) 0) = some r := by rw [if_pos rfl] at H; exact H
    clear H
    have H := H1
    clear H1
    have H' := Aside0.mk H
    clear H
    go_enter Try.func85, Try.ntmps85
    go_wp2_with (first | ((with_reducible refine gate_callee (f := 127) rfl ?_); refine goesL_ (some 7) rfl rfl Try.func127 (by kernel_rfl) rfl #[.slice A0 l0.length c0] rfl (by (try simp only [List.map_toArray, List.map_cons, List.map_nil]); first | done | rfl | (simp only [List.length_drop, List.length_take]; rfl)) ?_; (with_reducible refine (impl_BytesValid.calls k _ _ l0 true _ ?side1 ?side2 A2.out).mono ?_); (case side1 => repeat (first | exact HR0.out | (with_reducible refine Kd.C_alloc ?_ _) | (with_reducible refine Kd.C_drewN ?_ _) | (with_reducible refine Kd.C_drew ?_))); (case side2 => exact HC0.out); rintro e w' ⟨rfl, ⟨nd, rfl⟩⟩; refine ⟨_, rfl, ?_⟩))
    go_loopg [3, 11] k (fun kq v3 v11 w' => ∃ (x3_1 : Int) (x11_1 : Int), v3 = .int .i64 x3_1 ∧ v11 = .int .i64 x11_1 ∧ Aside0 (impl_CheckSum.l0 kq x3_1 l0 (l0.length : Int) x11_1 = some r) ∧ Aside0 (kq ≤ k) ∧ Drawn0 w w')
    case atStart => exact ⟨(7), (0), (by first | rfl | (simp; done) | (simp [*]; done)), (by first | rfl | (simp; done) | (simp [*]; done)), H', ⟨Nat.le_refl _⟩, by repeat (first | exact Drawn0.refl _ | apply Drawn0.step)⟩
    case round =>
      clear H'
      try clear c1
      try clear p2
      try clear c3
      obtain ⟨x3_1, x11_1, rfl, rfl, HA, HK1, ⟨m1, rfl⟩⟩ := hrel
      cases gk with
      | zero => exact absurd HA.out (by simp [impl_CheckSum.l0])
      | succ k1 =>
        have H := HA.out
        clear HA
        simp only [impl_CheckSum.l0] at H
        by_cases c4 : x11_1 < (l0.length : Int)
        · rw [if_pos c4] at H
          have c4b0 : decide (x11_1 < (l0.length : Int)) = true := decide_eq_true c4
          clear c4
          by_cases c5 : 0 ≤ x11_1
          · rw [if_pos c5] at H
            have c5b0 : decide (0 ≤ x11_1) = true := decide_eq_true c5
            clear c5
            by_cases c6 : x11_1 < (l0.length : Int)
            · rw [if_pos c6] at H
              have c6b0 : decide (x11_1 < (l0.length : Int)) = true := decide_eq_true c6
              clear c6
              have H' := Aside0.mk H
              clear H
              have p149 : 0 ≤ (x11_1 : Int) := of_decide_eq_true (by first | (with_reducible assumption) | assumption)
              have q149 : x11_1 < (l0.length : Int) := of_decide_eq_true (by first | (with_reducible assumption) | assumption)
              obtain ⟨ad149, e149, hx149_0⟩ := Kd.at_int HR0.out x11_1 p149 q149
              cases e149
              replace p149 := eq_true p149
              replace q149 := eq_true q149
              go_wp2
              go_roundg k1
              case measure => have := HK1.out; omega
              case rel => exact ⟨(Int.tmod (wrap64 ((wrap64 ((wrap64 (31 * x3_1)) + (rd l0 x11_1))) + 1)) 251), (wrap64 (x11_1 + 1)), (by first | rfl | (simp; done) | (simp [*]; done)), (by first | rfl | (simp; done) | (simp [*]; done)), H', ⟨by have := HK1.out; omega⟩, by repeat (first | exact Drawn0.refl _ | apply Drawn0.step)⟩
            · rw [if_neg c6] at H
              exact absurd H (by simp)
          · rw [if_neg c5] at H
            exact absurd H (by simp)
        · rw [if_neg c4] at H
          have c4b0 : decide (x11_1 < (l0.length : Int)) = false := decide_eq_false c4
          clear c4
          obtain rfl := Option.some.inj H
          go_wp2
          go_ret
          exact ⟨by first | rfl | (simp; done) | (simp [*]; done), by repeat (first | exact Drawn0.refl _ | apply Drawn0.step)⟩
  · replace c3 := Bool.eq_false_iff.mpr c3
    subst c3
    have H1 : (some (-1)) = some r := by rw [if_neg (show ¬ (false = true) by decide)] at H; exact H
    clear H
    have H := H1
    clear H1
    obtain rfl := Option.some.inj H
    go_enter Try.func85, Try.ntmps85
    go_wp2_with (first | ((with_reducible refine gate_callee (f := 127) rfl ?_); refine goesL_ (some 7) rfl rfl Try.func127 (by kernel_rfl) rfl #[.slice A0 l0.length c0] rfl (by (try simp only [List.map_toArray, List.map_cons, List.map_nil]); first | done | rfl | (simp only [List.length_drop, List.length_take]; rfl)) ?_; (with_reducible refine (impl_BytesValid.calls k _ _ l0 false _ ?side1 ?side2 A2.out).mono ?_); (case side1 => repeat (first | exact HR0.out | (with_reducible refine Kd.C_alloc ?_ _) | (with_reducible refine Kd.C_drewN ?_ _) | (with_reducible refine Kd.C_drew ?_))); (case side2 => exact HC0.out); rintro e w' ⟨rfl, ⟨nd, rfl⟩⟩; refine ⟨_, rfl, ?_⟩))
    go_ret
    exact ⟨by first | rfl | (simp; done) | (simp [*]; done), by repeat (first | exact Drawn0.refl _ | apply Drawn0.step)⟩

/-! ### laws_alive: function 35 -/
def laws_alive.f (k : Nat)  : Option (Bool) := (impl_CheckSum.f k (([] : List Int))).bind fun t153 => (some (t153 == 7))
theorem laws_alive.mono : ∀ k, LeO (laws_alive.f k ) (laws_alive.f (k + 1) ) := by
  intro  k
  unfold laws_alive.f
  repeat' first
      | (with_reducible exact impl_CheckSum.mono _ _)
      | (with_reducible exact LeO.refl _)
      | (with_reducible exact LeO.none _)
      | (with_reducible refine LeO.ite ?_ ?_)
      | (with_reducible refine LeO.bind ?_ (fun _ => ?_))
      | exact impl_CheckSum.mono _ _
      | exact LeO.none _
      | refine LeO.ite ?_ ?_
      | refine LeO.bind ?_ (fun _ => ?_)
set_option maxHeartbeats 8000000 in
set_option maxRecDepth 100000 in
theorem laws_alive.calls (k : Nat)  (r : Bool) (w : World) (h : laws_alive.f k  = some r) :
    Calls Try.prog 35 #[] w fun e w' => e = .returned (.bool r) ∧ Below w.heap.size w w' := by
  have HB := Aside0.mk (Below.refl w.heap.size w)
  have H : ((impl_CheckSum.f k (([] : List Int))).bind fun t153 => (some (t153 == 7))) = some r := h
  clear h
  obtain ⟨y150, hy150⟩ : ∃ y_ : List Int, y_ = (([] : List Int)) := ⟨_, rfl⟩
  replace H : ((impl_CheckSum.f k y150).bind fun t153 => (some (t153 == 7))) = some r := by first | (rw [hy150]; with_reducible exact H) | (have H2_ := (Option.bind_some _ _).symm.trans H; rw [hy150]; with_reducible exact H2_) | (have H2_ := (Option.bind_some _ _).symm.trans H; with_reducible exact H2_) | with_reducible exact H | (rw [hy150]; exact H) | exact H
  have Ny150 := Aside0.mk hy150
  clear hy150
  replace H := Option.bind_eq_some_iff.mp H
  obtain ⟨t153, A10, H⟩ := H
  replace H : (some (t153 == 7)) = some r := H
  have A1 := Aside0.mk A10
  clear A10
  obtain rfl := Option.some.inj H
  go_enter Try.func35, Try.ntmps35
  go_wp2_with (first | ((with_reducible refine gate_dst (N := 1) rfl ?_); refine Kd.R_lit (Kd.int .i64) _ 3 ?hg (N := 1) ?hd (xs := ([] : List Int)) (inner := []) (ok := fun _ => True) (okp := fun _ => True) ?hr ?hp (fun _ hk => hk) trivial (Below.refl _ _) (Nat.le_refl _) (by simp) ?_; (case hd => rfl); (case hg => rfl); (case hr => first | (go_simp; done) | (go_simp; rfl)); (case hp => exact (Reps.none _ _)); intro v151 w2 ho3 hb hg_ hnew_; clear hg_ hnew_; (first | rw [← Ny150.out] at ho3 | (simp only [Int.reduceToNat] at ho3; rw [← Ny150.out] at ho3)); have n0_ := Aside0.mk (Kd.R_lower ho3 (below_size (by repeat (first | (with_reducible first | exact HB.out | apply below_alloc | apply pw_below_drewN | apply below_drew1) | exact HB.out)))); have n1_ := Aside0.mk (below_step (by repeat (first | (with_reducible first | exact HB.out | apply below_alloc | apply pw_below_drewN | apply below_drew1) | exact HB.out)) hb); clear HB; have HO152 := n0_; have HB := n1_; clear n0_ n1_; clear hb ho3; obtain ⟨Ao4, co4, eo4⟩ := Kd.R_slice HO152.out; subst eo4) | ((with_reducible refine gate_callee (f := 85) rfl ?_); refine goesL_ (some 2) rfl rfl Try.func85 (by kernel_rfl) rfl #[.slice Ao4 y150.length co4] rfl (by (try simp only [List.map_toArray, List.map_cons, List.map_nil]); first | done | rfl | (simp only [List.length_drop, List.length_take]; rfl)) ?_; (with_reducible refine (impl_CheckSum.calls k _ _ y150 t153 _ ?side1 ?side2 A1.out).mono ?_); (case side1 => repeat (first | exact (Kd.R_reads' HO152.out).2.2 | (with_reducible refine Kd.C_alloc ?_ _) | (with_reducible refine Kd.C_drewN ?_ _) | (with_reducible refine Kd.C_drew ?_))); (case side2 => exact (Kd.R_reads' HO152.out).2.1); rintro e w' ⟨rfl, ⟨nd, rfl⟩⟩; refine ⟨_, rfl, ?_⟩))
  go_ret
  exact ⟨by first | rfl | (simp [errW_none, errW_some] <;> rfl) | (simp [*, errW_none, errW_some] <;> rfl), by repeat (first | (with_reducible first | exact HB.out | apply below_alloc | apply pw_below_drewN | apply below_drew1) | exact HB.out)⟩

/-- A state of type 155 at block g of W; what its slices lead to came in by w0. -/
def IsS155 (w0 W : World) (g : Nat) (f0 : List Int) (f1 : Int) : Prop := ∃ A0 c0, W.heap[g]? = some (.cells #[.slice A0 f0.length c0, .int .i64 f1] 155 (0, 0)) ∧ w0.heap.size ≤ g ∧ Kd.C (Kd.int .u8) w0 A0 f0.length f0
theorem IsS155.grown {w0 W : World} {g : Nat} {f0 : List Int} {f1 : Int} {W1 : World} {row : Option Nat} (h : IsS155 w0 W g f0 f1) (hw : W.grownBy W1 row) (hne : some g ≠ row) : IsS155 w0 W1 g f0 f1 := by
  obtain ⟨A0, c0, hb, hg, hr0⟩ := h
  exact ⟨A0, c0, blk_grown hb hw hne, hg, hr0⟩
theorem IsS155.own_neN {w0 W : World} {g : Nat} {f0 : List Int} {f1 : Int} {α : Type} {d : Kd α} {e : Nat} {base : Nat} {ok : Nat → Prop} {v : Value} {xs : List α} (h : IsS155 w0 W g f0 f1) (ho : Kd.N d e W base ok v xs) (ht : e ≠ 155) : some g ≠ v.ownBlock := by
  obtain ⟨A0, c0, hb, hg, hr0⟩ := h
  exact Kd.N_ne ho hb ht
theorem IsS155.fresh {w0 W : World} {g : Nat} {f0 : List Int} {f1 : Int} (h : IsS155 w0 W g f0 f1) : ∀ k, W.heap.size ≤ k → k ≠ g := by
  obtain ⟨A0, c0, hb, hg, hr0⟩ := h
  exact Kd.freshB hb
theorem IsS155.kept {w0 W : World} {g : Nat} {f0 : List Int} {f1 : Int} {W1 : World} {S : Nat → Prop} (h : IsS155 w0 W g f0 f1) (hk : Kept W W1 S) (hne : ¬ S g) : IsS155 w0 W1 g f0 f1 := by
  obtain ⟨A0, c0, hb, hg, hr0⟩ := h
  exact ⟨A0, c0, blk_kept hb hk hne, hg, hr0⟩
theorem IsS155.below {w0 W : World} {g : Nat} {f0 : List Int} {f1 : Int} {W1 : World} (h : IsS155 w0 W g f0 f1) (hw : Below W.heap.size W W1) : IsS155 w0 W1 g f0 f1 := h.grown (grown_of_below hw none) (by simp)
theorem IsS155.alloc {w0 W : World} {g : Nat} {f0 : List Int} {f1 : Int} (h : IsS155 w0 W g f0 f1) (o : Obj) : IsS155 w0 (W.alloc o) g f0 f1 := h.below (below_alloc (Below.refl _ _) o)
theorem IsS155.drewN {w0 W : World} {g : Nat} {f0 : List Int} {f1 : Int} (h : IsS155 w0 W g f0 f1) (m : Nat) : IsS155 w0 (W.drewN m) g f0 f1 := h
theorem IsS155.drew {w0 W : World} {g : Nat} {f0 : List Int} {f1 : Int} (h : IsS155 w0 W g f0 f1) : IsS155 w0 W.drew g f0 f1 := h
theorem IsS155.at_ {w0 W : World} {g : Nat} {f0 : List Int} {f1 : Int} {w' : World} {m : Nat} (hq : W.drewN m = w') (h : IsS155 w0 W g f0 f1) : IsS155 w0 w' g f0 f1 := by subst hq; exact IsS155.drewN h m
theorem IsS155.apart {w0 W : World} {g : Nat} {f0 : List Int} {f1 : Int} {α : Type} {d : Kd α} {e : Nat} {base : Nat} {ok : Nat → Prop} {v : Value} {xs : List α} (h : IsS155 w0 W g f0 f1) (ho : d.R e W base ok v xs) (ht : ∀ q, q ∈ e :: d.E → q ≠ 155) : d.R e W base (fun k => ok k ∧ k ≠ g) v xs := by
  obtain ⟨A0, c0, hb, hg, hr0⟩ := h
  exact Kd.R_types ho hb ht
theorem IsS155.own_ne {w0 W : World} {g : Nat} {f0 : List Int} {f1 : Int} {α : Type} {d : Kd α} {e : Nat} {base : Nat} {ok : Nat → Prop} {v : Value} {xs : List α} (h : IsS155 w0 W g f0 f1) (ho : d.R e W base ok v xs) (ht : e ≠ 155) : some g ≠ v.ownBlock := by
  obtain ⟨A0, c0, hb, hg, hr0⟩ := h
  exact Kd.R_ne ho hb ht
theorem IsS155.apartQ {w0 W : World} {g : Nat} {f0 : List Int} {f1 : Int} {α : Type} {d : Kd α} {e : Nat} {base : Nat} {ok : Nat → Prop} {v : Value} {xs : List α} (h : IsS155 w0 W g f0 f1) (ho : d.Q e W base ok v xs) (ht : ∀ q, q ∈ e :: d.E → q ≠ 155) : d.Q e W base (fun k => ok k ∧ k ≠ g) v xs := by
  obtain ⟨A0, c0, hb, hg, hr0⟩ := h
  exact Kd.Q_types ho hb ht
theorem IsS155.own_neQ {w0 W : World} {g : Nat} {f0 : List Int} {f1 : Int} {α : Type} {d : Kd α} {e : Nat} {base : Nat} {ok : Nat → Prop} {v : Value} {xs : List α} (h : IsS155 w0 W g f0 f1) (ho : d.Q e W base ok v xs) (ht : e ≠ 155) : some g ≠ v.ownBlock := by
  obtain ⟨A0, c0, hb, hg, hr0⟩ := h
  exact Kd.Q_ne ho hb ht
theorem IsS155.apartS {w0 W : World} {g : Nat} {f0 : List Int} {f1 : Int} {α : Type} {d : Kd α} {e : Nat} {base : Nat} {ok : Nat → Prop} {v : Value} {xs : List α} (h : IsS155 w0 W g f0 f1) (ho : d.S e W base ok v xs) (ht : ∀ q, q ∈ e :: d.E → q ≠ 155) : d.S e W base (fun k => ok k ∧ k ≠ g) v xs := by
  obtain ⟨A0, c0, hb, hg, hr0⟩ := h
  exact Kd.S_types ho hb ht
theorem IsS155.own_neS {w0 W : World} {g : Nat} {f0 : List Int} {f1 : Int} {α : Type} {d : Kd α} {e : Nat} {base : Nat} {ok : Nat → Prop} {v : Value} {xs : List α} (h : IsS155 w0 W g f0 f1) (ho : d.S e W base ok v xs) (ht : e ≠ 155) : some g ≠ v.ownBlock := by
  obtain ⟨A0, c0, hb, hg, hr0⟩ := h
  exact Kd.S_ne ho hb ht
theorem IsS155.lt {w0 W : World} {g : Nat} {f0 : List Int} {f1 : Int} (h : IsS155 w0 W g f0 f1) : g < W.heap.size := by
  obtain ⟨A0, c0, hb, hg, hr0⟩ := h
  exact blk_lt hb
theorem IsS155.ge {w0 W : World} {g : Nat} {f0 : List Int} {f1 : Int} (h : IsS155 w0 W g f0 f1) : w0.heap.size ≤ g := by
  obtain ⟨A0, c0, hb, hg, hr0⟩ := h
  exact hg
theorem IsS155.ne_blk {w0 W : World} {g : Nat} {f0 : List Int} {f1 : Int} {a : Nat} {cs : Array Value} {t : TypeId} {fr : Nat × Nat} (h : IsS155 w0 W g f0 f1) (hb2 : W.heap[a]? = some (.cells cs t fr)) (ht : t ≠ 155) : g ≠ a := by
  obtain ⟨A0, c0, hb, hg, hr0⟩ := h
  rintro rfl
  rw [hb] at hb2
  injection hb2 with hb2
  injection hb2 with _ ht2
  exact ht ht2.symm
theorem IsS155.far {w0 W : World} {g : Nat} {f0 : List Int} {f1 : Int} {p : Addr} (h : IsS155 w0 W g f0 f1) (hne : g ≠ p.block) (u : Value) : IsS155 w0 (W.setCell p u) g f0 f1 := by
  obtain ⟨A0, c0, hb, hg, hr0⟩ := h
  exact ⟨A0, c0, blk_far hb hne u, hg, hr0⟩
theorem cellS155_0 {W : World} {g : Nat} {A0 : Option Addr} {c0 : Nat} {f0 : List Int} {f1 : Int} (h : W.heap[g]? = some (.cells #[.slice A0 f0.length c0, .int .i64 f1] 155 (0, 0))) : W.cell? ⟨g, 0, none⟩ = some (.slice A0 f0.length c0) := (blk_cell h 0).trans rfl
theorem cellS155_1 {W : World} {g : Nat} {A0 : Option Addr} {c0 : Nat} {f0 : List Int} {f1 : Int} (h : W.heap[g]? = some (.cells #[.slice A0 f0.length c0, .int .i64 f1] 155 (0, 0))) : W.cell? ⟨g, 1, none⟩ = some (.int .i64 f1) := (blk_cell h 1).trans rfl
theorem IsS155.set_1 {w0 W : World} {g : Nat} {f0 : List Int} {f1 : Int} (h : IsS155 w0 W g f0 f1) (x : Int) : IsS155 w0 (W.setCell ⟨g, 1, none⟩ (.int .i64 x)) g f0 x := by
  obtain ⟨A0, c0, hb, hg, hr0⟩ := h
  exact ⟨A0, c0, by simpa using blk_set hb 1 (.int .i64 x), hg, hr0⟩
theorem IsS155.new (w0 W : World) (A0 : Option Addr) (c0 : Nat) (f0 : List Int) (f1 : Int) (hB : Below w0.heap.size w0 W) (hr0 : Kd.C (Kd.int .u8) w0 A0 f0.length f0) : IsS155 w0 (W.alloc (.cells #[.slice A0 f0.length c0, .int .i64 f1] 155)) W.heap.size f0 f1 := ⟨A0, c0, by simpa using heap_alloc_new W _, hB.size, hr0⟩

/-! ### spec_l20Open: function 84 -/
def spec_l20Open.f (l0 : List Int) : Option (List Int × Int) := if (l0.length : Int) > 2000 then (if 2000 ≤ (l0.length : Int) then (some (l0.take 2000, 0)) else (none)) else (some (l0, 0))
set_option maxHeartbeats 8000000 in
set_option maxRecDepth 100000 in
theorem spec_l20Open.calls (A0 : Option Addr) (c0 : Nat) (l0 : List Int) (r1 : List Int) (r2 : Int) (w0 w : World) (hB : Below w0.heap.size w0 w) (hr0 : Kd.C (Kd.int .u8) w0 A0 l0.length l0) (hc0 : l0.length ≤ c0) (h : spec_l20Open.f l0 = some (r1, r2)) :
    Calls Try.prog 84 #[.slice A0 l0.length c0] w fun e w' => ∃ g_ : Nat, e = .returned (.pointer (some ⟨g_, 0, none⟩)) ∧ IsS155 w0 w' g_ r1 r2 ∧ Below w0.heap.size w0 w' ∧ Below w.heap.size w w' := by
  have hu155 := Try.underlying155
  have HR0 := Aside0.mk hr0
  have HC0 := Aside0.mk hc0
  clear hr0 hc0
  have HBW := Aside0.mk (Below.refl w.heap.size w)
  have HW0 := Aside0.mk hB.size
  have HB := Aside0.mk hB
  clear hB
  have H : (if (l0.length : Int) > 2000 then (if 2000 ≤ (l0.length : Int) then (some (l0.take 2000, 0)) else (none)) else (some (l0, 0))) = some (r1, r2) := h
  clear h
  by_cases c2 : (l0.length : Int) > 2000
  · rw [if_pos c2] at H
    have c2b0 : decide (2000 < (l0.length : Int)) = true := decide_eq_true c2
    have c2b1 : decide (2000 < l0.length) = true := decide_eq_true (by omega)
    clear c2
    by_cases c3 : 2000 ≤ (l0.length : Int)
    · rw [if_pos c3] at H
      have c3b0 := eq_true c3
      have c3b1 : decide (2000 ≤ (l0.length : Int)) = true := decide_eq_true c3
      clear c3
      simp only [Option.some.injEq, Prod.mk.injEq] at H
      obtain ⟨rfl, rfl⟩ := H
      obtain ⟨i04, hi04, _, hsz4, _⟩ := info_parts info5
      obtain ⟨hcut4, hA4, hC4⟩ := print_take_of (P := Try.prog) (Value.int .u8) 0 45 5 .i64 Try.underlying45 hi04 hsz4 A0 c0 l0 2000 (by omega) (of_decide_eq_true (by first | (with_reducible assumption) | assumption)) HC0.out
      have HR154 := Aside0.mk (Kd.C_of_reads (h1 := fun _ => rfl) (hA4 _ (Kd.reads_of_C HR0.out)))
      have HC154 := Aside0.mk hC4
      clear hA4 hC4 hi04 hsz4
      go_enter Try.func84, Try.ntmps84
      go_wp2_with (first | ((with_reducible refine gate_dst (N := 10) rfl ?_); refine box_event ?hg (N := 10) ?hd (cs := #[.slice A0 (l0.take 2000).length c0, .int .i64 0]) (t := 155) ?hr ?_; (case hd => rfl); (case hg => rfl); (case hr => first | (go_simp; done) | (go_simp; rfl)); intro gb155 hg w5 hbox hb; have n0_ := Aside0.mk (below_step HBW.out hb); have n1_ := Aside0.mk (below_step (by repeat (first | (with_reducible first | exact HB.out | apply below_alloc | apply pw_below_drewN | apply below_drew1) | exact HB.out)) hb); have n2_ := Aside0.mk (hbox); have n3_ := Aside0.mk ((by rw [hg]; exact (below_size (by repeat (first | (with_reducible first | exact HBW.out | apply below_alloc | apply pw_below_drewN | apply below_drew1) | exact HBW.out))) : w.heap.size ≤ gb155)); have n4_ := Aside0.mk ((Nat.le_trans HW0.out (by rw [hg]; exact (below_size (by repeat (first | (with_reducible first | exact HBW.out | apply below_alloc | apply pw_below_drewN | apply below_drew1) | exact HBW.out))) : w.heap.size ≤ gb155) : w0.heap.size ≤ gb155)); clear HBW; clear HB; have HBW := n0_; have HB := n1_; have BK155 := n2_; have GW155 := n3_; have GE155 := n4_; clear n0_ n1_ n2_ n3_ n4_; clear hb hbox hg))
      go_ret
      exact ⟨_, rfl, (show IsS155 w0 _ gb155 (l0.take 2000) 0 from ⟨_, _, by (with_reducible repeat (first | refine blk_drewN ?_ _ | refine blk_drew ?_ | refine blk_alloc ?_ _)); exact BK155.out, GE155.out, HR154.out⟩), by repeat (first | (with_reducible first | exact HB.out | apply below_alloc | apply pw_below_drewN | apply below_drew1 | refine below_set ?_ GE155.out) | exact HB.out), by repeat (first | (with_reducible first | exact HBW.out | apply below_alloc | apply pw_below_drewN | apply below_drew1 | refine below_set ?_ GW155.out) | exact HBW.out)⟩
    · rw [if_neg c3] at H
      exact absurd H (by simp)
  · rw [if_neg c2] at H
    have c2b0 : decide (2000 < (l0.length : Int)) = false := decide_eq_false c2
    have c2b1 : decide (2000 < l0.length) = false := decide_eq_false (by omega)
    clear c2
    simp only [Option.some.injEq, Prod.mk.injEq] at H
    obtain ⟨rfl, rfl⟩ := H
    go_enter Try.func84, Try.ntmps84
    go_wp2_with (first | ((with_reducible refine gate_dst (N := 10) rfl ?_); refine box_event ?hg (N := 10) ?hd (cs := #[.slice A0 l0.length c0, .int .i64 0]) (t := 155) ?hr ?_; (case hd => rfl); (case hg => rfl); (case hr => first | (go_simp; done) | (go_simp; rfl)); intro gb156 hg w6 hbox hb; have n0_ := Aside0.mk (below_step HBW.out hb); have n1_ := Aside0.mk (below_step (by repeat (first | (with_reducible first | exact HB.out | apply below_alloc | apply pw_below_drewN | apply below_drew1) | exact HB.out)) hb); have n2_ := Aside0.mk (hbox); have n3_ := Aside0.mk ((by rw [hg]; exact (below_size (by repeat (first | (with_reducible first | exact HBW.out | apply below_alloc | apply pw_below_drewN | apply below_drew1) | exact HBW.out))) : w.heap.size ≤ gb156)); have n4_ := Aside0.mk ((Nat.le_trans HW0.out (by rw [hg]; exact (below_size (by repeat (first | (with_reducible first | exact HBW.out | apply below_alloc | apply pw_below_drewN | apply below_drew1) | exact HBW.out))) : w.heap.size ≤ gb156) : w0.heap.size ≤ gb156)); clear HBW; clear HB; have HBW := n0_; have HB := n1_; have BK156 := n2_; have GW156 := n3_; have GE156 := n4_; clear n0_ n1_ n2_ n3_ n4_; clear hb hbox hg))
    go_ret
    exact ⟨_, rfl, (show IsS155 w0 _ gb156 l0 0 from ⟨_, _, by (with_reducible repeat (first | refine blk_drewN ?_ _ | refine blk_drew ?_ | refine blk_alloc ?_ _)); exact BK156.out, GE156.out, HR0.out⟩), by repeat (first | (with_reducible first | exact HB.out | apply below_alloc | apply pw_below_drewN | apply below_drew1 | refine below_set ?_ GE156.out) | exact HB.out), by repeat (first | (with_reducible first | exact HBW.out | apply below_alloc | apply pw_below_drewN | apply below_drew1 | refine below_set ?_ GW156.out) | exact HBW.out)⟩

end Go.Proofs.Ytloiafnoekpaoab.PFnTotalsOf
