/- Laid by a program of this session out of the translation: functions, their contracts, the row. Lean checks it. -/
import Derived.Test.YtloiafnoekpaoabPFnExactTotalsOfx0
import Derived.Test.YtloiafnoekpaoabPFnExactTotalsOfx3
namespace Go.Proofs.Ytloiafnoekpaoab.PFnExactTotalsOf
open Go.RowKit Go.Proofs.YtloiafnoekpaoabW.PrintWords Go.Proofs.YtloiafnoekpaoabW.PrintLast Go.Proofs.YtloiafnoekpaoabW.PrintMore
attribute [local go_sem] max2_int min2_int max_two min_two max_three min_three max_four min_four   -- for this text's walks alone
set_option linter.unusedVariables false
set_option linter.unusedSimpArgs false


/-! ### impl_TotalsOf: function 28 -/
def tsStep (b : Nat) (ts : List S52) (k : Nat) (x : Int) : Option (List S52) := (impl_Total_with.f (rd_T52 ts (ownN b k : Nat)).f0 (rd_T52 ts (ownN b k : Nat)).f1 (rd_T52 ts (ownN b k : Nat)).f2 (rd_T52 ts (ownN b k : Nat)).f3 x).bind fun t => some (ts.set (ownN b k) ⟨t.1, t.2.1, t.2.2.1, t.2.2.2⟩)
def tsGo (b : Nat) : List Int → Nat → List S52 → Option (List S52)
  | [], _, ts => some ts
  | x :: xs, k, ts => (tsStep b ts k x).bind fun ts' => tsGo b xs (k + 1) ts'
def noT : S52 := ⟨0, 0, -1, -1⟩
def impl_TotalsOf.f (k : Nat) (l0 : List Int) (a1 : Int) : Option (List S52) := if (l0.length : Int) > 16 then some [] else (impl_valuesFit.f k l0).bind fun t => if t = true then (impl_workersFit.f a1).bind fun u => if u = true then tsGo a1.toNat l0 0 (List.replicate a1.toNat noT) else some [] else some []
theorem impl_TotalsOf.mono : ∀ a0 a1 k, LeO (impl_TotalsOf.f k a0 a1) (impl_TotalsOf.f (k + 1) a0 a1) := by
  intro a0 a1 k
  unfold impl_TotalsOf.f
  refine LeO.ite (LeO.refl _) ?_
  exact LeO.bind (impl_valuesFit.mono _ _) (fun _ => LeO.refl _)
def impl_TotalsOf.T13 : Bool × List (List Nat × List Nat) := (true, [([], []), ([], []), ([1], [1]), ([2], [2]), ([], []), ([], []), ([5], [5]), ([6], [6]), ([4, 7], [4, 7]), ([8], [8]), ([], []), ([9, 10], [9, 10]), ([0, 3, 0, 1, 2, 3, 4, 5, 6, 7, 8, 9, 10, 11], [0, 3]), ([12, 11, 11, 0, 1, 2, 3, 4, 5, 6, 7, 8, 9, 10, 11], [11, 12])])
def impl_TotalsOf.B13 : List Nat := [0, 0, 2, 6, 0, 0, 32, 96, 240, 496, 0, 2032, 4095, 8191]
theorem impl_TotalsOf.tab13 : rtab .any (opsOf Try.f28 13) = impl_TotalsOf.T13 := by kernel_rfl
theorem impl_TotalsOf.bits13 : waitsOk impl_TotalsOf.T13.2 impl_TotalsOf.B13 = true := by kernel_rfl
def tsInit (b j : Nat) : List S52 := List.replicate j noT ++ List.replicate (b - j) z52
theorem tsInit_zero (b : Nat) : tsInit b 0 = List.replicate b z52 := by simp [tsInit]
theorem tsInit_all (b : Nat) : tsInit b b = List.replicate b noT := by simp [tsInit]
theorem tsInit_len (b j : Nat) (h : j ≤ b) : (tsInit b j).length = b := by simp [tsInit]; omega
theorem tsInit_set (b j : Nat) (h : j < b) : (tsInit b j).set j noT = tsInit b (j + 1) := by
  unfold tsInit
  obtain ⟨d, rfl⟩ : ∃ d, b = j + 1 + d := ⟨b - (j + 1), by omega⟩
  rw [show j + 1 + d - j = d + 1 by omega, show j + 1 + d - (j + 1) = d by omega, List.replicate_succ, List.set_append_right _ _ (by simp), List.length_replicate, Nat.sub_self, List.set_cons_zero, List.replicate_succ' (n := j), List.append_assoc]
  rfl
theorem ownN_lt (b k : Nat) (h : 1 ≤ b) : ownN b k < b := by unfold ownN; exact Nat.mod_lt _ (by omega)
theorem kk_alloc_setRow (w : World) (t : Nat) (zs cs : Array Value) : (w.alloc (.cells zs t (0, 0))).setRow w.heap.size cs = w.alloc (.cells cs t (0, 0)) := by
  unfold World.setRow World.alloc
  congr 1
  apply Array.ext_getElem?
  intro i
  rw [Array.getElem?_modify, Array.getElem?_push, Array.getElem?_push]
  by_cases h : w.heap.size = i
  · rw [if_pos h, if_pos h.symm, if_pos h.symm]; rfl
  · rw [if_neg h, if_neg (fun e => h e.symm), if_neg (fun e => h e.symm)]
set_option maxHeartbeats 8000000 in
set_option maxRecDepth 100000 in
theorem impl_TotalsOf.calls (k : Nat) (A0 : Option Addr) (c0 : Nat) (l0 : List Int) (a1 : Int) (r : List (S52)) (w : World) (hr0 : Kd.C (Kd.int .i64) w A0 l0.length l0) (hc0 : l0.length ≤ c0) (h : impl_TotalsOf.f k l0 a1 = some r) :
    Calls Try.prog 28 #[.slice A0 l0.length c0, .int .i64 a1] w fun e w' => ∃ v0_ : Value, e = .returned (v0_) ∧ Kd.R k52 52 w' w.heap.size (fun _ => True) v0_ r ∧ Below w.heap.size w w' := by
  have HR0 := Aside0.mk hr0
  have HC0 := Aside0.mk hc0
  clear hr0 hc0
  unfold impl_TotalsOf.f at h
  by_cases c1 : (l0.length : Int) > 16
  · rw [if_pos c1] at h
    obtain rfl := Option.some.inj h
    clear h
    have c1b0 : decide (16 < (l0.length : Int)) = true := decide_eq_true c1
    have c1b1 : decide (16 < l0.length) = true := decide_eq_true (by omega)
    clear c1
    go_enter Try.func28, Try.ntmps28
    go_wp2
    go_ret
    exact ⟨_, rfl, Kd.R_nil _ _ _ _ _, Below.refl _ _⟩
  · rw [if_neg c1] at h
    have c1b0 : decide (16 < (l0.length : Int)) = false := decide_eq_false c1
    have c1b1 : decide (16 < l0.length) = false := decide_eq_false (by omega)
    have HL := Aside0.mk (show l0.length ≤ 16 by omega)
    clear c1
    replace h := Option.bind_eq_some_iff.mp h
    obtain ⟨t, A1, h⟩ := h
    have HV := Aside0.mk A1
    clear A1
    cases t
    · rw [if_neg (by simp)] at h
      obtain rfl := Option.some.inj h
      clear h
      go_enter Try.func28, Try.ntmps28
      go_wp2_with (first | (go_at_call 76; (with_reducible refine (impl_valuesFit.calls k A0 c0 l0 false _ HR0.out HC0.out HV.out).mono ?_); rintro e w' ⟨rfl, ⟨nd, rfl⟩⟩))
      go_ret
      exact ⟨_, rfl, Kd.R_nil _ _ _ _ _, pw_below_drewN (Below.refl _ _) _⟩
    · rw [if_pos rfl] at h
      replace h := Option.bind_eq_some_iff.mp h
      obtain ⟨u, A2, h⟩ := h
      have HF := Aside0.mk A2
      cases u
      · rw [if_neg (by simp)] at h
        obtain rfl := Option.some.inj h
        clear h A2
        go_enter Try.func28, Try.ntmps28
        go_wp2_with (first | (go_at_call 76; (with_reducible refine (impl_valuesFit.calls k A0 c0 l0 true _ HR0.out HC0.out HV.out).mono ?_); rintro e w' ⟨rfl, ⟨nd, rfl⟩⟩) | (go_at_call 77; (with_reducible refine (impl_workersFit.calls a1 false _ HF.out).mono ?_); rintro e w' ⟨rfl, ⟨nd2, rfl⟩⟩))
        go_ret
        exact ⟨_, rfl, Kd.R_nil _ _ _ _ _, by repeat (first | exact Below.refl _ _ | (with_reducible refine pw_below_drewN ?_ _))⟩
      · rw [if_pos rfl] at h
        have hb1 : 1 ≤ a1 ∧ a1 ≤ 6 := by
          unfold impl_workersFit.f at A2
          by_cases q : a1 ≥ 1
          · rw [if_pos q] at A2; simp at A2; exact ⟨q, A2⟩
          · rw [if_neg q] at A2; simp at A2
        clear A2
        obtain ⟨b, rfl⟩ := Int.eq_ofNat_of_zero_le (a := a1) (by omega)
        obtain ⟨hb1, hb6⟩ := hb1
        rw [Int.toNat_natCast] at h
        have HH := Aside0.mk h
        clear h
        have HB := Aside0.mk (Below.refl w.heap.size w)
        go_enter Try.func28, Try.ntmps28
        go_upto_region 3 with (first
          | (go_at_call 76; (with_reducible refine (impl_valuesFit.calls k A0 c0 l0 true _ HR0.out HC0.out HV.out).mono ?_); rintro e w' ⟨rfl, ⟨nd, rfl⟩⟩)
          | (go_at_call 77; (with_reducible refine (impl_workersFit.calls b true _ HF.out).mono ?_); rintro e w' ⟨rfl, ⟨nd2, rfl⟩⟩))
        go_wp2_with ((with_reducible refine gate_dst (N := 24) rfl ?_); refine Kd.R_make k52 _ 52 rfl (N := 24) rfl 40 _ _ rfl (b : Int) rfl rfl Try.underlying40 (.agg #[(.int .i64 0), (.int .i64 0), (.int .i64 0), (.int .i64 0)]) 32 info52 rfl (by decide) (by omega) z52 (ok := fun _ => True) (okp := fun _ => True) (k52_mkM _ _ _ z52) (fun _ hk => hk) trivial (by omega) (by omega) (Below.refl _ _) (Nat.le_refl _) ?_; intro v1 w4 ho hb hg_ hnew_; clear hg_ hnew_; rw [Int.toNat_natCast, ← tsInit_zero] at ho; have HR1 := Aside0.mk (Kd.R_lower ho (show w.heap.size ≤ _ by simp)); have HB1 := Aside0.mk (below_step (show Below w.heap.size w _ from pw_below_drewN HB.out _) hb); obtain ⟨go, co, eo, hge0, hlt0, cells, HG⟩ := Kd.R_form HR1.out (by rw [tsInit_len _ _ (by omega)]; omega); rw [tsInit_len _ _ (by omega)] at eo; subst eo; clear HG hb ho)
        clear HV HF HB
        go_loopw [27] (fun i wr => ∃ j : Nat, j ≤ b ∧ i = .int .i64 j ∧ Aside0 (Kd.R k52 52 wr w.heap.size (fun _ => True) (.slice (some ⟨go, 0, none⟩) b co) (tsInit b j)) ∧ Aside0 (Below w.heap.size w wr)) (fun i _ => b - (intOf i).toNat)
        case atStart => exact ⟨0, by omega, rfl, HR1, HB1⟩
        case round =>
          clear HR1 HB1 hlt0
          obtain ⟨j, hj, rfl, HR, HBr⟩ := hrel
          by_cases hlt : j < b
          · have hln := tsInit_len b j (by omega)
            go_wp2_with (first | (go_at_call 78; (with_reducible refine (impl_noTotal.calls 0 0 (-1) (-1) _ rfl).mono ?_); rintro e w5 ⟨rfl, hb⟩; have HR5 := Aside0.mk (Kd.R_below HR.out hb); have HB5 := Aside0.mk (below_step HBr.out hb); clear hb; obtain ⟨ce, hcl, hM, hcc, hfr⟩ := Kd.R_elem HR5.out z52 (j : Int) (by omega) (by omega); obtain rfl := k52_openM hM; have HP := Kd.R_seg HR5.out (j : Int) (by omega) (by omega) (seg := [.int .i64 0, .int .i64 0, .int .i64 (-1), .int .i64 (-1)]) (j := 0) hcl hcc (show 4 ≤ 4 from by decide) (x' := noT) (k52_mkM _ _ _ noT) (fun _ hk => hk); have hx0 := hcc 0 _ rfl; simp only [show (k52).sz = 4 from rfl, Nat.mul_one, Nat.add_zero, Int.toNat_natCast] at hx0; have hf0 := hfr 0; simp only [show (k52).sz = 4 from rfl, Nat.mul_one, Nat.add_zero, Int.toNat_natCast] at hf0; have hx1 := hcc 1 _ rfl; simp only [show (k52).sz = 4 from rfl, Nat.mul_one, Nat.add_zero, Int.toNat_natCast] at hx1; have hf1 := hfr 1; simp only [show (k52).sz = 4 from rfl, Nat.mul_one, Nat.add_zero, Int.toNat_natCast] at hf1; have hx2 := hcc 2 _ rfl; simp only [show (k52).sz = 4 from rfl, Nat.mul_one, Nat.add_zero, Int.toNat_natCast] at hx2; have hf2 := hfr 2; simp only [show (k52).sz = 4 from rfl, Nat.mul_one, Nat.add_zero, Int.toNat_natCast] at hf2; have hx3 := hcc 3 _ rfl; simp only [show (k52).sz = 4 from rfl, Nat.mul_one, Nat.add_zero, Int.toNat_natCast] at hx3; have hf3 := hfr 3; simp only [show (k52).sz = 4 from rfl, Nat.mul_one, Nat.add_zero, Int.toNat_natCast] at hf3; clear hcl hcc hfr hM))
            go_roundw
            case measure => simp [intOf]; omega
            case rel => exact ⟨j + 1, by omega, by go_num, ⟨by rw [← tsInit_set b j hlt]; exact HP.1⟩, ⟨below_set (below_set (below_set (below_set HB5.out hge0) hge0) hge0) hge0⟩⟩
          · have e : j = b := by omega
            rw [e, tsInit_all] at HR
            go_wp2_with (first
              | (go_at_call 79; (with_reducible refine (ownerTable_calls b (by omega) (by omega) _).mono ?_); rintro e w5 ⟨rfl, hb⟩; have HR5 := Aside0.mk (Kd.R_below HR.out hb); have HB5 := Aside0.mk (below_step HBr.out hb); clear hb)
              | ((with_reducible refine gate_store (t := 96) (p := 7) rfl ?_); refine wpList_store_row rfl 96 _ _ rfl w5.heap.size (tbl b 16) rfl rfl 96 _ (heap_alloc_new _ _) (by rw [tbl_size]; kernel_rfl) (by rw [tbl_size]; rfl) (tbl_one b 16) ?_; rw [kk_alloc_setRow]; obtain ⟨g2, c2, e2, _, hl2, _⟩ := Kd.R_form HR5.out (by rw [List.length_replicate]; omega); have hgo5 : go < w5.heap.size := (by injection e2 with e3 e4 e5; injection e3 with e6; injection e6 with e7; omega); have HR6 := Aside0.mk (Kd.R_alloc HR5.out (.cells (tbl b 16) 96)); have HB6 := Aside0.mk (below_alloc HB5.out (.cells (tbl b 16) 96)); have h76 : (w5.alloc (.cells (tbl b 16) 96)).heap[w5.heap.size]? = some (.cells (tbl b 16) 96 (0, 0)) := heap_alloc_new _ _; clear e2 hl2 HR5 HB5; generalize w5.alloc (.cells (tbl b 16) 96) = w6 at HR6 HB6 h76 ⊢; generalize w5.heap.size = ga at h76 hgo5 ⊢))
            clear HR HBr e hlt hj
            have hne : go ≠ ga := by omega
            go_loopw [39] (fun i wr => ∃ (q : Nat) (ts : List S52), q ≤ l0.length ∧ i = .int .i64 q ∧ Aside0 (tsGo b (l0.drop q) q ts = some r) ∧ ts.length = b ∧ Aside0 (Kd.R k52 52 wr w.heap.size (fun _ => True) (.slice (some ⟨go, 0, none⟩) b co) ts) ∧ wr.heap[ga]? = some (.cells (tbl b 16) 96 (0, 0)) ∧ Aside0 (Below w.heap.size w wr)) (fun i _ => l0.length - (intOf i).toNat)
            case atStart => exact ⟨0, _, by omega, rfl, HH, by simp, HR6, h76, HB6⟩
            case round =>
              clear HR6 h76 HB6
              obtain ⟨q, ts, hq', rfl, HN, hts, HR4, h74, HB4⟩ := hrel
              by_cases hq : q < l0.length
              · have HN0 := HN.out
                rw [List.drop_eq_getElem_cons hq] at HN0
                have HN1 : ((tsStep b ts q (l0[q]'hq)).bind fun ts' => tsGo b (l0.drop (q + 1)) (q + 1) ts') = some r := HN0
                clear HN HN0
                obtain ⟨ts', hst, HN2⟩ := Option.bind_eq_some_iff.mp HN1
                obtain ⟨⟨t1, t2, t3, t4⟩, hw, hts'⟩ := Option.bind_eq_some_iff.mp hst
                obtain rfl := Option.some.inj hts'
                have HW := Aside0.mk hw
                have HN := Aside0.mk HN2
                clear HN1 HN2 hst hw hts'
                have hol := ownN_lt b q (by omega)
                have h16 := HL.out
                obtain ⟨ad, ea, hx⟩ := Kd.at_int HR0.out (q : Int) (by omega) (by omega)
                cases ea
                rw [Int.toNat_natCast, show rd l0 (q : Int) = l0[q]'hq from by simp [rd, hq]] at hx
                replace hx := (HB4.out.cell (World.block_lt_of_cell? w _ hx)).trans hx
                have hc7 := kk_blk_cell h74 q
                rw [tbl_get _ _ _ (by omega), if_pos (by omega)] at hc7
                obtain ⟨ce, hcl, hM, hcc, hfr⟩ := Kd.R_elem HR4.out z52 ((ownN b q : Nat) : Int) (by omega) (by omega)
                obtain rfl := k52_openM hM
                have hy0 : wr.cell? ⟨go, ownN b q * 4, none⟩ = some (.int .i64 (rd_T52 ts ((ownN b q : Nat) : Int)).f0) := hcc 0 _ rfl
                have hy1 : wr.cell? ⟨go, ownN b q * 4 + 1, none⟩ = some (.int .i64 (rd_T52 ts ((ownN b q : Nat) : Int)).f1) := hcc 1 _ rfl
                have hy2 : wr.cell? ⟨go, ownN b q * 4 + 2, none⟩ = some (.int .i64 (rd_T52 ts ((ownN b q : Nat) : Int)).f2) := hcc 2 _ rfl
                have hy3 : wr.cell? ⟨go, ownN b q * 4 + 3, none⟩ = some (.int .i64 (rd_T52 ts ((ownN b q : Nat) : Int)).f3) := hcc 3 _ rfl
                clear hcl hM hcc hfr
                go_wp2
                have qi0 : ((q : Int) < 16) = True := eq_true (by omega)
                have qi1 : (q < 16) = True := eq_true (by omega)
                have qi2 : (((ownN b q : Nat) : Int) < (b : Int)) = True := eq_true (by omega)
                have qi3 : (ownN b q < b) = True := eq_true hol
                refine start_ (n := 14) (S := fun w1 => w1.cell? ⟨ga, q, none⟩ = some (.int .i64 ((ownN b q : Nat) : Int)) ∧ w1.cell? ⟨go, ownN b q * 4, none⟩ = some (.int .i64 (rd_T52 ts ((ownN b q : Nat) : Int)).f0) ∧ w1.cell? ⟨go, ownN b q * 4 + 1, none⟩ = some (.int .i64 (rd_T52 ts ((ownN b q : Nat) : Int)).f1) ∧ w1.cell? ⟨go, ownN b q * 4 + 2, none⟩ = some (.int .i64 (rd_T52 ts ((ownN b q : Nat) : Int)).f2) ∧ w1.cell? ⟨go, ownN b q * 4 + 3, none⟩ = some (.int .i64 (rd_T52 ts ((ownN b q : Nat) : Int)).f3)) (ds := [13]) #[false, false, false, false, false, false, false, false, false, false, false, false, false, false] (by kernel_rfl) rfl rfl ⟨hc7, hy0, hy1, hy2, hy3⟩ (fun hHeld => ?_)
                refine with_tabW impl_TotalsOf.tab13 impl_TotalsOf.bits13 (fun HT_ HW_ => ?_)
                have HR5 := Aside0.mk (Kd.R_drew HR4.out)
                have HB5 := Aside0.mk (below_drew1 HB4.out)
                have h75 : wr.drew.heap[ga]? = some (.cells (tbl b 16) 96 (0, 0)) := h74
                clear HR4 HB4 h74 hc7 hy0 hy1 hy2 hy3 hx
                generalize wr.drew = w5 at HR5 HB5 h75 hHeld ⊢
                refine pure_ (i := 0) (N := some 44) (v := ?_) (a' := ?_) #[true, false, false, false, false, false, false, false, false, false, false, false, false, false] rfl rfl (any_of HT_.out (by kernel_rfl)) (fun _ _ _ h => h) (Or.inl ⟨by rfl, ?_⟩) ?_ ?_
                rotate_left
                · intro w1
                  go_simp
                  with_reducible rfl
                rotate_left
                · simp only [Act.put, List.setIfInBounds_toArray, List.set_cons_zero, List.set_cons_succ, i64_w, i32_w]
                  rfl
                refine pure_ (i := 1) (N := some 45) (v := ?_) (a' := ?_) #[true, true, false, false, false, false, false, false, false, false, false, false, false, false] rfl rfl (any_of HT_.out (by kernel_rfl)) (fun _ _ _ h => h) (Or.inl ⟨by rfl, ?_⟩) ?_ ?_
                rotate_left
                · intro w1
                  go_simp
                  with_reducible rfl
                rotate_left
                · simp only [Act.put, List.setIfInBounds_toArray, List.set_cons_zero, List.set_cons_succ, i64_w, i32_w]
                  rfl
                refine pure_ (i := 2) (N := some 46) (v := ?_) (a' := ?_) #[true, true, true, false, false, false, false, false, false, false, false, false, false, false] rfl rfl (any_of HT_.out (by kernel_rfl)) (fun _ _ _ h => h) (Or.inl ⟨by rfl, ?_⟩) ?_ ?_
                rotate_left
                · intro w1
                  go_simp
                  with_reducible rfl
                rotate_left
                · simp only [Act.put, List.setIfInBounds_toArray, List.set_cons_zero, List.set_cons_succ, i64_w, i32_w]
                  rfl
                refine pure_ (i := 4) (N := some 48) (v := ?_) (a' := ?_) #[true, true, true, false, true, false, false, false, false, false, false, false, false, false] rfl rfl (any_of HT_.out (by kernel_rfl)) (fun _ _ _ h => h) (Or.inl ⟨by rfl, ?_⟩) ?_ ?_
                rotate_left
                · intro w1
                  go_simp
                  with_reducible rfl
                rotate_left
                · simp only [Act.put, List.setIfInBounds_toArray, List.set_cons_zero, List.set_cons_succ, i64_w, i32_w]
                  rfl
                refine pure_ (i := 5) (N := some 49) (v := ?_) (a' := ?_) #[true, true, true, false, true, true, false, false, false, false, false, false, false, false] rfl rfl (any_of HT_.out (by kernel_rfl)) (fun _ _ _ h => h) (Or.inl ⟨by rfl, ?_⟩) ?_ ?_
                rotate_left
                · intro w1
                  go_simp
                  with_reducible rfl
                rotate_left
                · simp only [Act.put, List.setIfInBounds_toArray, List.set_cons_zero, List.set_cons_succ, i64_w, i32_w]
                  rfl
                refine pure_ (i := 6) (N := some 50) (v := ?_) (a' := ?_) #[true, true, true, false, true, true, true, false, false, false, false, false, false, false] rfl rfl (any_of HT_.out (by kernel_rfl)) (fun _ _ _ h => h) (Or.inl ⟨by rfl, ?_⟩) ?_ ?_
                rotate_left
                · intro w1
                  go_simp
                  with_reducible rfl
                rotate_left
                · simp only [Act.put, List.setIfInBounds_toArray, List.set_cons_zero, List.set_cons_succ, i64_w, i32_w]
                  rfl
                refine pure_ (i := 10) (N := some 54) (v := ?_) (a' := ?_) #[true, true, true, false, true, true, true, false, false, false, true, false, false, false] rfl rfl (any_of HT_.out (by kernel_rfl)) (fun _ _ _ h => h) (Or.inl ⟨by rfl, ?_⟩) ?_ ?_
                rotate_left
                · intro w1
                  go_simp
                  with_reducible rfl
                rotate_left
                · simp only [Act.put, List.setIfInBounds_toArray, List.set_cons_zero, List.set_cons_succ, i64_w, i32_w]
                  rfl
                refine take_ (i := 3) (N := some 47) (v := ?_) (a' := ?_) #[true, true, true, true, true, true, true, false, false, false, true, false, false, false] rfl rfl (take_ofW HT_.out HW_.out (by kernel_rfl)) (fun _ _ _ h => h) (Or.inl ⟨by rfl, ?_⟩) hHeld ?_ ?_
                rotate_left
                · rintro w1 ⟨s0, s1, s2, s3, s4⟩
                  go_simp
                  with_reducible rfl
                rotate_left
                · simp only [Act.put, List.setIfInBounds_toArray, List.set_cons_zero, List.set_cons_succ, i64_w, i32_w]
                  rfl
                refine take_ (i := 7) (N := some 51) (v := ?_) (a' := ?_) #[true, true, true, true, true, true, true, true, false, false, true, false, false, false] rfl rfl (take_ofW HT_.out HW_.out (by kernel_rfl)) (fun _ _ _ h => h) (Or.inl ⟨by rfl, ?_⟩) hHeld ?_ ?_
                rotate_left
                · rintro w1 ⟨s0, s1, s2, s3, s4⟩
                  go_simp
                  with_reducible rfl
                rotate_left
                · simp only [Act.put, List.setIfInBounds_toArray, List.set_cons_zero, List.set_cons_succ, i64_w, i32_w]
                  rfl
                refine pure_ (i := 8) (N := some 52) (v := ?_) (a' := ?_) #[true, true, true, true, true, true, true, true, true, false, true, false, false, false] rfl rfl (any_of HT_.out (by kernel_rfl)) (fun _ _ _ h => h) (Or.inl ⟨by rfl, ?_⟩) ?_ ?_
                rotate_left
                · intro w1
                  go_simp
                  with_reducible rfl
                rotate_left
                · simp only [Act.put, List.setIfInBounds_toArray, List.set_cons_zero, List.set_cons_succ, i64_w, i32_w]
                  rfl
                refine take_ (i := 9) (N := some 53) (v := ?_) (a' := ?_) #[true, true, true, true, true, true, true, true, true, true, true, false, false, false] rfl rfl (take_ofW HT_.out HW_.out (by kernel_rfl)) (fun _ _ _ h => h) (Or.inl ⟨by rfl, ?_⟩) hHeld ?_ ?_
                rotate_left
                · rintro w1 ⟨s0, s1, s2, s3, s4⟩
                  go_simp
                  with_reducible rfl
                rotate_left
                · simp only [Act.put, List.setIfInBounds_toArray, List.set_cons_zero, List.set_cons_succ, i64_w, i32_w]
                  rfl
                refine one_ (i := 11) (N := some 55) #[true, true, true, true, true, true, true, true, true, true, true, true, false, false] rfl rfl (one_of HT_.out (by kernel_rfl)) (by decide) (fun K hK => ?_)
                refine goes_ Try.func80 (by kernel_rfl) rfl #[.agg #[.int .i64 (rd_T52 ts ((ownN b q : Nat) : Int)).f0, .int .i64 (rd_T52 ts ((ownN b q : Nat) : Int)).f1, .int .i64 (rd_T52 ts ((ownN b q : Nat) : Int)).f2, .int .i64 (rd_T52 ts ((ownN b q : Nat) : Int)).f3], .int .i64 (l0[q]'hq)] (by rfl) rfl rfl (by (try simp only [List.map_toArray, List.map_cons, List.map_nil]); first | done | rfl) ?_
                with_reducible refine (impl_Total_with.calls (rd_T52 ts ((ownN b q : Nat) : Int)).f0 (rd_T52 ts ((ownN b q : Nat) : Int)).f1 (rd_T52 ts ((ownN b q : Nat) : Int)).f2 (rd_T52 ts ((ownN b q : Nat) : Int)).f3 (l0[q]'hq) t1 t2 t3 t4 _ HW.out).mono ?_
                rintro e w6 ⟨rfl, hb⟩
                refine ⟨_, rfl, ?_⟩
                refine hK.out _ _ ⟨(hb.cell (World.block_lt_of_cell? _ _ hHeld.1)).trans hHeld.1, (hb.cell (World.block_lt_of_cell? _ _ hHeld.2.1)).trans hHeld.2.1, (hb.cell (World.block_lt_of_cell? _ _ hHeld.2.2.1)).trans hHeld.2.2.1, (hb.cell (World.block_lt_of_cell? _ _ hHeld.2.2.2.1)).trans hHeld.2.2.2.1, (hb.cell (World.block_lt_of_cell? _ _ hHeld.2.2.2.2)).trans hHeld.2.2.2.2⟩ (fun hHeld2 => ?_)
                clear hK K
                refine norm_ (a' := ?_) ?_ ?_
                rotate_left
                · show Act.put _ (some 55) _ = _
                  simp only [Act.put, List.setIfInBounds_toArray, List.set_cons_zero, List.set_cons_succ, i64_w, i32_w]
                  rfl
                refine pure_ (i := 12) (N := some 56) (v := ?_) (a' := ?_) #[true, true, true, true, true, true, true, true, true, true, true, true, true, false] rfl rfl (any_of HT_.out (by kernel_rfl)) (fun _ _ _ h => h) (Or.inl ⟨by rfl, ?_⟩) ?_ ?_
                rotate_left
                · intro w1
                  go_simp
                  with_reducible rfl
                rotate_left
                · simp only [Act.put, List.setIfInBounds_toArray, List.set_cons_zero, List.set_cons_succ, i64_w, i32_w]
                  rfl
                have HR6 := Aside0.mk (Kd.R_below HR5.out hb)
                have HB6 := Aside0.mk (below_step HB5.out hb)
                have h76 : w6.heap[ga]? = some (.cells (tbl b 16) 96 (0, 0)) := blk_below h75 hb
                obtain ⟨ce, hcl, hM, hcc, hfr⟩ := Kd.R_elem HR6.out z52 ((ownN b q : Nat) : Int) (by omega) (by omega)
                obtain rfl := k52_openM hM
                have HP := Kd.R_seg HR6.out ((ownN b q : Nat) : Int) (by omega) (by omega) (seg := [.int .i64 t1, .int .i64 t2, .int .i64 t3, .int .i64 t4]) (j := 0) hcl hcc (show 4 ≤ 4 from by decide) (x' := (⟨t1, t2, t3, t4⟩ : S52)) (k52_mkM _ _ _ (⟨t1, t2, t3, t4⟩ : S52)) (fun _ hk => hk)
                have hx0 := hcc 0 _ rfl
                simp only [show (k52).sz = 4 from rfl, Nat.mul_one, Nat.add_zero, Int.toNat_natCast] at hx0
                have hf0 := hfr 0
                simp only [show (k52).sz = 4 from rfl, Nat.mul_one, Nat.add_zero, Int.toNat_natCast] at hf0
                have hx1 := hcc 1 _ rfl
                simp only [show (k52).sz = 4 from rfl, Nat.mul_one, Nat.add_zero, Int.toNat_natCast] at hx1
                have hf1 := hfr 1
                simp only [show (k52).sz = 4 from rfl, Nat.mul_one, Nat.add_zero, Int.toNat_natCast] at hf1
                have hx2 := hcc 2 _ rfl
                simp only [show (k52).sz = 4 from rfl, Nat.mul_one, Nat.add_zero, Int.toNat_natCast] at hx2
                have hf2 := hfr 2
                simp only [show (k52).sz = 4 from rfl, Nat.mul_one, Nat.add_zero, Int.toNat_natCast] at hf2
                have hx3 := hcc 3 _ rfl
                simp only [show (k52).sz = 4 from rfl, Nat.mul_one, Nat.add_zero, Int.toNat_natCast] at hx3
                have hf3 := hfr 3
                simp only [show (k52).sz = 4 from rfl, Nat.mul_one, Nat.add_zero, Int.toNat_natCast] at hf3
                clear hcl hcc hfr hM
                refine last_ (i := 13) (N := none) #[true, true, true, true, true, true, true, true, true, true, true, true, true, true] rfl rfl (one_of HT_.out (by kernel_rfl)) (by decide) (fun K hK => ?_)
                refine skip_ (w1 := (((w6.setCell ⟨go, ownN b q * 4, none⟩ (.int .i64 t1)).setCell ⟨go, ownN b q * 4 + 1, none⟩ (.int .i64 t2)).setCell ⟨go, ownN b q * 4 + 2, none⟩ (.int .i64 t3)).setCell ⟨go, ownN b q * 4 + 3, none⟩ (.int .i64 t4)) (by rfl) rfl ?_ ?_
                · first | (go_simp; done) | (go_simp; rfl)
                refine hK.out _ _ ?_
                clear hK K
                refine done_ (done_of HT_.out (by kernel_rfl)) ?_
                go_wp2
                go_roundw
                case measure => simp [intOf]; omega
                case rel => exact ⟨q + 1, _, by omega, by go_num, ⟨HN.out⟩, by simpa using hts, ⟨HP.1⟩, (by rw [heap_setCell_other _ _ _ _ hne.symm, heap_setCell_other _ _ _ _ hne.symm, heap_setCell_other _ _ _ _ hne.symm, heap_setCell_other _ _ _ _ hne.symm]; exact h76), ⟨below_set (below_set (below_set (below_set HB6.out hge0) hge0) hge0) hge0⟩⟩
              · have he : ts = r := by
                  have h2 := HN.out
                  rw [List.drop_of_length_le (by omega)] at h2
                  exact Option.some.inj h2
                subst he
                go_wp2
                go_ret
                exact ⟨_, rfl, HR4.out, HB4.out⟩

/-! ### laws_eqTotal: function 81 -/
def laws_eqTotal.f (a0_0 : Int) (a0_1 : Int) (a0_2 : Int) (a0_3 : Int) (a1_0 : Int) (a1_1 : Int) (a1_2 : Int) (a1_3 : Int) : Option (Bool) := if a0_0 = a1_0 then (if a0_1 = a1_1 then (if a0_2 = a1_2 then (if a0_3 = a1_3 then (some true) else (some false)) else (some false)) else (some false)) else (some false)
set_option maxHeartbeats 8000000 in
set_option maxRecDepth 100000 in
theorem laws_eqTotal.calls (a0_0 : Int) (a0_1 : Int) (a0_2 : Int) (a0_3 : Int) (a1_0 : Int) (a1_1 : Int) (a1_2 : Int) (a1_3 : Int) (r : Bool) (w : World) (h : laws_eqTotal.f a0_0 a0_1 a0_2 a0_3 a1_0 a1_1 a1_2 a1_3 = some r) :
    Calls Try.prog 81 #[.agg #[.int .i64 a0_0, .int .i64 a0_1, .int .i64 a0_2, .int .i64 a0_3], .agg #[.int .i64 a1_0, .int .i64 a1_1, .int .i64 a1_2, .int .i64 a1_3]] w fun e w' => e = .returned (.bool r) ∧ Below w.heap.size w w' := by
  have hu52 := Try.underlying52
  have HB := Aside0.mk (Below.refl w.heap.size w)
  have H : (if a0_0 = a1_0 then (if a0_1 = a1_1 then (if a0_2 = a1_2 then (if a0_3 = a1_3 then (some true) else (some false)) else (some false)) else (some false)) else (some false)) = some r := h
  clear h
  by_cases c3 : a0_0 = a1_0
  · rw [if_pos c3] at H
    have c3b0 : (a0_0 == a1_0) = true := beq_iff_eq.mpr c3
    have c3b1 : (a0_0 != a1_0) = false := bne_eq_false_iff_eq.mpr c3
    clear c3
    by_cases c4 : a0_1 = a1_1
    · rw [if_pos c4] at H
      have c4b0 : (a0_1 == a1_1) = true := beq_iff_eq.mpr c4
      have c4b1 : (a0_1 != a1_1) = false := bne_eq_false_iff_eq.mpr c4
      clear c4
      by_cases c5 : a0_2 = a1_2
      · rw [if_pos c5] at H
        have c5b0 : (a0_2 == a1_2) = true := beq_iff_eq.mpr c5
        have c5b1 : (a0_2 != a1_2) = false := bne_eq_false_iff_eq.mpr c5
        clear c5
        by_cases c6 : a0_3 = a1_3
        · rw [if_pos c6] at H
          have c6b0 : (a0_3 == a1_3) = true := beq_iff_eq.mpr c6
          have c6b1 : (a0_3 != a1_3) = false := bne_eq_false_iff_eq.mpr c6
          clear c6
          obtain rfl := Option.some.inj H
          go_enter Try.func81, Try.ntmps81
          go_wp2_with (first | ((with_reducible refine gate_dst (N := 2) rfl ?_); refine box_event ?hg (N := 2) ?hd (cs := #[.int .i64 a0_0, .int .i64 a0_1, .int .i64 a0_2, .int .i64 a0_3]) (t := 52) ?hr ?_; (case hd => rfl); (case hg => rfl); (case hr => first | (go_simp; done) | (go_simp; rfl)); intro gb155 hg w7 hbox hb; have n0_ := Aside0.mk (below_step (by repeat (first | (with_reducible first | exact HB.out | apply below_alloc | apply pw_below_drewN | apply below_drew1) | exact HB.out)) hb); have n1_ := Aside0.mk (hbox); have n2_ := Aside0.mk ((by rw [hg]; exact (below_size (by repeat (first | (with_reducible first | exact HB.out | apply below_alloc | apply pw_below_drewN | apply below_drew1) | exact HB.out))) : w.heap.size ≤ gb155)); have n3_ := Aside0.mk ((by rw [hg]; exact (below_size (by repeat (first | (with_reducible first | exact HB.out | apply below_alloc | apply pw_below_drewN | apply below_drew1) | exact HB.out))) : w.heap.size ≤ gb155)); clear HB; have HB := n0_; have BK155 := n1_; have GW155 := n2_; have GE155 := n3_; clear n0_ n1_ n2_ n3_; clear hb hbox hg) | ((with_reducible refine gate_dst (N := 3) rfl ?_); refine box_event ?hg (N := 3) ?hd (cs := #[.int .i64 a1_0, .int .i64 a1_1, .int .i64 a1_2, .int .i64 a1_3]) (t := 52) ?hr ?_; (case hd => rfl); (case hg => rfl); (case hr => first | (go_simp; done) | (go_simp; rfl)); intro gb156 hg w8 hbox hb; have n0_ := Aside0.mk (blk_below (g := gb155) (o := .cells #[.int .i64 a0_0, .int .i64 a0_1, .int .i64 a0_2, .int .i64 a0_3] 52 (0, 0)) (by (with_reducible repeat (first | refine blk_drewN ?_ _ | refine blk_drew ?_ | refine blk_alloc ?_ _)); exact BK155.out) hb); have n1_ := Aside0.mk (below_step (by repeat (first | (with_reducible first | exact HB.out | apply below_alloc | apply pw_below_drewN | apply below_drew1 | refine below_set ?_ GE155.out) | exact HB.out)) hb); have n2_ := Aside0.mk (hbox); have n3_ := Aside0.mk ((by rw [hg]; exact (below_size (by repeat (first | (with_reducible first | exact HB.out | apply below_alloc | apply pw_below_drewN | apply below_drew1 | refine below_set ?_ GE155.out) | exact HB.out))) : w.heap.size ≤ gb156)); have n4_ := Aside0.mk ((by rw [hg]; exact (below_size (by repeat (first | (with_reducible first | exact HB.out | apply below_alloc | apply pw_below_drewN | apply below_drew1 | refine below_set ?_ GE155.out) | exact HB.out))) : w.heap.size ≤ gb156)); have n5_ := Aside0.mk ((by rw [hg]; exact Nat.ne_of_lt (blk_lt (g := gb155) (o := .cells #[.int .i64 a0_0, .int .i64 a0_1, .int .i64 a0_2, .int .i64 a0_3] 52 (0, 0)) (by (with_reducible repeat (first | refine blk_drewN ?_ _ | refine blk_drew ?_ | refine blk_alloc ?_ _)); exact BK155.out)) : gb155 ≠ gb156)); have n6_ := Aside0.mk ((by rw [hg]; exact Nat.ne_of_gt (blk_lt (g := gb155) (o := .cells #[.int .i64 a0_0, .int .i64 a0_1, .int .i64 a0_2, .int .i64 a0_3] 52 (0, 0)) (by (with_reducible repeat (first | refine blk_drewN ?_ _ | refine blk_drew ?_ | refine blk_alloc ?_ _)); exact BK155.out)) : gb156 ≠ gb155)); clear BK155; clear HB; have BK155 := n0_; have HB := n1_; have BK156 := n2_; have GW156 := n3_; have GE156 := n4_; have NB155_156 := n5_; have NB156_155 := n6_; clear n0_ n1_ n2_ n3_ n4_ n5_ n6_; clear hb hbox hg; have hnb9 := NB155_156.out; have hnc9 := NB156_155.out; have hcz10_0 : w8.cell? ⟨gb155, 0, none⟩ = some (.int .i64 a0_0) := (blk_cell BK155.out 0).trans rfl; have hcz10_1 : w8.cell? ⟨gb155, 1, none⟩ = some (.int .i64 a0_1) := (blk_cell BK155.out 1).trans rfl; have hcz10_2 : w8.cell? ⟨gb155, 2, none⟩ = some (.int .i64 a0_2) := (blk_cell BK155.out 2).trans rfl; have hcz10_3 : w8.cell? ⟨gb155, 3, none⟩ = some (.int .i64 a0_3) := (blk_cell BK155.out 3).trans rfl; have hfz10_0 := blk_frozen BK155.out 0; have hfz10_1 := blk_frozen BK155.out 1; have hfz10_2 := blk_frozen BK155.out 2; have hfz10_3 := blk_frozen BK155.out 3; have hcz11_0 : w8.cell? ⟨gb156, 0, none⟩ = some (.int .i64 a1_0) := (blk_cell BK156.out 0).trans rfl; have hcz11_1 : w8.cell? ⟨gb156, 1, none⟩ = some (.int .i64 a1_1) := (blk_cell BK156.out 1).trans rfl; have hcz11_2 : w8.cell? ⟨gb156, 2, none⟩ = some (.int .i64 a1_2) := (blk_cell BK156.out 2).trans rfl; have hcz11_3 : w8.cell? ⟨gb156, 3, none⟩ = some (.int .i64 a1_3) := (blk_cell BK156.out 3).trans rfl; have hfz11_0 := blk_frozen BK156.out 0; have hfz11_1 := blk_frozen BK156.out 1; have hfz11_2 := blk_frozen BK156.out 2; have hfz11_3 := blk_frozen BK156.out 3))
          go_ret
          exact ⟨by first | rfl | (simp [errW_none, errW_some] <;> rfl) | (simp [*, errW_none, errW_some] <;> rfl), by repeat (first | (with_reducible first | exact HB.out | apply below_alloc | apply pw_below_drewN | apply below_drew1 | refine below_set ?_ GE155.out | refine below_set ?_ GE156.out) | exact HB.out)⟩
        · rw [if_neg c6] at H
          have c6b0 : (a0_3 == a1_3) = false := beq_eq_false_iff_ne.mpr c6
          have c6b1 : (a0_3 != a1_3) = true := bne_iff_ne.mpr c6
          obtain rfl := Option.some.inj H
          go_enter Try.func81, Try.ntmps81
          go_wp2_with (first | ((with_reducible refine gate_dst (N := 2) rfl ?_); refine box_event ?hg (N := 2) ?hd (cs := #[.int .i64 a0_0, .int .i64 a0_1, .int .i64 a0_2, .int .i64 a0_3]) (t := 52) ?hr ?_; (case hd => rfl); (case hg => rfl); (case hr => first | (go_simp; done) | (go_simp; rfl)); intro gb155 hg w12 hbox hb; have n0_ := Aside0.mk (below_step (by repeat (first | (with_reducible first | exact HB.out | apply below_alloc | apply pw_below_drewN | apply below_drew1) | exact HB.out)) hb); have n1_ := Aside0.mk (hbox); have n2_ := Aside0.mk ((by rw [hg]; exact (below_size (by repeat (first | (with_reducible first | exact HB.out | apply below_alloc | apply pw_below_drewN | apply below_drew1) | exact HB.out))) : w.heap.size ≤ gb155)); have n3_ := Aside0.mk ((by rw [hg]; exact (below_size (by repeat (first | (with_reducible first | exact HB.out | apply below_alloc | apply pw_below_drewN | apply below_drew1) | exact HB.out))) : w.heap.size ≤ gb155)); clear HB; have HB := n0_; have BK155 := n1_; have GW155 := n2_; have GE155 := n3_; clear n0_ n1_ n2_ n3_; clear hb hbox hg) | ((with_reducible refine gate_dst (N := 3) rfl ?_); refine box_event ?hg (N := 3) ?hd (cs := #[.int .i64 a1_0, .int .i64 a1_1, .int .i64 a1_2, .int .i64 a1_3]) (t := 52) ?hr ?_; (case hd => rfl); (case hg => rfl); (case hr => first | (go_simp; done) | (go_simp; rfl)); intro gb156 hg w13 hbox hb; have n0_ := Aside0.mk (blk_below (g := gb155) (o := .cells #[.int .i64 a0_0, .int .i64 a0_1, .int .i64 a0_2, .int .i64 a0_3] 52 (0, 0)) (by (with_reducible repeat (first | refine blk_drewN ?_ _ | refine blk_drew ?_ | refine blk_alloc ?_ _)); exact BK155.out) hb); have n1_ := Aside0.mk (below_step (by repeat (first | (with_reducible first | exact HB.out | apply below_alloc | apply pw_below_drewN | apply below_drew1 | refine below_set ?_ GE155.out) | exact HB.out)) hb); have n2_ := Aside0.mk (hbox); have n3_ := Aside0.mk ((by rw [hg]; exact (below_size (by repeat (first | (with_reducible first | exact HB.out | apply below_alloc | apply pw_below_drewN | apply below_drew1 | refine below_set ?_ GE155.out) | exact HB.out))) : w.heap.size ≤ gb156)); have n4_ := Aside0.mk ((by rw [hg]; exact (below_size (by repeat (first | (with_reducible first | exact HB.out | apply below_alloc | apply pw_below_drewN | apply below_drew1 | refine below_set ?_ GE155.out) | exact HB.out))) : w.heap.size ≤ gb156)); have n5_ := Aside0.mk ((by rw [hg]; exact Nat.ne_of_lt (blk_lt (g := gb155) (o := .cells #[.int .i64 a0_0, .int .i64 a0_1, .int .i64 a0_2, .int .i64 a0_3] 52 (0, 0)) (by (with_reducible repeat (first | refine blk_drewN ?_ _ | refine blk_drew ?_ | refine blk_alloc ?_ _)); exact BK155.out)) : gb155 ≠ gb156)); have n6_ := Aside0.mk ((by rw [hg]; exact Nat.ne_of_gt (blk_lt (g := gb155) (o := .cells #[.int .i64 a0_0, .int .i64 a0_1, .int .i64 a0_2, .int .i64 a0_3] 52 (0, 0)) (by (with_reducible repeat (first | refine blk_drewN ?_ _ | refine blk_drew ?_ | refine blk_alloc ?_ _)); exact BK155.out)) : gb156 ≠ gb155)); clear BK155; clear HB; have BK155 := n0_; have HB := n1_; have BK156 := n2_; have GW156 := n3_; have GE156 := n4_; have NB155_156 := n5_; have NB156_155 := n6_; clear n0_ n1_ n2_ n3_ n4_ n5_ n6_; clear hb hbox hg; have hnb14 := NB155_156.out; have hnc14 := NB156_155.out; have hcz15_0 : w13.cell? ⟨gb155, 0, none⟩ = some (.int .i64 a0_0) := (blk_cell BK155.out 0).trans rfl; have hcz15_1 : w13.cell? ⟨gb155, 1, none⟩ = some (.int .i64 a0_1) := (blk_cell BK155.out 1).trans rfl; have hcz15_2 : w13.cell? ⟨gb155, 2, none⟩ = some (.int .i64 a0_2) := (blk_cell BK155.out 2).trans rfl; have hcz15_3 : w13.cell? ⟨gb155, 3, none⟩ = some (.int .i64 a0_3) := (blk_cell BK155.out 3).trans rfl; have hfz15_0 := blk_frozen BK155.out 0; have hfz15_1 := blk_frozen BK155.out 1; have hfz15_2 := blk_frozen BK155.out 2; have hfz15_3 := blk_frozen BK155.out 3; have hcz16_0 : w13.cell? ⟨gb156, 0, none⟩ = some (.int .i64 a1_0) := (blk_cell BK156.out 0).trans rfl; have hcz16_1 : w13.cell? ⟨gb156, 1, none⟩ = some (.int .i64 a1_1) := (blk_cell BK156.out 1).trans rfl; have hcz16_2 : w13.cell? ⟨gb156, 2, none⟩ = some (.int .i64 a1_2) := (blk_cell BK156.out 2).trans rfl; have hcz16_3 : w13.cell? ⟨gb156, 3, none⟩ = some (.int .i64 a1_3) := (blk_cell BK156.out 3).trans rfl; have hfz16_0 := blk_frozen BK156.out 0; have hfz16_1 := blk_frozen BK156.out 1; have hfz16_2 := blk_frozen BK156.out 2; have hfz16_3 := blk_frozen BK156.out 3))
          go_ret
          exact ⟨by first | rfl | (simp [errW_none, errW_some] <;> rfl) | (simp [*, errW_none, errW_some] <;> rfl), by repeat (first | (with_reducible first | exact HB.out | apply below_alloc | apply pw_below_drewN | apply below_drew1 | refine below_set ?_ GE155.out | refine below_set ?_ GE156.out) | exact HB.out)⟩
      · rw [if_neg c5] at H
        have c5b0 : (a0_2 == a1_2) = false := beq_eq_false_iff_ne.mpr c5
        have c5b1 : (a0_2 != a1_2) = true := bne_iff_ne.mpr c5
        obtain rfl := Option.some.inj H
        go_enter Try.func81, Try.ntmps81
        go_wp2_with (first | ((with_reducible refine gate_dst (N := 2) rfl ?_); refine box_event ?hg (N := 2) ?hd (cs := #[.int .i64 a0_0, .int .i64 a0_1, .int .i64 a0_2, .int .i64 a0_3]) (t := 52) ?hr ?_; (case hd => rfl); (case hg => rfl); (case hr => first | (go_simp; done) | (go_simp; rfl)); intro gb155 hg w17 hbox hb; have n0_ := Aside0.mk (below_step (by repeat (first | (with_reducible first | exact HB.out | apply below_alloc | apply pw_below_drewN | apply below_drew1) | exact HB.out)) hb); have n1_ := Aside0.mk (hbox); have n2_ := Aside0.mk ((by rw [hg]; exact (below_size (by repeat (first | (with_reducible first | exact HB.out | apply below_alloc | apply pw_below_drewN | apply below_drew1) | exact HB.out))) : w.heap.size ≤ gb155)); have n3_ := Aside0.mk ((by rw [hg]; exact (below_size (by repeat (first | (with_reducible first | exact HB.out | apply below_alloc | apply pw_below_drewN | apply below_drew1) | exact HB.out))) : w.heap.size ≤ gb155)); clear HB; have HB := n0_; have BK155 := n1_; have GW155 := n2_; have GE155 := n3_; clear n0_ n1_ n2_ n3_; clear hb hbox hg) | ((with_reducible refine gate_dst (N := 3) rfl ?_); refine box_event ?hg (N := 3) ?hd (cs := #[.int .i64 a1_0, .int .i64 a1_1, .int .i64 a1_2, .int .i64 a1_3]) (t := 52) ?hr ?_; (case hd => rfl); (case hg => rfl); (case hr => first | (go_simp; done) | (go_simp; rfl)); intro gb156 hg w18 hbox hb; have n0_ := Aside0.mk (blk_below (g := gb155) (o := .cells #[.int .i64 a0_0, .int .i64 a0_1, .int .i64 a0_2, .int .i64 a0_3] 52 (0, 0)) (by (with_reducible repeat (first | refine blk_drewN ?_ _ | refine blk_drew ?_ | refine blk_alloc ?_ _)); exact BK155.out) hb); have n1_ := Aside0.mk (below_step (by repeat (first | (with_reducible first | exact HB.out | apply below_alloc | apply pw_below_drewN | apply below_drew1 | refine below_set ?_ GE155.out) | exact HB.out)) hb); have n2_ := Aside0.mk (hbox); have n3_ := Aside0.mk ((by rw [hg]; exact (below_size (by repeat (first | (with_reducible first | exact HB.out | apply below_alloc | apply pw_below_drewN | apply below_drew1 | refine below_set ?_ GE155.out) | exact HB.out))) : w.heap.size ≤ gb156)); have n4_ := Aside0.mk ((by rw [hg]; exact (below_size (by repeat (first | (with_reducible first | exact HB.out | apply below_alloc | apply pw_below_drewN | apply below_drew1 | refine below_set ?_ GE155.out) | exact HB.out))) : w.heap.size ≤ gb156)); have n5_ := Aside0.mk ((by rw [hg]; exact Nat.ne_of_lt (blk_lt (g := gb155) (o := .cells #[.int .i64 a0_0, .int .i64 a0_1, .int .i64 a0_2, .int .i64 a0_3] 52 (0, 0)) (by (with_reducible repeat (first | refine blk_drewN ?_ _ | refine blk_drew ?_ | refine blk_alloc ?_ _)); exact BK155.out)) : gb155 ≠ gb156)); have n6_ := Aside0.mk ((by rw [hg]; exact Nat.ne_of_gt (blk_lt (g := gb155) (o := .cells #[.int .i64 a0_0, .int .i64 a0_1, .int .i64 a0_2, .int .i64 a0_3] 52 (0, 0)) (by (with_reducible repeat (first | refine blk_drewN ?_ _ | refine blk_drew ?_ | refine blk_alloc ?_ _)); exact BK155.out)) : gb156 ≠ gb155)); clear BK155; clear HB; have BK155 := n0_; have HB := n1_; have BK156 := n2_; have GW156 := n3_; have GE156 := n4_; have NB155_156 := n5_; have NB156_155 := n6_; clear n0_ n1_ n2_ n3_ n4_ n5_ n6_; clear hb hbox hg; have hnb19 := NB155_156.out; have hnc19 := NB156_155.out; have hcz20_0 : w18.cell? ⟨gb155, 0, none⟩ = some (.int .i64 a0_0) := (blk_cell BK155.out 0).trans rfl; have hcz20_1 : w18.cell? ⟨gb155, 1, none⟩ = some (.int .i64 a0_1) := (blk_cell BK155.out 1).trans rfl; have hcz20_2 : w18.cell? ⟨gb155, 2, none⟩ = some (.int .i64 a0_2) := (blk_cell BK155.out 2).trans rfl; have hcz20_3 : w18.cell? ⟨gb155, 3, none⟩ = some (.int .i64 a0_3) := (blk_cell BK155.out 3).trans rfl; have hfz20_0 := blk_frozen BK155.out 0; have hfz20_1 := blk_frozen BK155.out 1; have hfz20_2 := blk_frozen BK155.out 2; have hfz20_3 := blk_frozen BK155.out 3; have hcz21_0 : w18.cell? ⟨gb156, 0, none⟩ = some (.int .i64 a1_0) := (blk_cell BK156.out 0).trans rfl; have hcz21_1 : w18.cell? ⟨gb156, 1, none⟩ = some (.int .i64 a1_1) := (blk_cell BK156.out 1).trans rfl; have hcz21_2 : w18.cell? ⟨gb156, 2, none⟩ = some (.int .i64 a1_2) := (blk_cell BK156.out 2).trans rfl; have hcz21_3 : w18.cell? ⟨gb156, 3, none⟩ = some (.int .i64 a1_3) := (blk_cell BK156.out 3).trans rfl; have hfz21_0 := blk_frozen BK156.out 0; have hfz21_1 := blk_frozen BK156.out 1; have hfz21_2 := blk_frozen BK156.out 2; have hfz21_3 := blk_frozen BK156.out 3))
        go_ret
        exact ⟨by first | rfl | (simp [errW_none, errW_some] <;> rfl) | (simp [*, errW_none, errW_some] <;> rfl), by repeat (first | (with_reducible first | exact HB.out | apply below_alloc | apply pw_below_drewN | apply below_drew1 | refine below_set ?_ GE155.out | refine below_set ?_ GE156.out) | exact HB.out)⟩
    · rw [if_neg c4] at H
      have c4b0 : (a0_1 == a1_1) = false := beq_eq_false_iff_ne.mpr c4
      have c4b1 : (a0_1 != a1_1) = true := bne_iff_ne.mpr c4
      obtain rfl := Option.some.inj H
      go_enter Try.func81, Try.ntmps81
      go_wp2_with (first | ((with_reducible refine gate_dst (N := 2) rfl ?_); refine box_event ?hg (N := 2) ?hd (cs := #[.int .i64 a0_0, .int .i64 a0_1, .int .i64 a0_2, .int .i64 a0_3]) (t := 52) ?hr ?_; (case hd => rfl); (case hg => rfl); (case hr => first | (go_simp; done) | (go_simp; rfl)); intro gb155 hg w22 hbox hb; have n0_ := Aside0.mk (below_step (by repeat (first | (with_reducible first | exact HB.out | apply below_alloc | apply pw_below_drewN | apply below_drew1) | exact HB.out)) hb); have n1_ := Aside0.mk (hbox); have n2_ := Aside0.mk ((by rw [hg]; exact (below_size (by repeat (first | (with_reducible first | exact HB.out | apply below_alloc | apply pw_below_drewN | apply below_drew1) | exact HB.out))) : w.heap.size ≤ gb155)); have n3_ := Aside0.mk ((by rw [hg]; exact (below_size (by repeat (first | (with_reducible first | exact HB.out | apply below_alloc | apply pw_below_drewN | apply below_drew1) | exact HB.out))) : w.heap.size ≤ gb155)); clear HB; have HB := n0_; have BK155 := n1_; have GW155 := n2_; have GE155 := n3_; clear n0_ n1_ n2_ n3_; clear hb hbox hg) | ((with_reducible refine gate_dst (N := 3) rfl ?_); refine box_event ?hg (N := 3) ?hd (cs := #[.int .i64 a1_0, .int .i64 a1_1, .int .i64 a1_2, .int .i64 a1_3]) (t := 52) ?hr ?_; (case hd => rfl); (case hg => rfl); (case hr => first | (go_simp; done) | (go_simp; rfl)); intro gb156 hg w23 hbox hb; have n0_ := Aside0.mk (blk_below (g := gb155) (o := .cells #[.int .i64 a0_0, .int .i64 a0_1, .int .i64 a0_2, .int .i64 a0_3] 52 (0, 0)) (by (with_reducible repeat (first | refine blk_drewN ?_ _ | refine blk_drew ?_ | refine blk_alloc ?_ _)); exact BK155.out) hb); have n1_ := Aside0.mk (below_step (by repeat (first | (with_reducible first | exact HB.out | apply below_alloc | apply pw_below_drewN | apply below_drew1 | refine below_set ?_ GE155.out) | exact HB.out)) hb); have n2_ := Aside0.mk (hbox); have n3_ := Aside0.mk ((by rw [hg]; exact (below_size (by repeat (first | (with_reducible first | exact HB.out | apply below_alloc | apply pw_below_drewN | apply below_drew1 | refine below_set ?_ GE155.out) | exact HB.out))) : w.heap.size ≤ gb156)); have n4_ := Aside0.mk ((by rw [hg]; exact (below_size (by repeat (first | (with_reducible first | exact HB.out | apply below_alloc | apply pw_below_drewN | apply below_drew1 | refine below_set ?_ GE155.out) | exact HB.out))) : w.heap.size ≤ gb156)); have n5_ := Aside0.mk ((by rw [hg]; exact Nat.ne_of_lt (blk_lt (g := gb155) (o := .cells #[.int .i64 a0_0, .int .i64 a0_1, .int .i64 a0_2, .int .i64 a0_3] 52 (0, 0)) (by (with_reducible repeat (first | refine blk_drewN ?_ _ | refine blk_drew ?_ | refine blk_alloc ?_ _)); exact BK155.out)) : gb155 ≠ gb156)); have n6_ := Aside0.mk ((by rw [hg]; exact Nat.ne_of_gt (blk_lt (g := gb155) (o := .cells #[.int .i64 a0_0, .int .i64 a0_1, .int .i64 a0_2, .int .i64 a0_3] 52 (0, 0)) (by (with_reducible repeat (first | refine blk_drewN ?_ _ | refine blk_drew ?_ | refine blk_alloc ?_ _)); exact BK155.out)) : gb156 ≠ gb155)); clear BK155; clear HB; have BK155 := n0_; have HB := n1_; have BK156 := n2_; have GW156 := n3_; have GE156 := n4_; have NB155_156 := n5_; have NB156_155 := n6_; clear n0_ n1_ n2_ n3_ n4_ n5_ n6_; clear hb hbox hg; have hnb24 := NB155_156.out; have hnc24 := NB156_155.out; have hcz25_0 : w23.cell? ⟨gb155, 0, none⟩ = some (.int .i64 a0_0) := (blk_cell BK155.out 0).trans rfl; have hcz25_1 : w23.cell? ⟨gb155, 1, none⟩ = some (.int .i64 a0_1) := (blk_cell BK155.out 1).trans rfl; have hcz25_2 : w23.cell? ⟨gb155, 2, none⟩ = some (.int .i64 a0_2) := (blk_cell BK155.out 2).trans rfl; have hcz25_3 : w23.cell? ⟨gb155, 3, none⟩ = some (.int .i64 a0_3) := (blk_cell BK155.out 3).trans rfl; have hfz25_0 := blk_frozen BK155.out 0; have hfz25_1 := blk_frozen BK155.out 1; have hfz25_2 := blk_frozen BK155.out 2; have hfz25_3 := blk_frozen BK155.out 3; have hcz26_0 : w23.cell? ⟨gb156, 0, none⟩ = some (.int .i64 a1_0) := (blk_cell BK156.out 0).trans rfl; have hcz26_1 : w23.cell? ⟨gb156, 1, none⟩ = some (.int .i64 a1_1) := (blk_cell BK156.out 1).trans rfl; have hcz26_2 : w23.cell? ⟨gb156, 2, none⟩ = some (.int .i64 a1_2) := (blk_cell BK156.out 2).trans rfl; have hcz26_3 : w23.cell? ⟨gb156, 3, none⟩ = some (.int .i64 a1_3) := (blk_cell BK156.out 3).trans rfl; have hfz26_0 := blk_frozen BK156.out 0; have hfz26_1 := blk_frozen BK156.out 1; have hfz26_2 := blk_frozen BK156.out 2; have hfz26_3 := blk_frozen BK156.out 3))
      go_ret
      exact ⟨by first | rfl | (simp [errW_none, errW_some] <;> rfl) | (simp [*, errW_none, errW_some] <;> rfl), by repeat (first | (with_reducible first | exact HB.out | apply below_alloc | apply pw_below_drewN | apply below_drew1 | refine below_set ?_ GE155.out | refine below_set ?_ GE156.out) | exact HB.out)⟩
  · rw [if_neg c3] at H
    have c3b0 : (a0_0 == a1_0) = false := beq_eq_false_iff_ne.mpr c3
    have c3b1 : (a0_0 != a1_0) = true := bne_iff_ne.mpr c3
    obtain rfl := Option.some.inj H
    go_enter Try.func81, Try.ntmps81
    go_wp2_with (first | ((with_reducible refine gate_dst (N := 2) rfl ?_); refine box_event ?hg (N := 2) ?hd (cs := #[.int .i64 a0_0, .int .i64 a0_1, .int .i64 a0_2, .int .i64 a0_3]) (t := 52) ?hr ?_; (case hd => rfl); (case hg => rfl); (case hr => first | (go_simp; done) | (go_simp; rfl)); intro gb155 hg w27 hbox hb; have n0_ := Aside0.mk (below_step (by repeat (first | (with_reducible first | exact HB.out | apply below_alloc | apply pw_below_drewN | apply below_drew1) | exact HB.out)) hb); have n1_ := Aside0.mk (hbox); have n2_ := Aside0.mk ((by rw [hg]; exact (below_size (by repeat (first | (with_reducible first | exact HB.out | apply below_alloc | apply pw_below_drewN | apply below_drew1) | exact HB.out))) : w.heap.size ≤ gb155)); have n3_ := Aside0.mk ((by rw [hg]; exact (below_size (by repeat (first | (with_reducible first | exact HB.out | apply below_alloc | apply pw_below_drewN | apply below_drew1) | exact HB.out))) : w.heap.size ≤ gb155)); clear HB; have HB := n0_; have BK155 := n1_; have GW155 := n2_; have GE155 := n3_; clear n0_ n1_ n2_ n3_; clear hb hbox hg) | ((with_reducible refine gate_dst (N := 3) rfl ?_); refine box_event ?hg (N := 3) ?hd (cs := #[.int .i64 a1_0, .int .i64 a1_1, .int .i64 a1_2, .int .i64 a1_3]) (t := 52) ?hr ?_; (case hd => rfl); (case hg => rfl); (case hr => first | (go_simp; done) | (go_simp; rfl)); intro gb156 hg w28 hbox hb; have n0_ := Aside0.mk (blk_below (g := gb155) (o := .cells #[.int .i64 a0_0, .int .i64 a0_1, .int .i64 a0_2, .int .i64 a0_3] 52 (0, 0)) (by (with_reducible repeat (first | refine blk_drewN ?_ _ | refine blk_drew ?_ | refine blk_alloc ?_ _)); exact BK155.out) hb); have n1_ := Aside0.mk (below_step (by repeat (first | (with_reducible first | exact HB.out | apply below_alloc | apply pw_below_drewN | apply below_drew1 | refine below_set ?_ GE155.out) | exact HB.out)) hb); have n2_ := Aside0.mk (hbox); have n3_ := Aside0.mk ((by rw [hg]; exact (below_size (by repeat (first | (with_reducible first | exact HB.out | apply below_alloc | apply pw_below_drewN | apply below_drew1 | refine below_set ?_ GE155.out) | exact HB.out))) : w.heap.size ≤ gb156)); have n4_ := Aside0.mk ((by rw [hg]; exact (below_size (by repeat (first | (with_reducible first | exact HB.out | apply below_alloc | apply pw_below_drewN | apply below_drew1 | refine below_set ?_ GE155.out) | exact HB.out))) : w.heap.size ≤ gb156)); have n5_ := Aside0.mk ((by rw [hg]; exact Nat.ne_of_lt (blk_lt (g := gb155) (o := .cells #[.int .i64 a0_0, .int .i64 a0_1, .int .i64 a0_2, .int .i64 a0_3] 52 (0, 0)) (by (with_reducible repeat (first | refine blk_drewN ?_ _ | refine blk_drew ?_ | refine blk_alloc ?_ _)); exact BK155.out)) : gb155 ≠ gb156)); have n6_ := Aside0.mk ((by rw [hg]; exact Nat.ne_of_gt (blk_lt (g := gb155) (o := .cells #[.int .i64 a0_0, .int .i64 a0_1, .int .i64 a0_2, .int .i64 a0_3] 52 (0, 0)) (by (with_reducible repeat (first | refine blk_drewN ?_ _ | refine blk_drew ?_ | refine blk_alloc ?_ _)); exact BK155.out)) : gb156 ≠ gb155)); clear BK155; clear HB; have BK155 := n0_; have HB := n1_; have BK156 := n2_; have GW156 := n3_; have GE156 := n4_; have NB155_156 := n5_; have NB156_155 := n6_; clear n0_ n1_ n2_ n3_ n4_ n5_ n6_; clear hb hbox hg; have hnb29 := NB155_156.out; have hnc29 := NB156_155.out; have hcz30_0 : w28.cell? ⟨gb155, 0, none⟩ = some (.int .i64 a0_0) := (blk_cell BK155.out 0).trans rfl; have hcz30_1 : w28.cell? ⟨gb155, 1, none⟩ = some (.int .i64 a0_1) := (blk_cell BK155.out 1).trans rfl; have hcz30_2 : w28.cell? ⟨gb155, 2, none⟩ = some (.int .i64 a0_2) := (blk_cell BK155.out 2).trans rfl; have hcz30_3 : w28.cell? ⟨gb155, 3, none⟩ = some (.int .i64 a0_3) := (blk_cell BK155.out 3).trans rfl; have hfz30_0 := blk_frozen BK155.out 0; have hfz30_1 := blk_frozen BK155.out 1; have hfz30_2 := blk_frozen BK155.out 2; have hfz30_3 := blk_frozen BK155.out 3; have hcz31_0 : w28.cell? ⟨gb156, 0, none⟩ = some (.int .i64 a1_0) := (blk_cell BK156.out 0).trans rfl; have hcz31_1 : w28.cell? ⟨gb156, 1, none⟩ = some (.int .i64 a1_1) := (blk_cell BK156.out 1).trans rfl; have hcz31_2 : w28.cell? ⟨gb156, 2, none⟩ = some (.int .i64 a1_2) := (blk_cell BK156.out 2).trans rfl; have hcz31_3 : w28.cell? ⟨gb156, 3, none⟩ = some (.int .i64 a1_3) := (blk_cell BK156.out 3).trans rfl; have hfz31_0 := blk_frozen BK156.out 0; have hfz31_1 := blk_frozen BK156.out 1; have hfz31_2 := blk_frozen BK156.out 2; have hfz31_3 := blk_frozen BK156.out 3))
    go_ret
    exact ⟨by first | rfl | (simp [errW_none, errW_some] <;> rfl) | (simp [*, errW_none, errW_some] <;> rfl), by repeat (first | (with_reducible first | exact HB.out | apply below_alloc | apply pw_below_drewN | apply below_drew1 | refine below_set ?_ GE155.out | refine below_set ?_ GE156.out) | exact HB.out)⟩

/-! ### laws_eqTotalS: function 29 -/
def laws_eqTotalS.l0 : Nat → List (S52) → List (S52) → Int → Option (Bool)
  | 0, _, _, _ => none
  | k + 1, x0, x1, x5 => if x5 < (x0.length : Int) then (if 0 ≤ x5 then (if x5 < (x1.length : Int) then ((laws_eqTotal.f ((rd_T52 x0 x5).f0) ((rd_T52 x0 x5).f1) ((rd_T52 x0 x5).f2) ((rd_T52 x0 x5).f3) ((rd_T52 x1 x5).f0) ((rd_T52 x1 x5).f1) ((rd_T52 x1 x5).f2) ((rd_T52 x1 x5).f3)).bind fun t159 => (if t159 = true then (laws_eqTotalS.l0 k x0 x1 (wrap64 (x5 + 1))) else (some false))) else (none)) else (none)) else (some true)
def laws_eqTotalS.f (k : Nat) (l0 : List (S52)) (l1 : List (S52)) : Option (Bool) := if (l0.length : Int) = (l1.length : Int) then (laws_eqTotalS.l0 k l0 l1 0) else (some false)
theorem laws_eqTotalS.mono_l : ∀ k, (∀ y0 y1 y2, LeO (laws_eqTotalS.l0 k y0 y1 y2) (laws_eqTotalS.l0 (k + 1) y0 y1 y2))
  | 0 => fun _ _ _ r h => by simp [laws_eqTotalS.l0] at h
  | k + 1 => by
    have ih0 := laws_eqTotalS.mono_l k
    · intro y0 y1 y2
      unfold laws_eqTotalS.l0
      repeat' first
      | (with_reducible exact ih0 _ _ _)
      | (with_reducible exact LeO.refl _)
      | (with_reducible exact LeO.none _)
      | (with_reducible refine LeO.ite ?_ ?_)
      | (with_reducible refine LeO.bind ?_ (fun _ => ?_))
      | exact ih0 _ _ _
      | exact LeO.none _
      | refine LeO.ite ?_ ?_
      | refine LeO.bind ?_ (fun _ => ?_)
theorem laws_eqTotalS.mono : ∀ a0 a1 k, LeO (laws_eqTotalS.f k a0 a1) (laws_eqTotalS.f (k + 1) a0 a1) := by
  intro a0 a1 k
  have ih0 := laws_eqTotalS.mono_l k
  unfold laws_eqTotalS.f
  repeat' first
      | (with_reducible exact ih0 _ _ _)
      | (with_reducible exact LeO.refl _)
      | (with_reducible exact LeO.none _)
      | (with_reducible refine LeO.ite ?_ ?_)
      | (with_reducible refine LeO.bind ?_ (fun _ => ?_))
      | exact ih0 _ _ _
      | exact LeO.none _
      | refine LeO.ite ?_ ?_
      | refine LeO.bind ?_ (fun _ => ?_)
def laws_eqTotalS.T6 : Bool × List (List Nat × List Nat) := (true, [([], []), ([], []), ([0, 1], [0, 1]), ([2], [2]), ([], []), ([], []), ([4, 5], [4, 5]), ([6], [6]), ([3, 7], [3, 7]), ([8], [8])])
def laws_eqTotalS.B6 : List Nat := [0, 0, 3, 7, 0, 0, 48, 112, 255, 511]
theorem laws_eqTotalS.tab6 : rtab .any (opsOf Try.f29 6) = laws_eqTotalS.T6 := by kernel_rfl
theorem laws_eqTotalS.bits6 : waitsOk laws_eqTotalS.T6.2 laws_eqTotalS.B6 = true := by kernel_rfl
set_option maxHeartbeats 8000000 in
set_option maxRecDepth 100000 in
theorem laws_eqTotalS.calls (k : Nat) (A0 : Option Addr) (c0 : Nat) (l0 : List (S52)) (A1 : Option Addr) (c1 : Nat) (l1 : List (S52)) (r : Bool) (w : World) (hr0 : Kd.C k52 w A0 l0.length l0) (hc0 : l0.length ≤ c0) (hr1 : Kd.C k52 w A1 l1.length l1) (hc1 : l1.length ≤ c1) (h : laws_eqTotalS.f k l0 l1 = some r) :
    Calls Try.prog 29 #[.slice A0 l0.length c0, .slice A1 l1.length c1] w fun e w' => e = .returned (.bool r) ∧ Below w.heap.size w w' := by
  have hu52 := Try.underlying52
  have HR0 := Aside0.mk hr0
  have HC0 := Aside0.mk hc0
  clear hr0 hc0
  have HR1 := Aside0.mk hr1
  have HC1 := Aside0.mk hc1
  clear hr1 hc1
  have HB := Aside0.mk (Below.refl w.heap.size w)
  have H : (if (l0.length : Int) = (l1.length : Int) then (laws_eqTotalS.l0 k l0 l1 0) else (some false)) = some r := h
  clear h
  by_cases c3 : (l0.length : Int) = (l1.length : Int)
  · rw [if_pos c3] at H
    have c3b0 : ((l0.length : Int) == (l1.length : Int)) = true := beq_iff_eq.mpr c3
    have c3b1 : ((l0.length : Int) != (l1.length : Int)) = false := bne_eq_false_iff_eq.mpr c3
    have c3b2 : (l0.length == l1.length) = true := by first | simpa using c3 | (simp at c3 ⊢; omega)
    clear c3
    have H' := Aside0.mk H
    clear H
    go_enter Try.func29, Try.ntmps29
    go_wp2
    go_loopg [5] k (fun kq v5 w' => ∃ (x5_1 : Int), v5 = .int .i64 x5_1 ∧ Aside0 (laws_eqTotalS.l0 kq l0 l1 x5_1 = some r) ∧ Aside0 (kq ≤ k) ∧ Aside0 (Below w.heap.size w w'))
    case atStart => exact ⟨(0), (by first | rfl | (simp; done) | (simp [*]; done)), H', ⟨Nat.le_refl _⟩, ⟨by repeat (first | (with_reducible first | exact HB.out | apply below_alloc | apply pw_below_drewN | apply below_drew1) | exact HB.out)⟩⟩
    case round =>
      clear H'
      try clear c1
      try clear c2
      try clear p2
      try clear c3
      try clear c3b0
      try clear c3b1
      try clear c3b2
      obtain ⟨x5_1, rfl, HA, HK1, HB⟩ := hrel
      cases gk with
      | zero => exact absurd HA.out (by simp [laws_eqTotalS.l0])
      | succ k1 =>
        have H := HA.out
        clear HA
        simp only [laws_eqTotalS.l0] at H
        by_cases c4 : x5_1 < (l0.length : Int)
        · rw [if_pos c4] at H
          have c4b0 : decide (x5_1 < (l0.length : Int)) = true := decide_eq_true c4
          clear c4
          by_cases c5 : 0 ≤ x5_1
          · rw [if_pos c5] at H
            have c5b0 : decide (0 ≤ x5_1) = true := decide_eq_true c5
            clear c5
            by_cases c6 : x5_1 < (l1.length : Int)
            · rw [if_pos c6] at H
              have c6b0 : decide (x5_1 < (l1.length : Int)) = true := decide_eq_true c6
              clear c6
              replace H := Option.bind_eq_some_iff.mp H
              obtain ⟨t159, A70, H⟩ := H
              replace H : (if t159 = true then (laws_eqTotalS.l0 k1 l0 l1 (wrap64 (x5_1 + 1))) else (some false)) = some r := H
              have A7 := Aside0.mk A70
              clear A70
              by_cases c8 : t159 = true
              · subst c8
                have H1 : (laws_eqTotalS.l0 k1 l0 l1 (wrap64 (x5_1 + 1))) = some r := by rw [if_pos rfl] at H; exact H
                clear H
                have H := H1
                clear H1
                have H' := Aside0.mk H
                clear H
                try go_wp2
                have n0_ := Aside0.mk (below_drew1 HB.out)
                clear HB
                have HB := n0_
                clear n0_
                have p157 : 0 ≤ (x5_1 : Int) := of_decide_eq_true (by first | (with_reducible assumption) | assumption)
                have q157 : x5_1 < (l0.length : Int) := of_decide_eq_true (by first | (with_reducible assumption) | assumption)
                obtain ⟨ad157, e157, hx157_0, hx157_1, hx157_2, hx157_3⟩ := at_T52 HR0.out x5_1 p157 q157
                have hw157_3 := hx157_3
                have hw157_2 := hx157_2
                have hw157_1 := hx157_1
                have hw157_0 := hx157_0
                cases e157
                replace hx157_0 := (HB.out.cell (World.block_lt_of_cell? w _ hx157_0)).trans hx157_0
                replace hx157_1 := (HB.out.cell (World.block_lt_of_cell? w _ hx157_1)).trans hx157_1
                replace hx157_2 := (HB.out.cell (World.block_lt_of_cell? w _ hx157_2)).trans hx157_2
                replace hx157_3 := (HB.out.cell (World.block_lt_of_cell? w _ hx157_3)).trans hx157_3
                replace p157 := eq_true p157
                replace q157 := eq_true q157
                have p158 : 0 ≤ (x5_1 : Int) := of_decide_eq_true (by first | (with_reducible assumption) | assumption)
                have q158 : x5_1 < (l1.length : Int) := of_decide_eq_true (by first | (with_reducible assumption) | assumption)
                obtain ⟨ad158, e158, hx158_0, hx158_1, hx158_2, hx158_3⟩ := at_T52 HR1.out x5_1 p158 q158
                have hw158_3 := hx158_3
                have hw158_2 := hx158_2
                have hw158_1 := hx158_1
                have hw158_0 := hx158_0
                cases e158
                replace hx158_0 := (HB.out.cell (World.block_lt_of_cell? w _ hx158_0)).trans hx158_0
                replace hx158_1 := (HB.out.cell (World.block_lt_of_cell? w _ hx158_1)).trans hx158_1
                replace hx158_2 := (HB.out.cell (World.block_lt_of_cell? w _ hx158_2)).trans hx158_2
                replace hx158_3 := (HB.out.cell (World.block_lt_of_cell? w _ hx158_3)).trans hx158_3
                replace p158 := eq_true p158
                replace q158 := eq_true q158
                refine start_ (n := 10) (S := fun w' => w'.cell? (ad157.add ((x5_1).toNat * 4)) = some (.int .i64 ((rd_T52 l0 x5_1).f0)) ∧ w'.cell? ⟨(ad157.add ((x5_1).toNat * 4)).block, (ad157.add ((x5_1).toNat * 4)).off + 1, none⟩ = some (.int .i64 ((rd_T52 l0 x5_1).f1)) ∧ w'.cell? ⟨(ad157.add ((x5_1).toNat * 4)).block, (ad157.add ((x5_1).toNat * 4)).off + 2, none⟩ = some (.int .i64 ((rd_T52 l0 x5_1).f2)) ∧ w'.cell? ⟨(ad157.add ((x5_1).toNat * 4)).block, (ad157.add ((x5_1).toNat * 4)).off + 3, none⟩ = some (.int .i64 ((rd_T52 l0 x5_1).f3)) ∧ w'.cell? (ad158.add ((x5_1).toNat * 4)) = some (.int .i64 ((rd_T52 l1 x5_1).f0)) ∧ w'.cell? ⟨(ad158.add ((x5_1).toNat * 4)).block, (ad158.add ((x5_1).toNat * 4)).off + 1, none⟩ = some (.int .i64 ((rd_T52 l1 x5_1).f1)) ∧ w'.cell? ⟨(ad158.add ((x5_1).toNat * 4)).block, (ad158.add ((x5_1).toNat * 4)).off + 2, none⟩ = some (.int .i64 ((rd_T52 l1 x5_1).f2)) ∧ w'.cell? ⟨(ad158.add ((x5_1).toNat * 4)).block, (ad158.add ((x5_1).toNat * 4)).off + 3, none⟩ = some (.int .i64 ((rd_T52 l1 x5_1).f3))) (ds := []) #[false, false, false, false, false, false, false, false, false, false] (by kernel_rfl) rfl rfl ⟨((HB.out.cell (World.block_lt_of_cell? w _ hw157_0)).trans hw157_0), ((HB.out.cell (World.block_lt_of_cell? w _ hw157_1)).trans hw157_1), ((HB.out.cell (World.block_lt_of_cell? w _ hw157_2)).trans hw157_2), ((HB.out.cell (World.block_lt_of_cell? w _ hw157_3)).trans hw157_3), ((HB.out.cell (World.block_lt_of_cell? w _ hw158_0)).trans hw158_0), ((HB.out.cell (World.block_lt_of_cell? w _ hw158_1)).trans hw158_1), ((HB.out.cell (World.block_lt_of_cell? w _ hw158_2)).trans hw158_2), ((HB.out.cell (World.block_lt_of_cell? w _ hw158_3)).trans hw158_3)⟩ (fun hHeld => ?_); refine with_tabW laws_eqTotalS.tab6 laws_eqTotalS.bits6 (fun HT_ HW_ => ?_)
                generalize wr.drew = w9 at HB hx157_0 hx157_1 hx157_2 hx157_3 hx158_0 hx158_1 hx158_2 hx158_3 hHeld ⊢
                refine pure_ (i := 0) (N := some 17) (v := ?_) (a' := ?_) #[true, false, false, false, false, false, false, false, false, false] rfl rfl (any_of HT_.out (by kernel_rfl)) (fun _ _ _ h => h) (Or.inl ⟨by rfl, ?_⟩) ?_ ?_
                rotate_left
                · intro w'
                  go_simp
                  with_reducible rfl
                rotate_left
                · simp only [Act.put, List.setIfInBounds_toArray, List.set_cons_zero, List.set_cons_succ, i64_w, i32_w]
                  rfl
                refine pure_ (i := 1) (N := some 18) (v := ?_) (a' := ?_) #[true, true, false, false, false, false, false, false, false, false] rfl rfl (any_of HT_.out (by kernel_rfl)) (fun _ _ _ h => h) (Or.inl ⟨by rfl, ?_⟩) ?_ ?_
                rotate_left
                · intro w'
                  go_simp
                  with_reducible rfl
                rotate_left
                · simp only [Act.put, List.setIfInBounds_toArray, List.set_cons_zero, List.set_cons_succ, i64_w, i32_w]
                  rfl
                refine pure_ (i := 2) (N := some 19) (v := ?_) (a' := ?_) #[true, true, true, false, false, false, false, false, false, false] rfl rfl (any_of HT_.out (by kernel_rfl)) (fun _ _ _ h => h) (Or.inl ⟨by rfl, ?_⟩) ?_ ?_
                rotate_left
                · intro w'
                  go_simp
                  with_reducible rfl
                rotate_left
                · simp only [Act.put, List.setIfInBounds_toArray, List.set_cons_zero, List.set_cons_succ, i64_w, i32_w]
                  rfl
                refine pure_ (i := 4) (N := some 21) (v := ?_) (a' := ?_) #[true, true, true, false, true, false, false, false, false, false] rfl rfl (any_of HT_.out (by kernel_rfl)) (fun _ _ _ h => h) (Or.inl ⟨by rfl, ?_⟩) ?_ ?_
                rotate_left
                · intro w'
                  go_simp
                  with_reducible rfl
                rotate_left
                · simp only [Act.put, List.setIfInBounds_toArray, List.set_cons_zero, List.set_cons_succ, i64_w, i32_w]
                  rfl
                refine pure_ (i := 5) (N := some 22) (v := ?_) (a' := ?_) #[true, true, true, false, true, true, false, false, false, false] rfl rfl (any_of HT_.out (by kernel_rfl)) (fun _ _ _ h => h) (Or.inl ⟨by rfl, ?_⟩) ?_ ?_
                rotate_left
                · intro w'
                  go_simp
                  with_reducible rfl
                rotate_left
                · simp only [Act.put, List.setIfInBounds_toArray, List.set_cons_zero, List.set_cons_succ, i64_w, i32_w]
                  rfl
                refine pure_ (i := 6) (N := some 23) (v := ?_) (a' := ?_) #[true, true, true, false, true, true, true, false, false, false] rfl rfl (any_of HT_.out (by kernel_rfl)) (fun _ _ _ h => h) (Or.inl ⟨by rfl, ?_⟩) ?_ ?_
                rotate_left
                · intro w'
                  go_simp
                  with_reducible rfl
                rotate_left
                · simp only [Act.put, List.setIfInBounds_toArray, List.set_cons_zero, List.set_cons_succ, i64_w, i32_w]
                  rfl
                refine take_ (i := 3) (N := some 20) (v := ?_) (a' := ?_) #[true, true, true, true, true, true, true, false, false, false] rfl rfl (take_ofW HT_.out HW_.out (by kernel_rfl)) (fun _ _ _ h => h) (Or.inl ⟨by rfl, ?_⟩) hHeld ?_ ?_
                rotate_left
                · rintro w' ⟨s0, s1, s2, s3, s4, s5, s6, s7⟩
                  go_simp
                  with_reducible rfl
                rotate_left
                · simp only [Act.put, List.setIfInBounds_toArray, List.set_cons_zero, List.set_cons_succ, i64_w, i32_w]
                  rfl
                refine take_ (i := 7) (N := some 24) (v := ?_) (a' := ?_) #[true, true, true, true, true, true, true, true, false, false] rfl rfl (take_ofW HT_.out HW_.out (by kernel_rfl)) (fun _ _ _ h => h) (Or.inl ⟨by rfl, ?_⟩) hHeld ?_ ?_
                rotate_left
                · rintro w' ⟨s0, s1, s2, s3, s4, s5, s6, s7⟩
                  go_simp
                  with_reducible rfl
                rotate_left
                · simp only [Act.put, List.setIfInBounds_toArray, List.set_cons_zero, List.set_cons_succ, i64_w, i32_w]
                  rfl
                refine one_ (i := 8) (N := some 25) #[true, true, true, true, true, true, true, true, true, false] rfl rfl (one_of HT_.out (by kernel_rfl)) (by decide) (fun K hK => ?_)
                refine goes_ Try.func81 (by kernel_rfl) rfl #[.agg #[.int .i64 ((rd_T52 l0 x5_1).f0), .int .i64 ((rd_T52 l0 x5_1).f1), .int .i64 ((rd_T52 l0 x5_1).f2), .int .i64 ((rd_T52 l0 x5_1).f3)], .agg #[.int .i64 ((rd_T52 l1 x5_1).f0), .int .i64 ((rd_T52 l1 x5_1).f1), .int .i64 ((rd_T52 l1 x5_1).f2), .int .i64 ((rd_T52 l1 x5_1).f3)]] (by rfl) rfl rfl (by (try simp only [List.map_toArray, List.map_cons, List.map_nil]); first | done | rfl | (simp only [List.length_drop, List.length_take]; rfl)) ?_
                with_reducible refine (laws_eqTotal.calls ((rd_T52 l0 x5_1).f0) ((rd_T52 l0 x5_1).f1) ((rd_T52 l0 x5_1).f2) ((rd_T52 l0 x5_1).f3) ((rd_T52 l1 x5_1).f0) ((rd_T52 l1 x5_1).f1) ((rd_T52 l1 x5_1).f2) ((rd_T52 l1 x5_1).f3) true _ A7.out).mono ?_
                rintro e w10 ⟨rfl, hb⟩
                refine ⟨_, rfl, ?_⟩
                have n0_ := Aside0.mk (below_step (by repeat (first | (with_reducible first | exact HB.out | apply below_alloc | apply pw_below_drewN | apply below_drew1) | exact HB.out)) hb)
                clear HB
                have HB := n0_
                clear n0_
                (try clear hb)
                (try clear hb2)
                (try clear hk)
                (try clear hi)
                refine hK.out _ _ ⟨((HB.out.cell (World.block_lt_of_cell? w _ hw157_0)).trans hw157_0), ((HB.out.cell (World.block_lt_of_cell? w _ hw157_1)).trans hw157_1), ((HB.out.cell (World.block_lt_of_cell? w _ hw157_2)).trans hw157_2), ((HB.out.cell (World.block_lt_of_cell? w _ hw157_3)).trans hw157_3), ((HB.out.cell (World.block_lt_of_cell? w _ hw158_0)).trans hw158_0), ((HB.out.cell (World.block_lt_of_cell? w _ hw158_1)).trans hw158_1), ((HB.out.cell (World.block_lt_of_cell? w _ hw158_2)).trans hw158_2), ((HB.out.cell (World.block_lt_of_cell? w _ hw158_3)).trans hw158_3)⟩ (fun hHeld => ?_)
                clear hK K
                refine norm_ (a' := ?_) ?_ ?_
                rotate_left
                · show Act.put _ (some 25) _ = _
                  simp only [Act.put, List.setIfInBounds_toArray, List.set_cons_zero, List.set_cons_succ, i64_w, i32_w]
                  rfl
                refine pure_ (i := 9) (N := some 26) (v := ?_) (a' := ?_) #[true, true, true, true, true, true, true, true, true, true] rfl rfl (any_of HT_.out (by kernel_rfl)) (fun _ _ _ h => h) (Or.inl ⟨by rfl, ?_⟩) ?_ ?_
                rotate_left
                · intro w'
                  go_simp
                  with_reducible rfl
                rotate_left
                · simp only [Act.put, List.setIfInBounds_toArray, List.set_cons_zero, List.set_cons_succ, i64_w, i32_w]
                  rfl
                refine done_ (done_of HT_.out (by kernel_rfl)) ?_
                try go_wp2
                go_roundg k1
                case measure => have := HK1.out; omega
                case rel => exact ⟨(wrap64 (x5_1 + 1)), (by first | rfl | (simp; done) | (simp [*]; done)), H', ⟨by have := HK1.out; omega⟩, ⟨by repeat (first | (with_reducible first | exact HB.out | apply below_alloc | apply pw_below_drewN | apply below_drew1) | exact HB.out)⟩⟩
              · replace c8 := Bool.eq_false_iff.mpr c8
                subst c8
                have H1 : (some false) = some r := by rw [if_neg (show ¬ (false = true) by decide)] at H; exact H
                clear H
                have H := H1
                clear H1
                obtain rfl := Option.some.inj H
                try go_wp2
                have n0_ := Aside0.mk (below_drew1 HB.out)
                clear HB
                have HB := n0_
                clear n0_
                have p157 : 0 ≤ (x5_1 : Int) := of_decide_eq_true (by first | (with_reducible assumption) | assumption)
                have q157 : x5_1 < (l0.length : Int) := of_decide_eq_true (by first | (with_reducible assumption) | assumption)
                obtain ⟨ad157, e157, hx157_0, hx157_1, hx157_2, hx157_3⟩ := at_T52 HR0.out x5_1 p157 q157
                have hw157_3 := hx157_3
                have hw157_2 := hx157_2
                have hw157_1 := hx157_1
                have hw157_0 := hx157_0
                cases e157
                replace hx157_0 := (HB.out.cell (World.block_lt_of_cell? w _ hx157_0)).trans hx157_0
                replace hx157_1 := (HB.out.cell (World.block_lt_of_cell? w _ hx157_1)).trans hx157_1
                replace hx157_2 := (HB.out.cell (World.block_lt_of_cell? w _ hx157_2)).trans hx157_2
                replace hx157_3 := (HB.out.cell (World.block_lt_of_cell? w _ hx157_3)).trans hx157_3
                replace p157 := eq_true p157
                replace q157 := eq_true q157
                have p158 : 0 ≤ (x5_1 : Int) := of_decide_eq_true (by first | (with_reducible assumption) | assumption)
                have q158 : x5_1 < (l1.length : Int) := of_decide_eq_true (by first | (with_reducible assumption) | assumption)
                obtain ⟨ad158, e158, hx158_0, hx158_1, hx158_2, hx158_3⟩ := at_T52 HR1.out x5_1 p158 q158
                have hw158_3 := hx158_3
                have hw158_2 := hx158_2
                have hw158_1 := hx158_1
                have hw158_0 := hx158_0
                cases e158
                replace hx158_0 := (HB.out.cell (World.block_lt_of_cell? w _ hx158_0)).trans hx158_0
                replace hx158_1 := (HB.out.cell (World.block_lt_of_cell? w _ hx158_1)).trans hx158_1
                replace hx158_2 := (HB.out.cell (World.block_lt_of_cell? w _ hx158_2)).trans hx158_2
                replace hx158_3 := (HB.out.cell (World.block_lt_of_cell? w _ hx158_3)).trans hx158_3
                replace p158 := eq_true p158
                replace q158 := eq_true q158
                refine start_ (n := 10) (S := fun w' => w'.cell? (ad157.add ((x5_1).toNat * 4)) = some (.int .i64 ((rd_T52 l0 x5_1).f0)) ∧ w'.cell? ⟨(ad157.add ((x5_1).toNat * 4)).block, (ad157.add ((x5_1).toNat * 4)).off + 1, none⟩ = some (.int .i64 ((rd_T52 l0 x5_1).f1)) ∧ w'.cell? ⟨(ad157.add ((x5_1).toNat * 4)).block, (ad157.add ((x5_1).toNat * 4)).off + 2, none⟩ = some (.int .i64 ((rd_T52 l0 x5_1).f2)) ∧ w'.cell? ⟨(ad157.add ((x5_1).toNat * 4)).block, (ad157.add ((x5_1).toNat * 4)).off + 3, none⟩ = some (.int .i64 ((rd_T52 l0 x5_1).f3)) ∧ w'.cell? (ad158.add ((x5_1).toNat * 4)) = some (.int .i64 ((rd_T52 l1 x5_1).f0)) ∧ w'.cell? ⟨(ad158.add ((x5_1).toNat * 4)).block, (ad158.add ((x5_1).toNat * 4)).off + 1, none⟩ = some (.int .i64 ((rd_T52 l1 x5_1).f1)) ∧ w'.cell? ⟨(ad158.add ((x5_1).toNat * 4)).block, (ad158.add ((x5_1).toNat * 4)).off + 2, none⟩ = some (.int .i64 ((rd_T52 l1 x5_1).f2)) ∧ w'.cell? ⟨(ad158.add ((x5_1).toNat * 4)).block, (ad158.add ((x5_1).toNat * 4)).off + 3, none⟩ = some (.int .i64 ((rd_T52 l1 x5_1).f3))) (ds := []) #[false, false, false, false, false, false, false, false, false, false] (by kernel_rfl) rfl rfl ⟨((HB.out.cell (World.block_lt_of_cell? w _ hw157_0)).trans hw157_0), ((HB.out.cell (World.block_lt_of_cell? w _ hw157_1)).trans hw157_1), ((HB.out.cell (World.block_lt_of_cell? w _ hw157_2)).trans hw157_2), ((HB.out.cell (World.block_lt_of_cell? w _ hw157_3)).trans hw157_3), ((HB.out.cell (World.block_lt_of_cell? w _ hw158_0)).trans hw158_0), ((HB.out.cell (World.block_lt_of_cell? w _ hw158_1)).trans hw158_1), ((HB.out.cell (World.block_lt_of_cell? w _ hw158_2)).trans hw158_2), ((HB.out.cell (World.block_lt_of_cell? w _ hw158_3)).trans hw158_3)⟩ (fun hHeld => ?_); refine with_tabW laws_eqTotalS.tab6 laws_eqTotalS.bits6 (fun HT_ HW_ => ?_)
                generalize wr.drew = w11 at HB hx157_0 hx157_1 hx157_2 hx157_3 hx158_0 hx158_1 hx158_2 hx158_3 hHeld ⊢
                refine pure_ (i := 0) (N := some 17) (v := ?_) (a' := ?_) #[true, false, false, false, false, false, false, false, false, false] rfl rfl (any_of HT_.out (by kernel_rfl)) (fun _ _ _ h => h) (Or.inl ⟨by rfl, ?_⟩) ?_ ?_
                rotate_left
                · intro w'
                  go_simp
                  with_reducible rfl
                rotate_left
                · simp only [Act.put, List.setIfInBounds_toArray, List.set_cons_zero, List.set_cons_succ, i64_w, i32_w]
                  rfl
                refine pure_ (i := 1) (N := some 18) (v := ?_) (a' := ?_) #[true, true, false, false, false, false, false, false, false, false] rfl rfl (any_of HT_.out (by kernel_rfl)) (fun _ _ _ h => h) (Or.inl ⟨by rfl, ?_⟩) ?_ ?_
                rotate_left
                · intro w'
                  go_simp
                  with_reducible rfl
                rotate_left
                · simp only [Act.put, List.setIfInBounds_toArray, List.set_cons_zero, List.set_cons_succ, i64_w, i32_w]
                  rfl
                refine pure_ (i := 2) (N := some 19) (v := ?_) (a' := ?_) #[true, true, true, false, false, false, false, false, false, false] rfl rfl (any_of HT_.out (by kernel_rfl)) (fun _ _ _ h => h) (Or.inl ⟨by rfl, ?_⟩) ?_ ?_
                rotate_left
                · intro w'
                  go_simp
                  with_reducible rfl
                rotate_left
                · simp only [Act.put, List.setIfInBounds_toArray, List.set_cons_zero, List.set_cons_succ, i64_w, i32_w]
                  rfl
                refine pure_ (i := 4) (N := some 21) (v := ?_) (a' := ?_) #[true, true, true, false, true, false, false, false, false, false] rfl rfl (any_of HT_.out (by kernel_rfl)) (fun _ _ _ h => h) (Or.inl ⟨by rfl, ?_⟩) ?_ ?_
                rotate_left
                · intro w'
                  go_simp
                  with_reducible rfl
                rotate_left
                · simp only [Act.put, List.setIfInBounds_toArray, List.set_cons_zero, List.set_cons_succ, i64_w, i32_w]
                  rfl
                refine pure_ (i := 5) (N := some 22) (v := ?_) (a' := ?_) #[true, true, true, false, true, true, false, false, false, false] rfl rfl (any_of HT_.out (by kernel_rfl)) (fun _ _ _ h => h) (Or.inl ⟨by rfl, ?_⟩) ?_ ?_
                rotate_left
                · intro w'
                  go_simp
                  with_reducible rfl
                rotate_left
                · simp only [Act.put, List.setIfInBounds_toArray, List.set_cons_zero, List.set_cons_succ, i64_w, i32_w]
                  rfl
                refine pure_ (i := 6) (N := some 23) (v := ?_) (a' := ?_) #[true, true, true, false, true, true, true, false, false, false] rfl rfl (any_of HT_.out (by kernel_rfl)) (fun _ _ _ h => h) (Or.inl ⟨by rfl, ?_⟩) ?_ ?_
                rotate_left
                · intro w'
                  go_simp
                  with_reducible rfl
                rotate_left
                · simp only [Act.put, List.setIfInBounds_toArray, List.set_cons_zero, List.set_cons_succ, i64_w, i32_w]
                  rfl
                refine take_ (i := 3) (N := some 20) (v := ?_) (a' := ?_) #[true, true, true, true, true, true, true, false, false, false] rfl rfl (take_ofW HT_.out HW_.out (by kernel_rfl)) (fun _ _ _ h => h) (Or.inl ⟨by rfl, ?_⟩) hHeld ?_ ?_
                rotate_left
                · rintro w' ⟨s0, s1, s2, s3, s4, s5, s6, s7⟩
                  go_simp
                  with_reducible rfl
                rotate_left
                · simp only [Act.put, List.setIfInBounds_toArray, List.set_cons_zero, List.set_cons_succ, i64_w, i32_w]
                  rfl
                refine take_ (i := 7) (N := some 24) (v := ?_) (a' := ?_) #[true, true, true, true, true, true, true, true, false, false] rfl rfl (take_ofW HT_.out HW_.out (by kernel_rfl)) (fun _ _ _ h => h) (Or.inl ⟨by rfl, ?_⟩) hHeld ?_ ?_
                rotate_left
                · rintro w' ⟨s0, s1, s2, s3, s4, s5, s6, s7⟩
                  go_simp
                  with_reducible rfl
                rotate_left
                · simp only [Act.put, List.setIfInBounds_toArray, List.set_cons_zero, List.set_cons_succ, i64_w, i32_w]
                  rfl
                refine one_ (i := 8) (N := some 25) #[true, true, true, true, true, true, true, true, true, false] rfl rfl (one_of HT_.out (by kernel_rfl)) (by decide) (fun K hK => ?_)
                refine goes_ Try.func81 (by kernel_rfl) rfl #[.agg #[.int .i64 ((rd_T52 l0 x5_1).f0), .int .i64 ((rd_T52 l0 x5_1).f1), .int .i64 ((rd_T52 l0 x5_1).f2), .int .i64 ((rd_T52 l0 x5_1).f3)], .agg #[.int .i64 ((rd_T52 l1 x5_1).f0), .int .i64 ((rd_T52 l1 x5_1).f1), .int .i64 ((rd_T52 l1 x5_1).f2), .int .i64 ((rd_T52 l1 x5_1).f3)]] (by rfl) rfl rfl (by (try simp only [List.map_toArray, List.map_cons, List.map_nil]); first | done | rfl | (simp only [List.length_drop, List.length_take]; rfl)) ?_
                with_reducible refine (laws_eqTotal.calls ((rd_T52 l0 x5_1).f0) ((rd_T52 l0 x5_1).f1) ((rd_T52 l0 x5_1).f2) ((rd_T52 l0 x5_1).f3) ((rd_T52 l1 x5_1).f0) ((rd_T52 l1 x5_1).f1) ((rd_T52 l1 x5_1).f2) ((rd_T52 l1 x5_1).f3) false _ A7.out).mono ?_
                rintro e w12 ⟨rfl, hb⟩
                refine ⟨_, rfl, ?_⟩
                have n0_ := Aside0.mk (below_step (by repeat (first | (with_reducible first | exact HB.out | apply below_alloc | apply pw_below_drewN | apply below_drew1) | exact HB.out)) hb)
                clear HB
                have HB := n0_
                clear n0_
                (try clear hb)
                (try clear hb2)
                (try clear hk)
                (try clear hi)
                refine hK.out _ _ ⟨((HB.out.cell (World.block_lt_of_cell? w _ hw157_0)).trans hw157_0), ((HB.out.cell (World.block_lt_of_cell? w _ hw157_1)).trans hw157_1), ((HB.out.cell (World.block_lt_of_cell? w _ hw157_2)).trans hw157_2), ((HB.out.cell (World.block_lt_of_cell? w _ hw157_3)).trans hw157_3), ((HB.out.cell (World.block_lt_of_cell? w _ hw158_0)).trans hw158_0), ((HB.out.cell (World.block_lt_of_cell? w _ hw158_1)).trans hw158_1), ((HB.out.cell (World.block_lt_of_cell? w _ hw158_2)).trans hw158_2), ((HB.out.cell (World.block_lt_of_cell? w _ hw158_3)).trans hw158_3)⟩ (fun hHeld => ?_)
                clear hK K
                refine norm_ (a' := ?_) ?_ ?_
                rotate_left
                · show Act.put _ (some 25) _ = _
                  simp only [Act.put, List.setIfInBounds_toArray, List.set_cons_zero, List.set_cons_succ, i64_w, i32_w]
                  rfl
                refine pure_ (i := 9) (N := some 26) (v := ?_) (a' := ?_) #[true, true, true, true, true, true, true, true, true, true] rfl rfl (any_of HT_.out (by kernel_rfl)) (fun _ _ _ h => h) (Or.inl ⟨by rfl, ?_⟩) ?_ ?_
                rotate_left
                · intro w'
                  go_simp
                  with_reducible rfl
                rotate_left
                · simp only [Act.put, List.setIfInBounds_toArray, List.set_cons_zero, List.set_cons_succ, i64_w, i32_w]
                  rfl
                refine done_ (done_of HT_.out (by kernel_rfl)) ?_
                try go_wp2
                go_ret
                exact ⟨by first | rfl | (simp [errW_none, errW_some] <;> rfl) | (simp [*, errW_none, errW_some] <;> rfl), by repeat (first | (with_reducible first | exact HB.out | apply below_alloc | apply pw_below_drewN | apply below_drew1) | exact HB.out)⟩
            · rw [if_neg c6] at H
              exact absurd H (by simp)
          · rw [if_neg c5] at H
            exact absurd H (by simp)
        · rw [if_neg c4] at H
          have c4b0 : decide (x5_1 < (l0.length : Int)) = false := decide_eq_false c4
          clear c4
          obtain rfl := Option.some.inj H
          go_wp2
          go_ret
          exact ⟨by first | rfl | (simp [errW_none, errW_some] <;> rfl) | (simp [*, errW_none, errW_some] <;> rfl), by repeat (first | (with_reducible first | exact HB.out | apply below_alloc | apply pw_below_drewN | apply below_drew1) | exact HB.out)⟩
  · rw [if_neg c3] at H
    have c3b0 : ((l0.length : Int) == (l1.length : Int)) = false := beq_eq_false_iff_ne.mpr c3
    have c3b1 : ((l0.length : Int) != (l1.length : Int)) = true := bne_iff_ne.mpr c3
    have c3b2 : (l0.length == l1.length) = false := by first | simpa using c3 | (simp at c3 ⊢; omega)
    obtain rfl := Option.some.inj H
    go_enter Try.func29, Try.ntmps29
    go_wp2
    go_ret
    exact ⟨by first | rfl | (simp [errW_none, errW_some] <;> rfl) | (simp [*, errW_none, errW_some] <;> rfl), by repeat (first | (with_reducible first | exact HB.out | apply below_alloc | apply pw_below_drewN | apply below_drew1) | exact HB.out)⟩

end Go.Proofs.Ytloiafnoekpaoab.PFnExactTotalsOf
