/- Laid by a program of this session out of the translation: functions, their contracts, the row. Lean checks it. -/
import Derived.Test.YtloiafnoekpaoaaPFnTurnOrderx0
import Derived.Test.YtloiafnoekpaoaaPFnTurnOrderx2
namespace Go.Proofs.Ytloiafnoekpaoaa.PFnTurnOrder
open Go.RowKit Go.Proofs.YtloiafnoekpaoaaW.PrintWords Go.Proofs.YtloiafnoekpaoaaW.PrintLast Go.Proofs.YtloiafnoekpaoaaW.PrintMore
attribute [local go_sem] max2_int min2_int max_two min_two max_three min_three max_four min_four   -- for this text's walks alone
set_option linter.unusedVariables false
set_option linter.unusedSimpArgs false

/-! ### spec_TurnOrder: function 31 -/
def spec_TurnOrder.l0 : Nat → Int → Int → List Int → Int → Option (List Int)
  | 0, _, _, _, _ => none
  | k + 1, x0, x1, x5, x6 => if x6 < x0 then ((spec_l1In.f x0 1 6).bind fun t153 => (if t153 = true then (if x1 ≥ 0 then (if x0 = 0 then (none) else (if x5.length < 17592186044416 then (spec_TurnOrder.l0 k x0 x1 (x5 ++ [Int.tmod (wrap64 ((Int.tmod x1 x0) + x6)) x0]) (wrap64 (x6 + 1))) else (none))) else (some x5)) else (some x5))) else (some x5)
def spec_TurnOrder.f (k : Nat) (a0 : Int) (a1 : Int) : Option (List Int) := spec_TurnOrder.l0 k a0 a1 (([] : List Int)) 0
theorem spec_TurnOrder.mono_l : ∀ k, (∀ y0 y1 y2 y3, LeO (spec_TurnOrder.l0 k y0 y1 y2 y3) (spec_TurnOrder.l0 (k + 1) y0 y1 y2 y3))
  | 0 => fun _ _ _ _ r h => by simp [spec_TurnOrder.l0] at h
  | k + 1 => by
    have ih0 := spec_TurnOrder.mono_l k
    · intro y0 y1 y2 y3
      unfold spec_TurnOrder.l0
      repeat' first
      | (with_reducible exact ih0 _ _ _ _)
      | (with_reducible exact LeO.refl _)
      | (with_reducible exact LeO.none _)
      | (with_reducible refine LeO.ite ?_ ?_)
      | (with_reducible refine LeO.bind ?_ (fun _ => ?_))
      | exact ih0 _ _ _ _
      | exact LeO.none _
      | refine LeO.ite ?_ ?_
      | refine LeO.bind ?_ (fun _ => ?_)
theorem spec_TurnOrder.mono : ∀ a0 a1 k, LeO (spec_TurnOrder.f k a0 a1) (spec_TurnOrder.f (k + 1) a0 a1) := by
  intro a0 a1 k
  have ih0 := spec_TurnOrder.mono_l k
  unfold spec_TurnOrder.f
  repeat' first
      | (with_reducible exact ih0 _ _ _ _)
      | (with_reducible exact LeO.refl _)
      | (with_reducible exact LeO.none _)
      | (with_reducible refine LeO.ite ?_ ?_)
      | (with_reducible refine LeO.bind ?_ (fun _ => ?_))
      | exact ih0 _ _ _ _
      | exact LeO.none _
      | refine LeO.ite ?_ ?_
      | refine LeO.bind ?_ (fun _ => ?_)
set_option maxHeartbeats 8000000 in
set_option maxRecDepth 100000 in
theorem spec_TurnOrder.calls (k : Nat) (a0 : Int) (a1 : Int) (r : List Int) (w : World) (h : spec_TurnOrder.f k a0 a1 = some r) :
    Calls Try.prog 31 #[.int .i64 a0, .int .i64 a1] w fun e w' => ∃ v0_ : Value, e = .returned (v0_) ∧ Kd.R (Kd.int .i64) 3 w' w.heap.size (fun _ => True) v0_ r ∧ Below w.heap.size w w' := by
  have HB := Aside0.mk (Below.refl w.heap.size w)
  have H : (spec_TurnOrder.l0 k a0 a1 (([] : List Int)) 0) = some r := h
  clear h
  obtain ⟨y150, hy150⟩ : ∃ y_ : List Int, y_ = (([] : List Int)) := ⟨_, rfl⟩
  replace H : (spec_TurnOrder.l0 k a0 a1 y150 0) = some r := by first | (rw [hy150]; with_reducible exact H) | (have H2_ := (Option.bind_some _ _).symm.trans H; rw [hy150]; with_reducible exact H2_) | (have H2_ := (Option.bind_some _ _).symm.trans H; with_reducible exact H2_) | with_reducible exact H | (rw [hy150]; exact H) | exact H
  have Ny150 := Aside0.mk hy150
  clear hy150
  have H' := Aside0.mk H
  clear H
  go_enter Try.func31, Try.ntmps31
  go_wp2_with (first | ((with_reducible refine gate_dst (N := 7) rfl ?_); refine Kd.R_lit (Kd.int .i64) _ 3 ?hg (N := 7) ?hd (xs := ([] : List Int)) (inner := []) (ok := fun _ => True) (okp := fun _ => True) ?hr ?hp (fun _ hk => hk) trivial (Below.refl _ _) (Nat.le_refl _) (by simp) ?_; (case hd => rfl); (case hg => rfl); (case hr => first | (go_simp; done) | (go_simp; rfl)); (case hp => exact (Reps.none _ _)); intro v151 w3 ho4 hb hg_ hnew_; clear hg_ hnew_; (first | rw [← Ny150.out] at ho4 | (simp only [Int.reduceToNat] at ho4; rw [← Ny150.out] at ho4)); have n0_ := Aside0.mk (Kd.R_lower ho4 (below_size (by repeat (first | (with_reducible first | exact HB.out | apply below_alloc | apply pw_below_drewN | apply below_drew1) | exact HB.out)))); have n1_ := Aside0.mk (below_step (by repeat (first | (with_reducible first | exact HB.out | apply below_alloc | apply pw_below_drewN | apply below_drew1) | exact HB.out)) hb); clear HB; have HO152 := n0_; have HB := n1_; clear n0_ n1_; clear hb ho4))
  go_loopg [5, 6] k (fun kq v5 v6 w' => ∃ (x5_1 : List Int) (x6_1 : Int), v6 = .int .i64 x6_1 ∧ Aside0 (spec_TurnOrder.l0 kq a0 a1 x5_1 x6_1 = some r) ∧ Aside0 (kq ≤ k) ∧ Aside0 (Kd.R (Kd.int .i64) 3 w' w.heap.size (fun _ => True) v5 x5_1) ∧ Aside0 (Below w.heap.size w w'))
  case atStart => exact ⟨(y150), (0), (by first | rfl | (simp; done) | (simp [*]; done)), H', ⟨Nat.le_refl _⟩, ⟨by (with_reducible repeat (first | apply Kd.R_alloc | apply Kd.R_drewN | apply Kd.R_drew)); exact HO152.out⟩, ⟨by repeat (first | (with_reducible first | exact HB.out | apply below_alloc | apply pw_below_drewN | apply below_drew1) | exact HB.out)⟩⟩
  case round =>
    clear H'
    try clear p2
    try clear c3
    obtain ⟨x5_1, x6_1, rfl, HA, HK1, HO_5, HB⟩ := hrel
    cases gk with
    | zero => exact absurd HA.out (by simp [spec_TurnOrder.l0])
    | succ k1 =>
      have H := HA.out
      clear HA
      simp only [spec_TurnOrder.l0] at H
      by_cases c5 : x6_1 < a0
      · rw [if_pos c5] at H
        have c5b0 : decide (x6_1 < a0) = true := decide_eq_true c5
        clear c5
        replace H := Option.bind_eq_some_iff.mp H
        obtain ⟨t153, A60, H⟩ := H
        replace H : (if t153 = true then (if a1 ≥ 0 then (if a0 = 0 then (none) else (if x5_1.length < 17592186044416 then (spec_TurnOrder.l0 k1 a0 a1 (x5_1 ++ [Int.tmod (wrap64 ((Int.tmod a1 a0) + x6_1)) a0]) (wrap64 (x6_1 + 1))) else (none))) else (some x5_1)) else (some x5_1)) = some r := H
        have A6 := Aside0.mk A60
        clear A60
        by_cases c7 : t153 = true
        · subst c7
          have H1 : (if a1 ≥ 0 then (if a0 = 0 then (none) else (if x5_1.length < 17592186044416 then (spec_TurnOrder.l0 k1 a0 a1 (x5_1 ++ [Int.tmod (wrap64 ((Int.tmod a1 a0) + x6_1)) a0]) (wrap64 (x6_1 + 1))) else (none))) else (some x5_1)) = some r := by rw [if_pos rfl] at H; exact H
          clear H
          have H := H1
          clear H1
          by_cases c8 : a1 ≥ 0
          · rw [if_pos c8] at H
            have c8b0 : decide (0 ≤ a1) = true := decide_eq_true c8
            clear c8
            by_cases c9 : a0 = 0
            · rw [if_pos c9] at H
              exact absurd H (by simp)
            · rw [if_neg c9] at H
              have c9b0 : (a0 == 0) = false := beq_eq_false_iff_ne.mpr c9
              have c9b1 : (a0 != 0) = true := bne_iff_ne.mpr c9
              by_cases c10 : x5_1.length < 17592186044416
              · rw [if_pos c10] at H
                have LMc10 := Aside0.mk c10
                clear c10
                obtain ⟨y154, hy154⟩ : ∃ y_ : List Int, y_ = (x5_1 ++ [Int.tmod (wrap64 ((Int.tmod a1 a0) + x6_1)) a0]) := ⟨_, rfl⟩
                replace H : (spec_TurnOrder.l0 k1 a0 a1 y154 (wrap64 (x6_1 + 1))) = some r := by first | (rw [hy154]; with_reducible exact H) | (have H2_ := (Option.bind_some _ _).symm.trans H; rw [hy154]; with_reducible exact H2_) | (have H2_ := (Option.bind_some _ _).symm.trans H; with_reducible exact H2_) | with_reducible exact H | (rw [hy154]; exact H) | exact H
                have Ny154 := Aside0.mk hy154
                clear hy154
                have H' := Aside0.mk H
                clear H
                go_wp2_with (first | (go_at_call 68; (with_reducible refine (spec_l1In.calls a0 1 6 true _ A6.out).mono ?_); rintro e w' ⟨rfl, ⟨nd, rfl⟩⟩) | ((with_reducible refine gate_builtin (b := .append) (xs := #[.tmp 21, .tmp 29]) rfl ?_); at_builtin; refine Kd.R_append (Kd.int .i64) (w0 := w) w.heap.size rfl (.tmp 21) (.tmp 29) 32 3 (.int .i64 0) 8 rfl Try.underlying32 info3 rfl (by decide) (by omega) u5 x5_1 (Int.tmod (wrap64 ((Int.tmod a1 a0) + x6_1)) a0) [.int .i64 (Int.tmod (wrap64 ((Int.tmod a1 a0) + x6_1)) a0)] (fun _ => True) (fun _ => False) rfl rfl ?aP (fun _ hk => hk.elim) ?aF ?aO ?aB ?aS ?aL ?_; (case aP => exact rfl); (case aB => exact (by repeat (first | (with_reducible first | exact HB.out | apply below_alloc | apply pw_below_drewN | apply below_drew1) | exact HB.out))); (case aF => exact (fun _ _ => trivial)); (case aO => exact (by (with_reducible repeat (first | apply Kd.R_alloc | apply Kd.R_drewN | apply Kd.R_drew)); exact HO_5.out)); (case aS => exact (below_size (by repeat (first | (with_reducible first | exact HB.out | apply below_alloc | apply pw_below_drewN | apply below_drew1) | exact HB.out)))); (case aL => have := LMc10.out; omega); intro v155 w11 ho hb hg hat; rw [← Ny154.out] at ho; have n0_ := Aside0.mk (hb); have n1_ := Aside0.mk (ho); clear HB; clear HO_5; have HB := n0_; have HO156 := n1_; clear n0_ n1_; clear ho hb hg hat))
                go_roundg k1
                case measure => have := HK1.out; omega
                case rel => exact ⟨(y154), (wrap64 (x6_1 + 1)), (by first | rfl | (simp; done) | (simp [*]; done)), H', ⟨by have := HK1.out; omega⟩, ⟨by (with_reducible repeat (first | apply Kd.R_alloc | apply Kd.R_drewN | apply Kd.R_drew)); exact HO156.out⟩, ⟨by repeat (first | (with_reducible first | exact HB.out | apply below_alloc | apply pw_below_drewN | apply below_drew1) | exact HB.out)⟩⟩
              · rw [if_neg c10] at H
                exact absurd H (by simp)
          · rw [if_neg c8] at H
            have c8b0 : decide (0 ≤ a1) = false := decide_eq_false c8
            clear c8
            obtain rfl := Option.some.inj H
            go_wp2_with (first | (go_at_call 68; (with_reducible refine (spec_l1In.calls a0 1 6 true _ A6.out).mono ?_); rintro e w' ⟨rfl, ⟨nd, rfl⟩⟩))
            go_ret
            exact ⟨_, by first | rfl | (simp [errW_none, errW_some] <;> rfl) | (simp [*, errW_none, errW_some] <;> rfl), by (with_reducible repeat (first | apply Kd.R_alloc | apply Kd.R_drewN | apply Kd.R_drew)); exact HO_5.out, by repeat (first | (with_reducible first | exact HB.out | apply below_alloc | apply pw_below_drewN | apply below_drew1) | exact HB.out)⟩
        · replace c7 := Bool.eq_false_iff.mpr c7
          subst c7
          have H1 : (some x5_1) = some r := by rw [if_neg (show ¬ (false = true) by decide)] at H; exact H
          clear H
          have H := H1
          clear H1
          obtain rfl := Option.some.inj H
          go_wp2_with (first | (go_at_call 68; (with_reducible refine (spec_l1In.calls a0 1 6 false _ A6.out).mono ?_); rintro e w' ⟨rfl, ⟨nd, rfl⟩⟩))
          go_ret
          exact ⟨_, by first | rfl | (simp [errW_none, errW_some] <;> rfl) | (simp [*, errW_none, errW_some] <;> rfl), by (with_reducible repeat (first | apply Kd.R_alloc | apply Kd.R_drewN | apply Kd.R_drew)); exact HO_5.out, by repeat (first | (with_reducible first | exact HB.out | apply below_alloc | apply pw_below_drewN | apply below_drew1) | exact HB.out)⟩
      · rw [if_neg c5] at H
        have c5b0 : decide (x6_1 < a0) = false := decide_eq_false c5
        clear c5
        obtain rfl := Option.some.inj H
        go_wp2
        go_ret
        exact ⟨_, by first | rfl | (simp [errW_none, errW_some] <;> rfl) | (simp [*, errW_none, errW_some] <;> rfl), by (with_reducible repeat (first | apply Kd.R_alloc | apply Kd.R_drewN | apply Kd.R_drew)); exact HO_5.out, by repeat (first | (with_reducible first | exact HB.out | apply below_alloc | apply pw_below_drewN | apply below_drew1) | exact HB.out)⟩


/-! ### impl_OrderValid: function 32 -/
/-- The marks of the numbers of a list. -/
def seenA (l : List Int) : Array Value := Array.ofFn (n := 6) fun i => .bool (decide ((i.val : Int) ∈ l))
theorem seenA_get (l : List Int) (i : Nat) (h : i < 6) : (seenA l)[i]? = some (.bool (decide ((i : Int) ∈ l))) := by simp [seenA, h]
theorem seenA_nil : #[Value.bool false, .bool false, .bool false, .bool false, .bool false, .bool false] = seenA [] := rfl
theorem seenA_set (l : List Int) (i : Nat) (h : i < 6) : (seenA l).setIfInBounds i (.bool true) = seenA (l ++ [(i : Int)]) := by
  apply Array.ext
  · simp [seenA]
  · intro j h1 h2
    simp only [seenA, Array.size_setIfInBounds, Array.size_ofFn] at h1 h2
    rw [Array.getElem_setIfInBounds (by simpa [seenA] using h1)]
    simp only [seenA, Array.getElem_ofFn, List.mem_append, List.mem_singleton]
    by_cases e : i = j
    · subst e; simp
    · rw [if_neg e]
      have : ¬ (j : Int) = (i : Int) := by omega
      simp [this]
attribute [irreducible] seenA

def ordOk (l : List Int) (n : Int) : Bool := decide (l.Nodup ∧ ∀ x ∈ l, 0 ≤ x ∧ x < n)
def impl_OrderValid.f (l0 : List Int) (a1 : Int) : Option Bool := some (decide (1 ≤ a1 ∧ a1 ≤ 6 ∧ (l0.length : Int) = a1) && ordOk l0 a1)

theorem rd_get (l : List Int) (k : Nat) (h : k < l.length) : rd l k = l[k] := by simp [rd, h]
theorem ordOk_bad {l : List Int} {n : Int} {k : Nat} (hk : k < l.length) (h : ¬ (0 ≤ rd l k ∧ rd l k < n ∧ rd l k ∉ l.take k)) : ordOk l n = false := by
  refine decide_eq_false fun ⟨h1, h2⟩ => h ?_
  rw [rd_get l k hk]
  refine ⟨(h2 _ (List.getElem_mem hk)).1, (h2 _ (List.getElem_mem hk)).2, fun hm => ?_⟩
  obtain ⟨j, hj, e⟩ := List.mem_take_iff_getElem.1 hm
  exact (List.pairwise_iff_getElem.1 h1) j k (by omega) hk (by omega) e
theorem ordOk_all {l : List Int} {n : Int} (h : ∀ k, k < l.length → 0 ≤ rd l k ∧ rd l k < n ∧ rd l k ∉ l.take k) : ordOk l n = true := by
  refine decide_eq_true ⟨List.pairwise_iff_getElem.2 fun i j hi hj hij e => ?_, fun x hx => ?_⟩
  · apply (h j hj).2.2
    rw [rd_get l j hj]
    exact List.mem_take_iff_getElem.2 ⟨i, by omega, e⟩
  · obtain ⟨k, hk, e⟩ := List.getElem_of_mem hx
    have := h k hk
    rw [rd_get l k hk, e] at this
    exact ⟨this.1, this.2.1⟩

theorem take_snoc_rd (l : List Int) (k : Nat) (h : k < l.length) : l.take (k + 1) = l.take k ++ [rd l k] := by
  rw [List.take_succ_eq_append_getElem h]
  simp [rd, h]
set_option maxHeartbeats 1000000 in
theorem impl_OrderValid.calls (A0 : Option Addr) (c0 : Nat) (l0 : List Int) (a1 : Int) (r : Bool) (w : World) (hr0 : Kd.C (Kd.int .i64) w A0 l0.length l0) (hc0 : l0.length ≤ c0) (h : impl_OrderValid.f l0 a1 = some r) :
    Calls Try.prog 32 #[.slice A0 l0.length c0, .int .i64 a1] w fun e w' => e = .returned (.bool r) ∧ Below w.heap.size w w' := by
  obtain rfl := Option.some.inj h
  clear h
  by_cases h1 : 1 ≤ a1 ∧ a1 ≤ 6
  · by_cases h2 : (l0.length : Int) = a1
    · have H2 : Hid ((l0.length : Int) = a1) := h2
      have e2 : ((l0.length : Int) != a1) = false := bne_eq_false_iff_eq.mpr h2
      have HR : Hid (Kd.C (Kd.int .i64) w A0 l0.length l0) := hr0
      rw [show (decide (1 ≤ a1 ∧ a1 ≤ 6 ∧ (l0.length : Int) = a1) && ordOk l0 a1) = ordOk l0 a1 from by simp [h1, h2]]
      have hl6 : l0.length ≤ 6 := by omega
      obtain ⟨h1a, h1b⟩ := h1
      clear h2 hr0
      have hw : Aside0 (impl_workersFit.f a1 = some true) := ⟨by simp [impl_workersFit.f, h1a, h1b]⟩
      go_enter Try.func32, Try.ntmps32
      go_wp2_with (first | (go_at_call 77; (with_reducible refine (impl_workersFit.calls a1 true _ hw.out).mono ?_); rintro e w' ⟨rfl, ⟨nd, rfl⟩⟩))
      go_loopw [19] (fun i wr => ∃ k : Nat, k ≤ l0.length ∧ i = .int .i64 k ∧ wr.heap.size = w.heap.size + 1 ∧ wr.heap[w.heap.size]? = some (.cells (seenA (l0.take k)) 91 (0, 0)) ∧ Below w.heap.size w wr ∧ Aside0 (∀ j, j < k → 0 ≤ rd l0 j ∧ rd l0 j < a1 ∧ rd l0 j ∉ l0.take j)) (fun i _ => l0.length - (intOf i).toNat)
      case atStart => exact ⟨0, by omega, rfl, by simp, by rw [kk_alloc_new, seenA_nil]; rfl, (pw_below_drewN (Below.refl _ _) _).alloc (by simp) _, ⟨fun j hj => by omega⟩⟩
      case round =>
        obtain ⟨k, hk, rfl, hsz, hb0, hbel, hgood⟩ := hrel
        by_cases hlt : k < l0.length
        · obtain ⟨ad, e, hc⟩ := Kd.at_int HR.out (k : Int) (by omega) (by omega)
          cases e
          have hc' := pw_cell_below hbel hc
          rw [Int.toNat_natCast] at hc'
          clear hc
          by_cases hgk : 0 ≤ rd l0 k ∧ rd l0 k < a1 ∧ rd l0 k ∉ l0.take k
          · obtain ⟨g1, g2, g3⟩ := hgk
            have hgood' := Aside0.mk (fun j (hj : j < k + 1) => (if e : j = k then e ▸ ⟨g1, g2, g3⟩ else hgood.out j (by omega) : 0 ≤ rd l0 j ∧ rd l0 j < a1 ∧ rd l0 j ∉ l0.take j))
            obtain ⟨x, hx⟩ : ∃ x : Nat, rd l0 k = (x : Int) := ⟨(rd l0 k).toNat, by omega⟩
            have hx6 : x < 6 := by omega
            have hset := Aside0.mk (seenA_set (l0.take k) x hx6)
            have htk := Aside0.mk (show l0.take k ++ [(x : Int)] = l0.take (k + 1) from by rw [← hx]; exact (take_snoc_rd l0 k hlt).symm)
            rw [hx] at g1 g2 g3 hc'
            have hs := kk_blk_cell hb0 x
            have hf := kk_blk_frozen hb0 x
            rw [seenA_get _ _ hx6, show decide ((x : Int) ∈ l0.take k) = false from decide_eq_false g3] at hs
            clear g3 hgood hx
            go_wp2
            go_roundw
            case rel => exact ⟨k + 1, by omega, by go_num, by simpa [World.setCell] using hsz, by
              have := kk_blk_set hb0 x (.bool true)
              rw [hset.out, htk.out] at this
              exact this, hbel.setCell (by simp) _, hgood'⟩
            case measure => simp [intOf]; omega
          · have hbad := Aside0.mk (ordOk_bad hlt hgk)
            by_cases hneg : 0 ≤ rd l0 k
            · by_cases hge : rd l0 k < a1
              · obtain ⟨x, hx⟩ : ∃ x : Nat, rd l0 k = (x : Int) := ⟨(rd l0 k).toNat, by omega⟩
                have hx6 : x < 6 := by omega
                have hmem : (x : Int) ∈ l0.take k := by rw [← hx]; exact Classical.byContradiction fun hn => hgk ⟨hneg, hge, hn⟩
                rw [hx] at hneg hge hc'
                have hs := kk_blk_cell hb0 x
                rw [seenA_get _ _ hx6, show decide ((x : Int) ∈ l0.take k) = true from decide_eq_true hmem] at hs
                clear hmem hgk hx
                go_wp2
                go_ret
                exact ⟨by rw [hbad.out]; rfl, hbel⟩
              · go_wp2
                go_ret
                exact ⟨by rw [hbad.out]; rfl, hbel⟩
            · go_wp2
              go_ret
              exact ⟨by rw [hbad.out]; rfl, hbel⟩
        · obtain rfl : k = l0.length := by omega
          clear hk
          go_wp2
          go_ret
          exact ⟨by rw [ordOk_all (fun j hj => hgood.out j hj)]; rfl, hbel⟩
    · have e2 : ((l0.length : Int) != a1) = true := bne_iff_ne.mpr h2
      rw [show (decide (1 ≤ a1 ∧ a1 ≤ 6 ∧ (l0.length : Int) = a1) && ordOk l0 a1) = false from by simp [h2]]
      obtain ⟨h1a, h1b⟩ := h1
      have hw : Aside0 (impl_workersFit.f a1 = some true) := ⟨by simp [impl_workersFit.f, h1a, h1b]⟩
      clear h2 hr0
      go_enter Try.func32, Try.ntmps32
      go_wp2_with (first | (go_at_call 77; (with_reducible refine (impl_workersFit.calls a1 true _ hw.out).mono ?_); rintro e w' ⟨rfl, ⟨nd, rfl⟩⟩))
      go_ret
      exact ⟨rfl, pw_below_drewN (Below.refl _ _) _⟩
  · rw [show (decide (1 ≤ a1 ∧ a1 ≤ 6 ∧ (l0.length : Int) = a1) && ordOk l0 a1) = false from by rw [decide_eq_false (fun h => h1 ⟨h.1, h.2.1⟩)]; rfl]
    have hw : Aside0 (impl_workersFit.f a1 = some false) := ⟨by unfold impl_workersFit.f; split; (· simp; omega); rfl⟩
    clear h1 hr0
    go_enter Try.func32, Try.ntmps32
    go_wp2_with (first | (go_at_call 77; (with_reducible refine (impl_workersFit.calls a1 false _ hw.out).mono ?_); rintro e w' ⟨rfl, ⟨nd, rfl⟩⟩))
    go_ret
    exact ⟨rfl, pw_below_drewN (Below.refl _ _) _⟩

end Go.Proofs.Ytloiafnoekpaoaa.PFnTurnOrder
