/- Laid by a program of this session out of the translation: functions, their contracts, the row. Lean checks it. -/
import Derived.Test.YtloiafnoekpaoaaPFnExactStampMessagesx0
import Derived.Test.YtloiafnoekpaoaaPFnExactStampMessagesx1
import Derived.Test.YtloiafnoekpaoaaPFnExactStampMessagesx2
namespace Go.Proofs.Ytloiafnoekpaoaa.PFnExactStampMessages
open Go.RowKit Go.Proofs.YtloiafnoekpaoaaW.PrintWords Go.Proofs.YtloiafnoekpaoaaW.PrintLast Go.Proofs.YtloiafnoekpaoaaW.PrintMore
attribute [local go_sem] max2_int min2_int max_two min_two max_three min_three max_four min_four   -- for this text's walks alone
set_option linter.unusedVariables false
set_option linter.unusedSimpArgs false

/-! ### laws_heldLetterS: function 54 -/
def laws_heldLetterS.l0 : Nat → List (S29) → Int → Int → Option (Int)
  | 0, _, _, _ => none
  | k + 1, x0, x1, x5 => if x5 < (x0.length : Int) then (if 0 ≤ x5 then (if ((rd_T29 x0 x5).f0) = x1 then (if ((rd_T29 x0 x5).f1.f0) = (wrap64 (x1 + 1)) then (if ((rd_T29 x0 x5).f1.f1) = (wrap64 ((wrap64 (x1 + 1)) + 1)) then (if ((rd_T29 x0 x5).f1.f2) = (wrap64 ((wrap64 ((wrap64 (x1 + 1)) + 1)) + 1)) then (laws_heldLetterS.l0 k x0 (wrap64 ((wrap64 ((wrap64 ((wrap64 (x1 + 1)) + 1)) + 1)) + 1)) (wrap64 (x5 + 1))) else (some (-1))) else (some (-1))) else (some (-1))) else (some (-1))) else (none)) else (some x1)
def laws_heldLetterS.f (k : Nat) (l0 : List (S29)) (a1 : Int) : Option (Int) := laws_heldLetterS.l0 k l0 a1 0
theorem laws_heldLetterS.mono_l : ∀ k, (∀ y0 y1 y2, LeO (laws_heldLetterS.l0 k y0 y1 y2) (laws_heldLetterS.l0 (k + 1) y0 y1 y2))
  | 0 => fun _ _ _ r h => by simp [laws_heldLetterS.l0] at h
  | k + 1 => by
    have ih0 := laws_heldLetterS.mono_l k
    · intro y0 y1 y2
      unfold laws_heldLetterS.l0
      repeat' first
      | (with_reducible exact ih0 _ _ _)
      | (with_reducible exact LeO.refl _)
      | (with_reducible exact LeO.none _)
      | (with_reducible refine LeO.ite ?_ ?_)
      | (with_reducible refine LeO.bind ?_ (fun _ => ?_))
      | exact ih0 _ _ _
      | exact LeO.none _
      | refine LeO.ite ?_ ?_
      | refine LeO.bind ?_ (fun _ => ?_)
theorem laws_heldLetterS.mono : ∀ a0 a1 k, LeO (laws_heldLetterS.f k a0 a1) (laws_heldLetterS.f (k + 1) a0 a1) := by
  intro a0 a1 k
  have ih0 := laws_heldLetterS.mono_l k
  unfold laws_heldLetterS.f
  repeat' first
      | (with_reducible exact ih0 _ _ _)
      | (with_reducible exact LeO.refl _)
      | (with_reducible exact LeO.none _)
      | (with_reducible refine LeO.ite ?_ ?_)
      | (with_reducible refine LeO.bind ?_ (fun _ => ?_))
      | exact ih0 _ _ _
      | exact LeO.none _
      | refine LeO.ite ?_ ?_
      | refine LeO.bind ?_ (fun _ => ?_)
set_option maxHeartbeats 8000000 in
set_option maxRecDepth 100000 in
theorem laws_heldLetterS.calls (k : Nat) (A0 : Option Addr) (c0 : Nat) (l0 : List (S29)) (a1 : Int) (r : Int) (w : World) (hr0 : Kd.C k29 w A0 l0.length l0) (hc0 : l0.length ≤ c0) (h : laws_heldLetterS.f k l0 a1 = some r) :
    Calls Try.prog 54 #[.slice A0 l0.length c0, .int .i64 a1] w fun e w' => e = .returned (.int .i64 r) ∧ Drawn0 w w' := by
  have HR0 := Aside0.mk hr0
  have HC0 := Aside0.mk hc0
  clear hr0 hc0
  have H : (laws_heldLetterS.l0 k l0 a1 0) = some r := h
  clear h
  have H' := Aside0.mk H
  clear H
  go_enter Try.func54, Try.ntmps54
  go_wp2
  go_loopg [1, 5] k (fun kq v1 v5 w' => ∃ (x1_1 : Int) (x5_1 : Int), v1 = .int .i64 x1_1 ∧ v5 = .int .i64 x5_1 ∧ Aside0 (laws_heldLetterS.l0 kq l0 x1_1 x5_1 = some r) ∧ Aside0 (kq ≤ k) ∧ Drawn0 w w')
  case atStart => exact ⟨(a1), (0), (by first | rfl | (simp; done) | (simp [*]; done)), (by first | rfl | (simp; done) | (simp [*]; done)), H', ⟨Nat.le_refl _⟩, by repeat (first | exact Drawn0.refl _ | apply Drawn0.step)⟩
  case round =>
    clear H'
    try clear p2
    obtain ⟨x1_1, x5_1, rfl, rfl, HA, HK1, ⟨m1, rfl⟩⟩ := hrel
    cases gk with
    | zero => exact absurd HA.out (by simp [laws_heldLetterS.l0])
    | succ k1 =>
      have H := HA.out
      clear HA
      simp only [laws_heldLetterS.l0] at H
      by_cases c3 : x5_1 < (l0.length : Int)
      · rw [if_pos c3] at H
        have c3b0 : decide (x5_1 < (l0.length : Int)) = true := decide_eq_true c3
        clear c3
        by_cases c4 : 0 ≤ x5_1
        · rw [if_pos c4] at H
          have c4b0 : decide (0 ≤ x5_1) = true := decide_eq_true c4
          clear c4
          by_cases c5 : ((rd_T29 l0 x5_1).f0) = x1_1
          · rw [if_pos c5] at H
            have c5b0 : (((rd_T29 l0 x5_1).f0) == x1_1) = true := beq_iff_eq.mpr c5
            have c5b1 : (((rd_T29 l0 x5_1).f0) != x1_1) = false := bne_eq_false_iff_eq.mpr c5
            clear c5
            by_cases c6 : ((rd_T29 l0 x5_1).f1.f0) = (wrap64 (x1_1 + 1))
            · rw [if_pos c6] at H
              have c6b0 : (((rd_T29 l0 x5_1).f1.f0) == (wrap64 (x1_1 + 1))) = true := beq_iff_eq.mpr c6
              have c6b1 : (((rd_T29 l0 x5_1).f1.f0) != (wrap64 (x1_1 + 1))) = false := bne_eq_false_iff_eq.mpr c6
              clear c6
              by_cases c7 : ((rd_T29 l0 x5_1).f1.f1) = (wrap64 ((wrap64 (x1_1 + 1)) + 1))
              · rw [if_pos c7] at H
                have c7b0 : (((rd_T29 l0 x5_1).f1.f1) == (wrap64 ((wrap64 (x1_1 + 1)) + 1))) = true := beq_iff_eq.mpr c7
                have c7b1 : (((rd_T29 l0 x5_1).f1.f1) != (wrap64 ((wrap64 (x1_1 + 1)) + 1))) = false := bne_eq_false_iff_eq.mpr c7
                clear c7
                by_cases c8 : ((rd_T29 l0 x5_1).f1.f2) = (wrap64 ((wrap64 ((wrap64 (x1_1 + 1)) + 1)) + 1))
                · rw [if_pos c8] at H
                  have c8b0 : (((rd_T29 l0 x5_1).f1.f2) == (wrap64 ((wrap64 ((wrap64 (x1_1 + 1)) + 1)) + 1))) = true := beq_iff_eq.mpr c8
                  have c8b1 : (((rd_T29 l0 x5_1).f1.f2) != (wrap64 ((wrap64 ((wrap64 (x1_1 + 1)) + 1)) + 1))) = false := bne_eq_false_iff_eq.mpr c8
                  clear c8
                  have H' := Aside0.mk H
                  clear H
                  have p147 : 0 ≤ (x5_1 : Int) := of_decide_eq_true (by first | (with_reducible assumption) | assumption)
                  have q147 : x5_1 < (l0.length : Int) := of_decide_eq_true (by first | (with_reducible assumption) | assumption)
                  obtain ⟨ad147, e147, hx147_0, hx147_1, hx147_2, hx147_3⟩ := at_T29 HR0.out x5_1 p147 q147
                  cases e147
                  replace p147 := eq_true p147
                  replace q147 := eq_true q147
                  have p148 : 0 ≤ (x5_1 : Int) := of_decide_eq_true (by first | (with_reducible assumption) | assumption)
                  have q148 : x5_1 < (l0.length : Int) := of_decide_eq_true (by first | (with_reducible assumption) | assumption)
                  obtain ⟨ad148, e148, hx148_0, hx148_1, hx148_2, hx148_3⟩ := at_T29 HR0.out x5_1 p148 q148
                  obtain rfl : ad147 = ad148 := (by injection e148)
                  replace p148 := eq_true p148
                  replace q148 := eq_true q148
                  have p149 : 0 ≤ (x5_1 : Int) := of_decide_eq_true (by first | (with_reducible assumption) | assumption)
                  have q149 : x5_1 < (l0.length : Int) := of_decide_eq_true (by first | (with_reducible assumption) | assumption)
                  obtain ⟨ad149, e149, hx149_0, hx149_1, hx149_2, hx149_3⟩ := at_T29 HR0.out x5_1 p149 q149
                  obtain rfl : ad147 = ad149 := (by injection e149)
                  replace p149 := eq_true p149
                  replace q149 := eq_true q149
                  have p150 : 0 ≤ (x5_1 : Int) := of_decide_eq_true (by first | (with_reducible assumption) | assumption)
                  have q150 : x5_1 < (l0.length : Int) := of_decide_eq_true (by first | (with_reducible assumption) | assumption)
                  obtain ⟨ad150, e150, hx150_0, hx150_1, hx150_2, hx150_3⟩ := at_T29 HR0.out x5_1 p150 q150
                  obtain rfl : ad147 = ad150 := (by injection e150)
                  replace p150 := eq_true p150
                  replace q150 := eq_true q150
                  go_wp2
                  go_roundg k1
                  case measure => have := HK1.out; omega
                  case rel => exact ⟨(wrap64 ((wrap64 ((wrap64 ((wrap64 (x1_1 + 1)) + 1)) + 1)) + 1)), (wrap64 (x5_1 + 1)), (by first | rfl | (simp; done) | (simp [*]; done)), (by first | rfl | (simp; done) | (simp [*]; done)), H', ⟨by have := HK1.out; omega⟩, by repeat (first | exact Drawn0.refl _ | apply Drawn0.step)⟩
                · rw [if_neg c8] at H
                  have c8b0 : (((rd_T29 l0 x5_1).f1.f2) == (wrap64 ((wrap64 ((wrap64 (x1_1 + 1)) + 1)) + 1))) = false := beq_eq_false_iff_ne.mpr c8
                  have c8b1 : (((rd_T29 l0 x5_1).f1.f2) != (wrap64 ((wrap64 ((wrap64 (x1_1 + 1)) + 1)) + 1))) = true := bne_iff_ne.mpr c8
                  obtain rfl := Option.some.inj H
                  have p147 : 0 ≤ (x5_1 : Int) := of_decide_eq_true (by first | (with_reducible assumption) | assumption)
                  have q147 : x5_1 < (l0.length : Int) := of_decide_eq_true (by first | (with_reducible assumption) | assumption)
                  obtain ⟨ad147, e147, hx147_0, hx147_1, hx147_2, hx147_3⟩ := at_T29 HR0.out x5_1 p147 q147
                  cases e147
                  replace p147 := eq_true p147
                  replace q147 := eq_true q147
                  have p148 : 0 ≤ (x5_1 : Int) := of_decide_eq_true (by first | (with_reducible assumption) | assumption)
                  have q148 : x5_1 < (l0.length : Int) := of_decide_eq_true (by first | (with_reducible assumption) | assumption)
                  obtain ⟨ad148, e148, hx148_0, hx148_1, hx148_2, hx148_3⟩ := at_T29 HR0.out x5_1 p148 q148
                  obtain rfl : ad147 = ad148 := (by injection e148)
                  replace p148 := eq_true p148
                  replace q148 := eq_true q148
                  have p149 : 0 ≤ (x5_1 : Int) := of_decide_eq_true (by first | (with_reducible assumption) | assumption)
                  have q149 : x5_1 < (l0.length : Int) := of_decide_eq_true (by first | (with_reducible assumption) | assumption)
                  obtain ⟨ad149, e149, hx149_0, hx149_1, hx149_2, hx149_3⟩ := at_T29 HR0.out x5_1 p149 q149
                  obtain rfl : ad147 = ad149 := (by injection e149)
                  replace p149 := eq_true p149
                  replace q149 := eq_true q149
                  have p150 : 0 ≤ (x5_1 : Int) := of_decide_eq_true (by first | (with_reducible assumption) | assumption)
                  have q150 : x5_1 < (l0.length : Int) := of_decide_eq_true (by first | (with_reducible assumption) | assumption)
                  obtain ⟨ad150, e150, hx150_0, hx150_1, hx150_2, hx150_3⟩ := at_T29 HR0.out x5_1 p150 q150
                  obtain rfl : ad147 = ad150 := (by injection e150)
                  replace p150 := eq_true p150
                  replace q150 := eq_true q150
                  go_wp2
                  go_ret
                  exact ⟨by first | rfl | (simp; done) | (simp [*]; done), by repeat (first | exact Drawn0.refl _ | apply Drawn0.step)⟩
              · rw [if_neg c7] at H
                have c7b0 : (((rd_T29 l0 x5_1).f1.f1) == (wrap64 ((wrap64 (x1_1 + 1)) + 1))) = false := beq_eq_false_iff_ne.mpr c7
                have c7b1 : (((rd_T29 l0 x5_1).f1.f1) != (wrap64 ((wrap64 (x1_1 + 1)) + 1))) = true := bne_iff_ne.mpr c7
                obtain rfl := Option.some.inj H
                have p147 : 0 ≤ (x5_1 : Int) := of_decide_eq_true (by first | (with_reducible assumption) | assumption)
                have q147 : x5_1 < (l0.length : Int) := of_decide_eq_true (by first | (with_reducible assumption) | assumption)
                obtain ⟨ad147, e147, hx147_0, hx147_1, hx147_2, hx147_3⟩ := at_T29 HR0.out x5_1 p147 q147
                cases e147
                replace p147 := eq_true p147
                replace q147 := eq_true q147
                have p148 : 0 ≤ (x5_1 : Int) := of_decide_eq_true (by first | (with_reducible assumption) | assumption)
                have q148 : x5_1 < (l0.length : Int) := of_decide_eq_true (by first | (with_reducible assumption) | assumption)
                obtain ⟨ad148, e148, hx148_0, hx148_1, hx148_2, hx148_3⟩ := at_T29 HR0.out x5_1 p148 q148
                obtain rfl : ad147 = ad148 := (by injection e148)
                replace p148 := eq_true p148
                replace q148 := eq_true q148
                have p149 : 0 ≤ (x5_1 : Int) := of_decide_eq_true (by first | (with_reducible assumption) | assumption)
                have q149 : x5_1 < (l0.length : Int) := of_decide_eq_true (by first | (with_reducible assumption) | assumption)
                obtain ⟨ad149, e149, hx149_0, hx149_1, hx149_2, hx149_3⟩ := at_T29 HR0.out x5_1 p149 q149
                obtain rfl : ad147 = ad149 := (by injection e149)
                replace p149 := eq_true p149
                replace q149 := eq_true q149
                go_wp2
                go_ret
                exact ⟨by first | rfl | (simp; done) | (simp [*]; done), by repeat (first | exact Drawn0.refl _ | apply Drawn0.step)⟩
            · rw [if_neg c6] at H
              have c6b0 : (((rd_T29 l0 x5_1).f1.f0) == (wrap64 (x1_1 + 1))) = false := beq_eq_false_iff_ne.mpr c6
              have c6b1 : (((rd_T29 l0 x5_1).f1.f0) != (wrap64 (x1_1 + 1))) = true := bne_iff_ne.mpr c6
              obtain rfl := Option.some.inj H
              have p147 : 0 ≤ (x5_1 : Int) := of_decide_eq_true (by first | (with_reducible assumption) | assumption)
              have q147 : x5_1 < (l0.length : Int) := of_decide_eq_true (by first | (with_reducible assumption) | assumption)
              obtain ⟨ad147, e147, hx147_0, hx147_1, hx147_2, hx147_3⟩ := at_T29 HR0.out x5_1 p147 q147
              cases e147
              replace p147 := eq_true p147
              replace q147 := eq_true q147
              have p148 : 0 ≤ (x5_1 : Int) := of_decide_eq_true (by first | (with_reducible assumption) | assumption)
              have q148 : x5_1 < (l0.length : Int) := of_decide_eq_true (by first | (with_reducible assumption) | assumption)
              obtain ⟨ad148, e148, hx148_0, hx148_1, hx148_2, hx148_3⟩ := at_T29 HR0.out x5_1 p148 q148
              obtain rfl : ad147 = ad148 := (by injection e148)
              replace p148 := eq_true p148
              replace q148 := eq_true q148
              go_wp2
              go_ret
              exact ⟨by first | rfl | (simp; done) | (simp [*]; done), by repeat (first | exact Drawn0.refl _ | apply Drawn0.step)⟩
          · rw [if_neg c5] at H
            have c5b0 : (((rd_T29 l0 x5_1).f0) == x1_1) = false := beq_eq_false_iff_ne.mpr c5
            have c5b1 : (((rd_T29 l0 x5_1).f0) != x1_1) = true := bne_iff_ne.mpr c5
            obtain rfl := Option.some.inj H
            have p147 : 0 ≤ (x5_1 : Int) := of_decide_eq_true (by first | (with_reducible assumption) | assumption)
            have q147 : x5_1 < (l0.length : Int) := of_decide_eq_true (by first | (with_reducible assumption) | assumption)
            obtain ⟨ad147, e147, hx147_0, hx147_1, hx147_2, hx147_3⟩ := at_T29 HR0.out x5_1 p147 q147
            cases e147
            replace p147 := eq_true p147
            replace q147 := eq_true q147
            go_wp2
            go_ret
            exact ⟨by first | rfl | (simp; done) | (simp [*]; done), by repeat (first | exact Drawn0.refl _ | apply Drawn0.step)⟩
        · rw [if_neg c4] at H
          exact absurd H (by simp)
      · rw [if_neg c3] at H
        have c3b0 : decide (x5_1 < (l0.length : Int)) = false := decide_eq_false c3
        clear c3
        obtain rfl := Option.some.inj H
        go_wp2
        go_ret
        exact ⟨by first | rfl | (simp; done) | (simp [*]; done), by repeat (first | exact Drawn0.refl _ | apply Drawn0.step)⟩

/-! ### laws_FnExactStampMessages: function 11 -/
def laws_FnExactStampMessages.j0 : Nat → List (S97) → Int → List (S29) → List (S29) → Bool → Option (Bool)
  | 0, _, _, _, _, _ => none
  | k + 1, x0, x1, x6, x8, x46 => if x46 = true then (none) else ((laws_markLetterS.f k x8 1).bind fun bt172 => ((laws_heldLetterS.f k bt172.2 1).bind fun t174 => (if t174 < 0 then (none) else (if t174 = bt172.1 then ((laws_toMessageS.f k x0).bind fun t175 => ((impl_StampMessages.f k t175 x1).bind fun t178 => ((laws_eqLetterS.f k t178 x6).bind fun t181 => (if t181 = true then ((laws_heldLetterS.f k bt172.2 1).bind fun t182 => (if t182 < 0 then (none) else (if t182 = bt172.1 then (some true) else (none)))) else (none))))) else (none)))))
def laws_FnExactStampMessages.f (k : Nat) (l0 : List (S97)) (a1 : Int) : Option (Bool) := (laws_szMessageS.f l0 1048576).bind fun t151 => (if t151 < 0 then (some true) else ((laws_toMessageS.f k l0).bind fun t152 => ((spec_StampMessages.f k t152 a1).bind fun t155 => ((laws_toMessageS.f k l0).bind fun t158 => ((impl_StampMessages.f k t158 a1).bind fun t161 => ((laws_eqLetterS.f k t161 t155).bind fun t164 => (if t164 = true then ((laws_toMessageS.f k l0).bind fun t165 => ((laws_eqMessageS.f k t158 t165).bind fun t168 => (if t168 = true then ((laws_markMessageS.f k t158 1).bind fun bt169 => (if bt169.1 < 0 then (laws_FnExactStampMessages.j0 k l0 a1 t155 t161 true) else ((laws_eqLetterS.f k t161 t155).bind fun t171 => (laws_FnExactStampMessages.j0 k l0 a1 t155 t161 (!t171))))) else (none)))) else (none))))))))
theorem laws_FnExactStampMessages.mono_l : ∀ k, (∀ y0 y1 y2 y3 y4, LeO (laws_FnExactStampMessages.j0 k y0 y1 y2 y3 y4) (laws_FnExactStampMessages.j0 (k + 1) y0 y1 y2 y3 y4))
  | 0 => fun _ _ _ _ _ r h => by simp [laws_FnExactStampMessages.j0] at h
  | k + 1 => by
    have ih0 := laws_FnExactStampMessages.mono_l k
    · intro y0 y1 y2 y3 y4
      unfold laws_FnExactStampMessages.j0
      repeat' first
      | (with_reducible exact ih0 _ _ _ _ _)
      | (with_reducible exact impl_StampMessages.mono _ _ _)
      | (with_reducible exact laws_eqLetterS.mono _ _ _)
      | (with_reducible exact laws_eqMessageS.mono _ _ _)
      | (with_reducible exact laws_heldLetterS.mono _ _ _)
      | (with_reducible exact laws_markLetterS.mono _ _ _)
      | (with_reducible exact laws_markMessageS.mono _ _ _)
      | (with_reducible exact laws_toMessageS.mono _ _)
      | (with_reducible exact spec_StampMessages.mono _ _ _)
      | (with_reducible exact LeO.refl _)
      | (with_reducible exact LeO.none _)
      | (with_reducible refine LeO.ite ?_ ?_)
      | (with_reducible refine LeO.bind ?_ (fun _ => ?_))
      | exact ih0 _ _ _ _ _
      | exact impl_StampMessages.mono _ _ _
      | exact laws_eqLetterS.mono _ _ _
      | exact laws_eqMessageS.mono _ _ _
      | exact laws_heldLetterS.mono _ _ _
      | exact laws_markLetterS.mono _ _ _
      | exact laws_markMessageS.mono _ _ _
      | exact laws_toMessageS.mono _ _
      | exact spec_StampMessages.mono _ _ _
      | exact LeO.none _
      | refine LeO.ite ?_ ?_
      | refine LeO.bind ?_ (fun _ => ?_)
theorem laws_FnExactStampMessages.mono : ∀ a0 a1 k, LeO (laws_FnExactStampMessages.f k a0 a1) (laws_FnExactStampMessages.f (k + 1) a0 a1) := by
  intro a0 a1 k
  have ih0 := laws_FnExactStampMessages.mono_l k
  unfold laws_FnExactStampMessages.f
  repeat' first
      | (with_reducible exact ih0 _ _ _ _ _)
      | (with_reducible exact impl_StampMessages.mono _ _ _)
      | (with_reducible exact laws_eqLetterS.mono _ _ _)
      | (with_reducible exact laws_eqMessageS.mono _ _ _)
      | (with_reducible exact laws_heldLetterS.mono _ _ _)
      | (with_reducible exact laws_markLetterS.mono _ _ _)
      | (with_reducible exact laws_markMessageS.mono _ _ _)
      | (with_reducible exact laws_toMessageS.mono _ _)
      | (with_reducible exact spec_StampMessages.mono _ _ _)
      | (with_reducible exact LeO.refl _)
      | (with_reducible exact LeO.none _)
      | (with_reducible refine LeO.ite ?_ ?_)
      | (with_reducible refine LeO.bind ?_ (fun _ => ?_))
      | exact ih0 _ _ _ _ _
      | exact impl_StampMessages.mono _ _ _
      | exact laws_eqLetterS.mono _ _ _
      | exact laws_eqMessageS.mono _ _ _
      | exact laws_heldLetterS.mono _ _ _
      | exact laws_markLetterS.mono _ _ _
      | exact laws_markMessageS.mono _ _ _
      | exact laws_toMessageS.mono _ _
      | exact spec_StampMessages.mono _ _ _
      | exact LeO.none _
      | refine LeO.ite ?_ ?_
      | refine LeO.bind ?_ (fun _ => ?_)
set_option maxHeartbeats 8000000 in
set_option maxRecDepth 100000 in
theorem laws_FnExactStampMessages.calls (k : Nat) (A0 : Option Addr) (c0 : Nat) (l0 : List (S97)) (a1 : Int) (r : Bool) (w : World) (hr0 : Kd.C k97 w A0 l0.length l0) (hc0 : l0.length ≤ c0) (h : laws_FnExactStampMessages.f k l0 a1 = some r) :
    Calls Try.prog 11 #[.slice A0 l0.length c0, .int .i64 a1] w fun e w' => e = .returned (.bool r) ∧ Below w.heap.size w w' := by
  have HR0 := Aside0.mk hr0
  have HC0 := Aside0.mk hc0
  clear hr0 hc0
  have HB := Aside0.mk (Below.refl w.heap.size w)
  have H : ((laws_szMessageS.f l0 1048576).bind fun t151 => (if t151 < 0 then (some true) else ((laws_toMessageS.f k l0).bind fun t152 => ((spec_StampMessages.f k t152 a1).bind fun t155 => ((laws_toMessageS.f k l0).bind fun t158 => ((impl_StampMessages.f k t158 a1).bind fun t161 => ((laws_eqLetterS.f k t161 t155).bind fun t164 => (if t164 = true then ((laws_toMessageS.f k l0).bind fun t165 => ((laws_eqMessageS.f k t158 t165).bind fun t168 => (if t168 = true then ((laws_markMessageS.f k t158 1).bind fun bt169 => (if bt169.1 < 0 then (laws_FnExactStampMessages.j0 k l0 a1 t155 t161 true) else ((laws_eqLetterS.f k t161 t155).bind fun t171 => (laws_FnExactStampMessages.j0 k l0 a1 t155 t161 (!t171))))) else (none)))) else (none))))))))) = some r := h
  clear h
  replace H := Option.bind_eq_some_iff.mp H
  obtain ⟨t151, A30, H⟩ := H
  replace H : (if t151 < 0 then (some true) else ((laws_toMessageS.f k l0).bind fun t152 => ((spec_StampMessages.f k t152 a1).bind fun t155 => ((laws_toMessageS.f k l0).bind fun t158 => ((impl_StampMessages.f k t158 a1).bind fun t161 => ((laws_eqLetterS.f k t161 t155).bind fun t164 => (if t164 = true then ((laws_toMessageS.f k l0).bind fun t165 => ((laws_eqMessageS.f k t158 t165).bind fun t168 => (if t168 = true then ((laws_markMessageS.f k t158 1).bind fun bt169 => (if bt169.1 < 0 then (laws_FnExactStampMessages.j0 k l0 a1 t155 t161 true) else ((laws_eqLetterS.f k t161 t155).bind fun t171 => (laws_FnExactStampMessages.j0 k l0 a1 t155 t161 (!t171))))) else (none)))) else (none)))))))) = some r := H
  have A3 := Aside0.mk A30
  clear A30
  by_cases c4 : t151 < 0
  · rw [if_pos c4] at H
    have c4b0 : decide (t151 < 0) = true := decide_eq_true c4
    clear c4
    obtain rfl := Option.some.inj H
    go_enter Try.func11, Try.ntmps11
    go_wp2_with (first | ((with_reducible refine gate_callee (f := 47) rfl ?_); refine goesL_ (some 15) rfl rfl Try.func47 (by kernel_rfl) rfl #[.slice A0 l0.length c0, .int .i64 1048576] rfl (by (try simp only [List.map_toArray, List.map_cons, List.map_nil]); first | done | rfl | (simp only [List.length_drop, List.length_take]; rfl)) ?_; (with_reducible refine (laws_szMessageS.calls _ _ l0 1048576 t151 _ ?side1 ?side2 A3.out).mono ?_); (case side1 => repeat (first | exact HR0.out | (with_reducible refine Kd.C_alloc ?_ _) | (with_reducible refine Kd.C_drewN ?_ _) | (with_reducible refine Kd.C_drew ?_))); (case side2 => exact HC0.out); rintro e w' ⟨rfl, ⟨nd, rfl⟩⟩; refine ⟨_, rfl, ?_⟩))
    go_ret
    exact ⟨by first | rfl | (simp [errW_none, errW_some] <;> rfl) | (simp [*, errW_none, errW_some] <;> rfl), by repeat (first | (with_reducible first | exact HB.out | apply below_alloc | apply pw_below_drewN | apply below_drew1) | exact HB.out)⟩
  · rw [if_neg c4] at H
    have c4b0 : decide (t151 < 0) = false := decide_eq_false c4
    clear c4
    replace H := Option.bind_eq_some_iff.mp H
    obtain ⟨t152, A50, H⟩ := H
    replace H : ((spec_StampMessages.f k t152 a1).bind fun t155 => ((laws_toMessageS.f k l0).bind fun t158 => ((impl_StampMessages.f k t158 a1).bind fun t161 => ((laws_eqLetterS.f k t161 t155).bind fun t164 => (if t164 = true then ((laws_toMessageS.f k l0).bind fun t165 => ((laws_eqMessageS.f k t158 t165).bind fun t168 => (if t168 = true then ((laws_markMessageS.f k t158 1).bind fun bt169 => (if bt169.1 < 0 then (laws_FnExactStampMessages.j0 k l0 a1 t155 t161 true) else ((laws_eqLetterS.f k t161 t155).bind fun t171 => (laws_FnExactStampMessages.j0 k l0 a1 t155 t161 (!t171))))) else (none)))) else (none)))))) = some r := H
    have A5 := Aside0.mk A50
    clear A50
    replace H := Option.bind_eq_some_iff.mp H
    obtain ⟨t155, A60, H⟩ := H
    replace H : ((laws_toMessageS.f k l0).bind fun t158 => ((impl_StampMessages.f k t158 a1).bind fun t161 => ((laws_eqLetterS.f k t161 t155).bind fun t164 => (if t164 = true then ((laws_toMessageS.f k l0).bind fun t165 => ((laws_eqMessageS.f k t158 t165).bind fun t168 => (if t168 = true then ((laws_markMessageS.f k t158 1).bind fun bt169 => (if bt169.1 < 0 then (laws_FnExactStampMessages.j0 k l0 a1 t155 t161 true) else ((laws_eqLetterS.f k t161 t155).bind fun t171 => (laws_FnExactStampMessages.j0 k l0 a1 t155 t161 (!t171))))) else (none)))) else (none))))) = some r := H
    have A6 := Aside0.mk A60
    clear A60
    replace H := Option.bind_eq_some_iff.mp H
    obtain ⟨t158, A70, H⟩ := H
    replace H : ((impl_StampMessages.f k t158 a1).bind fun t161 => ((laws_eqLetterS.f k t161 t155).bind fun t164 => (if t164 = true then ((laws_toMessageS.f k l0).bind fun t165 => ((laws_eqMessageS.f k t158 t165).bind fun t168 => (if t168 = true then ((laws_markMessageS.f k t158 1).bind fun bt169 => (if bt169.1 < 0 then (laws_FnExactStampMessages.j0 k l0 a1 t155 t161 true) else ((laws_eqLetterS.f k t161 t155).bind fun t171 => (laws_FnExactStampMessages.j0 k l0 a1 t155 t161 (!t171))))) else (none)))) else (none)))) = some r := H
    have A7 := Aside0.mk A70
    clear A70
    replace H := Option.bind_eq_some_iff.mp H
    obtain ⟨t161, A80, H⟩ := H
    replace H : ((laws_eqLetterS.f k t161 t155).bind fun t164 => (if t164 = true then ((laws_toMessageS.f k l0).bind fun t165 => ((laws_eqMessageS.f k t158 t165).bind fun t168 => (if t168 = true then ((laws_markMessageS.f k t158 1).bind fun bt169 => (if bt169.1 < 0 then (laws_FnExactStampMessages.j0 k l0 a1 t155 t161 true) else ((laws_eqLetterS.f k t161 t155).bind fun t171 => (laws_FnExactStampMessages.j0 k l0 a1 t155 t161 (!t171))))) else (none)))) else (none))) = some r := H
    have A8 := Aside0.mk A80
    clear A80
    replace H := Option.bind_eq_some_iff.mp H
    obtain ⟨t164, A90, H⟩ := H
    replace H : (if t164 = true then ((laws_toMessageS.f k l0).bind fun t165 => ((laws_eqMessageS.f k t158 t165).bind fun t168 => (if t168 = true then ((laws_markMessageS.f k t158 1).bind fun bt169 => (if bt169.1 < 0 then (laws_FnExactStampMessages.j0 k l0 a1 t155 t161 true) else ((laws_eqLetterS.f k t161 t155).bind fun t171 => (laws_FnExactStampMessages.j0 k l0 a1 t155 t161 (!t171))))) else (none)))) else (none)) = some r := H
    have A9 := Aside0.mk A90
    clear A90
    by_cases c10 : t164 = true
    · subst c10
      have H1 : ((laws_toMessageS.f k l0).bind fun t165 => ((laws_eqMessageS.f k t158 t165).bind fun t168 => (if t168 = true then ((laws_markMessageS.f k t158 1).bind fun bt169 => (if bt169.1 < 0 then (laws_FnExactStampMessages.j0 k l0 a1 t155 t161 true) else ((laws_eqLetterS.f k t161 t155).bind fun t171 => (laws_FnExactStampMessages.j0 k l0 a1 t155 t161 (!t171))))) else (none)))) = some r := by rw [if_pos rfl] at H; exact H
      clear H
      have H := H1
      clear H1
      replace H := Option.bind_eq_some_iff.mp H
      obtain ⟨t165, A110, H⟩ := H
      replace H : ((laws_eqMessageS.f k t158 t165).bind fun t168 => (if t168 = true then ((laws_markMessageS.f k t158 1).bind fun bt169 => (if bt169.1 < 0 then (laws_FnExactStampMessages.j0 k l0 a1 t155 t161 true) else ((laws_eqLetterS.f k t161 t155).bind fun t171 => (laws_FnExactStampMessages.j0 k l0 a1 t155 t161 (!t171))))) else (none))) = some r := H
      have A11 := Aside0.mk A110
      clear A110
      replace H := Option.bind_eq_some_iff.mp H
      obtain ⟨t168, A120, H⟩ := H
      replace H : (if t168 = true then ((laws_markMessageS.f k t158 1).bind fun bt169 => (if bt169.1 < 0 then (laws_FnExactStampMessages.j0 k l0 a1 t155 t161 true) else ((laws_eqLetterS.f k t161 t155).bind fun t171 => (laws_FnExactStampMessages.j0 k l0 a1 t155 t161 (!t171))))) else (none)) = some r := H
      have A12 := Aside0.mk A120
      clear A120
      by_cases c13 : t168 = true
      · subst c13
        have H1 : ((laws_markMessageS.f k t158 1).bind fun bt169 => (if bt169.1 < 0 then (laws_FnExactStampMessages.j0 k l0 a1 t155 t161 true) else ((laws_eqLetterS.f k t161 t155).bind fun t171 => (laws_FnExactStampMessages.j0 k l0 a1 t155 t161 (!t171))))) = some r := by rw [if_pos rfl] at H; exact H
        clear H
        have H := H1
        clear H1
        replace H := Option.bind_eq_some_iff.mp H
        obtain ⟨⟨t169, t170⟩, A140, H⟩ := H
        replace H : (if t169 < 0 then (laws_FnExactStampMessages.j0 k l0 a1 t155 t161 true) else ((laws_eqLetterS.f k t161 t155).bind fun t171 => (laws_FnExactStampMessages.j0 k l0 a1 t155 t161 (!t171)))) = some r := H
        have A14 := Aside0.mk A140
        clear A140
        have HC15 := Aside0.mk H
        clear H
        go_enter Try.func11, Try.ntmps11
        go_upto_region 14 with (first | ((with_reducible refine gate_callee (f := 47) rfl ?_); refine goesL_ (some 15) rfl rfl Try.func47 (by kernel_rfl) rfl #[.slice A0 l0.length c0, .int .i64 1048576] rfl (by (try simp only [List.map_toArray, List.map_cons, List.map_nil]); first | done | rfl | (simp only [List.length_drop, List.length_take]; rfl)) ?_; (with_reducible refine (laws_szMessageS.calls _ _ l0 1048576 t151 _ ?side1 ?side2 A3.out).mono ?_); (case side1 => repeat (first | exact HR0.out | (with_reducible refine Kd.C_alloc ?_ _) | (with_reducible refine Kd.C_drewN ?_ _) | (with_reducible refine Kd.C_drew ?_))); (case side2 => exact HC0.out); rintro e w' ⟨rfl, ⟨nd, rfl⟩⟩; refine ⟨_, rfl, ?_⟩) | ((with_reducible refine gate_callee (f := 49) rfl ?_); refine goesL_ (some 19) rfl rfl Try.func49 (by kernel_rfl) rfl #[.slice A0 l0.length c0] rfl (by (try simp only [List.map_toArray, List.map_cons, List.map_nil]); first | done | rfl | (simp only [List.length_drop, List.length_take]; rfl)) ?_; (with_reducible refine (laws_toMessageS.calls k _ _ l0 t152 _ ?side1 ?side2 A5.out).mono ?_); (case side1 => repeat (first | exact HR0.out | (with_reducible refine Kd.C_alloc ?_ _) | (with_reducible refine Kd.C_drewN ?_ _) | (with_reducible refine Kd.C_drew ?_))); (case side2 => exact HC0.out); rintro e w16 ⟨v153, rfl, ho0, hb⟩; refine ⟨_, rfl, ?_⟩; have n0_ := Aside0.mk (Kd.R_lower ho0 (below_size (by repeat (first | (with_reducible first | exact HB.out | apply below_alloc | apply pw_below_drewN | apply below_drew1) | exact HB.out)))); have n1_ := Aside0.mk (below_step (by repeat (first | (with_reducible first | exact HB.out | apply below_alloc | apply pw_below_drewN | apply below_drew1) | exact HB.out)) hb); clear HB; have HO154 := n0_; have HB := n1_; clear n0_ n1_; (try clear hb); (try clear hb2); (try clear hk); (try clear hi); (try clear ho0); obtain ⟨Ao17, co17, eo17⟩ := Kd.R_slice HO154.out; subst eo17) | ((with_reducible refine gate_callee (f := 48) rfl ?_); refine goesL_ (some 21) rfl rfl Try.func48 (by kernel_rfl) rfl #[.slice Ao17 t152.length co17, .int .i64 a1] rfl (by (try simp only [List.map_toArray, List.map_cons, List.map_nil]); first | done | rfl | (simp only [List.length_drop, List.length_take]; rfl)) ?_; (with_reducible refine (spec_StampMessages.calls k _ _ t152 a1 t155 _ ?side1 ?side2 A6.out).mono ?_); (case side1 => repeat (first | exact (Kd.R_reads' HO154.out).2.2 | (with_reducible refine Kd.C_alloc ?_ _) | (with_reducible refine Kd.C_drewN ?_ _) | (with_reducible refine Kd.C_drew ?_))); (case side2 => exact (Kd.R_reads' HO154.out).2.1); rintro e w18 ⟨v156, rfl, ho0, hb⟩; refine ⟨_, rfl, ?_⟩; have n0_ := Aside0.mk (Kd.R_below (by (with_reducible repeat (first | apply Kd.R_alloc | apply Kd.R_drewN | apply Kd.R_drew)); exact HO154.out) hb); have n1_ := Aside0.mk (Kd.R_lower ho0 (below_size (by repeat (first | (with_reducible first | exact HB.out | apply below_alloc | apply pw_below_drewN | apply below_drew1) | exact HB.out)))); have n2_ := Aside0.mk (below_step (by repeat (first | (with_reducible first | exact HB.out | apply below_alloc | apply pw_below_drewN | apply below_drew1) | exact HB.out)) hb); clear HO154; clear HB; have HO154 := n0_; have HO157 := n1_; have HB := n2_; clear n0_ n1_ n2_; (try clear hb); (try clear hb2); (try clear hk); (try clear hi); (try clear ho0)) | ((with_reducible refine gate_callee (f := 49) rfl ?_); refine goesL_ (some 23) rfl rfl Try.func49 (by kernel_rfl) rfl #[.slice A0 l0.length c0] rfl (by (try simp only [List.map_toArray, List.map_cons, List.map_nil]); first | done | rfl | (simp only [List.length_drop, List.length_take]; rfl)) ?_; (with_reducible refine (laws_toMessageS.calls k _ _ l0 t158 _ ?side1 ?side2 A7.out).mono ?_); (case side1 => repeat (first | exact (Kd.C_below HR0.out HB.out) | (with_reducible refine Kd.C_alloc ?_ _) | (with_reducible refine Kd.C_drewN ?_ _) | (with_reducible refine Kd.C_drew ?_))); (case side2 => exact HC0.out); rintro e w19 ⟨v159, rfl, ho0, hb⟩; refine ⟨_, rfl, ?_⟩; have n0_ := Aside0.mk (Kd.R_elder' (by (with_reducible repeat (first | apply Kd.R_alloc | apply Kd.R_drewN | apply Kd.R_drew)); exact HO154.out) (Kd.R_base ho0) hb); have n1_ := Aside0.mk (Kd.R_below (by (with_reducible repeat (first | apply Kd.R_alloc | apply Kd.R_drewN | apply Kd.R_drew)); exact HO157.out) hb); have n2_ := Aside0.mk (Kd.R_lower (Kd.R_new' ho0 (Kd.R_lt (by (with_reducible repeat (first | apply Kd.R_alloc | apply Kd.R_drewN | apply Kd.R_drew)); exact HO154.out))) (below_size (by repeat (first | (with_reducible first | exact HB.out | apply below_alloc | apply pw_below_drewN | apply below_drew1) | exact HB.out)))); have n3_ := Aside0.mk (below_step (by repeat (first | (with_reducible first | exact HB.out | apply below_alloc | apply pw_below_drewN | apply below_drew1) | exact HB.out)) hb); clear HO154; clear HO157; clear HB; have HO154 := n0_; have HO157 := n1_; have HO160 := n2_; have HB := n3_; clear n0_ n1_ n2_ n3_; (try clear hb); (try clear hb2); (try clear hk); (try clear hi); (try clear ho0); obtain ⟨Ao20, co20, eo20⟩ := Kd.R_slice HO160.out; subst eo20) | ((with_reducible refine gate_callee (f := 50) rfl ?_); refine goesL_ (some 26) rfl rfl Try.func50 (by kernel_rfl) rfl #[.slice Ao20 t158.length co20, .int .i64 a1] rfl (by (try simp only [List.map_toArray, List.map_cons, List.map_nil]); first | done | rfl | (simp only [List.length_drop, List.length_take]; rfl)) ?_; (with_reducible refine (impl_StampMessages.calls k _ _ t158 a1 t161 _ ?side1 ?side2 A8.out).mono ?_); (case side1 => repeat (first | exact (Kd.R_reads' HO160.out).2.2 | (with_reducible refine Kd.C_alloc ?_ _) | (with_reducible refine Kd.C_drewN ?_ _) | (with_reducible refine Kd.C_drew ?_))); (case side2 => exact (Kd.R_reads' HO160.out).2.1); rintro e w21 ⟨v162, rfl, ho0, hb⟩; refine ⟨_, rfl, ?_⟩; have n0_ := Aside0.mk (Kd.R_below (by (with_reducible repeat (first | apply Kd.R_alloc | apply Kd.R_drewN | apply Kd.R_drew)); exact HO154.out) hb); have n1_ := Aside0.mk (Kd.R_elder' (by (with_reducible repeat (first | apply Kd.R_alloc | apply Kd.R_drewN | apply Kd.R_drew)); exact HO157.out) (Kd.R_base ho0) hb); have n2_ := Aside0.mk (Kd.R_below (by (with_reducible repeat (first | apply Kd.R_alloc | apply Kd.R_drewN | apply Kd.R_drew)); exact HO160.out) hb); have n3_ := Aside0.mk (Kd.R_lower (Kd.R_new' ho0 (Kd.R_lt (by (with_reducible repeat (first | apply Kd.R_alloc | apply Kd.R_drewN | apply Kd.R_drew)); exact HO157.out))) (below_size (by repeat (first | (with_reducible first | exact HB.out | apply below_alloc | apply pw_below_drewN | apply below_drew1) | exact HB.out)))); have n4_ := Aside0.mk (below_step (by repeat (first | (with_reducible first | exact HB.out | apply below_alloc | apply pw_below_drewN | apply below_drew1) | exact HB.out)) hb); clear HO154; clear HO157; clear HO160; clear HB; have HO154 := n0_; have HO157 := n1_; have HO160 := n2_; have HO163 := n3_; have HB := n4_; clear n0_ n1_ n2_ n3_ n4_; (try clear hb); (try clear hb2); (try clear hk); (try clear hi); (try clear ho0); obtain ⟨Ao22, co22, eo22⟩ := Kd.R_slice HO163.out; subst eo22; obtain ⟨Ao23, co23, eo23⟩ := Kd.R_slice HO157.out; subst eo23) | ((with_reducible refine gate_callee (f := 43) rfl ?_); refine goesL_ (some 29) rfl rfl Try.func43 (by kernel_rfl) rfl #[.slice Ao22 t161.length co22, .slice Ao23 t155.length co23] rfl (by (try simp only [List.map_toArray, List.map_cons, List.map_nil]); first | done | rfl | (simp only [List.length_drop, List.length_take]; rfl)) ?_; (with_reducible refine (laws_eqLetterS.calls k _ _ t161 _ _ t155 true _ ?side1 ?side2 ?side3 ?side4 A9.out).mono ?_); (case side1 => repeat (first | exact (Kd.R_reads' HO163.out).2.2 | (with_reducible refine Kd.C_alloc ?_ _) | (with_reducible refine Kd.C_drewN ?_ _) | (with_reducible refine Kd.C_drew ?_))); (case side2 => exact (Kd.R_reads' HO163.out).2.1); (case side3 => repeat (first | exact (Kd.R_reads' HO157.out).2.2 | (with_reducible refine Kd.C_alloc ?_ _) | (with_reducible refine Kd.C_drewN ?_ _) | (with_reducible refine Kd.C_drew ?_))); (case side4 => exact (Kd.R_reads' HO157.out).2.1); rintro e w24 ⟨rfl, hb⟩; refine ⟨_, rfl, ?_⟩; have n0_ := Aside0.mk (Kd.R_below (by (with_reducible repeat (first | apply Kd.R_alloc | apply Kd.R_drewN | apply Kd.R_drew)); exact HO154.out) hb); have n1_ := Aside0.mk (Kd.R_below (by (with_reducible repeat (first | apply Kd.R_alloc | apply Kd.R_drewN | apply Kd.R_drew)); exact HO157.out) hb); have n2_ := Aside0.mk (Kd.R_below (by (with_reducible repeat (first | apply Kd.R_alloc | apply Kd.R_drewN | apply Kd.R_drew)); exact HO160.out) hb); have n3_ := Aside0.mk (Kd.R_below (by (with_reducible repeat (first | apply Kd.R_alloc | apply Kd.R_drewN | apply Kd.R_drew)); exact HO163.out) hb); have n4_ := Aside0.mk (below_step (by repeat (first | (with_reducible first | exact HB.out | apply below_alloc | apply pw_below_drewN | apply below_drew1) | exact HB.out)) hb); clear HO154; clear HO157; clear HO160; clear HO163; clear HB; have HO154 := n0_; have HO157 := n1_; have HO160 := n2_; have HO163 := n3_; have HB := n4_; clear n0_ n1_ n2_ n3_ n4_; (try clear hb); (try clear hb2); (try clear hk); (try clear hi)) | ((with_reducible refine gate_callee (f := 49) rfl ?_); refine goesL_ (some 33) rfl rfl Try.func49 (by kernel_rfl) rfl #[.slice A0 l0.length c0] rfl (by (try simp only [List.map_toArray, List.map_cons, List.map_nil]); first | done | rfl | (simp only [List.length_drop, List.length_take]; rfl)) ?_; (with_reducible refine (laws_toMessageS.calls k _ _ l0 t165 _ ?side1 ?side2 A11.out).mono ?_); (case side1 => repeat (first | exact (Kd.C_below HR0.out HB.out) | (with_reducible refine Kd.C_alloc ?_ _) | (with_reducible refine Kd.C_drewN ?_ _) | (with_reducible refine Kd.C_drew ?_))); (case side2 => exact HC0.out); rintro e w25 ⟨v166, rfl, ho0, hb⟩; refine ⟨_, rfl, ?_⟩; have n0_ := Aside0.mk (Kd.R_elder' (by (with_reducible repeat (first | apply Kd.R_alloc | apply Kd.R_drewN | apply Kd.R_drew)); exact HO154.out) (Kd.R_base ho0) hb); have n1_ := Aside0.mk (Kd.R_below (by (with_reducible repeat (first | apply Kd.R_alloc | apply Kd.R_drewN | apply Kd.R_drew)); exact HO157.out) hb); have n2_ := Aside0.mk (Kd.R_elder' (by (with_reducible repeat (first | apply Kd.R_alloc | apply Kd.R_drewN | apply Kd.R_drew)); exact HO160.out) (Kd.R_base ho0) hb); have n3_ := Aside0.mk (Kd.R_below (by (with_reducible repeat (first | apply Kd.R_alloc | apply Kd.R_drewN | apply Kd.R_drew)); exact HO163.out) hb); have n4_ := Aside0.mk (Kd.R_lower (Kd.R_new' (Kd.R_new' ho0 (Kd.R_lt (by (with_reducible repeat (first | apply Kd.R_alloc | apply Kd.R_drewN | apply Kd.R_drew)); exact HO154.out))) (Kd.R_lt (by (with_reducible repeat (first | apply Kd.R_alloc | apply Kd.R_drewN | apply Kd.R_drew)); exact HO160.out))) (below_size (by repeat (first | (with_reducible first | exact HB.out | apply below_alloc | apply pw_below_drewN | apply below_drew1) | exact HB.out)))); have n5_ := Aside0.mk (below_step (by repeat (first | (with_reducible first | exact HB.out | apply below_alloc | apply pw_below_drewN | apply below_drew1) | exact HB.out)) hb); clear HO154; clear HO157; clear HO160; clear HO163; clear HB; have HO154 := n0_; have HO157 := n1_; have HO160 := n2_; have HO163 := n3_; have HO167 := n4_; have HB := n5_; clear n0_ n1_ n2_ n3_ n4_ n5_; (try clear hb); (try clear hb2); (try clear hk); (try clear hi); (try clear ho0); obtain ⟨Ao26, co26, eo26⟩ := Kd.R_slice HO167.out; subst eo26) | ((with_reducible refine gate_callee (f := 51) rfl ?_); refine goesL_ (some 34) rfl rfl Try.func51 (by kernel_rfl) rfl #[.slice Ao20 t158.length co20, .slice Ao26 t165.length co26] rfl (by (try simp only [List.map_toArray, List.map_cons, List.map_nil]); first | done | rfl | (simp only [List.length_drop, List.length_take]; rfl)) ?_; (with_reducible refine (laws_eqMessageS.calls k _ _ t158 _ _ t165 true _ ?side1 ?side2 ?side3 ?side4 A12.out).mono ?_); (case side1 => repeat (first | exact (Kd.R_reads' HO160.out).2.2 | (with_reducible refine Kd.C_alloc ?_ _) | (with_reducible refine Kd.C_drewN ?_ _) | (with_reducible refine Kd.C_drew ?_))); (case side2 => exact (Kd.R_reads' HO160.out).2.1); (case side3 => repeat (first | exact (Kd.R_reads' HO167.out).2.2 | (with_reducible refine Kd.C_alloc ?_ _) | (with_reducible refine Kd.C_drewN ?_ _) | (with_reducible refine Kd.C_drew ?_))); (case side4 => exact (Kd.R_reads' HO167.out).2.1); rintro e w27 ⟨rfl, hb⟩; refine ⟨_, rfl, ?_⟩; have n0_ := Aside0.mk (Kd.R_below (by (with_reducible repeat (first | apply Kd.R_alloc | apply Kd.R_drewN | apply Kd.R_drew)); exact HO154.out) hb); have n1_ := Aside0.mk (Kd.R_below (by (with_reducible repeat (first | apply Kd.R_alloc | apply Kd.R_drewN | apply Kd.R_drew)); exact HO157.out) hb); have n2_ := Aside0.mk (Kd.R_below (by (with_reducible repeat (first | apply Kd.R_alloc | apply Kd.R_drewN | apply Kd.R_drew)); exact HO160.out) hb); have n3_ := Aside0.mk (Kd.R_below (by (with_reducible repeat (first | apply Kd.R_alloc | apply Kd.R_drewN | apply Kd.R_drew)); exact HO163.out) hb); have n4_ := Aside0.mk (Kd.R_below (by (with_reducible repeat (first | apply Kd.R_alloc | apply Kd.R_drewN | apply Kd.R_drew)); exact HO167.out) hb); have n5_ := Aside0.mk (below_step (by repeat (first | (with_reducible first | exact HB.out | apply below_alloc | apply pw_below_drewN | apply below_drew1) | exact HB.out)) hb); clear HO154; clear HO157; clear HO160; clear HO163; clear HO167; clear HB; have HO154 := n0_; have HO157 := n1_; have HO160 := n2_; have HO163 := n3_; have HO167 := n4_; have HB := n5_; clear n0_ n1_ n2_ n3_ n4_ n5_; (try clear hb); (try clear hb2); (try clear hk); (try clear hi)) | ((with_reducible refine gate_callee (f := 52) rfl ?_); refine goesL_ (some 38) rfl rfl Try.func52 (by kernel_rfl) rfl #[.slice Ao20 t158.length co20, .int .i64 1] rfl (by (try simp only [List.map_toArray, List.map_cons, List.map_nil]); first | done | rfl | (simp only [List.length_drop, List.length_take]; rfl)) ?_; (with_reducible refine (laws_markMessageS.calls k (fun k_ => some k_ = (.slice Ao20 t158.length co20 : Value).ownBlock) (.slice Ao20 t158.length co20) t158 1 t169 t170 w _ ?side1 ?side2 A14.out).mono ?_); (case side1 => repeat (first | (with_reducible first | exact HB.out | apply below_alloc | apply pw_below_drewN | apply below_drew1) | exact HB.out)); (case side2 => exact Kd.R_tight rfl HO160.out); rintro e w28 ⟨rfl, hy0, hb, hkp⟩; refine ⟨_, rfl, ?_⟩; have n0_ := Aside0.mk (Kd.R_mono (ok' := fun k_ => some k_ ≠ (.slice Ao20 t158.length co20 : Value).ownBlock ∧ some k_ ≠ (.slice Ao26 t165.length co26 : Value).ownBlock) (Kd.R_keptB (HO154.out) hkp (fun k_ hk_ hs_ => (hk_.1.2) hs_)) (fun k_ hk_ => ⟨hk_.1.1.2, hk_.1.2⟩)); have n1_ := Aside0.mk (Kd.R_mono (ok' := fun k_ => some k_ ≠ (.slice Ao22 t161.length co22 : Value).ownBlock) (Kd.R_keptB ((Kd.R_apart' HO157.out (Kd.R_typed HO160.out) (by decide))) hkp (fun k_ hk_ hs_ => (hk_.2) hs_)) (fun k_ hk_ => hk_.1.1.2)); have n2_ := Aside0.mk (Kd.R_reok rfl hy0 (fun k_ e_ => HO160.out.1 k_ e_)); have n3_ := Aside0.mk (Kd.R_mono (ok' := fun k_ => some k_ ≠ (.slice Ao23 t155.length co23 : Value).ownBlock) (Kd.R_keptB ((Kd.R_apart' HO163.out (Kd.R_typed HO160.out) (by decide))) hkp (fun k_ hk_ hs_ => (hk_.2) hs_)) (fun k_ hk_ => hk_.1.1.2)); have n4_ := Aside0.mk (Kd.R_mono (ok' := fun k_ => some k_ ≠ (.slice Ao17 t152.length co17 : Value).ownBlock ∧ some k_ ≠ (.slice Ao20 t158.length co20 : Value).ownBlock) (Kd.R_keptB (HO167.out) hkp (fun k_ hk_ hs_ => (hk_.2) hs_)) (fun k_ hk_ => ⟨hk_.1.1.2, hk_.1.2⟩)); have n5_ := Aside0.mk (hb); clear HO154; clear HO157; clear HO160; clear HO163; clear HO167; clear HB; have HO154 := n0_; have HO157 := n1_; have HO160 := n2_; have HO163 := n3_; have HO167 := n4_; have HB := n5_; clear n0_ n1_ n2_ n3_ n4_ n5_; (try clear hb); (try clear hkp); (try clear hy0)))
        (try simp only [Act.put, List.setIfInBounds_toArray, List.set_cons_zero, List.set_cons_succ])
        go_cut [46] (fun v46 wc => ∃ (kq : Nat) (x46_14 : Bool), v46 = .bool x46_14 ∧ Aside0 (laws_FnExactStampMessages.j0 kq l0 a1 t155 t161 x46_14 = some r) ∧ Aside0 (kq ≤ k) ∧ Aside0 (Kd.R k29 29 wc w.heap.size (fun k_ => some k_ ≠ ((.slice Ao22 t161.length co22) : Value).ownBlock) (.slice Ao23 t155.length co23) t155) ∧ Aside0 (Kd.R k29 29 wc w.heap.size (fun k_ => some k_ ≠ ((.slice Ao23 t155.length co23) : Value).ownBlock) (.slice Ao22 t161.length co22) t161) ∧ Aside0 (Below w.heap.size w wc))
        case first =>
          have H := HC15.out
          clear HC15
          by_cases c29 : t169 < 0
          · rw [if_pos c29] at H
            have c29b0 : decide (t169 < 0) = true := decide_eq_true c29
            clear c29
            (first | rw [c29b0] | (simp only [i64_w, i32_w]; rw [c29b0]) | skip)
            have H' := Aside0.mk H
            clear H
            go_wp2
            go_meet
            case rel => exact ⟨_, (true), (by first | rfl | (simp; done) | (simp [*]; done)), H', ⟨by first | omega | exact Nat.le_refl _⟩, ⟨by (with_reducible repeat (first | apply Kd.R_alloc | apply Kd.R_drewN | apply Kd.R_drew)); exact HO157.out⟩, ⟨by (with_reducible repeat (first | apply Kd.R_alloc | apply Kd.R_drewN | apply Kd.R_drew)); exact HO163.out⟩, ⟨by repeat (first | (with_reducible first | exact HB.out | apply below_alloc | apply pw_below_drewN | apply below_drew1) | exact HB.out)⟩⟩
          · rw [if_neg c29] at H
            have c29b0 : decide (t169 < 0) = false := decide_eq_false c29
            clear c29
            (first | rw [c29b0] | (simp only [i64_w, i32_w]; rw [c29b0]) | skip)
            replace H := Option.bind_eq_some_iff.mp H
            obtain ⟨t171, A300, H⟩ := H
            replace H : (laws_FnExactStampMessages.j0 k l0 a1 t155 t161 (!t171)) = some r := H
            have A30 := Aside0.mk A300
            clear A300
            have H' := Aside0.mk H
            clear H
            go_wp2_with (first | (go_at_call 43; (with_reducible refine (laws_eqLetterS.calls k _ _ t161 _ _ t155 t171 _ ?side1 ?side2 ?side3 ?side4 A30.out).mono ?_); (case side1 => repeat (first | exact (Kd.R_reads' HO163.out).2.2 | (with_reducible refine Kd.C_alloc ?_ _) | (with_reducible refine Kd.C_drewN ?_ _) | (with_reducible refine Kd.C_drew ?_))); (case side2 => exact (Kd.R_reads' HO163.out).2.1); (case side3 => repeat (first | exact (Kd.R_reads' HO157.out).2.2 | (with_reducible refine Kd.C_alloc ?_ _) | (with_reducible refine Kd.C_drewN ?_ _) | (with_reducible refine Kd.C_drew ?_))); (case side4 => exact (Kd.R_reads' HO157.out).2.1); rintro e w31 ⟨rfl, hb⟩; have n0_ := Aside0.mk (Kd.R_below (by (with_reducible repeat (first | apply Kd.R_alloc | apply Kd.R_drewN | apply Kd.R_drew)); exact HO154.out) hb); have n1_ := Aside0.mk (Kd.R_below (by (with_reducible repeat (first | apply Kd.R_alloc | apply Kd.R_drewN | apply Kd.R_drew)); exact HO157.out) hb); have n2_ := Aside0.mk (Kd.R_below (by (with_reducible repeat (first | apply Kd.R_alloc | apply Kd.R_drewN | apply Kd.R_drew)); exact HO160.out) hb); have n3_ := Aside0.mk (Kd.R_below (by (with_reducible repeat (first | apply Kd.R_alloc | apply Kd.R_drewN | apply Kd.R_drew)); exact HO163.out) hb); have n4_ := Aside0.mk (Kd.R_below (by (with_reducible repeat (first | apply Kd.R_alloc | apply Kd.R_drewN | apply Kd.R_drew)); exact HO167.out) hb); have n5_ := Aside0.mk (below_step (by repeat (first | (with_reducible first | exact HB.out | apply below_alloc | apply pw_below_drewN | apply below_drew1) | exact HB.out)) hb); clear HO154; clear HO157; clear HO160; clear HO163; clear HO167; clear HB; have HO154 := n0_; have HO157 := n1_; have HO160 := n2_; have HO163 := n3_; have HO167 := n4_; have HB := n5_; clear n0_ n1_ n2_ n3_ n4_ n5_; (try clear hb); (try clear hb2); (try clear hk); (try clear hi)))
            go_meet
            case rel => exact ⟨_, (!t171), (by first | rfl | (simp; done) | (simp [*]; done)), H', ⟨by first | omega | exact Nat.le_refl _⟩, ⟨by (with_reducible repeat (first | apply Kd.R_alloc | apply Kd.R_drewN | apply Kd.R_drew)); exact HO157.out⟩, ⟨by (with_reducible repeat (first | apply Kd.R_alloc | apply Kd.R_drewN | apply Kd.R_drew)); exact HO163.out⟩, ⟨by repeat (first | (with_reducible first | exact HB.out | apply below_alloc | apply pw_below_drewN | apply below_drew1) | exact HB.out)⟩⟩
        case rest =>
          clear HC15
          try clear c1
          try clear c2
          try clear p2
          try clear c4
          try clear c4b0
          try clear c5
          try clear c10
          try clear c11
          try clear c13
          try clear c29
          try clear c29b0
          obtain ⟨kq, x46_14, rfl, HA, HJ14, HO_6, HO_8, HB⟩ := hcut
          cases kq with
          | zero => exact absurd HA.out (by simp [laws_FnExactStampMessages.j0])
          | succ kj14 =>
            have H := HA.out
            clear HA
            simp only [laws_FnExactStampMessages.j0] at H
            by_cases c32 : x46_14 = true
            · subst c32
              have H1 : (none) = some r := by rw [if_pos rfl] at H; exact H
              clear H
              have H := H1
              clear H1
              exact absurd H (by simp)
            · replace c32 := Bool.eq_false_iff.mpr c32
              subst c32
              have H1 : ((laws_markLetterS.f kj14 t161 1).bind fun bt172 => ((laws_heldLetterS.f kj14 bt172.2 1).bind fun t174 => (if t174 < 0 then (none) else (if t174 = bt172.1 then ((laws_toMessageS.f kj14 l0).bind fun t175 => ((impl_StampMessages.f kj14 t175 a1).bind fun t178 => ((laws_eqLetterS.f kj14 t178 t155).bind fun t181 => (if t181 = true then ((laws_heldLetterS.f kj14 bt172.2 1).bind fun t182 => (if t182 < 0 then (none) else (if t182 = bt172.1 then (some true) else (none)))) else (none))))) else (none))))) = some r := by rw [if_neg (show ¬ (false = true) by decide)] at H; exact H
              clear H
              have H := H1
              clear H1
              replace H := Option.bind_eq_some_iff.mp H
              obtain ⟨⟨t172, t173⟩, A330, H⟩ := H
              replace H : ((laws_heldLetterS.f kj14 t173 1).bind fun t174 => (if t174 < 0 then (none) else (if t174 = t172 then ((laws_toMessageS.f kj14 l0).bind fun t175 => ((impl_StampMessages.f kj14 t175 a1).bind fun t178 => ((laws_eqLetterS.f kj14 t178 t155).bind fun t181 => (if t181 = true then ((laws_heldLetterS.f kj14 t173 1).bind fun t182 => (if t182 < 0 then (none) else (if t182 = t172 then (some true) else (none)))) else (none))))) else (none)))) = some r := H
              have A33 := Aside0.mk A330
              clear A330
              replace H := Option.bind_eq_some_iff.mp H
              obtain ⟨t174, A340, H⟩ := H
              replace H : (if t174 < 0 then (none) else (if t174 = t172 then ((laws_toMessageS.f kj14 l0).bind fun t175 => ((impl_StampMessages.f kj14 t175 a1).bind fun t178 => ((laws_eqLetterS.f kj14 t178 t155).bind fun t181 => (if t181 = true then ((laws_heldLetterS.f kj14 t173 1).bind fun t182 => (if t182 < 0 then (none) else (if t182 = t172 then (some true) else (none)))) else (none))))) else (none))) = some r := H
              have A34 := Aside0.mk A340
              clear A340
              by_cases c35 : t174 < 0
              · rw [if_pos c35] at H
                exact absurd H (by simp)
              · rw [if_neg c35] at H
                have c35b0 : decide (t174 < 0) = false := decide_eq_false c35
                clear c35
                by_cases c36 : t174 = t172
                · rw [if_pos c36] at H
                  have c36b0 : (t174 == t172) = true := beq_iff_eq.mpr c36
                  have c36b1 : (t174 != t172) = false := bne_eq_false_iff_eq.mpr c36
                  clear c36
                  replace H := Option.bind_eq_some_iff.mp H
                  obtain ⟨t175, A370, H⟩ := H
                  replace H : ((impl_StampMessages.f kj14 t175 a1).bind fun t178 => ((laws_eqLetterS.f kj14 t178 t155).bind fun t181 => (if t181 = true then ((laws_heldLetterS.f kj14 t173 1).bind fun t182 => (if t182 < 0 then (none) else (if t182 = t172 then (some true) else (none)))) else (none)))) = some r := H
                  have A37 := Aside0.mk A370
                  clear A370
                  replace H := Option.bind_eq_some_iff.mp H
                  obtain ⟨t178, A380, H⟩ := H
                  replace H : ((laws_eqLetterS.f kj14 t178 t155).bind fun t181 => (if t181 = true then ((laws_heldLetterS.f kj14 t173 1).bind fun t182 => (if t182 < 0 then (none) else (if t182 = t172 then (some true) else (none)))) else (none))) = some r := H
                  have A38 := Aside0.mk A380
                  clear A380
                  replace H := Option.bind_eq_some_iff.mp H
                  obtain ⟨t181, A390, H⟩ := H
                  replace H : (if t181 = true then ((laws_heldLetterS.f kj14 t173 1).bind fun t182 => (if t182 < 0 then (none) else (if t182 = t172 then (some true) else (none)))) else (none)) = some r := H
                  have A39 := Aside0.mk A390
                  clear A390
                  by_cases c40 : t181 = true
                  · subst c40
                    have H1 : ((laws_heldLetterS.f kj14 t173 1).bind fun t182 => (if t182 < 0 then (none) else (if t182 = t172 then (some true) else (none)))) = some r := by rw [if_pos rfl] at H; exact H
                    clear H
                    have H := H1
                    clear H1
                    replace H := Option.bind_eq_some_iff.mp H
                    obtain ⟨t182, A410, H⟩ := H
                    replace H : (if t182 < 0 then (none) else (if t182 = t172 then (some true) else (none))) = some r := H
                    have A41 := Aside0.mk A410
                    clear A410
                    by_cases c42 : t182 < 0
                    · rw [if_pos c42] at H
                      exact absurd H (by simp)
                    · rw [if_neg c42] at H
                      have c42b0 : decide (t182 < 0) = false := decide_eq_false c42
                      clear c42
                      by_cases c43 : t182 = t172
                      · rw [if_pos c43] at H
                        have c43b0 : (t182 == t172) = true := beq_iff_eq.mpr c43
                        have c43b1 : (t182 != t172) = false := bne_eq_false_iff_eq.mpr c43
                        clear c43
                        obtain rfl := Option.some.inj H
                        go_wp2_with (first | ((with_reducible refine gate_callee (f := 53) rfl ?_); refine goesL_ (some 49) rfl rfl Try.func53 (by kernel_rfl) rfl #[.slice Ao22 t161.length co22, .int .i64 1] rfl (by (try simp only [List.map_toArray, List.map_cons, List.map_nil]); first | done | rfl | (simp only [List.length_drop, List.length_take]; rfl)) ?_; (with_reducible refine (laws_markLetterS.calls kj14 (fun k_ => some k_ = (.slice Ao22 t161.length co22 : Value).ownBlock) (.slice Ao22 t161.length co22) t161 1 t172 t173 w _ ?side1 ?side2 A33.out).mono ?_); (case side1 => repeat (first | (with_reducible first | exact HB.out | apply below_alloc | apply pw_below_drewN | apply below_drew1) | exact HB.out)); (case side2 => exact Kd.R_tight rfl HO_8.out); rintro e w44 ⟨rfl, hy0, hb, hkp⟩; refine ⟨_, rfl, ?_⟩; have n0_ := Aside0.mk (Kd.R_mono (ok' := fun k_ => some k_ ≠ (.slice Ao22 t161.length co22 : Value).ownBlock) (Kd.R_keptB (HO_6.out) hkp (fun k_ hk_ hs_ => (hk_) hs_)) (fun k_ hk_ => hk_.1)); have n1_ := Aside0.mk (Kd.R_reok rfl hy0 (fun k_ e_ => HO_8.out.1 k_ e_)); have n2_ := Aside0.mk (hb); clear HO_6; clear HO_8; clear HB; have HO_6 := n0_; have HO_8 := n1_; have HB := n2_; clear n0_ n1_ n2_; (try clear hb); (try clear hkp); (try clear hy0)) | ((with_reducible refine gate_callee (f := 54) rfl ?_); refine goesL_ (some 52) rfl rfl Try.func54 (by kernel_rfl) rfl #[.slice Ao22 t173.length co22, .int .i64 1] rfl (by (try simp only [List.map_toArray, List.map_cons, List.map_nil]); first | done | (rw [show t173.length = t161.length from (Kd.R_reads' HO_8.out).1.symm] <;> rfl) | rfl | (simp only [List.length_drop, List.length_take]; rfl)) ?_; (with_reducible refine (laws_heldLetterS.calls kj14 _ _ t173 1 t174 _ ?side1 ?side2 A34.out).mono ?_); (case side1 => repeat (first | exact (Kd.R_reads' HO_8.out).2.2 | (with_reducible refine Kd.C_alloc ?_ _) | (with_reducible refine Kd.C_drewN ?_ _) | (with_reducible refine Kd.C_drew ?_))); (case side2 => rw [show t173.length = t161.length from (Kd.R_reads' HO_8.out).1.symm]; exact (Kd.R_reads' HO_8.out).2.1); rintro e w' ⟨rfl, ⟨nd, rfl⟩⟩; refine ⟨_, rfl, ?_⟩) | ((with_reducible refine gate_callee (f := 49) rfl ?_); refine goesL_ (some 59) rfl rfl Try.func49 (by kernel_rfl) rfl #[.slice A0 l0.length c0] rfl (by (try simp only [List.map_toArray, List.map_cons, List.map_nil]); first | done | rfl | (simp only [List.length_drop, List.length_take]; rfl)) ?_; (with_reducible refine (laws_toMessageS.calls kj14 _ _ l0 t175 _ ?side1 ?side2 A37.out).mono ?_); (case side1 => repeat (first | exact (Kd.C_below HR0.out (by repeat (first | (with_reducible first | exact HB.out | apply below_alloc | apply pw_below_drewN | apply below_drew1) | exact HB.out))) | (with_reducible refine Kd.C_alloc ?_ _) | (with_reducible refine Kd.C_drewN ?_ _) | (with_reducible refine Kd.C_drew ?_))); (case side2 => exact HC0.out); rintro e w45 ⟨v176, rfl, ho0, hb⟩; refine ⟨_, rfl, ?_⟩; have n0_ := Aside0.mk (Kd.R_below (by (with_reducible repeat (first | apply Kd.R_alloc | apply Kd.R_drewN | apply Kd.R_drew)); exact HO_6.out) hb); have n1_ := Aside0.mk (Kd.R_below (by (with_reducible repeat (first | apply Kd.R_alloc | apply Kd.R_drewN | apply Kd.R_drew)); exact HO_8.out) hb); have n2_ := Aside0.mk (Kd.R_lower ho0 (below_size (by repeat (first | (with_reducible first | exact HB.out | apply below_alloc | apply pw_below_drewN | apply below_drew1) | exact HB.out)))); have n3_ := Aside0.mk (below_step (by repeat (first | (with_reducible first | exact HB.out | apply below_alloc | apply pw_below_drewN | apply below_drew1) | exact HB.out)) hb); clear HO_6; clear HO_8; clear HB; have HO_6 := n0_; have HO_8 := n1_; have HO177 := n2_; have HB := n3_; clear n0_ n1_ n2_ n3_; (try clear hb); (try clear hb2); (try clear hk); (try clear hi); (try clear ho0); obtain ⟨Ao46, co46, eo46⟩ := Kd.R_slice HO177.out; subst eo46) | ((with_reducible refine gate_callee (f := 50) rfl ?_); refine goesL_ (some 61) rfl rfl Try.func50 (by kernel_rfl) rfl #[.slice Ao46 t175.length co46, .int .i64 a1] rfl (by (try simp only [List.map_toArray, List.map_cons, List.map_nil]); first | done | rfl | (simp only [List.length_drop, List.length_take]; rfl)) ?_; (with_reducible refine (impl_StampMessages.calls kj14 _ _ t175 a1 t178 _ ?side1 ?side2 A38.out).mono ?_); (case side1 => repeat (first | exact (Kd.R_reads' HO177.out).2.2 | (with_reducible refine Kd.C_alloc ?_ _) | (with_reducible refine Kd.C_drewN ?_ _) | (with_reducible refine Kd.C_drew ?_))); (case side2 => exact (Kd.R_reads' HO177.out).2.1); rintro e w47 ⟨v179, rfl, ho0, hb⟩; refine ⟨_, rfl, ?_⟩; have n0_ := Aside0.mk (Kd.R_elder' (by (with_reducible repeat (first | apply Kd.R_alloc | apply Kd.R_drewN | apply Kd.R_drew)); exact HO_6.out) (Kd.R_base ho0) hb); have n1_ := Aside0.mk (Kd.R_elder' (by (with_reducible repeat (first | apply Kd.R_alloc | apply Kd.R_drewN | apply Kd.R_drew)); exact HO_8.out) (Kd.R_base ho0) hb); have n2_ := Aside0.mk (Kd.R_below (by (with_reducible repeat (first | apply Kd.R_alloc | apply Kd.R_drewN | apply Kd.R_drew)); exact HO177.out) hb); have n3_ := Aside0.mk (Kd.R_lower (Kd.R_new' (Kd.R_new' ho0 (Kd.R_lt (by (with_reducible repeat (first | apply Kd.R_alloc | apply Kd.R_drewN | apply Kd.R_drew)); exact HO_6.out))) (Kd.R_lt (by (with_reducible repeat (first | apply Kd.R_alloc | apply Kd.R_drewN | apply Kd.R_drew)); exact HO_8.out))) (below_size (by repeat (first | (with_reducible first | exact HB.out | apply below_alloc | apply pw_below_drewN | apply below_drew1) | exact HB.out)))); have n4_ := Aside0.mk (below_step (by repeat (first | (with_reducible first | exact HB.out | apply below_alloc | apply pw_below_drewN | apply below_drew1) | exact HB.out)) hb); clear HO_6; clear HO_8; clear HO177; clear HB; have HO_6 := n0_; have HO_8 := n1_; have HO177 := n2_; have HO180 := n3_; have HB := n4_; clear n0_ n1_ n2_ n3_ n4_; (try clear hb); (try clear hb2); (try clear hk); (try clear hi); (try clear ho0); obtain ⟨Ao48, co48, eo48⟩ := Kd.R_slice HO180.out; subst eo48) | ((with_reducible refine gate_callee (f := 43) rfl ?_); refine goesL_ (some 64) rfl rfl Try.func43 (by kernel_rfl) rfl #[.slice Ao48 t178.length co48, .slice Ao23 t155.length co23] rfl (by (try simp only [List.map_toArray, List.map_cons, List.map_nil]); first | done | rfl | (simp only [List.length_drop, List.length_take]; rfl)) ?_; (with_reducible refine (laws_eqLetterS.calls kj14 _ _ t178 _ _ t155 true _ ?side1 ?side2 ?side3 ?side4 A39.out).mono ?_); (case side1 => repeat (first | exact (Kd.R_reads' HO180.out).2.2 | (with_reducible refine Kd.C_alloc ?_ _) | (with_reducible refine Kd.C_drewN ?_ _) | (with_reducible refine Kd.C_drew ?_))); (case side2 => exact (Kd.R_reads' HO180.out).2.1); (case side3 => repeat (first | exact (Kd.R_reads' HO_6.out).2.2 | (with_reducible refine Kd.C_alloc ?_ _) | (with_reducible refine Kd.C_drewN ?_ _) | (with_reducible refine Kd.C_drew ?_))); (case side4 => exact (Kd.R_reads' HO_6.out).2.1); rintro e w49 ⟨rfl, hb⟩; refine ⟨_, rfl, ?_⟩; have n0_ := Aside0.mk (Kd.R_below (by (with_reducible repeat (first | apply Kd.R_alloc | apply Kd.R_drewN | apply Kd.R_drew)); exact HO_6.out) hb); have n1_ := Aside0.mk (Kd.R_below (by (with_reducible repeat (first | apply Kd.R_alloc | apply Kd.R_drewN | apply Kd.R_drew)); exact HO_8.out) hb); have n2_ := Aside0.mk (Kd.R_below (by (with_reducible repeat (first | apply Kd.R_alloc | apply Kd.R_drewN | apply Kd.R_drew)); exact HO177.out) hb); have n3_ := Aside0.mk (Kd.R_below (by (with_reducible repeat (first | apply Kd.R_alloc | apply Kd.R_drewN | apply Kd.R_drew)); exact HO180.out) hb); have n4_ := Aside0.mk (below_step (by repeat (first | (with_reducible first | exact HB.out | apply below_alloc | apply pw_below_drewN | apply below_drew1) | exact HB.out)) hb); clear HO_6; clear HO_8; clear HO177; clear HO180; clear HB; have HO_6 := n0_; have HO_8 := n1_; have HO177 := n2_; have HO180 := n3_; have HB := n4_; clear n0_ n1_ n2_ n3_ n4_; (try clear hb); (try clear hb2); (try clear hk); (try clear hi)) | ((with_reducible refine gate_callee (f := 54) rfl ?_); refine goesL_ (some 68) rfl rfl Try.func54 (by kernel_rfl) rfl #[.slice Ao22 t173.length co22, .int .i64 1] rfl (by (try simp only [List.map_toArray, List.map_cons, List.map_nil]); first | done | (rw [show t173.length = t161.length from (Kd.R_reads' HO_8.out).1.symm] <;> rfl) | rfl | (simp only [List.length_drop, List.length_take]; rfl)) ?_; (with_reducible refine (laws_heldLetterS.calls kj14 _ _ t173 1 t182 _ ?side1 ?side2 A41.out).mono ?_); (case side1 => repeat (first | exact (Kd.R_reads' HO_8.out).2.2 | (with_reducible refine Kd.C_alloc ?_ _) | (with_reducible refine Kd.C_drewN ?_ _) | (with_reducible refine Kd.C_drew ?_))); (case side2 => rw [show t173.length = t161.length from (Kd.R_reads' HO_8.out).1.symm]; exact (Kd.R_reads' HO_8.out).2.1); rintro e w' ⟨rfl, ⟨nd, rfl⟩⟩; refine ⟨_, rfl, ?_⟩))
                        go_ret
                        exact ⟨by first | rfl | (simp [errW_none, errW_some] <;> rfl) | (simp [*, errW_none, errW_some] <;> rfl), by repeat (first | (with_reducible first | exact HB.out | apply below_alloc | apply pw_below_drewN | apply below_drew1) | exact HB.out)⟩
                      · rw [if_neg c43] at H
                        exact absurd H (by simp)
                  · replace c40 := Bool.eq_false_iff.mpr c40
                    subst c40
                    have H1 : (none) = some r := by rw [if_neg (show ¬ (false = true) by decide)] at H; exact H
                    clear H
                    have H := H1
                    clear H1
                    exact absurd H (by simp)
                · rw [if_neg c36] at H
                  exact absurd H (by simp)
      · replace c13 := Bool.eq_false_iff.mpr c13
        subst c13
        have H1 : (none) = some r := by rw [if_neg (show ¬ (false = true) by decide)] at H; exact H
        clear H
        have H := H1
        clear H1
        exact absurd H (by simp)
    · replace c10 := Bool.eq_false_iff.mpr c10
      subst c10
      have H1 : (none) = some r := by rw [if_neg (show ¬ (false = true) by decide)] at H; exact H
      clear H
      have H := H1
      clear H1
      exact absurd H (by simp)

end Go.Proofs.Ytloiafnoekpaoaa.PFnExactStampMessages
