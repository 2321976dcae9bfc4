/- Laid by a program of this session out of the translation: functions, their contracts, the row. Lean checks it. -/
import Derived.Test.YtloiafnoekpaoabPFnExactPiecesValidx0
import Derived.Test.YtloiafnoekpaoabPFnExactPiecesValidx3
import Derived.Test.YtloiafnoekpaoabPFnExactPiecesValidx5
namespace Go.Proofs.Ytloiafnoekpaoab.PFnExactPiecesValid
open Go.RowKit Go.Proofs.YtloiafnoekpaoabW.PrintWords Go.Proofs.YtloiafnoekpaoabW.PrintLast Go.Proofs.YtloiafnoekpaoabW.PrintMore
attribute [local go_sem] max2_int min2_int max_two min_two max_three min_three max_four min_four   -- for this text's walks alone
set_option linter.unusedVariables false
set_option linter.unusedSimpArgs false


/-! ### impl_OwnerOf: function 132 -/
theorem kk_index {P : Program} (t e : TypeId) (n : Nat) (k : IntKind) (cs : Array Value) (i : Nat) (v : Value) (h : P.underlying t = some (.array n e)) (he : P.underlying e = some (.int k)) (hs : (P.info? e).map (·.size) = some 1) (hi : i < n) (hv : cs[i]? = some v) (w : World) : (Instr.index t (.agg cs) (.int .i64 i)).run P w = .ok v w := by
 cases hq : P.info? e with
 | none => simp [hq] at hs
 | some q =>
  have h1 : q.size = 1 := by simpa [hq] using hs
  simp [Instr.index, run_underlying h, asIntOf, hi, part, isAgg, run_underlying he, sizeOf, typeInfo, hq, h1, hv]
def impl_OwnerOf.f (a0 a1 : Int) : Option Int := some (if (0 ≤ a0 ∧ a0 ≤ 15) ∧ 1 ≤ a1 ∧ a1 ≤ 6 then ((ownN a1.toNat a0.toNat : Nat) : Int) else -1)
set_option maxHeartbeats 1000000 in
set_option maxRecDepth 100000 in
theorem impl_OwnerOf.calls (a0 a1 : Int) (r : Int) (w : World) (h : impl_OwnerOf.f a0 a1 = some r) :
  Calls Try.prog 132 #[.int .i64 a0, .int .i64 a1] w fun e w' => e = .returned (.int .i64 r) ∧ Below w.heap.size w w' := by
 obtain rfl := Option.some.inj h
 clear h
 by_cases h0 : 0 ≤ a0
 ·by_cases h0' : a0 ≤ 15
  ·by_cases h1 : 1 ≤ a1 ∧ a1 ≤ 6
   ·have hw1 : Aside0 (impl_workersFit.f a1 = some true) := ⟨by simp [impl_workersFit.f, h1]⟩
    rw [if_pos ⟨⟨h0, h0'⟩, h1⟩]
    obtain ⟨v, rfl⟩ := Int.eq_ofNat_of_zero_le h0
    obtain ⟨b, rfl⟩ := Int.eq_ofNat_of_zero_le (a := a1) (by omega)
    obtain ⟨h1a, h1b⟩ := h1
    have hv : v < (tbl b 16).size := by rw [tbl_size]; omega
    have hidx := fun w => kk_index (P := Try.prog) 96 3 16 .i64 (tbl b 16) v (.int .i64 (ownN b v : Nat)) Try.underlying96 Try.underlying3 (by kernel_rfl) (by omega) (by rw [tbl_get _ _ _ (by omega), if_pos (by omega)]) w
    have hg : Aside0 ((tbl b 16)[v]? = some (.int .i64 (ownN b v : Nat))) := ⟨by rw [tbl_get _ _ _ (by omega), if_pos (by omega)]⟩
    rw [Int.toNat_natCast, Int.toNat_natCast]
    go_enter Try.func132, Try.ntmps132
    go_wp2_with (first
      | (go_at_call 77; (with_reducible refine (impl_workersFit.calls b true _ hw1.out).mono ?_); rintro e w' ⟨rfl, ⟨nd, rfl⟩⟩)
      | (go_at_call 79; (with_reducible refine (ownerTable_calls b (by omega) (by omega) _).mono ?_); rintro e w1 ⟨rfl, hb1⟩))
    go_ret
    exact ⟨rfl, below_then (pw_below_drewN (Below.refl _ _) _) (by simp) hb1⟩
   ·have hw1 : Aside0 (impl_workersFit.f a1 = some false) := ⟨by unfold impl_workersFit.f; split; (· simp; omega); rfl⟩
    rw [if_neg (fun h => h1 h.2)]
    clear h1
    obtain ⟨n, rfl⟩ := Int.eq_ofNat_of_zero_le h0
    go_enter Try.func132, Try.ntmps132
    go_wp2_with (first
      | (go_at_call 77; (with_reducible refine (impl_workersFit.calls a1 false _ hw1.out).mono ?_); rintro e w' ⟨rfl, ⟨nd, rfl⟩⟩))
    go_ret
    exact ⟨rfl, pw_below_drewN (Below.refl _ _) _⟩
  ·rw [if_neg (fun h => h0' h.1.2)]
   obtain ⟨n, rfl⟩ := Int.eq_ofNat_of_zero_le h0
   go_enter Try.func132, Try.ntmps132
   go_wp2
   go_ret
   exact ⟨rfl, Below.refl _ _⟩
 ·rw [if_neg (fun h => h0 h.1.1)]
  go_enter Try.func132, Try.ntmps132
  go_wp2
  go_ret
  exact ⟨rfl, Below.refl _ _⟩

end Go.Proofs.Ytloiafnoekpaoab.PFnExactPiecesValid
