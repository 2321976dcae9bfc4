/- Small plain laws on lists and numbers. -/
import Derived.Test.YtokjmppkiihdlaaK

/-! ### the printed functions' loops, told plainly -/
namespace Go.Proofs.YtokjmppkiihdlaaW.PrintWords
open Go.RowKit
theorem wS (i : Nat) (h : i < 4611686018427387904) : wrap64 ((i : Int) + 1) = ((i + 1 : Nat) : Int) := by unfold wrap64; omega
theorem rdN (xs : List Int) (i : Nat) (h : i < xs.length) : rd xs (i : Int) = xs[i] := by simp [rd, h]
theorem rdOfN {α : Type} (d : α) (xs : List α) (i : Nat) (h : i < xs.length) : rdOf d xs (i : Int) = xs[i] := by simp [rdOf, h]
theorem kk_pred {k d : Nat} (h : d < k) : ∃ m, k = m + 1 ∧ d ≤ m := ⟨k - 1, by omega, by omega⟩
/-- m, m+1, .., n of them -/
def iota (m : Int) (n : Nat) : List Int := (List.range n).map fun (i : Nat) => m + (i : Int)
theorem iota_length (m : Int) (n : Nat) : (iota m n).length = n := by simp [iota]
theorem iota_get (m : Int) (n i : Nat) (h : i < (iota m n).length) : (iota m n)[i] = m + (i : Int) := by simp [iota]
theorem take_set_succ {α : Type} (l : List α) (i : Nat) (v : α) (h : i < l.length) : (l.set i v).take (i + 1) = l.take i ++ [v] := by
  rw [List.take_succ_eq_append_getElem (by simpa using h), List.getElem_set_self]
  congr 1
  rw [List.take_set, List.set_eq_of_length_le (by simp; omega)]
theorem iota_take (m : Int) (n i : Nat) (h : i ≤ n) : (iota m n).take i = iota m i := by
  unfold iota
  rw [← List.map_take, List.take_range, Nat.min_eq_left h]
theorem iota_succ (m : Int) (n : Nat) : iota m (n + 1) = iota m n ++ [m + (n : Int)] := by
  unfold iota
  rw [List.range_succ, List.map_append]
  rfl
theorem eq_of_take {α : Type} {l m : List α} (h : l.length = m.length) (hh : l.take l.length = m.take l.length) : l = m := by
  rw [List.take_length] at hh
  rw [hh, h, List.take_length]
end Go.Proofs.YtokjmppkiihdlaaW.PrintWords
