/- Small plain laws on lists and numbers. -/
import Derived.Test.YtgdcnlmhdbdijaaK

/-! ### the printed functions' loops, told plainly -/
namespace Go.Proofs.YtgdcnlmhdbdijaaW.PrintWords
open Go.RowKit
theorem wS (i : Nat) (h : i < 4611686018427387904) : wrap64 ((i : Int) + 1) = ((i + 1 : Nat) : Int) := by unfold wrap64; omega
theorem rdN (xs : List Int) (i : Nat) (h : i < xs.length) : rd xs (i : Int) = xs[i] := by simp [rd, h]
theorem rdOfN {α : Type} (d : α) (xs : List α) (i : Nat) (h : i < xs.length) : rdOf d xs (i : Int) = xs[i] := by simp [rdOf, h]
theorem kk_pred {k d : Nat} (h : d < k) : ∃ m, k = m + 1 ∧ d ≤ m := ⟨k - 1, by omega, by omega⟩
/-- m, m+1, .., n of them -/
def iota (m : Int) (n : Nat) : List Int := (List.range n).map fun (i : Nat) => m + (i : Int)
theorem iota_length (m : Int) (n : Nat) : (iota m n).length = n := by simp [iota]
theorem iota_get (m : Int) (n i : Nat) (h : i < (iota m n).length) : (iota m n)[i] = m + (i : Int) := by simp [iota]
theorem take_set_succ {α : Type} (l : List α) (i : Nat) (v : α) (h : i < l.length) : (l.set i v).take (i + 1) = l.take i ++ [v] := by
  rw [List.take_succ_eq_append_getElem (by simpa using h), List.getElem_set_self]
  congr 1
  rw [List.take_set, List.set_eq_of_length_le (by simp; omega)]
theorem iota_take (m : Int) (n i : Nat) (h : i ≤ n) : (iota m n).take i = iota m i := by
  unfold iota
  rw [← List.map_take, List.take_range, Nat.min_eq_left h]
theorem iota_succ (m : Int) (n : Nat) : iota m (n + 1) = iota m n ++ [m + (n : Int)] := by
  unfold iota
  rw [List.range_succ, List.map_append]
  rfl
theorem eq_of_take {α : Type} {l m : List α} (h : l.length = m.length) (hh : l.take l.length = m.take l.length) : l = m := by
  rw [List.take_length] at hh
  rw [hh, h, List.take_length]

/-! ### an answer that is told, and what holds of it -/
def Dw {α : Type} (o : Option α) (Q : α → Prop) : Prop := ∃ r, o = some r ∧ Q r
theorem Dw.bind {α β : Type} {o : Option α} {P : α → Prop} {f : α → Option β} {Q : β → Prop} (h : Dw o P) (g : ∀ r, P r → Dw (f r) Q) : Dw (o.bind f) Q := by
  obtain ⟨r, rfl, hr⟩ := h
  exact g r hr
theorem Dw.some {α : Type} {r : α} {Q : α → Prop} (h : Q r) : Dw (Option.some r) Q := ⟨r, rfl, h⟩
theorem Dw.mono {α : Type} {o : Option α} {P Q : α → Prop} (h : Dw o P) (g : ∀ r, P r → Q r) : Dw o Q := by
  obtain ⟨r, e, hr⟩ := h
  exact ⟨r, e, g r hr⟩
theorem Dw.pos {α : Type} {c : Prop} {_d : Decidable c} {a b : Option α} {Q : α → Prop} (hc : c) (h : Dw a Q) : Dw (if c then a else b) Q := by rw [if_pos hc]; exact h
theorem Dw.neg {α : Type} {c : Prop} {_d : Decidable c} {a b : Option α} {Q : α → Prop} (hc : ¬ c) (h : Dw b Q) : Dw (if c then a else b) Q := by rw [if_neg hc]; exact h
theorem Dw.ite {α : Type} {c : Prop} {_d : Decidable c} {a b : Option α} {Q : α → Prop} (h : c → Dw a Q) (g : ¬ c → Dw b Q) : Dw (if c then a else b) Q := by
  by_cases hc : c
  · exact Dw.pos hc (h hc)
  · exact Dw.neg hc (g hc)
theorem Dw.of {α : Type} {o : Option α} {r : α} {Q : α → Prop} (e : o = Option.some r) (h : Q r) : Dw o Q := ⟨r, e, h⟩
theorem rd_mem {xs : List Int} {i : Int} (h0 : 0 ≤ i) (h1 : i < xs.length) : rd xs i ∈ xs := by
  obtain ⟨n, rfl⟩ := Int.eq_ofNat_of_zero_le h0
  rw [rdN xs n (by omega)]
  exact List.getElem_mem _
theorem rd_byte {b : List Int} (hb : ∀ x ∈ b, 0 ≤ x ∧ x ≤ 255) (i : Int) : 0 ≤ rd b i ∧ rd b i ≤ 255 := by
  unfold rd
  rw [List.getD_eq_getElem?_getD]
  cases h : b[i.toNat]? with
  | none => simp
  | some v => exact hb v (List.mem_of_getElem? h)
theorem xor_i64 (a b : Int) (ha : 0 ≤ a) (ha' : a < 4611686018427387904) (hb : 0 ≤ b) (hb' : b < 4611686018427387904) : 0 ≤ Go.bits .xor .i64 a b := by
  obtain ⟨a, rfl⟩ := Int.eq_ofNat_of_zero_le ha
  obtain ⟨b, rfl⟩ := Int.eq_ofNat_of_zero_le hb
  have hx : a ^^^ b < 2 ^ 62 := Nat.xor_lt_two_pow (by omega) (by omega)
  have h1 : (BitVec.ofInt 64 (a : Int)).toNat = a := by
    rw [BitVec.ofInt_natCast, BitVec.toNat_ofNat]; exact Nat.mod_eq_of_lt (by omega)
  have h2 : (BitVec.ofInt 64 (b : Int)).toNat = b := by
    rw [BitVec.ofInt_natCast, BitVec.toNat_ofNat]; exact Nat.mod_eq_of_lt (by omega)
  show 0 ≤ IntKind.i64.wrap ((BitVec.ofInt 64 (a : Int) ^^^ BitVec.ofInt 64 (b : Int)).toNat : Int)
  rw [BitVec.toNat_xor, h1, h2]
  have : IntKind.i64.wrap ((a ^^^ b : Nat) : Int) = ((a ^^^ b : Nat) : Int) := by
    simp [IntKind.wrap, IntKind.bits, IntKind.signed]
    omega
  rw [this]
  omega
def Bytes (b : List Int) : Prop := (∀ x ∈ b, 0 ≤ x ∧ x ≤ 255) ∧ b.length ≤ 2000
/-- What a drawn number is: 0, or below the bound. -/
def PickOk (n : Int) (p : Int) (r : Int × Int) : Prop := r.2 = p + 1 ∧ 0 ≤ r.1 ∧ (1 ≤ n → r.1 < n)
end Go.Proofs.YtgdcnlmhdbdijaaW.PrintWords
