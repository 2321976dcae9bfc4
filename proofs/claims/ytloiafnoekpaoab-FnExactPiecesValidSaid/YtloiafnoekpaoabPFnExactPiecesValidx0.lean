/- Laid by a program of this session out of the translation: functions, their contracts, the row. Lean checks it. -/
import Derived.Test.YtloiafnoekpaoabProg
import Derived.Below
import Derived.Deep.Draws
import Derived.Deep.AppendLies
import Derived.Maps.AppendAt
import Derived.OwnWalk
import Derived.Laws.BytesArg
import Derived.Laws.MakeOwn
import Derived.Laws.OwnMore
import Derived.Deep.OwnRows
import Derived.Tactics
import Derived.Lib.ConvBytes
import Derived.Laws.Slices
import Derived.WalkKit
import Derived.KernelRfl
import Derived.RowKit3
import Derived.Deep.LoopGhost
import Derived.Deep.QuietTactic
import Derived.BigQuiet
import Derived.WideLaws
import Derived.Deep.DeepCutAuto
import Derived.Deep.CutBlock
import Derived.Deep.RegionHeld3
import Derived.Laws.Rows
import Derived.Lib.AppendStr
import Derived.ArgAppend
import Derived.Laws.IdiomCopy
import Derived.OrdersHeld
import Derived.Laws.BitsLemmas
import Derived.RowKit
import Derived.Test.YtloiafnoekpaoabK
import Derived.Test.YtloiafnoekpaoabWWords
import Derived.Test.YtloiafnoekpaoabWLast
import Derived.Test.YtloiafnoekpaoabWTab
import Derived.Test.YtloiafnoekpaoabWFour
import Derived.Test.YtloiafnoekpaoabWQPut
import Derived.Test.YtloiafnoekpaoabWApart
import Derived.Test.YtloiafnoekpaoabWArr
import Derived.Test.YtloiafnoekpaoabWZeros
import Derived.Test.YtloiafnoekpaoabWFoot
import Derived.Test.YtloiafnoekpaoabWKept
import Derived.Test.YtloiafnoekpaoabWShare
import Derived.Test.YtloiafnoekpaoabWN
import Derived.Test.YtloiafnoekpaoabWFootNe
import Derived.Test.YtloiafnoekpaoabWAt
import Derived.Test.YtloiafnoekpaoabWEqStruct
import Derived.Test.YtloiafnoekpaoabWRepsOne
import Derived.Test.YtloiafnoekpaoabWInv
import Derived.Test.YtloiafnoekpaoabWInvWords
import Derived.Test.YtloiafnoekpaoabWGuard
import Derived.Test.YtloiafnoekpaoabWNEv
import Derived.Test.YtloiafnoekpaoabWMore
namespace Go.Proofs.Ytloiafnoekpaoab.PFnExactPiecesValid
open Go.RowKit Go.Proofs.YtloiafnoekpaoabW.PrintWords Go.Proofs.YtloiafnoekpaoabW.PrintLast Go.Proofs.YtloiafnoekpaoabW.PrintMore
theorem z0_0 {p : Prop} (h : p := by have hq := hc 0 _ rfl; rwa [Nat.mul_one, Nat.add_zero] at hq) : p := h
theorem z0_1 {p : Prop} (h : p := by rw [← add_field _ _ 1 (by omega)]; exact hc 1 _ rfl) : p := h
theorem z0_2 {p : Prop} (h : p := by rw [← add_field _ _ 2 (by omega)]; exact hc 2 _ rfl) : p := h
attribute [local go_sem] max2_int min2_int max_two min_two max_three min_three max_four min_four   -- for this text's walks alone
set_option linter.unusedVariables false
set_option linter.unusedSimpArgs false



def errW : Option Int → Value
 | none => .nilIface
 | some c => .iface 0 (.int .i64 c)
theorem errW_none : errW none = .nilIface := rfl
theorem errW_some (c : Int) : errW (some c) = .iface 0 (.int .i64 c) := rfl

theorem info3 : (Try.prog.info? 3).map (fun i => (i.zero, i.size, i.bytes)) = some (some (.int .i64 0), 1, 8) := by kernel_rfl
theorem info4 : (Try.prog.info? 4).map (fun i => (i.zero, i.size, i.bytes)) = some (some (.bool false), 1, 1) := by kernel_rfl
theorem info119 : (Try.prog.info? 119).map (fun i => (i.zero, i.size, i.bytes)) = some (some (.agg #[(.int .i64 0), (.slice none 0 0), (.slice none 0 0), (.slice none 0 0), (.slice none 0 0)]), 5, 104) := by kernel_rfl
theorem info122 : (Try.prog.info? 122).map (fun i => (i.zero, i.size, i.bytes)) = some (some (.agg #[(.int .i64 0), (.int .i64 0), (.int .i64 0)]), 3, 24) := by kernel_rfl
-- the values' own types
/-! #### struct type 157 -/
structure S157 where
 f0 : Int
 f1 : Int
 f2 : Int
def z157 : S157 := ⟨(0 : Int), (0 : Int), (0 : Int)⟩
def k157 : Kd S157 := Kd.iso (Kd.pair (Kd.int .i64) (Kd.pair (Kd.int .i64) (Kd.int .i64))) (fun x : S157 => (x.f0, x.f1, x.f2))
theorem k157_open {w : World} {x : S157} {cs : List Value} (h : k157.K w x cs) : cs = [.int .i64 x.f0, .int .i64 x.f1, .int .i64 x.f2] := by
 obtain ⟨_, _, rfl, rfl, ⟨_, _, rfl, rfl, rfl⟩⟩ := h
 exact rfl
theorem k157_openM {w : World} {base : Nat} {ok : Nat → Prop} {x : S157} {cs : List Value} (h : k157.M w base ok x cs) : cs = [.int .i64 x.f0, .int .i64 x.f1, .int .i64 x.f2] := by
 obtain ⟨_, _, rfl, rfl, ⟨_, _, rfl, rfl, rfl⟩⟩ := h
 exact rfl
theorem k157_mk (w : World) (x : S157)  : k157.K w x [.int .i64 x.f0, .int .i64 x.f1, .int .i64 x.f2] := ⟨[.int .i64 x.f0], [.int .i64 x.f1, .int .i64 x.f2], rfl, rfl, ⟨[.int .i64 x.f1], [.int .i64 x.f2], rfl, rfl, rfl⟩⟩
theorem k157_mkM (w : World) (base : Nat) (ok : Nat → Prop) (x : S157)  : k157.M w base ok x [.int .i64 x.f0, .int .i64 x.f1, .int .i64 x.f2] := ⟨[.int .i64 x.f0], [.int .i64 x.f1, .int .i64 x.f2], rfl, rfl, ⟨[.int .i64 x.f1], [.int .i64 x.f2], rfl, rfl, rfl⟩⟩
def rd_T157 (xs : List S157) (i : Int) : S157 := xs.getD i.toNat z157
theorem at_T157 {w : World} {A : Option Addr} {n : Nat} {xs : List S157} (h : Kd.C k157 w A n xs) (i : Int) (h0 : 0 ≤ i) (h1 : i < n) : ∃ ad , A = some ad ∧ w.cell? (ad.add (i.toNat * 3)) = some (.int .i64 (rd_T157 xs i).f0) ∧ w.cell? ⟨(ad.add (i.toNat * 3)).block, (ad.add (i.toNat * 3)).off + 1, none⟩ = some (.int .i64 (rd_T157 xs i).f1) ∧ w.cell? ⟨(ad.add (i.toNat * 3)).block, (ad.add (i.toNat * 3)).off + 2, none⟩ = some (.int .i64 (rd_T157 xs i).f2) := by
 obtain ⟨ad, c, e, _, hK, hc0⟩ := Kd.C_get h z157 i h0 h1
 have hc : ∀ j u, c[j]? = some u → w.cell? (ad.add (i.toNat * 3 + j)) = some u := hc0
 obtain rfl := k157_open hK
 exact ⟨ad, e, hc 0 _ rfl, z0_1, z0_2⟩

def rd_L3 (xs : List (List Int)) (i : Int) : (List Int) := xs.getD i.toNat ([] : List Int)
theorem at_L3 {w : World} {A : Option Addr} {n : Nat} {xs : List (List Int)} (h : Kd.C (Kd.slice 3 (Kd.int .i64)) w A n xs) (i : Int) (h0 : 0 ≤ i) (h1 : i < n) : ∃ ad A0 c0, A = some ad ∧ w.cell? (ad.add i.toNat) = some (.slice A0 (rd_L3 xs i).length c0) ∧ (rd_L3 xs i).length ≤ c0 ∧ (Kd.int .i64).C w A0 (rd_L3 xs i).length (rd_L3 xs i) := by
 obtain ⟨ad, c, e, _, hK, hc0⟩ := Kd.C_get h ([] : List Int) i h0 h1
 have hc : ∀ j u, c[j]? = some u → w.cell? (ad.add (i.toNat * 1 + j)) = some u := hc0
 obtain ⟨A0, c0, rfl, l0, g0⟩ := hK
 exact ⟨ad, A0, c0, e, z0_0, l0, g0⟩

def rd_L4 (xs : List (List Bool)) (i : Int) : (List Bool) := xs.getD i.toNat ([] : List Bool)
theorem at_L4 {w : World} {A : Option Addr} {n : Nat} {xs : List (List Bool)} (h : Kd.C (Kd.slice 4 Kd.bool) w A n xs) (i : Int) (h0 : 0 ≤ i) (h1 : i < n) : ∃ ad A0 c0, A = some ad ∧ w.cell? (ad.add i.toNat) = some (.slice A0 (rd_L4 xs i).length c0) ∧ (rd_L4 xs i).length ≤ c0 ∧ Kd.bool.C w A0 (rd_L4 xs i).length (rd_L4 xs i) := by
 obtain ⟨ad, c, e, _, hK, hc0⟩ := Kd.C_get h ([] : List Bool) i h0 h1
 have hc : ∀ j u, c[j]? = some u → w.cell? (ad.add (i.toNat * 1 + j)) = some u := hc0
 obtain ⟨A0, c0, rfl, l0, g0⟩ := hK
 exact ⟨ad, A0, c0, e, z0_0, l0, g0⟩

def rd_L5 (xs : List (List S157)) (i : Int) : (List S157) := xs.getD i.toNat ([] : List S157)
theorem at_L5 {w : World} {A : Option Addr} {n : Nat} {xs : List (List S157)} (h : Kd.C (Kd.slice 157 k157) w A n xs) (i : Int) (h0 : 0 ≤ i) (h1 : i < n) : ∃ ad A0 c0, A = some ad ∧ w.cell? (ad.add i.toNat) = some (.slice A0 (rd_L5 xs i).length c0) ∧ (rd_L5 xs i).length ≤ c0 ∧ k157.C w A0 (rd_L5 xs i).length (rd_L5 xs i) := by
 obtain ⟨ad, c, e, _, hK, hc0⟩ := Kd.C_get h ([] : List S157) i h0 h1
 have hc : ∀ j u, c[j]? = some u → w.cell? (ad.add (i.toNat * 1 + j)) = some u := hc0
 obtain ⟨A0, c0, rfl, l0, g0⟩ := hK
 exact ⟨ad, A0, c0, e, z0_0, l0, g0⟩

/-! #### struct type 117 -/
structure S117 where
 f0 : Int
 f1 : (List Int)
 f2 : (List Int)
 f3 : (List Bool)
 f4 : (List S157)
def z117 : S117 := ⟨(0 : Int), ([] : List Int), ([] : List Int), ([] : List Bool), ([] : List S157)⟩
def k117 : Kd S117 := Kd.iso (Kd.pair (Kd.int .i64) (Kd.pair (Kd.slice 3 (Kd.int .i64)) (Kd.pair (Kd.slice 3 (Kd.int .i64)) (Kd.pair (Kd.slice 4 Kd.bool) (Kd.slice 157 k157))))) (fun x : S117 => (x.f0, x.f1, x.f2, x.f3, x.f4))
theorem k117_open {w : World} {x : S117} {cs : List Value} (h : k117.K w x cs) : ∃ A1 c1 A2 c2 A3 c3 A4 c4, cs = [.int .i64 x.f0, .slice A1 x.f1.length c1, .slice A2 x.f2.length c2, .slice A3 x.f3.length c3, .slice A4 x.f4.length c4] ∧ x.f1.length ≤ c1 ∧ (Kd.int .i64).C w A1 x.f1.length x.f1 ∧ x.f2.length ≤ c2 ∧ (Kd.int .i64).C w A2 x.f2.length x.f2 ∧ x.f3.length ≤ c3 ∧ Kd.bool.C w A3 x.f3.length x.f3 ∧ x.f4.length ≤ c4 ∧ k157.C w A4 x.f4.length x.f4 := by
 obtain ⟨_, _, rfl, rfl, ⟨_, _, rfl, ⟨A1, c1, rfl, l1, g1⟩, ⟨_, _, rfl, ⟨A2, c2, rfl, l2, g2⟩, ⟨_, _, rfl, ⟨A3, c3, rfl, l3, g3⟩, ⟨A4, c4, rfl, l4, g4⟩⟩⟩⟩⟩ := h
 exact ⟨A1, c1, A2, c2, A3, c3, A4, c4, rfl, l1, g1, l2, g2, l3, g3, l4, g4⟩
theorem k117_openM {w : World} {base : Nat} {ok : Nat → Prop} {x : S117} {cs : List Value} (h : k117.M w base ok x cs) : ∃ v1 v2 v3 v4, cs = [.int .i64 x.f0, v1, v2, v3, v4] ∧ (Kd.int .i64).R 3 w base ok v1 x.f1 ∧ (Kd.int .i64).R 3 w base ok v2 x.f2 ∧ Kd.bool.R 4 w base ok v3 x.f3 ∧ k157.R 157 w base ok v4 x.f4 := by
 obtain ⟨_, _, rfl, rfl, ⟨_, _, rfl, ⟨v1, rfl, g1⟩, ⟨_, _, rfl, ⟨v2, rfl, g2⟩, ⟨_, _, rfl, ⟨v3, rfl, g3⟩, ⟨v4, rfl, g4⟩⟩⟩⟩⟩ := h
 exact ⟨v1, v2, v3, v4, rfl, g1, g2, g3, g4⟩
theorem k117_mk (w : World) (x : S117) {A1 : Option Addr} {c1 : Nat} (l1 : x.f1.length ≤ c1) (g1 : (Kd.int .i64).C w A1 x.f1.length x.f1) {A2 : Option Addr} {c2 : Nat} (l2 : x.f2.length ≤ c2) (g2 : (Kd.int .i64).C w A2 x.f2.length x.f2) {A3 : Option Addr} {c3 : Nat} (l3 : x.f3.length ≤ c3) (g3 : Kd.bool.C w A3 x.f3.length x.f3) {A4 : Option Addr} {c4 : Nat} (l4 : x.f4.length ≤ c4) (g4 : k157.C w A4 x.f4.length x.f4) : k117.K w x [.int .i64 x.f0, .slice A1 x.f1.length c1, .slice A2 x.f2.length c2, .slice A3 x.f3.length c3, .slice A4 x.f4.length c4] := ⟨[.int .i64 x.f0], [.slice A1 x.f1.length c1, .slice A2 x.f2.length c2, .slice A3 x.f3.length c3, .slice A4 x.f4.length c4], rfl, rfl, ⟨[.slice A1 x.f1.length c1], [.slice A2 x.f2.length c2, .slice A3 x.f3.length c3, .slice A4 x.f4.length c4], rfl, ⟨A1, c1, rfl, l1, g1⟩, ⟨[.slice A2 x.f2.length c2], [.slice A3 x.f3.length c3, .slice A4 x.f4.length c4], rfl, ⟨A2, c2, rfl, l2, g2⟩, ⟨[.slice A3 x.f3.length c3], [.slice A4 x.f4.length c4], rfl, ⟨A3, c3, rfl, l3, g3⟩, ⟨A4, c4, rfl, l4, g4⟩⟩⟩⟩⟩
theorem k117_mkM (w : World) (base : Nat) (ok : Nat → Prop) (x : S117) {v1 : Value} (g1 : (Kd.int .i64).R 3 w base ok v1 x.f1) {v2 : Value} (g2 : (Kd.int .i64).R 3 w base ok v2 x.f2) {v3 : Value} (g3 : Kd.bool.R 4 w base ok v3 x.f3) {v4 : Value} (g4 : k157.R 157 w base ok v4 x.f4) : k117.M w base ok x [.int .i64 x.f0, v1, v2, v3, v4] := ⟨[.int .i64 x.f0], [v1, v2, v3, v4], rfl, rfl, ⟨[v1], [v2, v3, v4], rfl, ⟨v1, rfl, g1⟩, ⟨[v2], [v3, v4], rfl, ⟨v2, rfl, g2⟩, ⟨[v3], [v4], rfl, ⟨v3, rfl, g3⟩, ⟨v4, rfl, g4⟩⟩⟩⟩⟩
def rd_T117 (xs : List S117) (i : Int) : S117 := xs.getD i.toNat z117
theorem at_T117 {w : World} {A : Option Addr} {n : Nat} {xs : List S117} (h : Kd.C k117 w A n xs) (i : Int) (h0 : 0 ≤ i) (h1 : i < n) : ∃ ad A1 c1 A2 c2 A3 c3 A4 c4, A = some ad ∧ w.cell? (ad.add (i.toNat * 5)) = some (.int .i64 (rd_T117 xs i).f0) ∧ w.cell? ⟨(ad.add (i.toNat * 5)).block, (ad.add (i.toNat * 5)).off + 1, none⟩ = some (.slice A1 (rd_T117 xs i).f1.length c1) ∧ w.cell? ⟨(ad.add (i.toNat * 5)).block, (ad.add (i.toNat * 5)).off + 2, none⟩ = some (.slice A2 (rd_T117 xs i).f2.length c2) ∧ w.cell? ⟨(ad.add (i.toNat * 5)).block, (ad.add (i.toNat * 5)).off + 3, none⟩ = some (.slice A3 (rd_T117 xs i).f3.length c3) ∧ w.cell? ⟨(ad.add (i.toNat * 5)).block, (ad.add (i.toNat * 5)).off + 4, none⟩ = some (.slice A4 (rd_T117 xs i).f4.length c4) ∧ (rd_T117 xs i).f1.length ≤ c1 ∧ (Kd.int .i64).C w A1 (rd_T117 xs i).f1.length (rd_T117 xs i).f1 ∧ (rd_T117 xs i).f2.length ≤ c2 ∧ (Kd.int .i64).C w A2 (rd_T117 xs i).f2.length (rd_T117 xs i).f2 ∧ (rd_T117 xs i).f3.length ≤ c3 ∧ Kd.bool.C w A3 (rd_T117 xs i).f3.length (rd_T117 xs i).f3 ∧ (rd_T117 xs i).f4.length ≤ c4 ∧ k157.C w A4 (rd_T117 xs i).f4.length (rd_T117 xs i).f4 := by
 obtain ⟨ad, c, e, _, hK, hc0⟩ := Kd.C_get h z117 i h0 h1
 have hc : ∀ j u, c[j]? = some u → w.cell? (ad.add (i.toNat * 5 + j)) = some u := hc0
 obtain ⟨A1, c1, A2, c2, A3, c3, A4, c4, rfl, l1, g1, l2, g2, l3, g3, l4, g4⟩ := k117_open hK
 exact ⟨ad, A1, c1, A2, c2, A3, c3, A4, c4, e, hc 0 _ rfl, z0_1, z0_2, by rw [← add_field _ _ 3 (by omega)]; exact hc 3 _ rfl, by rw [← add_field _ _ 4 (by omega)]; exact hc 4 _ rfl, l1, g1, l2, g2, l3, g3, l4, g4⟩

/-! #### struct type 122 -/
structure S122 where
 f0 : Int
 f1 : Int
 f2 : Int
def z122 : S122 := ⟨(0 : Int), (0 : Int), (0 : Int)⟩
def k122 : Kd S122 := Kd.iso (Kd.pair (Kd.int .i64) (Kd.pair (Kd.int .i64) (Kd.int .i64))) (fun x : S122 => (x.f0, x.f1, x.f2))
theorem k122_open {w : World} {x : S122} {cs : List Value} (h : k122.K w x cs) : cs = [.int .i64 x.f0, .int .i64 x.f1, .int .i64 x.f2] := by
 obtain ⟨_, _, rfl, rfl, ⟨_, _, rfl, rfl, rfl⟩⟩ := h
 exact rfl
theorem k122_openM {w : World} {base : Nat} {ok : Nat → Prop} {x : S122} {cs : List Value} (h : k122.M w base ok x cs) : cs = [.int .i64 x.f0, .int .i64 x.f1, .int .i64 x.f2] := by
 obtain ⟨_, _, rfl, rfl, ⟨_, _, rfl, rfl, rfl⟩⟩ := h
 exact rfl
theorem k122_mk (w : World) (x : S122)  : k122.K w x [.int .i64 x.f0, .int .i64 x.f1, .int .i64 x.f2] := ⟨[.int .i64 x.f0], [.int .i64 x.f1, .int .i64 x.f2], rfl, rfl, ⟨[.int .i64 x.f1], [.int .i64 x.f2], rfl, rfl, rfl⟩⟩
theorem k122_mkM (w : World) (base : Nat) (ok : Nat → Prop) (x : S122)  : k122.M w base ok x [.int .i64 x.f0, .int .i64 x.f1, .int .i64 x.f2] := ⟨[.int .i64 x.f0], [.int .i64 x.f1, .int .i64 x.f2], rfl, rfl, ⟨[.int .i64 x.f1], [.int .i64 x.f2], rfl, rfl, rfl⟩⟩
def rd_T122 (xs : List S122) (i : Int) : S122 := xs.getD i.toNat z122
theorem at_T122 {w : World} {A : Option Addr} {n : Nat} {xs : List S122} (h : Kd.C k122 w A n xs) (i : Int) (h0 : 0 ≤ i) (h1 : i < n) : ∃ ad , A = some ad ∧ w.cell? (ad.add (i.toNat * 3)) = some (.int .i64 (rd_T122 xs i).f0) ∧ w.cell? ⟨(ad.add (i.toNat * 3)).block, (ad.add (i.toNat * 3)).off + 1, none⟩ = some (.int .i64 (rd_T122 xs i).f1) ∧ w.cell? ⟨(ad.add (i.toNat * 3)).block, (ad.add (i.toNat * 3)).off + 2, none⟩ = some (.int .i64 (rd_T122 xs i).f2) := by
 obtain ⟨ad, c, e, _, hK, hc0⟩ := Kd.C_get h z122 i h0 h1
 have hc : ∀ j u, c[j]? = some u → w.cell? (ad.add (i.toNat * 3 + j)) = some u := hc0
 obtain rfl := k122_open hK
 exact ⟨ad, e, hc 0 _ rfl, z0_1, z0_2⟩

def rd_L8 (xs : List (List S122)) (i : Int) : (List S122) := xs.getD i.toNat ([] : List S122)
theorem at_L8 {w : World} {A : Option Addr} {n : Nat} {xs : List (List S122)} (h : Kd.C (Kd.slice 122 k122) w A n xs) (i : Int) (h0 : 0 ≤ i) (h1 : i < n) : ∃ ad A0 c0, A = some ad ∧ w.cell? (ad.add i.toNat) = some (.slice A0 (rd_L8 xs i).length c0) ∧ (rd_L8 xs i).length ≤ c0 ∧ k122.C w A0 (rd_L8 xs i).length (rd_L8 xs i) := by
 obtain ⟨ad, c, e, _, hK, hc0⟩ := Kd.C_get h ([] : List S122) i h0 h1
 have hc : ∀ j u, c[j]? = some u → w.cell? (ad.add (i.toNat * 1 + j)) = some u := hc0
 obtain ⟨A0, c0, rfl, l0, g0⟩ := hK
 exact ⟨ad, A0, c0, e, z0_0, l0, g0⟩

/-! #### struct type 119 -/
structure S119 where
 f0 : Int
 f1 : (List Int)
 f2 : (List Int)
 f3 : (List Bool)
 f4 : (List S122)
def z119 : S119 := ⟨(0 : Int), ([] : List Int), ([] : List Int), ([] : List Bool), ([] : List S122)⟩
def k119 : Kd S119 := Kd.iso (Kd.pair (Kd.int .i64) (Kd.pair (Kd.slice 3 (Kd.int .i64)) (Kd.pair (Kd.slice 3 (Kd.int .i64)) (Kd.pair (Kd.slice 4 Kd.bool) (Kd.slice 122 k122))))) (fun x : S119 => (x.f0, x.f1, x.f2, x.f3, x.f4))
theorem k119_open {w : World} {x : S119} {cs : List Value} (h : k119.K w x cs) : ∃ A1 c1 A2 c2 A3 c3 A4 c4, cs = [.int .i64 x.f0, .slice A1 x.f1.length c1, .slice A2 x.f2.length c2, .slice A3 x.f3.length c3, .slice A4 x.f4.length c4] ∧ x.f1.length ≤ c1 ∧ (Kd.int .i64).C w A1 x.f1.length x.f1 ∧ x.f2.length ≤ c2 ∧ (Kd.int .i64).C w A2 x.f2.length x.f2 ∧ x.f3.length ≤ c3 ∧ Kd.bool.C w A3 x.f3.length x.f3 ∧ x.f4.length ≤ c4 ∧ k122.C w A4 x.f4.length x.f4 := by
 obtain ⟨_, _, rfl, rfl, ⟨_, _, rfl, ⟨A1, c1, rfl, l1, g1⟩, ⟨_, _, rfl, ⟨A2, c2, rfl, l2, g2⟩, ⟨_, _, rfl, ⟨A3, c3, rfl, l3, g3⟩, ⟨A4, c4, rfl, l4, g4⟩⟩⟩⟩⟩ := h
 exact ⟨A1, c1, A2, c2, A3, c3, A4, c4, rfl, l1, g1, l2, g2, l3, g3, l4, g4⟩
theorem k119_openM {w : World} {base : Nat} {ok : Nat → Prop} {x : S119} {cs : List Value} (h : k119.M w base ok x cs) : ∃ v1 v2 v3 v4, cs = [.int .i64 x.f0, v1, v2, v3, v4] ∧ (Kd.int .i64).R 3 w base ok v1 x.f1 ∧ (Kd.int .i64).R 3 w base ok v2 x.f2 ∧ Kd.bool.R 4 w base ok v3 x.f3 ∧ k122.R 122 w base ok v4 x.f4 := by
 obtain ⟨_, _, rfl, rfl, ⟨_, _, rfl, ⟨v1, rfl, g1⟩, ⟨_, _, rfl, ⟨v2, rfl, g2⟩, ⟨_, _, rfl, ⟨v3, rfl, g3⟩, ⟨v4, rfl, g4⟩⟩⟩⟩⟩ := h
 exact ⟨v1, v2, v3, v4, rfl, g1, g2, g3, g4⟩
theorem k119_mk (w : World) (x : S119) {A1 : Option Addr} {c1 : Nat} (l1 : x.f1.length ≤ c1) (g1 : (Kd.int .i64).C w A1 x.f1.length x.f1) {A2 : Option Addr} {c2 : Nat} (l2 : x.f2.length ≤ c2) (g2 : (Kd.int .i64).C w A2 x.f2.length x.f2) {A3 : Option Addr} {c3 : Nat} (l3 : x.f3.length ≤ c3) (g3 : Kd.bool.C w A3 x.f3.length x.f3) {A4 : Option Addr} {c4 : Nat} (l4 : x.f4.length ≤ c4) (g4 : k122.C w A4 x.f4.length x.f4) : k119.K w x [.int .i64 x.f0, .slice A1 x.f1.length c1, .slice A2 x.f2.length c2, .slice A3 x.f3.length c3, .slice A4 x.f4.length c4] := ⟨[.int .i64 x.f0], [.slice A1 x.f1.length c1, .slice A2 x.f2.length c2, .slice A3 x.f3.length c3, .slice A4 x.f4.length c4], rfl, rfl, ⟨[.slice A1 x.f1.length c1], [.slice A2 x.f2.length c2, .slice A3 x.f3.length c3, .slice A4 x.f4.length c4], rfl, ⟨A1, c1, rfl, l1, g1⟩, ⟨[.slice A2 x.f2.length c2], [.slice A3 x.f3.length c3, .slice A4 x.f4.length c4], rfl, ⟨A2, c2, rfl, l2, g2⟩, ⟨[.slice A3 x.f3.length c3], [.slice A4 x.f4.length c4], rfl, ⟨A3, c3, rfl, l3, g3⟩, ⟨A4, c4, rfl, l4, g4⟩⟩⟩⟩⟩
theorem k119_mkM (w : World) (base : Nat) (ok : Nat → Prop) (x : S119) {v1 : Value} (g1 : (Kd.int .i64).R 3 w base ok v1 x.f1) {v2 : Value} (g2 : (Kd.int .i64).R 3 w base ok v2 x.f2) {v3 : Value} (g3 : Kd.bool.R 4 w base ok v3 x.f3) {v4 : Value} (g4 : k122.R 122 w base ok v4 x.f4) : k119.M w base ok x [.int .i64 x.f0, v1, v2, v3, v4] := ⟨[.int .i64 x.f0], [v1, v2, v3, v4], rfl, rfl, ⟨[v1], [v2, v3, v4], rfl, ⟨v1, rfl, g1⟩, ⟨[v2], [v3, v4], rfl, ⟨v2, rfl, g2⟩, ⟨[v3], [v4], rfl, ⟨v3, rfl, g3⟩, ⟨v4, rfl, g4⟩⟩⟩⟩⟩
def rd_T119 (xs : List S119) (i : Int) : S119 := xs.getD i.toNat z119
theorem at_T119 {w : World} {A : Option Addr} {n : Nat} {xs : List S119} (h : Kd.C k119 w A n xs) (i : Int) (h0 : 0 ≤ i) (h1 : i < n) : ∃ ad A1 c1 A2 c2 A3 c3 A4 c4, A = some ad ∧ w.cell? (ad.add (i.toNat * 5)) = some (.int .i64 (rd_T119 xs i).f0) ∧ w.cell? ⟨(ad.add (i.toNat * 5)).block, (ad.add (i.toNat * 5)).off + 1, none⟩ = some (.slice A1 (rd_T119 xs i).f1.length c1) ∧ w.cell? ⟨(ad.add (i.toNat * 5)).block, (ad.add (i.toNat * 5)).off + 2, none⟩ = some (.slice A2 (rd_T119 xs i).f2.length c2) ∧ w.cell? ⟨(ad.add (i.toNat * 5)).block, (ad.add (i.toNat * 5)).off + 3, none⟩ = some (.slice A3 (rd_T119 xs i).f3.length c3) ∧ w.cell? ⟨(ad.add (i.toNat * 5)).block, (ad.add (i.toNat * 5)).off + 4, none⟩ = some (.slice A4 (rd_T119 xs i).f4.length c4) ∧ (rd_T119 xs i).f1.length ≤ c1 ∧ (Kd.int .i64).C w A1 (rd_T119 xs i).f1.length (rd_T119 xs i).f1 ∧ (rd_T119 xs i).f2.length ≤ c2 ∧ (Kd.int .i64).C w A2 (rd_T119 xs i).f2.length (rd_T119 xs i).f2 ∧ (rd_T119 xs i).f3.length ≤ c3 ∧ Kd.bool.C w A3 (rd_T119 xs i).f3.length (rd_T119 xs i).f3 ∧ (rd_T119 xs i).f4.length ≤ c4 ∧ k122.C w A4 (rd_T119 xs i).f4.length (rd_T119 xs i).f4 := by
 obtain ⟨ad, c, e, _, hK, hc0⟩ := Kd.C_get h z119 i h0 h1
 have hc : ∀ j u, c[j]? = some u → w.cell? (ad.add (i.toNat * 5 + j)) = some u := hc0
 obtain ⟨A1, c1, A2, c2, A3, c3, A4, c4, rfl, l1, g1, l2, g2, l3, g3, l4, g4⟩ := k119_open hK
 exact ⟨ad, A1, c1, A2, c2, A3, c3, A4, c4, e, hc 0 _ rfl, z0_1, z0_2, by rw [← add_field _ _ 3 (by omega)]; exact hc 3 _ rfl, by rw [← add_field _ _ 4 (by omega)]; exact hc 4 _ rfl, l1, g1, l2, g2, l3, g3, l4, g4⟩

end Go.Proofs.Ytloiafnoekpaoab.PFnExactPiecesValid
