/- Small laws on blocks of memory and on yes-no answers that the walks of this session use. -/
import Derived.Laws.NewBlocks
import Derived.Laws.CopyOwn
import Derived.LoopTactic
import Derived.RangeFuncNested
import Derived.RangeFuncBound
import Derived.RangeFuncCalls
import Derived.RangeFuncLeaves
import Derived.RangeFuncBox
import Derived.RangeFuncWrites
import Derived.Shelf.Abstract
import Derived.OwnWalkIn
import Derived.TacticsInMore
import Derived.LoopNIn
import Derived.LoopIn
import Derived.Test.YtgdcnlmhdbdijaaWWords
import Derived.Test.YtgdcnlmhdbdijaaWMore
import Derived.Test.YtgdcnlmhdbdijaaWLast
namespace Go.Proofs.YtgdcnlmhdbdijaaW.PrintWords
open Go.RowKit
theorem kk_blk_cell {w : World} {g : Nat} {cs : Array Value} {t : Nat} (h : w.heap[g]? = some (.cells cs t (0, 0))) (i : Nat) : w.cell? ⟨g, i, none⟩ = cs[i]? := by
  simp [World.cell?, h]
theorem kk_blk_frozen {w : World} {g : Nat} {cs : Array Value} {t : Nat} (h : w.heap[g]? = some (.cells cs t (0, 0))) (i : Nat) : w.frozen? ⟨g, i, none⟩ = false := by
  simp [World.frozen?, h]
theorem kk_blk_set {w : World} {g : Nat} {cs : Array Value} {t : Nat} (h : w.heap[g]? = some (.cells cs t (0, 0))) (i : Nat) (v : Value) : (w.setCell ⟨g, i, none⟩ v).heap[g]? = some (.cells (cs.setIfInBounds i v) t (0, 0)) := by
  simp [World.setCell, Array.getElem?_modify, h]

theorem kk_setRow_other (w : World) (g k : Nat) (cs : Array Value) (h : k ≠ g) : (w.setRow g cs).heap[k]? = w.heap[k]? := by
  simp only [World.setRow, Array.getElem?_modify]
  rw [if_neg (by omega)]
theorem kk_alloc_new (w : World) (n : Nat) (o : Obj) : ((w.drewN n).alloc o).heap[w.heap.size]? = some o := heap_alloc_new (w.drewN n) o

/-! ### answers that are decided -/
theorem o_and (p q : Prop) [Decidable p] [Decidable q] : (if p then some (decide q) else some false) = some (decide (p ∧ q)) := by by_cases p <;> simp_all
theorem o_nand (p q : Prop) [Decidable p] [Decidable q] : (if p then some false else some (decide q)) = some (decide (¬ p ∧ q)) := by by_cases p <;> simp_all
theorem o_or (p q : Prop) [Decidable p] [Decidable q] : (if p then some true else some (decide q)) = some (decide (p ∨ q)) := by by_cases p <;> simp_all
theorem o_imp (p q : Prop) [Decidable p] [Decidable q] : (if p then some (decide q) else some true) = some (decide (p → q)) := by by_cases p <;> simp_all
theorem o_tf (p : Prop) [Decidable p] : (if p then some true else some false) = some (decide p) := by by_cases p <;> simp_all
theorem o_ft (p : Prop) [Decidable p] : (if p then some false else some true) = some (decide (¬ p)) := by by_cases p <;> simp_all
theorem o_ite (c p q : Prop) [Decidable c] [Decidable p] [Decidable q] : (if c then some (decide p) else some (decide q)) = some (decide ((c → p) ∧ (¬ c → q))) := by by_cases c <;> simp_all
theorem o_beq (a b : Int) : (a == b) = decide (a = b) := by by_cases a = b <;> simp_all
theorem o_bne (a b : Int) : (a != b) = decide (a ≠ b) := by by_cases a = b <;> simp_all
theorem o_dand (p q : Prop) [Decidable p] [Decidable q] : (decide p && decide q) = decide (p ∧ q) := by by_cases p <;> simp_all
theorem o_dne (p q : Prop) [Decidable p] [Decidable q] : (¬ ((decide p != decide q) = true)) ↔ (p ↔ q) := by by_cases p <;> simp_all
end Go.Proofs.YtgdcnlmhdbdijaaW.PrintWords
namespace Go.Proofs.YtgdcnlmhdbdijaaW.PrintWords.Kd
set_option linter.unusedVariables false
open Go.RowKit Go.Proofs.YtgdcnlmhdbdijaaW.PrintWords
variable {P : Program} {ops : Array Oper} {Q : Exit → Act → World → Prop} {o : Oper} {rest : List Oper} {a : Act}
/-- make([]T, 0, n): no element, in a row of the call's own. -/
theorem R_cap {α : Type} (d : Kd α) {w0 W : World} (base e : Nat) (hgd : o.guard = none) {N : Tmp} (hd : o.dst = some N) (t : TypeId) (x y : Operand) (ho : o.op = .makeSlice t x y) (n : Int) (hx : a.eval x = .int .i64 0) (hy : a.eval y = .int .i64 n)
    (ht : P.underlying t = some (.slice e)) (z : Value) (bytes : Nat) (hinfo : (P.info? e).map (fun i => (i.zero, i.size, i.bytes)) = some (some z, d.sz, bytes)) (hz : z.cells.size = d.sz) (hs0 : 0 < d.sz) (hb0 : 0 < bytes)
    (z0 : α) {ok okp : Nat → Prop} (hzero : d.M W base okp z0 z.cells.toList) (hok : ∀ k, okp k → ok k) (hfresh : ok W.heap.size) (h0 : 0 ≤ n) (hl : n.toNat * bytes ≤ 281474976710656) (HB : Below base w0 W) (hbase : base ≤ W.heap.size)
    (h : ∀ v1 w1, d.R e w1 base ok v1 (List.replicate 0 z0) → Below base w0 w1 → W.grownBy w1 none → (∃ b, v1.ownBlock = some b ∧ W.heap.size ≤ b) → wpList P ops Q rest (a.put o.dst v1) w1) : wpList P ops Q (o :: rest) a W := by
  obtain ⟨m, rfl⟩ := Int.eq_ofNat_of_zero_le h0
  simp only [Int.toNat_natCast] at hl h
  obtain ⟨i0, hi, hzz⟩ := Option.map_eq_some_iff.1 hinfo
  simp only [Prod.mk.injEq] at hzz
  obtain ⟨hz0, hz1, hz2⟩ := hzz
  have hm : m ≤ 281474976710656 := Nat.le_trans (Nat.le_mul_of_pos_right _ hb0) hl
  have hr := run_make (P := P) W t e i0 z ht hi hz0 .i64 .i64 (0 : Int) (m : Int) (by omega) (by omega)
    (by
      have h3 : ((i0.bytes * m : Nat) : Int) ≤ 281474976710656 := by rw [hz2, Nat.mul_comm]; omega
      rwa [Int.natCast_mul] at h3) (by omega)
  simp only [Int.toNat_natCast, Int.toNat_zero] at hr
  rw [hz1] at hr
  have hrun : (execOp a.eval o).run P W = .ok (.value (.slice (some ⟨W.heap.size, 0, none⟩) 0 m)) (W.alloc (.cells (madeCells z.cells (m * d.sz)) e)) := by
    simp [execOp, ho, hx, hy, hr]
  refine event_run hgd hrun (h _ _ ⟨fun k hk => ?_, [], ?_, ?_⟩ (HB.alloc hbase _) (World.grownBy_alloc W _ none) ⟨W.heap.size, by simp [Value.ownBlock], Nat.le_refl _⟩)
  · have : W.heap.size = k := by simpa [Value.ownBlock] using hk
    subst this
    exact hfresh
  · exact ⟨by simp, .inr ⟨W.heap.size, m, madeCells z.cells (m * d.sz), rfl, hbase, heap_alloc_new W _, Nat.zero_le _, by unfold maxLen; omega, by simp [size_madeCells], by simp⟩⟩
  · exact Reps.none _ _
end Go.Proofs.YtgdcnlmhdbdijaaW.PrintWords.Kd
namespace Go.Proofs.YtgdcnlmhdbdijaaW.PrintLast
open Go.RowKit Go.Proofs.YtgdcnlmhdbdijaaW.PrintWords
/-- A call of a function value that captures nothing. -/
theorem goesT_ {P : Program} {ops : Array Oper} {Q : Exit → Act → World → Prop} {oi : Oper} {N : Option Tmp} {a : Act} {w : World} {K : Act → World → Prop} {f : FuncId} {fn : Func} {xs : Array Operand} {ts : Array TypeId} {x : Operand} (hx : a.eval x = .func (.func f) #[] #[]) (hf : P.funcs[f]? = some fn) (hname : (fn.name == "runtime.NumGoroutine") = false) (hb : fn.body.isSome = true) (args : Array Value)
    (hw : Region.wanted oi (yielded ops a.tmps) = true) (hN : oi.dst = N) (hop : oi.op = .call { callee := .value x, args := xs, argTypes := ts }) (hargs : xs.map a.eval = args)
    (h : Calls P f args w fun e w' => ∃ v, e = .returned v ∧ K (a.put N v) w') : if Region.wanted oi (yielded ops a.tmps) = true then Oper.wp P oi a w K Q else K (a.put N undef) w := by
  refine call_ f args hw hN ?_ h
  have he := enters_ hf hname hb args w
  unfold execOp
  simp [hop, hx, resolve, Deferred.ofValue, invoke, hargs, he]
end Go.Proofs.YtgdcnlmhdbdijaaW.PrintLast
namespace Go.Proofs.YtgdcnlmhdbdijaaW.PrintWords
/-- n yes-no answers, as the digits of a number. -/
def bmL : Nat → Nat → List Bool
  | 0, _ => []
  | n + 1, m => (m % 2 == 1) :: bmL n (m / 2)
def bm (n m : Nat) : Array Bool := ⟨bmL n m⟩
end Go.Proofs.YtgdcnlmhdbdijaaW.PrintWords
