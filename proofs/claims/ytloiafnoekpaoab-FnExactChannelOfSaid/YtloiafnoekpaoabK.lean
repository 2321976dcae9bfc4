/- Small laws on blocks of memory and on yes-no answers that the walks of this session use. -/
import Derived.Laws.NewBlocks
import Derived.Laws.CopyOwn
import Derived.LoopTactic
import Derived.Test.YtloiafnoekpaoabWWords
import Derived.Test.YtloiafnoekpaoabWMore
namespace Go.Proofs.YtloiafnoekpaoabW.PrintWords
open Go.RowKit
theorem kk_blk_cell {w : World} {g : Nat} {cs : Array Value} {t : Nat} (h : w.heap[g]? = some (.cells cs t (0, 0))) (i : Nat) : w.cell? ⟨g, i, none⟩ = cs[i]? := by
  simp [World.cell?, h]
theorem kk_blk_frozen {w : World} {g : Nat} {cs : Array Value} {t : Nat} (h : w.heap[g]? = some (.cells cs t (0, 0))) (i : Nat) : w.frozen? ⟨g, i, none⟩ = false := by
  simp [World.frozen?, h]
theorem kk_blk_set {w : World} {g : Nat} {cs : Array Value} {t : Nat} (h : w.heap[g]? = some (.cells cs t (0, 0))) (i : Nat) (v : Value) : (w.setCell ⟨g, i, none⟩ v).heap[g]? = some (.cells (cs.setIfInBounds i v) t (0, 0)) := by
  simp [World.setCell, Array.getElem?_modify, h]

theorem kk_setRow_other (w : World) (g k : Nat) (cs : Array Value) (h : k ≠ g) : (w.setRow g cs).heap[k]? = w.heap[k]? := by
  simp only [World.setRow, Array.getElem?_modify]
  rw [if_neg (by omega)]
theorem kk_alloc_new (w : World) (n : Nat) (o : Obj) : ((w.drewN n).alloc o).heap[w.heap.size]? = some o := heap_alloc_new (w.drewN n) o

/-! ### answers that are decided -/
theorem o_and (p q : Prop) [Decidable p] [Decidable q] : (if p then some (decide q) else some false) = some (decide (p ∧ q)) := by by_cases p <;> simp_all
theorem o_nand (p q : Prop) [Decidable p] [Decidable q] : (if p then some false else some (decide q)) = some (decide (¬ p ∧ q)) := by by_cases p <;> simp_all
theorem o_or (p q : Prop) [Decidable p] [Decidable q] : (if p then some true else some (decide q)) = some (decide (p ∨ q)) := by by_cases p <;> simp_all
theorem o_imp (p q : Prop) [Decidable p] [Decidable q] : (if p then some (decide q) else some true) = some (decide (p → q)) := by by_cases p <;> simp_all
theorem o_tf (p : Prop) [Decidable p] : (if p then some true else some false) = some (decide p) := by by_cases p <;> simp_all
theorem o_ft (p : Prop) [Decidable p] : (if p then some false else some true) = some (decide (¬ p)) := by by_cases p <;> simp_all
theorem o_ite (c p q : Prop) [Decidable c] [Decidable p] [Decidable q] : (if c then some (decide p) else some (decide q)) = some (decide ((c → p) ∧ (¬ c → q))) := by by_cases c <;> simp_all
theorem o_beq (a b : Int) : (a == b) = decide (a = b) := by by_cases a = b <;> simp_all
theorem o_bne (a b : Int) : (a != b) = decide (a ≠ b) := by by_cases a = b <;> simp_all
theorem o_dand (p q : Prop) [Decidable p] [Decidable q] : (decide p && decide q) = decide (p ∧ q) := by by_cases p <;> simp_all
theorem o_dne (p q : Prop) [Decidable p] [Decidable q] : (¬ ((decide p != decide q) = true)) ↔ (p ↔ q) := by by_cases p <;> simp_all
end Go.Proofs.YtloiafnoekpaoabW.PrintWords
