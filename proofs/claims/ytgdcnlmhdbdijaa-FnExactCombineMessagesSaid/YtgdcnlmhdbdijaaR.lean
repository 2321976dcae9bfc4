/- What a parameter's typed reading says of its cells, kind by kind: for the rows of laws over structs and slices of structs. -/
import Derived.Test.YtgdcnlmhdbdijaaK
import Derived.Deep.Slices
import Derived.RowKit3
namespace Go.Proofs.YtgdcnlmhdbdijaaW.PrintWords
open Go.RowKit
/-- A typed reading of cells at type t says: they are of kind d, and wf holds of what they are. -/
def Reads (P : Program) (t : TypeId) {α : Type} (d : Kd α) (wf : α → Prop) : Prop :=
  ∀ (H : Type) (enc : TypeId × Value → H) (w : World) (fuel : Nat) (cs : List Value) (x : DataW H × List MemPlace), DataW.trod enc P w 0 (fun _ => true) true fuel t cs = some x → ∃ a, d.K w a cs ∧ wf a
theorem Reads.int {P : Program} {t : TypeId} {k : IntKind} (hu : P.underlying t = some (.int k)) : Reads P t (Kd.int k) (fun x => (Lit.int k x).wf = true) := by
  intro H enc w fuel cs x h
  obtain ⟨a, rfl, _, hw⟩ := DataW.trod_int hu h
  exact ⟨a, rfl, hw⟩
theorem Reads.bool {P : Program} {t : TypeId} (hu : P.underlying t = some .bool) : Reads P t Kd.bool (fun _ => True) := by
  intro H enc w fuel cs x h
  obtain ⟨b, rfl, _⟩ := DataW.trod_bool hu h
  exact ⟨b, rfl, trivial⟩
theorem Reads.iso {P : Program} {t : TypeId} {α β : Type} {d : Kd α} {wf : α → Prop} (f : β → α) (g : α → β) (hfg : ∀ a, f (g a) = a) (h : Reads P t d wf) : Reads P t (Kd.iso d f) (fun b => wf (f b)) := by
  intro H enc w fuel cs x hx
  obtain ⟨a, ha, hw⟩ := h H enc w fuel cs x hx
  exact ⟨g a, by show d.K w (f (g a)) cs; rw [hfg]; exact ha, by show wf (f (g a)); rw [hfg]; exact hw⟩
theorem cells_get {w : World} {a : Addr} {n : Nat} {cs : List Value} (h : w.cells? 0 a n = some cs) : cs.length = n ∧ ∀ (i : Nat) (u : Value), cs[i]? = some u → w.cell? (a.add i) = some u := by
  unfold World.cells? at h
  rw [if_pos (Nat.zero_le _)] at h
  have key : ∀ (l : List Nat) (r : List Value), l.mapM (fun i => w.cell? (a.add i)) = some r → r.length = l.length ∧ ∀ (i : Nat) (u : Value), r[i]? = some u → ∃ j, l[i]? = some j ∧ w.cell? (a.add j) = some u := by
    intro l
    induction l with
    | nil => intro r hr; simp at hr; subst hr; simp
    | cons x l ih =>
      intro r hr
      simp only [List.mapM_cons] at hr
      cases hx : w.cell? (a.add x) with
      | none => simp [hx] at hr
      | some v =>
        cases hl : l.mapM (fun i => w.cell? (a.add i)) with
        | none => simp [hx, hl] at hr
        | some r' =>
          simp [hx, hl] at hr
          subst hr
          obtain ⟨h1, h2⟩ := ih r' hl
          refine ⟨by simp [h1], fun i u hu => ?_⟩
          cases i with
          | zero => simp at hu; subst hu; exact ⟨x, rfl, hx⟩
          | succ i => exact h2 i u (by simpa using hu)
  obtain ⟨h1, h2⟩ := key _ _ h
  refine ⟨by simpa using h1, fun i u hu => ?_⟩
  obtain ⟨j, hj, hc⟩ := h2 i u hu
  have : j = i := by
    obtain ⟨hlt, e⟩ := List.getElem?_eq_some_iff.1 hj
    simpa using e.symm
  rwa [this] at hc
theorem Reads.slice {P : Program} {t e : TypeId} {α : Type} {d : Kd α} {wf : α → Prop} (hu : P.underlying t = some (.slice e)) (hc : P.cellsOf e = d.sz) (h : Reads P e d wf) : Reads P t (Kd.slice e d) (fun xs => xs.length ≤ maxLen ∧ ∀ x ∈ xs, wf x) := by
  intro H enc w fuel cs x hx
  rcases Go.Deep.open_slice hu hx with ⟨rfl, _⟩ | ⟨a, len, cap, m, n, D, Pl, rfl, _, hl, hm, hme, _, hel⟩
  · exact ⟨[], ⟨none, 0, rfl, by simp, by simp, by simp, by simp⟩, by simp, by simp⟩
  · have hme' : len ≤ m := by rw [hme]; simp [hl]
    have key : ∀ i, ∃ o : Option α, i < len → ∃ p c, o = some p ∧ c.length = d.sz ∧ d.K w p c ∧ wf p ∧ ∀ j u, c[j]? = some u → w.cell? (a.add (i * d.sz + j)) = some u := by
      intro i
      by_cases hi : i < len
      · obtain ⟨cs', h1, h2⟩ := hel i (by omega)
        obtain ⟨p, hp, hw⟩ := h H enc w n cs' _ h2
        obtain ⟨hlen, hget⟩ := cells_get h1
        refine ⟨some p, fun _ => ⟨p, cs', rfl, d.K_len hp, hp, hw, fun j u hj => ?_⟩⟩
        have := hget j u hj
        rw [Go.Deep.add_add, hc] at this
        exact this
      · exact ⟨none, fun h => absurd h hi⟩
    obtain ⟨f, hf⟩ := Classical.axiomOfChoice key
    have hall : ∀ i, i < len → ∃ p, f i = some p := fun i hi => let ⟨p, _, e, _⟩ := hf i hi; ⟨p, e⟩
    have build : ∀ k, k ≤ len → ∃ xs : List α, xs.length = k ∧ ∀ j p, xs[j]? = some p → f j = some p := by
      intro k
      induction k with
      | zero => intro _; exact ⟨[], rfl, by simp⟩
      | succ k ih =>
        intro hk
        obtain ⟨xs, hxl, hxs⟩ := ih (by omega)
        obtain ⟨p, hp⟩ := hall k (by omega)
        refine ⟨xs ++ [p], by simp [hxl], fun j q hj => ?_⟩
        by_cases h1 : j < xs.length
        · rw [List.getElem?_append_left h1] at hj
          exact hxs j q hj
        · have : j = xs.length := by
            have := (List.getElem?_eq_some_iff.1 hj).1
            simp at this
            omega
          subst this
          simp at hj
          rw [hxl, hp, hj]
    obtain ⟨xs, hxl, hxs⟩ := build len (Nat.le_refl _)
    have hcap : cap ≤ 9223372036854775807 := by unfold maxLen at hm; omega
    refine ⟨xs, ⟨some a, cap, by rw [hxl], by omega, rfl, by omega, fun _ => ⟨a, rfl, fun j p hj => ?_⟩⟩, by unfold maxLen; omega, fun p hp => ?_⟩
    · have hjl : j < len := by have := (List.getElem?_eq_some_iff.1 hj).1; omega
      obtain ⟨p', c, e, h1, h2, _, h3⟩ := hf j hjl
      rw [hxs j p hj] at e
      cases e
      exact ⟨c, h1, h2, h3⟩
    · obtain ⟨j, hjl, e⟩ := List.getElem_of_mem hp
      have hj : xs[j]? = some p := by rw [List.getElem?_eq_getElem hjl, e]
      obtain ⟨p', c, e', _, _, h3, _⟩ := hf j (by omega)
      rw [hxs j p hj] at e'
      cases e'
      exact h3
/-- The fields of a struct, from one on. -/
def ReadsFs (P : Program) (fs : List Field) (off : Nat) {α : Type} (d : Kd α) (wf : α → Prop) : Prop :=
  ∀ (H : Type) (enc : TypeId × Value → H) (w : World) (fuel : Nat) (cs : List Value), cs.length = off + d.sz → (∀ f ∈ fs, ∃ y, DataW.trod enc P w 0 (fun _ => true) true fuel f.type ((cs.drop f.offset).take (P.cellsOf f.type)) = some y) → ∃ a, d.K w a (cs.drop off) ∧ wf a
theorem ReadsFs.one {P : Program} {f : Field} {off : Nat} {α : Type} {d : Kd α} {wf : α → Prop} (ho : f.offset = off) (hc : P.cellsOf f.type = d.sz) (h : Reads P f.type d wf) : ReadsFs P [f] off d wf := by
  intro H enc w fuel cs hl hf
  obtain ⟨y, hy⟩ := hf f (by simp)
  rw [ho, hc, List.take_of_length_le (by simp; omega)] at hy
  exact h H enc w fuel _ y hy
theorem ReadsFs.cons {P : Program} {f : Field} {fs : List Field} {off : Nat} {α β : Type} {d : Kd α} {e : Kd β} {wf : α → Prop} {wg : β → Prop} (ho : f.offset = off) (hc : P.cellsOf f.type = d.sz) (h : Reads P f.type d wf) (r : ReadsFs P fs (off + d.sz) e wg) : ReadsFs P (f :: fs) off (Kd.pair d e) (fun p => wf p.1 ∧ wg p.2) := by
  intro H enc w fuel cs hl hf
  have hsz : (Kd.pair d e).sz = d.sz + e.sz := rfl
  obtain ⟨y, hy⟩ := hf f (by simp)
  rw [ho, hc] at hy
  obtain ⟨a, ha, hwa⟩ := h H enc w fuel _ y hy
  obtain ⟨b, hb, hwb⟩ := r H enc w fuel cs (by omega) (fun g hg => hf g (by simp [hg]))
  refine ⟨(a, b), ⟨(cs.drop off).take d.sz, cs.drop (off + d.sz), ?_, ha, hb⟩, hwa, hwb⟩
  rw [← List.drop_drop, List.take_append_drop]
theorem Reads.struct {P : Program} {t : TypeId} {fs : Array Field} {α : Type} {d : Kd α} {wf : α → Prop} (hu : P.underlying t = some (.struct fs)) (hc : P.cellsOf t = d.sz) (h : ReadsFs P fs.toList 0 d wf) : Reads P t d wf := by
  intro H enc w fuel cs x hx
  obtain ⟨xs, n, _, _, hl, hxl, hf⟩ := DataW.trod_struct hu hx
  have := h H enc w n cs (by omega) (fun f hm => by
    obtain ⟨i, hi, e⟩ := List.getElem_of_mem hm
    have h1 : fs[i]? = some f := by rw [← e]; simp at hi ⊢
    have h2 := hf i f h1
    rw [Array.length_toList] at hi
    rw [h2]
    exact ⟨xs[i]'(by omega), List.getElem?_eq_getElem (by omega)⟩)
  simpa using this
end Go.Proofs.YtgdcnlmhdbdijaaW.PrintWords
