/- Laid by a program of this session out of the translation: functions, their contracts, the row. Lean checks it. -/
import Derived.Test.YtgdcnlmhdbdijaaPFnCombineMessagesx0
import Derived.Test.YtgdcnlmhdbdijaaPFnCombineMessagesx2
import Derived.Test.YtgdcnlmhdbdijaaPFnCombineMessagesx3
namespace Go.Proofs.Ytgdcnlmhdbdijaa.PFnCombineMessages
open Go.RowKit Go.Proofs.YtgdcnlmhdbdijaaW.PrintWords Go.Proofs.YtgdcnlmhdbdijaaW.PrintLast Go.Proofs.YtgdcnlmhdbdijaaW.PrintMore
attribute [local go_sem] max2_int min2_int max_two min_two max_three min_three max_four min_four   -- for this text's walks alone
set_option linter.unusedVariables false
set_option linter.unusedSimpArgs false


/-! ### impl_inOrder: function 72 -/
instance : Inhabited S34 := ⟨z34⟩
section
open Go.Sort


section
variable {α : Type} [Inhabited α]

theorem ks_get (enc : α → List Value) (k : Nat) (hk : ∀ x, (enc x).length = k) : ∀ (l : List α) (t : Nat), t < l.length * k → (l.flatMap enc)[t]? = some ((enc l[t / k]!)[t % k]!)
 | [], t, h => by simp at h
 | x :: l, t, h => by
  have k0 : 0 < k := by
   rcases Nat.eq_zero_or_pos k with h0 | h0
   ·subst h0
    simp at h
   ·exact h0
  rw [List.flatMap_cons]
  by_cases c : t < k
  ·rw [List.getElem?_append_left (by rw [hk]; exact c), Nat.div_eq_of_lt c, Nat.mod_eq_of_lt c]
   simp [hk, c]
  ·rw [List.getElem?_append_right (by rw [hk]; omega), hk]
   obtain ⟨u, rfl⟩ : ∃ u, t = u + k := ⟨t - k, by omega⟩
   have h' : u < l.length * k := by simp only [List.length_cons, Nat.add_mul, Nat.one_mul] at h; omega
   rw [Nat.add_sub_cancel, ks_get enc k hk l u h', Nat.add_div_right _ k0, Nat.add_mod_right]
   rfl

theorem ks_flat (enc : α → List Value) (k : Nat) (hk : ∀ x, (enc x).length = k) (l : List α) : (flatK enc k l.toArray).toList = l.flatMap enc := by
 have hl : ∀ l : List α, (l.flatMap enc).length = l.length * k := fun l => by
  induction l with
  | nil => simp
  | cons x l ih => simp [hk, ih, Nat.add_mul, Nat.add_comm]
 apply List.ext_getElem?
 intro t
 by_cases h : t < l.length * k
 ·rw [ks_get enc k hk l t h]
  have := get_flatK enc k l.toArray t (by simpa using h)
  rw [Array.getElem?_toList, Array.getElem?_eq_getElem (by simpa using h)]
  rw [getElem!_pos _ t (by simpa using h)] at this
  rw [this]
  simp
 ·rw [List.getElem?_eq_none (by simp; omega), List.getElem?_eq_none (by rw [hl]; omega)]

theorem ks_heap {w : World} {g n : Nat} {os : Array Obj} {cur : Array Value} {e : TypeId} {fr : Nat × Nat} {β : Type} [Inhabited β] (enc : β → Value) (d : Array β) (hb : w.heap[g]? = some (.cells cur e fr)) :
  (grow (putRow enc (Sort.ahead w n) g 0 d) os).heap[g]? = some (.cells (putCells enc 0 d cur) e fr) := by
 have hg : g < w.heap.size := (Array.getElem?_eq_some_iff.1 hb).1
 rw [heap_grow_old _ _ (by simpa using hg)]
 simp [putRow, mapBlock, Sort.ahead, Array.getElem?_modify, hb, onCells]

theorem ks_grown {w : World} {g n : Nat} {os : Array Obj} {β : Type} [Inhabited β] (enc : β → Value) (d : Array β) : w.grownBy (grow (putRow enc (Sort.ahead w n) g 0 d) os) (some g) := by
 refine ⟨rfl, rfl, rfl, by simp, fun k hk hne => ?_⟩
 rw [heap_grow_old _ _ (by simpa using hk)]
 have : g ≠ k := fun e => hne (by rw [e])
 simp [putRow, mapBlock, Sort.ahead, Array.getElem?_modify, this]

theorem ks_take {β : Type} [Inhabited β] (enc : β → Value) (cur : Array Value) (ts : Array β) (h : ts.size ≤ cur.size) : (putCells enc 0 ts cur).toList.take ts.size = ts.toList.map enc := by
 apply List.ext_getElem?
 intro j
 by_cases hj : j < ts.size
 ·rw [List.getElem?_take_of_lt hj, Array.getElem?_toList]
  simp [putCells, hj, show j < cur.size by omega]
 ·rw [List.getElem?_take_eq_none (by omega), List.getElem?_eq_none (by simp; omega)]

/-- what the sort asks. -/
theorem ks_holds {w : World} {g : Nat} {cur : Array Value} {e : TypeId} (enc : α → List Value) (k : Nat) (hk : ∀ x, (enc x).length = k) {xs : List α} (hb : w.heap[g]? = some (.cells cur e (0, 0))) (ht : cur.toList.take (xs.length * k) = xs.flatMap enc) : HoldsK enc k w g 0 xs.toArray := by
 intro j hj
 have hj' : j < xs.length * k := by simpa using hj
 refine ⟨?_, by simp [World.frozen?, hb]⟩
 have h1 : (cur.toList.take (xs.length * k))[j]? = (flatK enc k xs.toArray).toList[j]? := by rw [ht, ks_flat enc k hk]
 rw [List.getElem?_take_of_lt hj', Array.getElem?_toList, Array.getElem?_toList, Array.getElem?_eq_getElem hj] at h1
 rw [Nat.zero_add, getElem!_pos _ j hj]
 simpa [World.cell?, hb] using h1

theorem ks_holds1 {w : World} {g : Nat} {cur : Array Value} {e : TypeId} {β : Type} [Inhabited β] (enc : β → Value) {xs : List β} (hb : w.heap[g]? = some (.cells cur e (0, 0))) (ht : cur.toList.take xs.length = xs.map enc) : Holds enc w g 0 xs.toArray := by
 intro j hj
 have hj' : j < xs.length := by simpa using hj
 refine ⟨?_, by simp [World.frozen?, hb]⟩
 have h1 : (cur.toList.take xs.length)[j]? = (xs.map enc)[j]? := by rw [ht]
 rw [List.getElem?_take_of_lt hj', Array.getElem?_toList] at h1
 rw [Nat.zero_add]
 simp [World.cell?, hb, h1, hj']

theorem ks_own1 {w : World} {base g cap n : Nat} {e : TypeId} {os : Array Obj} {cur : Array Value} {β : Type} [Inhabited β] (enc : β → Value) {xs ys : List β} (hl : ys.length = xs.length) (hbase : base ≤ g) (hb : w.heap[g]? = some (.cells cur e (0, 0)))
  (h1 : xs.length ≤ cap) (h2 : cap ≤ maxLen) (h3 : cur.size = cap * 1) :
  (grow (putRow enc (Sort.ahead w n) g 0 ys.toArray) os).ownsRow base e 1 (.slice (some ⟨g, 0, none⟩) xs.length cap) xs.length (ys.map enc) :=
 ⟨by simp [hl], .inr ⟨g, cap, _, rfl, hbase, ks_heap enc _ hb, h1, h2, by simp [putCells, h3], by rw [Nat.mul_one, ← hl]; exact ks_take enc cur ys.toArray (by simp; omega)⟩⟩

theorem ks_ownK {w : World} {base g cap n k : Nat} {e : TypeId} {os : Array Obj} {cur : Array Value} (enc : α → List Value) (hk : ∀ x, (enc x).length = k) {xs ys : List α} (hl : ys.length = xs.length) (hbase : base ≤ g) (hb : w.heap[g]? = some (.cells cur e (0, 0)))
  (h1 : xs.length ≤ cap) (h2 : cap ≤ maxLen) (h3 : cur.size = cap * k) :
  (sortWorldK enc k w g 0 n ys.toArray os).ownsRow base e k (.slice (some ⟨g, 0, none⟩) xs.length cap) xs.length (ys.flatMap enc) := by
 have hf : (flatK enc k ys.toArray).size = xs.length * k := by simp [hl]
 refine ⟨by rw [← ks_flat enc k hk, Array.length_toList, hf], .inr ⟨g, cap, _, rfl, hbase, ks_heap id _ hb, h1, h2, by simp [putCells, h3], ?_⟩⟩
 rw [← ks_flat enc k hk, ← hf, ks_take id cur _ (by rw [hf, h3]; exact Nat.mul_le_mul_right _ h1)]
 simp
end
end
section
open Go.Maps


section
variable {α : Type} {P : Program}
def upd {β : Type} (f : Int → β) (t : Int) (v : β) : Int → β := fun s => if s = t then v else f s
theorem upd_same {β : Type} (f : Int → β) (t : Int) (v : β) : upd f t v t = v := by simp [upd]
theorem upd_other {β : Type} (f : Int → β) {s t : Int} (v : β) (h : s ≠ t) : upd f t v s = f s := by simp [upd, h]

/-- how an element reads: as itself. -/
def asIs (v : Value) : Option (DataW Value × List MemPlace) := some (.held v, [])

/-- THE BUCKETS: block b is a map from ints to slices, bk t the slice at t, that owns the elements A t; no two lie in one row. -/
structure Bk (P : Program) (k e : TypeId) (sz : Nat) (enc : α → List Value) (b n base : Nat) (A : Int → List α) (bk : Int → Value) (w : World) : Prop where
 map : ∃ D : DataW Value, w.ownsMap P k asIs b n D ∧ ∀ t, (Lit.int .i64 t).wf = true → D.atKey (.int .i64 t) (.held (.slice none 0 0)) = .held (bk t)
 low : b < base
 row : ∀ t, w.ownsRow base e sz (bk t) (A t).length ((A t).flatMap enc)
 apart : ∀ t t', t ≠ t' → (bk t).ownBlock = none ∨ (bk t).ownBlock ≠ (bk t').ownBlock

variable {k e : TypeId} {sz b n base : Nat} {enc : α → List Value} {A : Int → List α} {bk : Int → Value} {w : World}

theorem Bk.made (P : Program) (k e : TypeId) (sz : Nat) (enc : α → List Value) (w : World) : Bk P k e sz enc w.heap.size 0 (w.heap.size + 1) (fun _ => []) (fun _ => .slice none 0 0) (w.alloc (.map #[] 0)) :=
 ⟨⟨_, World.ownsMap_made w P k asIs, fun t _ => rfl⟩, by omega, fun t => World.ownsRow_nil _ _ _ _, fun t t' _ => Or.inl rfl⟩

theorem Bk.at {t E : TypeId} (h : Bk P k e sz enc b n base A bk w) (hk : P.underlying k = some (.int .i64)) (ht : P.underlying t = some (.map k E)) (hz : (zeroValue E).run P w = .ok (.slice none 0 0) w) (key : Int) (hw : (Lit.int .i64 key).wf = true) :
  (Instr.lookup t (.map (some b)) (.int .i64 key) false).run P w = .ok (bk key) w := by
 obtain ⟨D, hD, hat⟩ := h.map
 obtain ⟨v, ps, hrun, hv⟩ := hD.lookup (int_keyed hk) ht hz (zd := .held (.slice none 0 0)) (zp := []) rfl (keyOf_int_mk hk hw)
 rw [hat key hw] at hv
 simp only [asIs, Option.some.injEq, Prod.mk.injEq, DataW.held.injEq] at hv
 rw [hrun, hv.1]

/-- .. and where only another block has turned. -/
theorem Bk.at_kept {t E : TypeId} {w' : World} {row : Option Nat} (h : Bk P k e sz enc b n base A bk w) (hg : w.grownBy w' row) (hb : some b ≠ row) (hk : P.underlying k = some (.int .i64)) (ht : P.underlying t = some (.map k E)) (hz : (zeroValue E).run P w' = .ok (.slice none 0 0) w') (key : Int) (hw : (Lit.int .i64 key).wf = true) :
  (Instr.lookup t (.map (some b)) (.int .i64 key) false).run P w' = .ok (bk key) w' := by
 obtain ⟨D, hD, hat⟩ := h.map
 obtain ⟨v, ps, hrun, hv⟩ := (hD.kept hg hb).lookup (int_keyed hk) ht hz (zd := .held (.slice none 0 0)) (zp := []) rfl (keyOf_int_mk hk hw)
 rw [hat key hw] at hv
 simp only [asIs, Option.some.injEq, Prod.mk.injEq, DataW.held.injEq] at hv
 rw [hrun, hv.1]

theorem Bk.ne (h : Bk P k e sz enc b n base A bk w) (t : Int) : some b ≠ (bk t).ownBlock := fun e1 => by
 have := ((h.row t).lt b e1.symm).1
 have := h.low
 omega

theorem Bk.kept {w' : World} {row : Option Nat} (h : Bk P k e sz enc b n base A bk w) (hg : w.grownBy w' row) (hb : some b ≠ row) (hr : ∀ t, (bk t).ownBlock = none ∨ (bk t).ownBlock ≠ row) : Bk P k e sz enc b n base A bk w' := by
 obtain ⟨D, hD, hat⟩ := h.map
 exact ⟨⟨D, hD.kept hg hb, hat⟩, h.low, fun t => (h.row t).kept hg (hr t), h.apart⟩

/-- one key's row has turned. -/
theorem Bk.turned {w' : World} {t : Int} {ys : List α} (h : Bk P k e sz enc b n base A bk w) (hg : w.grownBy w' (bk t).ownBlock) (ho : w'.ownsRow base e sz (bk t) ys.length (ys.flatMap enc)) : Bk P k e sz enc b n base (upd A t ys) bk w' := by
 obtain ⟨D, hD, hat⟩ := h.map
 refine ⟨⟨D, hD.kept hg (h.ne t), hat⟩, h.low, fun s => ?_, h.apart⟩
 by_cases c : s = t
 ·subst c
  rw [upd_same]
  exact ho
 ·rw [upd_other _ _ c]
  exact (h.row s).kept hg (h.apart s t c)

/-- 'm[k] = append(m[k], ..)'. -/
theorem Bk.put {w1 : World} {t E : TypeId} {key : Int} {v' : Value} {ys : List α} (h : Bk P k e sz enc b n base A bk w) (hk : P.underlying k = some (.int .i64)) (ht : P.underlying t = some (.map k E)) (hn : n < maxLen) (hw : (Lit.int .i64 key).wf = true)
  (hg : w.grownBy w1 (bk key).ownBlock) (ho : w1.ownsRow base e sz v' ys.length (ys.flatMap enc)) (hat : v'.ownBlock = (bk key).ownBlock ∨ ∃ g, v'.ownBlock = some g ∧ w.heap.size ≤ g) :
  ∃ w2, (Instr.mapUpdate t (.map (some b)) (.int .i64 key) v').run P w1 = .ok () w2 ∧ Bk P k e sz enc b (n + 1) base (upd A key ys) (upd bk key v') w2 ∧ w1.grownBy w2 (some b) := by
 obtain ⟨D, hD, hatD⟩ := h.map
 have hisM : IsMap D := by obtain ⟨_, _, _, _, _, rfl⟩ := hD; exact ⟨_, rfl⟩
 obtain ⟨w2, hrun, hD2, hg2⟩ := (hD.kept hg (h.ne key)).update (int_keyed hk) ht hn (val := v') (d := .held v') (ps := []) (keyOf_int_mk hk hw) rfl
 have hv' : ∀ s, s ≠ key → (bk s).ownBlock = none ∨ (bk s).ownBlock ≠ v'.ownBlock := fun s hs => by
  rcases hat with h1 | ⟨g, h1, h2⟩
  ·rw [h1]; exact h.apart s key hs
  ·cases hx : (bk s).ownBlock with
   | none => exact Or.inl rfl
   | some gx =>
    have := ((h.row s).lt gx hx).2
    refine Or.inr (fun e1 => ?_)
    rw [h1] at e1
    cases e1
    omega
 have hvb : v'.ownBlock = none ∨ v'.ownBlock ≠ some b := by
  cases hx : v'.ownBlock with
  | none => exact Or.inl rfl
  | some gx =>
   have := (ho.lt gx hx).1
   have := h.low
   refine Or.inr (fun e1 => ?_)
   cases e1
   omega
 refine ⟨w2, hrun, ⟨⟨_, hD2, fun s hs => ?_⟩, h.low, fun s => ?_, fun s s' hs => ?_⟩, hg2⟩
 ·by_cases c : s = key
  ·subst c
   rw [upd_same, atKey_put_same hisM (by simp [WideAt.IsKeyLit])]
  ·rw [upd_other _ _ c, atKey_put_other (by simpa using c)]
   exact hatD s hs
 ·by_cases c : s = key
  ·subst c
   rw [upd_same, upd_same]
   exact ho.kept hg2 hvb
  ·rw [upd_other _ _ c, upd_other _ _ c]
   refine ((h.row s).kept hg (h.apart s key c)).kept hg2 ?_
   cases hx : (bk s).ownBlock with
   | none => exact Or.inl rfl
   | some gx => exact Or.inr (fun e1 => h.ne s (by rw [hx]; exact e1.symm))
 ·by_cases c : s = key
  ·subst c
   rw [upd_same, upd_other _ _ (Ne.symm hs)]
   rcases hv' s' (Ne.symm hs) with h1 | h1
   ·cases hx : v'.ownBlock with
    | none => exact Or.inl rfl
    | some _ => exact Or.inr (by rw [h1]; simp)
   ·exact Or.inr (Ne.symm h1)
  ·rw [upd_other _ _ c]
   by_cases c' : s' = key
   ·subst c'
    rw [upd_same]
    exact hv' s c
   ·rw [upd_other _ _ c']
    exact h.apart s s' hs
end
end
def kmI (a b : Int) : Int := if a < b then -1 else if a > b then 1 else 0
def kmC (a b : S34) : Int := if kmI a.f0 b.f0 = 0 then (if kmI a.f1 b.f1 = 0 then kmI a.f2 b.f2 else kmI a.f1 b.f1) else kmI a.f0 b.f0
theorem kmI_neg (a b : Int) : kmI a b < 0 ↔ a < b := by
 unfold kmI
 split
 ·omega
 ·split <;> omega
theorem kmI_zero (a b : Int) : kmI a b = 0 ↔ a = b := by
 unfold kmI
 split
 ·omega
 ·split <;> omega
theorem kmC_neg (a b : S34) : kmC a b < 0 ↔ a.f0 < b.f0 ∨ a.f0 = b.f0 ∧ (a.f1 < b.f1 ∨ a.f1 = b.f1 ∧ a.f2 < b.f2) := by
 unfold kmC
 have h0 := kmI_neg a.f0 b.f0
 have h1 := kmI_neg a.f1 b.f1
 have h2 := kmI_neg a.f2 b.f2
 have z0 := kmI_zero a.f0 b.f0
 have z1 := kmI_zero a.f1 b.f1
 split
 ·rename_i e0
  rw [z0] at e0
  split
  ·rename_i e1
   rw [z1] at e1
   rw [h2]; omega
  ·rename_i e1
   rw [z1] at e1
   rw [h1]; omega
 ·rename_i e0
  rw [z0] at e0
  rw [h0]; omega
def kmL (a b : S34) : Bool := !(ltOf kmC b a)
theorem ltOf_kmC (a b : S34) : ltOf kmC a b = decide (a.f0 < b.f0 ∨ a.f0 = b.f0 ∧ (a.f1 < b.f1 ∨ a.f1 = b.f1 ∧ a.f2 < b.f2)) := by
 unfold ltOf
 exact decide_eq_decide.mpr (kmC_neg a b)
theorem kmL_iff (a b : S34) : kmL a b = true ↔ (a.f0 < b.f0 ∨ a.f0 = b.f0 ∧ (a.f1 < b.f1 ∨ a.f1 = b.f1 ∧ a.f2 ≤ b.f2)) := by
 unfold kmL
 rw [ltOf_kmC]
 simp only [Bool.not_eq_true', decide_eq_false_iff_not]
 omega
theorem kmSWO : Go.Sort.SWO (ltOf kmC) where
 irrefl x := by rw [ltOf_kmC]; simp
 trans x y z h1 h2 := by rw [ltOf_kmC] at *; simp only [decide_eq_true_eq] at *; omega
 ntrans x y z h1 h2 := by rw [ltOf_kmC] at *; simp only [decide_eq_false_iff_not] at *; omega
theorem T_ext {a b : S34} (h0 : a.f0 = b.f0) (h1 : a.f1 = b.f1) (h2 : a.f2 = b.f2) : a = b := by cases a; cases b; simp_all
theorem kmT (x y : S34) (h1 : ltOf kmC x y = false) (h2 : ltOf kmC y x = false) : x = y := by
 rw [ltOf_kmC] at *
 simp only [decide_eq_false_iff_not] at *
 exact T_ext (by omega) (by omega) (by omega)
/-- in order. -/
def kmSort (l : List S34) : List S34 := l.mergeSort fun x y => !(ltOf kmC y x)
theorem kmSort_perm (l : List S34) : (kmSort l).Perm l := List.mergeSort_perm _ _
theorem kmSort_length (l : List S34) : (kmSort l).length = l.length := (kmSort_perm l).length_eq
theorem kmSort_pairwise (l : List S34) : (kmSort l).Pairwise (fun a b => kmL a b = true) := by
 refine List.pairwise_mergeSort (le := kmL) (fun a b c h1 h2 => ?_) (fun a b => ?_) l
 ·rw [kmL_iff] at *; omega
 ·rw [Bool.or_eq_true, kmL_iff, kmL_iff]; omega
theorem kmSort_unique {l l' : List S34} (hp : l'.Perm l) (hs : l'.Pairwise (fun a b => kmL a b = true)) : l' = kmSort l := by
 refine List.Perm.eq_of_pairwise (le := fun a b => kmL a b = true) (fun a b _ _ h1 h2 => ?_) hs (kmSort_pairwise l) (hp.trans (kmSort_perm l).symm)
 rw [kmL_iff] at *
 exact T_ext (by omega) (by omega) (by omega)
def kmAt (l : List S34) (t : Int) : List S34 := l.filter (fun x => x.f0 = t)
theorem km_perm : ∀ (ts : List Int) (l : List S34), ts.Nodup → (∀ x ∈ l, x.f0 ∈ ts) → (ts.flatMap (kmAt l)).Perm l
 | [], l, _, h => by
  have : l = [] := by
   cases l with
   | nil => rfl
   | cons x l => exact absurd (h x (by simp)) (by simp)
  subst this
  simp
 | t :: ts, l, hn, h => by
  rw [List.nodup_cons] at hn
  rw [List.flatMap_cons]
  have e : ts.flatMap (kmAt l) = ts.flatMap (kmAt (l.filter (fun x => !decide (x.f0 = t)))) := by
   rw [List.flatMap_def, List.flatMap_def]
   congr 1
   refine List.map_congr_left (fun s hs => ?_)
   unfold kmAt
   rw [List.filter_filter]
   refine List.filter_congr (fun x _ => ?_)
   by_cases c : x.f0 = s
   ·have : x.f0 ≠ t := fun e => hn.1 (by rw [← e, c]; exact hs)
    simp [c]
    rw [← c]
    exact this
   ·simp [c]
  rw [e]
  refine ((km_perm ts (l.filter (fun x => !decide (x.f0 = t))) hn.2 (fun x hx => ?_)).append_left _).trans (List.filter_append_perm _ l)
  rw [List.mem_filter] at hx
  have := h x hx.1
  simp only [List.mem_cons] at this
  rcases this with h1 | h1
  ·simp [h1] at hx
  ·exact h1
theorem km_flat_perm (f g : Int → List S34) : ∀ (ts : List Int), (∀ t, (f t).Perm (g t)) → (ts.flatMap f).Perm (ts.flatMap g)
 | [], _ => by simp
 | t :: ts, h => by
  rw [List.flatMap_cons, List.flatMap_cons]
  exact (h t).append (km_flat_perm f g ts h)
/-- THE BUCKETS, each in order, one behind the other: all in order. -/
theorem km_buckets (ts : List Int) (l : List S34) (hn : ts.Pairwise (· < ·)) (h : ∀ x ∈ l, x.f0 ∈ ts) : ts.flatMap (fun t => kmSort (kmAt l t)) = kmSort l := by
 refine kmSort_unique ((km_flat_perm _ (kmAt l) ts (fun t => kmSort_perm _)).trans (km_perm ts l (hn.imp (fun h => by omega)) h)) ?_
 rw [List.pairwise_flatMap]
 refine ⟨fun t _ => kmSort_pairwise _, hn.imp (fun {a b} hab x hx y hy => ?_)⟩
 have h1 := (kmSort_perm _).mem_iff.mp hx
 have h2 := (kmSort_perm _).mem_iff.mp hy
 simp only [kmAt, List.mem_filter, decide_eq_true_eq] at h1 h2
 rw [kmL_iff]
 omega
theorem km_sorted (ts : List Int) (h : ts.Nodup) : (ts.mergeSort fun x y => decide (x ≤ y)).Pairwise (· < ·) := by
 have h1 : (ts.mergeSort fun x y => decide (x ≤ y)).Pairwise (fun a b => decide (a ≤ b) = true) := List.pairwise_mergeSort (fun a b c h1 h2 => by simp at *; omega) (fun a b => by simp; omega) ts
 have h2 : (ts.mergeSort fun x y => decide (x ≤ y)).Nodup := (List.mergeSort_perm ts _).nodup_iff.mpr h
 exact (h1.and h2).imp (fun h => by simp at h; omega)
theorem zL_0 {p : Prop} (h : p := by first | (go_simp; done) | (go_simp; rfl)) : p := h
theorem zL_1 {p : Prop} (h : p := by (try simp only [List.map_toArray, List.map_cons, List.map_nil]); first | done | rfl | (simp only [List.length_drop, List.length_take]; rfl)) : p := h
theorem zL_2 {p : Prop} (h : p := by repeat (first | exact Drawn0.refl _ | apply Drawn0.step)) : p := h
theorem zL_3 {p : Prop} (h : p := by first | rfl | (simp; done) | (simp [*]; done)) : p := h
theorem zL_4 {p : Prop} (h : p := by repeat (first | (with_reducible first | exact HB.out | apply below_alloc | apply pw_below_drewN | apply below_drew1 | refine below_set ?_ GE205.out | refine below_set ?_ GE206.out) | exact HB.out)) : p := h
theorem zL_5 {p : Prop} (h : p := by (with_reducible repeat (first | refine blk_drewN ?_ _ | refine blk_drew ?_ | refine blk_alloc ?_ _)); exact BK205.out) : p := h
theorem zL_6 {p : Prop} (h : p := by repeat (first | (with_reducible first | exact HB.out | apply below_alloc | apply pw_below_drewN | apply below_drew1 | refine below_set ?_ GE205.out) | exact HB.out)) : p := h
theorem zL_7 {p : Prop} (h : p := by first | (with_reducible assumption) | assumption) : p := h
theorem zL_8 {p : Prop} (h : p := by repeat (first | (with_reducible first | exact HB.out | apply below_alloc | apply pw_below_drewN | apply below_drew1) | exact HB.out)) : p := h
/-- so many draws, these blocks. -/
def Gx (w w' : World) : Prop := ∃ q os, w' = Go.Sort.grow (w.drewN q) os
theorem Gx.trans {a b c : World} (h : Gx a b) (k : Gx b c) : Gx a c := by
 obtain ⟨q, os, rfl⟩ := h
 obtain ⟨q', os', rfl⟩ := k
 exact ⟨q + q', os ++ os', by show Go.Sort.grow (Go.Sort.grow ((a.drewN q).drewN q') os) os' = _; rw [Go.Sort.grow_grow, World.drewN_drewN]⟩
theorem Gx.refl (a : World) : Gx a a := ⟨0, #[], by rw [Go.Sort.grow_empty]; rfl⟩
theorem Gx.drewN {a b : World} (h : Gx a b) (n : Nat) : Gx a (b.drewN n) := h.trans ⟨n, #[], by rw [Go.Sort.grow_empty]⟩
theorem Gx.drew {a b : World} (h : Gx a b) : Gx a b.drew := h.drewN 1
theorem Gx.alloc (a : World) (o : Obj) : Gx a (a.alloc o) := ⟨0, #[o], by rw [Go.Sort.alloc_eq_grow]; rfl⟩
section
variable {P : Program} {ops : Array Oper} {Q : Exit → Act → World → Prop} {o : Oper} {rest : List Oper} {a : Act} {Kc : Act → World → Prop}
theorem box_eventX {W : World} (hgd : o.guard = none) {N : Tmp} (_hd : o.dst = some N) {cs : Array Value} {t : TypeId}
  (hrun : (execOp a.eval o).run P W = .ok (.value (.pointer (some ⟨W.heap.size, 0, none⟩))) (W.alloc (.cells cs t (0, 0))))
  (h : ∀ g, g = W.heap.size → ∀ w1, w1.heap[g]? = some (.cells cs t (0, 0)) → Below W.heap.size W w1 → Gx W w1 → wpList P ops Q rest (a.put o.dst (.pointer (some ⟨g, 0, none⟩))) w1) : wpList P ops Q (o :: rest) a W :=
 Kd.event_run hgd hrun (h _ rfl _ (blk_new W _) (below_alloc (Below.refl _ _) _) (Gx.alloc _ _))
theorem Kd.R_lit_stepX {α : Type} (d : Kd α) {w0 W : World} (base e : Nat) (hw : Region.wanted o (yielded ops a.tmps) = true) {N : Tmp} (_hd : o.dst = some N) {xs : List α} {inner : List Value} {ok okp : Nat → Prop}
  (hrun : (execOp a.eval o).run P W = .ok (.value (.slice (some ⟨W.heap.size, 0, none⟩) xs.length xs.length)) (W.alloc (.cells inner.toArray e)))
  (hrep : Reps (d.M W base okp) d.sz xs inner) (hok : ∀ k, okp k → ok k) (hfresh : ok W.heap.size) (HB : Below base w0 W) (hbase : base ≤ W.heap.size) (hm : xs.length ≤ 9223372036854775807)
  (h : ∀ v1 w1, d.R e w1 base ok v1 xs → Below base w0 w1 → W.grownBy w1 none → (∃ b, v1.ownBlock = some b ∧ W.heap.size ≤ b) → Gx W w1 → Kc (a.put o.dst v1) w1) : if Region.wanted o (yielded ops a.tmps) = true then Oper.wp P o a W Kc Q else Kc (a.put o.dst undef) W := by
 refine event_step hw hrun (h _ _ ⟨fun k hk => ?_, inner, ?_, ?_⟩ (HB.alloc hbase _) (World.grownBy_alloc W _ none) ⟨W.heap.size, by simp [Value.ownBlock], Nat.le_refl _⟩ (Gx.alloc _ _))
 ·have : W.heap.size = k := by simpa [Value.ownBlock] using hk
  subst this
  exact hfresh
 ·have h2 := World.ownsRow_lit (base := base) (e := e) (size := d.sz) W inner.toArray xs.length hbase (by simpa [maxLen] using hm) (by simpa using hrep.1)
  simpa using h2
 ·refine hrep.imp_ (fun p c hp => d.M_mono (fun k hk => ⟨hok k hk.1, fun he => ?_⟩) (Kd.M_below (d.M_bound hp) (below_alloc (Below.refl _ _) _)))
  have h3 : k = W.heap.size := by simpa [Value.ownBlock] using he
  have := hk.2.2.1
  omega
end
set_option maxHeartbeats 8000000 in
set_option maxRecDepth 100000 in
theorem impl_compareMessages.lays (k : Nat) (a0_0 : Int) (a0_1 : Int) (a0_2 : Int) (a1_0 : Int) (a1_1 : Int) (a1_2 : Int) (r : Int) (w : World) (h : impl_compareMessages.f k a0_0 a0_1 a0_2 a1_0 a1_1 a1_2 = some r) :
  Calls Try.prog 114 #[.agg #[.int .i64 a0_0, .int .i64 a0_1, .int .i64 a0_2], .agg #[.int .i64 a1_0, .int .i64 a1_1, .int .i64 a1_2]] w fun e w' => e = .returned (.int .i64 r) ∧ Gx w w' := by
 have hu_ := Try.underlying34
 have HB := Aside0.mk (Below.refl w.heap.size w)
 have H : ((cmp_Compare_int.f a0_0 a1_0).bind fun t207 => ((cmp_Compare_int.f a0_1 a1_1).bind fun t208 => ((cmp_Compare_int.f a0_2 a1_2).bind fun t209 => ((cmp_Or_int.f k (([t207, t208, t209] : List Int))).bind fun t213 => (some t213))))) = some r := h
 clear h
 replace H := Option.bind_eq_some_iff.mp H
 obtain ⟨t207, A30, H⟩ := H
 replace H : ((cmp_Compare_int.f a0_1 a1_1).bind fun t208 => ((cmp_Compare_int.f a0_2 a1_2).bind fun t209 => ((cmp_Or_int.f k (([t207, t208, t209] : List Int))).bind fun t213 => (some t213)))) = some r := H
 have A3 := Aside0.mk A30
 clear A30
 replace H := Option.bind_eq_some_iff.mp H
 obtain ⟨t208, A40, H⟩ := H
 replace H : ((cmp_Compare_int.f a0_2 a1_2).bind fun t209 => ((cmp_Or_int.f k (([t207, t208, t209] : List Int))).bind fun t213 => (some t213))) = some r := H
 have A4 := Aside0.mk A40
 clear A40
 replace H := Option.bind_eq_some_iff.mp H
 obtain ⟨t209, A50, H⟩ := H
 replace H : ((cmp_Or_int.f k (([t207, t208, t209] : List Int))).bind fun t213 => (some t213)) = some r := H
 have A5 := Aside0.mk A50
 clear A50
 obtain ⟨y210, hy210⟩ : ∃ y_ : List Int, y_ = (([t207, t208, t209] : List Int)) := ⟨_, rfl⟩
 replace H : ((cmp_Or_int.f k y210).bind fun t213 => (some t213)) = some r := by first | (rw [hy210]; with_reducible exact H) | (have H2_ := (Option.bind_some _ _).symm.trans H; rw [hy210]; with_reducible exact H2_) | (have H2_ := (Option.bind_some _ _).symm.trans H; with_reducible exact H2_) | with_reducible exact H | (rw [hy210]; exact H) | exact H
 have Ny210 := Aside0.mk hy210
 clear hy210
 replace H := Option.bind_eq_some_iff.mp H
 obtain ⟨t213, A60, H⟩ := H
 replace H : (some t213) = some r := H
 have A6 := Aside0.mk A60
 clear A60
 obtain rfl := Option.some.inj H
 go_enter Try.func114, Try.ntmps114
 go_wp2_with (first | ((with_reducible refine gate_dst (N := 2) rfl ?_); refine box_eventX ?hg (N := 2) ?hd (cs := #[.int .i64 a0_0, .int .i64 a0_1, .int .i64 a0_2]) (t := 34) ?hr ?_; (case hd => rfl); (case hg => rfl); (case hr => exact zL_0); intro gb205 hg w7 hbox hb hx1_; have n0_ := Aside0.mk (below_step zL_8 hb); have n1_ := Aside0.mk (hbox); have n2_ := Aside0.mk ((by rw [hg]; exact (below_size zL_8) : w.heap.size ≤ gb205)); have n3_ := Aside0.mk ((by rw [hg]; exact (below_size zL_8) : w.heap.size ≤ gb205)); clear HB; have HB := n0_; have BK205 := n1_; have GW205 := n2_; have GE205 := n3_; clear n0_ n1_ n2_ n3_; clear hb hbox hg) | ((with_reducible refine gate_dst (N := 3) rfl ?_); refine box_eventX ?hg (N := 3) ?hd (cs := #[.int .i64 a1_0, .int .i64 a1_1, .int .i64 a1_2]) (t := 34) ?hr ?_; (case hd => rfl); (case hg => rfl); (case hr => exact zL_0); intro gb206 hg w8 hbox hb hx2_; have n0_ := Aside0.mk (blk_below (g := gb205) (o := .cells #[.int .i64 a0_0, .int .i64 a0_1, .int .i64 a0_2] 34 (0, 0)) zL_5 hb); have n1_ := Aside0.mk (below_step zL_6 hb); have n2_ := Aside0.mk (hbox); have n3_ := Aside0.mk ((by rw [hg]; exact (below_size zL_6) : w.heap.size ≤ gb206)); have n4_ := Aside0.mk ((by rw [hg]; exact (below_size zL_6) : w.heap.size ≤ gb206)); have n5_ := Aside0.mk ((by rw [hg]; exact Nat.ne_of_lt (blk_lt (g := gb205) (o := .cells #[.int .i64 a0_0, .int .i64 a0_1, .int .i64 a0_2] 34 (0, 0)) zL_5) : gb205 ≠ gb206)); have n6_ := Aside0.mk ((by rw [hg]; exact Nat.ne_of_gt (blk_lt (g := gb205) (o := .cells #[.int .i64 a0_0, .int .i64 a0_1, .int .i64 a0_2] 34 (0, 0)) zL_5) : gb206 ≠ gb205)); clear BK205; clear HB; have BK205 := n0_; have HB := n1_; have BK206 := n2_; have GW206 := n3_; have GE206 := n4_; have NB205_206 := n5_; have NB206_205 := n6_; clear n0_ n1_ n2_ n3_ n4_ n5_ n6_; clear hb hbox hg))
 have n0_ := Aside0.mk (blk_drew BK205.out)
 have n1_ := Aside0.mk (blk_drew BK206.out)
 have n2_ := Aside0.mk (below_drew1 HB.out)
 clear BK205
 clear BK206
 clear HB
 have BK205 := n0_
 have BK206 := n1_
 have HB := n2_
 clear n0_ n1_ n2_
 have hx3_ := (hx1_.trans hx2_).drew
 clear hx1_ hx2_
 refine start_ (n := 18) (S := fun w' => w'.cell? ⟨gb205, 0, none⟩ = some (.int .i64 a0_0) ∧ w'.cell? ⟨gb205, 1, none⟩ = some (.int .i64 a0_1) ∧ w'.cell? ⟨gb205, 2, none⟩ = some (.int .i64 a0_2) ∧ w'.cell? ⟨gb206, 0, none⟩ = some (.int .i64 a1_0) ∧ w'.cell? ⟨gb206, 1, none⟩ = some (.int .i64 a1_1) ∧ w'.cell? ⟨gb206, 2, none⟩ = some (.int .i64 a1_2) ∧ Gx w w') (ds := []) (bm 18 0) (by kernel_rfl) rfl rfl ⟨(blk_cell BK205.out 0).trans rfl, (blk_cell BK205.out 1).trans rfl, (blk_cell BK205.out 2).trans rfl, (blk_cell BK206.out 0).trans rfl, (blk_cell BK206.out 1).trans rfl, (blk_cell BK206.out 2).trans rfl, hx3_⟩ (fun hHeld => ?_); clear hx3_; refine with_tabW impl_compareMessages.tab1 impl_compareMessages.bits1 (fun HT_ HW_ => ?_)
 generalize w8.drew = w9 at BK205 BK206 HB hHeld ⊢
 refine pure_ (i := 0) (N := some 5) (v := ?_) (a' := ?_) (bm 18 1) rfl rfl (any_of HT_.out (by kernel_rfl)) (fun _ _ _ h => h) (Or.inl ⟨by rfl, ?_⟩) ?_ ?_
 rotate_left
 ·intro w'
  go_simp
  with_reducible rfl
 rotate_left
 ·simp only [Act.put, List.setIfInBounds_toArray, List.set_cons_zero, List.set_cons_succ, i64_w, i32_w]
  rfl
 refine pure_ (i := 2) (N := some 7) (v := ?_) (a' := ?_) (bm 18 5) rfl rfl (any_of HT_.out (by kernel_rfl)) (fun _ _ _ h => h) (Or.inl ⟨by rfl, ?_⟩) ?_ ?_
 rotate_left
 ·intro w'
  go_simp
  with_reducible rfl
 rotate_left
 ·simp only [Act.put, List.setIfInBounds_toArray, List.set_cons_zero, List.set_cons_succ, i64_w, i32_w]
  rfl
 refine pure_ (i := 5) (N := some 10) (v := ?_) (a' := ?_) (bm 18 37) rfl rfl (any_of HT_.out (by kernel_rfl)) (fun _ _ _ h => h) (Or.inl ⟨by rfl, ?_⟩) ?_ ?_
 rotate_left
 ·intro w'
  go_simp
  with_reducible rfl
 rotate_left
 ·simp only [Act.put, List.setIfInBounds_toArray, List.set_cons_zero, List.set_cons_succ, i64_w, i32_w]
  rfl
 refine pure_ (i := 7) (N := some 12) (v := ?_) (a' := ?_) (bm 18 165) rfl rfl (any_of HT_.out (by kernel_rfl)) (fun _ _ _ h => h) (Or.inl ⟨by rfl, ?_⟩) ?_ ?_
 rotate_left
 ·intro w'
  go_simp
  with_reducible rfl
 rotate_left
 ·simp only [Act.put, List.setIfInBounds_toArray, List.set_cons_zero, List.set_cons_succ, i64_w, i32_w]
  rfl
 refine pure_ (i := 10) (N := some 15) (v := ?_) (a' := ?_) (bm 18 1189) rfl rfl (any_of HT_.out (by kernel_rfl)) (fun _ _ _ h => h) (Or.inl ⟨by rfl, ?_⟩) ?_ ?_
 rotate_left
 ·intro w'
  go_simp
  with_reducible rfl
 rotate_left
 ·simp only [Act.put, List.setIfInBounds_toArray, List.set_cons_zero, List.set_cons_succ, i64_w, i32_w]
  rfl
 refine pure_ (i := 12) (N := some 17) (v := ?_) (a' := ?_) (bm 18 5285) rfl rfl (any_of HT_.out (by kernel_rfl)) (fun _ _ _ h => h) (Or.inl ⟨by rfl, ?_⟩) ?_ ?_
 rotate_left
 ·intro w'
  go_simp
  with_reducible rfl
 rotate_left
 ·simp only [Act.put, List.setIfInBounds_toArray, List.set_cons_zero, List.set_cons_succ, i64_w, i32_w]
  rfl
 refine take_ (i := 1) (N := some 6) (v := ?_) (a' := ?_) (bm 18 5287) rfl rfl (take_ofW HT_.out HW_.out (by kernel_rfl)) (fun _ _ _ h => h) (Or.inl ⟨by rfl, ?_⟩) hHeld ?_ ?_
 rotate_left
 ·rintro w' ⟨s0, s1, s2, s3, s4, s5, s6⟩
  go_simp
  with_reducible rfl
 rotate_left
 ·simp only [Act.put, List.setIfInBounds_toArray, List.set_cons_zero, List.set_cons_succ, i64_w, i32_w]
  rfl
 refine take_ (i := 3) (N := some 8) (v := ?_) (a' := ?_) (bm 18 5295) rfl rfl (take_ofW HT_.out HW_.out (by kernel_rfl)) (fun _ _ _ h => h) (Or.inl ⟨by rfl, ?_⟩) hHeld ?_ ?_
 rotate_left
 ·rintro w' ⟨s0, s1, s2, s3, s4, s5, s6⟩
  go_simp
  with_reducible rfl
 rotate_left
 ·simp only [Act.put, List.setIfInBounds_toArray, List.set_cons_zero, List.set_cons_succ, i64_w, i32_w]
  rfl
 refine take_ (i := 6) (N := some 11) (v := ?_) (a' := ?_) (bm 18 5359) rfl rfl (take_ofW HT_.out HW_.out (by kernel_rfl)) (fun _ _ _ h => h) (Or.inl ⟨by rfl, ?_⟩) hHeld ?_ ?_
 rotate_left
 ·rintro w' ⟨s0, s1, s2, s3, s4, s5, s6⟩
  go_simp
  with_reducible rfl
 rotate_left
 ·simp only [Act.put, List.setIfInBounds_toArray, List.set_cons_zero, List.set_cons_succ, i64_w, i32_w]
  rfl
 refine take_ (i := 8) (N := some 13) (v := ?_) (a' := ?_) (bm 18 5615) rfl rfl (take_ofW HT_.out HW_.out (by kernel_rfl)) (fun _ _ _ h => h) (Or.inl ⟨by rfl, ?_⟩) hHeld ?_ ?_
 rotate_left
 ·rintro w' ⟨s0, s1, s2, s3, s4, s5, s6⟩
  go_simp
  with_reducible rfl
 rotate_left
 ·simp only [Act.put, List.setIfInBounds_toArray, List.set_cons_zero, List.set_cons_succ, i64_w, i32_w]
  rfl
 refine take_ (i := 11) (N := some 16) (v := ?_) (a' := ?_) (bm 18 7663) rfl rfl (take_ofW HT_.out HW_.out (by kernel_rfl)) (fun _ _ _ h => h) (Or.inl ⟨by rfl, ?_⟩) hHeld ?_ ?_
 rotate_left
 ·rintro w' ⟨s0, s1, s2, s3, s4, s5, s6⟩
  go_simp
  with_reducible rfl
 rotate_left
 ·simp only [Act.put, List.setIfInBounds_toArray, List.set_cons_zero, List.set_cons_succ, i64_w, i32_w]
  rfl
 refine take_ (i := 13) (N := some 18) (v := ?_) (a' := ?_) (bm 18 15855) rfl rfl (take_ofW HT_.out HW_.out (by kernel_rfl)) (fun _ _ _ h => h) (Or.inl ⟨by rfl, ?_⟩) hHeld ?_ ?_
 rotate_left
 ·rintro w' ⟨s0, s1, s2, s3, s4, s5, s6⟩
  go_simp
  with_reducible rfl
 rotate_left
 ·simp only [Act.put, List.setIfInBounds_toArray, List.set_cons_zero, List.set_cons_succ, i64_w, i32_w]
  rfl
 refine one_ (i := 4) (N := some 9) (bm 18 15871) rfl rfl (one_of HT_.out (by kernel_rfl)) (by decide) (fun K hK => ?_)
 refine goes_ Try.func134 (by kernel_rfl) rfl #[.int .i64 a0_0, .int .i64 a1_0] (by rfl) rfl rfl zL_1 ?_
 with_reducible refine (cmp_Compare_int.calls a0_0 a1_0 t207 _ A3.out).mono ?_
 rintro e w' ⟨rfl, ⟨nd, rfl⟩⟩
 refine ⟨_, rfl, ?_⟩
 refine hK.out _ _ ⟨(blk_cell BK205.out 0).trans rfl, (blk_cell BK205.out 1).trans rfl, (blk_cell BK205.out 2).trans rfl, (blk_cell BK206.out 0).trans rfl, (blk_cell BK206.out 1).trans rfl, (blk_cell BK206.out 2).trans rfl, hHeld.2.2.2.2.2.2.drewN nd⟩ (fun hHeld => ?_)
 clear hK K
 refine norm_ (a' := ?_) ?_ ?_
 rotate_left
 ·show Act.put _ (some 9) _ = _
  simp only [Act.put, List.setIfInBounds_toArray, List.set_cons_zero, List.set_cons_succ, i64_w, i32_w]
  rfl
 refine one_ (i := 9) (N := some 14) (bm 18 16383) rfl rfl (one_of HT_.out (by kernel_rfl)) (by decide) (fun K hK => ?_)
 refine goes_ Try.func134 (by kernel_rfl) rfl #[.int .i64 a0_1, .int .i64 a1_1] (by rfl) rfl rfl zL_1 ?_
 with_reducible refine (cmp_Compare_int.calls a0_1 a1_1 t208 _ A4.out).mono ?_
 rintro e w' ⟨rfl, ⟨nd, rfl⟩⟩
 refine ⟨_, rfl, ?_⟩
 refine hK.out _ _ ⟨(blk_cell BK205.out 0).trans rfl, (blk_cell BK205.out 1).trans rfl, (blk_cell BK205.out 2).trans rfl, (blk_cell BK206.out 0).trans rfl, (blk_cell BK206.out 1).trans rfl, (blk_cell BK206.out 2).trans rfl, hHeld.2.2.2.2.2.2.drewN nd⟩ (fun hHeld => ?_)
 clear hK K
 refine norm_ (a' := ?_) ?_ ?_
 rotate_left
 ·show Act.put _ (some 14) _ = _
  simp only [Act.put, List.setIfInBounds_toArray, List.set_cons_zero, List.set_cons_succ, i64_w, i32_w]
  rfl
 refine one_ (i := 14) (N := some 19) (bm 18 32767) rfl rfl (one_of HT_.out (by kernel_rfl)) (by decide) (fun K hK => ?_)
 refine goes_ Try.func134 (by kernel_rfl) rfl #[.int .i64 a0_2, .int .i64 a1_2] (by rfl) rfl rfl zL_1 ?_
 with_reducible refine (cmp_Compare_int.calls a0_2 a1_2 t209 _ A5.out).mono ?_
 rintro e w' ⟨rfl, ⟨nd, rfl⟩⟩
 refine ⟨_, rfl, ?_⟩
 refine hK.out _ _ ⟨(blk_cell BK205.out 0).trans rfl, (blk_cell BK205.out 1).trans rfl, (blk_cell BK205.out 2).trans rfl, (blk_cell BK206.out 0).trans rfl, (blk_cell BK206.out 1).trans rfl, (blk_cell BK206.out 2).trans rfl, hHeld.2.2.2.2.2.2.drewN nd⟩ (fun hHeld => ?_)
 clear hK K
 refine norm_ (a' := ?_) ?_ ?_
 rotate_left
 ·show Act.put _ (some 19) _ = _
  simp only [Act.put, List.setIfInBounds_toArray, List.set_cons_zero, List.set_cons_succ, i64_w, i32_w]
  rfl
 refine one_ (i := 15) (N := some 20) (bm 18 65535) rfl rfl (one_of HT_.out (by kernel_rfl)) (by decide) (fun K hK => ?_)
 refine Kd.R_lit_stepX (Kd.int .i64) _ 3 ?hg (N := 20) ?hd (xs := ([t207, t208, t209] : List Int)) (inner := [.int .i64 t207, .int .i64 t208, .int .i64 t209]) (ok := fun _ => True) (okp := fun _ => True) ?hr ?hp (fun _ hk => hk) trivial (Below.refl _ _) (Nat.le_refl _) (by simp) ?_; (case hd => rfl); (case hg => rfl); (case hr => exact zL_0); (case hp => exact (Reps.one (show Kd.M (Kd.int .i64) _ _ _ t207 [.int .i64 t207] from rfl) (Reps.one (show Kd.M (Kd.int .i64) _ _ _ t208 [.int .i64 t208] from rfl) (Reps.one (show Kd.M (Kd.int .i64) _ _ _ t209 [.int .i64 t209] from rfl) (Reps.none _ _)))))
 intro v211 w10 ho11 hb hg_ hnew_ hx_
 clear hg_ hnew_
 (first | rw [← Ny210.out] at ho11 | (simp only [Int.reduceToNat] at ho11; rw [← Ny210.out] at ho11))
 have n0_ := Aside0.mk (Kd.R_lower ho11 (below_size zL_4))
 have n1_ := Aside0.mk (blk_below (g := gb205) (o := .cells #[.int .i64 a0_0, .int .i64 a0_1, .int .i64 a0_2] 34 (0, 0)) zL_5 hb)
 have n2_ := Aside0.mk (blk_below (g := gb206) (o := .cells #[.int .i64 a1_0, .int .i64 a1_1, .int .i64 a1_2] 34 (0, 0)) (by (with_reducible repeat (first | refine blk_drewN ?_ _ | refine blk_drew ?_ | refine blk_alloc ?_ _)); exact BK206.out) hb)
 have n3_ := Aside0.mk (below_step zL_4 hb)
 clear BK205
 clear BK206
 clear HB
 have HO212 := n0_
 have BK205 := n1_
 have BK206 := n2_
 have HB := n3_
 clear n0_ n1_ n2_ n3_
 clear hb ho11
 obtain ⟨Ao12, co12, eo12⟩ := Kd.R_slice HO212.out
 (first | subst eo12 | (injection eo12 with f1_ f2_ f3_; have f4_ := f1_.symm; have f5_ := f3_.symm; clear f1_ f2_ f3_; subst f4_; subst f5_))
 refine hK.out _ _ ⟨(blk_cell BK205.out 0).trans rfl, (blk_cell BK205.out 1).trans rfl, (blk_cell BK205.out 2).trans rfl, (blk_cell BK206.out 0).trans rfl, (blk_cell BK206.out 1).trans rfl, (blk_cell BK206.out 2).trans rfl, hHeld.2.2.2.2.2.2.trans hx_⟩ (fun hHeld => ?_)
 clear hK K
 refine norm_ (a' := ?_) ?_ ?_
 rotate_left
 ·show Act.put _ (some 20) _ = _
  simp only [Act.put, List.setIfInBounds_toArray, List.set_cons_zero, List.set_cons_succ, i64_w, i32_w]
  rfl
 refine one_ (i := 16) (N := some 21) (bm 18 131071) rfl rfl (one_of HT_.out (by kernel_rfl)) (by decide) (fun K hK => ?_)
 refine goes_ Try.func133 (by kernel_rfl) rfl #[.slice Ao12 y210.length co12] (by rfl) rfl rfl zL_1 ?_
 with_reducible refine (cmp_Or_int.calls k _ _ y210 t213 _ ?side1 ?side2 A6.out).mono ?_
 (case side1 => repeat (first | exact (Kd.R_reads' HO212.out).2.2 | (with_reducible refine Kd.C_alloc ?_ _) | (with_reducible refine Kd.C_drewN ?_ _) | (with_reducible refine Kd.C_drew ?_)))
 (case side2 => exact (Kd.R_reads' HO212.out).2.1)
 rintro e w' ⟨rfl, ⟨nd, rfl⟩⟩
 refine ⟨_, rfl, ?_⟩
 refine hK.out _ _ ⟨(blk_cell BK205.out 0).trans rfl, (blk_cell BK205.out 1).trans rfl, (blk_cell BK205.out 2).trans rfl, (blk_cell BK206.out 0).trans rfl, (blk_cell BK206.out 1).trans rfl, (blk_cell BK206.out 2).trans rfl, hHeld.2.2.2.2.2.2.drewN nd⟩ (fun hHeld => ?_)
 clear hK K
 refine norm_ (a' := ?_) ?_ ?_
 rotate_left
 ·show Act.put _ (some 21) _ = _
  simp only [Act.put, List.setIfInBounds_toArray, List.set_cons_zero, List.set_cons_succ, i64_w, i32_w]
  rfl
 refine pure_ (i := 17) (N := some 4) (v := ?_) (a' := ?_) (bm 18 262143) rfl rfl (any_of HT_.out (by kernel_rfl)) (fun _ _ _ h => h) (Or.inl ⟨by rfl, ?_⟩) ?_ ?_
 rotate_left
 ·intro w'
  go_simp
  with_reducible rfl
 rotate_left
 ·simp only [Act.put, List.setIfInBounds_toArray, List.set_cons_zero, List.set_cons_succ, i64_w, i32_w]
  rfl
 refine done_ (done_of HT_.out (by kernel_rfl)) ?_
 try go_wp2
 go_ret
 exact ⟨by first | rfl | (simp [errW_none, errW_some] <;> rfl) | (simp [*, errW_none, errW_some] <;> rfl), hHeld.2.2.2.2.2.2⟩

theorem km_compare (a b : Int) : cmp_Compare_int.f a b = some (kmI a b) := by
 unfold cmp_Compare_int.f cmp_isNaN_int.f kmI
 simp only [Option.bind_some, bne_self_eq_false, Bool.false_eq_true, if_false]
 split
 ·rfl
 ·split <;> rfl
theorem km_or3 (x y z : Int) : cmp_Or_int.f 4 [x, y, z] = some (if x = 0 then (if y = 0 then z else y) else x) := by
 have w1 : wrap64 (0 + 1) = 1 := by unfold wrap64; omega
 have w2 : wrap64 (1 + 1) = 2 := by unfold wrap64; omega
 have w3 : wrap64 (2 + 1) = 3 := by unfold wrap64; omega
 have r0 : rd [x, y, z] 0 = x := rfl
 have r1 : rd [x, y, z] 1 = y := rfl
 have r2 : rd [x, y, z] 2 = z := rfl
 have hl : (([x, y, z] : List Int).length : Int) = 3 := rfl
 unfold cmp_Or_int.f
 rw [hl]
 simp only [cmp_Or_int.l0, hl, w1, w2, w3, r0, r1, r2]
 rw [if_pos (by decide), if_pos (by decide), if_pos (by decide)]
 by_cases h0 : x = 0
 ·rw [if_pos h0, if_pos h0, if_pos (by decide), if_pos (by decide), if_pos (by decide)]
  by_cases h1 : y = 0
  ·rw [if_pos h1, if_pos h1, if_pos (by decide), if_pos (by decide), if_pos (by decide)]
   by_cases h2 : z = 0
   ·rw [if_pos h2, if_neg (by decide), h2]
   ·rw [if_neg h2]
  ·rw [if_neg h1, if_neg h1]
 ·rw [if_neg h0, if_neg h0]
theorem kmC_f (a b : S34) : impl_compareMessages.f 4 a.f0 a.f1 a.f2 b.f0 b.f1 b.f2 = some (kmC a b) := by
 simp only [impl_compareMessages.f, km_compare, Option.bind_some, km_or3]
 rfl
def encM (x : S34) : List Value := [.int .i64 x.f0, .int .i64 x.f1, .int .i64 x.f2]
theorem encM_len (x : S34) : (encM x).length = 3 := rfl
theorem encM_one (x : S34) : ∀ v ∈ encM x, v.oneCell' = true := by
 intro v hv
 simp only [encM, List.mem_cons, List.not_mem_nil, or_false] at hv
 rcases hv with rfl | rfl | rfl <;> rfl
theorem encM_flat (l : List S34) : ∀ v ∈ l.flatMap encM, v.oneCell' = true := by
 intro v hv
 obtain ⟨x, _, hx⟩ := List.mem_flatMap.mp hv
 exact encM_one x v hx
theorem encM_flat_len (l : List S34) : (l.flatMap encM).length = l.length * 3 := by
 induction l with
 | nil => rfl
 | cons x l ih => rw [List.flatMap_cons, List.length_append, ih, encM_len, List.length_cons]; omega
theorem encM_reps (R : S34 → List Value → Prop) (h : ∀ x, R x (encM x)) (l : List S34) : Reps R 3 l (l.flatMap encM) := by
 refine ⟨encM_flat_len l, ?_⟩
 induction l with
 | nil => intro j p hj; simp at hj
 | cons x l ih =>
  intro j p hj
  cases j with
  | zero =>
   simp only [List.getElem?_cons_zero, Option.some.injEq] at hj
   subst hj
   simpa [encM] using h x
  | succ j =>
   have := ih j p (by simpa using hj)
   rw [List.flatMap_cons, show (j + 1) * 3 = 3 + j * 3 by omega, ← List.drop_drop]
   exact this
theorem ko_R {w : World} {base : Nat} {v : Value} {l : List S34} (h : w.ownsRow base 34 3 v l.length (l.flatMap encM)) : Kd.R k34 34 w base (fun _ => True) v l :=
 ⟨fun _ _ => trivial, _, h, encM_reps _ (fun x => k34_mkM _ _ _ x) l⟩
theorem ko_own0 {w : World} {base : Nat} {v : Value} (h : Kd.R k34 34 w base (fun _ => True) v []) : w.ownsRow base 34 3 v 0 [] := by
 obtain ⟨_, inner, ho, hr⟩ := h
 have h0 := hr.1
 simp only [List.length_nil, Nat.zero_mul, List.length_eq_zero_iff] at h0
 subst h0
 exact ho
theorem ko_info : (Try.prog.info? 34).map (fun i => (i.zero, i.size, i.bytes)) = some (some (.agg #[(.int .i64 0), (.int .i64 0), (.int .i64 0)]), 3, 24) := by kernel_rfl
theorem ko_info3 : (Try.prog.info? 3).map (fun i => (i.zero, i.size, i.bytes)) = some (some (.int .i64 0), 1, 8) := by kernel_rfl
theorem ko_take {l : List S34} {n : Nat} (h : n < l.length) : l.take (n + 1) = l.take n ++ [rd_T34 l (n : Int)] := by
 rw [List.take_succ_eq_append_getElem h]
 congr 2
 simp [rd_T34, h]
theorem kmAt_snoc (l : List S34) (x : S34) : (fun t => kmAt (l ++ [x]) t) = upd (fun t => kmAt l t) x.f0 (kmAt l x.f0 ++ [x]) := by
 funext t
 unfold upd
 by_cases c : t = x.f0
 ·subst c
  simp [kmAt]
 ·rw [if_neg c]
  simp [kmAt, Ne.symm c]
/-- the keys so far. -/
def KeysOf (l : List S34) (tg : List Int) : Prop := tg.Nodup ∧ tg.length ≤ l.length ∧ ∀ t, t ∈ tg ↔ ∃ x ∈ l, x.f0 = t
theorem KeysOf.new {l : List S34} {tg : List Int} {x : S34} (h : KeysOf l tg) (he : kmAt l x.f0 = []) : KeysOf (l ++ [x]) (tg ++ [x.f0]) := by
 obtain ⟨h1, h2, h3⟩ := h
 have hno : x.f0 ∉ tg := fun hm => by
  obtain ⟨y, hy, e⟩ := (h3 _).mp hm
  have : y ∈ kmAt l x.f0 := by simp [kmAt, hy, e]
  rw [he] at this
  simp at this
 refine ⟨?_, by simp; omega, fun t => ?_⟩
 ·rw [List.nodup_append]
  refine ⟨h1, by simp, fun a ha b hb => ?_⟩
  simp only [List.mem_singleton] at hb
  subst hb
  exact fun e => hno (e ▸ ha)
 ·simp only [List.mem_append, List.mem_singleton, h3]
  constructor
  ·rintro (⟨y, hy, e⟩ | rfl)
   ·exact ⟨y, .inl hy, e⟩
   ·exact ⟨x, .inr rfl, rfl⟩
  ·rintro ⟨y, hy | rfl, e⟩
   ·exact .inl ⟨y, hy, e⟩
   ·exact .inr e.symm
theorem KeysOf.old {l : List S34} {tg : List Int} {x : S34} (h : KeysOf l tg) (he : kmAt l x.f0 ≠ []) : KeysOf (l ++ [x]) tg := by
 obtain ⟨h1, h2, h3⟩ := h
 refine ⟨h1, by simp; omega, fun t => ?_⟩
 rw [h3]
 constructor
 ·rintro ⟨y, hy, e⟩
  exact ⟨y, by simp [hy], e⟩
 ·rintro ⟨y, hy, e⟩
  simp only [List.mem_append, List.mem_singleton] at hy
  rcases hy with hy | rfl
  ·exact ⟨y, hy, e⟩
  ·obtain ⟨z, r, hz⟩ := List.exists_cons_of_ne_nil he
   have : z ∈ kmAt l y.f0 := by rw [hz]; simp
   simp only [kmAt, List.mem_filter, decide_eq_true_eq] at this
   exact ⟨z, this.1, by rw [this.2, e]⟩
def outS (ts : List Int) (l : List S34) (j : Nat) : List S34 := (ts.take j).flatMap (fun t => kmSort (kmAt l t))
theorem outS_succ (ts : List Int) (l : List S34) (j : Nat) (h : j < ts.length) : outS ts l (j + 1) = outS ts l j ++ kmSort (kmAt l ts[j]) := by
 unfold outS
 rw [List.take_succ_eq_append_getElem h, List.flatMap_append]
 simp
theorem outS_all (ts : List Int) (l : List S34) (hn : ts.Pairwise (· < ·)) (h : ∀ x ∈ l, x.f0 ∈ ts) : outS ts l ts.length = kmSort l := by
 unfold outS
 rw [List.take_length]
 exact km_buckets ts l hn h
theorem outS_len (ts : List Int) (l : List S34) (hn : ts.Pairwise (· < ·)) (h : ∀ x ∈ l, x.f0 ∈ ts) (j : Nat) : (outS ts l j).length ≤ l.length := by
 have h1 := congrArg List.length (outS_all ts l hn h)
 rw [kmSort_length] at h1
 rw [← h1]
 unfold outS
 rw [List.take_length]
 conv => rhs; rw [← List.take_append_drop j ts, List.flatMap_append, List.length_append]
 omega
def impl_inOrder.f (l0 : List S34) : Option (List S34) := if l0.length ≤ 1000000 ∧ ∀ x ∈ l0, -9223372036854775808 ≤ x.f0 ∧ x.f0 ≤ 9223372036854775807 then some (kmSort l0) else none
def impl_inOrder.T8 : Bool × List (List Nat × List Nat) := (true, [([], []), ([], []), ([1], [1]), ([], []), ([], []), ([4], [4]), ([3, 5], [3, 5]), ([], []), ([7], [7]), ([6, 8], [6, 8]), ([0, 2, 9, 9, 0, 1, 2, 3, 4, 5, 6, 7, 8, 9], [0, 2, 9])])
def impl_inOrder.B8 : List Nat := [0, 0, 2, 0, 0, 16, 56, 0, 128, 504, 1023]
theorem impl_inOrder.tab8 : rtab .any (opsOf Try.f72 8) = impl_inOrder.T8 := by kernel_rfl
theorem impl_inOrder.bits8 : waitsOk impl_inOrder.T8.2 impl_inOrder.B8 = true := by kernel_rfl
theorem ko_sortInts (g cap : Nat) (zs : List Int) (w : World) (hH : Go.Sort.Holds (Value.int .i64) w g 0 zs.toArray) (hg : g < w.heap.size) (hsz : zs.length < 4611686018427387904) :
  Calls Try.prog 112 #[.slice (some ⟨g, 0, none⟩) zs.length cap] w fun e w' => e = .returned (.tuple #[]) ∧ ∃ n os, w' = Go.Sort.grow (Go.Sort.putRow (Value.int .i64) (Go.Sort.ahead w n) g 0 (zs.mergeSort fun x y => decide (x ≤ y)).toArray) os :=
 AnyM.slices_Sort_int Try.sortInts g 0 cap zs w hH hg hsz
theorem ko_sortNone (w : World) : Calls Try.prog 112 #[.slice none 0 0] w fun e w' => e = .returned (.tuple #[]) ∧ w' = w :=
 AnyM.slices_Sort_int_none Try.sortInts none 0 w
theorem ko_sortMsgs (g cap : Nat) (zs : List S34) (w : World) (hH : Go.Sort.HoldsK encM 3 w g 0 zs.toArray) (hg : g < w.heap.size) (hsz : zs.length < 4611686018427387904) :
  Calls Try.prog 113 #[.slice (some ⟨g, 0, none⟩) zs.length cap, .func (.func 114) #[] #[]] w fun e w' => e = .returned (.tuple #[]) ∧ ∃ n os, w' = sortWorldK encM 3 w g 0 n (kmSort zs).toArray os := by
 have eg : ∀ args w, (callFunc 114 args).run Try.prog w = .ok (.enter 114 args) w := Go.Proofs.enters_of Try.func114 (by kernel_rfl) rfl
 have hl : CmpLays Try.prog 114 #[] encM 3 kmC g 0 zs.toArray.size w := fun m os dk _ x y => impl_compareMessages.lays 4 x.f0 x.f1 x.f2 y.f0 y.f1 y.f2 (kmC x y) _ (kmC_f x y)
 have hcon := AnyQ.slices_SortFunc_total Try.sortMsgs 3 Try.isAgg34 Try.sizeOf34 encM encM_len encM_one kmC kmSWO 114 #[] g 0 cap zs.toArray w eg hl hH hg (by simpa using hsz) kmT
 exact hcon
theorem ko_off {w : World} {base : Nat} {e : TypeId} {size n : Nat} {v : Value} {xs : List Value} (h : w.ownsRow base e size v n xs) {b : Nat} (hb : b < base) : v.ownBlock = none ∨ v.ownBlock ≠ some b := by
 cases hx : v.ownBlock with
 | none => exact .inl rfl
 | some g =>
  refine .inr (fun e => ?_)
  cases e
  have := own_base h _ hx
  omega
theorem ko_sort {v : Value} {tg : List Int} {wr : World} {base : Nat} (h : wr.ownsRow base 3 1 v tg.length (nums .i64 tg)) (hl : tg.length ≤ 1000000) :
  Calls Try.prog 112 #[v] wr fun e w' => e = .returned (.tuple #[]) ∧ w'.ownsRow base 3 1 v (tg.mergeSort fun x y => decide (x ≤ y)).length (nums .i64 (tg.mergeSort fun x y => decide (x ≤ y))) ∧ wr.grownBy w' v.ownBlock := by
 rcases h.2 with ⟨rfl, h0⟩ | ⟨g, cap, cur, rfl, hbase, hb, h1, h2, h3, h4⟩
 ·have e0 := List.length_eq_zero_iff.mp h0
  subst e0
  refine (ko_sortNone wr).mono ?_
  rintro e w' ⟨rfl, rfl⟩
  exact ⟨rfl, by simpa [nums] using own_nil w' base 3 1, ⟨rfl, rfl, rfl, Nat.le_refl _, fun _ _ _ => rfl⟩⟩
 ·refine (ko_sortInts g cap tg wr (ks_holds1 (Value.int .i64) hb (by simpa [nums] using h4)) (blk_lt hb) (by omega)).mono ?_
  rintro e w' ⟨rfl, n, os, rfl⟩
  refine ⟨rfl, ?_, ks_grown _ _⟩
  have h5 := ks_own1 (n := n) (os := os) (Value.int .i64) (xs := tg) (ys := tg.mergeSort fun x y => decide (x ≤ y)) (List.length_mergeSort _) hbase hb h1 h2 h3
  rw [List.length_mergeSort]
  exact h5
theorem ko_sortB {v : Value} {zs : List S34} {wr : World} {base : Nat} (h : wr.ownsRow base 34 3 v zs.length (zs.flatMap encM)) (hl : zs.length ≤ 1000000) :
  Calls Try.prog 113 #[v, .func (.func 114) #[] #[]] wr fun e w' => e = .returned (.tuple #[]) ∧ w'.ownsRow base 34 3 v (kmSort zs).length ((kmSort zs).flatMap encM) ∧ wr.grownBy w' v.ownBlock := by
 rcases h.2 with ⟨rfl, h0⟩ | ⟨g, cap, cur, rfl, hbase, hb, h1, h2, h3, h4⟩
 ·have e0 := List.length_eq_zero_iff.mp h0
  subst e0
  refine Calls.mono (AnyF.slices_SortFunc_none Try.sortMsgs none 0 (.func (.func 114) #[] #[]) wr) ?_
  rintro e w' ⟨rfl, rfl⟩
  exact ⟨rfl, by simpa [kmSort] using own_nil w' base 34 3, ⟨rfl, rfl, rfl, Nat.le_refl _, fun _ _ _ => rfl⟩⟩
 ·refine (ko_sortMsgs g cap zs wr (ks_holds encM 3 encM_len hb h4) (blk_lt hb) (by omega)).mono ?_
  rintro e w' ⟨rfl, n, os, rfl⟩
  refine ⟨rfl, ?_, ks_grown _ _⟩
  rw [kmSort_length]
  exact ks_ownK encM encM_len (kmSort_length zs) hbase hb h1 h2 h3
theorem ko_off' {w : World} {base : Nat} {e : TypeId} {size n : Nat} {v : Value} {xs : List Value} (h : w.ownsRow base e size v n xs) {b : Nat} (hb : w.heap.size ≤ b) : v.ownBlock = none ∨ v.ownBlock ≠ some b := by
 cases hx : v.ownBlock with
 | none => exact .inl rfl
 | some g =>
  refine .inr (fun e => ?_)
  cases e
  have := own_lt h _ hx
  omega
theorem ko_add (g j : Nat) : ((⟨g, 0, none⟩ : Addr).add j) = ⟨g, j, none⟩ := by
 cases j with
 | zero => rfl
 | succ j => simp [Addr.add]
theorem ko_ne (v : Value) : v.ownBlock = none ∨ v.ownBlock ≠ none := by cases v.ownBlock <;> simp
set_option maxRecDepth 100000 in
set_option maxHeartbeats 8000000 in
theorem impl_inOrder.calls (A0 : Option Addr) (c0 : Nat) (l0 : List S34) (r : List S34) (w : World) (hr0 : Kd.C k34 w A0 l0.length l0) (hc0 : l0.length ≤ c0) (h : impl_inOrder.f l0 = some r) :
  Calls Try.prog 72 #[.slice A0 l0.length c0] w fun e w' => ∃ v0_ : Value, e = .returned (v0_) ∧ Kd.R k34 34 w' w.heap.size (fun _ => True) v0_ r ∧ Below w.heap.size w w' := by
 have HR0 := Aside0.mk hr0
 have HC0 := Aside0.mk hc0
 clear hr0 hc0
 unfold impl_inOrder.f at h
 by_cases hc : l0.length ≤ 1000000 ∧ ∀ x ∈ l0, -9223372036854775808 ≤ x.f0 ∧ x.f0 ≤ 9223372036854775807
 case neg => rw [if_neg hc] at h; cases h
 rw [if_pos hc] at h
 obtain rfl := Option.some.inj h
 clear h
 obtain ⟨hlen, hwf⟩ := hc
 have HW := Aside0.mk hwf
 clear hwf
 have HI3 := Aside0.mk ko_info3
 have HZ : ∀ w, (zeroValue 28).run Try.prog w = .ok (.slice none 0 0) w := fun w => by go_simp
 have HZ' := Aside0.mk HZ
 clear HZ HI3
 have hmm := @run_makeMap Try.prog
 go_enter Try.func72, Try.ntmps72
 go_wp2
 go_loopw [4, 14] (fun v i wr => ∃ (n : Nat) (tg : List Int) (bk : Int → Value), n ≤ l0.length ∧ i = .int .i64 n ∧ Aside0 (Bk Try.prog 3 34 3 encM w.heap.size n (w.heap.size + 1) (fun t => kmAt (l0.take n) t) bk wr) ∧ Aside0 (wr.ownsRow (w.heap.size + 1) 3 1 v tg.length (nums .i64 tg)) ∧ Aside0 (KeysOf (l0.take n) tg) ∧ Aside0 (Below w.heap.size w wr)) (fun _ i _ => l0.length - (intOf i).toNat)
 case atStart => exact ⟨0, [], fun _ => .slice none 0 0, by omega, rfl, ⟨Bk.made Try.prog 3 34 3 encM w⟩, ⟨own_nil _ _ _ _⟩, ⟨by simp, by simp, fun t => by simp⟩, ⟨(Below.refl w.heap.size w).alloc (Nat.le_refl _) _⟩⟩
 case round =>
  obtain ⟨n, tg, bk, hn, rfl, HK, HT, HF, HB⟩ := hrel
  by_cases hlt : n < l0.length
  ·obtain ⟨ad, ead, hx0, hx1, hx2⟩ := at_T34 HR0.out (n : Int) (by omega) (by omega)
   cases ead
   replace hx0 := (HB.out.cell (World.block_lt_of_cell? w _ hx0)).trans hx0
   replace hx1 := (HB.out.cell (World.block_lt_of_cell? w _ hx1)).trans hx1
   replace hx2 := (HB.out.cell (World.block_lt_of_cell? w _ hx2)).trans hx2
   simp only [Int.toNat_natCast] at hx0 hx1 hx2
   have q1 : ((n : Int) < (l0.length : Int)) = True := eq_true (by omega)
   have q2 : (n < l0.length) = True := eq_true hlt
   have htk := Aside0.mk (ko_take hlt)
   have hwx : (Lit.int .i64 (rd_T34 l0 (n : Int)).f0).wf = true := by
    have h1 := HW.out (rd_T34 l0 (n : Int)) (by
     have := List.mem_append_right (l0.take n) (List.mem_singleton.mpr (rfl : rd_T34 l0 (n : Int) = rd_T34 l0 (n : Int)))
     rw [← htk.out] at this
     exact List.mem_of_mem_take this)
    simp [Lit.wf, IntKind.min, IntKind.max, IntKind.signed, IntKind.bits]
    omega
   have HWX := Aside0.mk hwx
   clear hwx
   go_upto_region 6 with (first
    | ((with_reducible refine gate_dst (N := 6) rfl ?_); refine box_event ?hg (N := 6) ?hd (cs := #[.int .i64 0, .int .i64 0, .int .i64 0]) (t := 34) ?hr ?_; (case hd => rfl); (case hg => rfl); (case hr => first | (go_simp; done) | (go_simp; rfl)); intro gm hgm w15 hbox hb; have hz0 : w15.cell? ⟨gm, 0, none⟩ = some (.int .i64 0) := (blk_cell hbox 0).trans rfl; have hz1 : w15.cell? ⟨gm, 1, none⟩ = some (.int .i64 0) := (blk_cell hbox 1).trans rfl; have hz2 : w15.cell? ⟨gm, 2, none⟩ = some (.int .i64 0) := (blk_cell hbox 2).trans rfl; have hf0 := blk_frozen hbox 0; have hf1 := blk_frozen hbox 1; have hf2 := blk_frozen hbox 2; have hge := Aside0.mk (Nat.le_of_eq hgm.symm); clear hgm))
   generalize hwm : (((w15.setCell ⟨gm, 0, none⟩ (.int .i64 (rd_T34 l0 (n : Int)).f0)).setCell ⟨gm, 1, none⟩ (.int .i64 (rd_T34 l0 (n : Int)).f1)).setCell ⟨gm, 2, none⟩ (.int .i64 (rd_T34 l0 (n : Int)).f2)) = wm
   have hbm : Below wr.heap.size wr wm := by
    rw [← hwm]
    exact below_set (below_set (below_set hb hge.out) hge.out) hge.out
   have hgm : wm.heap[gm]? = some (.cells #[.int .i64 (rd_T34 l0 (n : Int)).f0, .int .i64 (rd_T34 l0 (n : Int)).f1, .int .i64 (rd_T34 l0 (n : Int)).f2] 34 (0, 0)) := by
    rw [← hwm]
    refine blk_put (cs := #[.int .i64 (rd_T34 l0 (n : Int)).f0, .int .i64 (rd_T34 l0 (n : Int)).f1, .int .i64 0]) ?_ 2 _ rfl
    refine blk_put (cs := #[.int .i64 (rd_T34 l0 (n : Int)).f0, .int .i64 0, .int .i64 0]) ?_ 1 _ rfl
    exact blk_put (cs := #[.int .i64 0, .int .i64 0, .int .i64 0]) hbox 0 _ rfl
   have HKm := Aside0.mk (HK.out.kept (grown_of_below hbm none) (by simp) (fun t => ko_ne _))
   have HTm := Aside0.mk (pw_own_below HT.out hbm)
   have HBm := Aside0.mk (below_step HB.out hbm)
   have hgw : w.heap.size + 1 ≤ gm := by
    have h1 := HB.out.size
    have h2 := hge.out
    have h3 := HK.out.map
    obtain ⟨D, hD, _⟩ := h3
    have h4 := hD.lt
    omega
   have hng : ∀ t, (bk t).ownBlock ≠ some gm := fun t e => by
    have h1 := ((HK.out.row t).lt gm e).2
    have h2 := hge.out
    omega
   have HNG := Aside0.mk hng
   clear hng
   have HG := Aside0.mk hgm
   have HGW := Aside0.mk hgw
   have hc0 : wm.cell? ⟨gm, 0, none⟩ = some (.int .i64 (rd_T34 l0 (n : Int)).f0) := (blk_cell hgm 0).trans rfl
   clear hwm hb hbm hbox hz0 hz1 hz2 hf0 hf1 hf2 hge HK HT HB hx0 hx1 hx2 hgm hgw
   have hrun := HKm.out.at Try.underlying3 Try.underlying131 (HZ'.out wm) (rd_T34 l0 (n : Int)).f0 HWX.out
   obtain ⟨Ak, ck, ek⟩ := own_slice (HKm.out.row (rd_T34 l0 (n : Int)).f0)
   have EK := Aside0.mk ek
   rw [ek] at hrun
   clear ek
   obtain ⟨m, hm⟩ : ∃ m, m = (kmAt (l0.take n) (rd_T34 l0 (n : Int)).f0).length := ⟨_, rfl⟩
   rw [← hm] at hrun
   have HM := Aside0.mk hm
   clear hm
   have hn' : tg.length ≤ 1000000 := by
    have h1 := HF.out.2.1
    rw [List.length_take] at h1
    omega
   go_upto_if 23 with (fail)
   go_cut [4] (fun v4 wc => ∃ tg' : List Int, Aside0 (Bk Try.prog 3 34 3 encM w.heap.size n (w.heap.size + 1) (fun t => kmAt (l0.take n) t) bk wc) ∧ Aside0 (wc.ownsRow (w.heap.size + 1) 3 1 v4 tg'.length (nums .i64 tg')) ∧ Aside0 (KeysOf (l0.take (n + 1)) tg') ∧ Aside0 (wc.heap[gm]? = some (.cells #[.int .i64 (rd_T34 l0 (n : Int)).f0, .int .i64 (rd_T34 l0 (n : Int)).f1, .int .i64 (rd_T34 l0 (n : Int)).f2] 34 (0, 0))) ∧ Aside0 (Below w.heap.size w wc))
   case first =>
    by_cases hm0 : m = 0
    ·have he0 : ((m : Int) == 0) = true := by simp [hm0]
     have hm1 := Aside0.mk hm0
     clear hm0
     go_wp2_with (first | ((with_reducible refine gate_builtin (b := .append) (xs := #[.tmp 24, .tmp 27]) rfl ?_); at_builtin; refine print_append_num (w0 := wm) (w.heap.size + 1) rfl (.tmp 24) (.tmp 27) 59 3 .i64 8 rfl Try.underlying59 ko_info3 (by omega) u4 tg (rd_T34 l0 (n : Int)).f0 rfl rfl HTm.out (Below.refl _ _) ?aS ?aL ?_; (case aS => have h1 := blk_lt HG.out; have h2 := HGW.out; omega); (case aL => omega); intro v1 w1 hown hb1 hg1 hat))
     go_meet
     have hne4 : some w.heap.size ≠ u4.ownBlock := fun e => by
      have := own_base HTm.out _ e.symm
      omega
     refine ⟨tg ++ [(rd_T34 l0 (n : Int)).f0], ⟨HKm.out.kept hg1 hne4 (fun t => own_type_ne (HKm.out.row t) HTm.out (by decide))⟩, ⟨hown⟩, ⟨?_⟩, ⟨blk_grown HG.out hg1 (own_ne HTm.out HG.out (by decide))⟩, ⟨pw_below_grown HBm.out _ (below_size HBm.out) hg1 (fun k hk => ?_)⟩⟩
     ·rw [htk.out]
      refine HF.out.new (List.length_eq_zero_iff.mp ?_)
      rw [← HM.out]
      exact hm1.out
     ·have := own_base HTm.out _ hk
      omega
    ·have he0 : ((m : Int) == 0) = false := by simp [hm0]
     have hm1 := Aside0.mk hm0
     clear hm0
     go_wp2
     go_meet
     refine ⟨tg, HKm, HTm, ⟨?_⟩, HG, HBm⟩
     rw [htk.out]
     refine HF.out.old (fun e => hm1.out ?_)
     rw [HM.out, e]
     rfl
   case rest =>
    clear HKm HTm HF HG HBm hc0 hrun hn'
    obtain ⟨tg', HK, HT, HF, HG, HB⟩ := hcut
    go_upto_region 8 with (fail)
    have hgd : wc.grownBy wc.drew none := ⟨rfl, rfl, rfl, Nat.le_refl _, fun _ _ _ => rfl⟩
    have HKd := Aside0.mk (HK.out.kept hgd (by simp) (fun t => ko_ne _))
    have HTd := Aside0.mk (HT.out.drew)
    have hGd : wc.drew.heap[gm]? = some (.cells #[.int .i64 (rd_T34 l0 (n : Int)).f0, .int .i64 (rd_T34 l0 (n : Int)).f1, .int .i64 (rd_T34 l0 (n : Int)).f2] 34 (0, 0)) := HG.out
    have HGd := Aside0.mk hGd
    have HBd := Aside0.mk (below_drew1 HB.out)
    have hrun := HKd.out.at Try.underlying3 Try.underlying131 (HZ'.out wc.drew) (rd_T34 l0 (n : Int)).f0 HWX.out
    rw [EK.out, ← HM.out] at hrun
    have HRUN := Aside0.mk hrun
    clear hgd HK HT HG HB hGd hrun
    refine start_ (n := 11) (S := fun w' => w'.cell? ⟨gm, 0, none⟩ = some (.int .i64 (rd_T34 l0 (n : Int)).f0) ∧ w'.cell? ⟨gm, 1, none⟩ = some (.int .i64 (rd_T34 l0 (n : Int)).f1) ∧ w'.cell? ⟨gm, 2, none⟩ = some (.int .i64 (rd_T34 l0 (n : Int)).f2) ∧ (Instr.lookup 131 (.map (some w.heap.size)) (.int .i64 (rd_T34 l0 (n : Int)).f0) false).run Try.prog w' = .ok (.slice Ak m ck) w') (ds := [10]) (bm 11 0) (by kernel_rfl) rfl rfl ⟨(blk_cell HGd.out 0).trans rfl, (blk_cell HGd.out 1).trans rfl, (blk_cell HGd.out 2).trans rfl, HRUN.out⟩ (fun hHeld => ?_)
    refine with_tabW impl_inOrder.tab8 impl_inOrder.bits8 (fun HT_ HW_ => ?_)
    clear HRUN
    generalize wc.drew = wd at HKd HTd HGd HBd hHeld ⊢
    refine pure_ (i := 0) (N := some 29) (v := ?_) (a' := ?_) (bm 11 1) rfl rfl (any_of HT_.out (by kernel_rfl)) (fun _ _ _ h => h) (Or.inl ⟨by rfl, ?_⟩) ?_ ?_
    rotate_left
    ·intro w1
     go_simp
     with_reducible rfl
    rotate_left
    ·simp only [Act.put, List.setIfInBounds_toArray, List.set_cons_zero, List.set_cons_succ, i64_w, i32_w]
     rfl
    refine pure_ (i := 1) (N := some 30) (v := ?_) (a' := ?_) (bm 11 3) rfl rfl (any_of HT_.out (by kernel_rfl)) (fun _ _ _ h => h) (Or.inl ⟨by rfl, ?_⟩) ?_ ?_
    rotate_left
    ·intro w1
     go_simp
     with_reducible rfl
    rotate_left
    ·simp only [Act.put, List.setIfInBounds_toArray, List.set_cons_zero, List.set_cons_succ, i64_w, i32_w]
     rfl
    refine pure_ (i := 3) (N := some 32) (v := ?_) (a' := ?_) (bm 11 11) rfl rfl (any_of HT_.out (by kernel_rfl)) (fun _ _ _ h => h) (Or.inl ⟨by rfl, ?_⟩) ?_ ?_
    rotate_left
    ·intro w1
     go_simp
     with_reducible rfl
    rotate_left
    ·simp only [Act.put, List.setIfInBounds_toArray, List.set_cons_zero, List.set_cons_succ, i64_w, i32_w]
     rfl
    refine pure_ (i := 4) (N := some 33) (v := ?_) (a' := ?_) (bm 11 27) rfl rfl (any_of HT_.out (by kernel_rfl)) (fun _ _ _ h => h) (Or.inl ⟨by rfl, ?_⟩) ?_ ?_
    rotate_left
    ·intro w1
     go_simp
     with_reducible rfl
    rotate_left
    ·simp only [Act.put, List.setIfInBounds_toArray, List.set_cons_zero, List.set_cons_succ, i64_w, i32_w]
     rfl
    refine take_ (i := 2) (N := some 31) (v := ?_) (a' := ?_) (bm 11 31) rfl rfl (take_ofW HT_.out HW_.out (by kernel_rfl)) (fun _ _ _ h => h) (Or.inl ⟨by rfl, ?_⟩) hHeld ?_ ?_
    rotate_left
    ·rintro w1 ⟨s0, s1, s2, s3⟩
     go_simp
     with_reducible rfl
    rotate_left
    ·simp only [Act.put, List.setIfInBounds_toArray, List.set_cons_zero, List.set_cons_succ, i64_w, i32_w]
     rfl
    refine take_ (i := 5) (N := some 34) (v := ?_) (a' := ?_) (bm 11 63) rfl rfl (take_ofW HT_.out HW_.out (by kernel_rfl)) (fun _ _ _ h => h) (Or.inl ⟨by rfl, ?_⟩) hHeld ?_ ?_
    rotate_left
    ·rintro w1 ⟨s0, s1, s2, s3⟩
     go_simp
     with_reducible rfl
    rotate_left
    ·simp only [Act.put, List.setIfInBounds_toArray, List.set_cons_zero, List.set_cons_succ, i64_w, i32_w]
     rfl
    refine take_ (i := 6) (N := some 35) (v := ?_) (a' := ?_) (bm 11 127) rfl rfl (take_ofW HT_.out HW_.out (by kernel_rfl)) (fun _ _ _ h => h) (Or.inl ⟨by rfl, ?_⟩) hHeld ?_ ?_
    rotate_left
    ·rintro w1 ⟨s0, s1, s2, s3⟩
     go_simp
     with_reducible rfl
    rotate_left
    ·simp only [Act.put, List.setIfInBounds_toArray, List.set_cons_zero, List.set_cons_succ, i64_w, i32_w]
     rfl
    refine take_ (i := 7) (N := some 36) (v := ?_) (a' := ?_) (bm 11 255) rfl rfl (take_ofW HT_.out HW_.out (by kernel_rfl)) (fun _ _ _ h => h) (Or.inl ⟨by rfl, ?_⟩) hHeld ?_ ?_
    rotate_left
    ·rintro w1 ⟨s0, s1, s2, s3⟩
     go_simp
     with_reducible rfl
    rotate_left
    ·simp only [Act.put, List.setIfInBounds_toArray, List.set_cons_zero, List.set_cons_succ, i64_w, i32_w]
     rfl
    refine one_ (i := 8) (N := some 37) (bm 11 511) rfl rfl (one_of HT_.out (by kernel_rfl)) (by decide) (fun K hK => ?_)
    refine value_ (v := .slice (some ⟨wd.heap.size, 0, none⟩) 1 1) (w1 := wd.alloc (.cells #[.int .i64 (rd_T34 l0 (n : Int)).f0, .int .i64 (rd_T34 l0 (n : Int)).f1, .int .i64 (rd_T34 l0 (n : Int)).f2] 34)) (by rfl) rfl ?_ ?_
    ·first | (go_simp; done) | (go_simp; rfl)
    have hga := World.grownBy_alloc wd (.cells #[.int .i64 (rd_T34 l0 (n : Int)).f0, .int .i64 (rd_T34 l0 (n : Int)).f1, .int .i64 (rd_T34 l0 (n : Int)).f2] 34) none
    have hGa := blk_grown HGd.out hga (by simp)
    have hra := HKd.out.at_kept hga (by simp) Try.underlying3 Try.underlying131 (HZ'.out _) (rd_T34 l0 (n : Int)).f0 HWX.out
    rw [EK.out, ← HM.out] at hra
    refine hK.out _ _ ⟨(blk_cell hGa 0).trans rfl, (blk_cell hGa 1).trans rfl, (blk_cell hGa 2).trans rfl, hra⟩ (fun hHeld2 => ?_)
    clear hga hra hGa hHeld
    clear hK K
    refine norm_ (a' := ?_) ?_ ?_
    rotate_left
    ·show Act.put _ (some 37) _ = _
     simp only [Act.put, List.setIfInBounds_toArray, List.set_cons_zero, List.set_cons_succ, i64_w, i32_w]
     rfl
    refine one_ (i := 9) (N := some 38) (bm 11 1023) rfl rfl (one_of HT_.out (by kernel_rfl)) (by decide) (fun K hK => ?_)
    have hbd : w.heap.size + 1 ≤ wd.heap.size := by
     have h1 := blk_lt HGd.out
     have h2 := HGW.out
     omega
    have hml : m ≤ 1000000 := by
     have h1 := HM.out
     have h2 := List.length_filter_le (fun x : S34 => decide (x.f0 = (rd_T34 l0 (n : Int)).f0)) (l0.take n)
     rw [List.length_take] at h2
     unfold kmAt at h1
     omega
    have hrow := HKd.out.row (rd_T34 l0 (n : Int)).f0
    rw [EK.out, ← HM.out] at hrow
    refine step_append_cells (w0 := wd) (W := wd) (w.heap.size + 1) (by rfl) (.tmp 35) (.tmp 37) 28 34 (.agg #[(.int .i64 0), (.int .i64 0), (.int .i64 0)]) 3 24 rfl Try.underlying28 ko_info rfl (by omega) (by omega) (.slice Ak m ck) m ((kmAt (l0.take n) (rd_T34 l0 (n : Int)).f0).flatMap encM) (encM (rd_T34 l0 (n : Int))) rfl rfl rfl (encM_one _) hrow (Below.refl _ _) hbd (by omega) ?_
    intro v1 w1 hown hb1 hg1 hat
    have hgk : wd.grownBy w1 (bk (rd_T34 l0 (n : Int)).f0).ownBlock := by
     rw [EK.out, ← HM.out]
     exact hg1
    have hat' : v1.ownBlock = (bk (rd_T34 l0 (n : Int)).f0).ownBlock ∨ ∃ g, v1.ownBlock = some g ∧ wd.heap.size ≤ g := by
     rw [EK.out, ← HM.out]
     exact hat
    have hown' : w1.ownsRow (w.heap.size + 1) 34 3 v1 (kmAt (l0.take n) (rd_T34 l0 (n : Int)).f0 ++ [rd_T34 l0 (n : Int)]).length ((kmAt (l0.take n) (rd_T34 l0 (n : Int)).f0 ++ [rd_T34 l0 (n : Int)]).flatMap encM) := by
     rw [List.length_append, List.length_singleton, ← HM.out, List.flatMap_append]
     simpa using hown
    obtain ⟨w2, hrun2, HK2, hg2⟩ := HKd.out.put Try.underlying3 Try.underlying131 (show n < maxLen by unfold maxLen; omega) HWX.out hgk hown' hat'
    have hG1 := blk_grown HGd.out hgk (Ne.symm (HNG.out _))
    have hr1 := HKd.out.at_kept hgk (HKd.out.ne _) Try.underlying3 Try.underlying131 (HZ'.out _) (rd_T34 l0 (n : Int)).f0 HWX.out
    rw [EK.out, ← HM.out] at hr1
    refine hK.out _ _ ⟨(blk_cell hG1 0).trans rfl, (blk_cell hG1 1).trans rfl, (blk_cell hG1 2).trans rfl, hr1⟩ (fun hHeld3 => ?_)
    have HT2 := Aside0.mk ((HTd.out.kept hgk (own_type_ne HTd.out (HKd.out.row _) (by decide))).kept hg2 (ko_off HTd.out (by omega)))
    have HB2 := Aside0.mk (pw_below_grown (pw_below_grown HBd.out _ (below_size HBd.out) hgk (fun k hk => by have := own_base (HKd.out.row _) k hk; omega)) _ (Nat.le_trans (below_size HBd.out) hgk.size) hg2 (fun k hk => by cases hk; omega))
    have HK3 := Aside0.mk HK2
    clear hr1 hG1 hHeld2 hHeld3 hgk hat' hown' hown hb1 hg1 hat hrow HK2
    clear hK K
    refine norm_ (a' := ?_) ?_ ?_
    rotate_left
    ·show Act.put _ (some 38) _ = _
     simp only [Act.put, List.setIfInBounds_toArray, List.set_cons_zero, List.set_cons_succ, i64_w, i32_w]
     rfl
    refine last_ (i := 10) (N := none) (bm 11 2047) rfl rfl (one_of HT_.out (by kernel_rfl)) (by decide) (fun K hK => ?_)
    refine skip_ (w1 := w2) (by rfl) rfl ?_ ?_
    ·first | (go_simp; done) | (go_simp; rfl)
    refine hK.out _ _ ?_
    clear hK K hrun2 hg2
    refine done_ (done_of HT_.out (by kernel_rfl)) ?_
    go_wp2
    go_roundw
    case measure => simp [intOf]; omega
    case rel => exact ⟨n + 1, tg', _, by omega, by go_num, ⟨by rw [htk.out, kmAt_snoc]; exact HK3.out⟩, HT2, HF, HB2⟩
  ·obtain rfl : n = l0.length := by omega
   clear hn hlt
   rw [List.take_length] at HK HF
   have hF := HF.out
   obtain ⟨At, ct, rfl⟩ := own_slice HT.out
   have HTw := Aside0.mk HT.out
   have htl : tg.length ≤ 1000000 := Nat.le_trans hF.2.1 hlen
   obtain ⟨ts, hts⟩ : ∃ ts, ts = tg.mergeSort fun x y => decide (x ≤ y) := ⟨_, rfl⟩
   have hS := ko_sort HT.out htl
   rw [← hts] at hS
   have htsl : ts.length = tg.length := by rw [hts, List.length_mergeSort]
   have HSP := Aside0.mk (show ts.Pairwise (· < ·) by rw [hts]; exact km_sorted tg hF.1)
   have HSM := Aside0.mk (show ∀ t, t ∈ ts ↔ ∃ x ∈ l0, x.f0 = t by
    intro t
    rw [hts, ← hF.2.2 t]
    exact (List.mergeSort_perm tg _).mem_iff)
   have HSL := Aside0.mk htsl
   have HSA := Aside0.mk hS
   clear hF hts htsl hS
   have HTY := Aside0.mk (fun t => own_type_ne (HK.out.row t) HT.out (by decide))
   go_wp2_with (first
    | (go_at_call 112; (with_reducible refine HSA.out.mono ?_); rintro e w1 ⟨rfl, hT1, hg1⟩)
    | ((with_reducible refine gate_dst (N := 44) rfl ?_); refine Kd.R_cap k34 _ 34 rfl (N := 44) rfl 28 _ _ rfl (l0.length : Int) rfl rfl Try.underlying28 (.agg #[(.int .i64 0), (.int .i64 0), (.int .i64 0)]) 24 ko_info rfl (by decide) (by omega) z34 (ok := fun _ => True) (okp := fun _ => True) (k34_mkM _ _ _ z34) (fun _ hk => hk) trivial (by omega) (by rw [Int.toNat_natCast]; omega) (Below.refl _ _) (Nat.le_refl _) ?_; intro vo w2 ho2 hb2 hg2 hnew2))
   have hsz : w.heap.size + 1 ≤ wr.heap.size := by
    obtain ⟨D, hD, _⟩ := HK.out.map
    exact hD.lt
   have hnb : some w.heap.size ≠ (Value.slice At tg.length ct).ownBlock := fun e => by
    have := own_base HTw.out _ e.symm
    omega
   have hK1 := HK.out.kept hg1 hnb (fun t => HTY.out t)
   have HK2 := Aside0.mk (hK1.kept hg2 (by simp) (fun t => ko_ne _))
   have HT2 := Aside0.mk (hT1.kept hg2 (ko_ne _))
   have hV0 := own_weaken (ko_own0 ho2) (Nat.le_trans hsz hg1.size)
   have HV := Aside0.mk hV0
   have HN := Aside0.mk (show ∀ t, (bk t).ownBlock = none ∨ (bk t).ownBlock ≠ vo.ownBlock from fun t => by
    obtain ⟨q, hq, hqs⟩ := hnew2
    rw [hq]
    exact ko_off' (hK1.row t) hqs)
   have HB2 := Aside0.mk (pw_below_grown (pw_below_grown HB.out _ (below_size HB.out) hg1 (fun k hk => by have := own_base HTw.out k hk; omega)) _ (Nat.le_trans (below_size HB.out) hg1.size) hg2 (fun k hk => by cases hk))
   clear hK1 hV0 hnew2 hb2 ho2 hT1 hg1 hg2 HK HTw HTY HSA HB HF HT hnb hsz
   go_loopw [7, 47] (fun v i wq => ∃ (j : Nat) (A : Int → List S34), j ≤ tg.length ∧ i = .int .i64 j ∧ Aside0 (Bk Try.prog 3 34 3 encM w.heap.size l0.length (w.heap.size + 1) A bk wq) ∧ Aside0 (∀ t ∈ ts.drop j, A t = kmAt l0 t) ∧ Aside0 (wq.ownsRow (w.heap.size + 1) 34 3 v (outS ts l0 j).length ((outS ts l0 j).flatMap encM)) ∧ Aside0 (∀ t, (bk t).ownBlock = none ∨ (bk t).ownBlock ≠ v.ownBlock) ∧ Aside0 (wq.ownsRow (w.heap.size + 1) 3 1 (.slice At tg.length ct) ts.length (nums .i64 ts)) ∧ Aside0 (Below w.heap.size w wq)) (fun _ i _ => tg.length - (intOf i).toNat)
   case atStart => exact ⟨0, _, by omega, rfl, HK2, ⟨fun t _ => rfl⟩, HV, HN, HT2, HB2⟩
   case round =>
    clear HK2 HV HN HT2 HB2
    obtain ⟨j, A, hj, rfl, HK, HA, HV, HN, HT, HB⟩ := hrel
    by_cases hlt : j < tg.length
    ·have htl2 : j < ts.length := by rw [HSL.out]; exact hlt
     obtain ⟨t, ht⟩ : ∃ t, t = ts[j] := ⟨_, rfl⟩
     have htm : t ∈ ts := by rw [ht]; exact List.getElem_mem htl2
     obtain ⟨x, hxm, hxt⟩ := (HSM.out t).mp htm
     have hAt : A t = kmAt l0 t := HA.out t (by
      rw [ht, List.drop_eq_getElem_cons htl2]
      exact List.mem_cons_self)
     have hwt : (Lit.int .i64 t).wf = true := by
      have h1 := HW.out x hxm
      rw [hxt] at h1
      simp [Lit.wf, IntKind.min, IntKind.max, IntKind.signed, IntKind.bits]
      omega
     have hne : kmAt l0 t ≠ [] := fun e => by
      have : x ∈ kmAt l0 t := by simp [kmAt, hxm, hxt]
      rw [e] at this
      simp at this
     have hrow := HK.out.row t
     rw [hAt] at hrow
     have hrun := HK.out.at Try.underlying3 Try.underlying131 (HZ'.out _) t hwt
     rcases hrow.2 with ⟨hnil, h0⟩ | ⟨g, cap, cur, hbk, hbase, hb, hc1, hc2, hc3, hc4⟩
     ·exact absurd (List.length_eq_zero_iff.mp h0) hne
     clear hb hc1 hc2 hc3 hc4 hbase cur
     obtain ⟨m, hm⟩ : ∃ m, m = (kmSort (kmAt l0 t)).length := ⟨_, rfl⟩
     have hml : (kmAt l0 t).length = m := by rw [hm, kmSort_length]
     have hsb := ko_sortB hrow (by
      have h1 := List.length_filter_le (fun x : S34 => decide (x.f0 = t)) l0
      unfold kmAt
      omega)
     rw [hml] at hbk
     rw [hbk] at hrun hsb
     rw [← hm] at hsb
     have hlen1 : (outS ts l0 j).length + m ≤ 1000000 := by
      have h1 := outS_len ts l0 HSP.out (fun x hx => (HSM.out _).mpr ⟨x, hx, rfl⟩) (j + 1)
      rw [outS_succ _ _ _ htl2, List.length_append, ← ht, ← hm] at h1
      omega
     have hnt : u7.ownBlock = none ∨ u7.ownBlock ≠ (Value.slice (some ⟨g, 0, none⟩) m cap).ownBlock := by
      refine .inr (fun e => ?_)
      rcases HN.out t with h | h
      ·rw [hbk] at h
       cases h
      ·exact h (by rw [hbk, e])
     rcases HT.out.2 with ⟨e0, h0⟩ | ⟨g2, cap2, cur2, e2, _⟩
     ·injection e0 with _ e0 _
      omega
     have hcell : wr.cell? ⟨g2, j, none⟩ = some (.int .i64 t) := (ko_add g2 j) ▸ HT.out.cells (g := g2) (by rw [e2]; rfl) j (.int .i64 t) (by simp [nums, ht, htl2])
     injection e2 with hA1 hA2 hA3
     clear hA2
     subst hA1
     subst hA3
     have hbsz : w.heap.size + 1 ≤ wr.heap.size := by
      obtain ⟨D, hD, _⟩ := HK.out.map
      exact hD.lt
     obtain ⟨i0, hi, hzz⟩ := Option.map_eq_some_iff.1 ko_info
     simp only [Prod.mk.injEq] at hzz
     obtain ⟨hz0, hz1, hz2⟩ := hzz
     have Hi := Aside0.mk hi
     have Hz0 := Aside0.mk hz0
     have Hz1 := Aside0.mk hz1
     have Hz2 := Aside0.mk hz2
     have HSB := Aside0.mk hsb
     have HBK := Aside0.mk hbk
     have HM := Aside0.mk hm
     have HML := Aside0.mk hml
     have HTT := Aside0.mk ht
     have HNT := Aside0.mk hnt
     have q1 : ((j : Int) < (tg.length : Int)) = True := eq_true (by omega)
     have q2 : (j < tg.length) = True := eq_true hlt
     clear hi hz0 hz1 hz2 hsb hbk hm hml ht hnt hrow hne hAt hxt hxm htm
     go_wp2_with (first
      | (go_at_call 113; (with_reducible refine HSB.out.mono ?_); rintro e w1 ⟨rfl, ho1, hg1⟩)
      | ((with_reducible refine gate_builtin (b := .append) (xs := #[.tmp 56, .tmp 57]) rfl ?_); at_builtin; refine wpList_append_own_at _ rfl (.tmp 56) (.tmp 57) 28 rfl (w.heap.size + 1) 34 i0 _ 3 24 Try.underlying28 Hi.out Hz0.out Hz1.out Hz2.out rfl (by decide) u7 (outS ts l0 j).length ((outS ts l0 j).flatMap encM) rfl (HV.out.kept hg1 HNT.out) ⟨g, 0, none⟩ m cap ((kmSort (kmAt l0 t)).flatMap encM) rfl (by rw [encM_flat_len, HM.out]) (ho1.cells (g := g) rfl) (encM_flat _) (by unfold maxLen; omega) (by omega) (Nat.le_trans hbsz hg1.size) ?_; intro v2 w2 hown2 hg2 hnil2 hat2))
     have hg1' : wr.grownBy w1 (bk t).ownBlock := by
      rw [HBK.out]
      exact hg1
     have hK1 := HK.out.turned (t := t) (ys := kmSort (kmAt l0 t)) hg1' (by
      rw [HBK.out, ← HM.out]
      exact ho1)
     have hnb : some w.heap.size ≠ u7.ownBlock := fun e => by
      have := own_base HV.out _ e.symm
      omega
     have HK2 := Aside0.mk (hK1.kept hg2 hnb HN.out)
     have HN2 := Aside0.mk (show ∀ s, (bk s).ownBlock = none ∨ (bk s).ownBlock ≠ v2.ownBlock from fun s => by
      rcases hat2 with e | e
      ·rw [e]
       exact HN.out s
      ·rw [e]
       exact ko_off' (hK1.row s) (Nat.le_refl _))
     have HT2 := Aside0.mk ((HT.out.kept hg1' (own_type_ne HT.out (HK.out.row t) (by decide))).kept hg2 (own_type_ne HT.out HV.out (by decide)))
     have HB2 := Aside0.mk (pw_below_grown (pw_below_grown HB.out _ (below_size HB.out) hg1' (fun k hk => by have := own_base (HK.out.row t) k hk; omega)) _ (Nat.le_trans (below_size HB.out) hg1'.size) hg2 (fun k hk => by have := own_base HV.out k hk; omega))
     have HV2 : Aside0 (w2.ownsRow (w.heap.size + 1) 34 3 v2 (outS ts l0 (j + 1)).length ((outS ts l0 (j + 1)).flatMap encM)) := ⟨by
      rw [outS_succ _ _ _ htl2, ← HTT.out, List.length_append, List.flatMap_append, ← HM.out]
      exact hown2⟩
     have HA2 : Aside0 (∀ s ∈ ts.drop (j + 1), upd A t (kmSort (kmAt l0 t)) s = kmAt l0 s) := ⟨fun s hs => by
      have h1 := HSP.out.sublist (List.drop_sublist j ts)
      rw [List.drop_eq_getElem_cons htl2, List.pairwise_cons, ← HTT.out] at h1
      have h2 := h1.1 s hs
      rw [upd_other _ _ (by omega)]
      refine HA.out s ?_
      rw [List.drop_eq_getElem_cons htl2]
      exact List.mem_cons_of_mem _ hs⟩
     clear hK1 hnb hat2 hg2 hown2 hnil2 hg1' ho1 hg1
     go_roundw
     case measure => simp [intOf]; omega
     case rel => exact ⟨j + 1, _, by omega, by go_num, HK2, HA2, HV2, HN2, HT2, HB2⟩
    ·obtain rfl : j = tg.length := by omega
     have he : outS ts l0 tg.length = kmSort l0 := by
      rw [← HSL.out]
      exact outS_all ts l0 HSP.out (fun x hx => (HSM.out _).mpr ⟨x, hx, rfl⟩)
     have HE := Aside0.mk he
     clear he
     go_wp2
     go_ret
     have h1 := own_weaken (base' := w.heap.size) HV.out (Nat.le_succ _)
     rw [HE.out] at h1
     exact ⟨_, rfl, ko_R h1, HB.out⟩

end Go.Proofs.Ytgdcnlmhdbdijaa.PFnCombineMessages
