/- Totals over lists of numbers, plainly. -/
import Derived.Test.YtgdcnlmhdbdijaaL
namespace Go.Proofs.YtgdcnlmhdbdijaaW.PrintWords
open Go.RowKit
def known (l : List Int) : List Int := l.filter fun x => x != -1
/-- Each value of a vertex that is known. -/
def Kn (F : List Int) : Prop := ∀ x ∈ F, 0 ≤ x ∧ x ≤ 999999
def fitV (l : List Int) : Prop := ∀ x ∈ l, -1 ≤ x ∧ x ≤ 999999
instance (l : List Int) : Decidable (fitV l) := by unfold fitV; infer_instance
theorem kn_known {l : List Int} (h : fitV l) : Kn (known l) := fun x hx => by
  have h1 := List.mem_filter.1 hx
  have h2 := h x h1.1
  have h3 : x ≠ -1 := by simpa using h1.2
  omega
def stp (t : Int × Int × Int × Int) (v : Int) : Int × Int × Int × Int := if t.1 = 0 then (1, v, v, v) else (t.1 + 1, t.2.1 + v, mn t.2.2.1 v, mx t.2.2.2 v)
def tot (F : List Int) : Int × Int × Int × Int := F.foldl stp (0, 0, -1, -1)
def IsTot (F : List Int) (t : Int × Int × Int × Int) : Prop :=
  t.1 = F.length ∧ t.2.1 = F.sum ∧ (F = [] → t.2.2.1 = -1 ∧ t.2.2.2 = -1) ∧ (F ≠ [] → t.2.2.1 ∈ F ∧ (∀ x ∈ F, t.2.2.1 ≤ x) ∧ t.2.2.2 ∈ F ∧ ∀ x ∈ F, x ≤ t.2.2.2)
theorem IsTot.nil : IsTot [] (0, 0, -1, -1) := ⟨rfl, rfl, fun _ => ⟨rfl, rfl⟩, fun h => absurd rfl h⟩
theorem IsTot.stp {F : List Int} {t : Int × Int × Int × Int} (h : IsTot F t) (v : Int) : IsTot (F ++ [v]) (stp t v) := by
  obtain ⟨h1, h2, h3, h4⟩ := h
  unfold PrintWords.stp
  by_cases e : F = []
  · subst e
    have : t.1 = 0 := by simpa using h1
    rw [if_pos this]
    refine ⟨rfl, by simp, fun h => by simp at h, fun _ => by simp⟩
  · have hl : 0 < F.length := List.length_pos_iff.2 e
    obtain ⟨a1, a2, a3, a4⟩ := h4 e
    rw [if_neg (by omega)]
    refine ⟨by simp [h1], by simp [h2], fun h => by simp at h, fun _ => ⟨?_, fun x hx => ?_, ?_, fun x hx => ?_⟩⟩
    · simp only [mn]
      split
      · simp
      · exact List.mem_append_left _ a1
    · simp only [mn]
      rcases List.mem_append.1 hx with hx | hx
      · have := a2 x hx
        split <;> omega
      · have : x = v := by simpa using hx
        split <;> omega
    · simp only [mx]
      split
      · simp
      · exact List.mem_append_left _ a3
    · simp only [mx]
      rcases List.mem_append.1 hx with hx | hx
      · have := a4 x hx
        split <;> omega
      · have : x = v := by simpa using hx
        split <;> omega
theorem tot_snoc (F : List Int) (v : Int) : tot (F ++ [v]) = stp (tot F) v := by simp [tot]
theorem isTot (F : List Int) : IsTot F (tot F) := by
  have key : ∀ (n : Nat) (F : List Int), F.length = n → IsTot F (tot F) := by
    intro n
    induction n with
    | zero => intro F h; rw [List.length_eq_zero_iff.1 h]; exact IsTot.nil
    | succ n ih =>
      intro F h
      have hne : F ≠ [] := fun e => by subst e; simp at h
      rw [← List.dropLast_concat_getLast hne, tot_snoc]
      exact (ih _ (by simp [h])).stp _
  exact key _ F rfl
theorem IsTot.uniq {F G : List Int} {t u : Int × Int × Int × Int} (h : IsTot F t) (g : IsTot G u) (hl : F.length = G.length) (hs : F.sum = G.sum) (hm : ∀ x, x ∈ F ↔ x ∈ G) : t = u := by
  obtain ⟨a1, a2, a3, a4⟩ := h
  obtain ⟨b1, b2, b3, b4⟩ := g
  by_cases e : F = []
  · have e' : G = [] := by rw [e] at hl; exact List.length_eq_zero_iff.1 hl.symm
    have := a3 e
    have := b3 e'
    ext <;> simp_all
  · have e' : G ≠ [] := fun h => by rw [h] at hl; exact e (List.length_eq_zero_iff.1 hl)
    obtain ⟨c1, c2, c3, c4⟩ := a4 e
    obtain ⟨d1, d2, d3, d4⟩ := b4 e'
    have x1 := c2 _ ((hm _).2 d1)
    have x2 := d2 _ ((hm _).1 c1)
    have x3 := c4 _ ((hm _).2 d3)
    have x4 := d4 _ ((hm _).1 c3)
    have y1 : t.1 = u.1 := by omega
    have y2 : t.2.1 = u.2.1 := by omega
    have y3 : t.2.2.1 = u.2.2.1 := by omega
    have y4 : t.2.2.2 = u.2.2.2 := by omega
    exact Prod.ext y1 (Prod.ext y2 (Prod.ext y3 y4))
theorem perm_sum {F G : List Int} (h : F.Perm G) : F.sum = G.sum := by
  induction h with
  | nil => rfl
  | cons x _ ih => simp [ih]
  | swap x y l => simp only [List.sum_cons]; omega
  | trans _ _ h1 h2 => rw [h1, h2]
theorem tot_perm {F G : List Int} (h : F.Perm G) : tot F = tot G :=
  (isTot F).uniq (isTot G) h.length_eq (perm_sum h) (fun _ => h.mem_iff)
theorem kn_sum {F : List Int} (h : Kn F) : 0 ≤ F.sum ∧ F.sum ≤ 999999 * F.length := by
  induction F with
  | nil => simp
  | cons x F ih =>
    have h1 := h x (by simp)
    have h2 := ih (fun y hy => h y (by simp [hy]))
    simp only [List.sum_cons, List.length_cons]
    omega
theorem sum_ge {F : List Int} {c : Int} (h : ∀ x ∈ F, c ≤ x) : (F.length : Int) * c ≤ F.sum := by
  induction F with
  | nil => simp
  | cons x F ih =>
    have h1 := h x (by simp)
    have h2 := ih (fun y hy => h y (by simp [hy]))
    simp only [List.sum_cons, List.length_cons]
    have : ((F.length + 1 : Nat) : Int) * c = (F.length : Int) * c + c := by rw [Int.natCast_add, Int.add_mul]; simp
    omega
theorem sum_le {F : List Int} {c : Int} (h : ∀ x ∈ F, x ≤ c) : F.sum ≤ (F.length : Int) * c := by
  induction F with
  | nil => simp
  | cons x F ih =>
    have h1 := h x (by simp)
    have h2 := ih (fun y hy => h y (by simp [hy]))
    simp only [List.sum_cons, List.length_cons]
    have : ((F.length + 1 : Nat) : Int) * c = (F.length : Int) * c + c := by rw [Int.natCast_add, Int.add_mul]; simp
    omega
/-- What the program and the reference call a valid total. -/
def Vt (t : Int × Int × Int × Int) : Prop := t.1 = 0 ∧ t.2.1 = 0 ∧ t.2.2.1 = -1 ∧ t.2.2.2 = -1 ∨ 1 ≤ t.1 ∧ t.1 ≤ 16 ∧ 0 ≤ t.2.2.2 ∧ t.2.2.2 ≤ 999999 ∧ 0 ≤ t.2.2.1 ∧ t.2.2.1 ≤ t.2.2.2 ∧ wrap64 (t.1 * t.2.2.1) ≤ t.2.1 ∧ t.2.1 ≤ wrap64 (t.1 * t.2.2.2)
instance (t : Int × Int × Int × Int) : Decidable (Vt t) := by unfold Vt; infer_instance
theorem wsm {n : Int} (h0 : -4611686018427387904 ≤ n) (h1 : n ≤ 4611686018427387904) : wrap64 n = n := by unfold wrap64; omega
theorem mul_small {a c : Int} (ha : 0 ≤ a) (ha' : a ≤ 100) (hc : 0 ≤ c) (hc' : c ≤ 1000000) : 0 ≤ a * c ∧ a * c ≤ 100000000 := by
  refine ⟨Int.mul_nonneg ha hc, ?_⟩
  have := Int.mul_le_mul ha' hc' hc (by omega)
  omega
theorem isTot_valid {F : List Int} {t : Int × Int × Int × Int} (h : IsTot F t) (hk : Kn F) (hl : F.length ≤ 16) : Vt t := by
  obtain ⟨a1, a2, a3, a4⟩ := h
  by_cases e : F = []
  · subst e
    exact Or.inl ⟨by simpa using a1, by simpa using a2, (a3 rfl).1, (a3 rfl).2⟩
  · obtain ⟨c1, c2, c3, c4⟩ := a4 e
    have hp : 0 < F.length := List.length_pos_iff.2 e
    have k1 := hk _ c1
    have k2 := hk _ c3
    have m1 := mul_small (a := F.length) (c := t.2.2.1) (by omega) (by omega) k1.1 (by omega)
    have m2 := mul_small (a := F.length) (c := t.2.2.2) (by omega) (by omega) k2.1 (by omega)
    have s1 := sum_ge c2
    have s2 := sum_le c4
    refine Or.inr ⟨by omega, by omega, k2.1, k2.2, k1.1, c2 _ c3, ?_, ?_⟩
    · rw [a1, a2, wsm (by omega) (by omega)]; exact s1
    · rw [a1, a2, wsm (by omega) (by omega)]; exact s2
theorem known_append (l m : List Int) : known (l ++ m) = known l ++ known m := by simp [known]
theorem known_len (l : List Int) : (known l).length ≤ l.length := List.length_filter_le _ _
theorem known_take_succ (l : List Int) (i : Nat) (h : i < l.length) : known (l.take (i + 1)) = known (l.take i) ++ if l[i] = -1 then [] else [l[i]] := by
  rw [List.take_succ_eq_append_getElem h, known_append]
  congr 1
  by_cases e : l[i] = -1 <;> simp [known, e]
/-- The total that TotalOf tells. -/
def totalOf (l : List Int) : Int × Int × Int × Int := if l.length ≤ 16 ∧ fitV l then tot (known l) else (0, 0, 0, 0)
end Go.Proofs.YtgdcnlmhdbdijaaW.PrintWords
namespace Go.Proofs.YtgdcnlmhdbdijaaW.PrintWords
open Go.RowKit
theorem totalOf_reverse (v : List Int) : totalOf v.reverse = totalOf v := by
  unfold totalOf
  have h1 : fitV v.reverse ↔ fitV v := by simp [fitV]
  have h2 : tot (known v.reverse) = tot (known v) := tot_perm (by unfold known; rw [List.filter_reverse]; exact List.reverse_perm _)
  simp only [h2, List.length_reverse, h1]
theorem totalOf_more (v : List Int) (h : v.length < 16) : totalOf (v ++ [-1]) = totalOf v := by
  unfold totalOf
  have h1 : fitV (v ++ [-1]) ↔ fitV v := by
    unfold fitV
    constructor
    · exact fun g x hx => g x (by simp [hx])
    · intro g x hx
      rcases List.mem_append.1 hx with hx | hx
      · exact g x hx
      · have : x = -1 := by simpa using hx
        omega
  have h2 : known (v ++ [-1]) = known v := by simp [known]
  have h3 : v.length + 1 ≤ 16 ↔ v.length ≤ 16 := by omega
  simp only [h2, List.length_append, List.length_singleton, h1, h3]
theorem totalOf_cases (v : List Int) : (v.length ≤ 16 ∧ fitV v ∧ totalOf v = tot (known v) ∧ Vt (totalOf v)) ∨ (totalOf v = (0, 0, 0, 0) ∧ ¬ Vt (totalOf v)) := by
  unfold totalOf
  by_cases h : v.length ≤ 16 ∧ fitV v
  · rw [if_pos h]
    exact Or.inl ⟨h.1, h.2, rfl, isTot_valid (isTot _) (kn_known h.2) (Nat.le_trans (known_len v) h.1)⟩
  · rw [if_neg h]
    refine Or.inr ⟨rfl, fun g => ?_⟩
    simp only [Vt] at g
    omega
end Go.Proofs.YtgdcnlmhdbdijaaW.PrintWords
