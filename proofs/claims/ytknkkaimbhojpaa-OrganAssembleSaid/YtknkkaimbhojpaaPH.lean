/- A list without repetition, of small numbers, is short. -/
import Derived.Test.YtknkkaimbhojpaaA23
import Derived.Test.YtknkkaimbhojpaaOFL
set_option linter.all false
set_option linter.unusedVariables false
set_option linter.unusedSimpArgs false
namespace Go.Abs
theorem nodup_lt : ∀ (N : Nat) (l : List Nat), l.Nodup → (∀ x ∈ l, x < N) → l.length ≤ N
  | 0, [], _, _ => Nat.le_refl _
  | 0, x :: l, _, h => absurd (h x (by simp)) (by omega)
  | N + 1, l, hn, h => by
    by_cases hm : N ∈ l
    · have h1 := nodup_lt N (l.erase N) (hn.erase N) fun x hx => by
        have hx' := List.mem_of_mem_erase hx
        have := h x hx'
        have hne : x ≠ N := fun e => by subst e; exact (hn.not_mem_erase) hx
        omega
      rw [List.length_erase_of_mem hm] at h1
      omega
    · have := nodup_lt N l hn fun x hx => by
        have h1 := h x hx
        have hne : x ≠ N := fun e => hm (e ▸ hx)
        omega
      omega
end Go.Abs

open Go Go.Abs Go.Proofs
namespace Go.Proofs.Ytknkkaimbhojpaa
theorem pathR_ok {path : List Ce} : ∀ (k i : Nat), pathR path k i = true → ∀ j, i ≤ j → j < i + k → cOk path j = true
  | 0, i, _, j, h1, h2 => by omega
  | k + 1, i, h, j, h1, h2 => by
    simp only [pathR, Bool.and_eq_true] at h
    by_cases e : j = i
    · subst e; exact h.1
    · exact pathR_ok k (i + 1) h.2 j (by omega) (by omega)
def codeC (c : Ce) : Nat := (c.1 * 24 + c.2.1).toNat
theorem pathR_le {path : List Ce} (h : pathR path path.length 0 = true) : path.all inC = true ∧ path.length ≤ 576 := by
  have ok : ∀ j, j < path.length → cOk path j = true := fun j hj => pathR_ok _ _ h j (by omega) (by omega)
  have inj : ∀ j, j < path.length → inC (ceAt path j) = true := fun j hj => by
    have := ok j hj
    simp only [cOk, Bool.and_eq_true] at this
    exact this.1
  have hall : path.all inC = true := by
    rw [List.all_eq_true]
    intro c hc
    obtain ⟨j, hj, rfl⟩ := List.getElem_of_mem hc
    have := inj j hj
    rw [ceAt, nth_lt _ _ _ hj] at this
    exact this
  refine ⟨hall, ?_⟩
  have hn : (path.map codeC).Nodup := by
    rw [List.Nodup, List.pairwise_iff_getElem]
    intro i j hi hj hij
    rw [List.length_map] at hi hj
    rw [List.getElem_map, List.getElem_map]
    have h1 := ok j hj
    simp only [cOk, Bool.and_eq_true, Bool.not_eq_true'] at h1
    have a := inj i hi
    have b := inj j hj
    have hm : ceAt path i ∈ path.take j := by
      rw [ceAt, nth_lt _ _ _ hi]
      exact List.mem_take_iff_getElem.2 ⟨i, by omega, rfl⟩
    have hs : sameC (ceAt path j) (ceAt path i) = false := by
      cases hh : sameC (ceAt path j) (ceAt path i) with
      | false => rfl
      | true => rw [List.any_eq_true.2 ⟨_, hm, hh⟩] at h1; exact absurd h1.2.2 (by simp)
    have ei : ceAt path i = path[i] := nth_lt _ _ _ hi
    have ej : ceAt path j = path[j] := nth_lt _ _ _ hj
    rw [ei] at a hs
    rw [ej] at b hs
    intro e
    simp only [inC, decide_eq_true_eq] at a b
    simp only [codeC] at e
    simp only [sameC, Bool.and_eq_false_iff, decide_eq_false_iff_not] at hs
    omega
  have := nodup_lt 576 (path.map codeC) hn fun x hx => by
    obtain ⟨c, hc, rfl⟩ := List.mem_map.1 hx
    have := List.all_eq_true.1 hall c hc
    simp only [inC, decide_eq_true_eq] at this
    simp only [codeC]
    omega
  rwa [List.length_map] at this
end Go.Proofs.Ytknkkaimbhojpaa
