/- The order of the components as plain law: at each step the one with the least node, of those all of whose others stand already. -/
import Derived.Test.YtnjjjfffppllfaaTj
namespace Go.Proofs.YtnjjjfffppllfaaX.Tj
set_option linter.unusedVariables false
set_option linter.unusedSimpArgs false

def Good (N : Nat) (es : Es) (D : Nat → Prop) (i : Nat) : Prop := i < N ∧ ¬ D i ∧ ∀ j, j < N → R es i j → R es j i ∨ D j
/-- l is the component of i: its nodes, ascending. -/
def IsComp (N : Nat) (es : Es) (i : Nat) (l : List Nat) : Prop := ∃ p : Nat → Bool, l = (List.range N).filter p ∧ ∀ j, j < N → (p j = true ↔ R es i j ∧ R es j i)
inductive Canon (N : Nat) (es : Es) : (Nat → Prop) → List (List Nat) → Prop
  | nil {D : Nat → Prop} : (∀ i, i < N → D i) → Canon N es D []
  | cons {D : Nat → Prop} {i : Nat} {l : List Nat} {r : List (List Nat)} : Good N es D i → (∀ k, k < i → ¬ Good N es D k) → IsComp N es i l → Canon N es (fun j => D j ∨ j ∈ l) r → Canon N es D (l :: r)
variable {N : Nat} {es : Es}
theorem IsComp.unique {i : Nat} {l l' : List Nat} (h : IsComp N es i l) (h' : IsComp N es i l') : l = l' := by
  obtain ⟨p, rfl, hp⟩ := h
  obtain ⟨q, rfl, hq⟩ := h'
  refine List.filter_congr fun j hj => ?_
  have hj := List.mem_range.1 hj
  rw [Bool.eq_iff_iff, hp j hj, hq j hj]
theorem IsComp.mem {i : Nat} {l : List Nat} (h : IsComp N es i l) (j : Nat) : j ∈ l ↔ j < N ∧ R es i j ∧ R es j i := by
  obtain ⟨p, rfl, hp⟩ := h
  rw [List.mem_filter, List.mem_range]
  exact ⟨fun ⟨h1, h2⟩ => ⟨h1, (hp j h1).1 h2⟩, fun ⟨h1, h2⟩ => ⟨h1, (hp j h1).2 h2⟩⟩
theorem Canon.unique {D : Nat → Prop} {xs ys : List (List Nat)} (h : Canon N es D xs) (h' : Canon N es D ys) : xs = ys := by
  induction h generalizing ys with
  | nil hd =>
    cases h' with
    | nil _ => rfl
    | cons hg _ _ _ => exact absurd (hd _ hg.1) hg.2.1
  | @cons D i l r hg hm hc hr ih =>
    cases h' with
    | nil hd => exact absurd (hd _ hg.1) hg.2.1
    | @cons _ i' l' r' hg' hm' hc' hr' =>
      have e : i = i' := by
        rcases Nat.lt_trichotomy i i' with h | h | h
        · exact absurd hg (hm' i h)
        · exact h
        · exact absurd hg' (hm i' h)
      subst e
      have e := hc.unique hc'
      subst e
      rw [ih hr']
/-- What is not done leads to one that may come next. -/
theorem exists_good {D : Nat → Prop} {i : Nat} (hi : i < N) (hd : ¬ D i) : ∃ g, Good N es D g := by
  classical
  have key : ∀ k i, i < N → ¬ D i → ((List.range N).filter fun j => decide (R es i j)).length ≤ k → ∃ g, Good N es D g := fun k => by
    induction k with
    | zero =>
      intro i hi hd hk
      have : i ∈ (List.range N).filter fun j => decide (R es i j) := List.mem_filter.2 ⟨List.mem_range.2 hi, by simpa using R.refl i⟩
      rw [List.length_eq_zero_iff.1 (Nat.le_zero.1 hk)] at this
      cases this
    | succ k ih =>
      intro i hi hd hk
      by_cases hg : ∀ j, j < N → R es i j → R es j i ∨ D j
      · exact ⟨i, hi, hd, hg⟩
      · obtain ⟨j, hj⟩ := Classical.not_forall.1 hg
        have hj1 : j < N := Classical.byContradiction fun h => hj fun h1 => absurd h1 h
        have hj2 : R es i j := Classical.byContradiction fun h => hj fun _ h1 => absurd h1 h
        have hj3 : ¬ (R es j i ∨ D j) := fun h => hj fun _ _ => h
        refine ih j hj1 (fun h => hj3 (.inr h)) ?_
        have sub : ((List.range N).filter fun x => decide (R es j x)) = ((List.range N).filter fun x => decide (R es i x)).filter fun x => decide (R es j x) := by
          rw [List.filter_filter]
          refine List.filter_congr fun x _ => ?_
          by_cases h : R es j x
          · simp [h, hj2.trans h]
          · simp [h]
        have : i ∈ (List.range N).filter fun x => decide (R es i x) := List.mem_filter.2 ⟨List.mem_range.2 hi, by simpa using R.refl i⟩
        have lt : (((List.range N).filter fun x => decide (R es i x)).filter fun x => decide (R es j x)).length < ((List.range N).filter fun x => decide (R es i x)).length :=
          List.length_filter_lt_length_iff_exists.2 ⟨i, this, by simpa using fun h => hj3 (.inl h)⟩
        rw [sub]; omega
  exact key _ i hi hd (Nat.le_refl _)
/-- Of those that may come next, the least. -/
theorem exists_least {p : Nat → Prop} (h : ∃ i, p i) : ∃ i, p i ∧ ∀ k, k < i → ¬ p k := by
  obtain ⟨i, hi⟩ := h
  induction i using Nat.strongRecOn with
  | _ i ih =>
    by_cases hk : ∃ k, k < i ∧ p k
    · obtain ⟨k, h1, h2⟩ := hk; exact ih k h1 h2
    · exact ⟨i, hi, fun k h1 h2 => hk ⟨k, h1, h2⟩⟩
end Go.Proofs.YtnjjjfffppllfaaX.Tj
