/- Which nodes lead to which, as plain law: by one node more at each step. -/
import Derived.Test.YtnjjjfffppllfaaTj
namespace Go.Proofs.YtnjjjfffppllfaaX.Tj
set_option linter.unusedVariables false
set_option linter.unusedSimpArgs false

def wsh (e : Nat → Nat → Bool) : Nat → Nat → Nat → Bool
  | 0, i, j => e i j
  | k + 1, i, j => wsh e k i j || (wsh e k i k && wsh e k k j)
variable {e : Nat → Nat → Bool}
theorem wsh_ik (k i : Nat) : wsh e (k + 1) i k = wsh e k i k := by
  simp only [wsh]
  cases wsh e k i k <;> simp
theorem wsh_kj (k j : Nat) : wsh e (k + 1) k j = wsh e k k j := by
  simp only [wsh]
  cases wsh e k k j <;> simp
theorem wsh_mono {k i j : Nat} (h : wsh e k i j = true) : wsh e (k + 1) i j = true := by simp [wsh, h]
theorem wsh_mono0 {i j : Nat} (h : e i j = true) : ∀ k, wsh e k i j = true
  | 0 => h
  | k + 1 => wsh_mono (wsh_mono0 h k)
theorem wsh_trans : ∀ (k : Nat) {m i j : Nat}, m < k → wsh e k i m = true → wsh e k m j = true → wsh e k i j = true
  | 0, m, i, j, hm, _, _ => absurd hm (Nat.not_lt_zero _)
  | k + 1, m, i, j, hm, h1, h2 => by
    by_cases e1 : m = k
    · subst e1
      rw [wsh_ik] at h1
      rw [wsh_kj] at h2
      simp [wsh, h1, h2]
    · have hm : m < k := by omega
      simp only [wsh, Bool.or_eq_true, Bool.and_eq_true] at h1 h2 ⊢
      rcases h1 with h1 | ⟨h1, h3⟩ <;> rcases h2 with h2 | ⟨h2, h4⟩
      · exact .inl (wsh_trans k hm h1 h2)
      · exact .inr ⟨wsh_trans k hm h1 h2, h4⟩
      · exact .inr ⟨h1, wsh_trans k hm h3 h2⟩
      · exact .inr ⟨h1, h4⟩
theorem wsh_sound {es : Es} (he : ∀ x y, e x y = true → some y ∈ es x) : ∀ (k : Nat) {i j : Nat}, wsh e k i j = true → R es i j
  | 0, i, j, h => .edge (he _ _ h)
  | k + 1, i, j, h => by
    simp only [wsh, Bool.or_eq_true, Bool.and_eq_true] at h
    rcases h with h | ⟨h1, h2⟩
    · exact wsh_sound he k h
    · exact (wsh_sound he k h1).trans (wsh_sound he k h2)
theorem wsh_iff {N : Nat} {es : Es} (he : ∀ x y, x < N → (e x y = true ↔ some y ∈ es x)) (he2 : ∀ x y, e x y = true → some y ∈ es x) (ht : ∀ x, x < N → ∀ t, some t ∈ es x → t < N) {i j : Nat} (hi : i < N) : R es i j ↔ i = j ∨ wsh e N i j = true := by
  constructor
  · intro h
    have : j < N ∧ (i = j ∨ wsh e N i j = true) := by
      induction h with
      | refl => exact ⟨hi, .inl rfl⟩
      | @step y z _ hz ih =>
        obtain ⟨hy, ih⟩ := ih
        have h1 := wsh_mono0 ((he y z hy).2 hz) N
        refine ⟨ht y hy z hz, .inr ?_⟩
        rcases ih with rfl | ih
        · exact h1
        · exact wsh_trans N hy ih h1
    exact this.2
  · rintro (rfl | h)
    · exact .refl _
    · exact wsh_sound he2 N h
end Go.Proofs.YtnjjjfffppllfaaX.Tj
