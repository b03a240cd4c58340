/- The laws of the graph: the components by the page, as plain law. -/
import Derived.Test.YtnjjjfffppllfaaLr
import Derived.Test.YtnjjjfffppllfaaLc
import Derived.Test.YtnjjjfffppllfaaTq
namespace Go.Proofs.YtnjjjfffppllfaaX.Tj
set_option linter.unusedVariables false
set_option linter.unusedSimpArgs false

def same (Rb : Nat → Nat → Bool) (i j : Nat) : Bool := j == i || (Rb i j && Rb j i)
def okj (Rb : Nat → Nat → Bool) (D : Nat → Bool) (i j : Nat) : Bool := !D i && (List.range j).all fun x => same Rb i x || !Rb i x || D x
def cmp (Rb : Nat → Nat → Bool) (i j : Nat) : List Nat := (List.range j).filter fun x => same Rb i x
theorem okj_succ (Rb : Nat → Nat → Bool) (D : Nat → Bool) (i j : Nat) : okj Rb D i (j + 1) = (okj Rb D i j && (same Rb i j || !Rb i j || D j)) := by
  simp [okj, List.range_succ, List.all_append, Bool.and_assoc]
theorem cmp_succ (Rb : Nat → Nat → Bool) (i j : Nat) : cmp Rb i (j + 1) = cmp Rb i j ++ if same Rb i j then [j] else [] := by
  unfold cmp
  rw [List.range_succ, List.filter_append]
  by_cases h : same Rb i j = true
  · simp [h]
  · simp [h]
theorem cmp_le (Rb : Nat → Nat → Bool) (i j : Nat) : (cmp Rb i j).length ≤ j := by
  have := List.length_filter_le (fun x => same Rb i x) (List.range j)
  simpa [cmp] using this

variable {N : Nat} {es : Es} {Rb : Nat → Nat → Bool}
theorem same_iff (hR : ∀ i j, i < N → (R es i j ↔ i = j ∨ Rb i j = true)) {i j : Nat} (hi : i < N) (hj : j < N) : same Rb i j = true ↔ R es i j ∧ R es j i := by
  rw [hR i j hi, hR j i hj]
  simp only [same, Bool.or_eq_true, Bool.and_eq_true, beq_iff_eq]
  constructor
  · rintro (rfl | ⟨h1, h2⟩)
    · exact ⟨.inl rfl, .inl rfl⟩
    · exact ⟨.inr h1, .inr h2⟩
  · rintro ⟨rfl | h1, h2⟩
    · exact .inl rfl
    · rcases h2 with rfl | h2
      · exact .inl rfl
      · exact .inr ⟨h1, h2⟩
theorem okj_iff (hR : ∀ i j, i < N → (R es i j ↔ i = j ∨ Rb i j = true)) {D : Nat → Bool} {i : Nat} (hi : i < N) : okj Rb D i N = true ↔ Good N es (fun j => D j = true) i := by
  simp only [okj, Bool.and_eq_true, Bool.not_eq_true', List.all_eq_true, List.mem_range, Bool.or_eq_true]
  constructor
  · rintro ⟨h1, h2⟩
    refine ⟨hi, by simp [h1], fun j hj hr => ?_⟩
    rcases h2 j hj with (h | h) | h
    · exact .inl ((same_iff hR hi hj).1 h).2
    · rcases (hR i j hi).1 hr with rfl | h'
      · exact .inl (.refl _)
      · rw [h] at h'; cases h'
    · exact .inr h
  · rintro ⟨_, h1, h2⟩
    refine ⟨by simpa using h1, fun j hj => ?_⟩
    cases hb : Rb i j with
    | false => exact .inl (.inr rfl)
    | true =>
      have hr : R es i j := (hR i j hi).2 (.inr hb)
      rcases h2 j hj hr with h | h
      · exact .inl (.inl ((same_iff hR hi hj).2 ⟨hr, h⟩))
      · exact .inr h
theorem cmp_comp (hR : ∀ i j, i < N → (R es i j ↔ i = j ∨ Rb i j = true)) {i : Nat} (hi : i < N) : IsComp N es i (cmp Rb i N) := ⟨fun x => same Rb i x, rfl, fun j hj => same_iff hR hi hj⟩

def dn (C : List (List Nat)) (j : Nat) : Bool := C.flatten.contains j
theorem dn_iff (C : List (List Nat)) (j : Nat) : dn C j = true ↔ j ∈ C.flatten := by simp [dn]
theorem dn_snoc (C : List (List Nat)) (l : List Nat) (j : Nat) : dn (C ++ [l]) j = (dn C j || l.contains j) := by simp [dn, List.contains_eq_mem]
/-- What has been set down so far. -/
structure Down (N : Nat) (es : Es) (C : List (List Nat)) : Prop where
  nod : C.flatten.Nodup
  lt : ∀ x ∈ C.flatten, x < N
  cl : ∀ x y, y < N → x ∈ C.flatten → R es x y → R es y x → y ∈ C.flatten
  pre : ∀ r, Canon N es (fun j => dn C j = true) r → Canon N es (fun _ => False) (C ++ r)
theorem Down.nil : Down N es [] := ⟨by simp, by simp, by simp, fun r hr => by simpa [dn] using hr⟩
theorem Down.step {C : List (List Nat)} (h : Down N es C) {i : Nat} {l : List Nat} (hg : Good N es (fun j => dn C j = true) i) (hm : ∀ k, k < i → ¬ Good N es (fun j => dn C j = true) k) (hc : IsComp N es i l) : Down N es (C ++ [l]) := by
  have hl := hc.mem
  have hi : i ∉ C.flatten := fun h => hg.2.1 ((dn_iff _ _).2 h)
  refine ⟨?_, fun x hx => ?_, fun x y hy hx hxy hyx => ?_, fun r hr => ?_⟩
  · rw [List.flatten_append, List.nodup_append]
    refine ⟨h.nod, by simpa using hc.nodup, fun a ha b hb => ?_⟩
    rintro rfl
    obtain ⟨h1, h2, h3⟩ := (hl a).1 (by simpa using hb)
    exact hi (h.cl a i hg.1 ha h3 h2)
  · rw [List.flatten_append, List.mem_append] at hx
    rcases hx with hx | hx
    · exact h.lt x hx
    · exact ((hl x).1 (by simpa using hx)).1
  · rw [List.flatten_append, List.mem_append] at hx ⊢
    rcases hx with hx | hx
    · exact .inl (h.cl x y hy hx hxy hyx)
    · obtain ⟨h1, h2, h3⟩ := (hl x).1 (by simpa using hx)
      exact .inr (by simpa using (hl y).2 ⟨hy, h2.trans hxy, hyx.trans h3⟩)
  · rw [List.append_assoc]
    refine h.pre _ (.cons hg hm hc ?_)
    have e : (fun j => dn C j = true ∨ j ∈ l) = fun j => dn (C ++ [l]) j = true := by
      funext j
      rw [dn_snoc]
      simp
    rw [e]; exact hr
theorem Down.fin {C : List (List Nat)} (h : Down N es C) (hn : N ≤ C.flatten.length) : Canon N es (fun _ => False) C := by
  have := h.pre [] (.nil fun i hi => Classical.byContradiction fun hd => by
    have hi' : i ∉ C.flatten := fun h => hd ((dn_iff _ _).2 h)
    have := nodup_le N (C.flatten ++ [i]) (by
      rw [List.nodup_append]
      exact ⟨h.nod, by simp, fun a ha b hb => by
        obtain rfl : b = i := by simpa using hb
        rintro rfl; exact hi' ha⟩) fun x hx => by
      rcases List.mem_append.1 hx with hx | hx
      · exact h.lt x hx
      · obtain rfl : x = i := by simpa using hx
        exact hi
    rw [List.length_append, List.length_singleton] at this
    omega)
  simpa using this
theorem Down.more {C : List (List Nat)} (h : Down N es C) (hn : C.flatten.length < N) : ∃ g, Good N es (fun j => dn C j = true) g := by
  refine Classical.byContradiction fun hno => ?_
  have hall : ∀ x, x < N → x ∈ C.flatten := fun x hx => Classical.byContradiction fun hx' => hno (exists_good hx fun h => hx' ((dn_iff _ _).1 h))
  have hp : C.flatten.Perm (List.range N) := (List.perm_ext_iff_of_nodup h.nod List.nodup_range).2 fun x => by
    rw [List.mem_range]; exact ⟨h.lt x, hall x⟩
  have := hp.length_eq
  rw [List.length_range] at this
  omega
end Go.Proofs.YtnjjjfffppllfaaX.Tj
