/- The order of the components as plain law: a step of it, by a closed set. -/
import Derived.Test.YtnjjjfffppllfaaTk
namespace Go.Proofs.YtnjjjfffppllfaaX.Tj
set_option linter.unusedVariables false
set_option linter.unusedSimpArgs false
theorem Canon.step {N : Nat} {es : Es} {D : Nat → Prop} {i : Nat} {l : List Nat} {r : List (List Nat)} (p : Nat → Bool) (hl : l = (List.range N).filter p) (hi : i < N) (hpi : p i = true) (hD : ¬ D i) (hDc : ∀ x, D x → ∀ t, some t ∈ es x → D t) (two : ∀ j, j < N → p j = true → R es i j ∧ R es j i) (cl : ∀ x, p x = true → ∀ t, some t ∈ es x → p t = true ∨ D t)
    (least : ∀ k, k < i → ¬ Good N es D k) (rest : Canon N es (fun j => D j ∨ j ∈ l) r) : Canon N es D (l :: r) := by
  have hR : ∀ j, R es i j → p j = true ∨ D j := fun j hr => R.closed (p := fun x => p x = true ∨ D x) (fun x hx t ht => by
    rcases hx with hx | hx
    · exact cl x hx t ht
    · exact .inr (hDc x hx t ht)) hr (.inl hpi)
  refine .cons ⟨hi, hD, fun j hj hr => ?_⟩ least ⟨p, hl, fun j hj => ⟨two j hj, fun ⟨h1, h2⟩ => ?_⟩⟩ rest
  · rcases hR j hr with h | h
    · exact .inl (two j hj h).2
    · exact .inr h
  · rcases hR j h1 with h | h
    · exact h
    · exact absurd (R.closed hDc h2 h) hD
theorem Good.congr {N : Nat} {es : Es} {D D' : Nat → Prop} (h : ∀ j, j < N → (D j ↔ D' j)) {i : Nat} (hg : Good N es D i) : Good N es D' i :=
  ⟨hg.1, fun hd => hg.2.1 ((h i hg.1).2 hd), fun j hj hr => (hg.2.2 j hj hr).imp id (h j hj).1⟩
theorem Canon.congr {N : Nat} {es : Es} {D D' : Nat → Prop} {C : List (List Nat)} (h : ∀ j, j < N → (D j ↔ D' j)) (hc : Canon N es D C) : Canon N es D' C := by
  induction hc generalizing D' with
  | nil hd => exact .nil fun i hi => (h i hi).1 (hd i hi)
  | cons hg hm hc _ ih => exact .cons (hg.congr h) (fun k hk hg' => hm k hk (Good.congr (fun j hj => (h j hj).symm) hg')) hc (ih fun j hj => or_congr (h j hj) Iff.rfl)
/-- Each step's list is a component, and the lists hold each node once. -/
theorem Canon.comps {N : Nat} {es : Es} {D : Nat → Prop} {C : List (List Nat)} (h : Canon N es D C) : ∀ l ∈ C, ∃ i, i < N ∧ IsComp N es i l := by
  induction h with
  | nil _ => intro l hl; cases hl
  | cons hg _ hc _ ih =>
    intro l hl
    rcases List.mem_cons.1 hl with rfl | hl
    · exact ⟨_, hg.1, hc⟩
    · exact ih l hl
theorem IsComp.nodup {N : Nat} {es : Es} {i : Nat} {l : List Nat} (h : IsComp N es i l) : l.Nodup := by
  obtain ⟨p, rfl, _⟩ := h
  exact List.Pairwise.filter _ List.nodup_range
/-- All nodes that are not done stand once; and the lists differ. -/
theorem Canon.flat {N : Nat} {es : Es} {D : Nat → Prop} {C : List (List Nat)} (h : Canon N es D C) (hD : ∀ x y, y < N → D x → R es x y → R es y x → D y) : (∀ x ∈ C.flatten, ¬ D x ∧ x < N) ∧ C.flatten.Nodup ∧ (∀ x, x < N → D x ∨ x ∈ C.flatten) ∧ C.Nodup := by
  induction h with
  | nil hd => exact ⟨by simp, by simp, fun x hx => .inl (hd x hx), .nil⟩
  | @cons D i l r hg hm hc _ ih =>
    have hl := hc.mem
    have hDl : ∀ x ∈ l, ¬ D x := fun x hx hd => by
      obtain ⟨h1, h2, h3⟩ := (hl x).1 hx
      exact hg.2.1 (hD x i hg.1 hd h3 h2)
    obtain ⟨h1, h2, h3, h4⟩ := ih fun x y hy hx hxy hyx => by
      rcases hx with hx | hx
      · exact .inl (hD x y hy hx hxy hyx)
      · obtain ⟨h1, h2, h3⟩ := (hl x).1 hx
        exact .inr ((hl y).2 ⟨hy, h2.trans hxy, hyx.trans h3⟩)
    refine ⟨fun x hx => ?_, ?_, fun x hx => ?_, ?_⟩
    · rw [List.flatten_cons, List.mem_append] at hx
      rcases hx with hx | hx
      · exact ⟨hDl x hx, ((hl x).1 hx).1⟩
      · exact ⟨fun hd => (h1 x hx).1 (.inl hd), (h1 x hx).2⟩
    · rw [List.flatten_cons, List.nodup_append]
      exact ⟨hc.nodup, h2, fun a ha b hb => by rintro rfl; exact (h1 a hb).1 (.inr ha)⟩
    · rw [List.flatten_cons, List.mem_append]
      rcases h3 x hx with (h | h) | h
      · exact .inl h
      · exact .inr (.inl h)
      · exact .inr (.inr h)
    · refine List.nodup_cons.2 ⟨fun hlr => ?_, h4⟩
      have hi : i ∈ l := (hl i).2 ⟨hg.1, .refl _, .refl _⟩
      exact (h1 i (List.mem_flatten.2 ⟨l, hlr, hi⟩)).1 (.inr hi)
theorem Canon.count {N : Nat} {es : Es} {C : List (List Nat)} (h : Canon N es (fun _ => False) C) : (C.map List.length).sum = N := by
  obtain ⟨h1, h2, h3, _⟩ := h.flat fun _ _ _ h => h.elim
  have hp : C.flatten.Perm (List.range N) := (List.perm_ext_iff_of_nodup h2 List.nodup_range).2 fun x => by
    rw [List.mem_range]
    exact ⟨fun hx => (h1 x hx).2, fun hx => (h3 x hx).resolve_left fun h => h⟩
  have := hp.length_eq
  rw [List.length_flatten, List.length_range] at this
  exact this
theorem R.rev {es es' : Es} (he : ∀ x t, some t ∈ es x → some x ∈ es' t) {x y : Nat} (h : R es x y) : R es' y x := by
  induction h with
  | refl => exact .refl _
  | step _ e ih => exact (R.edge (he _ _ e)).trans ih
/-- With all edges turned about the parts are the same. -/
theorem Canon.rev {N : Nat} {es es' : Es} (he : ∀ x t, some t ∈ es x → some x ∈ es' t) (he' : ∀ x t, some t ∈ es' x → some x ∈ es t) {C C' : List (List Nat)} (h : Canon N es (fun _ => False) C) (h' : Canon N es' (fun _ => False) C') {c : List Nat} (hc : c ∈ C) : c ∈ C' := by
  obtain ⟨i, hi, hci⟩ := h.comps c hc
  obtain ⟨_, _, h3, _⟩ := h'.flat fun _ _ _ h => h.elim
  obtain ⟨d, hd, hid⟩ := List.mem_flatten.1 ((h3 i hi).resolve_left fun h => h)
  obtain ⟨j, hj, hdj⟩ := h'.comps d hd
  obtain ⟨_, hji, hij⟩ := (hdj.mem i).1 hid
  obtain ⟨p, rfl, hp⟩ := hci
  obtain ⟨q, rfl, hq⟩ := hdj
  have : (List.range N).filter p = (List.range N).filter q := List.filter_congr fun x hx => by
    have hx := List.mem_range.1 hx
    rw [Bool.eq_iff_iff, hp x hx, hq x hx]
    exact ⟨fun ⟨h1, h2⟩ => ⟨hji.trans (R.rev he h2), (R.rev he h1).trans hij⟩, fun ⟨h1, h2⟩ => ⟨R.rev he' (h2.trans hji), R.rev he' (hij.trans h1)⟩⟩
  rw [this]; exact hd
theorem Canon.rev_len {N : Nat} {es es' : Es} (he : ∀ x t, some t ∈ es x → some x ∈ es' t) (he' : ∀ x t, some t ∈ es' x → some x ∈ es t) {C C' : List (List Nat)} (h : Canon N es (fun _ => False) C) (h' : Canon N es' (fun _ => False) C') : C.length = C'.length := by
  obtain ⟨_, _, _, n1⟩ := h.flat fun _ _ _ h => h.elim
  obtain ⟨_, _, _, n2⟩ := h'.flat fun _ _ _ h => h.elim
  exact ((List.perm_ext_iff_of_nodup n1 n2).2 fun c => ⟨fun hc => h.rev he he' h' hc, fun hc => h'.rev he' he h hc⟩).length_eq
theorem IsComp.le {N : Nat} {es : Es} {i : Nat} {l : List Nat} (h : IsComp N es i l) : l.length ≤ N := by
  obtain ⟨p, rfl, _⟩ := h
  have := List.length_filter_le p (List.range N)
  simpa using this
theorem len_le_sum : ∀ C : List (List Nat), (∀ l ∈ C, 0 < l.length) → C.length ≤ (C.map List.length).sum
  | [], _ => by simp
  | l :: r, h => by
    have h1 := len_le_sum r fun x hx => h x (List.mem_cons_of_mem _ hx)
    have h2 := h l (List.mem_cons_self ..)
    simp only [List.length_cons, List.map_cons, List.sum_cons]; omega
theorem Canon.len_le {N : Nat} {es : Es} {C : List (List Nat)} (h : Canon N es (fun _ => False) C) : C.length ≤ N := by
  have h1 := len_le_sum C fun l hl => by
    obtain ⟨i, hi, hc⟩ := h.comps l hl
    exact List.length_pos_of_mem ((hc.mem i).2 ⟨hi, .refl _, .refl _⟩)
  rw [h.count] at h1
  exact h1
theorem Canon.row_le {N : Nat} {es : Es} {C : List (List Nat)} (h : Canon N es (fun _ => False) C) : ∀ l ∈ C, l.length ≤ N := fun l hl => by
  obtain ⟨i, hi, hc⟩ := h.comps l hl
  exact hc.le
end Go.Proofs.YtnjjjfffppllfaaX.Tj
