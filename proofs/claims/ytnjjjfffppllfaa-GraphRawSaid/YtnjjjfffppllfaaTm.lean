/- Tarjan as plain law: an edge is passed in a segment further down; and how long it goes on. -/
import Derived.Test.YtnjjjfffppllfaaTj
namespace Go.Proofs.YtnjjjfffppllfaaX.Tj
set_option linter.unusedVariables false
set_option linter.unusedSimpArgs false
variable {N : Nat} {es : Es} {s : St} {sg : List Seg}

/-- An edge of a node further down the path is passed: it leads to a closed node, or to one of the stack that its low is not above. -/
theorem Inv.bump {a b : List Seg} {g e : Nat} {bl : List Nat} (h : Inv N es s (a ++ (g, e, bl) :: b)) (he : ∀ t, (es g)[e]? = some (some t) → Cl s t ∨ (t ∈ flat (a ++ (g, e, bl) :: b) ∧ s.low g ≤ s.ord t)) : Inv N es s (a ++ (g, e + 1, bl) :: b) := by
  have hf : flat (a ++ (g, e + 1, bl) :: b) = flat (a ++ (g, e, bl) :: b) := by simp [flat]
  have hm : ∀ c ∈ a ++ (g, e + 1, bl) :: b, c = (g, e + 1, bl) ∨ c ∈ a ++ (g, e, bl) :: b := fun c hc => by
    simp only [List.mem_append, List.mem_cons] at hc ⊢
    rcases hc with h | h | h
    · exact .inr (.inl h)
    · exact .inl h
    · exact .inr (.inr (.inr h))
  have mg : (g, e, bl) ∈ a ++ (g, e, bl) :: b := by simp
  refine ⟨by rw [hf]; exact h.stk, by rw [hf]; exact h.sorted, by rw [hf]; exact h.pos, by rw [hf]; exact h.held, h.lt, h.le, fun c hc => ?_, ?_, fun c hc => ?_, fun c hc => ?_, fun c hc => ?_, fun c hc => ?_, h.E, h.F1, h.F2, h.F3, by simpa using h.cnt, by rw [hf]; exact h.size, h.um⟩
  · rcases hm c hc with rfl | hc
    · exact h.A (g, e, bl) mg
    · exact h.A c hc
  · have := h.P
    simp only [List.pairwise_append, List.pairwise_cons, List.mem_cons, forall_eq_or_imp] at this ⊢
    exact this
  · rw [hf]
    rcases hm c hc with rfl | hc
    · exact h.B (g, e, bl) mg
    · exact h.B c hc
  · rw [hf]
    rcases hm c hc with rfl | hc
    · exact h.C1 (g, e, bl) mg
    · exact h.C1 c hc
  · rw [hf]
    rcases hm c hc with rfl | hc
    · intro t ht
      rw [List.take_add_one, List.mem_append] at ht
      rcases ht with ht | ht
      · exact h.C2 (g, e, bl) mg t ht
      · exact he t (by simpa using ht)
    · exact h.C2 c hc
  · rw [hf]
    rcases hm c hc with rfl | hc
    · exact h.D (g, e, bl) mg
    · exact h.D c hc
/-- A node that wasn't met is met along an edge. -/
theorem Inv.push {g e t : Nat} {bl : List Nat} (h : Inv N es s (sg ++ [(g, e, bl)])) (he : (es g)[e]? = some (some t)) (h0 : s.ord t = 0) (ht : t < N) : Inv N es (Tj.meet s t) (sg ++ [(g, e + 1, bl)] ++ [(t, 0, [])]) := by
  have hgt : R es g t := .edge (List.mem_of_getElem? he)
  have hP : ∀ c ∈ sg ++ [(g, e, bl)], R es c.1 t := fun c hc => (h.toTop _ (head_mem hc)).trans hgt
  have h1 := h.meet h0 ht hP
  have hgs : g ∈ flat (sg ++ [(g, e, bl)]) := by rw [flat_append, flat_one]; simp
  have hlow : (Tj.meet s t).low g ≤ (Tj.meet s t).ord t := by
    have hne : g ≠ t := fun e => h.pos g hgs (e ▸ h0)
    have h2 := (h.D (g, e, bl) (List.mem_append_right _ (List.mem_singleton.2 rfl))).1
    have h3 := h.le g
    rw [meet_low hne]
    simp only [Tj.meet, upd_i] at *
    omega
  have e1 : sg ++ [(g, e, bl)] ++ [(t, 0, [])] = sg ++ (g, e, bl) :: [(t, 0, [])] := by simp
  rw [e1] at h1
  have h2 := h1.bump fun u hu => by
    rw [he] at hu
    obtain rfl : t = u := by simpa using hu
    exact .inr ⟨by simp [flat], hlow⟩
  simpa using h2

/-- How long it goes on. -/
def left (N : Nat) (es : Es) (s : St) (sg : List Seg) : Nat := tot N (fun x => if s.ord x = 0 then (es x).length + 2 else 0) + (sg.map fun c => (es c.1).length - c.2.1 + 1).sum
theorem left_edge {g e : Nat} {bl : List Nat} {s' : St} (ho : s'.ord = s.ord) (he : e < (es g).length) : left N es s' (sg ++ [(g, e + 1, bl)]) < left N es s (sg ++ [(g, e, bl)]) := by
  simp only [left, ho, List.map_append, List.sum_append, List.map_cons, List.map_nil, List.sum_cons, List.sum_nil]; omega
theorem left_push {g e t : Nat} {bl : List Nat} (he : e < (es g).length) (h0 : s.ord t = 0) (ht : t < N) : left N es (Tj.meet s t) (sg ++ [(g, e + 1, bl)] ++ [(t, 0, [])]) < left N es s (sg ++ [(g, e, bl)]) := by
  have h2 := tot_upd N (fun x => if s.ord x = 0 then (es x).length + 2 else 0) (fun x => if (Tj.meet s t).ord x = 0 then (es x).length + 2 else 0) t ht (fun x hx => by simp only [meet_ord hx])
  have ot : (Tj.meet s t).ord t = s.next + 1 := upd_i _ _ _
  simp only [ot, h0, if_true, if_neg (Nat.succ_ne_zero _)] at h2
  simp only [left, List.map_append, List.sum_append, List.map_cons, List.map_nil, List.sum_cons, List.sum_nil] at h2 ⊢
  omega
theorem left_pop {c : Seg} {sg' : List Seg} {s' : St} (ho : s'.ord = s.ord) (hs : sg'.map (fun c => (c.1, c.2.1)) = sg.map fun c => (c.1, c.2.1)) : left N es s' sg' < left N es s (sg ++ [c]) := by
  have e : sg'.map (fun c => (es c.1).length - c.2.1 + 1) = sg.map (fun c => (es c.1).length - c.2.1 + 1) := by
    have := congrArg (List.map fun (x : Nat × Nat) => (es x.1).length - x.2 + 1) hs
    rw [List.map_map, List.map_map] at this
    exact this
  simp only [left, ho, e, List.map_append, List.sum_append, List.map_cons, List.map_nil, List.sum_cons, List.sum_nil]; omega
end Go.Proofs.YtnjjjfffppllfaaX.Tj
