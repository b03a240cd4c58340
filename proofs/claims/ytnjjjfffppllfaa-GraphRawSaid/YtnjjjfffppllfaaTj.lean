/- Tarjan's components as plain law: the stack in segments, each headed by a node of the path. -/
import GoSem.Core.World
namespace Go.Proofs.YtnjjjfffppllfaaX.Tj
set_option linter.unusedVariables false
set_option linter.unusedSimpArgs false

def upd {β : Type} (f : Nat → β) (i : Nat) (v : β) (x : Nat) : β := if x = i then v else f x
theorem upd_i {β : Type} (f : Nat → β) (i : Nat) (v : β) : upd f i v i = v := by simp [upd]
theorem upd_o {β : Type} (f : Nat → β) {i x : Nat} (v : β) (h : x ≠ i) : upd f i v x = f x := by simp [upd, h]

/-- Edges: each node's list of where it leads; none: to no node. -/
abbrev Es := Nat → List (Option Nat)
inductive R (es : Es) : Nat → Nat → Prop
  | refl (x : Nat) : R es x x
  | step {x y z : Nat} : R es x y → some z ∈ es y → R es x z
theorem R.trans {es : Es} {x y z : Nat} (h : R es x y) (h' : R es y z) : R es x z := by
  induction h' with
  | refl => exact h
  | step _ e ih => exact .step ih e
theorem R.edge {es : Es} {x y : Nat} (h : some y ∈ es x) : R es x y := .step (.refl x) h

structure St where
  ord : Nat → Nat
  low : Nat → Nat
  held : Nat → Bool
  comp : Nat → Nat
  stack : List Nat
  next : Nat
  count : Nat
abbrev Seg := Nat × Nat × List Nat
def flat (sg : List Seg) : List Nat := sg.flatMap fun x => x.1 :: x.2.2
theorem flat_append (a b : List Seg) : flat (a ++ b) = flat a ++ flat b := by simp [flat]
theorem flat_one (s : Seg) : flat [s] = s.1 :: s.2.2 := by simp [flat]
theorem head_mem {sg : List Seg} {s : Seg} (h : s ∈ sg) : s.1 ∈ flat sg := List.mem_flatMap.2 ⟨s, h, List.mem_cons_self ..⟩
theorem black_mem {sg : List Seg} {s : Seg} {x : Nat} (h : s ∈ sg) (hx : x ∈ s.2.2) : x ∈ flat sg := List.mem_flatMap.2 ⟨s, h, List.mem_cons_of_mem _ hx⟩

def meet (s : St) (n : Nat) : St := { s with ord := upd s.ord n (s.next + 1), low := upd s.low n (s.next + 1), held := upd s.held n true, stack := s.stack ++ [n], next := s.next + 1 }
def lower (s : St) (g v : Nat) : St := { s with low := upd s.low g (min (s.low g) v) }
def shut (s : St) (l stack : List Nat) : St := { s with held := fun x => if x ∈ l then false else s.held x, comp := fun x => if x ∈ l then s.count else s.comp x, stack := stack, count := s.count + 1 }
def Cl (s : St) (x : Nat) : Prop := s.ord x ≠ 0 ∧ s.held x = false
def tot (N : Nat) (f : Nat → Nat) : Nat := ((List.range N).map f).sum
def unmet (N : Nat) (s : St) : Nat := tot N fun x => if s.ord x = 0 then 1 else 0

theorem tot_upd (N : Nat) (f g : Nat → Nat) (t : Nat) (ht : t < N) (ho : ∀ x, x ≠ t → g x = f x) : tot N g + f t = tot N f + g t := by
  unfold tot
  induction N with
  | zero => omega
  | succ N ih =>
    simp only [List.range_succ, List.map_append, List.sum_append, List.map_cons, List.map_nil, List.sum_cons, List.sum_nil, Nat.add_zero]
    by_cases h : t = N
    · subst h
      have : (List.range t).map g = (List.range t).map f := List.map_congr_left fun x hx => ho x (by have := List.mem_range.1 hx; omega)
      rw [this]; omega
    · have h1 := ih (by omega)
      have h2 := ho N (by omega)
      omega

structure Inv (N : Nat) (es : Es) (s : St) (sg : List Seg) : Prop where
  stk : s.stack = flat sg
  sorted : (flat sg).Pairwise fun a b => s.ord a < s.ord b
  pos : ∀ x ∈ flat sg, s.ord x ≠ 0
  held : ∀ x, s.held x = true ↔ x ∈ flat sg
  lt : ∀ x, s.ord x ≠ 0 → x < N
  le : ∀ x, s.ord x ≤ s.next
  A : ∀ c ∈ sg, ∀ x ∈ c.2.2, R es c.1 x
  P : sg.Pairwise fun a b => R es a.1 b.1
  B : ∀ c ∈ sg, ∀ x ∈ c.2.2, ∃ y ∈ flat sg, s.ord y < s.ord x ∧ R es x y
  C1 : ∀ c ∈ sg, ∀ x ∈ c.2.2, ∀ t, some t ∈ es x → Cl s t ∨ (t ∈ flat sg ∧ s.low c.1 ≤ s.ord t)
  C2 : ∀ c ∈ sg, ∀ t, some t ∈ (es c.1).take c.2.1 → Cl s t ∨ (t ∈ flat sg ∧ s.low c.1 ≤ s.ord t)
  D : ∀ c ∈ sg, s.low c.1 ≤ s.ord c.1 ∧ ∃ y ∈ flat sg, s.ord y = s.low c.1 ∧ R es c.1 y
  E : ∀ x, Cl s x → ∀ t, some t ∈ es x → Cl s t
  F1 : ∀ x y, Cl s x → Cl s y → (s.comp x = s.comp y ↔ R es x y ∧ R es y x)
  F2 : ∀ x, Cl s x → s.comp x < s.count
  F3 : ∀ c, c < s.count → ∃ x, Cl s x ∧ s.comp x = c
  cnt : s.count + sg.length ≤ s.next
  size : (flat sg).length ≤ s.next
  um : s.next + unmet N s = N

variable {N : Nat} {es : Es} {s : St} {sg : List Seg}
def start : St := ⟨fun _ => 0, fun _ => 0, fun _ => false, fun _ => 0, [], 0, 0⟩
theorem tot_one (N : Nat) : tot N (fun _ => 1) = N := by
  unfold tot
  induction N with
  | zero => rfl
  | succ N ih => simp [List.range_succ, List.sum_append] at ih ⊢; omega
theorem Inv.start : Inv N es start [] := by
  refine ⟨rfl, .nil, ?_, ?_, ?_, ?_, ?_, .nil, ?_, ?_, ?_, ?_, ?_, ?_, ?_, ?_, ?_, ?_, ?_⟩
  all_goals first | (intro x; simp [Tj.start, flat, Cl]; done) | skip
  all_goals simp [Tj.start, flat, Cl, unmet, tot_one]

/-- An edge that leads to no node, or to a closed one. -/
theorem Inv.skip {g e : Nat} {bl : List Nat} (h : Inv N es s (sg ++ [(g, e, bl)])) (he : ∀ t, (es g)[e]? = some (some t) → Cl s t) : Inv N es s (sg ++ [(g, e + 1, bl)]) := by
  have hf : flat (sg ++ [(g, e + 1, bl)]) = flat (sg ++ [(g, e, bl)]) := by simp [flat]
  have hm : ∀ c ∈ sg ++ [(g, e + 1, bl)], ∃ c' ∈ sg ++ [(g, e, bl)], c'.1 = c.1 ∧ c'.2.2 = c.2.2 := fun c hc => by
    rcases List.mem_append.1 hc with h | h
    · exact ⟨c, List.mem_append_left _ h, rfl, rfl⟩
    · obtain rfl : c = (g, e + 1, bl) := by simpa using h
      exact ⟨(g, e, bl), List.mem_append_right _ (List.mem_singleton.2 rfl), rfl, rfl⟩
  refine ⟨by rw [hf]; exact h.stk, by rw [hf]; exact h.sorted, by rw [hf]; exact h.pos, by rw [hf]; exact h.held, h.lt, h.le, fun c hc => ?_, ?_, fun c hc => ?_, fun c hc => ?_, fun c hc => ?_, fun c hc => ?_, h.E, h.F1, h.F2, h.F3, by simpa using h.cnt, by rw [hf]; exact h.size, h.um⟩
  · obtain ⟨c', h1, h2, h3⟩ := hm c hc
    rw [← h2, ← h3]; exact h.A c' h1
  · have := h.P
    simp only [List.pairwise_append, List.pairwise_cons, List.mem_singleton, forall_eq] at this ⊢
    exact ⟨this.1, by simp, this.2.2⟩
  · obtain ⟨c', h1, h2, h3⟩ := hm c hc
    rw [hf, ← h3]; exact h.B c' h1
  · obtain ⟨c', h1, h2, h3⟩ := hm c hc
    rw [hf, ← h2, ← h3]; exact h.C1 c' h1
  · rw [hf]
    rcases List.mem_append.1 hc with hc | hc
    · exact h.C2 c (List.mem_append_left _ hc)
    · obtain rfl : c = (g, e + 1, bl) := by simpa using hc
      intro t ht
      rw [List.take_add_one, List.mem_append] at ht
      rcases ht with ht | ht
      · exact h.C2 (g, e, bl) (List.mem_append_right _ (List.mem_singleton.2 rfl)) t ht
      · exact .inl (he t (by simpa using ht))
  · obtain ⟨c', h1, h2, h3⟩ := hm c hc
    rw [hf, ← h2]; exact h.D c' h1

/-- A held node is met again. -/
theorem Inv.back {g e t : Nat} {bl : List Nat} (h : Inv N es s (sg ++ [(g, e, bl)])) (he : (es g)[e]? = some (some t)) (ht : t ∈ flat (sg ++ [(g, e, bl)])) : Inv N es (lower s g (s.ord t)) (sg ++ [(g, e + 1, bl)]) := by
  have hf : flat (sg ++ [(g, e + 1, bl)]) = flat (sg ++ [(g, e, bl)]) := by simp [flat]
  have hm : ∀ c ∈ sg ++ [(g, e + 1, bl)], ∃ c' ∈ sg ++ [(g, e, bl)], c'.1 = c.1 ∧ c'.2.2 = c.2.2 := fun c hc => by
    rcases List.mem_append.1 hc with h | h
    · exact ⟨c, List.mem_append_left _ h, rfl, rfl⟩
    · obtain rfl : c = (g, e + 1, bl) := by simpa using h
      exact ⟨(g, e, bl), List.mem_append_right _ (List.mem_singleton.2 rfl), rfl, rfl⟩
  have hl : ∀ x, (lower s g (s.ord t)).low x ≤ s.low x := fun x => by
    by_cases hx : x = g
    · subst hx; simp only [lower, upd_i]; omega
    · simp only [lower, upd_o _ _ hx]; exact Nat.le_refl _
  have hgt : R es g t := .edge (List.mem_of_getElem? he)
  refine ⟨by rw [hf]; exact h.stk, by rw [hf]; exact h.sorted, by rw [hf]; exact h.pos, by rw [hf]; exact h.held, h.lt, h.le, fun c hc => ?_, ?_, fun c hc => ?_, fun c hc => ?_, fun c hc => ?_, fun c hc => ?_, h.E, h.F1, h.F2, h.F3, by simpa [lower] using h.cnt, by rw [hf]; exact h.size, h.um⟩
  · obtain ⟨c', h1, h2, h3⟩ := hm c hc
    rw [← h2, ← h3]; exact h.A c' h1
  · have := h.P
    simp only [List.pairwise_append, List.pairwise_cons, List.mem_singleton, forall_eq] at this ⊢
    exact ⟨this.1, by simp, this.2.2⟩
  · obtain ⟨c', h1, h2, h3⟩ := hm c hc
    rw [hf, ← h3]; exact h.B c' h1
  · obtain ⟨c', h1, h2, h3⟩ := hm c hc
    rw [hf, ← h2, ← h3]
    intro x hx u hu
    rcases h.C1 c' h1 x hx u hu with h4 | ⟨h4, h5⟩
    · exact .inl h4
    · exact .inr ⟨h4, Nat.le_trans (hl _) h5⟩
  · rw [hf]
    rcases List.mem_append.1 hc with hc | hc
    · intro u hu
      rcases h.C2 c (List.mem_append_left _ hc) u hu with h4 | ⟨h4, h5⟩
      · exact .inl h4
      · exact .inr ⟨h4, Nat.le_trans (hl _) h5⟩
    · obtain rfl : c = (g, e + 1, bl) := by simpa using hc
      intro u hu
      rw [List.take_add_one, List.mem_append] at hu
      rcases hu with hu | hu
      · rcases h.C2 (g, e, bl) (List.mem_append_right _ (List.mem_singleton.2 rfl)) u hu with h4 | ⟨h4, h5⟩
        · exact .inl h4
        · exact .inr ⟨h4, Nat.le_trans (hl _) h5⟩
      · rw [he] at hu
        obtain rfl : u = t := by simpa using hu
        refine .inr ⟨ht, ?_⟩
        simp only [lower, upd_i]; omega
  · obtain ⟨c', h1, h2, h3⟩ := hm c hc
    rw [hf, ← h2]
    obtain ⟨h4, y, h5, h6, h7⟩ := h.D c' h1
    refine ⟨Nat.le_trans (hl _) h4, ?_⟩
    by_cases hx : c'.1 = g
    · rw [hx] at h6 h7 ⊢
      simp only [lower, upd_i]
      by_cases hle : s.low g ≤ s.ord t
      · exact ⟨y, h5, by omega, h7⟩
      · exact ⟨t, ht, by omega, hgt⟩
    · simp only [lower, upd_o _ _ hx]; exact ⟨y, h5, h6, h7⟩

theorem meet_ord {x t : Nat} (h : x ≠ t) : (meet s t).ord x = s.ord x := upd_o _ _ h
theorem meet_low {x t : Nat} (h : x ≠ t) : (meet s t).low x = s.low x := upd_o _ _ h
theorem meet_cl {t : Nat} (h0 : s.ord t = 0) (x : Nat) : Cl (meet s t) x ↔ Cl s x := by
  unfold Cl
  by_cases hx : x = t
  · subst hx; simp [meet, upd_i, h0]
  · simp only [meet, upd_o _ _ hx]

/-- A node is met: it heads a segment of its own. -/
theorem Inv.meet {t : Nat} (h : Inv N es s sg) (h0 : s.ord t = 0) (ht : t < N) (hP : ∀ c ∈ sg, R es c.1 t) : Inv N es (meet s t) (sg ++ [(t, 0, [])]) := by
  have hf : flat (sg ++ [(t, 0, [])]) = flat sg ++ [t] := by simp [flat]
  have hnt : ∀ x ∈ flat sg, x ≠ t := fun x hx e => h.pos x hx (e ▸ h0)
  have o : ∀ x ∈ flat sg, (Tj.meet s t).ord x = s.ord x := fun x hx => meet_ord (hnt x hx)
  have ot : (Tj.meet s t).ord t = s.next + 1 := upd_i _ _ _
  have lo : ∀ c ∈ sg, (Tj.meet s t).low c.1 = s.low c.1 := fun c hc => meet_low (hnt _ (head_mem hc))
  have cl := meet_cl (s := s) h0
  refine ⟨?_, ?_, ?_, ?_, ?_, ?_, ?_, ?_, ?_, ?_, ?_, ?_, ?_, ?_, ?_, ?_, ?_, ?_, ?_⟩
  · rw [hf, ← h.stk]; rfl
  · rw [hf]
    refine List.pairwise_append.2 ⟨h.sorted.imp_of_mem fun ha hb hab => by rw [o _ ha, o _ hb]; exact hab, by simp, fun a ha b hb => ?_⟩
    obtain rfl : b = t := by simpa using hb
    rw [o a ha, ot]; have := h.le a; omega
  · rw [hf]
    intro x hx
    rcases List.mem_append.1 hx with hx | hx
    · rw [o x hx]; exact h.pos x hx
    · obtain rfl : x = t := by simpa using hx
      rw [ot]; omega
  · intro x
    rw [hf, List.mem_append, List.mem_singleton]
    by_cases hx : x = t
    · subst hx; simp [Tj.meet, upd_i]
    · simp only [Tj.meet, upd_o _ _ hx, hx, or_false]; exact h.held x
  · intro x hx
    by_cases he : x = t
    · subst he; exact ht
    · rw [meet_ord he] at hx; exact h.lt x hx
  · intro x
    by_cases he : x = t
    · subst he; rw [ot]; exact Nat.le_refl _
    · rw [meet_ord he]; have := h.le x; simp only [Tj.meet]; omega
  · intro c hc
    rcases List.mem_append.1 hc with hc | hc
    · exact h.A c hc
    · obtain rfl : c = (t, 0, []) := by simpa using hc
      simp
  · refine List.pairwise_append.2 ⟨h.P, by simp, fun a ha b hb => ?_⟩
    obtain rfl : b = (t, 0, []) := by simpa using hb
    exact hP a ha
  · intro c hc
    rcases List.mem_append.1 hc with hc | hc
    · intro x hx
      obtain ⟨y, h1, h2, h3⟩ := h.B c hc x hx
      refine ⟨y, by rw [hf]; exact List.mem_append_left _ h1, ?_, h3⟩
      rw [o y h1, o x (black_mem hc hx)]; exact h2
    · obtain rfl : c = (t, 0, []) := by simpa using hc
      simp
  · intro c hc
    rcases List.mem_append.1 hc with hc | hc
    · intro x hx u hu
      rw [cl, hf, lo c hc]
      rcases h.C1 c hc x hx u hu with h1 | ⟨h1, h2⟩
      · exact .inl h1
      · exact .inr ⟨List.mem_append_left _ h1, by rw [o u h1]; exact h2⟩
    · obtain rfl : c = (t, 0, []) := by simpa using hc
      simp
  · intro c hc
    rcases List.mem_append.1 hc with hc | hc
    · intro u hu
      rw [cl, hf, lo c hc]
      rcases h.C2 c hc u hu with h1 | ⟨h1, h2⟩
      · exact .inl h1
      · exact .inr ⟨List.mem_append_left _ h1, by rw [o u h1]; exact h2⟩
    · obtain rfl : c = (t, 0, []) := by simpa using hc
      simp
  · intro c hc
    rcases List.mem_append.1 hc with hc | hc
    · obtain ⟨h1, y, h2, h3, h4⟩ := h.D c hc
      rw [lo c hc, o _ (head_mem hc)]
      exact ⟨h1, y, by rw [hf]; exact List.mem_append_left _ h2, by rw [o y h2]; exact h3, h4⟩
    · obtain rfl : c = (t, 0, []) := by simpa using hc
      refine ⟨?_, t, by rw [hf]; simp, ?_, .refl _⟩ <;> simp [Tj.meet, upd_i]
  · intro x hx u hu
    rw [cl] at hx ⊢
    exact h.E x hx u hu
  · intro x y hx hy
    rw [cl] at hx hy
    exact h.F1 x y hx hy
  · intro x hx
    rw [cl] at hx
    exact h.F2 x hx
  · intro c hc
    obtain ⟨x, h1, h2⟩ := h.F3 c hc
    exact ⟨x, (cl x).2 h1, h2⟩
  · have := h.cnt
    simp only [Tj.meet, List.length_append, List.length_cons, List.length_nil]; omega
  · have := h.size
    rw [hf]; simp only [Tj.meet, List.length_append, List.length_cons, List.length_nil]; omega
  · have h1 := h.um
    have h2 := tot_upd N (fun x => if s.ord x = 0 then 1 else 0) (fun x => if (Tj.meet s t).ord x = 0 then 1 else 0) t ht (fun x hx => by simp only [meet_ord hx])
    simp only [ot, h0, if_true, if_neg (Nat.succ_ne_zero _)] at h2
    unfold unmet at h1 ⊢
    simp only [Tj.meet] at h2 ⊢
    omega

/-- All of the stack leads to the head of its last segment. -/
theorem Inv.toTop {c : Seg} (h : Inv N es s (sg ++ [c])) : ∀ x ∈ flat (sg ++ [c]), R es x c.1 := by
  have hP := h.P
  simp only [List.pairwise_append, List.pairwise_cons, List.mem_singleton, forall_eq] at hP
  have key : ∀ k x, s.ord x ≤ k → x ∈ flat (sg ++ [c]) → R es x c.1 := fun k => by
    induction k with
    | zero => intro x hk hx; exact absurd (Nat.le_zero.1 hk) (h.pos x hx)
    | succ k ih =>
      intro x hk hx
      obtain ⟨d, hd, hxd⟩ := List.mem_flatMap.1 hx
      rcases List.mem_cons.1 hxd with rfl | hxd
      · rcases List.mem_append.1 hd with hd | hd
        · exact hP.2.2 d hd
        · obtain rfl : d = c := by simpa using hd
          exact .refl _
      · obtain ⟨y, h1, h2, h3⟩ := h.B d hd x hxd
        exact h3.trans (ih y (by omega) h1)
  exact fun x hx => key _ x (Nat.le_refl _) hx
theorem Inv.fromTop {c : Seg} (h : Inv N es s (sg ++ [c])) : ∀ x ∈ c.1 :: c.2.2, R es c.1 x := fun x hx => by
  rcases List.mem_cons.1 hx with rfl | hx
  · exact .refl _
  · exact h.A c (List.mem_append_right _ (List.mem_singleton.2 rfl)) x hx
theorem Inv.below {c : Seg} (h : Inv N es s (sg ++ [c])) : ∀ x ∈ flat sg, ∀ y ∈ c.1 :: c.2.2, s.ord x < s.ord y := fun x hx y hy => by
  have := h.sorted
  rw [flat_append, flat_one] at this
  exact (List.pairwise_append.1 this).2.2 x hx y hy
theorem Inv.above {c : Seg} (h : Inv N es s (sg ++ [c])) : ∀ y ∈ c.2.2, s.ord c.1 < s.ord y := fun y hy => by
  have := h.sorted
  rw [flat_append, flat_one] at this
  exact (List.pairwise_cons.1 (List.pairwise_append.1 this).2.1).1 y hy

/-- The last segment's head is done, and its component goes on below. -/
theorem Inv.keep {u eu g e : Nat} {bu bl : List Nat} (h : Inv N es s (sg ++ [(u, eu, bu)] ++ [(g, e, bl)])) (he : (es g).length ≤ e) (hne : s.low g ≠ s.ord g) : Inv N es (lower s u (s.low g)) (sg ++ [(u, eu, bu ++ g :: bl)]) := by
  have hf : flat (sg ++ [(u, eu, bu ++ g :: bl)]) = flat (sg ++ [(u, eu, bu)] ++ [(g, e, bl)]) := by simp [flat]
  have mg : (g, e, bl) ∈ sg ++ [(u, eu, bu)] ++ [(g, e, bl)] := List.mem_append_right _ (List.mem_singleton.2 rfl)
  have mu : (u, eu, bu) ∈ sg ++ [(u, eu, bu)] ++ [(g, e, bl)] := List.mem_append_left _ (List.mem_append_right _ (List.mem_singleton.2 rfl))
  have ms : ∀ c ∈ sg, c ∈ sg ++ [(u, eu, bu)] ++ [(g, e, bl)] := fun c hc => List.mem_append_left _ (List.mem_append_left _ hc)
  have hl : ∀ x, (lower s u (s.low g)).low x ≤ s.low x := fun x => by
    by_cases hx : x = u
    · subst hx; simp only [lower, upd_i]; omega
    · simp only [lower, upd_o _ _ hx]; exact Nat.le_refl _
  have hlu : (lower s u (s.low g)).low u ≤ s.low g := by simp only [lower, upd_i]; omega
  obtain ⟨dg, yg, dy1, dy2, dy3⟩ := h.D _ mg
  dsimp only at dg dy2 dy3
  have hP := h.P
  have hug : R es u g := by
    have := (List.pairwise_append.1 hP).2.2 _ (List.mem_append_right _ (List.mem_singleton.2 rfl)) _ (List.mem_singleton.2 rfl)
    exact this
  have case : ∀ {p : Seg → Prop}, (∀ c ∈ sg, p c) → p (u, eu, bu ++ g :: bl) → ∀ c ∈ sg ++ [(u, eu, bu ++ g :: bl)], p c := fun h1 h2 c hc => by
    rcases List.mem_append.1 hc with hc | hc
    · exact h1 c hc
    · obtain rfl : c = (u, eu, bu ++ g :: bl) := by simpa using hc
      exact h2
  have up : ∀ {t v : Nat} {F : List Nat}, (Cl s t ∨ (t ∈ F ∧ v ≤ s.ord t)) → ∀ {v'}, v' ≤ v → (Cl s t ∨ (t ∈ F ∧ v' ≤ s.ord t)) := fun h1 _ h2 => h1.imp id fun h3 => ⟨h3.1, Nat.le_trans h2 h3.2⟩
  refine ⟨by rw [hf]; exact h.stk, by rw [hf]; exact h.sorted, by rw [hf]; exact h.pos, by rw [hf]; exact h.held, h.lt, h.le, ?_, ?_, ?_, ?_, ?_, ?_, h.E, h.F1, h.F2, h.F3, ?_, by rw [hf]; exact h.size, h.um⟩
  · refine case (fun c hc => h.A c (ms c hc)) fun x hx => ?_
    rcases List.mem_append.1 hx with hx | hx
    · exact h.A _ mu x hx
    · rcases List.mem_cons.1 hx with rfl | hx
      · exact hug
      · exact hug.trans (h.A _ mg x hx)
  · have h1 := (List.pairwise_append.1 hP).1
    simp only [List.pairwise_append, List.pairwise_cons, List.mem_singleton, forall_eq] at h1 ⊢
    exact ⟨h1.1, by simp, h1.2.2⟩
  · rw [hf]
    refine case (fun c hc => h.B c (ms c hc)) fun x hx => ?_
    rcases List.mem_append.1 hx with hx | hx
    · exact h.B _ mu x hx
    · rcases List.mem_cons.1 hx with rfl | hx
      · exact ⟨yg, dy1, by show s.ord yg < s.ord x; omega, dy3⟩
      · exact h.B _ mg x hx
  · rw [hf]
    refine case (fun c hc x hx t ht => up (h.C1 c (ms c hc) x hx t ht) (hl _)) fun x hx t ht => ?_
    rcases List.mem_append.1 hx with hx | hx
    · exact up (h.C1 _ mu x hx t ht) (hl _)
    · rcases List.mem_cons.1 hx with rfl | hx
      · exact up (h.C2 _ mg t (by rw [List.take_of_length_le he]; exact ht)) hlu
      · exact up (h.C1 _ mg x hx t ht) hlu
  · rw [hf]
    exact case (fun c hc t ht => up (h.C2 c (ms c hc) t ht) (hl _)) fun t ht => up (h.C2 _ mu t ht) (hl _)
  · rw [hf]
    have key : ∀ c ∈ sg ++ [(u, eu, bu)] ++ [(g, e, bl)], (lower s u (s.low g)).low c.1 ≤ s.ord c.1 ∧ ∃ y ∈ flat (sg ++ [(u, eu, bu)] ++ [(g, e, bl)]), s.ord y = (lower s u (s.low g)).low c.1 ∧ R es c.1 y := fun c hc => by
      obtain ⟨h1, y, h2, h3, h4⟩ := h.D c hc
      refine ⟨Nat.le_trans (hl _) h1, ?_⟩
      by_cases hx : c.1 = u
      · rw [hx] at h3 h4 ⊢
        simp only [lower, upd_i]
        by_cases hle : s.low u ≤ s.low g
        · exact ⟨y, h2, by omega, h4⟩
        · exact ⟨yg, dy1, by omega, hug.trans dy3⟩
      · simp only [lower, upd_o _ _ hx]; exact ⟨y, h2, h3, h4⟩
    exact case (fun c hc => key c (ms c hc)) (key (u, eu, bu) mu)
  · have := h.cnt
    simp only [lower, List.length_append, List.length_cons, List.length_nil] at this ⊢; omega
theorem R.closed {p : Nat → Prop} (h : ∀ x, p x → ∀ t, some t ∈ es x → p t) {x y : Nat} (hr : R es x y) (hx : p x) : p y := by
  induction hr with
  | refl => exact hx
  | step _ e ih => exact h _ ih _ e

/-- The last segment is a component. -/
theorem Inv.shut {g e : Nat} {bl : List Nat} (h : Inv N es s (sg ++ [(g, e, bl)])) (he : (es g).length ≤ e) (heq : s.low g = s.ord g) : Inv N es (shut s (g :: bl) (flat sg)) sg := by
  have hf : flat (sg ++ [(g, e, bl)]) = flat sg ++ (g :: bl) := by simp [flat]
  have mg : (g, e, bl) ∈ sg ++ [(g, e, bl)] := List.mem_append_right _ (List.mem_singleton.2 rfl)
  have ms : ∀ c ∈ sg, c ∈ sg ++ [(g, e, bl)] := fun c hc => List.mem_append_left _ hc
  have hbe : ∀ x ∈ flat sg, ∀ y ∈ g :: bl, s.ord x < s.ord y := h.below
  have hab : ∀ y ∈ g :: bl, s.ord g ≤ s.ord y := fun y hy => by
    rcases List.mem_cons.1 hy with rfl | hy
    · exact Nat.le_refl _
    · exact Nat.le_of_lt (h.above y hy)
  have mem : ∀ x, x ∈ flat (sg ++ [(g, e, bl)]) ↔ x ∈ flat sg ∨ x ∈ g :: bl := fun x => by rw [hf, List.mem_append]
  have nos : ∀ x ∈ flat sg, x ∉ g :: bl := fun x hx hy => Nat.lt_irrefl _ (hbe x hx x hy)
  have cl : ∀ x, Cl (Tj.shut s (g :: bl) (flat sg)) x ↔ Cl s x ∨ x ∈ g :: bl := fun x => by
    unfold Cl Tj.shut
    by_cases hx : x ∈ g :: bl
    · simp only [hx, if_true, or_true, and_true, iff_true]; exact h.pos x ((mem x).2 (.inr hx))
    · simp only [hx, if_false, or_false]
  have ncl : ∀ x, Cl s x → x ∉ g :: bl := fun x hx hm => by
    have := (h.held x).2 ((mem x).2 (.inr hm)); rw [hx.2] at this; cases this
  have ein : ∀ x ∈ g :: bl, ∀ t, some t ∈ es x → Cl s t ∨ t ∈ g :: bl := fun x hx t ht => by
    have h1 : Cl s t ∨ (t ∈ flat (sg ++ [(g, e, bl)]) ∧ s.low g ≤ s.ord t) := by
      rcases List.mem_cons.1 hx with rfl | hx
      · exact h.C2 _ mg t (by rw [List.take_of_length_le he]; exact ht)
      · exact h.C1 _ mg x hx t ht
    rcases h1 with h1 | ⟨h1, h2⟩
    · exact .inl h1
    · rcases (mem t).1 h1 with h3 | h3
      · have := hbe t h3 g (List.mem_cons_self ..); omega
      · exact .inr h3
  have cs : ∀ x, x ∈ g :: bl → (Tj.shut s (g :: bl) (flat sg)).comp x = s.count := fun x hx => by simp only [Tj.shut, hx, if_true]
  have co : ∀ x, Cl s x → (Tj.shut s (g :: bl) (flat sg)).comp x = s.comp x := fun x hx => by simp only [Tj.shut, ncl x hx, if_false]
  have two : ∀ {x y : Nat}, x ∈ g :: bl → y ∈ g :: bl → R es x y := fun hx hy => (h.toTop _ ((mem _).2 (.inr hx))).trans (h.fromTop _ hy)
  have sep : ∀ {x y : Nat}, Cl s x → y ∈ g :: bl → ¬ R es x y := fun hx hy hr => ncl _ (R.closed h.E hr hx) hy
  refine ⟨rfl, ?_, ?_, ?_, h.lt, h.le, ?_, ?_, ?_, ?_, ?_, ?_, ?_, ?_, ?_, ?_, ?_, ?_, h.um⟩
  · have := h.sorted; rw [hf] at this; exact (List.pairwise_append.1 this).1
  · exact fun x hx => h.pos x ((mem x).2 (.inl hx))
  · intro x
    by_cases hx : x ∈ g :: bl
    · simp only [Tj.shut, hx, if_true, Bool.false_eq_true, false_iff]; exact fun h1 => nos x h1 hx
    · simp only [Tj.shut, hx, if_false]; rw [h.held x, mem x]; simp [hx]
  · exact fun c hc => h.A c (ms c hc)
  · exact (List.pairwise_append.1 h.P).1
  · intro c hc x hx
    obtain ⟨y, h1, h2, h3⟩ := h.B c (ms c hc) x hx
    refine ⟨y, ?_, h2, h3⟩
    rcases (mem y).1 h1 with h4 | h4
    · exact h4
    · have := hbe x (black_mem hc hx) y h4; omega
  · intro c hc x hx t ht
    rw [cl]
    rcases h.C1 c (ms c hc) x hx t ht with h1 | ⟨h1, h2⟩
    · exact .inl (.inl h1)
    · rcases (mem t).1 h1 with h4 | h4
      · exact .inr ⟨h4, h2⟩
      · exact .inl (.inr h4)
  · intro c hc t ht
    rw [cl]
    rcases h.C2 c (ms c hc) t ht with h1 | ⟨h1, h2⟩
    · exact .inl (.inl h1)
    · rcases (mem t).1 h1 with h4 | h4
      · exact .inr ⟨h4, h2⟩
      · exact .inl (.inr h4)
  · intro c hc
    obtain ⟨h1, y, h2, h3, h4⟩ := h.D c (ms c hc)
    refine ⟨h1, y, ?_, h3, h4⟩
    rcases (mem y).1 h2 with h5 | h5
    · exact h5
    · have := hbe c.1 (head_mem hc) y h5; omega
  · intro x hx t ht
    rw [cl] at hx ⊢
    rcases hx with hx | hx
    · exact .inl (h.E x hx t ht)
    · exact ein x hx t ht
  · intro x y hx hy
    rw [cl] at hx hy
    rcases hx with hx | hx <;> rcases hy with hy | hy
    · rw [co x hx, co y hy]; exact h.F1 x y hx hy
    · rw [co x hx, cs y hy]
      have := h.F2 x hx
      exact ⟨fun e => by omega, fun hr => absurd hr.1 (sep hx hy)⟩
    · rw [cs x hx, co y hy]
      have := h.F2 y hy
      exact ⟨fun e => by omega, fun hr => absurd hr.2 (sep hy hx)⟩
    · rw [cs x hx, cs y hy]; exact ⟨fun _ => ⟨two hx hy, two hy hx⟩, fun _ => rfl⟩
  · intro x hx
    rw [cl] at hx
    rcases hx with hx | hx
    · rw [co x hx]; have := h.F2 x hx; simp only [Tj.shut]; omega
    · rw [cs x hx]; simp [Tj.shut]
  · intro c hc
    by_cases hcc : c < s.count
    · obtain ⟨x, h1, h2⟩ := h.F3 c hcc
      exact ⟨x, (cl x).2 (.inl h1), by rw [co x h1]; exact h2⟩
    · exact ⟨g, (cl g).2 (.inr (List.mem_cons_self ..)), by rw [cs g (List.mem_cons_self ..)]; simp only [Tj.shut] at hc; omega⟩
  · have := h.cnt
    simp only [Tj.shut, List.length_append, List.length_cons, List.length_nil] at this ⊢; omega
  · have := h.size
    rw [hf, List.length_append] at this
    simp only [Tj.shut]; omega
/-- The first segment's head can but close. -/
theorem Inv.only {c : Seg} (h : Inv N es s [c]) : s.low c.1 = s.ord c.1 := by
  obtain ⟨h1, y, h2, h3, h4⟩ := h.D c (List.mem_singleton.2 rfl)
  rw [flat_one] at h2
  rcases List.mem_cons.1 h2 with rfl | h2
  · omega
  · have := Inv.above (sg := []) h y h2; omega
/-- What the head below has for its low stays, where a component is closed above it. -/
theorem Inv.stay {u eu g e : Nat} {bu bl : List Nat} (h : Inv N es s (sg ++ [(u, eu, bu)] ++ [(g, e, bl)])) (heq : s.low g = s.ord g) : s.low u ≤ s.low g := by
  have h1 := (h.D (u, eu, bu) (List.mem_append_left _ (List.mem_append_right _ (List.mem_singleton.2 rfl)))).1
  have h2 := h.below u (by rw [flat_append, flat_one]; simp) g (List.mem_cons_self ..)
  dsimp only at h1
  omega
/-- At the end: all met, nothing on the stack. -/
theorem Inv.done (h : Inv N es s []) (hm : ∀ x, x < N → s.ord x ≠ 0) : (∀ x y, x < N → y < N → (s.comp x = s.comp y ↔ R es x y ∧ R es y x)) ∧ (∀ x, x < N → s.comp x < s.count) ∧ (∀ c, c < s.count → ∃ x, x < N ∧ s.comp x = c) := by
  have hc : ∀ x, x < N → Cl s x := fun x hx => ⟨hm x hx, by
    cases hh : s.held x with
    | false => rfl
    | true => have := (h.held x).1 hh; simp [flat] at this⟩
  exact ⟨fun x y hx hy => h.F1 x y (hc x hx) (hc y hy), fun x hx => h.F2 x (hc x hx), fun c hcc => by
    obtain ⟨x, h1, h2⟩ := h.F3 c hcc
    exact ⟨x, h.lt x h1.1, h2⟩⟩
end Go.Proofs.YtnjjjfffppllfaaX.Tj
