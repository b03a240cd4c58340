/- The order in which the components are set down, as plain law: those that wait for nothing, the one with the least node first. -/
import Derived.Test.YtnjjjfffppllfaaTk
namespace Go.Proofs.YtnjjjfffppllfaaX.Tj
set_option linter.unusedVariables false
set_option linter.unusedSimpArgs false

structure Parts (N : Nat) (es : Es) (comp : Nat → Nat) (n : Nat) : Prop where
  same : ∀ x y, x < N → y < N → (comp x = comp y ↔ R es x y ∧ R es y x)
  lt : ∀ x, x < N → comp x < n
  full : ∀ c, c < n → ∃ x, x < N ∧ comp x = c
  tgt : ∀ x, x < N → ∀ t, some t ∈ es x → t < N
def mem (N : Nat) (comp : Nat → Nat) (c : Nat) : List Nat := (List.range N).filter fun x => comp x == c
def cross (comp : Nat → Nat) (i : Nat) (o : Option Nat) : Option (Nat × Nat) := match o with
  | some t => if comp t = comp i then none else some (comp i, comp t)
  | none => none
def crosses (N : Nat) (es : Es) (comp : Nat → Nat) : List (Nat × Nat) := (List.range N).flatMap fun i => (es i).filterMap (cross comp i)
def wt (X : List (Nat × Nat)) (outs : List Nat) (d : Nat) : Nat := X.countP fun p => p.1 == d && !outs.contains p.2
def bk (X : List (Nat × Nat)) (c : Nat) : List Nat := (X.filter fun p => p.2 == c).map (·.1)
variable {N n : Nat} {es : Es} {comp : Nat → Nat}

theorem mem_mem {c x : Nat} : x ∈ mem N comp c ↔ x < N ∧ comp x = c := by simp [mem]
theorem mem_cross {d c : Nat} : (d, c) ∈ crosses N es comp ↔ ∃ i t, i < N ∧ some t ∈ es i ∧ comp i = d ∧ comp t = c ∧ c ≠ d := by
  simp only [crosses, List.mem_flatMap, List.mem_range, List.mem_filterMap]
  constructor
  · rintro ⟨i, hi, o, ho, h⟩
    cases o with
    | none => cases h
    | some t =>
      simp only [cross] at h
      split at h
      · cases h
      · rename_i hne
        cases h
        exact ⟨i, t, hi, ho, rfl, rfl, hne⟩
  · rintro ⟨i, t, hi, ht, rfl, rfl, hne⟩
    exact ⟨i, hi, some t, ht, by simp [cross, hne]⟩
theorem mem_bk {X : List (Nat × Nat)} {c d : Nat} : d ∈ bk X c ↔ (d, c) ∈ X := by
  simp only [bk, List.mem_map, List.mem_filter, beq_iff_eq]
  constructor
  · rintro ⟨⟨a, b⟩, ⟨h, rfl⟩, rfl⟩; exact h
  · intro h; exact ⟨(d, c), ⟨h, rfl⟩, rfl⟩
theorem wt_pop {outs : List Nat} {m : Nat} (hm : m ∉ outs) (d : Nat) : ∀ X : List (Nat × Nat), wt X outs d = wt X (outs ++ [m]) d + (bk X m).count d
  | [] => by simp [wt, bk]
  | (a, b) :: X => by
    have ih := wt_pop hm d X
    simp only [wt, bk, List.countP_cons, List.filter_cons] at ih ⊢
    by_cases hb : b = m
    · subst hb
      by_cases ha : a = d
      · subst ha; simp [hm] at ih ⊢; omega
      · simp [ha, hm] at ih ⊢; omega
    · by_cases ha : a = d
      · subst ha
        by_cases ho : b ∈ outs
        · simp [hb, ho] at ih ⊢; omega
        · simp [hb, ho] at ih ⊢; omega
      · simp [ha, hb] at ih ⊢; omega
theorem wt_zero {X : List (Nat × Nat)} {outs : List Nat} {d : Nat} : wt X outs d = 0 ↔ ∀ c, (d, c) ∈ X → c ∈ outs := by
  rw [wt, List.countP_eq_zero]
  constructor
  · intro h c hc
    have := h (d, c) hc
    simpa using this
  · rintro h ⟨a, b⟩ hp
    simp only [Bool.and_eq_true, beq_iff_eq, Bool.not_eq_true', not_and]
    rintro rfl
    simpa using h b hp
/-- A component's least node stands first. -/
theorem Parts.first (h : Parts N es comp n) {c : Nat} (hc : c < n) : ∃ i r, mem N comp c = i :: r ∧ i < N ∧ comp i = c ∧ ∀ k, k < i → comp k ≠ c := by
  obtain ⟨x, hx, hxc⟩ := h.full c hc
  have hm : x ∈ mem N comp c := mem_mem.2 ⟨hx, hxc⟩
  have hs : (mem N comp c).Pairwise (· < ·) := List.Pairwise.filter _ List.pairwise_lt_range
  match hl : mem N comp c with
  | [] => rw [hl] at hm; cases hm
  | i :: r =>
    have hi : i < N ∧ comp i = c := mem_mem.1 (by rw [hl]; exact List.mem_cons_self ..)
    refine ⟨i, r, rfl, hi.1, hi.2, fun k hk hkc => ?_⟩
    have hkm : k ∈ mem N comp c := mem_mem.2 ⟨by omega, hkc⟩
    rw [hl] at hs hkm
    rcases List.mem_cons.1 hkm with rfl | hkm
    · omega
    · have := (List.pairwise_cons.1 hs).1 k hkm; omega
def hd (N : Nat) (comp : Nat → Nat) (c : Nat) : Nat := (mem N comp c).headD 0

structure Kahn (N : Nat) (es : Es) (comp : Nat → Nat) (n : Nat) (outs : List Nat) (W : Nat → Nat) (H : List Nat) : Prop where
  w : ∀ d, d < n → W d = wt (crosses N es comp) outs d
  h : ∀ c, c ∈ H ↔ c < n ∧ c ∉ outs ∧ W c = 0
  hn : H.Nodup
  on : outs.Nodup
  ol : ∀ c ∈ outs, c < n
  cl : ∀ d ∈ outs, ∀ c, (d, c) ∈ crosses N es comp → c ∈ outs
  pre : ∀ r, Canon N es (fun j => j < N ∧ comp j ∈ outs) r → Canon N es (fun _ => False) (outs.map (mem N comp) ++ r)
/-- Behind the pop of m, where k of those that wait for it have been told. -/
structure KahnIn (N : Nat) (es : Es) (comp : Nat → Nat) (n : Nat) (outs : List Nat) (m k : Nat) (W : Nat → Nat) (H : List Nat) : Prop where
  w : ∀ d, d < n → W d = wt (crosses N es comp) (outs ++ [m]) d + ((bk (crosses N es comp) m).drop k).count d
  h : ∀ c, c ∈ H ↔ c < n ∧ c ∉ outs ++ [m] ∧ W c = 0
  hn : H.Nodup
  on : (outs ++ [m]).Nodup
  ol : ∀ c ∈ outs ++ [m], c < n
  cl : ∀ d ∈ outs ++ [m], ∀ c, (d, c) ∈ crosses N es comp → c ∈ outs
  pre : ∀ r, Canon N es (fun j => j < N ∧ comp j ∈ outs ++ [m]) r → Canon N es (fun _ => False) ((outs ++ [m]).map (mem N comp) ++ r)

theorem Kahn.init {W : Nat → Nat} {H : List Nat} (hW : ∀ d, d < n → W d = wt (crosses N es comp) [] d) (hH : ∀ c, c ∈ H ↔ c < n ∧ W c = 0) (hn : H.Nodup) : Kahn N es comp n [] W H :=
  ⟨hW, by simpa using hH, hn, .nil, by simp, by simp, fun r hr => by simpa using hr⟩
/-- What leads out of a part that waits for nothing leads to what stands already. -/
theorem closed_of {outs : List Nat} (hp : Parts N es comp n) {m : Nat} (h0 : ∀ c, (m, c) ∈ crosses N es comp → c ∈ outs) (cl : ∀ d ∈ outs, ∀ c, (d, c) ∈ crosses N es comp → c ∈ outs) {i j : Nat} (hi : i < N) (him : comp i = m) (hr : R es i j) : j < N ∧ (comp j = m ∨ comp j ∈ outs) := by
  induction hr with
  | refl => exact ⟨hi, .inl him⟩
  | @step y z hxy e ih =>
    obtain ⟨hy, hym⟩ := ih
    refine ⟨hp.tgt y hy z e, ?_⟩
    by_cases he : comp z = comp y
    · rw [he]; exact hym
    · have hx : (comp y, comp z) ∈ crosses N es comp := mem_cross.2 ⟨y, z, hy, e, rfl, rfl, he⟩
      rcases hym with hym | hym
      · rw [hym] at hx; exact .inr (h0 _ hx)
      · exact .inr (cl _ hym _ hx)
theorem Kahn.good {outs : List Nat} {W : Nat → Nat} {H : List Nat} (hp : Parts N es comp n) (h : Kahn N es comp n outs W H) {i : Nat} : Good N es (fun j => j < N ∧ comp j ∈ outs) i ↔ i < N ∧ comp i ∈ H := by
  constructor
  · rintro ⟨hi, hd, hg⟩
    refine ⟨hi, (h.h _).2 ⟨hp.lt i hi, fun ho => hd ⟨hi, ho⟩, ?_⟩⟩
    rw [h.w _ (hp.lt i hi), wt_zero]
    intro c hc
    obtain ⟨x, t, hx, ht, hxi, htc, hne⟩ := mem_cross.1 hc
    have htN := hp.tgt x hx t ht
    have hix := (hp.same x i hx hi).1 hxi
    rcases hg t htN (hix.2.step ht) with hr | hr
    · exfalso
      have : comp t = comp i := (hp.same t i htN hi).2 ⟨hr, hix.2.step ht⟩
      exact hne (by rw [← htc, this])
    · rw [← htc]; exact hr.2
  · rintro ⟨hi, hm⟩
    obtain ⟨h1, h2, h3⟩ := (h.h _).1 hm
    rw [h.w _ h1, wt_zero] at h3
    refine ⟨hi, fun hd => h2 hd.2, fun j hj hr => ?_⟩
    rcases (closed_of hp h3 h.cl hi rfl hr).2 with e | e
    · exact .inl ((hp.same j i hj hi).1 e).1
    · exact .inr ⟨hj, e⟩
theorem Kahn.pop {outs : List Nat} {W : Nat → Nat} {H H' : List Nat} {m : Nat} (hp : Parts N es comp n) (h : Kahn N es comp n outs W H) (hH : (m :: H').Perm H) (hm : ∀ x ∈ H, hd N comp m ≤ hd N comp x) : KahnIn N es comp n outs m 0 W H' := by
  have hmH : m ∈ H := hH.mem_iff.1 (List.mem_cons_self ..)
  obtain ⟨hmn, hmo, hm0⟩ := (h.h m).1 hmH
  have hnd := hH.nodup_iff.2 h.hn
  obtain ⟨i, r, hmem, hi, him, hfst⟩ := hp.first hmn
  have hcl : ∀ c, (m, c) ∈ crosses N es comp → c ∈ outs := by
    rw [h.w m hmn, wt_zero] at hm0; exact hm0
  refine ⟨fun d hd => by rw [List.drop_zero, ← wt_pop hmo]; exact h.w d hd, fun c => ?_, (List.nodup_cons.1 hnd).2, ?_, ?_, ?_, fun r' hr' => ?_⟩
  · have h1 : c ∈ m :: H' ↔ c ∈ H := hH.mem_iff
    rw [h.h c, List.mem_cons] at h1
    constructor
    · intro hc
      obtain ⟨h2, h3, h4⟩ := h1.1 (.inr hc)
      refine ⟨h2, ?_, h4⟩
      rw [List.mem_append, List.mem_singleton]
      rintro (h5 | rfl)
      · exact h3 h5
      · exact (List.nodup_cons.1 hnd).1 hc
    · rintro ⟨h2, h3, h4⟩
      rw [List.mem_append, List.mem_singleton, not_or] at h3
      exact (h1.2 ⟨h2, h3.1, h4⟩).resolve_left h3.2
  · rw [List.nodup_append]
    exact ⟨h.on, by simp, fun a ha b hb => by
      obtain rfl : b = m := by simpa using hb
      rintro rfl; exact hmo ha⟩
  · intro c hc
    rcases List.mem_append.1 hc with hc | hc
    · exact h.ol c hc
    · obtain rfl : c = m := by simpa using hc
      exact hmn
  · intro d hd c hc
    rcases List.mem_append.1 hd with hd | hd
    · exact h.cl d hd c hc
    · obtain rfl : d = m := by simpa using hd
      exact hcl c hc
  · rw [List.map_append, List.append_assoc]
    refine h.pre _ ?_
    refine .cons (i := i) ((h.good hp).2 ⟨hi, him ▸ hmH⟩) (fun k hk hg => ?_) ⟨fun x => comp x == m, rfl, fun j hj => ?_⟩ ?_
    · obtain ⟨hkN, hkH⟩ := (h.good hp).1 hg
      have h1 := hm _ hkH
      obtain ⟨i', r', e', _, _, hf'⟩ := hp.first (hp.lt k hkN)
      have hi' : i' ≤ k := Nat.le_of_not_lt fun hlt => hf' k hlt rfl
      simp only [hd, hmem, e', List.headD_cons] at h1
      omega
    · rw [beq_iff_eq, ← him]
      rw [hp.same j i hj hi]
      exact and_comm
    · have e : (fun j => (j < N ∧ comp j ∈ outs) ∨ j ∈ mem N comp m) = fun j => j < N ∧ comp j ∈ outs ++ [m] := by
        funext j
        rw [mem_mem, List.mem_append, List.mem_singleton]
        exact propext ⟨fun h => h.elim (fun h => ⟨h.1, .inl h.2⟩) fun h => ⟨h.1, .inr h.2⟩, fun h => h.2.elim (fun h' => .inl ⟨h.1, h'⟩) fun h' => .inr ⟨h.1, h'⟩⟩
      show Canon N es (fun j => (j < N ∧ comp j ∈ outs) ∨ j ∈ mem N comp m) r'
      rw [e]; exact hr'
theorem KahnIn.at {outs : List Nat} {m k : Nat} {W : Nat → Nat} {H : List Nat} (hp : Parts N es comp n) (h : KahnIn N es comp n outs m k W H) (hk : k < (bk (crosses N es comp) m).length) :
    (bk (crosses N es comp) m)[k] < n ∧ 0 < W (bk (crosses N es comp) m)[k] ∧ (bk (crosses N es comp) m)[k] ∉ H ∧ (bk (crosses N es comp) m)[k] ∉ outs ++ [m] := by
  have hdm := mem_bk.1 (List.getElem_mem hk)
  have h1 : (bk (crosses N es comp) m)[k] < n → 0 < W (bk (crosses N es comp) m)[k] := fun hdn => by
    rw [h.w _ hdn, List.drop_eq_getElem_cons hk, List.count_cons_self]; omega
  generalize (bk (crosses N es comp) m)[k] = d at *
  obtain ⟨i, t, hi, ht, hid, htm, hne⟩ := mem_cross.1 hdm
  have hdn : d < n := hid ▸ hp.lt i hi
  refine ⟨hdn, h1 hdn, fun hH => ?_, fun ho => ?_⟩
  · have := ((h.h d).1 hH).2.2
    have := h1 hdn
    omega
  · have h2 := h.cl d ho m hdm
    have hon := h.on
    rw [List.nodup_append] at hon
    exact hon.2.2 m h2 m (by simp) rfl
theorem KahnIn.step {outs : List Nat} {m k : Nat} {W : Nat → Nat} {H H' : List Nat} (hp : Parts N es comp n) (h : KahnIn N es comp n outs m k W H) (hk : k < (bk (crosses N es comp) m).length)
    (hH : if W (bk (crosses N es comp) m)[k] = 1 then H'.Perm (H ++ [(bk (crosses N es comp) m)[k]]) else H' = H) : KahnIn N es comp n outs m (k + 1) (upd W (bk (crosses N es comp) m)[k] (W (bk (crosses N es comp) m)[k] - 1)) H' := by
  obtain ⟨h1, h2, h3, h4⟩ := h.at hp hk
  have hw : ∀ d, d < n → upd W (bk (crosses N es comp) m)[k] (W (bk (crosses N es comp) m)[k] - 1) d = wt (crosses N es comp) (outs ++ [m]) d + ((bk (crosses N es comp) m).drop (k + 1)).count d := fun d hd => by
    have h5 := h.w d hd
    rw [List.drop_eq_getElem_cons hk, List.count_cons] at h5
    unfold upd
    by_cases e : d = (bk (crosses N es comp) m)[k]
    · subst e
      simp at h5 ⊢
      omega
    · rw [if_neg e]
      have : ((bk (crosses N es comp) m)[k] == d) = false := by simpa using fun h => e h.symm
      rw [this] at h5
      simpa using h5
  generalize (bk (crosses N es comp) m)[k] = d at *
  refine ⟨hw, fun c => ?_, ?_, h.on, h.ol, h.cl, h.pre⟩
  · by_cases e : c = d
    · subst e
      by_cases e1 : W c = 1
      · rw [if_pos e1] at hH
        rw [hH.mem_iff]
        simp [upd, e1, h1]
        simpa using h4
      · rw [if_neg e1] at hH
        rw [hH]
        simp only [h3, upd, if_pos, false_iff, not_and]
        intro _ _; omega
    · have hc : c ∈ H' ↔ c ∈ H := by
        split at hH
        · rw [hH.mem_iff]; simp [e]
        · rw [hH]
      rw [hc, h.h c]
      simp [upd, e]
  · split at hH
    · rw [hH.nodup_iff, List.nodup_append]
      exact ⟨h.hn, by simp, fun a ha b hb => by
        obtain rfl : b = d := by simpa using hb
        rintro rfl; exact h3 ha⟩
    · rw [hH]; exact h.hn
theorem KahnIn.done {outs : List Nat} {m : Nat} {W : Nat → Nat} {H : List Nat} (h : KahnIn N es comp n outs m (bk (crosses N es comp) m).length W H) : Kahn N es comp n (outs ++ [m]) W H :=
  ⟨fun d hd => by rw [h.w d hd, List.drop_length]; rfl, h.h, h.hn, h.on, h.ol, fun d hd c hc => List.mem_append_left _ (h.cl d hd c hc), h.pre⟩
theorem Kahn.fin {outs : List Nat} {W : Nat → Nat} (hp : Parts N es comp n) (h : Kahn N es comp n outs W []) : Canon N es (fun _ => False) (outs.map (mem N comp)) := by
  have h1 : ∀ i, i < N → i < N ∧ comp i ∈ outs := fun i hi => Classical.byContradiction fun hd => by
    obtain ⟨g, hg⟩ := exists_good (es := es) (D := fun j => j < N ∧ comp j ∈ outs) hi hd
    have := ((h.good hp).1 hg).2
    cases this
  simpa using h.pre [] (.nil h1)
theorem nodup_le : ∀ (n : Nat) (l : List Nat), l.Nodup → (∀ x ∈ l, x < n) → l.length ≤ n
  | 0, l, _, h => by
    match l, h with
    | [], _ => exact Nat.le_refl _
    | x :: r, h => exact absurd (h x (List.mem_cons_self ..)) (Nat.not_lt_zero _)
  | n + 1, l, hd, h => by
    have h1 := nodup_le n (l.erase n) (hd.erase _) fun x hx => by
      have := (hd.mem_erase_iff).1 hx
      have := h x this.2
      omega
    rw [List.length_erase] at h1
    split at h1 <;> omega
theorem Kahn.le {outs : List Nat} {W : Nat → Nat} {H : List Nat} (h : Kahn N es comp n outs W H) : outs.length + H.length ≤ n := by
  have h1 : (outs ++ H).Nodup := by
    rw [List.nodup_append]
    exact ⟨h.on, h.hn, fun a ha b hb => by rintro rfl; exact ((h.h a).1 hb).2.1 ha⟩
  have := nodup_le n (outs ++ H) h1 fun x hx => by
    rcases List.mem_append.1 hx with hx | hx
    · exact h.ol x hx
    · exact ((h.h x).1 hx).1
  simpa using this
end Go.Proofs.YtnjjjfffppllfaaX.Tj
