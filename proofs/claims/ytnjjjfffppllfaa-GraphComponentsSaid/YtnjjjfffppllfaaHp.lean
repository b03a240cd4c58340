/- Binary heaps as lists: what one exchange up or down does to the order. -/
namespace Go.Proofs.YtnjjjfffppllfaaX.Hp
set_option linter.unusedSimpArgs false
set_option linter.unusedVariables false
set_option linter.unusedVariables false

/-- Ahead of: a strict order all of whose ties are alike. -/
structure Ord {β : Type} (bf : β → β → Bool) : Prop where
  asym : ∀ x y, bf x y = true → bf y x = false
  ntr : ∀ x y z, bf x y = false → bf y z = false → bf x z = false

def sw {β : Type} (a : Nat → β) (i j k : Nat) : β := if k = i then a j else if k = j then a i else a k
def Ok {β : Type} (bf : β → β → Bool) (n : Nat) (a : Nat → β) : Prop := ∀ k, 0 < k → k < n → bf (a k) (a ((k - 1) / 2)) = false
def Up {β : Type} (bf : β → β → Bool) (n : Nat) (a : Nat → β) (i : Nat) : Prop :=
  (∀ k, 0 < k → k < n → k ≠ i → bf (a k) (a ((k - 1) / 2)) = false) ∧ ∀ k, 0 < k → k < n → 0 < i → (k - 1) / 2 = i → bf (a k) (a ((i - 1) / 2)) = false
def Dn {β : Type} (bf : β → β → Bool) (n : Nat) (a : Nat → β) (i : Nat) : Prop :=
  (∀ k, 0 < k → k < n → (k - 1) / 2 ≠ i → bf (a k) (a ((k - 1) / 2)) = false) ∧ ∀ k, 0 < k → k < n → 0 < i → (k - 1) / 2 = i → bf (a k) (a ((i - 1) / 2)) = false

variable {β : Type} {bf : β → β → Bool} {n : Nat} {a : Nat → β} {i : Nat}

theorem sw_i (a : Nat → β) (i j : Nat) : sw a i j i = a j := by simp [sw]
theorem sw_j (a : Nat → β) (i j : Nat) : sw a i j j = a i := by
  unfold sw; split
  · subst_vars; rfl
  · simp
theorem sw_o (a : Nat → β) {i j k : Nat} (h1 : k ≠ i) (h2 : k ≠ j) : sw a i j k = a k := by simp [sw, h1, h2]

theorem Up.step (ho : Ord bf) (h : Up bf n a i) (hi : 0 < i) (hin : i < n) (hb : bf (a i) (a ((i - 1) / 2)) = true) : Up bf n (sw a i ((i - 1) / 2)) ((i - 1) / 2) := by
  have hp : (i - 1) / 2 < i := by omega
  refine ⟨fun k hk hkn hne => ?_, fun k hk hkn hp0 hkp => ?_⟩
  · by_cases hki : k = i
    · subst hki
      rw [sw_i, sw_j]; exact ho.asym _ _ hb
    · rw [sw_o a hki hne]
      by_cases h1 : (k - 1) / 2 = i
      · rw [h1, sw_i]; exact h.2 k hk hkn hi h1
      · by_cases h2 : (k - 1) / 2 = (i - 1) / 2
        · rw [h2, sw_j]
          have := h.1 k hk hkn hki
          rw [h2] at this
          exact ho.ntr _ _ _ this (ho.asym _ _ hb)
        · rw [sw_o a h1 h2]; exact h.1 k hk hkn hki
  · have hgp : ((i - 1) / 2 - 1) / 2 < (i - 1) / 2 := by omega
    have h3 := h.1 ((i - 1) / 2) hp0 (by omega) (by omega)
    rw [sw_o a (k := ((i - 1) / 2 - 1) / 2) (by omega) (by omega)]
    by_cases hki : k = i
    · subst hki; rw [sw_i]; exact h3
    · rw [sw_o a hki (by omega)]
      have := h.1 k hk hkn hki
      rw [hkp] at this
      exact ho.ntr _ _ _ this h3
theorem Up.done (h : Up bf n a i) (hd : i = 0 ∨ bf (a i) (a ((i - 1) / 2)) = false) : Ok bf n a := fun k hk hkn => by
  by_cases hki : k = i
  · subst hki
    rcases hd with hd | hd
    · omega
    · exact hd
  · exact h.1 k hk hkn hki
theorem Up.new (h : Ok bf n a) : Up bf (n + 1) a n := ⟨fun k hk hkn hne => h k hk (by omega), fun k hk hkn hn hkp => by omega⟩

theorem Dn.step (ho : Ord bf) (h : Dn bf n a i) {l : Nat} (hl : (l - 1) / 2 = i) (hl0 : 0 < l) (hln : l < n) (hb : bf (a l) (a i) = true) (hm : ∀ c, 0 < c → c < n → (c - 1) / 2 = i → bf (a c) (a l) = false) : Dn bf n (sw a i l) l := by
  have hil : i < l := by omega
  refine ⟨fun k hk hkn hne => ?_, fun k hk hkn _ hkp => ?_⟩
  · by_cases hkl : k = l
    · subst hkl
      rw [sw_j, hl, sw_i]; exact ho.asym _ _ hb
    · by_cases hki : k = i
      · subst hki
        rw [sw_i, sw_o a (by omega) (by omega)]
        exact h.2 l hl0 hln hk hl
      · rw [sw_o a hki hkl]
        by_cases h1 : (k - 1) / 2 = i
        · rw [h1, sw_i]; exact hm k hk hkn h1
        · rw [sw_o a h1 hne]; exact h.1 k hk hkn h1
  · rw [hl, sw_i, sw_o a (by omega) (by omega)]
    have := h.1 k hk hkn (by omega)
    rwa [hkp] at this
theorem Dn.done (h : Dn bf n a i) (hd : ∀ c, 0 < c → c < n → (c - 1) / 2 = i → bf (a c) (a i) = false) : Ok bf n a := fun k hk hkn => by
  by_cases hki : (k - 1) / 2 = i
  · rw [hki]; exact hd k hk hkn hki
  · exact h.1 k hk hkn hki
theorem Ok.root (ho : Ord bf) (hirr : ∀ x, bf x x = false) (h : Ok bf n a) : ∀ k, k < n → bf (a k) (a 0) = false := fun k => by
  induction k using Nat.strongRecOn with
  | _ k ih =>
    intro hk
    by_cases h0 : k = 0
    · subst h0; exact hirr _
    · exact ho.ntr _ _ _ (h k (by omega) hk) (ih ((k - 1) / 2) (by omega) (by omega))
theorem Ord.irr (ho : Ord bf) (x : β) : bf x x = false := by
  cases h : bf x x
  · rfl
  · have := ho.asym x x h
    rw [h] at this; cases this

/-! As lists. -/
def swp {β : Type} (es : List β) (i j : Nat) : List β := match es[i]?, es[j]? with
  | some x, some y => (es.set i y).set j x
  | _, _ => es
theorem swp_eq {β : Type} {es : List β} {i j : Nat} (hi : i < es.length) (hj : j < es.length) : swp es i j = (es.set i es[j]).set j es[i] := by
  simp [swp, hi, hj]
theorem swp_length {β : Type} (es : List β) (i j : Nat) : (swp es i j).length = es.length := by
  unfold swp; split <;> simp
def fn {β : Type} [Inhabited β] (es : List β) (k : Nat) : β := es.getD k default
theorem fn_eq {β : Type} [Inhabited β] {es : List β} {k : Nat} (h : k < es.length) : fn es k = es[k] := by simp [fn, h]
theorem fn_swp {β : Type} [Inhabited β] {es : List β} {i j : Nat} (hi : i < es.length) (hj : j < es.length) : fn (swp es i j) = sw (fn es) i j := by
  funext k
  rw [swp_eq hi hj]
  unfold sw
  by_cases h1 : k = j
  · subst h1
    by_cases h2 : k = i
    · subst h2; simp [fn, hj]
    · simp [fn, hj, hi, h2]
  · by_cases h2 : k = i
    · subst h2; simp [fn, hj, hi, Ne.symm h1]
    · simp [fn, h1, h2, Ne.symm h1, Ne.symm h2]
theorem perm_swap_set {β : Type} (es : List β) (i j : Nat) (hi : i < es.length) (hj : j < es.length) : ((es.set i es[j]).set j es[i]).Perm es := by
  have h := Array.swap_perm (xs := es.toArray) (i := i) (j := j) (by simpa using hi) (by simpa using hj)
  have h2 := Array.perm_iff_toList_perm.1 h
  simpa [Array.swap] using h2
theorem swp_perm {β : Type} (es : List β) (i j : Nat) : (swp es i j).Perm es := by
  by_cases hi : i < es.length
  · by_cases hj : j < es.length
    · rw [swp_eq hi hj]; exact perm_swap_set es i j hi hj
    · unfold swp; simp [Nat.le_of_not_lt hj]
  · unfold swp; simp [Nat.le_of_not_lt hi]
/-- The heap's order, of a list. -/
def OkL {β : Type} [Inhabited β] (bf : β → β → Bool) (es : List β) : Prop := Ok bf es.length (fn es)
theorem fn_append_lt {β : Type} [Inhabited β] (es r : List β) {k : Nat} (h : k < es.length) : fn (es ++ r) k = fn es k := by
  simp [fn, List.getElem?_append_left h]
theorem okL_up {β : Type} [Inhabited β] {bf : β → β → Bool} {es : List β} (h : OkL bf es) (e : β) : Up bf (es ++ [e]).length (fn (es ++ [e])) es.length := by
  have h2 : Ok bf es.length (fn (es ++ [e])) := fun k hk hkn => by
    rw [fn_append_lt es [e] hkn, fn_append_lt es [e] (by omega)]; exact h k hk hkn
  simpa using Up.new h2
/-- The first is taken out: what stands for it. -/
theorem okL_take {β : Type} [Inhabited β] {bf : β → β → Bool} {es : List β} (h : OkL bf es) (h0 : 0 < es.length) :
    Dn bf ((swp es 0 (es.length - 1)).take (es.length - 1)).length (fn ((swp es 0 (es.length - 1)).take (es.length - 1))) 0 := by
  have hl : ((swp es 0 (es.length - 1)).take (es.length - 1)).length = es.length - 1 := by simp [swp_length]
  rw [hl]
  have hf : ∀ k, 0 < k → k < es.length - 1 → fn ((swp es 0 (es.length - 1)).take (es.length - 1)) k = fn es k := fun k hk hkn => by
    have : fn ((swp es 0 (es.length - 1)).take (es.length - 1)) k = fn (swp es 0 (es.length - 1)) k := by simp [fn, List.getElem?_take, hkn]
    rw [this, fn_swp h0 (by omega), sw_o _ (by omega) (by omega)]
  refine ⟨fun k hk hkn hne => ?_, fun k _ _ h _ => by omega⟩
  rw [hf k hk hkn, hf ((k - 1) / 2) (by omega) (by omega)]
  exact h k hk (by omega)
theorem take_perm {β : Type} [Inhabited β] {es : List β} (h0 : 0 < es.length) : (fn es 0 :: (swp es 0 (es.length - 1)).take (es.length - 1)).Perm es := by
  have h1 := swp_perm es 0 (es.length - 1)
  have hl : (swp es 0 (es.length - 1)).length = es.length := swp_length _ _ _
  have h2 : (swp es 0 (es.length - 1)) = (swp es 0 (es.length - 1)).take (es.length - 1) ++ [fn es 0] := by
    have h3 : (swp es 0 (es.length - 1)).drop (es.length - 1) = [fn es 0] := by
      rw [List.drop_eq_getElem_cons (by omega), List.drop_of_length_le (by omega)]
      have := fn_swp (es := es) h0 (show es.length - 1 < es.length by omega)
      have h4 := congrFun this (es.length - 1)
      rw [sw_j, fn_eq (by omega)] at h4
      rw [h4]
    conv => lhs; rw [← List.take_append_drop (es.length - 1) (swp es 0 (es.length - 1)), h3]
  refine List.Perm.trans ?_ h1
  conv => rhs; rw [h2]
  exact (List.perm_append_singleton _ _).symm
theorem okL_root {β : Type} [Inhabited β] {bf : β → β → Bool} {es : List β} (ho : Ord bf) (h : OkL bf es) : ∀ x ∈ es, bf x (fn es 0) = false := fun x hx => by
  obtain ⟨k, hk, rfl⟩ := List.getElem_of_mem hx
  have := Ok.root ho ho.irr h k hk
  rwa [fn_eq hk] at this
/-- What stands ahead, of such as are alike the one that came first. -/
def befb {α : Type} (lt : α → α → Bool) (x y : α × Int) : Bool := lt x.1 y.1 || (!lt y.1 x.1 && decide (x.2 < y.2))
theorem befb_ord {α : Type} {lt : α → α → Bool} (h : Ord lt) : Ord (befb lt) := by
  refine ⟨fun x y hxy => ?_, fun x y z hxy hyz => ?_⟩
  · simp only [befb, Bool.or_eq_true, Bool.and_eq_true, Bool.not_eq_true', decide_eq_true_eq, Bool.or_eq_false_iff, Bool.and_eq_false_iff, Bool.not_eq_false', decide_eq_false_iff_not] at hxy ⊢
    rcases hxy with hxy | ⟨h1, h2⟩
    · exact ⟨h.asym _ _ hxy, .inl hxy⟩
    · exact ⟨h1, .inr (by omega)⟩
  · simp only [befb, Bool.or_eq_false_iff, Bool.and_eq_false_iff, Bool.not_eq_false', decide_eq_false_iff_not] at hxy hyz ⊢
    refine ⟨h.ntr _ _ _ hxy.1 hyz.1, ?_⟩
    by_cases hzx : lt z.1 x.1 = true
    · exact .inl hzx
    · have hzx : lt z.1 x.1 = false := by simpa using hzx
      right
      have h1 : lt y.1 x.1 = false := h.ntr _ _ _ hyz.1 hzx |> fun _ => by
        cases hyx : lt y.1 x.1
        · rfl
        · exact absurd (h.ntr _ _ _ hyz.1 hzx) (by rw [hyx]; simp)
      have h2 : lt z.1 y.1 = false := by
        cases hzy : lt z.1 y.1
        · rfl
        · exact absurd (h.ntr _ _ _ hzx hxy.1) (by rw [hzy]; simp)
      have h3 : ¬ x.2 < y.2 := hxy.2.resolve_left (by rw [h1]; simp)
      have h4 : ¬ y.2 < z.2 := hyz.2.resolve_left (by rw [h2]; simp)
      omega
end Go.Proofs.YtnjjjfffppllfaaX.Hp
