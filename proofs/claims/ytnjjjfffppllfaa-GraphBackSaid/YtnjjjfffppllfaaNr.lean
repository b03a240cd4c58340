/- Rows of rows that grow, each by itself; and a function's code by the way to it. -/
import Derived.Test.YtnjjjfffppllfaaGm
import Derived.Test.YtnjjjfffppllfaaMk
namespace Go.Proofs.YtnjjjfffppllfaaX
open Go.RowKit Go.Proofs.YtnjjjfffppllfaaK
set_option linter.unusedVariables false
set_option linter.unusedSimpArgs false

def nav : List Nat → Code → Code
  | [], c => c
  | k :: r, c => match c, k with
    | .seq a _, 0 => nav r a
    | .seq _ b, _ => nav r b
    | .cond _ a _, 0 => nav r a
    | .cond _ _ b, _ => nav r b
    | .block _ a, _ => nav r a
    | .loop a, _ => nav r a
    | .scope a, _ => nav r a
    | .rangeFunc _ _ a _, 0 => nav r a
    | .rangeFunc _ _ _ b, _ => nav r b
    | c, _ => c
def bodyAt (f : Func) (p : List Nat) : Code := match f.body with
  | some c => nav p c
  | none => .skip

/-- A row of values, told by a function. -/
def rowV (N : Nat) (f : Nat → Value) : Array Value := ((List.range N).map f).toArray
theorem rowV_size (N : Nat) (f : Nat → Value) : (rowV N f).size = N := by simp [rowV]
theorem rowV_get {N : Nat} {f : Nat → Value} {i : Nat} (h : i < N) : (rowV N f)[i]? = some (f i) := by simp [rowV, h]
theorem rowV_set (N : Nat) (f : Nat → Value) (i : Nat) (v : Value) : (rowV N f).setIfInBounds i v = rowV N (Tj.upd f i v) := by
  apply Array.ext_getElem?
  intro j
  rw [Array.getElem?_setIfInBounds]
  by_cases hj : j < N
  · by_cases h : i = j
    · subst h; simp [rowV, hj, Tj.upd]
    · rw [if_neg h, rowV_get hj, rowV_get hj, Tj.upd_o _ _ (fun e => h e.symm)]
  · simp [rowV, hj]; omega
theorem rowV_rep (N : Nat) (v : Value) : Array.replicate N v = rowV N fun _ => v := by
  apply Array.ext
  · simp [rowV_size]
  · intro i h1 h2
    have h3 : i < N := by simpa using h1
    have := rowV_get (f := fun _ => v) h3
    rw [Array.getElem?_eq_getElem h2] at this
    simp at this
    simp [this]
theorem putV {w w' : World} {b N : Nat} {f : Nat → Value} {i : Nat} {v : Value} {t : TypeId} (h : Put w w' b (.cells ((rowV N f).setIfInBounds i v) t (0, 0))) : w'.heap[b]? = some (.cells (rowV N (Tj.upd f i v)) t (0, 0)) := by rw [h.here, rowV_set]

/-- n rows of the call's own, of blocks of their own. -/
structure Nest {β : Type} (E : TypeId) (f : β → List Value) (n0 : Nat) (w : World) (n : Nat) (vs : Nat → Value) (xs : Nat → List β) : Prop where
  own : ∀ c, c < n → w.ownsRow n0 E 1 (vs c) (xs c).length ((xs c).flatMap f)
  sep : ∀ c d b, c < n → d < n → c ≠ d → (vs c).ownBlock = some b → (vs d).ownBlock ≠ some b
section
variable {β : Type} {E : TypeId} {f : β → List Value} {n0 n : Nat} {w w' : World} {vs : Nat → Value} {xs : Nat → List β}
theorem Nest.nil (n0 n : Nat) (w : World) : Nest E f n0 w n (fun _ => .slice none 0 0) (fun _ => []) :=
  ⟨fun _ _ => World.ownsRow_nil _ _ _ _, fun c d b _ _ _ h => by simp [Value.ownBlock] at h⟩
theorem Nest.app (h : Nest E f n0 w n vs xs) {c : Nat} (hc : c < n) {x : β} {v' : Value} (ho : w'.ownsRow n0 E 1 v' ((xs c).length + 1) ((xs c).flatMap f ++ f x)) (hg : w.grownBy w' (vs c).ownBlock) (he : v'.ownBlock = (vs c).ownBlock ∨ v'.ownBlock = some w.heap.size) :
    Nest E f n0 w' n (Tj.upd vs c v') (Tj.upd xs c (xs c ++ [x])) := by
  refine ⟨fun d hd => ?_, fun d e b hd he' hde hb hb' => ?_⟩
  · by_cases e : d = c
    · subst e; rw [Tj.upd_i, Tj.upd_i]; simpa using ho
    · rw [Tj.upd_o _ _ e, Tj.upd_o _ _ e]
      refine (h.own d hd).kept hg ?_
      cases hb : (vs d).ownBlock with
      | none => exact .inl rfl
      | some b => exact .inr fun hh => h.sep d c b hd hc e hb hh.symm
  · have key : ∀ d, d < n → d ≠ c → ∀ b, (vs d).ownBlock = some b → v'.ownBlock ≠ some b := fun d hd hne b hb hv => by
      rcases he with he | he
      · rw [he] at hv; exact h.sep d c b hd hc hne hb hv
      · rw [he] at hv
        have := ((h.own d hd).lt b hb).2
        cases hv
        omega
    by_cases e1 : d = c
    · subst e1
      rw [Tj.upd_i] at hb
      rw [Tj.upd_o _ _ (Ne.symm hde)] at hb'
      exact key e he' (Ne.symm hde) b hb' hb
    · rw [Tj.upd_o _ _ e1] at hb
      by_cases e2 : e = c
      · subst e2
        rw [Tj.upd_i] at hb'
        exact key d hd e1 b hb hb'
      · rw [Tj.upd_o _ _ e2] at hb'
        exact h.sep d e b hd he' hde hb hb'
theorem Nest.keep (h : Nest E f n0 w n vs xs) {m : Nat} {Ts : List TypeId} (hk : Kept m Ts w w') (ht : Ts.contains E = false) : Nest E f n0 w' n vs xs := ⟨fun c hc => own_keep (h.own c hc) hk ht, h.sep⟩
theorem Nest.grow (h : Nest E f n0 w n vs xs) (hk : Kept 0 [] w w') : Nest E f n0 w' n vs xs := h.keep hk rfl
theorem Nest.puto {b : Nat} {o : Obj} (h : Nest E f n0 w n vs xs) (hp : Put w w' b o) (hb : b < n0) : Nest E f n0 w' n vs xs := ⟨fun c hc => G.own_puto (h.own c hc) hp hb, h.sep⟩
theorem own_below {k n m : Nat} {Ts : List TypeId} {v : Value} {xs : List Value} (h : w.ownsRow n0 E k v n xs) (hk : Kept m Ts w w') (hm : w.heap.size ≤ m) : w'.ownsRow n0 E k v n xs := by
  refine ⟨h.1, h.2.imp id ?_⟩
  rintro ⟨g, cap, cur, e1, e2, e3, e4⟩
  exact ⟨g, cap, cur, e1, e2, getb hk e3 (Nat.lt_of_lt_of_le (heap_lt e3) hm), e4⟩
theorem Nest.below (h : Nest E f n0 w n vs xs) {m : Nat} {Ts : List TypeId} (hk : Kept m Ts w w') (hm : w.heap.size ≤ m) : Nest E f n0 w' n vs xs := ⟨fun c hc => own_below (h.own c hc) hk hm, h.sep⟩
end
/-- A row of one-cell elements of the call's own reads. -/
theorem own_cell {β : Type} {f : β → List Value} {E n0 : Nat} {w : World} {v : Value} {es : List β} (hf : ∀ e, (f e).length = 1) (h : w.ownsRow n0 E 1 v es.length (es.flatMap f)) (h0 : 0 < es.length) : ∃ b cap, v = .slice (some ⟨b, 0, none⟩) es.length cap ∧ n0 ≤ b ∧ b < w.heap.size ∧ ∀ i (hi : i < es.length) u, f es[i] = [u] → w.cell? ⟨b, i, none⟩ = some u := by
  rcases row_open hf h with ⟨_, rfl⟩ | ⟨q, cap, cur, rfl, hq0, hq, hcap, hmax, hcur, htk⟩
  · simp at h0
  · refine ⟨q, cap, rfl, hq0, heap_lt hq, fun i hi u hu => ?_⟩
    have := (getL_at (row_getL hf htk hi)).2
    rw [hu, Nat.mul_one] at this
    exact cell_of hq this.1
end Go.Proofs.YtnjjjfffppllfaaX
