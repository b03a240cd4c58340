/- Rows of elements of k cells, as lists. -/
import Derived.Test.YtnjjjfffppllfaaD
namespace Go.Proofs.YtnjjjfffppllfaaX
open Go.RowKit Go.Proofs.YtnjjjfffppllfaaK
set_option linter.unusedVariables false
set_option linter.unusedSimpArgs false

theorem getL_of_drop {c : Array Value} : ∀ (vs : List Value) (o : Nat), vs <+: c.toList.drop o → getL c o vs.length = some vs
  | [], o, _ => rfl
  | v :: r, o, h => by
    obtain ⟨t, ht⟩ := h
    have h0 : c[o]? = some v := by
      have : (c.toList.drop o)[0]? = some v := by rw [← ht]; rfl
      simpa using this
    have h1 : r <+: c.toList.drop (o + 1) := ⟨t, by rw [← List.drop_drop, ← ht]; rfl⟩
    have h2 : nth c.toList o = some v := by rw [nth_get]; simpa using h0
    simp only [List.length_cons, getL, h2, getL_of_drop r (o + 1) h1]
/-- A row of the call's own whose elements are told by f, k cells each: the cells of element i. -/
theorem row_open {β : Type} {n0 : Nat} {w : World} {E k : Nat} {lv : Value} {f : β → List Value} {es : List β} (hf : ∀ e, (f e).length = k) (h : w.ownsRow n0 E k lv es.length (es.flatMap f)) :
    (lv = .slice none 0 0 ∧ es = []) ∨ ∃ g cap cur, lv = .slice (some ⟨g, 0, none⟩) es.length cap ∧ n0 ≤ g ∧ w.heap[g]? = some (.cells cur E (0, 0)) ∧ es.length ≤ cap ∧ cap ≤ maxLen ∧ cur.size = cap * k ∧ cur.toList.take (es.length * k) = es.flatMap f := by
  rcases h.2 with ⟨h1, h2⟩ | ⟨g, cap, cur, h1, hg, h3, h4, h5, h6, h7⟩
  · exact .inl ⟨h1, List.eq_nil_of_length_eq_zero h2⟩
  · exact .inr ⟨g, cap, cur, h1, hg, h3, h4, h5, h6, h7⟩
theorem flat_length {β : Type} {k : Nat} {f : β → List Value} (hf : ∀ e, (f e).length = k) : ∀ es : List β, (es.flatMap f).length = es.length * k
  | [] => by simp
  | e :: r => by simp [hf, flat_length hf r, Nat.succ_mul, Nat.add_comm]
theorem row_make {β : Type} {n0 : Nat} {w : World} {E k g cap : Nat} {f : β → List Value} {es : List β} {cur : Array Value} (hf : ∀ e, (f e).length = k) (hg : n0 ≤ g) (h3 : w.heap[g]? = some (.cells cur E (0, 0))) (h4 : es.length ≤ cap) (h5 : cap ≤ maxLen) (h6 : cur.size = cap * k) (h7 : cur.toList.take (es.length * k) = es.flatMap f) :
    w.ownsRow n0 E k (.slice (some ⟨g, 0, none⟩) es.length cap) es.length (es.flatMap f) :=
  ⟨flat_length hf es, .inr ⟨g, cap, cur, rfl, hg, h3, h4, h5, h6, h7⟩⟩
theorem flat_split {β : Type} (f : β → List Value) (es : List β) {i : Nat} (hi : i < es.length) : es.flatMap f = (es.take i).flatMap f ++ (f es[i] ++ (es.drop (i + 1)).flatMap f) := by
  have : es = es.take i ++ es[i] :: es.drop (i + 1) := by rw [← List.drop_eq_getElem_cons hi, List.take_append_drop]
  calc es.flatMap f = (es.take i ++ es[i] :: es.drop (i + 1)).flatMap f := congrArg (List.flatMap f) this
    _ = _ := by rw [List.flatMap_append, List.flatMap_cons]
theorem flat_take {β : Type} {k : Nat} {f : β → List Value} (hf : ∀ e, (f e).length = k) (es : List β) {i : Nat} (hi : i < es.length) : ((es.take i).flatMap f).length = i * k := by
  rw [flat_length hf, List.length_take, Nat.min_eq_left (Nat.le_of_lt hi)]
theorem row_getL {β : Type} {k : Nat} {f : β → List Value} {es : List β} {cur : Array Value} (hf : ∀ e, (f e).length = k) (h7 : cur.toList.take (es.length * k) = es.flatMap f) {i : Nat} (hi : i < es.length) : getL cur (i * k) k = some (f es[i]) := by
  have h := getL_of_drop (c := cur) (f es[i]) (i * k) ?_
  · rwa [hf] at h
  · have h2 : (cur.toList.take (es.length * k)).drop (i * k) = f es[i] ++ (es.drop (i + 1)).flatMap f := by
      rw [h7, flat_split f es hi, List.drop_append_of_le_length (by rw [flat_take hf es hi]; exact Nat.le_refl _), List.drop_of_length_le (by rw [flat_take hf es hi]; exact Nat.le_refl _)]
      rfl
    rw [List.drop_take] at h2
    refine List.IsPrefix.trans ⟨_, h2.symm⟩ (List.take_prefix _ _)
theorem setL_toList (vs : List Value) : ∀ (c : Array Value) (o : Nat), o + vs.length ≤ c.size → (setL c o vs).toList = c.toList.take o ++ vs ++ c.toList.drop (o + vs.length) := by
  induction vs with
  | nil => intro c o h; simp [setL]
  | cons v r ih =>
    intro c o h
    simp only [List.length_cons] at h
    rw [setL, ih _ _ (by simp; omega)]
    have ho : o < c.toList.length := by simp; omega
    simp only [Array.toList_setIfInBounds, List.length_cons]
    rw [List.take_set, List.drop_set_of_lt (by omega), List.take_succ_eq_append_getElem ho, List.set_append_right _ _ (by simp; omega)]
    simp [Nat.min_eq_left (Nat.le_of_lt (by simpa using ho))]
    congr 1; omega
theorem row_setL {β : Type} {k : Nat} {f : β → List Value} {es : List β} {cur : Array Value} (hf : ∀ e, (f e).length = k) (hs : es.length * k ≤ cur.size) (h7 : cur.toList.take (es.length * k) = es.flatMap f) {i : Nat} (hi : i < es.length) (e : β) :
    (setL cur (i * k) (f e)).toList.take ((es.set i e).length * k) = (es.set i e).flatMap f := by
  have hik : i * k + k ≤ es.length * k := by
    have : (i + 1) * k ≤ es.length * k := Nat.mul_le_mul_right k hi
    rw [Nat.succ_mul] at this; exact this
  have h1 := flat_split f es hi
  have hl0 := flat_take hf es hi
  have hA : cur.toList.take (i * k) = (es.take i).flatMap f := by
    have : (cur.toList.take (es.length * k)).take (i * k) = (es.take i).flatMap f := by
      rw [h7, h1, List.take_append_of_le_length (by omega), List.take_of_length_le (by omega)]
    rwa [List.take_take, Nat.min_eq_left (by omega)] at this
  have hB : (cur.toList.drop (i * k + k)).take (es.length * k - (i * k + k)) = (es.drop (i + 1)).flatMap f := by
    have hl1 : ((es.take i).flatMap f ++ f es[i]).length = i * k + k := by rw [List.length_append, hl0, hf]
    rw [← List.drop_take, h7, h1, ← List.append_assoc, List.drop_append_of_le_length (by omega), List.drop_of_length_le (by omega)]
    rfl
  rw [setL_toList _ _ _ (by rw [hf]; omega), hf, hA, List.length_set, List.take_append, List.take_of_length_le (by rw [List.length_append, hl0, hf]; omega)]
  have hl : ((es.take i).flatMap f ++ f e).length = i * k + k := by rw [List.length_append, hl0, hf]
  rw [hl, hB, List.set_eq_take_append_cons_drop, if_pos hi]
  simp

theorem row_take {β : Type} {n0 : Nat} {w : World} {E k cap : Nat} {A : Option Addr} {f : β → List Value} {es : List β} (hf : ∀ e, (f e).length = k) (h : w.ownsRow n0 E k (.slice A es.length cap) es.length (es.flatMap f)) (h0 : 0 < es.length) {m : Nat} (hm : m ≤ es.length) :
    w.ownsRow n0 E k (.slice A m cap) (es.take m).length ((es.take m).flatMap f) := by
  have hl : (es.take m).length = m := by simp [Nat.min_eq_left hm]
  rcases row_open hf h with ⟨_, rfl⟩ | ⟨g, cap', cur, e1, eg, e2, e3, e4, e5, e6⟩
  · simp at h0
  · cases e1
    have := row_make (es := es.take m) hf eg e2 (by omega) e4 e5 (by
      rw [hl]
      have h7 : (cur.toList.take (es.length * k)).take (m * k) = (es.take m).flatMap f := by
        rw [e6]
        conv => lhs; rw [← List.take_append_drop m es, List.flatMap_append]
        rw [List.take_append_of_le_length (by rw [flat_length hf, hl]; exact Nat.le_refl _), List.take_of_length_le (by rw [flat_length hf, hl]; exact Nat.le_refl _)]
      rwa [List.take_take, Nat.min_eq_left (Nat.mul_le_mul_right k hm)] at h7)
    rw [hl] at this ⊢
    exact this
/-- A row stays owned where its type is none of those that may have changed. -/
theorem own_keep {n0 : Nat} {w w' : World} {E k n m : Nat} {Ts : List TypeId} {v : Value} {xs : List Value} (h : w.ownsRow n0 E k v n xs) (hk : Kept m Ts w w') (ht : Ts.contains E = false) : w'.ownsRow n0 E k v n xs := by
  refine ⟨h.1, ?_⟩
  rcases h.2 with h | ⟨g, cap, cur, e1, e2, e3, e4⟩
  · exact .inl h
  · exact .inr ⟨g, cap, cur, e1, e2, gett hk e3 ht, e4⟩
theorem own_grow {n0 : Nat} {w w' : World} {E k n : Nat} {v : Value} {xs : List Value} (h : w.ownsRow n0 E k v n xs) (hk : Kept 0 [] w w') : w'.ownsRow n0 E k v n xs := own_keep h hk rfl
theorem own_put {n0 : Nat} {w w' : World} {E k n b : Nat} {v : Value} {xs : List Value} {c : Array Value} {t : TypeId} {f : Nat × Nat} {o : Obj} (h : w.ownsRow n0 E k v n xs) (hp : Put w w' b o) (hb : w.heap[b]? = some (.cells c t f)) (ht : (E == t) = false) : w'.ownsRow n0 E k v n xs :=
  own_keep (Ts := [t]) h (hp.kept (m := 0) hb (by simp) (Nat.zero_le _)) (by simpa using ht)
theorem own_form {n0 : Nat} {w : World} {E k n : Nat} {v : Value} {xs : List Value} (h : w.ownsRow n0 E k v n xs) : ∃ A c, v = .slice A n c ∧ n ≤ c := by
  rcases h.2 with ⟨rfl, rfl⟩ | ⟨g, cap, cur, rfl, _, _, h4, _⟩
  · exact ⟨none, 0, rfl, Nat.le_refl _⟩
  · exact ⟨_, _, rfl, h4⟩
theorem news_of {w : World} {b : Nat} {vs : List Value} {t : TypeId} {f : Nat × Nat} (h : w.heap[b]? = some (.cells vs.toArray t f)) : ∀ j u, vs[j]? = some u → w.cell? ((⟨b, 0, none⟩ : Addr).add j) = some u := fun j u hu => by
  rw [add_plain, Nat.zero_add]
  exact cell_of h (by simpa using hu)
theorem x_done_c2 {P : Program} {n : Nat} {sl : Slots} {w : World} {fn : Func} {R : Ending → World → Prop} {t u b o T : Nat} {vs : List Value} {x : Value} (hr : fn.results = #[.cell t T, .tmp u]) (hT : tk P T = some (true, vs.length)) (hv : look sl t = some (.pointer (some ⟨b, o, none⟩)))
    (hx : look sl u = some x) (hc : CN (Eq w) b o vs) (h : R (.returned (.tuple #[.agg vs.toArray, x])) w) : F n sl w (bodyPost P fn R .ret) := fun a ha => by
  have h1 := run_loadCells_list (P := P) (w := w) ⟨b, o, none⟩ vs (fun j v hv => by rw [add_plain]; exact hc w rfl j v hv)
  refine ⟨ha.dfs, _, ?_, h⟩
  rw [results_cell_tmp hr, ha.slot t _ hv, ha.slot u x hx]
  simp [asAddr, loadVar, tk_agg hT, tk_size hT, h1]
end Go.Proofs.YtnjjjfffppllfaaX
