/- What came in: slices that are read, told by a relation for an element; and how the bound counts them. -/
import Derived.Test.YtnjjjfffppllfaaHw
import Derived.Test.YtnjjjfffppllfaaRows
import Derived.Deep.Slices
import Derived.ProofKit
import Derived.OpenShut
namespace Go.Proofs.YtnjjjfffppllfaaX
open Go.RowKit Go.Proofs.YtnjjjfffppllfaaK Go.ChangeShapes
open Go.Proofs.Ytnjjjfffppllfaa (Rows.uptoBulk Rows.uptoBulkAll)
set_option linter.unusedVariables false
set_option linter.unusedSimpArgs false

/-- The slice's value v reads, in w, as xs: each element has k cells of which R holds. -/
def RdS {α : Type} (w : World) (k : Nat) (R : α → List Value → Prop) (v : Value) (xs : List α) : Prop :=
  ∃ A cap, v = .slice A xs.length cap ∧ xs.length ≤ cap ∧ (xs = [] ∨ ∃ b o, A = some ⟨b, o, none⟩ ∧ b < w.heap.size ∧
    ∀ i (h : i < xs.length), ∃ cs, cs.length = k ∧ R xs[i] cs ∧ ∀ j u, cs[j]? = some u → w.cell? ⟨b, o + i * k + j, none⟩ = some u)
/-- The old memory is as it was. -/
def Old (w0 w : World) : Prop := Below w0.heap.size w0 w
theorem Old.refl (w : World) : Old w w := Below.refl _ _
theorem Old.kept {w0 w w' : World} {n : Nat} {Ts : List TypeId} (h : Old w0 w) (hk : Kept n Ts w w') (hn : w0.heap.size ≤ n) : Old w0 w' := by
  refine Below.trans h ⟨hk.os, hk.tape, hk.output, hk.size, fun k hk' => ?_⟩
  have hlt : k < w.heap.size := Nat.lt_of_lt_of_le hk' h.size
  rw [hk.keep k _ (Array.getElem?_eq_getElem hlt) (.inl (by omega)), Array.getElem?_eq_getElem hlt]
theorem Old.grow {w0 w w' : World} (h : Old w0 w) (hk : Kept 0 [] w w') : Old w0 w' := h.kept (n := w0.heap.size) (Ts := []) (Kept.all hk) (Nat.le_refl _)
theorem Old.put {w0 w w' : World} {b : Nat} {o : Obj} (h : Old w0 w) (hp : Put w w' b o) (hb : w0.heap.size ≤ b) : Old w0 w' :=
  Below.trans h ⟨hp.os, hp.tape, hp.output, by rw [hp.size]; exact Nat.le_refl _, fun k hk' => hp.other k (by omega)⟩
theorem Old.cell {w0 w : World} (h : Old w0 w) {b o : Nat} {v : Value} (hc : w0.cell? ⟨b, o, none⟩ = some v) : w.cell? ⟨b, o, none⟩ = some v := by
  rw [Below.cell h (p := ⟨b, o, none⟩) (World.block_lt_of_cell? w0 ⟨b, o, none⟩ hc)]; exact hc
theorem RdS.old {α : Type} {w0 w : World} {k : Nat} {R : α → List Value → Prop} {v : Value} {xs : List α} (h : RdS w0 k R v xs) (ho : Old w0 w) : RdS w k R v xs := by
  obtain ⟨A, cap, e, hl, hx⟩ := h
  refine ⟨A, cap, e, hl, hx.imp id ?_⟩
  rintro ⟨b, o, e2, hb, hc⟩
  refine ⟨b, o, e2, Nat.lt_of_lt_of_le hb ho.size, fun i hi => ?_⟩
  obtain ⟨cs, h1, h2, h3⟩ := hc i hi
  exact ⟨cs, h1, h2, fun j u hu => ho.cell (h3 j u hu)⟩

theorem sum_le_bulk {H : Type} : ∀ (n : Nat) (D : Nat → DataW H) (F : Nat → Nat), (∀ i, i < n → F i ≤ Rows.uptoBulk (D i)) → ((List.range n).map F).sum ≤ Rows.uptoBulkAll ((List.range n).map D) := fun n => by
  have h (l : List Nat) (D : Nat → DataW H) (F : Nat → Nat) (hl : ∀ i ∈ l, F i ≤ Rows.uptoBulk (D i)) : (l.map F).sum ≤ Rows.uptoBulkAll (l.map D) := by
    induction l with
    | nil => simp [Rows.uptoBulkAll]
    | cons x r ih =>
      simp only [List.map_cons, List.sum_cons, Rows.uptoBulkAll]
      have h1 := hl x (List.mem_cons_self ..)
      have h2 := ih fun i hi => hl i (List.mem_cons_of_mem _ hi)
      omega
  exact fun D F hF => h _ D F fun i hi => hF i (List.mem_range.1 hi)
theorem one_le_bulk {H : Type} (d : DataW H) : 1 ≤ Rows.uptoBulk d := by
  cases d with
  | lit l => cases l <;> simp [Rows.uptoBulk]
  | _ => simp [Rows.uptoBulk]

theorem add_mk (b o n : Nat) : (⟨b, o, none⟩ : Addr).add n = ⟨b, o + n, none⟩ := by
  unfold Addr.add
  split
  · next h => subst h; rfl
  · rfl
section
variable {H : Type} {enc : TypeId × Value → H} {P : Program} {w : World} {base : Nat} {spare : Nat → Bool} {held : Bool}
/-- A slice is read: its elements' cells, each read; and what the bound counts of it. -/
theorem rdS_of_trod {α : Type} [Inhabited α] {t e fuel : Nat} {v : Value} {x : DataW H × List MemPlace} {k : Nat} {R : α → List Value → Prop} {B : α → Nat} (ht : P.underlying t = some (.slice e)) (hk : P.cellsOf e = k) (hk0 : 0 < k)
    (hR : ∀ m cs y, DataW.trod enc P w base spare held m e cs = some y → cs.length = k → ∃ z : α, R z cs ∧ B z ≤ Rows.uptoBulk y.1) (h : DataW.trod enc P w base spare held fuel t [v] = some x) :
    ∃ xs, RdS w k R v xs ∧ (xs.map B).sum + 1 ≤ Rows.uptoBulk x.1 := by
  rcases Deep.open_slice ht h with ⟨e1, rfl⟩ | ⟨a, len, cap, m, n, D, Pl, e1, hb, hl, hm, hmm, rfl, hx⟩
  · obtain rfl : v = .slice none 0 0 := by simpa using e1
    exact ⟨[], ⟨none, 0, rfl, Nat.le_refl _, .inl rfl⟩, by simp [Rows.uptoBulk]⟩
  · obtain rfl : v = .slice (some a) len cap := by simpa using e1
    have hlm : len ≤ m := by rw [hmm]; split <;> omega
    subst hk
    obtain ⟨f, hf⟩ := Deep.choose_lt (n := len) (p := fun i (z : α) => (∃ cs, cs.length = P.cellsOf e ∧ R z cs ∧ ∀ j u, cs[j]? = some u → w.cell? ((a.add (i * P.cellsOf e)).add j) = some u) ∧ B z ≤ Rows.uptoBulk (D i)) (fun i hi => by
      obtain ⟨cs, h1, h2⟩ := hx i (by omega)
      obtain ⟨_, hlen, hcell⟩ := World.cells?_some h1
      obtain ⟨z, hz, hB⟩ := hR _ _ _ h2 hlen
      refine ⟨z, ⟨cs, hlen, hz, fun j u hu => ?_⟩, hB⟩
      have hj : j < cs.length := by
        rcases Nat.lt_or_ge j cs.length with hj | hj
        · exact hj
        · rw [List.getElem?_eq_none hj] at hu; cases hu
      rw [hcell j (by omega), hu])
    have hlen : ((List.range len).map f).length = len := by simp
    refine ⟨(List.range len).map f, ⟨some a, cap, by rw [hlen], by rw [hlen]; exact hl, ?_⟩, ?_⟩
    · by_cases h0 : len = 0
      · subst h0; exact .inl rfl
      · right
        obtain ⟨⟨cs, h1, h2, h3⟩, _⟩ := hf 0 (by omega)
        obtain ⟨u, hu⟩ : ∃ u, cs[0]? = some u := ⟨cs[0]'(by omega), List.getElem?_eq_getElem (by omega)⟩
        have hc0 := h3 0 u hu
        have hlt := World.block_lt_of_cell? w _ hc0
        obtain ⟨b, o, s⟩ := a
        have hs : s = none := by simpa [Addr.add] using World.cell?_spot hc0
        subst hs
        refine ⟨b, o, rfl, by simpa [Addr.add] using hlt, fun i hi => ?_⟩
        obtain ⟨⟨cs, h1, h2, h3⟩, _⟩ := hf i (by simpa using hi)
        exact ⟨cs, h1, by simpa using h2, fun j u hu => by rw [← h3 j u hu, Deep.add_add, add_mk, Nat.add_assoc]⟩
    · simp only [List.map_map, Rows.uptoBulk]
      have := sum_le_bulk len D (B ∘ f) fun i hi => (hf i hi).2
      omega
end
theorem length_le_sum {α : Type} {B : α → Nat} {c : Nat} (xs : List α) (h : ∀ x ∈ xs, c ≤ B x) : xs.length * c ≤ (xs.map B).sum := by
  induction xs with
  | nil => simp
  | cons x r ih =>
    simp only [List.map_cons, List.sum_cons, List.length_cons, Nat.add_mul, Nat.one_mul]
    have h1 := h x (List.mem_cons_self ..)
    have h2 := ih fun i hi => h i (List.mem_cons_of_mem _ hi)
    omega
end Go.Proofs.YtnjjjfffppllfaaX
