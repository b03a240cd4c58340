/- Words: what a call keeps of memory, said by the blocks' element types. -/
import Derived.Test.YtnjjjfffppllfaaProg
import Derived.WalkKit
import Derived.WalkSpells
import Derived.WalkLawsBesides
import Derived.KernelRfl
namespace Go.Proofs.YtnjjjfffppllfaaK
open Go.RowKit
set_option linter.unusedVariables false

/-- The element type of a block of cells. -/
def oty : Obj → Option TypeId
  | .cells _ t _ => some t
  | _ => none

/-- Of what w holds, a block stays as it is if it lies below n, or if its type is none of Ts. -/
structure Kept (n : Nat) (Ts : List TypeId) (w w' : World) : Prop where
  os : w'.os = w.os
  tape : w'.tape = w.tape
  output : w'.output = w.output
  size : w.heap.size ≤ w'.heap.size
  keep : ∀ b o, w.heap[b]? = some o → (b < n ∨ ∀ t ∈ Ts, oty o ≠ some t) → w'.heap[b]? = some o

theorem Kept.refl (n : Nat) (Ts : List TypeId) (w : World) : Kept n Ts w w := ⟨rfl, rfl, rfl, Nat.le_refl _, fun _ _ h _ => h⟩
theorem Kept.trans {n : Nat} {Ts : List TypeId} {a b c : World} (h : Kept n Ts a b) (k : Kept n Ts b c) : Kept n Ts a c :=
  ⟨k.os.trans h.os, k.tape.trans h.tape, k.output.trans h.output, Nat.le_trans h.size k.size, fun i o hi hk => k.keep i o (h.keep i o hi hk) hk⟩
theorem Kept.mono {n m : Nat} {Ts Us : List TypeId} {a b : World} (h : Kept n Ts a b) (hm : m ≤ n) (hs : ∀ t ∈ Ts, t ∈ Us) : Kept m Us a b :=
  ⟨h.os, h.tape, h.output, h.size, fun i o hi hk => h.keep i o hi (hk.elim (fun h => .inl (Nat.lt_of_lt_of_le h hm)) (fun h => .inr fun t ht => h t (hs t ht)))⟩
theorem heap_lt {w : World} {b : Nat} {o : Obj} (h : w.heap[b]? = some o) : b < w.heap.size := (Array.getElem?_eq_some_iff.1 h).1
theorem Kept.alloc {n : Nat} {Ts : List TypeId} {a w : World} (h : Kept n Ts a w) (o : Obj) : Kept n Ts a (w.alloc o) :=
  h.trans ⟨rfl, rfl, rfl, by simp, fun i x hi _ => by rw [Below.heap_alloc w o i (heap_lt hi)]; exact hi⟩
theorem Kept.drew {n : Nat} {Ts : List TypeId} {a w : World} (h : Kept n Ts a w) : Kept n Ts a w.drew := h.trans ⟨rfl, rfl, rfl, Nat.le_refl _, fun _ _ h _ => h⟩
theorem Kept.drewN {n : Nat} {Ts : List TypeId} {a w : World} (h : Kept n Ts a w) (k : Nat) : Kept n Ts a (w.drewN k) := h.trans ⟨rfl, rfl, rfl, Nat.le_refl _, fun _ _ h _ => h⟩
theorem Kept.setCell {n : Nat} {Ts : List TypeId} {a w : World} (h : Kept n Ts a w) {p : Addr} {c : Array Value} {t : TypeId} {f : Nat × Nat} (hp : w.heap[p.block]? = some (.cells c t f)) (ht : t ∈ Ts) (hn : n ≤ p.block) (v : Value) :
    Kept n Ts a (w.setCell p v) :=
  h.trans ⟨rfl, rfl, rfl, by simp [World.setCell], fun i x hi hk => by
    have : i ≠ p.block := by
      rintro rfl
      rw [hp] at hi
      cases hi
      rcases hk with hk | hk
      · omega
      · exact hk t ht rfl
    rw [Below.heap_setCell _ _ _ _ this]; exact hi⟩
theorem Kept.below {n : Nat} {Ts : List TypeId} {w w' : World} (h : Kept n Ts w w') (hn : n ≤ w.heap.size) : Below n w w' :=
  ⟨h.os, h.tape, h.output, h.size, fun k hk => by
    have hlt : k < w.heap.size := by omega
    have := h.keep k _ (Array.getElem?_eq_getElem hlt) (.inl hk)
    rw [this, Array.getElem?_eq_getElem hlt]⟩
theorem Kept.cells {n : Nat} {Ts : List TypeId} {w w' : World} (h : Kept n Ts w w') {b : Nat} {c : Array Value} {t : TypeId} {f : Nat × Nat} (hb : w.heap[b]? = some (.cells c t f)) (ht : t ∉ Ts) : w'.heap[b]? = some (.cells c t f) :=
  h.keep b _ hb (.inr fun u hu e => ht (by simp [oty] at e; exact e ▸ hu))

end Go.Proofs.YtnjjjfffppllfaaK
