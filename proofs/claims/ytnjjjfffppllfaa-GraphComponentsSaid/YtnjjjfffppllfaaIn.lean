/- What came in: lists of numbers, lists of such lists, as they read. -/
import Derived.Test.YtnjjjfffppllfaaGf
import Derived.Test.YtnjjjfffppllfaaRs
namespace Go.Proofs.YtnjjjfffppllfaaX
open Go.RowKit Go.Proofs.YtnjjjfffppllfaaK Go.ChangeShapes
open Go.Proofs.Ytnjjjfffppllfaa (Rows.uptoBulk Rows.uptoBulkAll)
set_option linter.unusedVariables false
set_option linter.unusedSimpArgs false
section
variable {H : Type} {enc : TypeId × Value → H} {W : World} {base : Nat} {spare : Nat → Bool} {held : Bool}
theorem int_of {m : Nat} {cs : List Value} {y : DataW H × List MemPlace} (hy : DataW.trod enc Try.prog W base spare held m 3 cs = some y) (hl : cs.length = 1) : ∃ z : Int, G.RInt z cs ∧ 1 ≤ Rows.uptoBulk y.1 := by
  obtain ⟨k, e1, _⟩ := DataW.trod_int Try.underlying3 hy
  exact ⟨k, by simpa [G.RInt] using e1, one_le_bulk _⟩
theorem ints_of {m : Nat} {v : Value} {y : DataW H × List MemPlace} (hy : DataW.trod enc Try.prog W base spare held m 37 [v] = some y) : ∃ xs : List Int, RdS W 1 G.RInt v xs ∧ xs.length + 1 ≤ Rows.uptoBulk y.1 := by
  obtain ⟨xs, h1, h2⟩ := rdS_of_trod (R := G.RInt) (B := fun _ => 1) (k := 1) Try.underlying37 (by kernel_rfl) (by decide) (fun _ _ _ h hl => int_of h hl) hy
  exact ⟨xs, h1, by have := length_le_sum (B := fun _ => 1) (c := 1) xs (fun _ _ => Nat.le_refl _); omega⟩
theorem rows_of {m : Nat} {v : Value} {y : DataW H × List MemPlace} (hy : DataW.trod enc Try.prog W base spare held m 38 [v] = some y) : ∃ xs : List (List Int), G.Gr W v xs ∧ xs.length + 1 ≤ Rows.uptoBulk y.1 := by
  obtain ⟨xs, h1, h2⟩ := rdS_of_trod (R := G.RRow W) (B := fun _ => 1) (k := 1) Try.underlying38 (by kernel_rfl) (by decide) (fun _ cs y h hl => by
    match cs, hl with
    | [u], _ =>
      obtain ⟨zs, h3, h4⟩ := ints_of h
      exact ⟨zs, ⟨u, rfl, h3⟩, one_le_bulk _⟩) hy
  exact ⟨xs, h1, by have := length_le_sum (B := fun _ => 1) (c := 1) xs (fun _ _ => Nat.le_refl _); omega⟩
end
end Go.Proofs.YtnjjjfffppllfaaX
