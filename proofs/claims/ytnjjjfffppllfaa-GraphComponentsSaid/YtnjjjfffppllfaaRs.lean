/- What came in: structs' fields. -/
import Derived.Test.YtnjjjfffppllfaaRd
import Derived.ChangeSame
namespace Go.Proofs.YtnjjjfffppllfaaX
open Go.RowKit Go.Proofs.YtnjjjfffppllfaaK Go.ChangeShapes
set_option linter.unusedVariables false
set_option linter.unusedSimpArgs false

theorem fields_of {P : Program} {t : TypeId} (l : List (TypeId × Nat)) (h : (match P.underlying t with | some (.struct fs) => fs.toList.map (fun f => (f.type, f.offset)) == l | _ => false) = true) : ∃ fs, P.underlying t = some (.struct fs) ∧ fs.toList.map (fun f => (f.type, f.offset)) = l := by
  split at h
  · rename_i fs hu; exact ⟨fs, hu, by simpa using h⟩
  · cases h
theorem fields2_of {P : Program} {t a b c d : Nat} (h : (match P.underlying t with | some (.struct fs) => fs.toList.map (fun f => (f.type, f.offset)) == [(a, b), (c, d)] | _ => false) = true) : ∃ f0 f1 : Field, P.underlying t = some (.struct #[f0, f1]) ∧ f0.type = a ∧ f0.offset = b ∧ f1.type = c ∧ f1.offset = d := by
  obtain ⟨fs, hu, hl⟩ := fields_of _ h
  obtain ⟨l⟩ := fs
  obtain ⟨f0, f1, rfl⟩ : ∃ f0 f1, l = [f0, f1] := by
    have := congrArg List.length hl
    simp only [List.length_map, List.length_cons, List.length_nil] at this
    match l, this with
    | [f, g], _ => exact ⟨f, g, rfl⟩
  simp only [List.map_cons, List.map_nil, List.cons.injEq, Prod.mk.injEq, and_true] at hl
  exact ⟨f0, f1, hu, hl.1.1, hl.1.2, hl.2.1, hl.2.2⟩
end Go.Proofs.YtnjjjfffppllfaaX
