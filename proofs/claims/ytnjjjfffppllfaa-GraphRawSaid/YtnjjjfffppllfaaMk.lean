/- Rows that are made, and effects in whatever order. -/
import Derived.Test.YtnjjjfffppllfaaHw
namespace Go.Proofs.YtnjjjfffppllfaaX
open Go.RowKit Go.Proofs.YtnjjjfffppllfaaK
set_option linter.unusedVariables false
set_option linter.unusedSimpArgs false

theorem made_one (z : Value) (m : Nat) (hz : z.cells = #[z]) : madeCells z.cells (m * 1) = Array.replicate m z := by
  rw [hz]
  apply Array.ext
  · simp [madeCells]
  · intro i h1 h2
    simp [madeCells]
    simp [Nat.mod_one]
theorem e_mk1 {P : Program} {Q : Exit → Act → World → Prop} {n : Nat} {sl : Slots} {dst : Option Tmp} {ty : TypeId} {pos : String} {af : Array Edge} {g : Option (Nat × Bool)} {w : World} {K : Value → World → Prop} {t e : TypeId} {x : Operand} {z : Value} {bytes m : Nat} {i : Int} {k : IntKind} (ht : P.underlying t = some (.slice e)) (hz : zi P e = some (some z, 1, bytes)) (hz1 : z.cells = #[z]) (hx : ev sl x = some (.int k i)) (hi : i = (m : Int)) (hc : m ≤ 16777216) (hb : bytes * m ≤ 281474976710656)
    (h : ∀ b w', New w w' b (.cells (Array.replicate m z) e (0, 0)) → K (.slice (some ⟨b, 0, none⟩) m m) w') : Ef P Q n sl ⟨dst, .makeSlice t x x, ty, pos, af, g⟩ w K :=
  e_make (n0 := 0) ht hz hx hi (by omega) hb (by omega) (Nat.zero_le _) fun b w' ho hk hf => h b w' ⟨hk, by
    rcases ho.2 with ⟨h1, _⟩ | ⟨g, cap, cur, h1, hg, h3, h4, h5, h6, h7⟩
    · cases h1
    · cases h1
      rw [made_one z m hz1] at h7
      have : cur = Array.replicate m z := by
        apply Array.ext'
        rw [List.take_of_length_le (by simp; omega)] at h7
        exact h7
      rw [this] at h3
      exact h3, hf⟩

section
variable {P : Program} {ops : Array Oper} {Q : Exit → Act → World → Prop} {S : World → Prop} {T : List Nat} {n : Nat} {sl : Slots} {w : World} {listed : Array Bool} {fuel : Nat}
/-- The operation i comes up next, and all is well behind it. -/
def St1 (P : Program) (ops : Array Oper) (Q : Exit → Act → World → Prop) (S : World → Prop) (T : List Nat) (n : Nat) (sl : Slots) (w : World) (listed : Array Bool) (fuel : Nat) (i : Nat) : Prop :=
  ∀ a, Ag n sl a → wpOp P ops Q i (fun a' w' => (Tun T (listed.setIfInBounds i true) → S w') ∧ wpT P ops Q S T fuel (listed.setIfInBounds i true) a' w') a w
/-- Whichever of those that may come up. -/
theorem dr_all (l : List Nat) (hr : Region.ready .any ops listed = l) (hne : l ≠ []) (h : ∀ i ∈ l, St1 P ops Q S T n sl w listed fuel i) : F n sl w (wpT P ops Q S T (fuel + 1) listed) := fun a ha =>
  ⟨fun e => absurd (hr.symm.trans e) hne, fun i hi => h i (hr ▸ hi) a ha⟩
theorem st1_e {i : Nat} {d : Tmp} {op : Op} {ty : TypeId} {pos : String} {af : Array Edge} (hi : ops[i]? = some ⟨some d, op, ty, pos, af, none⟩) (hd : Nat.blt d n = true)
    (he : Ef P Q n sl ⟨some d, op, ty, pos, af, none⟩ w fun v w' => (unlisted T (listed.setIfInBounds i true) = true → S w') ∧ F n ((d, v) :: sl) w' (wpT P ops Q S T fuel (listed.setIfInBounds i true))) : St1 P ops Q S T n sl w listed fuel i := fun a ha => by
  unfold wpOp
  simp only [hi]
  rw [if_pos (wanted_none rfl _)]
  refine .inl (Oper.wp_mono ?_ (he a ha))
  rintro a' w' ⟨v, rfl, h1, h2⟩
  exact ⟨fun ht => h1 (List.all_eq_true.2 fun t h => by simpa using ht t h), h2 _ (ha.put (o := some d) hd v)⟩
end
end Go.Proofs.YtnjjjfffppllfaaX
