/- The least of two. -/
import Derived.Test.YtnjjjfffppllfaaZ
import Derived.Laws.Small
namespace Go.Proofs.YtnjjjfffppllfaaX
open Go.RowKit Go.Proofs.YtnjjjfffppllfaaK
set_option linter.unusedVariables false
set_option linter.unusedSimpArgs false
theorem q_min {P : Program} {S : World → Prop} {n : Nat} {sl : Slots} {dst : Option Tmp} {ty : TypeId} {pos : String} {af : Array Edge} {g : Option (Nat × Bool)} {x y : Operand} {ats : Array TypeId} {k : IntKind} {p q : Int} (hx : ev sl x = some (.int k p)) (hy : ev sl y = some (.int k q)) :
    Qt P S n sl ⟨dst, .call { callee := .builtin .min, args := #[x, y], argTypes := ats }, ty, pos, af, g⟩ (.int k (if q < p then q else p)) := fun a ha w _ => by
  simp [execOp, resolve, invoke, builtin, ha.ev hx, ha.ev hy, run_min_int2]
end Go.Proofs.YtnjjjfffppllfaaX
