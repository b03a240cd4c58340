/- Operations whose guard was itself passed over. -/
import Derived.Test.YtnjjjfffppllfaaMk
namespace Go.Proofs.YtnjjjfffppllfaaX
open Go.RowKit Go.Proofs.YtnjjjfffppllfaaK
set_option linter.unusedVariables false
set_option linter.unusedSimpArgs false
section
variable {P : Program} {n : Nat} {sl : Slots} {w : World} {Q : Exit → Act → World → Prop} {ops : Array Oper}
theorem yielded_undef {j g : Nat} {a : Act} (ha : Ag n sl a) (hj : (ops[j]?).bind (·.dst) = some g) (hv : look sl g = some undef) : yielded ops a.tmps j = none := by
  have h1 := ha.slot g _ hv
  cases h : a.tmps[g]? with
  | none => simp [yielded, hj, h]
  | some u =>
    rw [Array.getD_eq_getD_getElem?, h] at h1
    simp at h1
    subst h1
    simp [yielded, hj, h, undef]
theorem rl_nu {l : List Oper} {d : Tmp} {op : Op} {ty : TypeId} {pos : String} {af : Array Edge} {j g : Nat} {b : Bool} (hd : Nat.blt d n = true) (hj : (ops[j]?).bind (·.dst) = some g) (hv : look sl g = some undef)
    (h : F n ((d, undef) :: sl) w (wpList P ops Q l)) : F n sl w (wpList P ops Q (⟨some d, op, ty, pos, af, some (j, b)⟩ :: l)) := fun a ha => by
  unfold wpList
  rw [if_neg (by simp [Region.wanted, yielded_undef ha hj hv])]
  exact h _ (ha.put (o := some d) hd undef)
variable {S : World → Prop} {T : List Nat} {listed : Array Bool} {fuel : Nat}
theorem dr_nu (i : Nat) {d : Tmp} {op : Op} {ty : TypeId} {pos : String} {af : Array Edge} {j g : Nat} {b : Bool} [hQ : PanicOk Q] (hi : ops[i]? = some ⟨some d, op, ty, pos, af, some (j, b)⟩) (hj : (ops[j]?).bind (·.dst) = some g) (hv : look sl g = some undef) (hd : Nat.blt d n = true) (hsel : Region.noSelect ops = true) (hf : Region.free .any ops listed i = true) (hr : (Region.ready .any ops listed).contains i = true) (hiT : T.contains i = false)
    (hw : S w) (h : F n ((d, undef) :: sl) w (wpT P ops Q S T fuel (listed.setIfInBounds i true))) : F n sl w (wpT P ops Q S T (fuel + 1) listed) := fun a ha =>
  wpT_first (C := fun _ => True) hi (Region.noSelect_spec hsel) (fun c a w h => hQ.out c a (some d) undef w h) (by simpa using hiT) fuel listed a w (Region.free_spec hi hf) (by simpa using hr)
    (.inr ⟨by simp [Region.wanted, yielded_undef ha hj hv], rfl⟩) (.inl fun _ => trivial) (fun _ => hw) (h _ (ha.put (o := some d) hd undef))
end
end Go.Proofs.YtnjjjfffppllfaaX
