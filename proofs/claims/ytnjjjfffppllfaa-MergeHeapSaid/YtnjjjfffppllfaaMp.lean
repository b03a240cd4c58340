/- The statement: whatever is laid in and taken out, the law answers true, and its input reads as it did. -/
import Derived.Test.YtnjjjfffppllfaaMw
import Derived.Test.YtnjjjfffppllfaaRows
import Derived.Test.YtnjjjfffppllfaaRs
import Derived.WalkKit
import Derived.ProofKit
import Derived.OpenShut
import Derived.ShutString
import Derived.ChangeOld
import Derived.Below
import Derived.ChangeSame
namespace Go.Proofs.Ytnjjjfffppllfaa.mergeHeap
open Go.ChangeShapes Go.WideShapes Go.ChangeAt Go.RowKit Go.Proofs.YtnjjjfffppllfaaX
set_option linter.unusedVariables false

theorem own : ownKnob Try.prog.godebug = none := by kernel_rfl
theorem laidOut : laidOutB Try.prog = true := by kernel_rfl

theorem act_of {H : Type} {enc : TypeId × Value → H} {w : World} {base m : Nat} {spare : Nat → Bool} {held : Bool} {cs : List Value} {y : DataW H × List MemPlace} (hy : DataW.trod enc Try.prog w base spare held m 31 cs = some y) (hl : cs.length = 2) : ∃ z, M.RAct z cs ∧ 1 ≤ Rows.uptoBulk y.1 := by
  obtain ⟨f0, f1, hu, t0, o0, t1, o1⟩ := fields2_of (P := Try.prog) (t := 31) (a := 4) (b := 0) (c := 3) (d := 1) (by kernel_rfl)
  obtain ⟨y0, y1, n, rfl, _, h0, h1⟩ := trod_struct2 hu hy
  rw [t0, o0, show Try.prog.cellsOf 4 = 1 from by kernel_rfl] at h0
  rw [t1, o1, show Try.prog.cellsOf 3 = 1 from by kernel_rfl] at h1
  obtain ⟨b, e0, _⟩ := DataW.trod_bool Try.underlying4 h0
  obtain ⟨k, e1, _⟩ := DataW.trod_int Try.underlying3 h1
  match cs, hl with
  | [c0, c1], _ =>
    simp at e0 e1
    exact ⟨(b, k), by simp [M.RAct, e0, e1], one_le_bulk _⟩

set_option maxRecDepth 100000 in
theorem lifted (os : Os) (started : os.Started) (H : Type) (enc : TypeId × Value → H) :
    ReturnsInHanded {} Try.checked os 3 .any (Rows.mergeHeapSpec.pre6 enc Try.prog Try.f3 Rows.mergeHeapRow.domain false) (Rows.mergeHeapSpec.post enc Try.prog Try.f3 false true false false) := by
  refine returnsInHanded_of_change (C := Try.checked) own started (by kernel_rfl) Try.func3
    (ChangeSpec.witness6 (enc := enc) (C := Try.checked) false ⟨#[], #[.slice none 0 0], []⟩ 8 (by kernel_rfl) (by kernel_rfl) (by kernel_rfl) (by kernel_rfl)) ?_
  intro W base args ds gs before hval0 hW hcnd _
  have hval : ∀ (j : Nat) t v, Try.f3.params[j]? = some t → args[j]? = some v → Value.okWide Try.prog W .any base t v := hval0
  have hW' := hW
  obtain ⟨p, q, hA0, hV, rfl, hfz, hnd⟩ := hW
  have hA : DataW.TrodAll enc Try.prog W 0 (fun _ => true) true Try.f3.params.toList args.toList ds p := hA0
  rw [Try.params3] at hA hval
  obtain ⟨v0, vs0, d0, ds0, p0, q0, hargs, rfl, rfl, h0, r0⟩ := trodAll_cons hA
  obtain ⟨rfl, rfl, rfl⟩ := trodAll_nil r0
  obtain ⟨rfl, rfl⟩ := trodVars_none hV
  obtain rfl : args = #[v0] := by cases args; simp_all
  obtain ⟨a0, len0, cap0, rfl⟩ := okWide_slice Try.underlying22 (hval 0 22 v0 rfl rfl)
  have k0 := h0
  have lt0 : ∀ x ∈ p0, x.block < W.heap.size := by obtain ⟨m, hm⟩ := k0; exact DataW.trod_lt m _ _ _ hm
  obtain ⟨fuel, hf⟩ := h0
  have hf' : DataW.trod enc Try.prog W 0 (fun _ => true) true fuel 22 [.slice a0 len0 cap0] = some (d0, p0) := by simpa [Value.cells] using hf
  obtain ⟨acts, hacts, _⟩ := rdS_of_trod (R := M.RAct) (B := fun _ => 1) (k := 2) Try.underlying22 (by kernel_rfl) (by decide) (fun _ _ _ => act_of) hf'
  refine (M.law_c hacts).mono fun e W' ⟨r, he, hr, bel⟩ => ?_
  subst he hr
  exact ⟨_, rfl, _, _, _, [], _, [], hW', trodAll_mk1 (shut_bool Try.underlying4 _), (trodAll_cons_mk (Below.trod laidOut (by kernel_rfl) (of_decide_eq_true (by kernel_rfl)) k0 bel lt0) trodAll_mk0), rfl, bel.frame _, fun h => by cases h⟩

theorem over : Rows.mergeHeapRow.holds Try.pinned (OpenSpec.ofChange Rows.mergeHeapSpec) :=
  OpenClaim.holds_of_wide 3 Try.f3 rfl rfl rfl rfl rfl rfl rfl ⟨rfl, rfl, rfl, rfl, rfl⟩ rfl rfl rfl rfl rfl (by kernel_rfl) Try.func3 (by kernel_rfl)
    (of_decide_eq_true (by kernel_rfl)) (by unfold Func.isWrapper; first | (rw [if_pos (by decide +kernel)]; kernel_rfl) | (rw [if_neg (by decide +kernel)]; exact ⟨rfl, rfl⟩))
    (fun os started H enc _ => lifted os started H enc)

theorem proved : Rows.MergeHeapSaid := over
end Go.Proofs.Ytnjjjfffppllfaa.mergeHeap
