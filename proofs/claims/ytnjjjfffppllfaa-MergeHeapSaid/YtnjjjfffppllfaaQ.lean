/- More quiet operations: pointers against nil, structs against each other. -/
import Derived.Test.YtnjjjfffppllfaaHw
import Derived.Test.YtnjjjfffppllfaaT
import Derived.Laws.StructEq
import Derived.Laws.Pointers
namespace Go.Proofs.YtnjjjfffppllfaaX
open Go.RowKit Go.Proofs.YtnjjjfffppllfaaK
set_option linter.unusedVariables false
set_option linter.unusedSimpArgs false
section
variable {P : Program} {S : World → Prop} {n : Nat} {sl : Slots} {dst : Option Tmp} {ty : TypeId} {pos : String} {af : Array Edge} {g : Option (Nat × Bool)}
theorem q_eqp {t yt : TypeId} {x y : Operand} {p : Option Addr} (ht : P.underlying t = some (.pointer (P.pointee t))) (hx : ev sl x = some (.pointer p)) (hy : ev sl y = some (.pointer none)) : Qt P S n sl ⟨dst, .binOp .eql t x y yt, ty, pos, af, g⟩ (.bool p.isNone) := fun a ha w _ => by
  simp [execOp, ha.ev hx, ha.ev hy, eqGuard, run_eql_pointer_nil, ht]
theorem q_nep {t yt : TypeId} {x y : Operand} {p : Option Addr} (ht : P.underlying t = some (.pointer (P.pointee t))) (hx : ev sl x = some (.pointer p)) (hy : ev sl y = some (.pointer none)) : Qt P S n sl ⟨dst, .binOp .neq t x y yt, ty, pos, af, g⟩ (.bool (!p.isNone)) := fun a ha w _ => by
  simp [execOp, ha.ev hx, ha.ev hy, eqGuard, run_neq_pointer_nil, ht]
end
section
variable {S : World → Prop} {n : Nat} {sl : Slots} {dst : Option Tmp} {ty : TypeId} {pos : String} {af : Array Edge} {g : Option (Nat × Bool)}
theorem eq27 (w : World) (a b c d : Int) : (Op.equalIn 10000 27 (.agg #[.int .i64 a, .int .i64 b]) (.agg #[.int .i64 c, .int .i64 d])).run Try.prog w = .ok (a == c && b == d) w := by
  rw [run_equalIn_agg w 9999 27 _ _ (by kernel_rfl) (by kernel_rfl)]
  have hf : (Try.prog.fieldsOf 27).toList.map (fun f => (f.name, f.type, f.offset)) = [("N", 3, 0), ("Name", 3, 1)] := by kernel_rfl
  generalize (Try.prog.fieldsOf 27).toList = fs at hf ⊢
  obtain ⟨f, g, rfl⟩ : ∃ f g, fs = [f, g] := by
    have := congrArg List.length hf
    simp only [List.length_map, List.length_cons, List.length_nil] at this
    match fs, this with
    | [f, g], _ => exact ⟨f, g, rfl⟩
  simp only [List.map_cons, List.map_nil, List.cons.injEq, Prod.mk.injEq, and_true] at hf
  obtain ⟨⟨f1, f2, f3⟩, g1, g2, g3⟩ := hf
  have hu : Try.prog.underlying 3 = some (.int .i64) := by kernel_rfl
  have h3 := tk_agg (P := Try.prog) (t := 3) (b := false) (s := 1) (w := w) (by exact Tk.out)
  have e1 (x y : Int) : (Op.equalIn 9999 3 (.int .i64 x) (.int .i64 y)).run Try.prog w = .ok (x == y) w := run_equalIn_int w 9998 3 .i64 .i64 x y hu
  simp only [Op.eqFields, f1, f2, f3, g1, g2, g3, part]
  simp [h3, e1]
  by_cases h : a = c <;> simp [h, h3, e1]
  by_cases h' : b = d <;> simp [h']
theorem q_neT {yt : TypeId} {x y : Operand} {a b c d : Int} (hx : ev sl x = some (.agg #[.int .i64 a, .int .i64 b])) (hy : ev sl y = some (.agg #[.int .i64 c, .int .i64 d])) : Qt Try.prog S n sl ⟨dst, .binOp .neq 27 x y yt, ty, pos, af, g⟩ (.bool (!(a == c && b == d))) := fun e ha w _ => by
  have h1 := run_eqGuard_agg (P := Try.prog) w .neq 27 x y #[.int .i64 a, .int .i64 b] #[.int .i64 c, .int .i64 d] (by kernel_rfl)
  simp [execOp, ha.ev hx, ha.ev hy, h1, run_neq_struct, eq27]
end
end Go.Proofs.YtnjjjfffppllfaaX
