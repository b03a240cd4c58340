/- More quiet operations: masks, unsigned conversions, booleans against each other. -/
import Derived.Test.YtnjjjfffppllfaaT
import Derived.Test.YtnjjjfffppllfaaHw
import Derived.Laws.Bits128
import Derived.Laws.Entries
import Derived.Laws.StructEq
namespace Go.Proofs.YtnjjjfffppllfaaX
open Go.RowKit Go.Proofs.YtnjjjfffppllfaaK
set_option linter.unusedVariables false
set_option linter.unusedSimpArgs false

theorem i64_mask (i : Nat) (hi : i ≤ 62) (m : Int) (hm : m = ((2 ^ i - 1 : Nat) : Int)) (n : Int) : bits .and .i64 n m = n % ((2 ^ i : Nat) : Int) := by
  subst hm
  have hp : 0 < 2 ^ i := Nat.two_pow_pos i
  have hle : 2 ^ i ≤ 2 ^ 62 := Nat.pow_le_pow_right (by decide) hi
  have h127 : (BitVec.ofInt 64 ((2 ^ i - 1 : Nat) : Int)).toNat = 2 ^ i - 1 := by
    rw [BitVec.toNat_ofInt]
    have : (((2 ^ i - 1 : Nat) : Int) % ((2 ^ 64 : Nat) : Int)).toNat = 2 ^ i - 1 := by
      rw [Int.emod_eq_of_lt (by omega) (by omega)]; omega
    exact this
  have key : (BitVec.ofInt 64 n &&& BitVec.ofInt 64 ((2 ^ i - 1 : Nat) : Int)).toNat = (n % ((2 ^ 64 : Nat) : Int)).toNat % 2 ^ i := by
    rw [BitVec.toNat_and, BitVec.toNat_ofInt, h127, Nat.and_two_pow_sub_one_eq_mod]
  show IntKind.i64.wrap ((BitVec.ofInt 64 n &&& BitVec.ofInt 64 ((2 ^ i - 1 : Nat) : Int)).toNat : Nat) = n % ((2 ^ i : Nat) : Int)
  rw [key, IntKind.wrap_i64]
  have hlt : (n % ((2 ^ 64 : Nat) : Int)).toNat % 2 ^ i < 2 ^ i := Nat.mod_lt _ hp
  have hmod : (((n % ((2 ^ 64 : Nat) : Int)).toNat % 2 ^ i : Nat) : Int) = n % ((2 ^ i : Nat) : Int) := by
    rw [Int.natCast_emod, Int.toNat_of_nonneg (Int.emod_nonneg _ (by decide))]
    exact Int.emod_emod_of_dvd n (Int.natCast_dvd_natCast.2 (Nat.pow_dvd_pow 2 (by omega)))
  rw [hmod]
  have h0 : 0 ≤ n % ((2 ^ i : Nat) : Int) := Int.emod_nonneg _ (by omega)
  have h1 : n % ((2 ^ i : Nat) : Int) < ((2 ^ i : Nat) : Int) := Int.emod_lt_of_pos _ (by omega)
  omega
section
variable {P : Program} {S : World → Prop} {n : Nat} {sl : Slots} {dst : Option Tmp} {ty : TypeId} {pos : String} {af : Array Edge} {g : Option (Nat × Bool)}
theorem q_and {t yt : TypeId} {x y : Operand} {p m : Int} (i : Nat) (hi : i ≤ 62) (hx : ev sl x = some (.int .i64 p)) (hy : ev sl y = some (.int .i64 m)) (hm : m = ((2 ^ i - 1 : Nat) : Int)) : Qt P S n sl ⟨dst, .binOp .and t x y yt, ty, pos, af, g⟩ (.int .i64 (p % ((2 ^ i : Nat) : Int))) := fun a ha w _ => by
  have h1 := i64_mask i hi m hm p
  have e : (execOp a.eval ⟨dst, .binOp .and t x y yt, ty, pos, af, g⟩).run P w = .ok (.value (.int .i64 (bits .and .i64 p m))) w := by
    simp [execOp, ha.ev hx, ha.ev hy, eqGuard, binOp, Op.intBits, bits]
  rw [h1] at e
  exact e
theorem q_conv {src dt : TypeId} {x : Operand} {k k' : IntKind} {p : Int} (hs : (P.underlying src).isSome = true) (hd : P.underlying dt = some (.int k')) (hx : ev sl x = some (.int k p)) : Qt P S n sl ⟨dst, .convert src dt x, ty, pos, af, g⟩ (.int k' (k'.wrap p)) := fun a ha w _ => by
  have hk : P.intKind dt = k' := by simp [Program.intKind, hd]
  have h1 := run_convert_int (P := P) w src dt k p hs (by rw [hk]; exact hd)
  rw [hk] at h1
  simp [execOp, ha.ev hx, h1]
theorem q_eqb {t yt : TypeId} {x y : Operand} {p q : Bool} (ht : P.underlying t = some .bool) (hx : ev sl x = some (.bool p)) (hy : ev sl y = some (.bool q)) : Qt P S n sl ⟨dst, .binOp .eql t x y yt, ty, pos, af, g⟩ (.bool (p == q)) := fun a ha w _ => by
  have h1 := run_equalIn_bool' (P := P) w 9999 t p q ht
  have h2 : (Op.equalIn Op.maxDepth t (.bool p) (.bool q)).run P w = .ok (p == q) w := h1
  simp [execOp, ha.ev hx, ha.ev hy, eqGuard, binOp, Op.equal, h2]
end
end Go.Proofs.YtnjjjfffppllfaaX
