/- The operations that yield one value in every world of a class. -/
import Derived.Test.YtnjjjfffppllfaaX
import Derived.Test.YtnjjjfffppllfaaKa
namespace Go.Proofs.YtnjjjfffppllfaaX
open Go.RowKit Go.Proofs.YtnjjjfffppllfaaK
set_option linter.unusedVariables false
set_option linter.unusedSimpArgs false

/-! ### Facts on types -/
def tk (P : Program) (t : TypeId) : Option (Bool × Nat) :=
  match P.underlying t, P.info? t with
  | some d, some i => some ((match d with | .struct _ | .array _ _ => true | _ => false), i.size)
  | _, _ => none
theorem tk_agg {P : Program} {t : TypeId} {b : Bool} {s : Nat} (h : tk P t = some (b, s)) (w : World) : (isAgg t).run P w = .ok b w := by
  unfold tk at h
  split at h
  · rename_i d i hd hi
    cases h
    simp only [isAgg, Sem.run_bind, run_underlying hd, Result.andThen_ok]
    cases d <;> rfl
  · cases h
theorem tk_size {P : Program} {t : TypeId} {b : Bool} {s : Nat} (h : tk P t = some (b, s)) (w : World) : (sizeOf t).run P w = .ok s w := by
  unfold tk at h
  split at h
  · rename_i d i hd hi
    cases h
    simp [sizeOf, typeInfo, hi]
  · cases h
/-- Field f of struct type s: where it begins (a field of no cells is left out). -/
def fo (P : Program) (s : TypeId) (f : Nat) : Option Nat :=
  match P.underlying s with
  | some (.struct fs) => match fs[f]? with
    | some x => match P.info? x.type with
      | some i => if i.size = 0 then none else some x.offset
      | none => none
    | none => none
  | _ => none
/-- A slice type's element type, its cells and bytes. -/
def es (P : Program) (t : TypeId) : Option (TypeId × Nat × Nat) :=
  match P.underlying t with
  | some (.slice e) => match P.info? e with
    | some i => some (e, i.size, i.bytes)
    | none => none
  | _ => none
theorem add_plain (b o k : Nat) : (⟨b, o, none⟩ : Addr).add k = ⟨b, o + k, none⟩ := by
  unfold Addr.add; split
  · subst_vars; simp
  · rfl

/-! ### Cells -/
/-- In every world of the class the cell holds v. -/
def C1 (S : World → Prop) (b o : Nat) (v : Value) : Prop := ∀ w, S w → w.cell? ⟨b, o, none⟩ = some v
/-- In every world of the class the cells from o on hold vs. -/
def CN (S : World → Prop) (b o : Nat) (vs : List Value) : Prop := ∀ w, S w → ∀ j u, vs[j]? = some u → w.cell? ⟨b, o + j, none⟩ = some u
def At (c : Array Value) : Nat → List Value → Prop
  | _, [] => True
  | o, v :: r => c[o]? = some v ∧ At c (o + 1) r
theorem At.get {c : Array Value} : ∀ {vs : List Value} {o : Nat}, At c o vs → ∀ j u, vs[j]? = some u → c[o + j]? = some u
  | [], _, _, j, u, h => by simp at h
  | v :: r, o, h, 0, u, hu => by simp at hu; subst hu; exact h.1
  | v :: r, o, h, j + 1, u, hu => by
    have := At.get h.2 j u (by simpa using hu)
    rw [show o + (j + 1) = o + 1 + j by omega]; exact this
theorem cell_of {w : World} {b o : Nat} {c : Array Value} {t : TypeId} {fr : Nat × Nat} {v : Value} (hb : w.heap[b]? = some (.cells c t fr)) (hc : c[o]? = some v) : w.cell? ⟨b, o, none⟩ = some v := by
  simp [World.cell?, hb, hc]
theorem nthA {c : Array Value} {o : Nat} {v : Value} (h : nth c.toList o = some v) : c[o]? = some v := by rw [nth_get] at h; simpa using h
theorem cell_at {w : World} {b o : Nat} {c : Array Value} {t : TypeId} {fr : Nat × Nat} {v : Value} (hb : w.heap[b]? = some (.cells c t fr)) (hc : nth c.toList o = some v) : w.cell? ⟨b, o, none⟩ = some v := cell_of hb (nthA hc)
theorem c1 {w : World} {b o : Nat} {c : Array Value} {t : TypeId} {fr : Nat × Nat} {v : Value} (hb : w.heap[b]? = some (.cells c t fr)) (hc : nth c.toList o = some v) : C1 (Eq w) b o v := fun _ e => e ▸ cell_at hb hc
theorem cN {w : World} {b o : Nat} {c : Array Value} {t : TypeId} {fr : Nat × Nat} {vs : List Value} (hb : w.heap[b]? = some (.cells c t fr)) (hc : At c o vs) : CN (Eq w) b o vs := fun _ e j u hu => e ▸ cell_of hb (hc.get j u hu)
theorem c1_cell {w : World} {b o : Nat} {v : Value} (h : w.cell? ⟨b, o, none⟩ = some v) : C1 (Eq w) b o v := fun _ e => e ▸ h
/-- A block is as it was in every world of the class. -/
def Stays (S : World → Prop) (w : World) (b : Nat) : Prop := ∀ w', S w' → w'.heap[b]? = w.heap[b]?
theorem stays_eq (w : World) (b : Nat) : Stays (Eq w) w b := fun _ e => by rw [e]
theorem Stays.c1 {S : World → Prop} {w : World} {b o : Nat} {v : Value} (hs : Stays S w b) (h : w.cell? ⟨b, o, none⟩ = some v) : C1 S b o v := fun w' h' => (World.cell?_of_block (a := ⟨b, o, none⟩) (hs w' h')).trans h
theorem Stays.cN {S : World → Prop} {w : World} {b o : Nat} {vs : List Value} (hs : Stays S w b) (h : ∀ j u, vs[j]? = some u → w.cell? ⟨b, o + j, none⟩ = some u) : CN S b o vs :=
  fun w' h' j u hu => (World.cell?_of_block (a := ⟨b, o + j, none⟩) (hs w' h')).trans (h j u hu)
theorem stays_kept {m : Nat} {Ts : List TypeId} {w : World} {b : Nat} {o : Obj} (hb : w.heap[b]? = some o) (h : b < m ∨ ∀ t ∈ Ts, oty o ≠ some t) : Stays (Kept m Ts w) w b := fun w' hk => by rw [hk.keep b o hb h, hb]

section q
variable {P : Program} {S : World → Prop} {n : Nat} {sl : Slots} {dst : Option Tmp} {ty : TypeId} {pos : String} {af : Array Edge} {g : Option (Nat × Bool)}

theorem q_move {x : Operand} {v : Value} (hx : ev sl x = some v) : Qt P S n sl ⟨dst, .move x, ty, pos, af, g⟩ v := fun a ha w _ => by
  simp [execOp, ha.ev hx]
theorem q_assign {x : Operand} {v : Value} (hx : ev sl x = some v) : Qt P S n sl ⟨dst, .assign x, ty, pos, af, g⟩ v := fun a ha w _ => by
  simp [execOp, ha.ev hx]
theorem q_pick {c x y : Operand} {b : Bool} {v : Value} (hc : ev sl c = some (.bool b)) (hx : b = true → ev sl x = some v) (hy : b = false → ev sl y = some v) : Qt P S n sl ⟨dst, .pick c x y, ty, pos, af, g⟩ v := fun a ha w _ => by
  cases b
  · simp [execOp, ha.ev hc, asBool, ha.ev (hy rfl)]
  · simp [execOp, ha.ev hc, asBool, ha.ev (hx rfl)]
theorem q_nil {x : Operand} {p : Addr} (hx : ev sl x = some (.pointer (some p))) : Qt P S n sl ⟨dst, .nilCheck x, ty, pos, af, g⟩ (.pointer (some p)) := fun a ha w _ => by
  simp [execOp, ha.ev hx]
theorem q_nilf {x : Operand} {f : Nat} {fs cs : Array Value} (hx : ev sl x = some (.func (.func f) fs cs)) : Qt P S n sl ⟨dst, .nilCheck x, ty, pos, af, g⟩ (.func (.func f) fs cs) := fun a ha w _ => by
  simp [execOp, ha.ev hx]
theorem q_fieldAddr {s : TypeId} {x : Operand} {f b o k : Nat} (hf : fo P s f = some k) (hx : ev sl x = some (.pointer (some ⟨b, o, none⟩))) : Qt P S n sl ⟨dst, .fieldAddr s x f, ty, pos, af, g⟩ (.pointer (some ⟨b, o + k, none⟩)) := fun a ha w _ => by
  unfold fo at hf
  split at hf
  · rename_i fs hu
    split at hf
    · rename_i y hy
      split at hf
      · rename_i i hi
        split at hf
        · cases hf
        · rename_i h0
          cases hf
          simp [execOp, ha.ev hx, Instr.fieldAt, run_underlying hu, hy, Instr.sureAddr, fieldPlace, sizeOf, typeInfo, hi, h0, add_plain]
      · cases hf
    · cases hf
  · cases hf
theorem q_indexAddr {t e : TypeId} {x ix : Operand} {k : IntKind} {i : Int} {j b o len cap s by_ : Nat} (he : es P t = some (e, s, by_)) (hx : ev sl x = some (.slice (some ⟨b, o, none⟩) len cap)) (hi : ev sl ix = some (.int k i)) (hj : i = (j : Int)) (hlt : j < len) :
    Qt P S n sl ⟨dst, .indexAddr t x ix, ty, pos, af, g⟩ (.pointer (some ⟨b, o + j * s, none⟩)) := fun a ha w _ => by
  subst hj
  unfold es at he
  split at he
  · rename_i e' hu
    split at he
    · rename_i y hy
      cases he
      simp [execOp, ha.ev hx, ha.ev hi, Instr.indexAt, run_underlying hu, asIntOf, sizeOf, typeInfo, hy, add_plain, hlt]
    · cases he
  · cases he
theorem q_load {T : TypeId} {x : Operand} {b o s : Nat} {v : Value} (hT : tk P T = some (false, s)) (hx : ev sl x = some (.pointer (some ⟨b, o, none⟩))) (hc : C1 S b o v) : Qt P S n sl ⟨dst, .load T x, ty, pos, af, g⟩ v := fun a ha w hw => by
  simp [execOp, ha.ev hx, Instr.loadAt, Instr.sureAddr, loadVar, tk_agg hT, hc w hw]
theorem q_loads {T : TypeId} {x : Operand} {b o : Nat} {vs : List Value} (hT : tk P T = some (true, vs.length)) (hx : ev sl x = some (.pointer (some ⟨b, o, none⟩))) (hc : CN S b o vs) : Qt P S n sl ⟨dst, .load T x, ty, pos, af, g⟩ (.agg vs.toArray) := fun a ha w hw => by
  have h1 := run_loadCells_list (P := P) (w := w) ⟨b, o, none⟩ vs (fun j v hv => by rw [add_plain]; exact hc w hw j v hv)
  simp [execOp, ha.ev hx, Instr.loadAt, Instr.sureAddr, loadVar, tk_agg hT, tk_size hT, h1]
theorem q_field {s : TypeId} {x : Operand} {f k : Nat} {cs : Array Value} {v : Value} (hf : fo P s f = some k) (hk : (match P.underlying s with | some (.struct fs) => (fs[f]?).bind fun y => tk P y.type | _ => none) = some (false, 1)) (hx : ev sl x = some (.agg cs)) (hv : cs[k]? = some v) :
    Qt P S n sl ⟨dst, .field s x f, ty, pos, af, g⟩ v := fun a ha w _ => by
  unfold fo at hf
  split at hf
  · rename_i fs hu
    rw [hu] at hk
    split at hf
    · rename_i y hy
      simp only [hy, Option.bind_some] at hk
      split at hf
      · rename_i i hi
        split at hf
        · cases hf
        · rename_i h0
          cases hf
          simp [execOp, ha.ev hx, Instr.field, run_underlying hu, hy, asAgg, part, tk_agg hk, hv]
      · cases hf
    · cases hf
  · cases hf
theorem q_extract {x : Operand} {i : Nat} {vs : Array Value} {v : Value} (hx : ev sl x = some (.tuple vs)) (hv : vs[i]? = some v) : Qt P S n sl ⟨dst, .extract x i, ty, pos, af, g⟩ v := fun a ha w _ => by
  simp [execOp, ha.ev hx, Instr.extract, hv]
theorem q_len {x : Operand} {ats : Array TypeId} {a0 : Option Addr} {len cap : Nat} {t : TypeId} (ht : ats = #[t]) (hs : (match P.underlying t with | some (.slice _) => true | _ => false) = true) (hx : ev sl x = some (.slice a0 len cap)) :
    Qt P S n sl ⟨dst, .call { callee := .builtin .len, args := #[x], argTypes := ats }, ty, pos, af, g⟩ (.int .i64 len) := fun a ha w _ => by
  subst ht
  split at hs
  · rename_i e hu
    simp [execOp, resolve, invoke, builtin, ha.ev hx, Builtin.len_, run_underlying hu, goInt]
  · cases hs

/-! ints -/
theorem q_add {t yt : TypeId} {x y : Operand} {k : IntKind} {p q : Int} (hx : ev sl x = some (.int k p)) (hy : ev sl y = some (.int k q)) : Qt P S n sl ⟨dst, .binOp .add t x y yt, ty, pos, af, g⟩ (.int k (k.wrap (p + q))) := fun a ha w _ => by
  simp [execOp, ha.ev hx, ha.ev hy, eqGuard, binOp, Op.intArith]
theorem q_sub {t yt : TypeId} {x y : Operand} {k : IntKind} {p q : Int} (hx : ev sl x = some (.int k p)) (hy : ev sl y = some (.int k q)) : Qt P S n sl ⟨dst, .binOp .sub t x y yt, ty, pos, af, g⟩ (.int k (k.wrap (p - q))) := fun a ha w _ => by
  simp [execOp, ha.ev hx, ha.ev hy, eqGuard, binOp, Op.intArith]
theorem q_mul {t yt : TypeId} {x y : Operand} {k : IntKind} {p q : Int} (hx : ev sl x = some (.int k p)) (hy : ev sl y = some (.int k q)) : Qt P S n sl ⟨dst, .binOp .mul t x y yt, ty, pos, af, g⟩ (.int k (k.wrap (p * q))) := fun a ha w _ => by
  simp [execOp, ha.ev hx, ha.ev hy, eqGuard, binOp, Op.intArith]
theorem q_addi {t yt : TypeId} {x y : Operand} {p q : Int} (r : Int) (hx : ev sl x = some (.int .i64 p)) (hy : ev sl y = some (.int .i64 q)) (hr : p + q = r) (h1 : -9223372036854775808 ≤ r) (h2 : r ≤ 9223372036854775807) : Qt P S n sl ⟨dst, .binOp .add t x y yt, ty, pos, af, g⟩ (.int .i64 r) := by
  have := q_add (P := P) (S := S) (n := n) (dst := dst) (t := t) (yt := yt) (ty := ty) (pos := pos) (af := af) (g := g) hx hy
  rwa [hr, IntWalk.i64_in r ⟨h1, h2⟩] at this
theorem q_subi {t yt : TypeId} {x y : Operand} {p q : Int} (r : Int) (hx : ev sl x = some (.int .i64 p)) (hy : ev sl y = some (.int .i64 q)) (hr : p - q = r) (h1 : -9223372036854775808 ≤ r) (h2 : r ≤ 9223372036854775807) : Qt P S n sl ⟨dst, .binOp .sub t x y yt, ty, pos, af, g⟩ (.int .i64 r) := by
  have := q_sub (P := P) (S := S) (n := n) (dst := dst) (t := t) (yt := yt) (ty := ty) (pos := pos) (af := af) (g := g) hx hy
  rwa [hr, IntWalk.i64_in r ⟨h1, h2⟩] at this
theorem q_muli {t yt : TypeId} {x y : Operand} {p q : Int} (r : Int) (hx : ev sl x = some (.int .i64 p)) (hy : ev sl y = some (.int .i64 q)) (hr : p * q = r) (h1 : -9223372036854775808 ≤ r) (h2 : r ≤ 9223372036854775807) : Qt P S n sl ⟨dst, .binOp .mul t x y yt, ty, pos, af, g⟩ (.int .i64 r) := by
  have := q_mul (P := P) (S := S) (n := n) (dst := dst) (t := t) (yt := yt) (ty := ty) (pos := pos) (af := af) (g := g) hx hy
  rwa [hr, IntWalk.i64_in r ⟨h1, h2⟩] at this
theorem q_quoi {t yt : TypeId} {x y : Operand} {p q : Int} (r : Int) (hx : ev sl x = some (.int .i64 p)) (hy : ev sl y = some (.int .i64 q)) (h0 : q ≠ 0) (hr : p.tdiv q = r) (h1 : -9223372036854775808 ≤ r) (h2 : r ≤ 9223372036854775807) : Qt P S n sl ⟨dst, .binOp .quo t x y yt, ty, pos, af, g⟩ (.int .i64 r) := fun a ha w _ => by
  simp [execOp, ha.ev hx, ha.ev hy, eqGuard, binOp, Op.intDiv, h0, hr, IntWalk.i64_in r ⟨h1, h2⟩]
theorem q_remi {t yt : TypeId} {x y : Operand} {k : IntKind} {p q : Int} (r : Int) (hx : ev sl x = some (.int k p)) (hy : ev sl y = some (.int k q)) (h0 : q ≠ 0) (hr : p.tmod q = r) : Qt P S n sl ⟨dst, .binOp .rem t x y yt, ty, pos, af, g⟩ (.int k r) := fun a ha w _ => by
  simp [execOp, ha.ev hx, ha.ev hy, eqGuard, binOp, Op.intDiv, h0, hr]
theorem q_eq {t yt : TypeId} {x y : Operand} {k : IntKind} {p q : Int} (hx : ev sl x = some (.int k p)) (hy : ev sl y = some (.int k q)) : Qt P S n sl ⟨dst, .binOp .eql t x y yt, ty, pos, af, g⟩ (.bool (decide (p = q))) := fun a ha w _ => by
  simp [execOp, ha.ev hx, ha.ev hy, eqGuard, binOp, Op.intCmp]
  rw [Bool.eq_iff_iff]; simp
theorem q_ne {t yt : TypeId} {x y : Operand} {k : IntKind} {p q : Int} (hx : ev sl x = some (.int k p)) (hy : ev sl y = some (.int k q)) : Qt P S n sl ⟨dst, .binOp .neq t x y yt, ty, pos, af, g⟩ (.bool (decide (p ≠ q))) := fun a ha w _ => by
  simp [execOp, ha.ev hx, ha.ev hy, eqGuard, binOp, Op.intCmp]
  rw [Bool.eq_iff_iff]; simp
theorem q_lt {t yt : TypeId} {x y : Operand} {k : IntKind} {p q : Int} (hx : ev sl x = some (.int k p)) (hy : ev sl y = some (.int k q)) : Qt P S n sl ⟨dst, .binOp .lss t x y yt, ty, pos, af, g⟩ (.bool (decide (p < q))) := fun a ha w _ => by
  simp [execOp, ha.ev hx, ha.ev hy, eqGuard, binOp, Op.intCmp]
theorem q_le {t yt : TypeId} {x y : Operand} {k : IntKind} {p q : Int} (hx : ev sl x = some (.int k p)) (hy : ev sl y = some (.int k q)) : Qt P S n sl ⟨dst, .binOp .leq t x y yt, ty, pos, af, g⟩ (.bool (decide (p ≤ q))) := fun a ha w _ => by
  simp [execOp, ha.ev hx, ha.ev hy, eqGuard, binOp, Op.intCmp]
theorem q_gt {t yt : TypeId} {x y : Operand} {k : IntKind} {p q : Int} (hx : ev sl x = some (.int k p)) (hy : ev sl y = some (.int k q)) : Qt P S n sl ⟨dst, .binOp .gtr t x y yt, ty, pos, af, g⟩ (.bool (decide (q < p))) := fun a ha w _ => by
  simp [execOp, ha.ev hx, ha.ev hy, eqGuard, binOp, Op.intCmp]
theorem q_ge {t yt : TypeId} {x y : Operand} {k : IntKind} {p q : Int} (hx : ev sl x = some (.int k p)) (hy : ev sl y = some (.int k q)) : Qt P S n sl ⟨dst, .binOp .geq t x y yt, ty, pos, af, g⟩ (.bool (decide (q ≤ p))) := fun a ha w _ => by
  simp [execOp, ha.ev hx, ha.ev hy, eqGuard, binOp, Op.intCmp]
theorem q_not {t : TypeId} {x : Operand} {b : Bool} (hx : ev sl x = some (.bool b)) : Qt P S n sl ⟨dst, .unOp .not t x, ty, pos, af, g⟩ (.bool (!b)) := fun a ha w _ => by
  simp [execOp, ha.ev hx, Op.unary]
end q
end Go.Proofs.YtnjjjfffppllfaaX
