/- The operations that change the world: what is known of the world behind each. -/
import Derived.Test.YtnjjjfffppllfaaY
import Derived.Maps.AppendAt
namespace Go.Proofs.YtnjjjfffppllfaaX
open Go.RowKit Go.Proofs.YtnjjjfffppllfaaK
set_option linter.unusedVariables false
set_option linter.unusedSimpArgs false

/-! ### What a world is behind a new block, behind a store -/
structure New (w w' : World) (b : Nat) (o : Obj) : Prop where
  kept : Kept 0 [] w w'
  here : w'.heap[b]? = some o
  fresh : w.heap.size ≤ b
theorem new_alloc (w : World) (o : Obj) : New w (w.alloc o) w.heap.size o := ⟨(Kept.refl _ _ _).alloc _, heap_alloc_new w o, Nat.le_refl _⟩
structure Put (w w' : World) (b : Nat) (o : Obj) : Prop where
  os : w'.os = w.os
  tape : w'.tape = w.tape
  output : w'.output = w.output
  size : w'.heap.size = w.heap.size
  here : w'.heap[b]? = some o
  other : ∀ k, k ≠ b → w'.heap[k]? = w.heap[k]?
theorem Put.kept {w w' : World} {b m : Nat} {c : Array Value} {t : TypeId} {f : Nat × Nat} {o : Obj} {Ts : List TypeId} (h : Put w w' b o) (hb : w.heap[b]? = some (.cells c t f)) (ht : t ∈ Ts) (hm : m ≤ b) : Kept m Ts w w' :=
  ⟨h.os, h.tape, h.output, by rw [h.size]; exact Nat.le_refl _, fun k x hk hx => by
    have hne : k ≠ b := by
      rintro rfl
      rw [hb] at hk
      cases hk
      rcases hx with hx | hx
      · omega
      · exact hx t ht rfl
    rw [h.other k hne]; exact hk⟩
def setL (c : Array Value) : Nat → List Value → Array Value
  | _, [] => c
  | o, v :: r => setL (c.setIfInBounds o v) (o + 1) r
theorem setL_size (vs : List Value) : ∀ (c : Array Value) (o : Nat), (setL c o vs).size = c.size := by
  induction vs with
  | nil => intro c o; rfl
  | cons v r ih => intro c o; rw [setL, ih]; simp

theorem put_one {w : World} {b o : Nat} {c : Array Value} {t : TypeId} {f : Nat × Nat} (hb : w.heap[b]? = some (.cells c t f)) (v : Value) : Put w (w.setCell ⟨b, o, none⟩ v) b (.cells (c.setIfInBounds o v) t f) :=
  ⟨rfl, rfl, rfl, by simp, by simp [World.setCell, Array.getElem?_modify, hb], fun k hk => by simp [World.setCell, Array.getElem?_modify, Ne.symm hk]⟩
theorem Put.trans {w w1 w2 : World} {b : Nat} {o1 o2 : Obj} (h : Put w w1 b o1) (k : Put w1 w2 b o2) : Put w w2 b o2 :=
  ⟨k.os.trans h.os, k.tape.trans h.tape, k.output.trans h.output, k.size.trans h.size, k.here, fun i hi => (k.other i hi).trans (h.other i hi)⟩

theorem storeCells_put {P : Program} {b : Nat} {t : TypeId} : ∀ (vs : List Value) (o i : Nat) (w : World) (c : Array Value), w.heap[b]? = some (.cells c t (0, 0)) → (∀ v ∈ vs, v.oneCell' = true) → o + i + vs.length ≤ c.size →
    ∃ w', (storeCells ⟨b, o, none⟩ vs i).run P w = .ok () w' ∧ Put w w' b (.cells (setL c (o + i) vs) t (0, 0)) := by
  intro vs
  induction vs with
  | nil => intro o i w c hb _ _; exact ⟨w, rfl, rfl, rfl, rfl, rfl, hb, fun _ _ => rfl⟩
  | cons v r ih =>
    intro o i w c hb h1 hl
    have hv := h1 v (by simp)
    have hlt : o + i < c.size := by simp at hl; omega
    have hcell : w.cell? ⟨b, o + i, none⟩ = some c[o + i] := cell_of hb (by simp [hlt])
    have hfr : w.frozen? ⟨b, o + i, none⟩ = false := by simp [World.frozen?, hb]
    have hp := put_one (o := o + i) hb v
    obtain ⟨w', hr, hput⟩ := ih o (i + 1) (w.setCell ⟨b, o + i, none⟩ v) _ hp.here (fun u hu => h1 u (by simp [hu])) (by simp at hl ⊢; omega)
    refine ⟨w', ?_, ?_⟩
    · rw [storeCells, Sem.run_bind, add_plain, run_store P w _ v _ hv]
      simp [hcell, hfr]
      exact hr
    · have := hp.trans hput
      rw [setL]
      rwa [show o + (i + 1) = o + i + 1 by omega] at this

section e
variable {P : Program} {Q : Exit → Act → World → Prop} {n : Nat} {sl : Slots} {dst : Option Tmp} {ty : TypeId} {pos : String} {af : Array Edge} {g : Option (Nat × Bool)} {w : World} {K : Value → World → Prop}

theorem ef_of_run {o : Oper} {v : Value} {w' : World} (hr : ∀ a, Ag n sl a → (execOp a.eval o).run P w = .ok (.value v) w') (h : K v w') : Ef P Q n sl o w K := fun a ha => by
  unfold Oper.wp
  rw [hr a ha]
  exact ⟨v, rfl, h⟩
theorem ef_of_skip {o : Oper} {w' : World} (hr : ∀ a, Ag n sl a → (execOp a.eval o).run P w = .ok .skip w') (h : K undef w') : Ef P Q n sl o w K := fun a ha => by
  unfold Oper.wp
  rw [hr a ha]
  exact ⟨undef, rfl, h⟩

/-- A type's zero value, cells and bytes. -/
def zi (P : Program) (e : TypeId) : Option (Option Value × Nat × Nat) := (P.info? e).map fun i => (i.zero, i.size, i.bytes)
theorem zi_zero {P : Program} {e : TypeId} {z : Value} {s by_ : Nat} (h : zi P e = some (some z, s, by_)) (w : World) : (zeroValue e).run P w = .ok z w := by
  obtain ⟨i, hi, hh⟩ := Option.map_eq_some_iff.1 h
  simp only [Prod.mk.injEq] at hh
  simp [zeroValue, typeInfo, hi, hh.1]
theorem e_alloc {e : TypeId} {z : Value} {s by_ : Nat} (hz : zi P e = some (some z, s, by_)) (h : ∀ b w', New w w' b (.cells z.cells e (0, 0)) → K (.pointer (some ⟨b, 0, none⟩)) w') : Ef P Q n sl ⟨dst, .alloc e, ty, pos, af, g⟩ w K :=
  ef_of_run (fun a ha => by simp [execOp, Instr.alloc, zi_zero hz, newVar, newRow]) (h _ _ (new_alloc w _))
theorem e_box {e : TypeId} {x : Operand} {v : Value} (hx : ev sl x = some v) (h : ∀ b w', New w w' b (.cells v.cells e (0, 0)) → K (.pointer (some ⟨b, 0, none⟩)) w') : Ef P Q n sl ⟨dst, .box e x, ty, pos, af, g⟩ w K :=
  ef_of_run (fun a ha => by simp [execOp, Instr.box, ha.ev hx, newVar, newRow]) (h _ _ (new_alloc w _))
theorem e_store {T t : TypeId} {x y : Operand} {v : Value} {b o : Nat} {c : Array Value} {ag : Bool} (hT : tk P T = some (ag, v.cells.size)) (hx : ev sl x = some (.pointer (some ⟨b, o, none⟩))) (hy : ev sl y = some v) (hb : w.heap[b]? = some (.cells c t (0, 0)))
    (h1 : ∀ u ∈ v.cells.toList, u.oneCell' = true) (hl : o + v.cells.size ≤ c.size) (h : ∀ w', Put w w' b (.cells (setL c o v.cells.toList) t (0, 0)) → K undef w') : Ef P Q n sl ⟨dst, .store T x y, ty, pos, af, g⟩ w K := by
  obtain ⟨w', hr, hp⟩ := storeCells_put (P := P) v.cells.toList o 0 w c hb h1 (by simpa using hl)
  refine ef_of_skip (w' := w') (fun a ha => ?_) (h w' hp)
  simp [execOp, ha.ev hx, ha.ev hy, Instr.storeAt, Instr.sureAddr, storeVar, tk_size hT, hr]

def evs (sl : Slots) : List Operand → Option (List Value)
  | [] => some []
  | x :: r => match ev sl x, evs sl r with
    | some v, some vs => some (v :: vs)
    | _, _ => none
theorem evs_map {a : Act} (ha : Ag n sl a) : ∀ {xs : List Operand} {vs : List Value}, evs sl xs = some vs → xs.map a.eval = vs
  | [], vs, h => by cases h; rfl
  | x :: r, vs, h => by
    unfold evs at h
    split at h
    · rename_i v us hv hus
      cases h
      simp [ha.ev hv, evs_map ha hus]
    · cases h
/-- A function with a body of its own. -/
def Has (P : Program) (f : FuncId) : Prop := ∀ args w, (callFunc f args).run P w = .ok (.enter f args) w
theorem has_of {P : Program} {f : FuncId} {fn : Func} {c : Code} (hf : P.funcs[f]? = some fn) (hn : (fn.name == "runtime.NumGoroutine") = false) (hb : fn.body = some c) : Has P f := fun args w => by
  have h1 : fn.name ≠ "runtime.NumGoroutine" := by simpa using hn
  simp [callFunc, hf, h1, hb]
def Rt (K : Value → World → Prop) : Ending → World → Prop := fun e w' => ∃ v, e = .returned v ∧ K v w'
theorem e_callv {x : Operand} {f : FuncId} {fs cs : Array Value} {xs : List Operand} {vs : List Value} {ats : Array TypeId} (hf : Has P f) (hx : ev sl x = some (.func (.func f) fs cs)) (hv : evs sl xs = some vs)
    (hc : Calls P f (fs ++ vs.toArray ++ cs) w (Rt K)) : Ef P Q n sl ⟨dst, .call { callee := .value x, args := xs.toArray, argTypes := ats }, ty, pos, af, g⟩ w K := fun a ha => by
  have hm := evs_map ha hv
  unfold Oper.wp
  have hrun : (execOp a.eval ⟨dst, .call { callee := .value x, args := xs.toArray, argTypes := ats }, ty, pos, af, g⟩).run P w = .ok (.enter f (fs ++ vs.toArray ++ cs)) w := by
    simp [execOp, resolve, Deferred.ofValue, ha.ev hx, invoke, hm]
    exact hf _ w
  rw [hrun]
  refine Calls.mono hc ?_
  rintro e w' ⟨v, rfl, hk⟩
  exact ⟨v, rfl, hk⟩
theorem e_call {f : FuncId} {xs : List Operand} {vs : List Value} {ats : Array TypeId} (hf : Has P f) (hv : evs sl xs = some vs)
    (hc : Calls P f vs.toArray w (Rt K)) : Ef P Q n sl ⟨dst, .call { callee := .value (.func f), args := xs.toArray, argTypes := ats }, ty, pos, af, g⟩ w K :=
  e_callv hf rfl hv (by simpa using hc)

/-- A row of the call's own: append. -/
theorem kept_grownBy {n0 : Nat} {w w' : World} {e : TypeId} {size k : Nat} {v : Value} {xs : List Value} (hown : w.ownsRow n0 e size v k xs) (hg : w.grownBy w' v.ownBlock) : Kept n0 [e] w w' :=
  ⟨hg.os, hg.tape, hg.output, hg.size, fun b o hb ho => by
    rw [hg.block b (heap_lt hb) ?_]; exact hb
    intro hk
    rcases hown.2 with ⟨rfl, _⟩ | ⟨g', cap, cur, rfl, hg0, hh, _⟩
    · cases hk
    · have : b = g' := by simpa [Value.ownBlock] using hk
      subst this
      rw [hh] at hb
      cases hb
      rcases ho with ho | ho
      · omega
      · exact ho e (by simp) rfl⟩
theorem e_append {n0 : Nat} {t e : TypeId} {s x : Operand} {z v : Value} {size bytes k m c : Nat} {xs news : List Value} {ad : Addr} (ht : P.underlying t = some (.slice e)) (hz : zi P e = some (some z, size, bytes)) (hzs : z.cells.size = size) (hs0 : 0 < size)
    (hs : ev sl s = some v) (hx : ev sl x = some (.slice (some ad) m c)) (hown : w.ownsRow n0 e size v k xs) (hn0 : n0 ≤ w.heap.size) (hl : news.length = m * size) (hnews : ∀ j u, news[j]? = some u → w.cell? (ad.add j) = some u) (h1 : ∀ u ∈ news, u.oneCell' = true)
    (hb : (k + m) * bytes ≤ 140737488355328) (hb' : k + m ≤ 140737488355328)
    (h : ∀ v' w', w'.ownsRow n0 e size v' (k + m) (xs ++ news) → w.grownBy w' v.ownBlock → (v'.ownBlock = v.ownBlock ∨ v'.ownBlock = some w.heap.size) → K v' w') :
    Ef P Q n sl ⟨dst, .call { callee := .builtin .append, args := #[s, x], argTypes := #[t, t] }, ty, pos, af, none⟩ w K := fun a ha => by
  obtain ⟨i, hi, hh⟩ := Option.map_eq_some_iff.1 hz
  simp only [Prod.mk.injEq] at hh
  obtain ⟨v', w', hr, h2, h3, _, h4⟩ := run_append_own_at (P := P) w n0 t ty e i z size bytes ht hi hh.1 hh.2.1 hh.2.2 hzs hs0 v k xs hown ad m c news hl hnews h1 (by simp only [maxLen]; omega) hb hn0
  unfold Oper.wp
  have hrun : (execOp a.eval ⟨dst, .call { callee := .builtin .append, args := #[s, x], argTypes := #[t, t] }, ty, pos, af, none⟩).run P w = .ok (.value v') w' := by
    simp [execOp, resolve, invoke, builtin, ha.ev hs, ha.ev hx, hr]
  rw [hrun]
  exact ⟨v', rfl, h v' w' h2 h3 h4⟩
/-- append(s, t...) of nothing. -/
theorem e_append_nil {t e : TypeId} {s x : Operand} {a0 b0 : Option Addr} {size bytes k c c' : Nat} (he : es P t = some (e, size, bytes)) (hs : ev sl s = some (.slice a0 k c)) (hx : ev sl x = some (.slice b0 0 c')) (hle : k ≤ c) (h : K (.slice a0 k c) w) :
    Ef P Q n sl ⟨dst, .call { callee := .builtin .append, args := #[s, x], argTypes := #[t, t] }, ty, pos, af, none⟩ w K := by
  unfold es at he
  split at he
  · rename_i e' hu
    split at he
    · rename_i y hy
      cases he
      refine ef_of_run (v := .slice a0 k c) (w' := w) (fun a ha => ?_) h
      cases b0 <;> cases a0 <;> simp [execOp, resolve, invoke, builtin, ha.ev hs, ha.ev hx, Builtin.append_, run_underlying hu, sizeOf, typeInfo, hy, Builtin.lenOf, hle, Builtin.firstCells, loadCells, loadCellsFrom, storeCells]
    · cases he
  · cases he
theorem kept_of_none {w w' : World} (hg : w.grownBy w' none) : Kept 0 [] w w' := ⟨hg.os, hg.tape, hg.output, hg.size, fun b o hb _ => by rw [hg.block b (heap_lt hb) (by simp)]; exact hb⟩
theorem e_make {n0 : Nat} {t e : TypeId} {x : Operand} {z : Value} {size bytes m : Nat} {i : Int} {k : IntKind} (ht : P.underlying t = some (.slice e)) (hz : zi P e = some (some z, size, bytes)) (hx : ev sl x = some (.int k i)) (hi : i = (m : Int)) (hc : m * size ≤ 16777216) (hb : bytes * m ≤ 281474976710656) (hm : m ≤ 140737488355328)
    (hn0 : n0 ≤ w.heap.size)
    (h : ∀ b w', w'.ownsRow n0 e size (.slice (some ⟨b, 0, none⟩) m m) m (madeCells z.cells (m * size)).toList → Kept 0 [] w w' → w.heap.size ≤ b → K (.slice (some ⟨b, 0, none⟩) m m) w') : Ef P Q n sl ⟨dst, .makeSlice t x x, ty, pos, af, g⟩ w K := by
  subst hi
  obtain ⟨inf, hinf, hh⟩ := Option.map_eq_some_iff.1 hz
  simp only [Prod.mk.injEq] at hh
  obtain ⟨w', hr, ho, hg⟩ := run_makeSlice_full (P := P) w n0 t e inf z size ht hinf hh.1 hh.2.1 k k m hc (by rw [hh.2.2]; exact hb) (by simp only [maxLen]; omega) hn0
  refine ef_of_run (w' := w') (fun a ha => ?_) (h _ w' ho (kept_of_none hg) (Nat.le_refl _))
  simp only [execOp, ha.ev hx, Sem.run_bind, hr, Result.andThen_ok, Sem.run_pure]
theorem e_make0 {n0 : Nat} {t e : TypeId} {x y : Operand} {z : Value} {size bytes m : Nat} {i : Int} {k k' : IntKind} (ht : P.underlying t = some (.slice e)) (hz : zi P e = some (some z, size, bytes)) (hy : ev sl y = some (.int k' 0)) (hx : ev sl x = some (.int k i)) (hi : i = (m : Int)) (hc : m * size ≤ 16777216) (hb : bytes * m ≤ 281474976710656) (hm : m ≤ 140737488355328)
    (hn0 : n0 ≤ w.heap.size)
    (h : ∀ b w', w'.ownsRow n0 e size (.slice (some ⟨b, 0, none⟩) 0 m) 0 [] → Kept 0 [] w w' → w.heap.size ≤ b → K (.slice (some ⟨b, 0, none⟩) 0 m) w') : Ef P Q n sl ⟨dst, .makeSlice t y x, ty, pos, af, g⟩ w K := by
  subst hi
  obtain ⟨inf, hinf, hh⟩ := Option.map_eq_some_iff.1 hz
  simp only [Prod.mk.injEq] at hh
  obtain ⟨w', hr, ho, hg⟩ := run_makeSlice_owned (P := P) w n0 t e inf z size ht hinf hh.1 hh.2.1 k' k m hc (by rw [hh.2.2]; exact hb) (by simp only [maxLen]; omega) hn0
  refine ef_of_run (w' := w') (fun a ha => ?_) (h _ w' ho (kept_of_none hg) (Nat.le_refl _))
  simp only [execOp, ha.ev hx, ha.ev hy, Sem.run_bind, hr, Result.andThen_ok, Sem.run_pure]
end e
section q2
variable {P : Program} {S : World → Prop} {n : Nat} {sl : Slots} {dst : Option Tmp} {ty : TypeId} {pos : String} {af : Array Edge} {g : Option (Nat × Bool)}
def evp (sl : Slots) : List (Nat × Operand) → Option (List (Nat × Value))
  | [] => some []
  | (i, x) :: r => match ev sl x, evp sl r with
    | some v, some vs => some ((i, v) :: vs)
    | _, _ => none
theorem evp_map {a : Act} (ha : Ag n sl a) : ∀ {xs : List (Nat × Operand)} {vs : List (Nat × Value)}, evp sl xs = some vs → xs.map (fun (i, x) => (i, a.eval x)) = vs
  | [], vs, h => by cases h; rfl
  | (i, x) :: r, vs, h => by
    unfold evp at h
    split at h
    · rename_i v us hv hus
      cases h
      simp [ha.ev hv, evp_map ha hus]
    · cases h
theorem q_build {t : TypeId} {xs : List (Nat × Operand)} {vs : List (Nat × Value)} {v : Value} (hx : evp sl xs = some vs) (hr : ∀ w, (Instr.build t vs.toArray).run P w = .ok v w) : Qt P S n sl ⟨dst, .build t xs.toArray, ty, pos, af, g⟩ v := fun a ha w _ => by
  have hm := evp_map ha hx
  have : xs.toArray.map (fun (i, x) => (i, a.eval x)) = vs.toArray := by rw [← hm]; simp
  simp only [execOp, this, Sem.run_bind, hr w, Result.andThen_ok, Sem.run_pure]
theorem e_buildSlice {Q : Exit → Act → World → Prop} {w : World} {K : Value → World → Prop} {t e : TypeId} {len : Nat} {xs : List (Nat × Operand)} {vs : List (Nat × Value)} {cs : Array Value} (hx : evp sl xs = some vs)
    (hr : ∀ w, (Instr.buildSlice t len vs.toArray).run P w = .ok (.slice (some ⟨w.heap.size, 0, none⟩) len len) (w.alloc (.cells cs e)))
    (h : ∀ b w', New w w' b (.cells cs e (0, 0)) → K (.slice (some ⟨b, 0, none⟩) len len) w') : Ef P Q n sl ⟨dst, .buildSlice t len xs.toArray, ty, pos, af, g⟩ w K :=
  ef_of_run (fun a ha => by
    have hm := evp_map ha hx
    have : xs.toArray.map (fun (i, x) => (i, a.eval x)) = vs.toArray := by rw [← hm]; simp
    simp only [execOp, this, Sem.run_bind, hr w, Result.andThen_ok, Sem.run_pure]) (h _ _ (new_alloc w _))
theorem q_slice_h {t e : TypeId} {x y : Operand} {a0 : Option Addr} {len cap j size bytes : Nat} {i : Int} {k : IntKind} (he : es P t = some (e, size, bytes)) (hx : ev sl x = some (.slice a0 len cap)) (hy : ev sl y = some (.int k i)) (hj : i = (j : Int)) (hle : j ≤ cap) :
    Qt P S n sl ⟨dst, .slice t x none (some y) none, ty, pos, af, g⟩ (.slice a0 j cap) := fun a ha w _ => by
  subst hj
  unfold es at he
  split at he
  · rename_i e' hu
    split at he
    · rename_i y' hy'
      cases he
      cases a0 <;> simp [execOp, ha.ev hx, ha.ev hy, Instr.sliceAt, run_underlying hu, Instr.slice, Instr.sliceBounds, run_sliceBound, hle, sizeOf, typeInfo, hy', Addr.add_zero']
    · cases he
  · cases he
theorem q_slice_l {t e : TypeId} {x y : Operand} {b o len cap j size bytes : Nat} {i : Int} {k : IntKind} (he : es P t = some (e, size, bytes)) (hx : ev sl x = some (.slice (some ⟨b, o, none⟩) len cap)) (hy : ev sl y = some (.int k i)) (hj : i = (j : Int)) (hle : j ≤ len) :
    Qt P S n sl ⟨dst, .slice t x (some y) none none, ty, pos, af, g⟩ (.slice (some ⟨b, if cap = j then o else o + j * size, none⟩) (len - j) (cap - j)) := fun a ha w _ => by
  subst hj
  unfold es at he
  split at he
  · rename_i e' hu
    split at he
    · rename_i y' hy'
      cases he
      by_cases hc : cap = j <;> simp [execOp, ha.ev hx, ha.ev hy, Instr.sliceAt, run_underlying hu, Instr.slice, Instr.sliceBounds, run_sliceBound, hle, sizeOf, typeInfo, hy', hc, add_plain]
    · cases he
  · cases he
theorem q_makeFunc {fn : Fn} {xs ys : List Operand} {vs us : List Value} (hx : evs sl xs = some vs) (hy : evs sl ys = some us) : Qt P S n sl ⟨dst, .makeFunc fn xs.toArray ys.toArray, ty, pos, af, g⟩ (.func fn vs.toArray us.toArray) := fun a ha w _ => by
  have h1 := evs_map ha hx
  have h2 := evs_map ha hy
  simp [execOp, Instr.makeFunc, h1, h2]
end q2
end Go.Proofs.YtnjjjfffppllfaaX
