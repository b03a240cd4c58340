/- The walk over what is known of a frame: a list of slots, an invariant of the world, one lemma an operation. -/
import Derived.WalkKit
import Derived.WalkSpells
import Derived.WalkLawsBesides
import Derived.KernelRfl
import Derived.OrdersHeld
import Derived.Deep.LoopGhost
import Derived.Deep.Draws
namespace Go.Proofs.YtnjjjfffppllfaaX
open Go.RowKit
set_option linter.unusedVariables false
set_option linter.unusedSimpArgs false

/-! ### 1. What is known of a frame -/
abbrev Slots := List (Nat × Value)
def look : Slots → Nat → Option Value
  | [], _ => none
  | (k, v) :: r, t => match Nat.beq k t with
    | true => some v
    | false => look r t
theorem look_same (k : Nat) (v : Value) (r : Slots) : look ((k, v) :: r) k = some v := by
  simp [look, Nat.beq_refl]
theorem look_other {k t : Nat} (h : k ≠ t) (v : Value) (r : Slots) : look ((k, v) :: r) t = look r t := by
  have : Nat.beq k t = false := by
    cases hb : Nat.beq k t
    · rfl
    · exact absurd (Nat.eq_of_beq_eq_true hb) h
  simp [look, this]

structure Ag (n : Nat) (sl : Slots) (a : Act) : Prop where
  dfs : a.defers = []
  size : a.tmps.size = n
  slot : ∀ t v, look sl t = some v → a.tmps.getD t undef = v

def ev (sl : Slots) : Operand → Option Value
  | .tmp t => look sl t
  | .const v => some v
  | .global g => some (.pointer (some ⟨g, 0, none⟩))
  | .func f => some (.func (.func f) #[] #[])

theorem Ag.ev {n : Nat} {sl : Slots} {a : Act} {x : Operand} {v : Value} (h : Ag n sl a) (hx : ev sl x = some v) : a.eval x = v := by
  cases x with
  | tmp t => exact h.slot t v hx
  | const u => cases hx; rfl
  | global g => cases hx; rfl
  | func f => cases hx; rfl

def upd (sl : Slots) (o : Option Nat) (v : Value) : Slots :=
  match o with
  | some d => (d, v) :: sl
  | none => sl
def dok (n : Nat) (o : Option Nat) : Bool :=
  match o with
  | some d => Nat.blt d n
  | none => true

theorem Ag.put {n : Nat} {sl : Slots} {a : Act} {o : Option Nat} (h : Ag n sl a) (hd : dok n o = true) (v : Value) : Ag n (upd sl o v) (a.put o v) := by
  cases o with
  | none => exact h
  | some d =>
    have hdn : d < n := Nat.le_of_ble_eq_true hd
    refine ⟨h.dfs, by simp [Act.put, h.size], fun t u hu => ?_⟩
    by_cases e : d = t
    · subst e
      rw [upd, look_same] at hu
      cases hu
      simp [Act.put, h.size, hdn]
    · rw [upd, look_other e] at hu
      have := h.slot t u hu
      simpa [Act.put, Array.getElem?_setIfInBounds_ne e] using this

def Sub : Slots → Slots → Prop
  | [], _ => True
  | (t, v) :: r, sl => look sl t = some v ∧ Sub r sl
theorem Sub.get : ∀ {sl' sl : Slots}, Sub sl' sl → ∀ t v, look sl' t = some v → look sl t = some v
  | [], _, _, t, v, h => by cases h
  | (k, u) :: r, sl, hs, t, v, h => by
    by_cases e : k = t
    · subst e
      rw [look_same] at h
      cases h
      exact hs.1
    · rw [look_other e] at h
      exact Sub.get hs.2 t v h
theorem Ag.sub {n : Nat} {sl sl' : Slots} {a : Act} (h : Ag n sl a) (hs : Sub sl' sl) : Ag n sl' a := ⟨h.dfs, h.size, fun t v hv => h.slot t v (hs.get t v hv)⟩

/-- Whatever frame agrees with what is known. -/
def F (n : Nat) (sl : Slots) (w : World) (K : Act → World → Prop) : Prop := ∀ a, Ag n sl a → K a w
theorem F.sub {n : Nat} {sl sl' : Slots} {w : World} {K : Act → World → Prop} (hs : Sub sl' sl) (h : F n sl' w K) : F n sl w K := fun a ha => h a (ha.sub hs)

/-! ### 2. Control -/
section control
variable {P : Program} {n : Nat} {sl : Slots} {w : World} {Q : Exit → Act → World → Prop} {K : Act → World → Prop}

def nth : List Value → Nat → Option Value
  | [], _ => none
  | v :: _, 0 => some v
  | _ :: r, t + 1 => nth r t
theorem nth_get : ∀ (l : List Value) (t : Nat), nth l t = l[t]?
  | [], t => by simp [nth]
  | v :: r, 0 => by simp [nth]
  | v :: r, t + 1 => by simp [nth, nth_get r t]
def ArgSub : Slots → Array Value → Prop
  | [], _ => True
  | (t, v) :: r, args => nth args.toList t = some v ∧ ArgSub r args
theorem ArgSub.get : ∀ {sl : Slots} {args : Array Value}, ArgSub sl args → ∀ t v, look sl t = some v → args[t]? = some v
  | [], _, _, t, v, h => by cases h
  | (k, u) :: r, sl, hs, t, v, h => by
    by_cases e : k = t
    · subst e
      rw [look_same] at h
      cases h
      have := hs.1
      rw [nth_get] at this
      simpa using this
    · rw [look_other e] at h
      exact ArgSub.get hs.2 t v h
theorem x_enter {f : FuncId} {fn : Func} {c : Code} {args : Array Value} {R : Ending → World → Prop} (sl : Slots) (hf : P.funcs[f]? = some fn) (hb : fn.body = some c) (hn : fn.ntmps = n)
    (hs : Nat.ble args.size n = true) (hsl : ArgSub sl args) (h : F n sl w (c.wp P (bodyPost P fn R))) : Calls P f args w R := by
  refine calls_of_wp hf hb (h _ ⟨rfl, ?_, fun t v hv => ?_⟩)
  · have := Nat.le_of_ble_eq_true hs
    simp [hn]; omega
  · have hg := hsl.get t v hv
    have hlt : t < args.size := (Array.getElem?_eq_some_iff.1 hg).1
    simp [Array.getElem?_append_left hlt, hg]

theorem x_seq {x y : Code} (h : F n sl w (x.wp P (Exit.then (y.wp P Q) Q))) : F n sl w ((Code.seq x y).wp P Q) := fun a ha => wp_seq (h a ha)
theorem x_reg {id : Nat} {l : List Oper} (h : F n sl w (wpList P l.toArray Q l)) : F n sl w ((Code.region id l.toArray false).wp P Q) := fun a ha => wp_region_lit (h a ha)
theorem x_nil {ops : Array Oper} (h : F n sl w (Q .normal)) : F n sl w (wpList P ops Q []) := fun a ha => wpList_nil (h a ha)
theorem x_skip (h : F n sl w (Q .normal)) : F n sl w (Code.skip.wp P Q) := fun a ha => wp_skip (h a ha)
theorem x_label {l : Nat} (h : F n sl w (Q .normal)) : F n sl w ((Code.label l).wp P Q) := fun a ha => wp_label (h a ha)
theorem x_ret (h : F n sl w (Q .ret)) : F n sl w (Code.ret.wp P Q) := fun a ha => wp_ret (h a ha)
theorem x_exit {id : Nat} (h : F n sl w (Q (.exit id))) : F n sl w ((Code.exit id).wp P Q) := fun a ha => wp_exit (h a ha)
theorem x_block {id : Nat} {c : Code} (h : F n sl w (c.wp P (Exit.inBlock id Q))) : F n sl w ((Code.block id c).wp P Q) := fun a ha => wp_block (h a ha)
theorem x_cond {c : Operand} {x y : Code} {b : Bool} (hc : ev sl c = some (.bool b)) (ht : b = true → F n sl w (x.wp P Q)) (hf : b = false → F n sl w (y.wp P Q)) : F n sl w ((Code.cond c x y).wp P Q) := fun a ha => by
  refine wp_cond_split (t := b) (ha.ev hc) (fun e => ht e a ha) (fun e => hf e a ha)
theorem x_cond_t {c : Operand} {x y : Code} (hc : ev sl c = some (.bool true)) (ht : F n sl w (x.wp P Q)) : F n sl w ((Code.cond c x y).wp P Q) := fun a ha => wp_cond_true (ha.ev hc) (ht a ha)
theorem x_cond_f {c : Operand} {x y : Code} (hc : ev sl c = some (.bool false)) (hf : F n sl w (y.wp P Q)) : F n sl w ((Code.cond c x y).wp P Q) := fun a ha => wp_cond_false (ha.ev hc) (hf a ha)
theorem x_then_n (h : F n sl w K) : F n sl w (Exit.then K Q .normal) := h
theorem x_then_e {id : Nat} (h : F n sl w (Q (.exit id))) : F n sl w (Exit.then K Q (.exit id)) := h
theorem x_then_r (h : F n sl w (Q .ret)) : F n sl w (Exit.then K Q .ret) := h
theorem x_blk_n {id : Nat} (h : F n sl w (Q .normal)) : F n sl w (Exit.inBlock id Q .normal) := h
theorem x_blk_r {id : Nat} (h : F n sl w (Q .ret)) : F n sl w (Exit.inBlock id Q .ret) := h
theorem x_blk_e {id : Nat} (h : F n sl w (Q .normal)) : F n sl w (Exit.inBlock id Q (.exit id)) := fun a ha => by
  show (if id = id then _ else _); rw [if_pos rfl]; exact h a ha
theorem x_blk_o {id id' : Nat} (hne : Nat.beq id' id = false) (h : F n sl w (Q (.exit id'))) : F n sl w (Exit.inBlock id Q (.exit id')) := fun a ha => by
  show (if id' = id then _ else _); rw [if_neg (fun e => by subst e; rw [Nat.beq_refl] at hne; cases hne)]; exact h a ha

/-! What two ways hand on alike, and what a round hands on. -/
def Cut {γ : Type} (n : Nat) (sl : γ → Slots) (φ : γ → World → Prop) (a : Act) (w : World) : Prop := ∃ g, Ag n (sl g) a ∧ φ g w
theorem x_cut {γ : Type} (sl' : γ → Slots) (φ : γ → World → Prop) {s : Code} (rest : ∀ g w', φ g w' → F n (sl' g) w' K) (first : F n sl w (s.wp P (Exit.then (Cut n sl' φ) Q))) : F n sl w (s.wp P (Exit.then K Q)) := fun a ha => by
  refine wp_mono (first a ha) fun e a' w' hq => ?_
  cases e with
  | normal => obtain ⟨g, hA, hp⟩ := hq; exact rest g w' hp a' hA
  | _ => exact hq
theorem x_meet {γ : Type} {sl' : γ → Slots} {φ : γ → World → Prop} (g : γ) (hs : Sub (sl' g) sl) (hp : φ g w) : F n sl w (Cut n sl' φ) := fun a ha => ⟨g, ha.sub hs, hp⟩

def Again {γ : Type} (n : Nat) (sl : γ → Slots) (φ : γ → World → Prop) (μ : γ → Nat) (m : Nat) (a : Act) (w : World) : Prop := ∃ g, Ag n (sl g) a ∧ φ g w ∧ μ g < m
theorem x_loop {γ : Type} (sl' : γ → Slots) (φ : γ → World → Prop) (μ : γ → Nat) (g₀ : γ) {c : Code} (hs : Sub (sl' g₀) sl) (h₀ : φ g₀ w)
    (round : ∀ g w', φ g w' → F n (sl' g) w' (c.wp P (Exit.then (Again n sl' φ μ (μ g)) Q))) : F n sl w ((Code.loop c).wp P Q) := fun a ha => by
  refine wp_loop_ghost (fun m a w => ∃ g, Ag n (sl' g) a ∧ φ g w ∧ μ g = m) (μ g₀) ⟨g₀, ha.sub hs, h₀, rfl⟩ ?_
  rintro m a w ⟨g, hA, hp, rfl⟩
  refine wp_mono (round g w hp a hA) fun e a' w' hq => ?_
  cases e with
  | normal => obtain ⟨g', hA', hp', hlt⟩ := hq; exact ⟨μ g', hlt, g', hA', hp', rfl⟩
  | _ => exact hq
theorem x_again {γ : Type} {sl' : γ → Slots} {φ : γ → World → Prop} {μ : γ → Nat} {m : Nat} (g : γ) (hs : Sub (sl' g) sl) (hp : φ g w) (hm : μ g < m) : F n sl w (Again n sl' φ μ m) := fun a ha => ⟨g, ha.sub hs, hp, hm⟩

/-! The function's end. -/
theorem x_done0 {fn : Func} {R : Ending → World → Prop} (hr : fn.results = #[]) (h : R (.returned (.tuple #[])) w) : F n sl w (bodyPost P fn R .ret) := fun a ha => ⟨ha.dfs, _, results_none hr _ _ _, h⟩
theorem x_done0n {fn : Func} {R : Ending → World → Prop} (hr : fn.results = #[]) (h : R (.returned (.tuple #[])) w) : F n sl w (bodyPost P fn R .normal) := fun a ha => ⟨ha.dfs, _, results_none hr _ _ _, h⟩
theorem x_done1 {fn : Func} {R : Ending → World → Prop} {t : Nat} {v : Value} (hr : fn.results = #[.tmp t]) (hv : look sl t = some v) (h : R (.returned v) w) : F n sl w (bodyPost P fn R .ret) := fun a ha =>
  ⟨ha.dfs, _, results_tmp hr _ _ _, by rw [ha.slot t v hv]; exact h⟩
theorem x_done2 {fn : Func} {R : Ending → World → Prop} {t u : Nat} {v x : Value} (hr : fn.results = #[.tmp t, .tmp u]) (hv : look sl t = some v) (hx : look sl u = some x) (h : R (.returned (.tuple #[v, x])) w) : F n sl w (bodyPost P fn R .ret) := fun a ha =>
  ⟨ha.dfs, _, results_tmp2 hr _ _ _, by rw [ha.slot t v hv, ha.slot u x hx]; exact h⟩
end control

/-! ### 3. Operations one behind the other -/
section ops
variable {P : Program} {n : Nat} {sl : Slots} {w : World} {Q : Exit → Act → World → Prop}
/-- In every world of the class the operation yields v and does nothing else. -/
def Qt (P : Program) (S : World → Prop) (n : Nat) (sl : Slots) (o : Oper) (v : Value) : Prop := ∀ a, Ag n sl a → ∀ w, S w → (execOp a.eval o).run P w = .ok (.value v) w
/-- The operation from w on: what it yields, and the world that it leaves. -/
def Ef (P : Program) (Q : Exit → Act → World → Prop) (n : Nat) (sl : Slots) (o : Oper) (w : World) (K : Value → World → Prop) : Prop :=
  ∀ a, Ag n sl a → o.wp P a w (fun a' w' => ∃ v, a' = a.put o.dst v ∧ K v w') Q

theorem wanted_none {o : Oper} (hg : o.guard = none) (y : Nat → Option Bool) : Region.wanted o y = true := by simp [Region.wanted, hg]
theorem rl_q {ops : Array Oper} {l : List Oper} {d : Tmp} {op : Op} {ty : TypeId} {pos : String} {af : Array Edge} {v : Value} (hd : Nat.blt d n = true) (hq : Qt P (Eq w) n sl ⟨some d, op, ty, pos, af, none⟩ v) (h : F n ((d, v) :: sl) w (wpList P ops Q l)) :
    F n sl w (wpList P ops Q (⟨some d, op, ty, pos, af, none⟩ :: l)) := fun a ha => by
  unfold wpList
  rw [if_pos (wanted_none rfl _)]
  refine .inl ?_
  unfold Oper.wp
  rw [hq a ha w rfl]
  exact h _ (ha.put (o := some d) hd v)
theorem rl_e {ops : Array Oper} {l : List Oper} {d : Tmp} {op : Op} {ty : TypeId} {pos : String} {af : Array Edge} (hd : Nat.blt d n = true) (he : Ef P Q n sl ⟨some d, op, ty, pos, af, none⟩ w fun v w' => F n ((d, v) :: sl) w' (wpList P ops Q l)) :
    F n sl w (wpList P ops Q (⟨some d, op, ty, pos, af, none⟩ :: l)) := fun a ha => by
  unfold wpList
  rw [if_pos (wanted_none rfl _)]
  refine .inl (Oper.wp_mono ?_ (he a ha))
  rintro a' w' ⟨v, rfl, hk⟩
  exact hk _ (ha.put (o := some d) hd v)
theorem rl_n {ops : Array Oper} {l : List Oper} {op : Op} {ty : TypeId} {pos : String} {af : Array Edge} (he : Ef P Q n sl ⟨none, op, ty, pos, af, none⟩ w fun _ w' => F n sl w' (wpList P ops Q l)) :
    F n sl w (wpList P ops Q (⟨none, op, ty, pos, af, none⟩ :: l)) := fun a ha => by
  unfold wpList
  rw [if_pos (wanted_none rfl _)]
  refine .inl (Oper.wp_mono ?_ (he a ha))
  rintro a' w' ⟨v, rfl, hk⟩
  exact hk _ ha
theorem yielded_look {ops : Array Oper} {j g : Nat} {b : Bool} {a : Act} (ha : Ag n sl a) (hj : (ops[j]?).bind (·.dst) = some g) (hv : look sl g = some (.bool b)) : yielded ops a.tmps j = some b := by
  have h1 := ha.slot g _ hv
  have h2 : a.tmps[g]? = some (.bool b) := by
    cases h : a.tmps[g]? with
    | none => rw [Array.getD_eq_getD_getElem?, h] at h1; simp [undef] at h1
    | some u => rw [Array.getD_eq_getD_getElem?, h] at h1; simpa using h1
  simp [yielded, hj, h2]
theorem rl_go {ops : Array Oper} {l : List Oper} {dst : Option Tmp} {op : Op} {ty : TypeId} {pos : String} {af : Array Edge} {j g : Nat} {b : Bool} (hj : (ops[j]?).bind (·.dst) = some g) (hv : look sl g = some (.bool b))
    (h : F n sl w (wpList P ops Q (⟨dst, op, ty, pos, af, none⟩ :: l))) : F n sl w (wpList P ops Q (⟨dst, op, ty, pos, af, some (j, b)⟩ :: l)) := fun a ha => by
  have h1 := h a ha
  unfold wpList at h1 ⊢
  rw [if_pos (wanted_none rfl _)] at h1
  rw [if_pos (by simp [Region.wanted, yielded_look ha hj hv])]
  exact h1
theorem rl_no {ops : Array Oper} {l : List Oper} {d : Tmp} {op : Op} {ty : TypeId} {pos : String} {af : Array Edge} {j g : Nat} {b c : Bool} (hd : Nat.blt d n = true) (hj : (ops[j]?).bind (·.dst) = some g) (hv : look sl g = some (.bool c)) (hne : (c == b) = false)
    (h : F n ((d, undef) :: sl) w (wpList P ops Q l)) : F n sl w (wpList P ops Q (⟨some d, op, ty, pos, af, some (j, b)⟩ :: l)) := fun a ha => by
  unfold wpList
  rw [if_neg (by simp [Region.wanted, yielded_look ha hj hv]; simpa using hne)]
  exact h _ (ha.put (o := some d) hd undef)
end ops

end Go.Proofs.YtnjjjfffppllfaaX
