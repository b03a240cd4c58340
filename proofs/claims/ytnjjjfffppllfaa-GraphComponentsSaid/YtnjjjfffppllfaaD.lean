/- Regions that draw their order: what only reads is taken first, what changes the world comes in the order of the edges. -/
import Derived.Test.YtnjjjfffppllfaaZ
namespace Go.Proofs.YtnjjjfffppllfaaX
open Go.RowKit Go.Proofs.YtnjjjfffppllfaaK
set_option linter.unusedVariables false
set_option linter.unusedSimpArgs false

/-- A panic's post does not hang on the frame's slots. -/
class PanicOk (Q : Exit → Act → World → Prop) : Prop where
  out : ∀ c a d v w, Q (.panic c) (a.put d v) w → Q (.panic c) a w
instance {P : Program} {fn : Func} {R : Ending → World → Prop} : PanicOk (bodyPost P fn R) := ⟨fun c a d v w h => by
  refine ⟨?_, h.2⟩
  have := h.1
  cases d <;> exact this⟩
instance {K : Act → World → Prop} {Q : Exit → Act → World → Prop} [h : PanicOk Q] : PanicOk (Exit.then K Q) := ⟨fun c a d v w hq => h.out c a d v w hq⟩
instance {id : Nat} {Q : Exit → Act → World → Prop} [h : PanicOk Q] : PanicOk (Exit.inBlock id Q) := ⟨fun c a d v w hq => h.out c a d v w hq⟩

section
variable {P : Program} {ops : Array Oper} {Q : Exit → Act → World → Prop} {S : World → Prop} {T : List Nat}

/-- None of the numbers T has come up. -/
def Tun (T : List Nat) (listed : Array Bool) : Prop := ∀ t ∈ T, listed.getD t false = false
theorem Tun.back {i : Nat} {listed : Array Bool} (h : Tun T (listed.setIfInBounds i true)) : Tun T listed := fun t ht => by
  have h1 := h t ht
  by_cases e : i = t
  · subst e
    rcases Nat.lt_or_ge i listed.size with h' | h'
    · simp [h'] at h1
    · simp [Array.getElem?_eq_none h']
  · rwa [getD_set_ne false e] at h1

/-- Whatever order is picked from here on; till one of T has come up the world is of the class S. -/
def wpT (P : Program) (ops : Array Oper) (Q : Exit → Act → World → Prop) (S : World → Prop) (T : List Nat) : Nat → Array Bool → Act → World → Prop
  | 0, listed, a, w => Region.ready .any ops listed = [] ∧ Q .normal a w
  | fuel + 1, listed, a, w =>
    (Region.ready .any ops listed = [] → Q .normal a w) ∧
    ∀ i ∈ Region.ready .any ops listed, wpOp P ops Q i (fun a' w' => (Tun T (listed.setIfInBounds i true) → S w') ∧ wpT P ops Q S T fuel (listed.setIfInBounds i true) a' w') a w

theorem wpAny_of_T : ∀ (fuel : Nat) (listed : Array Bool) (a : Act) (w : World), wpT P ops Q S T fuel listed a w → wpAny P .any ops Q fuel listed a w
  | 0, _, _, _, h => h
  | fuel + 1, _, _, _, h => ⟨h.1, fun i hi => wpOp_mono (fun a' w' h' => wpAny_of_T fuel _ a' w' h'.2) (h.2 i hi)⟩

/-- Does every operation of T wait for number i? -/
def tailWaits (ops : Array Oper) (T : List Nat) (i : Nat) : Bool :=
  T.all fun j => match ops[j]? with
    | some oj => oj.after.any fun e => Region.binds .any e && e.on == i
    | none => true
theorem tailWaits_spec {i j : Nat} {oj : Oper} (h : tailWaits ops T i = true) (hj : ops[j]? = some oj) (ht : j ∈ T) : ∃ e ∈ oj.after, Region.binds .any e = true ∧ e.on = i := by
  have h1 := List.all_eq_true.1 h j ht
  simp only [hj] at h1
  obtain ⟨e, he, hb⟩ := Array.any_eq_true'.1 h1
  simp only [Bool.and_eq_true, beq_iff_eq] at hb
  exact ⟨e, he, hb⟩

theorem listed_false {listed : Array Bool} {i : Nat} (h : listed.getD i true = false) : listed.getD i false = false := by
  rcases Nat.lt_or_ge i listed.size with h' | h'
  · simp [h'] at h ⊢; exact h
  · simp [Array.getElem?_eq_none h'] at h

/-- What yields one value in every world of the class C may be taken first: C is all worlds, or S lies in it, none of T has come up, and all of T waits for it. -/
theorem wpT_first {C : World → Prop} {i : Nat} {oi : Oper} {v : Value} (hi : ops[i]? = some oi) (hsel : ∀ (j : Nat) (o : Oper) cs b, ops[j]? = some o → o.op ≠ .select cs b)
    (hQ : ∀ c a w, Q (.panic c) (a.put oi.dst v) w → Q (.panic c) a w) (hiT : i ∉ T) :
    ∀ (fuel : Nat) (listed : Array Bool) (a : Act) (w : World),
      (∀ j oj, ops[j]? = some oj → j ≠ i → listed.getD j true = false → (∀ e ∈ oj.after, Region.binds .any e = true → e.on ≠ i) → oi.apart ops oj = true) →
      i ∈ Region.ready .any ops listed → YieldsIf P ops C oi v a → ((∀ w, C w) ∨ ((∀ w, S w → C w) ∧ tailWaits ops T i = true ∧ Tun T listed)) → (Tun T listed → S w) →
      wpT P ops Q S T fuel (listed.setIfInBounds i true) (a.put oi.dst v) w → wpT P ops Q S T (fuel + 1) listed a w := by
  intro fuel
  have hCw : ∀ (listed : Array Bool) (w : World), ((∀ w, C w) ∨ ((∀ w, S w → C w) ∧ tailWaits ops T i = true ∧ Tun T listed)) → (Tun T listed → S w) → C w := fun listed w h hs => by
    rcases h with h | ⟨h, _, h3⟩
    · exact h w
    · exact h w (hs h3)
  induction fuel with
  | zero =>
    intro listed a w _ hr hy hK hs H
    refine ⟨fun h => (by rw [h] at hr; cases hr), fun j hj => ?_⟩
    by_cases hji : j = i
    · subst hji; exact hy.wpOp hi (hCw _ _ hK hs) ⟨fun h => hs h.back, H⟩
    · have := ready_mono hj hji
      rw [H.1] at this
      cases this
  | succ fuel ih =>
    intro listed a w hfree hr hy hK hs H
    refine ⟨fun h => (by rw [h] at hr; cases hr), fun j hj => ?_⟩
    by_cases hji : j = i
    · subst hji; exact hy.wpOp hi (hCw _ _ hK hs) ⟨fun h => hs h.back, H⟩
    · obtain ⟨hjun, oj, hoj, hall⟩ := mem_ready.1 hj
      have hiun := listed_false (mem_ready.1 hr).1
      have hnot : ∀ e ∈ oj.after, Region.binds .any e = true → e.on ≠ i := fun e he hb heq => by
        have h1 := hall e he hb
        rw [heq, hiun] at h1
        cases h1
      have hfree' : ∀ k ok, ops[k]? = some ok → k ≠ i → (listed.setIfInBounds j true).getD k true = false →
          (∀ e ∈ ok.after, Region.binds .any e = true → e.on ≠ i) → oi.apart ops ok = true := fun k ok hk hki hun hno => by
        refine hfree k ok hk hki ?_ hno
        by_cases hjk : j = k
        · subst hjk; exact hjun
        · rw [getD_set_ne true hjk] at hun; exact hun
      have hswap : Tun T (listed.setIfInBounds j true) → Tun T ((listed.setIfInBounds i true).setIfInBounds j true) := fun h t ht => by
        have hne : i ≠ t := by rintro rfl; exact hiT ht
        rw [Array.setIfInBounds_comm _ _ (Ne.symm hji), getD_set_ne false hne]
        exact h t ht
      have h2 := wpOp_putIf hoj (hfree j oj hoj hji hjun hnot) (fun cs b => hsel i oi cs b hi) (fun cs b => hsel j oj cs b hoj) hQ hy (H.2 j (ready_mono hj hji))
      refine wpOp_mono (fun a' w' h3 => ⟨fun h => h3.2.1 (hswap h), ?_⟩) h2
      refine ih (listed.setIfInBounds j true) a' w' hfree' (ready_mono hr (Ne.symm hji)) h3.1 ?_ (fun h => h3.2.1 (hswap h)) ?_
      · rcases hK with hK | ⟨h1, h2, h3⟩
        · exact .inl hK
        · refine .inr ⟨h1, h2, fun t ht => ?_⟩
          have hjt : j ≠ t := by
            rintro rfl
            obtain ⟨e, he, hb, heq⟩ := tailWaits_spec h2 hoj ht
            exact hnot e he hb heq
          rw [getD_set_ne false hjt]; exact h3 t ht
      · rw [Array.setIfInBounds_comm _ _ hji]
        exact h3.2.2

/-! ### The same over what is known of the frame -/
variable {n : Nat} {sl : Slots} {w : World} {listed : Array Bool} {fuel : Nat}

theorem x_draw {id : Nat} {l : List Oper} (S : World → Prop) (T : List Nat) (hm : P.follows .mixedOrders = true) (hS : ∀ w', w'.heap = w.heap → w'.os = w.os → w'.tape = w.tape → w'.output = w.output → S w')
    (h : ∀ w', w'.heap = w.heap → Kept 0 [] w w' → S w' → F n sl w' (wpT P l.toArray Q S T l.length (Array.replicate l.length false))) : F n sl w ((Code.region id l.toArray true).wp P Q) := fun a ha => by
  refine wp_region_any hm (wpAny_of_T (S := S) (T := T) _ _ _ _ ?_)
  have := h { w with drawn := w.drawn + 1 } rfl ⟨rfl, rfl, rfl, Nat.le_refl _, fun _ _ h _ => h⟩ (hS _ rfl rfl rfl rfl) a ha
  simpa using this

def unlisted (T : List Nat) (listed : Array Bool) : Bool := T.all fun t => !listed.getD t false
theorem tun_of {T : List Nat} {listed : Array Bool} (h : unlisted T listed = true) : Tun T listed := fun t ht => by
  have := List.all_eq_true.1 h t ht
  simpa using this

/-- What yields in every world: an address, arithmetic. -/
theorem dr_p (i : Nat) {d : Tmp} {op : Op} {ty : TypeId} {pos : String} {af : Array Edge} {v : Value} [hQ : PanicOk Q] (hi : ops[i]? = some ⟨some d, op, ty, pos, af, none⟩) (hd : Nat.blt d n = true) (hsel : Region.noSelect ops = true) (hf : Region.free .any ops listed i = true) (hr : (Region.ready .any ops listed).contains i = true) (hiT : T.contains i = false)
    (hq : Qt P (fun _ => True) n sl ⟨some d, op, ty, pos, af, none⟩ v) (hw : S w) (h : F n ((d, v) :: sl) w (wpT P ops Q S T fuel (listed.setIfInBounds i true))) : F n sl w (wpT P ops Q S T (fuel + 1) listed) := fun a ha =>
  wpT_first (C := fun _ => True) hi (Region.noSelect_spec hsel) (fun c a w h => hQ.out c a (some d) v w h) (by simpa using hiT) fuel listed a w (Region.free_spec hi hf) (by simpa using hr) (.inl ⟨wanted_none rfl _, fun w' hw' => hq a ha w' hw'⟩) (.inl fun _ => trivial) (fun _ => hw) (h _ (ha.put (o := some d) hd v))
/-- The same behind one of T. -/
theorem dr_p' (i : Nat) {d : Tmp} {op : Op} {ty : TypeId} {pos : String} {af : Array Edge} {v : Value} [hQ : PanicOk Q] (hi : ops[i]? = some ⟨some d, op, ty, pos, af, none⟩) (hd : Nat.blt d n = true) (hsel : Region.noSelect ops = true) (hf : Region.free .any ops listed i = true) (hr : (Region.ready .any ops listed).contains i = true) (hiT : T.contains i = false)
    (hq : Qt P (fun _ => True) n sl ⟨some d, op, ty, pos, af, none⟩ v) (hw : unlisted T listed = false) (h : F n ((d, v) :: sl) w (wpT P ops Q S T fuel (listed.setIfInBounds i true))) : F n sl w (wpT P ops Q S T (fuel + 1) listed) := fun a ha =>
  wpT_first (C := fun _ => True) hi (Region.noSelect_spec hsel) (fun c a w h => hQ.out c a (some d) v w h) (by simpa using hiT) fuel listed a w (Region.free_spec hi hf) (by simpa using hr) (.inl ⟨wanted_none rfl _, fun w' hw' => hq a ha w' hw'⟩) (.inl fun _ => trivial)
    (fun ht => by
      have : unlisted T listed = true := List.all_eq_true.2 fun t h => by simpa using ht t h
      rw [this] at hw; cases hw) (h _ (ha.put (o := some d) hd v))
/-- What yields in every world of S: a load. -/
theorem dr_s (i : Nat) {d : Tmp} {op : Op} {ty : TypeId} {pos : String} {af : Array Edge} {v : Value} [hQ : PanicOk Q] (hi : ops[i]? = some ⟨some d, op, ty, pos, af, none⟩) (hd : Nat.blt d n = true) (hsel : Region.noSelect ops = true) (hf : Region.free .any ops listed i = true) (hr : (Region.ready .any ops listed).contains i = true) (hiT : T.contains i = false)
    (ht : tailWaits ops T i = true) (hu : unlisted T listed = true) (hq : Qt P S n sl ⟨some d, op, ty, pos, af, none⟩ v) (hw : S w) (h : F n ((d, v) :: sl) w (wpT P ops Q S T fuel (listed.setIfInBounds i true))) : F n sl w (wpT P ops Q S T (fuel + 1) listed) := fun a ha =>
  wpT_first (C := S) hi (Region.noSelect_spec hsel) (fun c a w h => hQ.out c a (some d) v w h) (by simpa using hiT) fuel listed a w (Region.free_spec hi hf) (by simpa using hr) (.inl ⟨wanted_none rfl _, fun w' hw' => hq a ha w' hw'⟩) (.inr ⟨fun _ h => h, ht, tun_of hu⟩) (fun _ => hw) (h _ (ha.put (o := some d) hd v))
/-- An operation that its guard passes over. -/
theorem dr_no (i : Nat) {d : Tmp} {op : Op} {ty : TypeId} {pos : String} {af : Array Edge} {j g : Nat} {b c : Bool} [hQ : PanicOk Q] (hi : ops[i]? = some ⟨some d, op, ty, pos, af, some (j, b)⟩) (hj : (ops[j]?).bind (·.dst) = some g) (hv : look sl g = some (.bool c)) (hne : (c == b) = false) (hd : Nat.blt d n = true) (hsel : Region.noSelect ops = true) (hf : Region.free .any ops listed i = true) (hr : (Region.ready .any ops listed).contains i = true) (hiT : T.contains i = false)
    (hw : S w) (h : F n ((d, undef) :: sl) w (wpT P ops Q S T fuel (listed.setIfInBounds i true))) : F n sl w (wpT P ops Q S T (fuel + 1) listed) := fun a ha =>
  wpT_first (C := fun _ => True) hi (Region.noSelect_spec hsel) (fun c a w h => hQ.out c a (some d) undef w h) (by simpa using hiT) fuel listed a w (Region.free_spec hi hf) (by simpa using hr)
    (.inr ⟨by simp [Region.wanted, yielded_look ha hj hv]; simpa using hne, rfl⟩) (.inl fun _ => trivial) (fun _ => hw) (h _ (ha.put (o := some d) hd undef))
/-- An operation that its guard lets be, and that yields in every world; in every world of S. -/
theorem dr_gp (i : Nat) {d : Tmp} {op : Op} {ty : TypeId} {pos : String} {af : Array Edge} {j g : Nat} {b : Bool} {v : Value} [hQ : PanicOk Q] (hi : ops[i]? = some ⟨some d, op, ty, pos, af, some (j, b)⟩) (hj : (ops[j]?).bind (·.dst) = some g) (hv : look sl g = some (.bool b)) (hd : Nat.blt d n = true) (hsel : Region.noSelect ops = true) (hf : Region.free .any ops listed i = true) (hr : (Region.ready .any ops listed).contains i = true) (hiT : T.contains i = false)
    (hq : Qt P (fun _ => True) n sl ⟨some d, op, ty, pos, af, none⟩ v) (hw : S w) (h : F n ((d, v) :: sl) w (wpT P ops Q S T fuel (listed.setIfInBounds i true))) : F n sl w (wpT P ops Q S T (fuel + 1) listed) := fun a ha =>
  wpT_first (C := fun _ => True) hi (Region.noSelect_spec hsel) (fun c a w h => hQ.out c a (some d) v w h) (by simpa using hiT) fuel listed a w (Region.free_spec hi hf) (by simpa using hr)
    (.inl ⟨by simp [Region.wanted, yielded_look ha hj hv], fun w' hw' => hq a ha w' hw'⟩) (.inl fun _ => trivial) (fun _ => hw) (h _ (ha.put (o := some d) hd v))
theorem dr_gs (i : Nat) {d : Tmp} {op : Op} {ty : TypeId} {pos : String} {af : Array Edge} {j g : Nat} {b : Bool} {v : Value} [hQ : PanicOk Q] (hi : ops[i]? = some ⟨some d, op, ty, pos, af, some (j, b)⟩) (hj : (ops[j]?).bind (·.dst) = some g) (hv : look sl g = some (.bool b)) (hd : Nat.blt d n = true) (hsel : Region.noSelect ops = true) (hf : Region.free .any ops listed i = true) (hr : (Region.ready .any ops listed).contains i = true) (hiT : T.contains i = false)
    (ht : tailWaits ops T i = true) (hu : unlisted T listed = true) (hq : Qt P S n sl ⟨some d, op, ty, pos, af, none⟩ v) (hw : S w) (h : F n ((d, v) :: sl) w (wpT P ops Q S T fuel (listed.setIfInBounds i true))) : F n sl w (wpT P ops Q S T (fuel + 1) listed) := fun a ha =>
  wpT_first (C := S) hi (Region.noSelect_spec hsel) (fun c a w h => hQ.out c a (some d) v w h) (by simpa using hiT) fuel listed a w (Region.free_spec hi hf) (by simpa using hr)
    (.inl ⟨by simp [Region.wanted, yielded_look ha hj hv], fun w' hw' => hq a ha w' hw'⟩) (.inr ⟨fun _ h => h, ht, tun_of hu⟩) (fun _ => hw) (h _ (ha.put (o := some d) hd v))
/-- The one operation that may come up. -/
theorem dr_e (i : Nat) {d : Tmp} {op : Op} {ty : TypeId} {pos : String} {af : Array Edge} (hr : Region.ready .any ops listed = [i]) (hi : ops[i]? = some ⟨some d, op, ty, pos, af, none⟩) (hd : Nat.blt d n = true)
    (he : Ef P Q n sl ⟨some d, op, ty, pos, af, none⟩ w fun v w' => (unlisted T (listed.setIfInBounds i true) = true → S w') ∧ F n ((d, v) :: sl) w' (wpT P ops Q S T fuel (listed.setIfInBounds i true))) : F n sl w (wpT P ops Q S T (fuel + 1) listed) := fun a ha => by
  refine ⟨fun h => (by rw [h] at hr; cases hr), fun j hj => ?_⟩
  rw [hr] at hj
  obtain rfl : j = i := by simpa using hj
  unfold wpOp
  simp only [hi]
  rw [if_pos (wanted_none rfl _)]
  refine .inl (Oper.wp_mono ?_ (he a ha))
  rintro a' w' ⟨v, rfl, h1, h2⟩
  exact ⟨fun ht => h1 (List.all_eq_true.2 fun t h => by simpa using ht t h), h2 _ (ha.put (o := some d) hd v)⟩
/-- The same of a store: it may have been the last of the loads' worlds. -/
theorem dr_n (i : Nat) {op : Op} {ty : TypeId} {pos : String} {af : Array Edge} (hr : Region.ready .any ops listed = [i]) (hi : ops[i]? = some ⟨none, op, ty, pos, af, none⟩)
    (he : Ef P Q n sl ⟨none, op, ty, pos, af, none⟩ w fun v w' => (unlisted T (listed.setIfInBounds i true) = true → S w') ∧ F n sl w' (wpT P ops Q S T fuel (listed.setIfInBounds i true))) : F n sl w (wpT P ops Q S T (fuel + 1) listed) := fun a ha => by
  refine ⟨fun h => (by rw [h] at hr; cases hr), fun j hj => ?_⟩
  rw [hr] at hj
  obtain rfl : j = i := by simpa using hj
  unfold wpOp
  simp only [hi]
  rw [if_pos (wanted_none rfl _)]
  refine .inl (Oper.wp_mono ?_ (he a ha))
  rintro a' w' ⟨v, rfl, h1, h2⟩
  exact ⟨fun ht => h1 (List.all_eq_true.2 fun t h => by simpa using ht t h), h2 _ ha⟩
/-- Either of two operations may come up. -/
theorem dr_2 (i j : Nat) {d1 : Tmp} {op1 : Op} {ty1 : TypeId} {pos1 : String} {af1 : Array Edge} {d2 : Tmp} {op2 : Op} {ty2 : TypeId} {pos2 : String} {af2 : Array Edge} (hr : Region.ready .any ops listed = [i, j]) (hi : ops[i]? = some ⟨some d1, op1, ty1, pos1, af1, none⟩) (hj : ops[j]? = some ⟨some d2, op2, ty2, pos2, af2, none⟩) (hd1 : Nat.blt d1 n = true) (hd2 : Nat.blt d2 n = true)
    (h1 : Ef P Q n sl ⟨some d1, op1, ty1, pos1, af1, none⟩ w fun v w' => (unlisted T (listed.setIfInBounds i true) = true → S w') ∧ F n ((d1, v) :: sl) w' (wpT P ops Q S T fuel (listed.setIfInBounds i true)))
    (h2 : Ef P Q n sl ⟨some d2, op2, ty2, pos2, af2, none⟩ w fun v w' => (unlisted T (listed.setIfInBounds j true) = true → S w') ∧ F n ((d2, v) :: sl) w' (wpT P ops Q S T fuel (listed.setIfInBounds j true))) : F n sl w (wpT P ops Q S T (fuel + 1) listed) := fun a ha => by
  refine ⟨fun h => (by rw [h] at hr; cases hr), fun k hk => ?_⟩
  rw [hr] at hk
  have hk' : k = i ∨ k = j := by simpa using hk
  rcases hk' with rfl | rfl
  · unfold wpOp
    simp only [hi]
    rw [if_pos (wanted_none rfl _)]
    refine .inl (Oper.wp_mono ?_ (h1 a ha))
    rintro a' w' ⟨v, rfl, h1, h2⟩
    exact ⟨fun ht => h1 (List.all_eq_true.2 fun t h => by simpa using ht t h), h2 _ (ha.put (o := some d1) hd1 v)⟩
  · unfold wpOp
    simp only [hj]
    rw [if_pos (wanted_none rfl _)]
    refine .inl (Oper.wp_mono ?_ (h2 a ha))
    rintro a' w' ⟨v, rfl, h1, h2⟩
    exact ⟨fun ht => h1 (List.all_eq_true.2 fun t h => by simpa using ht t h), h2 _ (ha.put (o := some d2) hd2 v)⟩
theorem dr_done (hr : Region.ready .any ops listed = []) (h : F n sl w (Q .normal)) : F n sl w (wpT P ops Q S T fuel listed) := fun a ha => by
  cases fuel with
  | zero => exact ⟨hr, h a ha⟩
  | succ f => exact ⟨fun _ => h a ha, fun i hi => by rw [hr] at hi; cases hi⟩
end

/-! ### Small words for what is met again and again -/
theorem unl {T : List Nat} {l : Array Bool} {A : Prop} (h : unlisted T l = true) (h2 : unlisted T l = false) : A := by rw [h] at h2; cases h2

theorem rt {P : Program} {f : FuncId} {args : Array Value} {w : World} {R K : Value → World → Prop} (hc : Calls P f args w (Rt R)) (h : ∀ v w', R v w' → K v w') : Calls P f args w (Rt K) :=
  hc.mono fun e w' ⟨v, he, hr⟩ => ⟨v, he, h v w' hr⟩

theorem Kept.all {m : Nat} {Ts : List TypeId} {w w' : World} (h : Kept 0 [] w w') : Kept m Ts w w' := ⟨h.os, h.tape, h.output, h.size, fun b o hb _ => h.keep b o hb (.inr fun t ht => by cases ht)⟩
theorem kept_new {m : Nat} {Ts : List TypeId} {w0 w w' : World} {b : Nat} {o : Obj} (h : Kept m Ts w0 w) (hn : New w w' b o) : Kept m Ts w0 w' := h.trans (Kept.all hn.kept)
/-- A store into a block that lies beyond w0. -/
theorem kept_put_new {m : Nat} {Ts : List TypeId} {w0 w w' : World} {b : Nat} {o : Obj} (h : Kept m Ts w0 w) (hp : Put w w' b o) (hb : w0.heap.size ≤ b) : Kept m Ts w0 w' :=
  ⟨hp.os.trans h.os, hp.tape.trans h.tape, hp.output.trans h.output, by rw [hp.size]; exact h.size, fun k x hk hx => by
    have hlt := heap_lt hk
    rw [hp.other k (by omega)]
    exact h.keep k x hk hx⟩
/-- A store into a block of one of the types. -/
theorem kept_put {m : Nat} {Ts : List TypeId} {w0 w w' : World} {b : Nat} {c : Array Value} {t : TypeId} {f : Nat × Nat} {o : Obj} (h : Kept m Ts w0 w) (hp : Put w w' b o) (hb : w.heap[b]? = some (.cells c t f)) (ht : Ts.contains t = true) (hm : m ≤ b) : Kept m Ts w0 w' :=
  h.trans (hp.kept hb (by simpa using ht) hm)

theorem getk {w w' : World} (h : Kept 0 [] w w') {b : Nat} {o : Obj} (hb : w.heap[b]? = some o) : w'.heap[b]? = some o := h.keep b o hb (.inr fun t ht => by cases ht)
theorem gett {n : Nat} {Ts : List TypeId} {w w' : World} (h : Kept n Ts w w') {b : Nat} {c : Array Value} {t : TypeId} {f : Nat × Nat} (hb : w.heap[b]? = some (.cells c t f)) (ht : Ts.contains t = false) : w'.heap[b]? = some (.cells c t f) :=
  h.cells hb (by simpa using ht)
theorem getb {n : Nat} {Ts : List TypeId} {w w' : World} (h : Kept n Ts w w') {b : Nat} {o : Obj} (hb : w.heap[b]? = some o) (hn : b < n) : w'.heap[b]? = some o := h.keep b o hb (.inl hn)
theorem getp {w w' : World} {b : Nat} {o : Obj} (h : Put w w' b o) {k : Nat} {x : Obj} (hk : w.heap[k]? = some x) (hne : k ≠ b) : w'.heap[k]? = some x := by rw [h.other k hne]; exact hk
theorem blk_ne {w : World} {b b' : Nat} {c c' : Array Value} {t t' : TypeId} {f f' : Nat × Nat} (h : w.heap[b]? = some (.cells c t f)) (h' : w.heap[b']? = some (.cells c' t' f')) (hne : (t == t') = false) : b ≠ b' := by
  rintro rfl
  rw [h] at h'
  cases h'
  simp at hne
theorem blk_new {w w' : World} {b b' : Nat} {o : Obj} {x : Obj} (h : w.heap[b]? = some x) (hn : New w w' b' o) : b ≠ b' := by
  have := heap_lt h
  have := hn.fresh
  omega
def getL (c : Array Value) : Nat → Nat → Option (List Value)
  | _, 0 => some []
  | o, k + 1 => match nth c.toList o, getL c (o + 1) k with
    | some v, some r => some (v :: r)
    | _, _ => none
theorem getL_at {c : Array Value} : ∀ {k o : Nat} {vs : List Value}, getL c o k = some vs → vs.length = k ∧ At c o vs
  | 0, o, vs, h => by cases h; exact ⟨rfl, trivial⟩
  | k + 1, o, vs, h => by
    unfold getL at h
    split at h
    · rename_i v r hv hr
      cases h
      have := getL_at hr
      exact ⟨by simp [this.1], nthA hv, this.2⟩
    · cases h
section
variable {P : Program} {S : World → Prop} {n : Nat} {sl : Slots} {dst : Option Tmp} {ty : TypeId} {pos : String} {af : Array Edge} {g : Option (Nat × Bool)}
theorem q_loadL {T : TypeId} {x : Operand} {b o k : Nat} {vs : List Value} (hT : tk P T = some (true, k)) (hx : ev sl x = some (.pointer (some ⟨b, o, none⟩))) (hc : CN S b o vs) (hk : vs.length = k) : Qt P S n sl ⟨dst, .load T x, ty, pos, af, g⟩ (.agg vs.toArray) := by
  subst hk; exact q_loads hT hx hc
theorem q_loadB {w : World} {T : TypeId} {x : Operand} {b o k : Nat} {c : Array Value} {t : TypeId} {fr : Nat × Nat} {vs : List Value} (hT : tk P T = some (true, k)) (hx : ev sl x = some (.pointer (some ⟨b, o, none⟩))) (hb : w.heap[b]? = some (.cells c t fr)) (hc : getL c o k = some vs) : Qt P (Eq w) n sl ⟨dst, .load T x, ty, pos, af, g⟩ (.agg vs.toArray) :=
  q_loadL hT hx (cN hb (getL_at hc).2) (getL_at hc).1
theorem q_eq_t {t yt : TypeId} {x y : Operand} {k : IntKind} {p q : Int} (hx : ev sl x = some (.int k p)) (hy : ev sl y = some (.int k q)) (h : p = q) : Qt P S n sl ⟨dst, .binOp .eql t x y yt, ty, pos, af, g⟩ (.bool true) := by
  have := q_eq (P := P) (S := S) (n := n) (dst := dst) (t := t) (yt := yt) (ty := ty) (pos := pos) (af := af) (g := g) hx hy
  rwa [decide_eq_true h] at this
theorem q_eq_f {t yt : TypeId} {x y : Operand} {k : IntKind} {p q : Int} (hx : ev sl x = some (.int k p)) (hy : ev sl y = some (.int k q)) (h : ¬ (p = q)) : Qt P S n sl ⟨dst, .binOp .eql t x y yt, ty, pos, af, g⟩ (.bool false) := by
  have := q_eq (P := P) (S := S) (n := n) (dst := dst) (t := t) (yt := yt) (ty := ty) (pos := pos) (af := af) (g := g) hx hy
  rwa [decide_eq_false h] at this
theorem q_ne_t {t yt : TypeId} {x y : Operand} {k : IntKind} {p q : Int} (hx : ev sl x = some (.int k p)) (hy : ev sl y = some (.int k q)) (h : p ≠ q) : Qt P S n sl ⟨dst, .binOp .neq t x y yt, ty, pos, af, g⟩ (.bool true) := by
  have := q_ne (P := P) (S := S) (n := n) (dst := dst) (t := t) (yt := yt) (ty := ty) (pos := pos) (af := af) (g := g) hx hy
  rwa [decide_eq_true h] at this
theorem q_ne_f {t yt : TypeId} {x y : Operand} {k : IntKind} {p q : Int} (hx : ev sl x = some (.int k p)) (hy : ev sl y = some (.int k q)) (h : ¬ (p ≠ q)) : Qt P S n sl ⟨dst, .binOp .neq t x y yt, ty, pos, af, g⟩ (.bool false) := by
  have := q_ne (P := P) (S := S) (n := n) (dst := dst) (t := t) (yt := yt) (ty := ty) (pos := pos) (af := af) (g := g) hx hy
  rwa [decide_eq_false h] at this
theorem q_lt_t {t yt : TypeId} {x y : Operand} {k : IntKind} {p q : Int} (hx : ev sl x = some (.int k p)) (hy : ev sl y = some (.int k q)) (h : p < q) : Qt P S n sl ⟨dst, .binOp .lss t x y yt, ty, pos, af, g⟩ (.bool true) := by
  have := q_lt (P := P) (S := S) (n := n) (dst := dst) (t := t) (yt := yt) (ty := ty) (pos := pos) (af := af) (g := g) hx hy
  rwa [decide_eq_true h] at this
theorem q_lt_f {t yt : TypeId} {x y : Operand} {k : IntKind} {p q : Int} (hx : ev sl x = some (.int k p)) (hy : ev sl y = some (.int k q)) (h : ¬ (p < q)) : Qt P S n sl ⟨dst, .binOp .lss t x y yt, ty, pos, af, g⟩ (.bool false) := by
  have := q_lt (P := P) (S := S) (n := n) (dst := dst) (t := t) (yt := yt) (ty := ty) (pos := pos) (af := af) (g := g) hx hy
  rwa [decide_eq_false h] at this
theorem q_le_t {t yt : TypeId} {x y : Operand} {k : IntKind} {p q : Int} (hx : ev sl x = some (.int k p)) (hy : ev sl y = some (.int k q)) (h : p ≤ q) : Qt P S n sl ⟨dst, .binOp .leq t x y yt, ty, pos, af, g⟩ (.bool true) := by
  have := q_le (P := P) (S := S) (n := n) (dst := dst) (t := t) (yt := yt) (ty := ty) (pos := pos) (af := af) (g := g) hx hy
  rwa [decide_eq_true h] at this
theorem q_le_f {t yt : TypeId} {x y : Operand} {k : IntKind} {p q : Int} (hx : ev sl x = some (.int k p)) (hy : ev sl y = some (.int k q)) (h : ¬ (p ≤ q)) : Qt P S n sl ⟨dst, .binOp .leq t x y yt, ty, pos, af, g⟩ (.bool false) := by
  have := q_le (P := P) (S := S) (n := n) (dst := dst) (t := t) (yt := yt) (ty := ty) (pos := pos) (af := af) (g := g) hx hy
  rwa [decide_eq_false h] at this
theorem q_gt_t {t yt : TypeId} {x y : Operand} {k : IntKind} {p q : Int} (hx : ev sl x = some (.int k p)) (hy : ev sl y = some (.int k q)) (h : q < p) : Qt P S n sl ⟨dst, .binOp .gtr t x y yt, ty, pos, af, g⟩ (.bool true) := by
  have := q_gt (P := P) (S := S) (n := n) (dst := dst) (t := t) (yt := yt) (ty := ty) (pos := pos) (af := af) (g := g) hx hy
  rwa [decide_eq_true h] at this
theorem q_gt_f {t yt : TypeId} {x y : Operand} {k : IntKind} {p q : Int} (hx : ev sl x = some (.int k p)) (hy : ev sl y = some (.int k q)) (h : ¬ (q < p)) : Qt P S n sl ⟨dst, .binOp .gtr t x y yt, ty, pos, af, g⟩ (.bool false) := by
  have := q_gt (P := P) (S := S) (n := n) (dst := dst) (t := t) (yt := yt) (ty := ty) (pos := pos) (af := af) (g := g) hx hy
  rwa [decide_eq_false h] at this
theorem q_ge_t {t yt : TypeId} {x y : Operand} {k : IntKind} {p q : Int} (hx : ev sl x = some (.int k p)) (hy : ev sl y = some (.int k q)) (h : q ≤ p) : Qt P S n sl ⟨dst, .binOp .geq t x y yt, ty, pos, af, g⟩ (.bool true) := by
  have := q_ge (P := P) (S := S) (n := n) (dst := dst) (t := t) (yt := yt) (ty := ty) (pos := pos) (af := af) (g := g) hx hy
  rwa [decide_eq_true h] at this
theorem q_ge_f {t yt : TypeId} {x y : Operand} {k : IntKind} {p q : Int} (hx : ev sl x = some (.int k p)) (hy : ev sl y = some (.int k q)) (h : ¬ (q ≤ p)) : Qt P S n sl ⟨dst, .binOp .geq t x y yt, ty, pos, af, g⟩ (.bool false) := by
  have := q_ge (P := P) (S := S) (n := n) (dst := dst) (t := t) (yt := yt) (ty := ty) (pos := pos) (af := af) (g := g) hx hy
  rwa [decide_eq_false h] at this
theorem q_pick_t {c x y : Operand} {v : Value} (hc : ev sl c = some (.bool true)) (hx : ev sl x = some v) : Qt P S n sl ⟨dst, .pick c x y, ty, pos, af, g⟩ v := q_pick hc (fun _ => hx) (fun h => by cases h)
theorem q_pick_f {c x y : Operand} {v : Value} (hc : ev sl c = some (.bool false)) (hy : ev sl y = some v) : Qt P S n sl ⟨dst, .pick c x y, ty, pos, af, g⟩ v := q_pick hc (fun h => by cases h) (fun _ => hy)
theorem q_fa0 {s : TypeId} {x : Operand} {f b k : Nat} (hf : fo P s f = some k) (hx : ev sl x = some (.pointer (some ⟨b, 0, none⟩))) : Qt P S n sl ⟨dst, .fieldAddr s x f, ty, pos, af, g⟩ (.pointer (some ⟨b, k, none⟩)) := by
  have := q_fieldAddr (S := S) (dst := dst) (ty := ty) (pos := pos) (af := af) (g := g) (n := n) hf hx
  rwa [Nat.zero_add] at this
theorem q_fak {s : TypeId} {x : Operand} {f b o : Nat} (hf : fo P s f = some 0) (hx : ev sl x = some (.pointer (some ⟨b, o, none⟩))) : Qt P S n sl ⟨dst, .fieldAddr s x f, ty, pos, af, g⟩ (.pointer (some ⟨b, o, none⟩)) := q_fieldAddr hf hx
theorem q_index0 {t e : TypeId} {x ix : Operand} {k : IntKind} {i : Int} {j b len cap s by_ : Nat} (he : es P t = some (e, s, by_)) (hx : ev sl x = some (.slice (some ⟨b, 0, none⟩) len cap)) (hi : ev sl ix = some (.int k i)) (hj : i = (j : Int)) (hlt : j < len) :
    Qt P S n sl ⟨dst, .indexAddr t x ix, ty, pos, af, g⟩ (.pointer (some ⟨b, j * s, none⟩)) := by
  have := q_indexAddr (S := S) (dst := dst) (ty := ty) (pos := pos) (af := af) (g := g) (n := n) he hx hi hj hlt
  rwa [Nat.zero_add] at this
theorem q_index1 {t e : TypeId} {x ix : Operand} {k : IntKind} {i : Int} {j b len cap by_ : Nat} (he : es P t = some (e, 1, by_)) (hx : ev sl x = some (.slice (some ⟨b, 0, none⟩) len cap)) (hi : ev sl ix = some (.int k i)) (hj : i = (j : Int)) (hlt : j < len) :
    Qt P S n sl ⟨dst, .indexAddr t x ix, ty, pos, af, g⟩ (.pointer (some ⟨b, j, none⟩)) := by
  have := q_index0 (S := S) (dst := dst) (ty := ty) (pos := pos) (af := af) (g := g) (n := n) he hx hi hj hlt
  rwa [Nat.mul_one] at this
theorem q_index1o {t e : TypeId} {x ix : Operand} {k : IntKind} {i : Int} {j b o len cap by_ : Nat} (he : es P t = some (e, 1, by_)) (hx : ev sl x = some (.slice (some ⟨b, o, none⟩) len cap)) (hi : ev sl ix = some (.int k i)) (hj : i = (j : Int)) (hlt : j < len) :
    Qt P S n sl ⟨dst, .indexAddr t x ix, ty, pos, af, g⟩ (.pointer (some ⟨b, o + j, none⟩)) := by
  have := q_indexAddr (S := S) (dst := dst) (ty := ty) (pos := pos) (af := af) (g := g) (n := n) he hx hi hj hlt
  rwa [Nat.mul_one] at this
end
/-- A cell of a block whose type is none of Ts, in every world that keeps all others. -/
theorem c1k {m : Nat} {Ts : List TypeId} {w : World} {b o : Nat} {c : Array Value} {t : TypeId} {fr : Nat × Nat} {v : Value} (hb : w.heap[b]? = some (.cells c t fr)) (ht : Ts.contains t = false) (hc : nth c.toList o = some v) : C1 (Kept m Ts w) b o v := fun w' hk => cell_at (gett hk hb ht) hc
theorem cNk {m : Nat} {Ts : List TypeId} {w : World} {b o : Nat} {c : Array Value} {t : TypeId} {fr : Nat × Nat} {vs : List Value} (hb : w.heap[b]? = some (.cells c t fr)) (ht : Ts.contains t = false) (hc : At c o vs) : CN (Kept m Ts w) b o vs := fun w' hk j u hu => cell_of (gett hk hb ht) (hc.get j u hu)
theorem e_storeL {P : Program} {Q : Exit → Act → World → Prop} {n : Nat} {sl : Slots} {dst : Option Tmp} {ty : TypeId} {pos : String} {af : Array Edge} {g : Option (Nat × Bool)} {w : World} {K : Value → World → Prop} {T t k : TypeId} {x y : Operand} {vs : List Value} {b o : Nat} {c : Array Value} (hT : tk P T = some (true, k)) (hk : vs.length = k) (hx : ev sl x = some (.pointer (some ⟨b, o, none⟩))) (hy : ev sl y = some (.agg vs.toArray)) (hb : w.heap[b]? = some (.cells c t (0, 0)))
    (h1 : ∀ u ∈ vs, u.oneCell' = true) (hl : o + k ≤ c.size) (h : ∀ w', Put w w' b (.cells (setL c o vs) t (0, 0)) → K undef w') : Ef P Q n sl ⟨dst, .store T x y, ty, pos, af, g⟩ w K := by
  subst hk
  exact e_store (v := .agg vs.toArray) (by simpa [Value.cells] using hT) hx hy hb (by simpa [Value.cells] using h1) (by simpa [Value.cells] using hl) (by simpa [Value.cells] using h)
theorem e_store1 {P : Program} {Q : Exit → Act → World → Prop} {n : Nat} {sl : Slots} {dst : Option Tmp} {ty : TypeId} {pos : String} {af : Array Edge} {g : Option (Nat × Bool)} {w : World} {K : Value → World → Prop} {T t : TypeId} {x y : Operand} {v : Value} {b o : Nat} {c : Array Value} (hT : tk P T = some (false, 1)) (hx : ev sl x = some (.pointer (some ⟨b, o, none⟩))) (hy : ev sl y = some v) (h1 : v.oneCell' = true) (hb : w.heap[b]? = some (.cells c t (0, 0)))
    (hl : o < c.size) (h : ∀ w', Put w w' b (.cells (c.setIfInBounds o v) t (0, 0)) → K undef w') : Ef P Q n sl ⟨dst, .store T x y, ty, pos, af, g⟩ w K := by
  have hc : v.cells = #[v] := by cases v <;> first | rfl | (simp [Value.oneCell'] at h1)
  exact e_store (v := v) (by rw [hc]; exact hT) hx hy hb (by rw [hc]; simpa using h1) (by rw [hc]; exact hl) (by rw [hc]; exact h)
/-- The heap is as it was. -/
def Hp (w w' : World) : Prop := w'.heap = w.heap
theorem c1h {w : World} {b o : Nat} {v : Value} (h : w.cell? ⟨b, o, none⟩ = some v) : C1 (Hp w) b o v := fun w' hk => by
  rw [World.cell?_of_block (w := w) (a := ⟨b, o, none⟩) (by rw [show w'.heap = w.heap from hk])]; exact h
theorem cNh {w : World} {b o : Nat} {vs : List Value} (h : ∀ j u, vs[j]? = some u → w.cell? ⟨b, o + j, none⟩ = some u) : CN (Hp w) b o vs := fun w' hk j u hu => by
  rw [World.cell?_of_block (w := w) (a := ⟨b, o + j, none⟩) (by rw [show w'.heap = w.heap from hk])]; exact h j u hu
theorem kept_heap {m : Nat} {Ts : List TypeId} {w w' : World} (h : w'.heap = w.heap) (h1 : w'.os = w.os) (h2 : w'.tape = w.tape) (h3 : w'.output = w.output) : Kept m Ts w w' := ⟨h1, h2, h3, by rw [h]; exact Nat.le_refl _, fun b o hb _ => by rw [h]; exact hb⟩
theorem x_drawK {P : Program} {n : Nat} {sl : Slots} {w : World} {Q : Exit → Act → World → Prop} {id : Nat} {l : List Oper} (m : Nat) (Ts : List TypeId) (T : List Nat) (hm : P.follows .mixedOrders = true)
    (h : ∀ w', Kept 0 [] w w' → Kept m Ts w w' → F n sl w' (wpT P l.toArray Q (Kept m Ts w) T l.length (Array.replicate l.length false))) : F n sl w ((Code.region id l.toArray true).wp P Q) :=
  x_draw (Kept m Ts w) T hm (fun w' a b c d => kept_heap a b c d) fun w' _ h1 h2 => h w' h1 h2
theorem x_drawH {P : Program} {n : Nat} {sl : Slots} {w : World} {Q : Exit → Act → World → Prop} {id : Nat} {l : List Oper} (T : List Nat) (hm : P.follows .mixedOrders = true)
    (h : ∀ w', Kept 0 [] w w' → Hp w w' → F n sl w' (wpT P l.toArray Q (Hp w) T l.length (Array.replicate l.length false))) : F n sl w ((Code.region id l.toArray true).wp P Q) :=
  x_draw (Hp w) T hm (fun w' a b c d => a) fun w' _ h1 h2 => h w' h1 h2
theorem getK {w w' : World} (h : Hp w w') {b : Nat} {o : Obj} (hb : w.heap[b]? = some o) : w'.heap[b]? = some o := by rw [show w'.heap = w.heap from h]; exact hb
end Go.Proofs.YtnjjjfffppllfaaX
