/- The laws of the graph: chains and rings. -/
import Derived.Test.YtnjjjfffppllfaaLe
import Derived.Test.YtnjjjfffppllfaaLh
namespace Go.Proofs.YtnjjjfffppllfaaX.G
open Go.RowKit Go.Proofs.YtnjjjfffppllfaaK
attribute [local irreducible] F Qt Ef Code.wp wpList wpT bodyPost Calls
set_option linter.unusedVariables false
set_option linter.unusedSimpArgs false

def gl (n : Nat) (xs : Nat → List Nat) : List (List Int) := (List.range n).map fun c => (xs c).map Int.ofNat
theorem gl_len (n : Nat) (xs : Nat → List Nat) : (gl n xs).length = n := by simp [gl]
theorem es_gl {n : Nat} {xs : Nat → List Nat} {x : Nat} (hx : x < n) (h : ∀ z ∈ xs x, z < n) : esOf (gl n xs) x = (xs x).map some := by
  have h1 : (gl n xs).getD x [] = (xs x).map Int.ofNat := by simp [gl, hx]
  rw [esOf, h1, gl_len, List.map_map]
  refine List.map_congr_left fun z hz => ?_
  have := h z hz
  simp only [Function.comp, tgtO]
  rw [if_neg (by simp; omega)]
  simp
theorem es_gl_out {n : Nat} {xs : Nat → List Nat} {x : Nat} (hx : ¬ x < n) : esOf (gl n xs) x = [] := by
  have h1 : (gl n xs).getD x [] = [] := by simp [gl, Nat.le_of_not_lt hx]
  rw [esOf, h1]; rfl
/-- A row of its own is set in. -/
theorem Nest.set {β : Type} {E : TypeId} {f : β → List Value} {n0 n : Nat} {w w' : World} {vs : Nat → Value} {xs : Nat → List β} (h : Nest E f n0 w n vs xs) (hk : Kept 0 [] w w') {c : Nat} {v' : Value} {l : List β} (ho : w'.ownsRow n0 E 1 v' l.length (l.flatMap f)) (hf : ∀ b, v'.ownBlock = some b → w.heap.size ≤ b) :
    Nest E f n0 w' n (Tj.upd vs c v') (Tj.upd xs c l) := by
  have h' := h.grow hk
  refine ⟨fun d hd => ?_, fun d e b hd he hde hb hb' => ?_⟩
  · by_cases e : d = c
    · subst e; rw [Tj.upd_i, Tj.upd_i]; exact ho
    · rw [Tj.upd_o _ _ e, Tj.upd_o _ _ e]; exact h'.own d hd
  · by_cases e1 : d = c
    · subst e1
      rw [Tj.upd_i] at hb
      rw [Tj.upd_o _ _ (Ne.symm hde)] at hb'
      have := hf b hb
      have := ((h.own e he).lt b hb').2
      omega
    · rw [Tj.upd_o _ _ e1] at hb
      by_cases e2 : e = c
      · subst e2
        rw [Tj.upd_i] at hb'
        have := hf b hb'
        have := ((h.own d hd).lt b hb).2
        omega
      · rw [Tj.upd_o _ _ e2] at hb'
        exact h.sep d e b hd he hde hb hb'

theorem filter_one {n k : Nat} (hk : k < n) : (List.range n).filter (fun x => decide (x = k)) = [k] := by
  induction n with
  | zero => omega
  | succ n ih =>
    rw [List.range_succ, List.filter_append]
    by_cases e : k = n
    · subst e
      have : (List.range k).filter (fun x => decide (x = k)) = [] := by
        rw [List.filter_eq_nil_iff]
        intro a ha
        have := List.mem_range.1 ha
        simp; omega
      rw [this]; simp
    · rw [ih (by omega)]
      have : ¬ n = k := fun h => e h.symm
      simp [this]
def chainC (k : Nat) : List (List Nat) := (List.range k).map fun s => [k - 1 - s]
theorem chain_canon {m : Nat} {es : Tj.Es} (h1 : ∀ x, x + 1 < m → es x = [some (x + 1)]) (h2 : ∀ x, m ≤ x + 1 → es x = []) : ∀ k, k ≤ m → Tj.Canon m es (fun j => k ≤ j) (chainC k)
  | 0, _ => .nil fun i _ => Nat.zero_le i
  | k + 1, hk => by
    have hle : ∀ x y, Tj.R es x y → x ≤ y := fun x y hr => by
      induction hr with
      | refl => exact Nat.le_refl _
      | @step y z _ e ih =>
        by_cases hy : y + 1 < m
        · rw [h1 y hy] at e; simp at e; omega
        · rw [h2 y (by omega)] at e; cases e
    have ed : ∀ x t, some t ∈ es x → t = x + 1 := fun x t ht => by
      by_cases hx : x + 1 < m
      · rw [h1 x hx] at ht; simpa using ht
      · rw [h2 x (by omega)] at ht; cases ht
    have e : chainC (k + 1) = [k] :: chainC k := by
      simp only [chainC, List.range_succ_eq_map, List.map_cons, List.map_map, Nat.add_sub_cancel, Nat.sub_zero]
      congr 1
      refine List.map_congr_left fun s hs => ?_
      have := List.mem_range.1 hs
      simp only [Function.comp]
      congr 1
      omega
    rw [e]
    refine .step (i := k) (fun x => decide (x = k)) (filter_one (by omega)).symm (by omega) (by simp) (by omega) (fun x hx t ht => ?_) (fun j hj hp => ?_) (fun x hx t ht => ?_) (fun k' hk' hg => ?_) ?_
    · have := ed x t ht; omega
    · obtain rfl : j = k := by simpa using hp
      exact ⟨.refl _, .refl _⟩
    · obtain rfl : x = k := by simpa using hx
      exact .inr (by have := ed x t ht; omega)
    · have hr : Tj.R es k' (k' + 1) := .edge (by rw [h1 k' (by omega)]; simp)
      rcases hg.2.2 (k' + 1) (by omega) hr with h | h
      · have := hle _ _ h; omega
      · omega
    · have e2 : (fun j => k + 1 ≤ j ∨ j ∈ [k]) = fun j => k ≤ j := by
        funext j
        rw [List.mem_singleton]
        exact propext ⟨fun h => by omega, fun h => by omega⟩
      rw [e2]
      exact chain_canon h1 h2 k (by omega)
theorem ring_canon {m : Nat} {es : Tj.Es} (hm : 0 < m) (h1 : ∀ x, x + 1 < m → es x = [some (x + 1)]) (h2 : es (m - 1) = [some 0]) (h3 : ∀ x, m ≤ x → es x = []) : Tj.Canon m es (fun _ => False) [List.range m] := by
  have up : ∀ d x, x + d < m → Tj.R es x (x + d) := fun d => by
    induction d with
    | zero => exact fun x _ => .refl _
    | succ d ih => exact fun x hx => .step (ih x (by omega)) (by rw [h1 (x + d) (by omega)]; simp; omega)
  have to : ∀ x y, x ≤ y → y < m → Tj.R es x y := fun x y h hy => by
    have := up (y - x) x (by omega)
    rwa [show x + (y - x) = y by omega] at this
  have back : Tj.R es (m - 1) 0 := .edge (by rw [h2]; simp)
  refine .step (i := 0) (fun x => decide (x < m)) ?_ hm (by simpa using hm) (fun h => h) (fun x h => h.elim) (fun j hj _ => ⟨to 0 j (Nat.zero_le _) hj, (to j (m - 1) (by omega) (by omega)).trans back⟩) (fun x hx t ht => .inl ?_) (fun k hk => by omega) (.nil fun i hi => .inr (by simpa using hi))
  · rw [List.filter_eq_self.2]
    intro a ha
    simpa using ha
  · have hx : x < m := by simpa using hx
    by_cases hx1 : x + 1 < m
    · rw [h1 x hx1] at ht; simp at ht; simp; omega
    · obtain rfl : x = m - 1 := by omega
      rw [h2] at ht; simp at ht; simp; omega

def ringX (m : Nat) (r : Bool) (c : Nat) : List Nat := if c + 1 < m then [c + 1] else if r then [0] else []
set_option maxHeartbeats 8000000 in
theorem long_c {w : World} {z : Int} {r : Bool} : Calls Try.prog 6 #[.int .i64 z, .bool r] w (Rt fun v w' => v = .bool true ∧ Old w w') := by
  obtain ⟨m, hm, hm1, hm2⟩ : ∃ m : Nat, (1 : Int) + z % ((2 ^ 12 : Nat) : Int) = (m : Int) ∧ 1 ≤ m ∧ m ≤ 4096 := ⟨(1 + z % 4096).toNat, by simp; omega, by omega, by omega⟩
  refine x_enter (n := 94) [(0, _), (1, _)] Try.func6 rfl Try.ntmps6 rfl (And.intro rfl (And.intro rfl trivial)) ?_
  repeat (first | refine x_seq ?_ | refine x_reg ?_ | refine x_nil ?_ | refine x_then_n ?_ | refine rl_q rfl (q_move rfl) ?_ | refine rl_q rfl (q_nil rfl) ?_ | refine rl_q rfl (q_fa0 (by exact Fo.out) rfl) ?_ | refine rl_q rfl (q_fak (by exact Fo.out) rfl) ?_ | refine rl_q rfl (q_fieldAddr (by exact Fo.out) rfl) ?_ | refine rl_q rfl (q_assign rfl) ?_ | refine rl_q rfl (q_len rfl (by kernel_rfl) rfl) ?_ | refine rl_q rfl (q_extract rfl rfl) ?_ | refine rl_q rfl (q_addi _ rfl rfl rfl (by omega) (by omega)) ?_ | refine rl_q rfl (q_subi _ rfl rfl rfl (by omega) (by omega)) ?_ | refine rl_q rfl (q_muli _ rfl rfl rfl (by omega) (by omega)) ?_ | refine rl_q rfl (q_pick_t rfl rfl) ?_ | refine rl_q rfl (q_pick_f rfl rfl) ?_ | refine rl_q rfl (q_lt_t rfl rfl (by omega)) ?_ | refine rl_q rfl (q_lt_f rfl rfl (by omega)) ?_ | refine rl_q rfl (q_le_t rfl rfl (by omega)) ?_ | refine rl_q rfl (q_le_f rfl rfl (by omega)) ?_ | refine rl_q rfl (q_gt_t rfl rfl (by omega)) ?_ | refine rl_q rfl (q_gt_f rfl rfl (by omega)) ?_ | refine rl_q rfl (q_ge_t rfl rfl (by omega)) ?_ | refine rl_q rfl (q_ge_f rfl rfl (by omega)) ?_ | refine rl_q rfl (q_eq_t rfl rfl (by omega)) ?_ | refine rl_q rfl (q_eq_f rfl rfl (by omega)) ?_ | refine rl_q rfl (q_ne_t rfl rfl (by omega)) ?_ | refine rl_q rfl (q_ne_f rfl rfl (by omega)) ?_ | refine rl_q rfl (q_lt rfl rfl) ?_ | refine rl_q rfl (q_le rfl rfl) ?_ | refine rl_q rfl (q_gt rfl rfl) ?_ | refine rl_q rfl (q_ge rfl rfl) ?_ | refine rl_q rfl (q_eq rfl rfl) ?_ | refine rl_q rfl (q_ne rfl rfl) ?_ | refine rl_q rfl (q_not rfl) ?_ | refine rl_q rfl (q_nilf rfl) ?_ | refine rl_q rfl (q_makeFunc rfl rfl) ?_ | refine rl_q rfl (q_field (by exact Fo.out) (by kernel_rfl) rfl rfl) ?_ | refine rl_q rfl (q_load (by exact Tk.out) rfl (c1 (by assumption) (by rfl))) ?_ | refine rl_q rfl (q_loadB (by exact Tk.out) rfl (by assumption) (by rfl)) ?_ | refine rl_q rfl (q_load (by exact Tk.out) rfl (c1_cell (by assumption))) ?_ | refine x_blk_n ?_ | refine x_block ?_ | refine x_skip ?_ | refine x_label ?_ | refine x_ret ?_ | refine x_exit ?_ | refine x_then_r ?_ | refine x_then_e ?_ | refine x_blk_e ?_ | refine x_blk_r ?_ | refine x_blk_o rfl ?_ | refine x_cond_t rfl ?_ | refine x_cond_f rfl ?_ | refine rl_go rfl rfl ?_ | refine rl_no rfl rfl rfl rfl ?_)
  refine rl_e rfl (e_call (by exact Hs.out) rfl (rt (head_c w) fun v w1 hv => ?_))
  obtain ⟨rfl, o1⟩ := hv
  repeat (first | refine x_seq ?_ | refine x_reg ?_ | refine x_nil ?_ | refine x_then_n ?_ | refine rl_q rfl (q_move rfl) ?_ | refine rl_q rfl (q_nil rfl) ?_ | refine rl_q rfl (q_fa0 (by exact Fo.out) rfl) ?_ | refine rl_q rfl (q_fak (by exact Fo.out) rfl) ?_ | refine rl_q rfl (q_fieldAddr (by exact Fo.out) rfl) ?_ | refine rl_q rfl (q_assign rfl) ?_ | refine rl_q rfl (q_len rfl (by kernel_rfl) rfl) ?_ | refine rl_q rfl (q_extract rfl rfl) ?_ | refine rl_q rfl (q_addi _ rfl rfl rfl (by omega) (by omega)) ?_ | refine rl_q rfl (q_subi _ rfl rfl rfl (by omega) (by omega)) ?_ | refine rl_q rfl (q_muli _ rfl rfl rfl (by omega) (by omega)) ?_ | refine rl_q rfl (q_pick_t rfl rfl) ?_ | refine rl_q rfl (q_pick_f rfl rfl) ?_ | refine rl_q rfl (q_lt_t rfl rfl (by omega)) ?_ | refine rl_q rfl (q_lt_f rfl rfl (by omega)) ?_ | refine rl_q rfl (q_le_t rfl rfl (by omega)) ?_ | refine rl_q rfl (q_le_f rfl rfl (by omega)) ?_ | refine rl_q rfl (q_gt_t rfl rfl (by omega)) ?_ | refine rl_q rfl (q_gt_f rfl rfl (by omega)) ?_ | refine rl_q rfl (q_ge_t rfl rfl (by omega)) ?_ | refine rl_q rfl (q_ge_f rfl rfl (by omega)) ?_ | refine rl_q rfl (q_eq_t rfl rfl (by omega)) ?_ | refine rl_q rfl (q_eq_f rfl rfl (by omega)) ?_ | refine rl_q rfl (q_ne_t rfl rfl (by omega)) ?_ | refine rl_q rfl (q_ne_f rfl rfl (by omega)) ?_ | refine rl_q rfl (q_lt rfl rfl) ?_ | refine rl_q rfl (q_le rfl rfl) ?_ | refine rl_q rfl (q_gt rfl rfl) ?_ | refine rl_q rfl (q_ge rfl rfl) ?_ | refine rl_q rfl (q_eq rfl rfl) ?_ | refine rl_q rfl (q_ne rfl rfl) ?_ | refine rl_q rfl (q_not rfl) ?_ | refine rl_q rfl (q_nilf rfl) ?_ | refine rl_q rfl (q_makeFunc rfl rfl) ?_ | refine rl_q rfl (q_field (by exact Fo.out) (by kernel_rfl) rfl rfl) ?_ | refine rl_q rfl (q_load (by exact Tk.out) rfl (c1 (by assumption) (by rfl))) ?_ | refine rl_q rfl (q_loadB (by exact Tk.out) rfl (by assumption) (by rfl)) ?_ | refine rl_q rfl (q_load (by exact Tk.out) rfl (c1_cell (by assumption))) ?_ | refine x_blk_n ?_ | refine x_block ?_ | refine x_skip ?_ | refine x_label ?_ | refine x_ret ?_ | refine x_exit ?_ | refine x_then_r ?_ | refine x_then_e ?_ | refine x_blk_e ?_ | refine x_blk_r ?_ | refine x_blk_o rfl ?_ | refine x_cond_t rfl ?_ | refine x_cond_f rfl ?_ | refine rl_go rfl rfl ?_ | refine rl_no rfl rfl rfl rfl ?_)
  refine rl_q rfl (q_and 12 (by decide) rfl rfl (by decide)) ?_
  refine rl_q rfl (q_addi (m : Int) rfl rfl hm (by omega) (by omega)) ?_
  repeat (first | refine x_seq ?_ | refine x_reg ?_ | refine x_nil ?_ | refine x_then_n ?_ | refine rl_q rfl (q_move rfl) ?_ | refine rl_q rfl (q_nil rfl) ?_ | refine rl_q rfl (q_fa0 (by exact Fo.out) rfl) ?_ | refine rl_q rfl (q_fak (by exact Fo.out) rfl) ?_ | refine rl_q rfl (q_fieldAddr (by exact Fo.out) rfl) ?_ | refine rl_q rfl (q_assign rfl) ?_ | refine rl_q rfl (q_len rfl (by kernel_rfl) rfl) ?_ | refine rl_q rfl (q_extract rfl rfl) ?_ | refine rl_q rfl (q_addi _ rfl rfl rfl (by omega) (by omega)) ?_ | refine rl_q rfl (q_subi _ rfl rfl rfl (by omega) (by omega)) ?_ | refine rl_q rfl (q_muli _ rfl rfl rfl (by omega) (by omega)) ?_ | refine rl_q rfl (q_pick_t rfl rfl) ?_ | refine rl_q rfl (q_pick_f rfl rfl) ?_ | refine rl_q rfl (q_lt_t rfl rfl (by omega)) ?_ | refine rl_q rfl (q_lt_f rfl rfl (by omega)) ?_ | refine rl_q rfl (q_le_t rfl rfl (by omega)) ?_ | refine rl_q rfl (q_le_f rfl rfl (by omega)) ?_ | refine rl_q rfl (q_gt_t rfl rfl (by omega)) ?_ | refine rl_q rfl (q_gt_f rfl rfl (by omega)) ?_ | refine rl_q rfl (q_ge_t rfl rfl (by omega)) ?_ | refine rl_q rfl (q_ge_f rfl rfl (by omega)) ?_ | refine rl_q rfl (q_eq_t rfl rfl (by omega)) ?_ | refine rl_q rfl (q_eq_f rfl rfl (by omega)) ?_ | refine rl_q rfl (q_ne_t rfl rfl (by omega)) ?_ | refine rl_q rfl (q_ne_f rfl rfl (by omega)) ?_ | refine rl_q rfl (q_lt rfl rfl) ?_ | refine rl_q rfl (q_le rfl rfl) ?_ | refine rl_q rfl (q_gt rfl rfl) ?_ | refine rl_q rfl (q_ge rfl rfl) ?_ | refine rl_q rfl (q_eq rfl rfl) ?_ | refine rl_q rfl (q_ne rfl rfl) ?_ | refine rl_q rfl (q_not rfl) ?_ | refine rl_q rfl (q_nilf rfl) ?_ | refine rl_q rfl (q_makeFunc rfl rfl) ?_ | refine rl_q rfl (q_field (by exact Fo.out) (by kernel_rfl) rfl rfl) ?_ | refine rl_q rfl (q_load (by exact Tk.out) rfl (c1 (by assumption) (by rfl))) ?_ | refine rl_q rfl (q_loadB (by exact Tk.out) rfl (by assumption) (by rfl)) ?_ | refine rl_q rfl (q_load (by exact Tk.out) rfl (c1_cell (by assumption))) ?_ | refine x_blk_n ?_ | refine x_block ?_ | refine x_skip ?_ | refine x_label ?_ | refine x_ret ?_ | refine x_exit ?_ | refine x_then_r ?_ | refine x_then_e ?_ | refine x_blk_e ?_ | refine x_blk_r ?_ | refine x_blk_o rfl ?_ | refine x_cond_t rfl ?_ | refine x_cond_f rfl ?_ | refine rl_go rfl rfl ?_ | refine rl_no rfl rfl rfl rfl ?_)
  refine rl_e rfl (e_mk1 (m := m) (by exact Us.out) (by exact Zi.out) rfl rfl rfl (by omega) (by omega) fun bm w2 n2 => ?_)
  have h2 := n2.here
  rw [rowV_rep] at h2
  have o2 : Old w w2 := o1.grow n2.kept
  have z1 := o1.size
  have z2 := o2.size
  have l2 := heap_lt h2
  have f2 := n2.fresh
  repeat (first | refine x_seq ?_ | refine x_reg ?_ | refine x_nil ?_ | refine x_then_n ?_ | refine rl_q rfl (q_move rfl) ?_ | refine rl_q rfl (q_nil rfl) ?_ | refine rl_q rfl (q_fa0 (by exact Fo.out) rfl) ?_ | refine rl_q rfl (q_fak (by exact Fo.out) rfl) ?_ | refine rl_q rfl (q_fieldAddr (by exact Fo.out) rfl) ?_ | refine rl_q rfl (q_assign rfl) ?_ | refine rl_q rfl (q_len rfl (by kernel_rfl) rfl) ?_ | refine rl_q rfl (q_extract rfl rfl) ?_ | refine rl_q rfl (q_addi _ rfl rfl rfl (by omega) (by omega)) ?_ | refine rl_q rfl (q_subi _ rfl rfl rfl (by omega) (by omega)) ?_ | refine rl_q rfl (q_muli _ rfl rfl rfl (by omega) (by omega)) ?_ | refine rl_q rfl (q_pick_t rfl rfl) ?_ | refine rl_q rfl (q_pick_f rfl rfl) ?_ | refine rl_q rfl (q_lt_t rfl rfl (by omega)) ?_ | refine rl_q rfl (q_lt_f rfl rfl (by omega)) ?_ | refine rl_q rfl (q_le_t rfl rfl (by omega)) ?_ | refine rl_q rfl (q_le_f rfl rfl (by omega)) ?_ | refine rl_q rfl (q_gt_t rfl rfl (by omega)) ?_ | refine rl_q rfl (q_gt_f rfl rfl (by omega)) ?_ | refine rl_q rfl (q_ge_t rfl rfl (by omega)) ?_ | refine rl_q rfl (q_ge_f rfl rfl (by omega)) ?_ | refine rl_q rfl (q_eq_t rfl rfl (by omega)) ?_ | refine rl_q rfl (q_eq_f rfl rfl (by omega)) ?_ | refine rl_q rfl (q_ne_t rfl rfl (by omega)) ?_ | refine rl_q rfl (q_ne_f rfl rfl (by omega)) ?_ | refine rl_q rfl (q_lt rfl rfl) ?_ | refine rl_q rfl (q_le rfl rfl) ?_ | refine rl_q rfl (q_gt rfl rfl) ?_ | refine rl_q rfl (q_ge rfl rfl) ?_ | refine rl_q rfl (q_eq rfl rfl) ?_ | refine rl_q rfl (q_ne rfl rfl) ?_ | refine rl_q rfl (q_not rfl) ?_ | refine rl_q rfl (q_nilf rfl) ?_ | refine rl_q rfl (q_makeFunc rfl rfl) ?_ | refine rl_q rfl (q_field (by exact Fo.out) (by kernel_rfl) rfl rfl) ?_ | refine rl_q rfl (q_load (by exact Tk.out) rfl (c1 (by assumption) (by rfl))) ?_ | refine rl_q rfl (q_loadB (by exact Tk.out) rfl (by assumption) (by rfl)) ?_ | refine rl_q rfl (q_load (by exact Tk.out) rfl (c1_cell (by assumption))) ?_ | refine x_blk_n ?_ | refine x_block ?_ | refine x_skip ?_ | refine x_label ?_ | refine x_ret ?_ | refine x_exit ?_ | refine x_then_r ?_ | refine x_then_e ?_ | refine x_blk_e ?_ | refine x_blk_r ?_ | refine x_blk_o rfl ?_ | refine x_cond_t rfl ?_ | refine x_cond_f rfl ?_ | refine rl_go rfl rfl ?_ | refine rl_no rfl rfl rfl rfl ?_)
  refine x_loop (γ := Nat × (Nat → Value) × (Nat → List Nat)) (fun g => [(0, .int .i64 (m : Int)), (1, .bool r), (5, .slice (some ⟨bm, 0, none⟩) m m), (6, .int .i64 (g.1 : Int))])
    (fun g w' => g.1 + 1 ≤ m ∧ w'.heap[bm]? = some (.cells (rowV m g.2.1) 37 (0, 0)) ∧ Nest 3 ints w2.heap.size w' m g.2.1 g.2.2 ∧ (∀ c, g.2.2 c = if c < g.1 then [c + 1] else []) ∧ Old w w' ∧ w2.heap.size ≤ w'.heap.size) (fun g => m - g.1)
    (0, fun _ => .slice none 0 0, fun _ => []) (And.intro rfl (And.intro rfl (And.intro rfl (And.intro rfl trivial)))) ⟨by simpa using hm1, h2, .nil _ _ _, by simp, o2, Nat.le_refl _⟩ ?_
  rintro ⟨i, vs, xs⟩ w3 ⟨hi, h3, ns3, hx3, o3, z3⟩
  dsimp only at hi h3 ns3 hx3 o3 z3 ⊢
  by_cases hil : i + 1 < m
  · have hil' : i < m := by omega
    repeat (first | refine x_seq ?_ | refine x_reg ?_ | refine x_nil ?_ | refine x_then_n ?_ | refine rl_q rfl (q_move rfl) ?_ | refine rl_q rfl (q_nil rfl) ?_ | refine rl_q rfl (q_fa0 (by exact Fo.out) rfl) ?_ | refine rl_q rfl (q_fak (by exact Fo.out) rfl) ?_ | refine rl_q rfl (q_fieldAddr (by exact Fo.out) rfl) ?_ | refine rl_q rfl (q_assign rfl) ?_ | refine rl_q rfl (q_len rfl (by kernel_rfl) rfl) ?_ | refine rl_q rfl (q_extract rfl rfl) ?_ | refine rl_q rfl (q_addi _ rfl rfl rfl (by omega) (by omega)) ?_ | refine rl_q rfl (q_subi _ rfl rfl rfl (by omega) (by omega)) ?_ | refine rl_q rfl (q_muli _ rfl rfl rfl (by omega) (by omega)) ?_ | refine rl_q rfl (q_pick_t rfl rfl) ?_ | refine rl_q rfl (q_pick_f rfl rfl) ?_ | refine rl_q rfl (q_lt_t rfl rfl (by omega)) ?_ | refine rl_q rfl (q_lt_f rfl rfl (by omega)) ?_ | refine rl_q rfl (q_le_t rfl rfl (by omega)) ?_ | refine rl_q rfl (q_le_f rfl rfl (by omega)) ?_ | refine rl_q rfl (q_gt_t rfl rfl (by omega)) ?_ | refine rl_q rfl (q_gt_f rfl rfl (by omega)) ?_ | refine rl_q rfl (q_ge_t rfl rfl (by omega)) ?_ | refine rl_q rfl (q_ge_f rfl rfl (by omega)) ?_ | refine rl_q rfl (q_eq_t rfl rfl (by omega)) ?_ | refine rl_q rfl (q_eq_f rfl rfl (by omega)) ?_ | refine rl_q rfl (q_ne_t rfl rfl (by omega)) ?_ | refine rl_q rfl (q_ne_f rfl rfl (by omega)) ?_ | refine rl_q rfl (q_lt rfl rfl) ?_ | refine rl_q rfl (q_le rfl rfl) ?_ | refine rl_q rfl (q_gt rfl rfl) ?_ | refine rl_q rfl (q_ge rfl rfl) ?_ | refine rl_q rfl (q_eq rfl rfl) ?_ | refine rl_q rfl (q_ne rfl rfl) ?_ | refine rl_q rfl (q_not rfl) ?_ | refine rl_q rfl (q_nilf rfl) ?_ | refine rl_q rfl (q_makeFunc rfl rfl) ?_ | refine rl_q rfl (q_field (by exact Fo.out) (by kernel_rfl) rfl rfl) ?_ | refine rl_q rfl (q_load (by exact Tk.out) rfl (c1 (by assumption) (by rfl))) ?_ | refine rl_q rfl (q_loadB (by exact Tk.out) rfl (by assumption) (by rfl)) ?_ | refine rl_q rfl (q_load (by exact Tk.out) rfl (c1_cell (by assumption))) ?_ | refine x_blk_n ?_ | refine x_block ?_ | refine x_skip ?_ | refine x_label ?_ | refine x_ret ?_ | refine x_exit ?_ | refine x_then_r ?_ | refine x_then_e ?_ | refine x_blk_e ?_ | refine x_blk_r ?_ | refine x_blk_o rfl ?_ | refine x_cond_t rfl ?_ | refine x_cond_f rfl ?_ | refine rl_go rfl rfl ?_ | refine rl_no rfl rfl rfl rfl ?_)
    refine rl_e rfl (e_buildSlice (e := 3) (cs := (ints (i + 1)).toArray) rfl (fun _ => by kernel_rfl) fun b4 w4 n4 => ?_)
    have h4 := getk n4.kept h3
    have own4 : w4.ownsRow w2.heap.size 3 1 (.slice (some ⟨b4, 0, none⟩) [i + 1].length 1) [i + 1].length ([i + 1].flatMap ints) := row_make ints_len (by have := n4.fresh; omega) n4.here (Nat.le_refl _) (by decide) rfl rfl
    have ns4 := Nest.set ns3 n4.kept (c := i) own4 (fun b hb => by
      have : b4 = b := by simpa [Value.ownBlock] using hb
      have := n4.fresh; omega)
    refine rl_q rfl (q_index1 (by exact Es.out) rfl rfl rfl hil') ?_
    refine rl_n (e_store1 (by exact Tk.out) rfl rfl rfl h4 (by rw [rowV_size]; exact hil') fun w5 p5 => ?_)
    have ns5 := ns4.puto p5 l2
    have h5 := putV p5
    have z5 := p5.size
    have z4 := n4.kept.size
    repeat (first | refine x_seq ?_ | refine x_reg ?_ | refine x_nil ?_ | refine x_then_n ?_ | refine rl_q rfl (q_move rfl) ?_ | refine rl_q rfl (q_nil rfl) ?_ | refine rl_q rfl (q_fa0 (by exact Fo.out) rfl) ?_ | refine rl_q rfl (q_fak (by exact Fo.out) rfl) ?_ | refine rl_q rfl (q_fieldAddr (by exact Fo.out) rfl) ?_ | refine rl_q rfl (q_assign rfl) ?_ | refine rl_q rfl (q_len rfl (by kernel_rfl) rfl) ?_ | refine rl_q rfl (q_extract rfl rfl) ?_ | refine rl_q rfl (q_addi _ rfl rfl rfl (by omega) (by omega)) ?_ | refine rl_q rfl (q_subi _ rfl rfl rfl (by omega) (by omega)) ?_ | refine rl_q rfl (q_muli _ rfl rfl rfl (by omega) (by omega)) ?_ | refine rl_q rfl (q_pick_t rfl rfl) ?_ | refine rl_q rfl (q_pick_f rfl rfl) ?_ | refine rl_q rfl (q_lt_t rfl rfl (by omega)) ?_ | refine rl_q rfl (q_lt_f rfl rfl (by omega)) ?_ | refine rl_q rfl (q_le_t rfl rfl (by omega)) ?_ | refine rl_q rfl (q_le_f rfl rfl (by omega)) ?_ | refine rl_q rfl (q_gt_t rfl rfl (by omega)) ?_ | refine rl_q rfl (q_gt_f rfl rfl (by omega)) ?_ | refine rl_q rfl (q_ge_t rfl rfl (by omega)) ?_ | refine rl_q rfl (q_ge_f rfl rfl (by omega)) ?_ | refine rl_q rfl (q_eq_t rfl rfl (by omega)) ?_ | refine rl_q rfl (q_eq_f rfl rfl (by omega)) ?_ | refine rl_q rfl (q_ne_t rfl rfl (by omega)) ?_ | refine rl_q rfl (q_ne_f rfl rfl (by omega)) ?_ | refine rl_q rfl (q_lt rfl rfl) ?_ | refine rl_q rfl (q_le rfl rfl) ?_ | refine rl_q rfl (q_gt rfl rfl) ?_ | refine rl_q rfl (q_ge rfl rfl) ?_ | refine rl_q rfl (q_eq rfl rfl) ?_ | refine rl_q rfl (q_ne rfl rfl) ?_ | refine rl_q rfl (q_not rfl) ?_ | refine rl_q rfl (q_nilf rfl) ?_ | refine rl_q rfl (q_makeFunc rfl rfl) ?_ | refine rl_q rfl (q_field (by exact Fo.out) (by kernel_rfl) rfl rfl) ?_ | refine rl_q rfl (q_load (by exact Tk.out) rfl (c1 (by assumption) (by rfl))) ?_ | refine rl_q rfl (q_loadB (by exact Tk.out) rfl (by assumption) (by rfl)) ?_ | refine rl_q rfl (q_load (by exact Tk.out) rfl (c1_cell (by assumption))) ?_ | refine x_blk_n ?_ | refine x_block ?_ | refine x_skip ?_ | refine x_label ?_ | refine x_ret ?_ | refine x_exit ?_ | refine x_then_r ?_ | refine x_then_e ?_ | refine x_blk_e ?_ | refine x_blk_r ?_ | refine x_blk_o rfl ?_ | refine x_cond_t rfl ?_ | refine x_cond_f rfl ?_ | refine rl_go rfl rfl ?_ | refine rl_no rfl rfl rfl rfl ?_)
    refine x_again (i + 1, _, _) (And.intro rfl (And.intro rfl (And.intro rfl (And.intro rfl trivial)))) ⟨hil, h5, ns5, fun c => ?_, (o3.grow n4.kept).put p5 (by omega), by omega⟩ (by dsimp only; omega)
    show Tj.upd xs i [i + 1] c = if c < i + 1 then [c + 1] else []
    by_cases e : c = i
    · subst e; rw [Tj.upd_i, if_pos (by omega)]
    · rw [Tj.upd_o _ _ e, hx3 c]
      by_cases hc : c < i
      · rw [if_pos hc, if_pos (by omega)]
      · rw [if_neg hc, if_neg (by omega)]
  · have hmi : m = i + 1 := by omega
    cases r with
    | false =>
      have g3 : Gr w3 (.slice (some ⟨bm, 0, none⟩) m m) (gl m xs) := gr_nest h3 ns3
      have hxl : ∀ x, ∀ t ∈ xs x, t < m := fun x t ht => by
        rw [hx3 x] at ht
        split at ht
        · simp at ht; omega
        · cases ht
      have e1 : ∀ x, x + 1 < m → esOf (gl m xs) x = [some (x + 1)] := fun x hx => by
        rw [es_gl (by omega) (hxl x), hx3 x, if_pos (by omega)]; rfl
      have e2 : ∀ x, m ≤ x + 1 → esOf (gl m xs) x = [] := fun x hx => by
        by_cases hxm : x < m
        · rw [es_gl hxm (hxl x), hx3 x, if_neg (by omega)]; rfl
        · exact es_gl_out hxm
      have hB : ∀ l ∈ gl m xs, l.length ≤ 1 := fun l hl => by
        obtain ⟨c, hc, rfl⟩ := List.mem_map.1 hl
        rw [List.length_map, hx3 c]
        split <;> simp
      repeat (first | refine x_seq ?_ | refine x_reg ?_ | refine x_nil ?_ | refine x_then_n ?_ | refine rl_q rfl (q_move rfl) ?_ | refine rl_q rfl (q_nil rfl) ?_ | refine rl_q rfl (q_fa0 (by exact Fo.out) rfl) ?_ | refine rl_q rfl (q_fak (by exact Fo.out) rfl) ?_ | refine rl_q rfl (q_fieldAddr (by exact Fo.out) rfl) ?_ | refine rl_q rfl (q_assign rfl) ?_ | refine rl_q rfl (q_len rfl (by kernel_rfl) rfl) ?_ | refine rl_q rfl (q_extract rfl rfl) ?_ | refine rl_q rfl (q_addi _ rfl rfl rfl (by omega) (by omega)) ?_ | refine rl_q rfl (q_subi _ rfl rfl rfl (by omega) (by omega)) ?_ | refine rl_q rfl (q_muli _ rfl rfl rfl (by omega) (by omega)) ?_ | refine rl_q rfl (q_pick_t rfl rfl) ?_ | refine rl_q rfl (q_pick_f rfl rfl) ?_ | refine rl_q rfl (q_lt_t rfl rfl (by omega)) ?_ | refine rl_q rfl (q_lt_f rfl rfl (by omega)) ?_ | refine rl_q rfl (q_le_t rfl rfl (by omega)) ?_ | refine rl_q rfl (q_le_f rfl rfl (by omega)) ?_ | refine rl_q rfl (q_gt_t rfl rfl (by omega)) ?_ | refine rl_q rfl (q_gt_f rfl rfl (by omega)) ?_ | refine rl_q rfl (q_ge_t rfl rfl (by omega)) ?_ | refine rl_q rfl (q_ge_f rfl rfl (by omega)) ?_ | refine rl_q rfl (q_eq_t rfl rfl (by omega)) ?_ | refine rl_q rfl (q_eq_f rfl rfl (by omega)) ?_ | refine rl_q rfl (q_ne_t rfl rfl (by omega)) ?_ | refine rl_q rfl (q_ne_f rfl rfl (by omega)) ?_ | refine rl_q rfl (q_lt rfl rfl) ?_ | refine rl_q rfl (q_le rfl rfl) ?_ | refine rl_q rfl (q_gt rfl rfl) ?_ | refine rl_q rfl (q_ge rfl rfl) ?_ | refine rl_q rfl (q_eq rfl rfl) ?_ | refine rl_q rfl (q_ne rfl rfl) ?_ | refine rl_q rfl (q_not rfl) ?_ | refine rl_q rfl (q_nilf rfl) ?_ | refine rl_q rfl (q_makeFunc rfl rfl) ?_ | refine rl_q rfl (q_field (by exact Fo.out) (by kernel_rfl) rfl rfl) ?_ | refine rl_q rfl (q_load (by exact Tk.out) rfl (c1 (by assumption) (by rfl))) ?_ | refine rl_q rfl (q_loadB (by exact Tk.out) rfl (by assumption) (by rfl)) ?_ | refine rl_q rfl (q_load (by exact Tk.out) rfl (c1_cell (by assumption))) ?_ | refine x_blk_n ?_ | refine x_block ?_ | refine x_skip ?_ | refine x_label ?_ | refine x_ret ?_ | refine x_exit ?_ | refine x_then_r ?_ | refine x_then_e ?_ | refine x_blk_e ?_ | refine x_blk_r ?_ | refine x_blk_o rfl ?_ | refine x_cond_t rfl ?_ | refine x_cond_f rfl ?_ | refine rl_go rfl rfl ?_ | refine rl_no rfl rfl rfl rfl ?_)
      refine rl_e rfl (e_call (by exact Hs.out) rfl (rt (components_c g3 (by rw [gl_len]; omega) hB (by rw [gl_len]; omega)) fun v w4 hv => ?_))
      obtain ⟨C, g4, hC, o4⟩ := hv
      rw [gl_len] at hC
      have hcan := (chain_canon e1 e2 m (Nat.le_refl _)).congr (D' := fun _ => False) (fun j hj => by simp; omega)
      obtain rfl := hC.unique hcan
      generalize hG : (chainC m).map (fun l => l.map Int.ofNat) = G at g4
      have hGl : G.length = m := by rw [← hG]; simp [chainC]
      have hGk : ∀ k (hk : k < G.length), G[k] = [((m - 1 - k : Nat) : Int)] := fun k hk => by
        subst hG
        simp [chainC]
      have o4' := old_trans o3 o4
      obtain ⟨Ag, cg, eg, _⟩ := id g4
      subst eg
      repeat (first | refine x_seq ?_ | refine x_reg ?_ | refine x_nil ?_ | refine x_then_n ?_ | refine rl_q rfl (q_move rfl) ?_ | refine rl_q rfl (q_nil rfl) ?_ | refine rl_q rfl (q_fa0 (by exact Fo.out) rfl) ?_ | refine rl_q rfl (q_fak (by exact Fo.out) rfl) ?_ | refine rl_q rfl (q_fieldAddr (by exact Fo.out) rfl) ?_ | refine rl_q rfl (q_assign rfl) ?_ | refine rl_q rfl (q_len rfl (by kernel_rfl) rfl) ?_ | refine rl_q rfl (q_extract rfl rfl) ?_ | refine rl_q rfl (q_addi _ rfl rfl rfl (by omega) (by omega)) ?_ | refine rl_q rfl (q_subi _ rfl rfl rfl (by omega) (by omega)) ?_ | refine rl_q rfl (q_muli _ rfl rfl rfl (by omega) (by omega)) ?_ | refine rl_q rfl (q_pick_t rfl rfl) ?_ | refine rl_q rfl (q_pick_f rfl rfl) ?_ | refine rl_q rfl (q_lt_t rfl rfl (by omega)) ?_ | refine rl_q rfl (q_lt_f rfl rfl (by omega)) ?_ | refine rl_q rfl (q_le_t rfl rfl (by omega)) ?_ | refine rl_q rfl (q_le_f rfl rfl (by omega)) ?_ | refine rl_q rfl (q_gt_t rfl rfl (by omega)) ?_ | refine rl_q rfl (q_gt_f rfl rfl (by omega)) ?_ | refine rl_q rfl (q_ge_t rfl rfl (by omega)) ?_ | refine rl_q rfl (q_ge_f rfl rfl (by omega)) ?_ | refine rl_q rfl (q_eq_t rfl rfl (by omega)) ?_ | refine rl_q rfl (q_eq_f rfl rfl (by omega)) ?_ | refine rl_q rfl (q_ne_t rfl rfl (by omega)) ?_ | refine rl_q rfl (q_ne_f rfl rfl (by omega)) ?_ | refine rl_q rfl (q_lt rfl rfl) ?_ | refine rl_q rfl (q_le rfl rfl) ?_ | refine rl_q rfl (q_gt rfl rfl) ?_ | refine rl_q rfl (q_ge rfl rfl) ?_ | refine rl_q rfl (q_eq rfl rfl) ?_ | refine rl_q rfl (q_ne rfl rfl) ?_ | refine rl_q rfl (q_not rfl) ?_ | refine rl_q rfl (q_nilf rfl) ?_ | refine rl_q rfl (q_makeFunc rfl rfl) ?_ | refine rl_q rfl (q_field (by exact Fo.out) (by kernel_rfl) rfl rfl) ?_ | refine rl_q rfl (q_load (by exact Tk.out) rfl (c1 (by assumption) (by rfl))) ?_ | refine rl_q rfl (q_loadB (by exact Tk.out) rfl (by assumption) (by rfl)) ?_ | refine rl_q rfl (q_load (by exact Tk.out) rfl (c1_cell (by assumption))) ?_ | refine x_blk_n ?_ | refine x_block ?_ | refine x_skip ?_ | refine x_label ?_ | refine x_ret ?_ | refine x_exit ?_ | refine x_then_r ?_ | refine x_then_e ?_ | refine x_blk_e ?_ | refine x_blk_r ?_ | refine x_blk_o rfl ?_ | refine x_cond_t rfl ?_ | refine x_cond_f rfl ?_ | refine rl_go rfl rfl ?_ | refine rl_no rfl rfl rfl rfl ?_)
      refine x_loop (γ := Nat) (fun g => [(0, .int .i64 (m : Int)), (7, .slice Ag G.length cg), (69, .slice Ag G.length cg), (70, .int .i64 (G.length : Int)), (71, .int .i64 (g : Int))])
        (fun g w' => g ≤ G.length ∧ w4 = w') (fun g => G.length - g) 0 (And.intro rfl (And.intro rfl (And.intro rfl (And.intro rfl (And.intro rfl trivial))))) ⟨Nat.zero_le _, rfl⟩ ?_
      rintro k w5 ⟨hk, rfl⟩
      by_cases hkl : k < G.length
      · obtain ⟨b, o, cap, u, eu, hc, hu⟩ := g4.row hkl
        cases eu
        rw [hGk k hkl] at hu
        obtain ⟨Au, cu, rfl, hcu⟩ := hu.open
        obtain ⟨b', o', rfl, hcu2⟩ := hcu 0 (by simp)
        repeat (first | refine x_seq ?_ | refine x_reg ?_ | refine x_nil ?_ | refine x_then_n ?_ | refine x_blk_n ?_ | refine x_block ?_ | refine x_skip ?_ | refine x_label ?_ | refine x_ret ?_ | refine x_exit ?_ | refine x_then_r ?_ | refine x_then_e ?_ | refine x_blk_e ?_ | refine x_blk_r ?_ | refine x_blk_o rfl ?_ | refine x_cond_t rfl ?_ | refine x_cond_f rfl ?_ | refine rl_go rfl rfl ?_ | refine rl_no rfl rfl rfl rfl ?_)
        refine rl_q rfl (q_lt_t rfl rfl (by omega)) ?_
        repeat (first | refine x_seq ?_ | refine x_reg ?_ | refine x_nil ?_ | refine x_then_n ?_ | refine x_blk_n ?_ | refine x_block ?_ | refine x_skip ?_ | refine x_label ?_ | refine x_ret ?_ | refine x_exit ?_ | refine x_then_r ?_ | refine x_then_e ?_ | refine x_blk_e ?_ | refine x_blk_r ?_ | refine x_blk_o rfl ?_ | refine x_cond_t rfl ?_ | refine x_cond_f rfl ?_ | refine rl_go rfl rfl ?_ | refine rl_no rfl rfl rfl rfl ?_)
        refine rl_q rfl (q_move rfl) ?_
        refine rl_q rfl (q_indexAddr (by exact Es.out) rfl rfl rfl hkl) ?_
        refine rl_q rfl (q_load (by exact Tk.out) rfl (c1_cell hc)) ?_
        refine rl_q rfl (q_assign rfl) ?_
        refine rl_q rfl (q_assign rfl) ?_
        repeat (first | refine x_seq ?_ | refine x_reg ?_ | refine x_nil ?_ | refine x_then_n ?_ | refine x_blk_n ?_ | refine x_block ?_ | refine x_skip ?_ | refine x_label ?_ | refine x_ret ?_ | refine x_exit ?_ | refine x_then_r ?_ | refine x_then_e ?_ | refine x_blk_e ?_ | refine x_blk_r ?_ | refine x_blk_o rfl ?_ | refine x_cond_t rfl ?_ | refine x_cond_f rfl ?_ | refine rl_go rfl rfl ?_ | refine rl_no rfl rfl rfl rfl ?_)
        refine rl_q rfl (q_move rfl) ?_
        refine rl_q rfl (q_len rfl (by kernel_rfl) rfl) ?_
        refine rl_q rfl (q_ne_f rfl rfl (by simp)) ?_
        refine rl_q rfl (q_move rfl) ?_
        refine rl_go rfl rfl ?_
        refine rl_q rfl (q_move rfl) ?_
        refine rl_go rfl rfl ?_
        refine rl_q rfl (q_indexAddr (j := 0) (by exact Es.out) rfl rfl rfl (by simp)) ?_
        refine rl_go rfl rfl ?_
        refine rl_q rfl (q_load (v := .int .i64 ((m - 1 - k : Nat) : Int)) (by exact Tk.out) rfl (c1_cell hcu2)) ?_
        refine rl_go rfl rfl ?_
        refine rl_q rfl (q_move rfl) ?_
        refine rl_go rfl rfl ?_
        refine rl_q rfl (q_subi _ rfl rfl rfl (by omega) (by omega)) ?_
        refine rl_go rfl rfl ?_
        refine rl_q rfl (q_move rfl) ?_
        refine rl_go rfl rfl ?_
        refine rl_q rfl (q_subi _ rfl rfl rfl (by omega) (by omega)) ?_
        refine rl_go rfl rfl ?_
        refine rl_q rfl (q_ne_f rfl rfl (by omega)) ?_
        refine rl_q rfl ((by first | exact q_pick_t rfl rfl | exact q_pick_f rfl rfl)) ?_
        repeat (first | refine x_seq ?_ | refine x_reg ?_ | refine x_nil ?_ | refine x_then_n ?_ | refine x_blk_n ?_ | refine x_block ?_ | refine x_skip ?_ | refine x_label ?_ | refine x_ret ?_ | refine x_exit ?_ | refine x_then_r ?_ | refine x_then_e ?_ | refine x_blk_e ?_ | refine x_blk_r ?_ | refine x_blk_o rfl ?_ | refine x_cond_t rfl ?_ | refine x_cond_f rfl ?_ | refine rl_go rfl rfl ?_ | refine rl_no rfl rfl rfl rfl ?_)
        repeat (first | refine x_seq ?_ | refine x_reg ?_ | refine x_nil ?_ | refine x_then_n ?_ | refine rl_q rfl (q_move rfl) ?_ | refine rl_q rfl (q_nil rfl) ?_ | refine rl_q rfl (q_fa0 (by exact Fo.out) rfl) ?_ | refine rl_q rfl (q_fak (by exact Fo.out) rfl) ?_ | refine rl_q rfl (q_fieldAddr (by exact Fo.out) rfl) ?_ | refine rl_q rfl (q_assign rfl) ?_ | refine rl_q rfl (q_len rfl (by kernel_rfl) rfl) ?_ | refine rl_q rfl (q_extract rfl rfl) ?_ | refine rl_q rfl (q_addi _ rfl rfl rfl (by omega) (by omega)) ?_ | refine rl_q rfl (q_subi _ rfl rfl rfl (by omega) (by omega)) ?_ | refine rl_q rfl (q_muli _ rfl rfl rfl (by omega) (by omega)) ?_ | refine rl_q rfl (q_pick_t rfl rfl) ?_ | refine rl_q rfl (q_pick_f rfl rfl) ?_ | refine rl_q rfl (q_lt_t rfl rfl (by omega)) ?_ | refine rl_q rfl (q_lt_f rfl rfl (by omega)) ?_ | refine rl_q rfl (q_le_t rfl rfl (by omega)) ?_ | refine rl_q rfl (q_le_f rfl rfl (by omega)) ?_ | refine rl_q rfl (q_gt_t rfl rfl (by omega)) ?_ | refine rl_q rfl (q_gt_f rfl rfl (by omega)) ?_ | refine rl_q rfl (q_ge_t rfl rfl (by omega)) ?_ | refine rl_q rfl (q_ge_f rfl rfl (by omega)) ?_ | refine rl_q rfl (q_eq_t rfl rfl (by omega)) ?_ | refine rl_q rfl (q_eq_f rfl rfl (by omega)) ?_ | refine rl_q rfl (q_ne_t rfl rfl (by omega)) ?_ | refine rl_q rfl (q_ne_f rfl rfl (by omega)) ?_ | refine rl_q rfl (q_lt rfl rfl) ?_ | refine rl_q rfl (q_le rfl rfl) ?_ | refine rl_q rfl (q_gt rfl rfl) ?_ | refine rl_q rfl (q_ge rfl rfl) ?_ | refine rl_q rfl (q_eq rfl rfl) ?_ | refine rl_q rfl (q_ne rfl rfl) ?_ | refine rl_q rfl (q_not rfl) ?_ | refine rl_q rfl (q_nilf rfl) ?_ | refine rl_q rfl (q_makeFunc rfl rfl) ?_ | refine rl_q rfl (q_field (by exact Fo.out) (by kernel_rfl) rfl rfl) ?_ | refine rl_q rfl (q_load (by exact Tk.out) rfl (c1 (by assumption) (by rfl))) ?_ | refine rl_q rfl (q_loadB (by exact Tk.out) rfl (by assumption) (by rfl)) ?_ | refine rl_q rfl (q_load (by exact Tk.out) rfl (c1_cell (by assumption))) ?_ | refine x_blk_n ?_ | refine x_block ?_ | refine x_skip ?_ | refine x_label ?_ | refine x_ret ?_ | refine x_exit ?_ | refine x_then_r ?_ | refine x_then_e ?_ | refine x_blk_e ?_ | refine x_blk_r ?_ | refine x_blk_o rfl ?_ | refine x_cond_t rfl ?_ | refine x_cond_f rfl ?_ | refine rl_go rfl rfl ?_ | refine rl_no rfl rfl rfl rfl ?_)
        exact x_again (k + 1) (And.intro rfl (And.intro rfl (And.intro rfl (And.intro rfl (And.intro rfl trivial))))) ⟨hkl, rfl⟩ (by omega)
      · repeat (first | refine x_seq ?_ | refine x_reg ?_ | refine x_nil ?_ | refine x_then_n ?_ | refine rl_q rfl (q_move rfl) ?_ | refine rl_q rfl (q_nil rfl) ?_ | refine rl_q rfl (q_fa0 (by exact Fo.out) rfl) ?_ | refine rl_q rfl (q_fak (by exact Fo.out) rfl) ?_ | refine rl_q rfl (q_fieldAddr (by exact Fo.out) rfl) ?_ | refine rl_q rfl (q_assign rfl) ?_ | refine rl_q rfl (q_len rfl (by kernel_rfl) rfl) ?_ | refine rl_q rfl (q_extract rfl rfl) ?_ | refine rl_q rfl (q_addi _ rfl rfl rfl (by omega) (by omega)) ?_ | refine rl_q rfl (q_subi _ rfl rfl rfl (by omega) (by omega)) ?_ | refine rl_q rfl (q_muli _ rfl rfl rfl (by omega) (by omega)) ?_ | refine rl_q rfl (q_pick_t rfl rfl) ?_ | refine rl_q rfl (q_pick_f rfl rfl) ?_ | refine rl_q rfl (q_lt_t rfl rfl (by omega)) ?_ | refine rl_q rfl (q_lt_f rfl rfl (by omega)) ?_ | refine rl_q rfl (q_le_t rfl rfl (by omega)) ?_ | refine rl_q rfl (q_le_f rfl rfl (by omega)) ?_ | refine rl_q rfl (q_gt_t rfl rfl (by omega)) ?_ | refine rl_q rfl (q_gt_f rfl rfl (by omega)) ?_ | refine rl_q rfl (q_ge_t rfl rfl (by omega)) ?_ | refine rl_q rfl (q_ge_f rfl rfl (by omega)) ?_ | refine rl_q rfl (q_eq_t rfl rfl (by omega)) ?_ | refine rl_q rfl (q_eq_f rfl rfl (by omega)) ?_ | refine rl_q rfl (q_ne_t rfl rfl (by omega)) ?_ | refine rl_q rfl (q_ne_f rfl rfl (by omega)) ?_ | refine rl_q rfl (q_lt rfl rfl) ?_ | refine rl_q rfl (q_le rfl rfl) ?_ | refine rl_q rfl (q_gt rfl rfl) ?_ | refine rl_q rfl (q_ge rfl rfl) ?_ | refine rl_q rfl (q_eq rfl rfl) ?_ | refine rl_q rfl (q_ne rfl rfl) ?_ | refine rl_q rfl (q_not rfl) ?_ | refine rl_q rfl (q_nilf rfl) ?_ | refine rl_q rfl (q_makeFunc rfl rfl) ?_ | refine rl_q rfl (q_field (by exact Fo.out) (by kernel_rfl) rfl rfl) ?_ | refine rl_q rfl (q_load (by exact Tk.out) rfl (c1 (by assumption) (by rfl))) ?_ | refine rl_q rfl (q_loadB (by exact Tk.out) rfl (by assumption) (by rfl)) ?_ | refine rl_q rfl (q_load (by exact Tk.out) rfl (c1_cell (by assumption))) ?_ | refine x_blk_n ?_ | refine x_block ?_ | refine x_skip ?_ | refine x_label ?_ | refine x_ret ?_ | refine x_exit ?_ | refine x_then_r ?_ | refine x_then_e ?_ | refine x_blk_e ?_ | refine x_blk_r ?_ | refine x_blk_o rfl ?_ | refine x_cond_t rfl ?_ | refine x_cond_f rfl ?_ | refine rl_go rfl rfl ?_ | refine rl_no rfl rfl rfl rfl ?_)
        refine x_done1 rfl rfl ⟨_, rfl, ?_, o4'⟩
        rfl
    | true =>
      have hi' : i < m := by omega
      repeat (first | refine x_seq ?_ | refine x_reg ?_ | refine x_nil ?_ | refine x_then_n ?_ | refine rl_q rfl (q_move rfl) ?_ | refine rl_q rfl (q_nil rfl) ?_ | refine rl_q rfl (q_fa0 (by exact Fo.out) rfl) ?_ | refine rl_q rfl (q_fak (by exact Fo.out) rfl) ?_ | refine rl_q rfl (q_fieldAddr (by exact Fo.out) rfl) ?_ | refine rl_q rfl (q_assign rfl) ?_ | refine rl_q rfl (q_len rfl (by kernel_rfl) rfl) ?_ | refine rl_q rfl (q_extract rfl rfl) ?_ | refine rl_q rfl (q_addi _ rfl rfl rfl (by omega) (by omega)) ?_ | refine rl_q rfl (q_subi _ rfl rfl rfl (by omega) (by omega)) ?_ | refine rl_q rfl (q_muli _ rfl rfl rfl (by omega) (by omega)) ?_ | refine rl_q rfl (q_pick_t rfl rfl) ?_ | refine rl_q rfl (q_pick_f rfl rfl) ?_ | refine rl_q rfl (q_lt_t rfl rfl (by omega)) ?_ | refine rl_q rfl (q_lt_f rfl rfl (by omega)) ?_ | refine rl_q rfl (q_le_t rfl rfl (by omega)) ?_ | refine rl_q rfl (q_le_f rfl rfl (by omega)) ?_ | refine rl_q rfl (q_gt_t rfl rfl (by omega)) ?_ | refine rl_q rfl (q_gt_f rfl rfl (by omega)) ?_ | refine rl_q rfl (q_ge_t rfl rfl (by omega)) ?_ | refine rl_q rfl (q_ge_f rfl rfl (by omega)) ?_ | refine rl_q rfl (q_eq_t rfl rfl (by omega)) ?_ | refine rl_q rfl (q_eq_f rfl rfl (by omega)) ?_ | refine rl_q rfl (q_ne_t rfl rfl (by omega)) ?_ | refine rl_q rfl (q_ne_f rfl rfl (by omega)) ?_ | refine rl_q rfl (q_lt rfl rfl) ?_ | refine rl_q rfl (q_le rfl rfl) ?_ | refine rl_q rfl (q_gt rfl rfl) ?_ | refine rl_q rfl (q_ge rfl rfl) ?_ | refine rl_q rfl (q_eq rfl rfl) ?_ | refine rl_q rfl (q_ne rfl rfl) ?_ | refine rl_q rfl (q_not rfl) ?_ | refine rl_q rfl (q_nilf rfl) ?_ | refine rl_q rfl (q_makeFunc rfl rfl) ?_ | refine rl_q rfl (q_field (by exact Fo.out) (by kernel_rfl) rfl rfl) ?_ | refine rl_q rfl (q_load (by exact Tk.out) rfl (c1 (by assumption) (by rfl))) ?_ | refine rl_q rfl (q_loadB (by exact Tk.out) rfl (by assumption) (by rfl)) ?_ | refine rl_q rfl (q_load (by exact Tk.out) rfl (c1_cell (by assumption))) ?_ | refine x_blk_n ?_ | refine x_block ?_ | refine x_skip ?_ | refine x_label ?_ | refine x_ret ?_ | refine x_exit ?_ | refine x_then_r ?_ | refine x_then_e ?_ | refine x_blk_e ?_ | refine x_blk_r ?_ | refine x_blk_o rfl ?_ | refine x_cond_t rfl ?_ | refine x_cond_f rfl ?_ | refine rl_go rfl rfl ?_ | refine rl_no rfl rfl rfl rfl ?_)
      refine rl_e rfl (e_buildSlice (e := 3) (cs := (ints 0).toArray) rfl (fun _ => by kernel_rfl) fun b4 w4 n4 => ?_)
      have h4 := getk n4.kept h3
      have own4 : w4.ownsRow w2.heap.size 3 1 (.slice (some ⟨b4, 0, none⟩) [0].length 1) [0].length ([0].flatMap ints) := row_make ints_len (by have := n4.fresh; omega) n4.here (Nat.le_refl _) (by decide) rfl rfl
      have ns4 := Nest.set ns3 n4.kept (c := i) own4 (fun b hb => by
        have : b4 = b := by simpa [Value.ownBlock] using hb
        have := n4.fresh; omega)
      refine rl_q rfl (q_index1 (j := i) (by exact Es.out) rfl rfl (by omega) hi') ?_
      refine rl_n (e_store1 (by exact Tk.out) rfl rfl rfl h4 (by rw [rowV_size]; exact hi') fun w5 p5 => ?_)
      have ns5 := ns4.puto p5 l2
      have h5 := putV p5
      have o5 : Old w w5 := (o3.grow n4.kept).put p5 (by omega)
      have hx5 : ∀ c, c < m → Tj.upd xs i [0] c = if c < i then [c + 1] else [0] := fun c hc => by
        by_cases e : c = i
        · subst e; rw [Tj.upd_i, if_neg (by omega)]
        · rw [Tj.upd_o _ _ e, hx3 c, if_pos (by omega), if_pos (by omega)]
      generalize Tj.upd xs i [0] = ys at *
      have g5 : Gr w5 (.slice (some ⟨bm, 0, none⟩) m m) (gl m ys) := gr_nest h5 ns5
      have hxl : ∀ x, x < m → ∀ t ∈ ys x, t < m := fun x hx t ht => by
        rw [hx5 x hx] at ht
        split at ht
        · simp at ht; omega
        · simp at ht; omega
      have e1 : ∀ x, x + 1 < m → esOf (gl m ys) x = [some (x + 1)] := fun x hx => by
        rw [es_gl (by omega) (hxl x (by omega)), hx5 x (by omega), if_pos (by omega)]; rfl
      have e2 : esOf (gl m ys) (m - 1) = [some 0] := by
        rw [es_gl (by omega) (hxl _ (by omega)), hx5 _ (by omega), if_neg (by omega)]; rfl
      have e3 : ∀ x, m ≤ x → esOf (gl m ys) x = [] := fun x hx => es_gl_out (by omega)
      have hB : ∀ l ∈ gl m ys, l.length ≤ 1 := fun l hl => by
        obtain ⟨c, hc, rfl⟩ := List.mem_map.1 hl
        rw [List.length_map, hx5 c (List.mem_range.1 hc)]
        split <;> simp
      repeat (first | refine x_seq ?_ | refine x_reg ?_ | refine x_nil ?_ | refine x_then_n ?_ | refine rl_q rfl (q_move rfl) ?_ | refine rl_q rfl (q_nil rfl) ?_ | refine rl_q rfl (q_fa0 (by exact Fo.out) rfl) ?_ | refine rl_q rfl (q_fak (by exact Fo.out) rfl) ?_ | refine rl_q rfl (q_fieldAddr (by exact Fo.out) rfl) ?_ | refine rl_q rfl (q_assign rfl) ?_ | refine rl_q rfl (q_len rfl (by kernel_rfl) rfl) ?_ | refine rl_q rfl (q_extract rfl rfl) ?_ | refine rl_q rfl (q_addi _ rfl rfl rfl (by omega) (by omega)) ?_ | refine rl_q rfl (q_subi _ rfl rfl rfl (by omega) (by omega)) ?_ | refine rl_q rfl (q_muli _ rfl rfl rfl (by omega) (by omega)) ?_ | refine rl_q rfl (q_pick_t rfl rfl) ?_ | refine rl_q rfl (q_pick_f rfl rfl) ?_ | refine rl_q rfl (q_lt_t rfl rfl (by omega)) ?_ | refine rl_q rfl (q_lt_f rfl rfl (by omega)) ?_ | refine rl_q rfl (q_le_t rfl rfl (by omega)) ?_ | refine rl_q rfl (q_le_f rfl rfl (by omega)) ?_ | refine rl_q rfl (q_gt_t rfl rfl (by omega)) ?_ | refine rl_q rfl (q_gt_f rfl rfl (by omega)) ?_ | refine rl_q rfl (q_ge_t rfl rfl (by omega)) ?_ | refine rl_q rfl (q_ge_f rfl rfl (by omega)) ?_ | refine rl_q rfl (q_eq_t rfl rfl (by omega)) ?_ | refine rl_q rfl (q_eq_f rfl rfl (by omega)) ?_ | refine rl_q rfl (q_ne_t rfl rfl (by omega)) ?_ | refine rl_q rfl (q_ne_f rfl rfl (by omega)) ?_ | refine rl_q rfl (q_lt rfl rfl) ?_ | refine rl_q rfl (q_le rfl rfl) ?_ | refine rl_q rfl (q_gt rfl rfl) ?_ | refine rl_q rfl (q_ge rfl rfl) ?_ | refine rl_q rfl (q_eq rfl rfl) ?_ | refine rl_q rfl (q_ne rfl rfl) ?_ | refine rl_q rfl (q_not rfl) ?_ | refine rl_q rfl (q_nilf rfl) ?_ | refine rl_q rfl (q_makeFunc rfl rfl) ?_ | refine rl_q rfl (q_field (by exact Fo.out) (by kernel_rfl) rfl rfl) ?_ | refine rl_q rfl (q_load (by exact Tk.out) rfl (c1 (by assumption) (by rfl))) ?_ | refine rl_q rfl (q_loadB (by exact Tk.out) rfl (by assumption) (by rfl)) ?_ | refine rl_q rfl (q_load (by exact Tk.out) rfl (c1_cell (by assumption))) ?_ | refine x_blk_n ?_ | refine x_block ?_ | refine x_skip ?_ | refine x_label ?_ | refine x_ret ?_ | refine x_exit ?_ | refine x_then_r ?_ | refine x_then_e ?_ | refine x_blk_e ?_ | refine x_blk_r ?_ | refine x_blk_o rfl ?_ | refine x_cond_t rfl ?_ | refine x_cond_f rfl ?_ | refine rl_go rfl rfl ?_ | refine rl_no rfl rfl rfl rfl ?_)
      refine rl_e rfl (e_call (by exact Hs.out) rfl (rt (components_c g5 (by rw [gl_len]; omega) hB (by rw [gl_len]; omega)) fun v w6 hv => ?_))
      obtain ⟨C, g6, hC, o6⟩ := hv
      rw [gl_len] at hC
      obtain rfl := hC.unique (ring_canon (by omega) e1 e2 e3)
      have o6' := old_trans o5 o6
      obtain ⟨b, o, cap, u, rfl, hc, hu⟩ := g6.row (n := 0) (by simp)
      obtain ⟨Au, cu, rfl, hcu⟩ := hu.open
      have hlen : (List.map (fun l => List.map Int.ofNat l) [List.range m])[0].length = m := by simp
      obtain ⟨b', o', rfl, hc0⟩ := hcu 0 (by rw [hlen]; omega)
      obtain ⟨b'', o'', eb, hc1⟩ := hcu (m - 1) (by rw [hlen]; omega)
      cases eb
      rw [show (List.map (fun l => List.map Int.ofNat l) [List.range m])[0][0]'(by rw [hlen]; omega) = (0 : Int) from by simp] at hc0
      rw [show (List.map (fun l => List.map Int.ofNat l) [List.range m])[0][m - 1]'(by rw [hlen]; omega) = ((m - 1 : Nat) : Int) from by simp] at hc1
      rw [hlen] at hc
      repeat (first | refine x_seq ?_ | refine x_reg ?_ | refine x_nil ?_ | refine x_then_n ?_ | refine x_blk_n ?_ | refine x_block ?_ | refine x_skip ?_ | refine x_label ?_ | refine x_ret ?_ | refine x_exit ?_ | refine x_then_r ?_ | refine x_then_e ?_ | refine x_blk_e ?_ | refine x_blk_r ?_ | refine x_blk_o rfl ?_ | refine x_cond_t rfl ?_ | refine x_cond_f rfl ?_ | refine rl_go rfl rfl ?_ | refine rl_no rfl rfl rfl rfl ?_)
      refine rl_q rfl (q_assign rfl) ?_
      repeat (first | refine x_seq ?_ | refine x_reg ?_ | refine x_nil ?_ | refine x_then_n ?_ | refine x_blk_n ?_ | refine x_block ?_ | refine x_skip ?_ | refine x_label ?_ | refine x_ret ?_ | refine x_exit ?_ | refine x_then_r ?_ | refine x_then_e ?_ | refine x_blk_e ?_ | refine x_blk_r ?_ | refine x_blk_o rfl ?_ | refine x_cond_t rfl ?_ | refine x_cond_f rfl ?_ | refine rl_go rfl rfl ?_ | refine rl_no rfl rfl rfl rfl ?_)
      refine rl_q rfl (q_move rfl) ?_
      repeat (first | refine x_seq ?_ | refine x_reg ?_ | refine x_nil ?_ | refine x_then_n ?_ | refine x_blk_n ?_ | refine x_block ?_ | refine x_skip ?_ | refine x_label ?_ | refine x_ret ?_ | refine x_exit ?_ | refine x_then_r ?_ | refine x_then_e ?_ | refine x_blk_e ?_ | refine x_blk_r ?_ | refine x_blk_o rfl ?_ | refine x_cond_t rfl ?_ | refine x_cond_f rfl ?_ | refine rl_go rfl rfl ?_ | refine rl_no rfl rfl rfl rfl ?_)
      refine rl_q rfl (q_move rfl) ?_
      refine rl_q rfl (q_len rfl (by kernel_rfl) rfl) ?_
      refine rl_q rfl (q_eq_t rfl rfl (by simp)) ?_
      refine rl_q rfl (q_move rfl) ?_
      refine rl_go rfl rfl ?_
      refine rl_q rfl (q_move rfl) ?_
      refine rl_go rfl rfl ?_
      refine rl_q rfl (q_indexAddr (j := 0) (by exact Es.out) rfl rfl rfl (by simp)) ?_
      refine rl_go rfl rfl ?_
      refine rl_q rfl (q_load (by exact Tk.out) rfl (c1_cell hc)) ?_
      refine rl_go rfl rfl ?_
      refine rl_q rfl (q_len rfl (by kernel_rfl) rfl) ?_
      refine rl_go rfl rfl ?_
      refine rl_q rfl (q_move rfl) ?_
      refine rl_go rfl rfl ?_
      refine rl_q rfl (q_eq_t rfl rfl rfl) ?_
      refine rl_q rfl ((by first | exact q_pick_t rfl rfl | exact q_pick_f rfl rfl)) ?_
      refine rl_q rfl (q_move rfl) ?_
      refine rl_go rfl rfl ?_
      refine rl_q rfl (q_move rfl) ?_
      refine rl_go rfl rfl ?_
      refine rl_q rfl (q_indexAddr (j := 0) (by exact Es.out) rfl rfl rfl (by simp)) ?_
      refine rl_go rfl rfl ?_
      refine rl_q rfl (q_load (by exact Tk.out) rfl (c1_cell hc)) ?_
      refine rl_go rfl rfl ?_
      refine rl_q rfl (q_indexAddr (j := 0) (by exact Es.out) rfl rfl rfl (by omega)) ?_
      refine rl_go rfl rfl ?_
      refine rl_q rfl (q_load (by exact Tk.out) rfl (c1_cell hc0)) ?_
      refine rl_go rfl rfl ?_
      refine rl_q rfl (q_eq_t rfl rfl rfl) ?_
      refine rl_q rfl ((by first | exact q_pick_t rfl rfl | exact q_pick_f rfl rfl)) ?_
      refine rl_q rfl (q_move rfl) ?_
      refine rl_go rfl rfl ?_
      refine rl_q rfl (q_move rfl) ?_
      refine rl_go rfl rfl ?_
      refine rl_q rfl (q_indexAddr (j := 0) (by exact Es.out) rfl rfl rfl (by simp)) ?_
      refine rl_go rfl rfl ?_
      refine rl_q rfl (q_load (by exact Tk.out) rfl (c1_cell hc)) ?_
      refine rl_go rfl rfl ?_
      refine rl_q rfl (q_move rfl) ?_
      refine rl_go rfl rfl ?_
      refine rl_q rfl (q_subi ((m - 1 : Nat) : Int) rfl rfl (by omega) (by omega) (by omega)) ?_
      refine rl_go rfl rfl ?_
      refine rl_q rfl (q_indexAddr (j := m - 1) (by exact Es.out) rfl rfl rfl (by omega)) ?_
      refine rl_go rfl rfl ?_
      refine rl_q rfl (q_load (by exact Tk.out) rfl (c1_cell hc1)) ?_
      refine rl_go rfl rfl ?_
      refine rl_q rfl (q_move rfl) ?_
      refine rl_go rfl rfl ?_
      refine rl_q rfl (q_subi ((m - 1 : Nat) : Int) rfl rfl (by omega) (by omega) (by omega)) ?_
      refine rl_go rfl rfl ?_
      refine rl_q rfl (q_eq_t rfl rfl rfl) ?_
      refine rl_q rfl ((by first | exact q_pick_t rfl rfl | exact q_pick_f rfl rfl)) ?_
      refine rl_q rfl (q_assign rfl) ?_
      repeat (first | refine x_seq ?_ | refine x_reg ?_ | refine x_nil ?_ | refine x_then_n ?_ | refine x_blk_n ?_ | refine x_block ?_ | refine x_skip ?_ | refine x_label ?_ | refine x_ret ?_ | refine x_exit ?_ | refine x_then_r ?_ | refine x_then_e ?_ | refine x_blk_e ?_ | refine x_blk_r ?_ | refine x_blk_o rfl ?_ | refine x_cond_t rfl ?_ | refine x_cond_f rfl ?_ | refine rl_go rfl rfl ?_ | refine rl_no rfl rfl rfl rfl ?_)
      repeat (first | refine x_seq ?_ | refine x_reg ?_ | refine x_nil ?_ | refine x_then_n ?_ | refine rl_q rfl (q_move rfl) ?_ | refine rl_q rfl (q_nil rfl) ?_ | refine rl_q rfl (q_fa0 (by exact Fo.out) rfl) ?_ | refine rl_q rfl (q_fak (by exact Fo.out) rfl) ?_ | refine rl_q rfl (q_fieldAddr (by exact Fo.out) rfl) ?_ | refine rl_q rfl (q_assign rfl) ?_ | refine rl_q rfl (q_len rfl (by kernel_rfl) rfl) ?_ | refine rl_q rfl (q_extract rfl rfl) ?_ | refine rl_q rfl (q_addi _ rfl rfl rfl (by omega) (by omega)) ?_ | refine rl_q rfl (q_subi _ rfl rfl rfl (by omega) (by omega)) ?_ | refine rl_q rfl (q_muli _ rfl rfl rfl (by omega) (by omega)) ?_ | refine rl_q rfl (q_pick_t rfl rfl) ?_ | refine rl_q rfl (q_pick_f rfl rfl) ?_ | refine rl_q rfl (q_lt_t rfl rfl (by omega)) ?_ | refine rl_q rfl (q_lt_f rfl rfl (by omega)) ?_ | refine rl_q rfl (q_le_t rfl rfl (by omega)) ?_ | refine rl_q rfl (q_le_f rfl rfl (by omega)) ?_ | refine rl_q rfl (q_gt_t rfl rfl (by omega)) ?_ | refine rl_q rfl (q_gt_f rfl rfl (by omega)) ?_ | refine rl_q rfl (q_ge_t rfl rfl (by omega)) ?_ | refine rl_q rfl (q_ge_f rfl rfl (by omega)) ?_ | refine rl_q rfl (q_eq_t rfl rfl (by omega)) ?_ | refine rl_q rfl (q_eq_f rfl rfl (by omega)) ?_ | refine rl_q rfl (q_ne_t rfl rfl (by omega)) ?_ | refine rl_q rfl (q_ne_f rfl rfl (by omega)) ?_ | refine rl_q rfl (q_lt rfl rfl) ?_ | refine rl_q rfl (q_le rfl rfl) ?_ | refine rl_q rfl (q_gt rfl rfl) ?_ | refine rl_q rfl (q_ge rfl rfl) ?_ | refine rl_q rfl (q_eq rfl rfl) ?_ | refine rl_q rfl (q_ne rfl rfl) ?_ | refine rl_q rfl (q_not rfl) ?_ | refine rl_q rfl (q_nilf rfl) ?_ | refine rl_q rfl (q_makeFunc rfl rfl) ?_ | refine rl_q rfl (q_field (by exact Fo.out) (by kernel_rfl) rfl rfl) ?_ | refine rl_q rfl (q_load (by exact Tk.out) rfl (c1 (by assumption) (by rfl))) ?_ | refine rl_q rfl (q_loadB (by exact Tk.out) rfl (by assumption) (by rfl)) ?_ | refine rl_q rfl (q_load (by exact Tk.out) rfl (c1_cell (by assumption))) ?_ | refine x_blk_n ?_ | refine x_block ?_ | refine x_skip ?_ | refine x_label ?_ | refine x_ret ?_ | refine x_exit ?_ | refine x_then_r ?_ | refine x_then_e ?_ | refine x_blk_e ?_ | refine x_blk_r ?_ | refine x_blk_o rfl ?_ | refine x_cond_t rfl ?_ | refine x_cond_f rfl ?_ | refine rl_go rfl rfl ?_ | refine rl_no rfl rfl rfl rfl ?_)
      exact x_done1 rfl rfl ⟨_, rfl, rfl, o6'⟩
end Go.Proofs.YtnjjjfffppllfaaX.G
