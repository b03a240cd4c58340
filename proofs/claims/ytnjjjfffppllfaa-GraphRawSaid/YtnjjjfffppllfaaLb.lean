/- The laws of the graph: all edges are turned about. -/
import Derived.Test.YtnjjjfffppllfaaLg
namespace Go.Proofs.YtnjjjfffppllfaaX.G
open Go.RowKit Go.Proofs.YtnjjjfffppllfaaK
attribute [local irreducible] F Qt Ef Code.wp wpList wpT bodyPost Calls
set_option linter.unusedVariables false
set_option linter.unusedSimpArgs false

set_option maxHeartbeats 4000000 in
theorem back_loop {Q : Exit → Act → World → Prop} [PanicOk Q] {wi w : World} {tv : Value} {xs : Nat → List Nat} {n bm n2 : Nat} (hg : Gr wi tv (gl n xs)) (hn : n ≤ 1000) (hxs : ∀ c, c < n → (xs c).length ≤ 50 ∧ ∀ z ∈ xs c, z < n)
    (hb : w.heap[bm]? = some (.cells (rowV n fun _ => .slice none 0 0) 37 (0, 0))) (o : Old wi w) (h1 : wi.heap.size ≤ bm) (h2 : bm < n2) (h3 : n2 ≤ w.heap.size)
    (rest : ∀ ys vs w', w'.heap[bm]? = some (.cells (rowV n vs) 37 (0, 0)) → Nest 3 ints n2 w' n vs ys → (∀ t, t < n → ∀ z, z ∈ ys t ↔ z < n ∧ t ∈ xs z) → (∀ t, t < n → (ys t).length ≤ 50 * n) → Old wi w' → F 98 [(0, .int .i64 (n : Int)), (5, tv), (6, .slice (some ⟨bm, 0, none⟩) n n)] w' (Q .normal)) :
    F 98 [(0, .int .i64 (n : Int)), (5, tv), (6, .slice (some ⟨bm, 0, none⟩) n n), (31, tv), (32, .int .i64 (n : Int)), (33, .int .i64 0)] w ((bodyAt Try.f7 [1, 1, 1, 1, 1, 1, 0, 1, 0]).wp Try.prog (Exit.inBlock 0 Q)) := by
  refine x_loop (γ := Nat × (Nat → Value) × (Nat → List Nat)) (fun g => [(0, .int .i64 (n : Int)), (5, tv), (6, .slice (some ⟨bm, 0, none⟩) n n), (31, tv), (32, .int .i64 (n : Int)), (33, .int .i64 (g.1 : Int))])
    (fun g w' => g.1 ≤ n ∧ w'.heap[bm]? = some (.cells (rowV n g.2.1) 37 (0, 0)) ∧ Nest 3 ints n2 w' n g.2.1 g.2.2 ∧ (∀ t, t < n → ∀ z, z ∈ g.2.2 t ↔ z < g.1 ∧ t ∈ xs z) ∧ (∀ t, t < n → (g.2.2 t).length ≤ 50 * g.1) ∧ Old wi w' ∧ n2 ≤ w'.heap.size) (fun g => n - g.1)
    (0, fun _ => .slice none 0 0, fun _ => []) (And.intro rfl (And.intro rfl (And.intro rfl (And.intro rfl (And.intro rfl (And.intro rfl trivial)))))) ⟨Nat.zero_le _, hb, .nil _ _ _, by simp, by simp, o, h3⟩ ?_
  rintro ⟨i, vs, ys⟩ w1 ⟨hi, hb1, ns1, hy1, hl1, o1, z1⟩
  dsimp only at hi hb1 ns1 hy1 hl1 o1 z1 ⊢
  by_cases hil : i < n
  · have hil' : i < (gl n xs).length := by rw [gl_len]; exact hil
    obtain ⟨b, ob, cap, u, eu, hc, hu⟩ := hg.row hil'
    have hc := o1.cell hc
    rw [show (gl n xs)[i] = (xs i).map Int.ofNat from by simp [gl]] at hu
    rw [gl_len] at eu
    subst eu
    obtain ⟨Au, cu, rfl, hcu⟩ := hu.open
    have hxi := hxs i hil
    have hcu : ∀ k (hk : k < (xs i).length), ∃ b o, Au = some ⟨b, o, none⟩ ∧ wi.cell? ⟨b, o + k * 1, none⟩ = some (.int .i64 (((xs i)[k] : Nat) : Int)) := fun k hk => by
      have := hcu k (by simpa using hk)
      simpa using this
    rw [List.length_map] at hc
    generalize hxl : xs i = l at *
    repeat (first | refine x_seq ?_ | refine x_reg ?_ | refine x_nil ?_ | refine x_then_n ?_ | refine x_blk_n ?_ | refine x_block ?_ | refine x_skip ?_ | refine x_label ?_ | refine x_ret ?_ | refine x_exit ?_ | refine x_then_r ?_ | refine x_then_e ?_ | refine x_blk_e ?_ | refine x_blk_r ?_ | refine x_blk_o rfl ?_ | refine x_cond_t rfl ?_ | refine x_cond_f rfl ?_ | refine rl_go rfl rfl ?_ | refine rl_no rfl rfl rfl rfl ?_)
    refine rl_q rfl (q_lt_t rfl rfl (by omega)) ?_
    repeat (first | refine x_seq ?_ | refine x_reg ?_ | refine x_nil ?_ | refine x_then_n ?_ | refine x_blk_n ?_ | refine x_block ?_ | refine x_skip ?_ | refine x_label ?_ | refine x_ret ?_ | refine x_exit ?_ | refine x_then_r ?_ | refine x_then_e ?_ | refine x_blk_e ?_ | refine x_blk_r ?_ | refine x_blk_o rfl ?_ | refine x_cond_t rfl ?_ | refine x_cond_f rfl ?_ | refine rl_go rfl rfl ?_ | refine rl_no rfl rfl rfl rfl ?_)
    refine rl_q rfl (q_move rfl) ?_
    refine rl_q rfl (q_indexAddr (by exact Es.out) rfl rfl rfl hil) ?_
    refine rl_q rfl (q_load (by exact Tk.out) rfl (c1_cell hc)) ?_
    refine rl_q rfl (q_assign rfl) ?_
    refine rl_q rfl (q_assign rfl) ?_
    repeat (first | refine x_seq ?_ | refine x_reg ?_ | refine x_nil ?_ | refine x_then_n ?_ | refine x_blk_n ?_ | refine x_block ?_ | refine x_skip ?_ | refine x_label ?_ | refine x_ret ?_ | refine x_exit ?_ | refine x_then_r ?_ | refine x_then_e ?_ | refine x_blk_e ?_ | refine x_blk_r ?_ | refine x_blk_o rfl ?_ | refine x_cond_t rfl ?_ | refine x_cond_f rfl ?_ | refine rl_go rfl rfl ?_ | refine rl_no rfl rfl rfl rfl ?_)
    refine rl_q rfl (q_move rfl) ?_
    refine rl_q rfl (q_len rfl (by kernel_rfl) rfl) ?_
    refine rl_q rfl (q_move rfl) ?_
    repeat (first | refine x_seq ?_ | refine x_reg ?_ | refine x_nil ?_ | refine x_then_n ?_ | refine x_blk_n ?_ | refine x_block ?_ | refine x_skip ?_ | refine x_label ?_ | refine x_ret ?_ | refine x_exit ?_ | refine x_then_r ?_ | refine x_then_e ?_ | refine x_blk_e ?_ | refine x_blk_r ?_ | refine x_blk_o rfl ?_ | refine x_cond_t rfl ?_ | refine x_cond_f rfl ?_ | refine rl_go rfl rfl ?_ | refine rl_no rfl rfl rfl rfl ?_)
    refine x_loop (γ := Nat × (Nat → Value) × (Nat → List Nat)) (fun g => [(0, .int .i64 (n : Int)), (5, .slice (some ⟨b, ob, none⟩) n cap), (6, .slice (some ⟨bm, 0, none⟩) n n), (7, .int .i64 (i : Int)), (31, .slice (some ⟨b, ob, none⟩) n cap), (32, .int .i64 (n : Int)), (33, .int .i64 (i : Int)), (38, .slice Au l.length cu), (39, .int .i64 (l.length : Int)), (40, .int .i64 (g.1 : Int))])
      (fun g w' => g.1 ≤ l.length ∧ w'.heap[bm]? = some (.cells (rowV n g.2.1) 37 (0, 0)) ∧ Nest 3 ints n2 w' n g.2.1 g.2.2 ∧ (∀ t, t < n → ∀ z, z ∈ g.2.2 t ↔ (z < i ∧ t ∈ xs z) ∨ (z = i ∧ t ∈ l.take g.1)) ∧ (∀ t, t < n → (g.2.2 t).length ≤ 50 * i + g.1) ∧ Old wi w' ∧ n2 ≤ w'.heap.size) (fun g => l.length - g.1)
      (0, vs, ys) (And.intro rfl (And.intro rfl (And.intro rfl (And.intro rfl (And.intro rfl (And.intro rfl (And.intro rfl (And.intro rfl (And.intro rfl (And.intro rfl trivial)))))))))) ⟨Nat.zero_le _, hb1, ns1, by simpa using hy1, by simpa using hl1, o1, z1⟩ ?_
    rintro ⟨j, vs2, ys2⟩ w2 ⟨hj, hb2, ns2, hy2, hl2, o2, z2⟩
    dsimp only at hj hb2 ns2 hy2 hl2 o2 z2 ⊢
    by_cases hjl : j < l.length
    · obtain ⟨b', o', rfl, hcc⟩ := hcu j hjl
      have hcc := o2.cell hcc
      have htn := hxi.2 _ (List.getElem_mem hjl)
      have htk := List.take_succ_eq_append_getElem hjl
      generalize l[j] = t at *
      have hlt := hl2 t htn
      repeat (first | refine x_seq ?_ | refine x_reg ?_ | refine x_nil ?_ | refine x_then_n ?_ | refine x_blk_n ?_ | refine x_block ?_ | refine x_skip ?_ | refine x_label ?_ | refine x_ret ?_ | refine x_exit ?_ | refine x_then_r ?_ | refine x_then_e ?_ | refine x_blk_e ?_ | refine x_blk_r ?_ | refine x_blk_o rfl ?_ | refine x_cond_t rfl ?_ | refine x_cond_f rfl ?_ | refine rl_go rfl rfl ?_ | refine rl_no rfl rfl rfl rfl ?_)
      refine rl_q rfl (q_lt_t rfl rfl (by omega)) ?_
      repeat (first | refine x_seq ?_ | refine x_reg ?_ | refine x_nil ?_ | refine x_then_n ?_ | refine x_blk_n ?_ | refine x_block ?_ | refine x_skip ?_ | refine x_label ?_ | refine x_ret ?_ | refine x_exit ?_ | refine x_then_r ?_ | refine x_then_e ?_ | refine x_blk_e ?_ | refine x_blk_r ?_ | refine x_blk_o rfl ?_ | refine x_cond_t rfl ?_ | refine x_cond_f rfl ?_ | refine rl_go rfl rfl ?_ | refine rl_no rfl rfl rfl rfl ?_)
      refine rl_q rfl (q_indexAddr (by exact Es.out) rfl rfl rfl hjl) ?_
      refine rl_q rfl (q_load (by exact Tk.out) rfl (c1_cell hcc)) ?_
      refine rl_q rfl (q_assign rfl) ?_
      repeat (first | refine x_seq ?_ | refine x_reg ?_ | refine x_nil ?_ | refine x_then_n ?_ | refine x_blk_n ?_ | refine x_block ?_ | refine x_skip ?_ | refine x_label ?_ | refine x_ret ?_ | refine x_exit ?_ | refine x_then_r ?_ | refine x_then_e ?_ | refine x_blk_e ?_ | refine x_blk_r ?_ | refine x_blk_o rfl ?_ | refine x_cond_t rfl ?_ | refine x_cond_f rfl ?_ | refine rl_go rfl rfl ?_ | refine rl_no rfl rfl rfl rfl ?_)
      refine rl_q rfl (q_move rfl) ?_
      refine rl_q rfl (q_move rfl) ?_
      refine rl_q rfl (q_move rfl) ?_
      refine rl_q rfl (q_move rfl) ?_
      refine rl_q rfl (q_index1 (by exact Es.out) rfl rfl rfl htn) ?_
      refine rl_q rfl (q_load (by exact Tk.out) rfl (c1_cell (cell_of hb2 (rowV_get htn)))) ?_
      refine rl_q rfl (q_move rfl) ?_
      refine rl_e rfl (e_buildSlice (e := 3) (cs := (ints i).toArray) rfl (fun _ => by kernel_rfl) fun b7 w7 n7 => ?_)
      have ns7 := ns2.grow n7.kept
      have z7 := n7.kept.size
      refine rl_e rfl (e_append (size := 1) (by exact Us.out) (by exact Zi.out) rfl (by decide) rfl rfl (ns7.own _ htn) (by omega) (m := 1) (news := ints i) rfl (news_of n7.here) (ints_one _) (by omega) (by omega) fun vA w8 oA gA eA => ?_)
      have k8 := kept_grownBy (ns7.own _ htn) gA
      have ns8 := ns7.app htn (x := i) oA gA eA
      obtain ⟨A8, c8, rfl, _⟩ := own_form oA
      have hb8 := gett k8 (getk n7.kept hb2) rfl
      refine rl_q rfl (q_index1 (by exact Es.out) rfl rfl rfl htn) ?_
      refine rl_n (e_store1 (by exact Tk.out) rfl rfl rfl hb8 (by rw [rowV_size]; exact htn) fun w9 p9 => ?_)
      repeat (first | refine x_seq ?_ | refine x_reg ?_ | refine x_nil ?_ | refine x_then_n ?_ | refine x_blk_n ?_ | refine x_block ?_ | refine x_skip ?_ | refine x_label ?_ | refine x_ret ?_ | refine x_exit ?_ | refine x_then_r ?_ | refine x_then_e ?_ | refine x_blk_e ?_ | refine x_blk_r ?_ | refine x_blk_o rfl ?_ | refine x_cond_t rfl ?_ | refine x_cond_f rfl ?_ | refine rl_go rfl rfl ?_ | refine rl_no rfl rfl rfl rfl ?_)
      have ns9 := ns8.puto p9 h2
      have hb9 := putV p9
      have z8 := k8.size
      have z9 := p9.size
      have z11 := o1.size
      have lb1 := heap_lt hb1
      refine rl_q rfl (q_addi ((j + 1 : Nat) : Int) rfl rfl (by omega) (by omega) (by omega)) ?_
      refine rl_q rfl (q_move rfl) ?_
      repeat (first | refine x_seq ?_ | refine x_reg ?_ | refine x_nil ?_ | refine x_then_n ?_ | refine x_blk_n ?_ | refine x_block ?_ | refine x_skip ?_ | refine x_label ?_ | refine x_ret ?_ | refine x_exit ?_ | refine x_then_r ?_ | refine x_then_e ?_ | refine x_blk_e ?_ | refine x_blk_r ?_ | refine x_blk_o rfl ?_ | refine x_cond_t rfl ?_ | refine x_cond_f rfl ?_ | refine rl_go rfl rfl ?_ | refine rl_no rfl rfl rfl rfl ?_)
      have o9 : Old wi w9 := ((o2.grow n7.kept).kept k8 (by omega)).put p9 h1
      refine x_again (j + 1, _, _) (And.intro rfl (And.intro rfl (And.intro rfl (And.intro rfl (And.intro rfl (And.intro rfl (And.intro rfl (And.intro rfl (And.intro rfl (And.intro rfl trivial)))))))))) ⟨hjl, hb9, ns9, fun s hs z => ?_, fun s hs => ?_, o9, by omega⟩ (by dsimp only; omega)
      · show z ∈ Tj.upd ys2 t (ys2 t ++ [i]) s ↔ (z < i ∧ s ∈ xs z) ∨ (z = i ∧ s ∈ l.take (j + 1))
        rw [htk]
        by_cases e : s = t
        · subst e
          rw [Tj.upd_i, List.mem_append, hy2 s hs z, List.mem_append]
          simp only [List.mem_singleton]
          constructor
          · rintro ((h | h) | h)
            · exact .inl h
            · exact .inr ⟨h.1, .inl h.2⟩
            · exact .inr ⟨h, .inr trivial⟩
          · rintro (h | ⟨h, _⟩)
            · exact .inl (.inl h)
            · exact .inr h
        · rw [Tj.upd_o _ _ e, hy2 s hs z]
          simp [e]
      · show (Tj.upd ys2 t (ys2 t ++ [i]) s).length ≤ 50 * i + (j + 1)
        by_cases e : s = t
        · subst e; rw [Tj.upd_i]; simp; omega
        · rw [Tj.upd_o _ _ e]; have := hl2 s hs; omega
    · have hjn : j = l.length := by omega
      subst hjn
      rw [List.take_of_length_le (Nat.le_refl _)] at hy2
      have z11 := o1.size
      repeat (first | refine x_seq ?_ | refine x_reg ?_ | refine x_nil ?_ | refine x_then_n ?_ | refine x_blk_n ?_ | refine x_block ?_ | refine x_skip ?_ | refine x_label ?_ | refine x_ret ?_ | refine x_exit ?_ | refine x_then_r ?_ | refine x_then_e ?_ | refine x_blk_e ?_ | refine x_blk_r ?_ | refine x_blk_o rfl ?_ | refine x_cond_t rfl ?_ | refine x_cond_f rfl ?_ | refine rl_go rfl rfl ?_ | refine rl_no rfl rfl rfl rfl ?_)
      refine rl_q rfl (q_lt_f rfl rfl (by omega)) ?_
      repeat (first | refine x_seq ?_ | refine x_reg ?_ | refine x_nil ?_ | refine x_then_n ?_ | refine x_blk_n ?_ | refine x_block ?_ | refine x_skip ?_ | refine x_label ?_ | refine x_ret ?_ | refine x_exit ?_ | refine x_then_r ?_ | refine x_then_e ?_ | refine x_blk_e ?_ | refine x_blk_r ?_ | refine x_blk_o rfl ?_ | refine x_cond_t rfl ?_ | refine x_cond_f rfl ?_ | refine rl_go rfl rfl ?_ | refine rl_no rfl rfl rfl rfl ?_)
      refine rl_q rfl (q_addi ((i + 1 : Nat) : Int) rfl rfl (by omega) (by omega) (by omega)) ?_
      refine rl_q rfl (q_move rfl) ?_
      repeat (first | refine x_seq ?_ | refine x_reg ?_ | refine x_nil ?_ | refine x_then_n ?_ | refine x_blk_n ?_ | refine x_block ?_ | refine x_skip ?_ | refine x_label ?_ | refine x_ret ?_ | refine x_exit ?_ | refine x_then_r ?_ | refine x_then_e ?_ | refine x_blk_e ?_ | refine x_blk_r ?_ | refine x_blk_o rfl ?_ | refine x_cond_t rfl ?_ | refine x_cond_f rfl ?_ | refine rl_go rfl rfl ?_ | refine rl_no rfl rfl rfl rfl ?_)
      refine x_again (i + 1, vs2, ys2) (And.intro rfl (And.intro rfl (And.intro rfl (And.intro rfl (And.intro rfl (And.intro rfl trivial)))))) ⟨hil, hb2, ns2, fun t ht z => ?_, fun t ht => ?_, o2, z2⟩ (by dsimp only; omega)
      · rw [hy2 t ht z]
        dsimp only
        constructor
        · rintro (⟨h4, h5⟩ | ⟨rfl, h5⟩)
          · exact ⟨by omega, h5⟩
          · exact ⟨by omega, by rw [hxl]; exact h5⟩
        · rintro ⟨h4, h5⟩
          by_cases e : z = i
          · subst e; rw [hxl] at h5; exact .inr ⟨rfl, h5⟩
          · exact .inl ⟨by omega, h5⟩
      · have := hl2 t ht; have := hxi.1; dsimp only; omega
  · obtain rfl : i = n := by omega
    repeat (first | refine x_seq ?_ | refine x_reg ?_ | refine x_nil ?_ | refine x_then_n ?_ | refine x_blk_n ?_ | refine x_block ?_ | refine x_skip ?_ | refine x_label ?_ | refine x_ret ?_ | refine x_exit ?_ | refine x_then_r ?_ | refine x_then_e ?_ | refine x_blk_e ?_ | refine x_blk_r ?_ | refine x_blk_o rfl ?_ | refine x_cond_t rfl ?_ | refine x_cond_f rfl ?_ | refine rl_go rfl rfl ?_ | refine rl_no rfl rfl rfl rfl ?_)
    refine rl_q rfl (q_lt_f rfl rfl (by omega)) ?_
    repeat (first | refine x_seq ?_ | refine x_reg ?_ | refine x_nil ?_ | refine x_then_n ?_ | refine x_blk_n ?_ | refine x_block ?_ | refine x_skip ?_ | refine x_label ?_ | refine x_ret ?_ | refine x_exit ?_ | refine x_then_r ?_ | refine x_then_e ?_ | refine x_blk_e ?_ | refine x_blk_r ?_ | refine x_blk_o rfl ?_ | refine x_cond_t rfl ?_ | refine x_cond_f rfl ?_ | refine rl_go rfl rfl ?_ | refine rl_no rfl rfl rfl rfl ?_)
    refine F.sub ?_ (rest ys vs w1 hb1 ns1 hy1 hl1 o1)
    exact (And.intro rfl (And.intro rfl (And.intro rfl trivial)))

set_option maxHeartbeats 4000000 in
theorem found_loop {Q : Exit → Act → World → Prop} [PanicOk Q] {w : World} {av bv : Value} {As Bs : List (List Int)} {n : Nat} (ha : Gr w av As) (hb : Gr w bv Bs) (hA : As.length ≤ 1000000) (hB : Bs.length ≤ 1000000) (hE : ∀ c ∈ As, c.length ≤ 1000000) (hsub : ∀ c ∈ As, c ∈ Bs) (hsum : (As.map List.length).sum ≤ 1000000)
    (rest : ∀ w', Kept 0 [] w w' → F 98 [(0, .int .i64 (n : Int)), (11, av), (12, bv), (13, .int .i64 ((As.map List.length).sum : Int))] w' (Q .normal))
    :
    F 98 [(0, .int .i64 (n : Int)), (11, av), (12, bv), (13, .int .i64 0), (60, av), (61, .int .i64 (As.length : Int)), (62, .int .i64 0)] w ((bodyAt Try.f7 [1, 1, 1, 1, 1, 1, 1, 1, 1, 1, 0, 1, 0]).wp Try.prog (Exit.inBlock 4 Q)) := by
  obtain ⟨Ba, cb, eb, _⟩ := id hb
  subst eb
  refine x_loop (γ := Nat) (fun g => [(0, .int .i64 (n : Int)), (11, av), (12, .slice Ba Bs.length cb), (13, .int .i64 (((As.take g).map List.length).sum : Int)), (60, av), (61, .int .i64 (As.length : Int)), (62, .int .i64 (g : Int))])
    (fun g w' => g ≤ As.length ∧ Kept 0 [] w w') (fun g => As.length - g) 0 (And.intro rfl (And.intro rfl (And.intro rfl (And.intro rfl (And.intro rfl (And.intro rfl (And.intro rfl trivial))))))) ⟨Nat.zero_le _, Kept.refl _ _ _⟩ ?_
  rintro i w1 ⟨hi, k1⟩
  by_cases hil : i < As.length
  · obtain ⟨b, o, cap, u, eu, hc, hu⟩ := (ha.grow k1).row hil
    subst eu
    have hmem := List.getElem_mem hil
    have hmB := hsub _ hmem
    have hEi := hE _ hmem
    have hsplit : ((As.take (i + 1)).map List.length).sum = ((As.take i).map List.length).sum + As[i].length := by
      rw [List.take_succ_eq_append_getElem hil]
      simp only [List.map_append, List.sum_append, List.map_cons, List.map_nil, List.sum_cons, List.sum_nil, Nat.add_zero]
    have hle : ((As.take (i + 1)).map List.length).sum ≤ (As.map List.length).sum := by
      conv => rhs; rw [← List.take_append_drop (i + 1) As]
      rw [List.map_append, List.sum_append]; omega
    generalize As[i] = c at *
    obtain ⟨Au, cu, rfl, _⟩ := hu.open
    repeat (first | refine x_seq ?_ | refine x_reg ?_ | refine x_nil ?_ | refine x_then_n ?_ | refine x_blk_n ?_ | refine x_block ?_ | refine x_skip ?_ | refine x_label ?_ | refine x_ret ?_ | refine x_exit ?_ | refine x_then_r ?_ | refine x_then_e ?_ | refine x_blk_e ?_ | refine x_blk_r ?_ | refine x_blk_o rfl ?_ | refine x_cond_t rfl ?_ | refine x_cond_f rfl ?_ | refine rl_go rfl rfl ?_ | refine rl_no rfl rfl rfl rfl ?_)
    refine rl_q rfl (q_lt_t rfl rfl (by omega)) ?_
    repeat (first | refine x_seq ?_ | refine x_reg ?_ | refine x_nil ?_ | refine x_then_n ?_ | refine x_blk_n ?_ | refine x_block ?_ | refine x_skip ?_ | refine x_label ?_ | refine x_ret ?_ | refine x_exit ?_ | refine x_then_r ?_ | refine x_then_e ?_ | refine x_blk_e ?_ | refine x_blk_r ?_ | refine x_blk_o rfl ?_ | refine x_cond_t rfl ?_ | refine x_cond_f rfl ?_ | refine rl_go rfl rfl ?_ | refine rl_no rfl rfl rfl rfl ?_)
    refine rl_q rfl (q_indexAddr (by exact Es.out) rfl rfl rfl hil) ?_
    refine rl_q rfl (q_load (by exact Tk.out) rfl (c1_cell hc)) ?_
    refine rl_q rfl (q_assign rfl) ?_
    repeat (first | refine x_seq ?_ | refine x_reg ?_ | refine x_nil ?_ | refine x_then_n ?_ | refine x_blk_n ?_ | refine x_block ?_ | refine x_skip ?_ | refine x_label ?_ | refine x_ret ?_ | refine x_exit ?_ | refine x_then_r ?_ | refine x_then_e ?_ | refine x_blk_e ?_ | refine x_blk_r ?_ | refine x_blk_o rfl ?_ | refine x_cond_t rfl ?_ | refine x_cond_f rfl ?_ | refine rl_go rfl rfl ?_ | refine rl_no rfl rfl rfl rfl ?_)
    refine rl_q rfl (q_assign rfl) ?_
    repeat (first | refine x_seq ?_ | refine x_reg ?_ | refine x_nil ?_ | refine x_then_n ?_ | refine x_blk_n ?_ | refine x_block ?_ | refine x_skip ?_ | refine x_label ?_ | refine x_ret ?_ | refine x_exit ?_ | refine x_then_r ?_ | refine x_then_e ?_ | refine x_blk_e ?_ | refine x_blk_r ?_ | refine x_blk_o rfl ?_ | refine x_cond_t rfl ?_ | refine x_cond_f rfl ?_ | refine rl_go rfl rfl ?_ | refine rl_no rfl rfl rfl rfl ?_)
    refine rl_q rfl (q_move rfl) ?_
    refine rl_q rfl (q_len rfl (by kernel_rfl) rfl) ?_
    refine rl_q rfl (q_move rfl) ?_
    repeat (first | refine x_seq ?_ | refine x_reg ?_ | refine x_nil ?_ | refine x_then_n ?_ | refine x_blk_n ?_ | refine x_block ?_ | refine x_skip ?_ | refine x_label ?_ | refine x_ret ?_ | refine x_exit ?_ | refine x_then_r ?_ | refine x_then_e ?_ | refine x_blk_e ?_ | refine x_blk_r ?_ | refine x_blk_o rfl ?_ | refine x_cond_t rfl ?_ | refine x_cond_f rfl ?_ | refine rl_go rfl rfl ?_ | refine rl_no rfl rfl rfl rfl ?_)
    refine x_loop (γ := Nat × Bool) (fun g => [(0, .int .i64 (n : Int)), (11, .slice (some ⟨b, o, none⟩) As.length cap), (12, .slice Ba Bs.length cb), (13, .int .i64 (((As.take i).map List.length).sum : Int)), (15, .slice Au c.length cu), (16, .bool g.2), (60, .slice (some ⟨b, o, none⟩) As.length cap), (61, .int .i64 (As.length : Int)), (62, .int .i64 (i : Int)), (66, .slice Ba Bs.length cb), (67, .int .i64 (Bs.length : Int)), (68, .int .i64 (g.1 : Int))])
      (fun g w' => g.1 ≤ Bs.length ∧ g.2 = decide (c ∈ Bs.take g.1) ∧ Kept 0 [] w1 w') (fun g => Bs.length - g.1) (0, false) (And.intro rfl (And.intro rfl (And.intro rfl (And.intro rfl (And.intro rfl (And.intro rfl (And.intro rfl (And.intro rfl (And.intro rfl (And.intro rfl (And.intro rfl (And.intro rfl trivial)))))))))))) ⟨Nat.zero_le _, by simp, Kept.refl _ _ _⟩ ?_
    rintro ⟨k, f⟩ w2 ⟨hk, hf, k2⟩
    dsimp only at hk hf k2 ⊢
    by_cases hkl : k < Bs.length
    · obtain ⟨b', o', cap', u', eu', hc', hu'⟩ := (hb.grow (k1.trans k2)).row hkl
      cases eu'
      have htk := List.take_succ_eq_append_getElem hkl
      generalize Bs[k] = d at *
      obtain ⟨Ad, cd, rfl, _⟩ := hu'.open
      cases f with
      | true =>
        have hm : c ∈ Bs.take k := by simpa using hf.symm
        repeat (first | refine x_seq ?_ | refine x_reg ?_ | refine x_nil ?_ | refine x_then_n ?_ | refine x_blk_n ?_ | refine x_block ?_ | refine x_skip ?_ | refine x_label ?_ | refine x_ret ?_ | refine x_exit ?_ | refine x_then_r ?_ | refine x_then_e ?_ | refine x_blk_e ?_ | refine x_blk_r ?_ | refine x_blk_o rfl ?_ | refine x_cond_t rfl ?_ | refine x_cond_f rfl ?_ | refine rl_go rfl rfl ?_ | refine rl_no rfl rfl rfl rfl ?_)
        refine rl_q rfl (q_lt_t rfl rfl (by omega)) ?_
        repeat (first | refine x_seq ?_ | refine x_reg ?_ | refine x_nil ?_ | refine x_then_n ?_ | refine x_blk_n ?_ | refine x_block ?_ | refine x_skip ?_ | refine x_label ?_ | refine x_ret ?_ | refine x_exit ?_ | refine x_then_r ?_ | refine x_then_e ?_ | refine x_blk_e ?_ | refine x_blk_r ?_ | refine x_blk_o rfl ?_ | refine x_cond_t rfl ?_ | refine x_cond_f rfl ?_ | refine rl_go rfl rfl ?_ | refine rl_no rfl rfl rfl rfl ?_)
        refine rl_q rfl (q_indexAddr (by exact Es.out) rfl rfl rfl hkl) ?_
        refine rl_q rfl (q_load (by exact Tk.out) rfl (c1_cell hc')) ?_
        refine rl_q rfl (q_assign rfl) ?_
        repeat (first | refine x_seq ?_ | refine x_reg ?_ | refine x_nil ?_ | refine x_then_n ?_ | refine x_blk_n ?_ | refine x_block ?_ | refine x_skip ?_ | refine x_label ?_ | refine x_ret ?_ | refine x_exit ?_ | refine x_then_r ?_ | refine x_then_e ?_ | refine x_blk_e ?_ | refine x_blk_r ?_ | refine x_blk_o rfl ?_ | refine x_cond_t rfl ?_ | refine x_cond_f rfl ?_ | refine rl_go rfl rfl ?_ | refine rl_no rfl rfl rfl rfl ?_)
        refine rl_q rfl (q_move rfl) ?_
        refine rl_q rfl (q_move rfl) ?_
        refine rl_no rfl rfl rfl rfl ?_
        refine rl_no rfl rfl rfl rfl ?_
        refine rl_no rfl rfl rfl rfl ?_
        refine rl_no rfl rfl rfl rfl ?_
        refine rl_no rfl rfl rfl rfl ?_
        refine rl_q rfl ((by first | exact q_pick_t rfl rfl | exact q_pick_f rfl rfl)) ?_
        refine rl_q rfl (q_assign rfl) ?_
        repeat (first | refine x_seq ?_ | refine x_reg ?_ | refine x_nil ?_ | refine x_then_n ?_ | refine x_blk_n ?_ | refine x_block ?_ | refine x_skip ?_ | refine x_label ?_ | refine x_ret ?_ | refine x_exit ?_ | refine x_then_r ?_ | refine x_then_e ?_ | refine x_blk_e ?_ | refine x_blk_r ?_ | refine x_blk_o rfl ?_ | refine x_cond_t rfl ?_ | refine x_cond_f rfl ?_ | refine rl_go rfl rfl ?_ | refine rl_no rfl rfl rfl rfl ?_)
        repeat (first | refine x_seq ?_ | refine x_reg ?_ | refine x_nil ?_ | refine x_then_n ?_ | refine rl_q rfl (q_move rfl) ?_ | refine rl_q rfl (q_nil rfl) ?_ | refine rl_q rfl (q_fa0 (by exact Fo.out) rfl) ?_ | refine rl_q rfl (q_fak (by exact Fo.out) rfl) ?_ | refine rl_q rfl (q_fieldAddr (by exact Fo.out) rfl) ?_ | refine rl_q rfl (q_assign rfl) ?_ | refine rl_q rfl (q_len rfl (by kernel_rfl) rfl) ?_ | refine rl_q rfl (q_extract rfl rfl) ?_ | refine rl_q rfl (q_addi _ rfl rfl rfl (by omega) (by omega)) ?_ | refine rl_q rfl (q_subi _ rfl rfl rfl (by omega) (by omega)) ?_ | refine rl_q rfl (q_muli _ rfl rfl rfl (by omega) (by omega)) ?_ | refine rl_q rfl (q_pick_t rfl rfl) ?_ | refine rl_q rfl (q_pick_f rfl rfl) ?_ | refine rl_q rfl (q_lt_t rfl rfl (by omega)) ?_ | refine rl_q rfl (q_lt_f rfl rfl (by omega)) ?_ | refine rl_q rfl (q_le_t rfl rfl (by omega)) ?_ | refine rl_q rfl (q_le_f rfl rfl (by omega)) ?_ | refine rl_q rfl (q_gt_t rfl rfl (by omega)) ?_ | refine rl_q rfl (q_gt_f rfl rfl (by omega)) ?_ | refine rl_q rfl (q_ge_t rfl rfl (by omega)) ?_ | refine rl_q rfl (q_ge_f rfl rfl (by omega)) ?_ | refine rl_q rfl (q_eq_t rfl rfl (by omega)) ?_ | refine rl_q rfl (q_eq_f rfl rfl (by omega)) ?_ | refine rl_q rfl (q_ne_t rfl rfl (by omega)) ?_ | refine rl_q rfl (q_ne_f rfl rfl (by omega)) ?_ | refine rl_q rfl (q_lt rfl rfl) ?_ | refine rl_q rfl (q_le rfl rfl) ?_ | refine rl_q rfl (q_gt rfl rfl) ?_ | refine rl_q rfl (q_ge rfl rfl) ?_ | refine rl_q rfl (q_eq rfl rfl) ?_ | refine rl_q rfl (q_ne rfl rfl) ?_ | refine rl_q rfl (q_not rfl) ?_ | refine rl_q rfl (q_nilf rfl) ?_ | refine rl_q rfl (q_makeFunc rfl rfl) ?_ | refine rl_q rfl (q_field (by exact Fo.out) (by kernel_rfl) rfl rfl) ?_ | refine rl_q rfl (q_load (by exact Tk.out) rfl (c1 (by assumption) (by rfl))) ?_ | refine rl_q rfl (q_loadB (by exact Tk.out) rfl (by assumption) (by rfl)) ?_ | refine rl_q rfl (q_load (by exact Tk.out) rfl (c1_cell (by assumption))) ?_ | refine x_blk_n ?_ | refine x_block ?_ | refine x_skip ?_ | refine x_label ?_ | refine x_ret ?_ | refine x_exit ?_ | refine x_then_r ?_ | refine x_then_e ?_ | refine x_blk_e ?_ | refine x_blk_r ?_ | refine x_blk_o rfl ?_ | refine x_cond_t rfl ?_ | refine x_cond_f rfl ?_ | refine rl_go rfl rfl ?_ | refine rl_no rfl rfl rfl rfl ?_)
        exact x_again (k + 1, true) (And.intro rfl (And.intro rfl (And.intro rfl (And.intro rfl (And.intro rfl (And.intro rfl (And.intro rfl (And.intro rfl (And.intro rfl (And.intro rfl (And.intro rfl (And.intro rfl trivial)))))))))))) ⟨hkl, by rw [htk]; simp [hm], k2⟩ (by dsimp only; omega)
      | false =>
        have hm : c ∉ Bs.take k := by simpa using hf.symm
        repeat (first | refine x_seq ?_ | refine x_reg ?_ | refine x_nil ?_ | refine x_then_n ?_ | refine x_blk_n ?_ | refine x_block ?_ | refine x_skip ?_ | refine x_label ?_ | refine x_ret ?_ | refine x_exit ?_ | refine x_then_r ?_ | refine x_then_e ?_ | refine x_blk_e ?_ | refine x_blk_r ?_ | refine x_blk_o rfl ?_ | refine x_cond_t rfl ?_ | refine x_cond_f rfl ?_ | refine rl_go rfl rfl ?_ | refine rl_no rfl rfl rfl rfl ?_)
        refine rl_q rfl (q_lt_t rfl rfl (by omega)) ?_
        repeat (first | refine x_seq ?_ | refine x_reg ?_ | refine x_nil ?_ | refine x_then_n ?_ | refine x_blk_n ?_ | refine x_block ?_ | refine x_skip ?_ | refine x_label ?_ | refine x_ret ?_ | refine x_exit ?_ | refine x_then_r ?_ | refine x_then_e ?_ | refine x_blk_e ?_ | refine x_blk_r ?_ | refine x_blk_o rfl ?_ | refine x_cond_t rfl ?_ | refine x_cond_f rfl ?_ | refine rl_go rfl rfl ?_ | refine rl_no rfl rfl rfl rfl ?_)
        refine rl_q rfl (q_indexAddr (by exact Es.out) rfl rfl rfl hkl) ?_
        refine rl_q rfl (q_load (by exact Tk.out) rfl (c1_cell hc')) ?_
        refine rl_q rfl (q_assign rfl) ?_
        repeat (first | refine x_seq ?_ | refine x_reg ?_ | refine x_nil ?_ | refine x_then_n ?_ | refine x_blk_n ?_ | refine x_block ?_ | refine x_skip ?_ | refine x_label ?_ | refine x_ret ?_ | refine x_exit ?_ | refine x_then_r ?_ | refine x_then_e ?_ | refine x_blk_e ?_ | refine x_blk_r ?_ | refine x_blk_o rfl ?_ | refine x_cond_t rfl ?_ | refine x_cond_f rfl ?_ | refine rl_go rfl rfl ?_ | refine rl_no rfl rfl rfl rfl ?_)
        refine rl_q rfl (q_move rfl) ?_
        refine rl_q rfl (q_move rfl) ?_
        refine rl_go rfl rfl ?_
        refine rl_q rfl (q_move rfl) ?_
        refine rl_go rfl rfl ?_
        refine rl_e rfl (e_buildSlice (e := 37) (cs := #[.slice Au c.length cu]) rfl (fun _ => by kernel_rfl) fun b3 w3 n3 => ?_)
        refine rl_go rfl rfl ?_
        refine rl_q rfl (q_move rfl) ?_
        refine rl_go rfl rfl ?_
        refine rl_e rfl (e_buildSlice (e := 37) (cs := #[.slice Ad d.length cd]) rfl (fun _ => by kernel_rfl) fun b4 w4 n4 => ?_)
        have k4 : Kept 0 [] w2 w4 := n3.kept.trans n4.kept
        have ga : Gr w4 (.slice (some ⟨b3, 0, none⟩) 1 1) [c] := rdS_blk (getk n4.kept n3.here) ⟨⟨_, rfl, hu.old ((Old.refl _).grow (k2.trans k4))⟩, trivial⟩ rfl
        have gb : Gr w4 (.slice (some ⟨b4, 0, none⟩) 1 1) [d] := rdS_blk n4.here ⟨⟨_, rfl, hu'.old ((Old.refl _).grow k4)⟩, trivial⟩ rfl
        refine rl_go rfl rfl ?_
        refine rl_e rfl (e_call (by exact Hs.out) rfl <| rt (is_c ga gb (by simp) (by simp; omega)) fun v w5 hv => ?_)
        obtain ⟨rfl, k5⟩ := hv
        refine rl_q rfl ((by first | exact q_pick_t rfl rfl | exact q_pick_f rfl rfl)) ?_
        refine rl_q rfl (q_assign rfl) ?_
        repeat (first | refine x_seq ?_ | refine x_reg ?_ | refine x_nil ?_ | refine x_then_n ?_ | refine x_blk_n ?_ | refine x_block ?_ | refine x_skip ?_ | refine x_label ?_ | refine x_ret ?_ | refine x_exit ?_ | refine x_then_r ?_ | refine x_then_e ?_ | refine x_blk_e ?_ | refine x_blk_r ?_ | refine x_blk_o rfl ?_ | refine x_cond_t rfl ?_ | refine x_cond_f rfl ?_ | refine rl_go rfl rfl ?_ | refine rl_no rfl rfl rfl rfl ?_)
        repeat (first | refine x_seq ?_ | refine x_reg ?_ | refine x_nil ?_ | refine x_then_n ?_ | refine rl_q rfl (q_move rfl) ?_ | refine rl_q rfl (q_nil rfl) ?_ | refine rl_q rfl (q_fa0 (by exact Fo.out) rfl) ?_ | refine rl_q rfl (q_fak (by exact Fo.out) rfl) ?_ | refine rl_q rfl (q_fieldAddr (by exact Fo.out) rfl) ?_ | refine rl_q rfl (q_assign rfl) ?_ | refine rl_q rfl (q_len rfl (by kernel_rfl) rfl) ?_ | refine rl_q rfl (q_extract rfl rfl) ?_ | refine rl_q rfl (q_addi _ rfl rfl rfl (by omega) (by omega)) ?_ | refine rl_q rfl (q_subi _ rfl rfl rfl (by omega) (by omega)) ?_ | refine rl_q rfl (q_muli _ rfl rfl rfl (by omega) (by omega)) ?_ | refine rl_q rfl (q_pick_t rfl rfl) ?_ | refine rl_q rfl (q_pick_f rfl rfl) ?_ | refine rl_q rfl (q_lt_t rfl rfl (by omega)) ?_ | refine rl_q rfl (q_lt_f rfl rfl (by omega)) ?_ | refine rl_q rfl (q_le_t rfl rfl (by omega)) ?_ | refine rl_q rfl (q_le_f rfl rfl (by omega)) ?_ | refine rl_q rfl (q_gt_t rfl rfl (by omega)) ?_ | refine rl_q rfl (q_gt_f rfl rfl (by omega)) ?_ | refine rl_q rfl (q_ge_t rfl rfl (by omega)) ?_ | refine rl_q rfl (q_ge_f rfl rfl (by omega)) ?_ | refine rl_q rfl (q_eq_t rfl rfl (by omega)) ?_ | refine rl_q rfl (q_eq_f rfl rfl (by omega)) ?_ | refine rl_q rfl (q_ne_t rfl rfl (by omega)) ?_ | refine rl_q rfl (q_ne_f rfl rfl (by omega)) ?_ | refine rl_q rfl (q_lt rfl rfl) ?_ | refine rl_q rfl (q_le rfl rfl) ?_ | refine rl_q rfl (q_gt rfl rfl) ?_ | refine rl_q rfl (q_ge rfl rfl) ?_ | refine rl_q rfl (q_eq rfl rfl) ?_ | refine rl_q rfl (q_ne rfl rfl) ?_ | refine rl_q rfl (q_not rfl) ?_ | refine rl_q rfl (q_nilf rfl) ?_ | refine rl_q rfl (q_makeFunc rfl rfl) ?_ | refine rl_q rfl (q_field (by exact Fo.out) (by kernel_rfl) rfl rfl) ?_ | refine rl_q rfl (q_load (by exact Tk.out) rfl (c1 (by assumption) (by rfl))) ?_ | refine rl_q rfl (q_loadB (by exact Tk.out) rfl (by assumption) (by rfl)) ?_ | refine rl_q rfl (q_load (by exact Tk.out) rfl (c1_cell (by assumption))) ?_ | refine x_blk_n ?_ | refine x_block ?_ | refine x_skip ?_ | refine x_label ?_ | refine x_ret ?_ | refine x_exit ?_ | refine x_then_r ?_ | refine x_then_e ?_ | refine x_blk_e ?_ | refine x_blk_r ?_ | refine x_blk_o rfl ?_ | refine x_cond_t rfl ?_ | refine x_cond_f rfl ?_ | refine rl_go rfl rfl ?_ | refine rl_no rfl rfl rfl rfl ?_)
        refine x_again (k + 1, decide ([c] = [d])) (And.intro rfl (And.intro rfl (And.intro rfl (And.intro rfl (And.intro rfl (And.intro rfl (And.intro rfl (And.intro rfl (And.intro rfl (And.intro rfl (And.intro rfl (And.intro rfl trivial)))))))))))) ⟨hkl, ?_, (k2.trans k4).trans k5⟩ (by dsimp only; omega)
        dsimp only
        rw [htk]
        simp [hm]
    · have hkn : k = Bs.length := by omega
      subst hkn
      rw [List.take_of_length_le (Nat.le_refl _), decide_eq_true hmB] at hf
      subst hf
      repeat (first | refine x_seq ?_ | refine x_reg ?_ | refine x_nil ?_ | refine x_then_n ?_ | refine x_blk_n ?_ | refine x_block ?_ | refine x_skip ?_ | refine x_label ?_ | refine x_ret ?_ | refine x_exit ?_ | refine x_then_r ?_ | refine x_then_e ?_ | refine x_blk_e ?_ | refine x_blk_r ?_ | refine x_blk_o rfl ?_ | refine x_cond_t rfl ?_ | refine x_cond_f rfl ?_ | refine rl_go rfl rfl ?_ | refine rl_no rfl rfl rfl rfl ?_)
      refine rl_q rfl (q_lt_f rfl rfl (by omega)) ?_
      repeat (first | refine x_seq ?_ | refine x_reg ?_ | refine x_nil ?_ | refine x_then_n ?_ | refine x_blk_n ?_ | refine x_block ?_ | refine x_skip ?_ | refine x_label ?_ | refine x_ret ?_ | refine x_exit ?_ | refine x_then_r ?_ | refine x_then_e ?_ | refine x_blk_e ?_ | refine x_blk_r ?_ | refine x_blk_o rfl ?_ | refine x_cond_t rfl ?_ | refine x_cond_f rfl ?_ | refine rl_go rfl rfl ?_ | refine rl_no rfl rfl rfl rfl ?_)
      refine rl_q rfl (q_move rfl) ?_
      refine rl_q rfl (q_not rfl) ?_
      repeat (first | refine x_seq ?_ | refine x_reg ?_ | refine x_nil ?_ | refine x_then_n ?_ | refine x_blk_n ?_ | refine x_block ?_ | refine x_skip ?_ | refine x_label ?_ | refine x_ret ?_ | refine x_exit ?_ | refine x_then_r ?_ | refine x_then_e ?_ | refine x_blk_e ?_ | refine x_blk_r ?_ | refine x_blk_o rfl ?_ | refine x_cond_t rfl ?_ | refine x_cond_f rfl ?_ | refine rl_go rfl rfl ?_ | refine rl_no rfl rfl rfl rfl ?_)
      refine rl_q rfl (q_move rfl) ?_
      refine rl_q rfl (q_move rfl) ?_
      refine rl_q rfl (q_len rfl (by kernel_rfl) rfl) ?_
      refine rl_q rfl (q_addi (((As.take (i + 1)).map List.length).sum : Int) rfl rfl (by rw [hsplit]; omega) (by omega) (by omega)) ?_
      refine rl_q rfl (q_assign rfl) ?_
      repeat (first | refine x_seq ?_ | refine x_reg ?_ | refine x_nil ?_ | refine x_then_n ?_ | refine x_blk_n ?_ | refine x_block ?_ | refine x_skip ?_ | refine x_label ?_ | refine x_ret ?_ | refine x_exit ?_ | refine x_then_r ?_ | refine x_then_e ?_ | refine x_blk_e ?_ | refine x_blk_r ?_ | refine x_blk_o rfl ?_ | refine x_cond_t rfl ?_ | refine x_cond_f rfl ?_ | refine rl_go rfl rfl ?_ | refine rl_no rfl rfl rfl rfl ?_)
      refine rl_q rfl (q_addi ((i + 1 : Nat) : Int) rfl rfl (by omega) (by omega) (by omega)) ?_
      refine rl_q rfl (q_move rfl) ?_
      repeat (first | refine x_seq ?_ | refine x_reg ?_ | refine x_nil ?_ | refine x_then_n ?_ | refine x_blk_n ?_ | refine x_block ?_ | refine x_skip ?_ | refine x_label ?_ | refine x_ret ?_ | refine x_exit ?_ | refine x_then_r ?_ | refine x_then_e ?_ | refine x_blk_e ?_ | refine x_blk_r ?_ | refine x_blk_o rfl ?_ | refine x_cond_t rfl ?_ | refine x_cond_f rfl ?_ | refine rl_go rfl rfl ?_ | refine rl_no rfl rfl rfl rfl ?_)
      exact x_again (i + 1) (And.intro rfl (And.intro rfl (And.intro rfl (And.intro rfl (And.intro rfl (And.intro rfl (And.intro rfl trivial))))))) ⟨hil, k1.trans k2⟩ (by omega)
  · obtain rfl : i = As.length := by omega
    rw [List.take_of_length_le (Nat.le_refl _)]
    repeat (first | refine x_seq ?_ | refine x_reg ?_ | refine x_nil ?_ | refine x_then_n ?_ | refine x_blk_n ?_ | refine x_block ?_ | refine x_skip ?_ | refine x_label ?_ | refine x_ret ?_ | refine x_exit ?_ | refine x_then_r ?_ | refine x_then_e ?_ | refine x_blk_e ?_ | refine x_blk_r ?_ | refine x_blk_o rfl ?_ | refine x_cond_t rfl ?_ | refine x_cond_f rfl ?_ | refine rl_go rfl rfl ?_ | refine rl_no rfl rfl rfl rfl ?_)
    refine rl_q rfl (q_lt_f rfl rfl (by omega)) ?_
    repeat (first | refine x_seq ?_ | refine x_reg ?_ | refine x_nil ?_ | refine x_then_n ?_ | refine x_blk_n ?_ | refine x_block ?_ | refine x_skip ?_ | refine x_label ?_ | refine x_ret ?_ | refine x_exit ?_ | refine x_then_r ?_ | refine x_then_e ?_ | refine x_blk_e ?_ | refine x_blk_r ?_ | refine x_blk_o rfl ?_ | refine x_cond_t rfl ?_ | refine x_cond_f rfl ?_ | refine rl_go rfl rfl ?_ | refine rl_no rfl rfl rfl rfl ?_)
    refine F.sub ?_ (rest w1 k1)
    exact (And.intro rfl (And.intro rfl (And.intro rfl (And.intro rfl trivial))))
end Go.Proofs.YtnjjjfffppllfaaX.G
