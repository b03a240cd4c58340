/- The components of a graph: the members of each are told. -/
import Derived.Test.YtnjjjfffppllfaaNr
import Derived.Test.YtnjjjfffppllfaaTq
namespace Go.Proofs.YtnjjjfffppllfaaX.G
open Go.RowKit Go.Proofs.YtnjjjfffppllfaaK
open Tj (upd_i upd_o)
attribute [local irreducible] F Qt Ef Code.wp wpList wpT bodyPost Calls
set_option linter.unusedVariables false
set_option linter.unusedSimpArgs false

theorem mem_succ (comp : Nat → Nat) (i : Nat) : Tj.mem (i + 1) comp = Tj.upd (Tj.mem i comp) (comp i) (Tj.mem i comp (comp i) ++ [i]) := by
  funext c
  unfold Tj.mem Tj.upd
  rw [List.range_succ, List.filter_append]
  by_cases e : c = comp i
  · subst e; simp
  · have : (comp i == c) = false := by simpa using fun h => e h.symm
    simp [e, this]
theorem mem_le (comp : Nat → Nat) (i c : Nat) : (Tj.mem i comp c).length ≤ i := by
  have := List.length_filter_le (fun x => comp x == c) (List.range i)
  simpa [Tj.mem] using this
theorem nthV {N : Nat} {f : Nat → Value} {i : Nat} (h : i < N) : nth (rowV N f).toList i = some (f i) := by
  rw [nth_get]; simpa using rowV_get (f := f) h
theorem nthA_get {N : Nat} {f : Nat → Int} {i : Nat} (h : i < N) : nth (rowA N f).toList i = some (.int .i64 (f i)) := by
  rw [nth_get]; simpa using rowA_get (f := f) h

set_option maxHeartbeats 2000000 in
theorem loop0 {Q : Exit → Act → World → Prop} [PanicOk Q] {w : World} {ev : Value} {N n bc bm bv n2 nb : Nat} {comp : Nat → Nat}
    (hbc : w.heap[bc]? = some (.cells (rowA N (up comp)) 3 (0, 0))) (hbv : w.heap[bv]? = some (.cells #[.slice (some ⟨bm, 0, none⟩) n n] 38 (0, 0))) (hbm : w.heap[bm]? = some (.cells (rowV n fun _ => .slice none 0 0) 37 (0, 0)))
    (hc : ∀ x, x < N → comp x < n) (hN : N ≤ 1000000) (h1 : bc < nb) (h2 : nb ≤ bm) (h3 : bm < n2) (h4 : n2 ≤ w.heap.size)
    (rest : ∀ vs w', w'.heap[bm]? = some (.cells (rowV n vs) 37 (0, 0)) → Nest 3 ints n2 w' n vs (Tj.mem N comp) → Kept nb [3, 37] w w' → F 170 [(0, ev), (3, .slice (some ⟨bc, 0, none⟩) N N), (4, .int .i64 (n : Int)), (5, .pointer (some ⟨bv, 0, none⟩))] w' (Q .normal)) :
    F 170 [(0, ev), (3, .slice (some ⟨bc, 0, none⟩) N N), (4, .int .i64 (n : Int)), (5, .pointer (some ⟨bv, 0, none⟩)), (28, .slice (some ⟨bc, 0, none⟩) N N), (29, .int .i64 (N : Int)), (30, .int .i64 0)] w ((bodyAt Try.f30 [1, 1, 1, 0, 1, 0]).wp Try.prog (Exit.inBlock 0 Q)) := by
  refine x_loop (γ := Nat × (Nat → Value)) (fun g => [(0, ev), (3, .slice (some ⟨bc, 0, none⟩) N N), (4, .int .i64 (n : Int)), (5, .pointer (some ⟨bv, 0, none⟩)), (28, .slice (some ⟨bc, 0, none⟩) N N), (29, .int .i64 (N : Int)), (30, .int .i64 (g.1 : Int))])
    (fun g w' => g.1 ≤ N ∧ w'.heap[bm]? = some (.cells (rowV n g.2) 37 (0, 0)) ∧ Nest 3 ints n2 w' n g.2 (Tj.mem g.1 comp) ∧ Kept nb [3, 37] w w') (fun g => N - g.1)
    (0, fun _ => .slice none 0 0) (And.intro rfl (And.intro rfl (And.intro rfl (And.intro rfl (And.intro rfl (And.intro rfl (And.intro rfl trivial))))))) ⟨Nat.zero_le _, hbm, .nil _ _ _, Kept.refl _ _ _⟩ ?_
  rintro ⟨i, vs⟩ w1 ⟨hi, hm1, ns1, k1⟩
  dsimp only at hi hm1 ns1 k1 ⊢
  have hbc1 := getb k1 hbc h1
  have hbv1 := gett k1 hbv rfl
  have hn1 := k1.size
  by_cases hil : i < N
  · have hci := hc i hil
    repeat (first | refine x_seq ?_ | refine x_reg ?_ | refine x_nil ?_ | refine x_then_n ?_ | refine rl_q rfl (q_move rfl) ?_ | refine rl_q rfl (q_nil rfl) ?_ | refine rl_q rfl (q_fa0 (by exact Fo.out) rfl) ?_ | refine rl_q rfl (q_fak (by exact Fo.out) rfl) ?_ | refine rl_q rfl (q_fieldAddr (by exact Fo.out) rfl) ?_ | refine rl_q rfl (q_assign rfl) ?_ | refine rl_q rfl (q_len rfl (by kernel_rfl) rfl) ?_ | refine rl_q rfl (q_extract rfl rfl) ?_ | refine rl_q rfl (q_addi _ rfl rfl rfl (by omega) (by omega)) ?_ | refine rl_q rfl (q_subi _ rfl rfl rfl (by omega) (by omega)) ?_ | refine rl_q rfl (q_muli _ rfl rfl rfl (by omega) (by omega)) ?_ | refine rl_q rfl (q_pick_t rfl rfl) ?_ | refine rl_q rfl (q_pick_f rfl rfl) ?_ | refine rl_q rfl (q_lt_t rfl rfl (by omega)) ?_ | refine rl_q rfl (q_lt_f rfl rfl (by omega)) ?_ | refine rl_q rfl (q_le_t rfl rfl (by omega)) ?_ | refine rl_q rfl (q_le_f rfl rfl (by omega)) ?_ | refine rl_q rfl (q_gt_t rfl rfl (by omega)) ?_ | refine rl_q rfl (q_gt_f rfl rfl (by omega)) ?_ | refine rl_q rfl (q_ge_t rfl rfl (by omega)) ?_ | refine rl_q rfl (q_ge_f rfl rfl (by omega)) ?_ | refine rl_q rfl (q_eq_t rfl rfl (by omega)) ?_ | refine rl_q rfl (q_eq_f rfl rfl (by omega)) ?_ | refine rl_q rfl (q_ne_t rfl rfl (by omega)) ?_ | refine rl_q rfl (q_ne_f rfl rfl (by omega)) ?_ | refine rl_q rfl (q_lt rfl rfl) ?_ | refine rl_q rfl (q_le rfl rfl) ?_ | refine rl_q rfl (q_gt rfl rfl) ?_ | refine rl_q rfl (q_ge rfl rfl) ?_ | refine rl_q rfl (q_eq rfl rfl) ?_ | refine rl_q rfl (q_ne rfl rfl) ?_ | refine rl_q rfl (q_not rfl) ?_ | refine rl_q rfl (q_nilf rfl) ?_ | refine rl_q rfl (q_makeFunc rfl rfl) ?_ | refine rl_q rfl (q_field (by exact Fo.out) (by kernel_rfl) rfl rfl) ?_ | refine rl_q rfl (q_load (by exact Tk.out) rfl (c1 (by assumption) (by rfl))) ?_ | refine rl_q rfl (q_loadB (by exact Tk.out) rfl (by assumption) (by rfl)) ?_ | refine rl_q rfl (q_load (by exact Tk.out) rfl (c1_cell (by assumption))) ?_ | refine x_blk_n ?_ | refine x_block ?_ | refine x_skip ?_ | refine x_label ?_ | refine x_ret ?_ | refine x_exit ?_ | refine x_then_r ?_ | refine x_then_e ?_ | refine x_blk_e ?_ | refine x_blk_r ?_ | refine x_blk_o rfl ?_ | refine x_cond_t rfl ?_ | refine x_cond_f rfl ?_ | refine rl_go rfl rfl ?_ | refine rl_no rfl rfl rfl rfl ?_)
    refine rl_q rfl (q_index1 (by exact Es.out) rfl rfl rfl hil) ?_
    refine rl_q rfl (q_load (v := .int .i64 (comp i : Int)) (by exact Tk.out) rfl (c1_cell (cell_of hbc1 (rowA_get hil)))) ?_
    repeat (first | refine x_seq ?_ | refine x_reg ?_ | refine x_nil ?_ | refine x_then_n ?_ | refine rl_q rfl (q_move rfl) ?_ | refine rl_q rfl (q_nil rfl) ?_ | refine rl_q rfl (q_fa0 (by exact Fo.out) rfl) ?_ | refine rl_q rfl (q_fak (by exact Fo.out) rfl) ?_ | refine rl_q rfl (q_fieldAddr (by exact Fo.out) rfl) ?_ | refine rl_q rfl (q_assign rfl) ?_ | refine rl_q rfl (q_len rfl (by kernel_rfl) rfl) ?_ | refine rl_q rfl (q_extract rfl rfl) ?_ | refine rl_q rfl (q_addi _ rfl rfl rfl (by omega) (by omega)) ?_ | refine rl_q rfl (q_subi _ rfl rfl rfl (by omega) (by omega)) ?_ | refine rl_q rfl (q_muli _ rfl rfl rfl (by omega) (by omega)) ?_ | refine rl_q rfl (q_pick_t rfl rfl) ?_ | refine rl_q rfl (q_pick_f rfl rfl) ?_ | refine rl_q rfl (q_lt_t rfl rfl (by omega)) ?_ | refine rl_q rfl (q_lt_f rfl rfl (by omega)) ?_ | refine rl_q rfl (q_le_t rfl rfl (by omega)) ?_ | refine rl_q rfl (q_le_f rfl rfl (by omega)) ?_ | refine rl_q rfl (q_gt_t rfl rfl (by omega)) ?_ | refine rl_q rfl (q_gt_f rfl rfl (by omega)) ?_ | refine rl_q rfl (q_ge_t rfl rfl (by omega)) ?_ | refine rl_q rfl (q_ge_f rfl rfl (by omega)) ?_ | refine rl_q rfl (q_eq_t rfl rfl (by omega)) ?_ | refine rl_q rfl (q_eq_f rfl rfl (by omega)) ?_ | refine rl_q rfl (q_ne_t rfl rfl (by omega)) ?_ | refine rl_q rfl (q_ne_f rfl rfl (by omega)) ?_ | refine rl_q rfl (q_lt rfl rfl) ?_ | refine rl_q rfl (q_le rfl rfl) ?_ | refine rl_q rfl (q_gt rfl rfl) ?_ | refine rl_q rfl (q_ge rfl rfl) ?_ | refine rl_q rfl (q_eq rfl rfl) ?_ | refine rl_q rfl (q_ne rfl rfl) ?_ | refine rl_q rfl (q_not rfl) ?_ | refine rl_q rfl (q_nilf rfl) ?_ | refine rl_q rfl (q_makeFunc rfl rfl) ?_ | refine rl_q rfl (q_field (by exact Fo.out) (by kernel_rfl) rfl rfl) ?_ | refine rl_q rfl (q_load (by exact Tk.out) rfl (c1 (by assumption) (by rfl))) ?_ | refine rl_q rfl (q_loadB (by exact Tk.out) rfl (by assumption) (by rfl)) ?_ | refine rl_q rfl (q_load (by exact Tk.out) rfl (c1_cell (by assumption))) ?_ | refine x_blk_n ?_ | refine x_block ?_ | refine x_skip ?_ | refine x_label ?_ | refine x_ret ?_ | refine x_exit ?_ | refine x_then_r ?_ | refine x_then_e ?_ | refine x_blk_e ?_ | refine x_blk_r ?_ | refine x_blk_o rfl ?_ | refine x_cond_t rfl ?_ | refine x_cond_f rfl ?_ | refine rl_go rfl rfl ?_ | refine rl_no rfl rfl rfl rfl ?_)
    refine x_drawK n2 [3] [10] mixed fun wd hk_wd hS_wd => ?_
    refine dr_s 0 rfl rfl (by kernel_rfl) (by kernel_rfl) (by kernel_rfl) (by kernel_rfl) (by kernel_rfl) (by kernel_rfl) (q_load (by exact Tk.out) rfl (c1k hbv1 rfl rfl)) hS_wd ?_
    refine dr_p 1 rfl rfl (by kernel_rfl) (by kernel_rfl) (by kernel_rfl) (by kernel_rfl) (q_move rfl) hS_wd ?_
    refine dr_s 2 rfl rfl (by kernel_rfl) (by kernel_rfl) (by kernel_rfl) (by kernel_rfl) (by kernel_rfl) (by kernel_rfl) (q_load (by exact Tk.out) rfl (c1k hbv1 rfl rfl)) hS_wd ?_
    refine dr_p 3 rfl rfl (by kernel_rfl) (by kernel_rfl) (by kernel_rfl) (by kernel_rfl) (q_move rfl) hS_wd ?_
    refine dr_p 4 rfl rfl (by kernel_rfl) (by kernel_rfl) (by kernel_rfl) (by kernel_rfl) (q_index1 (by exact Es.out) rfl rfl rfl hci) hS_wd ?_
    refine dr_s 5 rfl rfl (by kernel_rfl) (by kernel_rfl) (by kernel_rfl) (by kernel_rfl) (by kernel_rfl) (by kernel_rfl) (q_load (by exact Tk.out) rfl (c1k hm1 rfl (nthV hci))) hS_wd ?_
    refine dr_p 6 rfl rfl (by kernel_rfl) (by kernel_rfl) (by kernel_rfl) (by kernel_rfl) (q_move rfl) hS_wd ?_
    refine dr_e 7 (by kernel_rfl) rfl rfl (e_buildSlice (e := 3) (cs := (ints i).toArray) rfl (fun _ => by kernel_rfl) fun b7 w7 n7 => ⟨fun hu => hS_wd.trans (Kept.all n7.kept), ?_⟩)
    have S7 : Kept n2 [3] w1 w7 := hS_wd.trans (Kept.all n7.kept)
    have ns7 := (ns1.grow hk_wd).grow n7.kept
    have hml := mem_le comp i (comp i)
    refine dr_e 8 (by kernel_rfl) rfl rfl (e_append (size := 1) (by exact Us.out) (by exact Zi.out) rfl (by decide) rfl rfl (ns7.own _ hci) (by have := S7.size; omega) (m := 1) (news := ints i) rfl (news_of n7.here) (ints_one i) (by omega) (by omega) fun vA w8 oA gA eA => ⟨fun hu => S7.trans (kept_grownBy (ns7.own _ hci) gA), ?_⟩)
    have S8 : Kept n2 [3] w1 w8 := S7.trans (kept_grownBy (ns7.own _ hci) gA)
    have ns8 := ns7.app hci (x := i) oA gA eA
    obtain ⟨A8, c8, rfl, _⟩ := own_form oA
    have hm8 := gett S8 hm1 rfl
    refine dr_p 9 rfl rfl (by kernel_rfl) (by kernel_rfl) (by kernel_rfl) (by kernel_rfl) (q_index1 (by exact Es.out) rfl rfl rfl hci) S8 ?_
    refine dr_n 10 (by kernel_rfl) rfl (e_store1 (by exact Tk.out) rfl rfl rfl hm8 (by rw [rowV_size]; exact hci) fun w9 p9 => ⟨fun hu => unl hu (by kernel_rfl), ?_⟩)
    refine dr_done (by kernel_rfl) ?_
    have ns9 := ns8.puto p9 h3
    rw [← mem_succ] at ns9
    have k9 : Kept nb [3, 37] w w9 := kept_put (k1.trans (S8.mono (by omega) (by simp))) p9 hm8 rfl h2
    have hm9 := putV p9
    repeat (first | refine x_seq ?_ | refine x_reg ?_ | refine x_nil ?_ | refine x_then_n ?_ | refine rl_q rfl (q_move rfl) ?_ | refine rl_q rfl (q_nil rfl) ?_ | refine rl_q rfl (q_fa0 (by exact Fo.out) rfl) ?_ | refine rl_q rfl (q_fak (by exact Fo.out) rfl) ?_ | refine rl_q rfl (q_fieldAddr (by exact Fo.out) rfl) ?_ | refine rl_q rfl (q_assign rfl) ?_ | refine rl_q rfl (q_len rfl (by kernel_rfl) rfl) ?_ | refine rl_q rfl (q_extract rfl rfl) ?_ | refine rl_q rfl (q_addi _ rfl rfl rfl (by omega) (by omega)) ?_ | refine rl_q rfl (q_subi _ rfl rfl rfl (by omega) (by omega)) ?_ | refine rl_q rfl (q_muli _ rfl rfl rfl (by omega) (by omega)) ?_ | refine rl_q rfl (q_pick_t rfl rfl) ?_ | refine rl_q rfl (q_pick_f rfl rfl) ?_ | refine rl_q rfl (q_lt_t rfl rfl (by omega)) ?_ | refine rl_q rfl (q_lt_f rfl rfl (by omega)) ?_ | refine rl_q rfl (q_le_t rfl rfl (by omega)) ?_ | refine rl_q rfl (q_le_f rfl rfl (by omega)) ?_ | refine rl_q rfl (q_gt_t rfl rfl (by omega)) ?_ | refine rl_q rfl (q_gt_f rfl rfl (by omega)) ?_ | refine rl_q rfl (q_ge_t rfl rfl (by omega)) ?_ | refine rl_q rfl (q_ge_f rfl rfl (by omega)) ?_ | refine rl_q rfl (q_eq_t rfl rfl (by omega)) ?_ | refine rl_q rfl (q_eq_f rfl rfl (by omega)) ?_ | refine rl_q rfl (q_ne_t rfl rfl (by omega)) ?_ | refine rl_q rfl (q_ne_f rfl rfl (by omega)) ?_ | refine rl_q rfl (q_lt rfl rfl) ?_ | refine rl_q rfl (q_le rfl rfl) ?_ | refine rl_q rfl (q_gt rfl rfl) ?_ | refine rl_q rfl (q_ge rfl rfl) ?_ | refine rl_q rfl (q_eq rfl rfl) ?_ | refine rl_q rfl (q_ne rfl rfl) ?_ | refine rl_q rfl (q_not rfl) ?_ | refine rl_q rfl (q_nilf rfl) ?_ | refine rl_q rfl (q_makeFunc rfl rfl) ?_ | refine rl_q rfl (q_field (by exact Fo.out) (by kernel_rfl) rfl rfl) ?_ | refine rl_q rfl (q_load (by exact Tk.out) rfl (c1 (by assumption) (by rfl))) ?_ | refine rl_q rfl (q_loadB (by exact Tk.out) rfl (by assumption) (by rfl)) ?_ | refine rl_q rfl (q_load (by exact Tk.out) rfl (c1_cell (by assumption))) ?_ | refine x_blk_n ?_ | refine x_block ?_ | refine x_skip ?_ | refine x_label ?_ | refine x_ret ?_ | refine x_exit ?_ | refine x_then_r ?_ | refine x_then_e ?_ | refine x_blk_e ?_ | refine x_blk_r ?_ | refine x_blk_o rfl ?_ | refine x_cond_t rfl ?_ | refine x_cond_f rfl ?_ | refine rl_go rfl rfl ?_ | refine rl_no rfl rfl rfl rfl ?_)
    exact x_again (i + 1, _) (And.intro rfl (And.intro rfl (And.intro rfl (And.intro rfl (And.intro rfl (And.intro rfl (And.intro rfl trivial))))))) ⟨hil, hm9, ns9, k9⟩ (by dsimp only; omega)
  · obtain rfl : i = N := by omega
    repeat (first | refine x_seq ?_ | refine x_reg ?_ | refine x_nil ?_ | refine x_then_n ?_ | refine rl_q rfl (q_move rfl) ?_ | refine rl_q rfl (q_nil rfl) ?_ | refine rl_q rfl (q_fa0 (by exact Fo.out) rfl) ?_ | refine rl_q rfl (q_fak (by exact Fo.out) rfl) ?_ | refine rl_q rfl (q_fieldAddr (by exact Fo.out) rfl) ?_ | refine rl_q rfl (q_assign rfl) ?_ | refine rl_q rfl (q_len rfl (by kernel_rfl) rfl) ?_ | refine rl_q rfl (q_extract rfl rfl) ?_ | refine rl_q rfl (q_addi _ rfl rfl rfl (by omega) (by omega)) ?_ | refine rl_q rfl (q_subi _ rfl rfl rfl (by omega) (by omega)) ?_ | refine rl_q rfl (q_muli _ rfl rfl rfl (by omega) (by omega)) ?_ | refine rl_q rfl (q_pick_t rfl rfl) ?_ | refine rl_q rfl (q_pick_f rfl rfl) ?_ | refine rl_q rfl (q_lt_t rfl rfl (by omega)) ?_ | refine rl_q rfl (q_lt_f rfl rfl (by omega)) ?_ | refine rl_q rfl (q_le_t rfl rfl (by omega)) ?_ | refine rl_q rfl (q_le_f rfl rfl (by omega)) ?_ | refine rl_q rfl (q_gt_t rfl rfl (by omega)) ?_ | refine rl_q rfl (q_gt_f rfl rfl (by omega)) ?_ | refine rl_q rfl (q_ge_t rfl rfl (by omega)) ?_ | refine rl_q rfl (q_ge_f rfl rfl (by omega)) ?_ | refine rl_q rfl (q_eq_t rfl rfl (by omega)) ?_ | refine rl_q rfl (q_eq_f rfl rfl (by omega)) ?_ | refine rl_q rfl (q_ne_t rfl rfl (by omega)) ?_ | refine rl_q rfl (q_ne_f rfl rfl (by omega)) ?_ | refine rl_q rfl (q_lt rfl rfl) ?_ | refine rl_q rfl (q_le rfl rfl) ?_ | refine rl_q rfl (q_gt rfl rfl) ?_ | refine rl_q rfl (q_ge rfl rfl) ?_ | refine rl_q rfl (q_eq rfl rfl) ?_ | refine rl_q rfl (q_ne rfl rfl) ?_ | refine rl_q rfl (q_not rfl) ?_ | refine rl_q rfl (q_nilf rfl) ?_ | refine rl_q rfl (q_makeFunc rfl rfl) ?_ | refine rl_q rfl (q_field (by exact Fo.out) (by kernel_rfl) rfl rfl) ?_ | refine rl_q rfl (q_load (by exact Tk.out) rfl (c1 (by assumption) (by rfl))) ?_ | refine rl_q rfl (q_loadB (by exact Tk.out) rfl (by assumption) (by rfl)) ?_ | refine rl_q rfl (q_load (by exact Tk.out) rfl (c1_cell (by assumption))) ?_ | refine x_blk_n ?_ | refine x_block ?_ | refine x_skip ?_ | refine x_label ?_ | refine x_ret ?_ | refine x_exit ?_ | refine x_then_r ?_ | refine x_then_e ?_ | refine x_blk_e ?_ | refine x_blk_r ?_ | refine x_blk_o rfl ?_ | refine x_cond_t rfl ?_ | refine x_cond_f rfl ?_ | refine rl_go rfl rfl ?_ | refine rl_no rfl rfl rfl rfl ?_)
    refine F.sub ?_ (rest vs w1 hm1 ns1 k1)
    exact (And.intro rfl (And.intro rfl (And.intro rfl (And.intro rfl trivial))))
end Go.Proofs.YtnjjjfffppllfaaX.G
