/- The laws of the graph: a node is held against all nodes. -/
import Derived.Test.YtnjjjfffppllfaaLw
import Derived.Test.YtnjjjfffppllfaaLs
namespace Go.Proofs.YtnjjjfffppllfaaX.G
open Go.RowKit Go.Proofs.YtnjjjfffppllfaaK
open Tj (same okj cmp)
attribute [local irreducible] F Qt Ef Code.wp wpList wpT bodyPost Calls
set_option linter.unusedVariables false
set_option linter.unusedSimpArgs false

set_option maxHeartbeats 4000000 in
theorem tail16 {Q : Exit → Act → World → Prop} [PanicOk Q] {w : World} {n n0 nc bo bd i j cnt : Nat} {rb : Nat → Nat} {Rb : Nat → Nat → Bool} {D : Nat → Bool} {outv cv : Value} {cs : List Nat} {ok s : Bool} (hr : RB w n0 bo n n rb Rb) (hd : w.heap[bd]? = some (.cells (rowV n fun x => .bool (D x)) 4 (0, 0)))
    (ho : w.ownsRow nc 3 1 cv cs.length (cs.flatMap ints)) (hnc : nc ≤ w.heap.size) (hi : i < n) (hj : j < n) (hn : n ≤ 1000) (hcs : cs.length ≤ 1000)
    (rest : ∀ cv' w', w'.ownsRow nc 3 1 cv' (cs ++ if s then [j] else []).length ((cs ++ if s then [j] else []).flatMap ints) → Kept nc [3] w w' → F 108 [(3, .int .i64 (n : Int)), (4, .slice (some ⟨bo, 0, none⟩) n n), (5, .slice (some ⟨bd, 0, none⟩) n n), (6, outv), (7, .int .i64 (cnt : Int)), (8, .int .i64 (i : Int)), (9, .bool (ok && (s || !Rb i j || D j))), (10, cv'), (11, .int .i64 (j : Int))] w' (Q .normal)) :
    F 108 [(3, .int .i64 (n : Int)), (4, .slice (some ⟨bo, 0, none⟩) n n), (5, .slice (some ⟨bd, 0, none⟩) n n), (6, outv), (7, .int .i64 (cnt : Int)), (8, .int .i64 (i : Int)), (9, .bool ok), (10, cv), (11, .int .i64 (j : Int)), (12, .bool s)] w ((bodyAt Try.f31 [1, 1, 1, 1, 1, 0, 1, 0, 0, 1, 0, 1, 0, 0, 1, 0, 0, 1, 1, 0, 1, 0, 0, 1, 0, 0, 1]).wp Try.prog Q) := by
  cases s with
  | true =>
    obtain ⟨A0, c0, rfl, _⟩ := own_form ho
    repeat (first | refine x_seq ?_ | refine x_reg ?_ | refine x_nil ?_ | refine x_then_n ?_ | refine x_blk_n ?_ | refine x_block ?_ | refine x_skip ?_ | refine x_label ?_ | refine x_ret ?_ | refine x_exit ?_ | refine x_then_r ?_ | refine x_then_e ?_ | refine x_blk_e ?_ | refine x_blk_r ?_ | refine x_blk_o rfl ?_ | refine x_cond_t rfl ?_ | refine x_cond_f rfl ?_ | refine rl_go rfl rfl ?_ | refine rl_no rfl rfl rfl rfl ?_)
    refine rl_q rfl (q_move rfl) ?_
    repeat (first | refine x_seq ?_ | refine x_reg ?_ | refine x_nil ?_ | refine x_then_n ?_ | refine x_blk_n ?_ | refine x_block ?_ | refine x_skip ?_ | refine x_label ?_ | refine x_ret ?_ | refine x_exit ?_ | refine x_then_r ?_ | refine x_then_e ?_ | refine x_blk_e ?_ | refine x_blk_r ?_ | refine x_blk_o rfl ?_ | refine x_cond_t rfl ?_ | refine x_cond_f rfl ?_ | refine rl_go rfl rfl ?_ | refine rl_no rfl rfl rfl rfl ?_)
    refine rl_q rfl (q_move rfl) ?_
    refine rl_q rfl (q_move rfl) ?_
    refine rl_e rfl (e_buildSlice (e := 3) (cs := (ints j).toArray) rfl (fun _ => by kernel_rfl) fun b1 w1 n1 => ?_)
    have own1 := own_grow ho n1.kept
    refine rl_e rfl (e_append (size := 1) (by exact Us.out) (by exact Zi.out) rfl (by decide) rfl rfl own1 (by have := n1.kept.size; omega) (m := 1) (news := ints j) rfl (news_of n1.here) (ints_one j) (by omega) (by omega) fun v2 w2 own2 hg2 _ => ?_)
    have k2 := (Kept.all n1.kept).trans (kept_grownBy own1 hg2)
    obtain ⟨A2, c2, rfl, _⟩ := own_form own2
    refine rl_q rfl (q_assign rfl) ?_
    repeat (first | refine x_seq ?_ | refine x_reg ?_ | refine x_nil ?_ | refine x_then_n ?_ | refine x_blk_n ?_ | refine x_block ?_ | refine x_skip ?_ | refine x_label ?_ | refine x_ret ?_ | refine x_exit ?_ | refine x_then_r ?_ | refine x_then_e ?_ | refine x_blk_e ?_ | refine x_blk_r ?_ | refine x_blk_o rfl ?_ | refine x_cond_t rfl ?_ | refine x_cond_f rfl ?_ | refine rl_go rfl rfl ?_ | refine rl_no rfl rfl rfl rfl ?_)
    have own2' : w2.ownsRow nc 3 1 (.slice A2 (cs.length + 1) c2) (cs ++ if true then [j] else []).length ((cs ++ if true then [j] else []).flatMap ints) := by simpa using own2
    cases ok with
    | true =>
      refine rl_q rfl (q_move rfl) ?_
      refine rl_q rfl (q_move rfl) ?_
      refine rl_go rfl rfl ?_
      refine rl_q rfl (q_move rfl) ?_
      refine rl_go rfl rfl ?_
      refine rl_q rfl (q_move rfl) ?_
      refine rl_no rfl rfl rfl rfl ?_
      refine rl_no rfl rfl rfl rfl ?_
      refine rl_no rfl rfl rfl rfl ?_
      refine rl_no rfl rfl rfl rfl ?_
      refine rl_no rfl rfl rfl rfl ?_
      refine rl_no rfl rfl rfl rfl ?_
      refine rl_no rfl rfl rfl rfl ?_
      refine rl_no rfl rfl rfl rfl ?_
      refine rl_go rfl rfl ?_
      refine rl_q rfl (q_pick_t rfl rfl) ?_
      refine rl_go rfl rfl ?_
      refine rl_q rfl (q_move rfl) ?_
      refine rl_no rfl rfl rfl rfl ?_
      refine rl_no rfl rfl rfl rfl ?_
      refine rl_no rfl rfl rfl rfl ?_
      refine rl_no rfl rfl rfl rfl ?_
      refine rl_go rfl rfl ?_
      refine rl_q rfl (q_pick_t rfl rfl) ?_
      refine rl_q rfl (q_pick_t rfl rfl) ?_
      refine rl_q rfl (q_assign rfl) ?_
      repeat (first | refine x_seq ?_ | refine x_reg ?_ | refine x_nil ?_ | refine x_then_n ?_ | refine x_blk_n ?_ | refine x_block ?_ | refine x_skip ?_ | refine x_label ?_ | refine x_ret ?_ | refine x_exit ?_ | refine x_then_r ?_ | refine x_then_e ?_ | refine x_blk_e ?_ | refine x_blk_r ?_ | refine x_blk_o rfl ?_ | refine x_cond_t rfl ?_ | refine x_cond_f rfl ?_ | refine rl_go rfl rfl ?_ | refine rl_no rfl rfl rfl rfl ?_)
      refine F.sub ?_ (rest _ w2 own2' k2)
      exact (And.intro rfl (And.intro rfl (And.intro rfl (And.intro rfl (And.intro rfl (And.intro rfl (And.intro rfl (And.intro rfl (And.intro rfl trivial)))))))))
    | false =>
      refine rl_q rfl (q_move rfl) ?_
      refine rl_q rfl (q_move rfl) ?_
      refine rl_no rfl rfl rfl rfl ?_
      refine rl_no rfl rfl rfl rfl ?_
      refine rl_nu rfl rfl rfl ?_
      refine rl_nu rfl rfl rfl ?_
      refine rl_nu rfl rfl rfl ?_
      refine rl_nu rfl rfl rfl ?_
      refine rl_nu rfl rfl rfl ?_
      refine rl_nu rfl rfl rfl ?_
      refine rl_nu rfl rfl rfl ?_
      refine rl_nu rfl rfl rfl ?_
      refine rl_no rfl rfl rfl rfl ?_
      refine rl_no rfl rfl rfl rfl ?_
      refine rl_nu rfl rfl rfl ?_
      refine rl_nu rfl rfl rfl ?_
      refine rl_nu rfl rfl rfl ?_
      refine rl_nu rfl rfl rfl ?_
      refine rl_no rfl rfl rfl rfl ?_
      refine rl_q rfl (q_pick_f rfl rfl) ?_
      refine rl_q rfl (q_assign rfl) ?_
      repeat (first | refine x_seq ?_ | refine x_reg ?_ | refine x_nil ?_ | refine x_then_n ?_ | refine x_blk_n ?_ | refine x_block ?_ | refine x_skip ?_ | refine x_label ?_ | refine x_ret ?_ | refine x_exit ?_ | refine x_then_r ?_ | refine x_then_e ?_ | refine x_blk_e ?_ | refine x_blk_r ?_ | refine x_blk_o rfl ?_ | refine x_cond_t rfl ?_ | refine x_cond_f rfl ?_ | refine rl_go rfl rfl ?_ | refine rl_no rfl rfl rfl rfl ?_)
      refine F.sub ?_ (rest _ w2 own2' k2)
      exact (And.intro rfl (And.intro rfl (And.intro rfl (And.intro rfl (And.intro rfl (And.intro rfl (And.intro rfl (And.intro rfl (And.intro rfl trivial)))))))))
  | false =>
    have ho' : w.ownsRow nc 3 1 cv (cs ++ if false then [j] else []).length ((cs ++ if false then [j] else []).flatMap ints) := by simpa using ho
    have co := hr.outer hi (Nat.le_refl _)
    have c1' := hr.inner hi hj
    have c2' := cell_of hd (rowV_get (f := fun x => .bool (D x)) hj)
    cases ok with
    | false =>
      repeat (first | refine x_seq ?_ | refine x_reg ?_ | refine x_nil ?_ | refine x_then_n ?_ | refine x_blk_n ?_ | refine x_block ?_ | refine x_skip ?_ | refine x_label ?_ | refine x_ret ?_ | refine x_exit ?_ | refine x_then_r ?_ | refine x_then_e ?_ | refine x_blk_e ?_ | refine x_blk_r ?_ | refine x_blk_o rfl ?_ | refine x_cond_t rfl ?_ | refine x_cond_f rfl ?_ | refine rl_go rfl rfl ?_ | refine rl_no rfl rfl rfl rfl ?_)
      refine rl_q rfl (q_move rfl) ?_
      repeat (first | refine x_seq ?_ | refine x_reg ?_ | refine x_nil ?_ | refine x_then_n ?_ | refine x_blk_n ?_ | refine x_block ?_ | refine x_skip ?_ | refine x_label ?_ | refine x_ret ?_ | refine x_exit ?_ | refine x_then_r ?_ | refine x_then_e ?_ | refine x_blk_e ?_ | refine x_blk_r ?_ | refine x_blk_o rfl ?_ | refine x_cond_t rfl ?_ | refine x_cond_f rfl ?_ | refine rl_go rfl rfl ?_ | refine rl_no rfl rfl rfl rfl ?_)
      refine rl_q rfl (q_move rfl) ?_
      refine rl_q rfl (q_move rfl) ?_
      refine rl_no rfl rfl rfl rfl ?_
      refine rl_no rfl rfl rfl rfl ?_
      refine rl_nu rfl rfl rfl ?_
      refine rl_nu rfl rfl rfl ?_
      refine rl_nu rfl rfl rfl ?_
      refine rl_nu rfl rfl rfl ?_
      refine rl_nu rfl rfl rfl ?_
      refine rl_nu rfl rfl rfl ?_
      refine rl_nu rfl rfl rfl ?_
      refine rl_nu rfl rfl rfl ?_
      refine rl_no rfl rfl rfl rfl ?_
      refine rl_no rfl rfl rfl rfl ?_
      refine rl_nu rfl rfl rfl ?_
      refine rl_nu rfl rfl rfl ?_
      refine rl_nu rfl rfl rfl ?_
      refine rl_nu rfl rfl rfl ?_
      refine rl_no rfl rfl rfl rfl ?_
      refine rl_q rfl (q_pick_f rfl rfl) ?_
      refine rl_q rfl (q_assign rfl) ?_
      repeat (first | refine x_seq ?_ | refine x_reg ?_ | refine x_nil ?_ | refine x_then_n ?_ | refine x_blk_n ?_ | refine x_block ?_ | refine x_skip ?_ | refine x_label ?_ | refine x_ret ?_ | refine x_exit ?_ | refine x_then_r ?_ | refine x_then_e ?_ | refine x_blk_e ?_ | refine x_blk_r ?_ | refine x_blk_o rfl ?_ | refine x_cond_t rfl ?_ | refine x_cond_f rfl ?_ | refine rl_go rfl rfl ?_ | refine rl_no rfl rfl rfl rfl ?_)
      refine F.sub ?_ (rest _ w ho' (Kept.refl _ _ _))
      exact (And.intro rfl (And.intro rfl (And.intro rfl (And.intro rfl (And.intro rfl (And.intro rfl (And.intro rfl (And.intro rfl (And.intro rfl trivial)))))))))
    | true =>
      cases hRb : Rb i j with
      | false =>
        rw [hRb] at c1' rest
        repeat (first | refine x_seq ?_ | refine x_reg ?_ | refine x_nil ?_ | refine x_then_n ?_ | refine x_blk_n ?_ | refine x_block ?_ | refine x_skip ?_ | refine x_label ?_ | refine x_ret ?_ | refine x_exit ?_ | refine x_then_r ?_ | refine x_then_e ?_ | refine x_blk_e ?_ | refine x_blk_r ?_ | refine x_blk_o rfl ?_ | refine x_cond_t rfl ?_ | refine x_cond_f rfl ?_ | refine rl_go rfl rfl ?_ | refine rl_no rfl rfl rfl rfl ?_)
        refine rl_q rfl (q_move rfl) ?_
        repeat (first | refine x_seq ?_ | refine x_reg ?_ | refine x_nil ?_ | refine x_then_n ?_ | refine x_blk_n ?_ | refine x_block ?_ | refine x_skip ?_ | refine x_label ?_ | refine x_ret ?_ | refine x_exit ?_ | refine x_then_r ?_ | refine x_then_e ?_ | refine x_blk_e ?_ | refine x_blk_r ?_ | refine x_blk_o rfl ?_ | refine x_cond_t rfl ?_ | refine x_cond_f rfl ?_ | refine rl_go rfl rfl ?_ | refine rl_no rfl rfl rfl rfl ?_)
        refine rl_q rfl (q_move rfl) ?_
        refine rl_q rfl (q_move rfl) ?_
        refine rl_go rfl rfl ?_
        refine rl_q rfl (q_move rfl) ?_
        refine rl_go rfl rfl ?_
        refine rl_q rfl (q_move rfl) ?_
        refine rl_go rfl rfl ?_
        refine rl_q rfl (q_move rfl) ?_
        refine rl_go rfl rfl ?_
        refine rl_q rfl (q_move rfl) ?_
        refine rl_go rfl rfl ?_
        refine rl_q rfl (q_index1 (by exact Es.out) rfl rfl rfl hi) ?_
        refine rl_go rfl rfl ?_
        refine rl_q rfl (q_load (by exact Tk.out) rfl (c1 hr.ho co)) ?_
        refine rl_go rfl rfl ?_
        refine rl_q rfl (q_move rfl) ?_
        refine rl_go rfl rfl ?_
        refine rl_q rfl (q_index1 (by exact Es.out) rfl rfl rfl hj) ?_
        refine rl_go rfl rfl ?_
        refine rl_q rfl (q_load (by exact Tk.out) rfl (c1_cell c1')) ?_
        refine rl_go rfl rfl ?_
        refine rl_q rfl (q_not rfl) ?_
        refine rl_go rfl rfl ?_
        refine rl_q rfl (q_pick_f rfl rfl) ?_
        refine rl_go rfl rfl ?_
        refine rl_q rfl (q_move rfl) ?_
        refine rl_no rfl rfl rfl rfl ?_
        refine rl_no rfl rfl rfl rfl ?_
        refine rl_no rfl rfl rfl rfl ?_
        refine rl_no rfl rfl rfl rfl ?_
        refine rl_go rfl rfl ?_
        refine rl_q rfl (q_pick_t rfl rfl) ?_
        refine rl_q rfl (q_pick_t rfl rfl) ?_
        refine rl_q rfl (q_assign rfl) ?_
        repeat (first | refine x_seq ?_ | refine x_reg ?_ | refine x_nil ?_ | refine x_then_n ?_ | refine x_blk_n ?_ | refine x_block ?_ | refine x_skip ?_ | refine x_label ?_ | refine x_ret ?_ | refine x_exit ?_ | refine x_then_r ?_ | refine x_then_e ?_ | refine x_blk_e ?_ | refine x_blk_r ?_ | refine x_blk_o rfl ?_ | refine x_cond_t rfl ?_ | refine x_cond_f rfl ?_ | refine rl_go rfl rfl ?_ | refine rl_no rfl rfl rfl rfl ?_)
        refine F.sub ?_ (rest _ w ho' (Kept.refl _ _ _))
        exact (And.intro rfl (And.intro rfl (And.intro rfl (And.intro rfl (And.intro rfl (And.intro rfl (And.intro rfl (And.intro rfl (And.intro rfl trivial)))))))))
      | true =>
        rw [hRb] at c1' rest
        repeat (first | refine x_seq ?_ | refine x_reg ?_ | refine x_nil ?_ | refine x_then_n ?_ | refine x_blk_n ?_ | refine x_block ?_ | refine x_skip ?_ | refine x_label ?_ | refine x_ret ?_ | refine x_exit ?_ | refine x_then_r ?_ | refine x_then_e ?_ | refine x_blk_e ?_ | refine x_blk_r ?_ | refine x_blk_o rfl ?_ | refine x_cond_t rfl ?_ | refine x_cond_f rfl ?_ | refine rl_go rfl rfl ?_ | refine rl_no rfl rfl rfl rfl ?_)
        refine rl_q rfl (q_move rfl) ?_
        repeat (first | refine x_seq ?_ | refine x_reg ?_ | refine x_nil ?_ | refine x_then_n ?_ | refine x_blk_n ?_ | refine x_block ?_ | refine x_skip ?_ | refine x_label ?_ | refine x_ret ?_ | refine x_exit ?_ | refine x_then_r ?_ | refine x_then_e ?_ | refine x_blk_e ?_ | refine x_blk_r ?_ | refine x_blk_o rfl ?_ | refine x_cond_t rfl ?_ | refine x_cond_f rfl ?_ | refine rl_go rfl rfl ?_ | refine rl_no rfl rfl rfl rfl ?_)
        refine rl_q rfl (q_move rfl) ?_
        refine rl_q rfl (q_move rfl) ?_
        refine rl_go rfl rfl ?_
        refine rl_q rfl (q_move rfl) ?_
        refine rl_go rfl rfl ?_
        refine rl_q rfl (q_move rfl) ?_
        refine rl_go rfl rfl ?_
        refine rl_q rfl (q_move rfl) ?_
        refine rl_go rfl rfl ?_
        refine rl_q rfl (q_move rfl) ?_
        refine rl_go rfl rfl ?_
        refine rl_q rfl (q_index1 (by exact Es.out) rfl rfl rfl hi) ?_
        refine rl_go rfl rfl ?_
        refine rl_q rfl (q_load (by exact Tk.out) rfl (c1 hr.ho co)) ?_
        refine rl_go rfl rfl ?_
        refine rl_q rfl (q_move rfl) ?_
        refine rl_go rfl rfl ?_
        refine rl_q rfl (q_index1 (by exact Es.out) rfl rfl rfl hj) ?_
        refine rl_go rfl rfl ?_
        refine rl_q rfl (q_load (by exact Tk.out) rfl (c1_cell c1')) ?_
        refine rl_go rfl rfl ?_
        refine rl_q rfl (q_not rfl) ?_
        refine rl_go rfl rfl ?_
        refine rl_q rfl (q_pick_f rfl rfl) ?_
        refine rl_go rfl rfl ?_
        refine rl_q rfl (q_move rfl) ?_
        refine rl_go rfl rfl ?_
        refine rl_q rfl (q_move rfl) ?_
        refine rl_go rfl rfl ?_
        refine rl_q rfl (q_move rfl) ?_
        refine rl_go rfl rfl ?_
        refine rl_q rfl (q_index1 (by exact Es.out) rfl rfl rfl hj) ?_
        refine rl_go rfl rfl ?_
        refine rl_q rfl (q_load (by exact Tk.out) rfl (c1_cell c2')) ?_
        refine rl_go rfl rfl ?_
        refine rl_q rfl (q_pick_f rfl rfl) ?_
        refine rl_q rfl (q_pick_t rfl rfl) ?_
        refine rl_q rfl (q_assign rfl) ?_
        repeat (first | refine x_seq ?_ | refine x_reg ?_ | refine x_nil ?_ | refine x_then_n ?_ | refine x_blk_n ?_ | refine x_block ?_ | refine x_skip ?_ | refine x_label ?_ | refine x_ret ?_ | refine x_exit ?_ | refine x_then_r ?_ | refine x_then_e ?_ | refine x_blk_e ?_ | refine x_blk_r ?_ | refine x_blk_o rfl ?_ | refine x_cond_t rfl ?_ | refine x_cond_f rfl ?_ | refine rl_go rfl rfl ?_ | refine rl_no rfl rfl rfl rfl ?_)
        refine F.sub ?_ (rest _ w ho' (Kept.refl _ _ _))
        exact (And.intro rfl (And.intro rfl (And.intro rfl (And.intro rfl (And.intro rfl (And.intro rfl (And.intro rfl (And.intro rfl (And.intro rfl trivial)))))))))

set_option maxHeartbeats 4000000 in
theorem loop31_4 {Q : Exit → Act → World → Prop} [PanicOk Q] {w : World} {n n0 nc bo bd i cnt : Nat} {rb : Nat → Nat} {Rb : Nat → Nat → Bool} {D : Nat → Bool} {outv cv : Value} (hr : RB w n0 bo n n rb Rb) (hd : w.heap[bd]? = some (.cells (rowV n fun x => .bool (D x)) 4 (0, 0)))
    (ho : w.ownsRow nc 3 1 cv 0 []) (hnc : nc ≤ w.heap.size) (hi : i < n) (hn : n ≤ 1000)
    (rest : ∀ cv' w', w'.ownsRow nc 3 1 cv' (cmp Rb i n).length ((cmp Rb i n).flatMap ints) → Kept nc [3] w w' → F 108 [(3, .int .i64 (n : Int)), (4, .slice (some ⟨bo, 0, none⟩) n n), (5, .slice (some ⟨bd, 0, none⟩) n n), (6, outv), (7, .int .i64 (cnt : Int)), (8, .int .i64 (i : Int)), (9, .bool (okj Rb D i n)), (10, cv')] w' (Q .normal)) :
    F 108 [(3, .int .i64 (n : Int)), (4, .slice (some ⟨bo, 0, none⟩) n n), (5, .slice (some ⟨bd, 0, none⟩) n n), (6, outv), (7, .int .i64 (cnt : Int)), (8, .int .i64 (i : Int)), (9, .bool (!D i)), (10, cv), (11, .int .i64 0)] w ((bodyAt Try.f31 [1, 1, 1, 1, 1, 0, 1, 0, 0, 1, 0, 1, 0, 0, 1, 0, 0, 1, 1, 0, 1, 0]).wp Try.prog (Exit.inBlock 4 Q)) := by
  refine x_loop (γ := Nat × Value) (fun g => [(3, .int .i64 (n : Int)), (4, .slice (some ⟨bo, 0, none⟩) n n), (5, .slice (some ⟨bd, 0, none⟩) n n), (6, outv), (7, .int .i64 (cnt : Int)), (8, .int .i64 (i : Int)), (9, .bool (okj Rb D i g.1)), (10, g.2), (11, .int .i64 (g.1 : Int))])
    (fun g w' => g.1 ≤ n ∧ w'.ownsRow nc 3 1 g.2 (cmp Rb i g.1).length ((cmp Rb i g.1).flatMap ints) ∧ Kept nc [3] w w') (fun g => n - g.1) (0, cv) (And.intro rfl (And.intro rfl (And.intro rfl (And.intro rfl (And.intro rfl (And.intro rfl (And.intro (by simp [look, okj, Nat.beq]) (And.intro rfl (And.intro rfl trivial))))))))) ⟨Nat.zero_le _, by simpa [cmp] using ho, Kept.refl _ _ _⟩ ?_
  rintro ⟨j, cv1⟩ w1 ⟨hj, own1, k1⟩
  dsimp only at hj own1 k1 ⊢
  have hr1 := hr.keep k1 rfl rfl
  have hd1 := gett k1 hd rfl
  have hz1 := k1.size
  have hcl := Tj.cmp_le Rb i j
  by_cases hjl : j < n
  · have co := hr1.outer hi (Nat.le_refl _)
    have cj := hr1.outer hjl (Nat.le_refl _)
    have c1' := hr1.inner hi hjl
    have c2' := hr1.inner hjl hi
    by_cases e : j = i
    · repeat (first | refine x_seq ?_ | refine x_reg ?_ | refine x_nil ?_ | refine x_then_n ?_ | refine x_blk_n ?_ | refine x_block ?_ | refine x_skip ?_ | refine x_label ?_ | refine x_ret ?_ | refine x_exit ?_ | refine x_then_r ?_ | refine x_then_e ?_ | refine x_blk_e ?_ | refine x_blk_r ?_ | refine x_blk_o rfl ?_ | refine x_cond_t rfl ?_ | refine x_cond_f rfl ?_ | refine rl_go rfl rfl ?_ | refine rl_no rfl rfl rfl rfl ?_)
      refine rl_q rfl (q_move rfl) ?_
      refine rl_q rfl (q_move rfl) ?_
      refine rl_q rfl (q_lt_t rfl rfl (by omega)) ?_
      repeat (first | refine x_seq ?_ | refine x_reg ?_ | refine x_nil ?_ | refine x_then_n ?_ | refine x_blk_n ?_ | refine x_block ?_ | refine x_skip ?_ | refine x_label ?_ | refine x_ret ?_ | refine x_exit ?_ | refine x_then_r ?_ | refine x_then_e ?_ | refine x_blk_e ?_ | refine x_blk_r ?_ | refine x_blk_o rfl ?_ | refine x_cond_t rfl ?_ | refine x_cond_f rfl ?_ | refine rl_go rfl rfl ?_ | refine rl_no rfl rfl rfl rfl ?_)
      refine rl_q rfl (q_move rfl) ?_
      refine rl_q rfl (q_move rfl) ?_
      refine rl_q rfl (q_eq_t rfl rfl (by omega)) ?_
      refine rl_q rfl (q_move rfl) ?_
      refine rl_no rfl rfl rfl rfl ?_
      refine rl_no rfl rfl rfl rfl ?_
      refine rl_no rfl rfl rfl rfl ?_
      refine rl_no rfl rfl rfl rfl ?_
      refine rl_no rfl rfl rfl rfl ?_
      refine rl_no rfl rfl rfl rfl ?_
      refine rl_no rfl rfl rfl rfl ?_
      refine rl_no rfl rfl rfl rfl ?_
      refine rl_nu rfl rfl rfl ?_
      refine rl_nu rfl rfl rfl ?_
      refine rl_nu rfl rfl rfl ?_
      refine rl_nu rfl rfl rfl ?_
      refine rl_nu rfl rfl rfl ?_
      refine rl_nu rfl rfl rfl ?_
      refine rl_nu rfl rfl rfl ?_
      refine rl_no rfl rfl rfl rfl ?_
      refine rl_q rfl (q_pick_t rfl rfl) ?_
      refine rl_q rfl (q_assign rfl) ?_
      refine x_nil ?_
      refine x_then_n ?_
      have hs : same Rb i j = true := by simp [same, e]
      have e9 : (okj Rb D i j && (true || !Rb i j || D j)) = okj Rb D i (j + 1) := by rw [Tj.okj_succ, hs]
      refine F.sub ?_ (tail16 (ok := okj Rb D i j) (outv := outv) (cnt := cnt) (s := true) hr1 hd1 own1 (by omega) hi hjl hn (by omega) fun cv2 w2 own2 k2 => ?_)
      exact (And.intro rfl (And.intro rfl (And.intro rfl (And.intro rfl (And.intro rfl (And.intro rfl (And.intro rfl (And.intro rfl (And.intro rfl (And.intro rfl trivial))))))))))
      rw [e9]
      have ecs : cmp Rb i (j + 1) = cmp Rb i j ++ if true = true then [j] else [] := by rw [Tj.cmp_succ, hs]
      rw [← ecs] at own2
      repeat (first | refine x_seq ?_ | refine x_reg ?_ | refine x_nil ?_ | refine x_then_n ?_ | refine x_blk_n ?_ | refine x_block ?_ | refine x_skip ?_ | refine x_label ?_ | refine x_ret ?_ | refine x_exit ?_ | refine x_then_r ?_ | refine x_then_e ?_ | refine x_blk_e ?_ | refine x_blk_r ?_ | refine x_blk_o rfl ?_ | refine x_cond_t rfl ?_ | refine x_cond_f rfl ?_ | refine rl_go rfl rfl ?_ | refine rl_no rfl rfl rfl rfl ?_)
      refine rl_q rfl (q_move rfl) ?_
      refine rl_q rfl (q_addi ((j + 1 : Nat) : Int) rfl rfl (by omega) (by omega) (by omega)) ?_
      refine rl_q rfl (q_assign rfl) ?_
      repeat (first | refine x_seq ?_ | refine x_reg ?_ | refine x_nil ?_ | refine x_then_n ?_ | refine x_blk_n ?_ | refine x_block ?_ | refine x_skip ?_ | refine x_label ?_ | refine x_ret ?_ | refine x_exit ?_ | refine x_then_r ?_ | refine x_then_e ?_ | refine x_blk_e ?_ | refine x_blk_r ?_ | refine x_blk_o rfl ?_ | refine x_cond_t rfl ?_ | refine x_cond_f rfl ?_ | refine rl_go rfl rfl ?_ | refine rl_no rfl rfl rfl rfl ?_)
      exact x_again (j + 1, cv2) (And.intro rfl (And.intro rfl (And.intro rfl (And.intro rfl (And.intro rfl (And.intro rfl (And.intro rfl (And.intro rfl (And.intro rfl trivial))))))))) ⟨hjl, own2, k1.trans k2⟩ (by dsimp only; omega)
    · cases hRb : Rb i j with
      | false =>
        rw [hRb] at c1'
        repeat (first | refine x_seq ?_ | refine x_reg ?_ | refine x_nil ?_ | refine x_then_n ?_ | refine x_blk_n ?_ | refine x_block ?_ | refine x_skip ?_ | refine x_label ?_ | refine x_ret ?_ | refine x_exit ?_ | refine x_then_r ?_ | refine x_then_e ?_ | refine x_blk_e ?_ | refine x_blk_r ?_ | refine x_blk_o rfl ?_ | refine x_cond_t rfl ?_ | refine x_cond_f rfl ?_ | refine rl_go rfl rfl ?_ | refine rl_no rfl rfl rfl rfl ?_)
        refine rl_q rfl (q_move rfl) ?_
        refine rl_q rfl (q_move rfl) ?_
        refine rl_q rfl (q_lt_t rfl rfl (by omega)) ?_
        repeat (first | refine x_seq ?_ | refine x_reg ?_ | refine x_nil ?_ | refine x_then_n ?_ | refine x_blk_n ?_ | refine x_block ?_ | refine x_skip ?_ | refine x_label ?_ | refine x_ret ?_ | refine x_exit ?_ | refine x_then_r ?_ | refine x_then_e ?_ | refine x_blk_e ?_ | refine x_blk_r ?_ | refine x_blk_o rfl ?_ | refine x_cond_t rfl ?_ | refine x_cond_f rfl ?_ | refine rl_go rfl rfl ?_ | refine rl_no rfl rfl rfl rfl ?_)
        refine rl_q rfl (q_move rfl) ?_
        refine rl_q rfl (q_move rfl) ?_
        refine rl_q rfl (q_eq_f rfl rfl (by omega)) ?_
        refine rl_q rfl (q_move rfl) ?_
        refine rl_go rfl rfl ?_
        refine rl_q rfl (q_move rfl) ?_
        refine rl_go rfl rfl ?_
        refine rl_q rfl (q_move rfl) ?_
        refine rl_go rfl rfl ?_
        refine rl_q rfl (q_index1 (by exact Es.out) rfl rfl rfl hi) ?_
        refine rl_go rfl rfl ?_
        refine rl_q rfl (q_load (by exact Tk.out) rfl (c1 hr1.ho co)) ?_
        refine rl_go rfl rfl ?_
        refine rl_q rfl (q_move rfl) ?_
        refine rl_go rfl rfl ?_
        refine rl_q rfl (q_index1 (by exact Es.out) rfl rfl rfl hjl) ?_
        refine rl_go rfl rfl ?_
        refine rl_q rfl (q_load (by exact Tk.out) rfl (c1_cell c1')) ?_
        refine rl_go rfl rfl ?_
        refine rl_q rfl (q_move rfl) ?_
        refine rl_no rfl rfl rfl rfl ?_
        refine rl_no rfl rfl rfl rfl ?_
        refine rl_no rfl rfl rfl rfl ?_
        refine rl_no rfl rfl rfl rfl ?_
        refine rl_no rfl rfl rfl rfl ?_
        refine rl_no rfl rfl rfl rfl ?_
        refine rl_no rfl rfl rfl rfl ?_
        refine rl_go rfl rfl ?_
        refine rl_q rfl (q_pick_f rfl rfl) ?_
        refine rl_q rfl (q_pick_f rfl rfl) ?_
        refine rl_q rfl (q_assign rfl) ?_
        refine x_nil ?_
        refine x_then_n ?_
        have hs : same Rb i j = false := by simp [same, e, hRb]
        have e9 : (okj Rb D i j && (false || !Rb i j || D j)) = okj Rb D i (j + 1) := by rw [Tj.okj_succ, hs]
        refine F.sub ?_ (tail16 (ok := okj Rb D i j) (outv := outv) (cnt := cnt) (s := false) hr1 hd1 own1 (by omega) hi hjl hn (by omega) fun cv2 w2 own2 k2 => ?_)
        exact (And.intro rfl (And.intro rfl (And.intro rfl (And.intro rfl (And.intro rfl (And.intro rfl (And.intro rfl (And.intro rfl (And.intro rfl (And.intro rfl trivial))))))))))
        rw [e9]
        have ecs : cmp Rb i (j + 1) = cmp Rb i j ++ if false = true then [j] else [] := by rw [Tj.cmp_succ, hs]
        rw [← ecs] at own2
        repeat (first | refine x_seq ?_ | refine x_reg ?_ | refine x_nil ?_ | refine x_then_n ?_ | refine x_blk_n ?_ | refine x_block ?_ | refine x_skip ?_ | refine x_label ?_ | refine x_ret ?_ | refine x_exit ?_ | refine x_then_r ?_ | refine x_then_e ?_ | refine x_blk_e ?_ | refine x_blk_r ?_ | refine x_blk_o rfl ?_ | refine x_cond_t rfl ?_ | refine x_cond_f rfl ?_ | refine rl_go rfl rfl ?_ | refine rl_no rfl rfl rfl rfl ?_)
        refine rl_q rfl (q_move rfl) ?_
        refine rl_q rfl (q_addi ((j + 1 : Nat) : Int) rfl rfl (by omega) (by omega) (by omega)) ?_
        refine rl_q rfl (q_assign rfl) ?_
        repeat (first | refine x_seq ?_ | refine x_reg ?_ | refine x_nil ?_ | refine x_then_n ?_ | refine x_blk_n ?_ | refine x_block ?_ | refine x_skip ?_ | refine x_label ?_ | refine x_ret ?_ | refine x_exit ?_ | refine x_then_r ?_ | refine x_then_e ?_ | refine x_blk_e ?_ | refine x_blk_r ?_ | refine x_blk_o rfl ?_ | refine x_cond_t rfl ?_ | refine x_cond_f rfl ?_ | refine rl_go rfl rfl ?_ | refine rl_no rfl rfl rfl rfl ?_)
        exact x_again (j + 1, cv2) (And.intro rfl (And.intro rfl (And.intro rfl (And.intro rfl (And.intro rfl (And.intro rfl (And.intro rfl (And.intro rfl (And.intro rfl trivial))))))))) ⟨hjl, own2, k1.trans k2⟩ (by dsimp only; omega)
      | true =>
        rw [hRb] at c1'
        repeat (first | refine x_seq ?_ | refine x_reg ?_ | refine x_nil ?_ | refine x_then_n ?_ | refine x_blk_n ?_ | refine x_block ?_ | refine x_skip ?_ | refine x_label ?_ | refine x_ret ?_ | refine x_exit ?_ | refine x_then_r ?_ | refine x_then_e ?_ | refine x_blk_e ?_ | refine x_blk_r ?_ | refine x_blk_o rfl ?_ | refine x_cond_t rfl ?_ | refine x_cond_f rfl ?_ | refine rl_go rfl rfl ?_ | refine rl_no rfl rfl rfl rfl ?_)
        refine rl_q rfl (q_move rfl) ?_
        refine rl_q rfl (q_move rfl) ?_
        refine rl_q rfl (q_lt_t rfl rfl (by omega)) ?_
        repeat (first | refine x_seq ?_ | refine x_reg ?_ | refine x_nil ?_ | refine x_then_n ?_ | refine x_blk_n ?_ | refine x_block ?_ | refine x_skip ?_ | refine x_label ?_ | refine x_ret ?_ | refine x_exit ?_ | refine x_then_r ?_ | refine x_then_e ?_ | refine x_blk_e ?_ | refine x_blk_r ?_ | refine x_blk_o rfl ?_ | refine x_cond_t rfl ?_ | refine x_cond_f rfl ?_ | refine rl_go rfl rfl ?_ | refine rl_no rfl rfl rfl rfl ?_)
        refine rl_q rfl (q_move rfl) ?_
        refine rl_q rfl (q_move rfl) ?_
        refine rl_q rfl (q_eq_f rfl rfl (by omega)) ?_
        refine rl_q rfl (q_move rfl) ?_
        refine rl_go rfl rfl ?_
        refine rl_q rfl (q_move rfl) ?_
        refine rl_go rfl rfl ?_
        refine rl_q rfl (q_move rfl) ?_
        refine rl_go rfl rfl ?_
        refine rl_q rfl (q_index1 (by exact Es.out) rfl rfl rfl hi) ?_
        refine rl_go rfl rfl ?_
        refine rl_q rfl (q_load (by exact Tk.out) rfl (c1 hr1.ho co)) ?_
        refine rl_go rfl rfl ?_
        refine rl_q rfl (q_move rfl) ?_
        refine rl_go rfl rfl ?_
        refine rl_q rfl (q_index1 (by exact Es.out) rfl rfl rfl hjl) ?_
        refine rl_go rfl rfl ?_
        refine rl_q rfl (q_load (by exact Tk.out) rfl (c1_cell c1')) ?_
        refine rl_go rfl rfl ?_
        refine rl_q rfl (q_move rfl) ?_
        refine rl_go rfl rfl ?_
        refine rl_q rfl (q_move rfl) ?_
        refine rl_go rfl rfl ?_
        refine rl_q rfl (q_move rfl) ?_
        refine rl_go rfl rfl ?_
        refine rl_q rfl (q_index1 (by exact Es.out) rfl rfl rfl hjl) ?_
        refine rl_go rfl rfl ?_
        refine rl_q rfl (q_load (by exact Tk.out) rfl (c1 hr1.ho cj)) ?_
        refine rl_go rfl rfl ?_
        refine rl_q rfl (q_move rfl) ?_
        refine rl_go rfl rfl ?_
        refine rl_q rfl (q_index1 (by exact Es.out) rfl rfl rfl hi) ?_
        refine rl_go rfl rfl ?_
        refine rl_q rfl (q_load (by exact Tk.out) rfl (c1_cell c2')) ?_
        refine rl_go rfl rfl ?_
        refine rl_q rfl (q_pick_t rfl rfl) ?_
        refine rl_q rfl (q_pick_f rfl rfl) ?_
        refine rl_q rfl (q_assign rfl) ?_
        refine x_nil ?_
        refine x_then_n ?_
        have hs : same Rb i j = (Rb j i) := by simp [same, e, hRb]
        have e9 : (okj Rb D i j && ((Rb j i) || !Rb i j || D j)) = okj Rb D i (j + 1) := by rw [Tj.okj_succ, hs]
        refine F.sub ?_ (tail16 (ok := okj Rb D i j) (outv := outv) (cnt := cnt) (s := (Rb j i)) hr1 hd1 own1 (by omega) hi hjl hn (by omega) fun cv2 w2 own2 k2 => ?_)
        exact (And.intro rfl (And.intro rfl (And.intro rfl (And.intro rfl (And.intro rfl (And.intro rfl (And.intro rfl (And.intro rfl (And.intro rfl (And.intro rfl trivial))))))))))
        rw [e9]
        have ecs : cmp Rb i (j + 1) = cmp Rb i j ++ if (Rb j i) = true then [j] else [] := by rw [Tj.cmp_succ, hs]
        rw [← ecs] at own2
        repeat (first | refine x_seq ?_ | refine x_reg ?_ | refine x_nil ?_ | refine x_then_n ?_ | refine x_blk_n ?_ | refine x_block ?_ | refine x_skip ?_ | refine x_label ?_ | refine x_ret ?_ | refine x_exit ?_ | refine x_then_r ?_ | refine x_then_e ?_ | refine x_blk_e ?_ | refine x_blk_r ?_ | refine x_blk_o rfl ?_ | refine x_cond_t rfl ?_ | refine x_cond_f rfl ?_ | refine rl_go rfl rfl ?_ | refine rl_no rfl rfl rfl rfl ?_)
        refine rl_q rfl (q_move rfl) ?_
        refine rl_q rfl (q_addi ((j + 1 : Nat) : Int) rfl rfl (by omega) (by omega) (by omega)) ?_
        refine rl_q rfl (q_assign rfl) ?_
        repeat (first | refine x_seq ?_ | refine x_reg ?_ | refine x_nil ?_ | refine x_then_n ?_ | refine x_blk_n ?_ | refine x_block ?_ | refine x_skip ?_ | refine x_label ?_ | refine x_ret ?_ | refine x_exit ?_ | refine x_then_r ?_ | refine x_then_e ?_ | refine x_blk_e ?_ | refine x_blk_r ?_ | refine x_blk_o rfl ?_ | refine x_cond_t rfl ?_ | refine x_cond_f rfl ?_ | refine rl_go rfl rfl ?_ | refine rl_no rfl rfl rfl rfl ?_)
        exact x_again (j + 1, cv2) (And.intro rfl (And.intro rfl (And.intro rfl (And.intro rfl (And.intro rfl (And.intro rfl (And.intro rfl (And.intro rfl (And.intro rfl trivial))))))))) ⟨hjl, own2, k1.trans k2⟩ (by dsimp only; omega)
  · obtain rfl : j = n := by omega
    repeat (first | refine x_seq ?_ | refine x_reg ?_ | refine x_nil ?_ | refine x_then_n ?_ | refine x_blk_n ?_ | refine x_block ?_ | refine x_skip ?_ | refine x_label ?_ | refine x_ret ?_ | refine x_exit ?_ | refine x_then_r ?_ | refine x_then_e ?_ | refine x_blk_e ?_ | refine x_blk_r ?_ | refine x_blk_o rfl ?_ | refine x_cond_t rfl ?_ | refine x_cond_f rfl ?_ | refine rl_go rfl rfl ?_ | refine rl_no rfl rfl rfl rfl ?_)
    refine rl_q rfl (q_move rfl) ?_
    refine rl_q rfl (q_move rfl) ?_
    refine rl_q rfl (q_lt_f rfl rfl (by omega)) ?_
    repeat (first | refine x_seq ?_ | refine x_reg ?_ | refine x_nil ?_ | refine x_then_n ?_ | refine x_blk_n ?_ | refine x_block ?_ | refine x_skip ?_ | refine x_label ?_ | refine x_ret ?_ | refine x_exit ?_ | refine x_then_r ?_ | refine x_then_e ?_ | refine x_blk_e ?_ | refine x_blk_r ?_ | refine x_blk_o rfl ?_ | refine x_cond_t rfl ?_ | refine x_cond_f rfl ?_ | refine rl_go rfl rfl ?_ | refine rl_no rfl rfl rfl rfl ?_)
    refine F.sub ?_ (rest cv1 w1 own1 k1)
    exact (And.intro rfl (And.intro rfl (And.intro rfl (And.intro rfl (And.intro rfl (And.intro rfl (And.intro rfl (And.intro rfl trivial))))))))
end Go.Proofs.YtnjjjfffppllfaaX.G
