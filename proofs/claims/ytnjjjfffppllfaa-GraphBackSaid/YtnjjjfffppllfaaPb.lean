/- The components of a graph: what each waits for, and what waits for it. -/
import Derived.Test.YtnjjjfffppllfaaPa
import Derived.Test.YtnjjjfffppllfaaGw
namespace Go.Proofs.YtnjjjfffppllfaaX.G
open Go.RowKit Go.Proofs.YtnjjjfffppllfaaK
open Tj (upd_i upd_o)
attribute [local irreducible] F Qt Ef Code.wp wpList wpT bodyPost Calls
set_option linter.unusedVariables false
set_option linter.unusedSimpArgs false

def cw (X : List (Nat × Nat)) (d : Nat) : Nat := X.countP fun p => p.1 == d
theorem cw_le (X : List (Nat × Nat)) (d : Nat) : cw X d ≤ X.length := List.countP_le_length
theorem bk_le (X : List (Nat × Nat)) (d : Nat) : (Tj.bk X d).length ≤ X.length := by
  have := List.length_filter_le (fun p => p.2 == d) X
  simpa [Tj.bk] using this
theorem cw_snoc (X : List (Nat × Nat)) (a b : Nat) : cw (X ++ [(a, b)]) = Tj.upd (cw X) a (cw X a + 1) := by
  funext d
  unfold cw Tj.upd
  rw [List.countP_append]
  by_cases e : d = a
  · subst e; simp
  · have : (a == d) = false := by simpa using fun h => e h.symm
    simp [e, this]
theorem bk_snoc (X : List (Nat × Nat)) (a b : Nat) : Tj.bk (X ++ [(a, b)]) = Tj.upd (Tj.bk X) b (Tj.bk X b ++ [a]) := by
  funext d
  unfold Tj.bk Tj.upd
  rw [List.filter_append]
  by_cases e : d = b
  · subst e; simp
  · have : (b == d) = false := by simpa using fun h => e h.symm
    simp [e, this]
/-- What waits for how many, and who waits for whom, in memory. -/
structure WB (w0 w : World) (nm n3 bw bb n : Nat) (vs : Nat → Value) (X : List (Nat × Nat)) : Prop where
  hw : w.heap[bw]? = some (.cells (rowA n (up (cw X))) 3 (0, 0))
  hb : w.heap[bb]? = some (.cells (rowV n vs) 37 (0, 0))
  ns : Nest 3 ints n3 w n vs (Tj.bk X)
  k : Kept nm [3, 37] w0 w

set_option maxHeartbeats 4000000 in
theorem loop4 {Q : Exit → Act → World → Prop} [PanicOk Q] {wi w0 w : World} {ev : Value} {L : List (List Int)} {n bc bv bw bb nm n3 i : Nat} {comp : Nat → Nat} {vs : Nat → Value} {X : List (Nat × Nat)} {A : Option Addr} {cA cap : Nat} {Ae : Option Addr}
    (ho : Old wi w0) (hwi : wi.heap.size ≤ nm) (hbc : w0.heap[bc]? = some (.cells (rowA L.length (up comp)) 3 (0, 0))) (hc : ∀ x, x < L.length → comp x < n) (h1 : bc < nm) (h2 : nm ≤ bw) (h3 : nm ≤ bb) (h4 : bw < n3) (h5 : bb < n3) (h6 : n3 ≤ w0.heap.size)
    (hN : L.length ≤ 1000000) (hi : i < L.length) (hX : X.length + L[i].length ≤ 1000000000) (hA : ∀ k (hk : k < L[i].length), ∃ b o, A = some ⟨b, o, none⟩ ∧ wi.cell? ⟨b, o + k * 1, none⟩ = some (.int .i64 L[i][k])) (hev : ev = .slice Ae L.length cap)
    (h : WB w0 w nm n3 bw bb n vs X)
    (rest : ∀ vs w', WB w0 w' nm n3 bw bb n vs (X ++ (esOf L i).filterMap (Tj.cross comp i)) → F 170 [(0, ev), (3, .slice (some ⟨bc, 0, none⟩) L.length L.length), (4, .int .i64 (n : Int)), (5, .pointer (some ⟨bv, 0, none⟩)), (8, .slice (some ⟨bw, 0, none⟩) n n), (9, .slice (some ⟨bb, 0, none⟩) n n), (50, ev), (51, .int .i64 (L.length : Int)), (52, .int .i64 (i : Int))] w' (Q .normal)) :
    F 170 [(0, ev), (3, .slice (some ⟨bc, 0, none⟩) L.length L.length), (4, .int .i64 (n : Int)), (5, .pointer (some ⟨bv, 0, none⟩)), (8, .slice (some ⟨bw, 0, none⟩) n n), (9, .slice (some ⟨bb, 0, none⟩) n n), (10, .int .i64 (i : Int)), (50, ev), (51, .int .i64 (L.length : Int)), (52, .int .i64 (i : Int)), (57, .slice A L[i].length cA), (58, .int .i64 (L[i].length : Int)), (59, .int .i64 0)] w ((bodyAt Try.f30 [1, 1, 1, 1, 1, 0, 1, 0, 0, 1, 1, 0, 0, 1, 1, 0]).wp Try.prog (Exit.inBlock 4 Q)) := by
  subst hev
  have hci := hc i hi
  refine x_loop (γ := Nat × (Nat → Value)) (fun g => [(0, .slice Ae L.length cap), (3, .slice (some ⟨bc, 0, none⟩) L.length L.length), (4, .int .i64 (n : Int)), (5, .pointer (some ⟨bv, 0, none⟩)), (8, .slice (some ⟨bw, 0, none⟩) n n), (9, .slice (some ⟨bb, 0, none⟩) n n), (10, .int .i64 (i : Int)), (50, .slice Ae L.length cap), (51, .int .i64 (L.length : Int)), (52, .int .i64 (i : Int)), (57, .slice A L[i].length cA), (58, .int .i64 (L[i].length : Int)), (59, .int .i64 (g.1 : Int))])
    (fun g w' => g.1 ≤ L[i].length ∧ WB w0 w' nm n3 bw bb n g.2 (X ++ ((esOf L i).take g.1).filterMap (Tj.cross comp i))) (fun g => L[i].length - g.1)
    (0, vs) (And.intro rfl (And.intro rfl (And.intro rfl (And.intro rfl (And.intro rfl (And.intro rfl (And.intro rfl (And.intro rfl (And.intro rfl (And.intro rfl (And.intro rfl (And.intro rfl (And.intro rfl trivial))))))))))))) ⟨Nat.zero_le _, by simpa using h⟩ ?_
  rintro ⟨j, vs1⟩ w1 ⟨hj, hwb⟩
  dsimp only at hj hwb ⊢
  by_cases hjl : j < L[i].length
  · have hXl : (X ++ ((esOf L i).take j).filterMap (Tj.cross comp i)).length ≤ X.length + j := by
      have h1 := List.length_filterMap_le (Tj.cross comp i) ((esOf L i).take j)
      have h2 := List.length_take_le j (esOf L i)
      rw [List.length_append]; omega
    have hnext : X ++ ((esOf L i).take (j + 1)).filterMap (Tj.cross comp i) = (X ++ ((esOf L i).take j).filterMap (Tj.cross comp i)) ++ (Tj.cross comp i (tgtO L.length L[i][j])).toList := by
      rw [List.take_add_one, es_at hi hjl, List.filterMap_append, List.append_assoc]
      congr 2
    generalize X ++ ((esOf L i).take j).filterMap (Tj.cross comp i) = Y at *
    obtain ⟨b', o', rfl, hcell⟩ := hA j hjl
    have hcell := (ho.kept hwb.k hwi).cell hcell
    generalize hz : L[i][j] = z at *
    have hbc1 := getb hwb.k hbc h1
    repeat (first | refine x_seq ?_ | refine x_reg ?_ | refine x_nil ?_ | refine x_then_n ?_ | refine rl_q rfl (q_move rfl) ?_ | refine rl_q rfl (q_nil rfl) ?_ | refine rl_q rfl (q_fa0 (by exact Fo.out) rfl) ?_ | refine rl_q rfl (q_fak (by exact Fo.out) rfl) ?_ | refine rl_q rfl (q_fieldAddr (by exact Fo.out) rfl) ?_ | refine rl_q rfl (q_assign rfl) ?_ | refine rl_q rfl (q_len rfl (by kernel_rfl) rfl) ?_ | refine rl_q rfl (q_extract rfl rfl) ?_ | refine rl_q rfl (q_addi _ rfl rfl rfl (by omega) (by omega)) ?_ | refine rl_q rfl (q_subi _ rfl rfl rfl (by omega) (by omega)) ?_ | refine rl_q rfl (q_muli _ rfl rfl rfl (by omega) (by omega)) ?_ | refine rl_q rfl (q_pick_t rfl rfl) ?_ | refine rl_q rfl (q_pick_f rfl rfl) ?_ | refine rl_q rfl (q_lt_t rfl rfl (by omega)) ?_ | refine rl_q rfl (q_lt_f rfl rfl (by omega)) ?_ | refine rl_q rfl (q_le_t rfl rfl (by omega)) ?_ | refine rl_q rfl (q_le_f rfl rfl (by omega)) ?_ | refine rl_q rfl (q_gt_t rfl rfl (by omega)) ?_ | refine rl_q rfl (q_gt_f rfl rfl (by omega)) ?_ | refine rl_q rfl (q_ge_t rfl rfl (by omega)) ?_ | refine rl_q rfl (q_ge_f rfl rfl (by omega)) ?_ | refine rl_q rfl (q_eq_t rfl rfl (by omega)) ?_ | refine rl_q rfl (q_eq_f rfl rfl (by omega)) ?_ | refine rl_q rfl (q_ne_t rfl rfl (by omega)) ?_ | refine rl_q rfl (q_ne_f rfl rfl (by omega)) ?_ | refine rl_q rfl (q_lt rfl rfl) ?_ | refine rl_q rfl (q_le rfl rfl) ?_ | refine rl_q rfl (q_gt rfl rfl) ?_ | refine rl_q rfl (q_ge rfl rfl) ?_ | refine rl_q rfl (q_eq rfl rfl) ?_ | refine rl_q rfl (q_ne rfl rfl) ?_ | refine rl_q rfl (q_not rfl) ?_ | refine rl_q rfl (q_nilf rfl) ?_ | refine rl_q rfl (q_makeFunc rfl rfl) ?_ | refine rl_q rfl (q_field (by exact Fo.out) (by kernel_rfl) rfl rfl) ?_ | refine rl_q rfl (q_load (by exact Tk.out) rfl (c1 (by assumption) (by rfl))) ?_ | refine rl_q rfl (q_loadB (by exact Tk.out) rfl (by assumption) (by rfl)) ?_ | refine rl_q rfl (q_load (by exact Tk.out) rfl (c1_cell (by assumption))) ?_ | refine x_blk_n ?_ | refine x_block ?_ | refine x_skip ?_ | refine x_label ?_ | refine x_ret ?_ | refine x_exit ?_ | refine x_then_r ?_ | refine x_then_e ?_ | refine x_blk_e ?_ | refine x_blk_r ?_ | refine x_blk_o rfl ?_ | refine x_cond_t rfl ?_ | refine x_cond_f rfl ?_ | refine rl_go rfl rfl ?_ | refine rl_no rfl rfl rfl rfl ?_)
    refine rl_q rfl (q_indexAddr (by exact Es.out) rfl rfl rfl hjl) ?_
    refine rl_q rfl (q_load (by exact Tk.out) rfl (c1_cell hcell)) ?_
    repeat (first | refine x_seq ?_ | refine x_reg ?_ | refine x_nil ?_ | refine x_then_n ?_ | refine rl_q rfl (q_move rfl) ?_ | refine rl_q rfl (q_nil rfl) ?_ | refine rl_q rfl (q_fa0 (by exact Fo.out) rfl) ?_ | refine rl_q rfl (q_fak (by exact Fo.out) rfl) ?_ | refine rl_q rfl (q_fieldAddr (by exact Fo.out) rfl) ?_ | refine rl_q rfl (q_assign rfl) ?_ | refine rl_q rfl (q_len rfl (by kernel_rfl) rfl) ?_ | refine rl_q rfl (q_extract rfl rfl) ?_ | refine rl_q rfl (q_addi _ rfl rfl rfl (by omega) (by omega)) ?_ | refine rl_q rfl (q_subi _ rfl rfl rfl (by omega) (by omega)) ?_ | refine rl_q rfl (q_muli _ rfl rfl rfl (by omega) (by omega)) ?_ | refine rl_q rfl (q_pick_t rfl rfl) ?_ | refine rl_q rfl (q_pick_f rfl rfl) ?_ | refine rl_q rfl (q_lt_t rfl rfl (by omega)) ?_ | refine rl_q rfl (q_lt_f rfl rfl (by omega)) ?_ | refine rl_q rfl (q_le_t rfl rfl (by omega)) ?_ | refine rl_q rfl (q_le_f rfl rfl (by omega)) ?_ | refine rl_q rfl (q_gt_t rfl rfl (by omega)) ?_ | refine rl_q rfl (q_gt_f rfl rfl (by omega)) ?_ | refine rl_q rfl (q_ge_t rfl rfl (by omega)) ?_ | refine rl_q rfl (q_ge_f rfl rfl (by omega)) ?_ | refine rl_q rfl (q_eq_t rfl rfl (by omega)) ?_ | refine rl_q rfl (q_eq_f rfl rfl (by omega)) ?_ | refine rl_q rfl (q_ne_t rfl rfl (by omega)) ?_ | refine rl_q rfl (q_ne_f rfl rfl (by omega)) ?_ | refine rl_q rfl (q_lt rfl rfl) ?_ | refine rl_q rfl (q_le rfl rfl) ?_ | refine rl_q rfl (q_gt rfl rfl) ?_ | refine rl_q rfl (q_ge rfl rfl) ?_ | refine rl_q rfl (q_eq rfl rfl) ?_ | refine rl_q rfl (q_ne rfl rfl) ?_ | refine rl_q rfl (q_not rfl) ?_ | refine rl_q rfl (q_nilf rfl) ?_ | refine rl_q rfl (q_makeFunc rfl rfl) ?_ | refine rl_q rfl (q_field (by exact Fo.out) (by kernel_rfl) rfl rfl) ?_ | refine rl_q rfl (q_load (by exact Tk.out) rfl (c1 (by assumption) (by rfl))) ?_ | refine rl_q rfl (q_loadB (by exact Tk.out) rfl (by assumption) (by rfl)) ?_ | refine rl_q rfl (q_load (by exact Tk.out) rfl (c1_cell (by assumption))) ?_ | refine x_blk_n ?_ | refine x_block ?_ | refine x_skip ?_ | refine x_label ?_ | refine x_ret ?_ | refine x_exit ?_ | refine x_then_r ?_ | refine x_then_e ?_ | refine x_blk_e ?_ | refine x_blk_r ?_ | refine x_blk_o rfl ?_ | refine x_cond_t rfl ?_ | refine x_cond_f rfl ?_ | refine rl_go rfl rfl ?_ | refine rl_no rfl rfl rfl rfl ?_)
    by_cases hz0 : z < 0
    · have hY : (Tj.cross comp i (tgtO L.length z)).toList = [] := by rw [tgtO, if_pos (.inl hz0)]; rfl
      rw [hY, List.append_nil] at hnext
      refine x_drawH [] mixed fun wd hk_wd hS_wd => ?_
      refine dr_p 0 rfl rfl (by kernel_rfl) (by kernel_rfl) (by kernel_rfl) (by kernel_rfl) (q_move rfl) hS_wd ?_
      refine dr_p 1 rfl rfl (by kernel_rfl) (by kernel_rfl) (by kernel_rfl) (by kernel_rfl) (q_ge_f rfl rfl (by omega)) hS_wd ?_
      refine dr_p 2 rfl rfl (by kernel_rfl) (by kernel_rfl) (by kernel_rfl) (by kernel_rfl) (q_move rfl) hS_wd ?_
      refine dr_no 3 rfl rfl rfl rfl rfl (by kernel_rfl) (by kernel_rfl) (by kernel_rfl) (by kernel_rfl) hS_wd ?_
      refine dr_no 4 rfl rfl rfl rfl rfl (by kernel_rfl) (by kernel_rfl) (by kernel_rfl) (by kernel_rfl) hS_wd ?_
      refine dr_no 5 rfl rfl rfl rfl rfl (by kernel_rfl) (by kernel_rfl) (by kernel_rfl) (by kernel_rfl) hS_wd ?_
      refine dr_no 6 rfl rfl rfl rfl rfl (by kernel_rfl) (by kernel_rfl) (by kernel_rfl) (by kernel_rfl) hS_wd ?_
      refine dr_p 7 rfl rfl (by kernel_rfl) (by kernel_rfl) (by kernel_rfl) (by kernel_rfl) ((by first | exact q_pick_t rfl rfl | exact q_pick_f rfl rfl)) hS_wd ?_
      refine dr_p 8 rfl rfl (by kernel_rfl) (by kernel_rfl) (by kernel_rfl) (by kernel_rfl) (q_move rfl) hS_wd ?_
      refine dr_no 9 rfl rfl rfl rfl rfl (by kernel_rfl) (by kernel_rfl) (by kernel_rfl) (by kernel_rfl) hS_wd ?_
      refine dr_no 10 rfl rfl rfl rfl rfl (by kernel_rfl) (by kernel_rfl) (by kernel_rfl) (by kernel_rfl) hS_wd ?_
      refine dr_no 11 rfl rfl rfl rfl rfl (by kernel_rfl) (by kernel_rfl) (by kernel_rfl) (by kernel_rfl) hS_wd ?_
      refine dr_no 12 rfl rfl rfl rfl rfl (by kernel_rfl) (by kernel_rfl) (by kernel_rfl) (by kernel_rfl) hS_wd ?_
      refine dr_no 13 rfl rfl rfl rfl rfl (by kernel_rfl) (by kernel_rfl) (by kernel_rfl) (by kernel_rfl) hS_wd ?_
      refine dr_no 14 rfl rfl rfl rfl rfl (by kernel_rfl) (by kernel_rfl) (by kernel_rfl) (by kernel_rfl) hS_wd ?_
      refine dr_no 15 rfl rfl rfl rfl rfl (by kernel_rfl) (by kernel_rfl) (by kernel_rfl) (by kernel_rfl) hS_wd ?_
      refine dr_no 16 rfl rfl rfl rfl rfl (by kernel_rfl) (by kernel_rfl) (by kernel_rfl) (by kernel_rfl) hS_wd ?_
      refine dr_no 17 rfl rfl rfl rfl rfl (by kernel_rfl) (by kernel_rfl) (by kernel_rfl) (by kernel_rfl) hS_wd ?_
      refine dr_p 18 rfl rfl (by kernel_rfl) (by kernel_rfl) (by kernel_rfl) (by kernel_rfl) ((by first | exact q_pick_t rfl rfl | exact q_pick_f rfl rfl)) hS_wd ?_
      refine dr_done (by kernel_rfl) ?_
      repeat (first | refine x_seq ?_ | refine x_reg ?_ | refine x_nil ?_ | refine x_then_n ?_ | refine rl_q rfl (q_move rfl) ?_ | refine rl_q rfl (q_nil rfl) ?_ | refine rl_q rfl (q_fa0 (by exact Fo.out) rfl) ?_ | refine rl_q rfl (q_fak (by exact Fo.out) rfl) ?_ | refine rl_q rfl (q_fieldAddr (by exact Fo.out) rfl) ?_ | refine rl_q rfl (q_assign rfl) ?_ | refine rl_q rfl (q_len rfl (by kernel_rfl) rfl) ?_ | refine rl_q rfl (q_extract rfl rfl) ?_ | refine rl_q rfl (q_addi _ rfl rfl rfl (by omega) (by omega)) ?_ | refine rl_q rfl (q_subi _ rfl rfl rfl (by omega) (by omega)) ?_ | refine rl_q rfl (q_muli _ rfl rfl rfl (by omega) (by omega)) ?_ | refine rl_q rfl (q_pick_t rfl rfl) ?_ | refine rl_q rfl (q_pick_f rfl rfl) ?_ | refine rl_q rfl (q_lt_t rfl rfl (by omega)) ?_ | refine rl_q rfl (q_lt_f rfl rfl (by omega)) ?_ | refine rl_q rfl (q_le_t rfl rfl (by omega)) ?_ | refine rl_q rfl (q_le_f rfl rfl (by omega)) ?_ | refine rl_q rfl (q_gt_t rfl rfl (by omega)) ?_ | refine rl_q rfl (q_gt_f rfl rfl (by omega)) ?_ | refine rl_q rfl (q_ge_t rfl rfl (by omega)) ?_ | refine rl_q rfl (q_ge_f rfl rfl (by omega)) ?_ | refine rl_q rfl (q_eq_t rfl rfl (by omega)) ?_ | refine rl_q rfl (q_eq_f rfl rfl (by omega)) ?_ | refine rl_q rfl (q_ne_t rfl rfl (by omega)) ?_ | refine rl_q rfl (q_ne_f rfl rfl (by omega)) ?_ | refine rl_q rfl (q_lt rfl rfl) ?_ | refine rl_q rfl (q_le rfl rfl) ?_ | refine rl_q rfl (q_gt rfl rfl) ?_ | refine rl_q rfl (q_ge rfl rfl) ?_ | refine rl_q rfl (q_eq rfl rfl) ?_ | refine rl_q rfl (q_ne rfl rfl) ?_ | refine rl_q rfl (q_not rfl) ?_ | refine rl_q rfl (q_nilf rfl) ?_ | refine rl_q rfl (q_makeFunc rfl rfl) ?_ | refine rl_q rfl (q_field (by exact Fo.out) (by kernel_rfl) rfl rfl) ?_ | refine rl_q rfl (q_load (by exact Tk.out) rfl (c1 (by assumption) (by rfl))) ?_ | refine rl_q rfl (q_loadB (by exact Tk.out) rfl (by assumption) (by rfl)) ?_ | refine rl_q rfl (q_load (by exact Tk.out) rfl (c1_cell (by assumption))) ?_ | refine x_blk_n ?_ | refine x_block ?_ | refine x_skip ?_ | refine x_label ?_ | refine x_ret ?_ | refine x_exit ?_ | refine x_then_r ?_ | refine x_then_e ?_ | refine x_blk_e ?_ | refine x_blk_r ?_ | refine x_blk_o rfl ?_ | refine x_cond_t rfl ?_ | refine x_cond_f rfl ?_ | refine rl_go rfl rfl ?_ | refine rl_no rfl rfl rfl rfl ?_)
      exact x_again (j + 1, vs1) (And.intro rfl (And.intro rfl (And.intro rfl (And.intro rfl (And.intro rfl (And.intro rfl (And.intro rfl (And.intro rfl (And.intro rfl (And.intro rfl (And.intro rfl (And.intro rfl (And.intro rfl trivial))))))))))))) ⟨hjl, by rw [hnext]; exact ⟨getk hk_wd hwb.hw, getk hk_wd hwb.hb, hwb.ns.grow hk_wd, hwb.k.trans (Kept.all hk_wd)⟩⟩ (by dsimp only; omega)
    obtain ⟨zn, rfl⟩ : ∃ zn : Nat, z = (zn : Int) := ⟨z.toNat, by omega⟩
    by_cases hzN : L.length ≤ zn
    · have hY : (Tj.cross comp i (tgtO L.length (zn : Int))).toList = [] := by rw [tgtO, if_pos (.inr (by omega))]; rfl
      rw [hY, List.append_nil] at hnext
      refine x_drawH [] mixed fun wd hk_wd hS_wd => ?_
      refine dr_p 0 rfl rfl (by kernel_rfl) (by kernel_rfl) (by kernel_rfl) (by kernel_rfl) (q_move rfl) hS_wd ?_
      refine dr_p 1 rfl rfl (by kernel_rfl) (by kernel_rfl) (by kernel_rfl) (by kernel_rfl) (q_ge_t rfl rfl (by omega)) hS_wd ?_
      refine dr_p 2 rfl rfl (by kernel_rfl) (by kernel_rfl) (by kernel_rfl) (by kernel_rfl) (q_move rfl) hS_wd ?_
      refine dr_gp 3 rfl rfl rfl rfl (by kernel_rfl) (by kernel_rfl) (by kernel_rfl) (by kernel_rfl) (q_move rfl) hS_wd ?_
      refine dr_gp 4 rfl rfl rfl rfl (by kernel_rfl) (by kernel_rfl) (by kernel_rfl) (by kernel_rfl) (q_move rfl) hS_wd ?_
      refine dr_gp 5 rfl rfl rfl rfl (by kernel_rfl) (by kernel_rfl) (by kernel_rfl) (by kernel_rfl) (q_len rfl (by kernel_rfl) rfl) hS_wd ?_
      refine dr_gp 6 rfl rfl rfl rfl (by kernel_rfl) (by kernel_rfl) (by kernel_rfl) (by kernel_rfl) (q_lt_f rfl rfl (by omega)) hS_wd ?_
      refine dr_p 7 rfl rfl (by kernel_rfl) (by kernel_rfl) (by kernel_rfl) (by kernel_rfl) ((by first | exact q_pick_t rfl rfl | exact q_pick_f rfl rfl)) hS_wd ?_
      refine dr_p 8 rfl rfl (by kernel_rfl) (by kernel_rfl) (by kernel_rfl) (by kernel_rfl) (q_move rfl) hS_wd ?_
      refine dr_no 9 rfl rfl rfl rfl rfl (by kernel_rfl) (by kernel_rfl) (by kernel_rfl) (by kernel_rfl) hS_wd ?_
      refine dr_no 10 rfl rfl rfl rfl rfl (by kernel_rfl) (by kernel_rfl) (by kernel_rfl) (by kernel_rfl) hS_wd ?_
      refine dr_no 11 rfl rfl rfl rfl rfl (by kernel_rfl) (by kernel_rfl) (by kernel_rfl) (by kernel_rfl) hS_wd ?_
      refine dr_no 12 rfl rfl rfl rfl rfl (by kernel_rfl) (by kernel_rfl) (by kernel_rfl) (by kernel_rfl) hS_wd ?_
      refine dr_no 13 rfl rfl rfl rfl rfl (by kernel_rfl) (by kernel_rfl) (by kernel_rfl) (by kernel_rfl) hS_wd ?_
      refine dr_no 14 rfl rfl rfl rfl rfl (by kernel_rfl) (by kernel_rfl) (by kernel_rfl) (by kernel_rfl) hS_wd ?_
      refine dr_no 15 rfl rfl rfl rfl rfl (by kernel_rfl) (by kernel_rfl) (by kernel_rfl) (by kernel_rfl) hS_wd ?_
      refine dr_no 16 rfl rfl rfl rfl rfl (by kernel_rfl) (by kernel_rfl) (by kernel_rfl) (by kernel_rfl) hS_wd ?_
      refine dr_no 17 rfl rfl rfl rfl rfl (by kernel_rfl) (by kernel_rfl) (by kernel_rfl) (by kernel_rfl) hS_wd ?_
      refine dr_p 18 rfl rfl (by kernel_rfl) (by kernel_rfl) (by kernel_rfl) (by kernel_rfl) ((by first | exact q_pick_t rfl rfl | exact q_pick_f rfl rfl)) hS_wd ?_
      refine dr_done (by kernel_rfl) ?_
      repeat (first | refine x_seq ?_ | refine x_reg ?_ | refine x_nil ?_ | refine x_then_n ?_ | refine rl_q rfl (q_move rfl) ?_ | refine rl_q rfl (q_nil rfl) ?_ | refine rl_q rfl (q_fa0 (by exact Fo.out) rfl) ?_ | refine rl_q rfl (q_fak (by exact Fo.out) rfl) ?_ | refine rl_q rfl (q_fieldAddr (by exact Fo.out) rfl) ?_ | refine rl_q rfl (q_assign rfl) ?_ | refine rl_q rfl (q_len rfl (by kernel_rfl) rfl) ?_ | refine rl_q rfl (q_extract rfl rfl) ?_ | refine rl_q rfl (q_addi _ rfl rfl rfl (by omega) (by omega)) ?_ | refine rl_q rfl (q_subi _ rfl rfl rfl (by omega) (by omega)) ?_ | refine rl_q rfl (q_muli _ rfl rfl rfl (by omega) (by omega)) ?_ | refine rl_q rfl (q_pick_t rfl rfl) ?_ | refine rl_q rfl (q_pick_f rfl rfl) ?_ | refine rl_q rfl (q_lt_t rfl rfl (by omega)) ?_ | refine rl_q rfl (q_lt_f rfl rfl (by omega)) ?_ | refine rl_q rfl (q_le_t rfl rfl (by omega)) ?_ | refine rl_q rfl (q_le_f rfl rfl (by omega)) ?_ | refine rl_q rfl (q_gt_t rfl rfl (by omega)) ?_ | refine rl_q rfl (q_gt_f rfl rfl (by omega)) ?_ | refine rl_q rfl (q_ge_t rfl rfl (by omega)) ?_ | refine rl_q rfl (q_ge_f rfl rfl (by omega)) ?_ | refine rl_q rfl (q_eq_t rfl rfl (by omega)) ?_ | refine rl_q rfl (q_eq_f rfl rfl (by omega)) ?_ | refine rl_q rfl (q_ne_t rfl rfl (by omega)) ?_ | refine rl_q rfl (q_ne_f rfl rfl (by omega)) ?_ | refine rl_q rfl (q_lt rfl rfl) ?_ | refine rl_q rfl (q_le rfl rfl) ?_ | refine rl_q rfl (q_gt rfl rfl) ?_ | refine rl_q rfl (q_ge rfl rfl) ?_ | refine rl_q rfl (q_eq rfl rfl) ?_ | refine rl_q rfl (q_ne rfl rfl) ?_ | refine rl_q rfl (q_not rfl) ?_ | refine rl_q rfl (q_nilf rfl) ?_ | refine rl_q rfl (q_makeFunc rfl rfl) ?_ | refine rl_q rfl (q_field (by exact Fo.out) (by kernel_rfl) rfl rfl) ?_ | refine rl_q rfl (q_load (by exact Tk.out) rfl (c1 (by assumption) (by rfl))) ?_ | refine rl_q rfl (q_loadB (by exact Tk.out) rfl (by assumption) (by rfl)) ?_ | refine rl_q rfl (q_load (by exact Tk.out) rfl (c1_cell (by assumption))) ?_ | refine x_blk_n ?_ | refine x_block ?_ | refine x_skip ?_ | refine x_label ?_ | refine x_ret ?_ | refine x_exit ?_ | refine x_then_r ?_ | refine x_then_e ?_ | refine x_blk_e ?_ | refine x_blk_r ?_ | refine x_blk_o rfl ?_ | refine x_cond_t rfl ?_ | refine x_cond_f rfl ?_ | refine rl_go rfl rfl ?_ | refine rl_no rfl rfl rfl rfl ?_)
      exact x_again (j + 1, vs1) (And.intro rfl (And.intro rfl (And.intro rfl (And.intro rfl (And.intro rfl (And.intro rfl (And.intro rfl (And.intro rfl (And.intro rfl (And.intro rfl (And.intro rfl (And.intro rfl (And.intro rfl trivial))))))))))))) ⟨hjl, by rw [hnext]; exact ⟨getk hk_wd hwb.hw, getk hk_wd hwb.hb, hwb.ns.grow hk_wd, hwb.k.trans (Kept.all hk_wd)⟩⟩ (by dsimp only; omega)
    have hzN : zn < L.length := by omega
    have hcz := hc zn hzN
    by_cases he : comp zn = comp i
    · have hY : (Tj.cross comp i (tgtO L.length (zn : Int))).toList = [] := by rw [tgtO, if_neg (by omega)]; simp [Tj.cross, he]
      rw [hY, List.append_nil] at hnext
      refine x_drawH [] mixed fun wd hk_wd hS_wd => ?_
      refine dr_p 0 rfl rfl (by kernel_rfl) (by kernel_rfl) (by kernel_rfl) (by kernel_rfl) (q_move rfl) hS_wd ?_
      refine dr_p 1 rfl rfl (by kernel_rfl) (by kernel_rfl) (by kernel_rfl) (by kernel_rfl) (q_ge_t rfl rfl (by omega)) hS_wd ?_
      refine dr_p 2 rfl rfl (by kernel_rfl) (by kernel_rfl) (by kernel_rfl) (by kernel_rfl) (q_move rfl) hS_wd ?_
      refine dr_gp 3 rfl rfl rfl rfl (by kernel_rfl) (by kernel_rfl) (by kernel_rfl) (by kernel_rfl) (q_move rfl) hS_wd ?_
      refine dr_gp 4 rfl rfl rfl rfl (by kernel_rfl) (by kernel_rfl) (by kernel_rfl) (by kernel_rfl) (q_move rfl) hS_wd ?_
      refine dr_gp 5 rfl rfl rfl rfl (by kernel_rfl) (by kernel_rfl) (by kernel_rfl) (by kernel_rfl) (q_len rfl (by kernel_rfl) rfl) hS_wd ?_
      refine dr_gp 6 rfl rfl rfl rfl (by kernel_rfl) (by kernel_rfl) (by kernel_rfl) (by kernel_rfl) (q_lt_t rfl rfl (by omega)) hS_wd ?_
      refine dr_p 7 rfl rfl (by kernel_rfl) (by kernel_rfl) (by kernel_rfl) (by kernel_rfl) ((by first | exact q_pick_t rfl rfl | exact q_pick_f rfl rfl)) hS_wd ?_
      refine dr_p 8 rfl rfl (by kernel_rfl) (by kernel_rfl) (by kernel_rfl) (by kernel_rfl) (q_move rfl) hS_wd ?_
      refine dr_gp 9 rfl rfl rfl rfl (by kernel_rfl) (by kernel_rfl) (by kernel_rfl) (by kernel_rfl) (q_move rfl) hS_wd ?_
      refine dr_gp 10 rfl rfl rfl rfl (by kernel_rfl) (by kernel_rfl) (by kernel_rfl) (by kernel_rfl) (q_move rfl) hS_wd ?_
      refine dr_gp 11 rfl rfl rfl rfl (by kernel_rfl) (by kernel_rfl) (by kernel_rfl) (by kernel_rfl) (q_index1 (by exact Es.out) rfl rfl rfl hzN) hS_wd ?_
      refine dr_gs 12 rfl rfl rfl rfl (by kernel_rfl) (by kernel_rfl) (by kernel_rfl) (by kernel_rfl) (by kernel_rfl) (by kernel_rfl) (q_load (v := .int .i64 (comp zn : Int)) (by exact Tk.out) rfl (c1h (cell_of hbc1 (rowA_get hzN)))) hS_wd ?_
      refine dr_gp 13 rfl rfl rfl rfl (by kernel_rfl) (by kernel_rfl) (by kernel_rfl) (by kernel_rfl) (q_move rfl) hS_wd ?_
      refine dr_gp 14 rfl rfl rfl rfl (by kernel_rfl) (by kernel_rfl) (by kernel_rfl) (by kernel_rfl) (q_move rfl) hS_wd ?_
      refine dr_gp 15 rfl rfl rfl rfl (by kernel_rfl) (by kernel_rfl) (by kernel_rfl) (by kernel_rfl) (q_index1 (by exact Es.out) rfl rfl rfl hi) hS_wd ?_
      refine dr_gs 16 rfl rfl rfl rfl (by kernel_rfl) (by kernel_rfl) (by kernel_rfl) (by kernel_rfl) (by kernel_rfl) (by kernel_rfl) (q_load (v := .int .i64 (comp i : Int)) (by exact Tk.out) rfl (c1h (cell_of hbc1 (rowA_get hi)))) hS_wd ?_
      refine dr_gp 17 rfl rfl rfl rfl (by kernel_rfl) (by kernel_rfl) (by kernel_rfl) (by kernel_rfl) (q_ne_f rfl rfl (by omega)) hS_wd ?_
      refine dr_p 18 rfl rfl (by kernel_rfl) (by kernel_rfl) (by kernel_rfl) (by kernel_rfl) ((by first | exact q_pick_t rfl rfl | exact q_pick_f rfl rfl)) hS_wd ?_
      refine dr_done (by kernel_rfl) ?_
      repeat (first | refine x_seq ?_ | refine x_reg ?_ | refine x_nil ?_ | refine x_then_n ?_ | refine rl_q rfl (q_move rfl) ?_ | refine rl_q rfl (q_nil rfl) ?_ | refine rl_q rfl (q_fa0 (by exact Fo.out) rfl) ?_ | refine rl_q rfl (q_fak (by exact Fo.out) rfl) ?_ | refine rl_q rfl (q_fieldAddr (by exact Fo.out) rfl) ?_ | refine rl_q rfl (q_assign rfl) ?_ | refine rl_q rfl (q_len rfl (by kernel_rfl) rfl) ?_ | refine rl_q rfl (q_extract rfl rfl) ?_ | refine rl_q rfl (q_addi _ rfl rfl rfl (by omega) (by omega)) ?_ | refine rl_q rfl (q_subi _ rfl rfl rfl (by omega) (by omega)) ?_ | refine rl_q rfl (q_muli _ rfl rfl rfl (by omega) (by omega)) ?_ | refine rl_q rfl (q_pick_t rfl rfl) ?_ | refine rl_q rfl (q_pick_f rfl rfl) ?_ | refine rl_q rfl (q_lt_t rfl rfl (by omega)) ?_ | refine rl_q rfl (q_lt_f rfl rfl (by omega)) ?_ | refine rl_q rfl (q_le_t rfl rfl (by omega)) ?_ | refine rl_q rfl (q_le_f rfl rfl (by omega)) ?_ | refine rl_q rfl (q_gt_t rfl rfl (by omega)) ?_ | refine rl_q rfl (q_gt_f rfl rfl (by omega)) ?_ | refine rl_q rfl (q_ge_t rfl rfl (by omega)) ?_ | refine rl_q rfl (q_ge_f rfl rfl (by omega)) ?_ | refine rl_q rfl (q_eq_t rfl rfl (by omega)) ?_ | refine rl_q rfl (q_eq_f rfl rfl (by omega)) ?_ | refine rl_q rfl (q_ne_t rfl rfl (by omega)) ?_ | refine rl_q rfl (q_ne_f rfl rfl (by omega)) ?_ | refine rl_q rfl (q_lt rfl rfl) ?_ | refine rl_q rfl (q_le rfl rfl) ?_ | refine rl_q rfl (q_gt rfl rfl) ?_ | refine rl_q rfl (q_ge rfl rfl) ?_ | refine rl_q rfl (q_eq rfl rfl) ?_ | refine rl_q rfl (q_ne rfl rfl) ?_ | refine rl_q rfl (q_not rfl) ?_ | refine rl_q rfl (q_nilf rfl) ?_ | refine rl_q rfl (q_makeFunc rfl rfl) ?_ | refine rl_q rfl (q_field (by exact Fo.out) (by kernel_rfl) rfl rfl) ?_ | refine rl_q rfl (q_load (by exact Tk.out) rfl (c1 (by assumption) (by rfl))) ?_ | refine rl_q rfl (q_loadB (by exact Tk.out) rfl (by assumption) (by rfl)) ?_ | refine rl_q rfl (q_load (by exact Tk.out) rfl (c1_cell (by assumption))) ?_ | refine x_blk_n ?_ | refine x_block ?_ | refine x_skip ?_ | refine x_label ?_ | refine x_ret ?_ | refine x_exit ?_ | refine x_then_r ?_ | refine x_then_e ?_ | refine x_blk_e ?_ | refine x_blk_r ?_ | refine x_blk_o rfl ?_ | refine x_cond_t rfl ?_ | refine x_cond_f rfl ?_ | refine rl_go rfl rfl ?_ | refine rl_no rfl rfl rfl rfl ?_)
      exact x_again (j + 1, vs1) (And.intro rfl (And.intro rfl (And.intro rfl (And.intro rfl (And.intro rfl (And.intro rfl (And.intro rfl (And.intro rfl (And.intro rfl (And.intro rfl (And.intro rfl (And.intro rfl (And.intro rfl trivial))))))))))))) ⟨hjl, by rw [hnext]; exact ⟨getk hk_wd hwb.hw, getk hk_wd hwb.hb, hwb.ns.grow hk_wd, hwb.k.trans (Kept.all hk_wd)⟩⟩ (by dsimp only; omega)
    · have hY : (Tj.cross comp i (tgtO L.length (zn : Int))).toList = [(comp i, comp zn)] := by rw [tgtO, if_neg (by omega)]; simp [Tj.cross, he]
      rw [hY] at hnext
      refine x_drawH [] mixed fun wd hk_wd hS_wd => ?_
      refine dr_p 0 rfl rfl (by kernel_rfl) (by kernel_rfl) (by kernel_rfl) (by kernel_rfl) (q_move rfl) hS_wd ?_
      refine dr_p 1 rfl rfl (by kernel_rfl) (by kernel_rfl) (by kernel_rfl) (by kernel_rfl) (q_ge_t rfl rfl (by omega)) hS_wd ?_
      refine dr_p 2 rfl rfl (by kernel_rfl) (by kernel_rfl) (by kernel_rfl) (by kernel_rfl) (q_move rfl) hS_wd ?_
      refine dr_gp 3 rfl rfl rfl rfl (by kernel_rfl) (by kernel_rfl) (by kernel_rfl) (by kernel_rfl) (q_move rfl) hS_wd ?_
      refine dr_gp 4 rfl rfl rfl rfl (by kernel_rfl) (by kernel_rfl) (by kernel_rfl) (by kernel_rfl) (q_move rfl) hS_wd ?_
      refine dr_gp 5 rfl rfl rfl rfl (by kernel_rfl) (by kernel_rfl) (by kernel_rfl) (by kernel_rfl) (q_len rfl (by kernel_rfl) rfl) hS_wd ?_
      refine dr_gp 6 rfl rfl rfl rfl (by kernel_rfl) (by kernel_rfl) (by kernel_rfl) (by kernel_rfl) (q_lt_t rfl rfl (by omega)) hS_wd ?_
      refine dr_p 7 rfl rfl (by kernel_rfl) (by kernel_rfl) (by kernel_rfl) (by kernel_rfl) ((by first | exact q_pick_t rfl rfl | exact q_pick_f rfl rfl)) hS_wd ?_
      refine dr_p 8 rfl rfl (by kernel_rfl) (by kernel_rfl) (by kernel_rfl) (by kernel_rfl) (q_move rfl) hS_wd ?_
      refine dr_gp 9 rfl rfl rfl rfl (by kernel_rfl) (by kernel_rfl) (by kernel_rfl) (by kernel_rfl) (q_move rfl) hS_wd ?_
      refine dr_gp 10 rfl rfl rfl rfl (by kernel_rfl) (by kernel_rfl) (by kernel_rfl) (by kernel_rfl) (q_move rfl) hS_wd ?_
      refine dr_gp 11 rfl rfl rfl rfl (by kernel_rfl) (by kernel_rfl) (by kernel_rfl) (by kernel_rfl) (q_index1 (by exact Es.out) rfl rfl rfl hzN) hS_wd ?_
      refine dr_gs 12 rfl rfl rfl rfl (by kernel_rfl) (by kernel_rfl) (by kernel_rfl) (by kernel_rfl) (by kernel_rfl) (by kernel_rfl) (q_load (v := .int .i64 (comp zn : Int)) (by exact Tk.out) rfl (c1h (cell_of hbc1 (rowA_get hzN)))) hS_wd ?_
      refine dr_gp 13 rfl rfl rfl rfl (by kernel_rfl) (by kernel_rfl) (by kernel_rfl) (by kernel_rfl) (q_move rfl) hS_wd ?_
      refine dr_gp 14 rfl rfl rfl rfl (by kernel_rfl) (by kernel_rfl) (by kernel_rfl) (by kernel_rfl) (q_move rfl) hS_wd ?_
      refine dr_gp 15 rfl rfl rfl rfl (by kernel_rfl) (by kernel_rfl) (by kernel_rfl) (by kernel_rfl) (q_index1 (by exact Es.out) rfl rfl rfl hi) hS_wd ?_
      refine dr_gs 16 rfl rfl rfl rfl (by kernel_rfl) (by kernel_rfl) (by kernel_rfl) (by kernel_rfl) (by kernel_rfl) (by kernel_rfl) (q_load (v := .int .i64 (comp i : Int)) (by exact Tk.out) rfl (c1h (cell_of hbc1 (rowA_get hi)))) hS_wd ?_
      refine dr_gp 17 rfl rfl rfl rfl (by kernel_rfl) (by kernel_rfl) (by kernel_rfl) (by kernel_rfl) (q_ne_t rfl rfl (by omega)) hS_wd ?_
      refine dr_p 18 rfl rfl (by kernel_rfl) (by kernel_rfl) (by kernel_rfl) (by kernel_rfl) ((by first | exact q_pick_t rfl rfl | exact q_pick_f rfl rfl)) hS_wd ?_
      refine dr_done (by kernel_rfl) ?_
      have hbcd := getk hk_wd hbc1
      have hwd := getk hk_wd hwb.hw
      have hbd := getk hk_wd hwb.hb
      have hcl := cw_le Y (comp i)
      have hbl := bk_le Y (comp zn)
      repeat (first | refine x_seq ?_ | refine x_reg ?_ | refine x_nil ?_ | refine x_then_n ?_ | refine x_blk_n ?_ | refine x_block ?_ | refine x_skip ?_ | refine x_label ?_ | refine x_ret ?_ | refine x_exit ?_ | refine x_then_r ?_ | refine x_then_e ?_ | refine x_blk_e ?_ | refine x_blk_r ?_ | refine x_blk_o rfl ?_ | refine x_cond_t rfl ?_ | refine x_cond_f rfl ?_ | refine rl_go rfl rfl ?_ | refine rl_no rfl rfl rfl rfl ?_)
      refine rl_q rfl (q_move rfl) ?_
      refine rl_q rfl (q_move rfl) ?_
      refine rl_q rfl (q_move rfl) ?_
      refine rl_q rfl (q_index1 (by exact Es.out) rfl rfl rfl hi) ?_
      refine rl_q rfl (q_load (v := .int .i64 (comp i : Int)) (by exact Tk.out) rfl (c1_cell (cell_of hbcd (rowA_get hi)))) ?_
      refine rl_q rfl (q_index1 (by exact Es.out) rfl rfl rfl hci) ?_
      refine rl_q rfl (q_load (v := .int .i64 (cw Y (comp i) : Int)) (by exact Tk.out) rfl (c1_cell (cell_of hwd (rowA_get hci)))) ?_
      refine rl_q rfl (q_addi ((cw Y (comp i) + 1 : Nat) : Int) rfl rfl (by omega) (by omega) (by omega)) ?_
      refine rl_q rfl (q_index1 (by exact Es.out) rfl rfl rfl hci) ?_
      refine rl_n (e_store1 (by exact Tk.out) rfl rfl rfl hwd (by rw [rowA_size]; exact hci) fun w2 p2 => ?_)
      repeat (first | refine x_seq ?_ | refine x_reg ?_ | refine x_nil ?_ | refine x_then_n ?_ | refine x_blk_n ?_ | refine x_block ?_ | refine x_skip ?_ | refine x_label ?_ | refine x_ret ?_ | refine x_exit ?_ | refine x_then_r ?_ | refine x_then_e ?_ | refine x_blk_e ?_ | refine x_blk_r ?_ | refine x_blk_o rfl ?_ | refine x_cond_t rfl ?_ | refine x_cond_f rfl ?_ | refine rl_go rfl rfl ?_ | refine rl_no rfl rfl rfl rfl ?_)
      have hw2 := put_row p2
      rw [up_upd, ← cw_snoc Y (comp i) (comp zn)] at hw2
      have hbc2 := getp p2 hbcd (by omega)
      have hb2 := getp p2 hbd (blk_ne hbd hwd rfl)
      have ns2 := (hwb.ns.grow hk_wd).puto p2 h4
      have k2 := kept_put (hwb.k.trans (Kept.all hk_wd)) p2 hwd rfl h2
      have hn2 := k2.size
      refine x_drawK n3 [3] [19] mixed fun we hk_we hS_we => ?_
      refine dr_p 0 rfl rfl (by kernel_rfl) (by kernel_rfl) (by kernel_rfl) (by kernel_rfl) (q_move rfl) hS_we ?_
      refine dr_p 1 rfl rfl (by kernel_rfl) (by kernel_rfl) (by kernel_rfl) (by kernel_rfl) (q_move rfl) hS_we ?_
      refine dr_p 2 rfl rfl (by kernel_rfl) (by kernel_rfl) (by kernel_rfl) (by kernel_rfl) (q_move rfl) hS_we ?_
      refine dr_p 3 rfl rfl (by kernel_rfl) (by kernel_rfl) (by kernel_rfl) (by kernel_rfl) (q_index1 (by exact Es.out) rfl rfl rfl hzN) hS_we ?_
      refine dr_s 4 rfl rfl (by kernel_rfl) (by kernel_rfl) (by kernel_rfl) (by kernel_rfl) (by kernel_rfl) (by kernel_rfl) (q_load (v := .int .i64 (comp zn : Int)) (by exact Tk.out) rfl ((stays_kept hbc2 (.inl (by omega))).c1 (cell_of hbc2 (rowA_get hzN)))) hS_we ?_
      refine dr_p 5 rfl rfl (by kernel_rfl) (by kernel_rfl) (by kernel_rfl) (by kernel_rfl) (q_move rfl) hS_we ?_
      refine dr_p 6 rfl rfl (by kernel_rfl) (by kernel_rfl) (by kernel_rfl) (by kernel_rfl) (q_move rfl) hS_we ?_
      refine dr_p 7 rfl rfl (by kernel_rfl) (by kernel_rfl) (by kernel_rfl) (by kernel_rfl) (q_move rfl) hS_we ?_
      refine dr_p 8 rfl rfl (by kernel_rfl) (by kernel_rfl) (by kernel_rfl) (by kernel_rfl) (q_index1 (by exact Es.out) rfl rfl rfl hzN) hS_we ?_
      refine dr_s 9 rfl rfl (by kernel_rfl) (by kernel_rfl) (by kernel_rfl) (by kernel_rfl) (by kernel_rfl) (by kernel_rfl) (q_load (v := .int .i64 (comp zn : Int)) (by exact Tk.out) rfl ((stays_kept hbc2 (.inl (by omega))).c1 (cell_of hbc2 (rowA_get hzN)))) hS_we ?_
      refine dr_p 10 rfl rfl (by kernel_rfl) (by kernel_rfl) (by kernel_rfl) (by kernel_rfl) (q_index1 (by exact Es.out) rfl rfl rfl hcz) hS_we ?_
      refine dr_s 11 rfl rfl (by kernel_rfl) (by kernel_rfl) (by kernel_rfl) (by kernel_rfl) (by kernel_rfl) (by kernel_rfl) (q_load (by exact Tk.out) rfl (c1k hb2 rfl (nthV hcz))) hS_we ?_
      refine dr_p 12 rfl rfl (by kernel_rfl) (by kernel_rfl) (by kernel_rfl) (by kernel_rfl) (q_move rfl) hS_we ?_
      refine dr_p 13 rfl rfl (by kernel_rfl) (by kernel_rfl) (by kernel_rfl) (by kernel_rfl) (q_move rfl) hS_we ?_
      refine dr_p 14 rfl rfl (by kernel_rfl) (by kernel_rfl) (by kernel_rfl) (by kernel_rfl) (q_index1 (by exact Es.out) rfl rfl rfl hi) hS_we ?_
      refine dr_s 15 rfl rfl (by kernel_rfl) (by kernel_rfl) (by kernel_rfl) (by kernel_rfl) (by kernel_rfl) (by kernel_rfl) (q_load (v := .int .i64 (comp i : Int)) (by exact Tk.out) rfl ((stays_kept hbc2 (.inl (by omega))).c1 (cell_of hbc2 (rowA_get hi)))) hS_we ?_
      refine dr_e 16 (by kernel_rfl) rfl rfl (e_buildSlice (e := 3) (cs := (ints (comp i)).toArray) rfl (fun _ => by kernel_rfl) fun b7 w7 n7 => ⟨fun hu => hS_we.trans (Kept.all n7.kept), ?_⟩)
      have S7 : Kept n3 [3] w2 w7 := hS_we.trans (Kept.all n7.kept)
      have ns7 := (ns2.grow hk_we).grow n7.kept
      refine dr_e 17 (by kernel_rfl) rfl rfl (e_append (size := 1) (by exact Us.out) (by exact Zi.out) rfl (by decide) rfl rfl (ns7.own _ hcz) (by have := S7.size; omega) (m := 1) (news := ints (comp i)) rfl (news_of n7.here) (ints_one (comp i)) (by omega) (by omega) fun vA w8 oA gA eA => ⟨fun hu => S7.trans (kept_grownBy (ns7.own _ hcz) gA), ?_⟩)
      have S8 : Kept n3 [3] w2 w8 := S7.trans (kept_grownBy (ns7.own _ hcz) gA)
      have ns8 := ns7.app hcz (x := comp i) oA gA eA
      obtain ⟨A8, c8, rfl, _⟩ := own_form oA
      have hb8 := gett S8 hb2 rfl
      refine dr_p 18 rfl rfl (by kernel_rfl) (by kernel_rfl) (by kernel_rfl) (by kernel_rfl) (q_index1 (by exact Es.out) rfl rfl rfl hcz) S8 ?_
      refine dr_n 19 (by kernel_rfl) rfl (e_store1 (by exact Tk.out) rfl rfl rfl hb8 (by rw [rowV_size]; exact hcz) fun w9 p9 => ⟨fun hu => unl hu (by kernel_rfl), ?_⟩)
      refine dr_done (by kernel_rfl) ?_
      have ns9 := ns8.puto p9 h5
      rw [← bk_snoc] at ns9
      have k9 := kept_put (k2.trans (S8.mono (by omega) (by simp))) p9 hb8 rfl h3
      have hb9 := putV p9
      have hw9 := getp p9 (getb S8 hw2 h4) (blk_ne (getb S8 hw2 h4) hb8 rfl)
      repeat (first | refine x_seq ?_ | refine x_reg ?_ | refine x_nil ?_ | refine x_then_n ?_ | refine rl_q rfl (q_move rfl) ?_ | refine rl_q rfl (q_nil rfl) ?_ | refine rl_q rfl (q_fa0 (by exact Fo.out) rfl) ?_ | refine rl_q rfl (q_fak (by exact Fo.out) rfl) ?_ | refine rl_q rfl (q_fieldAddr (by exact Fo.out) rfl) ?_ | refine rl_q rfl (q_assign rfl) ?_ | refine rl_q rfl (q_len rfl (by kernel_rfl) rfl) ?_ | refine rl_q rfl (q_extract rfl rfl) ?_ | refine rl_q rfl (q_addi _ rfl rfl rfl (by omega) (by omega)) ?_ | refine rl_q rfl (q_subi _ rfl rfl rfl (by omega) (by omega)) ?_ | refine rl_q rfl (q_muli _ rfl rfl rfl (by omega) (by omega)) ?_ | refine rl_q rfl (q_pick_t rfl rfl) ?_ | refine rl_q rfl (q_pick_f rfl rfl) ?_ | refine rl_q rfl (q_lt_t rfl rfl (by omega)) ?_ | refine rl_q rfl (q_lt_f rfl rfl (by omega)) ?_ | refine rl_q rfl (q_le_t rfl rfl (by omega)) ?_ | refine rl_q rfl (q_le_f rfl rfl (by omega)) ?_ | refine rl_q rfl (q_gt_t rfl rfl (by omega)) ?_ | refine rl_q rfl (q_gt_f rfl rfl (by omega)) ?_ | refine rl_q rfl (q_ge_t rfl rfl (by omega)) ?_ | refine rl_q rfl (q_ge_f rfl rfl (by omega)) ?_ | refine rl_q rfl (q_eq_t rfl rfl (by omega)) ?_ | refine rl_q rfl (q_eq_f rfl rfl (by omega)) ?_ | refine rl_q rfl (q_ne_t rfl rfl (by omega)) ?_ | refine rl_q rfl (q_ne_f rfl rfl (by omega)) ?_ | refine rl_q rfl (q_lt rfl rfl) ?_ | refine rl_q rfl (q_le rfl rfl) ?_ | refine rl_q rfl (q_gt rfl rfl) ?_ | refine rl_q rfl (q_ge rfl rfl) ?_ | refine rl_q rfl (q_eq rfl rfl) ?_ | refine rl_q rfl (q_ne rfl rfl) ?_ | refine rl_q rfl (q_not rfl) ?_ | refine rl_q rfl (q_nilf rfl) ?_ | refine rl_q rfl (q_makeFunc rfl rfl) ?_ | refine rl_q rfl (q_field (by exact Fo.out) (by kernel_rfl) rfl rfl) ?_ | refine rl_q rfl (q_load (by exact Tk.out) rfl (c1 (by assumption) (by rfl))) ?_ | refine rl_q rfl (q_loadB (by exact Tk.out) rfl (by assumption) (by rfl)) ?_ | refine rl_q rfl (q_load (by exact Tk.out) rfl (c1_cell (by assumption))) ?_ | refine x_blk_n ?_ | refine x_block ?_ | refine x_skip ?_ | refine x_label ?_ | refine x_ret ?_ | refine x_exit ?_ | refine x_then_r ?_ | refine x_then_e ?_ | refine x_blk_e ?_ | refine x_blk_r ?_ | refine x_blk_o rfl ?_ | refine x_cond_t rfl ?_ | refine x_cond_f rfl ?_ | refine rl_go rfl rfl ?_ | refine rl_no rfl rfl rfl rfl ?_)
      exact x_again (j + 1, _) (And.intro rfl (And.intro rfl (And.intro rfl (And.intro rfl (And.intro rfl (And.intro rfl (And.intro rfl (And.intro rfl (And.intro rfl (And.intro rfl (And.intro rfl (And.intro rfl (And.intro rfl trivial))))))))))))) ⟨hjl, by rw [hnext]; exact ⟨hw9, hb9, ns9, k9⟩⟩ (by dsimp only; omega)
  · obtain rfl : j = L[i].length := by omega
    repeat (first | refine x_seq ?_ | refine x_reg ?_ | refine x_nil ?_ | refine x_then_n ?_ | refine rl_q rfl (q_move rfl) ?_ | refine rl_q rfl (q_nil rfl) ?_ | refine rl_q rfl (q_fa0 (by exact Fo.out) rfl) ?_ | refine rl_q rfl (q_fak (by exact Fo.out) rfl) ?_ | refine rl_q rfl (q_fieldAddr (by exact Fo.out) rfl) ?_ | refine rl_q rfl (q_assign rfl) ?_ | refine rl_q rfl (q_len rfl (by kernel_rfl) rfl) ?_ | refine rl_q rfl (q_extract rfl rfl) ?_ | refine rl_q rfl (q_addi _ rfl rfl rfl (by omega) (by omega)) ?_ | refine rl_q rfl (q_subi _ rfl rfl rfl (by omega) (by omega)) ?_ | refine rl_q rfl (q_muli _ rfl rfl rfl (by omega) (by omega)) ?_ | refine rl_q rfl (q_pick_t rfl rfl) ?_ | refine rl_q rfl (q_pick_f rfl rfl) ?_ | refine rl_q rfl (q_lt_t rfl rfl (by omega)) ?_ | refine rl_q rfl (q_lt_f rfl rfl (by omega)) ?_ | refine rl_q rfl (q_le_t rfl rfl (by omega)) ?_ | refine rl_q rfl (q_le_f rfl rfl (by omega)) ?_ | refine rl_q rfl (q_gt_t rfl rfl (by omega)) ?_ | refine rl_q rfl (q_gt_f rfl rfl (by omega)) ?_ | refine rl_q rfl (q_ge_t rfl rfl (by omega)) ?_ | refine rl_q rfl (q_ge_f rfl rfl (by omega)) ?_ | refine rl_q rfl (q_eq_t rfl rfl (by omega)) ?_ | refine rl_q rfl (q_eq_f rfl rfl (by omega)) ?_ | refine rl_q rfl (q_ne_t rfl rfl (by omega)) ?_ | refine rl_q rfl (q_ne_f rfl rfl (by omega)) ?_ | refine rl_q rfl (q_lt rfl rfl) ?_ | refine rl_q rfl (q_le rfl rfl) ?_ | refine rl_q rfl (q_gt rfl rfl) ?_ | refine rl_q rfl (q_ge rfl rfl) ?_ | refine rl_q rfl (q_eq rfl rfl) ?_ | refine rl_q rfl (q_ne rfl rfl) ?_ | refine rl_q rfl (q_not rfl) ?_ | refine rl_q rfl (q_nilf rfl) ?_ | refine rl_q rfl (q_makeFunc rfl rfl) ?_ | refine rl_q rfl (q_field (by exact Fo.out) (by kernel_rfl) rfl rfl) ?_ | refine rl_q rfl (q_load (by exact Tk.out) rfl (c1 (by assumption) (by rfl))) ?_ | refine rl_q rfl (q_loadB (by exact Tk.out) rfl (by assumption) (by rfl)) ?_ | refine rl_q rfl (q_load (by exact Tk.out) rfl (c1_cell (by assumption))) ?_ | refine x_blk_n ?_ | refine x_block ?_ | refine x_skip ?_ | refine x_label ?_ | refine x_ret ?_ | refine x_exit ?_ | refine x_then_r ?_ | refine x_then_e ?_ | refine x_blk_e ?_ | refine x_blk_r ?_ | refine x_blk_o rfl ?_ | refine x_cond_t rfl ?_ | refine x_cond_f rfl ?_ | refine rl_go rfl rfl ?_ | refine rl_no rfl rfl rfl rfl ?_)
    refine F.sub ?_ (rest vs1 w1 (by rwa [List.take_of_length_le (by rw [es_len hi]; exact Nat.le_refl _)] at hwb))
    exact (And.intro rfl (And.intro rfl (And.intro rfl (And.intro rfl (And.intro rfl (And.intro rfl (And.intro rfl (And.intro rfl (And.intro rfl trivial)))))))))
end Go.Proofs.YtnjjjfffppllfaaX.G
