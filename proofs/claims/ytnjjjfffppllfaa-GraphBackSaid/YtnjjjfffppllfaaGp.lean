/- The finder of components: each node of a graph has its component. -/
import Derived.Test.YtnjjjfffppllfaaGw
import Derived.Test.YtnjjjfffppllfaaTq
import Derived.Test.YtnjjjfffppllfaaMk
namespace Go.Proofs.YtnjjjfffppllfaaX.G
open Go.RowKit Go.Proofs.YtnjjjfffppllfaaK
open Tj (St Seg Inv Parts upd_i upd_o flat)
attribute [local irreducible] F Qt Ef Code.wp wpList wpT bodyPost Calls
set_option linter.unusedVariables false
set_option linter.unusedSimpArgs false

theorem rowA_zero (N : Nat) : Array.replicate N (Value.int .i64 0) = rowA N (up fun _ => 0) := by
  apply Array.ext
  · simp [rowA_size]
  · intro i h1 h2
    have h3 : i < N := by simpa using h1
    have := rowA_get (f := up fun _ => 0) h3
    rw [Array.getElem?_eq_getElem h2] at this
    simp [up] at this
    simp [this]
theorem rowA_zeroB (N : Nat) : Array.replicate N (Value.int .i64 0) = rowA N (upB fun _ => false) := rowA_zero N
theorem esOf_lt {L : List (List Int)} {x t : Nat} (hx : x < L.length) (h : some t ∈ esOf L x) : t < L.length := by
  rw [es_get hx, List.mem_map] at h
  obtain ⟨z, _, hz⟩ := h
  unfold tgtO at hz
  split at hz
  · cases hz
  · cases hz; omega
/-- What the four rows and the finder are behind their making. -/
structure Made (w w' : World) (ev : Value) (N bo bl bh bc p n1 : Nat) : Prop where
  ho : w'.heap[bo]? = some (.cells (Array.replicate N (.int .i64 0)) 3 (0, 0))
  hl : w'.heap[bl]? = some (.cells (Array.replicate N (.int .i64 0)) 3 (0, 0))
  hh : w'.heap[bh]? = some (.cells (Array.replicate N (.int .i64 0)) 3 (0, 0))
  hc : w'.heap[bc]? = some (.cells (Array.replicate N (.int .i64 0)) 3 (0, 0))
  hp : w'.heap[p]? = some (.cells #[ev, .slice (some ⟨bo, 0, none⟩) N N, .slice (some ⟨bl, 0, none⟩) N N, .slice (some ⟨bh, 0, none⟩) N N, .slice none 0 0, .slice (some ⟨bc, 0, none⟩) N N, .int .i64 0, .int .i64 0] 170 (0, 0))
  dist : bo ≠ bl ∧ bo ≠ bh ∧ bo ≠ bc ∧ bl ≠ bh ∧ bl ≠ bc ∧ bh ≠ bc
  lo : w.heap.size ≤ p ∧ w.heap.size ≤ bo ∧ w.heap.size ≤ bl ∧ w.heap.size ≤ bh ∧ w.heap.size ≤ bc
  hi : bo < n1 ∧ bl < n1 ∧ bh < n1 ∧ bc < n1 ∧ w.heap.size ≤ n1
  n1 : n1 ≤ w'.heap.size
  k : Kept 0 [] w w'

set_option maxHeartbeats 8000000 in
theorem comps_c {w : World} {ev : Value} {L : List (List Int)} (hg : Gr w ev L) (hN : L.length ≤ 1000000) (hE : ∀ xs ∈ L, xs.length ≤ 1000000000) :
    Calls Try.prog 85 #[ev] w (Rt fun v w' => ∃ (bc : Nat) (comp : Nat → Nat) (n : Nat), v = .tuple #[.slice (some ⟨bc, 0, none⟩) L.length L.length, .int .i64 (n : Int)] ∧ w'.heap[bc]? = some (.cells (rowA L.length (up comp)) 3 (0, 0)) ∧ w.heap.size ≤ bc ∧ n ≤ L.length ∧ Parts L.length (esOf L) comp n ∧ Old w w') := by
  have hg0 := hg
  obtain ⟨A, cap, rfl, hcap, hr0⟩ := hg0
  clear hr0
  generalize hNN : L.length = N at *
  refine x_enter (n := 44) [(0, _)] Try.func85 rfl Try.ntmps85 rfl (And.intro rfl trivial) ?_
  repeat (first | refine x_seq ?_ | refine x_reg ?_ | refine x_nil ?_ | refine x_then_n ?_ | refine rl_q rfl (q_move rfl) ?_ | refine rl_q rfl (q_nil rfl) ?_ | refine rl_q rfl (q_fa0 (by exact Fo.out) rfl) ?_ | refine rl_q rfl (q_fak (by exact Fo.out) rfl) ?_ | refine rl_q rfl (q_fieldAddr (by exact Fo.out) rfl) ?_ | refine rl_q rfl (q_assign rfl) ?_ | refine rl_q rfl (q_len rfl (by kernel_rfl) rfl) ?_ | refine rl_q rfl (q_extract rfl rfl) ?_ | refine rl_q rfl (q_addi _ rfl rfl rfl (by omega) (by omega)) ?_ | refine rl_q rfl (q_subi _ rfl rfl rfl (by omega) (by omega)) ?_ | refine rl_q rfl (q_muli _ rfl rfl rfl (by omega) (by omega)) ?_ | refine rl_q rfl (q_pick_t rfl rfl) ?_ | refine rl_q rfl (q_pick_f rfl rfl) ?_ | refine rl_q rfl (q_lt_t rfl rfl (by omega)) ?_ | refine rl_q rfl (q_lt_f rfl rfl (by omega)) ?_ | refine rl_q rfl (q_le_t rfl rfl (by omega)) ?_ | refine rl_q rfl (q_le_f rfl rfl (by omega)) ?_ | refine rl_q rfl (q_gt_t rfl rfl (by omega)) ?_ | refine rl_q rfl (q_gt_f rfl rfl (by omega)) ?_ | refine rl_q rfl (q_ge_t rfl rfl (by omega)) ?_ | refine rl_q rfl (q_ge_f rfl rfl (by omega)) ?_ | refine rl_q rfl (q_eq_t rfl rfl (by omega)) ?_ | refine rl_q rfl (q_eq_f rfl rfl (by omega)) ?_ | refine rl_q rfl (q_ne_t rfl rfl (by omega)) ?_ | refine rl_q rfl (q_ne_f rfl rfl (by omega)) ?_ | refine rl_q rfl (q_lt rfl rfl) ?_ | refine rl_q rfl (q_le rfl rfl) ?_ | refine rl_q rfl (q_gt rfl rfl) ?_ | refine rl_q rfl (q_ge rfl rfl) ?_ | refine rl_q rfl (q_eq rfl rfl) ?_ | refine rl_q rfl (q_ne rfl rfl) ?_ | refine rl_q rfl (q_not rfl) ?_ | refine rl_q rfl (q_nilf rfl) ?_ | refine rl_q rfl (q_makeFunc rfl rfl) ?_ | refine rl_q rfl (q_field (by exact Fo.out) (by kernel_rfl) rfl rfl) ?_ | refine rl_q rfl (q_load (by exact Tk.out) rfl (c1 (by assumption) (by rfl))) ?_ | refine rl_q rfl (q_loadB (by exact Tk.out) rfl (by assumption) (by rfl)) ?_ | refine rl_q rfl (q_load (by exact Tk.out) rfl (c1_cell (by assumption))) ?_ | refine x_blk_n ?_ | refine x_block ?_ | refine x_skip ?_ | refine x_label ?_ | refine x_ret ?_ | refine x_exit ?_ | refine x_then_r ?_ | refine x_then_e ?_ | refine x_blk_e ?_ | refine x_blk_r ?_ | refine x_blk_o rfl ?_ | refine x_cond_t rfl ?_ | refine x_cond_f rfl ?_ | refine rl_go rfl rfl ?_ | refine rl_no rfl rfl rfl rfl ?_)
  refine x_cut (γ := Nat × Nat × Nat × Nat × Nat × Nat) (fun g => [(0, .slice A N cap), (4, .int .i64 (N : Int)), (5, .pointer (some ⟨g.2.2.2.2.1, 0, none⟩))])
    (fun g w' => Made w w' (.slice A N cap) N g.1 g.2.1 g.2.2.1 g.2.2.2.1 g.2.2.2.2.1 g.2.2.2.2.2) ?rest ?first
  case first =>
    refine x_drawH [2, 4, 6, 8] mixed fun wd hk_wd hS_wd => ?_
    refine dr_p 0 rfl rfl (by kernel_rfl) (by kernel_rfl) (by kernel_rfl) (by kernel_rfl) (q_move rfl) hS_wd ?_
    refine dr_p 1 rfl rfl (by kernel_rfl) (by kernel_rfl) (by kernel_rfl) (by kernel_rfl) (q_move rfl) hS_wd ?_
    refine dr_p 3 rfl rfl (by kernel_rfl) (by kernel_rfl) (by kernel_rfl) (by kernel_rfl) (q_move rfl) hS_wd ?_
    refine dr_p 5 rfl rfl (by kernel_rfl) (by kernel_rfl) (by kernel_rfl) (by kernel_rfl) (q_move rfl) hS_wd ?_
    refine dr_p 7 rfl rfl (by kernel_rfl) (by kernel_rfl) (by kernel_rfl) (by kernel_rfl) (q_move rfl) hS_wd ?_
    refine dr_all [2, 4, 6, 8] (by kernel_rfl) (by decide) (List.forall_mem_cons.2 ⟨?_, List.forall_mem_cons.2 ⟨?_, List.forall_mem_cons.2 ⟨?_, List.forall_mem_cons.2 ⟨?_, (fun _ h => by cases h)⟩⟩⟩⟩)
    · refine st1_e rfl rfl (e_mk1 (m := N) (by exact Us.out) (by exact Zi.out) rfl rfl rfl (by omega) (by omega) fun bo w2 n2 => ⟨fun hu => unl hu (by kernel_rfl), ?_⟩)
      refine dr_all [4, 6, 8] (by kernel_rfl) (by decide) (List.forall_mem_cons.2 ⟨?_, List.forall_mem_cons.2 ⟨?_, List.forall_mem_cons.2 ⟨?_, (fun _ h => by cases h)⟩⟩⟩)
      · refine st1_e rfl rfl (e_mk1 (m := N) (by exact Us.out) (by exact Zi.out) rfl rfl rfl (by omega) (by omega) fun bl w4 n4 => ⟨fun hu => unl hu (by kernel_rfl), ?_⟩)
        refine dr_all [6, 8] (by kernel_rfl) (by decide) (List.forall_mem_cons.2 ⟨?_, List.forall_mem_cons.2 ⟨?_, (fun _ h => by cases h)⟩⟩)
        · refine st1_e rfl rfl (e_mk1 (m := N) (by exact Us.out) (by exact Zi.out) rfl rfl rfl (by omega) (by omega) fun bh w6 n6 => ⟨fun hu => unl hu (by kernel_rfl), ?_⟩)
          refine dr_all [8] (by kernel_rfl) (by decide) (List.forall_mem_cons.2 ⟨?_, (fun _ h => by cases h)⟩)
          · refine st1_e rfl rfl (e_mk1 (m := N) (by exact Us.out) (by exact Zi.out) rfl rfl rfl (by omega) (by omega) fun bc w8 n8 => ⟨fun hu => unl hu (by kernel_rfl), ?_⟩)
            have f2 := n2.fresh
            have l2 := heap_lt n2.here
            have z2 := n2.kept.size
            have f4 := n4.fresh
            have l4 := heap_lt n4.here
            have z4 := n4.kept.size
            have f6 := n6.fresh
            have l6 := heap_lt n6.here
            have z6 := n6.kept.size
            have f8 := n8.fresh
            have l8 := heap_lt n8.here
            have z8 := n8.kept.size
            have zd := hk_wd.size
            refine dr_p' 9 rfl rfl (by kernel_rfl) (by kernel_rfl) (by kernel_rfl) (by kernel_rfl) (q_build (v := .agg #[.slice A N cap, .slice (some ⟨bo, 0, none⟩) N N, .slice (some ⟨bl, 0, none⟩) N N, .slice (some ⟨bh, 0, none⟩) N N, .slice none 0 0, .slice (some ⟨bc, 0, none⟩) N N, .int .i64 0, .int .i64 0]) rfl (fun _ => by kernel_rfl)) (by kernel_rfl) ?_
            refine dr_e 10 (by kernel_rfl) rfl rfl (e_box rfl fun p wx nx => ⟨fun hu => unl hu (by kernel_rfl), ?_⟩)
            have fx := nx.fresh
            have zx := nx.kept.size
            refine dr_p' 11 rfl rfl (by kernel_rfl) (by kernel_rfl) (by kernel_rfl) (by kernel_rfl) (q_assign rfl) (by kernel_rfl) ?_
            refine dr_done (by kernel_rfl) ?_
            refine x_then_n ?_
            refine x_meet (bo, bl, bh, bc, p, w8.heap.size) (And.intro rfl (And.intro rfl (And.intro rfl trivial))) ?_
            dsimp only
            exact ⟨getk nx.kept (getk n8.kept (getk n6.kept (getk n4.kept (n2.here)))), getk nx.kept (getk n8.kept (getk n6.kept (n4.here))), getk nx.kept (getk n8.kept (n6.here)), getk nx.kept (n8.here), nx.here, ⟨by omega, by omega, by omega, by omega, by omega, by omega⟩, ⟨by omega, by omega, by omega, by omega, by omega⟩, ⟨by omega, by omega, by omega, by omega, by omega⟩, zx, (((((hk_wd).trans n2.kept).trans n4.kept).trans n6.kept).trans n8.kept).trans nx.kept⟩
        · refine st1_e rfl rfl (e_mk1 (m := N) (by exact Us.out) (by exact Zi.out) rfl rfl rfl (by omega) (by omega) fun bc w8 n8 => ⟨fun hu => unl hu (by kernel_rfl), ?_⟩)
          refine dr_all [6] (by kernel_rfl) (by decide) (List.forall_mem_cons.2 ⟨?_, (fun _ h => by cases h)⟩)
          · refine st1_e rfl rfl (e_mk1 (m := N) (by exact Us.out) (by exact Zi.out) rfl rfl rfl (by omega) (by omega) fun bh w6 n6 => ⟨fun hu => unl hu (by kernel_rfl), ?_⟩)
            have f2 := n2.fresh
            have l2 := heap_lt n2.here
            have z2 := n2.kept.size
            have f4 := n4.fresh
            have l4 := heap_lt n4.here
            have z4 := n4.kept.size
            have f8 := n8.fresh
            have l8 := heap_lt n8.here
            have z8 := n8.kept.size
            have f6 := n6.fresh
            have l6 := heap_lt n6.here
            have z6 := n6.kept.size
            have zd := hk_wd.size
            refine dr_p' 9 rfl rfl (by kernel_rfl) (by kernel_rfl) (by kernel_rfl) (by kernel_rfl) (q_build (v := .agg #[.slice A N cap, .slice (some ⟨bo, 0, none⟩) N N, .slice (some ⟨bl, 0, none⟩) N N, .slice (some ⟨bh, 0, none⟩) N N, .slice none 0 0, .slice (some ⟨bc, 0, none⟩) N N, .int .i64 0, .int .i64 0]) rfl (fun _ => by kernel_rfl)) (by kernel_rfl) ?_
            refine dr_e 10 (by kernel_rfl) rfl rfl (e_box rfl fun p wx nx => ⟨fun hu => unl hu (by kernel_rfl), ?_⟩)
            have fx := nx.fresh
            have zx := nx.kept.size
            refine dr_p' 11 rfl rfl (by kernel_rfl) (by kernel_rfl) (by kernel_rfl) (by kernel_rfl) (q_assign rfl) (by kernel_rfl) ?_
            refine dr_done (by kernel_rfl) ?_
            refine x_then_n ?_
            refine x_meet (bo, bl, bh, bc, p, w6.heap.size) (And.intro rfl (And.intro rfl (And.intro rfl trivial))) ?_
            dsimp only
            exact ⟨getk nx.kept (getk n6.kept (getk n8.kept (getk n4.kept (n2.here)))), getk nx.kept (getk n6.kept (getk n8.kept (n4.here))), getk nx.kept (n6.here), getk nx.kept (getk n6.kept (n8.here)), nx.here, ⟨by omega, by omega, by omega, by omega, by omega, by omega⟩, ⟨by omega, by omega, by omega, by omega, by omega⟩, ⟨by omega, by omega, by omega, by omega, by omega⟩, zx, (((((hk_wd).trans n2.kept).trans n4.kept).trans n8.kept).trans n6.kept).trans nx.kept⟩
      · refine st1_e rfl rfl (e_mk1 (m := N) (by exact Us.out) (by exact Zi.out) rfl rfl rfl (by omega) (by omega) fun bh w6 n6 => ⟨fun hu => unl hu (by kernel_rfl), ?_⟩)
        refine dr_all [4, 8] (by kernel_rfl) (by decide) (List.forall_mem_cons.2 ⟨?_, List.forall_mem_cons.2 ⟨?_, (fun _ h => by cases h)⟩⟩)
        · refine st1_e rfl rfl (e_mk1 (m := N) (by exact Us.out) (by exact Zi.out) rfl rfl rfl (by omega) (by omega) fun bl w4 n4 => ⟨fun hu => unl hu (by kernel_rfl), ?_⟩)
          refine dr_all [8] (by kernel_rfl) (by decide) (List.forall_mem_cons.2 ⟨?_, (fun _ h => by cases h)⟩)
          · refine st1_e rfl rfl (e_mk1 (m := N) (by exact Us.out) (by exact Zi.out) rfl rfl rfl (by omega) (by omega) fun bc w8 n8 => ⟨fun hu => unl hu (by kernel_rfl), ?_⟩)
            have f2 := n2.fresh
            have l2 := heap_lt n2.here
            have z2 := n2.kept.size
            have f6 := n6.fresh
            have l6 := heap_lt n6.here
            have z6 := n6.kept.size
            have f4 := n4.fresh
            have l4 := heap_lt n4.here
            have z4 := n4.kept.size
            have f8 := n8.fresh
            have l8 := heap_lt n8.here
            have z8 := n8.kept.size
            have zd := hk_wd.size
            refine dr_p' 9 rfl rfl (by kernel_rfl) (by kernel_rfl) (by kernel_rfl) (by kernel_rfl) (q_build (v := .agg #[.slice A N cap, .slice (some ⟨bo, 0, none⟩) N N, .slice (some ⟨bl, 0, none⟩) N N, .slice (some ⟨bh, 0, none⟩) N N, .slice none 0 0, .slice (some ⟨bc, 0, none⟩) N N, .int .i64 0, .int .i64 0]) rfl (fun _ => by kernel_rfl)) (by kernel_rfl) ?_
            refine dr_e 10 (by kernel_rfl) rfl rfl (e_box rfl fun p wx nx => ⟨fun hu => unl hu (by kernel_rfl), ?_⟩)
            have fx := nx.fresh
            have zx := nx.kept.size
            refine dr_p' 11 rfl rfl (by kernel_rfl) (by kernel_rfl) (by kernel_rfl) (by kernel_rfl) (q_assign rfl) (by kernel_rfl) ?_
            refine dr_done (by kernel_rfl) ?_
            refine x_then_n ?_
            refine x_meet (bo, bl, bh, bc, p, w8.heap.size) (And.intro rfl (And.intro rfl (And.intro rfl trivial))) ?_
            dsimp only
            exact ⟨getk nx.kept (getk n8.kept (getk n4.kept (getk n6.kept (n2.here)))), getk nx.kept (getk n8.kept (n4.here)), getk nx.kept (getk n8.kept (getk n4.kept (n6.here))), getk nx.kept (n8.here), nx.here, ⟨by omega, by omega, by omega, by omega, by omega, by omega⟩, ⟨by omega, by omega, by omega, by omega, by omega⟩, ⟨by omega, by omega, by omega, by omega, by omega⟩, zx, (((((hk_wd).trans n2.kept).trans n6.kept).trans n4.kept).trans n8.kept).trans nx.kept⟩
        · refine st1_e rfl rfl (e_mk1 (m := N) (by exact Us.out) (by exact Zi.out) rfl rfl rfl (by omega) (by omega) fun bc w8 n8 => ⟨fun hu => unl hu (by kernel_rfl), ?_⟩)
          refine dr_all [4] (by kernel_rfl) (by decide) (List.forall_mem_cons.2 ⟨?_, (fun _ h => by cases h)⟩)
          · refine st1_e rfl rfl (e_mk1 (m := N) (by exact Us.out) (by exact Zi.out) rfl rfl rfl (by omega) (by omega) fun bl w4 n4 => ⟨fun hu => unl hu (by kernel_rfl), ?_⟩)
            have f2 := n2.fresh
            have l2 := heap_lt n2.here
            have z2 := n2.kept.size
            have f6 := n6.fresh
            have l6 := heap_lt n6.here
            have z6 := n6.kept.size
            have f8 := n8.fresh
            have l8 := heap_lt n8.here
            have z8 := n8.kept.size
            have f4 := n4.fresh
            have l4 := heap_lt n4.here
            have z4 := n4.kept.size
            have zd := hk_wd.size
            refine dr_p' 9 rfl rfl (by kernel_rfl) (by kernel_rfl) (by kernel_rfl) (by kernel_rfl) (q_build (v := .agg #[.slice A N cap, .slice (some ⟨bo, 0, none⟩) N N, .slice (some ⟨bl, 0, none⟩) N N, .slice (some ⟨bh, 0, none⟩) N N, .slice none 0 0, .slice (some ⟨bc, 0, none⟩) N N, .int .i64 0, .int .i64 0]) rfl (fun _ => by kernel_rfl)) (by kernel_rfl) ?_
            refine dr_e 10 (by kernel_rfl) rfl rfl (e_box rfl fun p wx nx => ⟨fun hu => unl hu (by kernel_rfl), ?_⟩)
            have fx := nx.fresh
            have zx := nx.kept.size
            refine dr_p' 11 rfl rfl (by kernel_rfl) (by kernel_rfl) (by kernel_rfl) (by kernel_rfl) (q_assign rfl) (by kernel_rfl) ?_
            refine dr_done (by kernel_rfl) ?_
            refine x_then_n ?_
            refine x_meet (bo, bl, bh, bc, p, w4.heap.size) (And.intro rfl (And.intro rfl (And.intro rfl trivial))) ?_
            dsimp only
            exact ⟨getk nx.kept (getk n4.kept (getk n8.kept (getk n6.kept (n2.here)))), getk nx.kept (n4.here), getk nx.kept (getk n4.kept (getk n8.kept (n6.here))), getk nx.kept (getk n4.kept (n8.here)), nx.here, ⟨by omega, by omega, by omega, by omega, by omega, by omega⟩, ⟨by omega, by omega, by omega, by omega, by omega⟩, ⟨by omega, by omega, by omega, by omega, by omega⟩, zx, (((((hk_wd).trans n2.kept).trans n6.kept).trans n8.kept).trans n4.kept).trans nx.kept⟩
      · refine st1_e rfl rfl (e_mk1 (m := N) (by exact Us.out) (by exact Zi.out) rfl rfl rfl (by omega) (by omega) fun bc w8 n8 => ⟨fun hu => unl hu (by kernel_rfl), ?_⟩)
        refine dr_all [4, 6] (by kernel_rfl) (by decide) (List.forall_mem_cons.2 ⟨?_, List.forall_mem_cons.2 ⟨?_, (fun _ h => by cases h)⟩⟩)
        · refine st1_e rfl rfl (e_mk1 (m := N) (by exact Us.out) (by exact Zi.out) rfl rfl rfl (by omega) (by omega) fun bl w4 n4 => ⟨fun hu => unl hu (by kernel_rfl), ?_⟩)
          refine dr_all [6] (by kernel_rfl) (by decide) (List.forall_mem_cons.2 ⟨?_, (fun _ h => by cases h)⟩)
          · refine st1_e rfl rfl (e_mk1 (m := N) (by exact Us.out) (by exact Zi.out) rfl rfl rfl (by omega) (by omega) fun bh w6 n6 => ⟨fun hu => unl hu (by kernel_rfl), ?_⟩)
            have f2 := n2.fresh
            have l2 := heap_lt n2.here
            have z2 := n2.kept.size
            have f8 := n8.fresh
            have l8 := heap_lt n8.here
            have z8 := n8.kept.size
            have f4 := n4.fresh
            have l4 := heap_lt n4.here
            have z4 := n4.kept.size
            have f6 := n6.fresh
            have l6 := heap_lt n6.here
            have z6 := n6.kept.size
            have zd := hk_wd.size
            refine dr_p' 9 rfl rfl (by kernel_rfl) (by kernel_rfl) (by kernel_rfl) (by kernel_rfl) (q_build (v := .agg #[.slice A N cap, .slice (some ⟨bo, 0, none⟩) N N, .slice (some ⟨bl, 0, none⟩) N N, .slice (some ⟨bh, 0, none⟩) N N, .slice none 0 0, .slice (some ⟨bc, 0, none⟩) N N, .int .i64 0, .int .i64 0]) rfl (fun _ => by kernel_rfl)) (by kernel_rfl) ?_
            refine dr_e 10 (by kernel_rfl) rfl rfl (e_box rfl fun p wx nx => ⟨fun hu => unl hu (by kernel_rfl), ?_⟩)
            have fx := nx.fresh
            have zx := nx.kept.size
            refine dr_p' 11 rfl rfl (by kernel_rfl) (by kernel_rfl) (by kernel_rfl) (by kernel_rfl) (q_assign rfl) (by kernel_rfl) ?_
            refine dr_done (by kernel_rfl) ?_
            refine x_then_n ?_
            refine x_meet (bo, bl, bh, bc, p, w6.heap.size) (And.intro rfl (And.intro rfl (And.intro rfl trivial))) ?_
            dsimp only
            exact ⟨getk nx.kept (getk n6.kept (getk n4.kept (getk n8.kept (n2.here)))), getk nx.kept (getk n6.kept (n4.here)), getk nx.kept (n6.here), getk nx.kept (getk n6.kept (getk n4.kept (n8.here))), nx.here, ⟨by omega, by omega, by omega, by omega, by omega, by omega⟩, ⟨by omega, by omega, by omega, by omega, by omega⟩, ⟨by omega, by omega, by omega, by omega, by omega⟩, zx, (((((hk_wd).trans n2.kept).trans n8.kept).trans n4.kept).trans n6.kept).trans nx.kept⟩
        · refine st1_e rfl rfl (e_mk1 (m := N) (by exact Us.out) (by exact Zi.out) rfl rfl rfl (by omega) (by omega) fun bh w6 n6 => ⟨fun hu => unl hu (by kernel_rfl), ?_⟩)
          refine dr_all [4] (by kernel_rfl) (by decide) (List.forall_mem_cons.2 ⟨?_, (fun _ h => by cases h)⟩)
          · refine st1_e rfl rfl (e_mk1 (m := N) (by exact Us.out) (by exact Zi.out) rfl rfl rfl (by omega) (by omega) fun bl w4 n4 => ⟨fun hu => unl hu (by kernel_rfl), ?_⟩)
            have f2 := n2.fresh
            have l2 := heap_lt n2.here
            have z2 := n2.kept.size
            have f8 := n8.fresh
            have l8 := heap_lt n8.here
            have z8 := n8.kept.size
            have f6 := n6.fresh
            have l6 := heap_lt n6.here
            have z6 := n6.kept.size
            have f4 := n4.fresh
            have l4 := heap_lt n4.here
            have z4 := n4.kept.size
            have zd := hk_wd.size
            refine dr_p' 9 rfl rfl (by kernel_rfl) (by kernel_rfl) (by kernel_rfl) (by kernel_rfl) (q_build (v := .agg #[.slice A N cap, .slice (some ⟨bo, 0, none⟩) N N, .slice (some ⟨bl, 0, none⟩) N N, .slice (some ⟨bh, 0, none⟩) N N, .slice none 0 0, .slice (some ⟨bc, 0, none⟩) N N, .int .i64 0, .int .i64 0]) rfl (fun _ => by kernel_rfl)) (by kernel_rfl) ?_
            refine dr_e 10 (by kernel_rfl) rfl rfl (e_box rfl fun p wx nx => ⟨fun hu => unl hu (by kernel_rfl), ?_⟩)
            have fx := nx.fresh
            have zx := nx.kept.size
            refine dr_p' 11 rfl rfl (by kernel_rfl) (by kernel_rfl) (by kernel_rfl) (by kernel_rfl) (q_assign rfl) (by kernel_rfl) ?_
            refine dr_done (by kernel_rfl) ?_
            refine x_then_n ?_
            refine x_meet (bo, bl, bh, bc, p, w4.heap.size) (And.intro rfl (And.intro rfl (And.intro rfl trivial))) ?_
            dsimp only
            exact ⟨getk nx.kept (getk n4.kept (getk n6.kept (getk n8.kept (n2.here)))), getk nx.kept (n4.here), getk nx.kept (getk n4.kept (n6.here)), getk nx.kept (getk n4.kept (getk n6.kept (n8.here))), nx.here, ⟨by omega, by omega, by omega, by omega, by omega, by omega⟩, ⟨by omega, by omega, by omega, by omega, by omega⟩, ⟨by omega, by omega, by omega, by omega, by omega⟩, zx, (((((hk_wd).trans n2.kept).trans n8.kept).trans n6.kept).trans n4.kept).trans nx.kept⟩
    · refine st1_e rfl rfl (e_mk1 (m := N) (by exact Us.out) (by exact Zi.out) rfl rfl rfl (by omega) (by omega) fun bl w4 n4 => ⟨fun hu => unl hu (by kernel_rfl), ?_⟩)
      refine dr_all [2, 6, 8] (by kernel_rfl) (by decide) (List.forall_mem_cons.2 ⟨?_, List.forall_mem_cons.2 ⟨?_, List.forall_mem_cons.2 ⟨?_, (fun _ h => by cases h)⟩⟩⟩)
      · refine st1_e rfl rfl (e_mk1 (m := N) (by exact Us.out) (by exact Zi.out) rfl rfl rfl (by omega) (by omega) fun bo w2 n2 => ⟨fun hu => unl hu (by kernel_rfl), ?_⟩)
        refine dr_all [6, 8] (by kernel_rfl) (by decide) (List.forall_mem_cons.2 ⟨?_, List.forall_mem_cons.2 ⟨?_, (fun _ h => by cases h)⟩⟩)
        · refine st1_e rfl rfl (e_mk1 (m := N) (by exact Us.out) (by exact Zi.out) rfl rfl rfl (by omega) (by omega) fun bh w6 n6 => ⟨fun hu => unl hu (by kernel_rfl), ?_⟩)
          refine dr_all [8] (by kernel_rfl) (by decide) (List.forall_mem_cons.2 ⟨?_, (fun _ h => by cases h)⟩)
          · refine st1_e rfl rfl (e_mk1 (m := N) (by exact Us.out) (by exact Zi.out) rfl rfl rfl (by omega) (by omega) fun bc w8 n8 => ⟨fun hu => unl hu (by kernel_rfl), ?_⟩)
            have f4 := n4.fresh
            have l4 := heap_lt n4.here
            have z4 := n4.kept.size
            have f2 := n2.fresh
            have l2 := heap_lt n2.here
            have z2 := n2.kept.size
            have f6 := n6.fresh
            have l6 := heap_lt n6.here
            have z6 := n6.kept.size
            have f8 := n8.fresh
            have l8 := heap_lt n8.here
            have z8 := n8.kept.size
            have zd := hk_wd.size
            refine dr_p' 9 rfl rfl (by kernel_rfl) (by kernel_rfl) (by kernel_rfl) (by kernel_rfl) (q_build (v := .agg #[.slice A N cap, .slice (some ⟨bo, 0, none⟩) N N, .slice (some ⟨bl, 0, none⟩) N N, .slice (some ⟨bh, 0, none⟩) N N, .slice none 0 0, .slice (some ⟨bc, 0, none⟩) N N, .int .i64 0, .int .i64 0]) rfl (fun _ => by kernel_rfl)) (by kernel_rfl) ?_
            refine dr_e 10 (by kernel_rfl) rfl rfl (e_box rfl fun p wx nx => ⟨fun hu => unl hu (by kernel_rfl), ?_⟩)
            have fx := nx.fresh
            have zx := nx.kept.size
            refine dr_p' 11 rfl rfl (by kernel_rfl) (by kernel_rfl) (by kernel_rfl) (by kernel_rfl) (q_assign rfl) (by kernel_rfl) ?_
            refine dr_done (by kernel_rfl) ?_
            refine x_then_n ?_
            refine x_meet (bo, bl, bh, bc, p, w8.heap.size) (And.intro rfl (And.intro rfl (And.intro rfl trivial))) ?_
            dsimp only
            exact ⟨getk nx.kept (getk n8.kept (getk n6.kept (n2.here))), getk nx.kept (getk n8.kept (getk n6.kept (getk n2.kept (n4.here)))), getk nx.kept (getk n8.kept (n6.here)), getk nx.kept (n8.here), nx.here, ⟨by omega, by omega, by omega, by omega, by omega, by omega⟩, ⟨by omega, by omega, by omega, by omega, by omega⟩, ⟨by omega, by omega, by omega, by omega, by omega⟩, zx, (((((hk_wd).trans n4.kept).trans n2.kept).trans n6.kept).trans n8.kept).trans nx.kept⟩
        · refine st1_e rfl rfl (e_mk1 (m := N) (by exact Us.out) (by exact Zi.out) rfl rfl rfl (by omega) (by omega) fun bc w8 n8 => ⟨fun hu => unl hu (by kernel_rfl), ?_⟩)
          refine dr_all [6] (by kernel_rfl) (by decide) (List.forall_mem_cons.2 ⟨?_, (fun _ h => by cases h)⟩)
          · refine st1_e rfl rfl (e_mk1 (m := N) (by exact Us.out) (by exact Zi.out) rfl rfl rfl (by omega) (by omega) fun bh w6 n6 => ⟨fun hu => unl hu (by kernel_rfl), ?_⟩)
            have f4 := n4.fresh
            have l4 := heap_lt n4.here
            have z4 := n4.kept.size
            have f2 := n2.fresh
            have l2 := heap_lt n2.here
            have z2 := n2.kept.size
            have f8 := n8.fresh
            have l8 := heap_lt n8.here
            have z8 := n8.kept.size
            have f6 := n6.fresh
            have l6 := heap_lt n6.here
            have z6 := n6.kept.size
            have zd := hk_wd.size
            refine dr_p' 9 rfl rfl (by kernel_rfl) (by kernel_rfl) (by kernel_rfl) (by kernel_rfl) (q_build (v := .agg #[.slice A N cap, .slice (some ⟨bo, 0, none⟩) N N, .slice (some ⟨bl, 0, none⟩) N N, .slice (some ⟨bh, 0, none⟩) N N, .slice none 0 0, .slice (some ⟨bc, 0, none⟩) N N, .int .i64 0, .int .i64 0]) rfl (fun _ => by kernel_rfl)) (by kernel_rfl) ?_
            refine dr_e 10 (by kernel_rfl) rfl rfl (e_box rfl fun p wx nx => ⟨fun hu => unl hu (by kernel_rfl), ?_⟩)
            have fx := nx.fresh
            have zx := nx.kept.size
            refine dr_p' 11 rfl rfl (by kernel_rfl) (by kernel_rfl) (by kernel_rfl) (by kernel_rfl) (q_assign rfl) (by kernel_rfl) ?_
            refine dr_done (by kernel_rfl) ?_
            refine x_then_n ?_
            refine x_meet (bo, bl, bh, bc, p, w6.heap.size) (And.intro rfl (And.intro rfl (And.intro rfl trivial))) ?_
            dsimp only
            exact ⟨getk nx.kept (getk n6.kept (getk n8.kept (n2.here))), getk nx.kept (getk n6.kept (getk n8.kept (getk n2.kept (n4.here)))), getk nx.kept (n6.here), getk nx.kept (getk n6.kept (n8.here)), nx.here, ⟨by omega, by omega, by omega, by omega, by omega, by omega⟩, ⟨by omega, by omega, by omega, by omega, by omega⟩, ⟨by omega, by omega, by omega, by omega, by omega⟩, zx, (((((hk_wd).trans n4.kept).trans n2.kept).trans n8.kept).trans n6.kept).trans nx.kept⟩
      · refine st1_e rfl rfl (e_mk1 (m := N) (by exact Us.out) (by exact Zi.out) rfl rfl rfl (by omega) (by omega) fun bh w6 n6 => ⟨fun hu => unl hu (by kernel_rfl), ?_⟩)
        refine dr_all [2, 8] (by kernel_rfl) (by decide) (List.forall_mem_cons.2 ⟨?_, List.forall_mem_cons.2 ⟨?_, (fun _ h => by cases h)⟩⟩)
        · refine st1_e rfl rfl (e_mk1 (m := N) (by exact Us.out) (by exact Zi.out) rfl rfl rfl (by omega) (by omega) fun bo w2 n2 => ⟨fun hu => unl hu (by kernel_rfl), ?_⟩)
          refine dr_all [8] (by kernel_rfl) (by decide) (List.forall_mem_cons.2 ⟨?_, (fun _ h => by cases h)⟩)
          · refine st1_e rfl rfl (e_mk1 (m := N) (by exact Us.out) (by exact Zi.out) rfl rfl rfl (by omega) (by omega) fun bc w8 n8 => ⟨fun hu => unl hu (by kernel_rfl), ?_⟩)
            have f4 := n4.fresh
            have l4 := heap_lt n4.here
            have z4 := n4.kept.size
            have f6 := n6.fresh
            have l6 := heap_lt n6.here
            have z6 := n6.kept.size
            have f2 := n2.fresh
            have l2 := heap_lt n2.here
            have z2 := n2.kept.size
            have f8 := n8.fresh
            have l8 := heap_lt n8.here
            have z8 := n8.kept.size
            have zd := hk_wd.size
            refine dr_p' 9 rfl rfl (by kernel_rfl) (by kernel_rfl) (by kernel_rfl) (by kernel_rfl) (q_build (v := .agg #[.slice A N cap, .slice (some ⟨bo, 0, none⟩) N N, .slice (some ⟨bl, 0, none⟩) N N, .slice (some ⟨bh, 0, none⟩) N N, .slice none 0 0, .slice (some ⟨bc, 0, none⟩) N N, .int .i64 0, .int .i64 0]) rfl (fun _ => by kernel_rfl)) (by kernel_rfl) ?_
            refine dr_e 10 (by kernel_rfl) rfl rfl (e_box rfl fun p wx nx => ⟨fun hu => unl hu (by kernel_rfl), ?_⟩)
            have fx := nx.fresh
            have zx := nx.kept.size
            refine dr_p' 11 rfl rfl (by kernel_rfl) (by kernel_rfl) (by kernel_rfl) (by kernel_rfl) (q_assign rfl) (by kernel_rfl) ?_
            refine dr_done (by kernel_rfl) ?_
            refine x_then_n ?_
            refine x_meet (bo, bl, bh, bc, p, w8.heap.size) (And.intro rfl (And.intro rfl (And.intro rfl trivial))) ?_
            dsimp only
            exact ⟨getk nx.kept (getk n8.kept (n2.here)), getk nx.kept (getk n8.kept (getk n2.kept (getk n6.kept (n4.here)))), getk nx.kept (getk n8.kept (getk n2.kept (n6.here))), getk nx.kept (n8.here), nx.here, ⟨by omega, by omega, by omega, by omega, by omega, by omega⟩, ⟨by omega, by omega, by omega, by omega, by omega⟩, ⟨by omega, by omega, by omega, by omega, by omega⟩, zx, (((((hk_wd).trans n4.kept).trans n6.kept).trans n2.kept).trans n8.kept).trans nx.kept⟩
        · refine st1_e rfl rfl (e_mk1 (m := N) (by exact Us.out) (by exact Zi.out) rfl rfl rfl (by omega) (by omega) fun bc w8 n8 => ⟨fun hu => unl hu (by kernel_rfl), ?_⟩)
          refine dr_all [2] (by kernel_rfl) (by decide) (List.forall_mem_cons.2 ⟨?_, (fun _ h => by cases h)⟩)
          · refine st1_e rfl rfl (e_mk1 (m := N) (by exact Us.out) (by exact Zi.out) rfl rfl rfl (by omega) (by omega) fun bo w2 n2 => ⟨fun hu => unl hu (by kernel_rfl), ?_⟩)
            have f4 := n4.fresh
            have l4 := heap_lt n4.here
            have z4 := n4.kept.size
            have f6 := n6.fresh
            have l6 := heap_lt n6.here
            have z6 := n6.kept.size
            have f8 := n8.fresh
            have l8 := heap_lt n8.here
            have z8 := n8.kept.size
            have f2 := n2.fresh
            have l2 := heap_lt n2.here
            have z2 := n2.kept.size
            have zd := hk_wd.size
            refine dr_p' 9 rfl rfl (by kernel_rfl) (by kernel_rfl) (by kernel_rfl) (by kernel_rfl) (q_build (v := .agg #[.slice A N cap, .slice (some ⟨bo, 0, none⟩) N N, .slice (some ⟨bl, 0, none⟩) N N, .slice (some ⟨bh, 0, none⟩) N N, .slice none 0 0, .slice (some ⟨bc, 0, none⟩) N N, .int .i64 0, .int .i64 0]) rfl (fun _ => by kernel_rfl)) (by kernel_rfl) ?_
            refine dr_e 10 (by kernel_rfl) rfl rfl (e_box rfl fun p wx nx => ⟨fun hu => unl hu (by kernel_rfl), ?_⟩)
            have fx := nx.fresh
            have zx := nx.kept.size
            refine dr_p' 11 rfl rfl (by kernel_rfl) (by kernel_rfl) (by kernel_rfl) (by kernel_rfl) (q_assign rfl) (by kernel_rfl) ?_
            refine dr_done (by kernel_rfl) ?_
            refine x_then_n ?_
            refine x_meet (bo, bl, bh, bc, p, w2.heap.size) (And.intro rfl (And.intro rfl (And.intro rfl trivial))) ?_
            dsimp only
            exact ⟨getk nx.kept (n2.here), getk nx.kept (getk n2.kept (getk n8.kept (getk n6.kept (n4.here)))), getk nx.kept (getk n2.kept (getk n8.kept (n6.here))), getk nx.kept (getk n2.kept (n8.here)), nx.here, ⟨by omega, by omega, by omega, by omega, by omega, by omega⟩, ⟨by omega, by omega, by omega, by omega, by omega⟩, ⟨by omega, by omega, by omega, by omega, by omega⟩, zx, (((((hk_wd).trans n4.kept).trans n6.kept).trans n8.kept).trans n2.kept).trans nx.kept⟩
      · refine st1_e rfl rfl (e_mk1 (m := N) (by exact Us.out) (by exact Zi.out) rfl rfl rfl (by omega) (by omega) fun bc w8 n8 => ⟨fun hu => unl hu (by kernel_rfl), ?_⟩)
        refine dr_all [2, 6] (by kernel_rfl) (by decide) (List.forall_mem_cons.2 ⟨?_, List.forall_mem_cons.2 ⟨?_, (fun _ h => by cases h)⟩⟩)
        · refine st1_e rfl rfl (e_mk1 (m := N) (by exact Us.out) (by exact Zi.out) rfl rfl rfl (by omega) (by omega) fun bo w2 n2 => ⟨fun hu => unl hu (by kernel_rfl), ?_⟩)
          refine dr_all [6] (by kernel_rfl) (by decide) (List.forall_mem_cons.2 ⟨?_, (fun _ h => by cases h)⟩)
          · refine st1_e rfl rfl (e_mk1 (m := N) (by exact Us.out) (by exact Zi.out) rfl rfl rfl (by omega) (by omega) fun bh w6 n6 => ⟨fun hu => unl hu (by kernel_rfl), ?_⟩)
            have f4 := n4.fresh
            have l4 := heap_lt n4.here
            have z4 := n4.kept.size
            have f8 := n8.fresh
            have l8 := heap_lt n8.here
            have z8 := n8.kept.size
            have f2 := n2.fresh
            have l2 := heap_lt n2.here
            have z2 := n2.kept.size
            have f6 := n6.fresh
            have l6 := heap_lt n6.here
            have z6 := n6.kept.size
            have zd := hk_wd.size
            refine dr_p' 9 rfl rfl (by kernel_rfl) (by kernel_rfl) (by kernel_rfl) (by kernel_rfl) (q_build (v := .agg #[.slice A N cap, .slice (some ⟨bo, 0, none⟩) N N, .slice (some ⟨bl, 0, none⟩) N N, .slice (some ⟨bh, 0, none⟩) N N, .slice none 0 0, .slice (some ⟨bc, 0, none⟩) N N, .int .i64 0, .int .i64 0]) rfl (fun _ => by kernel_rfl)) (by kernel_rfl) ?_
            refine dr_e 10 (by kernel_rfl) rfl rfl (e_box rfl fun p wx nx => ⟨fun hu => unl hu (by kernel_rfl), ?_⟩)
            have fx := nx.fresh
            have zx := nx.kept.size
            refine dr_p' 11 rfl rfl (by kernel_rfl) (by kernel_rfl) (by kernel_rfl) (by kernel_rfl) (q_assign rfl) (by kernel_rfl) ?_
            refine dr_done (by kernel_rfl) ?_
            refine x_then_n ?_
            refine x_meet (bo, bl, bh, bc, p, w6.heap.size) (And.intro rfl (And.intro rfl (And.intro rfl trivial))) ?_
            dsimp only
            exact ⟨getk nx.kept (getk n6.kept (n2.here)), getk nx.kept (getk n6.kept (getk n2.kept (getk n8.kept (n4.here)))), getk nx.kept (n6.here), getk nx.kept (getk n6.kept (getk n2.kept (n8.here))), nx.here, ⟨by omega, by omega, by omega, by omega, by omega, by omega⟩, ⟨by omega, by omega, by omega, by omega, by omega⟩, ⟨by omega, by omega, by omega, by omega, by omega⟩, zx, (((((hk_wd).trans n4.kept).trans n8.kept).trans n2.kept).trans n6.kept).trans nx.kept⟩
        · refine st1_e rfl rfl (e_mk1 (m := N) (by exact Us.out) (by exact Zi.out) rfl rfl rfl (by omega) (by omega) fun bh w6 n6 => ⟨fun hu => unl hu (by kernel_rfl), ?_⟩)
          refine dr_all [2] (by kernel_rfl) (by decide) (List.forall_mem_cons.2 ⟨?_, (fun _ h => by cases h)⟩)
          · refine st1_e rfl rfl (e_mk1 (m := N) (by exact Us.out) (by exact Zi.out) rfl rfl rfl (by omega) (by omega) fun bo w2 n2 => ⟨fun hu => unl hu (by kernel_rfl), ?_⟩)
            have f4 := n4.fresh
            have l4 := heap_lt n4.here
            have z4 := n4.kept.size
            have f8 := n8.fresh
            have l8 := heap_lt n8.here
            have z8 := n8.kept.size
            have f6 := n6.fresh
            have l6 := heap_lt n6.here
            have z6 := n6.kept.size
            have f2 := n2.fresh
            have l2 := heap_lt n2.here
            have z2 := n2.kept.size
            have zd := hk_wd.size
            refine dr_p' 9 rfl rfl (by kernel_rfl) (by kernel_rfl) (by kernel_rfl) (by kernel_rfl) (q_build (v := .agg #[.slice A N cap, .slice (some ⟨bo, 0, none⟩) N N, .slice (some ⟨bl, 0, none⟩) N N, .slice (some ⟨bh, 0, none⟩) N N, .slice none 0 0, .slice (some ⟨bc, 0, none⟩) N N, .int .i64 0, .int .i64 0]) rfl (fun _ => by kernel_rfl)) (by kernel_rfl) ?_
            refine dr_e 10 (by kernel_rfl) rfl rfl (e_box rfl fun p wx nx => ⟨fun hu => unl hu (by kernel_rfl), ?_⟩)
            have fx := nx.fresh
            have zx := nx.kept.size
            refine dr_p' 11 rfl rfl (by kernel_rfl) (by kernel_rfl) (by kernel_rfl) (by kernel_rfl) (q_assign rfl) (by kernel_rfl) ?_
            refine dr_done (by kernel_rfl) ?_
            refine x_then_n ?_
            refine x_meet (bo, bl, bh, bc, p, w2.heap.size) (And.intro rfl (And.intro rfl (And.intro rfl trivial))) ?_
            dsimp only
            exact ⟨getk nx.kept (n2.here), getk nx.kept (getk n2.kept (getk n6.kept (getk n8.kept (n4.here)))), getk nx.kept (getk n2.kept (n6.here)), getk nx.kept (getk n2.kept (getk n6.kept (n8.here))), nx.here, ⟨by omega, by omega, by omega, by omega, by omega, by omega⟩, ⟨by omega, by omega, by omega, by omega, by omega⟩, ⟨by omega, by omega, by omega, by omega, by omega⟩, zx, (((((hk_wd).trans n4.kept).trans n8.kept).trans n6.kept).trans n2.kept).trans nx.kept⟩
    · refine st1_e rfl rfl (e_mk1 (m := N) (by exact Us.out) (by exact Zi.out) rfl rfl rfl (by omega) (by omega) fun bh w6 n6 => ⟨fun hu => unl hu (by kernel_rfl), ?_⟩)
      refine dr_all [2, 4, 8] (by kernel_rfl) (by decide) (List.forall_mem_cons.2 ⟨?_, List.forall_mem_cons.2 ⟨?_, List.forall_mem_cons.2 ⟨?_, (fun _ h => by cases h)⟩⟩⟩)
      · refine st1_e rfl rfl (e_mk1 (m := N) (by exact Us.out) (by exact Zi.out) rfl rfl rfl (by omega) (by omega) fun bo w2 n2 => ⟨fun hu => unl hu (by kernel_rfl), ?_⟩)
        refine dr_all [4, 8] (by kernel_rfl) (by decide) (List.forall_mem_cons.2 ⟨?_, List.forall_mem_cons.2 ⟨?_, (fun _ h => by cases h)⟩⟩)
        · refine st1_e rfl rfl (e_mk1 (m := N) (by exact Us.out) (by exact Zi.out) rfl rfl rfl (by omega) (by omega) fun bl w4 n4 => ⟨fun hu => unl hu (by kernel_rfl), ?_⟩)
          refine dr_all [8] (by kernel_rfl) (by decide) (List.forall_mem_cons.2 ⟨?_, (fun _ h => by cases h)⟩)
          · refine st1_e rfl rfl (e_mk1 (m := N) (by exact Us.out) (by exact Zi.out) rfl rfl rfl (by omega) (by omega) fun bc w8 n8 => ⟨fun hu => unl hu (by kernel_rfl), ?_⟩)
            have f6 := n6.fresh
            have l6 := heap_lt n6.here
            have z6 := n6.kept.size
            have f2 := n2.fresh
            have l2 := heap_lt n2.here
            have z2 := n2.kept.size
            have f4 := n4.fresh
            have l4 := heap_lt n4.here
            have z4 := n4.kept.size
            have f8 := n8.fresh
            have l8 := heap_lt n8.here
            have z8 := n8.kept.size
            have zd := hk_wd.size
            refine dr_p' 9 rfl rfl (by kernel_rfl) (by kernel_rfl) (by kernel_rfl) (by kernel_rfl) (q_build (v := .agg #[.slice A N cap, .slice (some ⟨bo, 0, none⟩) N N, .slice (some ⟨bl, 0, none⟩) N N, .slice (some ⟨bh, 0, none⟩) N N, .slice none 0 0, .slice (some ⟨bc, 0, none⟩) N N, .int .i64 0, .int .i64 0]) rfl (fun _ => by kernel_rfl)) (by kernel_rfl) ?_
            refine dr_e 10 (by kernel_rfl) rfl rfl (e_box rfl fun p wx nx => ⟨fun hu => unl hu (by kernel_rfl), ?_⟩)
            have fx := nx.fresh
            have zx := nx.kept.size
            refine dr_p' 11 rfl rfl (by kernel_rfl) (by kernel_rfl) (by kernel_rfl) (by kernel_rfl) (q_assign rfl) (by kernel_rfl) ?_
            refine dr_done (by kernel_rfl) ?_
            refine x_then_n ?_
            refine x_meet (bo, bl, bh, bc, p, w8.heap.size) (And.intro rfl (And.intro rfl (And.intro rfl trivial))) ?_
            dsimp only
            exact ⟨getk nx.kept (getk n8.kept (getk n4.kept (n2.here))), getk nx.kept (getk n8.kept (n4.here)), getk nx.kept (getk n8.kept (getk n4.kept (getk n2.kept (n6.here)))), getk nx.kept (n8.here), nx.here, ⟨by omega, by omega, by omega, by omega, by omega, by omega⟩, ⟨by omega, by omega, by omega, by omega, by omega⟩, ⟨by omega, by omega, by omega, by omega, by omega⟩, zx, (((((hk_wd).trans n6.kept).trans n2.kept).trans n4.kept).trans n8.kept).trans nx.kept⟩
        · refine st1_e rfl rfl (e_mk1 (m := N) (by exact Us.out) (by exact Zi.out) rfl rfl rfl (by omega) (by omega) fun bc w8 n8 => ⟨fun hu => unl hu (by kernel_rfl), ?_⟩)
          refine dr_all [4] (by kernel_rfl) (by decide) (List.forall_mem_cons.2 ⟨?_, (fun _ h => by cases h)⟩)
          · refine st1_e rfl rfl (e_mk1 (m := N) (by exact Us.out) (by exact Zi.out) rfl rfl rfl (by omega) (by omega) fun bl w4 n4 => ⟨fun hu => unl hu (by kernel_rfl), ?_⟩)
            have f6 := n6.fresh
            have l6 := heap_lt n6.here
            have z6 := n6.kept.size
            have f2 := n2.fresh
            have l2 := heap_lt n2.here
            have z2 := n2.kept.size
            have f8 := n8.fresh
            have l8 := heap_lt n8.here
            have z8 := n8.kept.size
            have f4 := n4.fresh
            have l4 := heap_lt n4.here
            have z4 := n4.kept.size
            have zd := hk_wd.size
            refine dr_p' 9 rfl rfl (by kernel_rfl) (by kernel_rfl) (by kernel_rfl) (by kernel_rfl) (q_build (v := .agg #[.slice A N cap, .slice (some ⟨bo, 0, none⟩) N N, .slice (some ⟨bl, 0, none⟩) N N, .slice (some ⟨bh, 0, none⟩) N N, .slice none 0 0, .slice (some ⟨bc, 0, none⟩) N N, .int .i64 0, .int .i64 0]) rfl (fun _ => by kernel_rfl)) (by kernel_rfl) ?_
            refine dr_e 10 (by kernel_rfl) rfl rfl (e_box rfl fun p wx nx => ⟨fun hu => unl hu (by kernel_rfl), ?_⟩)
            have fx := nx.fresh
            have zx := nx.kept.size
            refine dr_p' 11 rfl rfl (by kernel_rfl) (by kernel_rfl) (by kernel_rfl) (by kernel_rfl) (q_assign rfl) (by kernel_rfl) ?_
            refine dr_done (by kernel_rfl) ?_
            refine x_then_n ?_
            refine x_meet (bo, bl, bh, bc, p, w4.heap.size) (And.intro rfl (And.intro rfl (And.intro rfl trivial))) ?_
            dsimp only
            exact ⟨getk nx.kept (getk n4.kept (getk n8.kept (n2.here))), getk nx.kept (n4.here), getk nx.kept (getk n4.kept (getk n8.kept (getk n2.kept (n6.here)))), getk nx.kept (getk n4.kept (n8.here)), nx.here, ⟨by omega, by omega, by omega, by omega, by omega, by omega⟩, ⟨by omega, by omega, by omega, by omega, by omega⟩, ⟨by omega, by omega, by omega, by omega, by omega⟩, zx, (((((hk_wd).trans n6.kept).trans n2.kept).trans n8.kept).trans n4.kept).trans nx.kept⟩
      · refine st1_e rfl rfl (e_mk1 (m := N) (by exact Us.out) (by exact Zi.out) rfl rfl rfl (by omega) (by omega) fun bl w4 n4 => ⟨fun hu => unl hu (by kernel_rfl), ?_⟩)
        refine dr_all [2, 8] (by kernel_rfl) (by decide) (List.forall_mem_cons.2 ⟨?_, List.forall_mem_cons.2 ⟨?_, (fun _ h => by cases h)⟩⟩)
        · refine st1_e rfl rfl (e_mk1 (m := N) (by exact Us.out) (by exact Zi.out) rfl rfl rfl (by omega) (by omega) fun bo w2 n2 => ⟨fun hu => unl hu (by kernel_rfl), ?_⟩)
          refine dr_all [8] (by kernel_rfl) (by decide) (List.forall_mem_cons.2 ⟨?_, (fun _ h => by cases h)⟩)
          · refine st1_e rfl rfl (e_mk1 (m := N) (by exact Us.out) (by exact Zi.out) rfl rfl rfl (by omega) (by omega) fun bc w8 n8 => ⟨fun hu => unl hu (by kernel_rfl), ?_⟩)
            have f6 := n6.fresh
            have l6 := heap_lt n6.here
            have z6 := n6.kept.size
            have f4 := n4.fresh
            have l4 := heap_lt n4.here
            have z4 := n4.kept.size
            have f2 := n2.fresh
            have l2 := heap_lt n2.here
            have z2 := n2.kept.size
            have f8 := n8.fresh
            have l8 := heap_lt n8.here
            have z8 := n8.kept.size
            have zd := hk_wd.size
            refine dr_p' 9 rfl rfl (by kernel_rfl) (by kernel_rfl) (by kernel_rfl) (by kernel_rfl) (q_build (v := .agg #[.slice A N cap, .slice (some ⟨bo, 0, none⟩) N N, .slice (some ⟨bl, 0, none⟩) N N, .slice (some ⟨bh, 0, none⟩) N N, .slice none 0 0, .slice (some ⟨bc, 0, none⟩) N N, .int .i64 0, .int .i64 0]) rfl (fun _ => by kernel_rfl)) (by kernel_rfl) ?_
            refine dr_e 10 (by kernel_rfl) rfl rfl (e_box rfl fun p wx nx => ⟨fun hu => unl hu (by kernel_rfl), ?_⟩)
            have fx := nx.fresh
            have zx := nx.kept.size
            refine dr_p' 11 rfl rfl (by kernel_rfl) (by kernel_rfl) (by kernel_rfl) (by kernel_rfl) (q_assign rfl) (by kernel_rfl) ?_
            refine dr_done (by kernel_rfl) ?_
            refine x_then_n ?_
            refine x_meet (bo, bl, bh, bc, p, w8.heap.size) (And.intro rfl (And.intro rfl (And.intro rfl trivial))) ?_
            dsimp only
            exact ⟨getk nx.kept (getk n8.kept (n2.here)), getk nx.kept (getk n8.kept (getk n2.kept (n4.here))), getk nx.kept (getk n8.kept (getk n2.kept (getk n4.kept (n6.here)))), getk nx.kept (n8.here), nx.here, ⟨by omega, by omega, by omega, by omega, by omega, by omega⟩, ⟨by omega, by omega, by omega, by omega, by omega⟩, ⟨by omega, by omega, by omega, by omega, by omega⟩, zx, (((((hk_wd).trans n6.kept).trans n4.kept).trans n2.kept).trans n8.kept).trans nx.kept⟩
        · refine st1_e rfl rfl (e_mk1 (m := N) (by exact Us.out) (by exact Zi.out) rfl rfl rfl (by omega) (by omega) fun bc w8 n8 => ⟨fun hu => unl hu (by kernel_rfl), ?_⟩)
          refine dr_all [2] (by kernel_rfl) (by decide) (List.forall_mem_cons.2 ⟨?_, (fun _ h => by cases h)⟩)
          · refine st1_e rfl rfl (e_mk1 (m := N) (by exact Us.out) (by exact Zi.out) rfl rfl rfl (by omega) (by omega) fun bo w2 n2 => ⟨fun hu => unl hu (by kernel_rfl), ?_⟩)
            have f6 := n6.fresh
            have l6 := heap_lt n6.here
            have z6 := n6.kept.size
            have f4 := n4.fresh
            have l4 := heap_lt n4.here
            have z4 := n4.kept.size
            have f8 := n8.fresh
            have l8 := heap_lt n8.here
            have z8 := n8.kept.size
            have f2 := n2.fresh
            have l2 := heap_lt n2.here
            have z2 := n2.kept.size
            have zd := hk_wd.size
            refine dr_p' 9 rfl rfl (by kernel_rfl) (by kernel_rfl) (by kernel_rfl) (by kernel_rfl) (q_build (v := .agg #[.slice A N cap, .slice (some ⟨bo, 0, none⟩) N N, .slice (some ⟨bl, 0, none⟩) N N, .slice (some ⟨bh, 0, none⟩) N N, .slice none 0 0, .slice (some ⟨bc, 0, none⟩) N N, .int .i64 0, .int .i64 0]) rfl (fun _ => by kernel_rfl)) (by kernel_rfl) ?_
            refine dr_e 10 (by kernel_rfl) rfl rfl (e_box rfl fun p wx nx => ⟨fun hu => unl hu (by kernel_rfl), ?_⟩)
            have fx := nx.fresh
            have zx := nx.kept.size
            refine dr_p' 11 rfl rfl (by kernel_rfl) (by kernel_rfl) (by kernel_rfl) (by kernel_rfl) (q_assign rfl) (by kernel_rfl) ?_
            refine dr_done (by kernel_rfl) ?_
            refine x_then_n ?_
            refine x_meet (bo, bl, bh, bc, p, w2.heap.size) (And.intro rfl (And.intro rfl (And.intro rfl trivial))) ?_
            dsimp only
            exact ⟨getk nx.kept (n2.here), getk nx.kept (getk n2.kept (getk n8.kept (n4.here))), getk nx.kept (getk n2.kept (getk n8.kept (getk n4.kept (n6.here)))), getk nx.kept (getk n2.kept (n8.here)), nx.here, ⟨by omega, by omega, by omega, by omega, by omega, by omega⟩, ⟨by omega, by omega, by omega, by omega, by omega⟩, ⟨by omega, by omega, by omega, by omega, by omega⟩, zx, (((((hk_wd).trans n6.kept).trans n4.kept).trans n8.kept).trans n2.kept).trans nx.kept⟩
      · refine st1_e rfl rfl (e_mk1 (m := N) (by exact Us.out) (by exact Zi.out) rfl rfl rfl (by omega) (by omega) fun bc w8 n8 => ⟨fun hu => unl hu (by kernel_rfl), ?_⟩)
        refine dr_all [2, 4] (by kernel_rfl) (by decide) (List.forall_mem_cons.2 ⟨?_, List.forall_mem_cons.2 ⟨?_, (fun _ h => by cases h)⟩⟩)
        · refine st1_e rfl rfl (e_mk1 (m := N) (by exact Us.out) (by exact Zi.out) rfl rfl rfl (by omega) (by omega) fun bo w2 n2 => ⟨fun hu => unl hu (by kernel_rfl), ?_⟩)
          refine dr_all [4] (by kernel_rfl) (by decide) (List.forall_mem_cons.2 ⟨?_, (fun _ h => by cases h)⟩)
          · refine st1_e rfl rfl (e_mk1 (m := N) (by exact Us.out) (by exact Zi.out) rfl rfl rfl (by omega) (by omega) fun bl w4 n4 => ⟨fun hu => unl hu (by kernel_rfl), ?_⟩)
            have f6 := n6.fresh
            have l6 := heap_lt n6.here
            have z6 := n6.kept.size
            have f8 := n8.fresh
            have l8 := heap_lt n8.here
            have z8 := n8.kept.size
            have f2 := n2.fresh
            have l2 := heap_lt n2.here
            have z2 := n2.kept.size
            have f4 := n4.fresh
            have l4 := heap_lt n4.here
            have z4 := n4.kept.size
            have zd := hk_wd.size
            refine dr_p' 9 rfl rfl (by kernel_rfl) (by kernel_rfl) (by kernel_rfl) (by kernel_rfl) (q_build (v := .agg #[.slice A N cap, .slice (some ⟨bo, 0, none⟩) N N, .slice (some ⟨bl, 0, none⟩) N N, .slice (some ⟨bh, 0, none⟩) N N, .slice none 0 0, .slice (some ⟨bc, 0, none⟩) N N, .int .i64 0, .int .i64 0]) rfl (fun _ => by kernel_rfl)) (by kernel_rfl) ?_
            refine dr_e 10 (by kernel_rfl) rfl rfl (e_box rfl fun p wx nx => ⟨fun hu => unl hu (by kernel_rfl), ?_⟩)
            have fx := nx.fresh
            have zx := nx.kept.size
            refine dr_p' 11 rfl rfl (by kernel_rfl) (by kernel_rfl) (by kernel_rfl) (by kernel_rfl) (q_assign rfl) (by kernel_rfl) ?_
            refine dr_done (by kernel_rfl) ?_
            refine x_then_n ?_
            refine x_meet (bo, bl, bh, bc, p, w4.heap.size) (And.intro rfl (And.intro rfl (And.intro rfl trivial))) ?_
            dsimp only
            exact ⟨getk nx.kept (getk n4.kept (n2.here)), getk nx.kept (n4.here), getk nx.kept (getk n4.kept (getk n2.kept (getk n8.kept (n6.here)))), getk nx.kept (getk n4.kept (getk n2.kept (n8.here))), nx.here, ⟨by omega, by omega, by omega, by omega, by omega, by omega⟩, ⟨by omega, by omega, by omega, by omega, by omega⟩, ⟨by omega, by omega, by omega, by omega, by omega⟩, zx, (((((hk_wd).trans n6.kept).trans n8.kept).trans n2.kept).trans n4.kept).trans nx.kept⟩
        · refine st1_e rfl rfl (e_mk1 (m := N) (by exact Us.out) (by exact Zi.out) rfl rfl rfl (by omega) (by omega) fun bl w4 n4 => ⟨fun hu => unl hu (by kernel_rfl), ?_⟩)
          refine dr_all [2] (by kernel_rfl) (by decide) (List.forall_mem_cons.2 ⟨?_, (fun _ h => by cases h)⟩)
          · refine st1_e rfl rfl (e_mk1 (m := N) (by exact Us.out) (by exact Zi.out) rfl rfl rfl (by omega) (by omega) fun bo w2 n2 => ⟨fun hu => unl hu (by kernel_rfl), ?_⟩)
            have f6 := n6.fresh
            have l6 := heap_lt n6.here
            have z6 := n6.kept.size
            have f8 := n8.fresh
            have l8 := heap_lt n8.here
            have z8 := n8.kept.size
            have f4 := n4.fresh
            have l4 := heap_lt n4.here
            have z4 := n4.kept.size
            have f2 := n2.fresh
            have l2 := heap_lt n2.here
            have z2 := n2.kept.size
            have zd := hk_wd.size
            refine dr_p' 9 rfl rfl (by kernel_rfl) (by kernel_rfl) (by kernel_rfl) (by kernel_rfl) (q_build (v := .agg #[.slice A N cap, .slice (some ⟨bo, 0, none⟩) N N, .slice (some ⟨bl, 0, none⟩) N N, .slice (some ⟨bh, 0, none⟩) N N, .slice none 0 0, .slice (some ⟨bc, 0, none⟩) N N, .int .i64 0, .int .i64 0]) rfl (fun _ => by kernel_rfl)) (by kernel_rfl) ?_
            refine dr_e 10 (by kernel_rfl) rfl rfl (e_box rfl fun p wx nx => ⟨fun hu => unl hu (by kernel_rfl), ?_⟩)
            have fx := nx.fresh
            have zx := nx.kept.size
            refine dr_p' 11 rfl rfl (by kernel_rfl) (by kernel_rfl) (by kernel_rfl) (by kernel_rfl) (q_assign rfl) (by kernel_rfl) ?_
            refine dr_done (by kernel_rfl) ?_
            refine x_then_n ?_
            refine x_meet (bo, bl, bh, bc, p, w2.heap.size) (And.intro rfl (And.intro rfl (And.intro rfl trivial))) ?_
            dsimp only
            exact ⟨getk nx.kept (n2.here), getk nx.kept (getk n2.kept (n4.here)), getk nx.kept (getk n2.kept (getk n4.kept (getk n8.kept (n6.here)))), getk nx.kept (getk n2.kept (getk n4.kept (n8.here))), nx.here, ⟨by omega, by omega, by omega, by omega, by omega, by omega⟩, ⟨by omega, by omega, by omega, by omega, by omega⟩, ⟨by omega, by omega, by omega, by omega, by omega⟩, zx, (((((hk_wd).trans n6.kept).trans n8.kept).trans n4.kept).trans n2.kept).trans nx.kept⟩
    · refine st1_e rfl rfl (e_mk1 (m := N) (by exact Us.out) (by exact Zi.out) rfl rfl rfl (by omega) (by omega) fun bc w8 n8 => ⟨fun hu => unl hu (by kernel_rfl), ?_⟩)
      refine dr_all [2, 4, 6] (by kernel_rfl) (by decide) (List.forall_mem_cons.2 ⟨?_, List.forall_mem_cons.2 ⟨?_, List.forall_mem_cons.2 ⟨?_, (fun _ h => by cases h)⟩⟩⟩)
      · refine st1_e rfl rfl (e_mk1 (m := N) (by exact Us.out) (by exact Zi.out) rfl rfl rfl (by omega) (by omega) fun bo w2 n2 => ⟨fun hu => unl hu (by kernel_rfl), ?_⟩)
        refine dr_all [4, 6] (by kernel_rfl) (by decide) (List.forall_mem_cons.2 ⟨?_, List.forall_mem_cons.2 ⟨?_, (fun _ h => by cases h)⟩⟩)
        · refine st1_e rfl rfl (e_mk1 (m := N) (by exact Us.out) (by exact Zi.out) rfl rfl rfl (by omega) (by omega) fun bl w4 n4 => ⟨fun hu => unl hu (by kernel_rfl), ?_⟩)
          refine dr_all [6] (by kernel_rfl) (by decide) (List.forall_mem_cons.2 ⟨?_, (fun _ h => by cases h)⟩)
          · refine st1_e rfl rfl (e_mk1 (m := N) (by exact Us.out) (by exact Zi.out) rfl rfl rfl (by omega) (by omega) fun bh w6 n6 => ⟨fun hu => unl hu (by kernel_rfl), ?_⟩)
            have f8 := n8.fresh
            have l8 := heap_lt n8.here
            have z8 := n8.kept.size
            have f2 := n2.fresh
            have l2 := heap_lt n2.here
            have z2 := n2.kept.size
            have f4 := n4.fresh
            have l4 := heap_lt n4.here
            have z4 := n4.kept.size
            have f6 := n6.fresh
            have l6 := heap_lt n6.here
            have z6 := n6.kept.size
            have zd := hk_wd.size
            refine dr_p' 9 rfl rfl (by kernel_rfl) (by kernel_rfl) (by kernel_rfl) (by kernel_rfl) (q_build (v := .agg #[.slice A N cap, .slice (some ⟨bo, 0, none⟩) N N, .slice (some ⟨bl, 0, none⟩) N N, .slice (some ⟨bh, 0, none⟩) N N, .slice none 0 0, .slice (some ⟨bc, 0, none⟩) N N, .int .i64 0, .int .i64 0]) rfl (fun _ => by kernel_rfl)) (by kernel_rfl) ?_
            refine dr_e 10 (by kernel_rfl) rfl rfl (e_box rfl fun p wx nx => ⟨fun hu => unl hu (by kernel_rfl), ?_⟩)
            have fx := nx.fresh
            have zx := nx.kept.size
            refine dr_p' 11 rfl rfl (by kernel_rfl) (by kernel_rfl) (by kernel_rfl) (by kernel_rfl) (q_assign rfl) (by kernel_rfl) ?_
            refine dr_done (by kernel_rfl) ?_
            refine x_then_n ?_
            refine x_meet (bo, bl, bh, bc, p, w6.heap.size) (And.intro rfl (And.intro rfl (And.intro rfl trivial))) ?_
            dsimp only
            exact ⟨getk nx.kept (getk n6.kept (getk n4.kept (n2.here))), getk nx.kept (getk n6.kept (n4.here)), getk nx.kept (n6.here), getk nx.kept (getk n6.kept (getk n4.kept (getk n2.kept (n8.here)))), nx.here, ⟨by omega, by omega, by omega, by omega, by omega, by omega⟩, ⟨by omega, by omega, by omega, by omega, by omega⟩, ⟨by omega, by omega, by omega, by omega, by omega⟩, zx, (((((hk_wd).trans n8.kept).trans n2.kept).trans n4.kept).trans n6.kept).trans nx.kept⟩
        · refine st1_e rfl rfl (e_mk1 (m := N) (by exact Us.out) (by exact Zi.out) rfl rfl rfl (by omega) (by omega) fun bh w6 n6 => ⟨fun hu => unl hu (by kernel_rfl), ?_⟩)
          refine dr_all [4] (by kernel_rfl) (by decide) (List.forall_mem_cons.2 ⟨?_, (fun _ h => by cases h)⟩)
          · refine st1_e rfl rfl (e_mk1 (m := N) (by exact Us.out) (by exact Zi.out) rfl rfl rfl (by omega) (by omega) fun bl w4 n4 => ⟨fun hu => unl hu (by kernel_rfl), ?_⟩)
            have f8 := n8.fresh
            have l8 := heap_lt n8.here
            have z8 := n8.kept.size
            have f2 := n2.fresh
            have l2 := heap_lt n2.here
            have z2 := n2.kept.size
            have f6 := n6.fresh
            have l6 := heap_lt n6.here
            have z6 := n6.kept.size
            have f4 := n4.fresh
            have l4 := heap_lt n4.here
            have z4 := n4.kept.size
            have zd := hk_wd.size
            refine dr_p' 9 rfl rfl (by kernel_rfl) (by kernel_rfl) (by kernel_rfl) (by kernel_rfl) (q_build (v := .agg #[.slice A N cap, .slice (some ⟨bo, 0, none⟩) N N, .slice (some ⟨bl, 0, none⟩) N N, .slice (some ⟨bh, 0, none⟩) N N, .slice none 0 0, .slice (some ⟨bc, 0, none⟩) N N, .int .i64 0, .int .i64 0]) rfl (fun _ => by kernel_rfl)) (by kernel_rfl) ?_
            refine dr_e 10 (by kernel_rfl) rfl rfl (e_box rfl fun p wx nx => ⟨fun hu => unl hu (by kernel_rfl), ?_⟩)
            have fx := nx.fresh
            have zx := nx.kept.size
            refine dr_p' 11 rfl rfl (by kernel_rfl) (by kernel_rfl) (by kernel_rfl) (by kernel_rfl) (q_assign rfl) (by kernel_rfl) ?_
            refine dr_done (by kernel_rfl) ?_
            refine x_then_n ?_
            refine x_meet (bo, bl, bh, bc, p, w4.heap.size) (And.intro rfl (And.intro rfl (And.intro rfl trivial))) ?_
            dsimp only
            exact ⟨getk nx.kept (getk n4.kept (getk n6.kept (n2.here))), getk nx.kept (n4.here), getk nx.kept (getk n4.kept (n6.here)), getk nx.kept (getk n4.kept (getk n6.kept (getk n2.kept (n8.here)))), nx.here, ⟨by omega, by omega, by omega, by omega, by omega, by omega⟩, ⟨by omega, by omega, by omega, by omega, by omega⟩, ⟨by omega, by omega, by omega, by omega, by omega⟩, zx, (((((hk_wd).trans n8.kept).trans n2.kept).trans n6.kept).trans n4.kept).trans nx.kept⟩
      · refine st1_e rfl rfl (e_mk1 (m := N) (by exact Us.out) (by exact Zi.out) rfl rfl rfl (by omega) (by omega) fun bl w4 n4 => ⟨fun hu => unl hu (by kernel_rfl), ?_⟩)
        refine dr_all [2, 6] (by kernel_rfl) (by decide) (List.forall_mem_cons.2 ⟨?_, List.forall_mem_cons.2 ⟨?_, (fun _ h => by cases h)⟩⟩)
        · refine st1_e rfl rfl (e_mk1 (m := N) (by exact Us.out) (by exact Zi.out) rfl rfl rfl (by omega) (by omega) fun bo w2 n2 => ⟨fun hu => unl hu (by kernel_rfl), ?_⟩)
          refine dr_all [6] (by kernel_rfl) (by decide) (List.forall_mem_cons.2 ⟨?_, (fun _ h => by cases h)⟩)
          · refine st1_e rfl rfl (e_mk1 (m := N) (by exact Us.out) (by exact Zi.out) rfl rfl rfl (by omega) (by omega) fun bh w6 n6 => ⟨fun hu => unl hu (by kernel_rfl), ?_⟩)
            have f8 := n8.fresh
            have l8 := heap_lt n8.here
            have z8 := n8.kept.size
            have f4 := n4.fresh
            have l4 := heap_lt n4.here
            have z4 := n4.kept.size
            have f2 := n2.fresh
            have l2 := heap_lt n2.here
            have z2 := n2.kept.size
            have f6 := n6.fresh
            have l6 := heap_lt n6.here
            have z6 := n6.kept.size
            have zd := hk_wd.size
            refine dr_p' 9 rfl rfl (by kernel_rfl) (by kernel_rfl) (by kernel_rfl) (by kernel_rfl) (q_build (v := .agg #[.slice A N cap, .slice (some ⟨bo, 0, none⟩) N N, .slice (some ⟨bl, 0, none⟩) N N, .slice (some ⟨bh, 0, none⟩) N N, .slice none 0 0, .slice (some ⟨bc, 0, none⟩) N N, .int .i64 0, .int .i64 0]) rfl (fun _ => by kernel_rfl)) (by kernel_rfl) ?_
            refine dr_e 10 (by kernel_rfl) rfl rfl (e_box rfl fun p wx nx => ⟨fun hu => unl hu (by kernel_rfl), ?_⟩)
            have fx := nx.fresh
            have zx := nx.kept.size
            refine dr_p' 11 rfl rfl (by kernel_rfl) (by kernel_rfl) (by kernel_rfl) (by kernel_rfl) (q_assign rfl) (by kernel_rfl) ?_
            refine dr_done (by kernel_rfl) ?_
            refine x_then_n ?_
            refine x_meet (bo, bl, bh, bc, p, w6.heap.size) (And.intro rfl (And.intro rfl (And.intro rfl trivial))) ?_
            dsimp only
            exact ⟨getk nx.kept (getk n6.kept (n2.here)), getk nx.kept (getk n6.kept (getk n2.kept (n4.here))), getk nx.kept (n6.here), getk nx.kept (getk n6.kept (getk n2.kept (getk n4.kept (n8.here)))), nx.here, ⟨by omega, by omega, by omega, by omega, by omega, by omega⟩, ⟨by omega, by omega, by omega, by omega, by omega⟩, ⟨by omega, by omega, by omega, by omega, by omega⟩, zx, (((((hk_wd).trans n8.kept).trans n4.kept).trans n2.kept).trans n6.kept).trans nx.kept⟩
        · refine st1_e rfl rfl (e_mk1 (m := N) (by exact Us.out) (by exact Zi.out) rfl rfl rfl (by omega) (by omega) fun bh w6 n6 => ⟨fun hu => unl hu (by kernel_rfl), ?_⟩)
          refine dr_all [2] (by kernel_rfl) (by decide) (List.forall_mem_cons.2 ⟨?_, (fun _ h => by cases h)⟩)
          · refine st1_e rfl rfl (e_mk1 (m := N) (by exact Us.out) (by exact Zi.out) rfl rfl rfl (by omega) (by omega) fun bo w2 n2 => ⟨fun hu => unl hu (by kernel_rfl), ?_⟩)
            have f8 := n8.fresh
            have l8 := heap_lt n8.here
            have z8 := n8.kept.size
            have f4 := n4.fresh
            have l4 := heap_lt n4.here
            have z4 := n4.kept.size
            have f6 := n6.fresh
            have l6 := heap_lt n6.here
            have z6 := n6.kept.size
            have f2 := n2.fresh
            have l2 := heap_lt n2.here
            have z2 := n2.kept.size
            have zd := hk_wd.size
            refine dr_p' 9 rfl rfl (by kernel_rfl) (by kernel_rfl) (by kernel_rfl) (by kernel_rfl) (q_build (v := .agg #[.slice A N cap, .slice (some ⟨bo, 0, none⟩) N N, .slice (some ⟨bl, 0, none⟩) N N, .slice (some ⟨bh, 0, none⟩) N N, .slice none 0 0, .slice (some ⟨bc, 0, none⟩) N N, .int .i64 0, .int .i64 0]) rfl (fun _ => by kernel_rfl)) (by kernel_rfl) ?_
            refine dr_e 10 (by kernel_rfl) rfl rfl (e_box rfl fun p wx nx => ⟨fun hu => unl hu (by kernel_rfl), ?_⟩)
            have fx := nx.fresh
            have zx := nx.kept.size
            refine dr_p' 11 rfl rfl (by kernel_rfl) (by kernel_rfl) (by kernel_rfl) (by kernel_rfl) (q_assign rfl) (by kernel_rfl) ?_
            refine dr_done (by kernel_rfl) ?_
            refine x_then_n ?_
            refine x_meet (bo, bl, bh, bc, p, w2.heap.size) (And.intro rfl (And.intro rfl (And.intro rfl trivial))) ?_
            dsimp only
            exact ⟨getk nx.kept (n2.here), getk nx.kept (getk n2.kept (getk n6.kept (n4.here))), getk nx.kept (getk n2.kept (n6.here)), getk nx.kept (getk n2.kept (getk n6.kept (getk n4.kept (n8.here)))), nx.here, ⟨by omega, by omega, by omega, by omega, by omega, by omega⟩, ⟨by omega, by omega, by omega, by omega, by omega⟩, ⟨by omega, by omega, by omega, by omega, by omega⟩, zx, (((((hk_wd).trans n8.kept).trans n4.kept).trans n6.kept).trans n2.kept).trans nx.kept⟩
      · refine st1_e rfl rfl (e_mk1 (m := N) (by exact Us.out) (by exact Zi.out) rfl rfl rfl (by omega) (by omega) fun bh w6 n6 => ⟨fun hu => unl hu (by kernel_rfl), ?_⟩)
        refine dr_all [2, 4] (by kernel_rfl) (by decide) (List.forall_mem_cons.2 ⟨?_, List.forall_mem_cons.2 ⟨?_, (fun _ h => by cases h)⟩⟩)
        · refine st1_e rfl rfl (e_mk1 (m := N) (by exact Us.out) (by exact Zi.out) rfl rfl rfl (by omega) (by omega) fun bo w2 n2 => ⟨fun hu => unl hu (by kernel_rfl), ?_⟩)
          refine dr_all [4] (by kernel_rfl) (by decide) (List.forall_mem_cons.2 ⟨?_, (fun _ h => by cases h)⟩)
          · refine st1_e rfl rfl (e_mk1 (m := N) (by exact Us.out) (by exact Zi.out) rfl rfl rfl (by omega) (by omega) fun bl w4 n4 => ⟨fun hu => unl hu (by kernel_rfl), ?_⟩)
            have f8 := n8.fresh
            have l8 := heap_lt n8.here
            have z8 := n8.kept.size
            have f6 := n6.fresh
            have l6 := heap_lt n6.here
            have z6 := n6.kept.size
            have f2 := n2.fresh
            have l2 := heap_lt n2.here
            have z2 := n2.kept.size
            have f4 := n4.fresh
            have l4 := heap_lt n4.here
            have z4 := n4.kept.size
            have zd := hk_wd.size
            refine dr_p' 9 rfl rfl (by kernel_rfl) (by kernel_rfl) (by kernel_rfl) (by kernel_rfl) (q_build (v := .agg #[.slice A N cap, .slice (some ⟨bo, 0, none⟩) N N, .slice (some ⟨bl, 0, none⟩) N N, .slice (some ⟨bh, 0, none⟩) N N, .slice none 0 0, .slice (some ⟨bc, 0, none⟩) N N, .int .i64 0, .int .i64 0]) rfl (fun _ => by kernel_rfl)) (by kernel_rfl) ?_
            refine dr_e 10 (by kernel_rfl) rfl rfl (e_box rfl fun p wx nx => ⟨fun hu => unl hu (by kernel_rfl), ?_⟩)
            have fx := nx.fresh
            have zx := nx.kept.size
            refine dr_p' 11 rfl rfl (by kernel_rfl) (by kernel_rfl) (by kernel_rfl) (by kernel_rfl) (q_assign rfl) (by kernel_rfl) ?_
            refine dr_done (by kernel_rfl) ?_
            refine x_then_n ?_
            refine x_meet (bo, bl, bh, bc, p, w4.heap.size) (And.intro rfl (And.intro rfl (And.intro rfl trivial))) ?_
            dsimp only
            exact ⟨getk nx.kept (getk n4.kept (n2.here)), getk nx.kept (n4.here), getk nx.kept (getk n4.kept (getk n2.kept (n6.here))), getk nx.kept (getk n4.kept (getk n2.kept (getk n6.kept (n8.here)))), nx.here, ⟨by omega, by omega, by omega, by omega, by omega, by omega⟩, ⟨by omega, by omega, by omega, by omega, by omega⟩, ⟨by omega, by omega, by omega, by omega, by omega⟩, zx, (((((hk_wd).trans n8.kept).trans n6.kept).trans n2.kept).trans n4.kept).trans nx.kept⟩
        · refine st1_e rfl rfl (e_mk1 (m := N) (by exact Us.out) (by exact Zi.out) rfl rfl rfl (by omega) (by omega) fun bl w4 n4 => ⟨fun hu => unl hu (by kernel_rfl), ?_⟩)
          refine dr_all [2] (by kernel_rfl) (by decide) (List.forall_mem_cons.2 ⟨?_, (fun _ h => by cases h)⟩)
          · refine st1_e rfl rfl (e_mk1 (m := N) (by exact Us.out) (by exact Zi.out) rfl rfl rfl (by omega) (by omega) fun bo w2 n2 => ⟨fun hu => unl hu (by kernel_rfl), ?_⟩)
            have f8 := n8.fresh
            have l8 := heap_lt n8.here
            have z8 := n8.kept.size
            have f6 := n6.fresh
            have l6 := heap_lt n6.here
            have z6 := n6.kept.size
            have f4 := n4.fresh
            have l4 := heap_lt n4.here
            have z4 := n4.kept.size
            have f2 := n2.fresh
            have l2 := heap_lt n2.here
            have z2 := n2.kept.size
            have zd := hk_wd.size
            refine dr_p' 9 rfl rfl (by kernel_rfl) (by kernel_rfl) (by kernel_rfl) (by kernel_rfl) (q_build (v := .agg #[.slice A N cap, .slice (some ⟨bo, 0, none⟩) N N, .slice (some ⟨bl, 0, none⟩) N N, .slice (some ⟨bh, 0, none⟩) N N, .slice none 0 0, .slice (some ⟨bc, 0, none⟩) N N, .int .i64 0, .int .i64 0]) rfl (fun _ => by kernel_rfl)) (by kernel_rfl) ?_
            refine dr_e 10 (by kernel_rfl) rfl rfl (e_box rfl fun p wx nx => ⟨fun hu => unl hu (by kernel_rfl), ?_⟩)
            have fx := nx.fresh
            have zx := nx.kept.size
            refine dr_p' 11 rfl rfl (by kernel_rfl) (by kernel_rfl) (by kernel_rfl) (by kernel_rfl) (q_assign rfl) (by kernel_rfl) ?_
            refine dr_done (by kernel_rfl) ?_
            refine x_then_n ?_
            refine x_meet (bo, bl, bh, bc, p, w2.heap.size) (And.intro rfl (And.intro rfl (And.intro rfl trivial))) ?_
            dsimp only
            exact ⟨getk nx.kept (n2.here), getk nx.kept (getk n2.kept (n4.here)), getk nx.kept (getk n2.kept (getk n4.kept (n6.here))), getk nx.kept (getk n2.kept (getk n4.kept (getk n6.kept (n8.here)))), nx.here, ⟨by omega, by omega, by omega, by omega, by omega, by omega⟩, ⟨by omega, by omega, by omega, by omega, by omega⟩, ⟨by omega, by omega, by omega, by omega, by omega⟩, zx, (((((hk_wd).trans n8.kept).trans n6.kept).trans n4.kept).trans n2.kept).trans nx.kept⟩
  rintro ⟨bo, bl, bh, bc, p, n1⟩ w1 ⟨ho, hl, hh, hc, hp, hd, hlo, hhi, hn1, hk⟩
  dsimp only at ho hl hh hc hp hd hlo hhi hn1 ⊢
  have o1 : Old w w1 := (Old.refl w).grow hk
  have h1 : FinAt w.heap.size n1 w1 ⟨p, bo, bl, bh, bc⟩ N (.slice A N cap) (.slice none 0 0) Tj.start :=
    ⟨hp, by rw [rowA_zero] at ho; exact ho, by rw [rowA_zero] at hl; exact hl, by rw [rowA_zeroB] at hh; exact hh, by rw [rowA_zero] at hc; exact hc, ⟨rfl, .inl ⟨rfl, rfl⟩⟩, hd, hlo, hhi⟩
  repeat (first | refine x_seq ?_ | refine x_reg ?_ | refine x_nil ?_ | refine x_then_n ?_ | refine rl_q rfl (q_move rfl) ?_ | refine rl_q rfl (q_nil rfl) ?_ | refine rl_q rfl (q_fa0 (by exact Fo.out) rfl) ?_ | refine rl_q rfl (q_fak (by exact Fo.out) rfl) ?_ | refine rl_q rfl (q_fieldAddr (by exact Fo.out) rfl) ?_ | refine rl_q rfl (q_assign rfl) ?_ | refine rl_q rfl (q_len rfl (by kernel_rfl) rfl) ?_ | refine rl_q rfl (q_extract rfl rfl) ?_ | refine rl_q rfl (q_addi _ rfl rfl rfl (by omega) (by omega)) ?_ | refine rl_q rfl (q_subi _ rfl rfl rfl (by omega) (by omega)) ?_ | refine rl_q rfl (q_muli _ rfl rfl rfl (by omega) (by omega)) ?_ | refine rl_q rfl (q_pick_t rfl rfl) ?_ | refine rl_q rfl (q_pick_f rfl rfl) ?_ | refine rl_q rfl (q_lt_t rfl rfl (by omega)) ?_ | refine rl_q rfl (q_lt_f rfl rfl (by omega)) ?_ | refine rl_q rfl (q_le_t rfl rfl (by omega)) ?_ | refine rl_q rfl (q_le_f rfl rfl (by omega)) ?_ | refine rl_q rfl (q_gt_t rfl rfl (by omega)) ?_ | refine rl_q rfl (q_gt_f rfl rfl (by omega)) ?_ | refine rl_q rfl (q_ge_t rfl rfl (by omega)) ?_ | refine rl_q rfl (q_ge_f rfl rfl (by omega)) ?_ | refine rl_q rfl (q_eq_t rfl rfl (by omega)) ?_ | refine rl_q rfl (q_eq_f rfl rfl (by omega)) ?_ | refine rl_q rfl (q_ne_t rfl rfl (by omega)) ?_ | refine rl_q rfl (q_ne_f rfl rfl (by omega)) ?_ | refine rl_q rfl (q_lt rfl rfl) ?_ | refine rl_q rfl (q_le rfl rfl) ?_ | refine rl_q rfl (q_gt rfl rfl) ?_ | refine rl_q rfl (q_ge rfl rfl) ?_ | refine rl_q rfl (q_eq rfl rfl) ?_ | refine rl_q rfl (q_ne rfl rfl) ?_ | refine rl_q rfl (q_not rfl) ?_ | refine rl_q rfl (q_nilf rfl) ?_ | refine rl_q rfl (q_makeFunc rfl rfl) ?_ | refine rl_q rfl (q_field (by exact Fo.out) (by kernel_rfl) rfl rfl) ?_ | refine rl_q rfl (q_load (by exact Tk.out) rfl (c1 (by assumption) (by rfl))) ?_ | refine rl_q rfl (q_loadB (by exact Tk.out) rfl (by assumption) (by rfl)) ?_ | refine rl_q rfl (q_load (by exact Tk.out) rfl (c1_cell (by assumption))) ?_ | refine x_blk_n ?_ | refine x_block ?_ | refine x_skip ?_ | refine x_label ?_ | refine x_ret ?_ | refine x_exit ?_ | refine x_then_r ?_ | refine x_then_e ?_ | refine x_blk_e ?_ | refine x_blk_r ?_ | refine x_blk_o rfl ?_ | refine x_cond_t rfl ?_ | refine x_cond_f rfl ?_ | refine rl_go rfl rfl ?_ | refine rl_no rfl rfl rfl rfl ?_)
  refine x_loop (γ := Nat × St × Value) (fun g => [(5, .pointer (some ⟨p, 0, none⟩)), (20, .int .i64 (N : Int)), (21, .int .i64 (g.1 : Int))])
    (fun g w' => g.1 ≤ N ∧ FinAt w.heap.size n1 w' ⟨p, bo, bl, bh, bc⟩ N (.slice A N cap) g.2.2 g.2.1 ∧ Inv N (esOf L) g.2.1 [] ∧ (∀ x, x < g.1 → g.2.1.ord x ≠ 0) ∧ n1 ≤ w'.heap.size ∧ Old w w') (fun g => N - g.1)
    (0, Tj.start, .slice none 0 0) (And.intro rfl (And.intro rfl (And.intro rfl trivial))) ⟨Nat.zero_le _, h1, .start, fun x hx => absurd hx (Nat.not_lt_zero _), hn1, o1⟩ ?_
  rintro ⟨i, s, sv⟩ w2 ⟨hi, h2, i2, m2, hn2, o2⟩
  dsimp only at hi h2 i2 m2 hn2 o2 ⊢
  have hp2 := h2.hp
  by_cases hil : i < N
  · repeat (first | refine x_seq ?_ | refine x_reg ?_ | refine x_nil ?_ | refine x_then_n ?_ | refine rl_q rfl (q_move rfl) ?_ | refine rl_q rfl (q_nil rfl) ?_ | refine rl_q rfl (q_fa0 (by exact Fo.out) rfl) ?_ | refine rl_q rfl (q_fak (by exact Fo.out) rfl) ?_ | refine rl_q rfl (q_fieldAddr (by exact Fo.out) rfl) ?_ | refine rl_q rfl (q_assign rfl) ?_ | refine rl_q rfl (q_len rfl (by kernel_rfl) rfl) ?_ | refine rl_q rfl (q_extract rfl rfl) ?_ | refine rl_q rfl (q_addi _ rfl rfl rfl (by omega) (by omega)) ?_ | refine rl_q rfl (q_subi _ rfl rfl rfl (by omega) (by omega)) ?_ | refine rl_q rfl (q_muli _ rfl rfl rfl (by omega) (by omega)) ?_ | refine rl_q rfl (q_pick_t rfl rfl) ?_ | refine rl_q rfl (q_pick_f rfl rfl) ?_ | refine rl_q rfl (q_lt_t rfl rfl (by omega)) ?_ | refine rl_q rfl (q_lt_f rfl rfl (by omega)) ?_ | refine rl_q rfl (q_le_t rfl rfl (by omega)) ?_ | refine rl_q rfl (q_le_f rfl rfl (by omega)) ?_ | refine rl_q rfl (q_gt_t rfl rfl (by omega)) ?_ | refine rl_q rfl (q_gt_f rfl rfl (by omega)) ?_ | refine rl_q rfl (q_ge_t rfl rfl (by omega)) ?_ | refine rl_q rfl (q_ge_f rfl rfl (by omega)) ?_ | refine rl_q rfl (q_eq_t rfl rfl (by omega)) ?_ | refine rl_q rfl (q_eq_f rfl rfl (by omega)) ?_ | refine rl_q rfl (q_ne_t rfl rfl (by omega)) ?_ | refine rl_q rfl (q_ne_f rfl rfl (by omega)) ?_ | refine rl_q rfl (q_lt rfl rfl) ?_ | refine rl_q rfl (q_le rfl rfl) ?_ | refine rl_q rfl (q_gt rfl rfl) ?_ | refine rl_q rfl (q_ge rfl rfl) ?_ | refine rl_q rfl (q_eq rfl rfl) ?_ | refine rl_q rfl (q_ne rfl rfl) ?_ | refine rl_q rfl (q_not rfl) ?_ | refine rl_q rfl (q_nilf rfl) ?_ | refine rl_q rfl (q_makeFunc rfl rfl) ?_ | refine rl_q rfl (q_field (by exact Fo.out) (by kernel_rfl) rfl rfl) ?_ | refine rl_q rfl (q_load (by exact Tk.out) rfl (c1 (by assumption) (by rfl))) ?_ | refine rl_q rfl (q_loadB (by exact Tk.out) rfl (by assumption) (by rfl)) ?_ | refine rl_q rfl (q_load (by exact Tk.out) rfl (c1_cell (by assumption))) ?_ | refine x_blk_n ?_ | refine x_block ?_ | refine x_skip ?_ | refine x_label ?_ | refine x_ret ?_ | refine x_exit ?_ | refine x_then_r ?_ | refine x_then_e ?_ | refine x_blk_e ?_ | refine x_blk_r ?_ | refine x_blk_o rfl ?_ | refine x_cond_t rfl ?_ | refine x_cond_f rfl ?_ | refine rl_go rfl rfl ?_ | refine rl_no rfl rfl rfl rfl ?_)
    refine rl_q rfl (q_index1 (by exact Es.out) rfl rfl rfl hil) ?_
    refine rl_q rfl (q_load (v := .int .i64 (s.ord i : Int)) (by exact Tk.out) rfl (c1_cell (cell_of h2.ho (rowA_get hil)))) ?_
    by_cases h0 : s.ord i = 0
    · repeat (first | refine x_seq ?_ | refine x_reg ?_ | refine x_nil ?_ | refine x_then_n ?_ | refine rl_q rfl (q_move rfl) ?_ | refine rl_q rfl (q_nil rfl) ?_ | refine rl_q rfl (q_fa0 (by exact Fo.out) rfl) ?_ | refine rl_q rfl (q_fak (by exact Fo.out) rfl) ?_ | refine rl_q rfl (q_fieldAddr (by exact Fo.out) rfl) ?_ | refine rl_q rfl (q_assign rfl) ?_ | refine rl_q rfl (q_len rfl (by kernel_rfl) rfl) ?_ | refine rl_q rfl (q_extract rfl rfl) ?_ | refine rl_q rfl (q_addi _ rfl rfl rfl (by omega) (by omega)) ?_ | refine rl_q rfl (q_subi _ rfl rfl rfl (by omega) (by omega)) ?_ | refine rl_q rfl (q_muli _ rfl rfl rfl (by omega) (by omega)) ?_ | refine rl_q rfl (q_pick_t rfl rfl) ?_ | refine rl_q rfl (q_pick_f rfl rfl) ?_ | refine rl_q rfl (q_lt_t rfl rfl (by omega)) ?_ | refine rl_q rfl (q_lt_f rfl rfl (by omega)) ?_ | refine rl_q rfl (q_le_t rfl rfl (by omega)) ?_ | refine rl_q rfl (q_le_f rfl rfl (by omega)) ?_ | refine rl_q rfl (q_gt_t rfl rfl (by omega)) ?_ | refine rl_q rfl (q_gt_f rfl rfl (by omega)) ?_ | refine rl_q rfl (q_ge_t rfl rfl (by omega)) ?_ | refine rl_q rfl (q_ge_f rfl rfl (by omega)) ?_ | refine rl_q rfl (q_eq_t rfl rfl (by omega)) ?_ | refine rl_q rfl (q_eq_f rfl rfl (by omega)) ?_ | refine rl_q rfl (q_ne_t rfl rfl (by omega)) ?_ | refine rl_q rfl (q_ne_f rfl rfl (by omega)) ?_ | refine rl_q rfl (q_lt rfl rfl) ?_ | refine rl_q rfl (q_le rfl rfl) ?_ | refine rl_q rfl (q_gt rfl rfl) ?_ | refine rl_q rfl (q_ge rfl rfl) ?_ | refine rl_q rfl (q_eq rfl rfl) ?_ | refine rl_q rfl (q_ne rfl rfl) ?_ | refine rl_q rfl (q_not rfl) ?_ | refine rl_q rfl (q_nilf rfl) ?_ | refine rl_q rfl (q_makeFunc rfl rfl) ?_ | refine rl_q rfl (q_field (by exact Fo.out) (by kernel_rfl) rfl rfl) ?_ | refine rl_q rfl (q_load (by exact Tk.out) rfl (c1 (by assumption) (by rfl))) ?_ | refine rl_q rfl (q_loadB (by exact Tk.out) rfl (by assumption) (by rfl)) ?_ | refine rl_q rfl (q_load (by exact Tk.out) rfl (c1_cell (by assumption))) ?_ | refine x_blk_n ?_ | refine x_block ?_ | refine x_skip ?_ | refine x_label ?_ | refine x_ret ?_ | refine x_exit ?_ | refine x_then_r ?_ | refine x_then_e ?_ | refine x_blk_e ?_ | refine x_blk_r ?_ | refine x_blk_o rfl ?_ | refine x_cond_t rfl ?_ | refine x_cond_f rfl ?_ | refine rl_go rfl rfl ?_ | refine rl_no rfl rfl rfl rfl ?_)
      refine rl_e rfl (e_call (by exact Hs.out) rfl (rt (walk_c (L := L) (w0 := w) (by rw [hNN]; exact h2) (by rw [hNN]; exact i2) hg o2 (Nat.le_refl _) (by omega) hE hn2 (by omega) h0) fun v w3 hv => ?_))
      obtain ⟨rfl, s3, sv3, h3, i3, m3, m3', k3⟩ := hv
      rw [hNN] at h3 i3
      have o3 := o2.kept k3 (Nat.le_refl _)
      repeat (first | refine x_seq ?_ | refine x_reg ?_ | refine x_nil ?_ | refine x_then_n ?_ | refine rl_q rfl (q_move rfl) ?_ | refine rl_q rfl (q_nil rfl) ?_ | refine rl_q rfl (q_fa0 (by exact Fo.out) rfl) ?_ | refine rl_q rfl (q_fak (by exact Fo.out) rfl) ?_ | refine rl_q rfl (q_fieldAddr (by exact Fo.out) rfl) ?_ | refine rl_q rfl (q_assign rfl) ?_ | refine rl_q rfl (q_len rfl (by kernel_rfl) rfl) ?_ | refine rl_q rfl (q_extract rfl rfl) ?_ | refine rl_q rfl (q_addi _ rfl rfl rfl (by omega) (by omega)) ?_ | refine rl_q rfl (q_subi _ rfl rfl rfl (by omega) (by omega)) ?_ | refine rl_q rfl (q_muli _ rfl rfl rfl (by omega) (by omega)) ?_ | refine rl_q rfl (q_pick_t rfl rfl) ?_ | refine rl_q rfl (q_pick_f rfl rfl) ?_ | refine rl_q rfl (q_lt_t rfl rfl (by omega)) ?_ | refine rl_q rfl (q_lt_f rfl rfl (by omega)) ?_ | refine rl_q rfl (q_le_t rfl rfl (by omega)) ?_ | refine rl_q rfl (q_le_f rfl rfl (by omega)) ?_ | refine rl_q rfl (q_gt_t rfl rfl (by omega)) ?_ | refine rl_q rfl (q_gt_f rfl rfl (by omega)) ?_ | refine rl_q rfl (q_ge_t rfl rfl (by omega)) ?_ | refine rl_q rfl (q_ge_f rfl rfl (by omega)) ?_ | refine rl_q rfl (q_eq_t rfl rfl (by omega)) ?_ | refine rl_q rfl (q_eq_f rfl rfl (by omega)) ?_ | refine rl_q rfl (q_ne_t rfl rfl (by omega)) ?_ | refine rl_q rfl (q_ne_f rfl rfl (by omega)) ?_ | refine rl_q rfl (q_lt rfl rfl) ?_ | refine rl_q rfl (q_le rfl rfl) ?_ | refine rl_q rfl (q_gt rfl rfl) ?_ | refine rl_q rfl (q_ge rfl rfl) ?_ | refine rl_q rfl (q_eq rfl rfl) ?_ | refine rl_q rfl (q_ne rfl rfl) ?_ | refine rl_q rfl (q_not rfl) ?_ | refine rl_q rfl (q_nilf rfl) ?_ | refine rl_q rfl (q_makeFunc rfl rfl) ?_ | refine rl_q rfl (q_field (by exact Fo.out) (by kernel_rfl) rfl rfl) ?_ | refine rl_q rfl (q_load (by exact Tk.out) rfl (c1 (by assumption) (by rfl))) ?_ | refine rl_q rfl (q_loadB (by exact Tk.out) rfl (by assumption) (by rfl)) ?_ | refine rl_q rfl (q_load (by exact Tk.out) rfl (c1_cell (by assumption))) ?_ | refine x_blk_n ?_ | refine x_block ?_ | refine x_skip ?_ | refine x_label ?_ | refine x_ret ?_ | refine x_exit ?_ | refine x_then_r ?_ | refine x_then_e ?_ | refine x_blk_e ?_ | refine x_blk_r ?_ | refine x_blk_o rfl ?_ | refine x_cond_t rfl ?_ | refine x_cond_f rfl ?_ | refine rl_go rfl rfl ?_ | refine rl_no rfl rfl rfl rfl ?_)
      refine x_again (i + 1, s3, sv3) (And.intro rfl (And.intro rfl (And.intro rfl trivial))) ⟨by omega, h3, i3, fun x hx => ?_, by have := k3.size; omega, o3⟩ (by dsimp only; omega)
      by_cases e : x = i
      · subst e; exact m3'
      · exact m3 x (m2 x (by dsimp only at hx; omega))
    · repeat (first | refine x_seq ?_ | refine x_reg ?_ | refine x_nil ?_ | refine x_then_n ?_ | refine rl_q rfl (q_move rfl) ?_ | refine rl_q rfl (q_nil rfl) ?_ | refine rl_q rfl (q_fa0 (by exact Fo.out) rfl) ?_ | refine rl_q rfl (q_fak (by exact Fo.out) rfl) ?_ | refine rl_q rfl (q_fieldAddr (by exact Fo.out) rfl) ?_ | refine rl_q rfl (q_assign rfl) ?_ | refine rl_q rfl (q_len rfl (by kernel_rfl) rfl) ?_ | refine rl_q rfl (q_extract rfl rfl) ?_ | refine rl_q rfl (q_addi _ rfl rfl rfl (by omega) (by omega)) ?_ | refine rl_q rfl (q_subi _ rfl rfl rfl (by omega) (by omega)) ?_ | refine rl_q rfl (q_muli _ rfl rfl rfl (by omega) (by omega)) ?_ | refine rl_q rfl (q_pick_t rfl rfl) ?_ | refine rl_q rfl (q_pick_f rfl rfl) ?_ | refine rl_q rfl (q_lt_t rfl rfl (by omega)) ?_ | refine rl_q rfl (q_lt_f rfl rfl (by omega)) ?_ | refine rl_q rfl (q_le_t rfl rfl (by omega)) ?_ | refine rl_q rfl (q_le_f rfl rfl (by omega)) ?_ | refine rl_q rfl (q_gt_t rfl rfl (by omega)) ?_ | refine rl_q rfl (q_gt_f rfl rfl (by omega)) ?_ | refine rl_q rfl (q_ge_t rfl rfl (by omega)) ?_ | refine rl_q rfl (q_ge_f rfl rfl (by omega)) ?_ | refine rl_q rfl (q_eq_t rfl rfl (by omega)) ?_ | refine rl_q rfl (q_eq_f rfl rfl (by omega)) ?_ | refine rl_q rfl (q_ne_t rfl rfl (by omega)) ?_ | refine rl_q rfl (q_ne_f rfl rfl (by omega)) ?_ | refine rl_q rfl (q_lt rfl rfl) ?_ | refine rl_q rfl (q_le rfl rfl) ?_ | refine rl_q rfl (q_gt rfl rfl) ?_ | refine rl_q rfl (q_ge rfl rfl) ?_ | refine rl_q rfl (q_eq rfl rfl) ?_ | refine rl_q rfl (q_ne rfl rfl) ?_ | refine rl_q rfl (q_not rfl) ?_ | refine rl_q rfl (q_nilf rfl) ?_ | refine rl_q rfl (q_makeFunc rfl rfl) ?_ | refine rl_q rfl (q_field (by exact Fo.out) (by kernel_rfl) rfl rfl) ?_ | refine rl_q rfl (q_load (by exact Tk.out) rfl (c1 (by assumption) (by rfl))) ?_ | refine rl_q rfl (q_loadB (by exact Tk.out) rfl (by assumption) (by rfl)) ?_ | refine rl_q rfl (q_load (by exact Tk.out) rfl (c1_cell (by assumption))) ?_ | refine x_blk_n ?_ | refine x_block ?_ | refine x_skip ?_ | refine x_label ?_ | refine x_ret ?_ | refine x_exit ?_ | refine x_then_r ?_ | refine x_then_e ?_ | refine x_blk_e ?_ | refine x_blk_r ?_ | refine x_blk_o rfl ?_ | refine x_cond_t rfl ?_ | refine x_cond_f rfl ?_ | refine rl_go rfl rfl ?_ | refine rl_no rfl rfl rfl rfl ?_)
      refine x_again (i + 1, s, sv) (And.intro rfl (And.intro rfl (And.intro rfl trivial))) ⟨by omega, h2, i2, fun x hx => ?_, hn2, o2⟩ (by dsimp only; omega)
      by_cases e : x = i
      · subst e; exact h0
      · exact m2 x (by dsimp only at hx; omega)
  · repeat (first | refine x_seq ?_ | refine x_reg ?_ | refine x_nil ?_ | refine x_then_n ?_ | refine rl_q rfl (q_move rfl) ?_ | refine rl_q rfl (q_nil rfl) ?_ | refine rl_q rfl (q_fa0 (by exact Fo.out) rfl) ?_ | refine rl_q rfl (q_fak (by exact Fo.out) rfl) ?_ | refine rl_q rfl (q_fieldAddr (by exact Fo.out) rfl) ?_ | refine rl_q rfl (q_assign rfl) ?_ | refine rl_q rfl (q_len rfl (by kernel_rfl) rfl) ?_ | refine rl_q rfl (q_extract rfl rfl) ?_ | refine rl_q rfl (q_addi _ rfl rfl rfl (by omega) (by omega)) ?_ | refine rl_q rfl (q_subi _ rfl rfl rfl (by omega) (by omega)) ?_ | refine rl_q rfl (q_muli _ rfl rfl rfl (by omega) (by omega)) ?_ | refine rl_q rfl (q_pick_t rfl rfl) ?_ | refine rl_q rfl (q_pick_f rfl rfl) ?_ | refine rl_q rfl (q_lt_t rfl rfl (by omega)) ?_ | refine rl_q rfl (q_lt_f rfl rfl (by omega)) ?_ | refine rl_q rfl (q_le_t rfl rfl (by omega)) ?_ | refine rl_q rfl (q_le_f rfl rfl (by omega)) ?_ | refine rl_q rfl (q_gt_t rfl rfl (by omega)) ?_ | refine rl_q rfl (q_gt_f rfl rfl (by omega)) ?_ | refine rl_q rfl (q_ge_t rfl rfl (by omega)) ?_ | refine rl_q rfl (q_ge_f rfl rfl (by omega)) ?_ | refine rl_q rfl (q_eq_t rfl rfl (by omega)) ?_ | refine rl_q rfl (q_eq_f rfl rfl (by omega)) ?_ | refine rl_q rfl (q_ne_t rfl rfl (by omega)) ?_ | refine rl_q rfl (q_ne_f rfl rfl (by omega)) ?_ | refine rl_q rfl (q_lt rfl rfl) ?_ | refine rl_q rfl (q_le rfl rfl) ?_ | refine rl_q rfl (q_gt rfl rfl) ?_ | refine rl_q rfl (q_ge rfl rfl) ?_ | refine rl_q rfl (q_eq rfl rfl) ?_ | refine rl_q rfl (q_ne rfl rfl) ?_ | refine rl_q rfl (q_not rfl) ?_ | refine rl_q rfl (q_nilf rfl) ?_ | refine rl_q rfl (q_makeFunc rfl rfl) ?_ | refine rl_q rfl (q_field (by exact Fo.out) (by kernel_rfl) rfl rfl) ?_ | refine rl_q rfl (q_load (by exact Tk.out) rfl (c1 (by assumption) (by rfl))) ?_ | refine rl_q rfl (q_loadB (by exact Tk.out) rfl (by assumption) (by rfl)) ?_ | refine rl_q rfl (q_load (by exact Tk.out) rfl (c1_cell (by assumption))) ?_ | refine x_blk_n ?_ | refine x_block ?_ | refine x_skip ?_ | refine x_label ?_ | refine x_ret ?_ | refine x_exit ?_ | refine x_then_r ?_ | refine x_then_e ?_ | refine x_blk_e ?_ | refine x_blk_r ?_ | refine x_blk_o rfl ?_ | refine x_cond_t rfl ?_ | refine x_cond_f rfl ?_ | refine rl_go rfl rfl ?_ | refine rl_no rfl rfl rfl rfl ?_)
    refine x_drawH [] mixed fun we hk_we hS_we => ?_
    refine dr_p 0 rfl rfl (by kernel_rfl) (by kernel_rfl) (by kernel_rfl) (by kernel_rfl) (q_move rfl) hS_we ?_
    refine dr_p 1 rfl rfl (by kernel_rfl) (by kernel_rfl) (by kernel_rfl) (by kernel_rfl) ((by first | exact q_nil rfl | exact q_nilf rfl)) hS_we ?_
    refine dr_p 2 rfl rfl (by kernel_rfl) (by kernel_rfl) (by kernel_rfl) (by kernel_rfl) ((by first | exact q_fa0 (by exact Fo.out) rfl | exact q_fak (by exact Fo.out) rfl | exact q_fieldAddr (by exact Fo.out) rfl)) hS_we ?_
    refine dr_s 3 rfl rfl (by kernel_rfl) (by kernel_rfl) (by kernel_rfl) (by kernel_rfl) (by kernel_rfl) (by kernel_rfl) (q_load (by exact Tk.out) rfl (c1h (cell_at hp2 rfl))) hS_we ?_
    refine dr_p 4 rfl rfl (by kernel_rfl) (by kernel_rfl) (by kernel_rfl) (by kernel_rfl) (q_move rfl) hS_we ?_
    refine dr_p 5 rfl rfl (by kernel_rfl) (by kernel_rfl) (by kernel_rfl) (by kernel_rfl) ((by first | exact q_nil rfl | exact q_nilf rfl)) hS_we ?_
    refine dr_p 6 rfl rfl (by kernel_rfl) (by kernel_rfl) (by kernel_rfl) (by kernel_rfl) ((by first | exact q_fa0 (by exact Fo.out) rfl | exact q_fak (by exact Fo.out) rfl | exact q_fieldAddr (by exact Fo.out) rfl)) hS_we ?_
    refine dr_s 7 rfl rfl (by kernel_rfl) (by kernel_rfl) (by kernel_rfl) (by kernel_rfl) (by kernel_rfl) (by kernel_rfl) (q_load (by exact Tk.out) rfl (c1h (cell_at hp2 rfl))) hS_we ?_
    refine dr_p 8 rfl rfl (by kernel_rfl) (by kernel_rfl) (by kernel_rfl) (by kernel_rfl) (q_assign rfl) hS_we ?_
    refine dr_p 9 rfl rfl (by kernel_rfl) (by kernel_rfl) (by kernel_rfl) (by kernel_rfl) (q_assign rfl) hS_we ?_
    refine dr_done (by kernel_rfl) ?_
    have hdn := i2.done fun x hx => m2 x (by omega)
    have := i2.um
    have := i2.cnt
    repeat (first | refine x_seq ?_ | refine x_reg ?_ | refine x_nil ?_ | refine x_then_n ?_ | refine rl_q rfl (q_move rfl) ?_ | refine rl_q rfl (q_nil rfl) ?_ | refine rl_q rfl (q_fa0 (by exact Fo.out) rfl) ?_ | refine rl_q rfl (q_fak (by exact Fo.out) rfl) ?_ | refine rl_q rfl (q_fieldAddr (by exact Fo.out) rfl) ?_ | refine rl_q rfl (q_assign rfl) ?_ | refine rl_q rfl (q_len rfl (by kernel_rfl) rfl) ?_ | refine rl_q rfl (q_extract rfl rfl) ?_ | refine rl_q rfl (q_addi _ rfl rfl rfl (by omega) (by omega)) ?_ | refine rl_q rfl (q_subi _ rfl rfl rfl (by omega) (by omega)) ?_ | refine rl_q rfl (q_muli _ rfl rfl rfl (by omega) (by omega)) ?_ | refine rl_q rfl (q_pick_t rfl rfl) ?_ | refine rl_q rfl (q_pick_f rfl rfl) ?_ | refine rl_q rfl (q_lt_t rfl rfl (by omega)) ?_ | refine rl_q rfl (q_lt_f rfl rfl (by omega)) ?_ | refine rl_q rfl (q_le_t rfl rfl (by omega)) ?_ | refine rl_q rfl (q_le_f rfl rfl (by omega)) ?_ | refine rl_q rfl (q_gt_t rfl rfl (by omega)) ?_ | refine rl_q rfl (q_gt_f rfl rfl (by omega)) ?_ | refine rl_q rfl (q_ge_t rfl rfl (by omega)) ?_ | refine rl_q rfl (q_ge_f rfl rfl (by omega)) ?_ | refine rl_q rfl (q_eq_t rfl rfl (by omega)) ?_ | refine rl_q rfl (q_eq_f rfl rfl (by omega)) ?_ | refine rl_q rfl (q_ne_t rfl rfl (by omega)) ?_ | refine rl_q rfl (q_ne_f rfl rfl (by omega)) ?_ | refine rl_q rfl (q_lt rfl rfl) ?_ | refine rl_q rfl (q_le rfl rfl) ?_ | refine rl_q rfl (q_gt rfl rfl) ?_ | refine rl_q rfl (q_ge rfl rfl) ?_ | refine rl_q rfl (q_eq rfl rfl) ?_ | refine rl_q rfl (q_ne rfl rfl) ?_ | refine rl_q rfl (q_not rfl) ?_ | refine rl_q rfl (q_nilf rfl) ?_ | refine rl_q rfl (q_makeFunc rfl rfl) ?_ | refine rl_q rfl (q_field (by exact Fo.out) (by kernel_rfl) rfl rfl) ?_ | refine rl_q rfl (q_load (by exact Tk.out) rfl (c1 (by assumption) (by rfl))) ?_ | refine rl_q rfl (q_loadB (by exact Tk.out) rfl (by assumption) (by rfl)) ?_ | refine rl_q rfl (q_load (by exact Tk.out) rfl (c1_cell (by assumption))) ?_ | refine x_blk_n ?_ | refine x_block ?_ | refine x_skip ?_ | refine x_label ?_ | refine x_ret ?_ | refine x_exit ?_ | refine x_then_r ?_ | refine x_then_e ?_ | refine x_blk_e ?_ | refine x_blk_r ?_ | refine x_blk_o rfl ?_ | refine x_cond_t rfl ?_ | refine x_cond_f rfl ?_ | refine rl_go rfl rfl ?_ | refine rl_no rfl rfl rfl rfl ?_)
    exact x_done2 rfl rfl rfl ⟨_, rfl, bc, s.comp, s.count, rfl, getk hk_we h2.hc, hlo.2.2.2.2, by simp at *; omega, ⟨hdn.1, hdn.2.1, hdn.2.2, fun x hx t ht => by rw [← hNN]; exact esOf_lt (by omega) ht⟩, o2.grow hk_we⟩
end Go.Proofs.YtnjjjfffppllfaaX.G
