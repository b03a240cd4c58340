/- The components of a graph: those of the page, in its order. -/
import Derived.Test.YtnjjjfffppllfaaPd
import Derived.Test.YtnjjjfffppllfaaPf
import Derived.Test.YtnjjjfffppllfaaGp
namespace Go.Proofs.YtnjjjfffppllfaaX.G
open Go.RowKit Go.Proofs.YtnjjjfffppllfaaK
open Tj (upd_i upd_o Kahn KahnIn Parts)
open Hp (Ord OkL fn befb)
open HI (HeapAt LessOk)
attribute [local irreducible] F Qt Ef Code.wp wpList wpT bodyPost Calls
set_option linter.unusedVariables false
set_option linter.unusedSimpArgs false

theorem rdS_own {β α : Type} {n0 E k : Nat} {w : World} {v : Value} {es : List β} {f : β → List Value} {R : α → List Value → Prop} (hf : ∀ e, (f e).length = k) (h : w.ownsRow n0 E k v es.length (es.flatMap f)) (g : β → α) (hR : ∀ e ∈ es, R (g e) (f e)) : RdS w k R v (es.map g) := by
  rcases row_open hf h with ⟨rfl, rfl⟩ | ⟨q, cap, cur, rfl, hq0, hq, hcap, hmax, hcur, htk⟩
  · exact ⟨none, 0, rfl, Nat.le_refl _, .inl rfl⟩
  · refine ⟨some ⟨q, 0, none⟩, cap, by rw [List.length_map], by rw [List.length_map]; exact hcap, .inr ⟨q, 0, rfl, heap_lt hq, fun i hi => ?_⟩⟩
    have hi' : i < es.length := by simpa using hi
    refine ⟨f es[i], hf _, by simpa using hR _ (List.getElem_mem hi'), fun j u hu => ?_⟩
    rw [Nat.zero_add]
    exact cell_of hq ((getL_at (row_getL hf htk hi')).2.get j u hu)
theorem crosses_le {L : List (List Int)} {B : Nat} (hB : ∀ xs ∈ L, xs.length ≤ B) (comp : Nat → Nat) : ∀ i, i ≤ L.length → (Tj.crosses i (esOf L) comp).length ≤ i * B
  | 0, _ => by simp [Tj.crosses]
  | i + 1, h => by
    have ih := crosses_le hB comp i (by omega)
    have hi : i < L.length := by omega
    have h1 := List.length_filterMap_le (Tj.cross comp i) (esOf L i)
    have h2 := hB _ (List.getElem_mem hi)
    rw [es_len hi] at h1
    rw [crosses_succ, List.length_append, Nat.succ_mul]
    omega

set_option maxHeartbeats 4000000 in
theorem components_c {w : World} {ev : Value} {L : List (List Int)} (hg : Gr w ev L) (hN : L.length ≤ 1000000) {B : Nat} (hB : ∀ xs ∈ L, xs.length ≤ B) (hNB : L.length * B ≤ 1000000000) :
    Calls Try.prog 30 #[ev] w (Rt fun v w' => ∃ C : List (List Nat), Gr w' v (C.map fun l => l.map Int.ofNat) ∧ Tj.Canon L.length (esOf L) (fun _ => False) C ∧ Old w w') := by
  have hE : ∀ xs ∈ L, xs.length ≤ 1000000000 := fun xs hx => by
    have h1 := hB xs hx
    have h2 : 0 < L.length := List.length_pos_of_mem hx
    have h3 : 1 * B ≤ L.length * B := Nat.mul_le_mul_right B h2
    omega
  have hg0 := hg
  obtain ⟨A, cap, rfl, hcap, hr0⟩ := hg0
  clear hr0
  refine x_enter (n := 170) [(0, _)] Try.func30 rfl Try.ntmps30 rfl (And.intro rfl trivial) ?_
  repeat (first | refine x_seq ?_ | refine x_reg ?_ | refine x_nil ?_ | refine x_then_n ?_ | refine rl_q rfl (q_move rfl) ?_ | refine rl_q rfl (q_nil rfl) ?_ | refine rl_q rfl (q_fa0 (by exact Fo.out) rfl) ?_ | refine rl_q rfl (q_fak (by exact Fo.out) rfl) ?_ | refine rl_q rfl (q_fieldAddr (by exact Fo.out) rfl) ?_ | refine rl_q rfl (q_assign rfl) ?_ | refine rl_q rfl (q_len rfl (by kernel_rfl) rfl) ?_ | refine rl_q rfl (q_extract rfl rfl) ?_ | refine rl_q rfl (q_addi _ rfl rfl rfl (by omega) (by omega)) ?_ | refine rl_q rfl (q_subi _ rfl rfl rfl (by omega) (by omega)) ?_ | refine rl_q rfl (q_muli _ rfl rfl rfl (by omega) (by omega)) ?_ | refine rl_q rfl (q_pick_t rfl rfl) ?_ | refine rl_q rfl (q_pick_f rfl rfl) ?_ | refine rl_q rfl (q_lt_t rfl rfl (by omega)) ?_ | refine rl_q rfl (q_lt_f rfl rfl (by omega)) ?_ | refine rl_q rfl (q_le_t rfl rfl (by omega)) ?_ | refine rl_q rfl (q_le_f rfl rfl (by omega)) ?_ | refine rl_q rfl (q_gt_t rfl rfl (by omega)) ?_ | refine rl_q rfl (q_gt_f rfl rfl (by omega)) ?_ | refine rl_q rfl (q_ge_t rfl rfl (by omega)) ?_ | refine rl_q rfl (q_ge_f rfl rfl (by omega)) ?_ | refine rl_q rfl (q_eq_t rfl rfl (by omega)) ?_ | refine rl_q rfl (q_eq_f rfl rfl (by omega)) ?_ | refine rl_q rfl (q_ne_t rfl rfl (by omega)) ?_ | refine rl_q rfl (q_ne_f rfl rfl (by omega)) ?_ | refine rl_q rfl (q_lt rfl rfl) ?_ | refine rl_q rfl (q_le rfl rfl) ?_ | refine rl_q rfl (q_gt rfl rfl) ?_ | refine rl_q rfl (q_ge rfl rfl) ?_ | refine rl_q rfl (q_eq rfl rfl) ?_ | refine rl_q rfl (q_ne rfl rfl) ?_ | refine rl_q rfl (q_not rfl) ?_ | refine rl_q rfl (q_nilf rfl) ?_ | refine rl_q rfl (q_makeFunc rfl rfl) ?_ | refine rl_q rfl (q_field (by exact Fo.out) (by kernel_rfl) rfl rfl) ?_ | refine rl_q rfl (q_load (by exact Tk.out) rfl (c1 (by assumption) (by rfl))) ?_ | refine rl_q rfl (q_loadB (by exact Tk.out) rfl (by assumption) (by rfl)) ?_ | refine rl_q rfl (q_load (by exact Tk.out) rfl (c1_cell (by assumption))) ?_ | refine x_blk_n ?_ | refine x_block ?_ | refine x_skip ?_ | refine x_label ?_ | refine x_ret ?_ | refine x_exit ?_ | refine x_then_r ?_ | refine x_then_e ?_ | refine x_blk_e ?_ | refine x_blk_r ?_ | refine x_blk_o rfl ?_ | refine x_cond_t rfl ?_ | refine x_cond_f rfl ?_ | refine rl_go rfl rfl ?_ | refine rl_no rfl rfl rfl rfl ?_)
  refine rl_e rfl (e_call (by exact Hs.out) rfl (rt (comps_c hg hN hE) fun v w1 hv => ?_))
  obtain ⟨bc, comp, n, rfl, hbc1, hbcw, hnN, hP, o1⟩ := hv
  have hX : ∀ i (hi : i < L.length), (Tj.crosses i (esOf L) comp).length + L[i].length ≤ 1000000000 := fun i hi => by
    have h1 := crosses_le hB comp i (by omega)
    have h2 := hB _ (List.getElem_mem hi)
    have h3 : (i + 1) * B ≤ L.length * B := Nat.mul_le_mul_right B hi
    rw [Nat.succ_mul] at h3
    omega
  have hXN : (Tj.crosses L.length (esOf L) comp).length ≤ 1000000000 := Nat.le_trans (crosses_le hB comp L.length (Nat.le_refl _)) hNB
  have hz1 := o1.size
  repeat (first | refine x_seq ?_ | refine x_reg ?_ | refine x_nil ?_ | refine x_then_n ?_ | refine rl_q rfl (q_move rfl) ?_ | refine rl_q rfl (q_nil rfl) ?_ | refine rl_q rfl (q_fa0 (by exact Fo.out) rfl) ?_ | refine rl_q rfl (q_fak (by exact Fo.out) rfl) ?_ | refine rl_q rfl (q_fieldAddr (by exact Fo.out) rfl) ?_ | refine rl_q rfl (q_assign rfl) ?_ | refine rl_q rfl (q_len rfl (by kernel_rfl) rfl) ?_ | refine rl_q rfl (q_extract rfl rfl) ?_ | refine rl_q rfl (q_addi _ rfl rfl rfl (by omega) (by omega)) ?_ | refine rl_q rfl (q_subi _ rfl rfl rfl (by omega) (by omega)) ?_ | refine rl_q rfl (q_muli _ rfl rfl rfl (by omega) (by omega)) ?_ | refine rl_q rfl (q_pick_t rfl rfl) ?_ | refine rl_q rfl (q_pick_f rfl rfl) ?_ | refine rl_q rfl (q_lt_t rfl rfl (by omega)) ?_ | refine rl_q rfl (q_lt_f rfl rfl (by omega)) ?_ | refine rl_q rfl (q_le_t rfl rfl (by omega)) ?_ | refine rl_q rfl (q_le_f rfl rfl (by omega)) ?_ | refine rl_q rfl (q_gt_t rfl rfl (by omega)) ?_ | refine rl_q rfl (q_gt_f rfl rfl (by omega)) ?_ | refine rl_q rfl (q_ge_t rfl rfl (by omega)) ?_ | refine rl_q rfl (q_ge_f rfl rfl (by omega)) ?_ | refine rl_q rfl (q_eq_t rfl rfl (by omega)) ?_ | refine rl_q rfl (q_eq_f rfl rfl (by omega)) ?_ | refine rl_q rfl (q_ne_t rfl rfl (by omega)) ?_ | refine rl_q rfl (q_ne_f rfl rfl (by omega)) ?_ | refine rl_q rfl (q_lt rfl rfl) ?_ | refine rl_q rfl (q_le rfl rfl) ?_ | refine rl_q rfl (q_gt rfl rfl) ?_ | refine rl_q rfl (q_ge rfl rfl) ?_ | refine rl_q rfl (q_eq rfl rfl) ?_ | refine rl_q rfl (q_ne rfl rfl) ?_ | refine rl_q rfl (q_not rfl) ?_ | refine rl_q rfl (q_nilf rfl) ?_ | refine rl_q rfl (q_makeFunc rfl rfl) ?_ | refine rl_q rfl (q_field (by exact Fo.out) (by kernel_rfl) rfl rfl) ?_ | refine rl_q rfl (q_load (by exact Tk.out) rfl (c1 (by assumption) (by rfl))) ?_ | refine rl_q rfl (q_loadB (by exact Tk.out) rfl (by assumption) (by rfl)) ?_ | refine rl_q rfl (q_load (by exact Tk.out) rfl (c1_cell (by assumption))) ?_ | refine x_blk_n ?_ | refine x_block ?_ | refine x_skip ?_ | refine x_label ?_ | refine x_ret ?_ | refine x_exit ?_ | refine x_then_r ?_ | refine x_then_e ?_ | refine x_blk_e ?_ | refine x_blk_r ?_ | refine x_blk_o rfl ?_ | refine x_cond_t rfl ?_ | refine x_cond_f rfl ?_ | refine rl_go rfl rfl ?_ | refine rl_no rfl rfl rfl rfl ?_)
  refine rl_e rfl (e_mk1 (m := n) (by exact Us.out) (by exact Zi.out) rfl rfl rfl (by omega) (by omega) fun bm w2 n2 => ?_)
  refine rl_e rfl (e_alloc (by exact Zi.out) fun bv w3 n3 => ?_)
  refine rl_n (e_store1 (by exact Tk.out) rfl rfl rfl n3.here (by simp [Value.cells]) fun w4 p4 => ?_)
  have hbv4 : w4.heap[bv]? = some (.cells #[.slice (some ⟨bm, 0, none⟩) n n] 38 (0, 0)) := p4.here
  have hbm4 := getp p4 (getk n3.kept n2.here) (blk_ne (getk n3.kept n2.here) n3.here rfl)
  rw [rowV_rep] at hbm4
  have hbc4 := getp p4 (getk n3.kept (getk n2.kept hbc1)) (blk_ne (getk n3.kept (getk n2.kept hbc1)) n3.here rfl)
  have o4 : Old w w4 := ((o1.grow n2.kept).grow n3.kept).put p4 (by have := n3.fresh; have := n2.kept.size; omega)
  repeat (first | refine x_seq ?_ | refine x_reg ?_ | refine x_nil ?_ | refine x_then_n ?_ | refine rl_q rfl (q_move rfl) ?_ | refine rl_q rfl (q_nil rfl) ?_ | refine rl_q rfl (q_fa0 (by exact Fo.out) rfl) ?_ | refine rl_q rfl (q_fak (by exact Fo.out) rfl) ?_ | refine rl_q rfl (q_fieldAddr (by exact Fo.out) rfl) ?_ | refine rl_q rfl (q_assign rfl) ?_ | refine rl_q rfl (q_len rfl (by kernel_rfl) rfl) ?_ | refine rl_q rfl (q_extract rfl rfl) ?_ | refine rl_q rfl (q_addi _ rfl rfl rfl (by omega) (by omega)) ?_ | refine rl_q rfl (q_subi _ rfl rfl rfl (by omega) (by omega)) ?_ | refine rl_q rfl (q_muli _ rfl rfl rfl (by omega) (by omega)) ?_ | refine rl_q rfl (q_pick_t rfl rfl) ?_ | refine rl_q rfl (q_pick_f rfl rfl) ?_ | refine rl_q rfl (q_lt_t rfl rfl (by omega)) ?_ | refine rl_q rfl (q_lt_f rfl rfl (by omega)) ?_ | refine rl_q rfl (q_le_t rfl rfl (by omega)) ?_ | refine rl_q rfl (q_le_f rfl rfl (by omega)) ?_ | refine rl_q rfl (q_gt_t rfl rfl (by omega)) ?_ | refine rl_q rfl (q_gt_f rfl rfl (by omega)) ?_ | refine rl_q rfl (q_ge_t rfl rfl (by omega)) ?_ | refine rl_q rfl (q_ge_f rfl rfl (by omega)) ?_ | refine rl_q rfl (q_eq_t rfl rfl (by omega)) ?_ | refine rl_q rfl (q_eq_f rfl rfl (by omega)) ?_ | refine rl_q rfl (q_ne_t rfl rfl (by omega)) ?_ | refine rl_q rfl (q_ne_f rfl rfl (by omega)) ?_ | refine rl_q rfl (q_lt rfl rfl) ?_ | refine rl_q rfl (q_le rfl rfl) ?_ | refine rl_q rfl (q_gt rfl rfl) ?_ | refine rl_q rfl (q_ge rfl rfl) ?_ | refine rl_q rfl (q_eq rfl rfl) ?_ | refine rl_q rfl (q_ne rfl rfl) ?_ | refine rl_q rfl (q_not rfl) ?_ | refine rl_q rfl (q_nilf rfl) ?_ | refine rl_q rfl (q_makeFunc rfl rfl) ?_ | refine rl_q rfl (q_field (by exact Fo.out) (by kernel_rfl) rfl rfl) ?_ | refine rl_q rfl (q_load (by exact Tk.out) rfl (c1 (by assumption) (by rfl))) ?_ | refine rl_q rfl (q_loadB (by exact Tk.out) rfl (by assumption) (by rfl)) ?_ | refine rl_q rfl (q_load (by exact Tk.out) rfl (c1_cell (by assumption))) ?_ | refine x_blk_n ?_ | refine x_block ?_ | refine x_skip ?_ | refine x_label ?_ | refine x_ret ?_ | refine x_exit ?_ | refine x_then_r ?_ | refine x_then_e ?_ | refine x_blk_e ?_ | refine x_blk_r ?_ | refine x_blk_o rfl ?_ | refine x_cond_t rfl ?_ | refine x_cond_f rfl ?_ | refine rl_go rfl rfl ?_ | refine rl_no rfl rfl rfl rfl ?_)
  refine F.sub ?_ (loop0 (ev := .slice A L.length cap) (n2 := w4.heap.size) (nb := w1.heap.size) hbc4 hbv4 hbm4 hP.lt hN (heap_lt hbc1) n2.fresh (heap_lt hbm4) (Nat.le_refl _) fun vs w5 hm5 ns5 k5 => ?_)
  exact (And.intro rfl (And.intro rfl (And.intro rfl (And.intro rfl (And.intro rfl (And.intro rfl (And.intro rfl trivial)))))))
  have hbv5 := gett k5 hbv4 rfl
  have hbc5 := getb k5 hbc4 (heap_lt hbc1)
  have o5 : Old w w5 := o4.kept k5 hz1
  have mf5 : MF w5 L.length bv bm n w4.heap.size vs comp := ⟨hbv5, hm5, ns5⟩
  have hz5 := o5.size
  repeat (first | refine x_seq ?_ | refine x_reg ?_ | refine x_nil ?_ | refine x_then_n ?_ | refine x_blk_n ?_ | refine x_block ?_ | refine x_skip ?_ | refine x_label ?_ | refine x_ret ?_ | refine x_exit ?_ | refine x_then_r ?_ | refine x_then_e ?_ | refine x_blk_e ?_ | refine x_blk_r ?_ | refine x_blk_o rfl ?_ | refine x_cond_t rfl ?_ | refine x_cond_f rfl ?_ | refine rl_go rfl rfl ?_ | refine rl_no rfl rfl rfl rfl ?_)
  refine x_cut (γ := Nat × Nat) (fun g => [(0, .slice A L.length cap), (3, .slice (some ⟨bc, 0, none⟩) L.length L.length), (4, .int .i64 (n : Int)), (5, .pointer (some ⟨bv, 0, none⟩)), (8, .slice (some ⟨g.1, 0, none⟩) n n), (9, .slice (some ⟨g.2, 0, none⟩) n n)])
    (fun g w' => w'.heap[g.1]? = some (.cells (rowA n (up fun _ => 0)) 3 (0, 0)) ∧ w'.heap[g.2]? = some (.cells (rowV n fun _ => .slice none 0 0) 37 (0, 0)) ∧ w5.heap.size ≤ g.1 ∧ w5.heap.size ≤ g.2 ∧ Kept 0 [] w5 w') ?rest ?first
  case first =>
    refine x_drawH [1, 3] mixed fun wd hk_wd hS_wd => ?_
    refine dr_p 0 rfl rfl (by kernel_rfl) (by kernel_rfl) (by kernel_rfl) (by kernel_rfl) (q_move rfl) hS_wd ?_
    refine dr_p 2 rfl rfl (by kernel_rfl) (by kernel_rfl) (by kernel_rfl) (by kernel_rfl) (q_move rfl) hS_wd ?_
    refine dr_all [1, 3] (by kernel_rfl) (by decide) (List.forall_mem_cons.2 ⟨?_, List.forall_mem_cons.2 ⟨?_, fun _ h => by cases h⟩⟩)
    · refine st1_e rfl rfl (e_mk1 (m := n) (by exact Us.out) (by exact Zi.out) rfl rfl rfl (by omega) (by omega) fun bw wa na => ⟨fun hu => unl hu (by kernel_rfl), ?_⟩)
      refine dr_p' 4 rfl rfl (by kernel_rfl) (by kernel_rfl) (by kernel_rfl) (by kernel_rfl) (q_assign rfl) (by kernel_rfl) ?_
      refine dr_e 3 (by kernel_rfl) rfl rfl (e_mk1 (m := n) (by exact Us.out) (by exact Zi.out) rfl rfl rfl (by omega) (by omega) fun bb wb nb => ⟨fun hu => unl hu (by kernel_rfl), ?_⟩)
      refine dr_p' 5 rfl rfl (by kernel_rfl) (by kernel_rfl) (by kernel_rfl) (by kernel_rfl) (q_assign rfl) (by kernel_rfl) ?_
      refine dr_done (by kernel_rfl) ?_
      refine x_then_n ?_
      have h1 := getk nb.kept na.here
      rw [rowA_zero] at h1
      have h2 := nb.here
      rw [rowV_rep] at h2
      refine x_meet (bw, bb) (And.intro rfl (And.intro rfl (And.intro rfl (And.intro rfl (And.intro rfl (And.intro rfl trivial)))))) ⟨h1, h2, ?_, ?_, (hk_wd.trans na.kept).trans nb.kept⟩
      · have := na.fresh; have := hk_wd.size; dsimp only; omega
      · have := nb.fresh; have := na.kept.size; have := hk_wd.size; dsimp only; omega
    · refine st1_e rfl rfl (e_mk1 (m := n) (by exact Us.out) (by exact Zi.out) rfl rfl rfl (by omega) (by omega) fun bb wb nb => ⟨fun hu => unl hu (by kernel_rfl), ?_⟩)
      refine dr_e 1 (by kernel_rfl) rfl rfl (e_mk1 (m := n) (by exact Us.out) (by exact Zi.out) rfl rfl rfl (by omega) (by omega) fun bw wa na => ⟨fun hu => unl hu (by kernel_rfl), ?_⟩)
      refine dr_p' 4 rfl rfl (by kernel_rfl) (by kernel_rfl) (by kernel_rfl) (by kernel_rfl) (q_assign rfl) (by kernel_rfl) ?_
      refine dr_p' 5 rfl rfl (by kernel_rfl) (by kernel_rfl) (by kernel_rfl) (by kernel_rfl) (q_assign rfl) (by kernel_rfl) ?_
      refine dr_done (by kernel_rfl) ?_
      refine x_then_n ?_
      have h1 := na.here
      rw [rowA_zero] at h1
      have h2 := getk na.kept nb.here
      rw [rowV_rep] at h2
      refine x_meet (bw, bb) (And.intro rfl (And.intro rfl (And.intro rfl (And.intro rfl (And.intro rfl (And.intro rfl trivial)))))) ⟨h1, h2, ?_, ?_, (hk_wd.trans nb.kept).trans na.kept⟩
      · have := na.fresh; have := nb.kept.size; have := hk_wd.size; dsimp only; omega
      · have := nb.fresh; have := hk_wd.size; dsimp only; omega
  rintro ⟨bw, bb⟩ w7 ⟨hw7, hb7, lw7, lb7, k7⟩
  dsimp only at hw7 hb7 lw7 lb7 ⊢
  have o7 := o5.grow k7
  have hbc7 := getk k7 hbc5
  have lbc : bc < w5.heap.size := heap_lt hbc5
  have hwb7 : WB w7 w7 w5.heap.size w7.heap.size bw bb n (fun _ => .slice none 0 0) [] := ⟨hw7, hb7, .nil _ _ _, Kept.refl _ _ _⟩
  repeat (first | refine x_seq ?_ | refine x_reg ?_ | refine x_nil ?_ | refine x_then_n ?_ | refine rl_q rfl (q_move rfl) ?_ | refine rl_q rfl (q_nil rfl) ?_ | refine rl_q rfl (q_fa0 (by exact Fo.out) rfl) ?_ | refine rl_q rfl (q_fak (by exact Fo.out) rfl) ?_ | refine rl_q rfl (q_fieldAddr (by exact Fo.out) rfl) ?_ | refine rl_q rfl (q_assign rfl) ?_ | refine rl_q rfl (q_len rfl (by kernel_rfl) rfl) ?_ | refine rl_q rfl (q_extract rfl rfl) ?_ | refine rl_q rfl (q_addi _ rfl rfl rfl (by omega) (by omega)) ?_ | refine rl_q rfl (q_subi _ rfl rfl rfl (by omega) (by omega)) ?_ | refine rl_q rfl (q_muli _ rfl rfl rfl (by omega) (by omega)) ?_ | refine rl_q rfl (q_pick_t rfl rfl) ?_ | refine rl_q rfl (q_pick_f rfl rfl) ?_ | refine rl_q rfl (q_lt_t rfl rfl (by omega)) ?_ | refine rl_q rfl (q_lt_f rfl rfl (by omega)) ?_ | refine rl_q rfl (q_le_t rfl rfl (by omega)) ?_ | refine rl_q rfl (q_le_f rfl rfl (by omega)) ?_ | refine rl_q rfl (q_gt_t rfl rfl (by omega)) ?_ | refine rl_q rfl (q_gt_f rfl rfl (by omega)) ?_ | refine rl_q rfl (q_ge_t rfl rfl (by omega)) ?_ | refine rl_q rfl (q_ge_f rfl rfl (by omega)) ?_ | refine rl_q rfl (q_eq_t rfl rfl (by omega)) ?_ | refine rl_q rfl (q_eq_f rfl rfl (by omega)) ?_ | refine rl_q rfl (q_ne_t rfl rfl (by omega)) ?_ | refine rl_q rfl (q_ne_f rfl rfl (by omega)) ?_ | refine rl_q rfl (q_lt rfl rfl) ?_ | refine rl_q rfl (q_le rfl rfl) ?_ | refine rl_q rfl (q_gt rfl rfl) ?_ | refine rl_q rfl (q_ge rfl rfl) ?_ | refine rl_q rfl (q_eq rfl rfl) ?_ | refine rl_q rfl (q_ne rfl rfl) ?_ | refine rl_q rfl (q_not rfl) ?_ | refine rl_q rfl (q_nilf rfl) ?_ | refine rl_q rfl (q_makeFunc rfl rfl) ?_ | refine rl_q rfl (q_field (by exact Fo.out) (by kernel_rfl) rfl rfl) ?_ | refine rl_q rfl (q_load (by exact Tk.out) rfl (c1 (by assumption) (by rfl))) ?_ | refine rl_q rfl (q_loadB (by exact Tk.out) rfl (by assumption) (by rfl)) ?_ | refine rl_q rfl (q_load (by exact Tk.out) rfl (c1_cell (by assumption))) ?_ | refine x_blk_n ?_ | refine x_block ?_ | refine x_skip ?_ | refine x_label ?_ | refine x_ret ?_ | refine x_exit ?_ | refine x_then_r ?_ | refine x_then_e ?_ | refine x_blk_e ?_ | refine x_blk_r ?_ | refine x_blk_o rfl ?_ | refine x_cond_t rfl ?_ | refine x_cond_f rfl ?_ | refine rl_go rfl rfl ?_ | refine rl_no rfl rfl rfl rfl ?_)
  refine F.sub ?_ (loop2 (bv := bv) hg o7 hz5 hbc7 hP.lt lbc lw7 lb7 (heap_lt hw7) (heap_lt hb7) (Nat.le_refl _) hN hX hwb7 fun ws w8 hwb8 => ?_)
  exact (And.intro rfl (And.intro rfl (And.intro rfl (And.intro rfl (And.intro rfl (And.intro rfl (And.intro rfl (And.intro rfl (And.intro rfl trivial)))))))))
  have k8 : Kept w5.heap.size [3, 37, 165, 167] w5 w8 := (Kept.all k7).trans (hwb8.k.mono (Nat.le_refl _) (by simp))
  have hz8 := k8.size
  have hz78 := hwb8.k.size
  have lw78 := heap_lt hw7
  have lb78 := heap_lt hb7
  repeat (first | refine x_seq ?_ | refine x_reg ?_ | refine x_nil ?_ | refine x_then_n ?_ | refine x_blk_n ?_ | refine x_block ?_ | refine x_skip ?_ | refine x_label ?_ | refine x_ret ?_ | refine x_exit ?_ | refine x_then_r ?_ | refine x_then_e ?_ | refine x_blk_e ?_ | refine x_blk_r ?_ | refine x_blk_o rfl ?_ | refine x_cond_t rfl ?_ | refine x_cond_f rfl ?_ | refine rl_go rfl rfl ?_ | refine rl_no rfl rfl rfl rfl ?_)
  refine rl_q rfl (q_makeFunc rfl rfl) ?_
  refine rl_e rfl (e_call (by exact Hs.out) rfl <| rt (HI.new_c w8.heap.size w8 (Nat.le_refl _) 86 #[] #[.pointer (some ⟨bv, 0, none⟩)]) fun v w9 hv => ?_)
  obtain ⟨p, rfl, hh9, k9, hp9⟩ := hv
  refine rl_q rfl (q_assign rfl) ?_
  repeat (first | refine x_seq ?_ | refine x_reg ?_ | refine x_nil ?_ | refine x_then_n ?_ | refine x_blk_n ?_ | refine x_block ?_ | refine x_skip ?_ | refine x_label ?_ | refine x_ret ?_ | refine x_exit ?_ | refine x_then_r ?_ | refine x_then_e ?_ | refine x_blk_e ?_ | refine x_blk_r ?_ | refine x_blk_o rfl ?_ | refine x_cond_t rfl ?_ | refine x_cond_f rfl ?_ | refine rl_go rfl rfl ?_ | refine rl_no rfl rfl rfl rfl ?_)
  have k9' := k8.trans (Kept.all k9)
  have ks9 : KS w9 L.length bv bm bw bb p n w4.heap.size w7.heap.size w8.heap.size comp vs ws (Tj.crosses L.length (esOf L) comp) (cw (Tj.crosses L.length (esOf L) comp)) [] 0 :=
    ⟨mf5.below k9' (Nat.le_refl _), getk k9 hwb8.hw, getk k9 hwb8.hb, hwb8.ns.grow k9, hh9, fun k _ hk => by simp at hk, fun e he => by cases he⟩
  repeat (first | refine x_seq ?_ | refine x_reg ?_ | refine x_nil ?_ | refine x_then_n ?_ | refine rl_q rfl (q_move rfl) ?_ | refine rl_q rfl (q_nil rfl) ?_ | refine rl_q rfl (q_fa0 (by exact Fo.out) rfl) ?_ | refine rl_q rfl (q_fak (by exact Fo.out) rfl) ?_ | refine rl_q rfl (q_fieldAddr (by exact Fo.out) rfl) ?_ | refine rl_q rfl (q_assign rfl) ?_ | refine rl_q rfl (q_len rfl (by kernel_rfl) rfl) ?_ | refine rl_q rfl (q_extract rfl rfl) ?_ | refine rl_q rfl (q_addi _ rfl rfl rfl (by omega) (by omega)) ?_ | refine rl_q rfl (q_subi _ rfl rfl rfl (by omega) (by omega)) ?_ | refine rl_q rfl (q_muli _ rfl rfl rfl (by omega) (by omega)) ?_ | refine rl_q rfl (q_pick_t rfl rfl) ?_ | refine rl_q rfl (q_pick_f rfl rfl) ?_ | refine rl_q rfl (q_lt_t rfl rfl (by omega)) ?_ | refine rl_q rfl (q_lt_f rfl rfl (by omega)) ?_ | refine rl_q rfl (q_le_t rfl rfl (by omega)) ?_ | refine rl_q rfl (q_le_f rfl rfl (by omega)) ?_ | refine rl_q rfl (q_gt_t rfl rfl (by omega)) ?_ | refine rl_q rfl (q_gt_f rfl rfl (by omega)) ?_ | refine rl_q rfl (q_ge_t rfl rfl (by omega)) ?_ | refine rl_q rfl (q_ge_f rfl rfl (by omega)) ?_ | refine rl_q rfl (q_eq_t rfl rfl (by omega)) ?_ | refine rl_q rfl (q_eq_f rfl rfl (by omega)) ?_ | refine rl_q rfl (q_ne_t rfl rfl (by omega)) ?_ | refine rl_q rfl (q_ne_f rfl rfl (by omega)) ?_ | refine rl_q rfl (q_lt rfl rfl) ?_ | refine rl_q rfl (q_le rfl rfl) ?_ | refine rl_q rfl (q_gt rfl rfl) ?_ | refine rl_q rfl (q_ge rfl rfl) ?_ | refine rl_q rfl (q_eq rfl rfl) ?_ | refine rl_q rfl (q_ne rfl rfl) ?_ | refine rl_q rfl (q_not rfl) ?_ | refine rl_q rfl (q_nilf rfl) ?_ | refine rl_q rfl (q_makeFunc rfl rfl) ?_ | refine rl_q rfl (q_field (by exact Fo.out) (by kernel_rfl) rfl rfl) ?_ | refine rl_q rfl (q_load (by exact Tk.out) rfl (c1 (by assumption) (by rfl))) ?_ | refine rl_q rfl (q_loadB (by exact Tk.out) rfl (by assumption) (by rfl)) ?_ | refine rl_q rfl (q_load (by exact Tk.out) rfl (c1_cell (by assumption))) ?_ | refine x_blk_n ?_ | refine x_block ?_ | refine x_skip ?_ | refine x_label ?_ | refine x_ret ?_ | refine x_exit ?_ | refine x_then_r ?_ | refine x_then_e ?_ | refine x_blk_e ?_ | refine x_blk_r ?_ | refine x_blk_o rfl ?_ | refine x_cond_t rfl ?_ | refine x_cond_f rfl ?_ | refine rl_go rfl rfl ?_ | refine rl_no rfl rfl rfl rfl ?_)
  refine F.sub ?_ (loop6 ks9 hP (by omega) fun es w10 ks10 hK10 k10 => ?_)
  exact (And.intro rfl (And.intro rfl (And.intro rfl (And.intro rfl (And.intro rfl (And.intro rfl trivial))))))
  have k10' := k9'.trans (k10.mono hz8 (by simp))
  have hl10 := hK10.le
  have hHl : (Hs' es).length = es.length := by simp [Hs']
  repeat (first | refine x_seq ?_ | refine x_reg ?_ | refine x_nil ?_ | refine x_then_n ?_ | refine x_blk_n ?_ | refine x_block ?_ | refine x_skip ?_ | refine x_label ?_ | refine x_ret ?_ | refine x_exit ?_ | refine x_then_r ?_ | refine x_then_e ?_ | refine x_blk_e ?_ | refine x_blk_r ?_ | refine x_blk_o rfl ?_ | refine x_cond_t rfl ?_ | refine x_cond_f rfl ?_ | refine rl_go rfl rfl ?_ | refine rl_no rfl rfl rfl rfl ?_)
  refine rl_q rfl (q_assign rfl) ?_
  repeat (first | refine x_seq ?_ | refine x_reg ?_ | refine x_nil ?_ | refine x_then_n ?_ | refine x_blk_n ?_ | refine x_block ?_ | refine x_skip ?_ | refine x_label ?_ | refine x_ret ?_ | refine x_exit ?_ | refine x_then_r ?_ | refine x_then_e ?_ | refine x_blk_e ?_ | refine x_blk_r ?_ | refine x_blk_o rfl ?_ | refine x_cond_t rfl ?_ | refine x_cond_f rfl ?_ | refine rl_go rfl rfl ?_ | refine rl_no rfl rfl rfl rfl ?_)
  refine rl_q rfl (q_move rfl) ?_
  refine rl_e rfl (e_call (by exact Hs.out) rfl <| rt (pop_k ks10 hP hK10 (by simp at hl10; omega)) fun v w11 hv => ?_)
  obtain ⟨mo, es11, rfl, ks11, hn11, hs11, k11⟩ := hv
  refine rl_q rfl (q_move rfl) ?_
  refine rl_q rfl (q_extract rfl rfl) ?_
  refine rl_q rfl (q_extract rfl rfl) ?_
  refine rl_q rfl (q_assign rfl) ?_
  refine rl_q rfl (q_assign rfl) ?_
  repeat (first | refine x_seq ?_ | refine x_reg ?_ | refine x_nil ?_ | refine x_then_n ?_ | refine x_blk_n ?_ | refine x_block ?_ | refine x_skip ?_ | refine x_label ?_ | refine x_ret ?_ | refine x_exit ?_ | refine x_then_r ?_ | refine x_then_e ?_ | refine x_blk_e ?_ | refine x_blk_r ?_ | refine x_blk_o rfl ?_ | refine x_cond_t rfl ?_ | refine x_cond_f rfl ?_ | refine rl_go rfl rfl ?_ | refine rl_no rfl rfl rfl rfl ?_)
  have hz9 := k9.size
  have hz10 := k10.size
  have hz11 := k11.size
  refine F.sub ?_ (loop8 (bb := bb) (nh := w8.heap.size) (n3 := w7.heap.size) (n2 := w4.heap.size) (ws := ws) (p := p) (mo := mo) (W := cw (Tj.crosses L.length (esOf L) comp)) (es := es11) mf5 (Nat.le_refl _) lw7 (heap_lt hw7) hz8 (by omega) (by omega) hP (by omega) hXN ?_ ?_ (fun c hc => (hs11 c hc).1) (k10'.trans (k11.mono hz8 (by simp))) fun outs outv w12 mf12 own12 hc12 hcan k12 => ?_)
  · exact (And.intro rfl (And.intro rfl (And.intro rfl (And.intro rfl (And.intro rfl (And.intro rfl (And.intro rfl trivial)))))))
  · have : mo.toList.length + es11.length = es.length := by
      cases mo with
      | none => obtain ⟨rfl, rfl⟩ := hn11 rfl; rfl
      | some d => have := (hs11 d rfl).2; simp; omega
    rw [this]; exact ks11
  · intro e
    obtain ⟨rfl, rfl⟩ := hn11 e
    exact ⟨rfl, hK10⟩
  · repeat (first | refine x_seq ?_ | refine x_reg ?_ | refine x_nil ?_ | refine x_then_n ?_ | refine x_blk_n ?_ | refine x_block ?_ | refine x_skip ?_ | refine x_label ?_ | refine x_ret ?_ | refine x_exit ?_ | refine x_then_r ?_ | refine x_then_e ?_ | refine x_blk_e ?_ | refine x_blk_r ?_ | refine x_blk_o rfl ?_ | refine x_cond_t rfl ?_ | refine x_cond_f rfl ?_ | refine rl_go rfl rfl ?_ | refine rl_no rfl rfl rfl rfl ?_)
    refine rl_q rfl (q_move rfl) ?_
    refine rl_q rfl (q_assign rfl) ?_
    repeat (first | refine x_seq ?_ | refine x_reg ?_ | refine x_nil ?_ | refine x_then_n ?_ | refine x_blk_n ?_ | refine x_block ?_ | refine x_skip ?_ | refine x_label ?_ | refine x_ret ?_ | refine x_exit ?_ | refine x_then_r ?_ | refine x_then_e ?_ | refine x_blk_e ?_ | refine x_blk_r ?_ | refine x_blk_o rfl ?_ | refine x_cond_t rfl ?_ | refine x_cond_f rfl ?_ | refine rl_go rfl rfl ?_ | refine rl_no rfl rfl rfl rfl ?_)
    refine x_done1 rfl rfl ⟨_, rfl, outL L.length comp outs, ?_, hcan, o5.kept k12 hz5⟩
    have := rdS_own (f := sl1 vs) (k := 1) (fun _ => rfl) own12 (fun c => (Tj.mem L.length comp c).map Int.ofNat) (R := RRow w12) (fun c hc => ⟨vs c, rfl, rdS_own ints_len (mf12.ns.own c (hc12 c hc)) Int.ofNat (fun e _ => rfl)⟩)
    rw [outL, List.map_map]
    exact this
end Go.Proofs.YtnjjjfffppllfaaX.G
