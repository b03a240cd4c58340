/- The laws of the graph: which nodes lead to which. -/
import Derived.Test.YtnjjjfffppllfaaLo
import Derived.Test.YtnjjjfffppllfaaLr
import Derived.Test.YtnjjjfffppllfaaMu
import Derived.Test.YtnjjjfffppllfaaGw
namespace Go.Proofs.YtnjjjfffppllfaaX.G
open Go.RowKit Go.Proofs.YtnjjjfffppllfaaK
open Tj (wsh)
attribute [local irreducible] F Qt Ef Code.wp wpList wpT bodyPost Calls
set_option linter.unusedVariables false
set_option linter.unusedSimpArgs false

theorem rowV_congr {n : Nat} {f g : Nat → Value} (h : ∀ i, i < n → f i = g i) : rowV n f = rowV n g := by
  unfold rowV
  rw [List.map_congr_left fun i hi => h i (List.mem_range.1 hi)]
/-- A square of truth values in memory, its first m rows. -/
structure RB (w : World) (n0 bo n m : Nat) (rb : Nat → Nat) (M : Nat → Nat → Bool) : Prop where
  ho : w.heap[bo]? = some (.cells (rowV n fun i => if i < m then .slice (some ⟨rb i, 0, none⟩) n n else .slice none 0 0) 120 (0, 0))
  hr : ∀ i, i < m → w.heap[rb i]? = some (.cells (rowV n fun j => .bool (M i j)) 4 (0, 0))
  ne : ∀ i j, i < m → j < m → i ≠ j → rb i ≠ rb j
  lo : n0 ≤ bo ∧ ∀ i, i < m → n0 ≤ rb i
section
variable {w w' : World} {n0 bo n m : Nat} {rb : Nat → Nat} {M : Nat → Nat → Bool}
theorem RB.keep (h : RB w n0 bo n m rb M) {k : Nat} {Ts : List TypeId} (hk : Kept k Ts w w') (h1 : Ts.contains 120 = false) (h2 : Ts.contains 4 = false) : RB w' n0 bo n m rb M :=
  ⟨gett hk h.ho h1, fun i hi => gett hk (h.hr i hi) h2, h.ne, h.lo⟩
theorem RB.grow (h : RB w n0 bo n m rb M) (hk : Kept 0 [] w w') : RB w' n0 bo n m rb M := h.keep hk rfl rfl
theorem RB.below (h : RB w n0 bo n m rb M) {k : Nat} {Ts : List TypeId} (hk : Kept k Ts w w') (hm : w.heap.size ≤ k) : RB w' n0 bo n m rb M :=
  ⟨getb hk h.ho (Nat.lt_of_lt_of_le (heap_lt h.ho) hm), fun i hi => getb hk (h.hr i hi) (Nat.lt_of_lt_of_le (heap_lt (h.hr i hi)) hm), h.ne, h.lo⟩
theorem RB.congr (h : RB w n0 bo n m rb M) {M' : Nat → Nat → Bool} (he : ∀ i j, i < m → j < n → M i j = M' i j) : RB w n0 bo n m rb M' :=
  ⟨h.ho, fun i hi => by rw [h.hr i hi, rowV_congr fun j hj => congrArg Value.bool (he i j hi hj)], h.ne, h.lo⟩
theorem RB.set (h : RB w n0 bo n m rb M) {i j : Nat} (hi : i < m) {v : Bool} (hp : Put w w' (rb i) (.cells ((rowV n fun j => .bool (M i j)).setIfInBounds j (.bool v)) 4 (0, 0))) : RB w' n0 bo n m rb (Tj.upd M i (Tj.upd (M i) j v)) := by
  refine ⟨getp hp h.ho (blk_ne h.ho (h.hr i hi) rfl), fun a ha => ?_, h.ne, h.lo⟩
  by_cases e : a = i
  · subst e
    rw [hp.here, rowV_set, Tj.upd_i, rowV_congr fun b hb => ?_]
    unfold Tj.upd
    split <;> rfl
  · rw [Tj.upd_o _ _ e]
    exact getp hp (h.hr a ha) (h.ne a i ha hi e)
theorem RB.row (h : RB w n0 bo n m rb M) (hm : m < n) {w1 : World} {b : Nat} (hn : New w w1 b (.cells (Array.replicate n (.bool false)) 4 (0, 0)))
    (hp : Put w1 w' bo (.cells ((rowV n fun i => if i < m then .slice (some ⟨rb i, 0, none⟩) n n else .slice none 0 0).setIfInBounds m (.slice (some ⟨b, 0, none⟩) n n)) 120 (0, 0))) (hw : n0 ≤ w.heap.size) : RB w' n0 bo n (m + 1) (Tj.upd rb m b) (Tj.upd M m fun _ => false) := by
  have hb := hn.fresh
  refine ⟨?_, fun a ha => ?_, fun a c ha hc hac => ?_, h.lo.1, fun a ha => ?_⟩
  · rw [hp.here, rowV_set, rowV_congr fun i hi => ?_]
    unfold Tj.upd
    by_cases e : i = m
    · subst e; simp
    · rw [if_neg e]
      dsimp only
      by_cases hi : i < m
      · simp [hi, e, show i < m + 1 by omega]
      · simp [hi, show ¬ i < m + 1 by omega]
  · by_cases e : a = m
    · subst e
      rw [Tj.upd_i, Tj.upd_i]
      have h1 := hn.here
      rw [rowV_rep] at h1
      exact getp hp h1 (blk_ne h1 (getk hn.kept h.ho) rfl)
    · rw [Tj.upd_o _ _ e, Tj.upd_o _ _ e]
      have h1 := getk hn.kept (h.hr a (by omega))
      exact getp hp h1 (blk_ne h1 (getk hn.kept h.ho) rfl)
  · by_cases e : a = m
    · subst e
      rw [Tj.upd_i, Tj.upd_o _ _ (Ne.symm hac)]
      have := heap_lt (h.hr c (by omega))
      omega
    · rw [Tj.upd_o _ _ e]
      by_cases e2 : c = m
      · subst e2
        rw [Tj.upd_i]
        have := heap_lt (h.hr a (by omega))
        omega
      · rw [Tj.upd_o _ _ e2]
        exact h.ne a c (by omega) (by omega) hac
  · by_cases e : a = m
    · subst e; rw [Tj.upd_i]; omega
    · rw [Tj.upd_o _ _ e]; exact h.lo.2 a (by omega)
theorem RB.outer (h : RB w n0 bo n m rb M) {i : Nat} (hi : i < m) (hmn : m ≤ n) : nth (rowV n fun i => if i < m then .slice (some ⟨rb i, 0, none⟩) n n else .slice none 0 0).toList i = some (.slice (some ⟨rb i, 0, none⟩) n n) := by
  rw [nth_get]
  have := rowV_get (f := fun i => if i < m then Value.slice (some ⟨rb i, 0, none⟩) n n else .slice none 0 0) (i := i) (N := n) (by omega)
  rw [if_pos hi] at this
  simpa using this
theorem RB.inner (h : RB w n0 bo n m rb M) {i j : Nat} (hi : i < m) (hj : j < n) : w.cell? ⟨rb i, j, none⟩ = some (.bool (M i j)) := cell_of (h.hr i hi) (rowV_get (f := fun j => .bool (M i j)) hj)
end

def eL (L : List (List Int)) (i j : Nat) : Bool := decide (some j ∈ esOf L i)

set_option maxHeartbeats 4000000 in
theorem reach1 {Q : Exit → Act → World → Prop} [PanicOk Q] {wi w : World} {ev : Value} {L : List (List Int)} {bo : Nat} (hg : Gr wi ev L) (hN : L.length ≤ 1000) (hE : ∀ l ∈ L, l.length ≤ 1000000) (o : Old wi w)
    (h : RB w wi.heap.size bo L.length 0 (fun _ => 0) fun _ _ => false)
    (rest : ∀ rb w', RB w' wi.heap.size bo L.length L.length rb (wsh (eL L) 0) → Old wi w' → F 96 [(3, .int .i64 (L.length : Int)), (4, .slice (some ⟨bo, 0, none⟩) L.length L.length)] w' (Q .normal)) :
    F 96 [(0, ev), (3, .int .i64 (L.length : Int)), (4, .slice (some ⟨bo, 0, none⟩) L.length L.length), (16, .int .i64 (L.length : Int)), (17, .int .i64 0)] w ((bodyAt Try.f87 [1, 1, 1, 0, 1, 0]).wp Try.prog (Exit.inBlock 0 Q)) := by
  refine x_loop (γ := Nat × (Nat → Nat) × (Nat → Nat → Bool)) (fun g => [(0, ev), (3, .int .i64 (L.length : Int)), (4, .slice (some ⟨bo, 0, none⟩) L.length L.length), (16, .int .i64 (L.length : Int)), (17, .int .i64 (g.1 : Int))])
    (fun g w' => g.1 ≤ L.length ∧ RB w' wi.heap.size bo L.length g.1 g.2.1 g.2.2 ∧ (∀ a b, a < g.1 → b < L.length → g.2.2 a b = eL L a b) ∧ Old wi w') (fun g => L.length - g.1)
    (0, fun _ => 0, fun _ _ => false) (And.intro rfl (And.intro rfl (And.intro rfl (And.intro rfl (And.intro rfl trivial))))) ⟨Nat.zero_le _, h, fun a b ha => absurd ha (Nat.not_lt_zero _), o⟩ ?_
  rintro ⟨i, rb, M⟩ w1 ⟨hi, r1, hM1, o1⟩
  dsimp only at hi r1 hM1 o1 ⊢
  have z1 := o1.size
  by_cases hil : i < L.length
  · obtain ⟨b, ob, cap, u, eu, hc, hu⟩ := hg.row hil
    subst eu
    obtain ⟨Au, cu, rfl, hcu⟩ := hu.open
    have hEi := hE _ (List.getElem_mem hil)
    repeat (first | refine x_seq ?_ | refine x_reg ?_ | refine x_nil ?_ | refine x_then_n ?_ | refine x_blk_n ?_ | refine x_block ?_ | refine x_skip ?_ | refine x_label ?_ | refine x_ret ?_ | refine x_exit ?_ | refine x_then_r ?_ | refine x_then_e ?_ | refine x_blk_e ?_ | refine x_blk_r ?_ | refine x_blk_o rfl ?_ | refine x_cond_t rfl ?_ | refine x_cond_f rfl ?_ | refine rl_go rfl rfl ?_ | refine rl_no rfl rfl rfl rfl ?_)
    refine rl_q rfl (q_lt_t rfl rfl (by omega)) ?_
    repeat (first | refine x_seq ?_ | refine x_reg ?_ | refine x_nil ?_ | refine x_then_n ?_ | refine x_blk_n ?_ | refine x_block ?_ | refine x_skip ?_ | refine x_label ?_ | refine x_ret ?_ | refine x_exit ?_ | refine x_then_r ?_ | refine x_then_e ?_ | refine x_blk_e ?_ | refine x_blk_r ?_ | refine x_blk_o rfl ?_ | refine x_cond_t rfl ?_ | refine x_cond_f rfl ?_ | refine rl_go rfl rfl ?_ | refine rl_no rfl rfl rfl rfl ?_)
    refine rl_q rfl (q_move rfl) ?_
    refine rl_q rfl (q_assign rfl) ?_
    repeat (first | refine x_seq ?_ | refine x_reg ?_ | refine x_nil ?_ | refine x_then_n ?_ | refine x_blk_n ?_ | refine x_block ?_ | refine x_skip ?_ | refine x_label ?_ | refine x_ret ?_ | refine x_exit ?_ | refine x_then_r ?_ | refine x_then_e ?_ | refine x_blk_e ?_ | refine x_blk_r ?_ | refine x_blk_o rfl ?_ | refine x_cond_t rfl ?_ | refine x_cond_f rfl ?_ | refine rl_go rfl rfl ?_ | refine rl_no rfl rfl rfl rfl ?_)
    refine rl_q rfl (q_move rfl) ?_
    refine rl_q rfl (q_move rfl) ?_
    refine rl_q rfl (q_move rfl) ?_
    refine rl_e rfl (e_mk1 (m := L.length) (by exact Us.out) (by exact Zi.out) rfl rfl rfl (by omega) (by omega) fun b2 w2 n2 => ?_)
    refine rl_q rfl (q_index1 (by exact Es.out) rfl rfl rfl hil) ?_
    refine rl_n (e_store1 (by exact Tk.out) rfl rfl rfl (getk n2.kept r1.ho) (by rw [rowV_size]; exact hil) fun w3 p3 => ?_)
    repeat (first | refine x_seq ?_ | refine x_reg ?_ | refine x_nil ?_ | refine x_then_n ?_ | refine x_blk_n ?_ | refine x_block ?_ | refine x_skip ?_ | refine x_label ?_ | refine x_ret ?_ | refine x_exit ?_ | refine x_then_r ?_ | refine x_then_e ?_ | refine x_blk_e ?_ | refine x_blk_r ?_ | refine x_blk_o rfl ?_ | refine x_cond_t rfl ?_ | refine x_cond_f rfl ?_ | refine rl_go rfl rfl ?_ | refine rl_no rfl rfl rfl rfl ?_)
    have r3 := r1.row hil n2 p3 z1
    have o3 : Old wi w3 := (o1.grow n2.kept).put p3 r1.lo.1
    have hc3 := o3.cell hc
    refine rl_q rfl (q_move rfl) ?_
    refine rl_q rfl (q_move rfl) ?_
    refine rl_q rfl (q_indexAddr (by exact Es.out) rfl rfl rfl hil) ?_
    refine rl_q rfl (q_load (by exact Tk.out) rfl (c1_cell hc3)) ?_
    refine rl_q rfl (q_len rfl (by kernel_rfl) rfl) ?_
    refine rl_q rfl (q_move rfl) ?_
    repeat (first | refine x_seq ?_ | refine x_reg ?_ | refine x_nil ?_ | refine x_then_n ?_ | refine x_blk_n ?_ | refine x_block ?_ | refine x_skip ?_ | refine x_label ?_ | refine x_ret ?_ | refine x_exit ?_ | refine x_then_r ?_ | refine x_then_e ?_ | refine x_blk_e ?_ | refine x_blk_r ?_ | refine x_blk_o rfl ?_ | refine x_cond_t rfl ?_ | refine x_cond_f rfl ?_ | refine rl_go rfl rfl ?_ | refine rl_no rfl rfl rfl rfl ?_)
    refine x_loop (γ := Nat × (Nat → Nat → Bool)) (fun g => [(0, .slice (some ⟨b, ob, none⟩) L.length cap), (3, .int .i64 (L.length : Int)), (4, .slice (some ⟨bo, 0, none⟩) L.length L.length), (5, .int .i64 (i : Int)), (16, .int .i64 (L.length : Int)), (17, .int .i64 (i : Int)), (28, .slice Au L[i].length cu), (29, .int .i64 (L[i].length : Int)), (30, .int .i64 (g.1 : Int))])
      (fun g w' => g.1 ≤ L[i].length ∧ RB w' wi.heap.size bo L.length (i + 1) (Tj.upd rb i b2) g.2 ∧ (∀ a b, a < i → b < L.length → g.2 a b = eL L a b) ∧ (∀ b, b < L.length → g.2 i b = decide (some b ∈ (esOf L i).take g.1)) ∧ Old wi w') (fun g => L[i].length - g.1)
      (0, Tj.upd M i fun _ => false) (And.intro rfl (And.intro rfl (And.intro rfl (And.intro rfl (And.intro rfl (And.intro rfl (And.intro rfl (And.intro rfl (And.intro rfl trivial))))))))) ⟨Nat.zero_le _, r3, fun a b ha hb => by dsimp only; rw [Tj.upd_o _ _ (by omega)]; exact hM1 a b ha hb, fun b _ => by dsimp only; rw [Tj.upd_i]; simp, o3⟩ ?_
    rintro ⟨j, M4⟩ w4 ⟨hj, r4, hM4, hi4, o4⟩
    dsimp only at hj r4 hM4 hi4 o4 ⊢
    by_cases hjl : j < L[i].length
    · obtain ⟨b', o', rfl, hcc⟩ := hcu j hjl
      have hcc := o4.cell hcc
      have htk : (esOf L i).take (j + 1) = (esOf L i).take j ++ [tgtO L.length L[i][j]] := by
        rw [List.take_add_one, es_at hil hjl]; rfl
      generalize L[i][j] = z at *
      by_cases hz0 : 0 ≤ z
      · obtain ⟨t, rfl⟩ : ∃ t : Nat, z = (t : Int) := ⟨z.toNat, by omega⟩
        by_cases hzN : t < L.length
        · rw [tgtO, if_neg (by omega)] at htk
          repeat (first | refine x_seq ?_ | refine x_reg ?_ | refine x_nil ?_ | refine x_then_n ?_ | refine x_blk_n ?_ | refine x_block ?_ | refine x_skip ?_ | refine x_label ?_ | refine x_ret ?_ | refine x_exit ?_ | refine x_then_r ?_ | refine x_then_e ?_ | refine x_blk_e ?_ | refine x_blk_r ?_ | refine x_blk_o rfl ?_ | refine x_cond_t rfl ?_ | refine x_cond_f rfl ?_ | refine rl_go rfl rfl ?_ | refine rl_no rfl rfl rfl rfl ?_)
          refine rl_q rfl (q_lt_t rfl rfl (by omega)) ?_
          repeat (first | refine x_seq ?_ | refine x_reg ?_ | refine x_nil ?_ | refine x_then_n ?_ | refine x_blk_n ?_ | refine x_block ?_ | refine x_skip ?_ | refine x_label ?_ | refine x_ret ?_ | refine x_exit ?_ | refine x_then_r ?_ | refine x_then_e ?_ | refine x_blk_e ?_ | refine x_blk_r ?_ | refine x_blk_o rfl ?_ | refine x_cond_t rfl ?_ | refine x_cond_f rfl ?_ | refine rl_go rfl rfl ?_ | refine rl_no rfl rfl rfl rfl ?_)
          refine rl_q rfl (q_indexAddr (by exact Es.out) rfl rfl rfl hjl) ?_
          refine rl_q rfl (q_load (by exact Tk.out) rfl (c1_cell hcc)) ?_
          refine rl_q rfl (q_assign rfl) ?_
          repeat (first | refine x_seq ?_ | refine x_reg ?_ | refine x_nil ?_ | refine x_then_n ?_ | refine x_blk_n ?_ | refine x_block ?_ | refine x_skip ?_ | refine x_label ?_ | refine x_ret ?_ | refine x_exit ?_ | refine x_then_r ?_ | refine x_then_e ?_ | refine x_blk_e ?_ | refine x_blk_r ?_ | refine x_blk_o rfl ?_ | refine x_cond_t rfl ?_ | refine x_cond_f rfl ?_ | refine rl_go rfl rfl ?_ | refine rl_no rfl rfl rfl rfl ?_)
          refine rl_q rfl (q_move rfl) ?_
          refine rl_q rfl (q_ge_t rfl rfl (by omega)) ?_
          refine rl_q rfl (q_move rfl) ?_
          refine rl_go rfl rfl ?_
          refine rl_q rfl (q_move rfl) ?_
          refine rl_go rfl rfl ?_
          refine rl_q rfl (q_move rfl) ?_
          refine rl_go rfl rfl ?_
          refine rl_q rfl (q_lt_t rfl rfl (by omega)) ?_
          refine rl_q rfl ((by first | exact q_pick_t rfl rfl | exact q_pick_f rfl rfl)) ?_
          repeat (first | refine x_seq ?_ | refine x_reg ?_ | refine x_nil ?_ | refine x_then_n ?_ | refine x_blk_n ?_ | refine x_block ?_ | refine x_skip ?_ | refine x_label ?_ | refine x_ret ?_ | refine x_exit ?_ | refine x_then_r ?_ | refine x_then_e ?_ | refine x_blk_e ?_ | refine x_blk_r ?_ | refine x_blk_o rfl ?_ | refine x_cond_t rfl ?_ | refine x_cond_f rfl ?_ | refine rl_go rfl rfl ?_ | refine rl_no rfl rfl rfl rfl ?_)
          refine rl_q rfl (q_move rfl) ?_
          refine rl_q rfl (q_move rfl) ?_
          refine rl_q rfl (q_index1 (by exact Es.out) rfl rfl rfl hil) ?_
          refine rl_q rfl (q_load (by exact Tk.out) rfl (c1 r4.ho (r4.outer (Nat.lt_succ_self i) (by omega)))) ?_
          refine rl_q rfl (q_move rfl) ?_
          refine rl_q rfl (q_index1 (by exact Es.out) rfl rfl rfl hzN) ?_
          refine rl_n (e_store1 (by exact Tk.out) rfl rfl rfl (r4.hr i (Nat.lt_succ_self i)) (by rw [rowV_size]; exact hzN) fun w5 p5 => ?_)
          repeat (first | refine x_seq ?_ | refine x_reg ?_ | refine x_nil ?_ | refine x_then_n ?_ | refine x_blk_n ?_ | refine x_block ?_ | refine x_skip ?_ | refine x_label ?_ | refine x_ret ?_ | refine x_exit ?_ | refine x_then_r ?_ | refine x_then_e ?_ | refine x_blk_e ?_ | refine x_blk_r ?_ | refine x_blk_o rfl ?_ | refine x_cond_t rfl ?_ | refine x_cond_f rfl ?_ | refine rl_go rfl rfl ?_ | refine rl_no rfl rfl rfl rfl ?_)
          have r5 := r4.set (Nat.lt_succ_self i) p5
          have o5 := o4.put p5 (r4.lo.2 i (Nat.lt_succ_self i))
          refine rl_q rfl (q_addi ((j + 1 : Nat) : Int) rfl rfl (by omega) (by omega) (by omega)) ?_
          refine rl_q rfl (q_move rfl) ?_
          repeat (first | refine x_seq ?_ | refine x_reg ?_ | refine x_nil ?_ | refine x_then_n ?_ | refine x_blk_n ?_ | refine x_block ?_ | refine x_skip ?_ | refine x_label ?_ | refine x_ret ?_ | refine x_exit ?_ | refine x_then_r ?_ | refine x_then_e ?_ | refine x_blk_e ?_ | refine x_blk_r ?_ | refine x_blk_o rfl ?_ | refine x_cond_t rfl ?_ | refine x_cond_f rfl ?_ | refine rl_go rfl rfl ?_ | refine rl_no rfl rfl rfl rfl ?_)
          refine x_again (j + 1, _) (And.intro rfl (And.intro rfl (And.intro rfl (And.intro rfl (And.intro rfl (And.intro rfl (And.intro rfl (And.intro rfl (And.intro rfl trivial))))))))) ⟨hjl, r5, fun a b ha hb => ?_, fun b hb => ?_, o5⟩ (by dsimp only; omega)
          · show Tj.upd M4 i (Tj.upd (M4 i) t true) a b = eL L a b
            rw [Tj.upd_o _ _ (by omega)]; exact hM4 a b ha hb
          · show Tj.upd M4 i (Tj.upd (M4 i) t true) i b = decide (some b ∈ (esOf L i).take (j + 1))
            rw [Tj.upd_i, htk]
            by_cases e : b = t
            · subst e; rw [Tj.upd_i]; simp
            · rw [Tj.upd_o _ _ e, hi4 b hb]
              simp [e]
        · rw [tgtO, if_pos (.inr (by omega))] at htk
          repeat (first | refine x_seq ?_ | refine x_reg ?_ | refine x_nil ?_ | refine x_then_n ?_ | refine x_blk_n ?_ | refine x_block ?_ | refine x_skip ?_ | refine x_label ?_ | refine x_ret ?_ | refine x_exit ?_ | refine x_then_r ?_ | refine x_then_e ?_ | refine x_blk_e ?_ | refine x_blk_r ?_ | refine x_blk_o rfl ?_ | refine x_cond_t rfl ?_ | refine x_cond_f rfl ?_ | refine rl_go rfl rfl ?_ | refine rl_no rfl rfl rfl rfl ?_)
          refine rl_q rfl (q_lt_t rfl rfl (by omega)) ?_
          repeat (first | refine x_seq ?_ | refine x_reg ?_ | refine x_nil ?_ | refine x_then_n ?_ | refine x_blk_n ?_ | refine x_block ?_ | refine x_skip ?_ | refine x_label ?_ | refine x_ret ?_ | refine x_exit ?_ | refine x_then_r ?_ | refine x_then_e ?_ | refine x_blk_e ?_ | refine x_blk_r ?_ | refine x_blk_o rfl ?_ | refine x_cond_t rfl ?_ | refine x_cond_f rfl ?_ | refine rl_go rfl rfl ?_ | refine rl_no rfl rfl rfl rfl ?_)
          refine rl_q rfl (q_indexAddr (by exact Es.out) rfl rfl rfl hjl) ?_
          refine rl_q rfl (q_load (by exact Tk.out) rfl (c1_cell hcc)) ?_
          refine rl_q rfl (q_assign rfl) ?_
          repeat (first | refine x_seq ?_ | refine x_reg ?_ | refine x_nil ?_ | refine x_then_n ?_ | refine x_blk_n ?_ | refine x_block ?_ | refine x_skip ?_ | refine x_label ?_ | refine x_ret ?_ | refine x_exit ?_ | refine x_then_r ?_ | refine x_then_e ?_ | refine x_blk_e ?_ | refine x_blk_r ?_ | refine x_blk_o rfl ?_ | refine x_cond_t rfl ?_ | refine x_cond_f rfl ?_ | refine rl_go rfl rfl ?_ | refine rl_no rfl rfl rfl rfl ?_)
          refine rl_q rfl (q_move rfl) ?_
          refine rl_q rfl (q_ge_t rfl rfl (by omega)) ?_
          refine rl_q rfl (q_move rfl) ?_
          refine rl_go rfl rfl ?_
          refine rl_q rfl (q_move rfl) ?_
          refine rl_go rfl rfl ?_
          refine rl_q rfl (q_move rfl) ?_
          refine rl_go rfl rfl ?_
          refine rl_q rfl (q_lt_f rfl rfl (by omega)) ?_
          refine rl_q rfl ((by first | exact q_pick_t rfl rfl | exact q_pick_f rfl rfl)) ?_
          repeat (first | refine x_seq ?_ | refine x_reg ?_ | refine x_nil ?_ | refine x_then_n ?_ | refine x_blk_n ?_ | refine x_block ?_ | refine x_skip ?_ | refine x_label ?_ | refine x_ret ?_ | refine x_exit ?_ | refine x_then_r ?_ | refine x_then_e ?_ | refine x_blk_e ?_ | refine x_blk_r ?_ | refine x_blk_o rfl ?_ | refine x_cond_t rfl ?_ | refine x_cond_f rfl ?_ | refine rl_go rfl rfl ?_ | refine rl_no rfl rfl rfl rfl ?_)
          refine rl_q rfl (q_addi ((j + 1 : Nat) : Int) rfl rfl (by omega) (by omega) (by omega)) ?_
          refine rl_q rfl (q_move rfl) ?_
          repeat (first | refine x_seq ?_ | refine x_reg ?_ | refine x_nil ?_ | refine x_then_n ?_ | refine x_blk_n ?_ | refine x_block ?_ | refine x_skip ?_ | refine x_label ?_ | refine x_ret ?_ | refine x_exit ?_ | refine x_then_r ?_ | refine x_then_e ?_ | refine x_blk_e ?_ | refine x_blk_r ?_ | refine x_blk_o rfl ?_ | refine x_cond_t rfl ?_ | refine x_cond_f rfl ?_ | refine rl_go rfl rfl ?_ | refine rl_no rfl rfl rfl rfl ?_)
          exact x_again (j + 1, M4) (And.intro rfl (And.intro rfl (And.intro rfl (And.intro rfl (And.intro rfl (And.intro rfl (And.intro rfl (And.intro rfl (And.intro rfl trivial))))))))) ⟨hjl, r4, hM4, fun b hb => by dsimp only; rw [htk, hi4 b hb]; simp, o4⟩ (by dsimp only; omega)
      · rw [tgtO, if_pos (.inl (by omega))] at htk
        repeat (first | refine x_seq ?_ | refine x_reg ?_ | refine x_nil ?_ | refine x_then_n ?_ | refine x_blk_n ?_ | refine x_block ?_ | refine x_skip ?_ | refine x_label ?_ | refine x_ret ?_ | refine x_exit ?_ | refine x_then_r ?_ | refine x_then_e ?_ | refine x_blk_e ?_ | refine x_blk_r ?_ | refine x_blk_o rfl ?_ | refine x_cond_t rfl ?_ | refine x_cond_f rfl ?_ | refine rl_go rfl rfl ?_ | refine rl_no rfl rfl rfl rfl ?_)
        refine rl_q rfl (q_lt_t rfl rfl (by omega)) ?_
        repeat (first | refine x_seq ?_ | refine x_reg ?_ | refine x_nil ?_ | refine x_then_n ?_ | refine x_blk_n ?_ | refine x_block ?_ | refine x_skip ?_ | refine x_label ?_ | refine x_ret ?_ | refine x_exit ?_ | refine x_then_r ?_ | refine x_then_e ?_ | refine x_blk_e ?_ | refine x_blk_r ?_ | refine x_blk_o rfl ?_ | refine x_cond_t rfl ?_ | refine x_cond_f rfl ?_ | refine rl_go rfl rfl ?_ | refine rl_no rfl rfl rfl rfl ?_)
        refine rl_q rfl (q_indexAddr (by exact Es.out) rfl rfl rfl hjl) ?_
        refine rl_q rfl (q_load (by exact Tk.out) rfl (c1_cell hcc)) ?_
        refine rl_q rfl (q_assign rfl) ?_
        repeat (first | refine x_seq ?_ | refine x_reg ?_ | refine x_nil ?_ | refine x_then_n ?_ | refine x_blk_n ?_ | refine x_block ?_ | refine x_skip ?_ | refine x_label ?_ | refine x_ret ?_ | refine x_exit ?_ | refine x_then_r ?_ | refine x_then_e ?_ | refine x_blk_e ?_ | refine x_blk_r ?_ | refine x_blk_o rfl ?_ | refine x_cond_t rfl ?_ | refine x_cond_f rfl ?_ | refine rl_go rfl rfl ?_ | refine rl_no rfl rfl rfl rfl ?_)
        refine rl_q rfl (q_move rfl) ?_
        refine rl_q rfl (q_ge_f rfl rfl (by omega)) ?_
        refine rl_q rfl (q_move rfl) ?_
        refine rl_no rfl rfl rfl rfl ?_
        refine rl_no rfl rfl rfl rfl ?_
        refine rl_no rfl rfl rfl rfl ?_
        refine rl_q rfl ((by first | exact q_pick_t rfl rfl | exact q_pick_f rfl rfl)) ?_
        repeat (first | refine x_seq ?_ | refine x_reg ?_ | refine x_nil ?_ | refine x_then_n ?_ | refine x_blk_n ?_ | refine x_block ?_ | refine x_skip ?_ | refine x_label ?_ | refine x_ret ?_ | refine x_exit ?_ | refine x_then_r ?_ | refine x_then_e ?_ | refine x_blk_e ?_ | refine x_blk_r ?_ | refine x_blk_o rfl ?_ | refine x_cond_t rfl ?_ | refine x_cond_f rfl ?_ | refine rl_go rfl rfl ?_ | refine rl_no rfl rfl rfl rfl ?_)
        refine rl_q rfl (q_addi ((j + 1 : Nat) : Int) rfl rfl (by omega) (by omega) (by omega)) ?_
        refine rl_q rfl (q_move rfl) ?_
        repeat (first | refine x_seq ?_ | refine x_reg ?_ | refine x_nil ?_ | refine x_then_n ?_ | refine x_blk_n ?_ | refine x_block ?_ | refine x_skip ?_ | refine x_label ?_ | refine x_ret ?_ | refine x_exit ?_ | refine x_then_r ?_ | refine x_then_e ?_ | refine x_blk_e ?_ | refine x_blk_r ?_ | refine x_blk_o rfl ?_ | refine x_cond_t rfl ?_ | refine x_cond_f rfl ?_ | refine rl_go rfl rfl ?_ | refine rl_no rfl rfl rfl rfl ?_)
        exact x_again (j + 1, M4) (And.intro rfl (And.intro rfl (And.intro rfl (And.intro rfl (And.intro rfl (And.intro rfl (And.intro rfl (And.intro rfl (And.intro rfl trivial))))))))) ⟨hjl, r4, hM4, fun b hb => by dsimp only; rw [htk, hi4 b hb]; simp, o4⟩ (by dsimp only; omega)
    · have hjn : j = L[i].length := by omega
      subst hjn
      rw [List.take_of_length_le (by rw [es_len hil]; exact Nat.le_refl _)] at hi4
      repeat (first | refine x_seq ?_ | refine x_reg ?_ | refine x_nil ?_ | refine x_then_n ?_ | refine x_blk_n ?_ | refine x_block ?_ | refine x_skip ?_ | refine x_label ?_ | refine x_ret ?_ | refine x_exit ?_ | refine x_then_r ?_ | refine x_then_e ?_ | refine x_blk_e ?_ | refine x_blk_r ?_ | refine x_blk_o rfl ?_ | refine x_cond_t rfl ?_ | refine x_cond_f rfl ?_ | refine rl_go rfl rfl ?_ | refine rl_no rfl rfl rfl rfl ?_)
      refine rl_q rfl (q_lt_f rfl rfl (by omega)) ?_
      repeat (first | refine x_seq ?_ | refine x_reg ?_ | refine x_nil ?_ | refine x_then_n ?_ | refine x_blk_n ?_ | refine x_block ?_ | refine x_skip ?_ | refine x_label ?_ | refine x_ret ?_ | refine x_exit ?_ | refine x_then_r ?_ | refine x_then_e ?_ | refine x_blk_e ?_ | refine x_blk_r ?_ | refine x_blk_o rfl ?_ | refine x_cond_t rfl ?_ | refine x_cond_f rfl ?_ | refine rl_go rfl rfl ?_ | refine rl_no rfl rfl rfl rfl ?_)
      refine rl_q rfl (q_addi ((i + 1 : Nat) : Int) rfl rfl (by omega) (by omega) (by omega)) ?_
      refine rl_q rfl (q_move rfl) ?_
      repeat (first | refine x_seq ?_ | refine x_reg ?_ | refine x_nil ?_ | refine x_then_n ?_ | refine x_blk_n ?_ | refine x_block ?_ | refine x_skip ?_ | refine x_label ?_ | refine x_ret ?_ | refine x_exit ?_ | refine x_then_r ?_ | refine x_then_e ?_ | refine x_blk_e ?_ | refine x_blk_r ?_ | refine x_blk_o rfl ?_ | refine x_cond_t rfl ?_ | refine x_cond_f rfl ?_ | refine rl_go rfl rfl ?_ | refine rl_no rfl rfl rfl rfl ?_)
      refine x_again (i + 1, Tj.upd rb i b2, M4) (And.intro rfl (And.intro rfl (And.intro rfl (And.intro rfl (And.intro rfl trivial))))) ⟨hil, r4, fun a b ha hb => ?_, o4⟩ (by dsimp only; omega)
      by_cases e : a = i
      · subst e; exact hi4 b hb
      · exact hM4 a b (by dsimp only at ha; omega) hb
  · obtain rfl : i = L.length := by omega
    repeat (first | refine x_seq ?_ | refine x_reg ?_ | refine x_nil ?_ | refine x_then_n ?_ | refine x_blk_n ?_ | refine x_block ?_ | refine x_skip ?_ | refine x_label ?_ | refine x_ret ?_ | refine x_exit ?_ | refine x_then_r ?_ | refine x_then_e ?_ | refine x_blk_e ?_ | refine x_blk_r ?_ | refine x_blk_o rfl ?_ | refine x_cond_t rfl ?_ | refine x_cond_f rfl ?_ | refine rl_go rfl rfl ?_ | refine rl_no rfl rfl rfl rfl ?_)
    refine rl_q rfl (q_lt_f rfl rfl (by omega)) ?_
    repeat (first | refine x_seq ?_ | refine x_reg ?_ | refine x_nil ?_ | refine x_then_n ?_ | refine x_blk_n ?_ | refine x_block ?_ | refine x_skip ?_ | refine x_label ?_ | refine x_ret ?_ | refine x_exit ?_ | refine x_then_r ?_ | refine x_then_e ?_ | refine x_blk_e ?_ | refine x_blk_r ?_ | refine x_blk_o rfl ?_ | refine x_cond_t rfl ?_ | refine x_cond_f rfl ?_ | refine rl_go rfl rfl ?_ | refine rl_no rfl rfl rfl rfl ?_)
    refine F.sub ?_ (rest rb w1 (r1.congr hM1) o1)
    exact (And.intro rfl (And.intro rfl trivial))

def mid (e : Nat → Nat → Bool) (k i j a b : Nat) : Bool := if a < i ∨ (a = i ∧ b < j) then wsh e (k + 1) a b else wsh e k a b
theorem mid_ik (e : Nat → Nat → Bool) (k i j a : Nat) : mid e k i j a k = wsh e k a k := by
  unfold mid; split
  · exact Tj.wsh_ik k a
  · rfl
theorem mid_kj (e : Nat → Nat → Bool) (k i j b : Nat) : mid e k i j k b = wsh e k k b := by
  unfold mid; split
  · exact Tj.wsh_kj k b
  · rfl
theorem mid_ij (e : Nat → Nat → Bool) (k i j : Nat) : mid e k i j i j = wsh e k i j := by
  unfold mid; rw [if_neg (by omega)]
theorem mid_step (e : Nat → Nat → Bool) (k i j : Nat) : Tj.upd (mid e k i j) i (Tj.upd (mid e k i j i) j (wsh e (k + 1) i j)) = mid e k i (j + 1) := by
  funext a b
  by_cases ha : a = i
  · subst ha
    rw [Tj.upd_i]
    by_cases hb : b = j
    · subst hb
      rw [Tj.upd_i, mid, if_pos (by omega)]
    · rw [Tj.upd_o _ _ hb]
      unfold mid
      by_cases h : a < a ∨ (a = a ∧ b < j)
      · rw [if_pos h, if_pos (by omega)]
      · rw [if_neg h, if_neg (by omega)]
  · rw [Tj.upd_o _ _ ha]
    unfold mid
    by_cases h : a < i ∨ (a = i ∧ b < j)
    · rw [if_pos h, if_pos (by omega)]
    · rw [if_neg h, if_neg (by omega)]

set_option maxHeartbeats 4000000 in
theorem reach2 {Q : Exit → Act → World → Prop} [PanicOk Q] {wi w : World} {n bo : Nat} {rb : Nat → Nat} {e : Nat → Nat → Bool} (hN : n ≤ 1000) (o : Old wi w) (h : RB w wi.heap.size bo n n rb (wsh e 0))
    (rest : ∀ w', RB w' wi.heap.size bo n n rb (wsh e n) → Old wi w' → F 96 [(4, .slice (some ⟨bo, 0, none⟩) n n)] w' (Q .normal)) :
    F 96 [(3, .int .i64 (n : Int)), (4, .slice (some ⟨bo, 0, none⟩) n n), (8, .int .i64 0)] w ((bodyAt Try.f87 [1, 1, 1, 1, 0, 1, 0]).wp Try.prog (Exit.inBlock 4 Q)) := by
  refine x_loop (γ := Nat) (fun g => [(3, .int .i64 (n : Int)), (4, .slice (some ⟨bo, 0, none⟩) n n), (8, .int .i64 (g : Int))])
    (fun g w' => g ≤ n ∧ RB w' wi.heap.size bo n n rb (wsh e g) ∧ Old wi w') (fun g => n - g) 0 (And.intro rfl (And.intro rfl (And.intro rfl trivial))) ⟨Nat.zero_le _, h, o⟩ ?_
  rintro k w1 ⟨hk, r1, o1⟩
  by_cases hkl : k < n
  · repeat (first | refine x_seq ?_ | refine x_reg ?_ | refine x_nil ?_ | refine x_then_n ?_ | refine x_blk_n ?_ | refine x_block ?_ | refine x_skip ?_ | refine x_label ?_ | refine x_ret ?_ | refine x_exit ?_ | refine x_then_r ?_ | refine x_then_e ?_ | refine x_blk_e ?_ | refine x_blk_r ?_ | refine x_blk_o rfl ?_ | refine x_cond_t rfl ?_ | refine x_cond_f rfl ?_ | refine rl_go rfl rfl ?_ | refine rl_no rfl rfl rfl rfl ?_)
    refine rl_q rfl (q_move rfl) ?_
    refine rl_q rfl (q_move rfl) ?_
    refine rl_q rfl (q_lt_t rfl rfl (by omega)) ?_
    repeat (first | refine x_seq ?_ | refine x_reg ?_ | refine x_nil ?_ | refine x_then_n ?_ | refine x_blk_n ?_ | refine x_block ?_ | refine x_skip ?_ | refine x_label ?_ | refine x_ret ?_ | refine x_exit ?_ | refine x_then_r ?_ | refine x_then_e ?_ | refine x_blk_e ?_ | refine x_blk_r ?_ | refine x_blk_o rfl ?_ | refine x_cond_t rfl ?_ | refine x_cond_f rfl ?_ | refine rl_go rfl rfl ?_ | refine rl_no rfl rfl rfl rfl ?_)
    refine rl_q rfl (q_assign rfl) ?_
    repeat (first | refine x_seq ?_ | refine x_reg ?_ | refine x_nil ?_ | refine x_then_n ?_ | refine x_blk_n ?_ | refine x_block ?_ | refine x_skip ?_ | refine x_label ?_ | refine x_ret ?_ | refine x_exit ?_ | refine x_then_r ?_ | refine x_then_e ?_ | refine x_blk_e ?_ | refine x_blk_r ?_ | refine x_blk_o rfl ?_ | refine x_cond_t rfl ?_ | refine x_cond_f rfl ?_ | refine rl_go rfl rfl ?_ | refine rl_no rfl rfl rfl rfl ?_)
    refine x_loop (γ := Nat) (fun g => [(3, .int .i64 (n : Int)), (4, .slice (some ⟨bo, 0, none⟩) n n), (8, .int .i64 (k : Int)), (9, .int .i64 (g : Int))])
      (fun g w' => g ≤ n ∧ RB w' wi.heap.size bo n n rb (mid e k g 0) ∧ Old wi w') (fun g => n - g) 0 (And.intro rfl (And.intro rfl (And.intro rfl (And.intro rfl trivial)))) ⟨Nat.zero_le _, r1.congr fun a b _ _ => by unfold mid; rw [if_neg (by omega)], o1⟩ ?_
    rintro i w2 ⟨hi, r2, o2⟩
    by_cases hil : i < n
    · repeat (first | refine x_seq ?_ | refine x_reg ?_ | refine x_nil ?_ | refine x_then_n ?_ | refine x_blk_n ?_ | refine x_block ?_ | refine x_skip ?_ | refine x_label ?_ | refine x_ret ?_ | refine x_exit ?_ | refine x_then_r ?_ | refine x_then_e ?_ | refine x_blk_e ?_ | refine x_blk_r ?_ | refine x_blk_o rfl ?_ | refine x_cond_t rfl ?_ | refine x_cond_f rfl ?_ | refine rl_go rfl rfl ?_ | refine rl_no rfl rfl rfl rfl ?_)
      refine rl_q rfl (q_move rfl) ?_
      refine rl_q rfl (q_move rfl) ?_
      refine rl_q rfl (q_lt_t rfl rfl (by omega)) ?_
      repeat (first | refine x_seq ?_ | refine x_reg ?_ | refine x_nil ?_ | refine x_then_n ?_ | refine x_blk_n ?_ | refine x_block ?_ | refine x_skip ?_ | refine x_label ?_ | refine x_ret ?_ | refine x_exit ?_ | refine x_then_r ?_ | refine x_then_e ?_ | refine x_blk_e ?_ | refine x_blk_r ?_ | refine x_blk_o rfl ?_ | refine x_cond_t rfl ?_ | refine x_cond_f rfl ?_ | refine rl_go rfl rfl ?_ | refine rl_no rfl rfl rfl rfl ?_)
      refine rl_q rfl (q_assign rfl) ?_
      repeat (first | refine x_seq ?_ | refine x_reg ?_ | refine x_nil ?_ | refine x_then_n ?_ | refine x_blk_n ?_ | refine x_block ?_ | refine x_skip ?_ | refine x_label ?_ | refine x_ret ?_ | refine x_exit ?_ | refine x_then_r ?_ | refine x_then_e ?_ | refine x_blk_e ?_ | refine x_blk_r ?_ | refine x_blk_o rfl ?_ | refine x_cond_t rfl ?_ | refine x_cond_f rfl ?_ | refine rl_go rfl rfl ?_ | refine rl_no rfl rfl rfl rfl ?_)
      refine x_loop (γ := Nat) (fun g => [(3, .int .i64 (n : Int)), (4, .slice (some ⟨bo, 0, none⟩) n n), (8, .int .i64 (k : Int)), (9, .int .i64 (i : Int)), (10, .int .i64 (g : Int))])
        (fun g w' => g ≤ n ∧ RB w' wi.heap.size bo n n rb (mid e k i g) ∧ Old wi w') (fun g => n - g) 0 (And.intro rfl (And.intro rfl (And.intro rfl (And.intro rfl (And.intro rfl trivial))))) ⟨Nat.zero_le _, r2, o2⟩ ?_
      rintro j w3 ⟨hj, r3, o3⟩
      by_cases hjl : j < n
      · have co := r3.outer hil (Nat.le_refl _)
        have ck := r3.outer hkl (Nat.le_refl _)
        have c1' := r3.inner hil hjl
        have c2' := r3.inner hil hkl
        have c3' := r3.inner hkl hjl
        rw [mid_ij] at c1'
        rw [mid_ik] at c2'
        rw [mid_kj] at c3'
        have hv : wsh e (k + 1) i j = (wsh e k i j || (wsh e k i k && wsh e k k j)) := rfl
        have hst := mid_step e k i j
        generalize wsh e k i j = b1 at *
        generalize wsh e k i k = b2 at *
        generalize wsh e k k j = b3 at *
        have fin : ∀ {w4 w5 : World} {v : Bool}, Kept 0 [] w3 w4 → Put w4 w5 (rb i) (.cells ((rowV n fun j' => .bool (mid e k i j i j')).setIfInBounds j (.bool v)) 4 (0, 0)) → v = wsh e (k + 1) i j → RB w5 wi.heap.size bo n n rb (mid e k i (j + 1)) ∧ Old wi w5 := fun {w4 w5 v} h1 h2 h3 => by
          subst h3
          have r4 := r3.grow h1
          have r5 := r4.set hil h2
          rw [hst] at r5
          exact ⟨r5, (o3.grow h1).put h2 (r3.lo.2 i hil)⟩
        repeat (first | refine x_seq ?_ | refine x_reg ?_ | refine x_nil ?_ | refine x_then_n ?_ | refine x_blk_n ?_ | refine x_block ?_ | refine x_skip ?_ | refine x_label ?_ | refine x_ret ?_ | refine x_exit ?_ | refine x_then_r ?_ | refine x_then_e ?_ | refine x_blk_e ?_ | refine x_blk_r ?_ | refine x_blk_o rfl ?_ | refine x_cond_t rfl ?_ | refine x_cond_f rfl ?_ | refine rl_go rfl rfl ?_ | refine rl_no rfl rfl rfl rfl ?_)
        refine rl_q rfl (q_move rfl) ?_
        refine rl_q rfl (q_move rfl) ?_
        refine rl_q rfl (q_lt_t rfl rfl (by omega)) ?_
        repeat (first | refine x_seq ?_ | refine x_reg ?_ | refine x_nil ?_ | refine x_then_n ?_ | refine x_blk_n ?_ | refine x_block ?_ | refine x_skip ?_ | refine x_label ?_ | refine x_ret ?_ | refine x_exit ?_ | refine x_then_r ?_ | refine x_then_e ?_ | refine x_blk_e ?_ | refine x_blk_r ?_ | refine x_blk_o rfl ?_ | refine x_cond_t rfl ?_ | refine x_cond_f rfl ?_ | refine rl_go rfl rfl ?_ | refine rl_no rfl rfl rfl rfl ?_)
        cases b1 with
        | true =>
          refine x_drawH [31] mixed fun wd hk_wd hS_wd => ?_
          refine dr_p 0 rfl rfl (by kernel_rfl) (by kernel_rfl) (by kernel_rfl) (by kernel_rfl) (q_move rfl) hS_wd ?_
          refine dr_p 1 rfl rfl (by kernel_rfl) (by kernel_rfl) (by kernel_rfl) (by kernel_rfl) (q_move rfl) hS_wd ?_
          refine dr_p 2 rfl rfl (by kernel_rfl) (by kernel_rfl) (by kernel_rfl) (by kernel_rfl) (q_index1 (by exact Es.out) rfl rfl rfl hil) hS_wd ?_
          refine dr_s 3 rfl rfl (by kernel_rfl) (by kernel_rfl) (by kernel_rfl) (by kernel_rfl) (by kernel_rfl) (by kernel_rfl) (q_load (by exact Tk.out) rfl (c1h (cell_at r3.ho co))) hS_wd ?_
          refine dr_p 4 rfl rfl (by kernel_rfl) (by kernel_rfl) (by kernel_rfl) (by kernel_rfl) (q_move rfl) hS_wd ?_
          refine dr_p 5 rfl rfl (by kernel_rfl) (by kernel_rfl) (by kernel_rfl) (by kernel_rfl) (q_move rfl) hS_wd ?_
          refine dr_p 6 rfl rfl (by kernel_rfl) (by kernel_rfl) (by kernel_rfl) (by kernel_rfl) (q_move rfl) hS_wd ?_
          refine dr_p 7 rfl rfl (by kernel_rfl) (by kernel_rfl) (by kernel_rfl) (by kernel_rfl) (q_index1 (by exact Es.out) rfl rfl rfl hil) hS_wd ?_
          refine dr_s 8 rfl rfl (by kernel_rfl) (by kernel_rfl) (by kernel_rfl) (by kernel_rfl) (by kernel_rfl) (by kernel_rfl) (q_load (by exact Tk.out) rfl (c1h (cell_at r3.ho co))) hS_wd ?_
          refine dr_p 9 rfl rfl (by kernel_rfl) (by kernel_rfl) (by kernel_rfl) (by kernel_rfl) (q_move rfl) hS_wd ?_
          refine dr_p 10 rfl rfl (by kernel_rfl) (by kernel_rfl) (by kernel_rfl) (by kernel_rfl) (q_index1 (by exact Es.out) rfl rfl rfl hjl) hS_wd ?_
          refine dr_s 11 rfl rfl (by kernel_rfl) (by kernel_rfl) (by kernel_rfl) (by kernel_rfl) (by kernel_rfl) (by kernel_rfl) (q_load (by exact Tk.out) rfl (c1h c1')) hS_wd ?_
          refine dr_p 12 rfl rfl (by kernel_rfl) (by kernel_rfl) (by kernel_rfl) (by kernel_rfl) (q_move rfl) hS_wd ?_
          refine dr_no 13 rfl rfl rfl rfl rfl (by kernel_rfl) (by kernel_rfl) (by kernel_rfl) (by kernel_rfl) hS_wd ?_
          refine dr_no 14 rfl rfl rfl rfl rfl (by kernel_rfl) (by kernel_rfl) (by kernel_rfl) (by kernel_rfl) hS_wd ?_
          refine dr_no 15 rfl rfl rfl rfl rfl (by kernel_rfl) (by kernel_rfl) (by kernel_rfl) (by kernel_rfl) hS_wd ?_
          refine dr_no 16 rfl rfl rfl rfl rfl (by kernel_rfl) (by kernel_rfl) (by kernel_rfl) (by kernel_rfl) hS_wd ?_
          refine dr_no 17 rfl rfl rfl rfl rfl (by kernel_rfl) (by kernel_rfl) (by kernel_rfl) (by kernel_rfl) hS_wd ?_
          refine dr_no 18 rfl rfl rfl rfl rfl (by kernel_rfl) (by kernel_rfl) (by kernel_rfl) (by kernel_rfl) hS_wd ?_
          refine dr_no 19 rfl rfl rfl rfl rfl (by kernel_rfl) (by kernel_rfl) (by kernel_rfl) (by kernel_rfl) hS_wd ?_
          refine dr_no 20 rfl rfl rfl rfl rfl (by kernel_rfl) (by kernel_rfl) (by kernel_rfl) (by kernel_rfl) hS_wd ?_
          refine dr_nu 21 rfl rfl rfl rfl (by kernel_rfl) (by kernel_rfl) (by kernel_rfl) (by kernel_rfl) hS_wd ?_
          refine dr_nu 22 rfl rfl rfl rfl (by kernel_rfl) (by kernel_rfl) (by kernel_rfl) (by kernel_rfl) hS_wd ?_
          refine dr_nu 23 rfl rfl rfl rfl (by kernel_rfl) (by kernel_rfl) (by kernel_rfl) (by kernel_rfl) hS_wd ?_
          refine dr_nu 24 rfl rfl rfl rfl (by kernel_rfl) (by kernel_rfl) (by kernel_rfl) (by kernel_rfl) hS_wd ?_
          refine dr_nu 25 rfl rfl rfl rfl (by kernel_rfl) (by kernel_rfl) (by kernel_rfl) (by kernel_rfl) hS_wd ?_
          refine dr_nu 26 rfl rfl rfl rfl (by kernel_rfl) (by kernel_rfl) (by kernel_rfl) (by kernel_rfl) hS_wd ?_
          refine dr_nu 27 rfl rfl rfl rfl (by kernel_rfl) (by kernel_rfl) (by kernel_rfl) (by kernel_rfl) hS_wd ?_
          refine dr_no 28 rfl rfl rfl rfl rfl (by kernel_rfl) (by kernel_rfl) (by kernel_rfl) (by kernel_rfl) hS_wd ?_
          refine dr_p 29 rfl rfl (by kernel_rfl) (by kernel_rfl) (by kernel_rfl) (by kernel_rfl) (q_pick_t rfl rfl) hS_wd ?_
          refine dr_p 30 rfl rfl (by kernel_rfl) (by kernel_rfl) (by kernel_rfl) (by kernel_rfl) (q_index1 (by exact Es.out) rfl rfl rfl hjl) hS_wd ?_
          refine dr_n 31 (by kernel_rfl) rfl (e_store1 (by exact Tk.out) rfl rfl rfl (getK hS_wd (r3.hr i hil)) (by rw [rowV_size]; exact hjl) fun w5 p5 => ⟨fun hu => unl hu (by kernel_rfl), ?_⟩)
          refine dr_done (by kernel_rfl) ?_
          obtain ⟨r5, o5⟩ := fin hk_wd p5 (by rw [hv]; rfl)
          repeat (first | refine x_seq ?_ | refine x_reg ?_ | refine x_nil ?_ | refine x_then_n ?_ | refine rl_q rfl (q_move rfl) ?_ | refine rl_q rfl (q_nil rfl) ?_ | refine rl_q rfl (q_fa0 (by exact Fo.out) rfl) ?_ | refine rl_q rfl (q_fak (by exact Fo.out) rfl) ?_ | refine rl_q rfl (q_fieldAddr (by exact Fo.out) rfl) ?_ | refine rl_q rfl (q_assign rfl) ?_ | refine rl_q rfl (q_len rfl (by kernel_rfl) rfl) ?_ | refine rl_q rfl (q_extract rfl rfl) ?_ | refine rl_q rfl (q_addi _ rfl rfl rfl (by omega) (by omega)) ?_ | refine rl_q rfl (q_subi _ rfl rfl rfl (by omega) (by omega)) ?_ | refine rl_q rfl (q_muli _ rfl rfl rfl (by omega) (by omega)) ?_ | refine rl_q rfl (q_pick_t rfl rfl) ?_ | refine rl_q rfl (q_pick_f rfl rfl) ?_ | refine rl_q rfl (q_lt_t rfl rfl (by omega)) ?_ | refine rl_q rfl (q_lt_f rfl rfl (by omega)) ?_ | refine rl_q rfl (q_le_t rfl rfl (by omega)) ?_ | refine rl_q rfl (q_le_f rfl rfl (by omega)) ?_ | refine rl_q rfl (q_gt_t rfl rfl (by omega)) ?_ | refine rl_q rfl (q_gt_f rfl rfl (by omega)) ?_ | refine rl_q rfl (q_ge_t rfl rfl (by omega)) ?_ | refine rl_q rfl (q_ge_f rfl rfl (by omega)) ?_ | refine rl_q rfl (q_eq_t rfl rfl (by omega)) ?_ | refine rl_q rfl (q_eq_f rfl rfl (by omega)) ?_ | refine rl_q rfl (q_ne_t rfl rfl (by omega)) ?_ | refine rl_q rfl (q_ne_f rfl rfl (by omega)) ?_ | refine rl_q rfl (q_lt rfl rfl) ?_ | refine rl_q rfl (q_le rfl rfl) ?_ | refine rl_q rfl (q_gt rfl rfl) ?_ | refine rl_q rfl (q_ge rfl rfl) ?_ | refine rl_q rfl (q_eq rfl rfl) ?_ | refine rl_q rfl (q_ne rfl rfl) ?_ | refine rl_q rfl (q_not rfl) ?_ | refine rl_q rfl (q_nilf rfl) ?_ | refine rl_q rfl (q_makeFunc rfl rfl) ?_ | refine rl_q rfl (q_field (by exact Fo.out) (by kernel_rfl) rfl rfl) ?_ | refine rl_q rfl (q_load (by exact Tk.out) rfl (c1 (by assumption) (by rfl))) ?_ | refine rl_q rfl (q_loadB (by exact Tk.out) rfl (by assumption) (by rfl)) ?_ | refine rl_q rfl (q_load (by exact Tk.out) rfl (c1_cell (by assumption))) ?_ | refine x_blk_n ?_ | refine x_block ?_ | refine x_skip ?_ | refine x_label ?_ | refine x_ret ?_ | refine x_exit ?_ | refine x_then_r ?_ | refine x_then_e ?_ | refine x_blk_e ?_ | refine x_blk_r ?_ | refine x_blk_o rfl ?_ | refine x_cond_t rfl ?_ | refine x_cond_f rfl ?_ | refine rl_go rfl rfl ?_ | refine rl_no rfl rfl rfl rfl ?_)
          exact x_again (j + 1) (And.intro rfl (And.intro rfl (And.intro rfl (And.intro rfl (And.intro rfl trivial))))) ⟨hjl, r5, o5⟩ (by omega)
        | false =>
          cases b2 with
          | false =>
            refine x_drawH [31] mixed fun wd hk_wd hS_wd => ?_
            refine dr_p 0 rfl rfl (by kernel_rfl) (by kernel_rfl) (by kernel_rfl) (by kernel_rfl) (q_move rfl) hS_wd ?_
            refine dr_p 1 rfl rfl (by kernel_rfl) (by kernel_rfl) (by kernel_rfl) (by kernel_rfl) (q_move rfl) hS_wd ?_
            refine dr_p 2 rfl rfl (by kernel_rfl) (by kernel_rfl) (by kernel_rfl) (by kernel_rfl) (q_index1 (by exact Es.out) rfl rfl rfl hil) hS_wd ?_
            refine dr_s 3 rfl rfl (by kernel_rfl) (by kernel_rfl) (by kernel_rfl) (by kernel_rfl) (by kernel_rfl) (by kernel_rfl) (q_load (by exact Tk.out) rfl (c1h (cell_at r3.ho co))) hS_wd ?_
            refine dr_p 4 rfl rfl (by kernel_rfl) (by kernel_rfl) (by kernel_rfl) (by kernel_rfl) (q_move rfl) hS_wd ?_
            refine dr_p 5 rfl rfl (by kernel_rfl) (by kernel_rfl) (by kernel_rfl) (by kernel_rfl) (q_move rfl) hS_wd ?_
            refine dr_p 6 rfl rfl (by kernel_rfl) (by kernel_rfl) (by kernel_rfl) (by kernel_rfl) (q_move rfl) hS_wd ?_
            refine dr_p 7 rfl rfl (by kernel_rfl) (by kernel_rfl) (by kernel_rfl) (by kernel_rfl) (q_index1 (by exact Es.out) rfl rfl rfl hil) hS_wd ?_
            refine dr_s 8 rfl rfl (by kernel_rfl) (by kernel_rfl) (by kernel_rfl) (by kernel_rfl) (by kernel_rfl) (by kernel_rfl) (q_load (by exact Tk.out) rfl (c1h (cell_at r3.ho co))) hS_wd ?_
            refine dr_p 9 rfl rfl (by kernel_rfl) (by kernel_rfl) (by kernel_rfl) (by kernel_rfl) (q_move rfl) hS_wd ?_
            refine dr_p 10 rfl rfl (by kernel_rfl) (by kernel_rfl) (by kernel_rfl) (by kernel_rfl) (q_index1 (by exact Es.out) rfl rfl rfl hjl) hS_wd ?_
            refine dr_s 11 rfl rfl (by kernel_rfl) (by kernel_rfl) (by kernel_rfl) (by kernel_rfl) (by kernel_rfl) (by kernel_rfl) (q_load (by exact Tk.out) rfl (c1h c1')) hS_wd ?_
            refine dr_p 12 rfl rfl (by kernel_rfl) (by kernel_rfl) (by kernel_rfl) (by kernel_rfl) (q_move rfl) hS_wd ?_
            refine dr_gp 13 rfl rfl rfl rfl (by kernel_rfl) (by kernel_rfl) (by kernel_rfl) (by kernel_rfl) (q_move rfl) hS_wd ?_
            refine dr_gp 14 rfl rfl rfl rfl (by kernel_rfl) (by kernel_rfl) (by kernel_rfl) (by kernel_rfl) (q_move rfl) hS_wd ?_
            refine dr_gp 15 rfl rfl rfl rfl (by kernel_rfl) (by kernel_rfl) (by kernel_rfl) (by kernel_rfl) (q_index1 (by exact Es.out) rfl rfl rfl hil) hS_wd ?_
            refine dr_gs 16 rfl rfl rfl rfl (by kernel_rfl) (by kernel_rfl) (by kernel_rfl) (by kernel_rfl) (by kernel_rfl) (by kernel_rfl) (q_load (by exact Tk.out) rfl (c1h (cell_at r3.ho co))) hS_wd ?_
            refine dr_gp 17 rfl rfl rfl rfl (by kernel_rfl) (by kernel_rfl) (by kernel_rfl) (by kernel_rfl) (q_move rfl) hS_wd ?_
            refine dr_gp 18 rfl rfl rfl rfl (by kernel_rfl) (by kernel_rfl) (by kernel_rfl) (by kernel_rfl) (q_index1 (by exact Es.out) rfl rfl rfl hkl) hS_wd ?_
            refine dr_gs 19 rfl rfl rfl rfl (by kernel_rfl) (by kernel_rfl) (by kernel_rfl) (by kernel_rfl) (by kernel_rfl) (by kernel_rfl) (q_load (by exact Tk.out) rfl (c1h c2')) hS_wd ?_
            refine dr_gp 20 rfl rfl rfl rfl (by kernel_rfl) (by kernel_rfl) (by kernel_rfl) (by kernel_rfl) (q_move rfl) hS_wd ?_
            refine dr_no 21 rfl rfl rfl rfl rfl (by kernel_rfl) (by kernel_rfl) (by kernel_rfl) (by kernel_rfl) hS_wd ?_
            refine dr_no 22 rfl rfl rfl rfl rfl (by kernel_rfl) (by kernel_rfl) (by kernel_rfl) (by kernel_rfl) hS_wd ?_
            refine dr_no 23 rfl rfl rfl rfl rfl (by kernel_rfl) (by kernel_rfl) (by kernel_rfl) (by kernel_rfl) hS_wd ?_
            refine dr_no 24 rfl rfl rfl rfl rfl (by kernel_rfl) (by kernel_rfl) (by kernel_rfl) (by kernel_rfl) hS_wd ?_
            refine dr_no 25 rfl rfl rfl rfl rfl (by kernel_rfl) (by kernel_rfl) (by kernel_rfl) (by kernel_rfl) hS_wd ?_
            refine dr_no 26 rfl rfl rfl rfl rfl (by kernel_rfl) (by kernel_rfl) (by kernel_rfl) (by kernel_rfl) hS_wd ?_
            refine dr_no 27 rfl rfl rfl rfl rfl (by kernel_rfl) (by kernel_rfl) (by kernel_rfl) (by kernel_rfl) hS_wd ?_
            refine dr_gp 28 rfl rfl rfl rfl (by kernel_rfl) (by kernel_rfl) (by kernel_rfl) (by kernel_rfl) (q_pick_f rfl rfl) hS_wd ?_
            refine dr_p 29 rfl rfl (by kernel_rfl) (by kernel_rfl) (by kernel_rfl) (by kernel_rfl) (q_pick_f rfl rfl) hS_wd ?_
            refine dr_p 30 rfl rfl (by kernel_rfl) (by kernel_rfl) (by kernel_rfl) (by kernel_rfl) (q_index1 (by exact Es.out) rfl rfl rfl hjl) hS_wd ?_
            refine dr_n 31 (by kernel_rfl) rfl (e_store1 (by exact Tk.out) rfl rfl rfl (getK hS_wd (r3.hr i hil)) (by rw [rowV_size]; exact hjl) fun w5 p5 => ⟨fun hu => unl hu (by kernel_rfl), ?_⟩)
            refine dr_done (by kernel_rfl) ?_
            obtain ⟨r5, o5⟩ := fin hk_wd p5 (by rw [hv]; rfl)
            repeat (first | refine x_seq ?_ | refine x_reg ?_ | refine x_nil ?_ | refine x_then_n ?_ | refine rl_q rfl (q_move rfl) ?_ | refine rl_q rfl (q_nil rfl) ?_ | refine rl_q rfl (q_fa0 (by exact Fo.out) rfl) ?_ | refine rl_q rfl (q_fak (by exact Fo.out) rfl) ?_ | refine rl_q rfl (q_fieldAddr (by exact Fo.out) rfl) ?_ | refine rl_q rfl (q_assign rfl) ?_ | refine rl_q rfl (q_len rfl (by kernel_rfl) rfl) ?_ | refine rl_q rfl (q_extract rfl rfl) ?_ | refine rl_q rfl (q_addi _ rfl rfl rfl (by omega) (by omega)) ?_ | refine rl_q rfl (q_subi _ rfl rfl rfl (by omega) (by omega)) ?_ | refine rl_q rfl (q_muli _ rfl rfl rfl (by omega) (by omega)) ?_ | refine rl_q rfl (q_pick_t rfl rfl) ?_ | refine rl_q rfl (q_pick_f rfl rfl) ?_ | refine rl_q rfl (q_lt_t rfl rfl (by omega)) ?_ | refine rl_q rfl (q_lt_f rfl rfl (by omega)) ?_ | refine rl_q rfl (q_le_t rfl rfl (by omega)) ?_ | refine rl_q rfl (q_le_f rfl rfl (by omega)) ?_ | refine rl_q rfl (q_gt_t rfl rfl (by omega)) ?_ | refine rl_q rfl (q_gt_f rfl rfl (by omega)) ?_ | refine rl_q rfl (q_ge_t rfl rfl (by omega)) ?_ | refine rl_q rfl (q_ge_f rfl rfl (by omega)) ?_ | refine rl_q rfl (q_eq_t rfl rfl (by omega)) ?_ | refine rl_q rfl (q_eq_f rfl rfl (by omega)) ?_ | refine rl_q rfl (q_ne_t rfl rfl (by omega)) ?_ | refine rl_q rfl (q_ne_f rfl rfl (by omega)) ?_ | refine rl_q rfl (q_lt rfl rfl) ?_ | refine rl_q rfl (q_le rfl rfl) ?_ | refine rl_q rfl (q_gt rfl rfl) ?_ | refine rl_q rfl (q_ge rfl rfl) ?_ | refine rl_q rfl (q_eq rfl rfl) ?_ | refine rl_q rfl (q_ne rfl rfl) ?_ | refine rl_q rfl (q_not rfl) ?_ | refine rl_q rfl (q_nilf rfl) ?_ | refine rl_q rfl (q_makeFunc rfl rfl) ?_ | refine rl_q rfl (q_field (by exact Fo.out) (by kernel_rfl) rfl rfl) ?_ | refine rl_q rfl (q_load (by exact Tk.out) rfl (c1 (by assumption) (by rfl))) ?_ | refine rl_q rfl (q_loadB (by exact Tk.out) rfl (by assumption) (by rfl)) ?_ | refine rl_q rfl (q_load (by exact Tk.out) rfl (c1_cell (by assumption))) ?_ | refine x_blk_n ?_ | refine x_block ?_ | refine x_skip ?_ | refine x_label ?_ | refine x_ret ?_ | refine x_exit ?_ | refine x_then_r ?_ | refine x_then_e ?_ | refine x_blk_e ?_ | refine x_blk_r ?_ | refine x_blk_o rfl ?_ | refine x_cond_t rfl ?_ | refine x_cond_f rfl ?_ | refine rl_go rfl rfl ?_ | refine rl_no rfl rfl rfl rfl ?_)
            exact x_again (j + 1) (And.intro rfl (And.intro rfl (And.intro rfl (And.intro rfl (And.intro rfl trivial))))) ⟨hjl, r5, o5⟩ (by omega)
          | true =>
            refine x_drawH [31] mixed fun wd hk_wd hS_wd => ?_
            refine dr_p 0 rfl rfl (by kernel_rfl) (by kernel_rfl) (by kernel_rfl) (by kernel_rfl) (q_move rfl) hS_wd ?_
            refine dr_p 1 rfl rfl (by kernel_rfl) (by kernel_rfl) (by kernel_rfl) (by kernel_rfl) (q_move rfl) hS_wd ?_
            refine dr_p 2 rfl rfl (by kernel_rfl) (by kernel_rfl) (by kernel_rfl) (by kernel_rfl) (q_index1 (by exact Es.out) rfl rfl rfl hil) hS_wd ?_
            refine dr_s 3 rfl rfl (by kernel_rfl) (by kernel_rfl) (by kernel_rfl) (by kernel_rfl) (by kernel_rfl) (by kernel_rfl) (q_load (by exact Tk.out) rfl (c1h (cell_at r3.ho co))) hS_wd ?_
            refine dr_p 4 rfl rfl (by kernel_rfl) (by kernel_rfl) (by kernel_rfl) (by kernel_rfl) (q_move rfl) hS_wd ?_
            refine dr_p 5 rfl rfl (by kernel_rfl) (by kernel_rfl) (by kernel_rfl) (by kernel_rfl) (q_move rfl) hS_wd ?_
            refine dr_p 6 rfl rfl (by kernel_rfl) (by kernel_rfl) (by kernel_rfl) (by kernel_rfl) (q_move rfl) hS_wd ?_
            refine dr_p 7 rfl rfl (by kernel_rfl) (by kernel_rfl) (by kernel_rfl) (by kernel_rfl) (q_index1 (by exact Es.out) rfl rfl rfl hil) hS_wd ?_
            refine dr_s 8 rfl rfl (by kernel_rfl) (by kernel_rfl) (by kernel_rfl) (by kernel_rfl) (by kernel_rfl) (by kernel_rfl) (q_load (by exact Tk.out) rfl (c1h (cell_at r3.ho co))) hS_wd ?_
            refine dr_p 9 rfl rfl (by kernel_rfl) (by kernel_rfl) (by kernel_rfl) (by kernel_rfl) (q_move rfl) hS_wd ?_
            refine dr_p 10 rfl rfl (by kernel_rfl) (by kernel_rfl) (by kernel_rfl) (by kernel_rfl) (q_index1 (by exact Es.out) rfl rfl rfl hjl) hS_wd ?_
            refine dr_s 11 rfl rfl (by kernel_rfl) (by kernel_rfl) (by kernel_rfl) (by kernel_rfl) (by kernel_rfl) (by kernel_rfl) (q_load (by exact Tk.out) rfl (c1h c1')) hS_wd ?_
            refine dr_p 12 rfl rfl (by kernel_rfl) (by kernel_rfl) (by kernel_rfl) (by kernel_rfl) (q_move rfl) hS_wd ?_
            refine dr_gp 13 rfl rfl rfl rfl (by kernel_rfl) (by kernel_rfl) (by kernel_rfl) (by kernel_rfl) (q_move rfl) hS_wd ?_
            refine dr_gp 14 rfl rfl rfl rfl (by kernel_rfl) (by kernel_rfl) (by kernel_rfl) (by kernel_rfl) (q_move rfl) hS_wd ?_
            refine dr_gp 15 rfl rfl rfl rfl (by kernel_rfl) (by kernel_rfl) (by kernel_rfl) (by kernel_rfl) (q_index1 (by exact Es.out) rfl rfl rfl hil) hS_wd ?_
            refine dr_gs 16 rfl rfl rfl rfl (by kernel_rfl) (by kernel_rfl) (by kernel_rfl) (by kernel_rfl) (by kernel_rfl) (by kernel_rfl) (q_load (by exact Tk.out) rfl (c1h (cell_at r3.ho co))) hS_wd ?_
            refine dr_gp 17 rfl rfl rfl rfl (by kernel_rfl) (by kernel_rfl) (by kernel_rfl) (by kernel_rfl) (q_move rfl) hS_wd ?_
            refine dr_gp 18 rfl rfl rfl rfl (by kernel_rfl) (by kernel_rfl) (by kernel_rfl) (by kernel_rfl) (q_index1 (by exact Es.out) rfl rfl rfl hkl) hS_wd ?_
            refine dr_gs 19 rfl rfl rfl rfl (by kernel_rfl) (by kernel_rfl) (by kernel_rfl) (by kernel_rfl) (by kernel_rfl) (by kernel_rfl) (q_load (by exact Tk.out) rfl (c1h c2')) hS_wd ?_
            refine dr_gp 20 rfl rfl rfl rfl (by kernel_rfl) (by kernel_rfl) (by kernel_rfl) (by kernel_rfl) (q_move rfl) hS_wd ?_
            refine dr_gp 21 rfl rfl rfl rfl (by kernel_rfl) (by kernel_rfl) (by kernel_rfl) (by kernel_rfl) (q_move rfl) hS_wd ?_
            refine dr_gp 22 rfl rfl rfl rfl (by kernel_rfl) (by kernel_rfl) (by kernel_rfl) (by kernel_rfl) (q_move rfl) hS_wd ?_
            refine dr_gp 23 rfl rfl rfl rfl (by kernel_rfl) (by kernel_rfl) (by kernel_rfl) (by kernel_rfl) (q_index1 (by exact Es.out) rfl rfl rfl hkl) hS_wd ?_
            refine dr_gs 24 rfl rfl rfl rfl (by kernel_rfl) (by kernel_rfl) (by kernel_rfl) (by kernel_rfl) (by kernel_rfl) (by kernel_rfl) (q_load (by exact Tk.out) rfl (c1h (cell_at r3.ho ck))) hS_wd ?_
            refine dr_gp 25 rfl rfl rfl rfl (by kernel_rfl) (by kernel_rfl) (by kernel_rfl) (by kernel_rfl) (q_move rfl) hS_wd ?_
            refine dr_gp 26 rfl rfl rfl rfl (by kernel_rfl) (by kernel_rfl) (by kernel_rfl) (by kernel_rfl) (q_index1 (by exact Es.out) rfl rfl rfl hjl) hS_wd ?_
            refine dr_gs 27 rfl rfl rfl rfl (by kernel_rfl) (by kernel_rfl) (by kernel_rfl) (by kernel_rfl) (by kernel_rfl) (by kernel_rfl) (q_load (by exact Tk.out) rfl (c1h c3')) hS_wd ?_
            refine dr_gp 28 rfl rfl rfl rfl (by kernel_rfl) (by kernel_rfl) (by kernel_rfl) (by kernel_rfl) (q_pick_t rfl rfl) hS_wd ?_
            refine dr_p 29 rfl rfl (by kernel_rfl) (by kernel_rfl) (by kernel_rfl) (by kernel_rfl) (q_pick_f rfl rfl) hS_wd ?_
            refine dr_p 30 rfl rfl (by kernel_rfl) (by kernel_rfl) (by kernel_rfl) (by kernel_rfl) (q_index1 (by exact Es.out) rfl rfl rfl hjl) hS_wd ?_
            refine dr_n 31 (by kernel_rfl) rfl (e_store1 (by exact Tk.out) rfl rfl rfl (getK hS_wd (r3.hr i hil)) (by rw [rowV_size]; exact hjl) fun w5 p5 => ⟨fun hu => unl hu (by kernel_rfl), ?_⟩)
            refine dr_done (by kernel_rfl) ?_
            obtain ⟨r5, o5⟩ := fin hk_wd p5 (by rw [hv]; simp)
            repeat (first | refine x_seq ?_ | refine x_reg ?_ | refine x_nil ?_ | refine x_then_n ?_ | refine rl_q rfl (q_move rfl) ?_ | refine rl_q rfl (q_nil rfl) ?_ | refine rl_q rfl (q_fa0 (by exact Fo.out) rfl) ?_ | refine rl_q rfl (q_fak (by exact Fo.out) rfl) ?_ | refine rl_q rfl (q_fieldAddr (by exact Fo.out) rfl) ?_ | refine rl_q rfl (q_assign rfl) ?_ | refine rl_q rfl (q_len rfl (by kernel_rfl) rfl) ?_ | refine rl_q rfl (q_extract rfl rfl) ?_ | refine rl_q rfl (q_addi _ rfl rfl rfl (by omega) (by omega)) ?_ | refine rl_q rfl (q_subi _ rfl rfl rfl (by omega) (by omega)) ?_ | refine rl_q rfl (q_muli _ rfl rfl rfl (by omega) (by omega)) ?_ | refine rl_q rfl (q_pick_t rfl rfl) ?_ | refine rl_q rfl (q_pick_f rfl rfl) ?_ | refine rl_q rfl (q_lt_t rfl rfl (by omega)) ?_ | refine rl_q rfl (q_lt_f rfl rfl (by omega)) ?_ | refine rl_q rfl (q_le_t rfl rfl (by omega)) ?_ | refine rl_q rfl (q_le_f rfl rfl (by omega)) ?_ | refine rl_q rfl (q_gt_t rfl rfl (by omega)) ?_ | refine rl_q rfl (q_gt_f rfl rfl (by omega)) ?_ | refine rl_q rfl (q_ge_t rfl rfl (by omega)) ?_ | refine rl_q rfl (q_ge_f rfl rfl (by omega)) ?_ | refine rl_q rfl (q_eq_t rfl rfl (by omega)) ?_ | refine rl_q rfl (q_eq_f rfl rfl (by omega)) ?_ | refine rl_q rfl (q_ne_t rfl rfl (by omega)) ?_ | refine rl_q rfl (q_ne_f rfl rfl (by omega)) ?_ | refine rl_q rfl (q_lt rfl rfl) ?_ | refine rl_q rfl (q_le rfl rfl) ?_ | refine rl_q rfl (q_gt rfl rfl) ?_ | refine rl_q rfl (q_ge rfl rfl) ?_ | refine rl_q rfl (q_eq rfl rfl) ?_ | refine rl_q rfl (q_ne rfl rfl) ?_ | refine rl_q rfl (q_not rfl) ?_ | refine rl_q rfl (q_nilf rfl) ?_ | refine rl_q rfl (q_makeFunc rfl rfl) ?_ | refine rl_q rfl (q_field (by exact Fo.out) (by kernel_rfl) rfl rfl) ?_ | refine rl_q rfl (q_load (by exact Tk.out) rfl (c1 (by assumption) (by rfl))) ?_ | refine rl_q rfl (q_loadB (by exact Tk.out) rfl (by assumption) (by rfl)) ?_ | refine rl_q rfl (q_load (by exact Tk.out) rfl (c1_cell (by assumption))) ?_ | refine x_blk_n ?_ | refine x_block ?_ | refine x_skip ?_ | refine x_label ?_ | refine x_ret ?_ | refine x_exit ?_ | refine x_then_r ?_ | refine x_then_e ?_ | refine x_blk_e ?_ | refine x_blk_r ?_ | refine x_blk_o rfl ?_ | refine x_cond_t rfl ?_ | refine x_cond_f rfl ?_ | refine rl_go rfl rfl ?_ | refine rl_no rfl rfl rfl rfl ?_)
            exact x_again (j + 1) (And.intro rfl (And.intro rfl (And.intro rfl (And.intro rfl (And.intro rfl trivial))))) ⟨hjl, r5, o5⟩ (by omega)
      · repeat (first | refine x_seq ?_ | refine x_reg ?_ | refine x_nil ?_ | refine x_then_n ?_ | refine x_blk_n ?_ | refine x_block ?_ | refine x_skip ?_ | refine x_label ?_ | refine x_ret ?_ | refine x_exit ?_ | refine x_then_r ?_ | refine x_then_e ?_ | refine x_blk_e ?_ | refine x_blk_r ?_ | refine x_blk_o rfl ?_ | refine x_cond_t rfl ?_ | refine x_cond_f rfl ?_ | refine rl_go rfl rfl ?_ | refine rl_no rfl rfl rfl rfl ?_)
        refine rl_q rfl (q_move rfl) ?_
        refine rl_q rfl (q_move rfl) ?_
        refine rl_q rfl (q_lt_f rfl rfl (by omega)) ?_
        repeat (first | refine x_seq ?_ | refine x_reg ?_ | refine x_nil ?_ | refine x_then_n ?_ | refine x_blk_n ?_ | refine x_block ?_ | refine x_skip ?_ | refine x_label ?_ | refine x_ret ?_ | refine x_exit ?_ | refine x_then_r ?_ | refine x_then_e ?_ | refine x_blk_e ?_ | refine x_blk_r ?_ | refine x_blk_o rfl ?_ | refine x_cond_t rfl ?_ | refine x_cond_f rfl ?_ | refine rl_go rfl rfl ?_ | refine rl_no rfl rfl rfl rfl ?_)
        repeat (first | refine x_seq ?_ | refine x_reg ?_ | refine x_nil ?_ | refine x_then_n ?_ | refine rl_q rfl (q_move rfl) ?_ | refine rl_q rfl (q_nil rfl) ?_ | refine rl_q rfl (q_fa0 (by exact Fo.out) rfl) ?_ | refine rl_q rfl (q_fak (by exact Fo.out) rfl) ?_ | refine rl_q rfl (q_fieldAddr (by exact Fo.out) rfl) ?_ | refine rl_q rfl (q_assign rfl) ?_ | refine rl_q rfl (q_len rfl (by kernel_rfl) rfl) ?_ | refine rl_q rfl (q_extract rfl rfl) ?_ | refine rl_q rfl (q_addi _ rfl rfl rfl (by omega) (by omega)) ?_ | refine rl_q rfl (q_subi _ rfl rfl rfl (by omega) (by omega)) ?_ | refine rl_q rfl (q_muli _ rfl rfl rfl (by omega) (by omega)) ?_ | refine rl_q rfl (q_pick_t rfl rfl) ?_ | refine rl_q rfl (q_pick_f rfl rfl) ?_ | refine rl_q rfl (q_lt_t rfl rfl (by omega)) ?_ | refine rl_q rfl (q_lt_f rfl rfl (by omega)) ?_ | refine rl_q rfl (q_le_t rfl rfl (by omega)) ?_ | refine rl_q rfl (q_le_f rfl rfl (by omega)) ?_ | refine rl_q rfl (q_gt_t rfl rfl (by omega)) ?_ | refine rl_q rfl (q_gt_f rfl rfl (by omega)) ?_ | refine rl_q rfl (q_ge_t rfl rfl (by omega)) ?_ | refine rl_q rfl (q_ge_f rfl rfl (by omega)) ?_ | refine rl_q rfl (q_eq_t rfl rfl (by omega)) ?_ | refine rl_q rfl (q_eq_f rfl rfl (by omega)) ?_ | refine rl_q rfl (q_ne_t rfl rfl (by omega)) ?_ | refine rl_q rfl (q_ne_f rfl rfl (by omega)) ?_ | refine rl_q rfl (q_lt rfl rfl) ?_ | refine rl_q rfl (q_le rfl rfl) ?_ | refine rl_q rfl (q_gt rfl rfl) ?_ | refine rl_q rfl (q_ge rfl rfl) ?_ | refine rl_q rfl (q_eq rfl rfl) ?_ | refine rl_q rfl (q_ne rfl rfl) ?_ | refine rl_q rfl (q_not rfl) ?_ | refine rl_q rfl (q_nilf rfl) ?_ | refine rl_q rfl (q_makeFunc rfl rfl) ?_ | refine rl_q rfl (q_field (by exact Fo.out) (by kernel_rfl) rfl rfl) ?_ | refine rl_q rfl (q_load (by exact Tk.out) rfl (c1 (by assumption) (by rfl))) ?_ | refine rl_q rfl (q_loadB (by exact Tk.out) rfl (by assumption) (by rfl)) ?_ | refine rl_q rfl (q_load (by exact Tk.out) rfl (c1_cell (by assumption))) ?_ | refine x_blk_n ?_ | refine x_block ?_ | refine x_skip ?_ | refine x_label ?_ | refine x_ret ?_ | refine x_exit ?_ | refine x_then_r ?_ | refine x_then_e ?_ | refine x_blk_e ?_ | refine x_blk_r ?_ | refine x_blk_o rfl ?_ | refine x_cond_t rfl ?_ | refine x_cond_f rfl ?_ | refine rl_go rfl rfl ?_ | refine rl_no rfl rfl rfl rfl ?_)
        refine x_again (i + 1) (And.intro rfl (And.intro rfl (And.intro rfl (And.intro rfl trivial)))) ⟨hil, r3.congr fun a b _ hb => ?_, o3⟩ (by omega)
        unfold mid
        by_cases h : a < i ∨ (a = i ∧ b < j)
        · rw [if_pos h, if_pos (by omega)]
        · rw [if_neg h, if_neg (by omega)]
    · repeat (first | refine x_seq ?_ | refine x_reg ?_ | refine x_nil ?_ | refine x_then_n ?_ | refine x_blk_n ?_ | refine x_block ?_ | refine x_skip ?_ | refine x_label ?_ | refine x_ret ?_ | refine x_exit ?_ | refine x_then_r ?_ | refine x_then_e ?_ | refine x_blk_e ?_ | refine x_blk_r ?_ | refine x_blk_o rfl ?_ | refine x_cond_t rfl ?_ | refine x_cond_f rfl ?_ | refine rl_go rfl rfl ?_ | refine rl_no rfl rfl rfl rfl ?_)
      refine rl_q rfl (q_move rfl) ?_
      refine rl_q rfl (q_move rfl) ?_
      refine rl_q rfl (q_lt_f rfl rfl (by omega)) ?_
      repeat (first | refine x_seq ?_ | refine x_reg ?_ | refine x_nil ?_ | refine x_then_n ?_ | refine x_blk_n ?_ | refine x_block ?_ | refine x_skip ?_ | refine x_label ?_ | refine x_ret ?_ | refine x_exit ?_ | refine x_then_r ?_ | refine x_then_e ?_ | refine x_blk_e ?_ | refine x_blk_r ?_ | refine x_blk_o rfl ?_ | refine x_cond_t rfl ?_ | refine x_cond_f rfl ?_ | refine rl_go rfl rfl ?_ | refine rl_no rfl rfl rfl rfl ?_)
      repeat (first | refine x_seq ?_ | refine x_reg ?_ | refine x_nil ?_ | refine x_then_n ?_ | refine rl_q rfl (q_move rfl) ?_ | refine rl_q rfl (q_nil rfl) ?_ | refine rl_q rfl (q_fa0 (by exact Fo.out) rfl) ?_ | refine rl_q rfl (q_fak (by exact Fo.out) rfl) ?_ | refine rl_q rfl (q_fieldAddr (by exact Fo.out) rfl) ?_ | refine rl_q rfl (q_assign rfl) ?_ | refine rl_q rfl (q_len rfl (by kernel_rfl) rfl) ?_ | refine rl_q rfl (q_extract rfl rfl) ?_ | refine rl_q rfl (q_addi _ rfl rfl rfl (by omega) (by omega)) ?_ | refine rl_q rfl (q_subi _ rfl rfl rfl (by omega) (by omega)) ?_ | refine rl_q rfl (q_muli _ rfl rfl rfl (by omega) (by omega)) ?_ | refine rl_q rfl (q_pick_t rfl rfl) ?_ | refine rl_q rfl (q_pick_f rfl rfl) ?_ | refine rl_q rfl (q_lt_t rfl rfl (by omega)) ?_ | refine rl_q rfl (q_lt_f rfl rfl (by omega)) ?_ | refine rl_q rfl (q_le_t rfl rfl (by omega)) ?_ | refine rl_q rfl (q_le_f rfl rfl (by omega)) ?_ | refine rl_q rfl (q_gt_t rfl rfl (by omega)) ?_ | refine rl_q rfl (q_gt_f rfl rfl (by omega)) ?_ | refine rl_q rfl (q_ge_t rfl rfl (by omega)) ?_ | refine rl_q rfl (q_ge_f rfl rfl (by omega)) ?_ | refine rl_q rfl (q_eq_t rfl rfl (by omega)) ?_ | refine rl_q rfl (q_eq_f rfl rfl (by omega)) ?_ | refine rl_q rfl (q_ne_t rfl rfl (by omega)) ?_ | refine rl_q rfl (q_ne_f rfl rfl (by omega)) ?_ | refine rl_q rfl (q_lt rfl rfl) ?_ | refine rl_q rfl (q_le rfl rfl) ?_ | refine rl_q rfl (q_gt rfl rfl) ?_ | refine rl_q rfl (q_ge rfl rfl) ?_ | refine rl_q rfl (q_eq rfl rfl) ?_ | refine rl_q rfl (q_ne rfl rfl) ?_ | refine rl_q rfl (q_not rfl) ?_ | refine rl_q rfl (q_nilf rfl) ?_ | refine rl_q rfl (q_makeFunc rfl rfl) ?_ | refine rl_q rfl (q_field (by exact Fo.out) (by kernel_rfl) rfl rfl) ?_ | refine rl_q rfl (q_load (by exact Tk.out) rfl (c1 (by assumption) (by rfl))) ?_ | refine rl_q rfl (q_loadB (by exact Tk.out) rfl (by assumption) (by rfl)) ?_ | refine rl_q rfl (q_load (by exact Tk.out) rfl (c1_cell (by assumption))) ?_ | refine x_blk_n ?_ | refine x_block ?_ | refine x_skip ?_ | refine x_label ?_ | refine x_ret ?_ | refine x_exit ?_ | refine x_then_r ?_ | refine x_then_e ?_ | refine x_blk_e ?_ | refine x_blk_r ?_ | refine x_blk_o rfl ?_ | refine x_cond_t rfl ?_ | refine x_cond_f rfl ?_ | refine rl_go rfl rfl ?_ | refine rl_no rfl rfl rfl rfl ?_)
      refine x_again (k + 1) (And.intro rfl (And.intro rfl (And.intro rfl trivial))) ⟨hkl, r2.congr fun a b ha _ => ?_, o2⟩ (by omega)
      unfold mid
      rw [if_pos (by omega)]
  · obtain rfl : k = n := by omega
    repeat (first | refine x_seq ?_ | refine x_reg ?_ | refine x_nil ?_ | refine x_then_n ?_ | refine x_blk_n ?_ | refine x_block ?_ | refine x_skip ?_ | refine x_label ?_ | refine x_ret ?_ | refine x_exit ?_ | refine x_then_r ?_ | refine x_then_e ?_ | refine x_blk_e ?_ | refine x_blk_r ?_ | refine x_blk_o rfl ?_ | refine x_cond_t rfl ?_ | refine x_cond_f rfl ?_ | refine rl_go rfl rfl ?_ | refine rl_no rfl rfl rfl rfl ?_)
    refine rl_q rfl (q_move rfl) ?_
    refine rl_q rfl (q_move rfl) ?_
    refine rl_q rfl (q_lt_f rfl rfl (by omega)) ?_
    repeat (first | refine x_seq ?_ | refine x_reg ?_ | refine x_nil ?_ | refine x_then_n ?_ | refine x_blk_n ?_ | refine x_block ?_ | refine x_skip ?_ | refine x_label ?_ | refine x_ret ?_ | refine x_exit ?_ | refine x_then_r ?_ | refine x_then_e ?_ | refine x_blk_e ?_ | refine x_blk_r ?_ | refine x_blk_o rfl ?_ | refine x_cond_t rfl ?_ | refine x_cond_f rfl ?_ | refine rl_go rfl rfl ?_ | refine rl_no rfl rfl rfl rfl ?_)
    refine F.sub ?_ (rest w1 r1 o1)
    exact (And.intro rfl trivial)

theorem reach_c {w : World} {ev : Value} {L : List (List Int)} (hg : Gr w ev L) (hN : L.length ≤ 1000) (hE : ∀ l ∈ L, l.length ≤ 1000000) :
    Calls Try.prog 87 #[ev] w (Rt fun v w' => ∃ bo rb, v = .slice (some ⟨bo, 0, none⟩) L.length L.length ∧ RB w' w.heap.size bo L.length L.length rb (wsh (eL L) L.length) ∧ Old w w') := by
  obtain ⟨A, cap, rfl, _⟩ := id hg
  refine x_enter (n := 96) [(0, _)] Try.func87 rfl Try.ntmps87 rfl (And.intro rfl trivial) ?_
  repeat (first | refine x_seq ?_ | refine x_reg ?_ | refine x_nil ?_ | refine x_then_n ?_ | refine rl_q rfl (q_move rfl) ?_ | refine rl_q rfl (q_nil rfl) ?_ | refine rl_q rfl (q_fa0 (by exact Fo.out) rfl) ?_ | refine rl_q rfl (q_fak (by exact Fo.out) rfl) ?_ | refine rl_q rfl (q_fieldAddr (by exact Fo.out) rfl) ?_ | refine rl_q rfl (q_assign rfl) ?_ | refine rl_q rfl (q_len rfl (by kernel_rfl) rfl) ?_ | refine rl_q rfl (q_extract rfl rfl) ?_ | refine rl_q rfl (q_addi _ rfl rfl rfl (by omega) (by omega)) ?_ | refine rl_q rfl (q_subi _ rfl rfl rfl (by omega) (by omega)) ?_ | refine rl_q rfl (q_muli _ rfl rfl rfl (by omega) (by omega)) ?_ | refine rl_q rfl (q_pick_t rfl rfl) ?_ | refine rl_q rfl (q_pick_f rfl rfl) ?_ | refine rl_q rfl (q_lt_t rfl rfl (by omega)) ?_ | refine rl_q rfl (q_lt_f rfl rfl (by omega)) ?_ | refine rl_q rfl (q_le_t rfl rfl (by omega)) ?_ | refine rl_q rfl (q_le_f rfl rfl (by omega)) ?_ | refine rl_q rfl (q_gt_t rfl rfl (by omega)) ?_ | refine rl_q rfl (q_gt_f rfl rfl (by omega)) ?_ | refine rl_q rfl (q_ge_t rfl rfl (by omega)) ?_ | refine rl_q rfl (q_ge_f rfl rfl (by omega)) ?_ | refine rl_q rfl (q_eq_t rfl rfl (by omega)) ?_ | refine rl_q rfl (q_eq_f rfl rfl (by omega)) ?_ | refine rl_q rfl (q_ne_t rfl rfl (by omega)) ?_ | refine rl_q rfl (q_ne_f rfl rfl (by omega)) ?_ | refine rl_q rfl (q_lt rfl rfl) ?_ | refine rl_q rfl (q_le rfl rfl) ?_ | refine rl_q rfl (q_gt rfl rfl) ?_ | refine rl_q rfl (q_ge rfl rfl) ?_ | refine rl_q rfl (q_eq rfl rfl) ?_ | refine rl_q rfl (q_ne rfl rfl) ?_ | refine rl_q rfl (q_not rfl) ?_ | refine rl_q rfl (q_nilf rfl) ?_ | refine rl_q rfl (q_makeFunc rfl rfl) ?_ | refine rl_q rfl (q_field (by exact Fo.out) (by kernel_rfl) rfl rfl) ?_ | refine rl_q rfl (q_load (by exact Tk.out) rfl (c1 (by assumption) (by rfl))) ?_ | refine rl_q rfl (q_loadB (by exact Tk.out) rfl (by assumption) (by rfl)) ?_ | refine rl_q rfl (q_load (by exact Tk.out) rfl (c1_cell (by assumption))) ?_ | refine x_blk_n ?_ | refine x_block ?_ | refine x_skip ?_ | refine x_label ?_ | refine x_ret ?_ | refine x_exit ?_ | refine x_then_r ?_ | refine x_then_e ?_ | refine x_blk_e ?_ | refine x_blk_r ?_ | refine x_blk_o rfl ?_ | refine x_cond_t rfl ?_ | refine x_cond_f rfl ?_ | refine rl_go rfl rfl ?_ | refine rl_no rfl rfl rfl rfl ?_)
  refine rl_e rfl (e_mk1 (m := L.length) (by exact Us.out) (by exact Zi.out) rfl rfl rfl (by omega) (by omega) fun bo w1 n1 => ?_)
  have h1 := n1.here
  rw [rowV_rep] at h1
  have r1 : RB w1 w.heap.size bo L.length 0 (fun _ => 0) fun _ _ => false := ⟨by simpa using h1, fun i hi => absurd hi (Nat.not_lt_zero _), fun i j hi => absurd hi (Nat.not_lt_zero _), n1.fresh, fun i hi => absurd hi (Nat.not_lt_zero _)⟩
  repeat (first | refine x_seq ?_ | refine x_reg ?_ | refine x_nil ?_ | refine x_then_n ?_ | refine rl_q rfl (q_move rfl) ?_ | refine rl_q rfl (q_nil rfl) ?_ | refine rl_q rfl (q_fa0 (by exact Fo.out) rfl) ?_ | refine rl_q rfl (q_fak (by exact Fo.out) rfl) ?_ | refine rl_q rfl (q_fieldAddr (by exact Fo.out) rfl) ?_ | refine rl_q rfl (q_assign rfl) ?_ | refine rl_q rfl (q_len rfl (by kernel_rfl) rfl) ?_ | refine rl_q rfl (q_extract rfl rfl) ?_ | refine rl_q rfl (q_addi _ rfl rfl rfl (by omega) (by omega)) ?_ | refine rl_q rfl (q_subi _ rfl rfl rfl (by omega) (by omega)) ?_ | refine rl_q rfl (q_muli _ rfl rfl rfl (by omega) (by omega)) ?_ | refine rl_q rfl (q_pick_t rfl rfl) ?_ | refine rl_q rfl (q_pick_f rfl rfl) ?_ | refine rl_q rfl (q_lt_t rfl rfl (by omega)) ?_ | refine rl_q rfl (q_lt_f rfl rfl (by omega)) ?_ | refine rl_q rfl (q_le_t rfl rfl (by omega)) ?_ | refine rl_q rfl (q_le_f rfl rfl (by omega)) ?_ | refine rl_q rfl (q_gt_t rfl rfl (by omega)) ?_ | refine rl_q rfl (q_gt_f rfl rfl (by omega)) ?_ | refine rl_q rfl (q_ge_t rfl rfl (by omega)) ?_ | refine rl_q rfl (q_ge_f rfl rfl (by omega)) ?_ | refine rl_q rfl (q_eq_t rfl rfl (by omega)) ?_ | refine rl_q rfl (q_eq_f rfl rfl (by omega)) ?_ | refine rl_q rfl (q_ne_t rfl rfl (by omega)) ?_ | refine rl_q rfl (q_ne_f rfl rfl (by omega)) ?_ | refine rl_q rfl (q_lt rfl rfl) ?_ | refine rl_q rfl (q_le rfl rfl) ?_ | refine rl_q rfl (q_gt rfl rfl) ?_ | refine rl_q rfl (q_ge rfl rfl) ?_ | refine rl_q rfl (q_eq rfl rfl) ?_ | refine rl_q rfl (q_ne rfl rfl) ?_ | refine rl_q rfl (q_not rfl) ?_ | refine rl_q rfl (q_nilf rfl) ?_ | refine rl_q rfl (q_makeFunc rfl rfl) ?_ | refine rl_q rfl (q_field (by exact Fo.out) (by kernel_rfl) rfl rfl) ?_ | refine rl_q rfl (q_load (by exact Tk.out) rfl (c1 (by assumption) (by rfl))) ?_ | refine rl_q rfl (q_loadB (by exact Tk.out) rfl (by assumption) (by rfl)) ?_ | refine rl_q rfl (q_load (by exact Tk.out) rfl (c1_cell (by assumption))) ?_ | refine x_blk_n ?_ | refine x_block ?_ | refine x_skip ?_ | refine x_label ?_ | refine x_ret ?_ | refine x_exit ?_ | refine x_then_r ?_ | refine x_then_e ?_ | refine x_blk_e ?_ | refine x_blk_r ?_ | refine x_blk_o rfl ?_ | refine x_cond_t rfl ?_ | refine x_cond_f rfl ?_ | refine rl_go rfl rfl ?_ | refine rl_no rfl rfl rfl rfl ?_)
  refine F.sub ?_ (reach1 hg hN hE ((Old.refl _).grow n1.kept) r1 fun rb w2 r2 o2 => ?_)
  exact (And.intro rfl (And.intro rfl (And.intro rfl (And.intro rfl (And.intro rfl trivial)))))
  repeat (first | refine x_seq ?_ | refine x_reg ?_ | refine x_nil ?_ | refine x_then_n ?_ | refine rl_q rfl (q_move rfl) ?_ | refine rl_q rfl (q_nil rfl) ?_ | refine rl_q rfl (q_fa0 (by exact Fo.out) rfl) ?_ | refine rl_q rfl (q_fak (by exact Fo.out) rfl) ?_ | refine rl_q rfl (q_fieldAddr (by exact Fo.out) rfl) ?_ | refine rl_q rfl (q_assign rfl) ?_ | refine rl_q rfl (q_len rfl (by kernel_rfl) rfl) ?_ | refine rl_q rfl (q_extract rfl rfl) ?_ | refine rl_q rfl (q_addi _ rfl rfl rfl (by omega) (by omega)) ?_ | refine rl_q rfl (q_subi _ rfl rfl rfl (by omega) (by omega)) ?_ | refine rl_q rfl (q_muli _ rfl rfl rfl (by omega) (by omega)) ?_ | refine rl_q rfl (q_pick_t rfl rfl) ?_ | refine rl_q rfl (q_pick_f rfl rfl) ?_ | refine rl_q rfl (q_lt_t rfl rfl (by omega)) ?_ | refine rl_q rfl (q_lt_f rfl rfl (by omega)) ?_ | refine rl_q rfl (q_le_t rfl rfl (by omega)) ?_ | refine rl_q rfl (q_le_f rfl rfl (by omega)) ?_ | refine rl_q rfl (q_gt_t rfl rfl (by omega)) ?_ | refine rl_q rfl (q_gt_f rfl rfl (by omega)) ?_ | refine rl_q rfl (q_ge_t rfl rfl (by omega)) ?_ | refine rl_q rfl (q_ge_f rfl rfl (by omega)) ?_ | refine rl_q rfl (q_eq_t rfl rfl (by omega)) ?_ | refine rl_q rfl (q_eq_f rfl rfl (by omega)) ?_ | refine rl_q rfl (q_ne_t rfl rfl (by omega)) ?_ | refine rl_q rfl (q_ne_f rfl rfl (by omega)) ?_ | refine rl_q rfl (q_lt rfl rfl) ?_ | refine rl_q rfl (q_le rfl rfl) ?_ | refine rl_q rfl (q_gt rfl rfl) ?_ | refine rl_q rfl (q_ge rfl rfl) ?_ | refine rl_q rfl (q_eq rfl rfl) ?_ | refine rl_q rfl (q_ne rfl rfl) ?_ | refine rl_q rfl (q_not rfl) ?_ | refine rl_q rfl (q_nilf rfl) ?_ | refine rl_q rfl (q_makeFunc rfl rfl) ?_ | refine rl_q rfl (q_field (by exact Fo.out) (by kernel_rfl) rfl rfl) ?_ | refine rl_q rfl (q_load (by exact Tk.out) rfl (c1 (by assumption) (by rfl))) ?_ | refine rl_q rfl (q_loadB (by exact Tk.out) rfl (by assumption) (by rfl)) ?_ | refine rl_q rfl (q_load (by exact Tk.out) rfl (c1_cell (by assumption))) ?_ | refine x_blk_n ?_ | refine x_block ?_ | refine x_skip ?_ | refine x_label ?_ | refine x_ret ?_ | refine x_exit ?_ | refine x_then_r ?_ | refine x_then_e ?_ | refine x_blk_e ?_ | refine x_blk_r ?_ | refine x_blk_o rfl ?_ | refine x_cond_t rfl ?_ | refine x_cond_f rfl ?_ | refine rl_go rfl rfl ?_ | refine rl_no rfl rfl rfl rfl ?_)
  refine F.sub ?_ (reach2 (rb := rb) hN o2 r2 fun w3 r3 o3 => ?_)
  exact (And.intro rfl (And.intro rfl (And.intro rfl trivial)))
  repeat (first | refine x_seq ?_ | refine x_reg ?_ | refine x_nil ?_ | refine x_then_n ?_ | refine rl_q rfl (q_move rfl) ?_ | refine rl_q rfl (q_nil rfl) ?_ | refine rl_q rfl (q_fa0 (by exact Fo.out) rfl) ?_ | refine rl_q rfl (q_fak (by exact Fo.out) rfl) ?_ | refine rl_q rfl (q_fieldAddr (by exact Fo.out) rfl) ?_ | refine rl_q rfl (q_assign rfl) ?_ | refine rl_q rfl (q_len rfl (by kernel_rfl) rfl) ?_ | refine rl_q rfl (q_extract rfl rfl) ?_ | refine rl_q rfl (q_addi _ rfl rfl rfl (by omega) (by omega)) ?_ | refine rl_q rfl (q_subi _ rfl rfl rfl (by omega) (by omega)) ?_ | refine rl_q rfl (q_muli _ rfl rfl rfl (by omega) (by omega)) ?_ | refine rl_q rfl (q_pick_t rfl rfl) ?_ | refine rl_q rfl (q_pick_f rfl rfl) ?_ | refine rl_q rfl (q_lt_t rfl rfl (by omega)) ?_ | refine rl_q rfl (q_lt_f rfl rfl (by omega)) ?_ | refine rl_q rfl (q_le_t rfl rfl (by omega)) ?_ | refine rl_q rfl (q_le_f rfl rfl (by omega)) ?_ | refine rl_q rfl (q_gt_t rfl rfl (by omega)) ?_ | refine rl_q rfl (q_gt_f rfl rfl (by omega)) ?_ | refine rl_q rfl (q_ge_t rfl rfl (by omega)) ?_ | refine rl_q rfl (q_ge_f rfl rfl (by omega)) ?_ | refine rl_q rfl (q_eq_t rfl rfl (by omega)) ?_ | refine rl_q rfl (q_eq_f rfl rfl (by omega)) ?_ | refine rl_q rfl (q_ne_t rfl rfl (by omega)) ?_ | refine rl_q rfl (q_ne_f rfl rfl (by omega)) ?_ | refine rl_q rfl (q_lt rfl rfl) ?_ | refine rl_q rfl (q_le rfl rfl) ?_ | refine rl_q rfl (q_gt rfl rfl) ?_ | refine rl_q rfl (q_ge rfl rfl) ?_ | refine rl_q rfl (q_eq rfl rfl) ?_ | refine rl_q rfl (q_ne rfl rfl) ?_ | refine rl_q rfl (q_not rfl) ?_ | refine rl_q rfl (q_nilf rfl) ?_ | refine rl_q rfl (q_makeFunc rfl rfl) ?_ | refine rl_q rfl (q_field (by exact Fo.out) (by kernel_rfl) rfl rfl) ?_ | refine rl_q rfl (q_load (by exact Tk.out) rfl (c1 (by assumption) (by rfl))) ?_ | refine rl_q rfl (q_loadB (by exact Tk.out) rfl (by assumption) (by rfl)) ?_ | refine rl_q rfl (q_load (by exact Tk.out) rfl (c1_cell (by assumption))) ?_ | refine x_blk_n ?_ | refine x_block ?_ | refine x_skip ?_ | refine x_label ?_ | refine x_ret ?_ | refine x_exit ?_ | refine x_then_r ?_ | refine x_then_e ?_ | refine x_blk_e ?_ | refine x_blk_r ?_ | refine x_blk_o rfl ?_ | refine x_cond_t rfl ?_ | refine x_cond_f rfl ?_ | refine rl_go rfl rfl ?_ | refine rl_no rfl rfl rfl rfl ?_)
  exact x_done1 rfl rfl ⟨_, rfl, bo, rb, rfl, r3, o3⟩
end Go.Proofs.YtnjjjfffppllfaaX.G
