/- The laws of the graph: the components by the page. -/
import Derived.Test.YtnjjjfffppllfaaLt
import Derived.Test.YtnjjjfffppllfaaPg
namespace Go.Proofs.YtnjjjfffppllfaaX.G
open Go.RowKit Go.Proofs.YtnjjjfffppllfaaK
open Tj (same okj cmp dn Down wsh)
attribute [local irreducible] F Qt Ef Code.wp wpList wpT bodyPost Calls
set_option linter.unusedVariables false
set_option linter.unusedSimpArgs false

set_option maxHeartbeats 4000000 in
theorem loop31_6 {Q : Exit → Act → World → Prop} [PanicOk Q] {w : World} {n nc nD bo bd cnt : Nat} {D : Nat → Bool} {outv : Value} {l : List Nat} {A : Option Addr} {cap : Nat} (hd : w.heap[bd]? = some (.cells (rowV n fun x => .bool (D x)) 4 (0, 0)))
    (ho : w.ownsRow nc 3 1 (.slice A l.length cap) l.length (l.flatMap ints)) (hl : ∀ x ∈ l, x < n) (hn : n ≤ 1000) (hln : l.length ≤ 1000) (hnD : nD ≤ bd)
    (rest : ∀ w', w'.heap[bd]? = some (.cells (rowV n fun x => .bool (D x || l.contains x)) 4 (0, 0)) → Kept nD [4] w w' → F 108 [(3, .int .i64 (n : Int)), (4, .slice (some ⟨bo, 0, none⟩) n n), (5, .slice (some ⟨bd, 0, none⟩) n n), (6, outv), (7, .int .i64 (cnt : Int)), (10, .slice A l.length cap)] w' (Q .normal)) :
    F 108 [(3, .int .i64 (n : Int)), (4, .slice (some ⟨bo, 0, none⟩) n n), (5, .slice (some ⟨bd, 0, none⟩) n n), (6, outv), (7, .int .i64 (cnt : Int)), (10, .slice A l.length cap), (89, .slice A l.length cap), (90, .int .i64 (l.length : Int)), (91, .int .i64 0)] w ((bodyAt Try.f31 [1, 1, 1, 1, 1, 0, 1, 0, 0, 1, 0, 1, 0, 0, 1, 0, 0, 1, 1, 1, 1, 0, 1, 0]).wp Try.prog (Exit.inBlock 6 Q)) := by
  refine x_loop (γ := Nat) (fun g => [(3, .int .i64 (n : Int)), (4, .slice (some ⟨bo, 0, none⟩) n n), (5, .slice (some ⟨bd, 0, none⟩) n n), (6, outv), (7, .int .i64 (cnt : Int)), (10, .slice A l.length cap), (89, .slice A l.length cap), (90, .int .i64 (l.length : Int)), (91, .int .i64 (g : Int))])
    (fun g w' => g ≤ l.length ∧ w'.heap[bd]? = some (.cells (rowV n fun x => .bool (D x || (l.take g).contains x)) 4 (0, 0)) ∧ Kept nD [4] w w') (fun g => l.length - g) 0 (And.intro rfl (And.intro rfl (And.intro rfl (And.intro rfl (And.intro rfl (And.intro rfl (And.intro rfl (And.intro rfl (And.intro rfl trivial))))))))) ⟨Nat.zero_le _, by simpa using hd, Kept.refl _ _ _⟩ ?_
  rintro k w1 ⟨hk, hd1, k1⟩
  by_cases hkl : k < l.length
  · obtain ⟨b, cp, e, _, _, hc⟩ := own_cell ints_len (own_keep ho k1 rfl) (by omega)
    cases e
    have hc := hc k hkl _ rfl
    have hx := hl _ (List.getElem_mem hkl)
    have htk := List.take_succ_eq_append_getElem hkl
    generalize l[k] = x at *
    repeat (first | refine x_seq ?_ | refine x_reg ?_ | refine x_nil ?_ | refine x_then_n ?_ | refine x_blk_n ?_ | refine x_block ?_ | refine x_skip ?_ | refine x_label ?_ | refine x_ret ?_ | refine x_exit ?_ | refine x_then_r ?_ | refine x_then_e ?_ | refine x_blk_e ?_ | refine x_blk_r ?_ | refine x_blk_o rfl ?_ | refine x_cond_t rfl ?_ | refine x_cond_f rfl ?_ | refine rl_go rfl rfl ?_ | refine rl_no rfl rfl rfl rfl ?_)
    refine rl_q rfl (q_lt_t rfl rfl (by omega)) ?_
    repeat (first | refine x_seq ?_ | refine x_reg ?_ | refine x_nil ?_ | refine x_then_n ?_ | refine x_blk_n ?_ | refine x_block ?_ | refine x_skip ?_ | refine x_label ?_ | refine x_ret ?_ | refine x_exit ?_ | refine x_then_r ?_ | refine x_then_e ?_ | refine x_blk_e ?_ | refine x_blk_r ?_ | refine x_blk_o rfl ?_ | refine x_cond_t rfl ?_ | refine x_cond_f rfl ?_ | refine rl_go rfl rfl ?_ | refine rl_no rfl rfl rfl rfl ?_)
    refine rl_q rfl (q_index1 (by exact Es.out) rfl rfl rfl hkl) ?_
    refine rl_q rfl (q_load (by exact Tk.out) rfl (c1_cell hc)) ?_
    refine rl_q rfl (q_assign rfl) ?_
    repeat (first | refine x_seq ?_ | refine x_reg ?_ | refine x_nil ?_ | refine x_then_n ?_ | refine x_blk_n ?_ | refine x_block ?_ | refine x_skip ?_ | refine x_label ?_ | refine x_ret ?_ | refine x_exit ?_ | refine x_then_r ?_ | refine x_then_e ?_ | refine x_blk_e ?_ | refine x_blk_r ?_ | refine x_blk_o rfl ?_ | refine x_cond_t rfl ?_ | refine x_cond_f rfl ?_ | refine rl_go rfl rfl ?_ | refine rl_no rfl rfl rfl rfl ?_)
    refine rl_q rfl (q_move rfl) ?_
    refine rl_q rfl (q_move rfl) ?_
    refine rl_q rfl (q_index1 (by exact Es.out) rfl rfl rfl hx) ?_
    refine rl_n (e_store1 (by exact Tk.out) rfl rfl rfl hd1 (by rw [rowV_size]; exact hx) fun w2 p2 => ?_)
    repeat (first | refine x_seq ?_ | refine x_reg ?_ | refine x_nil ?_ | refine x_then_n ?_ | refine x_blk_n ?_ | refine x_block ?_ | refine x_skip ?_ | refine x_label ?_ | refine x_ret ?_ | refine x_exit ?_ | refine x_then_r ?_ | refine x_then_e ?_ | refine x_blk_e ?_ | refine x_blk_r ?_ | refine x_blk_o rfl ?_ | refine x_cond_t rfl ?_ | refine x_cond_f rfl ?_ | refine rl_go rfl rfl ?_ | refine rl_no rfl rfl rfl rfl ?_)
    have hd2 := putV p2
    rw [rowV_congr (g := fun y => .bool (D y || (l.take (k + 1)).contains y)) (fun y _ => by
      rw [htk]
      unfold Tj.upd
      by_cases e : y = x
      · subst e; simp
      · simp [e])] at hd2
    refine rl_q rfl (q_addi ((k + 1 : Nat) : Int) rfl rfl (by omega) (by omega) (by omega)) ?_
    refine rl_q rfl (q_move rfl) ?_
    repeat (first | refine x_seq ?_ | refine x_reg ?_ | refine x_nil ?_ | refine x_then_n ?_ | refine x_blk_n ?_ | refine x_block ?_ | refine x_skip ?_ | refine x_label ?_ | refine x_ret ?_ | refine x_exit ?_ | refine x_then_r ?_ | refine x_then_e ?_ | refine x_blk_e ?_ | refine x_blk_r ?_ | refine x_blk_o rfl ?_ | refine x_cond_t rfl ?_ | refine x_cond_f rfl ?_ | refine rl_go rfl rfl ?_ | refine rl_no rfl rfl rfl rfl ?_)
    exact x_again (k + 1) (And.intro rfl (And.intro rfl (And.intro rfl (And.intro rfl (And.intro rfl (And.intro rfl (And.intro rfl (And.intro rfl (And.intro rfl trivial))))))))) ⟨hkl, hd2, kept_put k1 p2 hd1 rfl hnD⟩ (by omega)
  · have hkn : k = l.length := by omega
    subst hkn
    rw [List.take_of_length_le (Nat.le_refl _)] at hd1
    repeat (first | refine x_seq ?_ | refine x_reg ?_ | refine x_nil ?_ | refine x_then_n ?_ | refine x_blk_n ?_ | refine x_block ?_ | refine x_skip ?_ | refine x_label ?_ | refine x_ret ?_ | refine x_exit ?_ | refine x_then_r ?_ | refine x_then_e ?_ | refine x_blk_e ?_ | refine x_blk_r ?_ | refine x_blk_o rfl ?_ | refine x_cond_t rfl ?_ | refine x_cond_f rfl ?_ | refine rl_go rfl rfl ?_ | refine rl_no rfl rfl rfl rfl ?_)
    refine rl_q rfl (q_lt_f rfl rfl (by omega)) ?_
    repeat (first | refine x_seq ?_ | refine x_reg ?_ | refine x_nil ?_ | refine x_then_n ?_ | refine x_blk_n ?_ | refine x_block ?_ | refine x_skip ?_ | refine x_label ?_ | refine x_ret ?_ | refine x_exit ?_ | refine x_then_r ?_ | refine x_then_e ?_ | refine x_blk_e ?_ | refine x_blk_r ?_ | refine x_blk_o rfl ?_ | refine x_cond_t rfl ?_ | refine x_cond_f rfl ?_ | refine rl_go rfl rfl ?_ | refine rl_no rfl rfl rfl rfl ?_)
    refine F.sub ?_ (rest w1 hd1 k1)
    exact (And.intro rfl (And.intro rfl (And.intro rfl (And.intro rfl (And.intro rfl (And.intro rfl trivial))))))

theorem own_lower {n0 n1 : Nat} {w : World} {E k n : Nat} {v : Value} {xs : List Value} (h : w.ownsRow n1 E k v n xs) (hn : n0 ≤ n1) : w.ownsRow n0 E k v n xs := by
  obtain ⟨h1, h2⟩ := h
  refine ⟨h1, h2.imp id ?_⟩
  rintro ⟨g, cap, cur, e1, e2, e3⟩
  exact ⟨g, cap, cur, e1, by omega, e3⟩
def fst1 (p : Value × List Nat) : List Value := [p.1]
structure S31 (w2 w : World) (bd n : Nat) (us : List (Value × List Nat)) (outv : Value) : Prop where
  hd : w.heap[bd]? = some (.cells (rowV n fun j => .bool (dn (us.map (·.2)) j)) 4 (0, 0))
  ou : w.ownsRow w2.heap.size 37 1 outv us.length (us.flatMap fst1)
  el : ∀ p ∈ us, w.ownsRow w2.heap.size 3 1 p.1 p.2.length (p.2.flatMap ints)
  k : Kept w2.heap.size [3, 4, 37] w2 w
theorem S31.comp {w2 w w' : World} {bd n m : Nat} {us : List (Value × List Nat)} {outv : Value} (h : S31 w2 w bd n us outv) (hk : Kept m [3] w w') (hm : w.heap.size ≤ m) : S31 w2 w' bd n us outv :=
  ⟨gett hk h.hd rfl, own_keep h.ou hk rfl, fun p hp => own_below (h.el p hp) hk hm, h.k.trans (hk.mono (Nat.le_trans h.k.size hm) (by simp))⟩

set_option maxHeartbeats 4000000 in
theorem loop31_2 {Q : Exit → Act → World → Prop} [PanicOk Q] {w2 w : World} {n n0 bo bd : Nat} {rb : Nat → Nat} {Rb : Nat → Nat → Bool} {es : Tj.Es} {outv : Value} {us : List (Value × List Nat)} (hr : RB w2 n0 bo n n rb Rb) (hR : ∀ i j, i < n → (Tj.R es i j ↔ i = j ∨ Rb i j = true)) (hn : n ≤ 1000) (hbd : w2.heap.size ≤ bd) (h : S31 w2 w bd n us outv)
    (hD : Down n es (us.map (·.2))) (hlt : (us.map (·.2)).flatten.length < n) (hus : us.length ≤ 1000)
    (rest : ∀ u l outv' w', S31 w2 w' bd n (us ++ [(u, l)]) outv' → Down n es ((us ++ [(u, l)]).map (·.2)) → 0 < l.length → F 108 [(3, .int .i64 (n : Int)), (4, .slice (some ⟨bo, 0, none⟩) n n), (5, .slice (some ⟨bd, 0, none⟩) n n), (6, outv'), (7, .int .i64 (((us ++ [(u, l)]).map (·.2)).flatten.length : Int))] w' (Q .normal)) :
    F 108 [(3, .int .i64 (n : Int)), (4, .slice (some ⟨bo, 0, none⟩) n n), (5, .slice (some ⟨bd, 0, none⟩) n n), (6, outv), (7, .int .i64 ((us.map (·.2)).flatten.length : Int)), (8, .int .i64 0)] w ((bodyAt Try.f31 [1, 1, 1, 1, 1, 0, 1, 0, 0, 1, 0, 1, 0]).wp Try.prog (Exit.inBlock 2 Q)) := by
  refine x_loop (γ := Nat) (fun g => [(3, .int .i64 (n : Int)), (4, .slice (some ⟨bo, 0, none⟩) n n), (5, .slice (some ⟨bd, 0, none⟩) n n), (6, outv), (7, .int .i64 ((us.map (·.2)).flatten.length : Int)), (8, .int .i64 (g : Int))])
    (fun g w' => g ≤ n ∧ (∀ k, k < g → ¬ Tj.Good n es (fun j => dn (us.map (·.2)) j = true) k) ∧ S31 w2 w' bd n us outv) (fun g => n - g) 0 (And.intro rfl (And.intro rfl (And.intro rfl (And.intro rfl (And.intro rfl (And.intro rfl trivial)))))) ⟨Nat.zero_le _, fun k hk => absurd hk (Nat.not_lt_zero _), h⟩ ?_
  rintro i w1 ⟨hi, hm, h1⟩
  by_cases hil : i < n
  · have hk1 := h1.k.size
    have cd := cell_of h1.hd (rowV_get (f := fun x => .bool (dn (us.map (·.2)) x)) hil)
    repeat (first | refine x_seq ?_ | refine x_reg ?_ | refine x_nil ?_ | refine x_then_n ?_ | refine x_blk_n ?_ | refine x_block ?_ | refine x_skip ?_ | refine x_label ?_ | refine x_ret ?_ | refine x_exit ?_ | refine x_then_r ?_ | refine x_then_e ?_ | refine x_blk_e ?_ | refine x_blk_r ?_ | refine x_blk_o rfl ?_ | refine x_cond_t rfl ?_ | refine x_cond_f rfl ?_ | refine rl_go rfl rfl ?_ | refine rl_no rfl rfl rfl rfl ?_)
    refine rl_q rfl (q_move rfl) ?_
    refine rl_q rfl (q_move rfl) ?_
    refine rl_q rfl (q_lt_t rfl rfl (by omega)) ?_
    repeat (first | refine x_seq ?_ | refine x_reg ?_ | refine x_nil ?_ | refine x_then_n ?_ | refine x_blk_n ?_ | refine x_block ?_ | refine x_skip ?_ | refine x_label ?_ | refine x_ret ?_ | refine x_exit ?_ | refine x_then_r ?_ | refine x_then_e ?_ | refine x_blk_e ?_ | refine x_blk_r ?_ | refine x_blk_o rfl ?_ | refine x_cond_t rfl ?_ | refine x_cond_f rfl ?_ | refine rl_go rfl rfl ?_ | refine rl_no rfl rfl rfl rfl ?_)
    refine rl_q rfl (q_move rfl) ?_
    refine rl_q rfl (q_move rfl) ?_
    refine rl_q rfl (q_index1 (by exact Es.out) rfl rfl rfl hil) ?_
    refine rl_q rfl (q_load (by exact Tk.out) rfl (c1_cell cd)) ?_
    refine rl_q rfl (q_not rfl) ?_
    refine rl_q rfl (q_assign rfl) ?_
    repeat (first | refine x_seq ?_ | refine x_reg ?_ | refine x_nil ?_ | refine x_then_n ?_ | refine x_blk_n ?_ | refine x_block ?_ | refine x_skip ?_ | refine x_label ?_ | refine x_ret ?_ | refine x_exit ?_ | refine x_then_r ?_ | refine x_then_e ?_ | refine x_blk_e ?_ | refine x_blk_r ?_ | refine x_blk_o rfl ?_ | refine x_cond_t rfl ?_ | refine x_cond_f rfl ?_ | refine rl_go rfl rfl ?_ | refine rl_no rfl rfl rfl rfl ?_)
    refine rl_e rfl (e_buildSlice (e := 3) (cs := #[]) rfl (fun _ => by kernel_rfl) fun b3 w3 n3 => ?_)
    refine rl_q rfl (q_assign rfl) ?_
    repeat (first | refine x_seq ?_ | refine x_reg ?_ | refine x_nil ?_ | refine x_then_n ?_ | refine x_blk_n ?_ | refine x_block ?_ | refine x_skip ?_ | refine x_label ?_ | refine x_ret ?_ | refine x_exit ?_ | refine x_then_r ?_ | refine x_then_e ?_ | refine x_blk_e ?_ | refine x_blk_r ?_ | refine x_blk_o rfl ?_ | refine x_cond_t rfl ?_ | refine x_cond_f rfl ?_ | refine rl_go rfl rfl ?_ | refine rl_no rfl rfl rfl rfl ?_)
    have own3 : w3.ownsRow w1.heap.size 3 1 (.slice (some ⟨b3, 0, none⟩) 0 0) 0 [] := row_make (es := ([] : List Nat)) ints_len n3.fresh n3.here (Nat.le_refl _) (by decide) rfl rfl
    have z3 := n3.kept.size
    have k13 := h1.k.trans (Kept.all n3.kept)
    refine rl_q rfl (q_assign rfl) ?_
    repeat (first | refine x_seq ?_ | refine x_reg ?_ | refine x_nil ?_ | refine x_then_n ?_ | refine x_blk_n ?_ | refine x_block ?_ | refine x_skip ?_ | refine x_label ?_ | refine x_ret ?_ | refine x_exit ?_ | refine x_then_r ?_ | refine x_then_e ?_ | refine x_blk_e ?_ | refine x_blk_r ?_ | refine x_blk_o rfl ?_ | refine x_cond_t rfl ?_ | refine x_cond_f rfl ?_ | refine rl_go rfl rfl ?_ | refine rl_no rfl rfl rfl rfl ?_)
    refine F.sub ?_ (loop31_4 (i := i) (cnt := (us.map (·.2)).flatten.length) (outv := outv) (D := dn (us.map (·.2))) (hr.below k13 (Nat.le_refl _)) (getk n3.kept h1.hd) own3 z3 hil hn fun cv w4 own4 k4 => ?_)
    exact (And.intro rfl (And.intro rfl (And.intro rfl (And.intro rfl (And.intro rfl (And.intro rfl (And.intro rfl (And.intro rfl (And.intro rfl trivial)))))))))
    have k14 : Kept w1.heap.size [3] w1 w4 := (Kept.all n3.kept).trans k4
    have h4 := h1.comp k14 (Nat.le_refl _)
    have hiff := Tj.okj_iff hR (D := dn (us.map (·.2))) hil
    cases hok : okj Rb (dn (us.map (·.2))) i n with
    | false =>
      repeat (first | refine x_seq ?_ | refine x_reg ?_ | refine x_nil ?_ | refine x_then_n ?_ | refine x_blk_n ?_ | refine x_block ?_ | refine x_skip ?_ | refine x_label ?_ | refine x_ret ?_ | refine x_exit ?_ | refine x_then_r ?_ | refine x_then_e ?_ | refine x_blk_e ?_ | refine x_blk_r ?_ | refine x_blk_o rfl ?_ | refine x_cond_t rfl ?_ | refine x_cond_f rfl ?_ | refine rl_go rfl rfl ?_ | refine rl_no rfl rfl rfl rfl ?_)
      refine rl_q rfl (q_move rfl) ?_
      refine rl_q rfl (q_not rfl) ?_
      repeat (first | refine x_seq ?_ | refine x_reg ?_ | refine x_nil ?_ | refine x_then_n ?_ | refine x_blk_n ?_ | refine x_block ?_ | refine x_skip ?_ | refine x_label ?_ | refine x_ret ?_ | refine x_exit ?_ | refine x_then_r ?_ | refine x_then_e ?_ | refine x_blk_e ?_ | refine x_blk_r ?_ | refine x_blk_o rfl ?_ | refine x_cond_t rfl ?_ | refine x_cond_f rfl ?_ | refine rl_go rfl rfl ?_ | refine rl_no rfl rfl rfl rfl ?_)
      refine rl_q rfl (q_move rfl) ?_
      refine rl_q rfl (q_addi ((i + 1 : Nat) : Int) rfl rfl (by omega) (by omega) (by omega)) ?_
      refine rl_q rfl (q_assign rfl) ?_
      repeat (first | refine x_seq ?_ | refine x_reg ?_ | refine x_nil ?_ | refine x_then_n ?_ | refine x_blk_n ?_ | refine x_block ?_ | refine x_skip ?_ | refine x_label ?_ | refine x_ret ?_ | refine x_exit ?_ | refine x_then_r ?_ | refine x_then_e ?_ | refine x_blk_e ?_ | refine x_blk_r ?_ | refine x_blk_o rfl ?_ | refine x_cond_t rfl ?_ | refine x_cond_f rfl ?_ | refine rl_go rfl rfl ?_ | refine rl_no rfl rfl rfl rfl ?_)
      refine x_again (i + 1) (And.intro rfl (And.intro rfl (And.intro rfl (And.intro rfl (And.intro rfl (And.intro rfl trivial)))))) ⟨hil, fun k hk hg => ?_, h4⟩ (by omega)
      by_cases e : k = i
      · subst e
        rw [hiff.2 hg] at hok
        cases hok
      · exact hm k (by omega) hg
    | true =>
      have hg := hiff.1 hok
      have hcomp := Tj.cmp_comp hR hil
      have hle := Tj.cmp_le Rb i n
      have hmem : i ∈ cmp Rb i n := (hcomp.mem i).2 ⟨hil, .refl _, .refl _⟩
      have hpos := List.length_pos_of_mem hmem
      have hdown := hD.step hg hm hcomp
      obtain ⟨A, cap, rfl, _⟩ := own_form own4
      have hlt4 : ∀ x ∈ cmp Rb i n, x < n := fun x hx => ((hcomp.mem x).1 hx).1
      generalize hl : cmp Rb i n = l at *
      repeat (first | refine x_seq ?_ | refine x_reg ?_ | refine x_nil ?_ | refine x_then_n ?_ | refine x_blk_n ?_ | refine x_block ?_ | refine x_skip ?_ | refine x_label ?_ | refine x_ret ?_ | refine x_exit ?_ | refine x_then_r ?_ | refine x_then_e ?_ | refine x_blk_e ?_ | refine x_blk_r ?_ | refine x_blk_o rfl ?_ | refine x_cond_t rfl ?_ | refine x_cond_f rfl ?_ | refine rl_go rfl rfl ?_ | refine rl_no rfl rfl rfl rfl ?_)
      refine rl_q rfl (q_move rfl) ?_
      refine rl_q rfl (q_not rfl) ?_
      repeat (first | refine x_seq ?_ | refine x_reg ?_ | refine x_nil ?_ | refine x_then_n ?_ | refine x_blk_n ?_ | refine x_block ?_ | refine x_skip ?_ | refine x_label ?_ | refine x_ret ?_ | refine x_exit ?_ | refine x_then_r ?_ | refine x_then_e ?_ | refine x_blk_e ?_ | refine x_blk_r ?_ | refine x_blk_o rfl ?_ | refine x_cond_t rfl ?_ | refine x_cond_f rfl ?_ | refine rl_go rfl rfl ?_ | refine rl_no rfl rfl rfl rfl ?_)
      refine rl_q rfl (q_move rfl) ?_
      refine rl_q rfl (q_len rfl (by kernel_rfl) rfl) ?_
      refine rl_q rfl (q_move rfl) ?_
      repeat (first | refine x_seq ?_ | refine x_reg ?_ | refine x_nil ?_ | refine x_then_n ?_ | refine x_blk_n ?_ | refine x_block ?_ | refine x_skip ?_ | refine x_label ?_ | refine x_ret ?_ | refine x_exit ?_ | refine x_then_r ?_ | refine x_then_e ?_ | refine x_blk_e ?_ | refine x_blk_r ?_ | refine x_blk_o rfl ?_ | refine x_cond_t rfl ?_ | refine x_cond_f rfl ?_ | refine rl_go rfl rfl ?_ | refine rl_no rfl rfl rfl rfl ?_)
      refine F.sub ?_ (loop31_6 (bo := bo) (cnt := (us.map (·.2)).flatten.length) (outv := outv) (nD := w2.heap.size) h4.hd own4 hlt4 hn (by omega) hbd fun w5 hd5 k5 => ?_)
      exact (And.intro rfl (And.intro rfl (And.intro rfl (And.intro rfl (And.intro rfl (And.intro rfl (And.intro rfl (And.intro rfl (And.intro rfl trivial)))))))))
      have own5 := own_keep own4 k5 rfl
      have ou5 := own_keep h4.ou k5 rfl
      have z4 := k14.size
      have z5 := k5.size
      obtain ⟨Ao, co, rfl, _⟩ := own_form ou5
      have hfl : ((us ++ [(Value.slice A l.length cap, l)]).map (·.2)).flatten.length = (us.map (·.2)).flatten.length + l.length := by simp
      have hmap : (us ++ [(Value.slice A l.length cap, l)]).map (·.2) = us.map (·.2) ++ [l] := by simp
      repeat (first | refine x_seq ?_ | refine x_reg ?_ | refine x_nil ?_ | refine x_then_n ?_ | refine x_blk_n ?_ | refine x_block ?_ | refine x_skip ?_ | refine x_label ?_ | refine x_ret ?_ | refine x_exit ?_ | refine x_then_r ?_ | refine x_then_e ?_ | refine x_blk_e ?_ | refine x_blk_r ?_ | refine x_blk_o rfl ?_ | refine x_cond_t rfl ?_ | refine x_cond_f rfl ?_ | refine rl_go rfl rfl ?_ | refine rl_no rfl rfl rfl rfl ?_)
      refine rl_q rfl (q_move rfl) ?_
      refine rl_q rfl (q_move rfl) ?_
      refine rl_q rfl (q_len rfl (by kernel_rfl) rfl) ?_
      refine rl_q rfl (q_addi (((us ++ [(Value.slice A l.length cap, l)]).map (·.2)).flatten.length : Int) rfl rfl (by rw [hfl]; omega) (by omega) (by rw [hfl]; omega)) ?_
      refine rl_q rfl (q_assign rfl) ?_
      repeat (first | refine x_seq ?_ | refine x_reg ?_ | refine x_nil ?_ | refine x_then_n ?_ | refine x_blk_n ?_ | refine x_block ?_ | refine x_skip ?_ | refine x_label ?_ | refine x_ret ?_ | refine x_exit ?_ | refine x_then_r ?_ | refine x_then_e ?_ | refine x_blk_e ?_ | refine x_blk_r ?_ | refine x_blk_o rfl ?_ | refine x_cond_t rfl ?_ | refine x_cond_f rfl ?_ | refine rl_go rfl rfl ?_ | refine rl_no rfl rfl rfl rfl ?_)
      refine rl_q rfl (q_move rfl) ?_
      refine rl_q rfl (q_move rfl) ?_
      refine rl_e rfl (e_buildSlice (e := 37) (cs := #[.slice A l.length cap]) rfl (fun _ => by kernel_rfl) fun b6 w6 n6 => ?_)
      have ou6 := own_grow ou5 n6.kept
      have z6 := n6.kept.size
      refine rl_e rfl (e_append (size := 1) (by exact Us.out) (by exact Zi.out) rfl (by decide) rfl rfl ou6 (by omega) (m := 1) (news := [.slice A l.length cap]) rfl (news_of n6.here) (by simp [Value.oneCell']) (by omega) (by omega) fun v7 w7 ou7 hg7 _ => ?_)
      have k67 := kept_grownBy ou6 hg7
      obtain ⟨A7, c7, rfl, _⟩ := own_form ou7
      refine rl_q rfl (q_assign rfl) ?_
      repeat (first | refine x_seq ?_ | refine x_reg ?_ | refine x_nil ?_ | refine x_then_n ?_ | refine x_blk_n ?_ | refine x_block ?_ | refine x_skip ?_ | refine x_label ?_ | refine x_ret ?_ | refine x_exit ?_ | refine x_then_r ?_ | refine x_then_e ?_ | refine x_blk_e ?_ | refine x_blk_r ?_ | refine x_blk_o rfl ?_ | refine x_cond_t rfl ?_ | refine x_cond_f rfl ?_ | refine rl_go rfl rfl ?_ | refine rl_no rfl rfl rfl rfl ?_)
      refine F.sub ?_ (rest (.slice A l.length cap) l (.slice A7 (us.length + 1) c7) w7 ⟨?_, ?_, fun p hp => ?_, ?_⟩ (by rw [hmap]; exact hdown) hpos)
      · exact (And.intro rfl (And.intro rfl (And.intro rfl (And.intro rfl (And.intro rfl trivial)))))
      · have := gett k67 (getk n6.kept hd5) rfl
        rw [hmap, rowV_congr fun j _ => congrArg Value.bool (Tj.dn_snoc _ _ j)]
        exact this
      · simpa [fst1] using ou7
      · have tr : ∀ {m : Nat} {v : Value} {xs : List Value}, w5.ownsRow w2.heap.size 3 1 v m xs → w7.ownsRow w2.heap.size 3 1 v m xs := fun h => own_keep (own_grow h n6.kept) k67 rfl
        rcases List.mem_append.1 hp with hp | hp
        · exact tr (own_keep (h4.el p hp) k5 rfl)
        · obtain rfl : p = (Value.slice A l.length cap, l) := by simpa using hp
          exact tr (own_lower own5 hk1)
      · exact ((h4.k.trans (k5.mono (Nat.le_refl _) (by simp))).trans (Kept.all n6.kept)).trans (k67.mono (Nat.le_refl _) (by simp))
  · obtain ⟨g, hg⟩ := hD.more hlt
    exact absurd hg (hm g (by have := hg.1; omega))

set_option maxHeartbeats 4000000 in
theorem loop31_0 {Q : Exit → Act → World → Prop} [PanicOk Q] {w2 w : World} {n n0 bo bd : Nat} {rb : Nat → Nat} {Rb : Nat → Nat → Bool} {es : Tj.Es} {outv : Value} (hr : RB w2 n0 bo n n rb Rb) (hR : ∀ i j, i < n → (Tj.R es i j ↔ i = j ∨ Rb i j = true)) (hn : n ≤ 1000) (hbd : w2.heap.size ≤ bd) (h : S31 w2 w bd n [] outv)
    (rest : ∀ us outv' w', S31 w2 w' bd n us outv' → Tj.Canon n es (fun _ => False) (us.map (·.2)) → F 108 [(6, outv')] w' (Q .normal)) :
    F 108 [(3, .int .i64 (n : Int)), (4, .slice (some ⟨bo, 0, none⟩) n n), (5, .slice (some ⟨bd, 0, none⟩) n n), (6, outv), (7, .int .i64 0)] w ((bodyAt Try.f31 [1, 1, 1, 1, 1, 0, 1, 0]).wp Try.prog (Exit.inBlock 0 Q)) := by
  refine x_loop (γ := List (Value × List Nat) × Value) (fun g => [(3, .int .i64 (n : Int)), (4, .slice (some ⟨bo, 0, none⟩) n n), (5, .slice (some ⟨bd, 0, none⟩) n n), (6, g.2), (7, .int .i64 ((g.1.map (·.2)).flatten.length : Int))])
    (fun g w' => S31 w2 w' bd n g.1 g.2 ∧ Down n es (g.1.map (·.2)) ∧ g.1.length ≤ (g.1.map (·.2)).flatten.length) (fun g => n - (g.1.map (·.2)).flatten.length) ([], outv) (And.intro rfl (And.intro rfl (And.intro rfl (And.intro rfl (And.intro rfl trivial))))) ⟨h, .nil, by simp⟩ ?_
  rintro ⟨us, ov⟩ w1 ⟨h1, hD1, hl1⟩
  dsimp only at h1 hD1 hl1 ⊢
  by_cases hlt : (us.map (·.2)).flatten.length < n
  · repeat (first | refine x_seq ?_ | refine x_reg ?_ | refine x_nil ?_ | refine x_then_n ?_ | refine x_blk_n ?_ | refine x_block ?_ | refine x_skip ?_ | refine x_label ?_ | refine x_ret ?_ | refine x_exit ?_ | refine x_then_r ?_ | refine x_then_e ?_ | refine x_blk_e ?_ | refine x_blk_r ?_ | refine x_blk_o rfl ?_ | refine x_cond_t rfl ?_ | refine x_cond_f rfl ?_ | refine rl_go rfl rfl ?_ | refine rl_no rfl rfl rfl rfl ?_)
    refine rl_q rfl (q_move rfl) ?_
    refine rl_q rfl (q_move rfl) ?_
    refine rl_q rfl (q_lt_t rfl rfl (by omega)) ?_
    repeat (first | refine x_seq ?_ | refine x_reg ?_ | refine x_nil ?_ | refine x_then_n ?_ | refine x_blk_n ?_ | refine x_block ?_ | refine x_skip ?_ | refine x_label ?_ | refine x_ret ?_ | refine x_exit ?_ | refine x_then_r ?_ | refine x_then_e ?_ | refine x_blk_e ?_ | refine x_blk_r ?_ | refine x_blk_o rfl ?_ | refine x_cond_t rfl ?_ | refine x_cond_f rfl ?_ | refine rl_go rfl rfl ?_ | refine rl_no rfl rfl rfl rfl ?_)
    refine rl_q rfl (q_assign rfl) ?_
    repeat (first | refine x_seq ?_ | refine x_reg ?_ | refine x_nil ?_ | refine x_then_n ?_ | refine x_blk_n ?_ | refine x_block ?_ | refine x_skip ?_ | refine x_label ?_ | refine x_ret ?_ | refine x_exit ?_ | refine x_then_r ?_ | refine x_then_e ?_ | refine x_blk_e ?_ | refine x_blk_r ?_ | refine x_blk_o rfl ?_ | refine x_cond_t rfl ?_ | refine x_cond_f rfl ?_ | refine rl_go rfl rfl ?_ | refine rl_no rfl rfl rfl rfl ?_)
    refine F.sub ?_ (loop31_2 hr hR hn hbd h1 hD1 hlt (by omega) fun u l ov' w2' h2 hD2 hl => ?_)
    exact (And.intro rfl (And.intro rfl (And.intro rfl (And.intro rfl (And.intro rfl (And.intro rfl trivial))))))
    repeat (first | refine x_seq ?_ | refine x_reg ?_ | refine x_nil ?_ | refine x_then_n ?_ | refine x_blk_n ?_ | refine x_block ?_ | refine x_skip ?_ | refine x_label ?_ | refine x_ret ?_ | refine x_exit ?_ | refine x_then_r ?_ | refine x_then_e ?_ | refine x_blk_e ?_ | refine x_blk_r ?_ | refine x_blk_o rfl ?_ | refine x_cond_t rfl ?_ | refine x_cond_f rfl ?_ | refine rl_go rfl rfl ?_ | refine rl_no rfl rfl rfl rfl ?_)
    have hfl : ((us ++ [(u, l)]).map (·.2)).flatten.length = (us.map (·.2)).flatten.length + l.length := by simp
    exact x_again (us ++ [(u, l)], ov') (And.intro rfl (And.intro rfl (And.intro rfl (And.intro rfl (And.intro rfl trivial))))) ⟨h2, hD2, by dsimp only; rw [hfl, List.length_append, List.length_singleton]; omega⟩ (by dsimp only; rw [hfl]; omega)
  · repeat (first | refine x_seq ?_ | refine x_reg ?_ | refine x_nil ?_ | refine x_then_n ?_ | refine x_blk_n ?_ | refine x_block ?_ | refine x_skip ?_ | refine x_label ?_ | refine x_ret ?_ | refine x_exit ?_ | refine x_then_r ?_ | refine x_then_e ?_ | refine x_blk_e ?_ | refine x_blk_r ?_ | refine x_blk_o rfl ?_ | refine x_cond_t rfl ?_ | refine x_cond_f rfl ?_ | refine rl_go rfl rfl ?_ | refine rl_no rfl rfl rfl rfl ?_)
    refine rl_q rfl (q_move rfl) ?_
    refine rl_q rfl (q_move rfl) ?_
    refine rl_q rfl (q_lt_f rfl rfl (by omega)) ?_
    repeat (first | refine x_seq ?_ | refine x_reg ?_ | refine x_nil ?_ | refine x_then_n ?_ | refine x_blk_n ?_ | refine x_block ?_ | refine x_skip ?_ | refine x_label ?_ | refine x_ret ?_ | refine x_exit ?_ | refine x_then_r ?_ | refine x_then_e ?_ | refine x_blk_e ?_ | refine x_blk_r ?_ | refine x_blk_o rfl ?_ | refine x_cond_t rfl ?_ | refine x_cond_f rfl ?_ | refine rl_go rfl rfl ?_ | refine rl_no rfl rfl rfl rfl ?_)
    refine F.sub ?_ (rest us ov w1 h1 (hD1.fin (by omega)))
    exact (And.intro rfl trivial)

theorem lawComps_c {w : World} {ev : Value} {L : List (List Int)} (hg : Gr w ev L) (hN : L.length ≤ 1000) (hE : ∀ l ∈ L, l.length ≤ 1000000) :
    Calls Try.prog 31 #[ev] w (Rt fun v w' => ∃ C : List (List Nat), Gr w' v (C.map fun l => l.map Int.ofNat) ∧ Tj.Canon L.length (esOf L) (fun _ => False) C ∧ Old w w') := by
  obtain ⟨A, cap, rfl, _⟩ := id hg
  refine x_enter (n := 108) [(0, _)] Try.func31 rfl Try.ntmps31 rfl (And.intro rfl trivial) ?_
  repeat (first | refine x_seq ?_ | refine x_reg ?_ | refine x_nil ?_ | refine x_then_n ?_ | refine rl_q rfl (q_move rfl) ?_ | refine rl_q rfl (q_nil rfl) ?_ | refine rl_q rfl (q_fa0 (by exact Fo.out) rfl) ?_ | refine rl_q rfl (q_fak (by exact Fo.out) rfl) ?_ | refine rl_q rfl (q_fieldAddr (by exact Fo.out) rfl) ?_ | refine rl_q rfl (q_assign rfl) ?_ | refine rl_q rfl (q_len rfl (by kernel_rfl) rfl) ?_ | refine rl_q rfl (q_extract rfl rfl) ?_ | refine rl_q rfl (q_addi _ rfl rfl rfl (by omega) (by omega)) ?_ | refine rl_q rfl (q_subi _ rfl rfl rfl (by omega) (by omega)) ?_ | refine rl_q rfl (q_muli _ rfl rfl rfl (by omega) (by omega)) ?_ | refine rl_q rfl (q_pick_t rfl rfl) ?_ | refine rl_q rfl (q_pick_f rfl rfl) ?_ | refine rl_q rfl (q_lt_t rfl rfl (by omega)) ?_ | refine rl_q rfl (q_lt_f rfl rfl (by omega)) ?_ | refine rl_q rfl (q_le_t rfl rfl (by omega)) ?_ | refine rl_q rfl (q_le_f rfl rfl (by omega)) ?_ | refine rl_q rfl (q_gt_t rfl rfl (by omega)) ?_ | refine rl_q rfl (q_gt_f rfl rfl (by omega)) ?_ | refine rl_q rfl (q_ge_t rfl rfl (by omega)) ?_ | refine rl_q rfl (q_ge_f rfl rfl (by omega)) ?_ | refine rl_q rfl (q_eq_t rfl rfl (by omega)) ?_ | refine rl_q rfl (q_eq_f rfl rfl (by omega)) ?_ | refine rl_q rfl (q_ne_t rfl rfl (by omega)) ?_ | refine rl_q rfl (q_ne_f rfl rfl (by omega)) ?_ | refine rl_q rfl (q_lt rfl rfl) ?_ | refine rl_q rfl (q_le rfl rfl) ?_ | refine rl_q rfl (q_gt rfl rfl) ?_ | refine rl_q rfl (q_ge rfl rfl) ?_ | refine rl_q rfl (q_eq rfl rfl) ?_ | refine rl_q rfl (q_ne rfl rfl) ?_ | refine rl_q rfl (q_not rfl) ?_ | refine rl_q rfl (q_nilf rfl) ?_ | refine rl_q rfl (q_makeFunc rfl rfl) ?_ | refine rl_q rfl (q_field (by exact Fo.out) (by kernel_rfl) rfl rfl) ?_ | refine rl_q rfl (q_load (by exact Tk.out) rfl (c1 (by assumption) (by rfl))) ?_ | refine rl_q rfl (q_loadB (by exact Tk.out) rfl (by assumption) (by rfl)) ?_ | refine rl_q rfl (q_load (by exact Tk.out) rfl (c1_cell (by assumption))) ?_ | refine x_blk_n ?_ | refine x_block ?_ | refine x_skip ?_ | refine x_label ?_ | refine x_ret ?_ | refine x_exit ?_ | refine x_then_r ?_ | refine x_then_e ?_ | refine x_blk_e ?_ | refine x_blk_r ?_ | refine x_blk_o rfl ?_ | refine x_cond_t rfl ?_ | refine x_cond_f rfl ?_ | refine rl_go rfl rfl ?_ | refine rl_no rfl rfl rfl rfl ?_)
  refine rl_e rfl (e_call (by exact Hs.out) rfl (rt (reach_c hg hN hE) fun v w2 hv => ?_))
  obtain ⟨bo, rb, rfl, hr, o2⟩ := hv
  have hR : ∀ i j, i < L.length → (Tj.R (esOf L) i j ↔ i = j ∨ wsh (eL L) L.length i j = true) := fun i j hi =>
    Tj.wsh_iff (fun x y _ => by simp [eL]) (fun x y h => by simpa [eL] using h) (fun x hx t ht => esOf_lt hx ht) hi
  repeat (first | refine x_seq ?_ | refine x_reg ?_ | refine x_nil ?_ | refine x_then_n ?_ | refine rl_q rfl (q_move rfl) ?_ | refine rl_q rfl (q_nil rfl) ?_ | refine rl_q rfl (q_fa0 (by exact Fo.out) rfl) ?_ | refine rl_q rfl (q_fak (by exact Fo.out) rfl) ?_ | refine rl_q rfl (q_fieldAddr (by exact Fo.out) rfl) ?_ | refine rl_q rfl (q_assign rfl) ?_ | refine rl_q rfl (q_len rfl (by kernel_rfl) rfl) ?_ | refine rl_q rfl (q_extract rfl rfl) ?_ | refine rl_q rfl (q_addi _ rfl rfl rfl (by omega) (by omega)) ?_ | refine rl_q rfl (q_subi _ rfl rfl rfl (by omega) (by omega)) ?_ | refine rl_q rfl (q_muli _ rfl rfl rfl (by omega) (by omega)) ?_ | refine rl_q rfl (q_pick_t rfl rfl) ?_ | refine rl_q rfl (q_pick_f rfl rfl) ?_ | refine rl_q rfl (q_lt_t rfl rfl (by omega)) ?_ | refine rl_q rfl (q_lt_f rfl rfl (by omega)) ?_ | refine rl_q rfl (q_le_t rfl rfl (by omega)) ?_ | refine rl_q rfl (q_le_f rfl rfl (by omega)) ?_ | refine rl_q rfl (q_gt_t rfl rfl (by omega)) ?_ | refine rl_q rfl (q_gt_f rfl rfl (by omega)) ?_ | refine rl_q rfl (q_ge_t rfl rfl (by omega)) ?_ | refine rl_q rfl (q_ge_f rfl rfl (by omega)) ?_ | refine rl_q rfl (q_eq_t rfl rfl (by omega)) ?_ | refine rl_q rfl (q_eq_f rfl rfl (by omega)) ?_ | refine rl_q rfl (q_ne_t rfl rfl (by omega)) ?_ | refine rl_q rfl (q_ne_f rfl rfl (by omega)) ?_ | refine rl_q rfl (q_lt rfl rfl) ?_ | refine rl_q rfl (q_le rfl rfl) ?_ | refine rl_q rfl (q_gt rfl rfl) ?_ | refine rl_q rfl (q_ge rfl rfl) ?_ | refine rl_q rfl (q_eq rfl rfl) ?_ | refine rl_q rfl (q_ne rfl rfl) ?_ | refine rl_q rfl (q_not rfl) ?_ | refine rl_q rfl (q_nilf rfl) ?_ | refine rl_q rfl (q_makeFunc rfl rfl) ?_ | refine rl_q rfl (q_field (by exact Fo.out) (by kernel_rfl) rfl rfl) ?_ | refine rl_q rfl (q_load (by exact Tk.out) rfl (c1 (by assumption) (by rfl))) ?_ | refine rl_q rfl (q_loadB (by exact Tk.out) rfl (by assumption) (by rfl)) ?_ | refine rl_q rfl (q_load (by exact Tk.out) rfl (c1_cell (by assumption))) ?_ | refine x_blk_n ?_ | refine x_block ?_ | refine x_skip ?_ | refine x_label ?_ | refine x_ret ?_ | refine x_exit ?_ | refine x_then_r ?_ | refine x_then_e ?_ | refine x_blk_e ?_ | refine x_blk_r ?_ | refine x_blk_o rfl ?_ | refine x_cond_t rfl ?_ | refine x_cond_f rfl ?_ | refine rl_go rfl rfl ?_ | refine rl_no rfl rfl rfl rfl ?_)
  refine rl_e rfl (e_mk1 (m := L.length) (by exact Us.out) (by exact Zi.out) rfl rfl rfl (by omega) (by omega) fun bd w3 n3 => ?_)
  have h3 := n3.here
  rw [rowV_rep] at h3
  repeat (first | refine x_seq ?_ | refine x_reg ?_ | refine x_nil ?_ | refine x_then_n ?_ | refine rl_q rfl (q_move rfl) ?_ | refine rl_q rfl (q_nil rfl) ?_ | refine rl_q rfl (q_fa0 (by exact Fo.out) rfl) ?_ | refine rl_q rfl (q_fak (by exact Fo.out) rfl) ?_ | refine rl_q rfl (q_fieldAddr (by exact Fo.out) rfl) ?_ | refine rl_q rfl (q_assign rfl) ?_ | refine rl_q rfl (q_len rfl (by kernel_rfl) rfl) ?_ | refine rl_q rfl (q_extract rfl rfl) ?_ | refine rl_q rfl (q_addi _ rfl rfl rfl (by omega) (by omega)) ?_ | refine rl_q rfl (q_subi _ rfl rfl rfl (by omega) (by omega)) ?_ | refine rl_q rfl (q_muli _ rfl rfl rfl (by omega) (by omega)) ?_ | refine rl_q rfl (q_pick_t rfl rfl) ?_ | refine rl_q rfl (q_pick_f rfl rfl) ?_ | refine rl_q rfl (q_lt_t rfl rfl (by omega)) ?_ | refine rl_q rfl (q_lt_f rfl rfl (by omega)) ?_ | refine rl_q rfl (q_le_t rfl rfl (by omega)) ?_ | refine rl_q rfl (q_le_f rfl rfl (by omega)) ?_ | refine rl_q rfl (q_gt_t rfl rfl (by omega)) ?_ | refine rl_q rfl (q_gt_f rfl rfl (by omega)) ?_ | refine rl_q rfl (q_ge_t rfl rfl (by omega)) ?_ | refine rl_q rfl (q_ge_f rfl rfl (by omega)) ?_ | refine rl_q rfl (q_eq_t rfl rfl (by omega)) ?_ | refine rl_q rfl (q_eq_f rfl rfl (by omega)) ?_ | refine rl_q rfl (q_ne_t rfl rfl (by omega)) ?_ | refine rl_q rfl (q_ne_f rfl rfl (by omega)) ?_ | refine rl_q rfl (q_lt rfl rfl) ?_ | refine rl_q rfl (q_le rfl rfl) ?_ | refine rl_q rfl (q_gt rfl rfl) ?_ | refine rl_q rfl (q_ge rfl rfl) ?_ | refine rl_q rfl (q_eq rfl rfl) ?_ | refine rl_q rfl (q_ne rfl rfl) ?_ | refine rl_q rfl (q_not rfl) ?_ | refine rl_q rfl (q_nilf rfl) ?_ | refine rl_q rfl (q_makeFunc rfl rfl) ?_ | refine rl_q rfl (q_field (by exact Fo.out) (by kernel_rfl) rfl rfl) ?_ | refine rl_q rfl (q_load (by exact Tk.out) rfl (c1 (by assumption) (by rfl))) ?_ | refine rl_q rfl (q_loadB (by exact Tk.out) rfl (by assumption) (by rfl)) ?_ | refine rl_q rfl (q_load (by exact Tk.out) rfl (c1_cell (by assumption))) ?_ | refine x_blk_n ?_ | refine x_block ?_ | refine x_skip ?_ | refine x_label ?_ | refine x_ret ?_ | refine x_exit ?_ | refine x_then_r ?_ | refine x_then_e ?_ | refine x_blk_e ?_ | refine x_blk_r ?_ | refine x_blk_o rfl ?_ | refine x_cond_t rfl ?_ | refine x_cond_f rfl ?_ | refine rl_go rfl rfl ?_ | refine rl_no rfl rfl rfl rfl ?_)
  refine rl_e rfl (e_buildSlice (e := 37) (cs := #[]) rfl (fun _ => by kernel_rfl) fun b4 w4 n4 => ?_)
  have z3 := n3.kept.size
  have own4 : w4.ownsRow w2.heap.size 37 1 (.slice (some ⟨b4, 0, none⟩) 0 0) 0 [] := row_make (es := ([] : List (Value × List Nat))) (f := fst1) (fun _ => rfl) (by have := n4.fresh; omega) n4.here (Nat.le_refl _) (by decide) rfl rfl
  have s4 : S31 w2 w4 bd L.length [] (.slice (some ⟨b4, 0, none⟩) 0 0) := ⟨by simpa [dn] using getk n4.kept h3, own4, fun p hp => (by cases hp), Kept.all (n3.kept.trans n4.kept)⟩
  repeat (first | refine x_seq ?_ | refine x_reg ?_ | refine x_nil ?_ | refine x_then_n ?_ | refine rl_q rfl (q_move rfl) ?_ | refine rl_q rfl (q_nil rfl) ?_ | refine rl_q rfl (q_fa0 (by exact Fo.out) rfl) ?_ | refine rl_q rfl (q_fak (by exact Fo.out) rfl) ?_ | refine rl_q rfl (q_fieldAddr (by exact Fo.out) rfl) ?_ | refine rl_q rfl (q_assign rfl) ?_ | refine rl_q rfl (q_len rfl (by kernel_rfl) rfl) ?_ | refine rl_q rfl (q_extract rfl rfl) ?_ | refine rl_q rfl (q_addi _ rfl rfl rfl (by omega) (by omega)) ?_ | refine rl_q rfl (q_subi _ rfl rfl rfl (by omega) (by omega)) ?_ | refine rl_q rfl (q_muli _ rfl rfl rfl (by omega) (by omega)) ?_ | refine rl_q rfl (q_pick_t rfl rfl) ?_ | refine rl_q rfl (q_pick_f rfl rfl) ?_ | refine rl_q rfl (q_lt_t rfl rfl (by omega)) ?_ | refine rl_q rfl (q_lt_f rfl rfl (by omega)) ?_ | refine rl_q rfl (q_le_t rfl rfl (by omega)) ?_ | refine rl_q rfl (q_le_f rfl rfl (by omega)) ?_ | refine rl_q rfl (q_gt_t rfl rfl (by omega)) ?_ | refine rl_q rfl (q_gt_f rfl rfl (by omega)) ?_ | refine rl_q rfl (q_ge_t rfl rfl (by omega)) ?_ | refine rl_q rfl (q_ge_f rfl rfl (by omega)) ?_ | refine rl_q rfl (q_eq_t rfl rfl (by omega)) ?_ | refine rl_q rfl (q_eq_f rfl rfl (by omega)) ?_ | refine rl_q rfl (q_ne_t rfl rfl (by omega)) ?_ | refine rl_q rfl (q_ne_f rfl rfl (by omega)) ?_ | refine rl_q rfl (q_lt rfl rfl) ?_ | refine rl_q rfl (q_le rfl rfl) ?_ | refine rl_q rfl (q_gt rfl rfl) ?_ | refine rl_q rfl (q_ge rfl rfl) ?_ | refine rl_q rfl (q_eq rfl rfl) ?_ | refine rl_q rfl (q_ne rfl rfl) ?_ | refine rl_q rfl (q_not rfl) ?_ | refine rl_q rfl (q_nilf rfl) ?_ | refine rl_q rfl (q_makeFunc rfl rfl) ?_ | refine rl_q rfl (q_field (by exact Fo.out) (by kernel_rfl) rfl rfl) ?_ | refine rl_q rfl (q_load (by exact Tk.out) rfl (c1 (by assumption) (by rfl))) ?_ | refine rl_q rfl (q_loadB (by exact Tk.out) rfl (by assumption) (by rfl)) ?_ | refine rl_q rfl (q_load (by exact Tk.out) rfl (c1_cell (by assumption))) ?_ | refine x_blk_n ?_ | refine x_block ?_ | refine x_skip ?_ | refine x_label ?_ | refine x_ret ?_ | refine x_exit ?_ | refine x_then_r ?_ | refine x_then_e ?_ | refine x_blk_e ?_ | refine x_blk_r ?_ | refine x_blk_o rfl ?_ | refine x_cond_t rfl ?_ | refine x_cond_f rfl ?_ | refine rl_go rfl rfl ?_ | refine rl_no rfl rfl rfl rfl ?_)
  refine F.sub ?_ (loop31_0 hr hR hN n3.fresh s4 fun us outv w5 s5 hcan => ?_)
  exact (And.intro rfl (And.intro rfl (And.intro rfl (And.intro rfl (And.intro rfl trivial)))))
  repeat (first | refine x_seq ?_ | refine x_reg ?_ | refine x_nil ?_ | refine x_then_n ?_ | refine rl_q rfl (q_move rfl) ?_ | refine rl_q rfl (q_nil rfl) ?_ | refine rl_q rfl (q_fa0 (by exact Fo.out) rfl) ?_ | refine rl_q rfl (q_fak (by exact Fo.out) rfl) ?_ | refine rl_q rfl (q_fieldAddr (by exact Fo.out) rfl) ?_ | refine rl_q rfl (q_assign rfl) ?_ | refine rl_q rfl (q_len rfl (by kernel_rfl) rfl) ?_ | refine rl_q rfl (q_extract rfl rfl) ?_ | refine rl_q rfl (q_addi _ rfl rfl rfl (by omega) (by omega)) ?_ | refine rl_q rfl (q_subi _ rfl rfl rfl (by omega) (by omega)) ?_ | refine rl_q rfl (q_muli _ rfl rfl rfl (by omega) (by omega)) ?_ | refine rl_q rfl (q_pick_t rfl rfl) ?_ | refine rl_q rfl (q_pick_f rfl rfl) ?_ | refine rl_q rfl (q_lt_t rfl rfl (by omega)) ?_ | refine rl_q rfl (q_lt_f rfl rfl (by omega)) ?_ | refine rl_q rfl (q_le_t rfl rfl (by omega)) ?_ | refine rl_q rfl (q_le_f rfl rfl (by omega)) ?_ | refine rl_q rfl (q_gt_t rfl rfl (by omega)) ?_ | refine rl_q rfl (q_gt_f rfl rfl (by omega)) ?_ | refine rl_q rfl (q_ge_t rfl rfl (by omega)) ?_ | refine rl_q rfl (q_ge_f rfl rfl (by omega)) ?_ | refine rl_q rfl (q_eq_t rfl rfl (by omega)) ?_ | refine rl_q rfl (q_eq_f rfl rfl (by omega)) ?_ | refine rl_q rfl (q_ne_t rfl rfl (by omega)) ?_ | refine rl_q rfl (q_ne_f rfl rfl (by omega)) ?_ | refine rl_q rfl (q_lt rfl rfl) ?_ | refine rl_q rfl (q_le rfl rfl) ?_ | refine rl_q rfl (q_gt rfl rfl) ?_ | refine rl_q rfl (q_ge rfl rfl) ?_ | refine rl_q rfl (q_eq rfl rfl) ?_ | refine rl_q rfl (q_ne rfl rfl) ?_ | refine rl_q rfl (q_not rfl) ?_ | refine rl_q rfl (q_nilf rfl) ?_ | refine rl_q rfl (q_makeFunc rfl rfl) ?_ | refine rl_q rfl (q_field (by exact Fo.out) (by kernel_rfl) rfl rfl) ?_ | refine rl_q rfl (q_load (by exact Tk.out) rfl (c1 (by assumption) (by rfl))) ?_ | refine rl_q rfl (q_loadB (by exact Tk.out) rfl (by assumption) (by rfl)) ?_ | refine rl_q rfl (q_load (by exact Tk.out) rfl (c1_cell (by assumption))) ?_ | refine x_blk_n ?_ | refine x_block ?_ | refine x_skip ?_ | refine x_label ?_ | refine x_ret ?_ | refine x_exit ?_ | refine x_then_r ?_ | refine x_then_e ?_ | refine x_blk_e ?_ | refine x_blk_r ?_ | refine x_blk_o rfl ?_ | refine x_cond_t rfl ?_ | refine x_cond_f rfl ?_ | refine rl_go rfl rfl ?_ | refine rl_no rfl rfl rfl rfl ?_)
  refine x_done1 rfl rfl ⟨_, rfl, us.map (·.2), ?_, hcan, o2.kept s5.k o2.size⟩
  have := rdS_own (f := fst1) (k := 1) (fun _ => rfl) s5.ou (fun p => p.2.map Int.ofNat) (R := RRow w5) (fun p hp => ⟨p.1, rfl, rdS_own ints_len (s5.el p hp) Int.ofNat (fun e _ => rfl)⟩)
  rw [List.map_map]
  exact this
end Go.Proofs.YtnjjjfffppllfaaX.G
