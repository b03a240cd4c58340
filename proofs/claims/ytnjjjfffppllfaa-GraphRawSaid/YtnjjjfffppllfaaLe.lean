/- The laws of the graph: a graph by pairs of numbers. -/
import Derived.Test.YtnjjjfffppllfaaLo
import Derived.Test.YtnjjjfffppllfaaLq
import Derived.Test.YtnjjjfffppllfaaPg
namespace Go.Proofs.YtnjjjfffppllfaaX.G
open Go.RowKit Go.Proofs.YtnjjjfffppllfaaK
attribute [local irreducible] F Qt Ef Code.wp wpList wpT bodyPost Calls
set_option linter.unusedVariables false
set_option linter.unusedSimpArgs false

theorem c1old {m : Nat} {Ts : List TypeId} {w : World} {b o : Nat} {v : Value} (hc : w.cell? ⟨b, o, none⟩ = some v) (hb : b < m) : C1 (Kept m Ts w) b o v :=
  (stays_kept (Array.getElem?_eq_getElem (World.block_lt_of_cell? w ⟨b, o, none⟩ hc)) (.inl hb)).c1 hc
theorem q_convv {P : Program} {S : World → Prop} {n : Nat} {sl : Slots} {dst : Option Tmp} {ty : TypeId} {pos : String} {af : Array Edge} {g : Option (Nat × Bool)} {src dt : TypeId} {x : Operand} {k k' : IntKind} {p : Int} (r : Int) (hs : (P.underlying src).isSome = true) (hd : P.underlying dt = some (.int k')) (hx : ev sl x = some (.int k p)) (hr : k'.wrap p = r) : Qt P S n sl ⟨dst, .convert src dt x, ty, pos, af, g⟩ (.int k' r) := by
  subst hr; exact q_conv hs hd hx
theorem gr_nest {w : World} {bm n n2 : Nat} {fr : Nat × Nat} {vs : Nat → Value} {xs : Nat → List Nat} (hb : w.heap[bm]? = some (.cells (rowV n vs) 37 fr)) (hn : Nest 3 ints n2 w n vs xs) : Gr w (.slice (some ⟨bm, 0, none⟩) n n) ((List.range n).map fun c => (xs c).map Int.ofNat) := by
  refine ⟨some ⟨bm, 0, none⟩, n, by simp, by simp, .inr ⟨bm, 0, rfl, heap_lt hb, fun i hi => ?_⟩⟩
  have hi : i < n := by simpa using hi
  refine ⟨[vs i], rfl, ⟨vs i, rfl, by simpa using rdS_own ints_len (hn.own i hi) Int.ofNat (R := RInt) (fun e _ => rfl)⟩, fun j u hu => ?_⟩
  obtain rfl : j = 0 := by
    cases j with
    | zero => rfl
    | succ j => simp at hu
  obtain rfl : vs i = u := by simpa using hu
  rw [Nat.zero_add, Nat.mul_one, Nat.add_zero]
  exact cell_of hb (rowV_get hi)
def um (z : Int) : Nat := (z % 18446744073709551616).toNat
theorem um_wrap (z : Int) : IntKind.u64.wrap z = (um z : Int) := by
  simp [IntKind.wrap, IntKind.bits, IntKind.signed, um]
  omega
theorem nat_wrap_u {n : Nat} (h : n ≤ 1000000) : IntKind.u64.wrap (n : Int) = (n : Int) := by
  simp [IntKind.wrap, IntKind.bits, IntKind.signed]; omega
theorem nat_wrap_i {n : Nat} (h : n ≤ 1000000) : IntKind.i64.wrap (n : Int) = (n : Int) := by
  rw [IntKind.wrap_i64]; omega

set_option maxHeartbeats 4000000 in
theorem edges_c {w : World} {v : Value} {ps : List Int} {n : Nat} (hp : Rw w v ps) (hn : n ≤ 1000000) (hl : ps.length ≤ 100) :
    Calls Try.prog 28 #[.int .i64 (n : Int), v] w (Rt fun r w' => ∃ xs : Nat → List Nat, Gr w' r ((List.range n).map fun c => (xs c).map Int.ofNat) ∧ (∀ c, c < n → (xs c).length ≤ 50 ∧ ∀ z ∈ xs c, z < n) ∧ Old w w') := by
  obtain ⟨A, cp, rfl, hx⟩ := hp.open
  refine x_enter (n := 50) [(0, _), (1, _)] Try.func28 rfl Try.ntmps28 rfl (And.intro rfl (And.intro rfl trivial)) ?_
  repeat (first | refine x_seq ?_ | refine x_reg ?_ | refine x_nil ?_ | refine x_then_n ?_ | refine rl_q rfl (q_move rfl) ?_ | refine rl_q rfl (q_nil rfl) ?_ | refine rl_q rfl (q_fa0 (by exact Fo.out) rfl) ?_ | refine rl_q rfl (q_fak (by exact Fo.out) rfl) ?_ | refine rl_q rfl (q_fieldAddr (by exact Fo.out) rfl) ?_ | refine rl_q rfl (q_assign rfl) ?_ | refine rl_q rfl (q_len rfl (by kernel_rfl) rfl) ?_ | refine rl_q rfl (q_extract rfl rfl) ?_ | refine rl_q rfl (q_addi _ rfl rfl rfl (by omega) (by omega)) ?_ | refine rl_q rfl (q_subi _ rfl rfl rfl (by omega) (by omega)) ?_ | refine rl_q rfl (q_muli _ rfl rfl rfl (by omega) (by omega)) ?_ | refine rl_q rfl (q_pick_t rfl rfl) ?_ | refine rl_q rfl (q_pick_f rfl rfl) ?_ | refine rl_q rfl (q_lt_t rfl rfl (by omega)) ?_ | refine rl_q rfl (q_lt_f rfl rfl (by omega)) ?_ | refine rl_q rfl (q_le_t rfl rfl (by omega)) ?_ | refine rl_q rfl (q_le_f rfl rfl (by omega)) ?_ | refine rl_q rfl (q_gt_t rfl rfl (by omega)) ?_ | refine rl_q rfl (q_gt_f rfl rfl (by omega)) ?_ | refine rl_q rfl (q_ge_t rfl rfl (by omega)) ?_ | refine rl_q rfl (q_ge_f rfl rfl (by omega)) ?_ | refine rl_q rfl (q_eq_t rfl rfl (by omega)) ?_ | refine rl_q rfl (q_eq_f rfl rfl (by omega)) ?_ | refine rl_q rfl (q_ne_t rfl rfl (by omega)) ?_ | refine rl_q rfl (q_ne_f rfl rfl (by omega)) ?_ | refine rl_q rfl (q_lt rfl rfl) ?_ | refine rl_q rfl (q_le rfl rfl) ?_ | refine rl_q rfl (q_gt rfl rfl) ?_ | refine rl_q rfl (q_ge rfl rfl) ?_ | refine rl_q rfl (q_eq rfl rfl) ?_ | refine rl_q rfl (q_ne rfl rfl) ?_ | refine rl_q rfl (q_not rfl) ?_ | refine rl_q rfl (q_nilf rfl) ?_ | refine rl_q rfl (q_makeFunc rfl rfl) ?_ | refine rl_q rfl (q_field (by exact Fo.out) (by kernel_rfl) rfl rfl) ?_ | refine rl_q rfl (q_load (by exact Tk.out) rfl (c1 (by assumption) (by rfl))) ?_ | refine rl_q rfl (q_loadB (by exact Tk.out) rfl (by assumption) (by rfl)) ?_ | refine rl_q rfl (q_load (by exact Tk.out) rfl (c1_cell (by assumption))) ?_ | refine x_blk_n ?_ | refine x_block ?_ | refine x_skip ?_ | refine x_label ?_ | refine x_ret ?_ | refine x_exit ?_ | refine x_then_r ?_ | refine x_then_e ?_ | refine x_blk_e ?_ | refine x_blk_r ?_ | refine x_blk_o rfl ?_ | refine x_cond_t rfl ?_ | refine x_cond_f rfl ?_ | refine rl_go rfl rfl ?_ | refine rl_no rfl rfl rfl rfl ?_)
  refine rl_e rfl (e_mk1 (m := n) (by exact Us.out) (by exact Zi.out) rfl rfl rfl (by omega) (by omega) fun bm w1 n1 => ?_)
  have h1 := n1.here
  rw [rowV_rep] at h1
  have o1 : Old w w1 := (Old.refl w).grow n1.kept
  have z1 := o1.size
  have l1 := heap_lt h1
  repeat (first | refine x_seq ?_ | refine x_reg ?_ | refine x_nil ?_ | refine x_then_n ?_ | refine rl_q rfl (q_move rfl) ?_ | refine rl_q rfl (q_nil rfl) ?_ | refine rl_q rfl (q_fa0 (by exact Fo.out) rfl) ?_ | refine rl_q rfl (q_fak (by exact Fo.out) rfl) ?_ | refine rl_q rfl (q_fieldAddr (by exact Fo.out) rfl) ?_ | refine rl_q rfl (q_assign rfl) ?_ | refine rl_q rfl (q_len rfl (by kernel_rfl) rfl) ?_ | refine rl_q rfl (q_extract rfl rfl) ?_ | refine rl_q rfl (q_addi _ rfl rfl rfl (by omega) (by omega)) ?_ | refine rl_q rfl (q_subi _ rfl rfl rfl (by omega) (by omega)) ?_ | refine rl_q rfl (q_muli _ rfl rfl rfl (by omega) (by omega)) ?_ | refine rl_q rfl (q_pick_t rfl rfl) ?_ | refine rl_q rfl (q_pick_f rfl rfl) ?_ | refine rl_q rfl (q_lt_t rfl rfl (by omega)) ?_ | refine rl_q rfl (q_lt_f rfl rfl (by omega)) ?_ | refine rl_q rfl (q_le_t rfl rfl (by omega)) ?_ | refine rl_q rfl (q_le_f rfl rfl (by omega)) ?_ | refine rl_q rfl (q_gt_t rfl rfl (by omega)) ?_ | refine rl_q rfl (q_gt_f rfl rfl (by omega)) ?_ | refine rl_q rfl (q_ge_t rfl rfl (by omega)) ?_ | refine rl_q rfl (q_ge_f rfl rfl (by omega)) ?_ | refine rl_q rfl (q_eq_t rfl rfl (by omega)) ?_ | refine rl_q rfl (q_eq_f rfl rfl (by omega)) ?_ | refine rl_q rfl (q_ne_t rfl rfl (by omega)) ?_ | refine rl_q rfl (q_ne_f rfl rfl (by omega)) ?_ | refine rl_q rfl (q_lt rfl rfl) ?_ | refine rl_q rfl (q_le rfl rfl) ?_ | refine rl_q rfl (q_gt rfl rfl) ?_ | refine rl_q rfl (q_ge rfl rfl) ?_ | refine rl_q rfl (q_eq rfl rfl) ?_ | refine rl_q rfl (q_ne rfl rfl) ?_ | refine rl_q rfl (q_not rfl) ?_ | refine rl_q rfl (q_nilf rfl) ?_ | refine rl_q rfl (q_makeFunc rfl rfl) ?_ | refine rl_q rfl (q_field (by exact Fo.out) (by kernel_rfl) rfl rfl) ?_ | refine rl_q rfl (q_load (by exact Tk.out) rfl (c1 (by assumption) (by rfl))) ?_ | refine rl_q rfl (q_loadB (by exact Tk.out) rfl (by assumption) (by rfl)) ?_ | refine rl_q rfl (q_load (by exact Tk.out) rfl (c1_cell (by assumption))) ?_ | refine x_blk_n ?_ | refine x_block ?_ | refine x_skip ?_ | refine x_label ?_ | refine x_ret ?_ | refine x_exit ?_ | refine x_then_r ?_ | refine x_then_e ?_ | refine x_blk_e ?_ | refine x_blk_r ?_ | refine x_blk_o rfl ?_ | refine x_cond_t rfl ?_ | refine x_cond_f rfl ?_ | refine rl_go rfl rfl ?_ | refine rl_no rfl rfl rfl rfl ?_)
  refine x_loop (γ := Nat × (Nat → Value) × (Nat → List Nat)) (fun g => [(0, .int .i64 (n : Int)), (1, .slice A ps.length cp), (5, .slice (some ⟨bm, 0, none⟩) n n), (6, .int .i64 (2 * g.1 : Nat))])
    (fun g w' => 2 * g.1 ≤ ps.length + 1 ∧ w'.heap[bm]? = some (.cells (rowV n g.2.1) 37 (0, 0)) ∧ Nest 3 ints w1.heap.size w' n g.2.1 g.2.2 ∧ (∀ c, c < n → (g.2.2 c).length ≤ g.1 ∧ ∀ z ∈ g.2.2 c, z < n) ∧ Old w w' ∧ w1.heap.size ≤ w'.heap.size) (fun g => ps.length + 1 - 2 * g.1)
    (0, fun _ => .slice none 0 0, fun _ => []) (And.intro rfl (And.intro rfl (And.intro rfl (And.intro rfl trivial)))) ⟨by simp, h1, .nil _ _ _, by simp, o1, Nat.le_refl _⟩ ?_
  rintro ⟨k, vs, xs⟩ w2 ⟨hk, h2, ns2, bd2, o2, z2⟩
  dsimp only at hk h2 ns2 bd2 o2 z2 ⊢
  by_cases hin : 2 * k + 1 < ps.length
  · by_cases hn0 : 0 < n
    · obtain ⟨b, o, eA, hc0⟩ := hx (2 * k) (by omega)
      obtain ⟨b', o', eA', hc1⟩ := hx (2 * k + 1) hin
      subst eA
      cases eA'
      have lb := World.block_lt_of_cell? w _ hc0
      have hc0 := o2.cell hc0
      have hc1 := o2.cell hc1
      have ha : um ps[2 * k] % n < n := Nat.mod_lt _ hn0
      have hb : um ps[2 * k + 1] % n < n := Nat.mod_lt _ hn0
      obtain ⟨z, hz⟩ : ∃ z, ps[2 * k] = z := ⟨_, rfl⟩
      obtain ⟨y, hy⟩ : ∃ y, ps[2 * k + 1] = y := ⟨_, rfl⟩
      rw [hz] at hc0 ha
      rw [hy] at hc1 hb
      have hln := (bd2 _ ha).1
      repeat (first | refine x_seq ?_ | refine x_reg ?_ | refine x_nil ?_ | refine x_then_n ?_ | refine x_blk_n ?_ | refine x_block ?_ | refine x_skip ?_ | refine x_label ?_ | refine x_ret ?_ | refine x_exit ?_ | refine x_then_r ?_ | refine x_then_e ?_ | refine x_blk_e ?_ | refine x_blk_r ?_ | refine x_blk_o rfl ?_ | refine x_cond_t rfl ?_ | refine x_cond_f rfl ?_ | refine rl_go rfl rfl ?_ | refine rl_no rfl rfl rfl rfl ?_)
      refine rl_q rfl (q_move rfl) ?_
      refine rl_q rfl (q_addi ((2 * k + 1 : Nat) : Int) rfl rfl (by omega) (by omega) (by omega)) ?_
      refine rl_q rfl (q_move rfl) ?_
      refine rl_q rfl (q_len rfl (by kernel_rfl) rfl) ?_
      refine rl_q rfl (q_lt_t rfl rfl (by omega)) ?_
      refine rl_q rfl (q_move rfl) ?_
      refine rl_go rfl rfl ?_
      refine rl_q rfl (q_move rfl) ?_
      refine rl_go rfl rfl ?_
      refine rl_q rfl (q_gt_t rfl rfl (by omega)) ?_
      refine rl_q rfl ((by first | exact q_pick_t rfl rfl | exact q_pick_f rfl rfl)) ?_
      repeat (first | refine x_seq ?_ | refine x_reg ?_ | refine x_nil ?_ | refine x_then_n ?_ | refine x_blk_n ?_ | refine x_block ?_ | refine x_skip ?_ | refine x_label ?_ | refine x_ret ?_ | refine x_exit ?_ | refine x_then_r ?_ | refine x_then_e ?_ | refine x_blk_e ?_ | refine x_blk_r ?_ | refine x_blk_o rfl ?_ | refine x_cond_t rfl ?_ | refine x_cond_f rfl ?_ | refine rl_go rfl rfl ?_ | refine rl_no rfl rfl rfl rfl ?_)
      refine rl_q rfl (q_move rfl) ?_
      refine rl_q rfl (q_move rfl) ?_
      refine rl_q rfl (q_indexAddr (j := 2 * k) (by exact Es.out) rfl rfl rfl (by omega)) ?_
      refine rl_q rfl (q_load (by exact Tk.out) rfl (c1_cell hc0)) ?_
      refine rl_q rfl (q_convv (um z : Int) (by kernel_rfl) (by kernel_rfl) rfl (um_wrap z)) ?_
      refine rl_q rfl (q_move rfl) ?_
      refine rl_q rfl (q_convv (n : Int) (by kernel_rfl) (by kernel_rfl) rfl (nat_wrap_u hn)) ?_
      refine rl_q rfl (q_remi ((um z % n : Nat) : Int) rfl rfl (by omega) rfl) ?_
      refine rl_q rfl (q_convv ((um z % n : Nat) : Int) (by kernel_rfl) (by kernel_rfl) rfl (nat_wrap_i (by omega))) ?_
      refine rl_q rfl (q_assign rfl) ?_
      repeat (first | refine x_seq ?_ | refine x_reg ?_ | refine x_nil ?_ | refine x_then_n ?_ | refine x_blk_n ?_ | refine x_block ?_ | refine x_skip ?_ | refine x_label ?_ | refine x_ret ?_ | refine x_exit ?_ | refine x_then_r ?_ | refine x_then_e ?_ | refine x_blk_e ?_ | refine x_blk_r ?_ | refine x_blk_o rfl ?_ | refine x_cond_t rfl ?_ | refine x_cond_f rfl ?_ | refine rl_go rfl rfl ?_ | refine rl_no rfl rfl rfl rfl ?_)
      refine x_drawK w1.heap.size [3] [19] mixed fun wd hk_wd hS_wd => ?_
      refine dr_p 0 rfl rfl (by kernel_rfl) (by kernel_rfl) (by kernel_rfl) (by kernel_rfl) (q_move rfl) hS_wd ?_
      refine dr_p 1 rfl rfl (by kernel_rfl) (by kernel_rfl) (by kernel_rfl) (by kernel_rfl) (q_move rfl) hS_wd ?_
      refine dr_p 2 rfl rfl (by kernel_rfl) (by kernel_rfl) (by kernel_rfl) (by kernel_rfl) (q_move rfl) hS_wd ?_
      refine dr_p 3 rfl rfl (by kernel_rfl) (by kernel_rfl) (by kernel_rfl) (by kernel_rfl) (q_move rfl) hS_wd ?_
      refine dr_p 4 rfl rfl (by kernel_rfl) (by kernel_rfl) (by kernel_rfl) (by kernel_rfl) (q_index1 (by exact Es.out) rfl rfl rfl ha) hS_wd ?_
      refine dr_s 5 rfl rfl (by kernel_rfl) (by kernel_rfl) (by kernel_rfl) (by kernel_rfl) (by kernel_rfl) (by kernel_rfl) (q_load (by exact Tk.out) rfl (c1k h2 rfl (nthV ha))) hS_wd ?_
      refine dr_p 6 rfl rfl (by kernel_rfl) (by kernel_rfl) (by kernel_rfl) (by kernel_rfl) (q_move rfl) hS_wd ?_
      refine dr_p 7 rfl rfl (by kernel_rfl) (by kernel_rfl) (by kernel_rfl) (by kernel_rfl) (q_move rfl) hS_wd ?_
      refine dr_p 8 rfl rfl (by kernel_rfl) (by kernel_rfl) (by kernel_rfl) (by kernel_rfl) (q_addi ((2 * k + 1 : Nat) : Int) rfl rfl (by omega) (by omega) (by omega)) hS_wd ?_
      refine dr_p 9 rfl rfl (by kernel_rfl) (by kernel_rfl) (by kernel_rfl) (by kernel_rfl) (q_indexAddr (j := 2 * k + 1) (by exact Es.out) rfl rfl rfl hin) hS_wd ?_
      refine dr_s 10 rfl rfl (by kernel_rfl) (by kernel_rfl) (by kernel_rfl) (by kernel_rfl) (by kernel_rfl) (by kernel_rfl) (q_load (by exact Tk.out) rfl (c1old hc1 (Nat.lt_of_lt_of_le lb z1))) hS_wd ?_
      refine dr_p 11 rfl rfl (by kernel_rfl) (by kernel_rfl) (by kernel_rfl) (by kernel_rfl) (q_convv (um y : Int) (by kernel_rfl) (by kernel_rfl) rfl (um_wrap y)) hS_wd ?_
      refine dr_p 12 rfl rfl (by kernel_rfl) (by kernel_rfl) (by kernel_rfl) (by kernel_rfl) (q_move rfl) hS_wd ?_
      refine dr_p 13 rfl rfl (by kernel_rfl) (by kernel_rfl) (by kernel_rfl) (by kernel_rfl) (q_convv (n : Int) (by kernel_rfl) (by kernel_rfl) rfl (nat_wrap_u hn)) hS_wd ?_
      refine dr_p 14 rfl rfl (by kernel_rfl) (by kernel_rfl) (by kernel_rfl) (by kernel_rfl) (q_remi ((um y % n : Nat) : Int) rfl rfl (by omega) rfl) hS_wd ?_
      refine dr_p 15 rfl rfl (by kernel_rfl) (by kernel_rfl) (by kernel_rfl) (by kernel_rfl) (q_convv ((um y % n : Nat) : Int) (by kernel_rfl) (by kernel_rfl) rfl (nat_wrap_i (by omega))) hS_wd ?_
      refine dr_e 16 (by kernel_rfl) rfl rfl (e_buildSlice (e := 3) (cs := (ints (um y % n)).toArray) rfl (fun _ => by kernel_rfl) fun b7 w7 n7 => ⟨fun hu => hS_wd.trans (Kept.all n7.kept), ?_⟩)
      have S7 : Kept w1.heap.size [3] w2 w7 := hS_wd.trans (Kept.all n7.kept)
      have ns7 := (ns2.grow hk_wd).grow n7.kept
      refine dr_e 17 (by kernel_rfl) rfl rfl (e_append (size := 1) (by exact Us.out) (by exact Zi.out) rfl (by decide) rfl rfl (ns7.own _ ha) (by have := S7.size; omega) (m := 1) (news := ints (um y % n)) rfl (news_of n7.here) (ints_one _) (by omega) (by omega) fun vA w8 oA gA eA => ⟨fun hu => S7.trans (kept_grownBy (ns7.own _ ha) gA), ?_⟩)
      have S8 : Kept w1.heap.size [3] w2 w8 := S7.trans (kept_grownBy (ns7.own _ ha) gA)
      have ns8 := ns7.app ha (x := um y % n) oA gA eA
      obtain ⟨A8, c8, rfl, _⟩ := own_form oA
      have h8 := gett S8 h2 rfl
      refine dr_p 18 rfl rfl (by kernel_rfl) (by kernel_rfl) (by kernel_rfl) (by kernel_rfl) (q_index1 (by exact Es.out) rfl rfl rfl ha) S8 ?_
      refine dr_n 19 (by kernel_rfl) rfl (e_store1 (by exact Tk.out) rfl rfl rfl h8 (by rw [rowV_size]; exact ha) fun w9 p9 => ⟨fun hu => unl hu (by kernel_rfl), ?_⟩)
      refine dr_done (by kernel_rfl) ?_
      have ns9 := ns8.puto p9 l1
      have h9 := putV p9
      have o9 := (o2.kept S8 z1).put p9 n1.fresh
      have hz9 := p9.size
      have hz8 := S8.size
      repeat (first | refine x_seq ?_ | refine x_reg ?_ | refine x_nil ?_ | refine x_then_n ?_ | refine x_blk_n ?_ | refine x_block ?_ | refine x_skip ?_ | refine x_label ?_ | refine x_ret ?_ | refine x_exit ?_ | refine x_then_r ?_ | refine x_then_e ?_ | refine x_blk_e ?_ | refine x_blk_r ?_ | refine x_blk_o rfl ?_ | refine x_cond_t rfl ?_ | refine x_cond_f rfl ?_ | refine rl_go rfl rfl ?_ | refine rl_no rfl rfl rfl rfl ?_)
      refine rl_q rfl (q_move rfl) ?_
      refine rl_q rfl (q_addi ((2 * (k + 1) : Nat) : Int) rfl rfl (by omega) (by omega) (by omega)) ?_
      refine rl_q rfl (q_assign rfl) ?_
      repeat (first | refine x_seq ?_ | refine x_reg ?_ | refine x_nil ?_ | refine x_then_n ?_ | refine x_blk_n ?_ | refine x_block ?_ | refine x_skip ?_ | refine x_label ?_ | refine x_ret ?_ | refine x_exit ?_ | refine x_then_r ?_ | refine x_then_e ?_ | refine x_blk_e ?_ | refine x_blk_r ?_ | refine x_blk_o rfl ?_ | refine x_cond_t rfl ?_ | refine x_cond_f rfl ?_ | refine rl_go rfl rfl ?_ | refine rl_no rfl rfl rfl rfl ?_)
      refine x_again (k + 1, _, _) (And.intro rfl (And.intro rfl (And.intro rfl (And.intro rfl trivial)))) ⟨by dsimp only; omega, h9, ns9, fun c hc => ?_, o9, by omega⟩ (by dsimp only; omega)
      show (Tj.upd xs (um z % n) (xs (um z % n) ++ [um y % n]) c).length ≤ k + 1 ∧ ∀ t ∈ Tj.upd xs (um z % n) (xs (um z % n) ++ [um y % n]) c, t < n
      by_cases e : c = um z % n
      · subst e
        rw [Tj.upd_i]
        refine ⟨by simp; exact hln, fun t ht => ?_⟩
        rcases List.mem_append.1 ht with ht | ht
        · exact (bd2 _ ha).2 t ht
        · obtain rfl : t = um y % n := by simpa using ht
          exact hb
      · rw [Tj.upd_o _ _ e]
        exact ⟨by have := (bd2 c hc).1; omega, (bd2 c hc).2⟩
    · obtain rfl : n = 0 := by omega
      repeat (first | refine x_seq ?_ | refine x_reg ?_ | refine x_nil ?_ | refine x_then_n ?_ | refine rl_q rfl (q_move rfl) ?_ | refine rl_q rfl (q_nil rfl) ?_ | refine rl_q rfl (q_fa0 (by exact Fo.out) rfl) ?_ | refine rl_q rfl (q_fak (by exact Fo.out) rfl) ?_ | refine rl_q rfl (q_fieldAddr (by exact Fo.out) rfl) ?_ | refine rl_q rfl (q_assign rfl) ?_ | refine rl_q rfl (q_len rfl (by kernel_rfl) rfl) ?_ | refine rl_q rfl (q_extract rfl rfl) ?_ | refine rl_q rfl (q_addi _ rfl rfl rfl (by omega) (by omega)) ?_ | refine rl_q rfl (q_subi _ rfl rfl rfl (by omega) (by omega)) ?_ | refine rl_q rfl (q_muli _ rfl rfl rfl (by omega) (by omega)) ?_ | refine rl_q rfl (q_pick_t rfl rfl) ?_ | refine rl_q rfl (q_pick_f rfl rfl) ?_ | refine rl_q rfl (q_lt_t rfl rfl (by omega)) ?_ | refine rl_q rfl (q_lt_f rfl rfl (by omega)) ?_ | refine rl_q rfl (q_le_t rfl rfl (by omega)) ?_ | refine rl_q rfl (q_le_f rfl rfl (by omega)) ?_ | refine rl_q rfl (q_gt_t rfl rfl (by omega)) ?_ | refine rl_q rfl (q_gt_f rfl rfl (by omega)) ?_ | refine rl_q rfl (q_ge_t rfl rfl (by omega)) ?_ | refine rl_q rfl (q_ge_f rfl rfl (by omega)) ?_ | refine rl_q rfl (q_eq_t rfl rfl (by omega)) ?_ | refine rl_q rfl (q_eq_f rfl rfl (by omega)) ?_ | refine rl_q rfl (q_ne_t rfl rfl (by omega)) ?_ | refine rl_q rfl (q_ne_f rfl rfl (by omega)) ?_ | refine rl_q rfl (q_lt rfl rfl) ?_ | refine rl_q rfl (q_le rfl rfl) ?_ | refine rl_q rfl (q_gt rfl rfl) ?_ | refine rl_q rfl (q_ge rfl rfl) ?_ | refine rl_q rfl (q_eq rfl rfl) ?_ | refine rl_q rfl (q_ne rfl rfl) ?_ | refine rl_q rfl (q_not rfl) ?_ | refine rl_q rfl (q_nilf rfl) ?_ | refine rl_q rfl (q_makeFunc rfl rfl) ?_ | refine rl_q rfl (q_field (by exact Fo.out) (by kernel_rfl) rfl rfl) ?_ | refine rl_q rfl (q_load (by exact Tk.out) rfl (c1 (by assumption) (by rfl))) ?_ | refine rl_q rfl (q_loadB (by exact Tk.out) rfl (by assumption) (by rfl)) ?_ | refine rl_q rfl (q_load (by exact Tk.out) rfl (c1_cell (by assumption))) ?_ | refine x_blk_n ?_ | refine x_block ?_ | refine x_skip ?_ | refine x_label ?_ | refine x_ret ?_ | refine x_exit ?_ | refine x_then_r ?_ | refine x_then_e ?_ | refine x_blk_e ?_ | refine x_blk_r ?_ | refine x_blk_o rfl ?_ | refine x_cond_t rfl ?_ | refine x_cond_f rfl ?_ | refine rl_go rfl rfl ?_ | refine rl_no rfl rfl rfl rfl ?_)
      exact x_done1 rfl rfl ⟨_, rfl, xs, gr_nest h2 ns2, fun c hc => absurd hc (Nat.not_lt_zero _), o2⟩
  · repeat (first | refine x_seq ?_ | refine x_reg ?_ | refine x_nil ?_ | refine x_then_n ?_ | refine rl_q rfl (q_move rfl) ?_ | refine rl_q rfl (q_nil rfl) ?_ | refine rl_q rfl (q_fa0 (by exact Fo.out) rfl) ?_ | refine rl_q rfl (q_fak (by exact Fo.out) rfl) ?_ | refine rl_q rfl (q_fieldAddr (by exact Fo.out) rfl) ?_ | refine rl_q rfl (q_assign rfl) ?_ | refine rl_q rfl (q_len rfl (by kernel_rfl) rfl) ?_ | refine rl_q rfl (q_extract rfl rfl) ?_ | refine rl_q rfl (q_addi _ rfl rfl rfl (by omega) (by omega)) ?_ | refine rl_q rfl (q_subi _ rfl rfl rfl (by omega) (by omega)) ?_ | refine rl_q rfl (q_muli _ rfl rfl rfl (by omega) (by omega)) ?_ | refine rl_q rfl (q_pick_t rfl rfl) ?_ | refine rl_q rfl (q_pick_f rfl rfl) ?_ | refine rl_q rfl (q_lt_t rfl rfl (by omega)) ?_ | refine rl_q rfl (q_lt_f rfl rfl (by omega)) ?_ | refine rl_q rfl (q_le_t rfl rfl (by omega)) ?_ | refine rl_q rfl (q_le_f rfl rfl (by omega)) ?_ | refine rl_q rfl (q_gt_t rfl rfl (by omega)) ?_ | refine rl_q rfl (q_gt_f rfl rfl (by omega)) ?_ | refine rl_q rfl (q_ge_t rfl rfl (by omega)) ?_ | refine rl_q rfl (q_ge_f rfl rfl (by omega)) ?_ | refine rl_q rfl (q_eq_t rfl rfl (by omega)) ?_ | refine rl_q rfl (q_eq_f rfl rfl (by omega)) ?_ | refine rl_q rfl (q_ne_t rfl rfl (by omega)) ?_ | refine rl_q rfl (q_ne_f rfl rfl (by omega)) ?_ | refine rl_q rfl (q_lt rfl rfl) ?_ | refine rl_q rfl (q_le rfl rfl) ?_ | refine rl_q rfl (q_gt rfl rfl) ?_ | refine rl_q rfl (q_ge rfl rfl) ?_ | refine rl_q rfl (q_eq rfl rfl) ?_ | refine rl_q rfl (q_ne rfl rfl) ?_ | refine rl_q rfl (q_not rfl) ?_ | refine rl_q rfl (q_nilf rfl) ?_ | refine rl_q rfl (q_makeFunc rfl rfl) ?_ | refine rl_q rfl (q_field (by exact Fo.out) (by kernel_rfl) rfl rfl) ?_ | refine rl_q rfl (q_load (by exact Tk.out) rfl (c1 (by assumption) (by rfl))) ?_ | refine rl_q rfl (q_loadB (by exact Tk.out) rfl (by assumption) (by rfl)) ?_ | refine rl_q rfl (q_load (by exact Tk.out) rfl (c1_cell (by assumption))) ?_ | refine x_blk_n ?_ | refine x_block ?_ | refine x_skip ?_ | refine x_label ?_ | refine x_ret ?_ | refine x_exit ?_ | refine x_then_r ?_ | refine x_then_e ?_ | refine x_blk_e ?_ | refine x_blk_r ?_ | refine x_blk_o rfl ?_ | refine x_cond_t rfl ?_ | refine x_cond_f rfl ?_ | refine rl_go rfl rfl ?_ | refine rl_no rfl rfl rfl rfl ?_)
    exact x_done1 rfl rfl ⟨_, rfl, xs, gr_nest h2 ns2, fun c hc => ⟨by have := (bd2 c hc).1; omega, (bd2 c hc).2⟩, o2⟩
end Go.Proofs.YtnjjjfffppllfaaX.G
