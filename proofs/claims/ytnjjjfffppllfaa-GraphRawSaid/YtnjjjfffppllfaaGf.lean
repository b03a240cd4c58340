/- The finder of components in memory: to and meet. -/
import Derived.Test.YtnjjjfffppllfaaT
import Derived.Test.YtnjjjfffppllfaaRd
import Derived.Test.YtnjjjfffppllfaaTj
namespace Go.Proofs.YtnjjjfffppllfaaX.G
open Go.RowKit Go.Proofs.YtnjjjfffppllfaaK
open Tj (St Es upd_i upd_o)
attribute [local irreducible] F Qt Ef Code.wp wpList wpT bodyPost Calls
set_option linter.unusedVariables false
set_option linter.unusedSimpArgs false

/-- A row of integers, told by a function. -/
def rowA (N : Nat) (f : Nat → Int) : Array Value := ((List.range N).map fun x => Value.int .i64 (f x)).toArray
theorem rowA_size (N : Nat) (f : Nat → Int) : (rowA N f).size = N := by simp [rowA]
theorem rowA_get {N : Nat} {f : Nat → Int} {i : Nat} (h : i < N) : (rowA N f)[i]? = some (.int .i64 (f i)) := by simp [rowA, h]
theorem rowA_set (N : Nat) (f : Nat → Int) (i : Nat) (v : Int) : (rowA N f).setIfInBounds i (.int .i64 v) = rowA N (Tj.upd f i v) := by
  apply Array.ext_getElem?
  intro j
  rw [Array.getElem?_setIfInBounds]
  by_cases hj : j < N
  · by_cases h : i = j
    · subst h; simp [rowA, hj, Tj.upd]
    · rw [if_neg h, rowA_get hj, rowA_get hj, upd_o _ _ (fun e => h e.symm)]
  · simp [rowA, hj]; omega
def up (f : Nat → Nat) (x : Nat) : Int := f x
def upB (f : Nat → Bool) (x : Nat) : Int := if f x then 1 else 0
theorem up_upd (f : Nat → Nat) (i v : Nat) : Tj.upd (up f) i (v : Int) = up (Tj.upd f i v) := by
  funext x; simp only [up, Tj.upd]; split <;> rfl
theorem upB_upd (f : Nat → Bool) (i : Nat) (v : Bool) : Tj.upd (upB f) i (if v then 1 else 0) = upB (Tj.upd f i v) := by
  funext x; simp only [upB, Tj.upd]; split <;> rfl
def ints (x : Nat) : List Value := [.int .i64 (x : Int)]
theorem ints_len (x : Nat) : (ints x).length = 1 := rfl
theorem ints_one (x : Nat) : ∀ u ∈ ints x, u.oneCell' = true := by simp [ints, Value.oneCell']

structure FinB where
  p : Nat
  bo : Nat
  bl : Nat
  bh : Nat
  bc : Nat
/-- The finder's memory in w. -/
structure FinAt (n0 n1 : Nat) (w : World) (f : FinB) (N : Nat) (ev sv : Value) (s : St) : Prop where
  hp : w.heap[f.p]? = some (.cells #[ev, .slice (some ⟨f.bo, 0, none⟩) N N, .slice (some ⟨f.bl, 0, none⟩) N N, .slice (some ⟨f.bh, 0, none⟩) N N, sv, .slice (some ⟨f.bc, 0, none⟩) N N, .int .i64 (s.next : Int), .int .i64 (s.count : Int)] 170 (0, 0))
  ho : w.heap[f.bo]? = some (.cells (rowA N (up s.ord)) 3 (0, 0))
  hl : w.heap[f.bl]? = some (.cells (rowA N (up s.low)) 3 (0, 0))
  hh : w.heap[f.bh]? = some (.cells (rowA N (upB s.held)) 3 (0, 0))
  hc : w.heap[f.bc]? = some (.cells (rowA N (up s.comp)) 3 (0, 0))
  st : w.ownsRow n1 3 1 sv s.stack.length (s.stack.flatMap ints)
  dist : f.bo ≠ f.bl ∧ f.bo ≠ f.bh ∧ f.bo ≠ f.bc ∧ f.bl ≠ f.bh ∧ f.bl ≠ f.bc ∧ f.bh ≠ f.bc
  lo : n0 ≤ f.p ∧ n0 ≤ f.bo ∧ n0 ≤ f.bl ∧ n0 ≤ f.bh ∧ n0 ≤ f.bc
  hi : f.bo < n1 ∧ f.bl < n1 ∧ f.bh < n1 ∧ f.bc < n1 ∧ n0 ≤ n1
theorem FinAt.kept {n0 n1 m : Nat} {Ts : List TypeId} {w w' : World} {f : FinB} {N : Nat} {ev sv : Value} {s : St} (h : FinAt n0 n1 w f N ev sv s) (hk : Kept m Ts w w') (h1 : Ts.contains 170 = false) (h2 : Ts.contains 3 = false) : FinAt n0 n1 w' f N ev sv s :=
  ⟨gett hk h.hp h1, gett hk h.ho h2, gett hk h.hl h2, gett hk h.hh h2, gett hk h.hc h2, own_keep h.st hk h2, h.dist, h.lo, h.hi⟩

/-- The graph as it came in. -/
def RInt (z : Int) (cs : List Value) : Prop := cs = [.int .i64 z]
def RRow (w : World) (xs : List Int) (cs : List Value) : Prop := ∃ u, cs = [u] ∧ RdS w 1 RInt u xs
def Gr (w : World) (ev : Value) (L : List (List Int)) : Prop := RdS w 1 (RRow w) ev L
theorem Gr.old {w0 w : World} {ev : Value} {L : List (List Int)} (h : Gr w0 ev L) (ho : Old w0 w) : Gr w ev L := by
  obtain ⟨A, cap, e, hl, hx⟩ := RdS.old h ho
  refine ⟨A, cap, e, hl, hx.imp id ?_⟩
  rintro ⟨b, o, e2, hb, hc⟩
  refine ⟨b, o, e2, hb, fun i hi => ?_⟩
  obtain ⟨cs, h1, ⟨u, h2, h3⟩, h4⟩ := hc i hi
  exact ⟨cs, h1, ⟨u, h2, h3.old ho⟩, h4⟩
/-- A node's list of edges: where its value lies, and where each of its numbers lies. -/
theorem Gr.open {w : World} {ev : Value} {L : List (List Int)} (h : Gr w ev L) {n : Nat} (hn : n < L.length) : ∃ b o cap A c, ev = .slice (some ⟨b, o, none⟩) L.length cap ∧ w.cell? ⟨b, o + n * 1, none⟩ = some (.slice A L[n].length c) ∧
    ∀ k (hk : k < L[n].length), ∃ b' o', A = some ⟨b', o', none⟩ ∧ w.cell? ⟨b', o' + k * 1, none⟩ = some (.int .i64 L[n][k]) := by
  obtain ⟨A, cap, rfl, hl, hx⟩ := h
  rcases hx with rfl | ⟨b, o, rfl, hb, hc⟩
  · simp at hn
  obtain ⟨cs, h1, ⟨u, rfl, A', c', rfl, hl', hx'⟩, h4⟩ := hc n hn
  refine ⟨b, o, cap, A', c', rfl, by simpa using h4 0 _ rfl, fun k hk => ?_⟩
  rcases hx' with e | ⟨b', o', rfl, hb', hc'⟩
  · rw [e] at hk; simp at hk
  obtain ⟨cs, h1, h2, h4⟩ := hc' k hk
  obtain rfl := h2
  exact ⟨b', o', rfl, by simpa using h4 0 _ rfl⟩

def tgt (N : Nat) (z : Int) : Int := if z < 0 ∨ (N : Int) ≤ z then -1 else z
set_option maxHeartbeats 1000000 in
theorem to_c {n0 n1 : Nat} {w : World} {f : FinB} {N : Nat} {ev sv : Value} {s : St} {L : List (List Int)} (h : FinAt n0 n1 w f N ev sv s) (hg : Gr w ev L) {n k : Nat} (hn : n < L.length) (hk : k < L[n].length) :
    Calls Try.prog 147 #[.pointer (some ⟨f.p, 0, none⟩), .int .i64 (n : Int), .int .i64 (k : Int)] w (Rt fun v w' => v = .int .i64 (tgt N L[n][k]) ∧ w = w') := by
  obtain ⟨b, o, cap, A, c, rfl, hc1, hc2⟩ := hg.open hn
  obtain ⟨b', o', rfl, hc3⟩ := hc2 k hk
  have hp := h.hp
  generalize hz : L[n][k] = z at *
  refine x_enter (n := 30) [(0, _), (1, _), (2, _)] Try.func147 rfl Try.ntmps147 rfl (And.intro rfl (And.intro rfl (And.intro rfl trivial))) ?_
  repeat (first | refine x_seq ?_ | refine x_reg ?_ | refine x_nil ?_ | refine x_then_n ?_ | refine rl_q rfl (q_move rfl) ?_ | refine rl_q rfl (q_nil rfl) ?_ | refine rl_q rfl (q_fa0 (by exact Fo.out) rfl) ?_ | refine rl_q rfl (q_fak (by exact Fo.out) rfl) ?_ | refine rl_q rfl (q_fieldAddr (by exact Fo.out) rfl) ?_ | refine rl_q rfl (q_assign rfl) ?_ | refine rl_q rfl (q_len rfl (by kernel_rfl) rfl) ?_ | refine rl_q rfl (q_extract rfl rfl) ?_ | refine rl_q rfl (q_addi _ rfl rfl rfl (by omega) (by omega)) ?_ | refine rl_q rfl (q_subi _ rfl rfl rfl (by omega) (by omega)) ?_ | refine rl_q rfl (q_muli _ rfl rfl rfl (by omega) (by omega)) ?_ | refine rl_q rfl (q_pick_t rfl rfl) ?_ | refine rl_q rfl (q_pick_f rfl rfl) ?_ | refine rl_q rfl (q_lt_t rfl rfl (by omega)) ?_ | refine rl_q rfl (q_lt_f rfl rfl (by omega)) ?_ | refine rl_q rfl (q_le_t rfl rfl (by omega)) ?_ | refine rl_q rfl (q_le_f rfl rfl (by omega)) ?_ | refine rl_q rfl (q_gt_t rfl rfl (by omega)) ?_ | refine rl_q rfl (q_gt_f rfl rfl (by omega)) ?_ | refine rl_q rfl (q_ge_t rfl rfl (by omega)) ?_ | refine rl_q rfl (q_ge_f rfl rfl (by omega)) ?_ | refine rl_q rfl (q_eq_t rfl rfl (by omega)) ?_ | refine rl_q rfl (q_eq_f rfl rfl (by omega)) ?_ | refine rl_q rfl (q_ne_t rfl rfl (by omega)) ?_ | refine rl_q rfl (q_ne_f rfl rfl (by omega)) ?_ | refine rl_q rfl (q_lt rfl rfl) ?_ | refine rl_q rfl (q_le rfl rfl) ?_ | refine rl_q rfl (q_gt rfl rfl) ?_ | refine rl_q rfl (q_ge rfl rfl) ?_ | refine rl_q rfl (q_eq rfl rfl) ?_ | refine rl_q rfl (q_ne rfl rfl) ?_ | refine rl_q rfl (q_not rfl) ?_ | refine rl_q rfl (q_nilf rfl) ?_ | refine rl_q rfl (q_makeFunc rfl rfl) ?_ | refine rl_q rfl (q_field (by exact Fo.out) (by kernel_rfl) rfl rfl) ?_ | refine rl_q rfl (q_load (by exact Tk.out) rfl (c1 (by assumption) (by rfl))) ?_ | refine rl_q rfl (q_loadB (by exact Tk.out) rfl (by assumption) (by rfl)) ?_ | refine rl_q rfl (q_load (by exact Tk.out) rfl (c1_cell (by assumption))) ?_ | refine x_blk_n ?_ | refine x_block ?_ | refine x_skip ?_ | refine x_label ?_ | refine x_ret ?_ | refine x_exit ?_ | refine x_then_r ?_ | refine x_then_e ?_ | refine x_blk_e ?_ | refine x_blk_r ?_ | refine x_blk_o rfl ?_ | refine x_cond_t rfl ?_ | refine x_cond_f rfl ?_ | refine rl_go rfl rfl ?_ | refine rl_no rfl rfl rfl rfl ?_)
  refine rl_q rfl (q_indexAddr (by exact Es.out) rfl rfl rfl hn) ?_
  refine rl_q rfl (q_load (by exact Tk.out) rfl (c1_cell hc1)) ?_
  repeat (first | refine x_seq ?_ | refine x_reg ?_ | refine x_nil ?_ | refine x_then_n ?_ | refine rl_q rfl (q_move rfl) ?_ | refine rl_q rfl (q_nil rfl) ?_ | refine rl_q rfl (q_fa0 (by exact Fo.out) rfl) ?_ | refine rl_q rfl (q_fak (by exact Fo.out) rfl) ?_ | refine rl_q rfl (q_fieldAddr (by exact Fo.out) rfl) ?_ | refine rl_q rfl (q_assign rfl) ?_ | refine rl_q rfl (q_len rfl (by kernel_rfl) rfl) ?_ | refine rl_q rfl (q_extract rfl rfl) ?_ | refine rl_q rfl (q_addi _ rfl rfl rfl (by omega) (by omega)) ?_ | refine rl_q rfl (q_subi _ rfl rfl rfl (by omega) (by omega)) ?_ | refine rl_q rfl (q_muli _ rfl rfl rfl (by omega) (by omega)) ?_ | refine rl_q rfl (q_pick_t rfl rfl) ?_ | refine rl_q rfl (q_pick_f rfl rfl) ?_ | refine rl_q rfl (q_lt_t rfl rfl (by omega)) ?_ | refine rl_q rfl (q_lt_f rfl rfl (by omega)) ?_ | refine rl_q rfl (q_le_t rfl rfl (by omega)) ?_ | refine rl_q rfl (q_le_f rfl rfl (by omega)) ?_ | refine rl_q rfl (q_gt_t rfl rfl (by omega)) ?_ | refine rl_q rfl (q_gt_f rfl rfl (by omega)) ?_ | refine rl_q rfl (q_ge_t rfl rfl (by omega)) ?_ | refine rl_q rfl (q_ge_f rfl rfl (by omega)) ?_ | refine rl_q rfl (q_eq_t rfl rfl (by omega)) ?_ | refine rl_q rfl (q_eq_f rfl rfl (by omega)) ?_ | refine rl_q rfl (q_ne_t rfl rfl (by omega)) ?_ | refine rl_q rfl (q_ne_f rfl rfl (by omega)) ?_ | refine rl_q rfl (q_lt rfl rfl) ?_ | refine rl_q rfl (q_le rfl rfl) ?_ | refine rl_q rfl (q_gt rfl rfl) ?_ | refine rl_q rfl (q_ge rfl rfl) ?_ | refine rl_q rfl (q_eq rfl rfl) ?_ | refine rl_q rfl (q_ne rfl rfl) ?_ | refine rl_q rfl (q_not rfl) ?_ | refine rl_q rfl (q_nilf rfl) ?_ | refine rl_q rfl (q_makeFunc rfl rfl) ?_ | refine rl_q rfl (q_field (by exact Fo.out) (by kernel_rfl) rfl rfl) ?_ | refine rl_q rfl (q_load (by exact Tk.out) rfl (c1 (by assumption) (by rfl))) ?_ | refine rl_q rfl (q_loadB (by exact Tk.out) rfl (by assumption) (by rfl)) ?_ | refine rl_q rfl (q_load (by exact Tk.out) rfl (c1_cell (by assumption))) ?_ | refine x_blk_n ?_ | refine x_block ?_ | refine x_skip ?_ | refine x_label ?_ | refine x_ret ?_ | refine x_exit ?_ | refine x_then_r ?_ | refine x_then_e ?_ | refine x_blk_e ?_ | refine x_blk_r ?_ | refine x_blk_o rfl ?_ | refine x_cond_t rfl ?_ | refine x_cond_f rfl ?_ | refine rl_go rfl rfl ?_ | refine rl_no rfl rfl rfl rfl ?_)
  refine rl_q rfl (q_indexAddr (by exact Es.out) rfl rfl rfl hk) ?_
  refine rl_q rfl (q_load (by exact Tk.out) rfl (c1_cell hc3)) ?_
  by_cases h1 : z < 0
  · repeat (first | refine x_seq ?_ | refine x_reg ?_ | refine x_nil ?_ | refine x_then_n ?_ | refine rl_q rfl (q_move rfl) ?_ | refine rl_q rfl (q_nil rfl) ?_ | refine rl_q rfl (q_fa0 (by exact Fo.out) rfl) ?_ | refine rl_q rfl (q_fak (by exact Fo.out) rfl) ?_ | refine rl_q rfl (q_fieldAddr (by exact Fo.out) rfl) ?_ | refine rl_q rfl (q_assign rfl) ?_ | refine rl_q rfl (q_len rfl (by kernel_rfl) rfl) ?_ | refine rl_q rfl (q_extract rfl rfl) ?_ | refine rl_q rfl (q_addi _ rfl rfl rfl (by omega) (by omega)) ?_ | refine rl_q rfl (q_subi _ rfl rfl rfl (by omega) (by omega)) ?_ | refine rl_q rfl (q_muli _ rfl rfl rfl (by omega) (by omega)) ?_ | refine rl_q rfl (q_pick_t rfl rfl) ?_ | refine rl_q rfl (q_pick_f rfl rfl) ?_ | refine rl_q rfl (q_lt_t rfl rfl (by omega)) ?_ | refine rl_q rfl (q_lt_f rfl rfl (by omega)) ?_ | refine rl_q rfl (q_le_t rfl rfl (by omega)) ?_ | refine rl_q rfl (q_le_f rfl rfl (by omega)) ?_ | refine rl_q rfl (q_gt_t rfl rfl (by omega)) ?_ | refine rl_q rfl (q_gt_f rfl rfl (by omega)) ?_ | refine rl_q rfl (q_ge_t rfl rfl (by omega)) ?_ | refine rl_q rfl (q_ge_f rfl rfl (by omega)) ?_ | refine rl_q rfl (q_eq_t rfl rfl (by omega)) ?_ | refine rl_q rfl (q_eq_f rfl rfl (by omega)) ?_ | refine rl_q rfl (q_ne_t rfl rfl (by omega)) ?_ | refine rl_q rfl (q_ne_f rfl rfl (by omega)) ?_ | refine rl_q rfl (q_lt rfl rfl) ?_ | refine rl_q rfl (q_le rfl rfl) ?_ | refine rl_q rfl (q_gt rfl rfl) ?_ | refine rl_q rfl (q_ge rfl rfl) ?_ | refine rl_q rfl (q_eq rfl rfl) ?_ | refine rl_q rfl (q_ne rfl rfl) ?_ | refine rl_q rfl (q_not rfl) ?_ | refine rl_q rfl (q_nilf rfl) ?_ | refine rl_q rfl (q_makeFunc rfl rfl) ?_ | refine rl_q rfl (q_field (by exact Fo.out) (by kernel_rfl) rfl rfl) ?_ | refine rl_q rfl (q_load (by exact Tk.out) rfl (c1 (by assumption) (by rfl))) ?_ | refine rl_q rfl (q_loadB (by exact Tk.out) rfl (by assumption) (by rfl)) ?_ | refine rl_q rfl (q_load (by exact Tk.out) rfl (c1_cell (by assumption))) ?_ | refine x_blk_n ?_ | refine x_block ?_ | refine x_skip ?_ | refine x_label ?_ | refine x_ret ?_ | refine x_exit ?_ | refine x_then_r ?_ | refine x_then_e ?_ | refine x_blk_e ?_ | refine x_blk_r ?_ | refine x_blk_o rfl ?_ | refine x_cond_t rfl ?_ | refine x_cond_f rfl ?_ | refine rl_go rfl rfl ?_ | refine rl_no rfl rfl rfl rfl ?_)
    refine x_done1 rfl rfl ⟨_, rfl, ?_, rfl⟩
    simp [tgt, h1]
  · by_cases h2 : (N : Int) ≤ z
    · repeat (first | refine x_seq ?_ | refine x_reg ?_ | refine x_nil ?_ | refine x_then_n ?_ | refine rl_q rfl (q_move rfl) ?_ | refine rl_q rfl (q_nil rfl) ?_ | refine rl_q rfl (q_fa0 (by exact Fo.out) rfl) ?_ | refine rl_q rfl (q_fak (by exact Fo.out) rfl) ?_ | refine rl_q rfl (q_fieldAddr (by exact Fo.out) rfl) ?_ | refine rl_q rfl (q_assign rfl) ?_ | refine rl_q rfl (q_len rfl (by kernel_rfl) rfl) ?_ | refine rl_q rfl (q_extract rfl rfl) ?_ | refine rl_q rfl (q_addi _ rfl rfl rfl (by omega) (by omega)) ?_ | refine rl_q rfl (q_subi _ rfl rfl rfl (by omega) (by omega)) ?_ | refine rl_q rfl (q_muli _ rfl rfl rfl (by omega) (by omega)) ?_ | refine rl_q rfl (q_pick_t rfl rfl) ?_ | refine rl_q rfl (q_pick_f rfl rfl) ?_ | refine rl_q rfl (q_lt_t rfl rfl (by omega)) ?_ | refine rl_q rfl (q_lt_f rfl rfl (by omega)) ?_ | refine rl_q rfl (q_le_t rfl rfl (by omega)) ?_ | refine rl_q rfl (q_le_f rfl rfl (by omega)) ?_ | refine rl_q rfl (q_gt_t rfl rfl (by omega)) ?_ | refine rl_q rfl (q_gt_f rfl rfl (by omega)) ?_ | refine rl_q rfl (q_ge_t rfl rfl (by omega)) ?_ | refine rl_q rfl (q_ge_f rfl rfl (by omega)) ?_ | refine rl_q rfl (q_eq_t rfl rfl (by omega)) ?_ | refine rl_q rfl (q_eq_f rfl rfl (by omega)) ?_ | refine rl_q rfl (q_ne_t rfl rfl (by omega)) ?_ | refine rl_q rfl (q_ne_f rfl rfl (by omega)) ?_ | refine rl_q rfl (q_lt rfl rfl) ?_ | refine rl_q rfl (q_le rfl rfl) ?_ | refine rl_q rfl (q_gt rfl rfl) ?_ | refine rl_q rfl (q_ge rfl rfl) ?_ | refine rl_q rfl (q_eq rfl rfl) ?_ | refine rl_q rfl (q_ne rfl rfl) ?_ | refine rl_q rfl (q_not rfl) ?_ | refine rl_q rfl (q_nilf rfl) ?_ | refine rl_q rfl (q_makeFunc rfl rfl) ?_ | refine rl_q rfl (q_field (by exact Fo.out) (by kernel_rfl) rfl rfl) ?_ | refine rl_q rfl (q_load (by exact Tk.out) rfl (c1 (by assumption) (by rfl))) ?_ | refine rl_q rfl (q_loadB (by exact Tk.out) rfl (by assumption) (by rfl)) ?_ | refine rl_q rfl (q_load (by exact Tk.out) rfl (c1_cell (by assumption))) ?_ | refine x_blk_n ?_ | refine x_block ?_ | refine x_skip ?_ | refine x_label ?_ | refine x_ret ?_ | refine x_exit ?_ | refine x_then_r ?_ | refine x_then_e ?_ | refine x_blk_e ?_ | refine x_blk_r ?_ | refine x_blk_o rfl ?_ | refine x_cond_t rfl ?_ | refine x_cond_f rfl ?_ | refine rl_go rfl rfl ?_ | refine rl_no rfl rfl rfl rfl ?_)
      refine x_done1 rfl rfl ⟨_, rfl, ?_, rfl⟩
      simp [tgt, h2]
    · repeat (first | refine x_seq ?_ | refine x_reg ?_ | refine x_nil ?_ | refine x_then_n ?_ | refine rl_q rfl (q_move rfl) ?_ | refine rl_q rfl (q_nil rfl) ?_ | refine rl_q rfl (q_fa0 (by exact Fo.out) rfl) ?_ | refine rl_q rfl (q_fak (by exact Fo.out) rfl) ?_ | refine rl_q rfl (q_fieldAddr (by exact Fo.out) rfl) ?_ | refine rl_q rfl (q_assign rfl) ?_ | refine rl_q rfl (q_len rfl (by kernel_rfl) rfl) ?_ | refine rl_q rfl (q_extract rfl rfl) ?_ | refine rl_q rfl (q_addi _ rfl rfl rfl (by omega) (by omega)) ?_ | refine rl_q rfl (q_subi _ rfl rfl rfl (by omega) (by omega)) ?_ | refine rl_q rfl (q_muli _ rfl rfl rfl (by omega) (by omega)) ?_ | refine rl_q rfl (q_pick_t rfl rfl) ?_ | refine rl_q rfl (q_pick_f rfl rfl) ?_ | refine rl_q rfl (q_lt_t rfl rfl (by omega)) ?_ | refine rl_q rfl (q_lt_f rfl rfl (by omega)) ?_ | refine rl_q rfl (q_le_t rfl rfl (by omega)) ?_ | refine rl_q rfl (q_le_f rfl rfl (by omega)) ?_ | refine rl_q rfl (q_gt_t rfl rfl (by omega)) ?_ | refine rl_q rfl (q_gt_f rfl rfl (by omega)) ?_ | refine rl_q rfl (q_ge_t rfl rfl (by omega)) ?_ | refine rl_q rfl (q_ge_f rfl rfl (by omega)) ?_ | refine rl_q rfl (q_eq_t rfl rfl (by omega)) ?_ | refine rl_q rfl (q_eq_f rfl rfl (by omega)) ?_ | refine rl_q rfl (q_ne_t rfl rfl (by omega)) ?_ | refine rl_q rfl (q_ne_f rfl rfl (by omega)) ?_ | refine rl_q rfl (q_lt rfl rfl) ?_ | refine rl_q rfl (q_le rfl rfl) ?_ | refine rl_q rfl (q_gt rfl rfl) ?_ | refine rl_q rfl (q_ge rfl rfl) ?_ | refine rl_q rfl (q_eq rfl rfl) ?_ | refine rl_q rfl (q_ne rfl rfl) ?_ | refine rl_q rfl (q_not rfl) ?_ | refine rl_q rfl (q_nilf rfl) ?_ | refine rl_q rfl (q_makeFunc rfl rfl) ?_ | refine rl_q rfl (q_field (by exact Fo.out) (by kernel_rfl) rfl rfl) ?_ | refine rl_q rfl (q_load (by exact Tk.out) rfl (c1 (by assumption) (by rfl))) ?_ | refine rl_q rfl (q_loadB (by exact Tk.out) rfl (by assumption) (by rfl)) ?_ | refine rl_q rfl (q_load (by exact Tk.out) rfl (c1_cell (by assumption))) ?_ | refine x_blk_n ?_ | refine x_block ?_ | refine x_skip ?_ | refine x_label ?_ | refine x_ret ?_ | refine x_exit ?_ | refine x_then_r ?_ | refine x_then_e ?_ | refine x_blk_e ?_ | refine x_blk_r ?_ | refine x_blk_o rfl ?_ | refine x_cond_t rfl ?_ | refine x_cond_f rfl ?_ | refine rl_go rfl rfl ?_ | refine rl_no rfl rfl rfl rfl ?_)
      refine x_done1 rfl rfl ⟨_, rfl, ?_, rfl⟩
      simp [tgt, h1, h2]
end Go.Proofs.YtnjjjfffppllfaaX.G
