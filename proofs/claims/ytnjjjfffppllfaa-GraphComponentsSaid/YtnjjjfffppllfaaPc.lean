/- The components of a graph: by what they are ordered; those that wait for nothing are laid into the heap. -/
import Derived.Test.YtnjjjfffppllfaaPb
import Derived.Test.YtnjjjfffppllfaaHIb
namespace Go.Proofs.YtnjjjfffppllfaaX.G
open Go.RowKit Go.Proofs.YtnjjjfffppllfaaK
open Tj (upd_i upd_o Kahn KahnIn Parts)
open Hp (Ord OkL fn befb)
open HI (HeapAt LessOk)
attribute [local irreducible] F Qt Ef Code.wp wpList wpT bodyPost Calls
set_option linter.unusedVariables false
set_option linter.unusedSimpArgs false

/-- The members of each component, as the heap's order reads them. -/
structure MF (w : World) (N bv bm n n2 : Nat) (vs : Nat → Value) (comp : Nat → Nat) : Prop where
  hv : w.heap[bv]? = some (.cells #[.slice (some ⟨bm, 0, none⟩) n n] 38 (0, 0))
  hm : w.heap[bm]? = some (.cells (rowV n vs) 37 (0, 0))
  ns : Nest 3 ints n2 w n vs (Tj.mem N comp)
section
variable {w w' : World} {N bv bm n n2 : Nat} {vs : Nat → Value} {comp : Nat → Nat}
theorem MF.keep (h : MF w N bv bm n n2 vs comp) {m : Nat} {Ts : List TypeId} (hk : Kept m Ts w w') (h1 : Ts.contains 38 = false) (h2 : Ts.contains 37 = false) (h3 : Ts.contains 3 = false) : MF w' N bv bm n n2 vs comp := ⟨gett hk h.hv h1, gett hk h.hm h2, h.ns.keep hk h3⟩
theorem MF.below (h : MF w N bv bm n n2 vs comp) {m : Nat} {Ts : List TypeId} (hk : Kept m Ts w w') (hm : w.heap.size ≤ m) : MF w' N bv bm n n2 vs comp :=
  ⟨getb hk h.hv (Nat.lt_of_lt_of_le (heap_lt h.hv) hm), getb hk h.hm (Nat.lt_of_lt_of_le (heap_lt h.hm) hm), h.ns.below hk hm⟩
def okC (n : Nat) (x : Int) : Prop := ∃ c : Nat, c < n ∧ x = (c : Int)
def ltC (N : Nat) (comp : Nat → Nat) (x y : Int) : Bool := decide (Tj.hd N comp x.toNat < Tj.hd N comp y.toNat)
theorem ltC_ord (N : Nat) (comp : Nat → Nat) : Ord (ltC N comp) := ⟨fun x y h => by simp [ltC] at *; omega, fun x y z h1 h2 => by simp [ltC] at *; omega⟩

set_option maxHeartbeats 2000000 in
theorem less_c (h : MF w N bv bm n n2 vs comp) {es : Tj.Es} (hp : Parts N es comp n) {a b : Nat} (ha : a < n) (hb : b < n) :
    Calls Try.prog 86 #[.int .i64 (a : Int), .int .i64 (b : Int), .pointer (some ⟨bv, 0, none⟩)] w (Rt fun v w' => v = .bool (ltC N comp a b) ∧ Kept 0 [] w w') := by
  obtain ⟨ia, ra, ea, _⟩ := hp.first ha
  obtain ⟨ib, rb, eb, _⟩ := hp.first hb
  obtain ⟨qa, ca, eva, _, _, hca⟩ := own_cell ints_len (h.ns.own a ha) (by rw [ea]; simp)
  obtain ⟨qb, cb, evb, _, _, hcb⟩ := own_cell ints_len (h.ns.own b hb) (by rw [eb]; simp)
  have hla : 0 < (Tj.mem N comp a).length := by rw [ea]; simp
  have hlb : 0 < (Tj.mem N comp b).length := by rw [eb]; simp
  have hca := hca 0 hla (.int .i64 (ia : Int)) (by simp [ea, ints])
  have hcb := hcb 0 hlb (.int .i64 (ib : Int)) (by simp [eb, ints])
  have hma := nthV (f := vs) ha
  have hmb := nthV (f := vs) hb
  rw [eva] at hma
  rw [evb] at hmb
  have e : ltC N comp a b = decide ((ia : Int) < (ib : Int)) := by
    simp [ltC, Tj.hd, ea, eb]
  refine x_enter (n := 19) [(0, _), (1, _), (2, _)] Try.func86 rfl Try.ntmps86 rfl (And.intro rfl (And.intro rfl (And.intro rfl trivial))) ?_
  repeat (first | refine x_seq ?_ | refine x_reg ?_ | refine x_nil ?_ | refine x_then_n ?_ | refine rl_q rfl (q_move rfl) ?_ | refine rl_q rfl (q_nil rfl) ?_ | refine rl_q rfl (q_fa0 (by exact Fo.out) rfl) ?_ | refine rl_q rfl (q_fak (by exact Fo.out) rfl) ?_ | refine rl_q rfl (q_fieldAddr (by exact Fo.out) rfl) ?_ | refine rl_q rfl (q_assign rfl) ?_ | refine rl_q rfl (q_len rfl (by kernel_rfl) rfl) ?_ | refine rl_q rfl (q_extract rfl rfl) ?_ | refine rl_q rfl (q_addi _ rfl rfl rfl (by omega) (by omega)) ?_ | refine rl_q rfl (q_subi _ rfl rfl rfl (by omega) (by omega)) ?_ | refine rl_q rfl (q_muli _ rfl rfl rfl (by omega) (by omega)) ?_ | refine rl_q rfl (q_pick_t rfl rfl) ?_ | refine rl_q rfl (q_pick_f rfl rfl) ?_ | refine rl_q rfl (q_lt_t rfl rfl (by omega)) ?_ | refine rl_q rfl (q_lt_f rfl rfl (by omega)) ?_ | refine rl_q rfl (q_le_t rfl rfl (by omega)) ?_ | refine rl_q rfl (q_le_f rfl rfl (by omega)) ?_ | refine rl_q rfl (q_gt_t rfl rfl (by omega)) ?_ | refine rl_q rfl (q_gt_f rfl rfl (by omega)) ?_ | refine rl_q rfl (q_ge_t rfl rfl (by omega)) ?_ | refine rl_q rfl (q_ge_f rfl rfl (by omega)) ?_ | refine rl_q rfl (q_eq_t rfl rfl (by omega)) ?_ | refine rl_q rfl (q_eq_f rfl rfl (by omega)) ?_ | refine rl_q rfl (q_ne_t rfl rfl (by omega)) ?_ | refine rl_q rfl (q_ne_f rfl rfl (by omega)) ?_ | refine rl_q rfl (q_lt rfl rfl) ?_ | refine rl_q rfl (q_le rfl rfl) ?_ | refine rl_q rfl (q_gt rfl rfl) ?_ | refine rl_q rfl (q_ge rfl rfl) ?_ | refine rl_q rfl (q_eq rfl rfl) ?_ | refine rl_q rfl (q_ne rfl rfl) ?_ | refine rl_q rfl (q_not rfl) ?_ | refine rl_q rfl (q_nilf rfl) ?_ | refine rl_q rfl (q_makeFunc rfl rfl) ?_ | refine rl_q rfl (q_field (by exact Fo.out) (by kernel_rfl) rfl rfl) ?_ | refine rl_q rfl (q_load (by exact Tk.out) rfl (c1 (by assumption) (by rfl))) ?_ | refine rl_q rfl (q_loadB (by exact Tk.out) rfl (by assumption) (by rfl)) ?_ | refine rl_q rfl (q_load (by exact Tk.out) rfl (c1_cell (by assumption))) ?_ | refine x_blk_n ?_ | refine x_block ?_ | refine x_skip ?_ | refine x_label ?_ | refine x_ret ?_ | refine x_exit ?_ | refine x_then_r ?_ | refine x_then_e ?_ | refine x_blk_e ?_ | refine x_blk_r ?_ | refine x_blk_o rfl ?_ | refine x_cond_t rfl ?_ | refine x_cond_f rfl ?_ | refine rl_go rfl rfl ?_ | refine rl_no rfl rfl rfl rfl ?_)
  refine x_drawH [] mixed fun wd hk_wd hS_wd => ?_
  refine dr_s 0 rfl rfl (by kernel_rfl) (by kernel_rfl) (by kernel_rfl) (by kernel_rfl) (by kernel_rfl) (by kernel_rfl) (q_load (by exact Tk.out) rfl (c1h (cell_at h.hv rfl))) hS_wd ?_
  refine dr_p 1 rfl rfl (by kernel_rfl) (by kernel_rfl) (by kernel_rfl) (by kernel_rfl) (q_move rfl) hS_wd ?_
  refine dr_p 2 rfl rfl (by kernel_rfl) (by kernel_rfl) (by kernel_rfl) (by kernel_rfl) (q_index1 (by exact Es.out) rfl rfl rfl ha) hS_wd ?_
  refine dr_s 3 rfl rfl (by kernel_rfl) (by kernel_rfl) (by kernel_rfl) (by kernel_rfl) (by kernel_rfl) (by kernel_rfl) (q_load (by exact Tk.out) rfl (c1h (cell_at h.hm hma))) hS_wd ?_
  refine dr_p 4 rfl rfl (by kernel_rfl) (by kernel_rfl) (by kernel_rfl) (by kernel_rfl) (q_index1 (j := 0) (by exact Es.out) rfl rfl rfl hla) hS_wd ?_
  refine dr_s 5 rfl rfl (by kernel_rfl) (by kernel_rfl) (by kernel_rfl) (by kernel_rfl) (by kernel_rfl) (by kernel_rfl) (q_load (by exact Tk.out) rfl (c1h hca)) hS_wd ?_
  refine dr_s 6 rfl rfl (by kernel_rfl) (by kernel_rfl) (by kernel_rfl) (by kernel_rfl) (by kernel_rfl) (by kernel_rfl) (q_load (by exact Tk.out) rfl (c1h (cell_at h.hv rfl))) hS_wd ?_
  refine dr_p 7 rfl rfl (by kernel_rfl) (by kernel_rfl) (by kernel_rfl) (by kernel_rfl) (q_move rfl) hS_wd ?_
  refine dr_p 8 rfl rfl (by kernel_rfl) (by kernel_rfl) (by kernel_rfl) (by kernel_rfl) (q_index1 (by exact Es.out) rfl rfl rfl hb) hS_wd ?_
  refine dr_s 9 rfl rfl (by kernel_rfl) (by kernel_rfl) (by kernel_rfl) (by kernel_rfl) (by kernel_rfl) (by kernel_rfl) (q_load (by exact Tk.out) rfl (c1h (cell_at h.hm hmb))) hS_wd ?_
  refine dr_p 10 rfl rfl (by kernel_rfl) (by kernel_rfl) (by kernel_rfl) (by kernel_rfl) (q_index1 (j := 0) (by exact Es.out) rfl rfl rfl hlb) hS_wd ?_
  refine dr_s 11 rfl rfl (by kernel_rfl) (by kernel_rfl) (by kernel_rfl) (by kernel_rfl) (by kernel_rfl) (by kernel_rfl) (q_load (by exact Tk.out) rfl (c1h hcb)) hS_wd ?_
  refine dr_p 12 rfl rfl (by kernel_rfl) (by kernel_rfl) (by kernel_rfl) (by kernel_rfl) (q_lt rfl rfl) hS_wd ?_
  refine dr_p 13 rfl rfl (by kernel_rfl) (by kernel_rfl) (by kernel_rfl) (by kernel_rfl) (q_assign rfl) hS_wd ?_
  refine dr_done (by kernel_rfl) ?_
  repeat (first | refine x_seq ?_ | refine x_reg ?_ | refine x_nil ?_ | refine x_then_n ?_ | refine rl_q rfl (q_move rfl) ?_ | refine rl_q rfl (q_nil rfl) ?_ | refine rl_q rfl (q_fa0 (by exact Fo.out) rfl) ?_ | refine rl_q rfl (q_fak (by exact Fo.out) rfl) ?_ | refine rl_q rfl (q_fieldAddr (by exact Fo.out) rfl) ?_ | refine rl_q rfl (q_assign rfl) ?_ | refine rl_q rfl (q_len rfl (by kernel_rfl) rfl) ?_ | refine rl_q rfl (q_extract rfl rfl) ?_ | refine rl_q rfl (q_addi _ rfl rfl rfl (by omega) (by omega)) ?_ | refine rl_q rfl (q_subi _ rfl rfl rfl (by omega) (by omega)) ?_ | refine rl_q rfl (q_muli _ rfl rfl rfl (by omega) (by omega)) ?_ | refine rl_q rfl (q_pick_t rfl rfl) ?_ | refine rl_q rfl (q_pick_f rfl rfl) ?_ | refine rl_q rfl (q_lt_t rfl rfl (by omega)) ?_ | refine rl_q rfl (q_lt_f rfl rfl (by omega)) ?_ | refine rl_q rfl (q_le_t rfl rfl (by omega)) ?_ | refine rl_q rfl (q_le_f rfl rfl (by omega)) ?_ | refine rl_q rfl (q_gt_t rfl rfl (by omega)) ?_ | refine rl_q rfl (q_gt_f rfl rfl (by omega)) ?_ | refine rl_q rfl (q_ge_t rfl rfl (by omega)) ?_ | refine rl_q rfl (q_ge_f rfl rfl (by omega)) ?_ | refine rl_q rfl (q_eq_t rfl rfl (by omega)) ?_ | refine rl_q rfl (q_eq_f rfl rfl (by omega)) ?_ | refine rl_q rfl (q_ne_t rfl rfl (by omega)) ?_ | refine rl_q rfl (q_ne_f rfl rfl (by omega)) ?_ | refine rl_q rfl (q_lt rfl rfl) ?_ | refine rl_q rfl (q_le rfl rfl) ?_ | refine rl_q rfl (q_gt rfl rfl) ?_ | refine rl_q rfl (q_ge rfl rfl) ?_ | refine rl_q rfl (q_eq rfl rfl) ?_ | refine rl_q rfl (q_ne rfl rfl) ?_ | refine rl_q rfl (q_not rfl) ?_ | refine rl_q rfl (q_nilf rfl) ?_ | refine rl_q rfl (q_makeFunc rfl rfl) ?_ | refine rl_q rfl (q_field (by exact Fo.out) (by kernel_rfl) rfl rfl) ?_ | refine rl_q rfl (q_load (by exact Tk.out) rfl (c1 (by assumption) (by rfl))) ?_ | refine rl_q rfl (q_loadB (by exact Tk.out) rfl (by assumption) (by rfl)) ?_ | refine rl_q rfl (q_load (by exact Tk.out) rfl (c1_cell (by assumption))) ?_ | refine x_blk_n ?_ | refine x_block ?_ | refine x_skip ?_ | refine x_label ?_ | refine x_ret ?_ | refine x_exit ?_ | refine x_then_r ?_ | refine x_then_e ?_ | refine x_blk_e ?_ | refine x_blk_r ?_ | refine x_blk_o rfl ?_ | refine x_cond_t rfl ?_ | refine x_cond_f rfl ?_ | refine rl_go rfl rfl ?_ | refine rl_no rfl rfl rfl rfl ?_)
  exact x_done1 rfl rfl ⟨_, rfl, by rw [e], hk_wd⟩
theorem MF.less (h : MF w N bv bm n n2 vs comp) {es : Tj.Es} (hp : Parts N es comp n) (nh : Nat) : LessOk nh w (.func (.func 86) #[] #[.pointer (some ⟨bv, 0, none⟩)]) (okC n) (ltC N comp) :=
  ⟨86, #[], #[.pointer (some ⟨bv, 0, none⟩)], rfl, by exact Hs.out, fun w' hk x y hx hy => by
    obtain ⟨a, ha, rfl⟩ := hx
    obtain ⟨b, hb, rfl⟩ := hy
    have := less_c (h.keep hk rfl rfl rfl) hp ha hb
    simpa [HI.arg] using this⟩
end

def Hs' (es : List (Int × Int)) : List Nat := es.map fun e => e.1.toNat
/-- The heap, and what waits for what, in memory. -/
structure KS (w : World) (N bv bm bw bb p n n2 n3 nh : Nat) (comp : Nat → Nat) (vs ws : Nat → Value) (X : List (Nat × Nat)) (W : Nat → Nat) (es : List (Int × Int)) (came : Nat) : Prop where
  mf : MF w N bv bm n n2 vs comp
  hw : w.heap[bw]? = some (.cells (rowA n (up W)) 3 (0, 0))
  hb : w.heap[bb]? = some (.cells (rowV n ws) 37 (0, 0))
  ns : Nest 3 ints n3 w n ws (Tj.bk X)
  hp : HeapAt nh w p (.func (.func 86) #[] #[.pointer (some ⟨bv, 0, none⟩)]) es (came : Int)
  ok : OkL (befb (ltC N comp)) es
  el : ∀ e ∈ es, okC n e.1
section
variable {w w' : World} {N bv bm bw bb p n n2 n3 nh : Nat} {comp : Nat → Nat} {vs ws : Nat → Value} {X : List (Nat × Nat)} {W : Nat → Nat} {es : List (Int × Int)} {came : Nat}
theorem KS.grow (h : KS w N bv bm bw bb p n n2 n3 nh comp vs ws X W es came) (hk : Kept 0 [] w w') : KS w' N bv bm bw bb p n n2 n3 nh comp vs ws X W es came :=
  ⟨h.mf.keep hk rfl rfl rfl, getk hk h.hw, getk hk h.hb, h.ns.grow hk, h.hp.kept hk rfl rfl, h.ok, h.el⟩
theorem KS.heap (h : KS w N bv bm bw bb p n n2 n3 nh comp vs ws X W es came) (hk : Kept nh [165, 167] w w') {es' : List (Int × Int)} {came' : Nat} (hp : HeapAt nh w' p (.func (.func 86) #[] #[.pointer (some ⟨bv, 0, none⟩)]) es' (came' : Int)) (ok : OkL (befb (ltC N comp)) es') (el : ∀ e ∈ es', okC n e.1) : KS w' N bv bm bw bb p n n2 n3 nh comp vs ws X W es' came' :=
  ⟨h.mf.keep hk rfl rfl rfl, gett hk h.hw rfl, gett hk h.hb rfl, h.ns.keep hk rfl, hp, ok, el⟩
/-- One is laid in. -/
theorem push_k (h : KS w N bv bm bw bb p n n2 n3 nh comp vs ws X W es came) {ee : Tj.Es} (hP : Parts N ee comp n) {c : Nat} (hc : c < n) (hl : es.length ≤ 1000000) (hcm : came ≤ 1000000) :
    Calls Try.prog 79 #[.pointer (some ⟨p, 0, none⟩), .int .i64 (c : Int)] w (Rt fun v w' => v = .tuple #[] ∧ ∃ es', KS w' N bv bm bw bb p n n2 n3 nh comp vs ws X W es' (came + 1) ∧ (Hs' es').Perm (Hs' es ++ [c]) ∧ Kept nh [165, 167] w w') :=
  rt (HI.push_c (ltC_ord N comp) h.hp (h.mf.less hP nh) h.el (c : Int) ⟨c, hc, rfl⟩ h.ok hl (by omega) (by omega)) fun v w' hv => by
    obtain ⟨rfl, es', h1, h2, h3, h4⟩ := hv
    refine ⟨rfl, es', h.heap h4 h1 h3 fun e he => ?_, ?_, h4⟩
    · rcases List.mem_append.1 (h2.mem_iff.1 he) with he | he
      · exact h.el e he
      · obtain rfl : e = ((c : Int), (came : Int)) := by simpa using he
        exact ⟨c, hc, rfl⟩
    · have := h2.map fun e => e.1.toNat
      simpa [Hs'] using this
/-- The one that comes next is taken out, if there is one. -/
theorem pop_k (h : KS w N bv bm bw bb p n n2 n3 nh comp vs ws X W es came) {ee : Tj.Es} (hP : Parts N ee comp n) {outs : List Nat} (hK : Kahn N ee comp n outs W (Hs' es)) (hl : es.length ≤ 1000000) :
    Calls Try.prog 80 #[.pointer (some ⟨p, 0, none⟩)] w (Rt fun v w' => ∃ m es', v = .tuple #[.int .i64 ((m.getD 0 : Nat) : Int), .bool m.isSome] ∧ KS w' N bv bm bw bb p n n2 n3 nh comp vs ws X W es' came ∧
      (m = none → es' = [] ∧ es = []) ∧ (∀ c, m = some c → KahnIn N ee comp n outs c 0 W (Hs' es') ∧ es.length = es'.length + 1) ∧ Kept nh [165, 167] w w') := by
  by_cases h0 : es.length = 0
  · obtain rfl := List.length_eq_zero_iff.1 h0
    refine rt (HI.pop_nil h.hp) fun v w' hv => ?_
    obtain ⟨rfl, hk⟩ := hv
    exact ⟨none, [], rfl, h.grow hk, fun _ => ⟨rfl, rfl⟩, fun c hc => (by cases hc), Kept.all hk⟩
  · refine rt (HI.pop_c (ltC_ord N comp) h.hp (h.mf.less hP nh) h.el h.ok (by omega) (by omega)) fun v w' hv => ?_
    obtain ⟨rfl, es', h1, h2, h3, h4⟩ := hv
    have hroot := Hp.okL_root (Hp.befb_ord (ltC_ord N comp)) h.ok
    have hmem : fn es 0 ∈ es := h2.mem_iff.1 (List.mem_cons_self ..)
    obtain ⟨c, hc, hce⟩ := h.el _ hmem
    have hm2 := h2.map fun e => e.1.toNat
    simp only [List.map_cons, hce] at hm2
    refine ⟨some c, es', by simp [HI.arg, hce], h.heap h4 h1 h3 fun e he => h.el e (h2.mem_iff.1 (List.mem_cons_of_mem _ he)), fun e => (by cases e), fun d hd => ?_, h4⟩
    cases hd
    refine ⟨hK.pop hP (by simpa [Hs'] using hm2) fun x hx => ?_, by have := h2.length_eq; simp at this; omega⟩
    obtain ⟨e, he, rfl⟩ := List.mem_map.1 hx
    have h5 := hroot e he
    simp only [befb, Bool.or_eq_false_iff] at h5
    have h6 := h5.1
    rw [hce] at h6
    simp [ltC] at h6
    exact h6
end
theorem wt_nil (X : List (Nat × Nat)) (d : Nat) : Tj.wt X [] d = cw X d := by simp [Tj.wt, cw]

set_option maxHeartbeats 2000000 in
theorem loop6 {Q : Exit → Act → World → Prop} [PanicOk Q] {w : World} {N bv bm bw bb p n n2 n3 nh : Nat} {comp : Nat → Nat} {vs ws : Nat → Value} {ee : Tj.Es}
    (h : KS w N bv bm bw bb p n n2 n3 nh comp vs ws (Tj.crosses N ee comp) (cw (Tj.crosses N ee comp)) [] 0) (hP : Parts N ee comp n) (hn : n ≤ 1000000)
    (rest : ∀ es w', KS w' N bv bm bw bb p n n2 n3 nh comp vs ws (Tj.crosses N ee comp) (cw (Tj.crosses N ee comp)) es es.length → Kahn N ee comp n [] (cw (Tj.crosses N ee comp)) (Hs' es) → Kept nh [165, 167] w w' → F 170 [(5, .pointer (some ⟨bv, 0, none⟩)), (8, .slice (some ⟨bw, 0, none⟩) n n), (9, .slice (some ⟨bb, 0, none⟩) n n), (14, .pointer (some ⟨p, 0, none⟩))] w' (Q .normal)) :
    F 170 [(5, .pointer (some ⟨bv, 0, none⟩)), (8, .slice (some ⟨bw, 0, none⟩) n n), (9, .slice (some ⟨bb, 0, none⟩) n n), (14, .pointer (some ⟨p, 0, none⟩)), (114, .int .i64 (n : Int)), (115, .int .i64 0)] w ((bodyAt Try.f30 [1, 1, 1, 1, 1, 1, 1, 0, 1, 0]).wp Try.prog (Exit.inBlock 6 Q)) := by
  refine x_loop (γ := Nat × List (Int × Int)) (fun g => [(5, .pointer (some ⟨bv, 0, none⟩)), (8, .slice (some ⟨bw, 0, none⟩) n n), (9, .slice (some ⟨bb, 0, none⟩) n n), (14, .pointer (some ⟨p, 0, none⟩)), (114, .int .i64 (n : Int)), (115, .int .i64 (g.1 : Int))])
    (fun g w' => g.1 ≤ n ∧ KS w' N bv bm bw bb p n n2 n3 nh comp vs ws (Tj.crosses N ee comp) (cw (Tj.crosses N ee comp)) g.2 g.2.length ∧ (∀ c, c ∈ Hs' g.2 ↔ c < g.1 ∧ cw (Tj.crosses N ee comp) c = 0) ∧ (Hs' g.2).Nodup ∧ Kept nh [165, 167] w w') (fun g => n - g.1)
    (0, []) (And.intro rfl (And.intro rfl (And.intro rfl (And.intro rfl (And.intro rfl (And.intro rfl trivial)))))) ⟨Nat.zero_le _, h, fun c => by simp [Hs'], by simp [Hs'], Kept.refl _ _ _⟩ ?_
  rintro ⟨i, es⟩ w1 ⟨hi, h1, hm1, hn1, k1⟩
  dsimp only at hi h1 hm1 hn1 k1 ⊢
  have hlen : es.length ≤ i := by
    have := Tj.nodup_le i (Hs' es) hn1 fun x hx => ((hm1 x).1 hx).1
    simpa [Hs'] using this
  by_cases hil : i < n
  · repeat (first | refine x_seq ?_ | refine x_reg ?_ | refine x_nil ?_ | refine x_then_n ?_ | refine rl_q rfl (q_move rfl) ?_ | refine rl_q rfl (q_nil rfl) ?_ | refine rl_q rfl (q_fa0 (by exact Fo.out) rfl) ?_ | refine rl_q rfl (q_fak (by exact Fo.out) rfl) ?_ | refine rl_q rfl (q_fieldAddr (by exact Fo.out) rfl) ?_ | refine rl_q rfl (q_assign rfl) ?_ | refine rl_q rfl (q_len rfl (by kernel_rfl) rfl) ?_ | refine rl_q rfl (q_extract rfl rfl) ?_ | refine rl_q rfl (q_addi _ rfl rfl rfl (by omega) (by omega)) ?_ | refine rl_q rfl (q_subi _ rfl rfl rfl (by omega) (by omega)) ?_ | refine rl_q rfl (q_muli _ rfl rfl rfl (by omega) (by omega)) ?_ | refine rl_q rfl (q_pick_t rfl rfl) ?_ | refine rl_q rfl (q_pick_f rfl rfl) ?_ | refine rl_q rfl (q_lt_t rfl rfl (by omega)) ?_ | refine rl_q rfl (q_lt_f rfl rfl (by omega)) ?_ | refine rl_q rfl (q_le_t rfl rfl (by omega)) ?_ | refine rl_q rfl (q_le_f rfl rfl (by omega)) ?_ | refine rl_q rfl (q_gt_t rfl rfl (by omega)) ?_ | refine rl_q rfl (q_gt_f rfl rfl (by omega)) ?_ | refine rl_q rfl (q_ge_t rfl rfl (by omega)) ?_ | refine rl_q rfl (q_ge_f rfl rfl (by omega)) ?_ | refine rl_q rfl (q_eq_t rfl rfl (by omega)) ?_ | refine rl_q rfl (q_eq_f rfl rfl (by omega)) ?_ | refine rl_q rfl (q_ne_t rfl rfl (by omega)) ?_ | refine rl_q rfl (q_ne_f rfl rfl (by omega)) ?_ | refine rl_q rfl (q_lt rfl rfl) ?_ | refine rl_q rfl (q_le rfl rfl) ?_ | refine rl_q rfl (q_gt rfl rfl) ?_ | refine rl_q rfl (q_ge rfl rfl) ?_ | refine rl_q rfl (q_eq rfl rfl) ?_ | refine rl_q rfl (q_ne rfl rfl) ?_ | refine rl_q rfl (q_not rfl) ?_ | refine rl_q rfl (q_nilf rfl) ?_ | refine rl_q rfl (q_makeFunc rfl rfl) ?_ | refine rl_q rfl (q_field (by exact Fo.out) (by kernel_rfl) rfl rfl) ?_ | refine rl_q rfl (q_load (by exact Tk.out) rfl (c1 (by assumption) (by rfl))) ?_ | refine rl_q rfl (q_loadB (by exact Tk.out) rfl (by assumption) (by rfl)) ?_ | refine rl_q rfl (q_load (by exact Tk.out) rfl (c1_cell (by assumption))) ?_ | refine x_blk_n ?_ | refine x_block ?_ | refine x_skip ?_ | refine x_label ?_ | refine x_ret ?_ | refine x_exit ?_ | refine x_then_r ?_ | refine x_then_e ?_ | refine x_blk_e ?_ | refine x_blk_r ?_ | refine x_blk_o rfl ?_ | refine x_cond_t rfl ?_ | refine x_cond_f rfl ?_ | refine rl_go rfl rfl ?_ | refine rl_no rfl rfl rfl rfl ?_)
    refine rl_q rfl (q_index1 (by exact Es.out) rfl rfl rfl hil) ?_
    refine rl_q rfl (q_load (v := .int .i64 (cw (Tj.crosses N ee comp) i : Int)) (by exact Tk.out) rfl (c1_cell (cell_of h1.hw (rowA_get hil)))) ?_
    by_cases h0 : cw (Tj.crosses N ee comp) i = 0
    · repeat (first | refine x_seq ?_ | refine x_reg ?_ | refine x_nil ?_ | refine x_then_n ?_ | refine rl_q rfl (q_move rfl) ?_ | refine rl_q rfl (q_nil rfl) ?_ | refine rl_q rfl (q_fa0 (by exact Fo.out) rfl) ?_ | refine rl_q rfl (q_fak (by exact Fo.out) rfl) ?_ | refine rl_q rfl (q_fieldAddr (by exact Fo.out) rfl) ?_ | refine rl_q rfl (q_assign rfl) ?_ | refine rl_q rfl (q_len rfl (by kernel_rfl) rfl) ?_ | refine rl_q rfl (q_extract rfl rfl) ?_ | refine rl_q rfl (q_addi _ rfl rfl rfl (by omega) (by omega)) ?_ | refine rl_q rfl (q_subi _ rfl rfl rfl (by omega) (by omega)) ?_ | refine rl_q rfl (q_muli _ rfl rfl rfl (by omega) (by omega)) ?_ | refine rl_q rfl (q_pick_t rfl rfl) ?_ | refine rl_q rfl (q_pick_f rfl rfl) ?_ | refine rl_q rfl (q_lt_t rfl rfl (by omega)) ?_ | refine rl_q rfl (q_lt_f rfl rfl (by omega)) ?_ | refine rl_q rfl (q_le_t rfl rfl (by omega)) ?_ | refine rl_q rfl (q_le_f rfl rfl (by omega)) ?_ | refine rl_q rfl (q_gt_t rfl rfl (by omega)) ?_ | refine rl_q rfl (q_gt_f rfl rfl (by omega)) ?_ | refine rl_q rfl (q_ge_t rfl rfl (by omega)) ?_ | refine rl_q rfl (q_ge_f rfl rfl (by omega)) ?_ | refine rl_q rfl (q_eq_t rfl rfl (by omega)) ?_ | refine rl_q rfl (q_eq_f rfl rfl (by omega)) ?_ | refine rl_q rfl (q_ne_t rfl rfl (by omega)) ?_ | refine rl_q rfl (q_ne_f rfl rfl (by omega)) ?_ | refine rl_q rfl (q_lt rfl rfl) ?_ | refine rl_q rfl (q_le rfl rfl) ?_ | refine rl_q rfl (q_gt rfl rfl) ?_ | refine rl_q rfl (q_ge rfl rfl) ?_ | refine rl_q rfl (q_eq rfl rfl) ?_ | refine rl_q rfl (q_ne rfl rfl) ?_ | refine rl_q rfl (q_not rfl) ?_ | refine rl_q rfl (q_nilf rfl) ?_ | refine rl_q rfl (q_makeFunc rfl rfl) ?_ | refine rl_q rfl (q_field (by exact Fo.out) (by kernel_rfl) rfl rfl) ?_ | refine rl_q rfl (q_load (by exact Tk.out) rfl (c1 (by assumption) (by rfl))) ?_ | refine rl_q rfl (q_loadB (by exact Tk.out) rfl (by assumption) (by rfl)) ?_ | refine rl_q rfl (q_load (by exact Tk.out) rfl (c1_cell (by assumption))) ?_ | refine x_blk_n ?_ | refine x_block ?_ | refine x_skip ?_ | refine x_label ?_ | refine x_ret ?_ | refine x_exit ?_ | refine x_then_r ?_ | refine x_then_e ?_ | refine x_blk_e ?_ | refine x_blk_r ?_ | refine x_blk_o rfl ?_ | refine x_cond_t rfl ?_ | refine x_cond_f rfl ?_ | refine rl_go rfl rfl ?_ | refine rl_no rfl rfl rfl rfl ?_)
      refine rl_e rfl (e_call (by exact Hs.out) rfl (rt (push_k h1 hP hil (by omega) (by omega)) fun v w2 hv => ?_))
      obtain ⟨rfl, es2, h2, hp2, k2⟩ := hv
      have hl2 : es2.length = es.length + 1 := by have := hp2.length_eq; simpa [Hs'] using this
      repeat (first | refine x_seq ?_ | refine x_reg ?_ | refine x_nil ?_ | refine x_then_n ?_ | refine rl_q rfl (q_move rfl) ?_ | refine rl_q rfl (q_nil rfl) ?_ | refine rl_q rfl (q_fa0 (by exact Fo.out) rfl) ?_ | refine rl_q rfl (q_fak (by exact Fo.out) rfl) ?_ | refine rl_q rfl (q_fieldAddr (by exact Fo.out) rfl) ?_ | refine rl_q rfl (q_assign rfl) ?_ | refine rl_q rfl (q_len rfl (by kernel_rfl) rfl) ?_ | refine rl_q rfl (q_extract rfl rfl) ?_ | refine rl_q rfl (q_addi _ rfl rfl rfl (by omega) (by omega)) ?_ | refine rl_q rfl (q_subi _ rfl rfl rfl (by omega) (by omega)) ?_ | refine rl_q rfl (q_muli _ rfl rfl rfl (by omega) (by omega)) ?_ | refine rl_q rfl (q_pick_t rfl rfl) ?_ | refine rl_q rfl (q_pick_f rfl rfl) ?_ | refine rl_q rfl (q_lt_t rfl rfl (by omega)) ?_ | refine rl_q rfl (q_lt_f rfl rfl (by omega)) ?_ | refine rl_q rfl (q_le_t rfl rfl (by omega)) ?_ | refine rl_q rfl (q_le_f rfl rfl (by omega)) ?_ | refine rl_q rfl (q_gt_t rfl rfl (by omega)) ?_ | refine rl_q rfl (q_gt_f rfl rfl (by omega)) ?_ | refine rl_q rfl (q_ge_t rfl rfl (by omega)) ?_ | refine rl_q rfl (q_ge_f rfl rfl (by omega)) ?_ | refine rl_q rfl (q_eq_t rfl rfl (by omega)) ?_ | refine rl_q rfl (q_eq_f rfl rfl (by omega)) ?_ | refine rl_q rfl (q_ne_t rfl rfl (by omega)) ?_ | refine rl_q rfl (q_ne_f rfl rfl (by omega)) ?_ | refine rl_q rfl (q_lt rfl rfl) ?_ | refine rl_q rfl (q_le rfl rfl) ?_ | refine rl_q rfl (q_gt rfl rfl) ?_ | refine rl_q rfl (q_ge rfl rfl) ?_ | refine rl_q rfl (q_eq rfl rfl) ?_ | refine rl_q rfl (q_ne rfl rfl) ?_ | refine rl_q rfl (q_not rfl) ?_ | refine rl_q rfl (q_nilf rfl) ?_ | refine rl_q rfl (q_makeFunc rfl rfl) ?_ | refine rl_q rfl (q_field (by exact Fo.out) (by kernel_rfl) rfl rfl) ?_ | refine rl_q rfl (q_load (by exact Tk.out) rfl (c1 (by assumption) (by rfl))) ?_ | refine rl_q rfl (q_loadB (by exact Tk.out) rfl (by assumption) (by rfl)) ?_ | refine rl_q rfl (q_load (by exact Tk.out) rfl (c1_cell (by assumption))) ?_ | refine x_blk_n ?_ | refine x_block ?_ | refine x_skip ?_ | refine x_label ?_ | refine x_ret ?_ | refine x_exit ?_ | refine x_then_r ?_ | refine x_then_e ?_ | refine x_blk_e ?_ | refine x_blk_r ?_ | refine x_blk_o rfl ?_ | refine x_cond_t rfl ?_ | refine x_cond_f rfl ?_ | refine rl_go rfl rfl ?_ | refine rl_no rfl rfl rfl rfl ?_)
      refine x_again (i + 1, es2) (And.intro rfl (And.intro rfl (And.intro rfl (And.intro rfl (And.intro rfl (And.intro rfl trivial)))))) ⟨hil, by rw [hl2]; exact h2, fun c => ?_, ?_, k1.trans k2⟩ (by dsimp only; omega)
      · rw [hp2.mem_iff, List.mem_append, hm1 c, List.mem_singleton]
        dsimp only
        constructor
        · rintro (⟨h3, h4⟩ | rfl)
          · exact ⟨by omega, h4⟩
          · exact ⟨by omega, h0⟩
        · rintro ⟨h3, h4⟩
          by_cases e : c = i
          · exact .inr e
          · exact .inl ⟨by omega, h4⟩
      · rw [hp2.nodup_iff, List.nodup_append]
        exact ⟨hn1, by simp, fun a ha b hb => by
          obtain rfl : b = i := by simpa using hb
          rintro rfl
          have := ((hm1 a).1 ha).1
          omega⟩
    · repeat (first | refine x_seq ?_ | refine x_reg ?_ | refine x_nil ?_ | refine x_then_n ?_ | refine rl_q rfl (q_move rfl) ?_ | refine rl_q rfl (q_nil rfl) ?_ | refine rl_q rfl (q_fa0 (by exact Fo.out) rfl) ?_ | refine rl_q rfl (q_fak (by exact Fo.out) rfl) ?_ | refine rl_q rfl (q_fieldAddr (by exact Fo.out) rfl) ?_ | refine rl_q rfl (q_assign rfl) ?_ | refine rl_q rfl (q_len rfl (by kernel_rfl) rfl) ?_ | refine rl_q rfl (q_extract rfl rfl) ?_ | refine rl_q rfl (q_addi _ rfl rfl rfl (by omega) (by omega)) ?_ | refine rl_q rfl (q_subi _ rfl rfl rfl (by omega) (by omega)) ?_ | refine rl_q rfl (q_muli _ rfl rfl rfl (by omega) (by omega)) ?_ | refine rl_q rfl (q_pick_t rfl rfl) ?_ | refine rl_q rfl (q_pick_f rfl rfl) ?_ | refine rl_q rfl (q_lt_t rfl rfl (by omega)) ?_ | refine rl_q rfl (q_lt_f rfl rfl (by omega)) ?_ | refine rl_q rfl (q_le_t rfl rfl (by omega)) ?_ | refine rl_q rfl (q_le_f rfl rfl (by omega)) ?_ | refine rl_q rfl (q_gt_t rfl rfl (by omega)) ?_ | refine rl_q rfl (q_gt_f rfl rfl (by omega)) ?_ | refine rl_q rfl (q_ge_t rfl rfl (by omega)) ?_ | refine rl_q rfl (q_ge_f rfl rfl (by omega)) ?_ | refine rl_q rfl (q_eq_t rfl rfl (by omega)) ?_ | refine rl_q rfl (q_eq_f rfl rfl (by omega)) ?_ | refine rl_q rfl (q_ne_t rfl rfl (by omega)) ?_ | refine rl_q rfl (q_ne_f rfl rfl (by omega)) ?_ | refine rl_q rfl (q_lt rfl rfl) ?_ | refine rl_q rfl (q_le rfl rfl) ?_ | refine rl_q rfl (q_gt rfl rfl) ?_ | refine rl_q rfl (q_ge rfl rfl) ?_ | refine rl_q rfl (q_eq rfl rfl) ?_ | refine rl_q rfl (q_ne rfl rfl) ?_ | refine rl_q rfl (q_not rfl) ?_ | refine rl_q rfl (q_nilf rfl) ?_ | refine rl_q rfl (q_makeFunc rfl rfl) ?_ | refine rl_q rfl (q_field (by exact Fo.out) (by kernel_rfl) rfl rfl) ?_ | refine rl_q rfl (q_load (by exact Tk.out) rfl (c1 (by assumption) (by rfl))) ?_ | refine rl_q rfl (q_loadB (by exact Tk.out) rfl (by assumption) (by rfl)) ?_ | refine rl_q rfl (q_load (by exact Tk.out) rfl (c1_cell (by assumption))) ?_ | refine x_blk_n ?_ | refine x_block ?_ | refine x_skip ?_ | refine x_label ?_ | refine x_ret ?_ | refine x_exit ?_ | refine x_then_r ?_ | refine x_then_e ?_ | refine x_blk_e ?_ | refine x_blk_r ?_ | refine x_blk_o rfl ?_ | refine x_cond_t rfl ?_ | refine x_cond_f rfl ?_ | refine rl_go rfl rfl ?_ | refine rl_no rfl rfl rfl rfl ?_)
      refine x_again (i + 1, es) (And.intro rfl (And.intro rfl (And.intro rfl (And.intro rfl (And.intro rfl (And.intro rfl trivial)))))) ⟨hil, h1, fun c => ?_, hn1, k1⟩ (by dsimp only; omega)
      rw [hm1 c]
      dsimp only
      constructor
      · rintro ⟨h3, h4⟩; exact ⟨by omega, h4⟩
      · rintro ⟨h3, h4⟩
        refine ⟨?_, h4⟩
        by_cases e : c = i
        · subst e; exact absurd h4 h0
        · omega
  · obtain rfl : i = n := by omega
    repeat (first | refine x_seq ?_ | refine x_reg ?_ | refine x_nil ?_ | refine x_then_n ?_ | refine rl_q rfl (q_move rfl) ?_ | refine rl_q rfl (q_nil rfl) ?_ | refine rl_q rfl (q_fa0 (by exact Fo.out) rfl) ?_ | refine rl_q rfl (q_fak (by exact Fo.out) rfl) ?_ | refine rl_q rfl (q_fieldAddr (by exact Fo.out) rfl) ?_ | refine rl_q rfl (q_assign rfl) ?_ | refine rl_q rfl (q_len rfl (by kernel_rfl) rfl) ?_ | refine rl_q rfl (q_extract rfl rfl) ?_ | refine rl_q rfl (q_addi _ rfl rfl rfl (by omega) (by omega)) ?_ | refine rl_q rfl (q_subi _ rfl rfl rfl (by omega) (by omega)) ?_ | refine rl_q rfl (q_muli _ rfl rfl rfl (by omega) (by omega)) ?_ | refine rl_q rfl (q_pick_t rfl rfl) ?_ | refine rl_q rfl (q_pick_f rfl rfl) ?_ | refine rl_q rfl (q_lt_t rfl rfl (by omega)) ?_ | refine rl_q rfl (q_lt_f rfl rfl (by omega)) ?_ | refine rl_q rfl (q_le_t rfl rfl (by omega)) ?_ | refine rl_q rfl (q_le_f rfl rfl (by omega)) ?_ | refine rl_q rfl (q_gt_t rfl rfl (by omega)) ?_ | refine rl_q rfl (q_gt_f rfl rfl (by omega)) ?_ | refine rl_q rfl (q_ge_t rfl rfl (by omega)) ?_ | refine rl_q rfl (q_ge_f rfl rfl (by omega)) ?_ | refine rl_q rfl (q_eq_t rfl rfl (by omega)) ?_ | refine rl_q rfl (q_eq_f rfl rfl (by omega)) ?_ | refine rl_q rfl (q_ne_t rfl rfl (by omega)) ?_ | refine rl_q rfl (q_ne_f rfl rfl (by omega)) ?_ | refine rl_q rfl (q_lt rfl rfl) ?_ | refine rl_q rfl (q_le rfl rfl) ?_ | refine rl_q rfl (q_gt rfl rfl) ?_ | refine rl_q rfl (q_ge rfl rfl) ?_ | refine rl_q rfl (q_eq rfl rfl) ?_ | refine rl_q rfl (q_ne rfl rfl) ?_ | refine rl_q rfl (q_not rfl) ?_ | refine rl_q rfl (q_nilf rfl) ?_ | refine rl_q rfl (q_makeFunc rfl rfl) ?_ | refine rl_q rfl (q_field (by exact Fo.out) (by kernel_rfl) rfl rfl) ?_ | refine rl_q rfl (q_load (by exact Tk.out) rfl (c1 (by assumption) (by rfl))) ?_ | refine rl_q rfl (q_loadB (by exact Tk.out) rfl (by assumption) (by rfl)) ?_ | refine rl_q rfl (q_load (by exact Tk.out) rfl (c1_cell (by assumption))) ?_ | refine x_blk_n ?_ | refine x_block ?_ | refine x_skip ?_ | refine x_label ?_ | refine x_ret ?_ | refine x_exit ?_ | refine x_then_r ?_ | refine x_then_e ?_ | refine x_blk_e ?_ | refine x_blk_r ?_ | refine x_blk_o rfl ?_ | refine x_cond_t rfl ?_ | refine x_cond_f rfl ?_ | refine rl_go rfl rfl ?_ | refine rl_no rfl rfl rfl rfl ?_)
    refine F.sub ?_ (rest es w1 h1 (.init (fun d _ => (wt_nil _ d).symm) hm1 hn1) k1)
    exact (And.intro rfl (And.intro rfl (And.intro rfl (And.intro rfl trivial))))
end Go.Proofs.YtnjjjfffppllfaaX.G
