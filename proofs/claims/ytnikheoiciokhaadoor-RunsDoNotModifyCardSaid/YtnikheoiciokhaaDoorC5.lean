/-
  CONTRACTS OF GO FUNCTIONS (printed by gen.py, own work).
-/
import Derived.Test.YtnikheoiciokhaaDoorC2
import Derived.Test.YtnikheoiciokhaaDoorSxG
namespace Go.Proofs.YtnikheoiciokhaaDoor
open Go Go.Sx
set_option linter.unusedVariables false
set_option maxRecDepth 20000
set_option linter.unusedSimpArgs false

theorem c_trap_turn (c : Core) (k : FuncId) (bf : BitVec 32 → BitVec 32) (hb : ∀ x, CtV Tryd.prog k [u32 x] (u32 (bf x))) (hg : goB Tryd.prog k = true) (pc : BitVec 32) : CtV Tryd.prog 75 [.agg (encCore c), .func (.func k) #[] #[], u32 pc] (.agg (encCore (G.turn c bf pc))) := by
  intro h
  refine ctr_enter (n := 17) [.agg (encCore c), .func (.func k) #[] #[], u32 pc] Tryd.func75 rfl rfl rfl fun w0 => ?_
  refine xp_seq ?_
  refine xp_region ?_
  refine wl_s rfl (so_boxA rfl fun b3 => ?_)
  refine wl_s rfl (so_allocA zr37 fun b6 => ?_)
  refine wl_nil ?_
  refine wq_then ?_
  refine xp_seq ?_
  refine xp_region ?_
  refine wl_ro (mv_f rfl) rfl ?_
  refine wl_ro (ro_fieldAddrC 17 fb37_2 rfl rfl) rfl ?_
  refine wl_ro (ro_indexAddr_c 0 17 ar23 rfl rfl rfl rfl) rfl ?_
  refine wl_ro (ro_load sc22 rfl (by repeat (first | exact .head | apply Sel.tail)) (get_Core_csr_at _ 0 (by decide))) rfl ?_
  refine wl_s rfl (so_callFV rfl (hb _) hg (by rfl) ?_)
  refine wl_ro (ro_fieldAddrC 17 fb37_2 rfl rfl) rfl ?_
  refine wl_ro (ro_indexAddr_c 0 17 ar23 rfl rfl rfl rfl) rfl ?_
  refine wl_s0 (so_store sc22 rfl rfl rfl (by repeat (first | exact .head | apply Sel.tail)) (by rfl) (set_Core_csr_at _ 0 (by decide) _) ?_)
  refine wl_nil ?_
  refine wq_then ?_
  refine xp_seq ?_
  refine xp_region ?_
  refine wl_ro (mv_32 rfl) rfl ?_
  refine wl_ro (ro_fieldAddrC 16 fb37_1 rfl rfl) rfl ?_
  refine wl_s0 (so_store sc22 rfl rfl rfl (by repeat (first | exact .head | apply Sel.tail)) (by rfl) (set_Core_pc _ _) ?_)
  refine wl_nil ?_
  refine wq_then ?_
  refine xp_seq ?_
  refine xp_region ?_
  refine wl_ro (ro_loadA ag37 rfl (by repeat (first | exact .head | apply Sel.tail)) (by rfl) (whole_Core _)) rfl ?_
  refine wl_s0 (so_storeA ag37 rfl rfl rfl (ones_Core _) (by repeat (first | exact .head | apply Sel.tail)) rfl ?_)
  refine wl_nil ?_
  refine wq_then ?_
  refine xp_ret ?_
  refine fq_retV rfl (.cons (rv_cellA ag37 rfl (by repeat (first | exact .head | apply Sel.tail)) rfl) .nil) _ rfl ?_
  rfl
theorem c_trap_Enter (c : Core) (t : Trap) : CtV Tryd.prog 64 [.agg (encCore c), .agg (encTrap t)] (.agg (encCore (G.trapEnter c t))) := by
  intro h
  refine ctr_enter (n := 27) [.agg (encCore c), .agg (encTrap t)] Tryd.func64 rfl rfl rfl fun w0 => ?_
  refine xp_seq ?_
  refine xp_region ?_
  refine wl_s rfl (so_boxA rfl fun b2 => ?_)
  refine wl_s rfl (so_boxA rfl fun b3 => ?_)
  refine wl_s rfl (so_allocA zr37 fun b4 => ?_)
  refine wl_nil ?_
  refine wq_then ?_
  refine xp_seq ?_
  refine xp_seq ?_
  refine xp_region ?_
  refine wl_ro (ro_fieldAddrC 0 fb65_0 rfl rfl) rfl ?_
  refine wl_ro (ro_load sc3 rfl (by repeat (first | exact .head | apply Sel.tail)) (get_Trap_cause _)) rfl ?_
  refine wl_ro (roI_eql rfl rfl) rfl ?_
  refine wl_nil ?_
  refine wq_then ?_
  refine xp_cond _ rfl (fun c1 => ?_) (fun c1 => ?_)
  ·
    try simp only [decide_eq_true_eq, decide_eq_false_iff_not] at c1
    refine xp_seq ?_
    refine xp_region ?_
    refine wl_ro (ro_loadA ag37 rfl (by repeat (first | exact .head | apply Sel.tail)) (by rfl) (whole_Core _)) rfl ?_
    refine wl_s0 (so_storeA ag37 rfl rfl rfl (ones_Core _) (by repeat (first | exact .head | apply Sel.tail)) rfl ?_)
    refine wl_nil ?_
    refine wq_then ?_
    refine xp_ret ?_
    refine wq_then_ret ?_
    refine fq_retV rfl (.cons (rv_cellA ag37 rfl (by repeat (first | exact .head | apply Sel.tail)) rfl) .nil) _ rfl ?_
    first | (simp only [G.trapEnter, if_pos c1]; rfl) | (simp only [G.trapEnter, if_neg c1]; rfl)
  ·
    try simp only [decide_eq_true_eq, decide_eq_false_iff_not] at c1
    refine xp_skip ?_
    refine wq_then ?_
    refine xp_seq ?_
    refine xp_draw [true, true, false] [9, 12, 15] mixed ?_
    refine wd_ro 0 rfl (by kernel_rfl) (ro_fieldAddrC 16 fb37_1 rfl rfl) rfl ?_
    refine wd_roW2 1 rfl (by kernel_rfl) (by kernel_rfl) (ro_load sc22 rfl (by repeat (first | exact .head | apply Sel.tail)) (get_Core_pc _)) rfl ?_
    refine wd_ro 2 rfl (by kernel_rfl) (ro_fieldAddrC 0 fb65_0 rfl rfl) rfl ?_
    refine wd_ro 3 rfl (by kernel_rfl) (ro_load sc3 rfl (by repeat (first | exact .head | apply Sel.tail)) (get_Trap_cause _)) rfl ?_
    refine wd_ro 4 rfl (by kernel_rfl) (cv_i_32 us3 ik22 rfl) rfl ?_
    refine wd_ro 5 rfl (by kernel_rfl) (ro_fieldAddrC 1 fb65_1 rfl rfl) rfl ?_
    refine wd_ro 6 rfl (by kernel_rfl) (ro_load sc22 rfl (by repeat (first | exact .head | apply Sel.tail)) (get_Trap_tval _)) rfl ?_
    refine wd_ro 7 rfl (by kernel_rfl) (ro_fieldAddrC 17 fb37_2 rfl rfl) rfl ?_
    refine wd_ro 8 rfl (by kernel_rfl) (ro_indexAddr_c 1 18 ar23 rfl rfl rfl rfl) rfl ?_
    refine wd_ro 10 rfl (by kernel_rfl) (ro_fieldAddrC 17 fb37_2 rfl rfl) rfl ?_
    refine wd_ro 13 rfl (by kernel_rfl) (ro_fieldAddrC 17 fb37_2 rfl rfl) rfl ?_
    refine wd_so0 9 rfl (by kernel_rfl) (so_store sc22 rfl rfl rfl (by repeat (first | exact .head | apply Sel.tail)) (by rfl) (set_Core_csr_at _ 1 (by decide) _) ⟨⟨(by first | exact PH.le_refl _ | assumption | exact PH.le_trans (by assumption) (by assumption)), (inc_of (by repeat' (first | exact List.nil_sublist _ | apply List.Sublist.cons_cons | apply List.Sublist.cons))), .inl (by kernel_rfl)⟩, ?_⟩)
    refine wd_ro 11 rfl (by kernel_rfl) (ro_indexAddr_c 2 19 ar23 rfl rfl rfl rfl) rfl ?_
    refine wd_so0 12 rfl (by kernel_rfl) (so_store sc22 rfl rfl rfl (by repeat (first | exact .head | apply Sel.tail)) (by rfl) (set_Core_csr_at _ 2 (by decide) _) ⟨⟨(by first | exact PH.le_refl _ | assumption | exact PH.le_trans (by assumption) (by assumption)), (inc_of (by repeat' (first | exact List.nil_sublist _ | apply List.Sublist.cons_cons | apply List.Sublist.cons))), .inl (by kernel_rfl)⟩, ?_⟩)
    refine wd_ro 14 rfl (by kernel_rfl) (ro_indexAddr_c 3 20 ar23 rfl rfl rfl rfl) rfl ?_
    refine wd_so0 15 rfl (by kernel_rfl) (so_store sc22 rfl rfl rfl (by repeat (first | exact .head | apply Sel.tail)) (by rfl) (set_Core_csr_at _ 3 (by decide) _) ⟨⟨(by first | exact PH.le_refl _ | assumption | exact PH.le_trans (by assumption) (by assumption)), (inc_of (by repeat' (first | exact List.nil_sublist _ | apply List.Sublist.cons_cons | apply List.Sublist.cons))), .inl (by kernel_rfl)⟩, ?_⟩)
    refine wd_done (by kernel_rfl) ?_
    refine wq_then ?_
    refine xp_seq ?_
    refine xp_region ?_
    refine wl_ro (ro_loadA ag37 rfl (by repeat (first | exact .head | apply Sel.tail)) (by rfl) (whole_Core _)) rfl ?_
    refine wl_ro (ro_fieldAddrC 17 fb37_2 rfl rfl) rfl ?_
    refine wl_ro (ro_indexAddr_c 4 21 ar23 rfl rfl rfl rfl) rfl ?_
    refine wl_ro (ro_load sc22 rfl (by repeat (first | exact .head | apply Sel.tail)) (get_Core_csr_at _ 4 (by decide))) rfl ?_
    refine wl_s rfl (so_callV (c_trap_turn _ 76 G.senter (fun x => c_trap_status_enter x) gb76 _) gb75 (by rfl) ?_)
    refine wl_s0 (so_storeA ag37 rfl rfl rfl (ones_Core _) (by repeat (first | exact .head | apply Sel.tail)) rfl ?_)
    refine wl_nil ?_
    refine wq_then ?_
    refine xp_ret ?_
    refine fq_retV rfl (.cons (rv_cellA ag37 rfl (by repeat (first | exact .head | apply Sel.tail)) rfl) .nil) _ rfl ?_
    first | (simp only [G.trapEnter, if_pos c1]; rfl) | (simp only [G.trapEnter, if_neg c1]; rfl)
theorem c_trap_Return (c : Core) : CtV Tryd.prog 78 [.agg (encCore c)] (.agg (encCore (G.trapReturn c))) := by
  intro h
  refine ctr_enter (n := 8) [.agg (encCore c)] Tryd.func78 rfl rfl rfl fun w0 => ?_
  refine xp_seq ?_
  refine xp_region ?_
  refine wl_s rfl (so_boxA rfl fun b1 => ?_)
  refine wl_s rfl (so_allocA zr37 fun b2 => ?_)
  refine wl_nil ?_
  refine wq_then ?_
  refine xp_seq ?_
  refine xp_region ?_
  refine wl_ro (ro_loadA ag37 rfl (by repeat (first | exact .head | apply Sel.tail)) (by rfl) (whole_Core _)) rfl ?_
  refine wl_ro (ro_fieldAddrC 17 fb37_2 rfl rfl) rfl ?_
  refine wl_ro (ro_indexAddr_c 1 18 ar23 rfl rfl rfl rfl) rfl ?_
  refine wl_ro (ro_load sc22 rfl (by repeat (first | exact .head | apply Sel.tail)) (get_Core_csr_at _ 1 (by decide))) rfl ?_
  refine wl_s rfl (so_callV (c_trap_turn _ 96 G.sback (fun x => c_trap_status_back x) gb96 _) gb75 (by rfl) ?_)
  refine wl_s0 (so_storeA ag37 rfl rfl rfl (ones_Core _) (by repeat (first | exact .head | apply Sel.tail)) rfl ?_)
  refine wl_nil ?_
  refine wq_then ?_
  refine xp_ret ?_
  refine fq_retV rfl (.cons (rv_cellA ag37 rfl (by repeat (first | exact .head | apply Sel.tail)) rfl) .nil) _ rfl ?_
  rfl
theorem c_exec_Advance (c : Core) (x : BitVec 32) : CtV Tryd.prog 80 [.agg (encCore c), u32 x] (.agg (encCore (G.advance c x))) := by
  intro h
  refine ctr_enter (n := 11) [.agg (encCore c), u32 x] Tryd.func80 rfl rfl rfl fun w0 => ?_
  refine xp_seq ?_
  refine xp_region ?_
  refine wl_s rfl (so_boxA rfl fun b2 => ?_)
  refine wl_s rfl (so_allocA zr37 fun b4 => ?_)
  refine wl_nil ?_
  refine wq_then ?_
  refine xp_seq ?_
  refine xp_region ?_
  refine wl_ro (ro_fieldAddrC 16 fb37_1 rfl rfl) rfl ?_
  refine wl_ro (ro_load sc22 rfl (by repeat (first | exact .head | apply Sel.tail)) (get_Core_pc _)) rfl ?_
  refine wl_ro (mv_32 rfl) rfl ?_
  refine wl_ro (ro32_add rfl rfl) rfl ?_
  refine wl_ro (ro_fieldAddrC 16 fb37_1 rfl rfl) rfl ?_
  refine wl_s0 (so_store sc22 rfl rfl rfl (by repeat (first | exact .head | apply Sel.tail)) (by rfl) (set_Core_pc _ _) ?_)
  refine wl_nil ?_
  refine wq_then ?_
  refine xp_seq ?_
  refine xp_region ?_
  refine wl_ro (ro_loadA ag37 rfl (by repeat (first | exact .head | apply Sel.tail)) (by rfl) (whole_Core _)) rfl ?_
  refine wl_s0 (so_storeA ag37 rfl rfl rfl (ones_Core _) (by repeat (first | exact .head | apply Sel.tail)) rfl ?_)
  refine wl_nil ?_
  refine wq_then ?_
  refine xp_ret ?_
  refine fq_retV rfl (.cons (rv_cellA ag37 rfl (by repeat (first | exact .head | apply Sel.tail)) rfl) .nil) _ rfl ?_
  rfl
theorem c_mem_InRange (len : Int) (a : BitVec 32) (n : Int) : CtV Tryd.prog 68 [int len, u32 a, int n] (.bool (G.inRange len a n)) := by
  intro h
  refine ctr_enter (n := 15) [int len, u32 a, int n] Tryd.func68 rfl rfl rfl fun w0 => ?_
  refine xp_seq ?_
  refine xp_region ?_
  refine wl_ro (as_b rfl) rfl ?_
  refine wl_nil ?_
  refine wq_then ?_
  refine xp_seq ?_
  refine xp_region ?_
  refine wl_ro (mv_32 rfl) rfl ?_
  refine wl_ro (cv_32_64 us22 ik24 rfl) rfl ?_
  refine wl_ro (mv_i rfl) rfl ?_
  refine wl_ro (cv_i_64 us3 ik24 rfl) rfl ?_
  refine wl_ro (ro64_add rfl rfl) rfl ?_
  refine wl_ro (mv_i rfl) rfl ?_
  refine wl_ro (cv_i_64 us3 ik24 rfl) rfl ?_
  refine wl_ro (ro64_leq rfl rfl) rfl ?_
  refine wl_ro (as_b rfl) rfl ?_
  refine wl_nil ?_
  refine wq_then ?_
  refine xp_ret ?_
  refine fq_retV rfl (.cons (rv_b rfl) .nil) _ rfl ?_
  rfl
theorem c_slices_Clone_byte_byte (s : SV) (xs : List (BitVec 8)) (hxs : xs.length ≤ 1099511627776) (h : PH) (hB : Bytes h s xs) : CtN Tryd.prog 116 #[sv s] h fun v h' N => h' = h ∧ Copied xs v N := by
  refine ctn_enter (n := 8) [sv s] Tryd.func116 rfl rfl rfl fun w0 => ?_
  refine xp_seq ?_
  refine xp_region ?_
  refine wl_ro (as_s rfl) rfl ?_
  refine wl_nil ?_
  refine wq_then ?_
  refine xp_seq ?_
  refine xp_seq ?_
  refine xp_region ?_
  refine wl_ro (mv_s rfl) rfl ?_
  refine wl_ro (ro_eqNil (e := 5) (by kernel_rfl) rfl rfl) rfl ?_
  refine wl_nil ?_
  refine wq_then ?_
  refine xp_cond _ rfl (fun c1 => ?_) (fun c1 => ?_)
  ·
    refine xp_seq ?_
    refine xp_region ?_
    refine wl_ro (as_s rfl) rfl ?_
    refine wl_nil ?_
    refine wq_then ?_
    refine xp_ret ?_
    refine wq_then_ret ?_
    refine' fq_retN _ rfl (.cons (rv_s rfl) .nil) rfl ?_ ?_
    rotate_right
    · exact ⟨rfl, .inl ⟨hB.empty c1, rfl, rfl⟩⟩
    · repeat (first | exact List.nil_sublist _ | apply List.Sublist.cons_cons | apply List.Sublist.cons)
  ·
    refine xp_skip ?_
    refine wq_then ?_
    refine xp_seq ?_
    rcases Nat.eq_zero_or_pos xs.length with hz | hz
    ·
      refine xp_region ?_
      refine wl_s rfl (so_buildSlice0 se38 fun b5 => ?_)
      refine wl_ro (mv_s rfl) rfl ?_
      refine wl_s rfl (so_append_zero (vy := sv s) se38 rfl rfl (fun w => by rw [len_sv hB, hz]) (Nat.le_refl _) (rd_nil hB hz) ?_)
      try rw [Array.empty_append]
      refine wl_ro (as_s rfl) rfl ?_
      refine wl_nil ?_
      refine wq_then ?_
      refine xp_ret ?_
      refine' fq_retN _ rfl (.cons (rv_s rfl) .nil) rfl ?_ ?_
      rotate_right
      · obtain rfl := List.length_eq_zero_iff.1 hz; exact ⟨rfl, .inr ⟨b5, 0, #[], 5, rfl, Nat.le_refl _, rfl⟩⟩
      · repeat (first | exact List.nil_sublist _ | apply List.Sublist.cons_cons | apply List.Sublist.cons)
    ·
      refine xp_region ?_
      refine wl_s rfl (so_buildSlice0 se38 fun b5 => ?_)
      refine wl_ro (mv_s rfl) rfl ?_
      refine wl_s rfl (so_append_grow (vy := sv s) (olds := #[]) se38 rfl rfl (len_sv hB) (by omega) (by decide) (by omega) (rd_own .head (by simp) (by simp)) (rd_bytes hB) fun b7 cap zs hcap hzs => ?_)
      try rw [Array.empty_append]
      refine wl_ro (as_s rfl) rfl ?_
      refine wl_nil ?_
      refine wq_then ?_
      refine xp_ret ?_
      refine' fq_retN _ rfl (.cons (rv_s rfl) .nil) rfl ?_ ?_
      rotate_right
      · exact ⟨rfl, .inr ⟨b7, cap, zs, 5, by rw [Nat.zero_add]; rfl, by omega, rfl⟩⟩
      · repeat (first | exact List.nil_sublist _ | apply List.Sublist.cons_cons | apply List.Sublist.cons)
theorem c_mem_Load (s : SV) (xs : List (BitVec 8)) (a : BitVec 32) (n : Nat) (hn : n ≤ 8) : CtW (fun h => Bytes h s xs) Tryd.prog 105 [sv s, u32 a, int n] (.tuple #[u32 (G.load xs a n).1, .bool (G.load xs a n).2]) := by
  intro h hB
  refine ctr_enter (n := 36) [sv s, u32 a, int n] Tryd.func105 rfl rfl rfl fun w0 => ?_
  refine xp_seq ?_
  refine xp_region ?_
  refine wl_ro (as_32 (a := 0#32) rfl) rfl ?_
  refine wl_ro (as_b rfl) rfl ?_
  refine wl_nil ?_
  refine wq_then ?_
  refine xp_seq ?_
  refine xp_seq ?_
  have hl : s.len = xs.length := hB.1
  have ha := a.isLt
  refine xp_region ?_
  refine wl_ro (mv_s rfl) rfl ?_
  refine wl_ro (ro_len_slice sl38 rfl) rfl ?_
  refine wl_ro (mv_32 rfl) rfl ?_
  refine wl_ro (mv_i rfl) rfl ?_
  refine wl_s rfl (so_callV (c_mem_InRange _ _ _) gb68 (by rfl) ?_)
  refine wl_ro (ro_not rfl) rfl ?_
  refine wl_nil ?_
  refine wq_then ?_
  refine xp_cond _ rfl (fun c1 => ?_) (fun c1 => ?_)
  ·
    try simp only [decide_eq_true_eq, decide_eq_false_iff_not] at c1
    try have hlt : i < n := by omega
    refine xp_seq ?_
    refine xp_region ?_
    refine wl_ro (as_32 (a := 0#32) rfl) rfl ?_
    refine wl_ro (as_b rfl) rfl ?_
    refine wl_nil ?_
    refine wq_then ?_
    refine xp_ret ?_
    refine wq_then_ret ?_
    refine fq_retV rfl (.cons (rv_32 rfl) (.cons (rv_b rfl) .nil)) _ rfl ?_
    first | (simp_all [G.load]; done) | (obtain rfl : i = n := (by omega); simp_all [G.load]; done)
  ·
    try simp only [decide_eq_true_eq, decide_eq_false_iff_not] at c1
    try have hlt : i < n := by omega
    refine xp_skip ?_
    refine wq_then ?_
    refine xp_seq ?_
    have hle := G.inRange_le (by omega) (show G.inRange xs.length a n = true by rw [← hl]; simpa using c1)
    refine xp_region ?_
    refine wl_ro (as_32 (a := 0#32) rfl) rfl ?_
    refine wl_nil ?_
    refine wq_then ?_
    refine xp_seq ?_
    refine xp_seq ?_
    refine xp_region ?_
    refine wl_ro (mv_i rfl) rfl ?_
    refine wl_ro (mv_i rfl) rfl ?_
    refine wl_nil ?_
    refine wq_then ?_
    refine xp_block ?_
    refine xp_loopP (ds := [])  (A := Nat) [8, 9, 17, 18, 19, 20, 21, 22, 23, 24, 25, 26, 27, 28, 29, 30, 31, 32, 33, 34] (fun i => n - i) (fun i => [(8, u32 (G.loadAcc xs a.toNat i)), (17, int (i : Int))]) (fun i => i ≤ n) 0 ⟨rfl, rfl, trivial⟩ ?_ ?_
    · omega
    · intro i us hi
      refine xp_seq ?_
      refine xp_region ?_
      refine wl_ro (roI_lss rfl rfl) rfl ?_
      refine wl_nil ?_
      refine wq_then ?_
      refine xp_seq ?_
      refine xp_cond _ rfl (fun c2 => ?_) (fun c2 => ?_)
      ·
        try simp only [decide_eq_true_eq, decide_eq_false_iff_not] at c2
        try have hlt : i < n := by omega
        refine xp_skip ?_
        refine wq_then ?_
        refine xp_seq ?_
        refine xp_block ?_
        refine xp_seq ?_
        refine xp_region ?_
        refine wl_ro (mv_i rfl) rfl ?_
        refine wl_ro (as_i rfl) rfl ?_
        refine wl_nil ?_
        refine wq_then ?_
        refine xp_region ?_
        refine wl_ro (mv_32 rfl) rfl ?_
        refine wl_ro (mv_s rfl) rfl ?_
        refine wl_ro (mv_32 rfl) rfl ?_
        refine wl_ro (cv_32_i us22 ik3 rfl) rfl ?_
        refine wl_ro (mv_i rfl) rfl ?_
        refine wl_ro (roI_add rfl rfl (by omega)) rfl ?_
        refine wl_ro (ro_indexAddr_b (a.toNat + i) sl38 hB rfl rfl (by omega) (by omega)) rfl ?_
        refine wl_ro (ro_loadB sc5 hB rfl (by omega)) rfl ?_
        refine wl_ro (cv_8_32 us5 ik22 rfl) rfl ?_
        refine wl_ro (mv_i rfl) rfl ?_
        refine wl_ro (roI_mul rfl rfl (by omega)) rfl ?_
        refine wl_ro (cv_i_64 us3 ik63 rfl) rfl ?_
        refine wl_ro (ro32_shl rfl rfl) rfl ?_
        refine wl_ro (ro32_or rfl rfl) rfl ?_
        refine wl_ro (as_32 rfl) rfl ?_
        refine wl_nil ?_
        refine wq_in ?_
        refine wq_then ?_
        refine xp_region ?_
        refine wl_ro (roI_add rfl rfl (by omega)) rfl ?_
        refine wl_ro (mv_i rfl) rfl ?_
        refine wl_nil ?_
        refine wq_loopP (i + 1) (by omega) (by repeat (first | exact out_ovr | refine out_upd rfl ?_)) ⟨slot_32 rfl (by rw [show (8 * (i : Int)) = ((8 * i : Nat) : Int) by omega, G.of64 (by omega)]; rfl), slot_i rfl (by omega), trivial⟩ ?_
        omega
      ·
        try simp only [decide_eq_true_eq, decide_eq_false_iff_not] at c2
        try have hlt : i < n := by omega
        refine xp_exit ?_
        refine wq_then_exit ?_
        refine wq_then_exit ?_
        refine wq_in_here ?_
        refine wq_then ?_
        refine xp_seq ?_
        refine xp_region ?_
        refine wl_ro (mv_32 rfl) rfl ?_
        refine wl_ro (as_32 rfl) rfl ?_
        refine wl_ro (as_b rfl) rfl ?_
        refine wl_nil ?_
        refine wq_then ?_
        refine xp_ret ?_
        refine fq_retV rfl (.cons (rv_32 rfl) (.cons (rv_b rfl) .nil)) _ rfl ?_
        first | (simp_all [G.load]; done) | (obtain rfl : i = n := (by omega); simp_all [G.load]; done)
theorem c_mem_Store (s : SV) (xs : List (BitVec 8)) (hxs : xs.length ≤ 1099511627776) (a : BitVec 32) (n : Nat) (h0 : 0 < n) (hn : n ≤ 8) (v : BitVec 32) (h : PH) (hB : Bytes h s xs) : CtR Tryd.prog 110 #[sv s, u32 a, int n, u32 v] h fun u h' => ∃ s', u = .tuple #[sv s', .bool (G.store xs a n v).2] ∧ Bytes h' s' (G.store xs a n v).1 := by
  refine ctr_enter (n := 39) [sv s, u32 a, int n, u32 v] Tryd.func110 rfl rfl rfl fun w0 => ?_
  refine xp_seq ?_
  refine xp_region ?_
  refine wl_ro (as_s rfl) rfl ?_
  refine wl_ro (as_b rfl) rfl ?_
  refine wl_nil ?_
  refine wq_then ?_
  refine xp_seq ?_
  refine xp_seq ?_
  have hl : s.len = xs.length := hB.1
  have ha := a.isLt
  refine xp_region ?_
  refine wl_ro (mv_s rfl) rfl ?_
  refine wl_ro (ro_len_slice sl38 rfl) rfl ?_
  refine wl_ro (mv_32 rfl) rfl ?_
  refine wl_ro (mv_i rfl) rfl ?_
  refine wl_s rfl (so_callV (c_mem_InRange _ _ _) gb68 (by rfl) ?_)
  refine wl_ro (ro_not rfl) rfl ?_
  refine wl_nil ?_
  refine wq_then ?_
  refine xp_cond _ rfl (fun c1 => ?_) (fun c1 => ?_)
  ·
    try simp only [decide_eq_true_eq, decide_eq_false_iff_not] at c1
    try have hlt : i < n := by omega
    refine xp_seq ?_
    have hin : G.inRange xs.length a n = false := by rw [← hl]; simpa using c1
    refine xp_region ?_
    refine wl_ro (mv_s rfl) rfl ?_
    refine wl_ro (as_s rfl) rfl ?_
    refine wl_ro (as_b rfl) rfl ?_
    refine wl_nil ?_
    refine wq_then ?_
    refine xp_ret ?_
    refine wq_then_ret ?_
    try refine wq_freeze .head (by simp) fun hf hlf hbf => ?_
    refine fq_retR _ rfl (.cons (rv_s rfl) (.cons (rv_b rfl) .nil)) rfl ?_
    exact ⟨s, by rw [G.store, if_neg (by rw [hin]; decide)]; rfl, by rw [G.store, if_neg (by rw [hin]; decide)]; exact hB⟩
  ·
    try simp only [decide_eq_true_eq, decide_eq_false_iff_not] at c1
    try have hlt : i < n := by omega
    refine xp_skip ?_
    refine wq_then ?_
    refine xp_seq ?_
    have hin : G.inRange xs.length a n = true := by rw [← hl]; simpa using c1
    have hle := G.inRange_le (by omega) hin
    refine xp_region ?_
    refine wl_ro (mv_s rfl) rfl ?_
    refine wl_s rfl (so_callN (c_slices_Clone_byte_byte _ _ (by omega) _ (by assumption)) gb116 (by rfl) fun vq2 hq2 Nq2 hlq2 hpq2 => ?_)
    obtain ⟨e, hcp⟩ := hpq2
    replace e := e.symm
    subst e
    obtain ⟨bk, cap, zs, E, rfl, hcap, rfl⟩ := hcp.pos (by omega)
    refine wl_ro (as_s rfl) rfl ?_
    refine wl_nil ?_
    refine wq_then ?_
    refine xp_seq ?_
    refine xp_seq ?_
    refine xp_region ?_
    refine wl_ro (mv_i rfl) rfl ?_
    refine wl_ro (mv_i rfl) rfl ?_
    refine wl_nil ?_
    refine wq_then ?_
    refine xp_block ?_
    refine xp_loopE (ds := [])  (A := Nat) [11, 22, 23, 24, 25, 26, 27, 28, 29, 30, 31, 32, 33, 34, 35, 36, 37] (fun i => n - i) (fun i => [(22, int (i : Int))]) (fun i h' L' => i ≤ n ∧ h' = h ∧ L' = [(bk, .cells (encB (G.storeAcc xs a.toNat v i) ++ zs) E (0, 0))]) 0 ⟨rfl, trivial⟩ ?_ ?_
    · exact ⟨by omega, rfl, rfl⟩
    · rintro i us h' L' ⟨hi, rfl, rfl⟩
      refine xp_seq ?_
      refine xp_region ?_
      refine wl_ro (roI_lss rfl rfl) rfl ?_
      refine wl_nil ?_
      refine wq_then ?_
      refine xp_seq ?_
      refine xp_cond _ rfl (fun c3 => ?_) (fun c3 => ?_)
      ·
        try simp only [decide_eq_true_eq, decide_eq_false_iff_not] at c3
        try have hlt : i < n := by omega
        refine xp_skip ?_
        refine wq_then ?_
        refine xp_seq ?_
        refine xp_block ?_
        refine xp_seq ?_
        refine xp_region ?_
        refine wl_ro (mv_i rfl) rfl ?_
        refine wl_ro (as_i rfl) rfl ?_
        refine wl_nil ?_
        refine wq_then ?_
        refine xp_region ?_
        refine wl_ro (mv_s rfl) rfl ?_
        refine wl_ro (mv_32 rfl) rfl ?_
        refine wl_ro (cv_32_i us22 ik3 rfl) rfl ?_
        refine wl_ro (mv_i rfl) rfl ?_
        refine wl_ro (roI_add rfl rfl (by omega)) rfl ?_
        refine wl_ro (mv_32 rfl) rfl ?_
        refine wl_ro (mv_i rfl) rfl ?_
        refine wl_ro (roI_mul rfl rfl (by omega)) rfl ?_
        refine wl_ro (cv_i_64 us3 ik63 rfl) rfl ?_
        refine wl_ro (ro32_shr rfl rfl) rfl ?_
        refine wl_ro (cv_32_8 us22 ik5 rfl) rfl ?_
        refine wl_ro (ro_indexAddr_s1 (a.toNat + i) sl38 rfl rfl (by omega) (by omega)) rfl ?_
        refine wl_s0 (so_store sc5 rfl rfl rfl (by repeat (first | exact .head | apply Sel.tail)) (by simp [encB_size, G.storeAcc_length]; omega) (setB _ _ _ _ (by rw [G.storeAcc_length]; omega)) ?_)
        refine wl_nil ?_
        refine wq_in ?_
        refine wq_then ?_
        refine xp_region ?_
        refine wl_ro (roI_add rfl rfl (by omega)) rfl ?_
        refine wl_ro (mv_i rfl) rfl ?_
        refine wl_nil ?_
        refine wq_loopE (i + 1) (by omega) (by repeat (first | exact out_ovr | refine out_upd rfl ?_)) ⟨slot_i rfl (by omega), trivial⟩ ?_
        exact ⟨by omega, rfl, by rw [show (8 * (i : Int)) = ((8 * i : Nat) : Int) by omega, G.of64 (by omega)]; rfl⟩
      ·
        try simp only [decide_eq_true_eq, decide_eq_false_iff_not] at c3
        try have hlt : i < n := by omega
        refine xp_exit ?_
        refine wq_then_exit ?_
        refine wq_then_exit ?_
        refine wq_in_here ?_
        refine wq_then ?_
        refine xp_seq ?_
        refine xp_region ?_
        refine wl_ro (mv_s rfl) rfl ?_
        refine wl_ro (as_s rfl) rfl ?_
        refine wl_ro (as_b rfl) rfl ?_
        refine wl_nil ?_
        refine wq_then ?_
        refine xp_ret ?_
        try refine wq_freeze .head (by simp) fun hf hlf hbf => ?_
        refine fq_retR _ rfl (.cons (rv_s rfl) (.cons (rv_b rfl) .nil)) rfl ?_
        obtain rfl : n = i := by omega
        exact ⟨⟨some ⟨bk, 0, none⟩, xs.length, cap⟩, by rw [G.store, if_pos hin]; rfl, by rw [G.store, if_pos hin]; exact bytes_of hbf rfl (by rw [G.storeAcc_length]) hcap⟩
end Go.Proofs.YtnikheoiciokhaaDoor
