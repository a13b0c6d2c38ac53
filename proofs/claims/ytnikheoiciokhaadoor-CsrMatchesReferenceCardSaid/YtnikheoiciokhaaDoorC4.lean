/-
  CONTRACTS OF GO FUNCTIONS (printed by gen.py, own work).
-/
import Derived.Test.YtnikheoiciokhaaDoorC3
namespace Go.Proofs.YtnikheoiciokhaaDoor
open Go Go.Sx
set_option linter.unusedVariables false
set_option maxRecDepth 20000
set_option linter.unusedSimpArgs false

theorem c_law04_awake  : CtW TbN Tryd.prog 9 [] (.bool true) := by
  intro h hT
  refine ctr_enter (n := 94) [] Tryd.func9 rfl rfl rfl fun w0 => ?_
  refine xp_seq ?_
  refine xp_region ?_
  refine wl_ro (as_b rfl) rfl ?_
  refine wl_nil ?_
  refine wq_then ?_
  refine xp_seq ?_
  refine xp_region ?_
  refine wl_s rfl (so_callV (c_csr_Reset) gb21 (by rfl) ?_)
  refine wl_s rfl (so_allocA zr23 fun b1 => ?_)
  refine wl_s0 (so_storeA ag23 rfl rfl rfl (ones_V12 _) (by repeat (first | exact .head | apply Sel.tail)) rfl ?_)
  refine wl_nil ?_
  refine wq_then ?_
  refine xp_seq ?_
  refine xp_region ?_
  refine wl_s rfl (so_callW (c_csr_Number _) (by first | assumption | exact TbN.mono (by assumption) (by assumption) | exact TbN.mono (TbN.mono (by assumption) (by assumption)) (by assumption)) gb10 (by rfl) ?_)
  refine wl_ro (mv_u rfl) rfl ?_
  refine wl_ro (ro_extract rfl rfl) rfl ?_
  refine wl_ro (ro_extract rfl rfl) rfl ?_
  refine wl_ro (as_i rfl) rfl ?_
  refine wl_ro (as_b rfl) rfl ?_
  refine wl_nil ?_
  refine wq_then ?_
  refine xp_seq ?_
  refine xp_region ?_
  refine wl_s rfl (so_callW (c_csr_Number _) (by first | assumption | exact TbN.mono (by assumption) (by assumption) | exact TbN.mono (TbN.mono (by assumption) (by assumption)) (by assumption)) gb10 (by rfl) ?_)
  refine wl_ro (mv_u rfl) rfl ?_
  refine wl_ro (ro_extract rfl rfl) rfl ?_
  refine wl_ro (ro_extract rfl rfl) rfl ?_
  refine wl_ro (as_i rfl) rfl ?_
  refine wl_ro (as_b rfl) rfl ?_
  refine wl_nil ?_
  refine wq_then ?_
  refine xp_seq ?_
  refine xp_region ?_
  refine wl_ro (ro_loadA ag23 rfl (by repeat (first | exact .head | apply Sel.tail)) (by rfl) (whole_V12 _)) rfl ?_
  refine wl_s rfl (so_callV (c_csr_Write _ _ 15#32) gb17 (by rfl) ?_)
  refine wl_s rfl (so_allocA zr23 fun b6 => ?_)
  refine wl_s0 (so_storeA ag23 rfl rfl rfl (ones_V12 _) (by repeat (first | exact .head | apply Sel.tail)) rfl ?_)
  refine wl_nil ?_
  refine wq_then ?_
  refine xp_seq ?_
  refine xp_region ?_
  refine wl_ro (ro_loadA ag23 rfl (by repeat (first | exact .head | apply Sel.tail)) (by rfl) (whole_V12 _)) rfl ?_
  refine wl_s rfl (so_callV (c_csr_Write _ _ 0#32) gb17 (by rfl) ?_)
  refine wl_s rfl (so_allocA zr23 fun b7 => ?_)
  refine wl_s0 (so_storeA ag23 rfl rfl rfl (ones_V12 _) (by repeat (first | exact .head | apply Sel.tail)) rfl ?_)
  refine wl_nil ?_
  refine wq_then ?_
  refine xp_seq ?_
  refine xp_region ?_
  refine wl_ro (ro_loadA ag23 rfl (by repeat (first | exact .head | apply Sel.tail)) (by rfl) (whole_V12 _)) rfl ?_
  refine wl_s rfl (so_callV (c_csr_Write _ _ 7#32) gb17 (by rfl) ?_)
  refine wl_s rfl (so_allocA zr23 fun b8 => ?_)
  refine wl_s0 (so_storeA ag23 rfl rfl rfl (ones_V12 _) (by repeat (first | exact .head | apply Sel.tail)) rfl ?_)
  refine wl_nil ?_
  refine wq_then ?_
  refine xp_seq ?_
  refine xp_region ?_
  refine wl_ro (ro_indexAddr_c 0 0 ar23 rfl rfl rfl rfl) rfl ?_
  refine wl_ro (ro_load sc22 rfl (by repeat (first | exact .head | apply Sel.tail)) (get_V12_at _ 0 (by decide))) rfl ?_
  refine wl_ro (ro32_eql (b := 1#32) rfl rfl) rfl ?_
  refine wl_ro (mv_b rfl) rfl ?_
  refine wl_yes rfl rfl rfl rfl rfl (yes_of (by kernel_rfl)) (so_ro (ro_loadA ag23 rfl (by repeat (first | exact .head | apply Sel.tail)) (by rfl) (whole_V12 _)) ?_)
  refine wl_yes rfl rfl rfl rfl rfl (yes_of (by kernel_rfl)) (so_callV (c_csr_TimerCompare _) gb19 (by rfl) ?_)
  refine wl_yes rfl rfl rfl rfl rfl (yes_of (by kernel_rfl)) (so_ro (ro64_eql (b := 18446744073709551615#64) rfl rfl) ?_)
  refine wl_ro (ro_pickT rfl (by kernel_rfl)) rfl ?_
  refine wl_ro (mv_b rfl) rfl ?_
  refine wl_yes rfl rfl rfl rfl rfl (yes_of (by kernel_rfl)) (so_ro (mv_i rfl) ?_)
  refine wl_yes rfl rfl rfl rfl rfl (yes_of (by kernel_rfl)) (so_ro (roI_eql rfl rfl) ?_)
  refine wl_ro (ro_pickT rfl (by kernel_rfl)) rfl ?_
  refine wl_ro (mv_b rfl) rfl ?_
  refine wl_yes rfl rfl rfl rfl rfl (yes_of (by kernel_rfl)) (so_ro (mv_b rfl) ?_)
  refine wl_ro (ro_pickT rfl (by kernel_rfl)) rfl ?_
  refine wl_ro (mv_b rfl) rfl ?_
  refine wl_yes rfl rfl rfl rfl rfl (yes_of (by kernel_rfl)) (so_ro (mv_b rfl) ?_)
  refine wl_yes rfl rfl rfl rfl rfl (yes_of (by kernel_rfl)) (so_ro (ro_not rfl) ?_)
  refine wl_ro (ro_pickT rfl (by kernel_rfl)) rfl ?_
  refine wl_ro (mv_b rfl) rfl ?_
  refine wl_yes rfl rfl rfl rfl rfl (yes_of (by kernel_rfl)) (so_callW (c_csr_Name _) (by first | assumption | exact TbN.mono (by assumption) (by assumption) | exact TbN.mono (TbN.mono (by assumption) (by assumption)) (by assumption)) gb12 (by rfl) ?_)
  refine wl_yes rfl rfl rfl rfl rfl (yes_of (by kernel_rfl)) (so_ro (ros_eql rfl rfl) ?_)
  refine wl_ro (ro_pickT rfl (by kernel_rfl)) rfl ?_
  refine wl_ro (mv_b rfl) rfl ?_
  refine wl_yes rfl rfl rfl rfl rfl (yes_of (by kernel_rfl)) (so_callW (c_csr_Name _) (by first | assumption | exact TbN.mono (by assumption) (by assumption) | exact TbN.mono (TbN.mono (by assumption) (by assumption)) (by assumption)) gb12 (by rfl) ?_)
  refine wl_yes rfl rfl rfl rfl rfl (yes_of (by kernel_rfl)) (so_ro (ros_eql rfl rfl) ?_)
  refine wl_ro (ro_pickT rfl (by kernel_rfl)) rfl ?_
  refine wl_ro (mv_b rfl) rfl ?_
  refine wl_yes rfl rfl rfl rfl rfl (yes_of (by kernel_rfl)) (so_ro (ro_indexAddr_c 0 0 ar23 rfl rfl rfl rfl) ?_)
  refine wl_yes rfl rfl rfl rfl rfl (yes_of (by kernel_rfl)) (so_ro (ro_load sc22 rfl (by repeat (first | exact .head | apply Sel.tail)) (get_V12_at _ 0 (by decide))) ?_)
  refine wl_yes rfl rfl rfl rfl rfl (yes_of (by kernel_rfl)) (so_ro (ro32_eql (b := 15#32) rfl rfl) ?_)
  refine wl_ro (ro_pickT rfl (by kernel_rfl)) rfl ?_
  refine wl_ro (mv_b rfl) rfl ?_
  refine wl_yes rfl rfl rfl rfl rfl (yes_of (by kernel_rfl)) (so_ro (ro_indexAddr_c 0 0 ar23 rfl rfl rfl rfl) ?_)
  refine wl_yes rfl rfl rfl rfl rfl (yes_of (by kernel_rfl)) (so_ro (ro_load sc22 rfl (by repeat (first | exact .head | apply Sel.tail)) (get_V12_at _ 0 (by decide))) ?_)
  refine wl_yes rfl rfl rfl rfl rfl (yes_of (by kernel_rfl)) (so_ro (ro32_eql (b := 1#32) rfl rfl) ?_)
  refine wl_ro (ro_pickT rfl (by kernel_rfl)) rfl ?_
  refine wl_ro (mv_b rfl) rfl ?_
  refine wl_yes rfl rfl rfl rfl rfl (yes_of (by kernel_rfl)) (so_ro (ro_indexAddr_c 1 1 ar23 rfl rfl rfl rfl) ?_)
  refine wl_yes rfl rfl rfl rfl rfl (yes_of (by kernel_rfl)) (so_ro (ro_load sc22 rfl (by repeat (first | exact .head | apply Sel.tail)) (get_V12_at _ 1 (by decide))) ?_)
  refine wl_yes rfl rfl rfl rfl rfl (yes_of (by kernel_rfl)) (so_ro (ro32_eql (b := 4#32) rfl rfl) ?_)
  refine wl_ro (ro_pickT rfl (by kernel_rfl)) rfl ?_
  refine wl_ro (mv_b rfl) rfl ?_
  refine wl_yes rfl rfl rfl rfl rfl (yes_of (by kernel_rfl)) (so_callV (c_csr_WriteMask _) gb13 (by rfl) ?_)
  refine wl_yes rfl rfl rfl rfl rfl (yes_of (by kernel_rfl)) (so_ro (ro32_eql (b := 0#32) rfl rfl) ?_)
  refine wl_ro (ro_pickT rfl (by kernel_rfl)) rfl ?_
  refine wl_ro (mv_b rfl) rfl ?_
  refine wl_yes rfl rfl rfl rfl rfl (yes_of (by kernel_rfl)) (so_callV (c_csr_WriteMask _) gb13 (by rfl) ?_)
  refine wl_yes rfl rfl rfl rfl rfl (yes_of (by kernel_rfl)) (so_ro (ro32_eql (b := 0#32) rfl rfl) ?_)
  refine wl_ro (ro_pickT rfl (by kernel_rfl)) rfl ?_
  refine wl_ro (mv_b rfl) rfl ?_
  refine wl_yes rfl rfl rfl rfl rfl (yes_of (by kernel_rfl)) (so_ro (ro_loadA ag23 rfl (by repeat (first | exact .head | apply Sel.tail)) (by rfl) (whole_V12 _)) ?_)
  refine wl_yes rfl rfl rfl rfl rfl (yes_of (by kernel_rfl)) (so_callV (c_csr_Read _ 4294967301#64 _) gb15 (by rfl) ?_)
  refine wl_yes rfl rfl rfl rfl rfl (yes_of (by kernel_rfl)) (so_ro (ro32_eql (b := 5#32) rfl rfl) ?_)
  refine wl_ro (ro_pickT rfl (by kernel_rfl)) rfl ?_
  refine wl_ro (mv_b rfl) rfl ?_
  refine wl_yes rfl rfl rfl rfl rfl (yes_of (by kernel_rfl)) (so_ro (ro_loadA ag23 rfl (by repeat (first | exact .head | apply Sel.tail)) (by rfl) (whole_V12 _)) ?_)
  refine wl_yes rfl rfl rfl rfl rfl (yes_of (by kernel_rfl)) (so_callV (c_csr_Read _ 4294967301#64 _) gb15 (by rfl) ?_)
  refine wl_yes rfl rfl rfl rfl rfl (yes_of (by kernel_rfl)) (so_ro (ro32_eql (b := 1#32) rfl rfl) ?_)
  refine wl_ro (ro_pickT rfl (by kernel_rfl)) rfl ?_
  refine wl_ro (mv_b rfl) rfl ?_
  refine wl_yes rfl rfl rfl rfl rfl (yes_of (by kernel_rfl)) (so_ro (ro_loadA ag23 rfl (by repeat (first | exact .head | apply Sel.tail)) (by rfl) (whole_V12 _)) ?_)
  refine wl_yes rfl rfl rfl rfl rfl (yes_of (by kernel_rfl)) (so_callV (c_csr_Read _ 0#64 _) gb15 (by rfl) ?_)
  refine wl_yes rfl rfl rfl rfl rfl (yes_of (by kernel_rfl)) (so_ro (ro32_eql (b := 4#32) rfl rfl) ?_)
  refine wl_ro (ro_pickT rfl (by kernel_rfl)) rfl ?_
  refine wl_ro (mv_b rfl) rfl ?_
  refine wl_yes rfl rfl rfl rfl rfl (yes_of (by kernel_rfl)) (so_ro (ro_loadA ag23 rfl (by repeat (first | exact .head | apply Sel.tail)) (by rfl) (whole_V12 _)) ?_)
  refine wl_yes rfl rfl rfl rfl rfl (yes_of (by kernel_rfl)) (so_callV (c_csr_Read _ 0#64 _) gb15 (by rfl) ?_)
  refine wl_yes rfl rfl rfl rfl rfl (yes_of (by kernel_rfl)) (so_ro (ro32_eql (b := 0#32) rfl rfl) ?_)
  refine wl_ro (ro_pickT rfl (by kernel_rfl)) rfl ?_
  refine wl_ro (as_b rfl) rfl ?_
  refine wl_nil ?_
  refine wq_then ?_
  refine xp_ret ?_
  refine fq_retV rfl (.cons (rv_b rfl) .nil) _ rfl ?_
  exact congrArg Value.bool (by kernel_rfl)
theorem c_law04_CsrMatchesReference (c : V12) (time : BitVec 64) (n : Int) (s : ByteArray) (v : BitVec 32) : CtW TbN Tryd.prog 3 [.agg (encV12 c), u64 time, int n, .string s, u32 v] (.bool true) := by
  intro h hT
  refine ctr_enter (n := 95) [.agg (encV12 c), u64 time, int n, .string s, u32 v] Tryd.func3 rfl rfl rfl fun w0 => ?_
  refine xp_seq ?_
  refine xp_region ?_
  refine wl_s rfl (so_boxA rfl fun b5 => ?_)
  refine wl_ro (as_b rfl) rfl ?_
  refine wl_nil ?_
  refine wq_then ?_
  refine xp_seq ?_
  refine xp_seq ?_
  refine xp_region ?_
  refine wl_s rfl (so_callW (c_law04_awake) (by first | assumption | exact TbN.mono (by assumption) (by assumption) | exact TbN.mono (TbN.mono (by assumption) (by assumption)) (by assumption)) gb9 (by rfl) ?_)
  refine wl_ro (ro_not rfl) rfl ?_
  refine wl_ro (mv_b rfl) rfl ?_
  refine wl_yes rfl rfl rfl rfl rfl (yes_of rfl) (so_ro (mv_t rfl) ?_)
  refine wl_yes rfl rfl rfl rfl rfl (yes_of rfl) (so_ro (ro_len_string ust9 rfl) ?_)
  refine wl_yes rfl rfl rfl rfl rfl (yes_of rfl) (so_ro (roI_gtr rfl rfl) ?_)
  refine wl_ro (ro_pickF rfl rfl) rfl ?_
  refine wl_nil ?_
  refine wq_then ?_
  refine xp_cond _ rfl (fun c1 => ?_) (fun c1 => ?_)
  ·
    try simp only [decide_eq_true_eq, decide_eq_false_iff_not] at c1
    refine xp_seq ?_
    refine xp_region ?_
    refine wl_s rfl (so_callW (c_law04_awake) (by first | assumption | exact TbN.mono (by assumption) (by assumption) | exact TbN.mono (TbN.mono (by assumption) (by assumption)) (by assumption)) gb9 (by rfl) ?_)
    refine wl_ro (as_b rfl) rfl ?_
    refine wl_nil ?_
    refine wq_then ?_
    refine xp_ret ?_
    refine wq_then_ret ?_
    refine fq_retV rfl (.cons (rv_b rfl) .nil) _ rfl ?_
    first | rfl | exact congrArg Value.bool (by kernel_rfl)
  ·
    try simp only [decide_eq_true_eq, decide_eq_false_iff_not] at c1
    refine xp_skip ?_
    refine wq_then ?_
    refine xp_seq ?_
    refine xp_region ?_
    refine wl_ro (mv_t rfl) rfl ?_
    refine wl_s rfl (so_callW (c_csr_Number _) (by first | assumption | exact TbN.mono (by assumption) (by assumption) | exact TbN.mono (TbN.mono (by assumption) (by assumption)) (by assumption)) gb10 (by rfl) ?_)
    refine wl_ro (mv_u rfl) rfl ?_
    refine wl_ro (ro_extract rfl rfl) rfl ?_
    refine wl_ro (ro_extract rfl rfl) rfl ?_
    refine wl_ro (as_i rfl) rfl ?_
    refine wl_ro (as_b rfl) rfl ?_
    refine wl_nil ?_
    refine wq_then ?_
    refine xp_seq ?_
    refine xp_region ?_
    refine wl_ro (as_i rfl) rfl ?_
    refine wl_nil ?_
    refine wq_then ?_
    refine xp_seq ?_
    refine xp_seq ?_
    refine xp_region ?_
    refine wl_ro (as_i rfl) rfl ?_
    refine wl_nil ?_
    refine wq_then ?_
    refine xp_block ?_
    refine xp_loopP (ds := [])  (A := Nat) [13, 14, 28, 29, 30, 31, 32, 33, 34, 35, 36] (fun i => 12 - i) (fun i => [(13, int (G.wantAt s i)), (14, int (i : Int))]) (fun i => i ≤ 12) 0 ⟨rfl, rfl, trivial⟩ ?_ ?_
    · omega
    · intro i us hi
      refine xp_seq ?_
      refine xp_seq ?_
      refine xp_region ?_
      refine wl_ro (mv_i rfl) rfl ?_
      refine wl_ro (roI_lss rfl rfl) rfl ?_
      refine wl_nil ?_
      refine wq_then ?_
      refine xp_cond _ rfl (fun c2 => ?_) (fun c2 => ?_)
      ·
        try simp only [decide_eq_true_eq, decide_eq_false_iff_not] at c2
        refine xp_skip ?_
        refine wq_then ?_
        refine xp_seq ?_
        refine xp_block ?_
        refine xp_seq ?_
        refine xp_region ?_
        refine wl_ro (mv_i rfl) rfl ?_
        refine wl_s rfl (so_callV (c_ref04_Name _) gb11 (by rfl) ?_)
        refine wl_ro (mv_t rfl) rfl ?_
        refine wl_ro (ros_eql rfl rfl) rfl ?_
        refine wl_nil ?_
        refine wq_then ?_
        refine xp_cond _ rfl (fun c3 => ?_) (fun c3 => ?_)
        ·
          try simp only [decide_eq_true_eq, decide_eq_false_iff_not] at c3
          refine xp_region ?_
          refine wl_ro (mv_i rfl) rfl ?_
          refine wl_ro (as_i rfl) rfl ?_
          refine wl_nil ?_
          refine wq_in ?_
          refine wq_then ?_
          refine xp_region ?_
          refine wl_ro (mv_i rfl) rfl ?_
          refine wl_ro (roI_add rfl rfl (by omega)) rfl ?_
          refine wl_ro (as_i rfl) rfl ?_
          refine wl_nil ?_
          refine wq_loopP (i + 1) (by omega) (by repeat (first | exact out_ovr | refine out_upd rfl ?_)) ⟨slot_i rfl (by simp_all [G.wantAt]), slot_i rfl (by omega), trivial⟩ ?_
          omega
        ·
          try simp only [decide_eq_true_eq, decide_eq_false_iff_not] at c3
          refine xp_skip ?_
          refine wq_in ?_
          refine wq_then ?_
          refine xp_region ?_
          refine wl_ro (mv_i rfl) rfl ?_
          refine wl_ro (roI_add rfl rfl (by omega)) rfl ?_
          refine wl_ro (as_i rfl) rfl ?_
          refine wl_nil ?_
          refine wq_loopP (i + 1) (by omega) (by repeat (first | exact out_ovr | refine out_upd rfl ?_)) ⟨slot_i rfl (by simp_all [G.wantAt]), slot_i rfl (by omega), trivial⟩ ?_
          omega
      ·
        try simp only [decide_eq_true_eq, decide_eq_false_iff_not] at c2
        refine xp_exit ?_
        refine wq_then_exit ?_
        refine wq_then_exit ?_
        refine wq_in_here ?_
        refine wq_then ?_
        refine xp_seq ?_
        obtain rfl : i = 12 := by omega
        refine xp_draw [true] [] mixed ?_
        refine wd_ro 0 rfl (by kernel_rfl) (mv_i rfl) rfl ?_
        refine wd_ro 2 rfl (by kernel_rfl) (mv_i rfl) rfl ?_
        refine wd_so 1 rfl (by kernel_rfl) rfl (so_callW (c_csr_Name _) (by first | assumption | exact TbN.mono (by assumption) (by assumption) | exact TbN.mono (TbN.mono (by assumption) (by assumption)) (by assumption)) gb12 (by rfl) ⟨⟨(by first | exact PH.le_refl _ | assumption | exact PH.le_trans (by assumption) (by assumption)), (inc_of (by repeat' (first | exact List.nil_sublist _ | apply List.Sublist.cons_cons | apply List.Sublist.cons))), .inr (inc_of (by repeat' (first | exact List.nil_sublist _ | apply List.Sublist.cons_cons | apply List.Sublist.cons)))⟩, ?_⟩)
        refine wd_so 3 rfl (by kernel_rfl) rfl (so_callV (c_ref04_Name _) gb11 (by rfl) ⟨⟨(by first | exact PH.le_refl _ | assumption | exact PH.le_trans (by assumption) (by assumption)), (inc_of (by repeat' (first | exact List.nil_sublist _ | apply List.Sublist.cons_cons | apply List.Sublist.cons))), .inr (inc_of (by repeat' (first | exact List.nil_sublist _ | apply List.Sublist.cons_cons | apply List.Sublist.cons)))⟩, ?_⟩)
        refine wd_ro 4 rfl (by kernel_rfl) (ros_eql rfl rfl) rfl ?_
        refine wd_ro 5 rfl (by kernel_rfl) (mv_b rfl) rfl ?_
        refine wd_yes 6 rfl (by kernel_rfl) rfl rfl rfl rfl (yes_of (by simp [G.name_law, G.mask_law, G.read_law, G.write_law, G.compare_law, G.csrNumber, G.number_law])) (mv_b rfl) rfl ?_
        refine wd_yes 7 rfl (by kernel_rfl) rfl rfl rfl rfl (yes_of (by simp [G.name_law, G.mask_law, G.read_law, G.write_law, G.compare_law, G.csrNumber, G.number_law])) (mv_i rfl) rfl ?_
        refine wd_yes 8 rfl (by kernel_rfl) rfl rfl rfl rfl (yes_of (by simp [G.name_law, G.mask_law, G.read_law, G.write_law, G.compare_law, G.csrNumber, G.number_law])) (roI_geq rfl rfl) rfl ?_
        refine wd_yes 9 rfl (by kernel_rfl) rfl rfl rfl rfl (yes_of (by simp [G.name_law, G.mask_law, G.read_law, G.write_law, G.compare_law, G.csrNumber, G.number_law])) (rob_eql ub4 rfl rfl) rfl ?_
        refine wd_ro 10 rfl (by kernel_rfl) (ro_pickT rfl (by simp [G.name_law, G.mask_law, G.read_law, G.write_law, G.compare_law, G.csrNumber, G.number_law])) rfl ?_
        refine wd_ro 11 rfl (by kernel_rfl) (mv_b rfl) rfl ?_
        refine wd_yes 12 rfl (by kernel_rfl) rfl rfl rfl rfl (yes_of (by simp [G.name_law, G.mask_law, G.read_law, G.write_law, G.compare_law, G.csrNumber, G.number_law])) (mv_i rfl) rfl ?_
        refine wd_yes 13 rfl (by kernel_rfl) rfl rfl rfl rfl (yes_of (by simp [G.name_law, G.mask_law, G.read_law, G.write_law, G.compare_law, G.csrNumber, G.number_law])) (mv_i rfl) rfl ?_
        refine wd_yes 14 rfl (by kernel_rfl) rfl rfl rfl rfl (yes_of (by simp [G.name_law, G.mask_law, G.read_law, G.write_law, G.compare_law, G.csrNumber, G.number_law])) (ro_max rfl rfl) rfl ?_
        refine wd_yes 15 rfl (by kernel_rfl) rfl rfl rfl rfl (yes_of (by simp [G.name_law, G.mask_law, G.read_law, G.write_law, G.compare_law, G.csrNumber, G.number_law])) (roI_eql rfl rfl) rfl ?_
        refine wd_ro 16 rfl (by kernel_rfl) (ro_pickT rfl (by simp [G.name_law, G.mask_law, G.read_law, G.write_law, G.compare_law, G.csrNumber, G.number_law])) rfl ?_
        refine wd_ro 17 rfl (by kernel_rfl) (mv_b rfl) rfl ?_
        refine wd_yes 18 rfl (by kernel_rfl) rfl rfl rfl rfl (yes_of (by simp [G.name_law, G.mask_law, G.read_law, G.write_law, G.compare_law, G.csrNumber, G.number_law])) (mv_i rfl) rfl ?_
        refine wd_yes 20 rfl (by kernel_rfl) rfl rfl rfl rfl (yes_of (by simp [G.name_law, G.mask_law, G.read_law, G.write_law, G.compare_law, G.csrNumber, G.number_law])) (mv_i rfl) rfl ?_
        refine wd_soY 19 rfl (by kernel_rfl) rfl rfl rfl rfl (yes_of (by simp [G.name_law, G.mask_law, G.read_law, G.write_law, G.compare_law, G.csrNumber, G.number_law])) rfl (so_callV (c_csr_WriteMask _) gb13 (by rfl) ⟨⟨(by first | exact PH.le_refl _ | assumption | exact PH.le_trans (by assumption) (by assumption)), (inc_of (by repeat' (first | exact List.nil_sublist _ | apply List.Sublist.cons_cons | apply List.Sublist.cons))), .inr (inc_of (by repeat' (first | exact List.nil_sublist _ | apply List.Sublist.cons_cons | apply List.Sublist.cons)))⟩, ?_⟩)
        refine wd_soY 21 rfl (by kernel_rfl) rfl rfl rfl rfl (yes_of (by simp [G.name_law, G.mask_law, G.read_law, G.write_law, G.compare_law, G.csrNumber, G.number_law])) rfl (so_callV (c_ref04_Mask _) gb14 (by rfl) ⟨⟨(by first | exact PH.le_refl _ | assumption | exact PH.le_trans (by assumption) (by assumption)), (inc_of (by repeat' (first | exact List.nil_sublist _ | apply List.Sublist.cons_cons | apply List.Sublist.cons))), .inr (inc_of (by repeat' (first | exact List.nil_sublist _ | apply List.Sublist.cons_cons | apply List.Sublist.cons)))⟩, ?_⟩)
        refine wd_yes 22 rfl (by kernel_rfl) rfl rfl rfl rfl (yes_of (by simp [G.name_law, G.mask_law, G.read_law, G.write_law, G.compare_law, G.csrNumber, G.number_law])) (ro32_eql rfl rfl) rfl ?_
        refine wd_ro 23 rfl (by kernel_rfl) (ro_pickT rfl (by simp [G.name_law, G.mask_law, G.read_law, G.write_law, G.compare_law, G.csrNumber, G.number_law])) rfl ?_
        refine wd_ro 24 rfl (by kernel_rfl) (mv_b rfl) rfl ?_
        refine wd_yes 25 rfl (by kernel_rfl) rfl rfl rfl rfl (yes_of (by simp [G.name_law, G.mask_law, G.read_law, G.write_law, G.compare_law, G.csrNumber, G.number_law])) (ro_loadA ag23 rfl (by repeat (first | exact .head | apply Sel.tail)) (by rfl) (whole_V12 _)) rfl ?_
        refine wd_yes 26 rfl (by kernel_rfl) rfl rfl rfl rfl (yes_of (by simp [G.name_law, G.mask_law, G.read_law, G.write_law, G.compare_law, G.csrNumber, G.number_law])) (mv_64 rfl) rfl ?_
        refine wd_yes 27 rfl (by kernel_rfl) rfl rfl rfl rfl (yes_of (by simp [G.name_law, G.mask_law, G.read_law, G.write_law, G.compare_law, G.csrNumber, G.number_law])) (mv_i rfl) rfl ?_
        refine wd_yes 29 rfl (by kernel_rfl) rfl rfl rfl rfl (yes_of (by simp [G.name_law, G.mask_law, G.read_law, G.write_law, G.compare_law, G.csrNumber, G.number_law])) (ro_loadA ag23 rfl (by repeat (first | exact .head | apply Sel.tail)) (by rfl) (whole_V12 _)) rfl ?_
        refine wd_yes 30 rfl (by kernel_rfl) rfl rfl rfl rfl (yes_of (by simp [G.name_law, G.mask_law, G.read_law, G.write_law, G.compare_law, G.csrNumber, G.number_law])) (mv_64 rfl) rfl ?_
        refine wd_yes 31 rfl (by kernel_rfl) rfl rfl rfl rfl (yes_of (by simp [G.name_law, G.mask_law, G.read_law, G.write_law, G.compare_law, G.csrNumber, G.number_law])) (mv_i rfl) rfl ?_
        refine wd_soY 28 rfl (by kernel_rfl) rfl rfl rfl rfl (yes_of (by simp [G.name_law, G.mask_law, G.read_law, G.write_law, G.compare_law, G.csrNumber, G.number_law])) rfl (so_callV (c_csr_Read _ _ _) gb15 (by rfl) ⟨⟨(by first | exact PH.le_refl _ | assumption | exact PH.le_trans (by assumption) (by assumption)), (inc_of (by repeat' (first | exact List.nil_sublist _ | apply List.Sublist.cons_cons | apply List.Sublist.cons))), .inr (inc_of (by repeat' (first | exact List.nil_sublist _ | apply List.Sublist.cons_cons | apply List.Sublist.cons)))⟩, ?_⟩)
        refine wd_soY 32 rfl (by kernel_rfl) rfl rfl rfl rfl (yes_of (by simp [G.name_law, G.mask_law, G.read_law, G.write_law, G.compare_law, G.csrNumber, G.number_law])) rfl (so_callV (c_ref04_Read _ _ _) gb16 (by rfl) ⟨⟨(by first | exact PH.le_refl _ | assumption | exact PH.le_trans (by assumption) (by assumption)), (inc_of (by repeat' (first | exact List.nil_sublist _ | apply List.Sublist.cons_cons | apply List.Sublist.cons))), .inr (inc_of (by repeat' (first | exact List.nil_sublist _ | apply List.Sublist.cons_cons | apply List.Sublist.cons)))⟩, ?_⟩)
        refine wd_yes 33 rfl (by kernel_rfl) rfl rfl rfl rfl (yes_of (by simp [G.name_law, G.mask_law, G.read_law, G.write_law, G.compare_law, G.csrNumber, G.number_law])) (ro32_eql rfl rfl) rfl ?_
        refine wd_ro 34 rfl (by kernel_rfl) (ro_pickT rfl (by simp [G.name_law, G.mask_law, G.read_law, G.write_law, G.compare_law, G.csrNumber, G.number_law])) rfl ?_
        refine wd_ro 35 rfl (by kernel_rfl) (mv_b rfl) rfl ?_
        refine wd_yes 36 rfl (by kernel_rfl) rfl rfl rfl rfl (yes_of (by simp [G.name_law, G.mask_law, G.read_law, G.write_law, G.compare_law, G.csrNumber, G.number_law])) (ro_loadA ag23 rfl (by repeat (first | exact .head | apply Sel.tail)) (by rfl) (whole_V12 _)) rfl ?_
        refine wd_yes 37 rfl (by kernel_rfl) rfl rfl rfl rfl (yes_of (by simp [G.name_law, G.mask_law, G.read_law, G.write_law, G.compare_law, G.csrNumber, G.number_law])) (mv_i rfl) rfl ?_
        refine wd_yes 38 rfl (by kernel_rfl) rfl rfl rfl rfl (yes_of (by simp [G.name_law, G.mask_law, G.read_law, G.write_law, G.compare_law, G.csrNumber, G.number_law])) (mv_32 rfl) rfl ?_
        refine wd_yes 40 rfl (by kernel_rfl) rfl rfl rfl rfl (yes_of (by simp [G.name_law, G.mask_law, G.read_law, G.write_law, G.compare_law, G.csrNumber, G.number_law])) (ro_loadA ag23 rfl (by repeat (first | exact .head | apply Sel.tail)) (by rfl) (whole_V12 _)) rfl ?_
        refine wd_yes 41 rfl (by kernel_rfl) rfl rfl rfl rfl (yes_of (by simp [G.name_law, G.mask_law, G.read_law, G.write_law, G.compare_law, G.csrNumber, G.number_law])) (mv_i rfl) rfl ?_
        refine wd_yes 42 rfl (by kernel_rfl) rfl rfl rfl rfl (yes_of (by simp [G.name_law, G.mask_law, G.read_law, G.write_law, G.compare_law, G.csrNumber, G.number_law])) (mv_32 rfl) rfl ?_
        refine wd_soY 39 rfl (by kernel_rfl) rfl rfl rfl rfl (yes_of (by simp [G.name_law, G.mask_law, G.read_law, G.write_law, G.compare_law, G.csrNumber, G.number_law])) rfl (so_callV (c_csr_Write _ _ _) gb17 (by rfl) ⟨⟨(by first | exact PH.le_refl _ | assumption | exact PH.le_trans (by assumption) (by assumption)), (inc_of (by repeat' (first | exact List.nil_sublist _ | apply List.Sublist.cons_cons | apply List.Sublist.cons))), .inr (inc_of (by repeat' (first | exact List.nil_sublist _ | apply List.Sublist.cons_cons | apply List.Sublist.cons)))⟩, ?_⟩)
        refine wd_soY 43 rfl (by kernel_rfl) rfl rfl rfl rfl (yes_of (by simp [G.name_law, G.mask_law, G.read_law, G.write_law, G.compare_law, G.csrNumber, G.number_law])) rfl (so_callV (c_ref04_Write _ _ _) gb18 (by rfl) ⟨⟨(by first | exact PH.le_refl _ | assumption | exact PH.le_trans (by assumption) (by assumption)), (inc_of (by repeat' (first | exact List.nil_sublist _ | apply List.Sublist.cons_cons | apply List.Sublist.cons))), .inr (inc_of (by repeat' (first | exact List.nil_sublist _ | apply List.Sublist.cons_cons | apply List.Sublist.cons)))⟩, ?_⟩)
        refine wd_yes 44 rfl (by kernel_rfl) rfl rfl rfl rfl (yes_of (by simp [G.name_law, G.mask_law, G.read_law, G.write_law, G.compare_law, G.csrNumber, G.number_law])) (roa_eql pe23 (eqf23 _ _ _) rfl rfl) rfl ?_
        refine wd_ro 45 rfl (by kernel_rfl) (ro_pickT rfl (by simp [G.name_law, G.mask_law, G.read_law, G.write_law, G.compare_law, G.csrNumber, G.number_law])) rfl ?_
        refine wd_ro 46 rfl (by kernel_rfl) (mv_b rfl) rfl ?_
        refine wd_yes 47 rfl (by kernel_rfl) rfl rfl rfl rfl (yes_of (by simp [G.name_law, G.mask_law, G.read_law, G.write_law, G.compare_law, G.csrNumber, G.number_law])) (ro_loadA ag23 rfl (by repeat (first | exact .head | apply Sel.tail)) (by rfl) (whole_V12 _)) rfl ?_
        refine wd_yes 49 rfl (by kernel_rfl) rfl rfl rfl rfl (yes_of (by simp [G.name_law, G.mask_law, G.read_law, G.write_law, G.compare_law, G.csrNumber, G.number_law])) (ro_loadA ag23 rfl (by repeat (first | exact .head | apply Sel.tail)) (by rfl) (whole_V12 _)) rfl ?_
        refine wd_soY 48 rfl (by kernel_rfl) rfl rfl rfl rfl (yes_of (by simp [G.name_law, G.mask_law, G.read_law, G.write_law, G.compare_law, G.csrNumber, G.number_law])) rfl (so_callV (c_csr_TimerCompare _) gb19 (by rfl) ⟨⟨(by first | exact PH.le_refl _ | assumption | exact PH.le_trans (by assumption) (by assumption)), (inc_of (by repeat' (first | exact List.nil_sublist _ | apply List.Sublist.cons_cons | apply List.Sublist.cons))), .inr (inc_of (by repeat' (first | exact List.nil_sublist _ | apply List.Sublist.cons_cons | apply List.Sublist.cons)))⟩, ?_⟩)
        refine wd_soY 50 rfl (by kernel_rfl) rfl rfl rfl rfl (yes_of (by simp [G.name_law, G.mask_law, G.read_law, G.write_law, G.compare_law, G.csrNumber, G.number_law])) rfl (so_callV (c_ref04_Compare _) gb20 (by rfl) ⟨⟨(by first | exact PH.le_refl _ | assumption | exact PH.le_trans (by assumption) (by assumption)), (inc_of (by repeat' (first | exact List.nil_sublist _ | apply List.Sublist.cons_cons | apply List.Sublist.cons))), .inr (inc_of (by repeat' (first | exact List.nil_sublist _ | apply List.Sublist.cons_cons | apply List.Sublist.cons)))⟩, ?_⟩)
        refine wd_yes 51 rfl (by kernel_rfl) rfl rfl rfl rfl (yes_of (by simp [G.name_law, G.mask_law, G.read_law, G.write_law, G.compare_law, G.csrNumber, G.number_law])) (ro64_eql rfl rfl) rfl ?_
        refine wd_ro 52 rfl (by kernel_rfl) (ro_pickT rfl (by simp [G.name_law, G.mask_law, G.read_law, G.write_law, G.compare_law, G.csrNumber, G.number_law])) rfl ?_
        refine wd_ro 53 rfl (by kernel_rfl) (mv_b rfl) rfl ?_
        refine wd_soY 54 rfl (by kernel_rfl) rfl rfl rfl rfl (yes_of (by simp [G.name_law, G.mask_law, G.read_law, G.write_law, G.compare_law, G.csrNumber, G.number_law])) rfl (so_callV (c_csr_Reset) gb21 (by rfl) ⟨⟨(by first | exact PH.le_refl _ | assumption | exact PH.le_trans (by assumption) (by assumption)), (inc_of (by repeat' (first | exact List.nil_sublist _ | apply List.Sublist.cons_cons | apply List.Sublist.cons))), .inr (inc_of (by repeat' (first | exact List.nil_sublist _ | apply List.Sublist.cons_cons | apply List.Sublist.cons)))⟩, ?_⟩)
        refine wd_soY 55 rfl (by kernel_rfl) rfl rfl rfl rfl (yes_of (by simp [G.name_law, G.mask_law, G.read_law, G.write_law, G.compare_law, G.csrNumber, G.number_law])) rfl (so_callV (c_ref04_Reset) gb22 (by rfl) ⟨⟨(by first | exact PH.le_refl _ | assumption | exact PH.le_trans (by assumption) (by assumption)), (inc_of (by repeat' (first | exact List.nil_sublist _ | apply List.Sublist.cons_cons | apply List.Sublist.cons))), .inr (inc_of (by repeat' (first | exact List.nil_sublist _ | apply List.Sublist.cons_cons | apply List.Sublist.cons)))⟩, ?_⟩)
        refine wd_yes 56 rfl (by kernel_rfl) rfl rfl rfl rfl (yes_of (by simp [G.name_law, G.mask_law, G.read_law, G.write_law, G.compare_law, G.csrNumber, G.number_law])) (roa_eql pe23 (eqf23 _ _ _) rfl rfl) rfl ?_
        refine wd_ro 57 rfl (by kernel_rfl) (ro_pickT rfl (by simp [G.name_law, G.mask_law, G.read_law, G.write_law, G.compare_law, G.csrNumber, G.number_law])) rfl ?_
        refine wd_ro 58 rfl (by kernel_rfl) (as_b rfl) rfl ?_
        refine wd_done (by kernel_rfl) ?_
        refine wq_then ?_
        refine xp_ret ?_
        refine fq_retV rfl (.cons (rv_b rfl) .nil) _ rfl ?_
        first | rfl | exact congrArg Value.bool (by kernel_rfl)
end Go.Proofs.YtnikheoiciokhaaDoor
