/-
  CONTRACTS OF GO FUNCTIONS (printed by gen.py, own work).
-/
import Derived.Test.YtnikheoiciokhaaDoorC7
namespace Go.Proofs.YtnikheoiciokhaaDoor
open Go Go.Sx
set_option linter.unusedVariables false
set_option maxRecDepth 20000
set_option linter.unusedSimpArgs false

theorem c_priv_Execute (s : MS) (mm mo : SV) (i : Sx.Instr) (hout : s.out.length ≤ 1099511627776) (h : PH) (hR : Rp h s mm mo) : CtR Tryd.prog 66 #[.agg (encMachine (mach s mm mo)), .agg (encInstr i)] h fun u h' => ∃ mo', u = .agg (encMachine (mach (G.privExecute s i) mm mo')) ∧ Rp h' (G.privExecute s i) mm mo' := by
  refine ctr_enter (n := 76) [.agg (encMachine (mach s mm mo)), .agg (encInstr i)] Tryd.func66 rfl rfl rfl fun w0 => ?_
  refine xp_seq ?_
  refine xp_region ?_
  refine wl_s rfl (so_boxA rfl fun b2 => ?_)
  refine wl_s rfl (so_boxA rfl fun b3 => ?_)
  refine wl_s rfl (so_allocA zr40 fun b4 => ?_)
  refine wl_nil ?_
  refine wq_then ?_
  refine xp_seq ?_
  refine xp_region ?_
  refine wl_ro (ro_fieldAddrC 0 fb40_0 rfl rfl) rfl ?_
  refine wl_ro (ro_fieldAddrC 0 fb37_0 rfl rfl) rfl ?_
  refine wl_ro (ro_loadA ag35 rfl (by repeat (first | exact .head | apply Sel.tail)) (by rfl) (get_Machine_core_regs _)) rfl ?_
  refine wl_ro (ro_fieldAddrC 2 fb75_2 rfl rfl) rfl ?_
  refine wl_ro (ro_load sc3 rfl (by repeat (first | exact .head | apply Sel.tail)) (get_Instr_ra _)) rfl ?_
  refine wl_s rfl (so_callV (c_regs_Get _ _) gb77 (by rfl) ?_)
  refine wl_ro (as_32 rfl) rfl ?_
  refine wl_nil ?_
  refine wq_then ?_
  refine xp_seq ?_
  refine xp_seq ?_
  refine xp_region ?_
  refine wl_ro (ro_fieldAddrC 0 fb75_0 rfl rfl) rfl ?_
  refine wl_ro (ro_load sc3 rfl (by repeat (first | exact .head | apply Sel.tail)) (get_Instr_op _)) rfl ?_
  refine wl_nil ?_
  refine wq_then ?_
  refine xp_block ?_
  refine xp_seq ?_
  refine xp_region ?_
  refine wl_ro (roI_eql rfl rfl) rfl ?_
  refine wl_ro (as_b rfl) rfl ?_
  refine wl_nil ?_
  refine wq_then ?_
  refine xp_cond _ rfl (fun c1 => ?_) (fun c1 => ?_)
  ·
    try simp only [decide_eq_true_eq, decide_eq_false_iff_not] at c1
    refine xp_seq ?_
    refine xp_region ?_
    refine wl_ro (ro_fieldAddrC 0 fb40_0 rfl rfl) rfl ?_
    refine wl_ro (ro_loadA ag37 rfl (by repeat (first | exact .head | apply Sel.tail)) (by rfl) (get_Machine_core _)) rfl ?_
    refine wl_s rfl (so_callV (c_trap_Return _) gb78 (by rfl) ?_)
    refine wl_ro (ro_fieldAddrC 0 fb40_0 rfl rfl) rfl ?_
    refine wl_s0 (so_storeP ag37 rfl rfl rfl (ones_Core _) (by repeat (first | exact .head | apply Sel.tail)) (by rfl) (set_Machine_core _ _) ?_)
    refine wl_nil ?_
    refine wq_then ?_
    refine xp_seq ?_
    refine xp_region ?_
    refine wl_ro (ro_loadA ag40 rfl (by repeat (first | exact .head | apply Sel.tail)) (by rfl) (whole_Machine _)) rfl ?_
    refine wl_s0 (so_storeA ag40 rfl rfl rfl (ones_Machine _) (by repeat (first | exact .head | apply Sel.tail)) rfl ?_)
    refine wl_nil ?_
    refine wq_then ?_
    refine xp_ret ?_
    refine wq_in_ret ?_
    refine wq_then_ret ?_
    refine fq_retR _ rfl (.cons (rv_cellA ag40 rfl (by repeat (first | exact .head | apply Sel.tail)) rfl) .nil) rfl ?_
    exact ⟨mo, by simp only [G.privExecute, if_pos c1]; rfl, by simp only [G.privExecute, if_pos c1]; exact ⟨hR.mem, hR.out⟩⟩
  ·
    try simp only [decide_eq_true_eq, decide_eq_false_iff_not] at c1
    refine xp_seq ?_
    refine xp_region ?_
    refine wl_ro (roI_eql rfl rfl) rfl ?_
    refine wl_ro (as_b rfl) rfl ?_
    refine wl_nil ?_
    refine wq_then ?_
    refine xp_cond _ rfl (fun c2 => ?_) (fun c2 => ?_)
    ·
      try simp only [decide_eq_true_eq, decide_eq_false_iff_not] at c2
      refine xp_draw [true, true, false] [17] mixed ?_
      refine wd_ro 0 rfl (by kernel_rfl) (ro_fieldAddrC 0 fb40_0 rfl rfl) rfl ?_
      refine wd_ro 1 rfl (by kernel_rfl) (ro_fieldAddrC 0 fb37_0 rfl rfl) rfl ?_
      refine wd_roW2 2 rfl (by kernel_rfl) (by kernel_rfl) (ro_loadA ag35 rfl (by repeat (first | exact .head | apply Sel.tail)) (by rfl) (get_Machine_core_regs _)) rfl ?_
      refine wd_ro 3 rfl (by kernel_rfl) (ro_fieldAddrC 1 fb75_1 rfl rfl) rfl ?_
      refine wd_ro 4 rfl (by kernel_rfl) (ro_load sc3 rfl (by repeat (first | exact .head | apply Sel.tail)) (get_Instr_rd _)) rfl ?_
      refine wd_ro 5 rfl (by kernel_rfl) (ro_fieldAddrC 0 fb40_0 rfl rfl) rfl ?_
      refine wd_ro 6 rfl (by kernel_rfl) (ro_fieldAddrC 17 fb37_2 rfl rfl) rfl ?_
      refine wd_roW2 7 rfl (by kernel_rfl) (by kernel_rfl) (ro_loadA ag23 rfl (by repeat (first | exact .head | apply Sel.tail)) (by rfl) (get_Machine_core_csr _)) rfl ?_
      refine wd_ro 8 rfl (by kernel_rfl) (ro_fieldAddrC 30 fb40_2 rfl rfl) rfl ?_
      refine wd_roW2 9 rfl (by kernel_rfl) (by kernel_rfl) (ro_load sc24 rfl (by repeat (first | exact .head | apply Sel.tail)) (get_Machine_time _)) rfl ?_
      refine wd_ro 10 rfl (by kernel_rfl) (ro_fieldAddrC 4 fb75_4 rfl rfl) rfl ?_
      refine wd_ro 11 rfl (by kernel_rfl) (ro_load sc21 rfl (by repeat (first | exact .head | apply Sel.tail)) (get_Instr_imm _)) rfl ?_
      refine wd_ro 12 rfl (by kernel_rfl) (cv_i32_i us21 ik3 rfl) rfl ?_
      refine wd_so 13 rfl (by kernel_rfl) rfl (so_callV (c_csr_Read _ _ _) gb15 (by rfl) ⟨⟨(by first | exact PH.le_refl _ | assumption | exact PH.le_trans (by assumption) (by assumption)), (inc_of (by repeat' (first | exact List.nil_sublist _ | apply List.Sublist.cons_cons | apply List.Sublist.cons))), .inr (inc_of (by repeat' (first | exact List.nil_sublist _ | apply List.Sublist.cons_cons | apply List.Sublist.cons)))⟩, ?_⟩)
      refine wd_so 14 rfl (by kernel_rfl) rfl (so_callV (c_regs_Set _ _ _) gb79 (by rfl) ⟨⟨(by first | exact PH.le_refl _ | assumption | exact PH.le_trans (by assumption) (by assumption)), (inc_of (by repeat' (first | exact List.nil_sublist _ | apply List.Sublist.cons_cons | apply List.Sublist.cons))), .inr (inc_of (by repeat' (first | exact List.nil_sublist _ | apply List.Sublist.cons_cons | apply List.Sublist.cons)))⟩, ?_⟩)
      refine wd_ro 15 rfl (by kernel_rfl) (ro_fieldAddrC 0 fb40_0 rfl rfl) rfl ?_
      refine wd_ro 16 rfl (by kernel_rfl) (ro_fieldAddrC 0 fb37_0 rfl rfl) rfl ?_
      refine wd_so0 17 rfl (by kernel_rfl) (so_storeP ag35 rfl rfl rfl (ones_V16 _) (by repeat (first | exact .head | apply Sel.tail)) (by rfl) (set_Machine_core_regs _ _) ⟨⟨(by first | exact PH.le_refl _ | assumption | exact PH.le_trans (by assumption) (by assumption)), (inc_of (by repeat' (first | exact List.nil_sublist _ | apply List.Sublist.cons_cons | apply List.Sublist.cons))), .inl (by kernel_rfl)⟩, ?_⟩)
      refine wd_done (by kernel_rfl) ?_
      refine wq_in ?_
      refine wq_then ?_
      refine xp_seq ?_
      refine xp_region ?_
      refine wl_ro (ro_fieldAddrC 0 fb40_0 rfl rfl) rfl ?_
      refine wl_ro (ro_loadA ag37 rfl (by repeat (first | exact .head | apply Sel.tail)) (by rfl) (get_Machine_core _)) rfl ?_
      refine wl_s rfl (so_callV (c_exec_Advance _ 4#32) gb80 (by rfl) ?_)
      refine wl_ro (ro_fieldAddrC 0 fb40_0 rfl rfl) rfl ?_
      refine wl_s0 (so_storeP ag37 rfl rfl rfl (ones_Core _) (by repeat (first | exact .head | apply Sel.tail)) (by rfl) (set_Machine_core _ _) ?_)
      refine wl_nil ?_
      refine wq_then ?_
      refine xp_seq ?_
      refine xp_region ?_
      refine wl_ro (ro_loadA ag40 rfl (by repeat (first | exact .head | apply Sel.tail)) (by rfl) (whole_Machine _)) rfl ?_
      refine wl_s0 (so_storeA ag40 rfl rfl rfl (ones_Machine _) (by repeat (first | exact .head | apply Sel.tail)) rfl ?_)
      refine wl_nil ?_
      refine wq_then ?_
      refine xp_ret ?_
      refine fq_retR _ rfl (.cons (rv_cellA ag40 rfl (by repeat (first | exact .head | apply Sel.tail)) rfl) .nil) rfl ?_
      exact ⟨mo, by simp only [G.privExecute, if_neg c1, if_pos c2]; rfl, by simp only [G.privExecute, if_neg c1, if_pos c2]; exact ⟨hR.mem, hR.out⟩⟩
    ·
      try simp only [decide_eq_true_eq, decide_eq_false_iff_not] at c2
      refine xp_seq ?_
      refine xp_region ?_
      refine wl_ro (roI_eql rfl rfl) rfl ?_
      refine wl_ro (as_b rfl) rfl ?_
      refine wl_nil ?_
      refine wq_then ?_
      refine xp_cond _ rfl (fun c3 => ?_) (fun c3 => ?_)
      ·
        try simp only [decide_eq_true_eq, decide_eq_false_iff_not] at c3
        refine xp_region ?_
        refine wl_ro (ro_fieldAddrC 0 fb40_0 rfl rfl) rfl ?_
        refine wl_ro (ro_fieldAddrC 17 fb37_2 rfl rfl) rfl ?_
        refine wl_ro (ro_loadA ag23 rfl (by repeat (first | exact .head | apply Sel.tail)) (by rfl) (get_Machine_core_csr _)) rfl ?_
        refine wl_ro (ro_fieldAddrC 4 fb75_4 rfl rfl) rfl ?_
        refine wl_ro (ro_load sc21 rfl (by repeat (first | exact .head | apply Sel.tail)) (get_Instr_imm _)) rfl ?_
        refine wl_ro (cv_i32_i us21 ik3 rfl) rfl ?_
        refine wl_ro (mv_32 rfl) rfl ?_
        refine wl_s rfl (so_callV (c_csr_Write _ _ _) gb17 (by rfl) ?_)
        refine wl_ro (ro_fieldAddrC 0 fb40_0 rfl rfl) rfl ?_
        refine wl_ro (ro_fieldAddrC 17 fb37_2 rfl rfl) rfl ?_
        refine wl_s0 (so_storeP ag23 rfl rfl rfl (ones_V12 _) (by repeat (first | exact .head | apply Sel.tail)) (by rfl) (set_Machine_core_csr _ _) ?_)
        refine wl_nil ?_
        refine wq_in ?_
        refine wq_then ?_
        refine xp_seq ?_
        refine xp_region ?_
        refine wl_ro (ro_fieldAddrC 0 fb40_0 rfl rfl) rfl ?_
        refine wl_ro (ro_loadA ag37 rfl (by repeat (first | exact .head | apply Sel.tail)) (by rfl) (get_Machine_core _)) rfl ?_
        refine wl_s rfl (so_callV (c_exec_Advance _ 4#32) gb80 (by rfl) ?_)
        refine wl_ro (ro_fieldAddrC 0 fb40_0 rfl rfl) rfl ?_
        refine wl_s0 (so_storeP ag37 rfl rfl rfl (ones_Core _) (by repeat (first | exact .head | apply Sel.tail)) (by rfl) (set_Machine_core _ _) ?_)
        refine wl_nil ?_
        refine wq_then ?_
        refine xp_seq ?_
        refine xp_region ?_
        refine wl_ro (ro_loadA ag40 rfl (by repeat (first | exact .head | apply Sel.tail)) (by rfl) (whole_Machine _)) rfl ?_
        refine wl_s0 (so_storeA ag40 rfl rfl rfl (ones_Machine _) (by repeat (first | exact .head | apply Sel.tail)) rfl ?_)
        refine wl_nil ?_
        refine wq_then ?_
        refine xp_ret ?_
        refine fq_retR _ rfl (.cons (rv_cellA ag40 rfl (by repeat (first | exact .head | apply Sel.tail)) rfl) .nil) rfl ?_
        exact ⟨mo, by simp only [G.privExecute, if_neg c1, if_neg c2, if_pos c3]; rfl, by simp only [G.privExecute, if_neg c1, if_neg c2, if_pos c3]; exact ⟨hR.mem, hR.out⟩⟩
      ·
        try simp only [decide_eq_true_eq, decide_eq_false_iff_not] at c3
        refine xp_seq ?_
        refine xp_region ?_
        refine wl_ro (roI_eql rfl rfl) rfl ?_
        refine wl_ro (as_b rfl) rfl ?_
        refine wl_nil ?_
        refine wq_then ?_
        refine xp_cond _ rfl (fun c4 => ?_) (fun c4 => ?_)
        ·
          try simp only [decide_eq_true_eq, decide_eq_false_iff_not] at c4
          refine xp_region ?_
          refine wl_ro (ro_fieldAddrC 32 fb40_4 rfl rfl) rfl ?_
          refine wl_s0 (so_store sc4 rfl rfl rfl (by repeat (first | exact .head | apply Sel.tail)) (by rfl) (set_Machine_halted _ _) ?_)
          refine wl_nil ?_
          refine wq_in ?_
          refine wq_then ?_
          refine xp_seq ?_
          refine xp_region ?_
          refine wl_ro (ro_fieldAddrC 0 fb40_0 rfl rfl) rfl ?_
          refine wl_ro (ro_loadA ag37 rfl (by repeat (first | exact .head | apply Sel.tail)) (by rfl) (get_Machine_core _)) rfl ?_
          refine wl_s rfl (so_callV (c_exec_Advance _ 4#32) gb80 (by rfl) ?_)
          refine wl_ro (ro_fieldAddrC 0 fb40_0 rfl rfl) rfl ?_
          refine wl_s0 (so_storeP ag37 rfl rfl rfl (ones_Core _) (by repeat (first | exact .head | apply Sel.tail)) (by rfl) (set_Machine_core _ _) ?_)
          refine wl_nil ?_
          refine wq_then ?_
          refine xp_seq ?_
          refine xp_region ?_
          refine wl_ro (ro_loadA ag40 rfl (by repeat (first | exact .head | apply Sel.tail)) (by rfl) (whole_Machine _)) rfl ?_
          refine wl_s0 (so_storeA ag40 rfl rfl rfl (ones_Machine _) (by repeat (first | exact .head | apply Sel.tail)) rfl ?_)
          refine wl_nil ?_
          refine wq_then ?_
          refine xp_ret ?_
          refine fq_retR _ rfl (.cons (rv_cellA ag40 rfl (by repeat (first | exact .head | apply Sel.tail)) rfl) .nil) rfl ?_
          exact ⟨mo, by simp only [G.privExecute, if_neg c1, if_neg c2, if_neg c3, if_pos c4]; rfl, by simp only [G.privExecute, if_neg c1, if_neg c2, if_neg c3, if_pos c4]; exact ⟨hR.mem, hR.out⟩⟩
        ·
          try simp only [decide_eq_true_eq, decide_eq_false_iff_not] at c4
          refine xp_seq ?_
          refine xp_region ?_
          refine wl_ro (roI_eql rfl rfl) rfl ?_
          refine wl_ro (as_b rfl) rfl ?_
          refine wl_nil ?_
          refine wq_then ?_
          refine xp_cond _ rfl (fun c5 => ?_) (fun c5 => ?_)
          ·
            try simp only [decide_eq_true_eq, decide_eq_false_iff_not] at c5
            refine xp_region ?_
            refine wl_ro (ro_fieldAddrC 31 fb40_3 rfl rfl) rfl ?_
            refine wl_ro (ro_load sc38 rfl (by repeat (first | exact .head | apply Sel.tail)) (get_Machine_out _)) rfl ?_
            refine wl_ro (ro_fieldAddrC 31 fb40_3 rfl rfl) rfl ?_
            refine wl_ro (ro_load sc38 rfl (by repeat (first | exact .head | apply Sel.tail)) (get_Machine_out _)) rfl ?_
            refine wl_ro (ro_len_slice sl38 rfl) rfl ?_
            refine wl_ro (ro_fieldAddrC 31 fb40_3 rfl rfl) rfl ?_
            refine wl_ro (ro_load sc38 rfl (by repeat (first | exact .head | apply Sel.tail)) (get_Machine_out _)) rfl ?_
            refine wl_ro (ro_len_slice sl38 rfl) rfl ?_
            refine wl_ro (ro_slice_fullB se38 hR.out rfl rfl rfl) rfl ?_
            refine wl_ro (mv_32 rfl) rfl ?_
            refine wl_ro (cv_32_8 us22 ik5 rfl) rfl ?_
            refine wl_s rfl (so_buildSlice1 (v := u8 ((G.regsGet s.core.regs i.ra).setWidth 8)) se38 rfl rfl rfl (by decide) (by decide) fun b68 => ?_)
            refine wl_s rfl (so_appendB se38 hR.out hout rfl rfl .head fun b69 cap zs hcap => ?_)
            refine wl_freeze .head (by simp) fun hz hle hz1 => ?_
            replace hR := hR.mono hle
            refine wl_ro (ro_fieldAddrC 31 fb40_3 rfl rfl) rfl ?_
            refine wl_s0 (so_store sc38 rfl rfl rfl (by repeat (first | exact .head | apply Sel.tail)) (by rfl) (set_Machine_out (v := ⟨_, _, _⟩) _ ) ?_)
            refine wl_nil ?_
            refine wq_in ?_
            refine wq_then ?_
            refine xp_seq ?_
            refine xp_region ?_
            refine wl_ro (ro_fieldAddrC 0 fb40_0 rfl rfl) rfl ?_
            refine wl_ro (ro_loadA ag37 rfl (by repeat (first | exact .head | apply Sel.tail)) (by rfl) (get_Machine_core _)) rfl ?_
            refine wl_s rfl (so_callV (c_exec_Advance _ 4#32) gb80 (by rfl) ?_)
            refine wl_ro (ro_fieldAddrC 0 fb40_0 rfl rfl) rfl ?_
            refine wl_s0 (so_storeP ag37 rfl rfl rfl (ones_Core _) (by repeat (first | exact .head | apply Sel.tail)) (by rfl) (set_Machine_core _ _) ?_)
            refine wl_nil ?_
            refine wq_then ?_
            refine xp_seq ?_
            refine xp_region ?_
            refine wl_ro (ro_loadA ag40 rfl (by repeat (first | exact .head | apply Sel.tail)) (by rfl) (whole_Machine _)) rfl ?_
            refine wl_s0 (so_storeA ag40 rfl rfl rfl (ones_Machine _) (by repeat (first | exact .head | apply Sel.tail)) rfl ?_)
            refine wl_nil ?_
            refine wq_then ?_
            refine xp_ret ?_
            refine fq_retR _ rfl (.cons (rv_cellA ag40 rfl (by repeat (first | exact .head | apply Sel.tail)) rfl) .nil) rfl ?_
            exact ⟨⟨some ⟨b69, 0, none⟩, s.out.length + 1, cap⟩, by simp only [G.privExecute, if_neg c1, if_neg c2, if_neg c3, if_neg c4, if_pos c5]; rfl, by simp only [G.privExecute, if_neg c1, if_neg c2, if_neg c3, if_neg c4, if_pos c5]; exact ⟨hR.mem, bytes_of hz1 rfl (by simp) hcap⟩⟩
          ·
            try simp only [decide_eq_true_eq, decide_eq_false_iff_not] at c5
            refine xp_skip ?_
            refine wq_in ?_
            refine wq_then ?_
            refine xp_seq ?_
            refine xp_region ?_
            refine wl_ro (ro_fieldAddrC 0 fb40_0 rfl rfl) rfl ?_
            refine wl_ro (ro_loadA ag37 rfl (by repeat (first | exact .head | apply Sel.tail)) (by rfl) (get_Machine_core _)) rfl ?_
            refine wl_s rfl (so_callV (c_exec_Advance _ 4#32) gb80 (by rfl) ?_)
            refine wl_ro (ro_fieldAddrC 0 fb40_0 rfl rfl) rfl ?_
            refine wl_s0 (so_storeP ag37 rfl rfl rfl (ones_Core _) (by repeat (first | exact .head | apply Sel.tail)) (by rfl) (set_Machine_core _ _) ?_)
            refine wl_nil ?_
            refine wq_then ?_
            refine xp_seq ?_
            refine xp_region ?_
            refine wl_ro (ro_loadA ag40 rfl (by repeat (first | exact .head | apply Sel.tail)) (by rfl) (whole_Machine _)) rfl ?_
            refine wl_s0 (so_storeA ag40 rfl rfl rfl (ones_Machine _) (by repeat (first | exact .head | apply Sel.tail)) rfl ?_)
            refine wl_nil ?_
            refine wq_then ?_
            refine xp_ret ?_
            refine fq_retR _ rfl (.cons (rv_cellA ag40 rfl (by repeat (first | exact .head | apply Sel.tail)) rfl) .nil) rfl ?_
            exact ⟨mo, by simp only [G.privExecute, if_neg c1, if_neg c2, if_neg c3, if_neg c4, if_neg c5]; rfl, by simp only [G.privExecute, if_neg c1, if_neg c2, if_neg c3, if_neg c4, if_neg c5]; exact ⟨hR.mem, hR.out⟩⟩
theorem c_step_Current_1 (b : Nat) (ok : Bool) (E : TypeId) : CtW (fun h => h b = some (.cells #[.bool ok] E (0, 0))) Tryd.prog 71 [.pointer (some ⟨b, 0, none⟩)] (.tuple #[.bool (!ok), int 1]) := by
  intro h hz
  refine ctr_enter (n := 5) [.pointer (some ⟨b, 0, none⟩)] Tryd.func71 rfl rfl rfl fun w0 => ?_
  refine xp_seq ?_
  refine xp_region ?_
  refine wl_ro (as_b rfl) rfl ?_
  refine wl_ro (as_i rfl) rfl ?_
  refine wl_nil ?_
  refine wq_then ?_
  refine xp_seq ?_
  refine xp_region ?_
  refine wl_ro (ro_loadH sc4 rfl hz rfl) rfl ?_
  refine wl_ro (ro_not rfl) rfl ?_
  refine wl_ro (as_b rfl) rfl ?_
  refine wl_ro (as_i rfl) rfl ?_
  refine wl_nil ?_
  refine wq_then ?_
  refine xp_ret ?_
  refine fq_retV rfl (.cons (rv_b rfl) (.cons (rv_i rfl) .nil)) _ rfl ?_
  rfl
theorem c_step_Current_2 (b b' : Nat) (i : Sx.Instr) (m : Sx.Machine) (E E' : TypeId) : CtW (fun h => h b = some (.cells (encInstr i) E (0, 0)) ∧ h b' = some (.cells (encMachine m) E' (0, 0))) Tryd.prog 72 [.pointer (some ⟨b, 0, none⟩), .pointer (some ⟨b', 0, none⟩)] (.tuple #[.bool (G.isPrivileged i.op && !G.isSupervisor m.core), int 2]) := by
  rintro h ⟨hz, hz'⟩
  refine ctr_enter (n := 13) [.pointer (some ⟨b, 0, none⟩), .pointer (some ⟨b', 0, none⟩)] Tryd.func72 rfl rfl rfl fun w0 => ?_
  refine xp_seq ?_
  refine xp_region ?_
  refine wl_ro (as_b rfl) rfl ?_
  refine wl_ro (as_i rfl) rfl ?_
  refine wl_nil ?_
  refine wq_then ?_
  refine xp_seq ?_
  refine xp_region ?_
  refine wl_ro (ro_fieldAddrC 0 fb75_0 rfl rfl) rfl ?_
  refine wl_ro (ro_loadH sc3 rfl hz (get_Instr_op _)) rfl ?_
  refine wl_s rfl (so_callV (c_isa_IsPrivileged _) gb65 (by rfl) ?_)
  refine wl_ro (mv_b rfl) rfl ?_
  refine wl_split (dj := 7) rfl (fun g1 => ?_) (fun g1 => ?_)
  ·
    refine wl_yes rfl rfl rfl rfl rfl (yes_of g1) (so_ro (ro_fieldAddrC 0 fb40_0 rfl rfl) ?_)
    refine wl_yes rfl rfl rfl rfl rfl (yes_of g1) (so_ro (ro_loadHA ag37 rfl hz' (by rfl) (get_Machine_core _)) ?_)
    refine wl_yes rfl rfl rfl rfl rfl (yes_of g1) (so_callV (c_trap_IsSupervisor _) gb73 (by rfl) ?_)
    refine wl_yes rfl rfl rfl rfl rfl (yes_of g1) (so_ro (ro_not rfl) ?_)
    refine wl_ro (ro_pickT rfl g1) rfl ?_
    refine wl_ro (as_b rfl) rfl ?_
    refine wl_ro (as_i rfl) rfl ?_
    refine wl_nil ?_
    refine wq_then ?_
    refine xp_ret ?_
    refine fq_retV rfl (.cons (rv_b rfl) (.cons (rv_i rfl) .nil)) _ rfl ?_
    simp_all
  ·
    refine wl_no rfl rfl rfl rfl rfl (no_of g1) ?_
    refine wl_no rfl rfl rfl rfl rfl (no_of g1) ?_
    refine wl_no rfl rfl rfl rfl rfl (no_of g1) ?_
    refine wl_no rfl rfl rfl rfl rfl (no_of g1) ?_
    refine wl_ro (ro_pickF rfl g1) rfl ?_
    refine wl_ro (as_b rfl) rfl ?_
    refine wl_ro (as_i rfl) rfl ?_
    refine wl_nil ?_
    refine wq_then ?_
    refine xp_ret ?_
    refine fq_retV rfl (.cons (rv_b rfl) (.cons (rv_i rfl) .nil)) _ rfl ?_
    simp_all
theorem c_step_Current (s : MS) (mm mo : SV) : CtW (fun h => Tb h ∧ Rp h s mm mo) Tryd.prog 61 [.agg (encMachine (mach s mm mo))] (.tuple #[.agg (encInstr (G.current s).1), .agg (encTrap (G.current s).2)]) := by
  rintro h ⟨hT, hR⟩
  refine ctr_enter (n := 50) [.agg (encMachine (mach s mm mo))] Tryd.func61 rfl rfl rfl fun w0 => ?_
  refine xp_seq ?_
  refine xp_region ?_
  refine wl_s rfl (so_boxA rfl fun b1 => ?_)
  refine wl_s rfl (so_allocA zr75 fun b2 => ?_)
  refine wl_s rfl (so_allocA zr65 fun b3 => ?_)
  refine wl_nil ?_
  refine wq_then ?_
  refine xp_seq ?_
  refine xp_region ?_
  refine wl_ro (ro_loadA ag40 rfl (by repeat (first | exact .head | apply Sel.tail)) (by rfl) (whole_Machine _)) rfl ?_
  refine wl_s rfl (so_callW (c_fetch_Fetch _ _ _) (by first | exact ⟨hT, hR⟩ | exact hT) gb69 (by rfl) ?_)
  refine wl_ro (mv_u rfl) rfl ?_
  refine wl_ro (ro_extract rfl rfl) rfl ?_
  refine wl_ro (ro_extract rfl rfl) rfl ?_
  refine wl_s rfl (so_allocA zr65 fun b5 => ?_)
  refine wl_ro (as_32 rfl) rfl ?_
  refine wl_s0 (so_storeA ag65 rfl rfl rfl (ones_Trap _) (by repeat (first | exact .head | apply Sel.tail)) rfl ?_)
  refine wl_nil ?_
  refine wq_then ?_
  refine xp_seq ?_
  refine xp_seq ?_
  refine xp_region ?_
  refine wl_ro (ro_fieldAddrC 0 fb65_0 rfl rfl) rfl ?_
  refine wl_ro (ro_load sc3 rfl (by repeat (first | exact .head | apply Sel.tail)) (get_Trap_cause _)) rfl ?_
  refine wl_ro (roI_neq rfl rfl) rfl ?_
  refine wl_nil ?_
  refine wq_then ?_
  refine xp_cond _ rfl (fun c1 => ?_) (fun c1 => ?_)
  ·
    try simp only [decide_eq_true_eq, decide_eq_false_iff_not, Bool.not_eq_true', Bool.not_eq_false'] at c1
    refine xp_seq ?_
    refine xp_draw [true, false, false, true] [2, 3] mixed ?_
    refine wd_ro 0 rfl (by kernel_rfl) (ro_buildS pl75 zr75 (build_Instr_ )) rfl ?_
    refine wd_ro 1 rfl (by kernel_rfl) (ro_loadA ag65 rfl (by repeat (first | exact .head | apply Sel.tail)) (by rfl) (whole_Trap _)) rfl ?_
    refine wd_so0 2 rfl (by kernel_rfl) (so_storeA ag75 rfl rfl rfl (ones_Instr _) (by repeat (first | exact .head | apply Sel.tail)) rfl ⟨⟨(by first | exact PH.le_refl _ | assumption | exact PH.le_trans (by assumption) (by assumption)), (inc_of (by repeat' (first | exact List.nil_sublist _ | apply List.Sublist.cons_cons | apply List.Sublist.cons))), .inl (by kernel_rfl)⟩, ?_⟩)
    refine wd_so0 3 rfl (by kernel_rfl) (so_storeA ag65 rfl rfl rfl (ones_Trap _) (by repeat (first | exact .head | apply Sel.tail)) rfl ⟨⟨(by first | exact PH.le_refl _ | assumption | exact PH.le_trans (by assumption) (by assumption)), (inc_of (by repeat' (first | exact List.nil_sublist _ | apply List.Sublist.cons_cons | apply List.Sublist.cons))), .inl (by kernel_rfl)⟩, ?_⟩)
    refine wd_done (by kernel_rfl) ?_
    refine wq_then ?_
    refine xp_ret ?_
    refine wq_then_ret ?_
    refine fq_retV rfl (.cons (rv_cellA ag75 rfl (by repeat (first | exact .head | apply Sel.tail)) rfl) (.cons (rv_cellA ag65 rfl (by repeat (first | exact .head | apply Sel.tail)) rfl) .nil)) _ rfl ?_
    simp only [G.current, if_neg c1]; rfl
  ·
    try simp only [decide_eq_true_eq, decide_eq_false_iff_not, Bool.not_eq_true', Bool.not_eq_false'] at c1
    refine xp_skip ?_
    refine wq_then ?_
    refine xp_seq ?_
    refine xp_region ?_
    refine wl_ro (mv_32 rfl) rfl ?_
    refine wl_s rfl (so_callW (c_isa_Decode _) (by first | exact ⟨hT, hR⟩ | exact hT) gb70 (by rfl) ?_)
    refine wl_ro (mv_u rfl) rfl ?_
    refine wl_ro (ro_extract rfl rfl) rfl ?_
    refine wl_ro (ro_extract rfl rfl) rfl ?_
    refine wl_s rfl (so_allocA zr75 fun b6 => ?_)
    refine wl_s rfl (so_allocS zr4 rfl fun b7 => ?_)
    refine wl_s0 (so_storeA ag75 rfl rfl rfl (ones_Instr _) (by repeat (first | exact .head | apply Sel.tail)) rfl ?_)
    refine wl_s0 (so_store sc4 rfl rfl rfl (by repeat (first | exact .head | apply Sel.tail)) (by rfl) (set1 _ _) ?_)
    refine wl_nil ?_
    refine wq_then ?_
    refine xp_seq ?_
    refine xp_freeze .head (by simp) fun hz2 hlez2 hzz2 => ?_
    replace hT := hT.mono hlez2
    replace hR := hR.mono hlez2
    refine xp_freeze .head (by simp) fun hz3 hlez3 hzz3 => ?_
    replace hT := hT.mono hlez3
    replace hR := hR.mono hlez3
    replace hzz2 := hlez3 _ _ hzz2
    refine xp_freeze (.tail (.tail (.tail .head))) (by simp) fun hz4 hlez4 hzz4 => ?_
    replace hT := hT.mono hlez4
    replace hR := hR.mono hlez4
    replace hzz2 := hlez4 _ _ hzz2
    replace hzz3 := hlez4 _ _ hzz3
    refine xp_region ?_
    refine wl_ro (ro_makeFuncL (fs := []) (cs := [.pointer (some ⟨b7, 0, none⟩)]) rfl rfl) rfl ?_
    refine wl_ro (ro_makeFuncL (fs := []) (cs := [.pointer (some ⟨b6, 0, none⟩), .pointer (some ⟨b1, 0, none⟩)]) rfl rfl) rfl ?_
    refine wl_s rfl (so_buildSliceC (cs := #[.func (.func 71) #[] #[.pointer (some ⟨b7, 0, none⟩)], .func (.func 72) #[] #[.pointer (some ⟨b6, 0, none⟩), .pointer (some ⟨b1, 0, none⟩)]]) se117 zr116 rfl rfl (by kernel_rfl) fun b30 => ?_)
    refine wl_ro (as_s rfl) rfl ?_
    refine wl_nil ?_
    refine wq_then ?_
    refine xp_seq ?_
    refine xp_seq ?_
    refine xp_region ?_
    refine wl_ro (mv_s rfl) rfl ?_
    refine wl_ro (ro_len_slice sl117 rfl) rfl ?_
    refine wl_ro (mv_i rfl) rfl ?_
    refine wl_nil ?_
    refine wq_then ?_
    refine xp_block ?_
    refine xp_loopP (ds := [])  (A := Nat) [10, 11, 12, 33, 34, 35, 36, 37, 38, 39, 40, 41, 42, 43, 44, 45, 46, 47] (fun j => 2 - j) (fun j => [(33, int (j : Int))]) (fun j => j ≤ 2 ∧ (1 ≤ j → (G.decode (G.fFetch s).1).2 = true) ∧ (2 ≤ j → (G.isPrivileged (G.decode (G.fFetch s).1).1.op && !G.isSupervisor s.core) = false)) 0 ⟨rfl, trivial⟩ ?_ ?_
    · exact ⟨by omega, fun hh => (by omega), fun hh => (by omega)⟩
    · rintro j us ⟨hj2, hok, hpr⟩
      refine xp_seq ?_
      refine xp_region ?_
      refine wl_ro (roI_lss rfl rfl) rfl ?_
      refine wl_nil ?_
      refine wq_then ?_
      refine xp_seq ?_
      refine xp_cond _ rfl (fun c5 => ?_) (fun c5 => ?_)
      ·
        try simp only [decide_eq_true_eq, decide_eq_false_iff_not, Bool.not_eq_true', Bool.not_eq_false'] at c5
        refine xp_skip ?_
        refine wq_then ?_
        refine xp_seq ?_
        refine xp_block ?_
        refine xp_seq ?_
        rcases (show j = 0 ∨ j = 1 by omega) with hj | hj
        ·
          refine xp_region ?_
          refine wl_ro (ro_indexAddr_s1 j sl117 rfl rfl rfl (by omega)) rfl ?_
          refine wl_ro (ro_load (v := .func (.func 71) #[] #[.pointer (some ⟨b7, 0, none⟩)]) sc116 rfl (by repeat (first | exact .head | apply Sel.tail)) (by rw [hj]; rfl)) rfl ?_
          refine wl_ro (as_f rfl) rfl ?_
          refine wl_nil ?_
          refine wq_then ?_
          refine xp_seq ?_
          refine xp_region ?_
          refine wl_ro (mv_f rfl) rfl ?_
          refine wl_s rfl (so_callFWC (first := #[]) (cap := #[.pointer (some ⟨b7, 0, none⟩)]) rfl (c_step_Current_1 b7 _ _) hzz2 gb71 (by rfl) ?_)
          refine wl_ro (mv_u rfl) rfl ?_
          refine wl_ro (ro_extract rfl rfl) rfl ?_
          refine wl_ro (ro_extract rfl rfl) rfl ?_
          refine wl_ro (as_b rfl) rfl ?_
          refine wl_ro (as_i rfl) rfl ?_
          refine wl_nil ?_
          refine wq_then ?_
          refine xp_seq ?_
          refine xp_region ?_
          refine wl_ro (mv_b rfl) rfl ?_
          refine wl_nil ?_
          refine wq_then ?_
          refine xp_cond _ rfl (fun c6 => ?_) (fun c6 => ?_)
          ·
            try simp only [decide_eq_true_eq, decide_eq_false_iff_not, Bool.not_eq_true', Bool.not_eq_false'] at c6
            refine xp_seq ?_
            refine xp_region ?_
            refine wl_ro (ro_buildS pl75 zr75 (build_Instr_ )) rfl ?_
            refine wl_ro (mv_i rfl) rfl ?_
            refine wl_ro (mv_32 rfl) rfl ?_
            refine wl_ro (ro_buildS pl65 zr65 (build_Trap_0_1 _ _)) rfl ?_
            refine wl_s0 (so_storeA ag75 rfl rfl rfl (ones_Instr _) (by repeat (first | exact .head | apply Sel.tail)) rfl ?_)
            refine wl_s0 (so_storeA ag65 rfl rfl rfl (ones_Trap _) (by repeat (first | exact .head | apply Sel.tail)) rfl ?_)
            refine wl_nil ?_
            refine wq_then ?_
            refine xp_ret ?_
            refine wq_in_ret ?_
            refine wq_then_ret ?_
            refine wq_then_ret ?_
            refine wq_in_ret ?_
            refine wq_then_ret ?_
            refine fq_retV rfl (.cons (rv_cellA ag75 rfl (by repeat (first | exact .head | apply Sel.tail)) rfl) (.cons (rv_cellA ag65 rfl (by repeat (first | exact .head | apply Sel.tail)) rfl) .nil)) _ rfl ?_
            simp_all [G.current]
          ·
            try simp only [decide_eq_true_eq, decide_eq_false_iff_not, Bool.not_eq_true', Bool.not_eq_false'] at c6
            refine xp_skip ?_
            refine wq_in ?_
            refine wq_then ?_
            refine xp_region ?_
            refine wl_ro (roI_add rfl rfl (by omega)) rfl ?_
            refine wl_ro (mv_i rfl) rfl ?_
            refine wl_nil ?_
            refine wq_loopP (j + 1) (by omega) (by repeat (first | exact out_ovr | refine out_upd rfl ?_)) ⟨slot_i rfl (by omega), trivial⟩ ?_
            exact ⟨by omega, by simp_all, by simp_all⟩
        ·
          refine xp_region ?_
          refine wl_ro (ro_indexAddr_s1 j sl117 rfl rfl rfl (by omega)) rfl ?_
          refine wl_ro (ro_load (v := .func (.func 72) #[] #[.pointer (some ⟨b6, 0, none⟩), .pointer (some ⟨b1, 0, none⟩)]) sc116 rfl (by repeat (first | exact .head | apply Sel.tail)) (by rw [hj]; rfl)) rfl ?_
          refine wl_ro (as_f rfl) rfl ?_
          refine wl_nil ?_
          refine wq_then ?_
          refine xp_seq ?_
          refine xp_region ?_
          refine wl_ro (mv_f rfl) rfl ?_
          refine wl_s rfl (so_callFWC (first := #[]) (cap := #[.pointer (some ⟨b6, 0, none⟩), .pointer (some ⟨b1, 0, none⟩)]) rfl (c_step_Current_2 b6 b1 _ _ _ _) ⟨hzz3, hzz4⟩ gb72 (by rfl) ?_)
          refine wl_ro (mv_u rfl) rfl ?_
          refine wl_ro (ro_extract rfl rfl) rfl ?_
          refine wl_ro (ro_extract rfl rfl) rfl ?_
          refine wl_ro (as_b rfl) rfl ?_
          refine wl_ro (as_i rfl) rfl ?_
          refine wl_nil ?_
          refine wq_then ?_
          refine xp_seq ?_
          refine xp_region ?_
          refine wl_ro (mv_b rfl) rfl ?_
          refine wl_nil ?_
          refine wq_then ?_
          refine xp_cond _ rfl (fun c7 => ?_) (fun c7 => ?_)
          ·
            try simp only [decide_eq_true_eq, decide_eq_false_iff_not, Bool.not_eq_true', Bool.not_eq_false'] at c7
            refine xp_seq ?_
            refine xp_region ?_
            refine wl_ro (ro_buildS pl75 zr75 (build_Instr_ )) rfl ?_
            refine wl_ro (mv_i rfl) rfl ?_
            refine wl_ro (mv_32 rfl) rfl ?_
            refine wl_ro (ro_buildS pl65 zr65 (build_Trap_0_1 _ _)) rfl ?_
            refine wl_s0 (so_storeA ag75 rfl rfl rfl (ones_Instr _) (by repeat (first | exact .head | apply Sel.tail)) rfl ?_)
            refine wl_s0 (so_storeA ag65 rfl rfl rfl (ones_Trap _) (by repeat (first | exact .head | apply Sel.tail)) rfl ?_)
            refine wl_nil ?_
            refine wq_then ?_
            refine xp_ret ?_
            refine wq_in_ret ?_
            refine wq_then_ret ?_
            refine wq_then_ret ?_
            refine wq_in_ret ?_
            refine wq_then_ret ?_
            refine fq_retV rfl (.cons (rv_cellA ag75 rfl (by repeat (first | exact .head | apply Sel.tail)) rfl) (.cons (rv_cellA ag65 rfl (by repeat (first | exact .head | apply Sel.tail)) rfl) .nil)) _ rfl ?_
            simp_all [G.current]
          ·
            try simp only [decide_eq_true_eq, decide_eq_false_iff_not, Bool.not_eq_true', Bool.not_eq_false'] at c7
            refine xp_skip ?_
            refine wq_in ?_
            refine wq_then ?_
            refine xp_region ?_
            refine wl_ro (roI_add rfl rfl (by omega)) rfl ?_
            refine wl_ro (mv_i rfl) rfl ?_
            refine wl_nil ?_
            refine wq_loopP (j + 1) (by omega) (by repeat (first | exact out_ovr | refine out_upd rfl ?_)) ⟨slot_i rfl (by omega), trivial⟩ ?_
            exact ⟨by omega, by simp_all, by simp_all⟩
      ·
        try simp only [decide_eq_true_eq, decide_eq_false_iff_not, Bool.not_eq_true', Bool.not_eq_false'] at c5
        refine xp_exit ?_
        refine wq_then_exit ?_
        refine wq_then_exit ?_
        refine wq_in_here ?_
        refine wq_then ?_
        refine xp_seq ?_
        refine xp_region ?_
        refine wl_ro (ro_loadHA ag75 rfl hzz3 (by rfl) (whole_Instr _)) rfl ?_
        refine wl_ro (ro_buildS pl65 zr65 (build_Trap_ )) rfl ?_
        refine wl_s0 (so_storeA ag75 rfl rfl rfl (ones_Instr _) (by repeat (first | exact .head | apply Sel.tail)) rfl ?_)
        refine wl_s0 (so_storeA ag65 rfl rfl rfl (ones_Trap _) (by repeat (first | exact .head | apply Sel.tail)) rfl ?_)
        refine wl_nil ?_
        refine wq_then ?_
        refine xp_ret ?_
        refine fq_retV rfl (.cons (rv_cellA ag75 rfl (by repeat (first | exact .head | apply Sel.tail)) rfl) (.cons (rv_cellA ag65 rfl (by repeat (first | exact .head | apply Sel.tail)) rfl) .nil)) _ rfl ?_
        have hx : G.current s = ((G.decode (G.fFetch s).1).1, Trap.zero) := by simp only [G.current, if_pos c1, if_pos (hok (by omega)), hpr (by omega), Bool.false_eq_true, if_false]
        rw [hx]; rfl
theorem c_step_end (m : Sx.Machine) (t : Trap) : CtV Tryd.prog 53 [.agg (encMachine m), .agg (encTrap t)] (.tuple #[.agg (encMachine { m with core := G.trapEnter m.core t, time := m.time + 1#64 }), .agg (encTrap t)]) := by
  intro h
  refine ctr_enter (n := 17) [.agg (encMachine m), .agg (encTrap t)] Tryd.func53 rfl rfl rfl fun w0 => ?_
  refine xp_seq ?_
  refine xp_region ?_
  refine wl_s rfl (so_boxA rfl fun b2 => ?_)
  refine wl_s rfl (so_boxA rfl fun b3 => ?_)
  refine wl_s rfl (so_allocA zr40 fun b4 => ?_)
  refine wl_s rfl (so_allocA zr65 fun b5 => ?_)
  refine wl_nil ?_
  refine wq_then ?_
  refine xp_seq ?_
  refine xp_region ?_
  refine wl_ro (ro_fieldAddrC 0 fb40_0 rfl rfl) rfl ?_
  refine wl_ro (ro_loadA ag37 rfl (by repeat (first | exact .head | apply Sel.tail)) (by rfl) (get_Machine_core _)) rfl ?_
  refine wl_ro (ro_loadA ag65 rfl (by repeat (first | exact .head | apply Sel.tail)) (by rfl) (whole_Trap _)) rfl ?_
  refine wl_s rfl (so_callV (c_trap_Enter _ _) gb64 (by rfl) ?_)
  refine wl_ro (ro_fieldAddrC 0 fb40_0 rfl rfl) rfl ?_
  refine wl_s0 (so_storeP ag37 rfl rfl rfl (ones_Core _) (by repeat (first | exact .head | apply Sel.tail)) (by rfl) (set_Machine_core _ _) ?_)
  refine wl_nil ?_
  refine wq_then ?_
  refine xp_seq ?_
  refine xp_region ?_
  refine wl_ro (ro_fieldAddrC 30 fb40_2 rfl rfl) rfl ?_
  refine wl_ro (ro_load sc24 rfl (by repeat (first | exact .head | apply Sel.tail)) (get_Machine_time _)) rfl ?_
  refine wl_ro (ro64_add (b := 1#64) rfl rfl) rfl ?_
  refine wl_ro (ro_fieldAddrC 30 fb40_2 rfl rfl) rfl ?_
  refine wl_s0 (so_store sc24 rfl rfl rfl (by repeat (first | exact .head | apply Sel.tail)) (by rfl) (set_Machine_time _ _) ?_)
  refine wl_nil ?_
  refine wq_then ?_
  refine xp_seq ?_
  refine xp_draw [false, false, true, true] [2, 3] mixed ?_
  refine wd_ro 0 rfl (by kernel_rfl) (ro_loadA ag40 rfl (by repeat (first | exact .head | apply Sel.tail)) (by rfl) (whole_Machine _)) rfl ?_
  refine wd_ro 1 rfl (by kernel_rfl) (ro_loadA ag65 rfl (by repeat (first | exact .head | apply Sel.tail)) (by rfl) (whole_Trap _)) rfl ?_
  refine wd_so0 2 rfl (by kernel_rfl) (so_storeA ag40 rfl rfl rfl (ones_Machine _) (by repeat (first | exact .head | apply Sel.tail)) rfl ⟨⟨(by first | exact PH.le_refl _ | assumption | exact PH.le_trans (by assumption) (by assumption)), (inc_of (by repeat' (first | exact List.nil_sublist _ | apply List.Sublist.cons_cons | apply List.Sublist.cons))), .inl (by kernel_rfl)⟩, ?_⟩)
  refine wd_so0 3 rfl (by kernel_rfl) (so_storeA ag65 rfl rfl rfl (ones_Trap _) (by repeat (first | exact .head | apply Sel.tail)) rfl ⟨⟨(by first | exact PH.le_refl _ | assumption | exact PH.le_trans (by assumption) (by assumption)), (inc_of (by repeat' (first | exact List.nil_sublist _ | apply List.Sublist.cons_cons | apply List.Sublist.cons))), .inl (by kernel_rfl)⟩, ?_⟩)
  refine wd_done (by kernel_rfl) ?_
  refine wq_then ?_
  refine xp_ret ?_
  refine fq_retV rfl (.cons (rv_cellA ag40 rfl (by repeat (first | exact .head | apply Sel.tail)) rfl) (.cons (rv_cellA ag65 rfl (by repeat (first | exact .head | apply Sel.tail)) rfl) .nil)) _ rfl ?_
  rfl
set_option maxHeartbeats 1000000 in
theorem c_step_StepNoTimer (s : MS) (mm mo : SV) (hmem : s.mem.length ≤ 1099511627776) (hout : s.out.length ≤ 1099511627776) (h : PH) (hT : Tb h) (hR : Rp h s mm mo) : CtR Tryd.prog 54 #[.agg (encMachine (mach s mm mo))] h fun u h' => ∃ mm' mo', u = .tuple #[.agg (encMachine (mach (G.stepNoTimer s).1 mm' mo')), .agg (encTrap (G.stepNoTimer s).2)] ∧ Rp h' (G.stepNoTimer s).1 mm' mo' := by
  refine ctr_enter (n := 43) [.agg (encMachine (mach s mm mo))] Tryd.func54 rfl rfl rfl fun w0 => ?_
  refine xp_seq ?_
  refine xp_region ?_
  refine wl_s rfl (so_boxA rfl fun b1 => ?_)
  refine wl_s rfl (so_allocA zr40 fun b2 => ?_)
  refine wl_s rfl (so_allocA zr65 fun b3 => ?_)
  refine wl_nil ?_
  refine wq_then ?_
  refine xp_seq ?_
  refine xp_seq ?_
  refine xp_region ?_
  refine wl_ro (ro_fieldAddrC 32 fb40_4 rfl rfl) rfl ?_
  refine wl_ro (ro_load sc4 rfl (by repeat (first | exact .head | apply Sel.tail)) (get_Machine_halted _)) rfl ?_
  refine wl_nil ?_
  refine wq_then ?_
  refine xp_cond _ rfl (fun c1 => ?_) (fun c1 => ?_)
  ·
    try simp only [decide_eq_true_eq, decide_eq_false_iff_not, Bool.not_eq_true', Bool.not_eq_false'] at c1
    refine xp_seq ?_
    refine xp_region ?_
    refine wl_ro (ro_loadA ag40 rfl (by repeat (first | exact .head | apply Sel.tail)) (by rfl) (whole_Machine _)) rfl ?_
    refine wl_ro (ro_buildS pl65 zr65 (build_Trap_ )) rfl ?_
    refine wl_s0 (so_storeA ag40 rfl rfl rfl (ones_Machine _) (by repeat (first | exact .head | apply Sel.tail)) rfl ?_)
    refine wl_s0 (so_storeA ag65 rfl rfl rfl (ones_Trap _) (by repeat (first | exact .head | apply Sel.tail)) rfl ?_)
    refine wl_nil ?_
    refine wq_then ?_
    refine xp_ret ?_
    refine wq_then_ret ?_
    refine fq_retR _ rfl (.cons (rv_cellA ag40 rfl (by repeat (first | exact .head | apply Sel.tail)) rfl) (.cons (rv_cellA ag65 rfl (by repeat (first | exact .head | apply Sel.tail)) rfl) .nil)) rfl ?_
    have hx : G.stepNoTimer s = (s, Trap.zero) := by simp only [G.stepNoTimer, if_pos c1]
    rw [hx]; exact ⟨mm, mo, rfl, hR⟩
  ·
    try simp only [decide_eq_true_eq, decide_eq_false_iff_not, Bool.not_eq_true', Bool.not_eq_false'] at c1
    refine xp_skip ?_
    refine wq_then ?_
    refine xp_seq ?_
    refine xp_region ?_
    refine wl_ro (ro_loadA ag40 rfl (by repeat (first | exact .head | apply Sel.tail)) (by rfl) (whole_Machine _)) rfl ?_
    refine wl_s rfl (so_callW (c_step_Current _ _ _) (by first | exact ⟨hT, hR⟩ | exact hT) gb61 (by rfl) ?_)
    refine wl_ro (mv_u rfl) rfl ?_
    refine wl_ro (ro_extract rfl rfl) rfl ?_
    refine wl_ro (ro_extract rfl rfl) rfl ?_
    refine wl_s rfl (so_allocA zr75 fun b4 => ?_)
    refine wl_s rfl (so_allocA zr65 fun b5 => ?_)
    refine wl_s0 (so_storeA ag75 rfl rfl rfl (ones_Instr _) (by repeat (first | exact .head | apply Sel.tail)) rfl ?_)
    refine wl_s0 (so_storeA ag65 rfl rfl rfl (ones_Trap _) (by repeat (first | exact .head | apply Sel.tail)) rfl ?_)
    refine wl_nil ?_
    refine wq_then ?_
    refine xp_seq ?_
    refine xp_block ?_
    refine xp_seq ?_
    refine xp_region ?_
    refine wl_ro (ro_fieldAddrC 0 fb65_0 rfl rfl) rfl ?_
    refine wl_ro (ro_load sc3 rfl (by repeat (first | exact .head | apply Sel.tail)) (get_Trap_cause _)) rfl ?_
    refine wl_ro (roI_neq rfl rfl) rfl ?_
    refine wl_ro (as_b rfl) rfl ?_
    refine wl_nil ?_
    refine wq_then ?_
    refine xp_cond _ rfl (fun c2 => ?_) (fun c2 => ?_)
    ·
      try simp only [decide_eq_true_eq, decide_eq_false_iff_not, Bool.not_eq_true', Bool.not_eq_false'] at c2
      refine xp_seq ?_
      refine xp_region ?_
      refine wl_ro (ro_loadA ag40 rfl (by repeat (first | exact .head | apply Sel.tail)) (by rfl) (whole_Machine _)) rfl ?_
      refine wl_ro (ro_loadA ag65 rfl (by repeat (first | exact .head | apply Sel.tail)) (by rfl) (whole_Trap _)) rfl ?_
      refine wl_s rfl (so_callV (c_step_end _ _) gb53 (by rfl) ?_)
      refine wl_ro (ro_extract rfl rfl) rfl ?_
      refine wl_ro (ro_extract rfl rfl) rfl ?_
      refine wl_s0 (so_storeA ag40 rfl rfl rfl (ones_Machine _) (by repeat (first | exact .head | apply Sel.tail)) rfl ?_)
      refine wl_s0 (so_storeA ag65 rfl rfl rfl (ones_Trap _) (by repeat (first | exact .head | apply Sel.tail)) rfl ?_)
      refine wl_nil ?_
      refine wq_then ?_
      refine xp_ret ?_
      refine wq_in_ret ?_
      refine wq_then_ret ?_
      refine fq_retR _ rfl (.cons (rv_cellA ag40 rfl (by repeat (first | exact .head | apply Sel.tail)) rfl) (.cons (rv_cellA ag65 rfl (by repeat (first | exact .head | apply Sel.tail)) rfl) .nil)) rfl ?_
      have hx : G.stepNoTimer s = G.stepEnd s (G.current s).2 := by simp only [G.stepNoTimer, if_neg (show ¬ s.halted = true by rw [c1]; decide), if_neg c2]
      rw [hx]; exact ⟨mm, mo, rfl, ⟨hR.mem, hR.out⟩⟩
    ·
      try simp only [decide_eq_true_eq, decide_eq_false_iff_not, Bool.not_eq_true', Bool.not_eq_false'] at c2
      refine xp_seq ?_
      refine xp_region ?_
      refine wl_ro (ro_fieldAddrC 0 fb75_0 rfl rfl) rfl ?_
      refine wl_ro (ro_load sc3 rfl (by repeat (first | exact .head | apply Sel.tail)) (get_Instr_op _)) rfl ?_
      refine wl_s rfl (so_callV (c_isa_IsPrivileged _) gb65 (by rfl) ?_)
      refine wl_ro (as_b rfl) rfl ?_
      refine wl_nil ?_
      refine wq_then ?_
      refine xp_cond _ rfl (fun c3 => ?_) (fun c3 => ?_)
      ·
        try simp only [decide_eq_true_eq, decide_eq_false_iff_not, Bool.not_eq_true', Bool.not_eq_false'] at c3
        refine xp_seq ?_
        refine xp_draw [true, true, false, false, true] [7, 8] mixed ?_
        refine wd_ro 0 rfl (by kernel_rfl) (ro_loadA ag40 rfl (by repeat (first | exact .head | apply Sel.tail)) (by rfl) (whole_Machine _)) rfl ?_
        refine wd_ro 1 rfl (by kernel_rfl) (ro_loadA ag75 rfl (by repeat (first | exact .head | apply Sel.tail)) (by rfl) (whole_Instr _)) rfl ?_
        refine wd_ro 3 rfl (by kernel_rfl) (ro_loadA ag65 rfl (by repeat (first | exact .head | apply Sel.tail)) (by rfl) (whole_Trap _)) rfl ?_
        refine wd_so 2 rfl (by kernel_rfl) rfl (so_callR (c_priv_Execute s mm mo _ hout _ hR) gb66 (by rfl) fun vq6 hq6 hlq6 hpq6 => ⟨⟨(by first | exact PH.le_refl _ | assumption | exact PH.le_trans (by assumption) (by assumption)), (inc_of (by repeat' (first | exact List.nil_sublist _ | apply List.Sublist.cons_cons | apply List.Sublist.cons))), .inr (inc_of (by repeat' (first | exact List.nil_sublist _ | apply List.Sublist.cons_cons | apply List.Sublist.cons)))⟩, ?_⟩)
        obtain ⟨mo1, rfl, hR1⟩ := hpq6
        refine wd_so 4 rfl (by kernel_rfl) rfl (so_callV (c_step_end _ _) gb53 (by rfl) ⟨⟨(by first | exact PH.le_refl _ | assumption | exact PH.le_trans (by assumption) (by assumption)), (inc_of (by repeat' (first | exact List.nil_sublist _ | apply List.Sublist.cons_cons | apply List.Sublist.cons))), .inr (inc_of (by repeat' (first | exact List.nil_sublist _ | apply List.Sublist.cons_cons | apply List.Sublist.cons)))⟩, ?_⟩)
        refine wd_ro 5 rfl (by kernel_rfl) (ro_extract rfl rfl) rfl ?_
        refine wd_ro 6 rfl (by kernel_rfl) (ro_extract rfl rfl) rfl ?_
        refine wd_so0 7 rfl (by kernel_rfl) (so_storeA ag40 rfl rfl rfl (ones_Machine _) (by repeat (first | exact .head | apply Sel.tail)) rfl ⟨⟨(by first | exact PH.le_refl _ | assumption | exact PH.le_trans (by assumption) (by assumption)), (inc_of (by repeat' (first | exact List.nil_sublist _ | apply List.Sublist.cons_cons | apply List.Sublist.cons))), .inl (by kernel_rfl)⟩, ?_⟩)
        refine wd_so0 8 rfl (by kernel_rfl) (so_storeA ag65 rfl rfl rfl (ones_Trap _) (by repeat (first | exact .head | apply Sel.tail)) rfl ⟨⟨(by first | exact PH.le_refl _ | assumption | exact PH.le_trans (by assumption) (by assumption)), (inc_of (by repeat' (first | exact List.nil_sublist _ | apply List.Sublist.cons_cons | apply List.Sublist.cons))), .inl (by kernel_rfl)⟩, ?_⟩)
        refine wd_done (by kernel_rfl) ?_
        refine wq_then ?_
        refine xp_ret ?_
        refine wq_in_ret ?_
        refine wq_then_ret ?_
        refine fq_retR _ rfl (.cons (rv_cellA ag40 rfl (by repeat (first | exact .head | apply Sel.tail)) rfl) (.cons (rv_cellA ag65 rfl (by repeat (first | exact .head | apply Sel.tail)) rfl) .nil)) rfl ?_
        have hx : G.stepNoTimer s = G.stepEnd (G.privExecute s (G.current s).1) (G.current s).2 := by simp only [G.stepNoTimer, if_neg (show ¬ s.halted = true by rw [c1]; decide), if_pos c2, if_pos c3]
        rw [hx]; exact ⟨mm, mo1, rfl, ⟨hR1.mem, hR1.out⟩⟩
      ·
        try simp only [decide_eq_true_eq, decide_eq_false_iff_not, Bool.not_eq_true', Bool.not_eq_false'] at c3
        refine xp_skip ?_
        refine wq_in ?_
        refine wq_then ?_
        refine xp_seq ?_
        refine xp_region ?_
        refine wl_ro (ro_loadA ag40 rfl (by repeat (first | exact .head | apply Sel.tail)) (by rfl) (whole_Machine _)) rfl ?_
        refine wl_ro (ro_loadA ag75 rfl (by repeat (first | exact .head | apply Sel.tail)) (by rfl) (whole_Instr _)) rfl ?_
        refine wl_s rfl (so_callR (c_exec_Execute s mm mo _ hmem _ hT hR) gb67 (by rfl) fun vq7 hq7 hlq7 hpq7 => ?_)
        obtain ⟨mm1, rfl, hR1⟩ := hpq7
        refine wl_ro (ro_extract rfl rfl) rfl ?_
        refine wl_ro (ro_extract rfl rfl) rfl ?_
        refine wl_s rfl (so_callV (c_step_end _ _) gb53 (by rfl) ?_)
        refine wl_ro (ro_extract rfl rfl) rfl ?_
        refine wl_ro (ro_extract rfl rfl) rfl ?_
        refine wl_s0 (so_storeA ag40 rfl rfl rfl (ones_Machine _) (by repeat (first | exact .head | apply Sel.tail)) rfl ?_)
        refine wl_s0 (so_storeA ag65 rfl rfl rfl (ones_Trap _) (by repeat (first | exact .head | apply Sel.tail)) rfl ?_)
        refine wl_nil ?_
        refine wq_then ?_
        refine xp_ret ?_
        refine fq_retR _ rfl (.cons (rv_cellA ag40 rfl (by repeat (first | exact .head | apply Sel.tail)) rfl) (.cons (rv_cellA ag65 rfl (by repeat (first | exact .head | apply Sel.tail)) rfl) .nil)) rfl ?_
        have hx : G.stepNoTimer s = G.stepEnd (G.execute s (G.current s).1).1 (G.execute s (G.current s).1).2 := by simp only [G.stepNoTimer, if_neg (show ¬ s.halted = true by rw [c1]; decide), if_pos c2, if_neg (show ¬ G.isPrivileged (G.current s).1.op = true by rw [c3]; decide)]
        rw [hx]; exact ⟨mm1, mo, rfl, ⟨hR1.mem, hR1.out⟩⟩
theorem c_step_Step (s : MS) (mm mo : SV) (hmem : s.mem.length ≤ 1099511627776) (hout : s.out.length ≤ 1099511627776) (h : PH) (hT : Tb h) (hR : Rp h s mm mo) : CtR Tryd.prog 42 #[.agg (encMachine (mach s mm mo))] h fun u h' => ∃ mm' mo', u = .tuple #[.agg (encMachine (mach (G.step s).1 mm' mo')), .agg (encTrap (G.step s).2)] ∧ Rp h' (G.step s).1 mm' mo' := by
  refine ctr_enter (n := 20) [.agg (encMachine (mach s mm mo))] Tryd.func42 rfl rfl rfl fun w0 => ?_
  refine xp_seq ?_
  refine xp_region ?_
  refine wl_s rfl (so_boxA rfl fun b1 => ?_)
  refine wl_s rfl (so_allocA zr40 fun b2 => ?_)
  refine wl_s rfl (so_allocA zr65 fun b3 => ?_)
  refine wl_nil ?_
  refine wq_then ?_
  refine xp_seq ?_
  refine xp_seq ?_
  refine xp_region ?_
  refine wl_ro (ro_fieldAddrC 32 fb40_4 rfl rfl) rfl ?_
  refine wl_ro (ro_load sc4 rfl (by repeat (first | exact .head | apply Sel.tail)) (get_Machine_halted _)) rfl ?_
  refine wl_ro (ro_not rfl) rfl ?_
  refine wl_ro (mv_b rfl) rfl ?_
  refine wl_split (dj := 7) rfl (fun g1 => ?_) (fun g1 => ?_)
  ·
    refine wl_yes rfl rfl rfl rfl rfl (yes_of g1) (so_ro (ro_loadA ag40 rfl (by repeat (first | exact .head | apply Sel.tail)) (by rfl) (whole_Machine _)) ?_)
    refine wl_yes rfl rfl rfl rfl rfl (yes_of g1) (so_callV (c_fetch_TimerPending _) gb52 (by rfl) ?_)
    refine wl_ro (ro_pickT rfl g1) rfl ?_
    refine wl_nil ?_
    refine wq_then ?_
    refine xp_cond _ rfl (fun c2 => ?_) (fun c2 => ?_)
    ·
      refine xp_seq ?_
      refine xp_region ?_
      refine wl_ro (ro_loadA ag40 rfl (by repeat (first | exact .head | apply Sel.tail)) (by rfl) (whole_Machine _)) rfl ?_
      refine wl_ro (ro_buildS pl65 zr65 (build_Trap_0 _)) rfl ?_
      refine wl_s rfl (so_callV (c_step_end _ _) gb53 (by rfl) ?_)
      refine wl_ro (ro_extract rfl rfl) rfl ?_
      refine wl_ro (ro_extract rfl rfl) rfl ?_
      refine wl_s0 (so_storeA ag40 rfl rfl rfl (ones_Machine _) (by repeat (first | exact .head | apply Sel.tail)) rfl ?_)
      refine wl_s0 (so_storeA ag65 rfl rfl rfl (ones_Trap _) (by repeat (first | exact .head | apply Sel.tail)) rfl ?_)
      refine wl_nil ?_
      refine wq_then ?_
      refine xp_ret ?_
      refine wq_then_ret ?_
      refine fq_retR _ rfl (.cons (rv_cellA ag40 rfl (by repeat (first | exact .head | apply Sel.tail)) rfl) (.cons (rv_cellA ag65 rfl (by repeat (first | exact .head | apply Sel.tail)) rfl) .nil)) rfl ?_
      have hx : G.step s = G.stepEnd s ⟨6, 0#32⟩ := by simp_all [G.step]
      rw [hx]; exact ⟨mm, mo, rfl, ⟨hR.mem, hR.out⟩⟩
    ·
      refine xp_skip ?_
      refine wq_then ?_
      refine xp_seq ?_
      refine xp_region ?_
      refine wl_ro (ro_loadA ag40 rfl (by repeat (first | exact .head | apply Sel.tail)) (by rfl) (whole_Machine _)) rfl ?_
      refine wl_s rfl (so_callR (c_step_StepNoTimer s mm mo hmem hout _ hT hR) gb54 (by rfl) fun vq3 hq3 hlq3 hpq3 => ?_)
      obtain ⟨mm1, mo1, rfl, hR1⟩ := hpq3
      refine wl_ro (ro_extract rfl rfl) rfl ?_
      refine wl_ro (ro_extract rfl rfl) rfl ?_
      refine wl_s0 (so_storeA ag40 rfl rfl rfl (ones_Machine _) (by repeat (first | exact .head | apply Sel.tail)) rfl ?_)
      refine wl_s0 (so_storeA ag65 rfl rfl rfl (ones_Trap _) (by repeat (first | exact .head | apply Sel.tail)) rfl ?_)
      refine wl_nil ?_
      refine wq_then ?_
      refine xp_ret ?_
      refine fq_retR _ rfl (.cons (rv_cellA ag40 rfl (by repeat (first | exact .head | apply Sel.tail)) rfl) (.cons (rv_cellA ag65 rfl (by repeat (first | exact .head | apply Sel.tail)) rfl) .nil)) rfl ?_
      have hx : G.step s = G.stepNoTimer s := by simp_all [G.step]
      rw [hx]; exact ⟨mm1, mo1, rfl, hR1⟩
  ·
    refine wl_no rfl rfl rfl rfl rfl (no_of g1) ?_
    refine wl_no rfl rfl rfl rfl rfl (no_of g1) ?_
    refine wl_ro (ro_pickF rfl g1) rfl ?_
    refine wl_nil ?_
    refine wq_then ?_
    refine xp_condF rfl rfl ?_
    refine xp_skip ?_
    refine wq_then ?_
    refine xp_seq ?_
    refine xp_region ?_
    refine wl_ro (ro_loadA ag40 rfl (by repeat (first | exact .head | apply Sel.tail)) (by rfl) (whole_Machine _)) rfl ?_
    refine wl_s rfl (so_callR (c_step_StepNoTimer s mm mo hmem hout _ hT hR) gb54 (by rfl) fun vq4 hq4 hlq4 hpq4 => ?_)
    obtain ⟨mm1, mo1, rfl, hR1⟩ := hpq4
    refine wl_ro (ro_extract rfl rfl) rfl ?_
    refine wl_ro (ro_extract rfl rfl) rfl ?_
    refine wl_s0 (so_storeA ag40 rfl rfl rfl (ones_Machine _) (by repeat (first | exact .head | apply Sel.tail)) rfl ?_)
    refine wl_s0 (so_storeA ag65 rfl rfl rfl (ones_Trap _) (by repeat (first | exact .head | apply Sel.tail)) rfl ?_)
    refine wl_nil ?_
    refine wq_then ?_
    refine xp_ret ?_
    refine fq_retR _ rfl (.cons (rv_cellA ag40 rfl (by repeat (first | exact .head | apply Sel.tail)) rfl) (.cons (rv_cellA ag65 rfl (by repeat (first | exact .head | apply Sel.tail)) rfl) .nil)) rfl ?_
    have hx : G.step s = G.stepNoTimer s := by simp_all [G.step]
    rw [hx]; exact ⟨mm1, mo1, rfl, hR1⟩
end Go.Proofs.YtnikheoiciokhaaDoor
