/-
  CONTRACTS OF GO FUNCTIONS (printed by gen.py, own work).
-/
import Derived.Test.YtnikheoiciokhaaDoorC6
namespace Go.Proofs.YtnikheoiciokhaaDoor
open Go Go.Sx
set_option linter.unusedVariables false
set_option maxRecDepth 20000
set_option linter.unusedSimpArgs false

theorem c_exec_step_load (b : Nat) (s : MS) (mm mo : SV) (i : Sx.Instr) (x y z : BitVec 32) (tr : Trap) : CtM (fun h => Tb h ∧ Rp h s mm mo) Tryd.prog 83 [.pointer (some ⟨b, 0, none⟩)] b (.cells (encStep (⟨mach s mm mo, i, x, y, z, tr⟩ : Sx.Step)) 130 (0, 0)) (.cells (encStep (⟨mach (if (G.fLoad s (x + i.imm) (G.xSize i.op)).2.cause = 0 then { s with core := G.xPut s.core i.rd (G.fLoad s (x + i.imm) (G.xSize i.op)).1 } else s) mm mo, i, x, y, z, (G.fLoad s (x + i.imm) (G.xSize i.op)).2⟩ : Sx.Step)) 130 (0, 0)) (.tuple #[]) := by
  rintro h ⟨hT, hR⟩
  refine ct1_enter (n := 26) [.pointer (some ⟨b, 0, none⟩)] Tryd.func83 rfl rfl rfl fun w0 hb0 => ?_
  refine xp_seq ?_
  refine xp_draw [true] [14] mixed ?_
  refine wd_ro 0 rfl (by kernel_rfl) (mv_p rfl) rfl ?_
  refine wd_ro 1 rfl (by kernel_rfl) (ro_nilCheck rfl) rfl ?_
  refine wd_ro 2 rfl (by kernel_rfl) (ro_fieldAddrC 0 fb130_0 rfl rfl) rfl ?_
  refine wd_ro 3 rfl (by kernel_rfl) (ro_loadA ag40 rfl (by repeat (first | exact .head | apply Sel.tail)) (by rfl) (get_Step_m _)) rfl ?_
  refine wd_ro 4 rfl (by kernel_rfl) (mv_p rfl) rfl ?_
  refine wd_ro 6 rfl (by kernel_rfl) (mv_p rfl) rfl ?_
  refine wd_pick2 (i := 5) (j := 12) (by kernel_rfl) ?_ ?_
  ·
    refine one_so 5 rfl rfl (so_callMV (c_exec_step_at _ _) (by first | trivial | exact ⟨hT, hR⟩) gb98 (by rfl) .head ⟨⟨(by first | exact PH.le_refl _ | assumption | exact PH.le_trans (by assumption) (by assumption)), (inc_of (by repeat' (first | exact List.nil_sublist _ | apply List.Sublist.cons_cons | apply List.Sublist.cons))), .inr (inc_of (by repeat' (first | exact List.nil_sublist _ | apply List.Sublist.cons_cons | apply List.Sublist.cons)))⟩, ?_⟩)
    refine wd_pick2 (i := 7) (j := 12) (by kernel_rfl) ?_ ?_
    ·
      refine one_so 7 rfl rfl (so_callMV (c_exec_step_size _ _) (by first | trivial | exact ⟨hT, hR⟩) gb99 (by rfl) .head ⟨⟨(by first | exact PH.le_refl _ | assumption | exact PH.le_trans (by assumption) (by assumption)), (inc_of (by repeat' (first | exact List.nil_sublist _ | apply List.Sublist.cons_cons | apply List.Sublist.cons))), .inr (inc_of (by repeat' (first | exact List.nil_sublist _ | apply List.Sublist.cons_cons | apply List.Sublist.cons)))⟩, ?_⟩)
      refine wd_pick2 (i := 8) (j := 12) (by kernel_rfl) ?_ ?_
      ·
        refine one_so 8 rfl rfl (so_callW (c_fetch_Load s mm mo _ _ (G.xSize_ne _) (G.xSize_le _)) (by first | trivial | exact ⟨hT, hR⟩) gb90 (by rfl) ⟨⟨(by first | exact PH.le_refl _ | assumption | exact PH.le_trans (by assumption) (by assumption)), (inc_of (by repeat' (first | exact List.nil_sublist _ | apply List.Sublist.cons_cons | apply List.Sublist.cons))), .inr (inc_of (by repeat' (first | exact List.nil_sublist _ | apply List.Sublist.cons_cons | apply List.Sublist.cons)))⟩, ?_⟩)
        refine wd_ro 9 rfl (by kernel_rfl) (mv_u rfl) rfl ?_
        refine wd_ro 10 rfl (by kernel_rfl) (ro_extract rfl rfl) rfl ?_
        refine wd_ro 11 rfl (by kernel_rfl) (ro_extract rfl rfl) rfl ?_
        refine wd_so 12 rfl (by kernel_rfl) rfl (so_allocA zr65 fun b3 => ⟨⟨(by first | exact PH.le_refl _ | assumption | exact PH.le_trans (by assumption) (by assumption)), (inc_of (by repeat' (first | exact List.nil_sublist _ | apply List.Sublist.cons_cons | apply List.Sublist.cons))), .inr (inc_of (by repeat' (first | exact List.nil_sublist _ | apply List.Sublist.cons_cons | apply List.Sublist.cons)))⟩, ?_⟩)
        refine wd_ro 13 rfl (by kernel_rfl) (as_32 rfl) rfl ?_
        refine wd_so0 14 rfl (by kernel_rfl) (so_storeA ag65 rfl rfl rfl (ones_Trap _) (by repeat (first | exact .head | apply Sel.tail)) rfl ⟨⟨(by first | exact PH.le_refl _ | assumption | exact PH.le_trans (by assumption) (by assumption)), (inc_of (by repeat' (first | exact List.nil_sublist _ | apply List.Sublist.cons_cons | apply List.Sublist.cons))), .inl (by kernel_rfl)⟩, ?_⟩)
        refine wd_done (by kernel_rfl) ?_
        refine wq_then ?_
        refine xp_seq ?_
        refine xp_region ?_
        refine wl_ro (mv_p rfl) rfl ?_
        refine wl_ro (ro_loadA ag65 rfl (by repeat (first | exact .head | apply Sel.tail)) (by rfl) (whole_Trap _)) rfl ?_
        refine wl_ro (ro_nilCheck rfl) rfl ?_
        refine wl_ro (ro_fieldAddrC 41 fb130_5 rfl rfl) rfl ?_
        refine wl_s0 (so_storeP ag65 rfl rfl rfl (ones_Trap _) (by repeat (first | exact .head | apply Sel.tail)) (by rfl) (set_Step_trap _ _) ?_)
        refine wl_nil ?_
        refine wq_then ?_
        refine xp_seq ?_
        refine xp_region ?_
        refine wl_ro (ro_fieldAddrC 0 fb65_0 rfl rfl) rfl ?_
        refine wl_ro (ro_load sc3 rfl (by repeat (first | exact .head | apply Sel.tail)) (get_Trap_cause _)) rfl ?_
        refine wl_ro (roI_eql rfl rfl) rfl ?_
        refine wl_nil ?_
        refine wq_then ?_
        refine xp_cond _ rfl (fun c1 => ?_) (fun c1 => ?_)
        ·
          try simp only [decide_eq_true_eq, decide_eq_false_iff_not] at c1
          have hc := c1
          refine xp_region ?_
          refine wl_ro (mv_p rfl) rfl ?_
          refine wl_ro (mv_32 rfl) rfl ?_
          refine wl_s rfl (so_callMV (c_exec_step_put _ _ _) (by first | trivial | exact ⟨hT, hR⟩) gb97 (by rfl) (.tail .head) ?_)
          refine wl_nil ?_
          refine fq_end1 ?_
          refine fq_retM rfl .nil _ rfl (by repeat (first | exact List.Sublist.cons_cons _ (List.nil_sublist _) | apply List.Sublist.cons)) ?_ ?_
          · rfl
          · simp only [hc, if_true, if_false]; try rfl
        ·
          try simp only [decide_eq_true_eq, decide_eq_false_iff_not] at c1
          have hc := c1
          refine xp_skip ?_
          refine fq_end1 ?_
          refine fq_retM rfl .nil _ rfl (by repeat (first | exact List.Sublist.cons_cons _ (List.nil_sublist _) | apply List.Sublist.cons)) ?_ ?_
          · rfl
          · simp only [hc, if_true, if_false]; try rfl
      ·
        refine one_so 12 rfl rfl (so_allocA zr65 fun b3 => ⟨⟨(by first | exact PH.le_refl _ | assumption | exact PH.le_trans (by assumption) (by assumption)), (inc_of (by repeat' (first | exact List.nil_sublist _ | apply List.Sublist.cons_cons | apply List.Sublist.cons))), .inr (inc_of (by repeat' (first | exact List.nil_sublist _ | apply List.Sublist.cons_cons | apply List.Sublist.cons)))⟩, ?_⟩)
        refine wd_so 8 rfl (by kernel_rfl) rfl (so_callW (c_fetch_Load s mm mo _ _ (G.xSize_ne _) (G.xSize_le _)) (by first | trivial | exact ⟨hT, hR⟩) gb90 (by rfl) ⟨⟨(by first | exact PH.le_refl _ | assumption | exact PH.le_trans (by assumption) (by assumption)), (inc_of (by repeat' (first | exact List.nil_sublist _ | apply List.Sublist.cons_cons | apply List.Sublist.cons))), .inr (inc_of (by repeat' (first | exact List.nil_sublist _ | apply List.Sublist.cons_cons | apply List.Sublist.cons)))⟩, ?_⟩)
        refine wd_ro 9 rfl (by kernel_rfl) (mv_u rfl) rfl ?_
        refine wd_ro 10 rfl (by kernel_rfl) (ro_extract rfl rfl) rfl ?_
        refine wd_ro 11 rfl (by kernel_rfl) (ro_extract rfl rfl) rfl ?_
        refine wd_ro 13 rfl (by kernel_rfl) (as_32 rfl) rfl ?_
        refine wd_so0 14 rfl (by kernel_rfl) (so_storeA ag65 rfl rfl rfl (ones_Trap _) (by repeat (first | exact .head | apply Sel.tail)) rfl ⟨⟨(by first | exact PH.le_refl _ | assumption | exact PH.le_trans (by assumption) (by assumption)), (inc_of (by repeat' (first | exact List.nil_sublist _ | apply List.Sublist.cons_cons | apply List.Sublist.cons))), .inl (by kernel_rfl)⟩, ?_⟩)
        refine wd_done (by kernel_rfl) ?_
        refine wq_then ?_
        refine xp_seq ?_
        refine xp_region ?_
        refine wl_ro (mv_p rfl) rfl ?_
        refine wl_ro (ro_loadA ag65 rfl (by repeat (first | exact .head | apply Sel.tail)) (by rfl) (whole_Trap _)) rfl ?_
        refine wl_ro (ro_nilCheck rfl) rfl ?_
        refine wl_ro (ro_fieldAddrC 41 fb130_5 rfl rfl) rfl ?_
        refine wl_s0 (so_storeP ag65 rfl rfl rfl (ones_Trap _) (by repeat (first | exact .head | apply Sel.tail)) (by rfl) (set_Step_trap _ _) ?_)
        refine wl_nil ?_
        refine wq_then ?_
        refine xp_seq ?_
        refine xp_region ?_
        refine wl_ro (ro_fieldAddrC 0 fb65_0 rfl rfl) rfl ?_
        refine wl_ro (ro_load sc3 rfl (by repeat (first | exact .head | apply Sel.tail)) (get_Trap_cause _)) rfl ?_
        refine wl_ro (roI_eql rfl rfl) rfl ?_
        refine wl_nil ?_
        refine wq_then ?_
        refine xp_cond _ rfl (fun c2 => ?_) (fun c2 => ?_)
        ·
          try simp only [decide_eq_true_eq, decide_eq_false_iff_not] at c2
          have hc := c2
          refine xp_region ?_
          refine wl_ro (mv_p rfl) rfl ?_
          refine wl_ro (mv_32 rfl) rfl ?_
          refine wl_s rfl (so_callMV (c_exec_step_put _ _ _) (by first | trivial | exact ⟨hT, hR⟩) gb97 (by rfl) (.tail .head) ?_)
          refine wl_nil ?_
          refine fq_end1 ?_
          refine fq_retM rfl .nil _ rfl (by repeat (first | exact List.Sublist.cons_cons _ (List.nil_sublist _) | apply List.Sublist.cons)) ?_ ?_
          · rfl
          · simp only [hc, if_true, if_false]; try rfl
        ·
          try simp only [decide_eq_true_eq, decide_eq_false_iff_not] at c2
          have hc := c2
          refine xp_skip ?_
          refine fq_end1 ?_
          refine fq_retM rfl .nil _ rfl (by repeat (first | exact List.Sublist.cons_cons _ (List.nil_sublist _) | apply List.Sublist.cons)) ?_ ?_
          · rfl
          · simp only [hc, if_true, if_false]; try rfl
    ·
      refine one_so 12 rfl rfl (so_allocA zr65 fun b3 => ⟨⟨(by first | exact PH.le_refl _ | assumption | exact PH.le_trans (by assumption) (by assumption)), (inc_of (by repeat' (first | exact List.nil_sublist _ | apply List.Sublist.cons_cons | apply List.Sublist.cons))), .inr (inc_of (by repeat' (first | exact List.nil_sublist _ | apply List.Sublist.cons_cons | apply List.Sublist.cons)))⟩, ?_⟩)
      refine wd_so 7 rfl (by kernel_rfl) rfl (so_callMV (c_exec_step_size _ _) (by first | trivial | exact ⟨hT, hR⟩) gb99 (by rfl) (.tail .head) ⟨⟨(by first | exact PH.le_refl _ | assumption | exact PH.le_trans (by assumption) (by assumption)), (inc_of (by repeat' (first | exact List.nil_sublist _ | apply List.Sublist.cons_cons | apply List.Sublist.cons))), .inr (inc_of (by repeat' (first | exact List.nil_sublist _ | apply List.Sublist.cons_cons | apply List.Sublist.cons)))⟩, ?_⟩)
      refine wd_so 8 rfl (by kernel_rfl) rfl (so_callW (c_fetch_Load s mm mo _ _ (G.xSize_ne _) (G.xSize_le _)) (by first | trivial | exact ⟨hT, hR⟩) gb90 (by rfl) ⟨⟨(by first | exact PH.le_refl _ | assumption | exact PH.le_trans (by assumption) (by assumption)), (inc_of (by repeat' (first | exact List.nil_sublist _ | apply List.Sublist.cons_cons | apply List.Sublist.cons))), .inr (inc_of (by repeat' (first | exact List.nil_sublist _ | apply List.Sublist.cons_cons | apply List.Sublist.cons)))⟩, ?_⟩)
      refine wd_ro 9 rfl (by kernel_rfl) (mv_u rfl) rfl ?_
      refine wd_ro 10 rfl (by kernel_rfl) (ro_extract rfl rfl) rfl ?_
      refine wd_ro 11 rfl (by kernel_rfl) (ro_extract rfl rfl) rfl ?_
      refine wd_ro 13 rfl (by kernel_rfl) (as_32 rfl) rfl ?_
      refine wd_so0 14 rfl (by kernel_rfl) (so_storeA ag65 rfl rfl rfl (ones_Trap _) (by repeat (first | exact .head | apply Sel.tail)) rfl ⟨⟨(by first | exact PH.le_refl _ | assumption | exact PH.le_trans (by assumption) (by assumption)), (inc_of (by repeat' (first | exact List.nil_sublist _ | apply List.Sublist.cons_cons | apply List.Sublist.cons))), .inl (by kernel_rfl)⟩, ?_⟩)
      refine wd_done (by kernel_rfl) ?_
      refine wq_then ?_
      refine xp_seq ?_
      refine xp_region ?_
      refine wl_ro (mv_p rfl) rfl ?_
      refine wl_ro (ro_loadA ag65 rfl (by repeat (first | exact .head | apply Sel.tail)) (by rfl) (whole_Trap _)) rfl ?_
      refine wl_ro (ro_nilCheck rfl) rfl ?_
      refine wl_ro (ro_fieldAddrC 41 fb130_5 rfl rfl) rfl ?_
      refine wl_s0 (so_storeP ag65 rfl rfl rfl (ones_Trap _) (by repeat (first | exact .head | apply Sel.tail)) (by rfl) (set_Step_trap _ _) ?_)
      refine wl_nil ?_
      refine wq_then ?_
      refine xp_seq ?_
      refine xp_region ?_
      refine wl_ro (ro_fieldAddrC 0 fb65_0 rfl rfl) rfl ?_
      refine wl_ro (ro_load sc3 rfl (by repeat (first | exact .head | apply Sel.tail)) (get_Trap_cause _)) rfl ?_
      refine wl_ro (roI_eql rfl rfl) rfl ?_
      refine wl_nil ?_
      refine wq_then ?_
      refine xp_cond _ rfl (fun c3 => ?_) (fun c3 => ?_)
      ·
        try simp only [decide_eq_true_eq, decide_eq_false_iff_not] at c3
        have hc := c3
        refine xp_region ?_
        refine wl_ro (mv_p rfl) rfl ?_
        refine wl_ro (mv_32 rfl) rfl ?_
        refine wl_s rfl (so_callMV (c_exec_step_put _ _ _) (by first | trivial | exact ⟨hT, hR⟩) gb97 (by rfl) (.tail .head) ?_)
        refine wl_nil ?_
        refine fq_end1 ?_
        refine fq_retM rfl .nil _ rfl (by repeat (first | exact List.Sublist.cons_cons _ (List.nil_sublist _) | apply List.Sublist.cons)) ?_ ?_
        · rfl
        · simp only [hc, if_true, if_false]; try rfl
      ·
        try simp only [decide_eq_true_eq, decide_eq_false_iff_not] at c3
        have hc := c3
        refine xp_skip ?_
        refine fq_end1 ?_
        refine fq_retM rfl .nil _ rfl (by repeat (first | exact List.Sublist.cons_cons _ (List.nil_sublist _) | apply List.Sublist.cons)) ?_ ?_
        · rfl
        · simp only [hc, if_true, if_false]; try rfl
  ·
    refine one_so 12 rfl rfl (so_allocA zr65 fun b3 => ⟨⟨(by first | exact PH.le_refl _ | assumption | exact PH.le_trans (by assumption) (by assumption)), (inc_of (by repeat' (first | exact List.nil_sublist _ | apply List.Sublist.cons_cons | apply List.Sublist.cons))), .inr (inc_of (by repeat' (first | exact List.nil_sublist _ | apply List.Sublist.cons_cons | apply List.Sublist.cons)))⟩, ?_⟩)
    refine wd_so 5 rfl (by kernel_rfl) rfl (so_callMV (c_exec_step_at _ _) (by first | trivial | exact ⟨hT, hR⟩) gb98 (by rfl) (.tail .head) ⟨⟨(by first | exact PH.le_refl _ | assumption | exact PH.le_trans (by assumption) (by assumption)), (inc_of (by repeat' (first | exact List.nil_sublist _ | apply List.Sublist.cons_cons | apply List.Sublist.cons))), .inr (inc_of (by repeat' (first | exact List.nil_sublist _ | apply List.Sublist.cons_cons | apply List.Sublist.cons)))⟩, ?_⟩)
    refine wd_so 7 rfl (by kernel_rfl) rfl (so_callMV (c_exec_step_size _ _) (by first | trivial | exact ⟨hT, hR⟩) gb99 (by rfl) (.tail .head) ⟨⟨(by first | exact PH.le_refl _ | assumption | exact PH.le_trans (by assumption) (by assumption)), (inc_of (by repeat' (first | exact List.nil_sublist _ | apply List.Sublist.cons_cons | apply List.Sublist.cons))), .inr (inc_of (by repeat' (first | exact List.nil_sublist _ | apply List.Sublist.cons_cons | apply List.Sublist.cons)))⟩, ?_⟩)
    refine wd_so 8 rfl (by kernel_rfl) rfl (so_callW (c_fetch_Load s mm mo _ _ (G.xSize_ne _) (G.xSize_le _)) (by first | trivial | exact ⟨hT, hR⟩) gb90 (by rfl) ⟨⟨(by first | exact PH.le_refl _ | assumption | exact PH.le_trans (by assumption) (by assumption)), (inc_of (by repeat' (first | exact List.nil_sublist _ | apply List.Sublist.cons_cons | apply List.Sublist.cons))), .inr (inc_of (by repeat' (first | exact List.nil_sublist _ | apply List.Sublist.cons_cons | apply List.Sublist.cons)))⟩, ?_⟩)
    refine wd_ro 9 rfl (by kernel_rfl) (mv_u rfl) rfl ?_
    refine wd_ro 10 rfl (by kernel_rfl) (ro_extract rfl rfl) rfl ?_
    refine wd_ro 11 rfl (by kernel_rfl) (ro_extract rfl rfl) rfl ?_
    refine wd_ro 13 rfl (by kernel_rfl) (as_32 rfl) rfl ?_
    refine wd_so0 14 rfl (by kernel_rfl) (so_storeA ag65 rfl rfl rfl (ones_Trap _) (by repeat (first | exact .head | apply Sel.tail)) rfl ⟨⟨(by first | exact PH.le_refl _ | assumption | exact PH.le_trans (by assumption) (by assumption)), (inc_of (by repeat' (first | exact List.nil_sublist _ | apply List.Sublist.cons_cons | apply List.Sublist.cons))), .inl (by kernel_rfl)⟩, ?_⟩)
    refine wd_done (by kernel_rfl) ?_
    refine wq_then ?_
    refine xp_seq ?_
    refine xp_region ?_
    refine wl_ro (mv_p rfl) rfl ?_
    refine wl_ro (ro_loadA ag65 rfl (by repeat (first | exact .head | apply Sel.tail)) (by rfl) (whole_Trap _)) rfl ?_
    refine wl_ro (ro_nilCheck rfl) rfl ?_
    refine wl_ro (ro_fieldAddrC 41 fb130_5 rfl rfl) rfl ?_
    refine wl_s0 (so_storeP ag65 rfl rfl rfl (ones_Trap _) (by repeat (first | exact .head | apply Sel.tail)) (by rfl) (set_Step_trap _ _) ?_)
    refine wl_nil ?_
    refine wq_then ?_
    refine xp_seq ?_
    refine xp_region ?_
    refine wl_ro (ro_fieldAddrC 0 fb65_0 rfl rfl) rfl ?_
    refine wl_ro (ro_load sc3 rfl (by repeat (first | exact .head | apply Sel.tail)) (get_Trap_cause _)) rfl ?_
    refine wl_ro (roI_eql rfl rfl) rfl ?_
    refine wl_nil ?_
    refine wq_then ?_
    refine xp_cond _ rfl (fun c4 => ?_) (fun c4 => ?_)
    ·
      try simp only [decide_eq_true_eq, decide_eq_false_iff_not] at c4
      have hc := c4
      refine xp_region ?_
      refine wl_ro (mv_p rfl) rfl ?_
      refine wl_ro (mv_32 rfl) rfl ?_
      refine wl_s rfl (so_callMV (c_exec_step_put _ _ _) (by first | trivial | exact ⟨hT, hR⟩) gb97 (by rfl) (.tail .head) ?_)
      refine wl_nil ?_
      refine fq_end1 ?_
      refine fq_retM rfl .nil _ rfl (by repeat (first | exact List.Sublist.cons_cons _ (List.nil_sublist _) | apply List.Sublist.cons)) ?_ ?_
      · rfl
      · simp only [hc, if_true, if_false]; try rfl
    ·
      try simp only [decide_eq_true_eq, decide_eq_false_iff_not] at c4
      have hc := c4
      refine xp_skip ?_
      refine fq_end1 ?_
      refine fq_retM rfl .nil _ rfl (by repeat (first | exact List.Sublist.cons_cons _ (List.nil_sublist _) | apply List.Sublist.cons)) ?_ ?_
      · rfl
      · simp only [hc, if_true, if_false]; try rfl
set_option maxHeartbeats 2000000 in
theorem c_exec_step_store (b : Nat) (s : MS) (mm mo : SV) (i : Sx.Instr) (x y z : BitVec 32) (tr : Trap) (hmem : s.mem.length ≤ 1099511627776) (h : PH) (hT : Tb h) (hR : Rp h s mm mo) : Ct Tryd.prog 84 #[.pointer (some ⟨b, 0, none⟩)] h [(b, .cells (encStep ⟨mach s mm mo, i, x, y, z, tr⟩) 130 (0, 0))] fun e h' L' => ∃ v o', e = .returned v ∧ L' = [(b, o')] ∧ ∃ mm', v = .tuple #[] ∧ o' = .cells (encStep ⟨mach (if (G.fStore s (x + i.imm) (G.xSize i.op) z).2.cause = 0 then { (G.fStore s (x + i.imm) (G.xSize i.op) z).1 with core := G.advance (G.fStore s (x + i.imm) (G.xSize i.op) z).1.core 4#32 } else s) mm' mo, i, x, y, z, (G.fStore s (x + i.imm) (G.xSize i.op) z).2⟩) 130 (0, 0) ∧ Rp h' (if (G.fStore s (x + i.imm) (G.xSize i.op) z).2.cause = 0 then { (G.fStore s (x + i.imm) (G.xSize i.op) z).1 with core := G.advance (G.fStore s (x + i.imm) (G.xSize i.op) z).1.core 4#32 } else s) mm' mo := by
  refine ct1_enter (n := 38) [.pointer (some ⟨b, 0, none⟩)] Tryd.func84 rfl rfl rfl fun w0 hb0 => ?_
  refine xp_cutE (A := Nat × Nat × SV) [2, 3, 4, 5, 6, 7, 8, 9, 10, 11, 12, 13, 14, 15, 16, 17, 18, 19] (fun q => [(2, .pointer (some ⟨q.1, 0, none⟩)), (3, .pointer (some ⟨q.2.1, 0, none⟩))]) (fun q h' L' => h.le h' ∧ Rp h' (G.fStore s (x + i.imm) (G.xSize i.op) z).1 q.2.2 mo ∧ L' = [(q.2.1, .cells (encTrap (G.fStore s (x + i.imm) (G.xSize i.op) z).2) 65 (0, 0)), (q.1, .cells (encMachine (mach (G.fStore s (x + i.imm) (G.xSize i.op) z).1 q.2.2 mo)) 40 (0, 0)), (b, .cells (encStep ⟨mach s mm mo, i, x, y, z, tr⟩) 130 (0, 0))]) ?_ ?_
  ·
    refine xp_draw [true] [18, 19] mixed ?_
    refine wd_ro 0 rfl (by kernel_rfl) (mv_p rfl) rfl ?_
    refine wd_ro 1 rfl (by kernel_rfl) (ro_nilCheck rfl) rfl ?_
    refine wd_ro 2 rfl (by kernel_rfl) (ro_fieldAddrC 0 fb130_0 rfl rfl) rfl ?_
    refine wd_ro 3 rfl (by kernel_rfl) (ro_loadA ag40 rfl (by repeat (first | exact .head | apply Sel.tail)) (by rfl) (get_Step_m _)) rfl ?_
    refine wd_ro 4 rfl (by kernel_rfl) (mv_p rfl) rfl ?_
    refine wd_ro 6 rfl (by kernel_rfl) (mv_p rfl) rfl ?_
    refine wd_ro 8 rfl (by kernel_rfl) (mv_p rfl) rfl ?_
    refine wd_ro 9 rfl (by kernel_rfl) (ro_nilCheck rfl) rfl ?_
    refine wd_ro 10 rfl (by kernel_rfl) (ro_fieldAddrC 40 fb130_4 rfl rfl) rfl ?_
    refine wd_ro 11 rfl (by kernel_rfl) (ro_load sc22 rfl (by repeat (first | exact .head | apply Sel.tail)) (get_Step_z _)) rfl ?_
    refine wd_pick3 (i := 5) (j := 16) (k := 17) (by kernel_rfl) ?_ ?_ ?_
    ·
      refine one_so 5 rfl rfl (so_callMV (c_exec_step_at _ _) (by first | trivial | exact hT) gb98 (by rfl) .head ⟨⟨(by first | exact PH.le_refl _ | assumption | exact PH.le_trans (by assumption) (by assumption)), (inc_of (by repeat' (first | exact List.nil_sublist _ | apply List.Sublist.cons_cons | apply List.Sublist.cons))), .inr (inc_of (by repeat' (first | exact List.nil_sublist _ | apply List.Sublist.cons_cons | apply List.Sublist.cons)))⟩, ?_⟩)
      refine wd_pick3 (i := 7) (j := 16) (k := 17) (by kernel_rfl) ?_ ?_ ?_
      ·
        refine one_so 7 rfl rfl (so_callMV (c_exec_step_size _ _) (by first | trivial | exact hT) gb99 (by rfl) .head ⟨⟨(by first | exact PH.le_refl _ | assumption | exact PH.le_trans (by assumption) (by assumption)), (inc_of (by repeat' (first | exact List.nil_sublist _ | apply List.Sublist.cons_cons | apply List.Sublist.cons))), .inr (inc_of (by repeat' (first | exact List.nil_sublist _ | apply List.Sublist.cons_cons | apply List.Sublist.cons)))⟩, ?_⟩)
        refine wd_pick3 (i := 12) (j := 16) (k := 17) (by kernel_rfl) ?_ ?_ ?_
        ·
          refine one_so 12 rfl rfl (so_callR (c_fetch_Store s mm mo _ _ (G.xSize_ne _) (G.xSize_pos _) (G.xSize_le _) _ hmem _ hT hR) gb100 (by rfl) fun vq2 hq2 hlq2 hpq2 => ⟨⟨(by first | exact PH.le_refl _ | assumption | exact PH.le_trans (by assumption) (by assumption)), (inc_of (by repeat' (first | exact List.nil_sublist _ | apply List.Sublist.cons_cons | apply List.Sublist.cons))), .inr (inc_of (by repeat' (first | exact List.nil_sublist _ | apply List.Sublist.cons_cons | apply List.Sublist.cons)))⟩, ?_⟩)
          obtain ⟨mm1, rfl, hR1⟩ := hpq2
          refine wd_ro 13 rfl (by kernel_rfl) (mv_u rfl) rfl ?_
          refine wd_ro 14 rfl (by kernel_rfl) (ro_extract rfl rfl) rfl ?_
          refine wd_ro 15 rfl (by kernel_rfl) (ro_extract rfl rfl) rfl ?_
          refine wd_pick2 (i := 16) (j := 17) (by kernel_rfl) ?_ ?_
          ·
            refine one_so 16 rfl rfl (so_allocA zr40 fun b2 => ⟨⟨(by first | exact PH.le_refl _ | assumption | exact PH.le_trans (by assumption) (by assumption)), (inc_of (by repeat' (first | exact List.nil_sublist _ | apply List.Sublist.cons_cons | apply List.Sublist.cons))), .inr (inc_of (by repeat' (first | exact List.nil_sublist _ | apply List.Sublist.cons_cons | apply List.Sublist.cons)))⟩, ?_⟩)
            refine wd_so 17 rfl (by kernel_rfl) rfl (so_allocA zr65 fun b3 => ⟨⟨(by first | exact PH.le_refl _ | assumption | exact PH.le_trans (by assumption) (by assumption)), (inc_of (by repeat' (first | exact List.nil_sublist _ | apply List.Sublist.cons_cons | apply List.Sublist.cons))), .inr (inc_of (by repeat' (first | exact List.nil_sublist _ | apply List.Sublist.cons_cons | apply List.Sublist.cons)))⟩, ?_⟩)
            refine wd_so0 18 rfl (by kernel_rfl) (so_storeA ag40 rfl rfl rfl (ones_Machine _) (by repeat (first | exact .head | apply Sel.tail)) rfl ⟨⟨(by first | exact PH.le_refl _ | assumption | exact PH.le_trans (by assumption) (by assumption)), (inc_of (by repeat' (first | exact List.nil_sublist _ | apply List.Sublist.cons_cons | apply List.Sublist.cons))), .inl (by kernel_rfl)⟩, ?_⟩)
            refine wd_so0 19 rfl (by kernel_rfl) (so_storeA ag65 rfl rfl rfl (ones_Trap _) (by repeat (first | exact .head | apply Sel.tail)) rfl ⟨⟨(by first | exact PH.le_refl _ | assumption | exact PH.le_trans (by assumption) (by assumption)), (inc_of (by repeat' (first | exact List.nil_sublist _ | apply List.Sublist.cons_cons | apply List.Sublist.cons))), .inl (by kernel_rfl)⟩, ?_⟩)
            refine wd_done (by kernel_rfl) ?_
            refine wq_perm (L' := [(b3, .cells (encTrap (G.fStore s (x + i.imm) (G.xSize i.op) z).2) 65 (0, 0)), (b2, .cells (encMachine (mach (G.fStore s (x + i.imm) (G.xSize i.op) z).1 mm1 mo)) 40 (0, 0)), (b, .cells (encStep ⟨mach s mm mo, i, x, y, z, tr⟩) 130 (0, 0))]) (by first | exact List.Perm.refl _ | exact List.Perm.swap _ _ _) (wq_cutE (b2, b3, mm1) (by repeat (first | exact out_refl | exact out_ovr | refine out_upd rfl ?_)) ⟨rfl, rfl, trivial⟩ ⟨by assumption, hR1, rfl⟩)
          ·
            refine one_so 17 rfl rfl (so_allocA zr65 fun b3 => ⟨⟨(by first | exact PH.le_refl _ | assumption | exact PH.le_trans (by assumption) (by assumption)), (inc_of (by repeat' (first | exact List.nil_sublist _ | apply List.Sublist.cons_cons | apply List.Sublist.cons))), .inr (inc_of (by repeat' (first | exact List.nil_sublist _ | apply List.Sublist.cons_cons | apply List.Sublist.cons)))⟩, ?_⟩)
            refine wd_so 16 rfl (by kernel_rfl) rfl (so_allocA zr40 fun b2 => ⟨⟨(by first | exact PH.le_refl _ | assumption | exact PH.le_trans (by assumption) (by assumption)), (inc_of (by repeat' (first | exact List.nil_sublist _ | apply List.Sublist.cons_cons | apply List.Sublist.cons))), .inr (inc_of (by repeat' (first | exact List.nil_sublist _ | apply List.Sublist.cons_cons | apply List.Sublist.cons)))⟩, ?_⟩)
            refine wd_so0 18 rfl (by kernel_rfl) (so_storeA ag40 rfl rfl rfl (ones_Machine _) (by repeat (first | exact .head | apply Sel.tail)) rfl ⟨⟨(by first | exact PH.le_refl _ | assumption | exact PH.le_trans (by assumption) (by assumption)), (inc_of (by repeat' (first | exact List.nil_sublist _ | apply List.Sublist.cons_cons | apply List.Sublist.cons))), .inl (by kernel_rfl)⟩, ?_⟩)
            refine wd_so0 19 rfl (by kernel_rfl) (so_storeA ag65 rfl rfl rfl (ones_Trap _) (by repeat (first | exact .head | apply Sel.tail)) rfl ⟨⟨(by first | exact PH.le_refl _ | assumption | exact PH.le_trans (by assumption) (by assumption)), (inc_of (by repeat' (first | exact List.nil_sublist _ | apply List.Sublist.cons_cons | apply List.Sublist.cons))), .inl (by kernel_rfl)⟩, ?_⟩)
            refine wd_done (by kernel_rfl) ?_
            refine wq_perm (L' := [(b3, .cells (encTrap (G.fStore s (x + i.imm) (G.xSize i.op) z).2) 65 (0, 0)), (b2, .cells (encMachine (mach (G.fStore s (x + i.imm) (G.xSize i.op) z).1 mm1 mo)) 40 (0, 0)), (b, .cells (encStep ⟨mach s mm mo, i, x, y, z, tr⟩) 130 (0, 0))]) (by first | exact List.Perm.refl _ | exact List.Perm.swap _ _ _) (wq_cutE (b2, b3, mm1) (by repeat (first | exact out_refl | exact out_ovr | refine out_upd rfl ?_)) ⟨rfl, rfl, trivial⟩ ⟨by assumption, hR1, rfl⟩)
        ·
          refine one_so 16 rfl rfl (so_allocA zr40 fun b2 => ⟨⟨(by first | exact PH.le_refl _ | assumption | exact PH.le_trans (by assumption) (by assumption)), (inc_of (by repeat' (first | exact List.nil_sublist _ | apply List.Sublist.cons_cons | apply List.Sublist.cons))), .inr (inc_of (by repeat' (first | exact List.nil_sublist _ | apply List.Sublist.cons_cons | apply List.Sublist.cons)))⟩, ?_⟩)
          refine wd_pick2 (i := 12) (j := 17) (by kernel_rfl) ?_ ?_
          ·
            refine one_so 12 rfl rfl (so_callR (c_fetch_Store s mm mo _ _ (G.xSize_ne _) (G.xSize_pos _) (G.xSize_le _) _ hmem _ hT hR) gb100 (by rfl) fun vq3 hq3 hlq3 hpq3 => ⟨⟨(by first | exact PH.le_refl _ | assumption | exact PH.le_trans (by assumption) (by assumption)), (inc_of (by repeat' (first | exact List.nil_sublist _ | apply List.Sublist.cons_cons | apply List.Sublist.cons))), .inr (inc_of (by repeat' (first | exact List.nil_sublist _ | apply List.Sublist.cons_cons | apply List.Sublist.cons)))⟩, ?_⟩)
            obtain ⟨mm1, rfl, hR1⟩ := hpq3
            refine wd_ro 13 rfl (by kernel_rfl) (mv_u rfl) rfl ?_
            refine wd_ro 14 rfl (by kernel_rfl) (ro_extract rfl rfl) rfl ?_
            refine wd_ro 15 rfl (by kernel_rfl) (ro_extract rfl rfl) rfl ?_
            refine wd_so 17 rfl (by kernel_rfl) rfl (so_allocA zr65 fun b3 => ⟨⟨(by first | exact PH.le_refl _ | assumption | exact PH.le_trans (by assumption) (by assumption)), (inc_of (by repeat' (first | exact List.nil_sublist _ | apply List.Sublist.cons_cons | apply List.Sublist.cons))), .inr (inc_of (by repeat' (first | exact List.nil_sublist _ | apply List.Sublist.cons_cons | apply List.Sublist.cons)))⟩, ?_⟩)
            refine wd_so0 18 rfl (by kernel_rfl) (so_storeA ag40 rfl rfl rfl (ones_Machine _) (by repeat (first | exact .head | apply Sel.tail)) rfl ⟨⟨(by first | exact PH.le_refl _ | assumption | exact PH.le_trans (by assumption) (by assumption)), (inc_of (by repeat' (first | exact List.nil_sublist _ | apply List.Sublist.cons_cons | apply List.Sublist.cons))), .inl (by kernel_rfl)⟩, ?_⟩)
            refine wd_so0 19 rfl (by kernel_rfl) (so_storeA ag65 rfl rfl rfl (ones_Trap _) (by repeat (first | exact .head | apply Sel.tail)) rfl ⟨⟨(by first | exact PH.le_refl _ | assumption | exact PH.le_trans (by assumption) (by assumption)), (inc_of (by repeat' (first | exact List.nil_sublist _ | apply List.Sublist.cons_cons | apply List.Sublist.cons))), .inl (by kernel_rfl)⟩, ?_⟩)
            refine wd_done (by kernel_rfl) ?_
            refine wq_perm (L' := [(b3, .cells (encTrap (G.fStore s (x + i.imm) (G.xSize i.op) z).2) 65 (0, 0)), (b2, .cells (encMachine (mach (G.fStore s (x + i.imm) (G.xSize i.op) z).1 mm1 mo)) 40 (0, 0)), (b, .cells (encStep ⟨mach s mm mo, i, x, y, z, tr⟩) 130 (0, 0))]) (by first | exact List.Perm.refl _ | exact List.Perm.swap _ _ _) (wq_cutE (b2, b3, mm1) (by repeat (first | exact out_refl | exact out_ovr | refine out_upd rfl ?_)) ⟨rfl, rfl, trivial⟩ ⟨by assumption, hR1, rfl⟩)
          ·
            refine one_so 17 rfl rfl (so_allocA zr65 fun b3 => ⟨⟨(by first | exact PH.le_refl _ | assumption | exact PH.le_trans (by assumption) (by assumption)), (inc_of (by repeat' (first | exact List.nil_sublist _ | apply List.Sublist.cons_cons | apply List.Sublist.cons))), .inr (inc_of (by repeat' (first | exact List.nil_sublist _ | apply List.Sublist.cons_cons | apply List.Sublist.cons)))⟩, ?_⟩)
            refine wd_so 12 rfl (by kernel_rfl) rfl (so_callR (c_fetch_Store s mm mo _ _ (G.xSize_ne _) (G.xSize_pos _) (G.xSize_le _) _ hmem _ hT hR) gb100 (by rfl) fun vq4 hq4 hlq4 hpq4 => ⟨⟨(by first | exact PH.le_refl _ | assumption | exact PH.le_trans (by assumption) (by assumption)), (inc_of (by repeat' (first | exact List.nil_sublist _ | apply List.Sublist.cons_cons | apply List.Sublist.cons))), .inr (inc_of (by repeat' (first | exact List.nil_sublist _ | apply List.Sublist.cons_cons | apply List.Sublist.cons)))⟩, ?_⟩)
            obtain ⟨mm1, rfl, hR1⟩ := hpq4
            refine wd_ro 13 rfl (by kernel_rfl) (mv_u rfl) rfl ?_
            refine wd_ro 14 rfl (by kernel_rfl) (ro_extract rfl rfl) rfl ?_
            refine wd_ro 15 rfl (by kernel_rfl) (ro_extract rfl rfl) rfl ?_
            refine wd_so0 18 rfl (by kernel_rfl) (so_storeA ag40 rfl rfl rfl (ones_Machine _) (by repeat (first | exact .head | apply Sel.tail)) rfl ⟨⟨(by first | exact PH.le_refl _ | assumption | exact PH.le_trans (by assumption) (by assumption)), (inc_of (by repeat' (first | exact List.nil_sublist _ | apply List.Sublist.cons_cons | apply List.Sublist.cons))), .inl (by kernel_rfl)⟩, ?_⟩)
            refine wd_so0 19 rfl (by kernel_rfl) (so_storeA ag65 rfl rfl rfl (ones_Trap _) (by repeat (first | exact .head | apply Sel.tail)) rfl ⟨⟨(by first | exact PH.le_refl _ | assumption | exact PH.le_trans (by assumption) (by assumption)), (inc_of (by repeat' (first | exact List.nil_sublist _ | apply List.Sublist.cons_cons | apply List.Sublist.cons))), .inl (by kernel_rfl)⟩, ?_⟩)
            refine wd_done (by kernel_rfl) ?_
            refine wq_perm (L' := [(b3, .cells (encTrap (G.fStore s (x + i.imm) (G.xSize i.op) z).2) 65 (0, 0)), (b2, .cells (encMachine (mach (G.fStore s (x + i.imm) (G.xSize i.op) z).1 mm1 mo)) 40 (0, 0)), (b, .cells (encStep ⟨mach s mm mo, i, x, y, z, tr⟩) 130 (0, 0))]) (by first | exact List.Perm.refl _ | exact List.Perm.swap _ _ _) (wq_cutE (b2, b3, mm1) (by repeat (first | exact out_refl | exact out_ovr | refine out_upd rfl ?_)) ⟨rfl, rfl, trivial⟩ ⟨by assumption, hR1, rfl⟩)
        ·
          refine one_so 17 rfl rfl (so_allocA zr65 fun b3 => ⟨⟨(by first | exact PH.le_refl _ | assumption | exact PH.le_trans (by assumption) (by assumption)), (inc_of (by repeat' (first | exact List.nil_sublist _ | apply List.Sublist.cons_cons | apply List.Sublist.cons))), .inr (inc_of (by repeat' (first | exact List.nil_sublist _ | apply List.Sublist.cons_cons | apply List.Sublist.cons)))⟩, ?_⟩)
          refine wd_pick2 (i := 12) (j := 16) (by kernel_rfl) ?_ ?_
          ·
            refine one_so 12 rfl rfl (so_callR (c_fetch_Store s mm mo _ _ (G.xSize_ne _) (G.xSize_pos _) (G.xSize_le _) _ hmem _ hT hR) gb100 (by rfl) fun vq5 hq5 hlq5 hpq5 => ⟨⟨(by first | exact PH.le_refl _ | assumption | exact PH.le_trans (by assumption) (by assumption)), (inc_of (by repeat' (first | exact List.nil_sublist _ | apply List.Sublist.cons_cons | apply List.Sublist.cons))), .inr (inc_of (by repeat' (first | exact List.nil_sublist _ | apply List.Sublist.cons_cons | apply List.Sublist.cons)))⟩, ?_⟩)
            obtain ⟨mm1, rfl, hR1⟩ := hpq5
            refine wd_ro 13 rfl (by kernel_rfl) (mv_u rfl) rfl ?_
            refine wd_ro 14 rfl (by kernel_rfl) (ro_extract rfl rfl) rfl ?_
            refine wd_ro 15 rfl (by kernel_rfl) (ro_extract rfl rfl) rfl ?_
            refine wd_so 16 rfl (by kernel_rfl) rfl (so_allocA zr40 fun b2 => ⟨⟨(by first | exact PH.le_refl _ | assumption | exact PH.le_trans (by assumption) (by assumption)), (inc_of (by repeat' (first | exact List.nil_sublist _ | apply List.Sublist.cons_cons | apply List.Sublist.cons))), .inr (inc_of (by repeat' (first | exact List.nil_sublist _ | apply List.Sublist.cons_cons | apply List.Sublist.cons)))⟩, ?_⟩)
            refine wd_so0 18 rfl (by kernel_rfl) (so_storeA ag40 rfl rfl rfl (ones_Machine _) (by repeat (first | exact .head | apply Sel.tail)) rfl ⟨⟨(by first | exact PH.le_refl _ | assumption | exact PH.le_trans (by assumption) (by assumption)), (inc_of (by repeat' (first | exact List.nil_sublist _ | apply List.Sublist.cons_cons | apply List.Sublist.cons))), .inl (by kernel_rfl)⟩, ?_⟩)
            refine wd_so0 19 rfl (by kernel_rfl) (so_storeA ag65 rfl rfl rfl (ones_Trap _) (by repeat (first | exact .head | apply Sel.tail)) rfl ⟨⟨(by first | exact PH.le_refl _ | assumption | exact PH.le_trans (by assumption) (by assumption)), (inc_of (by repeat' (first | exact List.nil_sublist _ | apply List.Sublist.cons_cons | apply List.Sublist.cons))), .inl (by kernel_rfl)⟩, ?_⟩)
            refine wd_done (by kernel_rfl) ?_
            refine wq_perm (L' := [(b3, .cells (encTrap (G.fStore s (x + i.imm) (G.xSize i.op) z).2) 65 (0, 0)), (b2, .cells (encMachine (mach (G.fStore s (x + i.imm) (G.xSize i.op) z).1 mm1 mo)) 40 (0, 0)), (b, .cells (encStep ⟨mach s mm mo, i, x, y, z, tr⟩) 130 (0, 0))]) (by first | exact List.Perm.refl _ | exact List.Perm.swap _ _ _) (wq_cutE (b2, b3, mm1) (by repeat (first | exact out_refl | exact out_ovr | refine out_upd rfl ?_)) ⟨rfl, rfl, trivial⟩ ⟨by assumption, hR1, rfl⟩)
          ·
            refine one_so 16 rfl rfl (so_allocA zr40 fun b2 => ⟨⟨(by first | exact PH.le_refl _ | assumption | exact PH.le_trans (by assumption) (by assumption)), (inc_of (by repeat' (first | exact List.nil_sublist _ | apply List.Sublist.cons_cons | apply List.Sublist.cons))), .inr (inc_of (by repeat' (first | exact List.nil_sublist _ | apply List.Sublist.cons_cons | apply List.Sublist.cons)))⟩, ?_⟩)
            refine wd_so 12 rfl (by kernel_rfl) rfl (so_callR (c_fetch_Store s mm mo _ _ (G.xSize_ne _) (G.xSize_pos _) (G.xSize_le _) _ hmem _ hT hR) gb100 (by rfl) fun vq6 hq6 hlq6 hpq6 => ⟨⟨(by first | exact PH.le_refl _ | assumption | exact PH.le_trans (by assumption) (by assumption)), (inc_of (by repeat' (first | exact List.nil_sublist _ | apply List.Sublist.cons_cons | apply List.Sublist.cons))), .inr (inc_of (by repeat' (first | exact List.nil_sublist _ | apply List.Sublist.cons_cons | apply List.Sublist.cons)))⟩, ?_⟩)
            obtain ⟨mm1, rfl, hR1⟩ := hpq6
            refine wd_ro 13 rfl (by kernel_rfl) (mv_u rfl) rfl ?_
            refine wd_ro 14 rfl (by kernel_rfl) (ro_extract rfl rfl) rfl ?_
            refine wd_ro 15 rfl (by kernel_rfl) (ro_extract rfl rfl) rfl ?_
            refine wd_so0 18 rfl (by kernel_rfl) (so_storeA ag40 rfl rfl rfl (ones_Machine _) (by repeat (first | exact .head | apply Sel.tail)) rfl ⟨⟨(by first | exact PH.le_refl _ | assumption | exact PH.le_trans (by assumption) (by assumption)), (inc_of (by repeat' (first | exact List.nil_sublist _ | apply List.Sublist.cons_cons | apply List.Sublist.cons))), .inl (by kernel_rfl)⟩, ?_⟩)
            refine wd_so0 19 rfl (by kernel_rfl) (so_storeA ag65 rfl rfl rfl (ones_Trap _) (by repeat (first | exact .head | apply Sel.tail)) rfl ⟨⟨(by first | exact PH.le_refl _ | assumption | exact PH.le_trans (by assumption) (by assumption)), (inc_of (by repeat' (first | exact List.nil_sublist _ | apply List.Sublist.cons_cons | apply List.Sublist.cons))), .inl (by kernel_rfl)⟩, ?_⟩)
            refine wd_done (by kernel_rfl) ?_
            refine wq_perm (L' := [(b3, .cells (encTrap (G.fStore s (x + i.imm) (G.xSize i.op) z).2) 65 (0, 0)), (b2, .cells (encMachine (mach (G.fStore s (x + i.imm) (G.xSize i.op) z).1 mm1 mo)) 40 (0, 0)), (b, .cells (encStep ⟨mach s mm mo, i, x, y, z, tr⟩) 130 (0, 0))]) (by first | exact List.Perm.refl _ | exact List.Perm.swap _ _ _) (wq_cutE (b2, b3, mm1) (by repeat (first | exact out_refl | exact out_ovr | refine out_upd rfl ?_)) ⟨rfl, rfl, trivial⟩ ⟨by assumption, hR1, rfl⟩)
      ·
        refine one_so 16 rfl rfl (so_allocA zr40 fun b2 => ⟨⟨(by first | exact PH.le_refl _ | assumption | exact PH.le_trans (by assumption) (by assumption)), (inc_of (by repeat' (first | exact List.nil_sublist _ | apply List.Sublist.cons_cons | apply List.Sublist.cons))), .inr (inc_of (by repeat' (first | exact List.nil_sublist _ | apply List.Sublist.cons_cons | apply List.Sublist.cons)))⟩, ?_⟩)
        refine wd_pick2 (i := 7) (j := 17) (by kernel_rfl) ?_ ?_
        ·
          refine one_so 7 rfl rfl (so_callMV (c_exec_step_size _ _) (by first | trivial | exact hT) gb99 (by rfl) (.tail .head) ⟨⟨(by first | exact PH.le_refl _ | assumption | exact PH.le_trans (by assumption) (by assumption)), (inc_of (by repeat' (first | exact List.nil_sublist _ | apply List.Sublist.cons_cons | apply List.Sublist.cons))), .inr (inc_of (by repeat' (first | exact List.nil_sublist _ | apply List.Sublist.cons_cons | apply List.Sublist.cons)))⟩, ?_⟩)
          refine wd_pick2 (i := 12) (j := 17) (by kernel_rfl) ?_ ?_
          ·
            refine one_so 12 rfl rfl (so_callR (c_fetch_Store s mm mo _ _ (G.xSize_ne _) (G.xSize_pos _) (G.xSize_le _) _ hmem _ hT hR) gb100 (by rfl) fun vq7 hq7 hlq7 hpq7 => ⟨⟨(by first | exact PH.le_refl _ | assumption | exact PH.le_trans (by assumption) (by assumption)), (inc_of (by repeat' (first | exact List.nil_sublist _ | apply List.Sublist.cons_cons | apply List.Sublist.cons))), .inr (inc_of (by repeat' (first | exact List.nil_sublist _ | apply List.Sublist.cons_cons | apply List.Sublist.cons)))⟩, ?_⟩)
            obtain ⟨mm1, rfl, hR1⟩ := hpq7
            refine wd_ro 13 rfl (by kernel_rfl) (mv_u rfl) rfl ?_
            refine wd_ro 14 rfl (by kernel_rfl) (ro_extract rfl rfl) rfl ?_
            refine wd_ro 15 rfl (by kernel_rfl) (ro_extract rfl rfl) rfl ?_
            refine wd_so 17 rfl (by kernel_rfl) rfl (so_allocA zr65 fun b3 => ⟨⟨(by first | exact PH.le_refl _ | assumption | exact PH.le_trans (by assumption) (by assumption)), (inc_of (by repeat' (first | exact List.nil_sublist _ | apply List.Sublist.cons_cons | apply List.Sublist.cons))), .inr (inc_of (by repeat' (first | exact List.nil_sublist _ | apply List.Sublist.cons_cons | apply List.Sublist.cons)))⟩, ?_⟩)
            refine wd_so0 18 rfl (by kernel_rfl) (so_storeA ag40 rfl rfl rfl (ones_Machine _) (by repeat (first | exact .head | apply Sel.tail)) rfl ⟨⟨(by first | exact PH.le_refl _ | assumption | exact PH.le_trans (by assumption) (by assumption)), (inc_of (by repeat' (first | exact List.nil_sublist _ | apply List.Sublist.cons_cons | apply List.Sublist.cons))), .inl (by kernel_rfl)⟩, ?_⟩)
            refine wd_so0 19 rfl (by kernel_rfl) (so_storeA ag65 rfl rfl rfl (ones_Trap _) (by repeat (first | exact .head | apply Sel.tail)) rfl ⟨⟨(by first | exact PH.le_refl _ | assumption | exact PH.le_trans (by assumption) (by assumption)), (inc_of (by repeat' (first | exact List.nil_sublist _ | apply List.Sublist.cons_cons | apply List.Sublist.cons))), .inl (by kernel_rfl)⟩, ?_⟩)
            refine wd_done (by kernel_rfl) ?_
            refine wq_perm (L' := [(b3, .cells (encTrap (G.fStore s (x + i.imm) (G.xSize i.op) z).2) 65 (0, 0)), (b2, .cells (encMachine (mach (G.fStore s (x + i.imm) (G.xSize i.op) z).1 mm1 mo)) 40 (0, 0)), (b, .cells (encStep ⟨mach s mm mo, i, x, y, z, tr⟩) 130 (0, 0))]) (by first | exact List.Perm.refl _ | exact List.Perm.swap _ _ _) (wq_cutE (b2, b3, mm1) (by repeat (first | exact out_refl | exact out_ovr | refine out_upd rfl ?_)) ⟨rfl, rfl, trivial⟩ ⟨by assumption, hR1, rfl⟩)
          ·
            refine one_so 17 rfl rfl (so_allocA zr65 fun b3 => ⟨⟨(by first | exact PH.le_refl _ | assumption | exact PH.le_trans (by assumption) (by assumption)), (inc_of (by repeat' (first | exact List.nil_sublist _ | apply List.Sublist.cons_cons | apply List.Sublist.cons))), .inr (inc_of (by repeat' (first | exact List.nil_sublist _ | apply List.Sublist.cons_cons | apply List.Sublist.cons)))⟩, ?_⟩)
            refine wd_so 12 rfl (by kernel_rfl) rfl (so_callR (c_fetch_Store s mm mo _ _ (G.xSize_ne _) (G.xSize_pos _) (G.xSize_le _) _ hmem _ hT hR) gb100 (by rfl) fun vq8 hq8 hlq8 hpq8 => ⟨⟨(by first | exact PH.le_refl _ | assumption | exact PH.le_trans (by assumption) (by assumption)), (inc_of (by repeat' (first | exact List.nil_sublist _ | apply List.Sublist.cons_cons | apply List.Sublist.cons))), .inr (inc_of (by repeat' (first | exact List.nil_sublist _ | apply List.Sublist.cons_cons | apply List.Sublist.cons)))⟩, ?_⟩)
            obtain ⟨mm1, rfl, hR1⟩ := hpq8
            refine wd_ro 13 rfl (by kernel_rfl) (mv_u rfl) rfl ?_
            refine wd_ro 14 rfl (by kernel_rfl) (ro_extract rfl rfl) rfl ?_
            refine wd_ro 15 rfl (by kernel_rfl) (ro_extract rfl rfl) rfl ?_
            refine wd_so0 18 rfl (by kernel_rfl) (so_storeA ag40 rfl rfl rfl (ones_Machine _) (by repeat (first | exact .head | apply Sel.tail)) rfl ⟨⟨(by first | exact PH.le_refl _ | assumption | exact PH.le_trans (by assumption) (by assumption)), (inc_of (by repeat' (first | exact List.nil_sublist _ | apply List.Sublist.cons_cons | apply List.Sublist.cons))), .inl (by kernel_rfl)⟩, ?_⟩)
            refine wd_so0 19 rfl (by kernel_rfl) (so_storeA ag65 rfl rfl rfl (ones_Trap _) (by repeat (first | exact .head | apply Sel.tail)) rfl ⟨⟨(by first | exact PH.le_refl _ | assumption | exact PH.le_trans (by assumption) (by assumption)), (inc_of (by repeat' (first | exact List.nil_sublist _ | apply List.Sublist.cons_cons | apply List.Sublist.cons))), .inl (by kernel_rfl)⟩, ?_⟩)
            refine wd_done (by kernel_rfl) ?_
            refine wq_perm (L' := [(b3, .cells (encTrap (G.fStore s (x + i.imm) (G.xSize i.op) z).2) 65 (0, 0)), (b2, .cells (encMachine (mach (G.fStore s (x + i.imm) (G.xSize i.op) z).1 mm1 mo)) 40 (0, 0)), (b, .cells (encStep ⟨mach s mm mo, i, x, y, z, tr⟩) 130 (0, 0))]) (by first | exact List.Perm.refl _ | exact List.Perm.swap _ _ _) (wq_cutE (b2, b3, mm1) (by repeat (first | exact out_refl | exact out_ovr | refine out_upd rfl ?_)) ⟨rfl, rfl, trivial⟩ ⟨by assumption, hR1, rfl⟩)
        ·
          refine one_so 17 rfl rfl (so_allocA zr65 fun b3 => ⟨⟨(by first | exact PH.le_refl _ | assumption | exact PH.le_trans (by assumption) (by assumption)), (inc_of (by repeat' (first | exact List.nil_sublist _ | apply List.Sublist.cons_cons | apply List.Sublist.cons))), .inr (inc_of (by repeat' (first | exact List.nil_sublist _ | apply List.Sublist.cons_cons | apply List.Sublist.cons)))⟩, ?_⟩)
          refine wd_so 7 rfl (by kernel_rfl) rfl (so_callMV (c_exec_step_size _ _) (by first | trivial | exact hT) gb99 (by rfl) (.tail (.tail .head)) ⟨⟨(by first | exact PH.le_refl _ | assumption | exact PH.le_trans (by assumption) (by assumption)), (inc_of (by repeat' (first | exact List.nil_sublist _ | apply List.Sublist.cons_cons | apply List.Sublist.cons))), .inr (inc_of (by repeat' (first | exact List.nil_sublist _ | apply List.Sublist.cons_cons | apply List.Sublist.cons)))⟩, ?_⟩)
          refine wd_so 12 rfl (by kernel_rfl) rfl (so_callR (c_fetch_Store s mm mo _ _ (G.xSize_ne _) (G.xSize_pos _) (G.xSize_le _) _ hmem _ hT hR) gb100 (by rfl) fun vq9 hq9 hlq9 hpq9 => ⟨⟨(by first | exact PH.le_refl _ | assumption | exact PH.le_trans (by assumption) (by assumption)), (inc_of (by repeat' (first | exact List.nil_sublist _ | apply List.Sublist.cons_cons | apply List.Sublist.cons))), .inr (inc_of (by repeat' (first | exact List.nil_sublist _ | apply List.Sublist.cons_cons | apply List.Sublist.cons)))⟩, ?_⟩)
          obtain ⟨mm1, rfl, hR1⟩ := hpq9
          refine wd_ro 13 rfl (by kernel_rfl) (mv_u rfl) rfl ?_
          refine wd_ro 14 rfl (by kernel_rfl) (ro_extract rfl rfl) rfl ?_
          refine wd_ro 15 rfl (by kernel_rfl) (ro_extract rfl rfl) rfl ?_
          refine wd_so0 18 rfl (by kernel_rfl) (so_storeA ag40 rfl rfl rfl (ones_Machine _) (by repeat (first | exact .head | apply Sel.tail)) rfl ⟨⟨(by first | exact PH.le_refl _ | assumption | exact PH.le_trans (by assumption) (by assumption)), (inc_of (by repeat' (first | exact List.nil_sublist _ | apply List.Sublist.cons_cons | apply List.Sublist.cons))), .inl (by kernel_rfl)⟩, ?_⟩)
          refine wd_so0 19 rfl (by kernel_rfl) (so_storeA ag65 rfl rfl rfl (ones_Trap _) (by repeat (first | exact .head | apply Sel.tail)) rfl ⟨⟨(by first | exact PH.le_refl _ | assumption | exact PH.le_trans (by assumption) (by assumption)), (inc_of (by repeat' (first | exact List.nil_sublist _ | apply List.Sublist.cons_cons | apply List.Sublist.cons))), .inl (by kernel_rfl)⟩, ?_⟩)
          refine wd_done (by kernel_rfl) ?_
          refine wq_perm (L' := [(b3, .cells (encTrap (G.fStore s (x + i.imm) (G.xSize i.op) z).2) 65 (0, 0)), (b2, .cells (encMachine (mach (G.fStore s (x + i.imm) (G.xSize i.op) z).1 mm1 mo)) 40 (0, 0)), (b, .cells (encStep ⟨mach s mm mo, i, x, y, z, tr⟩) 130 (0, 0))]) (by first | exact List.Perm.refl _ | exact List.Perm.swap _ _ _) (wq_cutE (b2, b3, mm1) (by repeat (first | exact out_refl | exact out_ovr | refine out_upd rfl ?_)) ⟨rfl, rfl, trivial⟩ ⟨by assumption, hR1, rfl⟩)
      ·
        refine one_so 17 rfl rfl (so_allocA zr65 fun b3 => ⟨⟨(by first | exact PH.le_refl _ | assumption | exact PH.le_trans (by assumption) (by assumption)), (inc_of (by repeat' (first | exact List.nil_sublist _ | apply List.Sublist.cons_cons | apply List.Sublist.cons))), .inr (inc_of (by repeat' (first | exact List.nil_sublist _ | apply List.Sublist.cons_cons | apply List.Sublist.cons)))⟩, ?_⟩)
        refine wd_pick2 (i := 7) (j := 16) (by kernel_rfl) ?_ ?_
        ·
          refine one_so 7 rfl rfl (so_callMV (c_exec_step_size _ _) (by first | trivial | exact hT) gb99 (by rfl) (.tail .head) ⟨⟨(by first | exact PH.le_refl _ | assumption | exact PH.le_trans (by assumption) (by assumption)), (inc_of (by repeat' (first | exact List.nil_sublist _ | apply List.Sublist.cons_cons | apply List.Sublist.cons))), .inr (inc_of (by repeat' (first | exact List.nil_sublist _ | apply List.Sublist.cons_cons | apply List.Sublist.cons)))⟩, ?_⟩)
          refine wd_pick2 (i := 12) (j := 16) (by kernel_rfl) ?_ ?_
          ·
            refine one_so 12 rfl rfl (so_callR (c_fetch_Store s mm mo _ _ (G.xSize_ne _) (G.xSize_pos _) (G.xSize_le _) _ hmem _ hT hR) gb100 (by rfl) fun vq10 hq10 hlq10 hpq10 => ⟨⟨(by first | exact PH.le_refl _ | assumption | exact PH.le_trans (by assumption) (by assumption)), (inc_of (by repeat' (first | exact List.nil_sublist _ | apply List.Sublist.cons_cons | apply List.Sublist.cons))), .inr (inc_of (by repeat' (first | exact List.nil_sublist _ | apply List.Sublist.cons_cons | apply List.Sublist.cons)))⟩, ?_⟩)
            obtain ⟨mm1, rfl, hR1⟩ := hpq10
            refine wd_ro 13 rfl (by kernel_rfl) (mv_u rfl) rfl ?_
            refine wd_ro 14 rfl (by kernel_rfl) (ro_extract rfl rfl) rfl ?_
            refine wd_ro 15 rfl (by kernel_rfl) (ro_extract rfl rfl) rfl ?_
            refine wd_so 16 rfl (by kernel_rfl) rfl (so_allocA zr40 fun b2 => ⟨⟨(by first | exact PH.le_refl _ | assumption | exact PH.le_trans (by assumption) (by assumption)), (inc_of (by repeat' (first | exact List.nil_sublist _ | apply List.Sublist.cons_cons | apply List.Sublist.cons))), .inr (inc_of (by repeat' (first | exact List.nil_sublist _ | apply List.Sublist.cons_cons | apply List.Sublist.cons)))⟩, ?_⟩)
            refine wd_so0 18 rfl (by kernel_rfl) (so_storeA ag40 rfl rfl rfl (ones_Machine _) (by repeat (first | exact .head | apply Sel.tail)) rfl ⟨⟨(by first | exact PH.le_refl _ | assumption | exact PH.le_trans (by assumption) (by assumption)), (inc_of (by repeat' (first | exact List.nil_sublist _ | apply List.Sublist.cons_cons | apply List.Sublist.cons))), .inl (by kernel_rfl)⟩, ?_⟩)
            refine wd_so0 19 rfl (by kernel_rfl) (so_storeA ag65 rfl rfl rfl (ones_Trap _) (by repeat (first | exact .head | apply Sel.tail)) rfl ⟨⟨(by first | exact PH.le_refl _ | assumption | exact PH.le_trans (by assumption) (by assumption)), (inc_of (by repeat' (first | exact List.nil_sublist _ | apply List.Sublist.cons_cons | apply List.Sublist.cons))), .inl (by kernel_rfl)⟩, ?_⟩)
            refine wd_done (by kernel_rfl) ?_
            refine wq_perm (L' := [(b3, .cells (encTrap (G.fStore s (x + i.imm) (G.xSize i.op) z).2) 65 (0, 0)), (b2, .cells (encMachine (mach (G.fStore s (x + i.imm) (G.xSize i.op) z).1 mm1 mo)) 40 (0, 0)), (b, .cells (encStep ⟨mach s mm mo, i, x, y, z, tr⟩) 130 (0, 0))]) (by first | exact List.Perm.refl _ | exact List.Perm.swap _ _ _) (wq_cutE (b2, b3, mm1) (by repeat (first | exact out_refl | exact out_ovr | refine out_upd rfl ?_)) ⟨rfl, rfl, trivial⟩ ⟨by assumption, hR1, rfl⟩)
          ·
            refine one_so 16 rfl rfl (so_allocA zr40 fun b2 => ⟨⟨(by first | exact PH.le_refl _ | assumption | exact PH.le_trans (by assumption) (by assumption)), (inc_of (by repeat' (first | exact List.nil_sublist _ | apply List.Sublist.cons_cons | apply List.Sublist.cons))), .inr (inc_of (by repeat' (first | exact List.nil_sublist _ | apply List.Sublist.cons_cons | apply List.Sublist.cons)))⟩, ?_⟩)
            refine wd_so 12 rfl (by kernel_rfl) rfl (so_callR (c_fetch_Store s mm mo _ _ (G.xSize_ne _) (G.xSize_pos _) (G.xSize_le _) _ hmem _ hT hR) gb100 (by rfl) fun vq11 hq11 hlq11 hpq11 => ⟨⟨(by first | exact PH.le_refl _ | assumption | exact PH.le_trans (by assumption) (by assumption)), (inc_of (by repeat' (first | exact List.nil_sublist _ | apply List.Sublist.cons_cons | apply List.Sublist.cons))), .inr (inc_of (by repeat' (first | exact List.nil_sublist _ | apply List.Sublist.cons_cons | apply List.Sublist.cons)))⟩, ?_⟩)
            obtain ⟨mm1, rfl, hR1⟩ := hpq11
            refine wd_ro 13 rfl (by kernel_rfl) (mv_u rfl) rfl ?_
            refine wd_ro 14 rfl (by kernel_rfl) (ro_extract rfl rfl) rfl ?_
            refine wd_ro 15 rfl (by kernel_rfl) (ro_extract rfl rfl) rfl ?_
            refine wd_so0 18 rfl (by kernel_rfl) (so_storeA ag40 rfl rfl rfl (ones_Machine _) (by repeat (first | exact .head | apply Sel.tail)) rfl ⟨⟨(by first | exact PH.le_refl _ | assumption | exact PH.le_trans (by assumption) (by assumption)), (inc_of (by repeat' (first | exact List.nil_sublist _ | apply List.Sublist.cons_cons | apply List.Sublist.cons))), .inl (by kernel_rfl)⟩, ?_⟩)
            refine wd_so0 19 rfl (by kernel_rfl) (so_storeA ag65 rfl rfl rfl (ones_Trap _) (by repeat (first | exact .head | apply Sel.tail)) rfl ⟨⟨(by first | exact PH.le_refl _ | assumption | exact PH.le_trans (by assumption) (by assumption)), (inc_of (by repeat' (first | exact List.nil_sublist _ | apply List.Sublist.cons_cons | apply List.Sublist.cons))), .inl (by kernel_rfl)⟩, ?_⟩)
            refine wd_done (by kernel_rfl) ?_
            refine wq_perm (L' := [(b3, .cells (encTrap (G.fStore s (x + i.imm) (G.xSize i.op) z).2) 65 (0, 0)), (b2, .cells (encMachine (mach (G.fStore s (x + i.imm) (G.xSize i.op) z).1 mm1 mo)) 40 (0, 0)), (b, .cells (encStep ⟨mach s mm mo, i, x, y, z, tr⟩) 130 (0, 0))]) (by first | exact List.Perm.refl _ | exact List.Perm.swap _ _ _) (wq_cutE (b2, b3, mm1) (by repeat (first | exact out_refl | exact out_ovr | refine out_upd rfl ?_)) ⟨rfl, rfl, trivial⟩ ⟨by assumption, hR1, rfl⟩)
        ·
          refine one_so 16 rfl rfl (so_allocA zr40 fun b2 => ⟨⟨(by first | exact PH.le_refl _ | assumption | exact PH.le_trans (by assumption) (by assumption)), (inc_of (by repeat' (first | exact List.nil_sublist _ | apply List.Sublist.cons_cons | apply List.Sublist.cons))), .inr (inc_of (by repeat' (first | exact List.nil_sublist _ | apply List.Sublist.cons_cons | apply List.Sublist.cons)))⟩, ?_⟩)
          refine wd_so 7 rfl (by kernel_rfl) rfl (so_callMV (c_exec_step_size _ _) (by first | trivial | exact hT) gb99 (by rfl) (.tail (.tail .head)) ⟨⟨(by first | exact PH.le_refl _ | assumption | exact PH.le_trans (by assumption) (by assumption)), (inc_of (by repeat' (first | exact List.nil_sublist _ | apply List.Sublist.cons_cons | apply List.Sublist.cons))), .inr (inc_of (by repeat' (first | exact List.nil_sublist _ | apply List.Sublist.cons_cons | apply List.Sublist.cons)))⟩, ?_⟩)
          refine wd_so 12 rfl (by kernel_rfl) rfl (so_callR (c_fetch_Store s mm mo _ _ (G.xSize_ne _) (G.xSize_pos _) (G.xSize_le _) _ hmem _ hT hR) gb100 (by rfl) fun vq12 hq12 hlq12 hpq12 => ⟨⟨(by first | exact PH.le_refl _ | assumption | exact PH.le_trans (by assumption) (by assumption)), (inc_of (by repeat' (first | exact List.nil_sublist _ | apply List.Sublist.cons_cons | apply List.Sublist.cons))), .inr (inc_of (by repeat' (first | exact List.nil_sublist _ | apply List.Sublist.cons_cons | apply List.Sublist.cons)))⟩, ?_⟩)
          obtain ⟨mm1, rfl, hR1⟩ := hpq12
          refine wd_ro 13 rfl (by kernel_rfl) (mv_u rfl) rfl ?_
          refine wd_ro 14 rfl (by kernel_rfl) (ro_extract rfl rfl) rfl ?_
          refine wd_ro 15 rfl (by kernel_rfl) (ro_extract rfl rfl) rfl ?_
          refine wd_so0 18 rfl (by kernel_rfl) (so_storeA ag40 rfl rfl rfl (ones_Machine _) (by repeat (first | exact .head | apply Sel.tail)) rfl ⟨⟨(by first | exact PH.le_refl _ | assumption | exact PH.le_trans (by assumption) (by assumption)), (inc_of (by repeat' (first | exact List.nil_sublist _ | apply List.Sublist.cons_cons | apply List.Sublist.cons))), .inl (by kernel_rfl)⟩, ?_⟩)
          refine wd_so0 19 rfl (by kernel_rfl) (so_storeA ag65 rfl rfl rfl (ones_Trap _) (by repeat (first | exact .head | apply Sel.tail)) rfl ⟨⟨(by first | exact PH.le_refl _ | assumption | exact PH.le_trans (by assumption) (by assumption)), (inc_of (by repeat' (first | exact List.nil_sublist _ | apply List.Sublist.cons_cons | apply List.Sublist.cons))), .inl (by kernel_rfl)⟩, ?_⟩)
          refine wd_done (by kernel_rfl) ?_
          refine wq_perm (L' := [(b3, .cells (encTrap (G.fStore s (x + i.imm) (G.xSize i.op) z).2) 65 (0, 0)), (b2, .cells (encMachine (mach (G.fStore s (x + i.imm) (G.xSize i.op) z).1 mm1 mo)) 40 (0, 0)), (b, .cells (encStep ⟨mach s mm mo, i, x, y, z, tr⟩) 130 (0, 0))]) (by first | exact List.Perm.refl _ | exact List.Perm.swap _ _ _) (wq_cutE (b2, b3, mm1) (by repeat (first | exact out_refl | exact out_ovr | refine out_upd rfl ?_)) ⟨rfl, rfl, trivial⟩ ⟨by assumption, hR1, rfl⟩)
    ·
      refine one_so 16 rfl rfl (so_allocA zr40 fun b2 => ⟨⟨(by first | exact PH.le_refl _ | assumption | exact PH.le_trans (by assumption) (by assumption)), (inc_of (by repeat' (first | exact List.nil_sublist _ | apply List.Sublist.cons_cons | apply List.Sublist.cons))), .inr (inc_of (by repeat' (first | exact List.nil_sublist _ | apply List.Sublist.cons_cons | apply List.Sublist.cons)))⟩, ?_⟩)
      refine wd_pick2 (i := 5) (j := 17) (by kernel_rfl) ?_ ?_
      ·
        refine one_so 5 rfl rfl (so_callMV (c_exec_step_at _ _) (by first | trivial | exact hT) gb98 (by rfl) (.tail .head) ⟨⟨(by first | exact PH.le_refl _ | assumption | exact PH.le_trans (by assumption) (by assumption)), (inc_of (by repeat' (first | exact List.nil_sublist _ | apply List.Sublist.cons_cons | apply List.Sublist.cons))), .inr (inc_of (by repeat' (first | exact List.nil_sublist _ | apply List.Sublist.cons_cons | apply List.Sublist.cons)))⟩, ?_⟩)
        refine wd_pick2 (i := 7) (j := 17) (by kernel_rfl) ?_ ?_
        ·
          refine one_so 7 rfl rfl (so_callMV (c_exec_step_size _ _) (by first | trivial | exact hT) gb99 (by rfl) (.tail .head) ⟨⟨(by first | exact PH.le_refl _ | assumption | exact PH.le_trans (by assumption) (by assumption)), (inc_of (by repeat' (first | exact List.nil_sublist _ | apply List.Sublist.cons_cons | apply List.Sublist.cons))), .inr (inc_of (by repeat' (first | exact List.nil_sublist _ | apply List.Sublist.cons_cons | apply List.Sublist.cons)))⟩, ?_⟩)
          refine wd_pick2 (i := 12) (j := 17) (by kernel_rfl) ?_ ?_
          ·
            refine one_so 12 rfl rfl (so_callR (c_fetch_Store s mm mo _ _ (G.xSize_ne _) (G.xSize_pos _) (G.xSize_le _) _ hmem _ hT hR) gb100 (by rfl) fun vq13 hq13 hlq13 hpq13 => ⟨⟨(by first | exact PH.le_refl _ | assumption | exact PH.le_trans (by assumption) (by assumption)), (inc_of (by repeat' (first | exact List.nil_sublist _ | apply List.Sublist.cons_cons | apply List.Sublist.cons))), .inr (inc_of (by repeat' (first | exact List.nil_sublist _ | apply List.Sublist.cons_cons | apply List.Sublist.cons)))⟩, ?_⟩)
            obtain ⟨mm1, rfl, hR1⟩ := hpq13
            refine wd_ro 13 rfl (by kernel_rfl) (mv_u rfl) rfl ?_
            refine wd_ro 14 rfl (by kernel_rfl) (ro_extract rfl rfl) rfl ?_
            refine wd_ro 15 rfl (by kernel_rfl) (ro_extract rfl rfl) rfl ?_
            refine wd_so 17 rfl (by kernel_rfl) rfl (so_allocA zr65 fun b3 => ⟨⟨(by first | exact PH.le_refl _ | assumption | exact PH.le_trans (by assumption) (by assumption)), (inc_of (by repeat' (first | exact List.nil_sublist _ | apply List.Sublist.cons_cons | apply List.Sublist.cons))), .inr (inc_of (by repeat' (first | exact List.nil_sublist _ | apply List.Sublist.cons_cons | apply List.Sublist.cons)))⟩, ?_⟩)
            refine wd_so0 18 rfl (by kernel_rfl) (so_storeA ag40 rfl rfl rfl (ones_Machine _) (by repeat (first | exact .head | apply Sel.tail)) rfl ⟨⟨(by first | exact PH.le_refl _ | assumption | exact PH.le_trans (by assumption) (by assumption)), (inc_of (by repeat' (first | exact List.nil_sublist _ | apply List.Sublist.cons_cons | apply List.Sublist.cons))), .inl (by kernel_rfl)⟩, ?_⟩)
            refine wd_so0 19 rfl (by kernel_rfl) (so_storeA ag65 rfl rfl rfl (ones_Trap _) (by repeat (first | exact .head | apply Sel.tail)) rfl ⟨⟨(by first | exact PH.le_refl _ | assumption | exact PH.le_trans (by assumption) (by assumption)), (inc_of (by repeat' (first | exact List.nil_sublist _ | apply List.Sublist.cons_cons | apply List.Sublist.cons))), .inl (by kernel_rfl)⟩, ?_⟩)
            refine wd_done (by kernel_rfl) ?_
            refine wq_perm (L' := [(b3, .cells (encTrap (G.fStore s (x + i.imm) (G.xSize i.op) z).2) 65 (0, 0)), (b2, .cells (encMachine (mach (G.fStore s (x + i.imm) (G.xSize i.op) z).1 mm1 mo)) 40 (0, 0)), (b, .cells (encStep ⟨mach s mm mo, i, x, y, z, tr⟩) 130 (0, 0))]) (by first | exact List.Perm.refl _ | exact List.Perm.swap _ _ _) (wq_cutE (b2, b3, mm1) (by repeat (first | exact out_refl | exact out_ovr | refine out_upd rfl ?_)) ⟨rfl, rfl, trivial⟩ ⟨by assumption, hR1, rfl⟩)
          ·
            refine one_so 17 rfl rfl (so_allocA zr65 fun b3 => ⟨⟨(by first | exact PH.le_refl _ | assumption | exact PH.le_trans (by assumption) (by assumption)), (inc_of (by repeat' (first | exact List.nil_sublist _ | apply List.Sublist.cons_cons | apply List.Sublist.cons))), .inr (inc_of (by repeat' (first | exact List.nil_sublist _ | apply List.Sublist.cons_cons | apply List.Sublist.cons)))⟩, ?_⟩)
            refine wd_so 12 rfl (by kernel_rfl) rfl (so_callR (c_fetch_Store s mm mo _ _ (G.xSize_ne _) (G.xSize_pos _) (G.xSize_le _) _ hmem _ hT hR) gb100 (by rfl) fun vq14 hq14 hlq14 hpq14 => ⟨⟨(by first | exact PH.le_refl _ | assumption | exact PH.le_trans (by assumption) (by assumption)), (inc_of (by repeat' (first | exact List.nil_sublist _ | apply List.Sublist.cons_cons | apply List.Sublist.cons))), .inr (inc_of (by repeat' (first | exact List.nil_sublist _ | apply List.Sublist.cons_cons | apply List.Sublist.cons)))⟩, ?_⟩)
            obtain ⟨mm1, rfl, hR1⟩ := hpq14
            refine wd_ro 13 rfl (by kernel_rfl) (mv_u rfl) rfl ?_
            refine wd_ro 14 rfl (by kernel_rfl) (ro_extract rfl rfl) rfl ?_
            refine wd_ro 15 rfl (by kernel_rfl) (ro_extract rfl rfl) rfl ?_
            refine wd_so0 18 rfl (by kernel_rfl) (so_storeA ag40 rfl rfl rfl (ones_Machine _) (by repeat (first | exact .head | apply Sel.tail)) rfl ⟨⟨(by first | exact PH.le_refl _ | assumption | exact PH.le_trans (by assumption) (by assumption)), (inc_of (by repeat' (first | exact List.nil_sublist _ | apply List.Sublist.cons_cons | apply List.Sublist.cons))), .inl (by kernel_rfl)⟩, ?_⟩)
            refine wd_so0 19 rfl (by kernel_rfl) (so_storeA ag65 rfl rfl rfl (ones_Trap _) (by repeat (first | exact .head | apply Sel.tail)) rfl ⟨⟨(by first | exact PH.le_refl _ | assumption | exact PH.le_trans (by assumption) (by assumption)), (inc_of (by repeat' (first | exact List.nil_sublist _ | apply List.Sublist.cons_cons | apply List.Sublist.cons))), .inl (by kernel_rfl)⟩, ?_⟩)
            refine wd_done (by kernel_rfl) ?_
            refine wq_perm (L' := [(b3, .cells (encTrap (G.fStore s (x + i.imm) (G.xSize i.op) z).2) 65 (0, 0)), (b2, .cells (encMachine (mach (G.fStore s (x + i.imm) (G.xSize i.op) z).1 mm1 mo)) 40 (0, 0)), (b, .cells (encStep ⟨mach s mm mo, i, x, y, z, tr⟩) 130 (0, 0))]) (by first | exact List.Perm.refl _ | exact List.Perm.swap _ _ _) (wq_cutE (b2, b3, mm1) (by repeat (first | exact out_refl | exact out_ovr | refine out_upd rfl ?_)) ⟨rfl, rfl, trivial⟩ ⟨by assumption, hR1, rfl⟩)
        ·
          refine one_so 17 rfl rfl (so_allocA zr65 fun b3 => ⟨⟨(by first | exact PH.le_refl _ | assumption | exact PH.le_trans (by assumption) (by assumption)), (inc_of (by repeat' (first | exact List.nil_sublist _ | apply List.Sublist.cons_cons | apply List.Sublist.cons))), .inr (inc_of (by repeat' (first | exact List.nil_sublist _ | apply List.Sublist.cons_cons | apply List.Sublist.cons)))⟩, ?_⟩)
          refine wd_so 7 rfl (by kernel_rfl) rfl (so_callMV (c_exec_step_size _ _) (by first | trivial | exact hT) gb99 (by rfl) (.tail (.tail .head)) ⟨⟨(by first | exact PH.le_refl _ | assumption | exact PH.le_trans (by assumption) (by assumption)), (inc_of (by repeat' (first | exact List.nil_sublist _ | apply List.Sublist.cons_cons | apply List.Sublist.cons))), .inr (inc_of (by repeat' (first | exact List.nil_sublist _ | apply List.Sublist.cons_cons | apply List.Sublist.cons)))⟩, ?_⟩)
          refine wd_so 12 rfl (by kernel_rfl) rfl (so_callR (c_fetch_Store s mm mo _ _ (G.xSize_ne _) (G.xSize_pos _) (G.xSize_le _) _ hmem _ hT hR) gb100 (by rfl) fun vq15 hq15 hlq15 hpq15 => ⟨⟨(by first | exact PH.le_refl _ | assumption | exact PH.le_trans (by assumption) (by assumption)), (inc_of (by repeat' (first | exact List.nil_sublist _ | apply List.Sublist.cons_cons | apply List.Sublist.cons))), .inr (inc_of (by repeat' (first | exact List.nil_sublist _ | apply List.Sublist.cons_cons | apply List.Sublist.cons)))⟩, ?_⟩)
          obtain ⟨mm1, rfl, hR1⟩ := hpq15
          refine wd_ro 13 rfl (by kernel_rfl) (mv_u rfl) rfl ?_
          refine wd_ro 14 rfl (by kernel_rfl) (ro_extract rfl rfl) rfl ?_
          refine wd_ro 15 rfl (by kernel_rfl) (ro_extract rfl rfl) rfl ?_
          refine wd_so0 18 rfl (by kernel_rfl) (so_storeA ag40 rfl rfl rfl (ones_Machine _) (by repeat (first | exact .head | apply Sel.tail)) rfl ⟨⟨(by first | exact PH.le_refl _ | assumption | exact PH.le_trans (by assumption) (by assumption)), (inc_of (by repeat' (first | exact List.nil_sublist _ | apply List.Sublist.cons_cons | apply List.Sublist.cons))), .inl (by kernel_rfl)⟩, ?_⟩)
          refine wd_so0 19 rfl (by kernel_rfl) (so_storeA ag65 rfl rfl rfl (ones_Trap _) (by repeat (first | exact .head | apply Sel.tail)) rfl ⟨⟨(by first | exact PH.le_refl _ | assumption | exact PH.le_trans (by assumption) (by assumption)), (inc_of (by repeat' (first | exact List.nil_sublist _ | apply List.Sublist.cons_cons | apply List.Sublist.cons))), .inl (by kernel_rfl)⟩, ?_⟩)
          refine wd_done (by kernel_rfl) ?_
          refine wq_perm (L' := [(b3, .cells (encTrap (G.fStore s (x + i.imm) (G.xSize i.op) z).2) 65 (0, 0)), (b2, .cells (encMachine (mach (G.fStore s (x + i.imm) (G.xSize i.op) z).1 mm1 mo)) 40 (0, 0)), (b, .cells (encStep ⟨mach s mm mo, i, x, y, z, tr⟩) 130 (0, 0))]) (by first | exact List.Perm.refl _ | exact List.Perm.swap _ _ _) (wq_cutE (b2, b3, mm1) (by repeat (first | exact out_refl | exact out_ovr | refine out_upd rfl ?_)) ⟨rfl, rfl, trivial⟩ ⟨by assumption, hR1, rfl⟩)
      ·
        refine one_so 17 rfl rfl (so_allocA zr65 fun b3 => ⟨⟨(by first | exact PH.le_refl _ | assumption | exact PH.le_trans (by assumption) (by assumption)), (inc_of (by repeat' (first | exact List.nil_sublist _ | apply List.Sublist.cons_cons | apply List.Sublist.cons))), .inr (inc_of (by repeat' (first | exact List.nil_sublist _ | apply List.Sublist.cons_cons | apply List.Sublist.cons)))⟩, ?_⟩)
        refine wd_so 5 rfl (by kernel_rfl) rfl (so_callMV (c_exec_step_at _ _) (by first | trivial | exact hT) gb98 (by rfl) (.tail (.tail .head)) ⟨⟨(by first | exact PH.le_refl _ | assumption | exact PH.le_trans (by assumption) (by assumption)), (inc_of (by repeat' (first | exact List.nil_sublist _ | apply List.Sublist.cons_cons | apply List.Sublist.cons))), .inr (inc_of (by repeat' (first | exact List.nil_sublist _ | apply List.Sublist.cons_cons | apply List.Sublist.cons)))⟩, ?_⟩)
        refine wd_so 7 rfl (by kernel_rfl) rfl (so_callMV (c_exec_step_size _ _) (by first | trivial | exact hT) gb99 (by rfl) (.tail (.tail .head)) ⟨⟨(by first | exact PH.le_refl _ | assumption | exact PH.le_trans (by assumption) (by assumption)), (inc_of (by repeat' (first | exact List.nil_sublist _ | apply List.Sublist.cons_cons | apply List.Sublist.cons))), .inr (inc_of (by repeat' (first | exact List.nil_sublist _ | apply List.Sublist.cons_cons | apply List.Sublist.cons)))⟩, ?_⟩)
        refine wd_so 12 rfl (by kernel_rfl) rfl (so_callR (c_fetch_Store s mm mo _ _ (G.xSize_ne _) (G.xSize_pos _) (G.xSize_le _) _ hmem _ hT hR) gb100 (by rfl) fun vq16 hq16 hlq16 hpq16 => ⟨⟨(by first | exact PH.le_refl _ | assumption | exact PH.le_trans (by assumption) (by assumption)), (inc_of (by repeat' (first | exact List.nil_sublist _ | apply List.Sublist.cons_cons | apply List.Sublist.cons))), .inr (inc_of (by repeat' (first | exact List.nil_sublist _ | apply List.Sublist.cons_cons | apply List.Sublist.cons)))⟩, ?_⟩)
        obtain ⟨mm1, rfl, hR1⟩ := hpq16
        refine wd_ro 13 rfl (by kernel_rfl) (mv_u rfl) rfl ?_
        refine wd_ro 14 rfl (by kernel_rfl) (ro_extract rfl rfl) rfl ?_
        refine wd_ro 15 rfl (by kernel_rfl) (ro_extract rfl rfl) rfl ?_
        refine wd_so0 18 rfl (by kernel_rfl) (so_storeA ag40 rfl rfl rfl (ones_Machine _) (by repeat (first | exact .head | apply Sel.tail)) rfl ⟨⟨(by first | exact PH.le_refl _ | assumption | exact PH.le_trans (by assumption) (by assumption)), (inc_of (by repeat' (first | exact List.nil_sublist _ | apply List.Sublist.cons_cons | apply List.Sublist.cons))), .inl (by kernel_rfl)⟩, ?_⟩)
        refine wd_so0 19 rfl (by kernel_rfl) (so_storeA ag65 rfl rfl rfl (ones_Trap _) (by repeat (first | exact .head | apply Sel.tail)) rfl ⟨⟨(by first | exact PH.le_refl _ | assumption | exact PH.le_trans (by assumption) (by assumption)), (inc_of (by repeat' (first | exact List.nil_sublist _ | apply List.Sublist.cons_cons | apply List.Sublist.cons))), .inl (by kernel_rfl)⟩, ?_⟩)
        refine wd_done (by kernel_rfl) ?_
        refine wq_perm (L' := [(b3, .cells (encTrap (G.fStore s (x + i.imm) (G.xSize i.op) z).2) 65 (0, 0)), (b2, .cells (encMachine (mach (G.fStore s (x + i.imm) (G.xSize i.op) z).1 mm1 mo)) 40 (0, 0)), (b, .cells (encStep ⟨mach s mm mo, i, x, y, z, tr⟩) 130 (0, 0))]) (by first | exact List.Perm.refl _ | exact List.Perm.swap _ _ _) (wq_cutE (b2, b3, mm1) (by repeat (first | exact out_refl | exact out_ovr | refine out_upd rfl ?_)) ⟨rfl, rfl, trivial⟩ ⟨by assumption, hR1, rfl⟩)
    ·
      refine one_so 17 rfl rfl (so_allocA zr65 fun b3 => ⟨⟨(by first | exact PH.le_refl _ | assumption | exact PH.le_trans (by assumption) (by assumption)), (inc_of (by repeat' (first | exact List.nil_sublist _ | apply List.Sublist.cons_cons | apply List.Sublist.cons))), .inr (inc_of (by repeat' (first | exact List.nil_sublist _ | apply List.Sublist.cons_cons | apply List.Sublist.cons)))⟩, ?_⟩)
      refine wd_pick2 (i := 5) (j := 16) (by kernel_rfl) ?_ ?_
      ·
        refine one_so 5 rfl rfl (so_callMV (c_exec_step_at _ _) (by first | trivial | exact hT) gb98 (by rfl) (.tail .head) ⟨⟨(by first | exact PH.le_refl _ | assumption | exact PH.le_trans (by assumption) (by assumption)), (inc_of (by repeat' (first | exact List.nil_sublist _ | apply List.Sublist.cons_cons | apply List.Sublist.cons))), .inr (inc_of (by repeat' (first | exact List.nil_sublist _ | apply List.Sublist.cons_cons | apply List.Sublist.cons)))⟩, ?_⟩)
        refine wd_pick2 (i := 7) (j := 16) (by kernel_rfl) ?_ ?_
        ·
          refine one_so 7 rfl rfl (so_callMV (c_exec_step_size _ _) (by first | trivial | exact hT) gb99 (by rfl) (.tail .head) ⟨⟨(by first | exact PH.le_refl _ | assumption | exact PH.le_trans (by assumption) (by assumption)), (inc_of (by repeat' (first | exact List.nil_sublist _ | apply List.Sublist.cons_cons | apply List.Sublist.cons))), .inr (inc_of (by repeat' (first | exact List.nil_sublist _ | apply List.Sublist.cons_cons | apply List.Sublist.cons)))⟩, ?_⟩)
          refine wd_pick2 (i := 12) (j := 16) (by kernel_rfl) ?_ ?_
          ·
            refine one_so 12 rfl rfl (so_callR (c_fetch_Store s mm mo _ _ (G.xSize_ne _) (G.xSize_pos _) (G.xSize_le _) _ hmem _ hT hR) gb100 (by rfl) fun vq17 hq17 hlq17 hpq17 => ⟨⟨(by first | exact PH.le_refl _ | assumption | exact PH.le_trans (by assumption) (by assumption)), (inc_of (by repeat' (first | exact List.nil_sublist _ | apply List.Sublist.cons_cons | apply List.Sublist.cons))), .inr (inc_of (by repeat' (first | exact List.nil_sublist _ | apply List.Sublist.cons_cons | apply List.Sublist.cons)))⟩, ?_⟩)
            obtain ⟨mm1, rfl, hR1⟩ := hpq17
            refine wd_ro 13 rfl (by kernel_rfl) (mv_u rfl) rfl ?_
            refine wd_ro 14 rfl (by kernel_rfl) (ro_extract rfl rfl) rfl ?_
            refine wd_ro 15 rfl (by kernel_rfl) (ro_extract rfl rfl) rfl ?_
            refine wd_so 16 rfl (by kernel_rfl) rfl (so_allocA zr40 fun b2 => ⟨⟨(by first | exact PH.le_refl _ | assumption | exact PH.le_trans (by assumption) (by assumption)), (inc_of (by repeat' (first | exact List.nil_sublist _ | apply List.Sublist.cons_cons | apply List.Sublist.cons))), .inr (inc_of (by repeat' (first | exact List.nil_sublist _ | apply List.Sublist.cons_cons | apply List.Sublist.cons)))⟩, ?_⟩)
            refine wd_so0 18 rfl (by kernel_rfl) (so_storeA ag40 rfl rfl rfl (ones_Machine _) (by repeat (first | exact .head | apply Sel.tail)) rfl ⟨⟨(by first | exact PH.le_refl _ | assumption | exact PH.le_trans (by assumption) (by assumption)), (inc_of (by repeat' (first | exact List.nil_sublist _ | apply List.Sublist.cons_cons | apply List.Sublist.cons))), .inl (by kernel_rfl)⟩, ?_⟩)
            refine wd_so0 19 rfl (by kernel_rfl) (so_storeA ag65 rfl rfl rfl (ones_Trap _) (by repeat (first | exact .head | apply Sel.tail)) rfl ⟨⟨(by first | exact PH.le_refl _ | assumption | exact PH.le_trans (by assumption) (by assumption)), (inc_of (by repeat' (first | exact List.nil_sublist _ | apply List.Sublist.cons_cons | apply List.Sublist.cons))), .inl (by kernel_rfl)⟩, ?_⟩)
            refine wd_done (by kernel_rfl) ?_
            refine wq_perm (L' := [(b3, .cells (encTrap (G.fStore s (x + i.imm) (G.xSize i.op) z).2) 65 (0, 0)), (b2, .cells (encMachine (mach (G.fStore s (x + i.imm) (G.xSize i.op) z).1 mm1 mo)) 40 (0, 0)), (b, .cells (encStep ⟨mach s mm mo, i, x, y, z, tr⟩) 130 (0, 0))]) (by first | exact List.Perm.refl _ | exact List.Perm.swap _ _ _) (wq_cutE (b2, b3, mm1) (by repeat (first | exact out_refl | exact out_ovr | refine out_upd rfl ?_)) ⟨rfl, rfl, trivial⟩ ⟨by assumption, hR1, rfl⟩)
          ·
            refine one_so 16 rfl rfl (so_allocA zr40 fun b2 => ⟨⟨(by first | exact PH.le_refl _ | assumption | exact PH.le_trans (by assumption) (by assumption)), (inc_of (by repeat' (first | exact List.nil_sublist _ | apply List.Sublist.cons_cons | apply List.Sublist.cons))), .inr (inc_of (by repeat' (first | exact List.nil_sublist _ | apply List.Sublist.cons_cons | apply List.Sublist.cons)))⟩, ?_⟩)
            refine wd_so 12 rfl (by kernel_rfl) rfl (so_callR (c_fetch_Store s mm mo _ _ (G.xSize_ne _) (G.xSize_pos _) (G.xSize_le _) _ hmem _ hT hR) gb100 (by rfl) fun vq18 hq18 hlq18 hpq18 => ⟨⟨(by first | exact PH.le_refl _ | assumption | exact PH.le_trans (by assumption) (by assumption)), (inc_of (by repeat' (first | exact List.nil_sublist _ | apply List.Sublist.cons_cons | apply List.Sublist.cons))), .inr (inc_of (by repeat' (first | exact List.nil_sublist _ | apply List.Sublist.cons_cons | apply List.Sublist.cons)))⟩, ?_⟩)
            obtain ⟨mm1, rfl, hR1⟩ := hpq18
            refine wd_ro 13 rfl (by kernel_rfl) (mv_u rfl) rfl ?_
            refine wd_ro 14 rfl (by kernel_rfl) (ro_extract rfl rfl) rfl ?_
            refine wd_ro 15 rfl (by kernel_rfl) (ro_extract rfl rfl) rfl ?_
            refine wd_so0 18 rfl (by kernel_rfl) (so_storeA ag40 rfl rfl rfl (ones_Machine _) (by repeat (first | exact .head | apply Sel.tail)) rfl ⟨⟨(by first | exact PH.le_refl _ | assumption | exact PH.le_trans (by assumption) (by assumption)), (inc_of (by repeat' (first | exact List.nil_sublist _ | apply List.Sublist.cons_cons | apply List.Sublist.cons))), .inl (by kernel_rfl)⟩, ?_⟩)
            refine wd_so0 19 rfl (by kernel_rfl) (so_storeA ag65 rfl rfl rfl (ones_Trap _) (by repeat (first | exact .head | apply Sel.tail)) rfl ⟨⟨(by first | exact PH.le_refl _ | assumption | exact PH.le_trans (by assumption) (by assumption)), (inc_of (by repeat' (first | exact List.nil_sublist _ | apply List.Sublist.cons_cons | apply List.Sublist.cons))), .inl (by kernel_rfl)⟩, ?_⟩)
            refine wd_done (by kernel_rfl) ?_
            refine wq_perm (L' := [(b3, .cells (encTrap (G.fStore s (x + i.imm) (G.xSize i.op) z).2) 65 (0, 0)), (b2, .cells (encMachine (mach (G.fStore s (x + i.imm) (G.xSize i.op) z).1 mm1 mo)) 40 (0, 0)), (b, .cells (encStep ⟨mach s mm mo, i, x, y, z, tr⟩) 130 (0, 0))]) (by first | exact List.Perm.refl _ | exact List.Perm.swap _ _ _) (wq_cutE (b2, b3, mm1) (by repeat (first | exact out_refl | exact out_ovr | refine out_upd rfl ?_)) ⟨rfl, rfl, trivial⟩ ⟨by assumption, hR1, rfl⟩)
        ·
          refine one_so 16 rfl rfl (so_allocA zr40 fun b2 => ⟨⟨(by first | exact PH.le_refl _ | assumption | exact PH.le_trans (by assumption) (by assumption)), (inc_of (by repeat' (first | exact List.nil_sublist _ | apply List.Sublist.cons_cons | apply List.Sublist.cons))), .inr (inc_of (by repeat' (first | exact List.nil_sublist _ | apply List.Sublist.cons_cons | apply List.Sublist.cons)))⟩, ?_⟩)
          refine wd_so 7 rfl (by kernel_rfl) rfl (so_callMV (c_exec_step_size _ _) (by first | trivial | exact hT) gb99 (by rfl) (.tail (.tail .head)) ⟨⟨(by first | exact PH.le_refl _ | assumption | exact PH.le_trans (by assumption) (by assumption)), (inc_of (by repeat' (first | exact List.nil_sublist _ | apply List.Sublist.cons_cons | apply List.Sublist.cons))), .inr (inc_of (by repeat' (first | exact List.nil_sublist _ | apply List.Sublist.cons_cons | apply List.Sublist.cons)))⟩, ?_⟩)
          refine wd_so 12 rfl (by kernel_rfl) rfl (so_callR (c_fetch_Store s mm mo _ _ (G.xSize_ne _) (G.xSize_pos _) (G.xSize_le _) _ hmem _ hT hR) gb100 (by rfl) fun vq19 hq19 hlq19 hpq19 => ⟨⟨(by first | exact PH.le_refl _ | assumption | exact PH.le_trans (by assumption) (by assumption)), (inc_of (by repeat' (first | exact List.nil_sublist _ | apply List.Sublist.cons_cons | apply List.Sublist.cons))), .inr (inc_of (by repeat' (first | exact List.nil_sublist _ | apply List.Sublist.cons_cons | apply List.Sublist.cons)))⟩, ?_⟩)
          obtain ⟨mm1, rfl, hR1⟩ := hpq19
          refine wd_ro 13 rfl (by kernel_rfl) (mv_u rfl) rfl ?_
          refine wd_ro 14 rfl (by kernel_rfl) (ro_extract rfl rfl) rfl ?_
          refine wd_ro 15 rfl (by kernel_rfl) (ro_extract rfl rfl) rfl ?_
          refine wd_so0 18 rfl (by kernel_rfl) (so_storeA ag40 rfl rfl rfl (ones_Machine _) (by repeat (first | exact .head | apply Sel.tail)) rfl ⟨⟨(by first | exact PH.le_refl _ | assumption | exact PH.le_trans (by assumption) (by assumption)), (inc_of (by repeat' (first | exact List.nil_sublist _ | apply List.Sublist.cons_cons | apply List.Sublist.cons))), .inl (by kernel_rfl)⟩, ?_⟩)
          refine wd_so0 19 rfl (by kernel_rfl) (so_storeA ag65 rfl rfl rfl (ones_Trap _) (by repeat (first | exact .head | apply Sel.tail)) rfl ⟨⟨(by first | exact PH.le_refl _ | assumption | exact PH.le_trans (by assumption) (by assumption)), (inc_of (by repeat' (first | exact List.nil_sublist _ | apply List.Sublist.cons_cons | apply List.Sublist.cons))), .inl (by kernel_rfl)⟩, ?_⟩)
          refine wd_done (by kernel_rfl) ?_
          refine wq_perm (L' := [(b3, .cells (encTrap (G.fStore s (x + i.imm) (G.xSize i.op) z).2) 65 (0, 0)), (b2, .cells (encMachine (mach (G.fStore s (x + i.imm) (G.xSize i.op) z).1 mm1 mo)) 40 (0, 0)), (b, .cells (encStep ⟨mach s mm mo, i, x, y, z, tr⟩) 130 (0, 0))]) (by first | exact List.Perm.refl _ | exact List.Perm.swap _ _ _) (wq_cutE (b2, b3, mm1) (by repeat (first | exact out_refl | exact out_ovr | refine out_upd rfl ?_)) ⟨rfl, rfl, trivial⟩ ⟨by assumption, hR1, rfl⟩)
      ·
        refine one_so 16 rfl rfl (so_allocA zr40 fun b2 => ⟨⟨(by first | exact PH.le_refl _ | assumption | exact PH.le_trans (by assumption) (by assumption)), (inc_of (by repeat' (first | exact List.nil_sublist _ | apply List.Sublist.cons_cons | apply List.Sublist.cons))), .inr (inc_of (by repeat' (first | exact List.nil_sublist _ | apply List.Sublist.cons_cons | apply List.Sublist.cons)))⟩, ?_⟩)
        refine wd_so 5 rfl (by kernel_rfl) rfl (so_callMV (c_exec_step_at _ _) (by first | trivial | exact hT) gb98 (by rfl) (.tail (.tail .head)) ⟨⟨(by first | exact PH.le_refl _ | assumption | exact PH.le_trans (by assumption) (by assumption)), (inc_of (by repeat' (first | exact List.nil_sublist _ | apply List.Sublist.cons_cons | apply List.Sublist.cons))), .inr (inc_of (by repeat' (first | exact List.nil_sublist _ | apply List.Sublist.cons_cons | apply List.Sublist.cons)))⟩, ?_⟩)
        refine wd_so 7 rfl (by kernel_rfl) rfl (so_callMV (c_exec_step_size _ _) (by first | trivial | exact hT) gb99 (by rfl) (.tail (.tail .head)) ⟨⟨(by first | exact PH.le_refl _ | assumption | exact PH.le_trans (by assumption) (by assumption)), (inc_of (by repeat' (first | exact List.nil_sublist _ | apply List.Sublist.cons_cons | apply List.Sublist.cons))), .inr (inc_of (by repeat' (first | exact List.nil_sublist _ | apply List.Sublist.cons_cons | apply List.Sublist.cons)))⟩, ?_⟩)
        refine wd_so 12 rfl (by kernel_rfl) rfl (so_callR (c_fetch_Store s mm mo _ _ (G.xSize_ne _) (G.xSize_pos _) (G.xSize_le _) _ hmem _ hT hR) gb100 (by rfl) fun vq20 hq20 hlq20 hpq20 => ⟨⟨(by first | exact PH.le_refl _ | assumption | exact PH.le_trans (by assumption) (by assumption)), (inc_of (by repeat' (first | exact List.nil_sublist _ | apply List.Sublist.cons_cons | apply List.Sublist.cons))), .inr (inc_of (by repeat' (first | exact List.nil_sublist _ | apply List.Sublist.cons_cons | apply List.Sublist.cons)))⟩, ?_⟩)
        obtain ⟨mm1, rfl, hR1⟩ := hpq20
        refine wd_ro 13 rfl (by kernel_rfl) (mv_u rfl) rfl ?_
        refine wd_ro 14 rfl (by kernel_rfl) (ro_extract rfl rfl) rfl ?_
        refine wd_ro 15 rfl (by kernel_rfl) (ro_extract rfl rfl) rfl ?_
        refine wd_so0 18 rfl (by kernel_rfl) (so_storeA ag40 rfl rfl rfl (ones_Machine _) (by repeat (first | exact .head | apply Sel.tail)) rfl ⟨⟨(by first | exact PH.le_refl _ | assumption | exact PH.le_trans (by assumption) (by assumption)), (inc_of (by repeat' (first | exact List.nil_sublist _ | apply List.Sublist.cons_cons | apply List.Sublist.cons))), .inl (by kernel_rfl)⟩, ?_⟩)
        refine wd_so0 19 rfl (by kernel_rfl) (so_storeA ag65 rfl rfl rfl (ones_Trap _) (by repeat (first | exact .head | apply Sel.tail)) rfl ⟨⟨(by first | exact PH.le_refl _ | assumption | exact PH.le_trans (by assumption) (by assumption)), (inc_of (by repeat' (first | exact List.nil_sublist _ | apply List.Sublist.cons_cons | apply List.Sublist.cons))), .inl (by kernel_rfl)⟩, ?_⟩)
        refine wd_done (by kernel_rfl) ?_
        refine wq_perm (L' := [(b3, .cells (encTrap (G.fStore s (x + i.imm) (G.xSize i.op) z).2) 65 (0, 0)), (b2, .cells (encMachine (mach (G.fStore s (x + i.imm) (G.xSize i.op) z).1 mm1 mo)) 40 (0, 0)), (b, .cells (encStep ⟨mach s mm mo, i, x, y, z, tr⟩) 130 (0, 0))]) (by first | exact List.Perm.refl _ | exact List.Perm.swap _ _ _) (wq_cutE (b2, b3, mm1) (by repeat (first | exact out_refl | exact out_ovr | refine out_upd rfl ?_)) ⟨rfl, rfl, trivial⟩ ⟨by assumption, hR1, rfl⟩)
  ·
    rintro ⟨b2, b3, mm1⟩ us h' L' ⟨hle, hR1, rfl⟩
    refine xp_seq ?_
    refine xp_region ?_
    refine wl_ro (mv_p rfl) rfl ?_
    refine wl_ro (ro_loadA ag65 rfl (by repeat (first | exact .head | apply Sel.tail)) (by rfl) (whole_Trap _)) rfl ?_
    refine wl_ro (ro_nilCheck rfl) rfl ?_
    refine wl_ro (ro_fieldAddrC 41 fb130_5 rfl rfl) rfl ?_
    refine wl_s0 (so_storeP ag65 rfl rfl rfl (ones_Trap _) (by repeat (first | exact .head | apply Sel.tail)) (by rfl) (set_Step_trap _ _) ?_)
    refine wl_nil ?_
    refine wq_then ?_
    refine xp_seq ?_
    refine xp_region ?_
    refine wl_ro (ro_fieldAddrC 0 fb65_0 rfl rfl) rfl ?_
    refine wl_ro (ro_load sc3 rfl (by repeat (first | exact .head | apply Sel.tail)) (get_Trap_cause _)) rfl ?_
    refine wl_ro (roI_eql rfl rfl) rfl ?_
    refine wl_nil ?_
    refine wq_then ?_
    refine xp_cond _ rfl (fun c21 => ?_) (fun c21 => ?_)
    ·
      try simp only [decide_eq_true_eq, decide_eq_false_iff_not] at c21
      have hc := c21
      refine xp_seq ?_
      refine xp_region ?_
      refine wl_ro (mv_p rfl) rfl ?_
      refine wl_ro (ro_loadA ag40 rfl (by repeat (first | exact .head | apply Sel.tail)) (by rfl) (whole_Machine _)) rfl ?_
      refine wl_ro (ro_nilCheck rfl) rfl ?_
      refine wl_ro (ro_fieldAddrC 0 fb130_0 rfl rfl) rfl ?_
      refine wl_s0 (so_storeP ag40 rfl rfl rfl (ones_Machine _) (by repeat (first | exact .head | apply Sel.tail)) (by rfl) (set_Step_m _ _) ?_)
      refine wl_nil ?_
      refine wq_then ?_
      refine xp_region ?_
      refine wl_ro (mv_p rfl) rfl ?_
      refine wl_ro (ro_fieldAddrC 0 fb40_0 rfl rfl) rfl ?_
      refine wl_ro (ro_loadA ag37 rfl (by repeat (first | exact .head | apply Sel.tail)) (by rfl) (get_Machine_core _)) rfl ?_
      refine wl_s rfl (so_callV (c_exec_Advance _ 4#32) gb80 (by rfl) ?_)
      refine wl_ro (ro_nilCheck rfl) rfl ?_
      refine wl_ro (ro_fieldAddrC 0 fb130_0 rfl rfl) rfl ?_
      refine wl_ro (ro_fieldAddrC 0 fb40_0 rfl rfl) rfl ?_
      refine wl_s0 (so_storeP ag37 rfl rfl rfl (ones_Core _) (by repeat (first | exact .head | apply Sel.tail)) (by rfl) (set_Step_m_core _ _) ?_)
      refine wl_nil ?_
      refine fq_end1 ?_
      refine fq_ret1 (L' := [(b, _)]) _ rfl .nil rfl (by repeat (first | exact List.Sublist.cons_cons _ (List.nil_sublist _) | apply List.Sublist.cons)) (by rfl) ?_
      simp only [hc, if_true]
      exact ⟨_, _, rfl, rfl, mm1, rfl, rfl, ⟨hR1.mem, hR1.out⟩⟩
    ·
      try simp only [decide_eq_true_eq, decide_eq_false_iff_not] at c21
      have hc := c21
      refine xp_skip ?_
      refine fq_end1 ?_
      refine fq_ret1 (L' := [(b, _)]) _ rfl .nil rfl (by repeat (first | exact List.Sublist.cons_cons _ (List.nil_sublist _) | apply List.Sublist.cons)) (by rfl) ?_
      simp only [hc, if_false]
      exact ⟨_, _, rfl, rfl, mm, rfl, rfl, hR.mono hle⟩
set_option maxHeartbeats 4000000 in
theorem c_exec_Execute (s : MS) (mm mo : SV) (i : Sx.Instr) (hmem : s.mem.length ≤ 1099511627776) (h : PH) (hT : Tb h) (hR : Rp h s mm mo) : CtR Tryd.prog 67 #[.agg (encMachine (mach s mm mo)), .agg (encInstr i)] h fun u h' => ∃ mm', u = .tuple #[.agg (encMachine (mach (G.execute s i).1 mm' mo)), .agg (encTrap (G.execute s i).2)] ∧ Rp h' (G.execute s i).1 mm' mo := by
  refine ctr_enter (n := 87) [.agg (encMachine (mach s mm mo)), .agg (encInstr i)] Tryd.func67 rfl rfl rfl fun w0 => ?_
  refine xp_seq ?_
  refine xp_region ?_
  refine wl_s rfl (so_boxA rfl fun b2 => ?_)
  refine wl_s rfl (so_boxA rfl fun b3 => ?_)
  refine wl_s rfl (so_allocA zr40 fun b4 => ?_)
  refine wl_s rfl (so_allocA zr65 fun b5 => ?_)
  refine wl_nil ?_
  refine wq_then ?_
  refine xp_seq ?_
  refine xp_draw [true, true, true, true] [] mixed ?_
  refine wd_ro 0 rfl (by kernel_rfl) (ro_loadA ag40 rfl (by repeat (first | exact .head | apply Sel.tail)) (by rfl) (whole_Machine _)) rfl ?_
  refine wd_ro 1 rfl (by kernel_rfl) (ro_loadA ag75 rfl (by repeat (first | exact .head | apply Sel.tail)) (by rfl) (whole_Instr _)) rfl ?_
  refine wd_ro 2 rfl (by kernel_rfl) (ro_fieldAddrC 0 fb40_0 rfl rfl) rfl ?_
  refine wd_ro 3 rfl (by kernel_rfl) (ro_fieldAddrC 0 fb37_0 rfl rfl) rfl ?_
  refine wd_ro 4 rfl (by kernel_rfl) (ro_loadA ag35 rfl (by repeat (first | exact .head | apply Sel.tail)) (by rfl) (get_Machine_core_regs _)) rfl ?_
  refine wd_ro 5 rfl (by kernel_rfl) (ro_fieldAddrC 2 fb75_2 rfl rfl) rfl ?_
  refine wd_ro 6 rfl (by kernel_rfl) (ro_load sc3 rfl (by repeat (first | exact .head | apply Sel.tail)) (get_Instr_ra _)) rfl ?_
  refine wd_ro 8 rfl (by kernel_rfl) (ro_fieldAddrC 0 fb40_0 rfl rfl) rfl ?_
  refine wd_ro 9 rfl (by kernel_rfl) (ro_fieldAddrC 0 fb37_0 rfl rfl) rfl ?_
  refine wd_ro 10 rfl (by kernel_rfl) (ro_loadA ag35 rfl (by repeat (first | exact .head | apply Sel.tail)) (by rfl) (get_Machine_core_regs _)) rfl ?_
  refine wd_ro 11 rfl (by kernel_rfl) (ro_fieldAddrC 3 fb75_3 rfl rfl) rfl ?_
  refine wd_ro 12 rfl (by kernel_rfl) (ro_load sc3 rfl (by repeat (first | exact .head | apply Sel.tail)) (get_Instr_rb _)) rfl ?_
  refine wd_ro 14 rfl (by kernel_rfl) (ro_fieldAddrC 0 fb40_0 rfl rfl) rfl ?_
  refine wd_ro 15 rfl (by kernel_rfl) (ro_fieldAddrC 0 fb37_0 rfl rfl) rfl ?_
  refine wd_ro 16 rfl (by kernel_rfl) (ro_loadA ag35 rfl (by repeat (first | exact .head | apply Sel.tail)) (by rfl) (get_Machine_core_regs _)) rfl ?_
  refine wd_ro 17 rfl (by kernel_rfl) (ro_fieldAddrC 1 fb75_1 rfl rfl) rfl ?_
  refine wd_ro 18 rfl (by kernel_rfl) (ro_load sc3 rfl (by repeat (first | exact .head | apply Sel.tail)) (get_Instr_rd _)) rfl ?_
  refine wd_so 7 rfl (by kernel_rfl) rfl (so_callV (c_regs_Get _ _) gb77 (by rfl) ⟨⟨(by first | exact PH.le_refl _ | assumption | exact PH.le_trans (by assumption) (by assumption)), (inc_of (by repeat' (first | exact List.nil_sublist _ | apply List.Sublist.cons_cons | apply List.Sublist.cons))), .inr (inc_of (by repeat' (first | exact List.nil_sublist _ | apply List.Sublist.cons_cons | apply List.Sublist.cons)))⟩, ?_⟩)
  refine wd_so 13 rfl (by kernel_rfl) rfl (so_callV (c_regs_Get _ _) gb77 (by rfl) ⟨⟨(by first | exact PH.le_refl _ | assumption | exact PH.le_trans (by assumption) (by assumption)), (inc_of (by repeat' (first | exact List.nil_sublist _ | apply List.Sublist.cons_cons | apply List.Sublist.cons))), .inr (inc_of (by repeat' (first | exact List.nil_sublist _ | apply List.Sublist.cons_cons | apply List.Sublist.cons)))⟩, ?_⟩)
  refine wd_so 19 rfl (by kernel_rfl) rfl (so_callV (c_regs_Get _ _) gb77 (by rfl) ⟨⟨(by first | exact PH.le_refl _ | assumption | exact PH.le_trans (by assumption) (by assumption)), (inc_of (by repeat' (first | exact List.nil_sublist _ | apply List.Sublist.cons_cons | apply List.Sublist.cons))), .inr (inc_of (by repeat' (first | exact List.nil_sublist _ | apply List.Sublist.cons_cons | apply List.Sublist.cons)))⟩, ?_⟩)
  refine wd_ro 20 rfl (by kernel_rfl) (ro_buildS pl130 zr130 (build_Step_0_1_2_3_4 _ _ _ _ _)) rfl ?_
  refine wd_so 21 rfl (by kernel_rfl) rfl (so_boxA rfl fun b31 => ⟨⟨(by first | exact PH.le_refl _ | assumption | exact PH.le_trans (by assumption) (by assumption)), (inc_of (by repeat' (first | exact List.nil_sublist _ | apply List.Sublist.cons_cons | apply List.Sublist.cons))), .inr (inc_of (by repeat' (first | exact List.nil_sublist _ | apply List.Sublist.cons_cons | apply List.Sublist.cons)))⟩, ?_⟩)
  refine wd_ro 22 rfl (by kernel_rfl) (as_p rfl) rfl ?_
  refine wd_done (by kernel_rfl) ?_
  refine wq_then ?_
  refine xp_seq ?_
  refine xp_region ?_
  refine wl_s rfl (so_makeMap fun b32 => ?_)
  refine wl_ro (mv_p rfl) rfl ?_
  refine wl_ro (ro_makeFuncL (fs := [.pointer (some ⟨b31, 0, none⟩)]) (cs := []) rfl rfl) rfl ?_
  refine wl_s0 (so_insert mpk131 rfl rfl (by repeat (first | exact .head | apply Sel.tail)) (by kernel_rfl) (by kernel_rfl) rfl ?_)
  refine wl_ro (mv_p rfl) rfl ?_
  refine wl_ro (ro_makeFuncL (fs := [.pointer (some ⟨b31, 0, none⟩)]) (cs := []) rfl rfl) rfl ?_
  refine wl_s0 (so_insert mpk131 rfl rfl (by repeat (first | exact .head | apply Sel.tail)) (by kernel_rfl) (by kernel_rfl) rfl ?_)
  refine wl_ro (mv_p rfl) rfl ?_
  refine wl_ro (ro_makeFuncL (fs := [.pointer (some ⟨b31, 0, none⟩)]) (cs := []) rfl rfl) rfl ?_
  refine wl_s0 (so_insert mpk131 rfl rfl (by repeat (first | exact .head | apply Sel.tail)) (by kernel_rfl) (by kernel_rfl) rfl ?_)
  refine wl_ro (mv_p rfl) rfl ?_
  refine wl_ro (ro_makeFuncL (fs := [.pointer (some ⟨b31, 0, none⟩)]) (cs := []) rfl rfl) rfl ?_
  refine wl_s0 (so_insert mpk131 rfl rfl (by repeat (first | exact .head | apply Sel.tail)) (by kernel_rfl) (by kernel_rfl) rfl ?_)
  refine wl_ro (mv_p rfl) rfl ?_
  refine wl_ro (ro_makeFuncL (fs := [.pointer (some ⟨b31, 0, none⟩)]) (cs := []) rfl rfl) rfl ?_
  refine wl_s0 (so_insert mpk131 rfl rfl (by repeat (first | exact .head | apply Sel.tail)) (by kernel_rfl) (by kernel_rfl) rfl ?_)
  refine wl_ro (mv_p rfl) rfl ?_
  refine wl_ro (ro_makeFuncL (fs := [.pointer (some ⟨b31, 0, none⟩)]) (cs := []) rfl rfl) rfl ?_
  refine wl_s0 (so_insert mpk131 rfl rfl (by repeat (first | exact .head | apply Sel.tail)) (by kernel_rfl) (by kernel_rfl) rfl ?_)
  refine wl_ro (mv_p rfl) rfl ?_
  refine wl_ro (ro_makeFuncL (fs := [.pointer (some ⟨b31, 0, none⟩)]) (cs := []) rfl rfl) rfl ?_
  refine wl_s0 (so_insert mpk131 rfl rfl (by repeat (first | exact .head | apply Sel.tail)) (by kernel_rfl) (by kernel_rfl) rfl ?_)
  refine wl_ro (mv_p rfl) rfl ?_
  refine wl_ro (ro_makeFuncL (fs := [.pointer (some ⟨b31, 0, none⟩)]) (cs := []) rfl rfl) rfl ?_
  refine wl_s0 (so_insert mpk131 rfl rfl (by repeat (first | exact .head | apply Sel.tail)) (by kernel_rfl) (by kernel_rfl) rfl ?_)
  refine wl_ro (mv_p rfl) rfl ?_
  refine wl_ro (ro_makeFuncL (fs := [.pointer (some ⟨b31, 0, none⟩)]) (cs := []) rfl rfl) rfl ?_
  refine wl_s0 (so_insert mpk131 rfl rfl (by repeat (first | exact .head | apply Sel.tail)) (by kernel_rfl) (by kernel_rfl) rfl ?_)
  refine wl_ro (mv_p rfl) rfl ?_
  refine wl_ro (ro_makeFuncL (fs := [.pointer (some ⟨b31, 0, none⟩)]) (cs := []) rfl rfl) rfl ?_
  refine wl_s0 (so_insert mpk131 rfl rfl (by repeat (first | exact .head | apply Sel.tail)) (by kernel_rfl) (by kernel_rfl) rfl ?_)
  refine wl_ro (mv_p rfl) rfl ?_
  refine wl_ro (ro_makeFuncL (fs := [.pointer (some ⟨b31, 0, none⟩)]) (cs := []) rfl rfl) rfl ?_
  refine wl_s0 (so_insert mpk131 rfl rfl (by repeat (first | exact .head | apply Sel.tail)) (by kernel_rfl) (by kernel_rfl) rfl ?_)
  refine wl_ro (mv_p rfl) rfl ?_
  refine wl_ro (ro_makeFuncL (fs := [.pointer (some ⟨b31, 0, none⟩)]) (cs := []) rfl rfl) rfl ?_
  refine wl_s0 (so_insert mpk131 rfl rfl (by repeat (first | exact .head | apply Sel.tail)) (by kernel_rfl) (by kernel_rfl) rfl ?_)
  refine wl_ro (mv_m rfl) rfl ?_
  refine wl_ro (as_m rfl) rfl ?_
  refine wl_nil ?_
  refine wq_then ?_
  refine xp_seq ?_
  rcases G.x_cases i.op with hop | hop | hop | hop | hop | hop | hop | hop | hop | hop | hop | hop | hop
  ·
    refine xp_region ?_
    refine wl_ro (mv_m rfl) rfl ?_
    refine wl_ro (ro_fieldAddrC 0 fb75_0 rfl rfl) rfl ?_
    refine wl_ro (ro_load sc3 rfl (by repeat (first | exact .head | apply Sel.tail)) (get_Instr_op _)) rfl ?_
    refine wl_ro ((ro_lookupO mpk131 mpe131 rfl rfl .head (by kernel_rfl)).as (v' := .tuple #[.func (.func 81) #[.pointer (some ⟨b31, 0, none⟩)] #[], .bool true]) (by rw [hop]; kernel_rfl)) rfl ?_
    refine wl_ro (mv_u rfl) rfl ?_
    refine wl_ro (ro_extract rfl rfl) rfl ?_
    refine wl_ro (ro_extract rfl rfl) rfl ?_
    refine wl_ro (as_f rfl) rfl ?_
    refine wl_ro (as_b rfl) rfl ?_
    refine wl_nil ?_
    refine wq_then ?_
    refine xp_seq ?_
    refine xp_seq ?_
    refine xp_region ?_
    refine wl_ro (mv_b rfl) rfl ?_
    refine wl_ro (ro_not rfl) rfl ?_
    refine wl_ro (mv_b rfl) rfl ?_
    refine wl_no rfl rfl rfl rfl rfl (no_of rfl) ?_
    refine wl_no rfl rfl rfl rfl rfl (no_of rfl) ?_
    refine wl_no rfl rfl rfl rfl rfl (no_of rfl) ?_
    refine wl_no rfl rfl rfl rfl rfl (no_of rfl) ?_
    refine wl_ro (ro_pickF rfl rfl) rfl ?_
    refine wl_nil ?_
    refine wq_then ?_
    refine xp_condF rfl rfl ?_
    refine xp_skip ?_
    refine wq_then ?_
    refine xp_seq ?_
    refine xp_seq ?_
    refine xp_region ?_
    refine wl_ro (mv_f rfl) rfl ?_
    refine wl_ro (rof_neqT fnb1 rfl rfl) rfl ?_
    refine wl_nil ?_
    refine wq_then ?_
    refine xp_condT rfl rfl ?_
    refine xp_region ?_
    refine wl_ro (mv_f rfl) rfl ?_
    refine wl_s rfl (so_callFMV (first := #[.pointer (some ⟨b31, 0, none⟩)]) rfl (c_exec_step_addi b31 _) trivial gb81 (by rfl) (.tail .head) ?_)
    refine wl_nil ?_
    refine wq_then ?_
    refine xp_seq ?_
    refine xp_draw [true, true, false, false, true, true] [8, 9] mixed ?_
    refine wd_ro 0 rfl (by kernel_rfl) (mv_p rfl) rfl ?_
    refine wd_ro 1 rfl (by kernel_rfl) (ro_nilCheck rfl) rfl ?_
    refine wd_ro 2 rfl (by kernel_rfl) (ro_fieldAddrC 0 fb130_0 rfl rfl) rfl ?_
    refine wd_ro 3 rfl (by kernel_rfl) (ro_loadA ag40 rfl (by repeat (first | exact .head | apply Sel.tail)) (by rfl) (get_Step_m _)) rfl ?_
    refine wd_ro 4 rfl (by kernel_rfl) (mv_p rfl) rfl ?_
    refine wd_ro 5 rfl (by kernel_rfl) (ro_nilCheck rfl) rfl ?_
    refine wd_ro 6 rfl (by kernel_rfl) (ro_fieldAddrC 41 fb130_5 rfl rfl) rfl ?_
    refine wd_ro 7 rfl (by kernel_rfl) (ro_loadA ag65 rfl (by repeat (first | exact .head | apply Sel.tail)) (by rfl) (get_Step_trap _)) rfl ?_
    refine wd_so0 8 rfl (by kernel_rfl) (so_storeA ag40 rfl rfl rfl (ones_Machine _) (by repeat (first | exact .head | apply Sel.tail)) rfl ⟨⟨(by first | exact PH.le_refl _ | assumption | exact PH.le_trans (by assumption) (by assumption)), (inc_of (by repeat' (first | exact List.nil_sublist _ | apply List.Sublist.cons_cons | apply List.Sublist.cons))), .inl (by kernel_rfl)⟩, ?_⟩)
    refine wd_so0 9 rfl (by kernel_rfl) (so_storeA ag65 rfl rfl rfl (ones_Trap _) (by repeat (first | exact .head | apply Sel.tail)) rfl ⟨⟨(by first | exact PH.le_refl _ | assumption | exact PH.le_trans (by assumption) (by assumption)), (inc_of (by repeat' (first | exact List.nil_sublist _ | apply List.Sublist.cons_cons | apply List.Sublist.cons))), .inl (by kernel_rfl)⟩, ?_⟩)
    refine wd_done (by kernel_rfl) ?_
    refine wq_then ?_
    refine xp_ret ?_
    refine fq_retR _ rfl (.cons (rv_cellA ag40 rfl (by repeat (first | exact .head | apply Sel.tail)) rfl) (.cons (rv_cellA ag65 rfl (by repeat (first | exact .head | apply Sel.tail)) rfl) .nil)) rfl ?_
    have hx : G.execute s i = ({ s with core := G.xPut s.core i.rd (G.regsGet s.core.regs i.ra + i.imm) }, Trap.zero) := by simp [G.execute, hop]
    rw [hx]; exact ⟨mm, rfl, ⟨hR.mem, hR.out⟩⟩
  ·
    refine xp_region ?_
    refine wl_ro (mv_m rfl) rfl ?_
    refine wl_ro (ro_fieldAddrC 0 fb75_0 rfl rfl) rfl ?_
    refine wl_ro (ro_load sc3 rfl (by repeat (first | exact .head | apply Sel.tail)) (get_Instr_op _)) rfl ?_
    refine wl_ro ((ro_lookupO mpk131 mpe131 rfl rfl .head (by kernel_rfl)).as (v' := .tuple #[.func (.func 82) #[.pointer (some ⟨b31, 0, none⟩)] #[], .bool true]) (by rw [hop]; kernel_rfl)) rfl ?_
    refine wl_ro (mv_u rfl) rfl ?_
    refine wl_ro (ro_extract rfl rfl) rfl ?_
    refine wl_ro (ro_extract rfl rfl) rfl ?_
    refine wl_ro (as_f rfl) rfl ?_
    refine wl_ro (as_b rfl) rfl ?_
    refine wl_nil ?_
    refine wq_then ?_
    refine xp_seq ?_
    refine xp_seq ?_
    refine xp_region ?_
    refine wl_ro (mv_b rfl) rfl ?_
    refine wl_ro (ro_not rfl) rfl ?_
    refine wl_ro (mv_b rfl) rfl ?_
    refine wl_no rfl rfl rfl rfl rfl (no_of rfl) ?_
    refine wl_no rfl rfl rfl rfl rfl (no_of rfl) ?_
    refine wl_no rfl rfl rfl rfl rfl (no_of rfl) ?_
    refine wl_no rfl rfl rfl rfl rfl (no_of rfl) ?_
    refine wl_ro (ro_pickF rfl rfl) rfl ?_
    refine wl_nil ?_
    refine wq_then ?_
    refine xp_condF rfl rfl ?_
    refine xp_skip ?_
    refine wq_then ?_
    refine xp_seq ?_
    refine xp_seq ?_
    refine xp_region ?_
    refine wl_ro (mv_f rfl) rfl ?_
    refine wl_ro (rof_neqT fnb1 rfl rfl) rfl ?_
    refine wl_nil ?_
    refine wq_then ?_
    refine xp_condT rfl rfl ?_
    refine xp_region ?_
    refine wl_ro (mv_f rfl) rfl ?_
    refine wl_s rfl (so_callFMV (first := #[.pointer (some ⟨b31, 0, none⟩)]) rfl (c_exec_step_lui b31 _) trivial gb82 (by rfl) (.tail .head) ?_)
    refine wl_nil ?_
    refine wq_then ?_
    refine xp_seq ?_
    refine xp_draw [true, true, false, false, true, true] [8, 9] mixed ?_
    refine wd_ro 0 rfl (by kernel_rfl) (mv_p rfl) rfl ?_
    refine wd_ro 1 rfl (by kernel_rfl) (ro_nilCheck rfl) rfl ?_
    refine wd_ro 2 rfl (by kernel_rfl) (ro_fieldAddrC 0 fb130_0 rfl rfl) rfl ?_
    refine wd_ro 3 rfl (by kernel_rfl) (ro_loadA ag40 rfl (by repeat (first | exact .head | apply Sel.tail)) (by rfl) (get_Step_m _)) rfl ?_
    refine wd_ro 4 rfl (by kernel_rfl) (mv_p rfl) rfl ?_
    refine wd_ro 5 rfl (by kernel_rfl) (ro_nilCheck rfl) rfl ?_
    refine wd_ro 6 rfl (by kernel_rfl) (ro_fieldAddrC 41 fb130_5 rfl rfl) rfl ?_
    refine wd_ro 7 rfl (by kernel_rfl) (ro_loadA ag65 rfl (by repeat (first | exact .head | apply Sel.tail)) (by rfl) (get_Step_trap _)) rfl ?_
    refine wd_so0 8 rfl (by kernel_rfl) (so_storeA ag40 rfl rfl rfl (ones_Machine _) (by repeat (first | exact .head | apply Sel.tail)) rfl ⟨⟨(by first | exact PH.le_refl _ | assumption | exact PH.le_trans (by assumption) (by assumption)), (inc_of (by repeat' (first | exact List.nil_sublist _ | apply List.Sublist.cons_cons | apply List.Sublist.cons))), .inl (by kernel_rfl)⟩, ?_⟩)
    refine wd_so0 9 rfl (by kernel_rfl) (so_storeA ag65 rfl rfl rfl (ones_Trap _) (by repeat (first | exact .head | apply Sel.tail)) rfl ⟨⟨(by first | exact PH.le_refl _ | assumption | exact PH.le_trans (by assumption) (by assumption)), (inc_of (by repeat' (first | exact List.nil_sublist _ | apply List.Sublist.cons_cons | apply List.Sublist.cons))), .inl (by kernel_rfl)⟩, ?_⟩)
    refine wd_done (by kernel_rfl) ?_
    refine wq_then ?_
    refine xp_ret ?_
    refine fq_retR _ rfl (.cons (rv_cellA ag40 rfl (by repeat (first | exact .head | apply Sel.tail)) rfl) (.cons (rv_cellA ag65 rfl (by repeat (first | exact .head | apply Sel.tail)) rfl) .nil)) rfl ?_
    have hx : G.execute s i = ({ s with core := G.xPut s.core i.rd (i.imm <<< 14) }, Trap.zero) := by simp [G.execute, hop]
    rw [hx]; exact ⟨mm, rfl, ⟨hR.mem, hR.out⟩⟩
  ·
    refine xp_region ?_
    refine wl_ro (mv_m rfl) rfl ?_
    refine wl_ro (ro_fieldAddrC 0 fb75_0 rfl rfl) rfl ?_
    refine wl_ro (ro_load sc3 rfl (by repeat (first | exact .head | apply Sel.tail)) (get_Instr_op _)) rfl ?_
    refine wl_ro ((ro_lookupO mpk131 mpe131 rfl rfl .head (by kernel_rfl)).as (v' := .tuple #[.func (.func 83) #[.pointer (some ⟨b31, 0, none⟩)] #[], .bool true]) (by rw [hop]; kernel_rfl)) rfl ?_
    refine wl_ro (mv_u rfl) rfl ?_
    refine wl_ro (ro_extract rfl rfl) rfl ?_
    refine wl_ro (ro_extract rfl rfl) rfl ?_
    refine wl_ro (as_f rfl) rfl ?_
    refine wl_ro (as_b rfl) rfl ?_
    refine wl_nil ?_
    refine wq_then ?_
    refine xp_seq ?_
    refine xp_seq ?_
    refine xp_region ?_
    refine wl_ro (mv_b rfl) rfl ?_
    refine wl_ro (ro_not rfl) rfl ?_
    refine wl_ro (mv_b rfl) rfl ?_
    refine wl_no rfl rfl rfl rfl rfl (no_of rfl) ?_
    refine wl_no rfl rfl rfl rfl rfl (no_of rfl) ?_
    refine wl_no rfl rfl rfl rfl rfl (no_of rfl) ?_
    refine wl_no rfl rfl rfl rfl rfl (no_of rfl) ?_
    refine wl_ro (ro_pickF rfl rfl) rfl ?_
    refine wl_nil ?_
    refine wq_then ?_
    refine xp_condF rfl rfl ?_
    refine xp_skip ?_
    refine wq_then ?_
    refine xp_seq ?_
    refine xp_seq ?_
    refine xp_region ?_
    refine wl_ro (mv_f rfl) rfl ?_
    refine wl_ro (rof_neqT fnb1 rfl rfl) rfl ?_
    refine wl_nil ?_
    refine wq_then ?_
    refine xp_condT rfl rfl ?_
    refine xp_region ?_
    refine wl_ro (mv_f rfl) rfl ?_
    refine wl_s rfl (so_callFMV (first := #[.pointer (some ⟨b31, 0, none⟩)]) rfl (c_exec_step_load b31 s mm mo i _ _ _ _) (by exact ⟨hT, hR⟩) gb83 (by rfl) (.tail .head) ?_)
    refine wl_nil ?_
    refine wq_then ?_
    refine xp_seq ?_
    refine xp_draw [true, true, false, false, true, true] [8, 9] mixed ?_
    refine wd_ro 0 rfl (by kernel_rfl) (mv_p rfl) rfl ?_
    refine wd_ro 1 rfl (by kernel_rfl) (ro_nilCheck rfl) rfl ?_
    refine wd_ro 2 rfl (by kernel_rfl) (ro_fieldAddrC 0 fb130_0 rfl rfl) rfl ?_
    refine wd_ro 3 rfl (by kernel_rfl) (ro_loadA ag40 rfl (by repeat (first | exact .head | apply Sel.tail)) (by rfl) (get_Step_m _)) rfl ?_
    refine wd_ro 4 rfl (by kernel_rfl) (mv_p rfl) rfl ?_
    refine wd_ro 5 rfl (by kernel_rfl) (ro_nilCheck rfl) rfl ?_
    refine wd_ro 6 rfl (by kernel_rfl) (ro_fieldAddrC 41 fb130_5 rfl rfl) rfl ?_
    refine wd_ro 7 rfl (by kernel_rfl) (ro_loadA ag65 rfl (by repeat (first | exact .head | apply Sel.tail)) (by rfl) (get_Step_trap _)) rfl ?_
    refine wd_so0 8 rfl (by kernel_rfl) (so_storeA ag40 rfl rfl rfl (ones_Machine _) (by repeat (first | exact .head | apply Sel.tail)) rfl ⟨⟨(by first | exact PH.le_refl _ | assumption | exact PH.le_trans (by assumption) (by assumption)), (inc_of (by repeat' (first | exact List.nil_sublist _ | apply List.Sublist.cons_cons | apply List.Sublist.cons))), .inl (by kernel_rfl)⟩, ?_⟩)
    refine wd_so0 9 rfl (by kernel_rfl) (so_storeA ag65 rfl rfl rfl (ones_Trap _) (by repeat (first | exact .head | apply Sel.tail)) rfl ⟨⟨(by first | exact PH.le_refl _ | assumption | exact PH.le_trans (by assumption) (by assumption)), (inc_of (by repeat' (first | exact List.nil_sublist _ | apply List.Sublist.cons_cons | apply List.Sublist.cons))), .inl (by kernel_rfl)⟩, ?_⟩)
    refine wd_done (by kernel_rfl) ?_
    refine wq_then ?_
    refine xp_ret ?_
    refine fq_retR _ rfl (.cons (rv_cellA ag40 rfl (by repeat (first | exact .head | apply Sel.tail)) rfl) (.cons (rv_cellA ag65 rfl (by repeat (first | exact .head | apply Sel.tail)) rfl) .nil)) rfl ?_
    have hx : G.execute s i = (if (G.fLoad s (G.regsGet s.core.regs i.ra + i.imm) (G.xSize i.op)).2.cause = 0 then { s with core := G.xPut s.core i.rd (G.fLoad s (G.regsGet s.core.regs i.ra + i.imm) (G.xSize i.op)).1 } else s, (G.fLoad s (G.regsGet s.core.regs i.ra + i.imm) (G.xSize i.op)).2) := by simp [G.execute, hop]
    rw [hx]; exact ⟨mm, rfl, (by split <;> exact ⟨hR.mem, hR.out⟩)⟩
  ·
    refine xp_region ?_
    refine wl_ro (mv_m rfl) rfl ?_
    refine wl_ro (ro_fieldAddrC 0 fb75_0 rfl rfl) rfl ?_
    refine wl_ro (ro_load sc3 rfl (by repeat (first | exact .head | apply Sel.tail)) (get_Instr_op _)) rfl ?_
    refine wl_ro ((ro_lookupO mpk131 mpe131 rfl rfl .head (by kernel_rfl)).as (v' := .tuple #[.func (.func 83) #[.pointer (some ⟨b31, 0, none⟩)] #[], .bool true]) (by rw [hop]; kernel_rfl)) rfl ?_
    refine wl_ro (mv_u rfl) rfl ?_
    refine wl_ro (ro_extract rfl rfl) rfl ?_
    refine wl_ro (ro_extract rfl rfl) rfl ?_
    refine wl_ro (as_f rfl) rfl ?_
    refine wl_ro (as_b rfl) rfl ?_
    refine wl_nil ?_
    refine wq_then ?_
    refine xp_seq ?_
    refine xp_seq ?_
    refine xp_region ?_
    refine wl_ro (mv_b rfl) rfl ?_
    refine wl_ro (ro_not rfl) rfl ?_
    refine wl_ro (mv_b rfl) rfl ?_
    refine wl_no rfl rfl rfl rfl rfl (no_of rfl) ?_
    refine wl_no rfl rfl rfl rfl rfl (no_of rfl) ?_
    refine wl_no rfl rfl rfl rfl rfl (no_of rfl) ?_
    refine wl_no rfl rfl rfl rfl rfl (no_of rfl) ?_
    refine wl_ro (ro_pickF rfl rfl) rfl ?_
    refine wl_nil ?_
    refine wq_then ?_
    refine xp_condF rfl rfl ?_
    refine xp_skip ?_
    refine wq_then ?_
    refine xp_seq ?_
    refine xp_seq ?_
    refine xp_region ?_
    refine wl_ro (mv_f rfl) rfl ?_
    refine wl_ro (rof_neqT fnb1 rfl rfl) rfl ?_
    refine wl_nil ?_
    refine wq_then ?_
    refine xp_condT rfl rfl ?_
    refine xp_region ?_
    refine wl_ro (mv_f rfl) rfl ?_
    refine wl_s rfl (so_callFMV (first := #[.pointer (some ⟨b31, 0, none⟩)]) rfl (c_exec_step_load b31 s mm mo i _ _ _ _) (by exact ⟨hT, hR⟩) gb83 (by rfl) (.tail .head) ?_)
    refine wl_nil ?_
    refine wq_then ?_
    refine xp_seq ?_
    refine xp_draw [true, true, false, false, true, true] [8, 9] mixed ?_
    refine wd_ro 0 rfl (by kernel_rfl) (mv_p rfl) rfl ?_
    refine wd_ro 1 rfl (by kernel_rfl) (ro_nilCheck rfl) rfl ?_
    refine wd_ro 2 rfl (by kernel_rfl) (ro_fieldAddrC 0 fb130_0 rfl rfl) rfl ?_
    refine wd_ro 3 rfl (by kernel_rfl) (ro_loadA ag40 rfl (by repeat (first | exact .head | apply Sel.tail)) (by rfl) (get_Step_m _)) rfl ?_
    refine wd_ro 4 rfl (by kernel_rfl) (mv_p rfl) rfl ?_
    refine wd_ro 5 rfl (by kernel_rfl) (ro_nilCheck rfl) rfl ?_
    refine wd_ro 6 rfl (by kernel_rfl) (ro_fieldAddrC 41 fb130_5 rfl rfl) rfl ?_
    refine wd_ro 7 rfl (by kernel_rfl) (ro_loadA ag65 rfl (by repeat (first | exact .head | apply Sel.tail)) (by rfl) (get_Step_trap _)) rfl ?_
    refine wd_so0 8 rfl (by kernel_rfl) (so_storeA ag40 rfl rfl rfl (ones_Machine _) (by repeat (first | exact .head | apply Sel.tail)) rfl ⟨⟨(by first | exact PH.le_refl _ | assumption | exact PH.le_trans (by assumption) (by assumption)), (inc_of (by repeat' (first | exact List.nil_sublist _ | apply List.Sublist.cons_cons | apply List.Sublist.cons))), .inl (by kernel_rfl)⟩, ?_⟩)
    refine wd_so0 9 rfl (by kernel_rfl) (so_storeA ag65 rfl rfl rfl (ones_Trap _) (by repeat (first | exact .head | apply Sel.tail)) rfl ⟨⟨(by first | exact PH.le_refl _ | assumption | exact PH.le_trans (by assumption) (by assumption)), (inc_of (by repeat' (first | exact List.nil_sublist _ | apply List.Sublist.cons_cons | apply List.Sublist.cons))), .inl (by kernel_rfl)⟩, ?_⟩)
    refine wd_done (by kernel_rfl) ?_
    refine wq_then ?_
    refine xp_ret ?_
    refine fq_retR _ rfl (.cons (rv_cellA ag40 rfl (by repeat (first | exact .head | apply Sel.tail)) rfl) (.cons (rv_cellA ag65 rfl (by repeat (first | exact .head | apply Sel.tail)) rfl) .nil)) rfl ?_
    have hx : G.execute s i = (if (G.fLoad s (G.regsGet s.core.regs i.ra + i.imm) (G.xSize i.op)).2.cause = 0 then { s with core := G.xPut s.core i.rd (G.fLoad s (G.regsGet s.core.regs i.ra + i.imm) (G.xSize i.op)).1 } else s, (G.fLoad s (G.regsGet s.core.regs i.ra + i.imm) (G.xSize i.op)).2) := by simp [G.execute, hop]
    rw [hx]; exact ⟨mm, rfl, (by split <;> exact ⟨hR.mem, hR.out⟩)⟩
  ·
    refine xp_region ?_
    refine wl_ro (mv_m rfl) rfl ?_
    refine wl_ro (ro_fieldAddrC 0 fb75_0 rfl rfl) rfl ?_
    refine wl_ro (ro_load sc3 rfl (by repeat (first | exact .head | apply Sel.tail)) (get_Instr_op _)) rfl ?_
    refine wl_ro ((ro_lookupO mpk131 mpe131 rfl rfl .head (by kernel_rfl)).as (v' := .tuple #[.func (.func 84) #[.pointer (some ⟨b31, 0, none⟩)] #[], .bool true]) (by rw [hop]; kernel_rfl)) rfl ?_
    refine wl_ro (mv_u rfl) rfl ?_
    refine wl_ro (ro_extract rfl rfl) rfl ?_
    refine wl_ro (ro_extract rfl rfl) rfl ?_
    refine wl_ro (as_f rfl) rfl ?_
    refine wl_ro (as_b rfl) rfl ?_
    refine wl_nil ?_
    refine wq_then ?_
    refine xp_seq ?_
    refine xp_seq ?_
    refine xp_region ?_
    refine wl_ro (mv_b rfl) rfl ?_
    refine wl_ro (ro_not rfl) rfl ?_
    refine wl_ro (mv_b rfl) rfl ?_
    refine wl_no rfl rfl rfl rfl rfl (no_of rfl) ?_
    refine wl_no rfl rfl rfl rfl rfl (no_of rfl) ?_
    refine wl_no rfl rfl rfl rfl rfl (no_of rfl) ?_
    refine wl_no rfl rfl rfl rfl rfl (no_of rfl) ?_
    refine wl_ro (ro_pickF rfl rfl) rfl ?_
    refine wl_nil ?_
    refine wq_then ?_
    refine xp_condF rfl rfl ?_
    refine xp_skip ?_
    refine wq_then ?_
    refine xp_seq ?_
    refine xp_seq ?_
    refine xp_region ?_
    refine wl_ro (mv_f rfl) rfl ?_
    refine wl_ro (rof_neqT fnb1 rfl rfl) rfl ?_
    refine wl_nil ?_
    refine wq_then ?_
    refine xp_condT rfl rfl ?_
    refine xp_region ?_
    refine wl_ro (mv_f rfl) rfl ?_
    refine wl_s rfl (so_callF1 (first := #[.pointer (some ⟨b31, 0, none⟩)]) rfl gb84 (by rfl) (.tail .head) (c_exec_step_store b31 s mm mo i _ _ _ _ hmem _ hT hR) fun v1 h1 o1 hl1 hp1 => ?_)
    obtain ⟨mm1, rfl, rfl, hR1⟩ := hp1
    refine wl_nil ?_
    refine wq_then ?_
    refine xp_seq ?_
    refine xp_draw [true, true, false, false, true, true] [8, 9] mixed ?_
    refine wd_ro 0 rfl (by kernel_rfl) (mv_p rfl) rfl ?_
    refine wd_ro 1 rfl (by kernel_rfl) (ro_nilCheck rfl) rfl ?_
    refine wd_ro 2 rfl (by kernel_rfl) (ro_fieldAddrC 0 fb130_0 rfl rfl) rfl ?_
    refine wd_ro 3 rfl (by kernel_rfl) (ro_loadA ag40 rfl (by repeat (first | exact .head | apply Sel.tail)) (by rfl) (get_Step_m _)) rfl ?_
    refine wd_ro 4 rfl (by kernel_rfl) (mv_p rfl) rfl ?_
    refine wd_ro 5 rfl (by kernel_rfl) (ro_nilCheck rfl) rfl ?_
    refine wd_ro 6 rfl (by kernel_rfl) (ro_fieldAddrC 41 fb130_5 rfl rfl) rfl ?_
    refine wd_ro 7 rfl (by kernel_rfl) (ro_loadA ag65 rfl (by repeat (first | exact .head | apply Sel.tail)) (by rfl) (get_Step_trap _)) rfl ?_
    refine wd_so0 8 rfl (by kernel_rfl) (so_storeA ag40 rfl rfl rfl (ones_Machine _) (by repeat (first | exact .head | apply Sel.tail)) rfl ⟨⟨(by first | exact PH.le_refl _ | assumption | exact PH.le_trans (by assumption) (by assumption)), (inc_of (by repeat' (first | exact List.nil_sublist _ | apply List.Sublist.cons_cons | apply List.Sublist.cons))), .inl (by kernel_rfl)⟩, ?_⟩)
    refine wd_so0 9 rfl (by kernel_rfl) (so_storeA ag65 rfl rfl rfl (ones_Trap _) (by repeat (first | exact .head | apply Sel.tail)) rfl ⟨⟨(by first | exact PH.le_refl _ | assumption | exact PH.le_trans (by assumption) (by assumption)), (inc_of (by repeat' (first | exact List.nil_sublist _ | apply List.Sublist.cons_cons | apply List.Sublist.cons))), .inl (by kernel_rfl)⟩, ?_⟩)
    refine wd_done (by kernel_rfl) ?_
    refine wq_then ?_
    refine xp_ret ?_
    refine fq_retR _ rfl (.cons (rv_cellA ag40 rfl (by repeat (first | exact .head | apply Sel.tail)) rfl) (.cons (rv_cellA ag65 rfl (by repeat (first | exact .head | apply Sel.tail)) rfl) .nil)) rfl ?_
    have hx : G.execute s i = (if (G.fStore s (G.regsGet s.core.regs i.ra + i.imm) (G.xSize i.op) (G.regsGet s.core.regs i.rd)).2.cause = 0 then { (G.fStore s (G.regsGet s.core.regs i.ra + i.imm) (G.xSize i.op) (G.regsGet s.core.regs i.rd)).1 with core := G.advance (G.fStore s (G.regsGet s.core.regs i.ra + i.imm) (G.xSize i.op) (G.regsGet s.core.regs i.rd)).1.core 4#32 } else s, (G.fStore s (G.regsGet s.core.regs i.ra + i.imm) (G.xSize i.op) (G.regsGet s.core.regs i.rd)).2) := by simp [G.execute, hop]
    rw [hx]; exact ⟨mm1, rfl, hR1⟩
  ·
    refine xp_region ?_
    refine wl_ro (mv_m rfl) rfl ?_
    refine wl_ro (ro_fieldAddrC 0 fb75_0 rfl rfl) rfl ?_
    refine wl_ro (ro_load sc3 rfl (by repeat (first | exact .head | apply Sel.tail)) (get_Instr_op _)) rfl ?_
    refine wl_ro ((ro_lookupO mpk131 mpe131 rfl rfl .head (by kernel_rfl)).as (v' := .tuple #[.func (.func 84) #[.pointer (some ⟨b31, 0, none⟩)] #[], .bool true]) (by rw [hop]; kernel_rfl)) rfl ?_
    refine wl_ro (mv_u rfl) rfl ?_
    refine wl_ro (ro_extract rfl rfl) rfl ?_
    refine wl_ro (ro_extract rfl rfl) rfl ?_
    refine wl_ro (as_f rfl) rfl ?_
    refine wl_ro (as_b rfl) rfl ?_
    refine wl_nil ?_
    refine wq_then ?_
    refine xp_seq ?_
    refine xp_seq ?_
    refine xp_region ?_
    refine wl_ro (mv_b rfl) rfl ?_
    refine wl_ro (ro_not rfl) rfl ?_
    refine wl_ro (mv_b rfl) rfl ?_
    refine wl_no rfl rfl rfl rfl rfl (no_of rfl) ?_
    refine wl_no rfl rfl rfl rfl rfl (no_of rfl) ?_
    refine wl_no rfl rfl rfl rfl rfl (no_of rfl) ?_
    refine wl_no rfl rfl rfl rfl rfl (no_of rfl) ?_
    refine wl_ro (ro_pickF rfl rfl) rfl ?_
    refine wl_nil ?_
    refine wq_then ?_
    refine xp_condF rfl rfl ?_
    refine xp_skip ?_
    refine wq_then ?_
    refine xp_seq ?_
    refine xp_seq ?_
    refine xp_region ?_
    refine wl_ro (mv_f rfl) rfl ?_
    refine wl_ro (rof_neqT fnb1 rfl rfl) rfl ?_
    refine wl_nil ?_
    refine wq_then ?_
    refine xp_condT rfl rfl ?_
    refine xp_region ?_
    refine wl_ro (mv_f rfl) rfl ?_
    refine wl_s rfl (so_callF1 (first := #[.pointer (some ⟨b31, 0, none⟩)]) rfl gb84 (by rfl) (.tail .head) (c_exec_step_store b31 s mm mo i _ _ _ _ hmem _ hT hR) fun v1 h1 o1 hl1 hp1 => ?_)
    obtain ⟨mm1, rfl, rfl, hR1⟩ := hp1
    refine wl_nil ?_
    refine wq_then ?_
    refine xp_seq ?_
    refine xp_draw [true, true, false, false, true, true] [8, 9] mixed ?_
    refine wd_ro 0 rfl (by kernel_rfl) (mv_p rfl) rfl ?_
    refine wd_ro 1 rfl (by kernel_rfl) (ro_nilCheck rfl) rfl ?_
    refine wd_ro 2 rfl (by kernel_rfl) (ro_fieldAddrC 0 fb130_0 rfl rfl) rfl ?_
    refine wd_ro 3 rfl (by kernel_rfl) (ro_loadA ag40 rfl (by repeat (first | exact .head | apply Sel.tail)) (by rfl) (get_Step_m _)) rfl ?_
    refine wd_ro 4 rfl (by kernel_rfl) (mv_p rfl) rfl ?_
    refine wd_ro 5 rfl (by kernel_rfl) (ro_nilCheck rfl) rfl ?_
    refine wd_ro 6 rfl (by kernel_rfl) (ro_fieldAddrC 41 fb130_5 rfl rfl) rfl ?_
    refine wd_ro 7 rfl (by kernel_rfl) (ro_loadA ag65 rfl (by repeat (first | exact .head | apply Sel.tail)) (by rfl) (get_Step_trap _)) rfl ?_
    refine wd_so0 8 rfl (by kernel_rfl) (so_storeA ag40 rfl rfl rfl (ones_Machine _) (by repeat (first | exact .head | apply Sel.tail)) rfl ⟨⟨(by first | exact PH.le_refl _ | assumption | exact PH.le_trans (by assumption) (by assumption)), (inc_of (by repeat' (first | exact List.nil_sublist _ | apply List.Sublist.cons_cons | apply List.Sublist.cons))), .inl (by kernel_rfl)⟩, ?_⟩)
    refine wd_so0 9 rfl (by kernel_rfl) (so_storeA ag65 rfl rfl rfl (ones_Trap _) (by repeat (first | exact .head | apply Sel.tail)) rfl ⟨⟨(by first | exact PH.le_refl _ | assumption | exact PH.le_trans (by assumption) (by assumption)), (inc_of (by repeat' (first | exact List.nil_sublist _ | apply List.Sublist.cons_cons | apply List.Sublist.cons))), .inl (by kernel_rfl)⟩, ?_⟩)
    refine wd_done (by kernel_rfl) ?_
    refine wq_then ?_
    refine xp_ret ?_
    refine fq_retR _ rfl (.cons (rv_cellA ag40 rfl (by repeat (first | exact .head | apply Sel.tail)) rfl) (.cons (rv_cellA ag65 rfl (by repeat (first | exact .head | apply Sel.tail)) rfl) .nil)) rfl ?_
    have hx : G.execute s i = (if (G.fStore s (G.regsGet s.core.regs i.ra + i.imm) (G.xSize i.op) (G.regsGet s.core.regs i.rd)).2.cause = 0 then { (G.fStore s (G.regsGet s.core.regs i.ra + i.imm) (G.xSize i.op) (G.regsGet s.core.regs i.rd)).1 with core := G.advance (G.fStore s (G.regsGet s.core.regs i.ra + i.imm) (G.xSize i.op) (G.regsGet s.core.regs i.rd)).1.core 4#32 } else s, (G.fStore s (G.regsGet s.core.regs i.ra + i.imm) (G.xSize i.op) (G.regsGet s.core.regs i.rd)).2) := by simp [G.execute, hop]
    rw [hx]; exact ⟨mm1, rfl, hR1⟩
  ·
    refine xp_region ?_
    refine wl_ro (mv_m rfl) rfl ?_
    refine wl_ro (ro_fieldAddrC 0 fb75_0 rfl rfl) rfl ?_
    refine wl_ro (ro_load sc3 rfl (by repeat (first | exact .head | apply Sel.tail)) (get_Instr_op _)) rfl ?_
    refine wl_ro ((ro_lookupO mpk131 mpe131 rfl rfl .head (by kernel_rfl)).as (v' := .tuple #[.func (.func 85) #[.pointer (some ⟨b31, 0, none⟩)] #[], .bool true]) (by rw [hop]; kernel_rfl)) rfl ?_
    refine wl_ro (mv_u rfl) rfl ?_
    refine wl_ro (ro_extract rfl rfl) rfl ?_
    refine wl_ro (ro_extract rfl rfl) rfl ?_
    refine wl_ro (as_f rfl) rfl ?_
    refine wl_ro (as_b rfl) rfl ?_
    refine wl_nil ?_
    refine wq_then ?_
    refine xp_seq ?_
    refine xp_seq ?_
    refine xp_region ?_
    refine wl_ro (mv_b rfl) rfl ?_
    refine wl_ro (ro_not rfl) rfl ?_
    refine wl_ro (mv_b rfl) rfl ?_
    refine wl_no rfl rfl rfl rfl rfl (no_of rfl) ?_
    refine wl_no rfl rfl rfl rfl rfl (no_of rfl) ?_
    refine wl_no rfl rfl rfl rfl rfl (no_of rfl) ?_
    refine wl_no rfl rfl rfl rfl rfl (no_of rfl) ?_
    refine wl_ro (ro_pickF rfl rfl) rfl ?_
    refine wl_nil ?_
    refine wq_then ?_
    refine xp_condF rfl rfl ?_
    refine xp_skip ?_
    refine wq_then ?_
    refine xp_seq ?_
    refine xp_seq ?_
    refine xp_region ?_
    refine wl_ro (mv_f rfl) rfl ?_
    refine wl_ro (rof_neqT fnb1 rfl rfl) rfl ?_
    refine wl_nil ?_
    refine wq_then ?_
    refine xp_condT rfl rfl ?_
    refine xp_region ?_
    refine wl_ro (mv_f rfl) rfl ?_
    refine wl_s rfl (so_callFMV (first := #[.pointer (some ⟨b31, 0, none⟩)]) rfl (c_exec_step_branch b31 _) trivial gb85 (by rfl) (.tail .head) ?_)
    refine wl_nil ?_
    refine wq_then ?_
    refine xp_seq ?_
    refine xp_draw [true, true, false, false, true, true] [8, 9] mixed ?_
    refine wd_ro 0 rfl (by kernel_rfl) (mv_p rfl) rfl ?_
    refine wd_ro 1 rfl (by kernel_rfl) (ro_nilCheck rfl) rfl ?_
    refine wd_ro 2 rfl (by kernel_rfl) (ro_fieldAddrC 0 fb130_0 rfl rfl) rfl ?_
    refine wd_ro 3 rfl (by kernel_rfl) (ro_loadA ag40 rfl (by repeat (first | exact .head | apply Sel.tail)) (by rfl) (get_Step_m _)) rfl ?_
    refine wd_ro 4 rfl (by kernel_rfl) (mv_p rfl) rfl ?_
    refine wd_ro 5 rfl (by kernel_rfl) (ro_nilCheck rfl) rfl ?_
    refine wd_ro 6 rfl (by kernel_rfl) (ro_fieldAddrC 41 fb130_5 rfl rfl) rfl ?_
    refine wd_ro 7 rfl (by kernel_rfl) (ro_loadA ag65 rfl (by repeat (first | exact .head | apply Sel.tail)) (by rfl) (get_Step_trap _)) rfl ?_
    refine wd_so0 8 rfl (by kernel_rfl) (so_storeA ag40 rfl rfl rfl (ones_Machine _) (by repeat (first | exact .head | apply Sel.tail)) rfl ⟨⟨(by first | exact PH.le_refl _ | assumption | exact PH.le_trans (by assumption) (by assumption)), (inc_of (by repeat' (first | exact List.nil_sublist _ | apply List.Sublist.cons_cons | apply List.Sublist.cons))), .inl (by kernel_rfl)⟩, ?_⟩)
    refine wd_so0 9 rfl (by kernel_rfl) (so_storeA ag65 rfl rfl rfl (ones_Trap _) (by repeat (first | exact .head | apply Sel.tail)) rfl ⟨⟨(by first | exact PH.le_refl _ | assumption | exact PH.le_trans (by assumption) (by assumption)), (inc_of (by repeat' (first | exact List.nil_sublist _ | apply List.Sublist.cons_cons | apply List.Sublist.cons))), .inl (by kernel_rfl)⟩, ?_⟩)
    refine wd_done (by kernel_rfl) ?_
    refine wq_then ?_
    refine xp_ret ?_
    refine fq_retR _ rfl (.cons (rv_cellA ag40 rfl (by repeat (first | exact .head | apply Sel.tail)) rfl) (.cons (rv_cellA ag65 rfl (by repeat (first | exact .head | apply Sel.tail)) rfl) .nil)) rfl ?_
    have hx : G.execute s i = ({ s with core := G.advance s.core (if G.branchTaken i.op (G.regsGet s.core.regs i.rd) (G.regsGet s.core.regs i.ra) then 4#32 * i.imm else 4#32) }, Trap.zero) := by simp [G.execute, hop]
    rw [hx]; exact ⟨mm, rfl, ⟨hR.mem, hR.out⟩⟩
  ·
    refine xp_region ?_
    refine wl_ro (mv_m rfl) rfl ?_
    refine wl_ro (ro_fieldAddrC 0 fb75_0 rfl rfl) rfl ?_
    refine wl_ro (ro_load sc3 rfl (by repeat (first | exact .head | apply Sel.tail)) (get_Instr_op _)) rfl ?_
    refine wl_ro ((ro_lookupO mpk131 mpe131 rfl rfl .head (by kernel_rfl)).as (v' := .tuple #[.func (.func 85) #[.pointer (some ⟨b31, 0, none⟩)] #[], .bool true]) (by rw [hop]; kernel_rfl)) rfl ?_
    refine wl_ro (mv_u rfl) rfl ?_
    refine wl_ro (ro_extract rfl rfl) rfl ?_
    refine wl_ro (ro_extract rfl rfl) rfl ?_
    refine wl_ro (as_f rfl) rfl ?_
    refine wl_ro (as_b rfl) rfl ?_
    refine wl_nil ?_
    refine wq_then ?_
    refine xp_seq ?_
    refine xp_seq ?_
    refine xp_region ?_
    refine wl_ro (mv_b rfl) rfl ?_
    refine wl_ro (ro_not rfl) rfl ?_
    refine wl_ro (mv_b rfl) rfl ?_
    refine wl_no rfl rfl rfl rfl rfl (no_of rfl) ?_
    refine wl_no rfl rfl rfl rfl rfl (no_of rfl) ?_
    refine wl_no rfl rfl rfl rfl rfl (no_of rfl) ?_
    refine wl_no rfl rfl rfl rfl rfl (no_of rfl) ?_
    refine wl_ro (ro_pickF rfl rfl) rfl ?_
    refine wl_nil ?_
    refine wq_then ?_
    refine xp_condF rfl rfl ?_
    refine xp_skip ?_
    refine wq_then ?_
    refine xp_seq ?_
    refine xp_seq ?_
    refine xp_region ?_
    refine wl_ro (mv_f rfl) rfl ?_
    refine wl_ro (rof_neqT fnb1 rfl rfl) rfl ?_
    refine wl_nil ?_
    refine wq_then ?_
    refine xp_condT rfl rfl ?_
    refine xp_region ?_
    refine wl_ro (mv_f rfl) rfl ?_
    refine wl_s rfl (so_callFMV (first := #[.pointer (some ⟨b31, 0, none⟩)]) rfl (c_exec_step_branch b31 _) trivial gb85 (by rfl) (.tail .head) ?_)
    refine wl_nil ?_
    refine wq_then ?_
    refine xp_seq ?_
    refine xp_draw [true, true, false, false, true, true] [8, 9] mixed ?_
    refine wd_ro 0 rfl (by kernel_rfl) (mv_p rfl) rfl ?_
    refine wd_ro 1 rfl (by kernel_rfl) (ro_nilCheck rfl) rfl ?_
    refine wd_ro 2 rfl (by kernel_rfl) (ro_fieldAddrC 0 fb130_0 rfl rfl) rfl ?_
    refine wd_ro 3 rfl (by kernel_rfl) (ro_loadA ag40 rfl (by repeat (first | exact .head | apply Sel.tail)) (by rfl) (get_Step_m _)) rfl ?_
    refine wd_ro 4 rfl (by kernel_rfl) (mv_p rfl) rfl ?_
    refine wd_ro 5 rfl (by kernel_rfl) (ro_nilCheck rfl) rfl ?_
    refine wd_ro 6 rfl (by kernel_rfl) (ro_fieldAddrC 41 fb130_5 rfl rfl) rfl ?_
    refine wd_ro 7 rfl (by kernel_rfl) (ro_loadA ag65 rfl (by repeat (first | exact .head | apply Sel.tail)) (by rfl) (get_Step_trap _)) rfl ?_
    refine wd_so0 8 rfl (by kernel_rfl) (so_storeA ag40 rfl rfl rfl (ones_Machine _) (by repeat (first | exact .head | apply Sel.tail)) rfl ⟨⟨(by first | exact PH.le_refl _ | assumption | exact PH.le_trans (by assumption) (by assumption)), (inc_of (by repeat' (first | exact List.nil_sublist _ | apply List.Sublist.cons_cons | apply List.Sublist.cons))), .inl (by kernel_rfl)⟩, ?_⟩)
    refine wd_so0 9 rfl (by kernel_rfl) (so_storeA ag65 rfl rfl rfl (ones_Trap _) (by repeat (first | exact .head | apply Sel.tail)) rfl ⟨⟨(by first | exact PH.le_refl _ | assumption | exact PH.le_trans (by assumption) (by assumption)), (inc_of (by repeat' (first | exact List.nil_sublist _ | apply List.Sublist.cons_cons | apply List.Sublist.cons))), .inl (by kernel_rfl)⟩, ?_⟩)
    refine wd_done (by kernel_rfl) ?_
    refine wq_then ?_
    refine xp_ret ?_
    refine fq_retR _ rfl (.cons (rv_cellA ag40 rfl (by repeat (first | exact .head | apply Sel.tail)) rfl) (.cons (rv_cellA ag65 rfl (by repeat (first | exact .head | apply Sel.tail)) rfl) .nil)) rfl ?_
    have hx : G.execute s i = ({ s with core := G.advance s.core (if G.branchTaken i.op (G.regsGet s.core.regs i.rd) (G.regsGet s.core.regs i.ra) then 4#32 * i.imm else 4#32) }, Trap.zero) := by simp [G.execute, hop]
    rw [hx]; exact ⟨mm, rfl, ⟨hR.mem, hR.out⟩⟩
  ·
    refine xp_region ?_
    refine wl_ro (mv_m rfl) rfl ?_
    refine wl_ro (ro_fieldAddrC 0 fb75_0 rfl rfl) rfl ?_
    refine wl_ro (ro_load sc3 rfl (by repeat (first | exact .head | apply Sel.tail)) (get_Instr_op _)) rfl ?_
    refine wl_ro ((ro_lookupO mpk131 mpe131 rfl rfl .head (by kernel_rfl)).as (v' := .tuple #[.func (.func 85) #[.pointer (some ⟨b31, 0, none⟩)] #[], .bool true]) (by rw [hop]; kernel_rfl)) rfl ?_
    refine wl_ro (mv_u rfl) rfl ?_
    refine wl_ro (ro_extract rfl rfl) rfl ?_
    refine wl_ro (ro_extract rfl rfl) rfl ?_
    refine wl_ro (as_f rfl) rfl ?_
    refine wl_ro (as_b rfl) rfl ?_
    refine wl_nil ?_
    refine wq_then ?_
    refine xp_seq ?_
    refine xp_seq ?_
    refine xp_region ?_
    refine wl_ro (mv_b rfl) rfl ?_
    refine wl_ro (ro_not rfl) rfl ?_
    refine wl_ro (mv_b rfl) rfl ?_
    refine wl_no rfl rfl rfl rfl rfl (no_of rfl) ?_
    refine wl_no rfl rfl rfl rfl rfl (no_of rfl) ?_
    refine wl_no rfl rfl rfl rfl rfl (no_of rfl) ?_
    refine wl_no rfl rfl rfl rfl rfl (no_of rfl) ?_
    refine wl_ro (ro_pickF rfl rfl) rfl ?_
    refine wl_nil ?_
    refine wq_then ?_
    refine xp_condF rfl rfl ?_
    refine xp_skip ?_
    refine wq_then ?_
    refine xp_seq ?_
    refine xp_seq ?_
    refine xp_region ?_
    refine wl_ro (mv_f rfl) rfl ?_
    refine wl_ro (rof_neqT fnb1 rfl rfl) rfl ?_
    refine wl_nil ?_
    refine wq_then ?_
    refine xp_condT rfl rfl ?_
    refine xp_region ?_
    refine wl_ro (mv_f rfl) rfl ?_
    refine wl_s rfl (so_callFMV (first := #[.pointer (some ⟨b31, 0, none⟩)]) rfl (c_exec_step_branch b31 _) trivial gb85 (by rfl) (.tail .head) ?_)
    refine wl_nil ?_
    refine wq_then ?_
    refine xp_seq ?_
    refine xp_draw [true, true, false, false, true, true] [8, 9] mixed ?_
    refine wd_ro 0 rfl (by kernel_rfl) (mv_p rfl) rfl ?_
    refine wd_ro 1 rfl (by kernel_rfl) (ro_nilCheck rfl) rfl ?_
    refine wd_ro 2 rfl (by kernel_rfl) (ro_fieldAddrC 0 fb130_0 rfl rfl) rfl ?_
    refine wd_ro 3 rfl (by kernel_rfl) (ro_loadA ag40 rfl (by repeat (first | exact .head | apply Sel.tail)) (by rfl) (get_Step_m _)) rfl ?_
    refine wd_ro 4 rfl (by kernel_rfl) (mv_p rfl) rfl ?_
    refine wd_ro 5 rfl (by kernel_rfl) (ro_nilCheck rfl) rfl ?_
    refine wd_ro 6 rfl (by kernel_rfl) (ro_fieldAddrC 41 fb130_5 rfl rfl) rfl ?_
    refine wd_ro 7 rfl (by kernel_rfl) (ro_loadA ag65 rfl (by repeat (first | exact .head | apply Sel.tail)) (by rfl) (get_Step_trap _)) rfl ?_
    refine wd_so0 8 rfl (by kernel_rfl) (so_storeA ag40 rfl rfl rfl (ones_Machine _) (by repeat (first | exact .head | apply Sel.tail)) rfl ⟨⟨(by first | exact PH.le_refl _ | assumption | exact PH.le_trans (by assumption) (by assumption)), (inc_of (by repeat' (first | exact List.nil_sublist _ | apply List.Sublist.cons_cons | apply List.Sublist.cons))), .inl (by kernel_rfl)⟩, ?_⟩)
    refine wd_so0 9 rfl (by kernel_rfl) (so_storeA ag65 rfl rfl rfl (ones_Trap _) (by repeat (first | exact .head | apply Sel.tail)) rfl ⟨⟨(by first | exact PH.le_refl _ | assumption | exact PH.le_trans (by assumption) (by assumption)), (inc_of (by repeat' (first | exact List.nil_sublist _ | apply List.Sublist.cons_cons | apply List.Sublist.cons))), .inl (by kernel_rfl)⟩, ?_⟩)
    refine wd_done (by kernel_rfl) ?_
    refine wq_then ?_
    refine xp_ret ?_
    refine fq_retR _ rfl (.cons (rv_cellA ag40 rfl (by repeat (first | exact .head | apply Sel.tail)) rfl) (.cons (rv_cellA ag65 rfl (by repeat (first | exact .head | apply Sel.tail)) rfl) .nil)) rfl ?_
    have hx : G.execute s i = ({ s with core := G.advance s.core (if G.branchTaken i.op (G.regsGet s.core.regs i.rd) (G.regsGet s.core.regs i.ra) then 4#32 * i.imm else 4#32) }, Trap.zero) := by simp [G.execute, hop]
    rw [hx]; exact ⟨mm, rfl, ⟨hR.mem, hR.out⟩⟩
  ·
    refine xp_region ?_
    refine wl_ro (mv_m rfl) rfl ?_
    refine wl_ro (ro_fieldAddrC 0 fb75_0 rfl rfl) rfl ?_
    refine wl_ro (ro_load sc3 rfl (by repeat (first | exact .head | apply Sel.tail)) (get_Instr_op _)) rfl ?_
    refine wl_ro ((ro_lookupO mpk131 mpe131 rfl rfl .head (by kernel_rfl)).as (v' := .tuple #[.func (.func 86) #[.pointer (some ⟨b31, 0, none⟩)] #[], .bool true]) (by rw [hop]; kernel_rfl)) rfl ?_
    refine wl_ro (mv_u rfl) rfl ?_
    refine wl_ro (ro_extract rfl rfl) rfl ?_
    refine wl_ro (ro_extract rfl rfl) rfl ?_
    refine wl_ro (as_f rfl) rfl ?_
    refine wl_ro (as_b rfl) rfl ?_
    refine wl_nil ?_
    refine wq_then ?_
    refine xp_seq ?_
    refine xp_seq ?_
    refine xp_region ?_
    refine wl_ro (mv_b rfl) rfl ?_
    refine wl_ro (ro_not rfl) rfl ?_
    refine wl_ro (mv_b rfl) rfl ?_
    refine wl_no rfl rfl rfl rfl rfl (no_of rfl) ?_
    refine wl_no rfl rfl rfl rfl rfl (no_of rfl) ?_
    refine wl_no rfl rfl rfl rfl rfl (no_of rfl) ?_
    refine wl_no rfl rfl rfl rfl rfl (no_of rfl) ?_
    refine wl_ro (ro_pickF rfl rfl) rfl ?_
    refine wl_nil ?_
    refine wq_then ?_
    refine xp_condF rfl rfl ?_
    refine xp_skip ?_
    refine wq_then ?_
    refine xp_seq ?_
    refine xp_seq ?_
    refine xp_region ?_
    refine wl_ro (mv_f rfl) rfl ?_
    refine wl_ro (rof_neqT fnb1 rfl rfl) rfl ?_
    refine wl_nil ?_
    refine wq_then ?_
    refine xp_condT rfl rfl ?_
    refine xp_region ?_
    refine wl_ro (mv_f rfl) rfl ?_
    refine wl_s rfl (so_callFMV (first := #[.pointer (some ⟨b31, 0, none⟩)]) rfl (c_exec_step_jump b31 _) trivial gb86 (by rfl) (.tail .head) ?_)
    refine wl_nil ?_
    refine wq_then ?_
    refine xp_seq ?_
    refine xp_draw [true, true, false, false, true, true] [8, 9] mixed ?_
    refine wd_ro 0 rfl (by kernel_rfl) (mv_p rfl) rfl ?_
    refine wd_ro 1 rfl (by kernel_rfl) (ro_nilCheck rfl) rfl ?_
    refine wd_ro 2 rfl (by kernel_rfl) (ro_fieldAddrC 0 fb130_0 rfl rfl) rfl ?_
    refine wd_ro 3 rfl (by kernel_rfl) (ro_loadA ag40 rfl (by repeat (first | exact .head | apply Sel.tail)) (by rfl) (get_Step_m _)) rfl ?_
    refine wd_ro 4 rfl (by kernel_rfl) (mv_p rfl) rfl ?_
    refine wd_ro 5 rfl (by kernel_rfl) (ro_nilCheck rfl) rfl ?_
    refine wd_ro 6 rfl (by kernel_rfl) (ro_fieldAddrC 41 fb130_5 rfl rfl) rfl ?_
    refine wd_ro 7 rfl (by kernel_rfl) (ro_loadA ag65 rfl (by repeat (first | exact .head | apply Sel.tail)) (by rfl) (get_Step_trap _)) rfl ?_
    refine wd_so0 8 rfl (by kernel_rfl) (so_storeA ag40 rfl rfl rfl (ones_Machine _) (by repeat (first | exact .head | apply Sel.tail)) rfl ⟨⟨(by first | exact PH.le_refl _ | assumption | exact PH.le_trans (by assumption) (by assumption)), (inc_of (by repeat' (first | exact List.nil_sublist _ | apply List.Sublist.cons_cons | apply List.Sublist.cons))), .inl (by kernel_rfl)⟩, ?_⟩)
    refine wd_so0 9 rfl (by kernel_rfl) (so_storeA ag65 rfl rfl rfl (ones_Trap _) (by repeat (first | exact .head | apply Sel.tail)) rfl ⟨⟨(by first | exact PH.le_refl _ | assumption | exact PH.le_trans (by assumption) (by assumption)), (inc_of (by repeat' (first | exact List.nil_sublist _ | apply List.Sublist.cons_cons | apply List.Sublist.cons))), .inl (by kernel_rfl)⟩, ?_⟩)
    refine wd_done (by kernel_rfl) ?_
    refine wq_then ?_
    refine xp_ret ?_
    refine fq_retR _ rfl (.cons (rv_cellA ag40 rfl (by repeat (first | exact .head | apply Sel.tail)) rfl) (.cons (rv_cellA ag65 rfl (by repeat (first | exact .head | apply Sel.tail)) rfl) .nil)) rfl ?_
    have hx : G.execute s i = ({ s with core := G.xJump s.core i (G.regsGet s.core.regs i.ra) }, Trap.zero) := by simp [G.execute, hop]
    rw [hx]; exact ⟨mm, rfl, ⟨hR.mem, hR.out⟩⟩
  ·
    refine xp_region ?_
    refine wl_ro (mv_m rfl) rfl ?_
    refine wl_ro (ro_fieldAddrC 0 fb75_0 rfl rfl) rfl ?_
    refine wl_ro (ro_load sc3 rfl (by repeat (first | exact .head | apply Sel.tail)) (get_Instr_op _)) rfl ?_
    refine wl_ro ((ro_lookupO mpk131 mpe131 rfl rfl .head (by kernel_rfl)).as (v' := .tuple #[.func (.func 86) #[.pointer (some ⟨b31, 0, none⟩)] #[], .bool true]) (by rw [hop]; kernel_rfl)) rfl ?_
    refine wl_ro (mv_u rfl) rfl ?_
    refine wl_ro (ro_extract rfl rfl) rfl ?_
    refine wl_ro (ro_extract rfl rfl) rfl ?_
    refine wl_ro (as_f rfl) rfl ?_
    refine wl_ro (as_b rfl) rfl ?_
    refine wl_nil ?_
    refine wq_then ?_
    refine xp_seq ?_
    refine xp_seq ?_
    refine xp_region ?_
    refine wl_ro (mv_b rfl) rfl ?_
    refine wl_ro (ro_not rfl) rfl ?_
    refine wl_ro (mv_b rfl) rfl ?_
    refine wl_no rfl rfl rfl rfl rfl (no_of rfl) ?_
    refine wl_no rfl rfl rfl rfl rfl (no_of rfl) ?_
    refine wl_no rfl rfl rfl rfl rfl (no_of rfl) ?_
    refine wl_no rfl rfl rfl rfl rfl (no_of rfl) ?_
    refine wl_ro (ro_pickF rfl rfl) rfl ?_
    refine wl_nil ?_
    refine wq_then ?_
    refine xp_condF rfl rfl ?_
    refine xp_skip ?_
    refine wq_then ?_
    refine xp_seq ?_
    refine xp_seq ?_
    refine xp_region ?_
    refine wl_ro (mv_f rfl) rfl ?_
    refine wl_ro (rof_neqT fnb1 rfl rfl) rfl ?_
    refine wl_nil ?_
    refine wq_then ?_
    refine xp_condT rfl rfl ?_
    refine xp_region ?_
    refine wl_ro (mv_f rfl) rfl ?_
    refine wl_s rfl (so_callFMV (first := #[.pointer (some ⟨b31, 0, none⟩)]) rfl (c_exec_step_jump b31 _) trivial gb86 (by rfl) (.tail .head) ?_)
    refine wl_nil ?_
    refine wq_then ?_
    refine xp_seq ?_
    refine xp_draw [true, true, false, false, true, true] [8, 9] mixed ?_
    refine wd_ro 0 rfl (by kernel_rfl) (mv_p rfl) rfl ?_
    refine wd_ro 1 rfl (by kernel_rfl) (ro_nilCheck rfl) rfl ?_
    refine wd_ro 2 rfl (by kernel_rfl) (ro_fieldAddrC 0 fb130_0 rfl rfl) rfl ?_
    refine wd_ro 3 rfl (by kernel_rfl) (ro_loadA ag40 rfl (by repeat (first | exact .head | apply Sel.tail)) (by rfl) (get_Step_m _)) rfl ?_
    refine wd_ro 4 rfl (by kernel_rfl) (mv_p rfl) rfl ?_
    refine wd_ro 5 rfl (by kernel_rfl) (ro_nilCheck rfl) rfl ?_
    refine wd_ro 6 rfl (by kernel_rfl) (ro_fieldAddrC 41 fb130_5 rfl rfl) rfl ?_
    refine wd_ro 7 rfl (by kernel_rfl) (ro_loadA ag65 rfl (by repeat (first | exact .head | apply Sel.tail)) (by rfl) (get_Step_trap _)) rfl ?_
    refine wd_so0 8 rfl (by kernel_rfl) (so_storeA ag40 rfl rfl rfl (ones_Machine _) (by repeat (first | exact .head | apply Sel.tail)) rfl ⟨⟨(by first | exact PH.le_refl _ | assumption | exact PH.le_trans (by assumption) (by assumption)), (inc_of (by repeat' (first | exact List.nil_sublist _ | apply List.Sublist.cons_cons | apply List.Sublist.cons))), .inl (by kernel_rfl)⟩, ?_⟩)
    refine wd_so0 9 rfl (by kernel_rfl) (so_storeA ag65 rfl rfl rfl (ones_Trap _) (by repeat (first | exact .head | apply Sel.tail)) rfl ⟨⟨(by first | exact PH.le_refl _ | assumption | exact PH.le_trans (by assumption) (by assumption)), (inc_of (by repeat' (first | exact List.nil_sublist _ | apply List.Sublist.cons_cons | apply List.Sublist.cons))), .inl (by kernel_rfl)⟩, ?_⟩)
    refine wd_done (by kernel_rfl) ?_
    refine wq_then ?_
    refine xp_ret ?_
    refine fq_retR _ rfl (.cons (rv_cellA ag40 rfl (by repeat (first | exact .head | apply Sel.tail)) rfl) (.cons (rv_cellA ag65 rfl (by repeat (first | exact .head | apply Sel.tail)) rfl) .nil)) rfl ?_
    have hx : G.execute s i = ({ s with core := G.xJump s.core i (G.regsGet s.core.regs i.ra) }, Trap.zero) := by simp [G.execute, hop]
    rw [hx]; exact ⟨mm, rfl, ⟨hR.mem, hR.out⟩⟩
  ·
    refine xp_region ?_
    refine wl_ro (mv_m rfl) rfl ?_
    refine wl_ro (ro_fieldAddrC 0 fb75_0 rfl rfl) rfl ?_
    refine wl_ro (ro_load sc3 rfl (by repeat (first | exact .head | apply Sel.tail)) (get_Instr_op _)) rfl ?_
    refine wl_ro ((ro_lookupO mpk131 mpe131 rfl rfl .head (by kernel_rfl)).as (v' := .tuple #[.func (.func 87) #[.pointer (some ⟨b31, 0, none⟩)] #[], .bool true]) (by rw [hop]; kernel_rfl)) rfl ?_
    refine wl_ro (mv_u rfl) rfl ?_
    refine wl_ro (ro_extract rfl rfl) rfl ?_
    refine wl_ro (ro_extract rfl rfl) rfl ?_
    refine wl_ro (as_f rfl) rfl ?_
    refine wl_ro (as_b rfl) rfl ?_
    refine wl_nil ?_
    refine wq_then ?_
    refine xp_seq ?_
    refine xp_seq ?_
    refine xp_region ?_
    refine wl_ro (mv_b rfl) rfl ?_
    refine wl_ro (ro_not rfl) rfl ?_
    refine wl_ro (mv_b rfl) rfl ?_
    refine wl_no rfl rfl rfl rfl rfl (no_of rfl) ?_
    refine wl_no rfl rfl rfl rfl rfl (no_of rfl) ?_
    refine wl_no rfl rfl rfl rfl rfl (no_of rfl) ?_
    refine wl_no rfl rfl rfl rfl rfl (no_of rfl) ?_
    refine wl_ro (ro_pickF rfl rfl) rfl ?_
    refine wl_nil ?_
    refine wq_then ?_
    refine xp_condF rfl rfl ?_
    refine xp_skip ?_
    refine wq_then ?_
    refine xp_seq ?_
    refine xp_seq ?_
    refine xp_region ?_
    refine wl_ro (mv_f rfl) rfl ?_
    refine wl_ro (rof_neqT fnb1 rfl rfl) rfl ?_
    refine wl_nil ?_
    refine wq_then ?_
    refine xp_condT rfl rfl ?_
    refine xp_region ?_
    refine wl_ro (mv_f rfl) rfl ?_
    refine wl_s rfl (so_callFMV (first := #[.pointer (some ⟨b31, 0, none⟩)]) rfl (c_exec_step_call b31 _) trivial gb87 (by rfl) (.tail .head) ?_)
    refine wl_nil ?_
    refine wq_then ?_
    refine xp_seq ?_
    refine xp_draw [true, true, false, false, true, true] [8, 9] mixed ?_
    refine wd_ro 0 rfl (by kernel_rfl) (mv_p rfl) rfl ?_
    refine wd_ro 1 rfl (by kernel_rfl) (ro_nilCheck rfl) rfl ?_
    refine wd_ro 2 rfl (by kernel_rfl) (ro_fieldAddrC 0 fb130_0 rfl rfl) rfl ?_
    refine wd_ro 3 rfl (by kernel_rfl) (ro_loadA ag40 rfl (by repeat (first | exact .head | apply Sel.tail)) (by rfl) (get_Step_m _)) rfl ?_
    refine wd_ro 4 rfl (by kernel_rfl) (mv_p rfl) rfl ?_
    refine wd_ro 5 rfl (by kernel_rfl) (ro_nilCheck rfl) rfl ?_
    refine wd_ro 6 rfl (by kernel_rfl) (ro_fieldAddrC 41 fb130_5 rfl rfl) rfl ?_
    refine wd_ro 7 rfl (by kernel_rfl) (ro_loadA ag65 rfl (by repeat (first | exact .head | apply Sel.tail)) (by rfl) (get_Step_trap _)) rfl ?_
    refine wd_so0 8 rfl (by kernel_rfl) (so_storeA ag40 rfl rfl rfl (ones_Machine _) (by repeat (first | exact .head | apply Sel.tail)) rfl ⟨⟨(by first | exact PH.le_refl _ | assumption | exact PH.le_trans (by assumption) (by assumption)), (inc_of (by repeat' (first | exact List.nil_sublist _ | apply List.Sublist.cons_cons | apply List.Sublist.cons))), .inl (by kernel_rfl)⟩, ?_⟩)
    refine wd_so0 9 rfl (by kernel_rfl) (so_storeA ag65 rfl rfl rfl (ones_Trap _) (by repeat (first | exact .head | apply Sel.tail)) rfl ⟨⟨(by first | exact PH.le_refl _ | assumption | exact PH.le_trans (by assumption) (by assumption)), (inc_of (by repeat' (first | exact List.nil_sublist _ | apply List.Sublist.cons_cons | apply List.Sublist.cons))), .inl (by kernel_rfl)⟩, ?_⟩)
    refine wd_done (by kernel_rfl) ?_
    refine wq_then ?_
    refine xp_ret ?_
    refine fq_retR _ rfl (.cons (rv_cellA ag40 rfl (by repeat (first | exact .head | apply Sel.tail)) rfl) (.cons (rv_cellA ag65 rfl (by repeat (first | exact .head | apply Sel.tail)) rfl) .nil)) rfl ?_
    have hx : G.execute s i = (s, ⟨5, 0#32⟩) := by simp [G.execute, hop]
    rw [hx]; exact ⟨mm, rfl, ⟨hR.mem, hR.out⟩⟩
  ·
    refine xp_region ?_
    refine wl_ro (mv_m rfl) rfl ?_
    refine wl_ro (ro_fieldAddrC 0 fb75_0 rfl rfl) rfl ?_
    refine wl_ro (ro_load sc3 rfl (by repeat (first | exact .head | apply Sel.tail)) (get_Instr_op _)) rfl ?_
    refine wl_ro ((ro_lookupO mpk131 mpe131 rfl rfl .head (by kernel_rfl)).as (v' := .tuple #[.nilFunc, .bool false]) (by simp [lookI, findI, hop])) rfl ?_
    refine wl_ro (mv_u rfl) rfl ?_
    refine wl_ro (ro_extract rfl rfl) rfl ?_
    refine wl_ro (ro_extract rfl rfl) rfl ?_
    refine wl_ro (ro_assign _) rfl ?_
    refine wl_ro (as_b rfl) rfl ?_
    refine wl_nil ?_
    refine wq_then ?_
    refine xp_seq ?_
    refine xp_seq ?_
    refine xp_region ?_
    refine wl_ro (mv_b rfl) rfl ?_
    refine wl_ro (ro_not rfl) rfl ?_
    refine wl_ro (mv_b rfl) rfl ?_
    refine wl_yes rfl rfl rfl rfl rfl (yes_of rfl) (so_ro (ro_fieldAddrC 0 fb75_0 rfl rfl) ?_)
    refine wl_yes rfl rfl rfl rfl rfl (yes_of rfl) (so_ro (ro_load sc3 rfl (by repeat (first | exact .head | apply Sel.tail)) (get_Instr_op _)) ?_)
    refine wl_yes rfl rfl rfl rfl rfl (yes_of rfl) (so_callW (c_isa_FormatOf _) (by exact hT) gb88 (by rfl) ?_)
    refine wl_yes rfl rfl rfl rfl rfl (yes_of rfl) (so_ro (roI_eql rfl rfl) ?_)
    refine wl_ro (ro_pickT rfl rfl) rfl ?_
    refine wl_nil ?_
    refine wq_then ?_
    refine xp_cond _ rfl (fun c1 => ?_) (fun c1 => ?_)
    ·
      try simp only [decide_eq_true_eq, decide_eq_false_iff_not] at c1
      have hc := c1
      refine xp_region ?_
      refine wl_ro (mv_p rfl) rfl ?_
      refine wl_ro (ro_makeFuncL (fs := [.pointer (some ⟨b31, 0, none⟩)]) (cs := []) rfl rfl) rfl ?_
      refine wl_ro (as_f rfl) rfl ?_
      refine wl_nil ?_
      refine wq_then ?_
      refine xp_seq ?_
      refine xp_seq ?_
      refine xp_region ?_
      refine wl_ro (mv_f rfl) rfl ?_
      refine wl_ro (rof_neqT fnb1 rfl rfl) rfl ?_
      refine wl_nil ?_
      refine wq_then ?_
      refine xp_condT rfl rfl ?_
      refine xp_region ?_
      refine wl_ro (mv_f rfl) rfl ?_
      refine wl_s rfl (so_callFMV (first := #[.pointer (some ⟨b31, 0, none⟩)]) rfl (c_exec_step_reckon b31 _) trivial gb89 (by rfl) (.tail .head) ?_)
      refine wl_nil ?_
      refine wq_then ?_
      refine xp_seq ?_
      refine xp_draw [true, true, false, false, true, true] [8, 9] mixed ?_
      refine wd_ro 0 rfl (by kernel_rfl) (mv_p rfl) rfl ?_
      refine wd_ro 1 rfl (by kernel_rfl) (ro_nilCheck rfl) rfl ?_
      refine wd_ro 2 rfl (by kernel_rfl) (ro_fieldAddrC 0 fb130_0 rfl rfl) rfl ?_
      refine wd_ro 3 rfl (by kernel_rfl) (ro_loadA ag40 rfl (by repeat (first | exact .head | apply Sel.tail)) (by rfl) (get_Step_m _)) rfl ?_
      refine wd_ro 4 rfl (by kernel_rfl) (mv_p rfl) rfl ?_
      refine wd_ro 5 rfl (by kernel_rfl) (ro_nilCheck rfl) rfl ?_
      refine wd_ro 6 rfl (by kernel_rfl) (ro_fieldAddrC 41 fb130_5 rfl rfl) rfl ?_
      refine wd_ro 7 rfl (by kernel_rfl) (ro_loadA ag65 rfl (by repeat (first | exact .head | apply Sel.tail)) (by rfl) (get_Step_trap _)) rfl ?_
      refine wd_so0 8 rfl (by kernel_rfl) (so_storeA ag40 rfl rfl rfl (ones_Machine _) (by repeat (first | exact .head | apply Sel.tail)) rfl ⟨⟨(by first | exact PH.le_refl _ | assumption | exact PH.le_trans (by assumption) (by assumption)), (inc_of (by repeat' (first | exact List.nil_sublist _ | apply List.Sublist.cons_cons | apply List.Sublist.cons))), .inl (by kernel_rfl)⟩, ?_⟩)
      refine wd_so0 9 rfl (by kernel_rfl) (so_storeA ag65 rfl rfl rfl (ones_Trap _) (by repeat (first | exact .head | apply Sel.tail)) rfl ⟨⟨(by first | exact PH.le_refl _ | assumption | exact PH.le_trans (by assumption) (by assumption)), (inc_of (by repeat' (first | exact List.nil_sublist _ | apply List.Sublist.cons_cons | apply List.Sublist.cons))), .inl (by kernel_rfl)⟩, ?_⟩)
      refine wd_done (by kernel_rfl) ?_
      refine wq_then ?_
      refine xp_ret ?_
      refine fq_retR _ rfl (.cons (rv_cellA ag40 rfl (by repeat (first | exact .head | apply Sel.tail)) rfl) (.cons (rv_cellA ag65 rfl (by repeat (first | exact .head | apply Sel.tail)) rfl) .nil)) rfl ?_
      have hx : G.execute s i = ({ s with core := G.xPut s.core i.rd (G.eval i.op (G.regsGet s.core.regs i.ra) (G.regsGet s.core.regs i.rb)) }, Trap.zero) := by simp [G.execute, hop, hc]
      rw [hx]; exact ⟨mm, rfl, ⟨hR.mem, hR.out⟩⟩
    ·
      try simp only [decide_eq_true_eq, decide_eq_false_iff_not] at c1
      have hc := c1
      refine xp_skip ?_
      refine wq_then ?_
      refine xp_seq ?_
      refine xp_seq ?_
      refine xp_region ?_
      refine wl_ro (ro_move _) rfl ?_
      refine wl_ro (rof_neqF fnb1 rfl rfl) rfl ?_
      refine wl_nil ?_
      refine wq_then ?_
      refine xp_condF rfl rfl ?_
      refine xp_skip ?_
      refine wq_then ?_
      refine xp_seq ?_
      refine xp_draw [true, true, false, false, true, true] [8, 9] mixed ?_
      refine wd_ro 0 rfl (by kernel_rfl) (mv_p rfl) rfl ?_
      refine wd_ro 1 rfl (by kernel_rfl) (ro_nilCheck rfl) rfl ?_
      refine wd_ro 2 rfl (by kernel_rfl) (ro_fieldAddrC 0 fb130_0 rfl rfl) rfl ?_
      refine wd_ro 3 rfl (by kernel_rfl) (ro_loadA ag40 rfl (by repeat (first | exact .head | apply Sel.tail)) (by rfl) (get_Step_m _)) rfl ?_
      refine wd_ro 4 rfl (by kernel_rfl) (mv_p rfl) rfl ?_
      refine wd_ro 5 rfl (by kernel_rfl) (ro_nilCheck rfl) rfl ?_
      refine wd_ro 6 rfl (by kernel_rfl) (ro_fieldAddrC 41 fb130_5 rfl rfl) rfl ?_
      refine wd_ro 7 rfl (by kernel_rfl) (ro_loadA ag65 rfl (by repeat (first | exact .head | apply Sel.tail)) (by rfl) (get_Step_trap _)) rfl ?_
      refine wd_so0 8 rfl (by kernel_rfl) (so_storeA ag40 rfl rfl rfl (ones_Machine _) (by repeat (first | exact .head | apply Sel.tail)) rfl ⟨⟨(by first | exact PH.le_refl _ | assumption | exact PH.le_trans (by assumption) (by assumption)), (inc_of (by repeat' (first | exact List.nil_sublist _ | apply List.Sublist.cons_cons | apply List.Sublist.cons))), .inl (by kernel_rfl)⟩, ?_⟩)
      refine wd_so0 9 rfl (by kernel_rfl) (so_storeA ag65 rfl rfl rfl (ones_Trap _) (by repeat (first | exact .head | apply Sel.tail)) rfl ⟨⟨(by first | exact PH.le_refl _ | assumption | exact PH.le_trans (by assumption) (by assumption)), (inc_of (by repeat' (first | exact List.nil_sublist _ | apply List.Sublist.cons_cons | apply List.Sublist.cons))), .inl (by kernel_rfl)⟩, ?_⟩)
      refine wd_done (by kernel_rfl) ?_
      refine wq_then ?_
      refine xp_ret ?_
      refine fq_retR _ rfl (.cons (rv_cellA ag40 rfl (by repeat (first | exact .head | apply Sel.tail)) rfl) (.cons (rv_cellA ag65 rfl (by repeat (first | exact .head | apply Sel.tail)) rfl) .nil)) rfl ?_
      have hx : G.execute s i = (s, Trap.zero) := by simp [G.execute, hop, hc]
      rw [hx]; exact ⟨mm, rfl, ⟨hR.mem, hR.out⟩⟩
end Go.Proofs.YtnikheoiciokhaaDoor
