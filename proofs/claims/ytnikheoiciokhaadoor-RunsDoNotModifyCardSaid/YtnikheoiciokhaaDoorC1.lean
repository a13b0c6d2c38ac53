/-
  CONTRACTS OF GO FUNCTIONS (printed by gen.py, own work).
-/
import Derived.Test.YtnikheoiciokhaaDoorF
import Derived.Test.YtnikheoiciokhaaDoorSxBuilds
namespace Go.Proofs.YtnikheoiciokhaaDoor
open Go Go.Sx
set_option linter.unusedVariables false
set_option maxRecDepth 20000
set_option linter.unusedSimpArgs false

theorem c_csr_is (n : Int) : CtV Tryd.prog 33 [int n] (.bool (G.csrIs n)) := by
  intro h
  refine ctr_enter (n := 9) [int n] Tryd.func33 rfl rfl rfl fun w0 => ?_
  refine xp_seq ?_
  refine xp_region ?_
  refine wl_ro (as_b rfl) rfl ?_
  refine wl_nil ?_
  refine wq_then ?_
  refine xp_seq ?_
  refine xp_region ?_
  refine wl_ro (mv_i rfl) rfl ?_
  refine wl_ro (roI_geq rfl rfl) rfl ?_
  refine wl_ro (mv_b rfl) rfl ?_
  refine wl_split (dj := 5) rfl (fun g1 => ?_) (fun g1 => ?_)
  ·
    refine wl_yes rfl rfl rfl rfl rfl (yes_of g1) (so_ro (mv_i rfl) ?_)
    refine wl_yes rfl rfl rfl rfl rfl (yes_of g1) (so_ro (roI_lss rfl rfl) ?_)
    refine wl_ro (ro_pickT rfl g1) rfl ?_
    refine wl_ro (as_b rfl) rfl ?_
    refine wl_nil ?_
    refine wq_then ?_
    refine xp_ret ?_
    refine fq_retV rfl (.cons (rv_b rfl) .nil) _ rfl ?_
    simp_all [G.csrIs] <;> omega
  ·
    refine wl_no rfl rfl rfl rfl rfl (no_of g1) ?_
    refine wl_no rfl rfl rfl rfl rfl (no_of g1) ?_
    refine wl_ro (ro_pickF rfl g1) rfl ?_
    refine wl_ro (as_b rfl) rfl ?_
    refine wl_nil ?_
    refine wq_then ?_
    refine xp_ret ?_
    refine fq_retV rfl (.cons (rv_b rfl) .nil) _ rfl ?_
    simp_all [G.csrIs] <;> omega
theorem c_csr_masks  : CtV Tryd.prog 34 [] (.agg (encV12 G.masks)) := by
  intro h
  refine ctr_enter (n := 2) [] Tryd.func34 rfl rfl rfl fun w0 => ?_
  refine xp_seq ?_
  refine xp_region ?_
  refine wl_s rfl (so_allocA zr23 fun b0 => ?_)
  refine wl_nil ?_
  refine wq_then ?_
  refine xp_seq ?_
  refine xp_region ?_
  refine wl_ro (ro_buildArr (c := encV12 G.masks) zr23 ar23 (by kernel_rfl)) rfl ?_
  refine wl_s0 (so_storeA ag23 rfl rfl rfl (ones_V12 _) (by repeat (first | exact .head | apply Sel.tail)) rfl ?_)
  refine wl_nil ?_
  refine wq_then ?_
  refine xp_ret ?_
  refine fq_retV rfl (.cons (rv_cellA ag23 rfl (by repeat (first | exact .head | apply Sel.tail)) rfl) .nil) _ rfl ?_
  rfl
theorem c_csr_Reset  : CtV Tryd.prog 21 [] (.agg (encV12 G.csrReset)) := by
  intro h
  refine ctr_enter (n := 2) [] Tryd.func21 rfl rfl rfl fun w0 => ?_
  refine xp_seq ?_
  refine xp_region ?_
  refine wl_s rfl (so_allocA zr23 fun b0 => ?_)
  refine wl_nil ?_
  refine wq_then ?_
  refine xp_seq ?_
  refine xp_region ?_
  refine wl_ro (ro_buildArr (c := encV12 G.csrReset) zr23 ar23 (by kernel_rfl)) rfl ?_
  refine wl_s0 (so_storeA ag23 rfl rfl rfl (ones_V12 _) (by repeat (first | exact .head | apply Sel.tail)) rfl ?_)
  refine wl_nil ?_
  refine wq_then ?_
  refine xp_ret ?_
  refine fq_retV rfl (.cons (rv_cellA ag23 rfl (by repeat (first | exact .head | apply Sel.tail)) rfl) .nil) _ rfl ?_
  rfl
theorem c_csr_WriteMask (n : Int) : CtV Tryd.prog 13 [int n] (u32 (G.writeMask n)) := by
  intro h
  refine ctr_enter (n := 9) [int n] Tryd.func13 rfl rfl rfl fun w0 => ?_
  refine xp_seq ?_
  refine xp_region ?_
  refine wl_ro (as_32 (a := 0#32) rfl) rfl ?_
  refine wl_nil ?_
  refine wq_then ?_
  refine xp_seq ?_
  refine xp_seq ?_
  refine xp_region ?_
  refine wl_ro (mv_i rfl) rfl ?_
  refine wl_s rfl (so_callV (c_csr_is _) gb33 (by rfl) ?_)
  refine wl_ro (ro_not rfl) rfl ?_
  refine wl_nil ?_
  refine wq_then ?_
  refine xp_cond _ rfl (fun c1 => ?_) (fun c1 => ?_)
  ·
    try have hn := G.csrIs_nf c1
    refine xp_seq ?_
    refine xp_region ?_
    refine wl_ro (as_32 (a := 0#32) rfl) rfl ?_
    refine wl_nil ?_
    refine wq_then ?_
    refine xp_ret ?_
    refine wq_then_ret ?_
    refine fq_retV rfl (.cons (rv_32 rfl) .nil) _ rfl ?_
    simp_all [G.writeMask]
  ·
    try have hn := G.csrIs_nf c1
    refine xp_skip ?_
    refine wq_then ?_
    refine xp_seq ?_
    refine xp_region ?_
    refine wl_s rfl (so_callV (c_csr_masks) gb34 (by rfl) ?_)
    refine wl_ro (mv_i rfl) rfl ?_
    refine wl_ro (ro_index12 ars23 rfl rfl (by omega) (by omega)) rfl ?_
    refine wl_ro (as_32 rfl) rfl ?_
    refine wl_nil ?_
    refine wq_then ?_
    refine xp_ret ?_
    refine fq_retV rfl (.cons (rv_32 rfl) .nil) _ rfl ?_
    simp_all [G.writeMask]
theorem c_csr_Read (c : V12) (time : BitVec 64) (n : Int) : CtV Tryd.prog 15 [.agg (encV12 c), u64 time, int n] (u32 (G.csrRead c time n)) := by
  intro h
  refine ctr_enter (n := 25) [.agg (encV12 c), u64 time, int n] Tryd.func15 rfl rfl rfl fun w0 => ?_
  refine xp_seq ?_
  refine xp_region ?_
  refine wl_s rfl (so_boxA rfl fun b3 => ?_)
  refine wl_ro (as_32 (a := 0#32) rfl) rfl ?_
  refine wl_nil ?_
  refine wq_then ?_
  refine xp_seq ?_
  refine xp_block ?_
  refine xp_seq ?_
  refine xp_region ?_
  refine wl_ro (mv_i rfl) rfl ?_
  refine wl_ro (roI_eql rfl rfl) rfl ?_
  refine wl_ro (as_b rfl) rfl ?_
  refine wl_nil ?_
  refine wq_then ?_
  refine xp_cond _ rfl (fun c1 => ?_) (fun c1 => ?_)
  ·
    try have hn := G.csrIs_nf c1
    refine xp_seq ?_
    refine xp_region ?_
    refine wl_ro (mv_64 rfl) rfl ?_
    refine wl_ro (cv_64_32 us24 ik22 rfl) rfl ?_
    refine wl_ro (as_32 rfl) rfl ?_
    refine wl_nil ?_
    refine wq_then ?_
    refine xp_ret ?_
    refine wq_in_ret ?_
    refine wq_then_ret ?_
    refine fq_retV rfl (.cons (rv_32 rfl) .nil) _ rfl ?_
    simp_all [G.csrRead]
  ·
    try have hn := G.csrIs_nf c1
    refine xp_seq ?_
    refine xp_region ?_
    refine wl_ro (mv_i rfl) rfl ?_
    refine wl_ro (roI_eql rfl rfl) rfl ?_
    refine wl_ro (as_b rfl) rfl ?_
    refine wl_nil ?_
    refine wq_then ?_
    refine xp_cond _ rfl (fun c2 => ?_) (fun c2 => ?_)
    ·
      try have hn := G.csrIs_nf c2
      refine xp_seq ?_
      refine xp_region ?_
      refine wl_ro (mv_64 rfl) rfl ?_
      refine wl_ro (ro64_shr (s := 32) rfl rfl) rfl ?_
      refine wl_ro (cv_64_32 us24 ik22 rfl) rfl ?_
      refine wl_ro (as_32 rfl) rfl ?_
      refine wl_nil ?_
      refine wq_then ?_
      refine xp_ret ?_
      refine wq_in_ret ?_
      refine wq_then_ret ?_
      refine fq_retV rfl (.cons (rv_32 rfl) .nil) _ rfl ?_
      simp_all [G.csrRead]
    ·
      try have hn := G.csrIs_nf c2
      refine xp_seq ?_
      refine xp_region ?_
      refine wl_ro (mv_i rfl) rfl ?_
      refine wl_s rfl (so_callV (c_csr_is _) gb33 (by rfl) ?_)
      refine wl_ro (ro_not rfl) rfl ?_
      refine wl_ro (as_b rfl) rfl ?_
      refine wl_nil ?_
      refine wq_then ?_
      refine xp_cond _ rfl (fun c3 => ?_) (fun c3 => ?_)
      ·
        try have hn := G.csrIs_nf c3
        refine xp_seq ?_
        refine xp_region ?_
        refine wl_ro (as_32 (a := 0#32) rfl) rfl ?_
        refine wl_nil ?_
        refine wq_then ?_
        refine xp_ret ?_
        refine wq_in_ret ?_
        refine wq_then_ret ?_
        refine fq_retV rfl (.cons (rv_32 rfl) .nil) _ rfl ?_
        simp_all [G.csrRead]
      ·
        try have hn := G.csrIs_nf c3
        refine xp_skip ?_
        refine wq_in ?_
        refine wq_then ?_
        refine xp_seq ?_
        refine xp_region ?_
        refine wl_ro (mv_i rfl) rfl ?_
        refine wl_ro (ro_indexAddr_w ar23 rfl rfl (by omega) (by omega)) rfl ?_
        refine wl_ro (ro_load sc22 rfl (by repeat (first | exact .head | apply Sel.tail)) (get_V12_at _ _ (by omega))) rfl ?_
        refine wl_ro (as_32 rfl) rfl ?_
        refine wl_nil ?_
        refine wq_then ?_
        refine xp_ret ?_
        refine fq_retV rfl (.cons (rv_32 rfl) .nil) _ rfl ?_
        simp_all [G.csrRead]
theorem c_csr_Write (c : V12) (n : Int) (v : BitVec 32) : CtV Tryd.prog 17 [.agg (encV12 c), int n, u32 v] (.agg (encV12 (G.csrWrite c n v))) := by
  intro h
  refine ctr_enter (n := 25) [.agg (encV12 c), int n, u32 v] Tryd.func17 rfl rfl rfl fun w0 => ?_
  refine xp_seq ?_
  refine xp_region ?_
  refine wl_s rfl (so_boxA rfl fun b3 => ?_)
  refine wl_s rfl (so_allocA zr23 fun b6 => ?_)
  refine wl_nil ?_
  refine wq_then ?_
  refine xp_seq ?_
  refine xp_seq ?_
  refine xp_region ?_
  refine wl_ro (mv_i rfl) rfl ?_
  refine wl_s rfl (so_callV (c_csr_is _) gb33 (by rfl) ?_)
  refine wl_nil ?_
  refine wq_then ?_
  refine xp_cond _ rfl (fun c1 => ?_) (fun c1 => ?_)
  ·
    try have hn := G.csrIs_t c1
    refine xp_draw [true, false] [15] mixed ?_
    refine wd_ro 0 rfl (by kernel_rfl) (mv_i rfl) rfl ?_
    refine wd_ro 1 rfl (by kernel_rfl) (mv_i rfl) rfl ?_
    refine wd_ro 2 rfl (by kernel_rfl) (ro_indexAddr_w ar23 rfl rfl (by omega) (by omega)) rfl ?_
    refine wd_roW2 3 rfl (by kernel_rfl) (by kernel_rfl) (ro_load sc22 rfl (by repeat (first | exact .head | apply Sel.tail)) (get_V12_at _ _ (by omega))) rfl ?_
    refine wd_ro 5 rfl (by kernel_rfl) (mv_i rfl) rfl ?_
    refine wd_ro 8 rfl (by kernel_rfl) (mv_32 rfl) rfl ?_
    refine wd_ro 10 rfl (by kernel_rfl) (mv_i rfl) rfl ?_
    refine wd_so 4 rfl (by kernel_rfl) rfl (so_callV (c_csr_masks) gb34 (by rfl) ⟨⟨(by first | exact PH.le_refl _ | assumption | exact PH.le_trans (by assumption) (by assumption)), (inc_of (by repeat' (first | exact List.nil_sublist _ | apply List.Sublist.cons_cons | apply List.Sublist.cons))), .inr (inc_of (by repeat' (first | exact List.nil_sublist _ | apply List.Sublist.cons_cons | apply List.Sublist.cons)))⟩, ?_⟩)
    refine wd_ro 6 rfl (by kernel_rfl) (ro_index12 ars23 rfl rfl (by omega) (by omega)) rfl ?_
    refine wd_ro 7 rfl (by kernel_rfl) (ro32_andNot rfl rfl) rfl ?_
    refine wd_so 9 rfl (by kernel_rfl) rfl (so_callV (c_csr_masks) gb34 (by rfl) ⟨⟨(by first | exact PH.le_refl _ | assumption | exact PH.le_trans (by assumption) (by assumption)), (inc_of (by repeat' (first | exact List.nil_sublist _ | apply List.Sublist.cons_cons | apply List.Sublist.cons))), .inr (inc_of (by repeat' (first | exact List.nil_sublist _ | apply List.Sublist.cons_cons | apply List.Sublist.cons)))⟩, ?_⟩)
    refine wd_ro 11 rfl (by kernel_rfl) (ro_index12 ars23 rfl rfl (by omega) (by omega)) rfl ?_
    refine wd_ro 12 rfl (by kernel_rfl) (ro32_and rfl rfl) rfl ?_
    refine wd_ro 13 rfl (by kernel_rfl) (ro32_or rfl rfl) rfl ?_
    refine wd_ro 14 rfl (by kernel_rfl) (ro_indexAddr_w ar23 rfl rfl (by omega) (by omega)) rfl ?_
    refine wd_so0 15 rfl (by kernel_rfl) (so_store sc22 rfl rfl rfl (by repeat (first | exact .head | apply Sel.tail)) (blt_at 12 rfl (by omega)) (set_V12_at _ _ (by omega) _) ⟨⟨(by first | exact PH.le_refl _ | assumption | exact PH.le_trans (by assumption) (by assumption)), (inc_of (by repeat' (first | exact List.nil_sublist _ | apply List.Sublist.cons_cons | apply List.Sublist.cons))), .inl (by kernel_rfl)⟩, ?_⟩)
    refine wd_done (by kernel_rfl) ?_
    refine wq_then ?_
    refine xp_seq ?_
    refine xp_region ?_
    refine wl_ro (ro_loadA ag23 rfl (by repeat (first | exact .head | apply Sel.tail)) (by rfl) (whole_V12 _)) rfl ?_
    refine wl_s0 (so_storeA ag23 rfl rfl rfl (ones_V12 _) (by repeat (first | exact .head | apply Sel.tail)) rfl ?_)
    refine wl_nil ?_
    refine wq_then ?_
    refine xp_ret ?_
    refine fq_retV rfl (.cons (rv_cellA ag23 rfl (by repeat (first | exact .head | apply Sel.tail)) rfl) .nil) _ rfl ?_
    simp_all [G.csrWrite]
  ·
    try have hn := G.csrIs_t c1
    refine xp_skip ?_
    refine wq_then ?_
    refine xp_seq ?_
    refine xp_region ?_
    refine wl_ro (ro_loadA ag23 rfl (by repeat (first | exact .head | apply Sel.tail)) (by rfl) (whole_V12 _)) rfl ?_
    refine wl_s0 (so_storeA ag23 rfl rfl rfl (ones_V12 _) (by repeat (first | exact .head | apply Sel.tail)) rfl ?_)
    refine wl_nil ?_
    refine wq_then ?_
    refine xp_ret ?_
    refine fq_retV rfl (.cons (rv_cellA ag23 rfl (by repeat (first | exact .head | apply Sel.tail)) rfl) .nil) _ rfl ?_
    simp_all [G.csrWrite]
theorem c_csr_TimerCompare (c : V12) : CtV Tryd.prog 19 [.agg (encV12 c)] (u64 (G.timerCompare c)) := by
  intro h
  refine ctr_enter (n := 11) [.agg (encV12 c)] Tryd.func19 rfl rfl rfl fun w0 => ?_
  refine xp_seq ?_
  refine xp_region ?_
  refine wl_s rfl (so_boxA rfl fun b1 => ?_)
  refine wl_ro (as_64 (a := 0#64) rfl) rfl ?_
  refine wl_nil ?_
  refine wq_then ?_
  refine xp_seq ?_
  refine xp_region ?_
  refine wl_ro (ro_indexAddr_c 10 10 ar23 rfl rfl rfl rfl) rfl ?_
  refine wl_ro (ro_load sc22 rfl (by repeat (first | exact .head | apply Sel.tail)) (get_V12_at _ 10 (by decide))) rfl ?_
  refine wl_ro (cv_32_64 us22 ik24 rfl) rfl ?_
  refine wl_ro (ro64_shl (s := 32) rfl rfl) rfl ?_
  refine wl_ro (ro_indexAddr_c 9 9 ar23 rfl rfl rfl rfl) rfl ?_
  refine wl_ro (ro_load sc22 rfl (by repeat (first | exact .head | apply Sel.tail)) (get_V12_at _ 9 (by decide))) rfl ?_
  refine wl_ro (cv_32_64 us22 ik24 rfl) rfl ?_
  refine wl_ro (ro64_or rfl rfl) rfl ?_
  refine wl_ro (as_64 rfl) rfl ?_
  refine wl_nil ?_
  refine wq_then ?_
  refine xp_ret ?_
  refine fq_retV rfl (.cons (rv_64 rfl) .nil) _ rfl ?_
  rfl
theorem c_trap_status_has (s bit : BitVec 32) : CtV Tryd.prog 74 [u32 s, u32 bit] (.bool (G.has s bit)) := by
  intro h
  refine ctr_enter (n := 9) [u32 s, u32 bit] Tryd.func74 rfl rfl rfl fun w0 => ?_
  refine xp_seq ?_
  refine xp_region ?_
  refine wl_ro (as_b rfl) rfl ?_
  refine wl_nil ?_
  refine wq_then ?_
  refine xp_seq ?_
  refine xp_region ?_
  refine wl_ro (mv_32 rfl) rfl ?_
  refine wl_ro (mv_32 rfl) rfl ?_
  refine wl_ro (ro32_and rfl rfl) rfl ?_
  refine wl_ro (ro32_neq (b := 0#32) rfl rfl) rfl ?_
  refine wl_ro (as_b rfl) rfl ?_
  refine wl_nil ?_
  refine wq_then ?_
  refine xp_ret ?_
  refine fq_retV rfl (.cons (rv_b rfl) .nil) _ rfl ?_
  rfl
theorem c_trap_status_with (s bit : BitVec 32) (is : Bool) : CtV Tryd.prog 94 [u32 s, u32 bit, .bool is] (u32 (G.with_ s bit is)) := by
  intro h
  refine ctr_enter (n := 14) [u32 s, u32 bit, .bool is] Tryd.func94 rfl rfl rfl fun w0 => ?_
  refine xp_seq ?_
  refine xp_region ?_
  refine wl_ro (as_32 (a := 0#32) rfl) rfl ?_
  refine wl_nil ?_
  refine wq_then ?_
  refine xp_seq ?_
  refine xp_seq ?_
  refine xp_region ?_
  refine wl_ro (mv_b rfl) rfl ?_
  refine wl_nil ?_
  refine wq_then ?_
  refine xp_cond _ rfl (fun c1 => ?_) (fun c1 => ?_)
  ·
    refine xp_seq ?_
    refine xp_region ?_
    refine wl_ro (mv_32 rfl) rfl ?_
    refine wl_ro (mv_32 rfl) rfl ?_
    refine wl_ro (ro32_or rfl rfl) rfl ?_
    refine wl_ro (as_32 rfl) rfl ?_
    refine wl_nil ?_
    refine wq_then ?_
    refine xp_ret ?_
    refine wq_then_ret ?_
    refine fq_retV rfl (.cons (rv_32 rfl) .nil) _ rfl ?_
    simp_all [G.with_]
  ·
    refine xp_skip ?_
    refine wq_then ?_
    refine xp_seq ?_
    refine xp_region ?_
    refine wl_ro (mv_32 rfl) rfl ?_
    refine wl_ro (mv_32 rfl) rfl ?_
    refine wl_ro (ro32_andNot rfl rfl) rfl ?_
    refine wl_ro (as_32 rfl) rfl ?_
    refine wl_nil ?_
    refine wq_then ?_
    refine xp_ret ?_
    refine fq_retV rfl (.cons (rv_32 rfl) .nil) _ rfl ?_
    simp_all [G.with_]
theorem c_trap_status_enter (s : BitVec 32) : CtV Tryd.prog 76 [u32 s] (u32 (G.senter s)) := by
  intro h
  refine ctr_enter (n := 12) [u32 s] Tryd.func76 rfl rfl rfl fun w0 => ?_
  refine xp_seq ?_
  refine xp_region ?_
  refine wl_ro (as_32 (a := 0#32) rfl) rfl ?_
  refine wl_nil ?_
  refine wq_then ?_
  refine xp_seq ?_
  refine xp_region ?_
  refine wl_ro (mv_32 rfl) rfl ?_
  refine wl_ro (mv_32 rfl) rfl ?_
  refine wl_s rfl (so_callV (c_trap_status_has _ 1#32) gb74 (by rfl) ?_)
  refine wl_s rfl (so_callV (c_trap_status_with _ 4#32 _) gb94 (by rfl) ?_)
  refine wl_ro (mv_32 rfl) rfl ?_
  refine wl_s rfl (so_callV (c_trap_status_has _ 2#32) gb74 (by rfl) ?_)
  refine wl_s rfl (so_callV (c_trap_status_with _ 8#32 _) gb94 (by rfl) ?_)
  refine wl_s rfl (so_callV (c_trap_status_with _ 1#32 _) gb94 (by rfl) ?_)
  refine wl_s rfl (so_callV (c_trap_status_with _ 2#32 _) gb94 (by rfl) ?_)
  refine wl_ro (as_32 rfl) rfl ?_
  refine wl_nil ?_
  refine wq_then ?_
  refine xp_ret ?_
  refine fq_retV rfl (.cons (rv_32 rfl) .nil) _ rfl ?_
  rfl
theorem c_trap_status_back (s : BitVec 32) : CtV Tryd.prog 96 [u32 s] (u32 (G.sback s)) := by
  intro h
  refine ctr_enter (n := 10) [u32 s] Tryd.func96 rfl rfl rfl fun w0 => ?_
  refine xp_seq ?_
  refine xp_region ?_
  refine wl_ro (as_32 (a := 0#32) rfl) rfl ?_
  refine wl_nil ?_
  refine wq_then ?_
  refine xp_seq ?_
  refine xp_region ?_
  refine wl_ro (mv_32 rfl) rfl ?_
  refine wl_ro (mv_32 rfl) rfl ?_
  refine wl_s rfl (so_callV (c_trap_status_has _ 4#32) gb74 (by rfl) ?_)
  refine wl_s rfl (so_callV (c_trap_status_with _ 1#32 _) gb94 (by rfl) ?_)
  refine wl_ro (mv_32 rfl) rfl ?_
  refine wl_s rfl (so_callV (c_trap_status_has _ 8#32) gb74 (by rfl) ?_)
  refine wl_s rfl (so_callV (c_trap_status_with _ 2#32 _) gb94 (by rfl) ?_)
  refine wl_ro (as_32 rfl) rfl ?_
  refine wl_nil ?_
  refine wq_then ?_
  refine xp_ret ?_
  refine fq_retV rfl (.cons (rv_32 rfl) .nil) _ rfl ?_
  rfl
theorem c_trap_IsSupervisor (c : Core) : CtV Tryd.prog 73 [.agg (encCore c)] (.bool (G.isSupervisor c)) := by
  intro h
  refine ctr_enter (n := 7) [.agg (encCore c)] Tryd.func73 rfl rfl rfl fun w0 => ?_
  refine xp_seq ?_
  refine xp_region ?_
  refine wl_s rfl (so_boxA rfl fun b1 => ?_)
  refine wl_ro (as_b rfl) rfl ?_
  refine wl_nil ?_
  refine wq_then ?_
  refine xp_seq ?_
  refine xp_region ?_
  refine wl_ro (ro_fieldAddrC 17 fb37_2 rfl rfl) rfl ?_
  refine wl_ro (ro_indexAddr_c 0 17 ar23 rfl rfl rfl rfl) rfl ?_
  refine wl_ro (ro_load sc22 rfl (by repeat (first | exact .head | apply Sel.tail)) (get_Core_csr_at _ 0 (by decide))) rfl ?_
  refine wl_s rfl (so_callV (c_trap_status_has _ 1#32) gb74 (by rfl) ?_)
  refine wl_ro (as_b rfl) rfl ?_
  refine wl_nil ?_
  refine wq_then ?_
  refine xp_ret ?_
  refine fq_retV rfl (.cons (rv_b rfl) .nil) _ rfl ?_
  rfl
theorem c_trap_InterruptsEnabled (c : Core) : CtV Tryd.prog 63 [.agg (encCore c)] (.bool (G.interruptsEnabled c)) := by
  intro h
  refine ctr_enter (n := 7) [.agg (encCore c)] Tryd.func63 rfl rfl rfl fun w0 => ?_
  refine xp_seq ?_
  refine xp_region ?_
  refine wl_s rfl (so_boxA rfl fun b1 => ?_)
  refine wl_ro (as_b rfl) rfl ?_
  refine wl_nil ?_
  refine wq_then ?_
  refine xp_seq ?_
  refine xp_region ?_
  refine wl_ro (ro_fieldAddrC 17 fb37_2 rfl rfl) rfl ?_
  refine wl_ro (ro_indexAddr_c 0 17 ar23 rfl rfl rfl rfl) rfl ?_
  refine wl_ro (ro_load sc22 rfl (by repeat (first | exact .head | apply Sel.tail)) (get_Core_csr_at _ 0 (by decide))) rfl ?_
  refine wl_s rfl (so_callV (c_trap_status_has _ 2#32) gb74 (by rfl) ?_)
  refine wl_ro (as_b rfl) rfl ?_
  refine wl_nil ?_
  refine wq_then ?_
  refine xp_ret ?_
  refine fq_retV rfl (.cons (rv_b rfl) .nil) _ rfl ?_
  rfl
theorem c_regs_is (n : Int) : CtV Tryd.prog 95 [int n] (.bool (G.regsIs n)) := by
  intro h
  refine ctr_enter (n := 9) [int n] Tryd.func95 rfl rfl rfl fun w0 => ?_
  refine xp_seq ?_
  refine xp_region ?_
  refine wl_ro (as_b rfl) rfl ?_
  refine wl_nil ?_
  refine wq_then ?_
  refine xp_seq ?_
  refine xp_region ?_
  refine wl_ro (mv_i rfl) rfl ?_
  refine wl_ro (roI_gtr rfl rfl) rfl ?_
  refine wl_ro (mv_b rfl) rfl ?_
  refine wl_split (dj := 5) rfl (fun g1 => ?_) (fun g1 => ?_)
  ·
    refine wl_yes rfl rfl rfl rfl rfl (yes_of g1) (so_ro (mv_i rfl) ?_)
    refine wl_yes rfl rfl rfl rfl rfl (yes_of g1) (so_ro (roI_lss rfl rfl) ?_)
    refine wl_ro (ro_pickT rfl g1) rfl ?_
    refine wl_ro (as_b rfl) rfl ?_
    refine wl_nil ?_
    refine wq_then ?_
    refine xp_ret ?_
    refine fq_retV rfl (.cons (rv_b rfl) .nil) _ rfl ?_
    simp_all [G.regsIs] <;> omega
  ·
    refine wl_no rfl rfl rfl rfl rfl (no_of g1) ?_
    refine wl_no rfl rfl rfl rfl rfl (no_of g1) ?_
    refine wl_ro (ro_pickF rfl g1) rfl ?_
    refine wl_ro (as_b rfl) rfl ?_
    refine wl_nil ?_
    refine wq_then ?_
    refine xp_ret ?_
    refine fq_retV rfl (.cons (rv_b rfl) .nil) _ rfl ?_
    simp_all [G.regsIs] <;> omega
theorem c_regs_Get (r : V16) (i : Int) : CtV Tryd.prog 77 [.agg (encV16 r), int i] (u32 (G.regsGet r i)) := by
  intro h
  refine ctr_enter (n := 11) [.agg (encV16 r), int i] Tryd.func77 rfl rfl rfl fun w0 => ?_
  refine xp_seq ?_
  refine xp_region ?_
  refine wl_s rfl (so_boxA rfl fun b2 => ?_)
  refine wl_ro (as_32 (a := 0#32) rfl) rfl ?_
  refine wl_nil ?_
  refine wq_then ?_
  refine xp_seq ?_
  refine xp_seq ?_
  refine xp_region ?_
  refine wl_ro (mv_i rfl) rfl ?_
  refine wl_s rfl (so_callV (c_regs_is _) gb95 (by rfl) ?_)
  refine wl_ro (ro_not rfl) rfl ?_
  refine wl_nil ?_
  refine wq_then ?_
  refine xp_cond _ rfl (fun c1 => ?_) (fun c1 => ?_)
  ·
    try have hn := G.regsIs_nf c1
    refine xp_seq ?_
    refine xp_region ?_
    refine wl_ro (as_32 (a := 0#32) rfl) rfl ?_
    refine wl_nil ?_
    refine wq_then ?_
    refine xp_ret ?_
    refine wq_then_ret ?_
    refine fq_retV rfl (.cons (rv_32 rfl) .nil) _ rfl ?_
    simp_all [G.regsGet]
  ·
    try have hn := G.regsIs_nf c1
    refine xp_skip ?_
    refine wq_then ?_
    refine xp_seq ?_
    refine xp_region ?_
    refine wl_ro (mv_i rfl) rfl ?_
    refine wl_ro (ro_indexAddr_w ar35 rfl rfl (by omega) (by omega)) rfl ?_
    refine wl_ro (ro_load sc22 rfl (by repeat (first | exact .head | apply Sel.tail)) (get_V16_at _ _ (by omega))) rfl ?_
    refine wl_ro (as_32 rfl) rfl ?_
    refine wl_nil ?_
    refine wq_then ?_
    refine xp_ret ?_
    refine fq_retV rfl (.cons (rv_32 rfl) .nil) _ rfl ?_
    simp_all [G.regsGet]
theorem c_regs_Set (r : V16) (i : Int) (v : BitVec 32) : CtV Tryd.prog 79 [.agg (encV16 r), int i, u32 v] (.agg (encV16 (G.regsSet r i v))) := by
  intro h
  refine ctr_enter (n := 13) [.agg (encV16 r), int i, u32 v] Tryd.func79 rfl rfl rfl fun w0 => ?_
  refine xp_seq ?_
  refine xp_region ?_
  refine wl_s rfl (so_boxA rfl fun b3 => ?_)
  refine wl_s rfl (so_allocA zr35 fun b6 => ?_)
  refine wl_nil ?_
  refine wq_then ?_
  refine xp_seq ?_
  refine xp_seq ?_
  refine xp_region ?_
  refine wl_ro (mv_i rfl) rfl ?_
  refine wl_s rfl (so_callV (c_regs_is _) gb95 (by rfl) ?_)
  refine wl_nil ?_
  refine wq_then ?_
  refine xp_cond _ rfl (fun c1 => ?_) (fun c1 => ?_)
  ·
    try have hn := G.regsIs_t c1
    refine xp_region ?_
    refine wl_ro (mv_i rfl) rfl ?_
    refine wl_ro (mv_32 rfl) rfl ?_
    refine wl_ro (ro_indexAddr_w ar35 rfl rfl (by omega) (by omega)) rfl ?_
    refine wl_s0 (so_store sc22 rfl rfl rfl (by repeat (first | exact .head | apply Sel.tail)) (blt_at 16 rfl (by omega)) (set_V16_at _ _ (by omega) _) ?_)
    refine wl_nil ?_
    refine wq_then ?_
    refine xp_seq ?_
    refine xp_region ?_
    refine wl_ro (ro_loadA ag35 rfl (by repeat (first | exact .head | apply Sel.tail)) (by rfl) (whole_V16 _)) rfl ?_
    refine wl_s0 (so_storeA ag35 rfl rfl rfl (ones_V16 _) (by repeat (first | exact .head | apply Sel.tail)) rfl ?_)
    refine wl_nil ?_
    refine wq_then ?_
    refine xp_ret ?_
    refine fq_retV rfl (.cons (rv_cellA ag35 rfl (by repeat (first | exact .head | apply Sel.tail)) rfl) .nil) _ rfl ?_
    simp_all [G.regsSet]
  ·
    try have hn := G.regsIs_t c1
    refine xp_skip ?_
    refine wq_then ?_
    refine xp_seq ?_
    refine xp_region ?_
    refine wl_ro (ro_loadA ag35 rfl (by repeat (first | exact .head | apply Sel.tail)) (by rfl) (whole_V16 _)) rfl ?_
    refine wl_s0 (so_storeA ag35 rfl rfl rfl (ones_V16 _) (by repeat (first | exact .head | apply Sel.tail)) rfl ?_)
    refine wl_nil ?_
    refine wq_then ?_
    refine xp_ret ?_
    refine fq_retV rfl (.cons (rv_cellA ag35 rfl (by repeat (first | exact .head | apply Sel.tail)) rfl) .nil) _ rfl ?_
    simp_all [G.regsSet]
theorem c_regs_ClearZero (r : V16) : CtV Tryd.prog 58 [.agg (encV16 r)] (.agg (encV16 (G.clearZero r))) := by
  intro h
  refine ctr_enter (n := 5) [.agg (encV16 r)] Tryd.func58 rfl rfl rfl fun w0 => ?_
  refine xp_seq ?_
  refine xp_region ?_
  refine wl_s rfl (so_boxA rfl fun b1 => ?_)
  refine wl_s rfl (so_allocA zr35 fun b2 => ?_)
  refine wl_nil ?_
  refine wq_then ?_
  refine xp_seq ?_
  refine xp_region ?_
  refine wl_ro (ro_indexAddr_c 0 0 ar35 rfl rfl rfl rfl) rfl ?_
  refine wl_s0 (so_store sc22 rfl rfl rfl (by repeat (first | exact .head | apply Sel.tail)) (by rfl) (set_V16_at _ 0 (by decide) 0#32) ?_)
  refine wl_nil ?_
  refine wq_then ?_
  refine xp_seq ?_
  refine xp_region ?_
  refine wl_ro (ro_loadA ag35 rfl (by repeat (first | exact .head | apply Sel.tail)) (by rfl) (whole_V16 _)) rfl ?_
  refine wl_s0 (so_storeA ag35 rfl rfl rfl (ones_V16 _) (by repeat (first | exact .head | apply Sel.tail)) rfl ?_)
  refine wl_nil ?_
  refine wq_then ?_
  refine xp_ret ?_
  refine fq_retV rfl (.cons (rv_cellA ag35 rfl (by repeat (first | exact .head | apply Sel.tail)) rfl) .nil) _ rfl ?_
  rfl
end Go.Proofs.YtnikheoiciokhaaDoor
