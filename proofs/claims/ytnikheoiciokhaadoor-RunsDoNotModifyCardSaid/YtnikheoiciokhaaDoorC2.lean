/-
  CONTRACTS OF GO FUNCTIONS (printed by gen.py, own work).
-/
import Derived.Test.YtnikheoiciokhaaDoorC1
namespace Go.Proofs.YtnikheoiciokhaaDoor
open Go Go.Sx
set_option linter.unusedVariables false
set_option maxRecDepth 20000
set_option linter.unusedSimpArgs false

theorem c_bits_low_uint64 (w : BitVec 64) (n : Nat) (hn : n ≤ 64) : CtV Tryd.prog 106 [u64 w, int n] (u64 (G.low64 w n)) := by
  intro h
  refine ctr_enter (n := 12) [u64 w, int n] Tryd.func106 rfl rfl rfl fun w0 => ?_
  refine xp_seq ?_
  refine xp_region ?_
  refine wl_ro (as_64 (a := 0#64) rfl) rfl ?_
  refine wl_nil ?_
  refine wq_then ?_
  refine xp_seq ?_
  refine xp_region ?_
  refine wl_ro (mv_64 rfl) rfl ?_
  refine wl_ro ((cv_i_64 (a := 1) us3 ik24 rfl).as (v' := u64 1#64) rfl) rfl ?_
  refine wl_ro (mv_i rfl) rfl ?_
  refine wl_ro (cv_i_64 us3 ik63 rfl) rfl ?_
  refine wl_ro (ro64_shl rfl rfl) rfl ?_
  refine wl_ro (ro64_sub (b := 1#64) rfl rfl) rfl ?_
  refine wl_ro (ro64_and rfl rfl) rfl ?_
  refine wl_ro (as_64 rfl) rfl ?_
  refine wl_nil ?_
  refine wq_then ?_
  refine xp_ret ?_
  refine fq_retV rfl (.cons (rv_64 rfl) .nil) _ rfl ?_
  rw [G.of64 hn]; rfl
theorem c_bits_Extract (w : BitVec 32) (a n : Nat) (ha : a ≤ 64) (hn : n ≤ 64) : CtV Tryd.prog 91 [u32 w, int a, int n] (u32 (G.extract w a n)) := by
  intro h
  refine ctr_enter (n := 15) [u32 w, int a, int n] Tryd.func91 rfl rfl rfl fun w0 => ?_
  refine xp_seq ?_
  refine xp_region ?_
  refine wl_ro (as_32 (a := 0#32) rfl) rfl ?_
  refine wl_nil ?_
  refine wq_then ?_
  refine xp_seq ?_
  refine xp_region ?_
  refine wl_ro (mv_32 rfl) rfl ?_
  refine wl_ro (cv_32_64 us22 ik24 rfl) rfl ?_
  refine wl_ro (mv_i rfl) rfl ?_
  refine wl_ro (cv_i_64 us3 ik63 rfl) rfl ?_
  refine wl_ro (ro64_shr rfl rfl) rfl ?_
  refine wl_ro (mv_i rfl) rfl ?_
  refine wl_s rfl (so_callV (c_bits_low_uint64 _ _ (by omega)) gb106 (by rfl) ?_)
  refine wl_ro (cv_64_32 us24 ik22 rfl) rfl ?_
  refine wl_ro (as_32 rfl) rfl ?_
  refine wl_nil ?_
  refine wq_then ?_
  refine xp_ret ?_
  refine fq_retV rfl (.cons (rv_32 rfl) .nil) _ rfl ?_
  rw [G.of64 ha]; rfl
theorem c_bits_SignExtend (v : BitVec 32) (n : Nat) (hn : n ≤ 32) : CtV Tryd.prog 92 [u32 v, int n] (i32 (G.signExtend v n)) := by
  intro h
  refine ctr_enter (n := 15) [u32 v, int n] Tryd.func92 rfl rfl rfl fun w0 => ?_
  refine xp_seq ?_
  refine xp_region ?_
  refine wl_ro (as_i32 (a := 0#32) rfl) rfl ?_
  refine wl_nil ?_
  refine wq_then ?_
  refine xp_seq ?_
  refine xp_region ?_
  refine wl_ro (mv_32 rfl) rfl ?_
  refine wl_ro (mv_i rfl) rfl ?_
  refine wl_ro (roI_sub rfl rfl (by omega)) rfl ?_
  refine wl_ro (cv_i_64 us3 ik63 rfl) rfl ?_
  refine wl_ro (ro32_shl rfl rfl) rfl ?_
  refine wl_ro (cv_32_i32 us22 ik21 rfl) rfl ?_
  refine wl_ro (mv_i rfl) rfl ?_
  refine wl_ro (roI_sub rfl rfl (by omega)) rfl ?_
  refine wl_ro (cv_i_64 us3 ik63 rfl) rfl ?_
  refine wl_ro (roi32_shr rfl rfl) rfl ?_
  refine wl_ro (as_i32 rfl) rfl ?_
  refine wl_nil ?_
  refine wq_then ?_
  refine xp_ret ?_
  refine fq_retV rfl (.cons (rv_i32 rfl) .nil) _ rfl ?_
  rw [G.of64s hn]; rfl
theorem c_bits_Insert (w : BitVec 32) (a n : Nat) (v : BitVec 32) (ha : a ≤ 64) (hn : n ≤ 64) : CtV Tryd.prog 108 [u32 w, int a, int n, u32 v] (u32 (G.insert w a n v)) := by
  intro h
  refine ctr_enter (n := 28) [u32 w, int a, int n, u32 v] Tryd.func108 rfl rfl rfl fun w0 => ?_
  refine xp_seq ?_
  refine xp_region ?_
  refine wl_ro (as_32 (a := 0#32) rfl) rfl ?_
  refine wl_nil ?_
  refine wq_then ?_
  refine xp_seq ?_
  refine xp_region ?_
  refine wl_ro (mv_i rfl) rfl ?_
  refine wl_s rfl (so_callV (c_bits_low_uint64 18446744073709551615#64 _ (by omega)) gb106 (by rfl) ?_)
  refine wl_ro (cv_64_32 us24 ik22 rfl) rfl ?_
  refine wl_ro (mv_i rfl) rfl ?_
  refine wl_ro (cv_i_64 us3 ik63 rfl) rfl ?_
  refine wl_ro (ro32_shl rfl rfl) rfl ?_
  refine wl_ro (as_32 rfl) rfl ?_
  refine wl_nil ?_
  refine wq_then ?_
  refine xp_seq ?_
  refine xp_region ?_
  refine wl_ro (mv_32 rfl) rfl ?_
  refine wl_ro (mv_32 rfl) rfl ?_
  refine wl_ro (ro32_andNot rfl rfl) rfl ?_
  refine wl_ro (mv_32 rfl) rfl ?_
  refine wl_ro (cv_32_64 us22 ik24 rfl) rfl ?_
  refine wl_ro (mv_i rfl) rfl ?_
  refine wl_s rfl (so_callV (c_bits_low_uint64 _ _ (by omega)) gb106 (by rfl) ?_)
  refine wl_ro (cv_64_32 us24 ik22 rfl) rfl ?_
  refine wl_ro (mv_i rfl) rfl ?_
  refine wl_ro (cv_i_64 us3 ik63 rfl) rfl ?_
  refine wl_ro (ro32_shl rfl rfl) rfl ?_
  refine wl_ro (ro32_or rfl rfl) rfl ?_
  refine wl_ro (as_32 rfl) rfl ?_
  refine wl_nil ?_
  refine wq_then ?_
  refine xp_ret ?_
  refine fq_retV rfl (.cons (rv_32 rfl) .nil) _ rfl ?_
  rw [G.of64 ha]; rfl
theorem c_bits_LowBits (v : BitVec 32) (n : Nat) (hn : n ≤ 64) : CtV Tryd.prog 109 [i32 v, int n] (u32 (G.lowBits v n)) := by
  intro h
  refine ctr_enter (n := 9) [i32 v, int n] Tryd.func109 rfl rfl rfl fun w0 => ?_
  refine xp_seq ?_
  refine xp_region ?_
  refine wl_ro (as_32 (a := 0#32) rfl) rfl ?_
  refine wl_nil ?_
  refine wq_then ?_
  refine xp_seq ?_
  refine xp_region ?_
  refine wl_ro (mv_i32 rfl) rfl ?_
  refine wl_ro (cv_i32_32 us21 ik22 rfl) rfl ?_
  refine wl_ro (mv_i rfl) rfl ?_
  refine wl_s rfl (so_callV (c_bits_Extract _ 0 _ (by omega) (by omega)) gb91 (by rfl) ?_)
  refine wl_ro (as_32 rfl) rfl ?_
  refine wl_nil ?_
  refine wq_then ?_
  refine xp_ret ?_
  refine fq_retV rfl (.cons (rv_32 rfl) .nil) _ rfl ?_
  rfl
theorem c_bits_FitsSigned (v : BitVec 32) (n : Nat) (hn : n ≤ 32) : CtV Tryd.prog 114 [i32 v, int n] (.bool (G.fitsSigned v n)) := by
  intro h
  refine ctr_enter (n := 11) [i32 v, int n] Tryd.func114 rfl rfl rfl fun w0 => ?_
  refine xp_seq ?_
  refine xp_region ?_
  refine wl_ro (as_b rfl) rfl ?_
  refine wl_nil ?_
  refine wq_then ?_
  refine xp_seq ?_
  refine xp_region ?_
  refine wl_ro (mv_i32 rfl) rfl ?_
  refine wl_ro (cv_i32_32 us21 ik22 rfl) rfl ?_
  refine wl_ro (mv_i rfl) rfl ?_
  refine wl_s rfl (so_callV (c_bits_SignExtend _ _ (by omega)) gb92 (by rfl) ?_)
  refine wl_ro (mv_i32 rfl) rfl ?_
  refine wl_ro (roi32_eql rfl rfl) rfl ?_
  refine wl_ro (as_b rfl) rfl ?_
  refine wl_nil ?_
  refine wq_then ?_
  refine xp_ret ?_
  refine fq_retV rfl (.cons (rv_b rfl) .nil) _ rfl ?_
  rfl
theorem c_isa_register (n : Int) (hs : Bool) : CtV Tryd.prog 115 [int n, .bool hs] (.bool (G.register n hs)) := by
  intro h
  refine ctr_enter (n := 18) [int n, .bool hs] Tryd.func115 rfl rfl rfl fun w0 => ?_
  refine xp_seq ?_
  refine xp_region ?_
  refine wl_ro (as_b rfl) rfl ?_
  refine wl_nil ?_
  refine wq_then ?_
  refine xp_seq ?_
  refine xp_region ?_
  refine wl_ro (mv_i rfl) rfl ?_
  refine wl_ro (roI_eql rfl rfl) rfl ?_
  refine wl_ro (mv_b rfl) rfl ?_
  refine wl_split (dj := 7) rfl (fun g1 => ?_) (fun g1 => ?_)
  ·
    refine wl_no rfl rfl rfl rfl rfl (no_of g1) ?_
    refine wl_no rfl rfl rfl rfl rfl (no_of g1) ?_
    refine wl_noU rfl rfl rfl rfl ?_
    refine wl_noU rfl rfl rfl rfl ?_
    refine wl_no rfl rfl rfl rfl rfl (no_of g1) ?_
    refine wl_no rfl rfl rfl rfl rfl (no_of g1) ?_
    refine wl_noU rfl rfl rfl rfl ?_
    refine wl_noU rfl rfl rfl rfl ?_
    refine wl_no rfl rfl rfl rfl rfl (no_of g1) ?_
    refine wl_ro (ro_pickT rfl g1) rfl ?_
    refine wl_ro (as_b rfl) rfl ?_
    refine wl_nil ?_
    refine wq_then ?_
    refine xp_ret ?_
    refine fq_retV rfl (.cons (rv_b rfl) .nil) _ rfl ?_
    simp_all [G.register] <;> omega
  ·
    refine wl_yes rfl rfl rfl rfl rfl (yes_of g1) (so_ro (mv_b rfl) ?_)
    refine wl_yes rfl rfl rfl rfl rfl (yes_of g1) (so_ro (mv_b rfl) ?_)
    refine wl_split (dj := 9) rfl (fun g2 => ?_) (fun g2 => ?_)
    ·
      refine wl_yes rfl rfl rfl rfl rfl (yes_of g2) (so_ro (mv_i rfl) ?_)
      refine wl_yes rfl rfl rfl rfl rfl (yes_of g2) (so_ro (roI_gtr rfl rfl) ?_)
      refine wl_yes rfl rfl rfl rfl rfl (yes_of g1) (so_ro (ro_pickT rfl g2) ?_)
      refine wl_yes rfl rfl rfl rfl rfl (yes_of g1) (so_ro (mv_b rfl) ?_)
      refine wl_split (dj := 13) rfl (fun g3 => ?_) (fun g3 => ?_)
      ·
        refine wl_yes rfl rfl rfl rfl rfl (yes_of g3) (so_ro (mv_i rfl) ?_)
        refine wl_yes rfl rfl rfl rfl rfl (yes_of g3) (so_ro (roI_lss rfl rfl) ?_)
        refine wl_yes rfl rfl rfl rfl rfl (yes_of g1) (so_ro (ro_pickT rfl g3) ?_)
        refine wl_ro (ro_pickF rfl g1) rfl ?_
        refine wl_ro (as_b rfl) rfl ?_
        refine wl_nil ?_
        refine wq_then ?_
        refine xp_ret ?_
        refine fq_retV rfl (.cons (rv_b rfl) .nil) _ rfl ?_
        simp_all [G.register] <;> omega
      ·
        refine wl_no rfl rfl rfl rfl rfl (no_of g3) ?_
        refine wl_no rfl rfl rfl rfl rfl (no_of g3) ?_
        refine wl_yes rfl rfl rfl rfl rfl (yes_of g1) (so_ro (ro_pickF rfl g3) ?_)
        refine wl_ro (ro_pickF rfl g1) rfl ?_
        refine wl_ro (as_b rfl) rfl ?_
        refine wl_nil ?_
        refine wq_then ?_
        refine xp_ret ?_
        refine fq_retV rfl (.cons (rv_b rfl) .nil) _ rfl ?_
        simp_all [G.register] <;> omega
    ·
      refine wl_no rfl rfl rfl rfl rfl (no_of g2) ?_
      refine wl_no rfl rfl rfl rfl rfl (no_of g2) ?_
      refine wl_yes rfl rfl rfl rfl rfl (yes_of g1) (so_ro (ro_pickF rfl g2) ?_)
      refine wl_yes rfl rfl rfl rfl rfl (yes_of g1) (so_ro (mv_b rfl) ?_)
      refine wl_no rfl rfl rfl rfl rfl (no_of rfl) ?_
      refine wl_no rfl rfl rfl rfl rfl (no_of rfl) ?_
      refine wl_yes rfl rfl rfl rfl rfl (yes_of g1) (so_ro (ro_pickF rfl rfl) ?_)
      refine wl_ro (ro_pickF rfl g1) rfl ?_
      refine wl_ro (as_b rfl) rfl ?_
      refine wl_nil ?_
      refine wq_then ?_
      refine xp_ret ?_
      refine fq_retV rfl (.cons (rv_b rfl) .nil) _ rfl ?_
      simp_all [G.register] <;> omega
theorem c_isa_FormatOf (op : Int) : CtW Tb Tryd.prog 88 [int op] (int (G.formatOf op)) := by
  intro h hT
  refine ctr_enter (n := 12) [int op] Tryd.func88 rfl rfl rfl fun w0 => ?_
  refine xp_seq ?_
  refine xp_region ?_
  refine wl_ro (as_i rfl) rfl ?_
  refine wl_nil ?_
  refine wq_then ?_
  refine xp_seq ?_
  refine xp_seq ?_
  refine xp_region ?_
  refine wl_ro (mv_i rfl) rfl ?_
  refine wl_ro (roI_lss rfl rfl) rfl ?_
  refine wl_ro (mv_b rfl) rfl ?_
  refine wl_split (dj := 5) rfl (fun g1 => ?_) (fun g1 => ?_)
  ·
    refine wl_no rfl rfl rfl rfl rfl (no_of g1) ?_
    refine wl_no rfl rfl rfl rfl rfl (no_of g1) ?_
    refine wl_ro (ro_pickT rfl g1) rfl ?_
    refine wl_nil ?_
    refine wq_then ?_
    refine xp_condT rfl rfl ?_
    refine xp_seq ?_
    refine xp_region ?_
    refine wl_ro (as_i rfl) rfl ?_
    refine wl_nil ?_
    refine wq_then ?_
    refine xp_ret ?_
    refine wq_then_ret ?_
    refine fq_retV rfl (.cons (rv_i rfl) .nil) _ rfl ?_
    simp_all [G.formatOf] <;> omega
  ·
    refine wl_yes rfl rfl rfl rfl rfl (yes_of g1) (so_ro (mv_i rfl) ?_)
    refine wl_yes rfl rfl rfl rfl rfl (yes_of g1) (so_ro (roI_geq rfl rfl) ?_)
    refine wl_ro (ro_pickF rfl g1) rfl ?_
    refine wl_nil ?_
    refine wq_then ?_
    refine xp_cond _ rfl (fun c2 => ?_) (fun c2 => ?_)
    ·
      try simp at c2
      refine xp_seq ?_
      refine xp_region ?_
      refine wl_ro (as_i rfl) rfl ?_
      refine wl_nil ?_
      refine wq_then ?_
      refine xp_ret ?_
      refine wq_then_ret ?_
      refine fq_retV rfl (.cons (rv_i rfl) .nil) _ rfl ?_
      simp_all [G.formatOf] <;> omega
    ·
      try simp at c2
      refine xp_skip ?_
      refine wq_then ?_
      refine xp_seq ?_
      have hb : 0 ≤ op ∧ op < 26 := by simp_all <;> omega
      refine xp_region ?_
      refine wl_ro (mv_i rfl) rfl ?_
      refine wl_ro (ro_indexAddr_w ar145 rfl rfl (by omega) (by omega)) rfl ?_
      refine wl_ro (ro_tabI sc3 rfl hT.forms (by omega)) rfl ?_
      refine wl_ro (as_i rfl) rfl ?_
      refine wl_nil ?_
      refine wq_then ?_
      refine xp_ret ?_
      refine fq_retV rfl (.cons (rv_i rfl) .nil) _ rfl ?_
      simp_all [G.formatOf] <;> omega
theorem c_isa_IsPrivileged (op : Int) : CtV Tryd.prog 65 [int op] (.bool (G.isPrivileged op)) := by
  intro h
  refine ctr_enter (n := 9) [int op] Tryd.func65 rfl rfl rfl fun w0 => ?_
  refine xp_seq ?_
  refine xp_region ?_
  refine wl_ro (as_b rfl) rfl ?_
  refine wl_nil ?_
  refine wq_then ?_
  refine xp_seq ?_
  refine xp_region ?_
  refine wl_ro (mv_i rfl) rfl ?_
  refine wl_ro (roI_geq rfl rfl) rfl ?_
  refine wl_ro (mv_b rfl) rfl ?_
  refine wl_split (dj := 5) rfl (fun g1 => ?_) (fun g1 => ?_)
  ·
    refine wl_yes rfl rfl rfl rfl rfl (yes_of g1) (so_ro (mv_i rfl) ?_)
    refine wl_yes rfl rfl rfl rfl rfl (yes_of g1) (so_ro (roI_leq rfl rfl) ?_)
    refine wl_ro (ro_pickT rfl g1) rfl ?_
    refine wl_ro (as_b rfl) rfl ?_
    refine wl_nil ?_
    refine wq_then ?_
    refine xp_ret ?_
    refine fq_retV rfl (.cons (rv_b rfl) .nil) _ rfl ?_
    simp_all [G.isPrivileged] <;> omega
  ·
    refine wl_no rfl rfl rfl rfl rfl (no_of g1) ?_
    refine wl_no rfl rfl rfl rfl rfl (no_of g1) ?_
    refine wl_ro (ro_pickF rfl g1) rfl ?_
    refine wl_ro (as_b rfl) rfl ?_
    refine wl_nil ?_
    refine wq_then ?_
    refine xp_ret ?_
    refine fq_retV rfl (.cons (rv_b rfl) .nil) _ rfl ?_
    simp_all [G.isPrivileged] <;> omega
theorem c_priv_ReadsTime (i : Instr) : CtV Tryd.prog 62 [.agg (encInstr i)] (.bool (G.readsTime i)) := by
  intro h
  refine ctr_enter (n := 16) [.agg (encInstr i)] Tryd.func62 rfl rfl rfl fun w0 => ?_
  refine xp_seq ?_
  refine xp_region ?_
  refine wl_s rfl (so_boxA rfl fun b1 => ?_)
  refine wl_ro (as_b rfl) rfl ?_
  refine wl_nil ?_
  refine wq_then ?_
  refine xp_seq ?_
  refine xp_region ?_
  refine wl_ro (ro_fieldAddrC 0 fb75_0 rfl rfl) rfl ?_
  refine wl_ro (ro_load sc3 rfl (by repeat (first | exact .head | apply Sel.tail)) (get_Instr_op _)) rfl ?_
  refine wl_ro (roI_eql rfl rfl) rfl ?_
  refine wl_ro (mv_b rfl) rfl ?_
  refine wl_split (dj := 6) rfl (fun g1 => ?_) (fun g1 => ?_)
  ·
    refine wl_yes rfl rfl rfl rfl rfl (yes_of g1) (so_ro (ro_fieldAddrC 4 fb75_4 rfl rfl) ?_)
    refine wl_yes rfl rfl rfl rfl rfl (yes_of g1) (so_ro (ro_load sc21 rfl (by repeat (first | exact .head | apply Sel.tail)) (get_Instr_imm _)) ?_)
    refine wl_yes rfl rfl rfl rfl rfl (yes_of g1) (so_ro (roi32_eql (b := 7#32) rfl rfl) ?_)
    refine wl_yes rfl rfl rfl rfl rfl (yes_of g1) (so_ro (mv_b rfl) ?_)
    refine wl_split (dj := 10) rfl (fun g2 => ?_) (fun g2 => ?_)
    ·
      refine wl_no rfl rfl rfl rfl rfl (no_of g2) ?_
      refine wl_no rfl rfl rfl rfl rfl (no_of g2) ?_
      refine wl_no rfl rfl rfl rfl rfl (no_of g2) ?_
      refine wl_yes rfl rfl rfl rfl rfl (yes_of g1) (so_ro (ro_pickT rfl g2) ?_)
      refine wl_ro (ro_pickT rfl g1) rfl ?_
      refine wl_ro (as_b rfl) rfl ?_
      refine wl_nil ?_
      refine wq_then ?_
      refine xp_ret ?_
      refine fq_retV rfl (.cons (rv_b rfl) .nil) _ rfl ?_
      simp_all [G.readsTime]
    ·
      refine wl_yes rfl rfl rfl rfl rfl (yes_of g2) (so_ro (ro_fieldAddrC 4 fb75_4 rfl rfl) ?_)
      refine wl_yes rfl rfl rfl rfl rfl (yes_of g2) (so_ro (ro_load sc21 rfl (by repeat (first | exact .head | apply Sel.tail)) (get_Instr_imm _)) ?_)
      refine wl_yes rfl rfl rfl rfl rfl (yes_of g2) (so_ro (roi32_eql (b := 8#32) rfl rfl) ?_)
      refine wl_yes rfl rfl rfl rfl rfl (yes_of g1) (so_ro (ro_pickF rfl g2) ?_)
      refine wl_ro (ro_pickT rfl g1) rfl ?_
      refine wl_ro (as_b rfl) rfl ?_
      refine wl_nil ?_
      refine wq_then ?_
      refine xp_ret ?_
      refine fq_retV rfl (.cons (rv_b rfl) .nil) _ rfl ?_
      simp_all [G.readsTime]
  ·
    refine wl_no rfl rfl rfl rfl rfl (no_of g1) ?_
    refine wl_no rfl rfl rfl rfl rfl (no_of g1) ?_
    refine wl_no rfl rfl rfl rfl rfl (no_of g1) ?_
    refine wl_no rfl rfl rfl rfl rfl (no_of g1) ?_
    refine wl_noU rfl rfl rfl rfl ?_
    refine wl_noU rfl rfl rfl rfl ?_
    refine wl_noU rfl rfl rfl rfl ?_
    refine wl_no rfl rfl rfl rfl rfl (no_of g1) ?_
    refine wl_ro (ro_pickF rfl g1) rfl ?_
    refine wl_ro (as_b rfl) rfl ?_
    refine wl_nil ?_
    refine wq_then ?_
    refine xp_ret ?_
    refine fq_retV rfl (.cons (rv_b rfl) .nil) _ rfl ?_
    simp_all [G.readsTime]
theorem c_isa_Valid (i : Instr) : CtW Tb Tryd.prog 107 [.agg (encInstr i)] (.bool (G.valid i)) := by
  intro h hT
  refine ctr_enter (n := 62) [.agg (encInstr i)] Tryd.func107 rfl rfl rfl fun w0 => ?_
  refine xp_seq ?_
  refine xp_region ?_
  refine wl_s rfl (so_boxA rfl fun b1 => ?_)
  refine wl_ro (as_b rfl) rfl ?_
  refine wl_nil ?_
  refine wq_then ?_
  refine xp_seq ?_
  refine xp_region ?_
  refine wl_ro (ro_fieldAddrC 0 fb75_0 rfl rfl) rfl ?_
  refine wl_ro (ro_load sc3 rfl (by repeat (first | exact .head | apply Sel.tail)) (get_Instr_op _)) rfl ?_
  refine wl_s rfl (so_callW (c_isa_FormatOf _) (by first | assumption | exact Tb.mono (by assumption) (by assumption) | exact Tb.mono (Tb.mono (by assumption) (by assumption)) (by assumption) | exact ⟨by first | assumption | exact Tb.mono (by assumption) (by assumption), by first | assumption | exact Rp.mono (by assumption) (by assumption) | exact Bytes.mono (by assumption) (by assumption)⟩) gb88 (by rfl) ?_)
  refine wl_ro (as_i rfl) rfl ?_
  refine wl_nil ?_
  refine wq_then ?_
  refine xp_seq ?_
  refine xp_seq ?_
  refine xp_region ?_
  refine wl_ro (mv_i rfl) rfl ?_
  refine wl_ro (roI_eql rfl rfl) rfl ?_
  refine wl_nil ?_
  refine wq_then ?_
  refine xp_cond _ rfl (fun c1 => ?_) (fun c1 => ?_)
  ·
    refine xp_seq ?_
    refine xp_region ?_
    refine wl_ro (as_b rfl) rfl ?_
    refine wl_nil ?_
    refine wq_then ?_
    refine xp_ret ?_
    refine wq_then_ret ?_
    refine fq_retV rfl (.cons (rv_b rfl) .nil) _ rfl ?_
    simp_all [G.valid, G.partOf]
  ·
    refine xp_skip ?_
    refine wq_then ?_
    refine xp_seq ?_
    have hf := G.formatOf_lt i.op
    refine xp_region ?_
    refine wl_ro (mv_i rfl) rfl ?_
    refine wl_ro ((ro_indexAddr_array ar137 rfl rfl (by omega) (by omega))) rfl ?_
    refine wl_ro (ro_tabH ag136 rfl hT.parts (by omega)) rfl ?_
    refine wl_s rfl (so_allocA zr136 fun b4 => ?_)
    refine wl_s0 (so_storeA ag136 rfl rfl rfl (ones_Has _) (by repeat (first | exact .head | apply Sel.tail)) rfl ?_)
    refine wl_nil ?_
    refine wq_then ?_
    refine xp_cutP (A := Unit) [5, 14, 15, 16, 17, 18, 19, 20, 21, 22, 23, 24, 25, 26, 27, 28, 29, 30, 31, 32, 33, 34, 35, 36, 37, 38, 39] (fun _ => [(5, .bool (G.numberOk i (G.partOf i)))]) (fun _ => True) ?_ ?_
    ·
      refine xp_region ?_
      refine wl_ro (ro_fieldAddrC 4 fb75_4 rfl rfl) rfl ?_
      refine wl_ro (ro_load sc21 rfl (by repeat (first | exact .head | apply Sel.tail)) (get_Instr_imm _)) rfl ?_
      refine wl_ro (roi32_eql (b := 0#32) rfl rfl) rfl ?_
      refine wl_ro (mv_b rfl) rfl ?_
      refine wl_split (dj := 17) rfl (fun g2 => ?_) (fun g2 => ?_)
      ·
        refine wl_no rfl rfl rfl rfl rfl (no_of g2) ?_
        refine wl_no rfl rfl rfl rfl rfl (no_of g2) ?_
        refine wl_no rfl rfl rfl rfl rfl (no_of g2) ?_
        refine wl_noU rfl rfl rfl rfl ?_
        refine wl_noU rfl rfl rfl rfl ?_
        refine wl_noU rfl rfl rfl rfl ?_
        refine wl_no rfl rfl rfl rfl rfl (no_of g2) ?_
        refine wl_ro (ro_pickT rfl g2) rfl ?_
        refine wl_ro (mv_b rfl) rfl ?_
        refine wl_no rfl rfl rfl rfl rfl (no_of rfl) ?_
        refine wl_no rfl rfl rfl rfl rfl (no_of rfl) ?_
        refine wl_no rfl rfl rfl rfl rfl (no_of rfl) ?_
        refine wl_noU rfl rfl rfl rfl ?_
        refine wl_noU rfl rfl rfl rfl ?_
        refine wl_noU rfl rfl rfl rfl ?_
        refine wl_no rfl rfl rfl rfl rfl (no_of rfl) ?_
        refine wl_no rfl rfl rfl rfl rfl (no_of rfl) ?_
        refine wl_noU rfl rfl rfl rfl ?_
        refine wl_noU rfl rfl rfl rfl ?_
        refine wl_noU rfl rfl rfl rfl ?_
        refine wl_no rfl rfl rfl rfl rfl (no_of rfl) ?_
        refine wl_ro (ro_pickT rfl rfl) rfl ?_
        refine wl_ro (as_b rfl) rfl ?_
        refine wl_nil ?_
        exact wq_cutP () (by repeat (first | exact out_refl | exact out_ovr | refine out_upd rfl ?_)) ⟨slot_b rfl (by simp_all [G.numberOk, G.partOf] <;> omega), trivial⟩ trivial
      ·
        refine wl_yes rfl rfl rfl rfl rfl (yes_of g2) (so_ro (ro_fieldAddrC 3 fb136_3 rfl rfl) ?_)
        refine wl_yes rfl rfl rfl rfl rfl (yes_of g2) (so_ro (ro_load sc4 rfl (by repeat (first | exact .head | apply Sel.tail)) (get_Has_imm _)) ?_)
        refine wl_yes rfl rfl rfl rfl rfl (yes_of g2) (so_ro (mv_b rfl) ?_)
        refine wl_split (dj := 20) rfl (fun g3 => ?_) (fun g3 => ?_)
        ·
          refine wl_yes rfl rfl rfl rfl rfl (yes_of g3) (so_ro (ro_fieldAddrC 4 fb75_4 rfl rfl) ?_)
          refine wl_yes rfl rfl rfl rfl rfl (yes_of g3) (so_ro (ro_load sc21 rfl (by repeat (first | exact .head | apply Sel.tail)) (get_Instr_imm _)) ?_)
          refine wl_yes rfl rfl rfl rfl rfl (yes_of g3) (so_callV (c_bits_FitsSigned _ 18 (by omega)) gb114 (by rfl) ?_)
          refine wl_yes rfl rfl rfl rfl rfl (yes_of g2) (so_ro (ro_pickT rfl g3) ?_)
          refine wl_ro (ro_pickF rfl g2) rfl ?_
          refine wl_ro (mv_b rfl) rfl ?_
          refine wl_split (dj := 26) rfl (fun g4 => ?_) (fun g4 => ?_)
          ·
            refine wl_no rfl rfl rfl rfl rfl (no_of g4) ?_
            refine wl_no rfl rfl rfl rfl rfl (no_of g4) ?_
            refine wl_no rfl rfl rfl rfl rfl (no_of g4) ?_
            refine wl_noU rfl rfl rfl rfl ?_
            refine wl_noU rfl rfl rfl rfl ?_
            refine wl_noU rfl rfl rfl rfl ?_
            refine wl_no rfl rfl rfl rfl rfl (no_of g4) ?_
            refine wl_no rfl rfl rfl rfl rfl (no_of g4) ?_
            refine wl_noU rfl rfl rfl rfl ?_
            refine wl_noU rfl rfl rfl rfl ?_
            refine wl_noU rfl rfl rfl rfl ?_
            refine wl_no rfl rfl rfl rfl rfl (no_of g4) ?_
            refine wl_ro (ro_pickT rfl g4) rfl ?_
            refine wl_ro (as_b rfl) rfl ?_
            refine wl_nil ?_
            exact wq_cutP () (by repeat (first | exact out_refl | exact out_ovr | refine out_upd rfl ?_)) ⟨slot_b rfl (by simp_all [G.numberOk, G.partOf] <;> omega), trivial⟩ trivial
          ·
            refine wl_yes rfl rfl rfl rfl rfl (yes_of g4) (so_ro (ro_fieldAddrC 4 fb136_4 rfl rfl) ?_)
            refine wl_yes rfl rfl rfl rfl rfl (yes_of g4) (so_ro (ro_load sc4 rfl (by repeat (first | exact .head | apply Sel.tail)) (get_Has_csr _)) ?_)
            refine wl_yes rfl rfl rfl rfl rfl (yes_of g4) (so_ro (mv_b rfl) ?_)
            refine wl_split (dj := 29) rfl (fun g5 => ?_) (fun g5 => ?_)
            ·
              refine wl_yes rfl rfl rfl rfl rfl (yes_of g5) (so_ro (ro_fieldAddrC 4 fb75_4 rfl rfl) ?_)
              refine wl_yes rfl rfl rfl rfl rfl (yes_of g5) (so_ro (ro_load sc21 rfl (by repeat (first | exact .head | apply Sel.tail)) (get_Instr_imm _)) ?_)
              refine wl_yes rfl rfl rfl rfl rfl (yes_of g5) (so_ro (roi32_gtr (b := 0#32) rfl rfl) ?_)
              refine wl_yes rfl rfl rfl rfl rfl (yes_of g4) (so_ro (ro_pickT rfl g5) ?_)
              refine wl_yes rfl rfl rfl rfl rfl (yes_of g4) (so_ro (mv_b rfl) ?_)
              refine wl_split (dj := 34) rfl (fun g6 => ?_) (fun g6 => ?_)
              ·
                refine wl_yes rfl rfl rfl rfl rfl (yes_of g6) (so_ro (ro_fieldAddrC 4 fb75_4 rfl rfl) ?_)
                refine wl_yes rfl rfl rfl rfl rfl (yes_of g6) (so_ro (ro_load sc21 rfl (by repeat (first | exact .head | apply Sel.tail)) (get_Instr_imm _)) ?_)
                refine wl_yes rfl rfl rfl rfl rfl (yes_of g6) (so_ro (roi32_lss (b := 12#32) rfl rfl) ?_)
                refine wl_yes rfl rfl rfl rfl rfl (yes_of g4) (so_ro (ro_pickT rfl g6) ?_)
                refine wl_ro (ro_pickF rfl g4) rfl ?_
                refine wl_ro (as_b rfl) rfl ?_
                refine wl_nil ?_
                exact wq_cutP () (by repeat (first | exact out_refl | exact out_ovr | refine out_upd rfl ?_)) ⟨slot_b rfl (by simp_all [G.numberOk, G.partOf] <;> omega), trivial⟩ trivial
              ·
                refine wl_no rfl rfl rfl rfl rfl (no_of g6) ?_
                refine wl_no rfl rfl rfl rfl rfl (no_of g6) ?_
                refine wl_no rfl rfl rfl rfl rfl (no_of g6) ?_
                refine wl_yes rfl rfl rfl rfl rfl (yes_of g4) (so_ro (ro_pickF rfl g6) ?_)
                refine wl_ro (ro_pickF rfl g4) rfl ?_
                refine wl_ro (as_b rfl) rfl ?_
                refine wl_nil ?_
                exact wq_cutP () (by repeat (first | exact out_refl | exact out_ovr | refine out_upd rfl ?_)) ⟨slot_b rfl (by simp_all [G.numberOk, G.partOf] <;> omega), trivial⟩ trivial
            ·
              refine wl_no rfl rfl rfl rfl rfl (no_of g5) ?_
              refine wl_no rfl rfl rfl rfl rfl (no_of g5) ?_
              refine wl_no rfl rfl rfl rfl rfl (no_of g5) ?_
              refine wl_yes rfl rfl rfl rfl rfl (yes_of g4) (so_ro (ro_pickF rfl g5) ?_)
              refine wl_yes rfl rfl rfl rfl rfl (yes_of g4) (so_ro (mv_b rfl) ?_)
              refine wl_no rfl rfl rfl rfl rfl (no_of rfl) ?_
              refine wl_no rfl rfl rfl rfl rfl (no_of rfl) ?_
              refine wl_no rfl rfl rfl rfl rfl (no_of rfl) ?_
              refine wl_yes rfl rfl rfl rfl rfl (yes_of g4) (so_ro (ro_pickF rfl rfl) ?_)
              refine wl_ro (ro_pickF rfl g4) rfl ?_
              refine wl_ro (as_b rfl) rfl ?_
              refine wl_nil ?_
              exact wq_cutP () (by repeat (first | exact out_refl | exact out_ovr | refine out_upd rfl ?_)) ⟨slot_b rfl (by simp_all [G.numberOk, G.partOf] <;> omega), trivial⟩ trivial
        ·
          refine wl_no rfl rfl rfl rfl rfl (no_of g3) ?_
          refine wl_no rfl rfl rfl rfl rfl (no_of g3) ?_
          refine wl_no rfl rfl rfl rfl rfl (no_of g3) ?_
          refine wl_yes rfl rfl rfl rfl rfl (yes_of g2) (so_ro (ro_pickF rfl g3) ?_)
          refine wl_ro (ro_pickF rfl g2) rfl ?_
          refine wl_ro (mv_b rfl) rfl ?_
          refine wl_yes rfl rfl rfl rfl rfl (yes_of rfl) (so_ro (ro_fieldAddrC 4 fb136_4 rfl rfl) ?_)
          refine wl_yes rfl rfl rfl rfl rfl (yes_of rfl) (so_ro (ro_load sc4 rfl (by repeat (first | exact .head | apply Sel.tail)) (get_Has_csr _)) ?_)
          refine wl_yes rfl rfl rfl rfl rfl (yes_of rfl) (so_ro (mv_b rfl) ?_)
          refine wl_split (dj := 29) rfl (fun g7 => ?_) (fun g7 => ?_)
          ·
            refine wl_yes rfl rfl rfl rfl rfl (yes_of g7) (so_ro (ro_fieldAddrC 4 fb75_4 rfl rfl) ?_)
            refine wl_yes rfl rfl rfl rfl rfl (yes_of g7) (so_ro (ro_load sc21 rfl (by repeat (first | exact .head | apply Sel.tail)) (get_Instr_imm _)) ?_)
            refine wl_yes rfl rfl rfl rfl rfl (yes_of g7) (so_ro (roi32_gtr (b := 0#32) rfl rfl) ?_)
            refine wl_yes rfl rfl rfl rfl rfl (yes_of rfl) (so_ro (ro_pickT rfl g7) ?_)
            refine wl_yes rfl rfl rfl rfl rfl (yes_of rfl) (so_ro (mv_b rfl) ?_)
            refine wl_split (dj := 34) rfl (fun g8 => ?_) (fun g8 => ?_)
            ·
              refine wl_yes rfl rfl rfl rfl rfl (yes_of g8) (so_ro (ro_fieldAddrC 4 fb75_4 rfl rfl) ?_)
              refine wl_yes rfl rfl rfl rfl rfl (yes_of g8) (so_ro (ro_load sc21 rfl (by repeat (first | exact .head | apply Sel.tail)) (get_Instr_imm _)) ?_)
              refine wl_yes rfl rfl rfl rfl rfl (yes_of g8) (so_ro (roi32_lss (b := 12#32) rfl rfl) ?_)
              refine wl_yes rfl rfl rfl rfl rfl (yes_of rfl) (so_ro (ro_pickT rfl g8) ?_)
              refine wl_ro (ro_pickF rfl rfl) rfl ?_
              refine wl_ro (as_b rfl) rfl ?_
              refine wl_nil ?_
              exact wq_cutP () (by repeat (first | exact out_refl | exact out_ovr | refine out_upd rfl ?_)) ⟨slot_b rfl (by simp_all [G.numberOk, G.partOf] <;> omega), trivial⟩ trivial
            ·
              refine wl_no rfl rfl rfl rfl rfl (no_of g8) ?_
              refine wl_no rfl rfl rfl rfl rfl (no_of g8) ?_
              refine wl_no rfl rfl rfl rfl rfl (no_of g8) ?_
              refine wl_yes rfl rfl rfl rfl rfl (yes_of rfl) (so_ro (ro_pickF rfl g8) ?_)
              refine wl_ro (ro_pickF rfl rfl) rfl ?_
              refine wl_ro (as_b rfl) rfl ?_
              refine wl_nil ?_
              exact wq_cutP () (by repeat (first | exact out_refl | exact out_ovr | refine out_upd rfl ?_)) ⟨slot_b rfl (by simp_all [G.numberOk, G.partOf] <;> omega), trivial⟩ trivial
          ·
            refine wl_no rfl rfl rfl rfl rfl (no_of g7) ?_
            refine wl_no rfl rfl rfl rfl rfl (no_of g7) ?_
            refine wl_no rfl rfl rfl rfl rfl (no_of g7) ?_
            refine wl_yes rfl rfl rfl rfl rfl (yes_of rfl) (so_ro (ro_pickF rfl g7) ?_)
            refine wl_yes rfl rfl rfl rfl rfl (yes_of rfl) (so_ro (mv_b rfl) ?_)
            refine wl_no rfl rfl rfl rfl rfl (no_of rfl) ?_
            refine wl_no rfl rfl rfl rfl rfl (no_of rfl) ?_
            refine wl_no rfl rfl rfl rfl rfl (no_of rfl) ?_
            refine wl_yes rfl rfl rfl rfl rfl (yes_of rfl) (so_ro (ro_pickF rfl rfl) ?_)
            refine wl_ro (ro_pickF rfl rfl) rfl ?_
            refine wl_ro (as_b rfl) rfl ?_
            refine wl_nil ?_
            exact wq_cutP () (by repeat (first | exact out_refl | exact out_ovr | refine out_upd rfl ?_)) ⟨slot_b rfl (by simp_all [G.numberOk, G.partOf] <;> omega), trivial⟩ trivial
    ·
      intro z us hJ
      refine xp_seq ?_
      refine xp_region ?_
      refine wl_ro (mv_b rfl) rfl ?_
      refine wl_ro (mv_b rfl) rfl ?_
      refine wl_split (dj := 41) rfl (fun g9 => ?_) (fun g9 => ?_)
      ·
        refine wl_yes rfl rfl rfl rfl rfl (yes_of g9) (so_ro (ro_fieldAddrC 1 fb75_1 rfl rfl) ?_)
        refine wl_yes rfl rfl rfl rfl rfl (yes_of g9) (so_ro (ro_load sc3 rfl (by repeat (first | exact .head | apply Sel.tail)) (get_Instr_rd _)) ?_)
        refine wl_yes rfl rfl rfl rfl rfl (yes_of g9) (so_ro (ro_fieldAddrC 0 fb136_0 rfl rfl) ?_)
        refine wl_yes rfl rfl rfl rfl rfl (yes_of g9) (so_ro (ro_load sc4 rfl (by repeat (first | exact .head | apply Sel.tail)) (get_Has_rd _)) ?_)
        refine wl_yes rfl rfl rfl rfl rfl (yes_of g9) (so_callV (c_isa_register _ _) gb115 (by rfl) ?_)
        refine wl_ro (ro_pickT rfl g9) rfl ?_
        refine wl_ro (mv_b rfl) rfl ?_
        refine wl_split (dj := 48) rfl (fun g10 => ?_) (fun g10 => ?_)
        ·
          refine wl_yes rfl rfl rfl rfl rfl (yes_of g10) (so_ro (ro_fieldAddrC 2 fb75_2 rfl rfl) ?_)
          refine wl_yes rfl rfl rfl rfl rfl (yes_of g10) (so_ro (ro_load sc3 rfl (by repeat (first | exact .head | apply Sel.tail)) (get_Instr_ra _)) ?_)
          refine wl_yes rfl rfl rfl rfl rfl (yes_of g10) (so_ro (ro_fieldAddrC 1 fb136_1 rfl rfl) ?_)
          refine wl_yes rfl rfl rfl rfl rfl (yes_of g10) (so_ro (ro_load sc4 rfl (by repeat (first | exact .head | apply Sel.tail)) (get_Has_ra _)) ?_)
          refine wl_yes rfl rfl rfl rfl rfl (yes_of g10) (so_callV (c_isa_register _ _) gb115 (by rfl) ?_)
          refine wl_ro (ro_pickT rfl g10) rfl ?_
          refine wl_ro (mv_b rfl) rfl ?_
          refine wl_split (dj := 55) rfl (fun g11 => ?_) (fun g11 => ?_)
          ·
            refine wl_yes rfl rfl rfl rfl rfl (yes_of g11) (so_ro (ro_fieldAddrC 3 fb75_3 rfl rfl) ?_)
            refine wl_yes rfl rfl rfl rfl rfl (yes_of g11) (so_ro (ro_load sc3 rfl (by repeat (first | exact .head | apply Sel.tail)) (get_Instr_rb _)) ?_)
            refine wl_yes rfl rfl rfl rfl rfl (yes_of g11) (so_ro (ro_fieldAddrC 2 fb136_2 rfl rfl) ?_)
            refine wl_yes rfl rfl rfl rfl rfl (yes_of g11) (so_ro (ro_load sc4 rfl (by repeat (first | exact .head | apply Sel.tail)) (get_Has_rb _)) ?_)
            refine wl_yes rfl rfl rfl rfl rfl (yes_of g11) (so_callV (c_isa_register _ _) gb115 (by rfl) ?_)
            refine wl_ro (ro_pickT rfl g11) rfl ?_
            refine wl_ro (as_b rfl) rfl ?_
            refine wl_nil ?_
            refine wq_then ?_
            refine xp_ret ?_
            refine fq_retV rfl (.cons (rv_b rfl) .nil) _ rfl ?_
            simp_all [G.valid, G.partOf]
          ·
            refine wl_no rfl rfl rfl rfl rfl (no_of g11) ?_
            refine wl_no rfl rfl rfl rfl rfl (no_of g11) ?_
            refine wl_no rfl rfl rfl rfl rfl (no_of g11) ?_
            refine wl_no rfl rfl rfl rfl rfl (no_of g11) ?_
            refine wl_no rfl rfl rfl rfl rfl (no_of g11) ?_
            refine wl_ro (ro_pickF rfl g11) rfl ?_
            refine wl_ro (as_b rfl) rfl ?_
            refine wl_nil ?_
            refine wq_then ?_
            refine xp_ret ?_
            refine fq_retV rfl (.cons (rv_b rfl) .nil) _ rfl ?_
            simp_all [G.valid, G.partOf]
        ·
          refine wl_no rfl rfl rfl rfl rfl (no_of g10) ?_
          refine wl_no rfl rfl rfl rfl rfl (no_of g10) ?_
          refine wl_no rfl rfl rfl rfl rfl (no_of g10) ?_
          refine wl_no rfl rfl rfl rfl rfl (no_of g10) ?_
          refine wl_no rfl rfl rfl rfl rfl (no_of g10) ?_
          refine wl_ro (ro_pickF rfl g10) rfl ?_
          refine wl_ro (mv_b rfl) rfl ?_
          refine wl_no rfl rfl rfl rfl rfl (no_of rfl) ?_
          refine wl_no rfl rfl rfl rfl rfl (no_of rfl) ?_
          refine wl_no rfl rfl rfl rfl rfl (no_of rfl) ?_
          refine wl_no rfl rfl rfl rfl rfl (no_of rfl) ?_
          refine wl_no rfl rfl rfl rfl rfl (no_of rfl) ?_
          refine wl_ro (ro_pickF rfl rfl) rfl ?_
          refine wl_ro (as_b rfl) rfl ?_
          refine wl_nil ?_
          refine wq_then ?_
          refine xp_ret ?_
          refine fq_retV rfl (.cons (rv_b rfl) .nil) _ rfl ?_
          simp_all [G.valid, G.partOf]
      ·
        refine wl_no rfl rfl rfl rfl rfl (no_of g9) ?_
        refine wl_no rfl rfl rfl rfl rfl (no_of g9) ?_
        refine wl_no rfl rfl rfl rfl rfl (no_of g9) ?_
        refine wl_no rfl rfl rfl rfl rfl (no_of g9) ?_
        refine wl_no rfl rfl rfl rfl rfl (no_of g9) ?_
        refine wl_ro (ro_pickF rfl g9) rfl ?_
        refine wl_ro (mv_b rfl) rfl ?_
        refine wl_no rfl rfl rfl rfl rfl (no_of rfl) ?_
        refine wl_no rfl rfl rfl rfl rfl (no_of rfl) ?_
        refine wl_no rfl rfl rfl rfl rfl (no_of rfl) ?_
        refine wl_no rfl rfl rfl rfl rfl (no_of rfl) ?_
        refine wl_no rfl rfl rfl rfl rfl (no_of rfl) ?_
        refine wl_ro (ro_pickF rfl rfl) rfl ?_
        refine wl_ro (mv_b rfl) rfl ?_
        refine wl_no rfl rfl rfl rfl rfl (no_of rfl) ?_
        refine wl_no rfl rfl rfl rfl rfl (no_of rfl) ?_
        refine wl_no rfl rfl rfl rfl rfl (no_of rfl) ?_
        refine wl_no rfl rfl rfl rfl rfl (no_of rfl) ?_
        refine wl_no rfl rfl rfl rfl rfl (no_of rfl) ?_
        refine wl_ro (ro_pickF rfl rfl) rfl ?_
        refine wl_ro (as_b rfl) rfl ?_
        refine wl_nil ?_
        refine wq_then ?_
        refine xp_ret ?_
        refine fq_retV rfl (.cons (rv_b rfl) .nil) _ rfl ?_
        simp_all [G.valid, G.partOf]
theorem c_isa_Encode (i : Instr) : CtW Tb Tryd.prog 93 [.agg (encInstr i)] (.tuple #[u32 (G.encode i).1, .bool (G.encode i).2]) := by
  intro h hT
  refine ctr_enter (n := 28) [.agg (encInstr i)] Tryd.func93 rfl rfl rfl fun w0 => ?_
  refine xp_seq ?_
  refine xp_region ?_
  refine wl_s rfl (so_boxA rfl fun b1 => ?_)
  refine wl_ro (as_32 (a := 0#32) rfl) rfl ?_
  refine wl_ro (as_b rfl) rfl ?_
  refine wl_nil ?_
  refine wq_then ?_
  refine xp_seq ?_
  refine xp_seq ?_
  refine xp_region ?_
  refine wl_ro (ro_loadA ag75 rfl (by repeat (first | exact .head | apply Sel.tail)) (by rfl) (whole_Instr _)) rfl ?_
  refine wl_s rfl (so_callW (c_isa_Valid _) (by first | assumption | exact Tb.mono (by assumption) (by assumption) | exact Tb.mono (Tb.mono (by assumption) (by assumption)) (by assumption) | exact ⟨by first | assumption | exact Tb.mono (by assumption) (by assumption), by first | assumption | exact Rp.mono (by assumption) (by assumption) | exact Bytes.mono (by assumption) (by assumption)⟩) gb107 (by rfl) ?_)
  refine wl_ro (ro_not rfl) rfl ?_
  refine wl_nil ?_
  refine wq_then ?_
  refine xp_cond _ rfl (fun c1 => ?_) (fun c1 => ?_)
  ·
    refine xp_seq ?_
    refine xp_region ?_
    refine wl_ro (as_32 (a := 0#32) rfl) rfl ?_
    refine wl_ro (as_b rfl) rfl ?_
    refine wl_nil ?_
    refine wq_then ?_
    refine xp_ret ?_
    refine wq_then_ret ?_
    refine fq_retV rfl (.cons (rv_32 rfl) (.cons (rv_b rfl) .nil)) _ rfl ?_
    simp_all [G.encode]
  ·
    refine xp_skip ?_
    refine wq_then ?_
    refine xp_seq ?_
    refine xp_draw [true] [] mixed ?_
    refine wd_ro 0 rfl (by kernel_rfl) (ro_fieldAddrC 4 fb75_4 rfl rfl) rfl ?_
    refine wd_ro 1 rfl (by kernel_rfl) (ro_load sc21 rfl (by repeat (first | exact .head | apply Sel.tail)) (get_Instr_imm _)) rfl ?_
    refine wd_ro 3 rfl (by kernel_rfl) (ro_fieldAddrC 3 fb75_3 rfl rfl) rfl ?_
    refine wd_ro 4 rfl (by kernel_rfl) (ro_load sc3 rfl (by repeat (first | exact .head | apply Sel.tail)) (get_Instr_rb _)) rfl ?_
    refine wd_ro 5 rfl (by kernel_rfl) (cv_i_32 us3 ik22 rfl) rfl ?_
    refine wd_ro 7 rfl (by kernel_rfl) (ro_fieldAddrC 0 fb75_0 rfl rfl) rfl ?_
    refine wd_ro 8 rfl (by kernel_rfl) (ro_load sc3 rfl (by repeat (first | exact .head | apply Sel.tail)) (get_Instr_op _)) rfl ?_
    refine wd_ro 9 rfl (by kernel_rfl) (cv_i_32 us3 ik22 rfl) rfl ?_
    refine wd_so 2 rfl (by kernel_rfl) rfl (so_callV (c_bits_LowBits _ 18 (by omega)) gb109 (by rfl) ⟨⟨(by first | exact PH.le_refl _ | assumption | exact PH.le_trans (by assumption) (by assumption)), (inc_of (by repeat' (first | exact List.nil_sublist _ | apply List.Sublist.cons_cons | apply List.Sublist.cons))), .inr (inc_of (by repeat' (first | exact List.nil_sublist _ | apply List.Sublist.cons_cons | apply List.Sublist.cons)))⟩, ?_⟩)
    refine wd_ro 6 rfl (by kernel_rfl) (ro32_or rfl rfl) rfl ?_
    refine wd_so 10 rfl (by kernel_rfl) rfl (so_callV (c_bits_Insert _ 26 6 _ (by omega) (by omega)) gb108 (by rfl) ⟨⟨(by first | exact PH.le_refl _ | assumption | exact PH.le_trans (by assumption) (by assumption)), (inc_of (by repeat' (first | exact List.nil_sublist _ | apply List.Sublist.cons_cons | apply List.Sublist.cons))), .inr (inc_of (by repeat' (first | exact List.nil_sublist _ | apply List.Sublist.cons_cons | apply List.Sublist.cons)))⟩, ?_⟩)
    refine wd_ro 11 rfl (by kernel_rfl) (as_32 rfl) rfl ?_
    refine wd_done (by kernel_rfl) ?_
    refine wq_then ?_
    refine xp_seq ?_
    refine xp_draw [true] [] mixed ?_
    refine wd_ro 0 rfl (by kernel_rfl) (mv_32 rfl) rfl ?_
    refine wd_ro 1 rfl (by kernel_rfl) (ro_fieldAddrC 1 fb75_1 rfl rfl) rfl ?_
    refine wd_ro 2 rfl (by kernel_rfl) (ro_load sc3 rfl (by repeat (first | exact .head | apply Sel.tail)) (get_Instr_rd _)) rfl ?_
    refine wd_ro 3 rfl (by kernel_rfl) (cv_i_32 us3 ik22 rfl) rfl ?_
    refine wd_ro 5 rfl (by kernel_rfl) (ro_fieldAddrC 2 fb75_2 rfl rfl) rfl ?_
    refine wd_ro 6 rfl (by kernel_rfl) (ro_load sc3 rfl (by repeat (first | exact .head | apply Sel.tail)) (get_Instr_ra _)) rfl ?_
    refine wd_ro 7 rfl (by kernel_rfl) (cv_i_32 us3 ik22 rfl) rfl ?_
    refine wd_so 4 rfl (by kernel_rfl) rfl (so_callV (c_bits_Insert _ 22 4 _ (by omega) (by omega)) gb108 (by rfl) ⟨⟨(by first | exact PH.le_refl _ | assumption | exact PH.le_trans (by assumption) (by assumption)), (inc_of (by repeat' (first | exact List.nil_sublist _ | apply List.Sublist.cons_cons | apply List.Sublist.cons))), .inr (inc_of (by repeat' (first | exact List.nil_sublist _ | apply List.Sublist.cons_cons | apply List.Sublist.cons)))⟩, ?_⟩)
    refine wd_so 8 rfl (by kernel_rfl) rfl (so_callV (c_bits_Insert _ 18 4 _ (by omega) (by omega)) gb108 (by rfl) ⟨⟨(by first | exact PH.le_refl _ | assumption | exact PH.le_trans (by assumption) (by assumption)), (inc_of (by repeat' (first | exact List.nil_sublist _ | apply List.Sublist.cons_cons | apply List.Sublist.cons))), .inr (inc_of (by repeat' (first | exact List.nil_sublist _ | apply List.Sublist.cons_cons | apply List.Sublist.cons)))⟩, ?_⟩)
    refine wd_ro 9 rfl (by kernel_rfl) (as_32 rfl) rfl ?_
    refine wd_ro 10 rfl (by kernel_rfl) (as_b rfl) rfl ?_
    refine wd_done (by kernel_rfl) ?_
    refine wq_then ?_
    refine xp_ret ?_
    refine fq_retV rfl (.cons (rv_32 rfl) (.cons (rv_b rfl) .nil)) _ rfl ?_
    simp_all [G.encode]
theorem c_isa_Decode (w : BitVec 32) : CtW Tb Tryd.prog 70 [u32 w] (.tuple #[.agg (encInstr (G.decode w).1), .bool (G.decode w).2]) := by
  intro h hT
  refine ctr_enter (n := 44) [u32 w] Tryd.func70 rfl rfl rfl fun w0 => ?_
  refine xp_seq ?_
  refine xp_region ?_
  refine wl_s rfl (so_allocA zr75 fun b2 => ?_)
  refine wl_ro (as_b rfl) rfl ?_
  refine wl_nil ?_
  refine wq_then ?_
  refine xp_seq ?_
  refine xp_region ?_
  refine wl_ro (mv_32 rfl) rfl ?_
  refine wl_s rfl (so_callV (c_bits_Extract _ 26 6 (by omega) (by omega)) gb91 (by rfl) ?_)
  refine wl_ro (cv_32_i us22 ik3 rfl) rfl ?_
  refine wl_ro (mv_32 rfl) rfl ?_
  refine wl_s rfl (so_callV (c_bits_Extract _ 22 4 (by omega) (by omega)) gb91 (by rfl) ?_)
  refine wl_ro (cv_32_i us22 ik3 rfl) rfl ?_
  refine wl_ro (mv_32 rfl) rfl ?_
  refine wl_s rfl (so_callV (c_bits_Extract _ 18 4 (by omega) (by omega)) gb91 (by rfl) ?_)
  refine wl_ro (cv_32_i us22 ik3 rfl) rfl ?_
  refine wl_ro (ro_buildS pl75 zr75 (build_Instr_0_1_2 _ _ _)) rfl ?_
  refine wl_s rfl (so_allocA zr75 fun b4 => ?_)
  refine wl_s0 (so_storeA ag75 rfl rfl rfl (ones_Instr _) (by repeat (first | exact .head | apply Sel.tail)) rfl ?_)
  refine wl_nil ?_
  refine wq_then ?_
  refine xp_seq ?_
  refine xp_seq ?_
  have hf := G.formatOf_lt ((G.extract w 26 6).toNat : Int)
  refine xp_region ?_
  refine wl_ro (ro_fieldAddrC 0 fb75_0 rfl rfl) rfl ?_
  refine wl_ro (ro_load sc3 rfl (by repeat (first | exact .head | apply Sel.tail)) (get_Instr_op _)) rfl ?_
  refine wl_s rfl (so_callW (c_isa_FormatOf _) (by first | assumption | exact Tb.mono (by assumption) (by assumption) | exact Tb.mono (Tb.mono (by assumption) (by assumption)) (by assumption) | exact ⟨by first | assumption | exact Tb.mono (by assumption) (by assumption), by first | assumption | exact Rp.mono (by assumption) (by assumption) | exact Bytes.mono (by assumption) (by assumption)⟩) gb88 (by rfl) ?_)
  refine wl_ro ((ro_indexAddr_array ar137 rfl rfl (G.formatOf_lt _).1 (G.formatOf_lt _).2)) rfl ?_
  refine wl_ro (ro_fieldAddr fb136_2 rfl) rfl ?_
  refine wl_ro (ro_tabH_rb sc4 rfl hT.parts (by have := G.formatOf_lt ((G.extract w 26 6).toNat : Int); show (G.formatOf ((G.extract w 26 6).toNat : Int)).toNat < 8; omega)) rfl ?_
  refine wl_nil ?_
  refine wq_then ?_
  refine xp_cond _ rfl (fun c1 => ?_) (fun c1 => ?_)
  ·
    refine xp_region ?_
    refine wl_ro (mv_32 rfl) rfl ?_
    refine wl_s rfl (so_callV (c_bits_Extract _ 0 4 (by omega) (by omega)) gb91 (by rfl) ?_)
    refine wl_ro (cv_32_i us22 ik3 rfl) rfl ?_
    refine wl_ro (ro_fieldAddrC 3 fb75_3 rfl rfl) rfl ?_
    refine wl_s0 (so_store sc3 rfl rfl rfl (by repeat (first | exact .head | apply Sel.tail)) (by rfl) (set_Instr_rb _ _) ?_)
    refine wl_nil ?_
    refine wq_then ?_
    refine xp_seq ?_
    refine xp_seq ?_
    refine xp_region ?_
    refine wl_ro (ro_loadA ag75 rfl (by repeat (first | exact .head | apply Sel.tail)) (by rfl) (whole_Instr _)) rfl ?_
    refine wl_s rfl (so_callW (c_isa_Encode _) (by first | assumption | exact Tb.mono (by assumption) (by assumption) | exact Tb.mono (Tb.mono (by assumption) (by assumption)) (by assumption) | exact ⟨by first | assumption | exact Tb.mono (by assumption) (by assumption), by first | assumption | exact Rp.mono (by assumption) (by assumption) | exact Bytes.mono (by assumption) (by assumption)⟩) gb93 (by rfl) ?_)
    refine wl_ro (mv_u rfl) rfl ?_
    refine wl_ro (ro_extract rfl rfl) rfl ?_
    refine wl_ro (ro_extract rfl rfl) rfl ?_
    refine wl_ro (as_32 rfl) rfl ?_
    refine wl_ro (as_b rfl) rfl ?_
    refine wl_nil ?_
    refine wq_then ?_
    refine xp_seq ?_
    refine xp_region ?_
    refine wl_ro (mv_b rfl) rfl ?_
    refine wl_ro (ro_not rfl) rfl ?_
    refine wl_ro (mv_b rfl) rfl ?_
    refine wl_split (dj := 37) rfl (fun g2 => ?_) (fun g2 => ?_)
    ·
      refine wl_no rfl rfl rfl rfl rfl (no_of g2) ?_
      refine wl_no rfl rfl rfl rfl rfl (no_of g2) ?_
      refine wl_no rfl rfl rfl rfl rfl (no_of g2) ?_
      refine wl_ro (ro_pickT rfl g2) rfl ?_
      refine wl_nil ?_
      refine wq_then ?_
      refine xp_condT rfl rfl ?_
      refine xp_seq ?_
      refine xp_region ?_
      refine wl_ro (ro_buildS pl75 zr75 (build_Instr_ )) rfl ?_
      refine wl_s0 (so_storeA ag75 rfl rfl rfl (ones_Instr _) (by repeat (first | exact .head | apply Sel.tail)) rfl ?_)
      refine wl_ro (as_b rfl) rfl ?_
      refine wl_nil ?_
      refine wq_then ?_
      refine xp_ret ?_
      refine wq_then_ret ?_
      refine fq_retV rfl (.cons (rv_cellA ag75 rfl (by repeat (first | exact .head | apply Sel.tail)) rfl) (.cons (rv_b rfl) .nil)) _ rfl ?_
      simp_all [G.decode, G.decode0, G.partOf]
    ·
      refine wl_yes rfl rfl rfl rfl rfl (yes_of g2) (so_ro (mv_32 rfl) ?_)
      refine wl_yes rfl rfl rfl rfl rfl (yes_of g2) (so_ro (mv_32 rfl) ?_)
      refine wl_yes rfl rfl rfl rfl rfl (yes_of g2) (so_ro (ro32_neq rfl rfl) ?_)
      refine wl_ro (ro_pickF rfl g2) rfl ?_
      refine wl_nil ?_
      refine wq_then ?_
      refine xp_cond _ rfl (fun c3 => ?_) (fun c3 => ?_)
      ·
        refine xp_seq ?_
        refine xp_region ?_
        refine wl_ro (ro_buildS pl75 zr75 (build_Instr_ )) rfl ?_
        refine wl_s0 (so_storeA ag75 rfl rfl rfl (ones_Instr _) (by repeat (first | exact .head | apply Sel.tail)) rfl ?_)
        refine wl_ro (as_b rfl) rfl ?_
        refine wl_nil ?_
        refine wq_then ?_
        refine xp_ret ?_
        refine wq_then_ret ?_
        refine fq_retV rfl (.cons (rv_cellA ag75 rfl (by repeat (first | exact .head | apply Sel.tail)) rfl) (.cons (rv_b rfl) .nil)) _ rfl ?_
        simp_all [G.decode, G.decode0, G.partOf]
      ·
        refine xp_skip ?_
        refine wq_then ?_
        refine xp_seq ?_
        refine xp_region ?_
        refine wl_ro (ro_loadA ag75 rfl (by repeat (first | exact .head | apply Sel.tail)) (by rfl) (whole_Instr _)) rfl ?_
        refine wl_s0 (so_storeA ag75 rfl rfl rfl (ones_Instr _) (by repeat (first | exact .head | apply Sel.tail)) rfl ?_)
        refine wl_ro (as_b rfl) rfl ?_
        refine wl_nil ?_
        refine wq_then ?_
        refine xp_ret ?_
        refine fq_retV rfl (.cons (rv_cellA ag75 rfl (by repeat (first | exact .head | apply Sel.tail)) rfl) (.cons (rv_b rfl) .nil)) _ rfl ?_
        simp_all [G.decode, G.decode0, G.partOf]
  ·
    refine xp_region ?_
    refine wl_ro (mv_32 rfl) rfl ?_
    refine wl_s rfl (so_callV (c_bits_SignExtend _ 18 (by omega)) gb92 (by rfl) ?_)
    refine wl_ro (ro_fieldAddrC 4 fb75_4 rfl rfl) rfl ?_
    refine wl_s0 (so_store sc21 rfl rfl rfl (by repeat (first | exact .head | apply Sel.tail)) (by rfl) (set_Instr_imm _ _) ?_)
    refine wl_nil ?_
    refine wq_then ?_
    refine xp_seq ?_
    refine xp_seq ?_
    refine xp_region ?_
    refine wl_ro (ro_loadA ag75 rfl (by repeat (first | exact .head | apply Sel.tail)) (by rfl) (whole_Instr _)) rfl ?_
    refine wl_s rfl (so_callW (c_isa_Encode _) (by first | assumption | exact Tb.mono (by assumption) (by assumption) | exact Tb.mono (Tb.mono (by assumption) (by assumption)) (by assumption) | exact ⟨by first | assumption | exact Tb.mono (by assumption) (by assumption), by first | assumption | exact Rp.mono (by assumption) (by assumption) | exact Bytes.mono (by assumption) (by assumption)⟩) gb93 (by rfl) ?_)
    refine wl_ro (mv_u rfl) rfl ?_
    refine wl_ro (ro_extract rfl rfl) rfl ?_
    refine wl_ro (ro_extract rfl rfl) rfl ?_
    refine wl_ro (as_32 rfl) rfl ?_
    refine wl_ro (as_b rfl) rfl ?_
    refine wl_nil ?_
    refine wq_then ?_
    refine xp_seq ?_
    refine xp_region ?_
    refine wl_ro (mv_b rfl) rfl ?_
    refine wl_ro (ro_not rfl) rfl ?_
    refine wl_ro (mv_b rfl) rfl ?_
    refine wl_split (dj := 37) rfl (fun g4 => ?_) (fun g4 => ?_)
    ·
      refine wl_no rfl rfl rfl rfl rfl (no_of g4) ?_
      refine wl_no rfl rfl rfl rfl rfl (no_of g4) ?_
      refine wl_no rfl rfl rfl rfl rfl (no_of g4) ?_
      refine wl_ro (ro_pickT rfl g4) rfl ?_
      refine wl_nil ?_
      refine wq_then ?_
      refine xp_condT rfl rfl ?_
      refine xp_seq ?_
      refine xp_region ?_
      refine wl_ro (ro_buildS pl75 zr75 (build_Instr_ )) rfl ?_
      refine wl_s0 (so_storeA ag75 rfl rfl rfl (ones_Instr _) (by repeat (first | exact .head | apply Sel.tail)) rfl ?_)
      refine wl_ro (as_b rfl) rfl ?_
      refine wl_nil ?_
      refine wq_then ?_
      refine xp_ret ?_
      refine wq_then_ret ?_
      refine fq_retV rfl (.cons (rv_cellA ag75 rfl (by repeat (first | exact .head | apply Sel.tail)) rfl) (.cons (rv_b rfl) .nil)) _ rfl ?_
      simp_all [G.decode, G.decode0, G.partOf]
    ·
      refine wl_yes rfl rfl rfl rfl rfl (yes_of g4) (so_ro (mv_32 rfl) ?_)
      refine wl_yes rfl rfl rfl rfl rfl (yes_of g4) (so_ro (mv_32 rfl) ?_)
      refine wl_yes rfl rfl rfl rfl rfl (yes_of g4) (so_ro (ro32_neq rfl rfl) ?_)
      refine wl_ro (ro_pickF rfl g4) rfl ?_
      refine wl_nil ?_
      refine wq_then ?_
      refine xp_cond _ rfl (fun c5 => ?_) (fun c5 => ?_)
      ·
        refine xp_seq ?_
        refine xp_region ?_
        refine wl_ro (ro_buildS pl75 zr75 (build_Instr_ )) rfl ?_
        refine wl_s0 (so_storeA ag75 rfl rfl rfl (ones_Instr _) (by repeat (first | exact .head | apply Sel.tail)) rfl ?_)
        refine wl_ro (as_b rfl) rfl ?_
        refine wl_nil ?_
        refine wq_then ?_
        refine xp_ret ?_
        refine wq_then_ret ?_
        refine fq_retV rfl (.cons (rv_cellA ag75 rfl (by repeat (first | exact .head | apply Sel.tail)) rfl) (.cons (rv_b rfl) .nil)) _ rfl ?_
        simp_all [G.decode, G.decode0, G.partOf]
      ·
        refine xp_skip ?_
        refine wq_then ?_
        refine xp_seq ?_
        refine xp_region ?_
        refine wl_ro (ro_loadA ag75 rfl (by repeat (first | exact .head | apply Sel.tail)) (by rfl) (whole_Instr _)) rfl ?_
        refine wl_s0 (so_storeA ag75 rfl rfl rfl (ones_Instr _) (by repeat (first | exact .head | apply Sel.tail)) rfl ?_)
        refine wl_ro (as_b rfl) rfl ?_
        refine wl_nil ?_
        refine wq_then ?_
        refine xp_ret ?_
        refine fq_retV rfl (.cons (rv_cellA ag75 rfl (by repeat (first | exact .head | apply Sel.tail)) rfl) (.cons (rv_b rfl) .nil)) _ rfl ?_
        simp_all [G.decode, G.decode0, G.partOf]
theorem c_alu_LessSigned (x y : BitVec 32) : CtV Tryd.prog 111 [u32 x, u32 y] (.bool (G.lessSigned x y)) := by
  intro h
  refine ctr_enter (n := 10) [u32 x, u32 y] Tryd.func111 rfl rfl rfl fun w0 => ?_
  refine xp_seq ?_
  refine xp_region ?_
  refine wl_ro (as_b rfl) rfl ?_
  refine wl_nil ?_
  refine wq_then ?_
  refine xp_seq ?_
  refine xp_region ?_
  refine wl_ro (mv_32 rfl) rfl ?_
  refine wl_ro (cv_32_i32 us22 ik21 rfl) rfl ?_
  refine wl_ro (mv_32 rfl) rfl ?_
  refine wl_ro (cv_32_i32 us22 ik21 rfl) rfl ?_
  refine wl_ro (roi32_lss rfl rfl) rfl ?_
  refine wl_ro (as_b rfl) rfl ?_
  refine wl_nil ?_
  refine wq_then ?_
  refine xp_ret ?_
  refine fq_retV rfl (.cons (rv_b rfl) .nil) _ rfl ?_
  rfl
theorem c_alu_BranchTaken (op : Int) (x y : BitVec 32) : CtV Tryd.prog 101 [int op, u32 x, u32 y] (.bool (G.branchTaken op x y)) := by
  intro h
  refine ctr_enter (n := 23) [int op, u32 x, u32 y] Tryd.func101 rfl rfl rfl fun w0 => ?_
  refine xp_seq ?_
  refine xp_region ?_
  refine wl_ro (as_b rfl) rfl ?_
  refine wl_nil ?_
  refine wq_then ?_
  refine xp_seq ?_
  refine xp_seq ?_
  refine xp_region ?_
  refine wl_ro (mv_i rfl) rfl ?_
  refine wl_nil ?_
  refine wq_then ?_
  refine xp_block ?_
  refine xp_seq ?_
  refine xp_region ?_
  refine wl_ro (roI_eql rfl rfl) rfl ?_
  refine wl_ro (as_b rfl) rfl ?_
  refine wl_nil ?_
  refine wq_then ?_
  refine xp_cond _ rfl (fun c1 => ?_) (fun c1 => ?_)
  ·
    refine xp_seq ?_
    refine xp_region ?_
    refine wl_ro (mv_32 rfl) rfl ?_
    refine wl_ro (mv_32 rfl) rfl ?_
    refine wl_ro (ro32_eql rfl rfl) rfl ?_
    refine wl_ro (as_b rfl) rfl ?_
    refine wl_nil ?_
    refine wq_then ?_
    refine xp_ret ?_
    refine wq_in_ret ?_
    refine wq_then_ret ?_
    refine fq_retV rfl (.cons (rv_b rfl) .nil) _ rfl ?_
    simp_all [G.branchTaken]
  ·
    refine xp_seq ?_
    refine xp_region ?_
    refine wl_ro (roI_eql rfl rfl) rfl ?_
    refine wl_ro (as_b rfl) rfl ?_
    refine wl_nil ?_
    refine wq_then ?_
    refine xp_cond _ rfl (fun c2 => ?_) (fun c2 => ?_)
    ·
      refine xp_seq ?_
      refine xp_region ?_
      refine wl_ro (mv_32 rfl) rfl ?_
      refine wl_ro (mv_32 rfl) rfl ?_
      refine wl_ro (ro32_neq rfl rfl) rfl ?_
      refine wl_ro (as_b rfl) rfl ?_
      refine wl_nil ?_
      refine wq_then ?_
      refine xp_ret ?_
      refine wq_in_ret ?_
      refine wq_then_ret ?_
      refine fq_retV rfl (.cons (rv_b rfl) .nil) _ rfl ?_
      simp_all [G.branchTaken]
    ·
      refine xp_seq ?_
      refine xp_region ?_
      refine wl_ro (roI_eql rfl rfl) rfl ?_
      refine wl_ro (as_b rfl) rfl ?_
      refine wl_nil ?_
      refine wq_then ?_
      refine xp_cond _ rfl (fun c3 => ?_) (fun c3 => ?_)
      ·
        refine xp_seq ?_
        refine xp_region ?_
        refine wl_ro (mv_32 rfl) rfl ?_
        refine wl_ro (mv_32 rfl) rfl ?_
        refine wl_s rfl (so_callV (c_alu_LessSigned _ _) gb111 (by rfl) ?_)
        refine wl_ro (as_b rfl) rfl ?_
        refine wl_nil ?_
        refine wq_then ?_
        refine xp_ret ?_
        refine wq_in_ret ?_
        refine wq_then_ret ?_
        refine fq_retV rfl (.cons (rv_b rfl) .nil) _ rfl ?_
        simp_all [G.branchTaken]
      ·
        refine xp_skip ?_
        refine wq_in ?_
        refine wq_then ?_
        refine xp_seq ?_
        refine xp_region ?_
        refine wl_ro (as_b rfl) rfl ?_
        refine wl_nil ?_
        refine wq_then ?_
        refine xp_ret ?_
        refine fq_retV rfl (.cons (rv_b rfl) .nil) _ rfl ?_
        simp_all [G.branchTaken]
theorem c_alu_deeds_1 (x y : BitVec 32) : CtV Tryd.prog 117 [u32 x, u32 y] (u32 (x + y)) := by
  intro h
  refine ctr_enter (n := 8) [u32 x, u32 y] Tryd.func117 rfl rfl rfl fun w0 => ?_
  refine xp_seq ?_
  refine xp_region ?_
  refine wl_ro (as_32 (a := 0#32) rfl) rfl ?_
  refine wl_nil ?_
  refine wq_then ?_
  refine xp_seq ?_
  refine xp_region ?_
  refine wl_ro (mv_32 rfl) rfl ?_
  refine wl_ro (mv_32 rfl) rfl ?_
  refine wl_ro (ro32_add rfl rfl) rfl ?_
  refine wl_ro (as_32 rfl) rfl ?_
  refine wl_nil ?_
  refine wq_then ?_
  refine xp_ret ?_
  refine fq_retV rfl (.cons (rv_32 rfl) .nil) _ rfl ?_
  simp_all
theorem c_alu_deeds_2 (x y : BitVec 32) : CtV Tryd.prog 118 [u32 x, u32 y] (u32 (x - y)) := by
  intro h
  refine ctr_enter (n := 8) [u32 x, u32 y] Tryd.func118 rfl rfl rfl fun w0 => ?_
  refine xp_seq ?_
  refine xp_region ?_
  refine wl_ro (as_32 (a := 0#32) rfl) rfl ?_
  refine wl_nil ?_
  refine wq_then ?_
  refine xp_seq ?_
  refine xp_region ?_
  refine wl_ro (mv_32 rfl) rfl ?_
  refine wl_ro (mv_32 rfl) rfl ?_
  refine wl_ro (ro32_sub rfl rfl) rfl ?_
  refine wl_ro (as_32 rfl) rfl ?_
  refine wl_nil ?_
  refine wq_then ?_
  refine xp_ret ?_
  refine fq_retV rfl (.cons (rv_32 rfl) .nil) _ rfl ?_
  simp_all
theorem c_alu_deeds_3 (x y : BitVec 32) : CtV Tryd.prog 119 [u32 x, u32 y] (u32 (x &&& y)) := by
  intro h
  refine ctr_enter (n := 8) [u32 x, u32 y] Tryd.func119 rfl rfl rfl fun w0 => ?_
  refine xp_seq ?_
  refine xp_region ?_
  refine wl_ro (as_32 (a := 0#32) rfl) rfl ?_
  refine wl_nil ?_
  refine wq_then ?_
  refine xp_seq ?_
  refine xp_region ?_
  refine wl_ro (mv_32 rfl) rfl ?_
  refine wl_ro (mv_32 rfl) rfl ?_
  refine wl_ro (ro32_and rfl rfl) rfl ?_
  refine wl_ro (as_32 rfl) rfl ?_
  refine wl_nil ?_
  refine wq_then ?_
  refine xp_ret ?_
  refine fq_retV rfl (.cons (rv_32 rfl) .nil) _ rfl ?_
  simp_all
theorem c_alu_deeds_4 (x y : BitVec 32) : CtV Tryd.prog 120 [u32 x, u32 y] (u32 (x ||| y)) := by
  intro h
  refine ctr_enter (n := 8) [u32 x, u32 y] Tryd.func120 rfl rfl rfl fun w0 => ?_
  refine xp_seq ?_
  refine xp_region ?_
  refine wl_ro (as_32 (a := 0#32) rfl) rfl ?_
  refine wl_nil ?_
  refine wq_then ?_
  refine xp_seq ?_
  refine xp_region ?_
  refine wl_ro (mv_32 rfl) rfl ?_
  refine wl_ro (mv_32 rfl) rfl ?_
  refine wl_ro (ro32_or rfl rfl) rfl ?_
  refine wl_ro (as_32 rfl) rfl ?_
  refine wl_nil ?_
  refine wq_then ?_
  refine xp_ret ?_
  refine fq_retV rfl (.cons (rv_32 rfl) .nil) _ rfl ?_
  simp_all
theorem c_alu_deeds_5 (x y : BitVec 32) : CtV Tryd.prog 121 [u32 x, u32 y] (u32 (x ^^^ y)) := by
  intro h
  refine ctr_enter (n := 8) [u32 x, u32 y] Tryd.func121 rfl rfl rfl fun w0 => ?_
  refine xp_seq ?_
  refine xp_region ?_
  refine wl_ro (as_32 (a := 0#32) rfl) rfl ?_
  refine wl_nil ?_
  refine wq_then ?_
  refine xp_seq ?_
  refine xp_region ?_
  refine wl_ro (mv_32 rfl) rfl ?_
  refine wl_ro (mv_32 rfl) rfl ?_
  refine wl_ro (ro32_xor rfl rfl) rfl ?_
  refine wl_ro (as_32 rfl) rfl ?_
  refine wl_nil ?_
  refine wq_then ?_
  refine xp_ret ?_
  refine fq_retV rfl (.cons (rv_32 rfl) .nil) _ rfl ?_
  simp_all
theorem c_alu_deeds_6 (x y : BitVec 32) : CtV Tryd.prog 122 [u32 x, u32 y] (u32 (if G.lessSigned x y then 1#32 else 0#32)) := by
  intro h
  refine ctr_enter (n := 8) [u32 x, u32 y] Tryd.func122 rfl rfl rfl fun w0 => ?_
  refine xp_seq ?_
  refine xp_region ?_
  refine wl_ro (as_32 (a := 0#32) rfl) rfl ?_
  refine wl_nil ?_
  refine wq_then ?_
  refine xp_seq ?_
  refine xp_seq ?_
  refine xp_region ?_
  refine wl_ro (mv_32 rfl) rfl ?_
  refine wl_ro (mv_32 rfl) rfl ?_
  refine wl_s rfl (so_callV (c_alu_LessSigned _ _) gb111 (by rfl) ?_)
  refine wl_nil ?_
  refine wq_then ?_
  refine xp_cond _ rfl (fun c1 => ?_) (fun c1 => ?_)
  ·
    refine xp_seq ?_
    refine xp_region ?_
    refine wl_ro (as_32 (a := 1#32) rfl) rfl ?_
    refine wl_nil ?_
    refine wq_then ?_
    refine xp_ret ?_
    refine wq_then_ret ?_
    refine fq_retV rfl (.cons (rv_32 rfl) .nil) _ rfl ?_
    simp_all
  ·
    refine xp_skip ?_
    refine wq_then ?_
    refine xp_seq ?_
    refine xp_region ?_
    refine wl_ro (as_32 (a := 0#32) rfl) rfl ?_
    refine wl_nil ?_
    refine wq_then ?_
    refine xp_ret ?_
    refine fq_retV rfl (.cons (rv_32 rfl) .nil) _ rfl ?_
    simp_all
theorem c_alu_deeds_7 (x y : BitVec 32) : CtV Tryd.prog 123 [u32 x, u32 y] (u32 (x <<< (y &&& 31#32).toNat)) := by
  intro h
  refine ctr_enter (n := 9) [u32 x, u32 y] Tryd.func123 rfl rfl rfl fun w0 => ?_
  refine xp_seq ?_
  refine xp_region ?_
  refine wl_ro (as_32 (a := 0#32) rfl) rfl ?_
  refine wl_nil ?_
  refine wq_then ?_
  refine xp_seq ?_
  refine xp_region ?_
  refine wl_ro (mv_32 rfl) rfl ?_
  refine wl_ro (mv_32 rfl) rfl ?_
  refine wl_ro (ro32_and (b := 31#32) rfl rfl) rfl ?_
  refine wl_ro (ro32_shl rfl rfl) rfl ?_
  refine wl_ro (as_32 rfl) rfl ?_
  refine wl_nil ?_
  refine wq_then ?_
  refine xp_ret ?_
  refine fq_retV rfl (.cons (rv_32 rfl) .nil) _ rfl ?_
  simp_all
theorem c_alu_deeds_8 (x y : BitVec 32) : CtV Tryd.prog 124 [u32 x, u32 y] (u32 (x >>> (y &&& 31#32).toNat)) := by
  intro h
  refine ctr_enter (n := 9) [u32 x, u32 y] Tryd.func124 rfl rfl rfl fun w0 => ?_
  refine xp_seq ?_
  refine xp_region ?_
  refine wl_ro (as_32 (a := 0#32) rfl) rfl ?_
  refine wl_nil ?_
  refine wq_then ?_
  refine xp_seq ?_
  refine xp_region ?_
  refine wl_ro (mv_32 rfl) rfl ?_
  refine wl_ro (mv_32 rfl) rfl ?_
  refine wl_ro (ro32_and (b := 31#32) rfl rfl) rfl ?_
  refine wl_ro (ro32_shr rfl rfl) rfl ?_
  refine wl_ro (as_32 rfl) rfl ?_
  refine wl_nil ?_
  refine wq_then ?_
  refine xp_ret ?_
  refine fq_retV rfl (.cons (rv_32 rfl) .nil) _ rfl ?_
  simp_all
theorem c_reloc_super (c : Core) : CtV Tryd.prog 125 [.agg (encCore c)] (.bool (G.super c)) := by
  intro h
  refine ctr_enter (n := 8) [.agg (encCore c)] Tryd.func125 rfl rfl rfl fun w0 => ?_
  refine xp_seq ?_
  refine xp_region ?_
  refine wl_s rfl (so_boxA rfl fun b1 => ?_)
  refine wl_ro (as_b rfl) rfl ?_
  refine wl_nil ?_
  refine wq_then ?_
  refine xp_seq ?_
  refine xp_region ?_
  refine wl_ro (ro_fieldAddrC 17 fb37_2 rfl rfl) rfl ?_
  refine wl_ro (ro_indexAddr_c 0 17 ar23 rfl rfl rfl rfl) rfl ?_
  refine wl_ro (ro_load sc22 rfl (by repeat (first | exact .head | apply Sel.tail)) (get_Core_csr_at _ 0 (by decide))) rfl ?_
  refine wl_ro (ro32_and (b := 1#32) rfl rfl) rfl ?_
  refine wl_ro (ro32_neq (b := 0#32) rfl rfl) rfl ?_
  refine wl_ro (as_b rfl) rfl ?_
  refine wl_nil ?_
  refine wq_then ?_
  refine xp_ret ?_
  refine fq_retV rfl (.cons (rv_b rfl) .nil) _ rfl ?_
  rfl
theorem c_reloc_Translate (base bound size a : BitVec 32) (n : Int) : CtV Tryd.prog 126 [u32 base, u32 bound, u32 size, u32 a, int n] (.tuple #[u32 (G.translate base bound size a n).1, .bool (G.translate base bound size a n).2]) := by
  intro h
  refine ctr_enter (n := 34) [u32 base, u32 bound, u32 size, u32 a, int n] Tryd.func126 rfl rfl rfl fun w0 => ?_
  refine xp_seq ?_
  refine xp_region ?_
  refine wl_ro (as_32 (a := 0#32) rfl) rfl ?_
  refine wl_ro (as_b rfl) rfl ?_
  refine wl_nil ?_
  refine wq_then ?_
  refine xp_seq ?_
  refine xp_region ?_
  refine wl_ro (mv_32 rfl) rfl ?_
  refine wl_ro (cv_32_64 us22 ik24 rfl) rfl ?_
  refine wl_ro (mv_i rfl) rfl ?_
  refine wl_ro (cv_i_64 us3 ik24 rfl) rfl ?_
  refine wl_ro (ro64_add rfl rfl) rfl ?_
  refine wl_ro (as_64 rfl) rfl ?_
  refine wl_nil ?_
  refine wq_then ?_
  refine xp_seq ?_
  refine xp_seq ?_
  refine xp_region ?_
  refine wl_ro (mv_64 rfl) rfl ?_
  refine wl_ro (mv_32 rfl) rfl ?_
  refine wl_ro (cv_32_64 us22 ik24 rfl) rfl ?_
  refine wl_ro (ro64_gtr rfl rfl) rfl ?_
  refine wl_ro (mv_b rfl) rfl ?_
  refine wl_split (dj := 22) rfl (fun g1 => ?_) (fun g1 => ?_)
  ·
    refine wl_no rfl rfl rfl rfl rfl (no_of g1) ?_
    refine wl_no rfl rfl rfl rfl rfl (no_of g1) ?_
    refine wl_no rfl rfl rfl rfl rfl (no_of g1) ?_
    refine wl_no rfl rfl rfl rfl rfl (no_of g1) ?_
    refine wl_no rfl rfl rfl rfl rfl (no_of g1) ?_
    refine wl_no rfl rfl rfl rfl rfl (no_of g1) ?_
    refine wl_no rfl rfl rfl rfl rfl (no_of g1) ?_
    refine wl_ro (ro_pickT rfl g1) rfl ?_
    refine wl_nil ?_
    refine wq_then ?_
    refine xp_condT rfl rfl ?_
    refine xp_seq ?_
    refine xp_region ?_
    refine wl_ro (as_32 (a := 0#32) rfl) rfl ?_
    refine wl_ro (as_b rfl) rfl ?_
    refine wl_nil ?_
    refine wq_then ?_
    refine xp_ret ?_
    refine wq_then_ret ?_
    refine fq_retV rfl (.cons (rv_32 rfl) (.cons (rv_b rfl) .nil)) _ rfl ?_
    simp_all [G.translate, ← BitVec.not_le]
  ·
    refine wl_yes rfl rfl rfl rfl rfl (yes_of g1) (so_ro (mv_32 rfl) ?_)
    refine wl_yes rfl rfl rfl rfl rfl (yes_of g1) (so_ro (cv_32_64 us22 ik24 rfl) ?_)
    refine wl_yes rfl rfl rfl rfl rfl (yes_of g1) (so_ro (mv_64 rfl) ?_)
    refine wl_yes rfl rfl rfl rfl rfl (yes_of g1) (so_ro (ro64_add rfl rfl) ?_)
    refine wl_yes rfl rfl rfl rfl rfl (yes_of g1) (so_ro (mv_32 rfl) ?_)
    refine wl_yes rfl rfl rfl rfl rfl (yes_of g1) (so_ro (cv_32_64 us22 ik24 rfl) ?_)
    refine wl_yes rfl rfl rfl rfl rfl (yes_of g1) (so_ro (ro64_gtr rfl rfl) ?_)
    refine wl_ro (ro_pickF rfl g1) rfl ?_
    refine wl_nil ?_
    refine wq_then ?_
    refine xp_cond _ rfl (fun c2 => ?_) (fun c2 => ?_)
    ·
      refine xp_seq ?_
      refine xp_region ?_
      refine wl_ro (as_32 (a := 0#32) rfl) rfl ?_
      refine wl_ro (as_b rfl) rfl ?_
      refine wl_nil ?_
      refine wq_then ?_
      refine xp_ret ?_
      refine wq_then_ret ?_
      refine fq_retV rfl (.cons (rv_32 rfl) (.cons (rv_b rfl) .nil)) _ rfl ?_
      simp_all [G.translate, ← BitVec.not_le]
    ·
      refine xp_skip ?_
      refine wq_then ?_
      refine xp_seq ?_
      refine xp_region ?_
      refine wl_ro (mv_32 rfl) rfl ?_
      refine wl_ro (mv_32 rfl) rfl ?_
      refine wl_ro (ro32_add rfl rfl) rfl ?_
      refine wl_ro (as_32 rfl) rfl ?_
      refine wl_ro (as_b rfl) rfl ?_
      refine wl_nil ?_
      refine wq_then ?_
      refine xp_ret ?_
      refine fq_retV rfl (.cons (rv_32 rfl) (.cons (rv_b rfl) .nil)) _ rfl ?_
      simp_all [G.translate, ← BitVec.not_le]
theorem c_reloc_TranslateCore (c : Core) (size a : BitVec 32) (n : Int) : CtV Tryd.prog 113 [.agg (encCore c), u32 size, u32 a, int n] (.tuple #[u32 (G.translateCore c size a n).1, .bool (G.translateCore c size a n).2]) := by
  intro h
  refine ctr_enter (n := 31) [.agg (encCore c), u32 size, u32 a, int n] Tryd.func113 rfl rfl rfl fun w0 => ?_
  refine xp_seq ?_
  refine xp_region ?_
  refine wl_s rfl (so_boxA rfl fun b4 => ?_)
  refine wl_ro (as_32 (a := 0#32) rfl) rfl ?_
  refine wl_ro (as_b rfl) rfl ?_
  refine wl_nil ?_
  refine wq_then ?_
  refine xp_seq ?_
  refine xp_seq ?_
  refine xp_region ?_
  refine wl_ro (ro_loadA ag37 rfl (by repeat (first | exact .head | apply Sel.tail)) (by rfl) (whole_Core _)) rfl ?_
  refine wl_s rfl (so_callV (c_reloc_super _) gb125 (by rfl) ?_)
  refine wl_nil ?_
  refine wq_then ?_
  refine xp_cond _ rfl (fun c1 => ?_) (fun c1 => ?_)
  ·
    refine xp_seq ?_
    refine xp_region ?_
    refine wl_ro (mv_32 rfl) rfl ?_
    refine wl_ro (mv_32 rfl) rfl ?_
    refine wl_ro (mv_32 rfl) rfl ?_
    refine wl_ro (mv_i rfl) rfl ?_
    refine wl_s rfl (so_callV (c_reloc_Translate 0#32 _ _ _ _) gb126 (by rfl) ?_)
    refine wl_ro (ro_extract rfl rfl) rfl ?_
    refine wl_ro (ro_extract rfl rfl) rfl ?_
    refine wl_ro (as_32 rfl) rfl ?_
    refine wl_ro (as_b rfl) rfl ?_
    refine wl_nil ?_
    refine wq_then ?_
    refine xp_ret ?_
    refine wq_then_ret ?_
    refine fq_retV rfl (.cons (rv_32 rfl) (.cons (rv_b rfl) .nil)) _ rfl ?_
    simp_all [G.translateCore]
  ·
    refine xp_skip ?_
    refine wq_then ?_
    refine xp_seq ?_
    refine xp_region ?_
    refine wl_ro (ro_fieldAddrC 17 fb37_2 rfl rfl) rfl ?_
    refine wl_ro (ro_indexAddr_c 5 22 ar23 rfl rfl rfl rfl) rfl ?_
    refine wl_ro (ro_load sc22 rfl (by repeat (first | exact .head | apply Sel.tail)) (get_Core_csr_at _ 5 (by decide))) rfl ?_
    refine wl_ro (ro_fieldAddrC 17 fb37_2 rfl rfl) rfl ?_
    refine wl_ro (ro_indexAddr_c 6 23 ar23 rfl rfl rfl rfl) rfl ?_
    refine wl_ro (ro_load sc22 rfl (by repeat (first | exact .head | apply Sel.tail)) (get_Core_csr_at _ 6 (by decide))) rfl ?_
    refine wl_ro (mv_32 rfl) rfl ?_
    refine wl_ro (mv_32 rfl) rfl ?_
    refine wl_ro (mv_i rfl) rfl ?_
    refine wl_s rfl (so_callV (c_reloc_Translate _ _ _ _ _) gb126 (by rfl) ?_)
    refine wl_ro (ro_extract rfl rfl) rfl ?_
    refine wl_ro (ro_extract rfl rfl) rfl ?_
    refine wl_ro (as_32 rfl) rfl ?_
    refine wl_ro (as_b rfl) rfl ?_
    refine wl_nil ?_
    refine wq_then ?_
    refine xp_ret ?_
    refine fq_retV rfl (.cons (rv_32 rfl) (.cons (rv_b rfl) .nil)) _ rfl ?_
    simp_all [G.translateCore]
end Go.Proofs.YtnikheoiciokhaaDoor
