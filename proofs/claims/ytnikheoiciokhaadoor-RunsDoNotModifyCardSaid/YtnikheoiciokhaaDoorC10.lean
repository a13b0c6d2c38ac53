/-
  CONTRACTS OF GO FUNCTIONS (printed by gen.py, own work).
-/
import Derived.Test.YtnikheoiciokhaaDoorC9
namespace Go.Proofs.YtnikheoiciokhaaDoor
open Go Go.Sx
set_option linter.unusedVariables false
set_option maxRecDepth 20000
set_option linter.unusedSimpArgs false

theorem c_ref05_Same (s1 s2 : SV) (xs ys : List (BitVec 8)) (hbig : xs.length ≤ 1099511627776) : CtW (fun h => Bytes h s1 xs ∧ Bytes h s2 ys) Tryd.prog 37 [sv s1, sv s2] (.bool (decide (xs = ys))) := by
  rintro h ⟨hA, hB⟩
  have hl1 := hA.1
  have hl2 := hB.1
  refine ctr_enter (n := 26) [sv s1, sv s2] Tryd.func37 rfl rfl rfl fun w0 => ?_
  refine xp_seq ?_
  refine xp_region ?_
  refine wl_ro (as_b rfl) rfl ?_
  refine wl_nil ?_
  refine wq_then ?_
  refine xp_seq ?_
  refine xp_seq ?_
  refine xp_region ?_
  refine wl_ro (mv_s rfl) rfl ?_
  refine wl_ro (ro_len_slice sl38 rfl) rfl ?_
  refine wl_ro (mv_s rfl) rfl ?_
  refine wl_ro (ro_len_slice sl38 rfl) rfl ?_
  refine wl_ro (roI_neq rfl rfl) rfl ?_
  refine wl_nil ?_
  refine wq_then ?_
  refine xp_cond _ rfl (fun c1 => ?_) (fun c1 => ?_)
  ·
    try simp only [decide_eq_true_eq, decide_eq_false_iff_not, Bool.not_eq_true', Bool.not_eq_false'] at c1
    try have hlt : i < xs.length := by omega
    refine xp_seq ?_
    refine xp_region ?_
    refine wl_ro (as_b rfl) rfl ?_
    refine wl_nil ?_
    refine wq_then ?_
    refine xp_ret ?_
    refine wq_then_ret ?_
    refine fq_retV rfl (.cons (rv_b rfl) .nil) _ rfl ?_
    exact congrArg Value.bool (decide_eq_false (fun e1 => c1 (by rw [hl1, hl2, e1]))).symm
  ·
    try simp only [decide_eq_true_eq, decide_eq_false_iff_not, Bool.not_eq_true', Bool.not_eq_false'] at c1
    try have hlt : i < xs.length := by omega
    refine xp_skip ?_
    refine wq_then ?_
    refine xp_seq ?_
    refine xp_seq ?_
    refine xp_region ?_
    refine wl_ro (as_i rfl) rfl ?_
    refine wl_nil ?_
    refine wq_then ?_
    refine xp_block ?_
    refine xp_loopP (ds := [])  (A := Nat) [4, 5, 11, 12, 13, 14, 15, 16, 17, 18, 19, 20, 21, 22, 23, 24, 25] (fun i => xs.length - i) (fun i => [(5, int (i : Int))]) (fun i => i ≤ xs.length ∧ xs.take i = ys.take i) 0 ⟨rfl, trivial⟩ ?_ ?_
    · exact ⟨Nat.zero_le _, rfl⟩
    · rintro i us ⟨hi, htk⟩
      refine xp_seq ?_
      refine xp_seq ?_
      refine xp_region ?_
      refine wl_ro (mv_i rfl) rfl ?_
      refine wl_ro (mv_s rfl) rfl ?_
      refine wl_ro (ro_len_slice sl38 rfl) rfl ?_
      refine wl_ro (roI_lss rfl rfl) rfl ?_
      refine wl_nil ?_
      refine wq_then ?_
      refine xp_cond _ rfl (fun c2 => ?_) (fun c2 => ?_)
      ·
        try simp only [decide_eq_true_eq, decide_eq_false_iff_not, Bool.not_eq_true', Bool.not_eq_false'] at c2
        try have hlt : i < xs.length := by omega
        refine xp_skip ?_
        refine wq_then ?_
        refine xp_seq ?_
        refine xp_block ?_
        refine xp_seq ?_
        have hll : xs.length = ys.length := by omega
        refine xp_draw [] [] mixed ?_
        refine wd_ro 0 rfl (by kernel_rfl) (mv_s rfl) rfl ?_
        refine wd_ro 1 rfl (by kernel_rfl) (mv_i rfl) rfl ?_
        refine wd_ro 2 rfl (by kernel_rfl) (ro_indexAddr_b i sl38 hA rfl rfl rfl (by omega)) rfl ?_
        refine wd_ro 3 rfl (by kernel_rfl) (ro_loadB sc5 hA rfl (by omega)) rfl ?_
        refine wd_ro 4 rfl (by kernel_rfl) (mv_s rfl) rfl ?_
        refine wd_ro 5 rfl (by kernel_rfl) (mv_i rfl) rfl ?_
        refine wd_ro 6 rfl (by kernel_rfl) (ro_indexAddr_b i sl38 hB rfl rfl rfl (by omega)) rfl ?_
        refine wd_ro 7 rfl (by kernel_rfl) (ro_loadB sc5 hB rfl (by omega)) rfl ?_
        refine wd_ro 8 rfl (by kernel_rfl) (ro8_neq rfl rfl) rfl ?_
        refine wd_done (by kernel_rfl) ?_
        refine wq_then ?_
        refine xp_cond _ rfl (fun c3 => ?_) (fun c3 => ?_)
        ·
          try simp only [decide_eq_true_eq, decide_eq_false_iff_not, Bool.not_eq_true', Bool.not_eq_false'] at c3
          try have hlt : i < xs.length := by omega
          refine xp_seq ?_
          refine xp_region ?_
          refine wl_ro (as_b rfl) rfl ?_
          refine wl_nil ?_
          refine wq_then ?_
          refine xp_ret ?_
          refine wq_in_ret ?_
          refine wq_then_ret ?_
          refine wq_then_ret ?_
          refine wq_in_ret ?_
          refine wq_then_ret ?_
          refine fq_retV rfl (.cons (rv_b rfl) .nil) _ rfl ?_
          exact congrArg Value.bool (decide_eq_false (fun e1 => c3 (by rw [e1]))).symm
        ·
          try simp only [decide_eq_true_eq, decide_eq_false_iff_not, Bool.not_eq_true', Bool.not_eq_false'] at c3
          try have hlt : i < xs.length := by omega
          refine xp_skip ?_
          refine wq_in ?_
          refine wq_then ?_
          refine xp_region ?_
          refine wl_ro (mv_i rfl) rfl ?_
          refine wl_ro (roI_add rfl rfl (by omega)) rfl ?_
          refine wl_ro (as_i rfl) rfl ?_
          refine wl_nil ?_
          refine wq_loopP (i + 1) (by omega) (by repeat (first | exact out_ovr | refine out_upd rfl ?_)) ⟨slot_i rfl (by omega), trivial⟩ ?_
          exact ⟨by omega, take_stepB htk (by omega) (by omega) (by simpa using c3)⟩
      ·
        try simp only [decide_eq_true_eq, decide_eq_false_iff_not, Bool.not_eq_true', Bool.not_eq_false'] at c2
        try have hlt : i < xs.length := by omega
        refine xp_exit ?_
        refine wq_then_exit ?_
        refine wq_then_exit ?_
        refine wq_in_here ?_
        refine wq_then ?_
        refine xp_seq ?_
        refine xp_region ?_
        refine wl_ro (as_b rfl) rfl ?_
        refine wl_nil ?_
        refine wq_then ?_
        refine xp_ret ?_
        refine fq_retV rfl (.cons (rv_b rfl) .nil) _ rfl ?_
        exact congrArg Value.bool (decide_eq_true (take_all htk (by omega) (by omega))).symm
theorem c_ref14_Same (s1 s2 : SV) (xs ys : List Trap) (hbig : xs.length ≤ 1099511627776) : CtW (fun h => SlH eTrap h s1 xs ∧ SlH eTrap h s2 ys) Tryd.prog 28 [sv s1, sv s2] (.bool (decide (xs = ys))) := by
  rintro h ⟨hA, hB⟩
  have hl1 := hA.1
  have hl2 := hB.1
  refine ctr_enter (n := 26) [sv s1, sv s2] Tryd.func28 rfl rfl rfl fun w0 => ?_
  refine xp_seq ?_
  refine xp_region ?_
  refine wl_ro (as_b rfl) rfl ?_
  refine wl_nil ?_
  refine wq_then ?_
  refine xp_seq ?_
  refine xp_seq ?_
  refine xp_region ?_
  refine wl_ro (mv_s rfl) rfl ?_
  refine wl_ro (ro_len_slice sl45 rfl) rfl ?_
  refine wl_ro (mv_s rfl) rfl ?_
  refine wl_ro (ro_len_slice sl45 rfl) rfl ?_
  refine wl_ro (roI_neq rfl rfl) rfl ?_
  refine wl_nil ?_
  refine wq_then ?_
  refine xp_cond _ rfl (fun c1 => ?_) (fun c1 => ?_)
  ·
    try simp only [decide_eq_true_eq, decide_eq_false_iff_not, Bool.not_eq_true', Bool.not_eq_false'] at c1
    try have hlt : i < xs.length := by omega
    refine xp_seq ?_
    refine xp_region ?_
    refine wl_ro (as_b rfl) rfl ?_
    refine wl_nil ?_
    refine wq_then ?_
    refine xp_ret ?_
    refine wq_then_ret ?_
    refine fq_retV rfl (.cons (rv_b rfl) .nil) _ rfl ?_
    exact congrArg Value.bool (decide_eq_false (fun e1 => c1 (by rw [hl1, hl2, e1]))).symm
  ·
    try simp only [decide_eq_true_eq, decide_eq_false_iff_not, Bool.not_eq_true', Bool.not_eq_false'] at c1
    try have hlt : i < xs.length := by omega
    refine xp_skip ?_
    refine wq_then ?_
    refine xp_seq ?_
    refine xp_seq ?_
    refine xp_region ?_
    refine wl_ro (as_i rfl) rfl ?_
    refine wl_nil ?_
    refine wq_then ?_
    refine xp_block ?_
    refine xp_loopP (ds := [])  (A := Nat) [4, 5, 11, 12, 13, 14, 15, 16, 17, 18, 19, 20, 21, 22, 23, 24, 25] (fun i => xs.length - i) (fun i => [(5, int (i : Int))]) (fun i => i ≤ xs.length ∧ xs.take i = ys.take i) 0 ⟨rfl, trivial⟩ ?_ ?_
    · exact ⟨Nat.zero_le _, rfl⟩
    · rintro i us ⟨hi, htk⟩
      refine xp_seq ?_
      refine xp_seq ?_
      refine xp_region ?_
      refine wl_ro (mv_i rfl) rfl ?_
      refine wl_ro (mv_s rfl) rfl ?_
      refine wl_ro (ro_len_slice sl45 rfl) rfl ?_
      refine wl_ro (roI_lss rfl rfl) rfl ?_
      refine wl_nil ?_
      refine wq_then ?_
      refine xp_cond _ rfl (fun c2 => ?_) (fun c2 => ?_)
      ·
        try simp only [decide_eq_true_eq, decide_eq_false_iff_not, Bool.not_eq_true', Bool.not_eq_false'] at c2
        try have hlt : i < xs.length := by omega
        refine xp_skip ?_
        refine wq_then ?_
        refine xp_seq ?_
        refine xp_block ?_
        refine xp_seq ?_
        have hll : xs.length = ys.length := by omega
        have hi1 : i < xs.length := by omega
        have hi2 : i < ys.length := by omega
        refine xp_draw [] [] mixed ?_
        refine wd_ro 0 rfl (by kernel_rfl) (mv_s rfl) rfl ?_
        refine wd_ro 1 rfl (by kernel_rfl) (mv_i rfl) rfl ?_
        refine wd_ro 2 rfl (by kernel_rfl) (ro_indexAddr_e (e := eTrap) i sl45 hA rfl rfl rfl (by omega)) rfl ?_
        refine wd_ro 3 rfl (by kernel_rfl) (ro_loadE (e := eTrap) ag65 hA rfl (by omega)) rfl ?_
        refine wd_ro 4 rfl (by kernel_rfl) (mv_s rfl) rfl ?_
        refine wd_ro 5 rfl (by kernel_rfl) (mv_i rfl) rfl ?_
        refine wd_ro 6 rfl (by kernel_rfl) (ro_indexAddr_e (e := eTrap) i sl45 hB rfl rfl rfl (by omega)) rfl ?_
        refine wd_ro 7 rfl (by kernel_rfl) (ro_loadE (e := eTrap) ag65 hB rfl (by omega)) rfl ?_
        refine wd_ro 8 rfl (by kernel_rfl) (roa_neq pe65 (eqf65 _ _ _) rfl rfl) rfl ?_
        refine wd_done (by kernel_rfl) ?_
        refine wq_then ?_
        refine xp_cond _ rfl (fun c3 => ?_) (fun c3 => ?_)
        ·
          try simp only [decide_eq_true_eq, decide_eq_false_iff_not, Bool.not_eq_true', Bool.not_eq_false'] at c3
          try have hlt : i < xs.length := by omega
          refine xp_seq ?_
          refine xp_region ?_
          refine wl_ro (as_b rfl) rfl ?_
          refine wl_nil ?_
          refine wq_then ?_
          refine xp_ret ?_
          refine wq_in_ret ?_
          refine wq_then_ret ?_
          refine wq_then_ret ?_
          refine wq_in_ret ?_
          refine wq_then_ret ?_
          refine fq_retV rfl (.cons (rv_b rfl) .nil) _ rfl ?_
          exact congrArg Value.bool (decide_eq_false (fun e1 => c3 (by simp [e1]))).symm
        ·
          try simp only [decide_eq_true_eq, decide_eq_false_iff_not, Bool.not_eq_true', Bool.not_eq_false'] at c3
          try have hlt : i < xs.length := by omega
          refine xp_skip ?_
          refine wq_in ?_
          refine wq_then ?_
          refine xp_region ?_
          refine wl_ro (mv_i rfl) rfl ?_
          refine wl_ro (roI_add rfl rfl (by omega)) rfl ?_
          refine wl_ro (as_i rfl) rfl ?_
          refine wl_nil ?_
          refine wq_loopP (i + 1) (by omega) (by repeat (first | exact out_ovr | refine out_upd rfl ?_)) ⟨slot_i rfl (by omega), trivial⟩ ?_
          exact ⟨by omega, take_step htk (by simpa [hi1, hi2] using c3)⟩
      ·
        try simp only [decide_eq_true_eq, decide_eq_false_iff_not, Bool.not_eq_true', Bool.not_eq_false'] at c2
        try have hlt : i < xs.length := by omega
        refine xp_exit ?_
        refine wq_then_exit ?_
        refine wq_then_exit ?_
        refine wq_in_here ?_
        refine wq_then ?_
        refine xp_seq ?_
        refine xp_region ?_
        refine wl_ro (as_b rfl) rfl ?_
        refine wl_nil ?_
        refine wq_then ?_
        refine xp_ret ?_
        refine fq_retV rfl (.cons (rv_b rfl) .nil) _ rfl ?_
        exact congrArg Value.bool (decide_eq_true (take_all htk (by omega) (by omega))).symm
theorem c_ref10_Few (s : MS) (mm mo : SV) : CtW (fun h => Rp h s mm mo) Tryd.prog 24 [.agg (encMachine (mach s mm mo))] (.bool (G.few s)) := by
  intro h hR
  have hl1 := hR.mem.1
  have hl2 := hR.out.1
  refine ctr_enter (n := 13) [.agg (encMachine (mach s mm mo))] Tryd.func24 rfl rfl rfl fun w0 => ?_
  refine xp_seq ?_
  refine xp_region ?_
  refine wl_s rfl (so_boxA rfl fun b1 => ?_)
  refine wl_ro (as_b rfl) rfl ?_
  refine wl_nil ?_
  refine wq_then ?_
  refine xp_seq ?_
  refine xp_region ?_
  refine wl_ro (ro_fieldAddrC 29 fb40_1 rfl rfl) rfl ?_
  refine wl_ro (ro_load sc38 rfl (by repeat (first | exact .head | apply Sel.tail)) (get_Machine_mem _)) rfl ?_
  refine wl_ro (ro_len_slice sl38 rfl) rfl ?_
  refine wl_ro (roI_leq rfl rfl) rfl ?_
  refine wl_ro (mv_b rfl) rfl ?_
  refine wl_split (dj := 7) rfl (fun g1 => ?_) (fun g1 => ?_)
  ·
    refine wl_yes rfl rfl rfl rfl rfl (yes_of g1) (so_ro (ro_fieldAddrC 31 fb40_3 rfl rfl) ?_)
    refine wl_yes rfl rfl rfl rfl rfl (yes_of g1) (so_ro (ro_load sc38 rfl (by repeat (first | exact .head | apply Sel.tail)) (get_Machine_out _)) ?_)
    refine wl_yes rfl rfl rfl rfl rfl (yes_of g1) (so_ro (ro_len_slice sl38 rfl) ?_)
    refine wl_yes rfl rfl rfl rfl rfl (yes_of g1) (so_ro (roI_leq rfl rfl) ?_)
    refine wl_ro (ro_pickT rfl g1) rfl ?_
    refine wl_ro (as_b rfl) rfl ?_
    refine wl_nil ?_
    refine wq_then ?_
    refine xp_ret ?_
    refine fq_retV rfl (.cons (rv_b rfl) .nil) _ rfl ?_
    have e1 : decide ((mm.len : Int) ≤ 600) = decide (s.mem.length ≤ 600) := by rw [decide_eq_decide]; omega
    have e2 : decide ((mo.len : Int) ≤ 600) = decide (s.out.length ≤ 600) := by rw [decide_eq_decide]; omega
    first | (simp_all [G.few]; done) | (simp_all [G.few]; omega)
  ·
    refine wl_no rfl rfl rfl rfl rfl (no_of g1) ?_
    refine wl_no rfl rfl rfl rfl rfl (no_of g1) ?_
    refine wl_no rfl rfl rfl rfl rfl (no_of g1) ?_
    refine wl_no rfl rfl rfl rfl rfl (no_of g1) ?_
    refine wl_ro (ro_pickF rfl g1) rfl ?_
    refine wl_ro (as_b rfl) rfl ?_
    refine wl_nil ?_
    refine wq_then ?_
    refine xp_ret ?_
    refine fq_retV rfl (.cons (rv_b rfl) .nil) _ rfl ?_
    have e1 : decide ((mm.len : Int) ≤ 600) = decide (s.mem.length ≤ 600) := by rw [decide_eq_decide]; omega
    have e2 : decide ((mo.len : Int) ≤ 600) = decide (s.out.length ≤ 600) := by rw [decide_eq_decide]; omega
    first | (simp_all [G.few]; done) | (simp_all [G.few]; omega)
theorem c_ref10_Same (s s2 : MS) (mm mo mm2 mo2 : SV) (hb1 : s.mem.length ≤ 1099511627776) (hb2 : s.out.length ≤ 1099511627776) : CtW (fun h => Rp h s mm mo ∧ Rp h s2 mm2 mo2) Tryd.prog 26 [.agg (encMachine (mach s mm mo)), .agg (encMachine (mach s2 mm2 mo2))] (.bool (G.same s s2)) := by
  rintro h ⟨hR, hR2⟩
  refine ctr_enter (n := 38) [.agg (encMachine (mach s mm mo)), .agg (encMachine (mach s2 mm2 mo2))] Tryd.func26 rfl rfl rfl fun w0 => ?_
  refine xp_seq ?_
  refine xp_region ?_
  refine wl_s rfl (so_boxA rfl fun b2 => ?_)
  refine wl_s rfl (so_boxA rfl fun b3 => ?_)
  refine wl_ro (as_b rfl) rfl ?_
  refine wl_nil ?_
  refine wq_then ?_
  refine xp_seq ?_
  refine xp_region ?_
  refine wl_ro (ro_fieldAddrC 0 fb40_0 rfl rfl) rfl ?_
  refine wl_ro (ro_loadA ag37 rfl (by repeat (first | exact .head | apply Sel.tail)) (by rfl) (get_Machine_core _)) rfl ?_
  refine wl_ro (ro_fieldAddrC 0 fb40_0 rfl rfl) rfl ?_
  refine wl_ro (ro_loadA ag37 rfl (by repeat (first | exact .head | apply Sel.tail)) (by rfl) (get_Machine_core _)) rfl ?_
  refine wl_ro (roa_eql pe37 (eqf37 _ _ _) rfl rfl) rfl ?_
  refine wl_ro (mv_b rfl) rfl ?_
  refine wl_split (dj := 10) rfl (fun g1 => ?_) (fun g1 => ?_)
  ·
    refine wl_yes rfl rfl rfl rfl rfl (yes_of g1) (so_ro (ro_fieldAddrC 29 fb40_1 rfl rfl) ?_)
    refine wl_yes rfl rfl rfl rfl rfl (yes_of g1) (so_ro (ro_load sc38 rfl (by repeat (first | exact .head | apply Sel.tail)) (get_Machine_mem _)) ?_)
    refine wl_yes rfl rfl rfl rfl rfl (yes_of g1) (so_ro (ro_fieldAddrC 29 fb40_1 rfl rfl) ?_)
    refine wl_yes rfl rfl rfl rfl rfl (yes_of g1) (so_ro (ro_load sc38 rfl (by repeat (first | exact .head | apply Sel.tail)) (get_Machine_mem _)) ?_)
    refine wl_yes rfl rfl rfl rfl rfl (yes_of g1) (so_callW (c_ref05_Same _ _ s.mem s2.mem hb1) (by first | exact ⟨hR.mem, hR2.mem⟩ | exact ⟨hR.out, hR2.out⟩) gb37 (by rfl) ?_)
    refine wl_ro (ro_pickT rfl g1) rfl ?_
    refine wl_ro (mv_b rfl) rfl ?_
    refine wl_split (dj := 17) rfl (fun g2 => ?_) (fun g2 => ?_)
    ·
      refine wl_yes rfl rfl rfl rfl rfl (yes_of g2) (so_ro (ro_fieldAddrC 30 fb40_2 rfl rfl) ?_)
      refine wl_yes rfl rfl rfl rfl rfl (yes_of g2) (so_ro (ro_load sc24 rfl (by repeat (first | exact .head | apply Sel.tail)) (get_Machine_time _)) ?_)
      refine wl_yes rfl rfl rfl rfl rfl (yes_of g2) (so_ro (ro_fieldAddrC 30 fb40_2 rfl rfl) ?_)
      refine wl_yes rfl rfl rfl rfl rfl (yes_of g2) (so_ro (ro_load sc24 rfl (by repeat (first | exact .head | apply Sel.tail)) (get_Machine_time _)) ?_)
      refine wl_yes rfl rfl rfl rfl rfl (yes_of g2) (so_ro (ro64_eql rfl rfl) ?_)
      refine wl_ro (ro_pickT rfl g2) rfl ?_
      refine wl_ro (mv_b rfl) rfl ?_
      refine wl_split (dj := 24) rfl (fun g3 => ?_) (fun g3 => ?_)
      ·
        refine wl_yes rfl rfl rfl rfl rfl (yes_of g3) (so_ro (ro_fieldAddrC 31 fb40_3 rfl rfl) ?_)
        refine wl_yes rfl rfl rfl rfl rfl (yes_of g3) (so_ro (ro_load sc38 rfl (by repeat (first | exact .head | apply Sel.tail)) (get_Machine_out _)) ?_)
        refine wl_yes rfl rfl rfl rfl rfl (yes_of g3) (so_ro (ro_fieldAddrC 31 fb40_3 rfl rfl) ?_)
        refine wl_yes rfl rfl rfl rfl rfl (yes_of g3) (so_ro (ro_load sc38 rfl (by repeat (first | exact .head | apply Sel.tail)) (get_Machine_out _)) ?_)
        refine wl_yes rfl rfl rfl rfl rfl (yes_of g3) (so_callW (c_ref05_Same _ _ s.out s2.out hb2) (by first | exact ⟨hR.mem, hR2.mem⟩ | exact ⟨hR.out, hR2.out⟩) gb37 (by rfl) ?_)
        refine wl_ro (ro_pickT rfl g3) rfl ?_
        refine wl_ro (mv_b rfl) rfl ?_
        refine wl_split (dj := 31) rfl (fun g4 => ?_) (fun g4 => ?_)
        ·
          refine wl_yes rfl rfl rfl rfl rfl (yes_of g4) (so_ro (ro_fieldAddrC 32 fb40_4 rfl rfl) ?_)
          refine wl_yes rfl rfl rfl rfl rfl (yes_of g4) (so_ro (ro_load sc4 rfl (by repeat (first | exact .head | apply Sel.tail)) (get_Machine_halted _)) ?_)
          refine wl_yes rfl rfl rfl rfl rfl (yes_of g4) (so_ro (ro_fieldAddrC 32 fb40_4 rfl rfl) ?_)
          refine wl_yes rfl rfl rfl rfl rfl (yes_of g4) (so_ro (ro_load sc4 rfl (by repeat (first | exact .head | apply Sel.tail)) (get_Machine_halted _)) ?_)
          refine wl_yes rfl rfl rfl rfl rfl (yes_of g4) (so_ro (rob_eql ub4 rfl rfl) ?_)
          refine wl_ro (ro_pickT rfl g4) rfl ?_
          refine wl_ro (as_b rfl) rfl ?_
          refine wl_nil ?_
          refine wq_then ?_
          refine xp_ret ?_
          refine fq_retV rfl (.cons (rv_b rfl) .nil) _ rfl ?_
          simp_all [G.same]
        ·
          refine wl_no rfl rfl rfl rfl rfl (no_of g4) ?_
          refine wl_no rfl rfl rfl rfl rfl (no_of g4) ?_
          refine wl_no rfl rfl rfl rfl rfl (no_of g4) ?_
          refine wl_no rfl rfl rfl rfl rfl (no_of g4) ?_
          refine wl_no rfl rfl rfl rfl rfl (no_of g4) ?_
          refine wl_ro (ro_pickF rfl g4) rfl ?_
          refine wl_ro (as_b rfl) rfl ?_
          refine wl_nil ?_
          refine wq_then ?_
          refine xp_ret ?_
          refine fq_retV rfl (.cons (rv_b rfl) .nil) _ rfl ?_
          simp_all [G.same]
      ·
        refine wl_no rfl rfl rfl rfl rfl (no_of g3) ?_
        refine wl_no rfl rfl rfl rfl rfl (no_of g3) ?_
        refine wl_no rfl rfl rfl rfl rfl (no_of g3) ?_
        refine wl_no rfl rfl rfl rfl rfl (no_of g3) ?_
        refine wl_no rfl rfl rfl rfl rfl (no_of g3) ?_
        refine wl_ro (ro_pickF rfl g3) rfl ?_
        refine wl_ro (mv_b rfl) rfl ?_
        refine wl_no rfl rfl rfl rfl rfl (no_of rfl) ?_
        refine wl_no rfl rfl rfl rfl rfl (no_of rfl) ?_
        refine wl_no rfl rfl rfl rfl rfl (no_of rfl) ?_
        refine wl_no rfl rfl rfl rfl rfl (no_of rfl) ?_
        refine wl_no rfl rfl rfl rfl rfl (no_of rfl) ?_
        refine wl_ro (ro_pickF rfl rfl) rfl ?_
        refine wl_ro (as_b rfl) rfl ?_
        refine wl_nil ?_
        refine wq_then ?_
        refine xp_ret ?_
        refine fq_retV rfl (.cons (rv_b rfl) .nil) _ rfl ?_
        simp_all [G.same]
    ·
      refine wl_no rfl rfl rfl rfl rfl (no_of g2) ?_
      refine wl_no rfl rfl rfl rfl rfl (no_of g2) ?_
      refine wl_no rfl rfl rfl rfl rfl (no_of g2) ?_
      refine wl_no rfl rfl rfl rfl rfl (no_of g2) ?_
      refine wl_no rfl rfl rfl rfl rfl (no_of g2) ?_
      refine wl_ro (ro_pickF rfl g2) rfl ?_
      refine wl_ro (mv_b rfl) rfl ?_
      refine wl_no rfl rfl rfl rfl rfl (no_of rfl) ?_
      refine wl_no rfl rfl rfl rfl rfl (no_of rfl) ?_
      refine wl_no rfl rfl rfl rfl rfl (no_of rfl) ?_
      refine wl_no rfl rfl rfl rfl rfl (no_of rfl) ?_
      refine wl_no rfl rfl rfl rfl rfl (no_of rfl) ?_
      refine wl_ro (ro_pickF rfl rfl) rfl ?_
      refine wl_ro (mv_b rfl) rfl ?_
      refine wl_no rfl rfl rfl rfl rfl (no_of rfl) ?_
      refine wl_no rfl rfl rfl rfl rfl (no_of rfl) ?_
      refine wl_no rfl rfl rfl rfl rfl (no_of rfl) ?_
      refine wl_no rfl rfl rfl rfl rfl (no_of rfl) ?_
      refine wl_no rfl rfl rfl rfl rfl (no_of rfl) ?_
      refine wl_ro (ro_pickF rfl rfl) rfl ?_
      refine wl_ro (as_b rfl) rfl ?_
      refine wl_nil ?_
      refine wq_then ?_
      refine xp_ret ?_
      refine fq_retV rfl (.cons (rv_b rfl) .nil) _ rfl ?_
      simp_all [G.same]
  ·
    refine wl_no rfl rfl rfl rfl rfl (no_of g1) ?_
    refine wl_no rfl rfl rfl rfl rfl (no_of g1) ?_
    refine wl_no rfl rfl rfl rfl rfl (no_of g1) ?_
    refine wl_no rfl rfl rfl rfl rfl (no_of g1) ?_
    refine wl_no rfl rfl rfl rfl rfl (no_of g1) ?_
    refine wl_ro (ro_pickF rfl g1) rfl ?_
    refine wl_ro (mv_b rfl) rfl ?_
    refine wl_no rfl rfl rfl rfl rfl (no_of rfl) ?_
    refine wl_no rfl rfl rfl rfl rfl (no_of rfl) ?_
    refine wl_no rfl rfl rfl rfl rfl (no_of rfl) ?_
    refine wl_no rfl rfl rfl rfl rfl (no_of rfl) ?_
    refine wl_no rfl rfl rfl rfl rfl (no_of rfl) ?_
    refine wl_ro (ro_pickF rfl rfl) rfl ?_
    refine wl_ro (mv_b rfl) rfl ?_
    refine wl_no rfl rfl rfl rfl rfl (no_of rfl) ?_
    refine wl_no rfl rfl rfl rfl rfl (no_of rfl) ?_
    refine wl_no rfl rfl rfl rfl rfl (no_of rfl) ?_
    refine wl_no rfl rfl rfl rfl rfl (no_of rfl) ?_
    refine wl_no rfl rfl rfl rfl rfl (no_of rfl) ?_
    refine wl_ro (ro_pickF rfl rfl) rfl ?_
    refine wl_ro (mv_b rfl) rfl ?_
    refine wl_no rfl rfl rfl rfl rfl (no_of rfl) ?_
    refine wl_no rfl rfl rfl rfl rfl (no_of rfl) ?_
    refine wl_no rfl rfl rfl rfl rfl (no_of rfl) ?_
    refine wl_no rfl rfl rfl rfl rfl (no_of rfl) ?_
    refine wl_no rfl rfl rfl rfl rfl (no_of rfl) ?_
    refine wl_ro (ro_pickF rfl rfl) rfl ?_
    refine wl_ro (as_b rfl) rfl ?_
    refine wl_nil ?_
    refine wq_then ?_
    refine xp_ret ?_
    refine fq_retV rfl (.cons (rv_b rfl) .nil) _ rfl ?_
    simp_all [G.same]
set_option maxHeartbeats 2000000 in
theorem c_law14_awake  : CtW Tb Tryd.prog 23 [] (.bool true) := by
  intro h hT
  refine ctr_enter (n := 122) [] Tryd.func23 rfl rfl rfl fun w0 => ?_
  refine xp_seq ?_
  refine xp_region ?_
  refine wl_ro (as_b rfl) rfl ?_
  refine wl_nil ?_
  refine wq_then ?_
  refine xp_seq ?_
  refine xp_region ?_
  refine wl_s rfl (so_makeSliceE (e := eByte) (z0 := 0#8) (len := 12) (cap := 12) se38 zr5 rfl rfl rfl (by decide) (by decide) (by decide) fun b15 => ?_)
  refine wl_ro (ro_buildS pl40 zr40 (build_Machine_1 (a1 := ⟨_, _, _⟩) )) rfl ?_
  refine wl_s rfl (so_allocA zr40 fun b1 => ?_)
  refine wl_s0 (so_storeA ag40 rfl rfl rfl (ones_Machine _) (by repeat (first | exact .head | apply Sel.tail)) rfl ?_)
  refine wl_nil ?_
  refine wq_then ?_
  refine xp_seq ?_
  refine xp_region ?_
  refine wl_ro (ro_fieldAddrC 0 fb40_0 rfl rfl) rfl ?_
  refine wl_ro (ro_fieldAddrC 17 fb37_2 rfl rfl) rfl ?_
  refine wl_ro (ro_indexAddr_c 0 17 ar23 rfl rfl rfl rfl) rfl ?_
  refine wl_s0 (so_store sc22 rfl rfl rfl (by repeat (first | exact .head | apply Sel.tail)) (by rfl) (set_Machine_core_csr_at _ 0 (by decide) 1#32) ?_)
  refine wl_nil ?_
  refine wq_then ?_
  refine xp_seq ?_
  refine xp_region ?_
  refine wl_ro (ro_fieldAddrC 0 fb40_0 rfl rfl) rfl ?_
  refine wl_ro (ro_fieldAddrC 17 fb37_2 rfl rfl) rfl ?_
  refine wl_ro (ro_indexAddr_c 4 21 ar23 rfl rfl rfl rfl) rfl ?_
  refine wl_s0 (so_store sc22 rfl rfl rfl (by repeat (first | exact .head | apply Sel.tail)) (by rfl) (set_Machine_core_csr_at _ 4 (by decide) 8#32) ?_)
  refine wl_nil ?_
  refine wq_then ?_
  refine xp_seq ?_
  refine xp_region ?_
  refine wl_ro (ro_fieldAddrC 29 fb40_1 rfl rfl) rfl ?_
  refine wl_ro (ro_load sc38 rfl (by repeat (first | exact .head | apply Sel.tail)) (get_Machine_mem _)) rfl ?_
  refine wl_ro (ro_indexAddr_s1 3 sl38 rfl rfl rfl (show 3 < 12 by decide)) rfl ?_
  refine wl_s0 (so_store (off := 0 + 3) (c' := encB [0#8, 0#8, 0#8, 80#8, 0#8, 0#8, 0#8, 0#8, 0#8, 0#8, 0#8, 0#8]) sc5 rfl rfl rfl (by repeat (first | exact .head | apply Sel.tail)) (by rfl) (by rfl) ?_)
  refine wl_nil ?_
  refine wq_then ?_
  refine xp_seq ?_
  refine xp_region ?_
  refine wl_ro (ro_fieldAddrC 29 fb40_1 rfl rfl) rfl ?_
  refine wl_ro (ro_load sc38 rfl (by repeat (first | exact .head | apply Sel.tail)) (get_Machine_mem _)) rfl ?_
  refine wl_ro (ro_indexAddr_s1 11 sl38 rfl rfl rfl (show 11 < 12 by decide)) rfl ?_
  refine wl_s0 (so_store (off := 0 + 11) (c' := encB [0#8, 0#8, 0#8, 80#8, 0#8, 0#8, 0#8, 0#8, 0#8, 0#8, 0#8, 96#8]) sc5 rfl rfl rfl (by repeat (first | exact .head | apply Sel.tail)) (by rfl) (by rfl) ?_)
  refine wl_nil ?_
  refine wq_then ?_
  refine xp_seq ?_
  refine xp_freeze (.tail .head) (by simp) fun hz1 hlez1 hzz1 => ?_
  replace hT := hT.mono hlez1
  have hR : Rp hz1 G.awake14 ⟨some ⟨b15, 0, none⟩, 12, 12⟩ ⟨none, 0, 0⟩ := ⟨bytes_of (zs := #[]) hzz1 (by rw [Array.append_empty]; rfl) rfl (by decide), Bytes.nil _⟩
  refine xp_region ?_
  refine wl_ro (ro_loadA ag40 rfl (by repeat (first | exact .head | apply Sel.tail)) (by rfl) (whole_Machine _)) rfl ?_
  refine wl_s rfl (so_callR (c_run_Run G.awake14 _ _ (9) (by decide) (by decide) (by decide) _ hT hR) gb25 (by rfl) fun vq2 hq2 hlq2 hpq2 => ?_)
  obtain ⟨m1, o1, rfl, hR1⟩ := hpq2
  replace hT := hT.mono hlq2
  replace hR := hR.mono hlq2
  refine wl_ro (mv_u rfl) rfl ?_
  refine wl_ro (ro_extract rfl rfl) rfl ?_
  refine wl_ro (ro_extract rfl rfl) rfl ?_
  refine wl_s rfl (so_allocA zr40 fun b2 => ?_)
  refine wl_s0 (so_storeA ag40 rfl rfl rfl (ones_Machine _) (by repeat (first | exact .head | apply Sel.tail)) rfl ?_)
  refine wl_ro (as_i rfl) rfl ?_
  refine wl_nil ?_
  refine wq_then ?_
  refine xp_seq ?_
  refine xp_region ?_
  refine wl_ro (ro_loadA ag40 rfl (by repeat (first | exact .head | apply Sel.tail)) (by rfl) (whole_Machine _)) rfl ?_
  refine wl_s rfl (so_callR (c_run_Run G.awake14 _ _ (1) (by decide) (by decide) (by decide) _ hT hR) gb25 (by rfl) fun vq3 hq3 hlq3 hpq3 => ?_)
  obtain ⟨m2, o2, rfl, hR2⟩ := hpq3
  replace hT := hT.mono hlq3
  replace hR := hR.mono hlq3
  refine wl_ro (mv_u rfl) rfl ?_
  refine wl_ro (ro_extract rfl rfl) rfl ?_
  refine wl_ro (ro_extract rfl rfl) rfl ?_
  refine wl_s rfl (so_allocA zr40 fun b4 => ?_)
  refine wl_s0 (so_storeA ag40 rfl rfl rfl (ones_Machine _) (by repeat (first | exact .head | apply Sel.tail)) rfl ?_)
  refine wl_ro (as_i rfl) rfl ?_
  refine wl_nil ?_
  refine wq_then ?_
  refine xp_seq ?_
  refine xp_region ?_
  refine wl_ro (ro_loadA ag40 rfl (by repeat (first | exact .head | apply Sel.tail)) (by rfl) (whole_Machine _)) rfl ?_
  refine wl_s rfl (so_callR (c_run_Traps G.awake14 _ _ (9) (by decide) (by decide) (by decide) _ hT hR) gb27 (by rfl) fun vq4 hq4 hlq4 hpq4 => ?_)
  obtain ⟨vT, rfl, hS⟩ := hpq4
  replace hT := hT.mono hlq4
  replace hR := hR.mono hlq4
  refine wl_ro (as_s rfl) rfl ?_
  refine wl_nil ?_
  refine wq_then ?_
  refine xp_seq ?_
  refine xp_region ?_
  refine wl_ro (ro_loadA ag40 rfl (by repeat (first | exact .head | apply Sel.tail)) (by rfl) (whole_Machine _)) rfl ?_
  refine wl_s rfl (so_callR (c_run_RunUntil G.awake14 _ _ 8#32 (9) (by decide) (by decide) (by decide) _ hT hR) gb29 (by rfl) fun vq5 hq5 hlq5 hpq5 => ?_)
  obtain ⟨m3, o3, rfl, hR3⟩ := hpq5
  replace hT := hT.mono hlq5
  replace hR := hR.mono hlq5
  replace hS := hS.mono eTrap hlq5
  refine wl_ro (mv_u rfl) rfl ?_
  refine wl_ro (ro_extract rfl rfl) rfl ?_
  refine wl_ro (ro_extract rfl rfl) rfl ?_
  refine wl_ro (ro_extract rfl rfl) rfl ?_
  refine wl_s rfl (so_allocA zr40 fun b7 => ?_)
  refine wl_s0 (so_storeA ag40 rfl rfl rfl (ones_Machine _) (by repeat (first | exact .head | apply Sel.tail)) rfl ?_)
  refine wl_ro (as_i rfl) rfl ?_
  refine wl_ro (as_b rfl) rfl ?_
  refine wl_nil ?_
  refine wq_then ?_
  refine xp_seq ?_
  refine xp_region ?_
  refine wl_ro (ro_loadA ag40 rfl (by repeat (first | exact .head | apply Sel.tail)) (by rfl) (whole_Machine _)) rfl ?_
  refine wl_s rfl (so_callR (c_run_RunUntil G.awake14 _ _ 44#32 (9) (by decide) (by decide) (by decide) _ hT hR) gb29 (by rfl) fun vq6 hq6 hlq6 hpq6 => ?_)
  obtain ⟨m4, o4, rfl, hR4⟩ := hpq6
  replace hT := hT.mono hlq6
  replace hR := hR.mono hlq6
  replace hS := hS.mono eTrap hlq6
  refine wl_ro (mv_u rfl) rfl ?_
  refine wl_ro (ro_extract rfl rfl) rfl ?_
  refine wl_ro (ro_extract rfl rfl) rfl ?_
  refine wl_ro (ro_extract rfl rfl) rfl ?_
  refine wl_s rfl (so_allocA zr40 fun b10 => ?_)
  refine wl_s0 (so_storeA ag40 rfl rfl rfl (ones_Machine _) (by repeat (first | exact .head | apply Sel.tail)) rfl ?_)
  refine wl_ro (as_i rfl) rfl ?_
  refine wl_ro (as_b rfl) rfl ?_
  refine wl_nil ?_
  refine wq_then ?_
  refine xp_seq ?_
  refine xp_region ?_
  refine wl_ro (ro_loadA ag40 rfl (by repeat (first | exact .head | apply Sel.tail)) (by rfl) (whole_Machine _)) rfl ?_
  refine wl_s rfl (so_callR (c_run_Run G.awake14 _ _ (-1) (by decide) (by decide) (by decide) _ hT hR) gb25 (by rfl) fun vq7 hq7 hlq7 hpq7 => ?_)
  obtain ⟨m5, o5, rfl, hR5⟩ := hpq7
  replace hT := hT.mono hlq7
  replace hR := hR.mono hlq7
  replace hS := hS.mono eTrap hlq7
  have hlen : 0 < (G.trapsTo G.awake14 (G.runLen G.awake14 (9 : Int).toNat)).length := of_decide_eq_true (by kernel_rfl)
  refine wl_ro (mv_u rfl) rfl ?_
  refine wl_ro (ro_extract rfl rfl) rfl ?_
  refine wl_ro (ro_extract rfl rfl) rfl ?_
  refine wl_s rfl (so_allocA zr40 fun b13 => ?_)
  refine wl_s0 (so_storeA ag40 rfl rfl rfl (ones_Machine _) (by repeat (first | exact .head | apply Sel.tail)) rfl ?_)
  refine wl_ro (as_i rfl) rfl ?_
  refine wl_nil ?_
  refine wq_then ?_
  refine xp_seq ?_
  refine xp_region ?_
  refine wl_ro (mv_i rfl) rfl ?_
  refine wl_ro (roI_eql rfl rfl) rfl ?_
  refine wl_ro (mv_b rfl) rfl ?_
  refine wl_yes rfl rfl rfl rfl rfl (yes_of (by kernel_rfl)) (so_ro (ro_fieldAddrC 32 fb40_4 rfl rfl) ?_)
  refine wl_yes rfl rfl rfl rfl rfl (yes_of (by kernel_rfl)) (so_ro (ro_load sc4 rfl (by repeat (first | exact .head | apply Sel.tail)) (get_Machine_halted _)) ?_)
  refine wl_ro (ro_pickT rfl (by kernel_rfl)) rfl ?_
  refine wl_ro (mv_b rfl) rfl ?_
  refine wl_yes rfl rfl rfl rfl rfl (yes_of (by kernel_rfl)) (so_ro (ro_fieldAddrC 30 fb40_2 rfl rfl) ?_)
  refine wl_yes rfl rfl rfl rfl rfl (yes_of (by kernel_rfl)) (so_ro (ro_load sc24 rfl (by repeat (first | exact .head | apply Sel.tail)) (get_Machine_time _)) ?_)
  refine wl_yes rfl rfl rfl rfl rfl (yes_of (by kernel_rfl)) (so_ro (ro64_eql (b := 2#64) rfl rfl) ?_)
  refine wl_ro (ro_pickT rfl (by kernel_rfl)) rfl ?_
  refine wl_ro (mv_b rfl) rfl ?_
  refine wl_yes rfl rfl rfl rfl rfl (yes_of (by kernel_rfl)) (so_ro (ro_fieldAddrC 0 fb40_0 rfl rfl) ?_)
  refine wl_yes rfl rfl rfl rfl rfl (yes_of (by kernel_rfl)) (so_ro (ro_fieldAddrC 16 fb37_1 rfl rfl) ?_)
  refine wl_yes rfl rfl rfl rfl rfl (yes_of (by kernel_rfl)) (so_ro (ro_load sc22 rfl (by repeat (first | exact .head | apply Sel.tail)) (get_Machine_core_pc _)) ?_)
  refine wl_yes rfl rfl rfl rfl rfl (yes_of (by kernel_rfl)) (so_ro (ro32_eql (b := 12#32) rfl rfl) ?_)
  refine wl_ro (ro_pickT rfl (by kernel_rfl)) rfl ?_
  refine wl_ro (mv_b rfl) rfl ?_
  refine wl_yes rfl rfl rfl rfl rfl (yes_of (by kernel_rfl)) (so_ro (mv_i rfl) ?_)
  refine wl_yes rfl rfl rfl rfl rfl (yes_of (by kernel_rfl)) (so_ro (roI_eql rfl rfl) ?_)
  refine wl_ro (ro_pickT rfl (by kernel_rfl)) rfl ?_
  refine wl_ro (mv_b rfl) rfl ?_
  refine wl_yes rfl rfl rfl rfl rfl (yes_of (by kernel_rfl)) (so_ro (ro_fieldAddrC 0 fb40_0 rfl rfl) ?_)
  refine wl_yes rfl rfl rfl rfl rfl (yes_of (by kernel_rfl)) (so_ro (ro_fieldAddrC 16 fb37_1 rfl rfl) ?_)
  refine wl_yes rfl rfl rfl rfl rfl (yes_of (by kernel_rfl)) (so_ro (ro_load sc22 rfl (by repeat (first | exact .head | apply Sel.tail)) (get_Machine_core_pc _)) ?_)
  refine wl_yes rfl rfl rfl rfl rfl (yes_of (by kernel_rfl)) (so_ro (ro32_eql (b := 8#32) rfl rfl) ?_)
  refine wl_ro (ro_pickT rfl (by kernel_rfl)) rfl ?_
  refine wl_ro (mv_b rfl) rfl ?_
  refine wl_yes rfl rfl rfl rfl rfl (yes_of (by kernel_rfl)) (so_ro (mv_s rfl) ?_)
  refine wl_yes rfl rfl rfl rfl rfl (yes_of (by kernel_rfl)) (so_ro (ro_len_slice sl45 rfl) ?_)
  refine wl_yes rfl rfl rfl rfl rfl (yes_of (by kernel_rfl)) (so_ro (roI_eql rfl rfl) ?_)
  refine wl_ro (ro_pickT rfl (by kernel_rfl)) rfl ?_
  refine wl_ro (mv_b rfl) rfl ?_
  refine wl_yes rfl rfl rfl rfl rfl (yes_of (by rw [hS.1]; kernel_rfl)) (so_ro (mv_s rfl) ?_)
  refine wl_yes rfl rfl rfl rfl rfl (yes_of (by rw [hS.1]; kernel_rfl)) (so_ro (ro_indexAddr_e (e := eTrap) 0 sl45 hS rfl rfl rfl hlen) ?_)
  refine wl_yes rfl rfl rfl rfl rfl (yes_of (by rw [hS.1]; kernel_rfl)) (so_ro (ro_fieldAddr_e (e := eTrap) fb65_0 hS rfl hlen) ?_)
  refine wl_yes rfl rfl rfl rfl rfl (yes_of (by rw [hS.1]; kernel_rfl)) (so_ro (ro_loadEF (e := eTrap) sc3 hS rfl hlen (get_Trap_cause _)) ?_)
  refine wl_yes rfl rfl rfl rfl rfl (yes_of (by rw [hS.1]; kernel_rfl)) (so_ro (roI_eql rfl rfl) ?_)
  refine wl_ro (ro_pickT rfl (by rw [hS.1]; kernel_rfl)) rfl ?_
  refine wl_ro (mv_b rfl) rfl ?_
  refine wl_yes rfl rfl rfl rfl rfl (yes_of (by kernel_rfl)) (so_ro (mv_i rfl) ?_)
  refine wl_yes rfl rfl rfl rfl rfl (yes_of (by kernel_rfl)) (so_ro (roI_eql rfl rfl) ?_)
  refine wl_ro (ro_pickT rfl (by kernel_rfl)) rfl ?_
  refine wl_ro (mv_b rfl) rfl ?_
  refine wl_yes rfl rfl rfl rfl rfl (yes_of (by kernel_rfl)) (so_ro (mv_b rfl) ?_)
  refine wl_ro (ro_pickT rfl (by kernel_rfl)) rfl ?_
  refine wl_ro (mv_b rfl) rfl ?_
  refine wl_yes rfl rfl rfl rfl rfl (yes_of (by kernel_rfl)) (so_ro (ro_fieldAddrC 0 fb40_0 rfl rfl) ?_)
  refine wl_yes rfl rfl rfl rfl rfl (yes_of (by kernel_rfl)) (so_ro (ro_fieldAddrC 16 fb37_1 rfl rfl) ?_)
  refine wl_yes rfl rfl rfl rfl rfl (yes_of (by kernel_rfl)) (so_ro (ro_load sc22 rfl (by repeat (first | exact .head | apply Sel.tail)) (get_Machine_core_pc _)) ?_)
  refine wl_yes rfl rfl rfl rfl rfl (yes_of (by kernel_rfl)) (so_ro (ro32_eql (b := 8#32) rfl rfl) ?_)
  refine wl_ro (ro_pickT rfl (by kernel_rfl)) rfl ?_
  refine wl_ro (mv_b rfl) rfl ?_
  refine wl_yes rfl rfl rfl rfl rfl (yes_of (by kernel_rfl)) (so_ro (mv_i rfl) ?_)
  refine wl_yes rfl rfl rfl rfl rfl (yes_of (by kernel_rfl)) (so_ro (roI_eql rfl rfl) ?_)
  refine wl_ro (ro_pickT rfl (by kernel_rfl)) rfl ?_
  refine wl_ro (mv_b rfl) rfl ?_
  refine wl_yes rfl rfl rfl rfl rfl (yes_of (by kernel_rfl)) (so_ro (mv_b rfl) ?_)
  refine wl_yes rfl rfl rfl rfl rfl (yes_of (by kernel_rfl)) (so_ro (ro_not rfl) ?_)
  refine wl_ro (ro_pickT rfl (by kernel_rfl)) rfl ?_
  refine wl_ro (mv_b rfl) rfl ?_
  refine wl_yes rfl rfl rfl rfl rfl (yes_of (by kernel_rfl)) (so_ro (mv_i rfl) ?_)
  refine wl_yes rfl rfl rfl rfl rfl (yes_of (by kernel_rfl)) (so_ro (roI_eql rfl rfl) ?_)
  refine wl_ro (ro_pickT rfl (by kernel_rfl)) rfl ?_
  refine wl_ro (as_b rfl) rfl ?_
  refine wl_nil ?_
  refine wq_then ?_
  refine xp_ret ?_
  refine fq_retV rfl (.cons (rv_b rfl) .nil) _ rfl ?_
  exact congrArg Value.bool (by kernel_rfl)
end Go.Proofs.YtnikheoiciokhaaDoor
