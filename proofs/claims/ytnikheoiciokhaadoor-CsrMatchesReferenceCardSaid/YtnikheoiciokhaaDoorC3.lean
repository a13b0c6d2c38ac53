/-
  CONTRACTS OF GO FUNCTIONS (printed by gen.py, own work).
-/
import Derived.Test.YtnikheoiciokhaaDoorC2
namespace Go.Proofs.YtnikheoiciokhaaDoor
open Go Go.Sx
set_option linter.unusedVariables false
set_option maxRecDepth 20000
set_option linter.unusedSimpArgs false

theorem c_slices_Index_string_string (s : ByteArray) : CtW TbN Tryd.prog 32 [.slice (some ⟨0, 0, none⟩) 12 12, .string s] (int (G.csrIndex s)) := by
  intro h hT
  refine ctr_enter (n := 19) [.slice (some ⟨0, 0, none⟩) 12 12, .string s] Tryd.func32 rfl rfl rfl fun w0 => ?_
  refine xp_seq ?_
  refine xp_region ?_
  refine wl_ro (as_i rfl) rfl ?_
  refine wl_nil ?_
  refine wq_then ?_
  refine xp_seq ?_
  refine xp_seq ?_
  refine xp_region ?_
  refine wl_ro (mv_s rfl) rfl ?_
  refine wl_ro (ro_len_slice sl59 rfl) rfl ?_
  refine wl_ro (mv_i rfl) rfl ?_
  refine wl_nil ?_
  refine wq_then ?_
  refine xp_block ?_
  refine xp_loopP (ds := [])  (A := Nat) [4, 5, 8, 9, 10, 11, 12, 13, 14, 15, 16, 17, 18] (fun i => 12 - i) (fun i => [(8, int (i : Int))]) (fun i => i ≤ 12 ∧ G.findFrom G.csrNameAt s (12 - i) i = G.csrIndex s) 0 ⟨rfl, trivial⟩ ?_ ?_
  · exact ⟨by omega, rfl⟩
  · rintro i us ⟨hi, hf⟩
    refine xp_seq ?_
    refine xp_region ?_
    refine wl_ro (roI_lss rfl rfl) rfl ?_
    refine wl_nil ?_
    refine wq_then ?_
    refine xp_seq ?_
    refine xp_cond _ rfl (fun c1 => ?_) (fun c1 => ?_)
    ·
      try simp only [decide_eq_true_eq, decide_eq_false_iff_not] at c1
      try have hlt : i < 12 := by omega
      refine xp_skip ?_
      refine wq_then ?_
      refine xp_seq ?_
      refine xp_block ?_
      refine xp_seq ?_
      refine xp_region ?_
      refine wl_ro (mv_i rfl) rfl ?_
      refine wl_ro (as_i rfl) rfl ?_
      refine wl_nil ?_
      refine wq_then ?_
      refine xp_seq ?_
      refine xp_region ?_
      refine wl_ro (mv_t rfl) rfl ?_
      refine wl_ro (mv_s rfl) rfl ?_
      refine wl_ro (mv_i rfl) rfl ?_
      refine wl_ro (ro_indexAddr_s1 i sl59 rfl rfl rfl (by omega)) rfl ?_
      refine wl_ro (ro_tabS sc9 rfl hT.names (by omega)) rfl ?_
      refine wl_ro (ros_eql rfl rfl) rfl ?_
      refine wl_nil ?_
      refine wq_then ?_
      refine xp_cond _ rfl (fun c2 => ?_) (fun c2 => ?_)
      ·
        try simp only [decide_eq_true_eq, decide_eq_false_iff_not] at c2
        try have hlt : i < 12 := by omega
        refine xp_seq ?_
        refine xp_region ?_
        refine wl_ro (mv_i rfl) rfl ?_
        refine wl_ro (as_i rfl) rfl ?_
        refine wl_nil ?_
        refine wq_then ?_
        refine xp_ret ?_
        refine wq_in_ret ?_
        refine wq_then_ret ?_
        refine wq_then_ret ?_
        refine wq_in_ret ?_
        refine wq_then_ret ?_
        refine fq_retV rfl (.cons (rv_i rfl) .nil) _ rfl ?_
        first | (rw [← hf, show 12 - i = (12 - (i + 1)) + 1 by omega]; simp_all [G.findFrom]; done) | (rw [← hf, show 12 - i = 0 by omega]; simp_all [G.findFrom])
      ·
        try simp only [decide_eq_true_eq, decide_eq_false_iff_not] at c2
        try have hlt : i < 12 := by omega
        refine xp_skip ?_
        refine wq_in ?_
        refine wq_then ?_
        refine xp_region ?_
        refine wl_ro (roI_add rfl rfl (by omega)) rfl ?_
        refine wl_ro (mv_i rfl) rfl ?_
        refine wl_nil ?_
        refine wq_loopP (i + 1) (by omega) (by repeat (first | exact out_ovr | refine out_upd rfl ?_)) ⟨slot_i rfl (by omega), trivial⟩ ?_
        exact ⟨by omega, by rw [← hf, show 12 - i = (12 - (i + 1)) + 1 by omega]; simp_all [G.findFrom]⟩
    ·
      try simp only [decide_eq_true_eq, decide_eq_false_iff_not] at c1
      try have hlt : i < 12 := by omega
      refine xp_exit ?_
      refine wq_then_exit ?_
      refine wq_then_exit ?_
      refine wq_in_here ?_
      refine wq_then ?_
      refine xp_seq ?_
      refine xp_region ?_
      refine wl_ro (as_i rfl) rfl ?_
      refine wl_nil ?_
      refine wq_then ?_
      refine xp_ret ?_
      refine fq_retV rfl (.cons (rv_i rfl) .nil) _ rfl ?_
      first | (rw [← hf, show 12 - i = (12 - (i + 1)) + 1 by omega]; simp_all [G.findFrom]; done) | (rw [← hf, show 12 - i = 0 by omega]; simp_all [G.findFrom])
theorem c_csr_Number (s : ByteArray) : CtW TbN Tryd.prog 10 [.string s] (.tuple #[int (G.csrNumber s).1, .bool (G.csrNumber s).2]) := by
  intro h hT
  refine ctr_enter (n := 12) [.string s] Tryd.func10 rfl rfl rfl fun w0 => ?_
  refine xp_seq ?_
  refine xp_region ?_
  refine wl_ro (as_i rfl) rfl ?_
  refine wl_ro (as_b rfl) rfl ?_
  refine wl_nil ?_
  refine wq_then ?_
  refine xp_seq ?_
  refine xp_region ?_
  refine wl_ro (ro_sliceArr ar60 rfl) rfl ?_
  refine wl_ro (mv_t rfl) rfl ?_
  refine wl_s rfl (so_callW (c_slices_Index_string_string _) (by first | assumption | exact TbN.mono (by assumption) (by assumption) | exact TbN.mono (TbN.mono (by assumption) (by assumption)) (by assumption)) gb32 (by rfl) ?_)
  refine wl_ro (as_i rfl) rfl ?_
  refine wl_nil ?_
  refine wq_then ?_
  refine xp_seq ?_
  refine xp_region ?_
  refine wl_ro (mv_i rfl) rfl ?_
  refine wl_ro (ro_max rfl rfl) rfl ?_
  refine wl_ro (mv_i rfl) rfl ?_
  refine wl_ro (roI_geq rfl rfl) rfl ?_
  refine wl_ro (as_i rfl) rfl ?_
  refine wl_ro (as_b rfl) rfl ?_
  refine wl_nil ?_
  refine wq_then ?_
  refine xp_ret ?_
  refine fq_retV rfl (.cons (rv_i rfl) (.cons (rv_b rfl) .nil)) _ rfl ?_
  rfl
theorem c_csr_Name (n : Int) : CtW TbN Tryd.prog 12 [int n] (.string (G.csrName n)) := by
  intro h hT
  refine ctr_enter (n := 9) [int n] Tryd.func12 rfl rfl rfl fun w0 => ?_
  refine xp_seq ?_
  refine xp_region ?_
  refine wl_ro (as_t rfl) rfl ?_
  refine wl_nil ?_
  refine wq_then ?_
  refine xp_seq ?_
  refine xp_seq ?_
  refine xp_region ?_
  refine wl_ro (mv_i rfl) rfl ?_
  refine wl_s rfl (so_callV (c_csr_is _) gb33 (by rfl) ?_)
  refine wl_ro (ro_not rfl) rfl ?_
  refine wl_nil ?_
  refine wq_then ?_
  refine xp_cond _ rfl (fun c1 => ?_) (fun c1 => ?_)
  ·
    refine xp_seq ?_
    refine xp_region ?_
    refine wl_ro (as_t rfl) rfl ?_
    refine wl_nil ?_
    refine wq_then ?_
    refine xp_ret ?_
    refine wq_then_ret ?_
    refine fq_retV rfl (.cons (rv_t rfl) .nil) _ rfl ?_
    simp_all [G.csrName]
  ·
    refine xp_skip ?_
    refine wq_then ?_
    refine xp_seq ?_
    have hn := G.csrIs_nf c1
    refine xp_region ?_
    refine wl_ro (mv_i rfl) rfl ?_
    refine wl_ro (ro_indexAddr_w ar60 rfl rfl hn.1 hn.2) rfl ?_
    refine wl_ro (ro_tabS sc9 rfl hT.names (by omega)) rfl ?_
    refine wl_ro (as_t rfl) rfl ?_
    refine wl_nil ?_
    refine wq_then ?_
    refine xp_ret ?_
    refine fq_retV rfl (.cons (rv_t rfl) .nil) _ rfl ?_
    simp_all [G.csrName]
theorem c_ref04_Name (n : Int) : CtV Tryd.prog 11 [int n] (.string (G.refName n)) := by
  intro h
  refine ctr_enter (n := 15) [int n] Tryd.func11 rfl rfl rfl fun w0 => ?_
  refine xp_seq ?_
  refine xp_region ?_
  refine wl_ro (as_t rfl) rfl ?_
  refine wl_nil ?_
  refine wq_then ?_
  refine xp_seq ?_
  refine xp_region ?_
  refine wl_s rfl (so_buildSliceC (cs := G.csrNameC) se59 zr9 rfl rfl (by kernel_rfl) fun b => ?_)
  refine wl_ro (as_s rfl) rfl ?_
  refine wl_nil ?_
  refine wq_then ?_
  refine xp_seq ?_
  refine xp_seq ?_
  refine xp_region ?_
  refine wl_ro (mv_i rfl) rfl ?_
  refine wl_ro (roI_lss rfl rfl) rfl ?_
  refine wl_ro (mv_b rfl) rfl ?_
  refine wl_split (dj := 7) rfl (fun g1 => ?_) (fun g1 => ?_)
  ·
    refine wl_no rfl rfl rfl rfl rfl (no_of g1) ?_
    refine wl_no rfl rfl rfl rfl rfl (no_of g1) ?_
    refine wl_ro (ro_pickT rfl g1) rfl ?_
    refine wl_nil ?_
    refine wq_then ?_
    refine xp_condT rfl rfl ?_
    refine xp_seq ?_
    refine xp_region ?_
    refine wl_ro (as_t rfl) rfl ?_
    refine wl_nil ?_
    refine wq_then ?_
    refine xp_ret ?_
    refine wq_then_ret ?_
    refine fq_retV rfl (.cons (rv_t rfl) .nil) _ rfl ?_
    simp_all [G.refName] <;> omega
  ·
    refine wl_yes rfl rfl rfl rfl rfl (yes_of g1) (so_ro (mv_i rfl) ?_)
    refine wl_yes rfl rfl rfl rfl rfl (yes_of g1) (so_ro (roI_gtr rfl rfl) ?_)
    refine wl_ro (ro_pickF rfl g1) rfl ?_
    refine wl_nil ?_
    refine wq_then ?_
    refine xp_cond _ rfl (fun c2 => ?_) (fun c2 => ?_)
    ·
      refine xp_seq ?_
      refine xp_region ?_
      refine wl_ro (as_t rfl) rfl ?_
      refine wl_nil ?_
      refine wq_then ?_
      refine xp_ret ?_
      refine wq_then_ret ?_
      refine fq_retV rfl (.cons (rv_t rfl) .nil) _ rfl ?_
      simp_all [G.refName] <;> omega
    ·
      refine xp_skip ?_
      refine wq_then ?_
      refine xp_seq ?_
      have hn : 0 ≤ n ∧ n < 12 := by simp_all <;> omega
      refine xp_region ?_
      refine wl_ro (mv_s rfl) rfl ?_
      refine wl_ro (mv_i rfl) rfl ?_
      refine wl_ro (ro_indexAddr_s1 n.toNat sl59 rfl rfl (by omega) (by omega)) rfl ?_
      refine wl_ro (ro_load sc9 rfl (by repeat (first | exact .head | apply Sel.tail)) (G.csrNameC_at _ (by omega))) rfl ?_
      refine wl_ro (as_t rfl) rfl ?_
      refine wl_nil ?_
      refine wq_then ?_
      refine xp_ret ?_
      refine fq_retV rfl (.cons (rv_t rfl) .nil) _ rfl ?_
      simp_all [G.refName] <;> omega
theorem c_ref04_Writable (n bit : Int) : CtV Tryd.prog 35 [int n, int bit] (.bool (G.refWritable n bit)) := by
  intro h
  refine ctr_enter (n := 27) [int n, int bit] Tryd.func35 rfl rfl rfl fun w0 => ?_
  refine xp_seq ?_
  refine xp_region ?_
  refine wl_ro (as_b rfl) rfl ?_
  refine wl_nil ?_
  refine wq_then ?_
  refine xp_seq ?_
  refine xp_seq ?_
  refine xp_region ?_
  refine wl_ro (mv_i rfl) rfl ?_
  refine wl_nil ?_
  refine wq_then ?_
  refine xp_block ?_
  refine xp_seq ?_
  refine xp_region ?_
  refine wl_ro (roI_eql rfl rfl) rfl ?_
  refine wl_ro (as_b rfl) rfl ?_
  refine wl_nil ?_
  refine wq_then ?_
  refine xp_cond _ rfl (fun c1 => ?_) (fun c1 => ?_)
  ·
    refine xp_seq ?_
    refine xp_region ?_
    refine wl_ro (mv_i rfl) rfl ?_
    refine wl_ro (roI_geq rfl rfl) rfl ?_
    refine wl_ro (mv_b rfl) rfl ?_
    refine wl_split (dj := 10) rfl (fun g2 => ?_) (fun g2 => ?_)
    ·
      refine wl_yes rfl rfl rfl rfl rfl (yes_of g2) (so_ro (mv_i rfl) ?_)
      refine wl_yes rfl rfl rfl rfl rfl (yes_of g2) (so_ro (roI_leq rfl rfl) ?_)
      refine wl_ro (ro_pickT rfl g2) rfl ?_
      refine wl_ro (as_b rfl) rfl ?_
      refine wl_nil ?_
      refine wq_then ?_
      refine xp_ret ?_
      refine wq_in_ret ?_
      refine wq_then_ret ?_
      refine fq_retV rfl (.cons (rv_b rfl) .nil) _ rfl ?_
      simp_all [G.refWritable] <;> omega
    ·
      refine wl_no rfl rfl rfl rfl rfl (no_of g2) ?_
      refine wl_no rfl rfl rfl rfl rfl (no_of g2) ?_
      refine wl_ro (ro_pickF rfl g2) rfl ?_
      refine wl_ro (as_b rfl) rfl ?_
      refine wl_nil ?_
      refine wq_then ?_
      refine xp_ret ?_
      refine wq_in_ret ?_
      refine wq_then_ret ?_
      refine fq_retV rfl (.cons (rv_b rfl) .nil) _ rfl ?_
      simp_all [G.refWritable] <;> omega
  ·
    refine xp_seq ?_
    refine xp_seq ?_
    refine xp_region ?_
    refine wl_ro (roI_eql rfl rfl) rfl ?_
    refine wl_ro (as_b rfl) rfl ?_
    refine wl_nil ?_
    refine wq_then ?_
    refine xp_cond _ rfl (fun c3 => ?_) (fun c3 => ?_)
    ·
      refine xp_skip ?_
      refine wq_then ?_
      refine xp_condT rfl c3 ?_
      refine xp_seq ?_
      refine xp_region ?_
      refine wl_ro (mv_i rfl) rfl ?_
      refine wl_ro (roI_geq rfl rfl) rfl ?_
      refine wl_ro (as_b rfl) rfl ?_
      refine wl_nil ?_
      refine wq_then ?_
      refine xp_ret ?_
      refine wq_in_ret ?_
      refine wq_then_ret ?_
      refine fq_retV rfl (.cons (rv_b rfl) .nil) _ rfl ?_
      simp_all [G.refWritable] <;> omega
    ·
      refine xp_seq ?_
      refine xp_region ?_
      refine wl_ro (roI_eql rfl rfl) rfl ?_
      refine wl_ro (as_b rfl) rfl ?_
      refine wl_nil ?_
      refine wq_then ?_
      refine xp_cond _ rfl (fun c4 => ?_) (fun c4 => ?_)
      ·
        refine xp_skip ?_
        refine wq_then ?_
        refine xp_condT rfl c4 ?_
        refine xp_seq ?_
        refine xp_region ?_
        refine wl_ro (mv_i rfl) rfl ?_
        refine wl_ro (roI_geq rfl rfl) rfl ?_
        refine wl_ro (as_b rfl) rfl ?_
        refine wl_nil ?_
        refine wq_then ?_
        refine xp_ret ?_
        refine wq_in_ret ?_
        refine wq_then_ret ?_
        refine fq_retV rfl (.cons (rv_b rfl) .nil) _ rfl ?_
        simp_all [G.refWritable] <;> omega
      ·
        refine xp_region ?_
        refine wl_ro (roI_eql rfl rfl) rfl ?_
        refine wl_ro (as_b rfl) rfl ?_
        refine wl_nil ?_
        refine wq_then ?_
        refine xp_cond _ rfl (fun c5 => ?_) (fun c5 => ?_)
        ·
          refine xp_seq ?_
          refine xp_region ?_
          refine wl_ro (mv_i rfl) rfl ?_
          refine wl_ro (roI_geq rfl rfl) rfl ?_
          refine wl_ro (as_b rfl) rfl ?_
          refine wl_nil ?_
          refine wq_then ?_
          refine xp_ret ?_
          refine wq_in_ret ?_
          refine wq_then_ret ?_
          refine fq_retV rfl (.cons (rv_b rfl) .nil) _ rfl ?_
          simp_all [G.refWritable] <;> omega
        ·
          refine xp_seq ?_
          refine xp_seq ?_
          refine xp_region ?_
          refine wl_ro (roI_eql rfl rfl) rfl ?_
          refine wl_ro (as_b rfl) rfl ?_
          refine wl_nil ?_
          refine wq_then ?_
          refine xp_cond _ rfl (fun c6 => ?_) (fun c6 => ?_)
          ·
            refine xp_skip ?_
            refine wq_then ?_
            refine xp_condT rfl c6 ?_
            refine xp_seq ?_
            refine xp_region ?_
            refine wl_ro (as_b rfl) rfl ?_
            refine wl_nil ?_
            refine wq_then ?_
            refine xp_ret ?_
            refine wq_in_ret ?_
            refine wq_then_ret ?_
            refine fq_retV rfl (.cons (rv_b rfl) .nil) _ rfl ?_
            simp_all [G.refWritable] <;> omega
          ·
            refine xp_seq ?_
            refine xp_region ?_
            refine wl_ro (roI_eql rfl rfl) rfl ?_
            refine wl_ro (as_b rfl) rfl ?_
            refine wl_nil ?_
            refine wq_then ?_
            refine xp_cond _ rfl (fun c7 => ?_) (fun c7 => ?_)
            ·
              refine xp_skip ?_
              refine wq_then ?_
              refine xp_condT rfl c7 ?_
              refine xp_seq ?_
              refine xp_region ?_
              refine wl_ro (as_b rfl) rfl ?_
              refine wl_nil ?_
              refine wq_then ?_
              refine xp_ret ?_
              refine wq_in_ret ?_
              refine wq_then_ret ?_
              refine fq_retV rfl (.cons (rv_b rfl) .nil) _ rfl ?_
              simp_all [G.refWritable] <;> omega
            ·
              refine xp_seq ?_
              refine xp_region ?_
              refine wl_ro (roI_eql rfl rfl) rfl ?_
              refine wl_ro (as_b rfl) rfl ?_
              refine wl_nil ?_
              refine wq_then ?_
              refine xp_cond _ rfl (fun c8 => ?_) (fun c8 => ?_)
              ·
                refine xp_skip ?_
                refine wq_then ?_
                refine xp_condT rfl c8 ?_
                refine xp_seq ?_
                refine xp_region ?_
                refine wl_ro (as_b rfl) rfl ?_
                refine wl_nil ?_
                refine wq_then ?_
                refine xp_ret ?_
                refine wq_in_ret ?_
                refine wq_then_ret ?_
                refine fq_retV rfl (.cons (rv_b rfl) .nil) _ rfl ?_
                simp_all [G.refWritable] <;> omega
              ·
                refine xp_seq ?_
                refine xp_region ?_
                refine wl_ro (roI_eql rfl rfl) rfl ?_
                refine wl_ro (as_b rfl) rfl ?_
                refine wl_nil ?_
                refine wq_then ?_
                refine xp_cond _ rfl (fun c9 => ?_) (fun c9 => ?_)
                ·
                  refine xp_skip ?_
                  refine wq_then ?_
                  refine xp_condT rfl c9 ?_
                  refine xp_seq ?_
                  refine xp_region ?_
                  refine wl_ro (as_b rfl) rfl ?_
                  refine wl_nil ?_
                  refine wq_then ?_
                  refine xp_ret ?_
                  refine wq_in_ret ?_
                  refine wq_then_ret ?_
                  refine fq_retV rfl (.cons (rv_b rfl) .nil) _ rfl ?_
                  simp_all [G.refWritable] <;> omega
                ·
                  refine xp_seq ?_
                  refine xp_region ?_
                  refine wl_ro (roI_eql rfl rfl) rfl ?_
                  refine wl_ro (as_b rfl) rfl ?_
                  refine wl_nil ?_
                  refine wq_then ?_
                  refine xp_cond _ rfl (fun c10 => ?_) (fun c10 => ?_)
                  ·
                    refine xp_skip ?_
                    refine wq_then ?_
                    refine xp_condT rfl c10 ?_
                    refine xp_seq ?_
                    refine xp_region ?_
                    refine wl_ro (as_b rfl) rfl ?_
                    refine wl_nil ?_
                    refine wq_then ?_
                    refine xp_ret ?_
                    refine wq_in_ret ?_
                    refine wq_then_ret ?_
                    refine fq_retV rfl (.cons (rv_b rfl) .nil) _ rfl ?_
                    simp_all [G.refWritable] <;> omega
                  ·
                    refine xp_region ?_
                    refine wl_ro (roI_eql rfl rfl) rfl ?_
                    refine wl_ro (as_b rfl) rfl ?_
                    refine wl_nil ?_
                    refine wq_then ?_
                    refine xp_cond _ rfl (fun c11 => ?_) (fun c11 => ?_)
                    ·
                      refine xp_seq ?_
                      refine xp_region ?_
                      refine wl_ro (as_b rfl) rfl ?_
                      refine wl_nil ?_
                      refine wq_then ?_
                      refine xp_ret ?_
                      refine wq_in_ret ?_
                      refine wq_then_ret ?_
                      refine fq_retV rfl (.cons (rv_b rfl) .nil) _ rfl ?_
                      simp_all [G.refWritable] <;> omega
                    ·
                      refine xp_skip ?_
                      refine wq_in ?_
                      refine wq_then ?_
                      refine xp_seq ?_
                      refine xp_region ?_
                      refine wl_ro (as_b rfl) rfl ?_
                      refine wl_nil ?_
                      refine wq_then ?_
                      refine xp_ret ?_
                      refine fq_retV rfl (.cons (rv_b rfl) .nil) _ rfl ?_
                      simp_all [G.refWritable] <;> omega
theorem c_ref04_Mask (n : Int) : CtV Tryd.prog 14 [int n] (u32 (G.refMask n)) := by
  intro h
  refine ctr_enter (n := 19) [int n] Tryd.func14 rfl rfl rfl fun w0 => ?_
  refine xp_seq ?_
  refine xp_region ?_
  refine wl_ro (as_32 (a := 0#32) rfl) rfl ?_
  refine wl_nil ?_
  refine wq_then ?_
  refine xp_seq ?_
  refine xp_region ?_
  refine wl_ro (as_32 (a := 0#32) rfl) rfl ?_
  refine wl_nil ?_
  refine wq_then ?_
  refine xp_seq ?_
  refine xp_region ?_
  refine wl_ro (as_32 (a := 1#32) rfl) rfl ?_
  refine wl_nil ?_
  refine wq_then ?_
  refine xp_seq ?_
  refine xp_seq ?_
  refine xp_region ?_
  refine wl_ro (as_i rfl) rfl ?_
  refine wl_nil ?_
  refine wq_then ?_
  refine xp_block ?_
  refine xp_loopP (ds := [])  (A := Nat) [3, 4, 5, 6, 7, 8, 9, 10, 11, 12, 13, 14, 15, 16, 17] (fun i => 32 - i) (fun i => [(3, u32 (G.refMaskAt n i)), (4, u32 (G.pw i)), (5, int (i : Int))]) (fun i => i ≤ 32) 0 ⟨rfl, rfl, rfl, trivial⟩ ?_ ?_
  · omega
  · intro i us hi
    refine xp_seq ?_
    refine xp_seq ?_
    refine xp_region ?_
    refine wl_ro (mv_i rfl) rfl ?_
    refine wl_ro (roI_lss rfl rfl) rfl ?_
    refine wl_nil ?_
    refine wq_then ?_
    refine xp_cond _ rfl (fun c1 => ?_) (fun c1 => ?_)
    ·
      try simp only [decide_eq_true_eq, decide_eq_false_iff_not] at c1
      try have hlt : i < 32 := by omega
      refine xp_skip ?_
      refine wq_then ?_
      refine xp_seq ?_
      refine xp_block ?_
      refine xp_seq ?_
      refine xp_seq ?_
      refine xp_region ?_
      refine wl_ro (mv_i rfl) rfl ?_
      refine wl_ro (mv_i rfl) rfl ?_
      refine wl_s rfl (so_callV (c_ref04_Writable _ _) gb35 (by rfl) ?_)
      refine wl_nil ?_
      refine wq_then ?_
      refine xp_cond _ rfl (fun c2 => ?_) (fun c2 => ?_)
      ·
        try simp only [decide_eq_true_eq, decide_eq_false_iff_not] at c2
        try have hlt : i < 32 := by omega
        refine xp_region ?_
        refine wl_ro (mv_32 rfl) rfl ?_
        refine wl_ro (mv_32 rfl) rfl ?_
        refine wl_ro (ro32_add rfl rfl) rfl ?_
        refine wl_ro (as_32 rfl) rfl ?_
        refine wl_nil ?_
        refine wq_then ?_
        refine xp_region ?_
        refine wl_ro (mv_32 rfl) rfl ?_
        refine wl_ro (ro32_mul (b := 2#32) rfl rfl) rfl ?_
        refine wl_ro (as_32 rfl) rfl ?_
        refine wl_nil ?_
        refine wq_in ?_
        refine wq_then ?_
        refine xp_region ?_
        refine wl_ro (mv_i rfl) rfl ?_
        refine wl_ro (roI_add rfl rfl (by omega)) rfl ?_
        refine wl_ro (as_i rfl) rfl ?_
        refine wl_nil ?_
        refine wq_loopP (i + 1) (by omega) (by repeat (first | exact out_ovr | refine out_upd rfl ?_)) ⟨slot_32 rfl (by simp_all [G.refMaskAt]), slot_32 rfl rfl, slot_i rfl (by omega), trivial⟩ ?_
        omega
      ·
        try simp only [decide_eq_true_eq, decide_eq_false_iff_not] at c2
        try have hlt : i < 32 := by omega
        refine xp_skip ?_
        refine wq_then ?_
        refine xp_region ?_
        refine wl_ro (mv_32 rfl) rfl ?_
        refine wl_ro (ro32_mul (b := 2#32) rfl rfl) rfl ?_
        refine wl_ro (as_32 rfl) rfl ?_
        refine wl_nil ?_
        refine wq_in ?_
        refine wq_then ?_
        refine xp_region ?_
        refine wl_ro (mv_i rfl) rfl ?_
        refine wl_ro (roI_add rfl rfl (by omega)) rfl ?_
        refine wl_ro (as_i rfl) rfl ?_
        refine wl_nil ?_
        refine wq_loopP (i + 1) (by omega) (by repeat (first | exact out_ovr | refine out_upd rfl ?_)) ⟨slot_32 rfl (by simp_all [G.refMaskAt]), slot_32 rfl rfl, slot_i rfl (by omega), trivial⟩ ?_
        omega
    ·
      try simp only [decide_eq_true_eq, decide_eq_false_iff_not] at c1
      try have hlt : i < 32 := by omega
      refine xp_exit ?_
      refine wq_then_exit ?_
      refine wq_then_exit ?_
      refine wq_in_here ?_
      refine wq_then ?_
      refine xp_seq ?_
      refine xp_region ?_
      refine wl_ro (mv_32 rfl) rfl ?_
      refine wl_ro (as_32 rfl) rfl ?_
      refine wl_nil ?_
      refine wq_then ?_
      refine xp_ret ?_
      refine fq_retV rfl (.cons (rv_32 rfl) .nil) _ rfl ?_
      have h32 : i = 32 := by omega
      subst h32; rfl
theorem c_ref04_Read (c : V12) (time : BitVec 64) (n : Int) : CtV Tryd.prog 16 [.agg (encV12 c), u64 time, int n] (u32 (G.refRead c time n)) := by
  intro h
  refine ctr_enter (n := 26) [.agg (encV12 c), u64 time, int n] Tryd.func16 rfl rfl rfl fun w0 => ?_
  refine xp_seq ?_
  refine xp_region ?_
  refine wl_s rfl (so_boxA rfl fun b3 => ?_)
  refine wl_ro (as_32 (a := 0#32) rfl) rfl ?_
  refine wl_nil ?_
  refine wq_then ?_
  refine xp_seq ?_
  refine xp_seq ?_
  refine xp_region ?_
  refine wl_ro (mv_i rfl) rfl ?_
  refine wl_ro (roI_eql rfl rfl) rfl ?_
  refine wl_nil ?_
  refine wq_then ?_
  refine xp_cond _ rfl (fun c1 => ?_) (fun c1 => ?_)
  ·
    try simp only [decide_eq_true_eq, decide_eq_false_iff_not] at c1
    refine xp_seq ?_
    refine xp_region ?_
    refine wl_ro (mv_64 rfl) rfl ?_
    refine wl_ro (ro64_rem (b := 4294967296#64) rfl rfl (by decide)) rfl ?_
    refine wl_ro (cv_64_32 us24 ik22 rfl) rfl ?_
    refine wl_ro (as_32 rfl) rfl ?_
    refine wl_nil ?_
    refine wq_then ?_
    refine xp_ret ?_
    refine wq_then_ret ?_
    refine fq_retV rfl (.cons (rv_32 rfl) .nil) _ rfl ?_
    first | (simp only [G.refRead, if_neg c1, if_neg c2, if_neg hn2]; rfl) | (simp_all [G.refRead]; done) | (simp_all [G.refRead]; omega)
  ·
    try simp only [decide_eq_true_eq, decide_eq_false_iff_not] at c1
    refine xp_skip ?_
    refine wq_then ?_
    refine xp_seq ?_
    refine xp_seq ?_
    refine xp_region ?_
    refine wl_ro (mv_i rfl) rfl ?_
    refine wl_ro (roI_eql rfl rfl) rfl ?_
    refine wl_nil ?_
    refine wq_then ?_
    refine xp_cond _ rfl (fun c2 => ?_) (fun c2 => ?_)
    ·
      try simp only [decide_eq_true_eq, decide_eq_false_iff_not] at c2
      refine xp_seq ?_
      refine xp_region ?_
      refine wl_ro (mv_64 rfl) rfl ?_
      refine wl_ro (ro64_quo (b := 4294967296#64) rfl rfl (by decide)) rfl ?_
      refine wl_ro (cv_64_32 us24 ik22 rfl) rfl ?_
      refine wl_ro (as_32 rfl) rfl ?_
      refine wl_nil ?_
      refine wq_then ?_
      refine xp_ret ?_
      refine wq_then_ret ?_
      refine fq_retV rfl (.cons (rv_32 rfl) .nil) _ rfl ?_
      first | (simp only [G.refRead, if_neg c1, if_neg c2, if_neg hn2]; rfl) | (simp_all [G.refRead]; done) | (simp_all [G.refRead]; omega)
    ·
      try simp only [decide_eq_true_eq, decide_eq_false_iff_not] at c2
      refine xp_skip ?_
      refine wq_then ?_
      refine xp_seq ?_
      refine xp_seq ?_
      refine xp_region ?_
      refine wl_ro (mv_i rfl) rfl ?_
      refine wl_ro (roI_lss rfl rfl) rfl ?_
      refine wl_ro (mv_b rfl) rfl ?_
      refine wl_split (dj := 19) rfl (fun g3 => ?_) (fun g3 => ?_)
      ·
        refine wl_no rfl rfl rfl rfl rfl (no_of g3) ?_
        refine wl_no rfl rfl rfl rfl rfl (no_of g3) ?_
        refine wl_ro (ro_pickT rfl g3) rfl ?_
        refine wl_nil ?_
        refine wq_then ?_
        refine xp_condT rfl rfl ?_
        refine xp_seq ?_
        refine xp_region ?_
        refine wl_ro (as_32 (a := 0#32) rfl) rfl ?_
        refine wl_nil ?_
        refine wq_then ?_
        refine xp_ret ?_
        refine wq_then_ret ?_
        refine fq_retV rfl (.cons (rv_32 rfl) .nil) _ rfl ?_
        first | (simp only [G.refRead, if_neg c1, if_neg c2, if_neg hn2]; rfl) | (simp_all [G.refRead]; done) | (simp_all [G.refRead]; omega)
      ·
        refine wl_yes rfl rfl rfl rfl rfl (yes_of g3) (so_ro (mv_i rfl) ?_)
        refine wl_yes rfl rfl rfl rfl rfl (yes_of g3) (so_ro (roI_gtr rfl rfl) ?_)
        refine wl_ro (ro_pickF rfl g3) rfl ?_
        refine wl_nil ?_
        refine wq_then ?_
        refine xp_cond _ rfl (fun c4 => ?_) (fun c4 => ?_)
        ·
          try simp only [decide_eq_true_eq, decide_eq_false_iff_not] at c4
          refine xp_seq ?_
          refine xp_region ?_
          refine wl_ro (as_32 (a := 0#32) rfl) rfl ?_
          refine wl_nil ?_
          refine wq_then ?_
          refine xp_ret ?_
          refine wq_then_ret ?_
          refine fq_retV rfl (.cons (rv_32 rfl) .nil) _ rfl ?_
          first | (simp only [G.refRead, if_neg c1, if_neg c2, if_neg hn2]; rfl) | (simp_all [G.refRead]; done) | (simp_all [G.refRead]; omega)
        ·
          try simp only [decide_eq_true_eq, decide_eq_false_iff_not] at c4
          refine xp_skip ?_
          refine wq_then ?_
          refine xp_seq ?_
          have hn : 0 ≤ n ∧ n < 12 := by simp_all <;> omega
          have hn2 : ¬ (n < 0 ∨ 11 < n) := by omega
          refine xp_region ?_
          refine wl_ro (mv_i rfl) rfl ?_
          refine wl_ro (ro_indexAddr_w ar23 rfl rfl (by omega) (by omega)) rfl ?_
          refine wl_ro (ro_load sc22 rfl (by repeat (first | exact .head | apply Sel.tail)) (get_V12_at _ _ (by omega))) rfl ?_
          refine wl_ro (as_32 rfl) rfl ?_
          refine wl_nil ?_
          refine wq_then ?_
          refine xp_ret ?_
          refine fq_retV rfl (.cons (rv_32 rfl) .nil) _ rfl ?_
          first | (simp only [G.refRead, if_neg c1, if_neg c2, if_neg hn2]; rfl) | (simp_all [G.refRead]; done) | (simp_all [G.refRead]; omega)
theorem c_ref04_Write (c : V12) (n : Int) (v : BitVec 32) : CtV Tryd.prog 18 [.agg (encV12 c), int n, u32 v] (.agg (encV12 (G.refWrite c n v))) := by
  intro h
  refine ctr_enter (n := 46) [.agg (encV12 c), int n, u32 v] Tryd.func18 rfl rfl rfl fun w0 => ?_
  refine xp_seq ?_
  refine xp_region ?_
  refine wl_s rfl (so_boxA rfl fun b3 => ?_)
  refine wl_s rfl (so_allocA zr23 fun b6 => ?_)
  refine wl_nil ?_
  refine wq_then ?_
  refine xp_seq ?_
  refine xp_seq ?_
  refine xp_region ?_
  refine wl_ro (mv_i rfl) rfl ?_
  refine wl_ro (roI_lss rfl rfl) rfl ?_
  refine wl_ro (mv_b rfl) rfl ?_
  refine wl_split (dj := 13) rfl (fun g1 => ?_) (fun g1 => ?_)
  ·
    refine wl_no rfl rfl rfl rfl rfl (no_of g1) ?_
    refine wl_no rfl rfl rfl rfl rfl (no_of g1) ?_
    refine wl_ro (ro_pickT rfl g1) rfl ?_
    refine wl_nil ?_
    refine wq_then ?_
    refine xp_condT rfl rfl ?_
    refine xp_seq ?_
    refine xp_region ?_
    refine wl_ro (ro_loadA ag23 rfl (by repeat (first | exact .head | apply Sel.tail)) (by rfl) (whole_V12 _)) rfl ?_
    refine wl_s0 (so_storeA ag23 rfl rfl rfl (ones_V12 _) (by repeat (first | exact .head | apply Sel.tail)) rfl ?_)
    refine wl_nil ?_
    refine wq_then ?_
    refine xp_ret ?_
    refine wq_then_ret ?_
    refine fq_retV rfl (.cons (rv_cellA ag23 rfl (by repeat (first | exact .head | apply Sel.tail)) rfl) .nil) _ rfl ?_
    first | (obtain rfl : i = 32 := (by omega); rw [G.refWrite, if_neg hn2]; rfl) | (simp_all [G.refWrite]; done) | (rw [G.refWrite, if_pos (by simp_all)]; rfl)
  ·
    refine wl_yes rfl rfl rfl rfl rfl (yes_of g1) (so_ro (mv_i rfl) ?_)
    refine wl_yes rfl rfl rfl rfl rfl (yes_of g1) (so_ro (roI_gtr rfl rfl) ?_)
    refine wl_ro (ro_pickF rfl g1) rfl ?_
    refine wl_nil ?_
    refine wq_then ?_
    refine xp_cond _ rfl (fun c2 => ?_) (fun c2 => ?_)
    ·
      try simp only [decide_eq_true_eq, decide_eq_false_iff_not] at c2
      try have hlt : i < 32 := by omega
      refine xp_seq ?_
      refine xp_region ?_
      refine wl_ro (ro_loadA ag23 rfl (by repeat (first | exact .head | apply Sel.tail)) (by rfl) (whole_V12 _)) rfl ?_
      refine wl_s0 (so_storeA ag23 rfl rfl rfl (ones_V12 _) (by repeat (first | exact .head | apply Sel.tail)) rfl ?_)
      refine wl_nil ?_
      refine wq_then ?_
      refine xp_ret ?_
      refine wq_then_ret ?_
      refine fq_retV rfl (.cons (rv_cellA ag23 rfl (by repeat (first | exact .head | apply Sel.tail)) rfl) .nil) _ rfl ?_
      first | (obtain rfl : i = 32 := (by omega); rw [G.refWrite, if_neg hn2]; rfl) | (simp_all [G.refWrite]; done) | (rw [G.refWrite, if_pos (by simp_all)]; rfl)
    ·
      try simp only [decide_eq_true_eq, decide_eq_false_iff_not] at c2
      try have hlt : i < 32 := by omega
      refine xp_skip ?_
      refine wq_then ?_
      refine xp_seq ?_
      have hn : 0 ≤ n ∧ n < 12 := by simp_all <;> omega
      have hn2 : ¬ (n < 0 ∨ 11 < n) := by omega
      refine xp_region ?_
      refine wl_ro (as_32 (a := 0#32) rfl) rfl ?_
      refine wl_nil ?_
      refine wq_then ?_
      refine xp_seq ?_
      refine xp_region ?_
      refine wl_ro (as_32 (a := 1#32) rfl) rfl ?_
      refine wl_nil ?_
      refine wq_then ?_
      refine xp_seq ?_
      refine xp_seq ?_
      refine xp_region ?_
      refine wl_ro (as_i rfl) rfl ?_
      refine wl_nil ?_
      refine wq_then ?_
      refine xp_block ?_
      refine xp_loopP (ds := [])  (A := Nat) [7, 8, 9, 10, 18, 19, 20, 21, 22, 23, 24, 25, 26, 27, 28, 29, 30, 31, 32, 33, 34, 35, 36, 37, 38, 39, 40, 41] (fun i => 32 - i) (fun i => [(7, u32 (G.refWriteAt (rget c n.toNat) v n i)), (8, u32 (G.pw i)), (9, int (i : Int))]) (fun i => i ≤ 32) 0 ⟨rfl, rfl, rfl, trivial⟩ ?_ ?_
      · omega
      · intro i us hi
        refine xp_seq ?_
        refine xp_seq ?_
        refine xp_region ?_
        refine wl_ro (mv_i rfl) rfl ?_
        refine wl_ro (roI_lss rfl rfl) rfl ?_
        refine wl_nil ?_
        refine wq_then ?_
        refine xp_cond _ rfl (fun c3 => ?_) (fun c3 => ?_)
        ·
          try simp only [decide_eq_true_eq, decide_eq_false_iff_not] at c3
          try have hlt : i < 32 := by omega
          refine xp_skip ?_
          refine wq_then ?_
          refine xp_seq ?_
          refine xp_block ?_
          refine xp_seq ?_
          refine xp_region ?_
          refine wl_ro (mv_i rfl) rfl ?_
          refine wl_ro (ro_indexAddr_w ar23 rfl rfl (by omega) (by omega)) rfl ?_
          refine wl_ro (ro_load sc22 rfl (by repeat (first | exact .head | apply Sel.tail)) (get_V12_at _ _ (by omega))) rfl ?_
          refine wl_ro (mv_32 rfl) rfl ?_
          refine wl_ro (ro32_quo rfl rfl (G.pw_ne i (by omega))) rfl ?_
          refine wl_ro (ro32_rem (b := 2#32) rfl rfl (by decide)) rfl ?_
          refine wl_ro (as_32 rfl) rfl ?_
          refine wl_nil ?_
          refine wq_then ?_
          refine xp_seq ?_
          refine xp_seq ?_
          refine xp_region ?_
          refine wl_ro (mv_i rfl) rfl ?_
          refine wl_ro (mv_i rfl) rfl ?_
          refine wl_s rfl (so_callV (c_ref04_Writable _ _) gb35 (by rfl) ?_)
          refine wl_nil ?_
          refine wq_then ?_
          refine xp_cond _ rfl (fun c4 => ?_) (fun c4 => ?_)
          ·
            try simp only [decide_eq_true_eq, decide_eq_false_iff_not] at c4
            try have hlt : i < 32 := by omega
            refine xp_region ?_
            refine wl_ro (mv_32 rfl) rfl ?_
            refine wl_ro (mv_32 rfl) rfl ?_
            refine wl_ro (ro32_quo rfl rfl (G.pw_ne i (by omega))) rfl ?_
            refine wl_ro (ro32_rem (b := 2#32) rfl rfl (by decide)) rfl ?_
            refine wl_ro (as_32 rfl) rfl ?_
            refine wl_nil ?_
            refine wq_then ?_
            refine xp_seq ?_
            refine xp_region ?_
            refine wl_ro (mv_32 rfl) rfl ?_
            refine wl_ro (mv_32 rfl) rfl ?_
            refine wl_ro (mv_32 rfl) rfl ?_
            refine wl_ro (ro32_mul rfl rfl) rfl ?_
            refine wl_ro (ro32_add rfl rfl) rfl ?_
            refine wl_ro (as_32 rfl) rfl ?_
            refine wl_nil ?_
            refine wq_then ?_
            refine xp_region ?_
            refine wl_ro (mv_32 rfl) rfl ?_
            refine wl_ro (ro32_mul (b := 2#32) rfl rfl) rfl ?_
            refine wl_ro (as_32 rfl) rfl ?_
            refine wl_nil ?_
            refine wq_in ?_
            refine wq_then ?_
            refine xp_region ?_
            refine wl_ro (mv_i rfl) rfl ?_
            refine wl_ro (roI_add rfl rfl (by omega)) rfl ?_
            refine wl_ro (as_i rfl) rfl ?_
            refine wl_nil ?_
            refine wq_loopP (i + 1) (by omega) (by repeat (first | exact out_ovr | refine out_upd rfl ?_)) ⟨slot_32 rfl (by simp_all [G.refWriteAt, G.refBit]), slot_32 rfl rfl, slot_i rfl (by omega), trivial⟩ ?_
            omega
          ·
            try simp only [decide_eq_true_eq, decide_eq_false_iff_not] at c4
            try have hlt : i < 32 := by omega
            refine xp_skip ?_
            refine wq_then ?_
            refine xp_seq ?_
            refine xp_region ?_
            refine wl_ro (mv_32 rfl) rfl ?_
            refine wl_ro (mv_32 rfl) rfl ?_
            refine wl_ro (mv_32 rfl) rfl ?_
            refine wl_ro (ro32_mul rfl rfl) rfl ?_
            refine wl_ro (ro32_add rfl rfl) rfl ?_
            refine wl_ro (as_32 rfl) rfl ?_
            refine wl_nil ?_
            refine wq_then ?_
            refine xp_region ?_
            refine wl_ro (mv_32 rfl) rfl ?_
            refine wl_ro (ro32_mul (b := 2#32) rfl rfl) rfl ?_
            refine wl_ro (as_32 rfl) rfl ?_
            refine wl_nil ?_
            refine wq_in ?_
            refine wq_then ?_
            refine xp_region ?_
            refine wl_ro (mv_i rfl) rfl ?_
            refine wl_ro (roI_add rfl rfl (by omega)) rfl ?_
            refine wl_ro (as_i rfl) rfl ?_
            refine wl_nil ?_
            refine wq_loopP (i + 1) (by omega) (by repeat (first | exact out_ovr | refine out_upd rfl ?_)) ⟨slot_32 rfl (by simp_all [G.refWriteAt, G.refBit]), slot_32 rfl rfl, slot_i rfl (by omega), trivial⟩ ?_
            omega
        ·
          try simp only [decide_eq_true_eq, decide_eq_false_iff_not] at c3
          try have hlt : i < 32 := by omega
          refine xp_exit ?_
          refine wq_then_exit ?_
          refine wq_then_exit ?_
          refine wq_in_here ?_
          refine wq_then ?_
          refine xp_seq ?_
          refine xp_region ?_
          refine wl_ro (mv_i rfl) rfl ?_
          refine wl_ro (mv_32 rfl) rfl ?_
          refine wl_ro (ro_indexAddr_w ar23 rfl rfl (by omega) (by omega)) rfl ?_
          refine wl_s0 (so_store sc22 rfl rfl rfl (by repeat (first | exact .head | apply Sel.tail)) (blt_at 12 rfl (by omega)) (set_V12_at _ _ (by omega) _) ?_)
          refine wl_nil ?_
          refine wq_then ?_
          refine xp_seq ?_
          refine xp_region ?_
          refine wl_ro (ro_loadA ag23 rfl (by repeat (first | exact .head | apply Sel.tail)) (by rfl) (whole_V12 _)) rfl ?_
          refine wl_s0 (so_storeA ag23 rfl rfl rfl (ones_V12 _) (by repeat (first | exact .head | apply Sel.tail)) rfl ?_)
          refine wl_nil ?_
          refine wq_then ?_
          refine xp_ret ?_
          refine fq_retV rfl (.cons (rv_cellA ag23 rfl (by repeat (first | exact .head | apply Sel.tail)) rfl) .nil) _ rfl ?_
          first | (obtain rfl : i = 32 := (by omega); rw [G.refWrite, if_neg hn2]; rfl) | (simp_all [G.refWrite]; done) | (rw [G.refWrite, if_pos (by simp_all)]; rfl)
theorem c_ref04_Compare (c : V12) : CtV Tryd.prog 20 [.agg (encV12 c)] (u64 (G.refCompare c)) := by
  intro h
  refine ctr_enter (n := 11) [.agg (encV12 c)] Tryd.func20 rfl rfl rfl fun w0 => ?_
  refine xp_seq ?_
  refine xp_region ?_
  refine wl_s rfl (so_boxA rfl fun b1 => ?_)
  refine wl_ro (as_64 (a := 0#64) rfl) rfl ?_
  refine wl_nil ?_
  refine wq_then ?_
  refine xp_seq ?_
  refine xp_region ?_
  refine wl_ro (ro_indexAddr_c 10 10 ar23 rfl rfl rfl rfl) rfl ?_
  refine wl_ro (ro_load sc22 rfl (by repeat (first | exact .head | apply Sel.tail)) (get_V12_at _ 10 (by decide))) rfl ?_
  refine wl_ro (cv_32_64 us22 ik24 rfl) rfl ?_
  refine wl_ro (ro64_mul (b := 4294967296#64) rfl rfl) rfl ?_
  refine wl_ro (ro_indexAddr_c 9 9 ar23 rfl rfl rfl rfl) rfl ?_
  refine wl_ro (ro_load sc22 rfl (by repeat (first | exact .head | apply Sel.tail)) (get_V12_at _ 9 (by decide))) rfl ?_
  refine wl_ro (cv_32_64 us22 ik24 rfl) rfl ?_
  refine wl_ro (ro64_add rfl rfl) rfl ?_
  refine wl_ro (as_64 rfl) rfl ?_
  refine wl_nil ?_
  refine wq_then ?_
  refine xp_ret ?_
  refine fq_retV rfl (.cons (rv_64 rfl) .nil) _ rfl ?_
  rfl
theorem c_ref04_Reset  : CtV Tryd.prog 22 [] (.agg (encV12 G.refReset)) := by
  intro h
  refine ctr_enter (n := 6) [] Tryd.func22 rfl rfl rfl fun w0 => ?_
  refine xp_seq ?_
  refine xp_region ?_
  refine wl_s rfl (so_allocA zr23 fun b0 => ?_)
  refine wl_nil ?_
  refine wq_then ?_
  refine xp_seq ?_
  refine xp_region ?_
  refine wl_s rfl (so_allocA zr23 fun b1 => ?_)
  refine wl_nil ?_
  refine wq_then ?_
  refine xp_seq ?_
  refine xp_region ?_
  refine wl_ro (ro_indexAddr_c 0 0 ar23 rfl rfl rfl rfl) rfl ?_
  refine wl_s0 (so_store sc22 rfl rfl rfl (by repeat (first | exact .head | apply Sel.tail)) (by rfl) (set_V12_at _ 0 (by decide) 1#32) ?_)
  refine wl_nil ?_
  refine wq_then ?_
  refine xp_seq ?_
  refine xp_region ?_
  refine wl_ro (ro_indexAddr_c 9 9 ar23 rfl rfl rfl rfl) rfl ?_
  refine wl_s0 (so_store sc22 rfl rfl rfl (by repeat (first | exact .head | apply Sel.tail)) (by rfl) (set_V12_at _ 9 (by decide) 4294967295#32) ?_)
  refine wl_nil ?_
  refine wq_then ?_
  refine xp_seq ?_
  refine xp_region ?_
  refine wl_ro (ro_indexAddr_c 10 10 ar23 rfl rfl rfl rfl) rfl ?_
  refine wl_s0 (so_store sc22 rfl rfl rfl (by repeat (first | exact .head | apply Sel.tail)) (by rfl) (set_V12_at _ 10 (by decide) 4294967295#32) ?_)
  refine wl_nil ?_
  refine wq_then ?_
  refine xp_seq ?_
  refine xp_region ?_
  refine wl_ro (ro_loadA ag23 rfl (by repeat (first | exact .head | apply Sel.tail)) (by rfl) (whole_V12 _)) rfl ?_
  refine wl_s0 (so_storeA ag23 rfl rfl rfl (ones_V12 _) (by repeat (first | exact .head | apply Sel.tail)) rfl ?_)
  refine wl_nil ?_
  refine wq_then ?_
  refine xp_ret ?_
  refine fq_retV rfl (.cons (rv_cellA ag23 rfl (by repeat (first | exact .head | apply Sel.tail)) rfl) .nil) _ rfl ?_
  rfl
end Go.Proofs.YtnikheoiciokhaaDoor
