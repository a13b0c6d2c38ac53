/-
  CONTRACTS OF GO FUNCTIONS (printed by gen.py, own work).
-/
import Derived.Test.YtnikheoiciokhaaDoorC10
namespace Go.Proofs.YtnikheoiciokhaaDoor
open Go Go.Sx
set_option linter.unusedVariables false
set_option maxRecDepth 20000
set_option linter.unusedSimpArgs false

set_option maxHeartbeats 4000000 in
theorem c_law14_RunsCompose (s : MS) (mm mo : SV) (n k : BitVec 8) : CtW (fun h => Tb h ∧ Rp h s mm mo) Tryd.prog 4 [.agg (encMachine (mach s mm mo)), u8 n, u8 k] (.bool true) := by
  rintro h ⟨hT, hR⟩
  refine ctr_enter (n := 118) [.agg (encMachine (mach s mm mo)), u8 n, u8 k] Tryd.func4 rfl rfl rfl fun w0 => ?_
  refine xp_seq ?_
  refine xp_region ?_
  refine wl_s rfl (so_boxA rfl fun b3 => ?_)
  refine wl_ro (as_b rfl) rfl ?_
  refine wl_nil ?_
  refine wq_then ?_
  refine xp_seq ?_
  refine xp_seq ?_
  refine xp_region ?_
  refine wl_s rfl (so_callW (c_law14_awake) (by first | exact hT | exact hR | exact ⟨hR2, hR3⟩ | exact ⟨hSf, hSC⟩) gb23 (by rfl) ?_)
  refine wl_ro (ro_not rfl) rfl ?_
  refine wl_ro (mv_b rfl) rfl ?_
  refine wl_yes rfl rfl rfl rfl rfl (yes_of rfl) (so_ro (ro_loadA ag40 rfl (by repeat (first | exact .head | apply Sel.tail)) (by rfl) (whole_Machine _)) ?_)
  refine wl_yes rfl rfl rfl rfl rfl (yes_of rfl) (so_callW (c_ref10_Few s mm mo) (by first | exact hT | exact hR | exact ⟨hR2, hR3⟩ | exact ⟨hSf, hSC⟩) gb24 (by rfl) ?_)
  refine wl_yes rfl rfl rfl rfl rfl (yes_of rfl) (so_ro (ro_not rfl) ?_)
  refine wl_ro (ro_pickF rfl rfl) rfl ?_
  refine wl_ro (mv_b rfl) rfl ?_
  refine wl_split (dj := 21) rfl (fun g1 => ?_) (fun g1 => ?_)
  ·
    refine wl_no rfl rfl rfl rfl rfl (no_of g1) ?_
    refine wl_no rfl rfl rfl rfl rfl (no_of g1) ?_
    refine wl_ro (ro_pickT rfl g1) rfl ?_
    refine wl_ro (mv_b rfl) rfl ?_
    refine wl_no rfl rfl rfl rfl rfl (no_of rfl) ?_
    refine wl_no rfl rfl rfl rfl rfl (no_of rfl) ?_
    refine wl_ro (ro_pickT rfl rfl) rfl ?_
    refine wl_nil ?_
    refine wq_then ?_
    refine xp_condT rfl rfl ?_
    refine xp_seq ?_
    refine xp_region ?_
    refine wl_s rfl (so_callW (c_law14_awake) (by first | exact hT | exact hR | exact ⟨hR2, hR3⟩ | exact ⟨hSf, hSC⟩) gb23 (by rfl) ?_)
    refine wl_ro (as_b rfl) rfl ?_
    refine wl_nil ?_
    refine wq_then ?_
    refine xp_ret ?_
    refine wq_then_ret ?_
    refine fq_retV rfl (.cons (rv_b rfl) .nil) _ rfl ?_
    rfl
  ·
    refine wl_yes rfl rfl rfl rfl rfl (yes_of g1) (so_ro (mv_8 rfl) ?_)
    refine wl_yes rfl rfl rfl rfl rfl (yes_of g1) (so_ro (ro8_gtr (b := 40#8) rfl rfl) ?_)
    refine wl_ro (ro_pickF rfl g1) rfl ?_
    refine wl_ro (mv_b rfl) rfl ?_
    refine wl_split (dj := 25) rfl (fun g2 => ?_) (fun g2 => ?_)
    ·
      refine wl_no rfl rfl rfl rfl rfl (no_of g2) ?_
      refine wl_no rfl rfl rfl rfl rfl (no_of g2) ?_
      refine wl_ro (ro_pickT rfl g2) rfl ?_
      refine wl_nil ?_
      refine wq_then ?_
      refine xp_condT rfl rfl ?_
      refine xp_seq ?_
      refine xp_region ?_
      refine wl_s rfl (so_callW (c_law14_awake) (by first | exact hT | exact hR | exact ⟨hR2, hR3⟩ | exact ⟨hSf, hSC⟩) gb23 (by rfl) ?_)
      refine wl_ro (as_b rfl) rfl ?_
      refine wl_nil ?_
      refine wq_then ?_
      refine xp_ret ?_
      refine wq_then_ret ?_
      refine fq_retV rfl (.cons (rv_b rfl) .nil) _ rfl ?_
      rfl
    ·
      refine wl_yes rfl rfl rfl rfl rfl (yes_of g2) (so_ro (mv_8 rfl) ?_)
      refine wl_yes rfl rfl rfl rfl rfl (yes_of g2) (so_ro (ro8_gtr (b := 40#8) rfl rfl) ?_)
      refine wl_ro (ro_pickF rfl g2) rfl ?_
      refine wl_nil ?_
      refine wq_then ?_
      refine xp_cond _ rfl (fun c3 => ?_) (fun c3 => ?_)
      ·
        try simp only [decide_eq_true_eq, decide_eq_false_iff_not] at c3
        refine xp_seq ?_
        refine xp_region ?_
        refine wl_s rfl (so_callW (c_law14_awake) (by first | exact hT | exact hR | exact ⟨hR2, hR3⟩ | exact ⟨hSf, hSC⟩) gb23 (by rfl) ?_)
        refine wl_ro (as_b rfl) rfl ?_
        refine wl_nil ?_
        refine wq_then ?_
        refine xp_ret ?_
        refine wq_then_ret ?_
        refine fq_retV rfl (.cons (rv_b rfl) .nil) _ rfl ?_
        rfl
      ·
        try simp only [decide_eq_true_eq, decide_eq_false_iff_not] at c3
        refine xp_skip ?_
        refine wq_then ?_
        refine xp_seq ?_
        have hfew : s.mem.length ≤ 600 ∧ s.out.length ≤ 600 := by simp_all [G.few]
        obtain ⟨hm6, ho6⟩ := hfew
        have hsn : ¬ (40#8 < n) := by simp_all
        have hnn : n.toNat ≤ 40 := by rw [BitVec.lt_def] at hsn; simpa using hsn
        have hsk : ¬ (40#8 < k) := by simp_all
        have hnk : k.toNat ≤ 40 := by rw [BitVec.lt_def] at hsk; simpa using hsk
        refine xp_region ?_
        refine wl_ro (ro_loadA ag40 rfl (by repeat (first | exact .head | apply Sel.tail)) (by rfl) (whole_Machine _)) rfl ?_
        refine wl_ro (mv_8 rfl) rfl ?_
        refine wl_ro (cv_8_i us5 ik3 rfl) rfl ?_
        refine wl_s rfl (so_callR (c_run_Run s mm mo (n.toNat : Int) (by omega) (by omega) (by omega) _ hT hR) gb25 (by rfl) fun vq4 hq4 hlq4 hpq4 => ?_)
        obtain ⟨m1, o1, rfl, hR1⟩ := hpq4
        replace hT := hT.mono hlq4
        replace hR := hR.mono hlq4
        refine wl_ro (mv_u rfl) rfl ?_
        refine wl_ro (ro_extract rfl rfl) rfl ?_
        refine wl_ro (ro_extract rfl rfl) rfl ?_
        refine wl_s rfl (so_allocA zr40 fun b7 => ?_)
        refine wl_s0 (so_storeA ag40 rfl rfl rfl (ones_Machine _) (by repeat (first | exact .head | apply Sel.tail)) rfl ?_)
        refine wl_ro (as_i rfl) rfl ?_
        refine wl_nil ?_
        refine wq_then ?_
        refine xp_seq ?_
        refine xp_region ?_
        refine wl_ro (ro_loadA ag40 rfl (by repeat (first | exact .head | apply Sel.tail)) (by rfl) (whole_Machine _)) rfl ?_
        refine wl_ro (mv_8 rfl) rfl ?_
        refine wl_ro (cv_8_i us5 ik3 rfl) rfl ?_
        refine wl_s rfl (so_callR (c_run_Run (G.st s (G.runLen s ((n.toNat : Int)).toNat)) m1 o1 (k.toNat : Int) (by rw [G.st_mem]; omega) (by have h9 := G.st_out s (G.runLen s ((n.toNat : Int)).toNat); have h8 := G.runLen_le s n.toNat; simp only [Int.toNat_natCast] at h9 ⊢; omega) (by omega) _ hT hR1) gb25 (by rfl) fun vq5 hq5 hlq5 hpq5 => ?_)
        obtain ⟨m2, o2, rfl, hR2⟩ := hpq5
        replace hT := hT.mono hlq5
        replace hR := hR.mono hlq5
        replace hR1 := hR1.mono hlq5
        refine wl_ro (mv_u rfl) rfl ?_
        refine wl_ro (ro_extract rfl rfl) rfl ?_
        refine wl_ro (ro_extract rfl rfl) rfl ?_
        refine wl_s rfl (so_allocA zr40 fun b9 => ?_)
        refine wl_s0 (so_storeA ag40 rfl rfl rfl (ones_Machine _) (by repeat (first | exact .head | apply Sel.tail)) rfl ?_)
        refine wl_ro (as_i rfl) rfl ?_
        refine wl_nil ?_
        refine wq_then ?_
        refine xp_seq ?_
        refine xp_region ?_
        refine wl_ro (ro_loadA ag40 rfl (by repeat (first | exact .head | apply Sel.tail)) (by rfl) (whole_Machine _)) rfl ?_
        refine wl_ro (mv_8 rfl) rfl ?_
        refine wl_ro (cv_8_i us5 ik3 rfl) rfl ?_
        refine wl_ro (mv_8 rfl) rfl ?_
        refine wl_ro (cv_8_i us5 ik3 rfl) rfl ?_
        refine wl_ro (roI_add rfl rfl (by omega)) rfl ?_
        refine wl_s rfl (so_callR (c_run_Run s mm mo ((n.toNat : Int) + (k.toNat : Int)) (by omega) (by omega) (by omega) _ hT hR) gb25 (by rfl) fun vq6 hq6 hlq6 hpq6 => ?_)
        obtain ⟨m3, o3, rfl, hR3⟩ := hpq6
        replace hT := hT.mono hlq6
        replace hR := hR.mono hlq6
        replace hR1 := hR1.mono hlq6
        replace hR2 := hR2.mono hlq6
        refine wl_ro (mv_u rfl) rfl ?_
        refine wl_ro (ro_extract rfl rfl) rfl ?_
        refine wl_ro (ro_extract rfl rfl) rfl ?_
        refine wl_s rfl (so_allocA zr40 fun b11 => ?_)
        refine wl_s0 (so_storeA ag40 rfl rfl rfl (ones_Machine _) (by repeat (first | exact .head | apply Sel.tail)) rfl ?_)
        refine wl_ro (as_i rfl) rfl ?_
        refine wl_nil ?_
        refine wq_then ?_
        refine xp_seq ?_
        refine xp_seq ?_
        have hadd : (G.runLen s ((n.toNat : Int) + (k.toNat : Int)).toNat) = (G.runLen s ((n.toNat : Int)).toNat) + (G.runLen (G.st s (G.runLen s ((n.toNat : Int)).toNat)) ((k.toNat : Int)).toNat) := by rw [show ((n.toNat : Int) + (k.toNat : Int)).toNat = n.toNat + k.toNat by omega]; exact G.runLen_add s n.toNat k.toNat
        have hst : G.st (G.st s (G.runLen s ((n.toNat : Int)).toNat)) (G.runLen (G.st s (G.runLen s ((n.toNat : Int)).toNat)) ((k.toNat : Int)).toNat) = G.st s (G.runLen s ((n.toNat : Int) + (k.toNat : Int)).toNat) := by rw [G.st_add, hadd]
        have hk1 : (G.runLen s ((n.toNat : Int)).toNat) ≤ 40 := Nat.le_trans (G.runLen_le s n.toNat) hnn
        have hk2 : (G.runLen (G.st s (G.runLen s ((n.toNat : Int)).toNat)) ((k.toNat : Int)).toNat) ≤ 40 := Nat.le_trans (G.runLen_le (G.st s (G.runLen s ((n.toNat : Int)).toNat)) k.toNat) hnk
        refine xp_region ?_
        refine wl_ro (ro_loadA ag40 rfl (by repeat (first | exact .head | apply Sel.tail)) (by rfl) (whole_Machine _)) rfl ?_
        refine wl_ro (ro_loadA ag40 rfl (by repeat (first | exact .head | apply Sel.tail)) (by rfl) (whole_Machine _)) rfl ?_
        refine wl_s rfl (so_callW (c_ref10_Same (G.st (G.st s (G.runLen s ((n.toNat : Int)).toNat)) (G.runLen (G.st s (G.runLen s ((n.toNat : Int)).toNat)) ((k.toNat : Int)).toNat)) (G.st s (G.runLen s ((n.toNat : Int) + (k.toNat : Int)).toNat)) _ _ _ _ (by rw [G.st_mem, G.st_mem]; omega) (by have h9 := G.st_out (G.st s (G.runLen s ((n.toNat : Int)).toNat)) (G.runLen (G.st s (G.runLen s ((n.toNat : Int)).toNat)) ((k.toNat : Int)).toNat); have h7 := G.st_out s (G.runLen s ((n.toNat : Int)).toNat); have h8 := G.runLen_le s n.toNat; have h6 := G.runLen_le (G.st s (G.runLen s ((n.toNat : Int)).toNat)) k.toNat; simp only [Int.toNat_natCast] at h9 h7 h8 h6 ⊢; omega)) (by first | exact hT | exact hR | exact ⟨hR2, hR3⟩ | exact ⟨hSf, hSC⟩) gb26 (by rfl) ?_)
        refine wl_ro (ro_not rfl) rfl ?_
        refine wl_ro (mv_b rfl) rfl ?_
        refine wl_yes rfl rfl rfl rfl rfl (yes_of (by rw [hst, G.same_refl]; rfl)) (so_ro (mv_i rfl) ?_)
        refine wl_yes rfl rfl rfl rfl rfl (yes_of (by rw [hst, G.same_refl]; rfl)) (so_ro (mv_i rfl) ?_)
        refine wl_yes rfl rfl rfl rfl rfl (yes_of (by rw [hst, G.same_refl]; rfl)) (so_ro (roI_add rfl rfl (by omega)) ?_)
        refine wl_yes rfl rfl rfl rfl rfl (yes_of (by rw [hst, G.same_refl]; rfl)) (so_ro (mv_i rfl) ?_)
        refine wl_yes rfl rfl rfl rfl rfl (yes_of (by rw [hst, G.same_refl]; rfl)) (so_ro (roI_neq rfl rfl) ?_)
        refine wl_ro (ro_pickF rfl (by rw [hst, G.same_refl]; rfl)) rfl ?_
        refine wl_ro (mv_b rfl) rfl ?_
        refine wl_yes rfl rfl rfl rfl rfl (yes_of (by rw [hadd]; simp)) (so_ro (ro_fieldAddrC 30 fb40_2 rfl rfl) ?_)
        refine wl_yes rfl rfl rfl rfl rfl (yes_of (by rw [hadd]; simp)) (so_ro (ro_load sc24 rfl (by repeat (first | exact .head | apply Sel.tail)) (get_Machine_time _)) ?_)
        refine wl_yes rfl rfl rfl rfl rfl (yes_of (by rw [hadd]; simp)) (so_ro (ro_fieldAddrC 30 fb40_2 rfl rfl) ?_)
        refine wl_yes rfl rfl rfl rfl rfl (yes_of (by rw [hadd]; simp)) (so_ro (ro_load sc24 rfl (by repeat (first | exact .head | apply Sel.tail)) (get_Machine_time _)) ?_)
        refine wl_yes rfl rfl rfl rfl rfl (yes_of (by rw [hadd]; simp)) (so_ro (mv_i rfl) ?_)
        refine wl_yes rfl rfl rfl rfl rfl (yes_of (by rw [hadd]; simp)) (so_ro (cv_i_64 us3 ik24 rfl) ?_)
        refine wl_yes rfl rfl rfl rfl rfl (yes_of (by rw [hadd]; simp)) (so_ro (ro64_add rfl rfl) ?_)
        refine wl_yes rfl rfl rfl rfl rfl (yes_of (by rw [hadd]; simp)) (so_ro (ro64_neq rfl rfl) ?_)
        refine wl_ro (ro_pickF rfl (by rw [hadd]; simp)) rfl ?_
        refine wl_ro (mv_b rfl) rfl ?_
        refine wl_yes rfl rfl rfl rfl rfl (yes_of (by show (!decide ((G.st s (G.runLen s ((n.toNat : Int) + (k.toNat : Int)).toNat)).time = s.time + BitVec.ofInt 64 (((G.runLen s ((n.toNat : Int) + (k.toNat : Int)).toNat) : Nat) : Int))) = false; rw [G.st_time s _ _ (Nat.le_refl _), ofInt_nat]; simp)) (so_ro (mv_i rfl) ?_)
        refine wl_yes rfl rfl rfl rfl rfl (yes_of (by show (!decide ((G.st s (G.runLen s ((n.toNat : Int) + (k.toNat : Int)).toNat)).time = s.time + BitVec.ofInt 64 (((G.runLen s ((n.toNat : Int) + (k.toNat : Int)).toNat) : Nat) : Int))) = false; rw [G.st_time s _ _ (Nat.le_refl _), ofInt_nat]; simp)) (so_ro (mv_8 rfl) ?_)
        refine wl_yes rfl rfl rfl rfl rfl (yes_of (by show (!decide ((G.st s (G.runLen s ((n.toNat : Int) + (k.toNat : Int)).toNat)).time = s.time + BitVec.ofInt 64 (((G.runLen s ((n.toNat : Int) + (k.toNat : Int)).toNat) : Nat) : Int))) = false; rw [G.st_time s _ _ (Nat.le_refl _), ofInt_nat]; simp)) (so_ro (cv_8_i us5 ik3 rfl) ?_)
        refine wl_yes rfl rfl rfl rfl rfl (yes_of (by show (!decide ((G.st s (G.runLen s ((n.toNat : Int) + (k.toNat : Int)).toNat)).time = s.time + BitVec.ofInt 64 (((G.runLen s ((n.toNat : Int) + (k.toNat : Int)).toNat) : Nat) : Int))) = false; rw [G.st_time s _ _ (Nat.le_refl _), ofInt_nat]; simp)) (so_ro (roI_gtr rfl rfl) ?_)
        refine wl_ro (ro_pickF rfl (by show (!decide ((G.st s (G.runLen s ((n.toNat : Int) + (k.toNat : Int)).toNat)).time = s.time + BitVec.ofInt 64 (((G.runLen s ((n.toNat : Int) + (k.toNat : Int)).toNat) : Nat) : Int))) = false; rw [G.st_time s _ _ (Nat.le_refl _), ofInt_nat]; simp)) rfl ?_
        refine wl_ro (mv_b rfl) rfl ?_
        refine wl_yes rfl rfl rfl rfl rfl (yes_of (decide_eq_false (by have h8 := G.runLen_le s n.toNat; simp only [Int.toNat_natCast] at h8 ⊢; omega))) (so_ro (mv_i rfl) ?_)
        refine wl_yes rfl rfl rfl rfl rfl (yes_of (decide_eq_false (by have h8 := G.runLen_le s n.toNat; simp only [Int.toNat_natCast] at h8 ⊢; omega))) (so_ro (mv_8 rfl) ?_)
        refine wl_yes rfl rfl rfl rfl rfl (yes_of (decide_eq_false (by have h8 := G.runLen_le s n.toNat; simp only [Int.toNat_natCast] at h8 ⊢; omega))) (so_ro (cv_8_i us5 ik3 rfl) ?_)
        refine wl_yes rfl rfl rfl rfl rfl (yes_of (decide_eq_false (by have h8 := G.runLen_le s n.toNat; simp only [Int.toNat_natCast] at h8 ⊢; omega))) (so_ro (roI_lss rfl rfl) ?_)
        refine wl_yes rfl rfl rfl rfl rfl (yes_of (decide_eq_false (by have h8 := G.runLen_le s n.toNat; simp only [Int.toNat_natCast] at h8 ⊢; omega))) (so_ro (mv_b rfl) ?_)
        refine wl_split (dj := 86) rfl (fun g7 => ?_) (fun g7 => ?_)
        ·
          refine wl_yes rfl rfl rfl rfl rfl (yes_of g7) (so_ro (ro_fieldAddrC 32 fb40_4 rfl rfl) ?_)
          refine wl_yes rfl rfl rfl rfl rfl (yes_of g7) (so_ro (ro_load sc4 rfl (by repeat (first | exact .head | apply Sel.tail)) (get_Machine_halted _)) ?_)
          refine wl_yes rfl rfl rfl rfl rfl (yes_of g7) (so_ro (ro_not rfl) ?_)
          refine wl_yes rfl rfl rfl rfl rfl (yes_of (decide_eq_false (by have h8 := G.runLen_le s n.toNat; simp only [Int.toNat_natCast] at h8 ⊢; omega))) (so_ro (ro_pickT rfl g7) ?_)
          refine wl_ro (ro_pickF rfl (decide_eq_false (by have h8 := G.runLen_le s n.toNat; simp only [Int.toNat_natCast] at h8 ⊢; omega))) rfl ?_
          refine wl_nil ?_
          refine wq_then ?_
          refine xp_condF rfl (by first | rfl | (rcases G.runLen_stop s n.toNat with h9 | h9 <;> simp_all)) ?_
          refine xp_skip ?_
          refine wq_then ?_
          refine xp_seq ?_
          refine xp_draw [true, true, true, true] [] mixed ?_
          refine wd_ro 1 rfl (by kernel_rfl) (ro_loadA ag40 rfl (by repeat (first | exact .head | apply Sel.tail)) (by rfl) (whole_Machine _)) rfl ?_
          refine wd_ro 2 rfl (by kernel_rfl) (mv_8 rfl) rfl ?_
          refine wd_ro 3 rfl (by kernel_rfl) (cv_8_i us5 ik3 rfl) rfl ?_
          refine wd_ro 6 rfl (by kernel_rfl) (ro_loadA ag40 rfl (by repeat (first | exact .head | apply Sel.tail)) (by rfl) (whole_Machine _)) rfl ?_
          refine wd_ro 7 rfl (by kernel_rfl) (mv_8 rfl) rfl ?_
          refine wd_ro 8 rfl (by kernel_rfl) (cv_8_i us5 ik3 rfl) rfl ?_
          refine wd_pick2 (i := 0) (j := 4) (by kernel_rfl) ?_ ?_
          ·
            refine one_so 0 rfl rfl (so_buildSlice0 se45 fun b92 => ⟨⟨(by first | exact PH.le_refl _ | assumption | exact PH.le_trans (by assumption) (by assumption)), (inc_of (by repeat' (first | exact List.nil_sublist _ | apply List.Sublist.cons_cons | apply List.Sublist.cons))), .inr (inc_of (by repeat' (first | exact List.nil_sublist _ | apply List.Sublist.cons_cons | apply List.Sublist.cons)))⟩, ?_⟩)
            refine wd_so 4 rfl (by kernel_rfl) rfl (so_callR (c_run_Traps s mm mo (n.toNat : Int) (by omega) (by omega) (by omega) _ hT hR) gb27 (by rfl) fun vq14 hq14 hlq14 hpq14 => ⟨⟨(by first | exact PH.le_refl _ | assumption | exact PH.le_trans (by assumption) (by assumption)), (inc_of (by repeat' (first | exact List.nil_sublist _ | apply List.Sublist.cons_cons | apply List.Sublist.cons))), .inr (inc_of (by repeat' (first | exact List.nil_sublist _ | apply List.Sublist.cons_cons | apply List.Sublist.cons)))⟩, ?_⟩)
            obtain ⟨vA, rfl, hSA⟩ := hpq14
            replace hT := hT.mono hlq14
            replace hR := hR.mono hlq14
            replace hR1 := hR1.mono hlq14
            refine wd_so 5 rfl (by kernel_rfl) rfl (so_appendNew (e := eTrap) (ys := G.trapsTo s (G.runLen s ((n.toNat : Int)).toNat)) se45 (by have h9 := G.trapsTo_len s (G.runLen s ((n.toNat : Int)).toNat); have h8 := G.runLen_le s n.toNat; simp only [Int.toNat_natCast] at h9 h8 ⊢; omega) (by decide) rfl rfl (len_svh hSA) (fun _ => rd_slh hSA) fun v5 N5 hN5 => ⟨⟨(by first | exact PH.le_refl _ | assumption | exact PH.le_trans (by assumption) (by assumption)), (inc_of (by repeat' (first | exact List.nil_sublist _ | apply List.Sublist.cons_cons | apply List.Sublist.cons))), .inr (inc_of (by repeat' (first | exact List.nil_sublist _ | apply List.Sublist.cons_cons | apply List.Sublist.cons)))⟩, ?_⟩)
            refine wd_so 9 rfl (by kernel_rfl) rfl (so_callR (c_run_Traps (G.st s (G.runLen s ((n.toNat : Int)).toNat)) m1 o1 (k.toNat : Int) (by rw [G.st_mem]; omega) (by have h9 := G.st_out s (G.runLen s ((n.toNat : Int)).toNat); have h8 := G.runLen_le s n.toNat; simp only [Int.toNat_natCast] at h9 ⊢; omega) (by omega) _ hT hR1) gb27 (by rfl) fun vq15 hq15 hlq15 hpq15 => ⟨⟨(by first | exact PH.le_refl _ | assumption | exact PH.le_trans (by assumption) (by assumption)), (inc_of (by repeat' (first | exact List.nil_sublist _ | apply List.Sublist.cons_cons | apply List.Sublist.cons))), .inr (inc_of (by repeat' (first | exact List.nil_sublist _ | apply List.Sublist.cons_cons | apply List.Sublist.cons)))⟩, ?_⟩)
            obtain ⟨vB, rfl, hSB⟩ := hpq15
            replace hT := hT.mono hlq15
            replace hR := hR.mono hlq15
            replace hR1 := hR1.mono hlq15
            refine wd_so 10 rfl (by kernel_rfl) rfl (so_appendOwS (e := eTrap) (ys := G.trapsTo (G.st s (G.runLen s ((n.toNat : Int)).toNat)) (G.runLen (G.st s (G.runLen s ((n.toNat : Int)).toNat)) ((k.toNat : Int)).toNat)) [_, _, _, _] se45 hN5 (by have h9 := G.trapsTo_len s (G.runLen s ((n.toNat : Int)).toNat); have h7 := G.trapsTo_len (G.st s (G.runLen s ((n.toNat : Int)).toNat)) (G.runLen (G.st s (G.runLen s ((n.toNat : Int)).toNat)) ((k.toNat : Int)).toNat); have h8 := G.runLen_le s n.toNat; have h6 := G.runLen_le (G.st s (G.runLen s ((n.toNat : Int)).toNat)) k.toNat; simp only [Int.toNat_natCast] at h9 h7 h8 h6 ⊢; omega) (by decide) rfl rfl (len_svh hSB) (rd_slh hSB) fun v6 N6 hN6 => ⟨⟨(by first | exact PH.le_refl _ | assumption | exact PH.le_trans (by assumption) (by assumption)), (inc_of (by repeat' (first | exact List.nil_sublist _ | apply List.Sublist.cons_cons | apply List.Sublist.cons))), .inr (inc_of (by repeat' (first | exact List.nil_sublist _ | apply List.Sublist.cons_cons | apply List.Sublist.cons)))⟩, ?_⟩)
            refine wd_ro 11 rfl (by kernel_rfl) (as_s rfl) rfl ?_
            refine wd_done (by kernel_rfl) ?_
            refine wq_then ?_
            refine xp_seq ?_
            refine xp_freezeOw (La := [_, _, _, _]) hN6 (by simp) fun hf hlf hSf => ?_
            replace hT := hT.mono hlf
            replace hR := hR.mono hlf
            refine xp_region ?_
            refine wl_ro (mv_s rfl) rfl ?_
            refine wl_ro (ro_loadA ag40 rfl (by repeat (first | exact .head | apply Sel.tail)) (by rfl) (whole_Machine _)) rfl ?_
            refine wl_ro (mv_8 rfl) rfl ?_
            refine wl_ro (cv_8_i us5 ik3 rfl) rfl ?_
            refine wl_ro (mv_8 rfl) rfl ?_
            refine wl_ro (cv_8_i us5 ik3 rfl) rfl ?_
            refine wl_ro (roI_add rfl rfl (by omega)) rfl ?_
            refine wl_s rfl (so_callR (c_run_Traps s mm mo ((n.toNat : Int) + (k.toNat : Int)) (by omega) (by omega) (by omega) _ hT hR) gb27 (by rfl) fun vq16 hq16 hlq16 hpq16 => ?_)
            obtain ⟨vC, rfl, hSC⟩ := hpq16
            replace hT := hT.mono hlq16
            replace hR := hR.mono hlq16
            replace hSf := hSf.mono eTrap hlq16
            refine wl_s rfl (so_callW (c_ref14_Same _ _ (G.trapsTo s (G.runLen s ((n.toNat : Int)).toNat) ++ G.trapsTo (G.st s (G.runLen s ((n.toNat : Int)).toNat)) (G.runLen (G.st s (G.runLen s ((n.toNat : Int)).toNat)) ((k.toNat : Int)).toNat)) (G.trapsTo s (G.runLen s ((n.toNat : Int) + (k.toNat : Int)).toNat)) (by have h9 := G.trapsTo_len s (G.runLen s ((n.toNat : Int)).toNat); have h7 := G.trapsTo_len (G.st s (G.runLen s ((n.toNat : Int)).toNat)) (G.runLen (G.st s (G.runLen s ((n.toNat : Int)).toNat)) ((k.toNat : Int)).toNat); have h8 := G.runLen_le s n.toNat; have h6 := G.runLen_le (G.st s (G.runLen s ((n.toNat : Int)).toNat)) k.toNat; rw [List.length_append]; simp only [Int.toNat_natCast] at h9 h7 h8 h6 ⊢; omega)) (by first | exact hT | exact hR | exact ⟨hR2, hR3⟩ | exact ⟨hSf, hSC⟩) gb28 (by rfl) ?_)
            refine wl_ro (mv_b rfl) rfl ?_
            refine wl_yes rfl rfl rfl rfl rfl (yes_of (decide_eq_true (by rw [hadd, G.trapsTo_add]))) (so_ro (mv_s rfl) ?_)
            refine wl_yes rfl rfl rfl rfl rfl (yes_of (decide_eq_true (by rw [hadd, G.trapsTo_add]))) (so_ro (ro_len_slice sl45 rfl) ?_)
            refine wl_yes rfl rfl rfl rfl rfl (yes_of (decide_eq_true (by rw [hadd, G.trapsTo_add]))) (so_ro (mv_i rfl) ?_)
            refine wl_yes rfl rfl rfl rfl rfl (yes_of (decide_eq_true (by rw [hadd, G.trapsTo_add]))) (so_ro (roI_leq rfl rfl) ?_)
            refine wl_ro (ro_pickT rfl (decide_eq_true (by rw [hadd, G.trapsTo_add]))) rfl ?_
            refine wl_ro (as_b rfl) rfl ?_
            refine wl_nil ?_
            refine wq_then ?_
            refine xp_ret ?_
            refine fq_retV rfl (.cons (rv_b rfl) .nil) _ rfl ?_
            exact congrArg Value.bool (decide_eq_true (by have h9 := G.trapsTo_len s (G.runLen s ((n.toNat : Int) + (k.toNat : Int)).toNat); rw [hadd, G.trapsTo_add] at h9; rw [hSf.1, hadd]; omega))
          ·
            refine one_so 4 rfl rfl (so_callR (c_run_Traps s mm mo (n.toNat : Int) (by omega) (by omega) (by omega) _ hT hR) gb27 (by rfl) fun vq13 hq13 hlq13 hpq13 => ⟨⟨(by first | exact PH.le_refl _ | assumption | exact PH.le_trans (by assumption) (by assumption)), (inc_of (by repeat' (first | exact List.nil_sublist _ | apply List.Sublist.cons_cons | apply List.Sublist.cons))), .inr (inc_of (by repeat' (first | exact List.nil_sublist _ | apply List.Sublist.cons_cons | apply List.Sublist.cons)))⟩, ?_⟩)
            obtain ⟨vA, rfl, hSA⟩ := hpq13
            replace hT := hT.mono hlq13
            replace hR := hR.mono hlq13
            replace hR1 := hR1.mono hlq13
            refine wd_so 0 rfl (by kernel_rfl) rfl (so_buildSlice0 se45 fun b92 => ⟨⟨(by first | exact PH.le_refl _ | assumption | exact PH.le_trans (by assumption) (by assumption)), (inc_of (by repeat' (first | exact List.nil_sublist _ | apply List.Sublist.cons_cons | apply List.Sublist.cons))), .inr (inc_of (by repeat' (first | exact List.nil_sublist _ | apply List.Sublist.cons_cons | apply List.Sublist.cons)))⟩, ?_⟩)
            refine wd_so 5 rfl (by kernel_rfl) rfl (so_appendNew (e := eTrap) (ys := G.trapsTo s (G.runLen s ((n.toNat : Int)).toNat)) se45 (by have h9 := G.trapsTo_len s (G.runLen s ((n.toNat : Int)).toNat); have h8 := G.runLen_le s n.toNat; simp only [Int.toNat_natCast] at h9 h8 ⊢; omega) (by decide) rfl rfl (len_svh hSA) (fun _ => rd_slh hSA) fun v5 N5 hN5 => ⟨⟨(by first | exact PH.le_refl _ | assumption | exact PH.le_trans (by assumption) (by assumption)), (inc_of (by repeat' (first | exact List.nil_sublist _ | apply List.Sublist.cons_cons | apply List.Sublist.cons))), .inr (inc_of (by repeat' (first | exact List.nil_sublist _ | apply List.Sublist.cons_cons | apply List.Sublist.cons)))⟩, ?_⟩)
            refine wd_so 9 rfl (by kernel_rfl) rfl (so_callR (c_run_Traps (G.st s (G.runLen s ((n.toNat : Int)).toNat)) m1 o1 (k.toNat : Int) (by rw [G.st_mem]; omega) (by have h9 := G.st_out s (G.runLen s ((n.toNat : Int)).toNat); have h8 := G.runLen_le s n.toNat; simp only [Int.toNat_natCast] at h9 ⊢; omega) (by omega) _ hT hR1) gb27 (by rfl) fun vq17 hq17 hlq17 hpq17 => ⟨⟨(by first | exact PH.le_refl _ | assumption | exact PH.le_trans (by assumption) (by assumption)), (inc_of (by repeat' (first | exact List.nil_sublist _ | apply List.Sublist.cons_cons | apply List.Sublist.cons))), .inr (inc_of (by repeat' (first | exact List.nil_sublist _ | apply List.Sublist.cons_cons | apply List.Sublist.cons)))⟩, ?_⟩)
            obtain ⟨vB, rfl, hSB⟩ := hpq17
            replace hT := hT.mono hlq17
            replace hR := hR.mono hlq17
            replace hR1 := hR1.mono hlq17
            refine wd_so 10 rfl (by kernel_rfl) rfl (so_appendOwS (e := eTrap) (ys := G.trapsTo (G.st s (G.runLen s ((n.toNat : Int)).toNat)) (G.runLen (G.st s (G.runLen s ((n.toNat : Int)).toNat)) ((k.toNat : Int)).toNat)) [_, _, _, _] se45 hN5 (by have h9 := G.trapsTo_len s (G.runLen s ((n.toNat : Int)).toNat); have h7 := G.trapsTo_len (G.st s (G.runLen s ((n.toNat : Int)).toNat)) (G.runLen (G.st s (G.runLen s ((n.toNat : Int)).toNat)) ((k.toNat : Int)).toNat); have h8 := G.runLen_le s n.toNat; have h6 := G.runLen_le (G.st s (G.runLen s ((n.toNat : Int)).toNat)) k.toNat; simp only [Int.toNat_natCast] at h9 h7 h8 h6 ⊢; omega) (by decide) rfl rfl (len_svh hSB) (rd_slh hSB) fun v6 N6 hN6 => ⟨⟨(by first | exact PH.le_refl _ | assumption | exact PH.le_trans (by assumption) (by assumption)), (inc_of (by repeat' (first | exact List.nil_sublist _ | apply List.Sublist.cons_cons | apply List.Sublist.cons))), .inr (inc_of (by repeat' (first | exact List.nil_sublist _ | apply List.Sublist.cons_cons | apply List.Sublist.cons)))⟩, ?_⟩)
            refine wd_ro 11 rfl (by kernel_rfl) (as_s rfl) rfl ?_
            refine wd_done (by kernel_rfl) ?_
            refine wq_then ?_
            refine xp_seq ?_
            refine xp_freezeOw (La := [_, _, _, _]) hN6 (by simp) fun hf hlf hSf => ?_
            replace hT := hT.mono hlf
            replace hR := hR.mono hlf
            refine xp_region ?_
            refine wl_ro (mv_s rfl) rfl ?_
            refine wl_ro (ro_loadA ag40 rfl (by repeat (first | exact .head | apply Sel.tail)) (by rfl) (whole_Machine _)) rfl ?_
            refine wl_ro (mv_8 rfl) rfl ?_
            refine wl_ro (cv_8_i us5 ik3 rfl) rfl ?_
            refine wl_ro (mv_8 rfl) rfl ?_
            refine wl_ro (cv_8_i us5 ik3 rfl) rfl ?_
            refine wl_ro (roI_add rfl rfl (by omega)) rfl ?_
            refine wl_s rfl (so_callR (c_run_Traps s mm mo ((n.toNat : Int) + (k.toNat : Int)) (by omega) (by omega) (by omega) _ hT hR) gb27 (by rfl) fun vq18 hq18 hlq18 hpq18 => ?_)
            obtain ⟨vC, rfl, hSC⟩ := hpq18
            replace hT := hT.mono hlq18
            replace hR := hR.mono hlq18
            replace hSf := hSf.mono eTrap hlq18
            refine wl_s rfl (so_callW (c_ref14_Same _ _ (G.trapsTo s (G.runLen s ((n.toNat : Int)).toNat) ++ G.trapsTo (G.st s (G.runLen s ((n.toNat : Int)).toNat)) (G.runLen (G.st s (G.runLen s ((n.toNat : Int)).toNat)) ((k.toNat : Int)).toNat)) (G.trapsTo s (G.runLen s ((n.toNat : Int) + (k.toNat : Int)).toNat)) (by have h9 := G.trapsTo_len s (G.runLen s ((n.toNat : Int)).toNat); have h7 := G.trapsTo_len (G.st s (G.runLen s ((n.toNat : Int)).toNat)) (G.runLen (G.st s (G.runLen s ((n.toNat : Int)).toNat)) ((k.toNat : Int)).toNat); have h8 := G.runLen_le s n.toNat; have h6 := G.runLen_le (G.st s (G.runLen s ((n.toNat : Int)).toNat)) k.toNat; rw [List.length_append]; simp only [Int.toNat_natCast] at h9 h7 h8 h6 ⊢; omega)) (by first | exact hT | exact hR | exact ⟨hR2, hR3⟩ | exact ⟨hSf, hSC⟩) gb28 (by rfl) ?_)
            refine wl_ro (mv_b rfl) rfl ?_
            refine wl_yes rfl rfl rfl rfl rfl (yes_of (decide_eq_true (by rw [hadd, G.trapsTo_add]))) (so_ro (mv_s rfl) ?_)
            refine wl_yes rfl rfl rfl rfl rfl (yes_of (decide_eq_true (by rw [hadd, G.trapsTo_add]))) (so_ro (ro_len_slice sl45 rfl) ?_)
            refine wl_yes rfl rfl rfl rfl rfl (yes_of (decide_eq_true (by rw [hadd, G.trapsTo_add]))) (so_ro (mv_i rfl) ?_)
            refine wl_yes rfl rfl rfl rfl rfl (yes_of (decide_eq_true (by rw [hadd, G.trapsTo_add]))) (so_ro (roI_leq rfl rfl) ?_)
            refine wl_ro (ro_pickT rfl (decide_eq_true (by rw [hadd, G.trapsTo_add]))) rfl ?_
            refine wl_ro (as_b rfl) rfl ?_
            refine wl_nil ?_
            refine wq_then ?_
            refine xp_ret ?_
            refine fq_retV rfl (.cons (rv_b rfl) .nil) _ rfl ?_
            exact congrArg Value.bool (decide_eq_true (by have h9 := G.trapsTo_len s (G.runLen s ((n.toNat : Int) + (k.toNat : Int)).toNat); rw [hadd, G.trapsTo_add] at h9; rw [hSf.1, hadd]; omega))
        ·
          refine wl_no rfl rfl rfl rfl rfl (no_of g7) ?_
          refine wl_no rfl rfl rfl rfl rfl (no_of g7) ?_
          refine wl_no rfl rfl rfl rfl rfl (no_of g7) ?_
          refine wl_yes rfl rfl rfl rfl rfl (yes_of (decide_eq_false (by have h8 := G.runLen_le s n.toNat; simp only [Int.toNat_natCast] at h8 ⊢; omega))) (so_ro (ro_pickF rfl g7) ?_)
          refine wl_ro (ro_pickF rfl (decide_eq_false (by have h8 := G.runLen_le s n.toNat; simp only [Int.toNat_natCast] at h8 ⊢; omega))) rfl ?_
          refine wl_nil ?_
          refine wq_then ?_
          refine xp_condF rfl rfl ?_
          refine xp_skip ?_
          refine wq_then ?_
          refine xp_seq ?_
          refine xp_draw [true, true, true, true] [] mixed ?_
          refine wd_ro 1 rfl (by kernel_rfl) (ro_loadA ag40 rfl (by repeat (first | exact .head | apply Sel.tail)) (by rfl) (whole_Machine _)) rfl ?_
          refine wd_ro 2 rfl (by kernel_rfl) (mv_8 rfl) rfl ?_
          refine wd_ro 3 rfl (by kernel_rfl) (cv_8_i us5 ik3 rfl) rfl ?_
          refine wd_ro 6 rfl (by kernel_rfl) (ro_loadA ag40 rfl (by repeat (first | exact .head | apply Sel.tail)) (by rfl) (whole_Machine _)) rfl ?_
          refine wd_ro 7 rfl (by kernel_rfl) (mv_8 rfl) rfl ?_
          refine wd_ro 8 rfl (by kernel_rfl) (cv_8_i us5 ik3 rfl) rfl ?_
          refine wd_pick2 (i := 0) (j := 4) (by kernel_rfl) ?_ ?_
          ·
            refine one_so 0 rfl rfl (so_buildSlice0 se45 fun b92 => ⟨⟨(by first | exact PH.le_refl _ | assumption | exact PH.le_trans (by assumption) (by assumption)), (inc_of (by repeat' (first | exact List.nil_sublist _ | apply List.Sublist.cons_cons | apply List.Sublist.cons))), .inr (inc_of (by repeat' (first | exact List.nil_sublist _ | apply List.Sublist.cons_cons | apply List.Sublist.cons)))⟩, ?_⟩)
            refine wd_so 4 rfl (by kernel_rfl) rfl (so_callR (c_run_Traps s mm mo (n.toNat : Int) (by omega) (by omega) (by omega) _ hT hR) gb27 (by rfl) fun vq25 hq25 hlq25 hpq25 => ⟨⟨(by first | exact PH.le_refl _ | assumption | exact PH.le_trans (by assumption) (by assumption)), (inc_of (by repeat' (first | exact List.nil_sublist _ | apply List.Sublist.cons_cons | apply List.Sublist.cons))), .inr (inc_of (by repeat' (first | exact List.nil_sublist _ | apply List.Sublist.cons_cons | apply List.Sublist.cons)))⟩, ?_⟩)
            obtain ⟨vA, rfl, hSA⟩ := hpq25
            replace hT := hT.mono hlq25
            replace hR := hR.mono hlq25
            replace hR1 := hR1.mono hlq25
            refine wd_so 5 rfl (by kernel_rfl) rfl (so_appendNew (e := eTrap) (ys := G.trapsTo s (G.runLen s ((n.toNat : Int)).toNat)) se45 (by have h9 := G.trapsTo_len s (G.runLen s ((n.toNat : Int)).toNat); have h8 := G.runLen_le s n.toNat; simp only [Int.toNat_natCast] at h9 h8 ⊢; omega) (by decide) rfl rfl (len_svh hSA) (fun _ => rd_slh hSA) fun v5 N5 hN5 => ⟨⟨(by first | exact PH.le_refl _ | assumption | exact PH.le_trans (by assumption) (by assumption)), (inc_of (by repeat' (first | exact List.nil_sublist _ | apply List.Sublist.cons_cons | apply List.Sublist.cons))), .inr (inc_of (by repeat' (first | exact List.nil_sublist _ | apply List.Sublist.cons_cons | apply List.Sublist.cons)))⟩, ?_⟩)
            refine wd_so 9 rfl (by kernel_rfl) rfl (so_callR (c_run_Traps (G.st s (G.runLen s ((n.toNat : Int)).toNat)) m1 o1 (k.toNat : Int) (by rw [G.st_mem]; omega) (by have h9 := G.st_out s (G.runLen s ((n.toNat : Int)).toNat); have h8 := G.runLen_le s n.toNat; simp only [Int.toNat_natCast] at h9 ⊢; omega) (by omega) _ hT hR1) gb27 (by rfl) fun vq26 hq26 hlq26 hpq26 => ⟨⟨(by first | exact PH.le_refl _ | assumption | exact PH.le_trans (by assumption) (by assumption)), (inc_of (by repeat' (first | exact List.nil_sublist _ | apply List.Sublist.cons_cons | apply List.Sublist.cons))), .inr (inc_of (by repeat' (first | exact List.nil_sublist _ | apply List.Sublist.cons_cons | apply List.Sublist.cons)))⟩, ?_⟩)
            obtain ⟨vB, rfl, hSB⟩ := hpq26
            replace hT := hT.mono hlq26
            replace hR := hR.mono hlq26
            replace hR1 := hR1.mono hlq26
            refine wd_so 10 rfl (by kernel_rfl) rfl (so_appendOwS (e := eTrap) (ys := G.trapsTo (G.st s (G.runLen s ((n.toNat : Int)).toNat)) (G.runLen (G.st s (G.runLen s ((n.toNat : Int)).toNat)) ((k.toNat : Int)).toNat)) [_, _, _, _] se45 hN5 (by have h9 := G.trapsTo_len s (G.runLen s ((n.toNat : Int)).toNat); have h7 := G.trapsTo_len (G.st s (G.runLen s ((n.toNat : Int)).toNat)) (G.runLen (G.st s (G.runLen s ((n.toNat : Int)).toNat)) ((k.toNat : Int)).toNat); have h8 := G.runLen_le s n.toNat; have h6 := G.runLen_le (G.st s (G.runLen s ((n.toNat : Int)).toNat)) k.toNat; simp only [Int.toNat_natCast] at h9 h7 h8 h6 ⊢; omega) (by decide) rfl rfl (len_svh hSB) (rd_slh hSB) fun v6 N6 hN6 => ⟨⟨(by first | exact PH.le_refl _ | assumption | exact PH.le_trans (by assumption) (by assumption)), (inc_of (by repeat' (first | exact List.nil_sublist _ | apply List.Sublist.cons_cons | apply List.Sublist.cons))), .inr (inc_of (by repeat' (first | exact List.nil_sublist _ | apply List.Sublist.cons_cons | apply List.Sublist.cons)))⟩, ?_⟩)
            refine wd_ro 11 rfl (by kernel_rfl) (as_s rfl) rfl ?_
            refine wd_done (by kernel_rfl) ?_
            refine wq_then ?_
            refine xp_seq ?_
            refine xp_freezeOw (La := [_, _, _, _]) hN6 (by simp) fun hf hlf hSf => ?_
            replace hT := hT.mono hlf
            replace hR := hR.mono hlf
            refine xp_region ?_
            refine wl_ro (mv_s rfl) rfl ?_
            refine wl_ro (ro_loadA ag40 rfl (by repeat (first | exact .head | apply Sel.tail)) (by rfl) (whole_Machine _)) rfl ?_
            refine wl_ro (mv_8 rfl) rfl ?_
            refine wl_ro (cv_8_i us5 ik3 rfl) rfl ?_
            refine wl_ro (mv_8 rfl) rfl ?_
            refine wl_ro (cv_8_i us5 ik3 rfl) rfl ?_
            refine wl_ro (roI_add rfl rfl (by omega)) rfl ?_
            refine wl_s rfl (so_callR (c_run_Traps s mm mo ((n.toNat : Int) + (k.toNat : Int)) (by omega) (by omega) (by omega) _ hT hR) gb27 (by rfl) fun vq27 hq27 hlq27 hpq27 => ?_)
            obtain ⟨vC, rfl, hSC⟩ := hpq27
            replace hT := hT.mono hlq27
            replace hR := hR.mono hlq27
            replace hSf := hSf.mono eTrap hlq27
            refine wl_s rfl (so_callW (c_ref14_Same _ _ (G.trapsTo s (G.runLen s ((n.toNat : Int)).toNat) ++ G.trapsTo (G.st s (G.runLen s ((n.toNat : Int)).toNat)) (G.runLen (G.st s (G.runLen s ((n.toNat : Int)).toNat)) ((k.toNat : Int)).toNat)) (G.trapsTo s (G.runLen s ((n.toNat : Int) + (k.toNat : Int)).toNat)) (by have h9 := G.trapsTo_len s (G.runLen s ((n.toNat : Int)).toNat); have h7 := G.trapsTo_len (G.st s (G.runLen s ((n.toNat : Int)).toNat)) (G.runLen (G.st s (G.runLen s ((n.toNat : Int)).toNat)) ((k.toNat : Int)).toNat); have h8 := G.runLen_le s n.toNat; have h6 := G.runLen_le (G.st s (G.runLen s ((n.toNat : Int)).toNat)) k.toNat; rw [List.length_append]; simp only [Int.toNat_natCast] at h9 h7 h8 h6 ⊢; omega)) (by first | exact hT | exact hR | exact ⟨hR2, hR3⟩ | exact ⟨hSf, hSC⟩) gb28 (by rfl) ?_)
            refine wl_ro (mv_b rfl) rfl ?_
            refine wl_yes rfl rfl rfl rfl rfl (yes_of (decide_eq_true (by rw [hadd, G.trapsTo_add]))) (so_ro (mv_s rfl) ?_)
            refine wl_yes rfl rfl rfl rfl rfl (yes_of (decide_eq_true (by rw [hadd, G.trapsTo_add]))) (so_ro (ro_len_slice sl45 rfl) ?_)
            refine wl_yes rfl rfl rfl rfl rfl (yes_of (decide_eq_true (by rw [hadd, G.trapsTo_add]))) (so_ro (mv_i rfl) ?_)
            refine wl_yes rfl rfl rfl rfl rfl (yes_of (decide_eq_true (by rw [hadd, G.trapsTo_add]))) (so_ro (roI_leq rfl rfl) ?_)
            refine wl_ro (ro_pickT rfl (decide_eq_true (by rw [hadd, G.trapsTo_add]))) rfl ?_
            refine wl_ro (as_b rfl) rfl ?_
            refine wl_nil ?_
            refine wq_then ?_
            refine xp_ret ?_
            refine fq_retV rfl (.cons (rv_b rfl) .nil) _ rfl ?_
            exact congrArg Value.bool (decide_eq_true (by have h9 := G.trapsTo_len s (G.runLen s ((n.toNat : Int) + (k.toNat : Int)).toNat); rw [hadd, G.trapsTo_add] at h9; rw [hSf.1, hadd]; omega))
          ·
            refine one_so 4 rfl rfl (so_callR (c_run_Traps s mm mo (n.toNat : Int) (by omega) (by omega) (by omega) _ hT hR) gb27 (by rfl) fun vq24 hq24 hlq24 hpq24 => ⟨⟨(by first | exact PH.le_refl _ | assumption | exact PH.le_trans (by assumption) (by assumption)), (inc_of (by repeat' (first | exact List.nil_sublist _ | apply List.Sublist.cons_cons | apply List.Sublist.cons))), .inr (inc_of (by repeat' (first | exact List.nil_sublist _ | apply List.Sublist.cons_cons | apply List.Sublist.cons)))⟩, ?_⟩)
            obtain ⟨vA, rfl, hSA⟩ := hpq24
            replace hT := hT.mono hlq24
            replace hR := hR.mono hlq24
            replace hR1 := hR1.mono hlq24
            refine wd_so 0 rfl (by kernel_rfl) rfl (so_buildSlice0 se45 fun b92 => ⟨⟨(by first | exact PH.le_refl _ | assumption | exact PH.le_trans (by assumption) (by assumption)), (inc_of (by repeat' (first | exact List.nil_sublist _ | apply List.Sublist.cons_cons | apply List.Sublist.cons))), .inr (inc_of (by repeat' (first | exact List.nil_sublist _ | apply List.Sublist.cons_cons | apply List.Sublist.cons)))⟩, ?_⟩)
            refine wd_so 5 rfl (by kernel_rfl) rfl (so_appendNew (e := eTrap) (ys := G.trapsTo s (G.runLen s ((n.toNat : Int)).toNat)) se45 (by have h9 := G.trapsTo_len s (G.runLen s ((n.toNat : Int)).toNat); have h8 := G.runLen_le s n.toNat; simp only [Int.toNat_natCast] at h9 h8 ⊢; omega) (by decide) rfl rfl (len_svh hSA) (fun _ => rd_slh hSA) fun v5 N5 hN5 => ⟨⟨(by first | exact PH.le_refl _ | assumption | exact PH.le_trans (by assumption) (by assumption)), (inc_of (by repeat' (first | exact List.nil_sublist _ | apply List.Sublist.cons_cons | apply List.Sublist.cons))), .inr (inc_of (by repeat' (first | exact List.nil_sublist _ | apply List.Sublist.cons_cons | apply List.Sublist.cons)))⟩, ?_⟩)
            refine wd_so 9 rfl (by kernel_rfl) rfl (so_callR (c_run_Traps (G.st s (G.runLen s ((n.toNat : Int)).toNat)) m1 o1 (k.toNat : Int) (by rw [G.st_mem]; omega) (by have h9 := G.st_out s (G.runLen s ((n.toNat : Int)).toNat); have h8 := G.runLen_le s n.toNat; simp only [Int.toNat_natCast] at h9 ⊢; omega) (by omega) _ hT hR1) gb27 (by rfl) fun vq28 hq28 hlq28 hpq28 => ⟨⟨(by first | exact PH.le_refl _ | assumption | exact PH.le_trans (by assumption) (by assumption)), (inc_of (by repeat' (first | exact List.nil_sublist _ | apply List.Sublist.cons_cons | apply List.Sublist.cons))), .inr (inc_of (by repeat' (first | exact List.nil_sublist _ | apply List.Sublist.cons_cons | apply List.Sublist.cons)))⟩, ?_⟩)
            obtain ⟨vB, rfl, hSB⟩ := hpq28
            replace hT := hT.mono hlq28
            replace hR := hR.mono hlq28
            replace hR1 := hR1.mono hlq28
            refine wd_so 10 rfl (by kernel_rfl) rfl (so_appendOwS (e := eTrap) (ys := G.trapsTo (G.st s (G.runLen s ((n.toNat : Int)).toNat)) (G.runLen (G.st s (G.runLen s ((n.toNat : Int)).toNat)) ((k.toNat : Int)).toNat)) [_, _, _, _] se45 hN5 (by have h9 := G.trapsTo_len s (G.runLen s ((n.toNat : Int)).toNat); have h7 := G.trapsTo_len (G.st s (G.runLen s ((n.toNat : Int)).toNat)) (G.runLen (G.st s (G.runLen s ((n.toNat : Int)).toNat)) ((k.toNat : Int)).toNat); have h8 := G.runLen_le s n.toNat; have h6 := G.runLen_le (G.st s (G.runLen s ((n.toNat : Int)).toNat)) k.toNat; simp only [Int.toNat_natCast] at h9 h7 h8 h6 ⊢; omega) (by decide) rfl rfl (len_svh hSB) (rd_slh hSB) fun v6 N6 hN6 => ⟨⟨(by first | exact PH.le_refl _ | assumption | exact PH.le_trans (by assumption) (by assumption)), (inc_of (by repeat' (first | exact List.nil_sublist _ | apply List.Sublist.cons_cons | apply List.Sublist.cons))), .inr (inc_of (by repeat' (first | exact List.nil_sublist _ | apply List.Sublist.cons_cons | apply List.Sublist.cons)))⟩, ?_⟩)
            refine wd_ro 11 rfl (by kernel_rfl) (as_s rfl) rfl ?_
            refine wd_done (by kernel_rfl) ?_
            refine wq_then ?_
            refine xp_seq ?_
            refine xp_freezeOw (La := [_, _, _, _]) hN6 (by simp) fun hf hlf hSf => ?_
            replace hT := hT.mono hlf
            replace hR := hR.mono hlf
            refine xp_region ?_
            refine wl_ro (mv_s rfl) rfl ?_
            refine wl_ro (ro_loadA ag40 rfl (by repeat (first | exact .head | apply Sel.tail)) (by rfl) (whole_Machine _)) rfl ?_
            refine wl_ro (mv_8 rfl) rfl ?_
            refine wl_ro (cv_8_i us5 ik3 rfl) rfl ?_
            refine wl_ro (mv_8 rfl) rfl ?_
            refine wl_ro (cv_8_i us5 ik3 rfl) rfl ?_
            refine wl_ro (roI_add rfl rfl (by omega)) rfl ?_
            refine wl_s rfl (so_callR (c_run_Traps s mm mo ((n.toNat : Int) + (k.toNat : Int)) (by omega) (by omega) (by omega) _ hT hR) gb27 (by rfl) fun vq29 hq29 hlq29 hpq29 => ?_)
            obtain ⟨vC, rfl, hSC⟩ := hpq29
            replace hT := hT.mono hlq29
            replace hR := hR.mono hlq29
            replace hSf := hSf.mono eTrap hlq29
            refine wl_s rfl (so_callW (c_ref14_Same _ _ (G.trapsTo s (G.runLen s ((n.toNat : Int)).toNat) ++ G.trapsTo (G.st s (G.runLen s ((n.toNat : Int)).toNat)) (G.runLen (G.st s (G.runLen s ((n.toNat : Int)).toNat)) ((k.toNat : Int)).toNat)) (G.trapsTo s (G.runLen s ((n.toNat : Int) + (k.toNat : Int)).toNat)) (by have h9 := G.trapsTo_len s (G.runLen s ((n.toNat : Int)).toNat); have h7 := G.trapsTo_len (G.st s (G.runLen s ((n.toNat : Int)).toNat)) (G.runLen (G.st s (G.runLen s ((n.toNat : Int)).toNat)) ((k.toNat : Int)).toNat); have h8 := G.runLen_le s n.toNat; have h6 := G.runLen_le (G.st s (G.runLen s ((n.toNat : Int)).toNat)) k.toNat; rw [List.length_append]; simp only [Int.toNat_natCast] at h9 h7 h8 h6 ⊢; omega)) (by first | exact hT | exact hR | exact ⟨hR2, hR3⟩ | exact ⟨hSf, hSC⟩) gb28 (by rfl) ?_)
            refine wl_ro (mv_b rfl) rfl ?_
            refine wl_yes rfl rfl rfl rfl rfl (yes_of (decide_eq_true (by rw [hadd, G.trapsTo_add]))) (so_ro (mv_s rfl) ?_)
            refine wl_yes rfl rfl rfl rfl rfl (yes_of (decide_eq_true (by rw [hadd, G.trapsTo_add]))) (so_ro (ro_len_slice sl45 rfl) ?_)
            refine wl_yes rfl rfl rfl rfl rfl (yes_of (decide_eq_true (by rw [hadd, G.trapsTo_add]))) (so_ro (mv_i rfl) ?_)
            refine wl_yes rfl rfl rfl rfl rfl (yes_of (decide_eq_true (by rw [hadd, G.trapsTo_add]))) (so_ro (roI_leq rfl rfl) ?_)
            refine wl_ro (ro_pickT rfl (decide_eq_true (by rw [hadd, G.trapsTo_add]))) rfl ?_
            refine wl_ro (as_b rfl) rfl ?_
            refine wl_nil ?_
            refine wq_then ?_
            refine xp_ret ?_
            refine fq_retV rfl (.cons (rv_b rfl) .nil) _ rfl ?_
            exact congrArg Value.bool (decide_eq_true (by have h9 := G.trapsTo_len s (G.runLen s ((n.toNat : Int) + (k.toNat : Int)).toNat); rw [hadd, G.trapsTo_add] at h9; rw [hSf.1, hadd]; omega))
set_option maxHeartbeats 4000000 in
theorem c_law14_RunUntilStopsFirst (s : MS) (mm mo : SV) (n : BitVec 8) (pc : BitVec 32) : CtW (fun h => Tb h ∧ Rp h s mm mo) Tryd.prog 5 [.agg (encMachine (mach s mm mo)), u8 n, u32 pc] (.bool true) := by
  rintro h ⟨hT, hR⟩
  refine ctr_enter (n := 126) [.agg (encMachine (mach s mm mo)), u8 n, u32 pc] Tryd.func5 rfl rfl rfl fun w0 => ?_
  refine xp_seq ?_
  refine xp_region ?_
  refine wl_s rfl (so_boxA rfl fun b3 => ?_)
  refine wl_ro (as_b rfl) rfl ?_
  refine wl_nil ?_
  refine wq_then ?_
  refine xp_seq ?_
  refine xp_seq ?_
  refine xp_region ?_
  refine wl_s rfl (so_callW (c_law14_awake) (by first | exact hT | exact hR | exact ⟨hR1, hR2⟩ | exact ⟨hR4, ⟨hR.mem, hR.out⟩⟩) gb23 (by rfl) ?_)
  refine wl_ro (ro_not rfl) rfl ?_
  refine wl_ro (mv_b rfl) rfl ?_
  refine wl_yes rfl rfl rfl rfl rfl (yes_of rfl) (so_ro (ro_loadA ag40 rfl (by repeat (first | exact .head | apply Sel.tail)) (by rfl) (whole_Machine _)) ?_)
  refine wl_yes rfl rfl rfl rfl rfl (yes_of rfl) (so_callW (c_ref10_Few s mm mo) (by first | exact hT | exact hR | exact ⟨hR1, hR2⟩ | exact ⟨hR4, ⟨hR.mem, hR.out⟩⟩) gb24 (by rfl) ?_)
  refine wl_yes rfl rfl rfl rfl rfl (yes_of rfl) (so_ro (ro_not rfl) ?_)
  refine wl_ro (ro_pickF rfl rfl) rfl ?_
  refine wl_ro (mv_b rfl) rfl ?_
  refine wl_split (dj := 25) rfl (fun g1 => ?_) (fun g1 => ?_)
  ·
    refine wl_no rfl rfl rfl rfl rfl (no_of g1) ?_
    refine wl_no rfl rfl rfl rfl rfl (no_of g1) ?_
    refine wl_ro (ro_pickT rfl g1) rfl ?_
    refine wl_nil ?_
    refine wq_then ?_
    refine xp_condT rfl rfl ?_
    refine xp_seq ?_
    refine xp_region ?_
    refine wl_s rfl (so_callW (c_law14_awake) (by first | exact hT | exact hR | exact ⟨hR1, hR2⟩ | exact ⟨hR4, ⟨hR.mem, hR.out⟩⟩) gb23 (by rfl) ?_)
    refine wl_ro (as_b rfl) rfl ?_
    refine wl_nil ?_
    refine wq_then ?_
    refine xp_ret ?_
    refine wq_then_ret ?_
    refine fq_retV rfl (.cons (rv_b rfl) .nil) _ rfl ?_
    first | rfl | exact congrArg Value.bool (by rcases G.until_end s pc (G.runLen s ((n.toNat : Int)).toNat) with h9 | h9 <;> rcases G.runLen_stop s n.toNat with h8 | h8 <;> simp_all)
  ·
    refine wl_yes rfl rfl rfl rfl rfl (yes_of g1) (so_ro (mv_8 rfl) ?_)
    refine wl_yes rfl rfl rfl rfl rfl (yes_of g1) (so_ro (ro8_gtr (b := 40#8) rfl rfl) ?_)
    refine wl_ro (ro_pickF rfl g1) rfl ?_
    refine wl_nil ?_
    refine wq_then ?_
    refine xp_cond _ rfl (fun c2 => ?_) (fun c2 => ?_)
    ·
      try simp only [decide_eq_true_eq, decide_eq_false_iff_not] at c2
      refine xp_seq ?_
      refine xp_region ?_
      refine wl_s rfl (so_callW (c_law14_awake) (by first | exact hT | exact hR | exact ⟨hR1, hR2⟩ | exact ⟨hR4, ⟨hR.mem, hR.out⟩⟩) gb23 (by rfl) ?_)
      refine wl_ro (as_b rfl) rfl ?_
      refine wl_nil ?_
      refine wq_then ?_
      refine xp_ret ?_
      refine wq_then_ret ?_
      refine fq_retV rfl (.cons (rv_b rfl) .nil) _ rfl ?_
      first | rfl | exact congrArg Value.bool (by rcases G.until_end s pc (G.runLen s ((n.toNat : Int)).toNat) with h9 | h9 <;> rcases G.runLen_stop s n.toNat with h8 | h8 <;> simp_all)
    ·
      try simp only [decide_eq_true_eq, decide_eq_false_iff_not] at c2
      refine xp_skip ?_
      refine wq_then ?_
      refine xp_seq ?_
      have hfew : s.mem.length ≤ 600 ∧ s.out.length ≤ 600 := by simp_all [G.few]
      obtain ⟨hm6, ho6⟩ := hfew
      have hsn : ¬ (40#8 < n) := by simp_all
      have hnn : n.toNat ≤ 40 := by rw [BitVec.lt_def] at hsn; simpa using hsn
      refine xp_region ?_
      refine wl_ro (ro_loadA ag40 rfl (by repeat (first | exact .head | apply Sel.tail)) (by rfl) (whole_Machine _)) rfl ?_
      refine wl_ro (mv_8 rfl) rfl ?_
      refine wl_ro (cv_8_i us5 ik3 rfl) rfl ?_
      refine wl_ro (mv_32 rfl) rfl ?_
      refine wl_s rfl (so_callR (c_run_RunUntil s mm mo pc (n.toNat : Int) (by omega) (by omega) (by omega) _ hT hR) gb29 (by rfl) fun vq3 hq3 hlq3 hpq3 => ?_)
      obtain ⟨m1, o1, rfl, hR1⟩ := hpq3
      replace hT := hT.mono hlq3
      replace hR := hR.mono hlq3
      refine wl_ro (mv_u rfl) rfl ?_
      refine wl_ro (ro_extract rfl rfl) rfl ?_
      refine wl_ro (ro_extract rfl rfl) rfl ?_
      refine wl_ro (ro_extract rfl rfl) rfl ?_
      refine wl_s rfl (so_allocA zr40 fun b7 => ?_)
      refine wl_s0 (so_storeA ag40 rfl rfl rfl (ones_Machine _) (by repeat (first | exact .head | apply Sel.tail)) rfl ?_)
      refine wl_ro (as_i rfl) rfl ?_
      refine wl_ro (as_b rfl) rfl ?_
      refine wl_nil ?_
      refine wq_then ?_
      refine xp_seq ?_
      refine xp_region ?_
      refine wl_ro (ro_loadA ag40 rfl (by repeat (first | exact .head | apply Sel.tail)) (by rfl) (whole_Machine _)) rfl ?_
      refine wl_ro (mv_i rfl) rfl ?_
      refine wl_s rfl (so_callR (c_run_Run s mm mo (((G.untilAt s pc (G.runLen s ((n.toNat : Int)).toNat)) : Nat) : Int) (by omega) (by omega) (by have h9 := G.until_le s pc (G.runLen s ((n.toNat : Int)).toNat); have h8 := G.runLen_le s n.toNat; simp only [Int.toNat_natCast] at h9 h8 ⊢; omega) _ hT hR) gb25 (by rfl) fun vq4 hq4 hlq4 hpq4 => ?_)
      obtain ⟨m2, o2, rfl, hR2⟩ := hpq4
      replace hT := hT.mono hlq4
      replace hR := hR.mono hlq4
      replace hR1 := hR1.mono hlq4
      refine wl_ro (mv_u rfl) rfl ?_
      refine wl_ro (ro_extract rfl rfl) rfl ?_
      refine wl_ro (ro_extract rfl rfl) rfl ?_
      refine wl_s rfl (so_allocA zr40 fun b10 => ?_)
      refine wl_s0 (so_storeA ag40 rfl rfl rfl (ones_Machine _) (by repeat (first | exact .head | apply Sel.tail)) rfl ?_)
      refine wl_ro (as_i rfl) rfl ?_
      refine wl_nil ?_
      refine wq_then ?_
      refine xp_seq ?_
      refine xp_seq ?_
      have hk0 : G.runLen s ((n.toNat : Int)).toNat ≤ 40 := Nat.le_trans (G.runLen_le s n.toNat) hnn
      have hu : (G.untilAt s pc (G.runLen s ((n.toNat : Int)).toNat)) ≤ G.runLen s ((n.toNat : Int)).toNat := G.until_le _ _ _
      have hp : G.runLen s (((G.untilAt s pc (G.runLen s ((n.toNat : Int)).toNat)) : Nat) : Int).toNat = (G.untilAt s pc (G.runLen s ((n.toNat : Int)).toNat)) := G.runLen_part (n := n.toNat) hu
      refine xp_region ?_
      refine wl_ro (mv_i rfl) rfl ?_
      refine wl_ro (roI_lss rfl rfl) rfl ?_
      refine wl_ro (mv_b rfl) rfl ?_
      refine wl_yes rfl rfl rfl rfl rfl (yes_of (decide_eq_false (by omega))) (so_ro (mv_i rfl) ?_)
      refine wl_yes rfl rfl rfl rfl rfl (yes_of (decide_eq_false (by omega))) (so_ro (mv_8 rfl) ?_)
      refine wl_yes rfl rfl rfl rfl rfl (yes_of (decide_eq_false (by omega))) (so_ro (cv_8_i us5 ik3 rfl) ?_)
      refine wl_yes rfl rfl rfl rfl rfl (yes_of (decide_eq_false (by omega))) (so_ro (roI_gtr rfl rfl) ?_)
      refine wl_ro (ro_pickF rfl (decide_eq_false (by omega))) rfl ?_
      refine wl_ro (mv_b rfl) rfl ?_
      refine wl_yes rfl rfl rfl rfl rfl (yes_of (decide_eq_false (by have h8 := G.runLen_le s n.toNat; simp only [Int.toNat_natCast] at *; omega))) (so_ro (ro_loadA ag40 rfl (by repeat (first | exact .head | apply Sel.tail)) (by rfl) (whole_Machine _)) ?_)
      refine wl_yes rfl rfl rfl rfl rfl (yes_of (decide_eq_false (by have h8 := G.runLen_le s n.toNat; simp only [Int.toNat_natCast] at *; omega))) (so_ro (ro_loadA ag40 rfl (by repeat (first | exact .head | apply Sel.tail)) (by rfl) (whole_Machine _)) ?_)
      refine wl_yes rfl rfl rfl rfl rfl (yes_of (decide_eq_false (by have h8 := G.runLen_le s n.toNat; simp only [Int.toNat_natCast] at *; omega))) (so_callW (c_ref10_Same (G.st s (G.untilAt s pc (G.runLen s ((n.toNat : Int)).toNat))) (G.st s (G.runLen s (((G.untilAt s pc (G.runLen s ((n.toNat : Int)).toNat)) : Nat) : Int).toNat)) _ _ _ _ (by rw [G.st_mem]; omega) (by have h9 := G.st_out s (G.untilAt s pc (G.runLen s ((n.toNat : Int)).toNat)); omega)) (by first | exact hT | exact hR | exact ⟨hR1, hR2⟩ | exact ⟨hR4, ⟨hR.mem, hR.out⟩⟩) gb26 (by rfl) ?_)
      refine wl_yes rfl rfl rfl rfl rfl (yes_of (decide_eq_false (by have h8 := G.runLen_le s n.toNat; simp only [Int.toNat_natCast] at *; omega))) (so_ro (ro_not rfl) ?_)
      refine wl_ro (ro_pickF rfl (decide_eq_false (by have h8 := G.runLen_le s n.toNat; simp only [Int.toNat_natCast] at *; omega))) rfl ?_
      refine wl_ro (mv_b rfl) rfl ?_
      refine wl_yes rfl rfl rfl rfl rfl (yes_of (by rw [hp, G.same_refl]; rfl)) (so_ro (mv_i rfl) ?_)
      refine wl_yes rfl rfl rfl rfl rfl (yes_of (by rw [hp, G.same_refl]; rfl)) (so_ro (mv_i rfl) ?_)
      refine wl_yes rfl rfl rfl rfl rfl (yes_of (by rw [hp, G.same_refl]; rfl)) (so_ro (roI_neq rfl rfl) ?_)
      refine wl_ro (ro_pickF rfl (by rw [hp, G.same_refl]; rfl)) rfl ?_
      refine wl_ro (mv_b rfl) rfl ?_
      refine wl_yes rfl rfl rfl rfl rfl (yes_of (by rw [hp]; simp)) (so_ro (mv_b rfl) ?_)
      refine wl_yes rfl rfl rfl rfl rfl (yes_of (by rw [hp]; simp)) (so_ro (ro_fieldAddrC 0 fb40_0 rfl rfl) ?_)
      refine wl_yes rfl rfl rfl rfl rfl (yes_of (by rw [hp]; simp)) (so_ro (ro_fieldAddrC 16 fb37_1 rfl rfl) ?_)
      refine wl_yes rfl rfl rfl rfl rfl (yes_of (by rw [hp]; simp)) (so_ro (ro_load sc22 rfl (by repeat (first | exact .head | apply Sel.tail)) (get_Machine_core_pc _)) ?_)
      refine wl_yes rfl rfl rfl rfl rfl (yes_of (by rw [hp]; simp)) (so_ro (mv_32 rfl) ?_)
      refine wl_yes rfl rfl rfl rfl rfl (yes_of (by rw [hp]; simp)) (so_ro (ro32_eql rfl rfl) ?_)
      refine wl_yes rfl rfl rfl rfl rfl (yes_of (by rw [hp]; simp)) (so_ro (rob_neq ub4 rfl rfl) ?_)
      refine wl_ro (ro_pickF rfl (by rw [hp]; simp)) rfl ?_
      refine wl_nil ?_
      refine wq_then ?_
      refine xp_condF rfl (by simp) ?_
      refine xp_skip ?_
      refine wq_then ?_
      refine xp_seq ?_
      refine xp_seq ?_
      refine xp_region ?_
      refine wl_ro (as_i rfl) rfl ?_
      refine wl_nil ?_
      refine wq_then ?_
      refine xp_block ?_
      refine xp_loopE (ds := [])  (A := Nat) [6, 12, 13, 14, 73, 74, 75, 76, 77, 78, 79, 80, 81, 82, 83, 84, 85, 86, 87, 88] (fun j => (G.untilAt s pc (G.runLen s ((n.toNat : Int)).toNat)) - j) (fun j => [(12, int (j : Int))]) (fun j h' L' => j ≤ (G.untilAt s pc (G.runLen s ((n.toNat : Int)).toNat)) ∧ L' = [(b10, .cells (encMachine (mach (G.st s (G.runLen s (((G.untilAt s pc (G.runLen s ((n.toNat : Int)).toNat)) : Nat) : Int).toNat)) m2 o2)) 40 (0, 0)), (b7, .cells (encMachine (mach (G.st s (G.untilAt s pc (G.runLen s ((n.toNat : Int)).toNat))) m1 o1)) 40 (0, 0)), (b3, .cells (encMachine (mach s mm mo)) 40 (0, 0))] ∧ Tb h' ∧ Rp h' s mm mo ∧ Rp h' (G.st s (G.untilAt s pc (G.runLen s ((n.toNat : Int)).toNat))) m1 o1) 0 ⟨rfl, trivial⟩ ?_ ?_
      · exact ⟨Nat.zero_le _, rfl, hT, hR, hR1⟩
      · clear hR1 hR2 hT hR; rintro j us h2 L2 ⟨hj, rfl, hT, hR, hR1⟩
        refine xp_seq ?_
        refine xp_seq ?_
        refine xp_region ?_
        refine wl_ro (mv_i rfl) rfl ?_
        refine wl_ro (mv_i rfl) rfl ?_
        refine wl_ro (roI_lss rfl rfl) rfl ?_
        refine wl_nil ?_
        refine wq_then ?_
        refine xp_cond _ rfl (fun c5 => ?_) (fun c5 => ?_)
        ·
          try simp only [decide_eq_true_eq, decide_eq_false_iff_not] at c5
          refine xp_skip ?_
          refine wq_then ?_
          refine xp_seq ?_
          refine xp_block ?_
          refine xp_seq ?_
          refine xp_region ?_
          refine wl_ro (ro_loadA ag40 rfl (by repeat (first | exact .head | apply Sel.tail)) (by rfl) (whole_Machine _)) rfl ?_
          refine wl_ro (mv_i rfl) rfl ?_
          refine wl_s rfl (so_callR (c_run_Run s mm mo ((j : Nat) : Int) (by omega) (by omega) (by omega) _ hT hR) gb25 (by rfl) fun vq h9 hl9 hp9 => ?_)
          obtain ⟨m3, o3, rfl, hR3⟩ := hp9
          replace hT := hT.mono hl9
          replace hR := hR.mono hl9
          replace hR1 := hR1.mono hl9
          refine wl_ro (mv_u rfl) rfl ?_
          refine wl_ro (ro_extract rfl rfl) rfl ?_
          refine wl_ro (ro_extract rfl rfl) rfl ?_
          refine wl_s rfl (so_allocA zr40 fun b13 => ?_)
          refine wl_s0 (so_storeA ag40 rfl rfl rfl (ones_Machine _) (by repeat (first | exact .head | apply Sel.tail)) rfl ?_)
          refine wl_ro (as_i rfl) rfl ?_
          refine wl_nil ?_
          refine wq_then ?_
          refine xp_seq ?_
          refine xp_region ?_
          refine wl_ro (ro_fieldAddrC 0 fb40_0 rfl rfl) rfl ?_
          refine wl_ro (ro_fieldAddrC 16 fb37_1 rfl rfl) rfl ?_
          refine wl_ro (ro_load sc22 rfl (by repeat (first | exact .head | apply Sel.tail)) (get_Machine_core_pc _)) rfl ?_
          refine wl_ro (mv_32 rfl) rfl ?_
          refine wl_ro (ro32_eql rfl rfl) rfl ?_
          refine wl_nil ?_
          refine wq_then ?_
          refine xp_condF rfl (decide_eq_false (by show ¬ (G.st s (G.runLen s ((j : Nat) : Int).toNat)).core.pc = pc; rw [show G.runLen s ((j : Nat) : Int).toNat = j from G.runLen_part (n := n.toNat) (by simp only [Int.toNat_natCast] at *; omega)]; exact G.until_first s pc (G.runLen s ((n.toNat : Int)).toNat) j (by omega))) ?_
          refine xp_skip ?_
          refine wq_in ?_
          refine wq_then ?_
          refine xp_region ?_
          refine wl_ro (mv_i rfl) rfl ?_
          refine wl_ro (roI_add rfl rfl (by omega)) rfl ?_
          refine wl_ro (as_i rfl) rfl ?_
          refine wl_nil ?_
          refine wq_sub (.cons _ (List.Sublist.refl _)) ?_
          refine wq_loopE (j + 1) (by omega) (by repeat (first | exact out_ovr | refine out_upd rfl ?_)) ⟨slot_i rfl (by omega), trivial⟩ ?_
          exact ⟨by omega, rfl, hT, hR, hR1⟩
        ·
          try simp only [decide_eq_true_eq, decide_eq_false_iff_not] at c5
          refine xp_exit ?_
          refine wq_then_exit ?_
          refine wq_then_exit ?_
          refine wq_in_here ?_
          refine wq_then ?_
          refine xp_seq ?_
          refine xp_region ?_
          refine wl_ro (ro_loadA ag40 rfl (by repeat (first | exact .head | apply Sel.tail)) (by rfl) (whole_Machine _)) rfl ?_
          refine wl_s rfl (so_allocA zr40 fun b15 => ?_)
          refine wl_s0 (so_storeA ag40 rfl rfl rfl (ones_Machine _) (by repeat (first | exact .head | apply Sel.tail)) rfl ?_)
          refine wl_nil ?_
          refine wq_then ?_
          refine xp_seq ?_
          refine xp_region ?_
          refine wl_ro (ro_fieldAddrC 32 fb40_4 rfl rfl) rfl ?_
          refine wl_s0 (so_store sc4 rfl rfl rfl (by repeat (first | exact .head | apply Sel.tail)) (by rfl) (set_Machine_halted _ _) ?_)
          refine wl_nil ?_
          refine wq_then ?_
          refine xp_seq ?_
          refine xp_region ?_
          refine wl_ro (ro_loadA ag40 rfl (by repeat (first | exact .head | apply Sel.tail)) (by rfl) (whole_Machine _)) rfl ?_
          refine wl_ro (mv_8 rfl) rfl ?_
          refine wl_ro (cv_8_i us5 ik3 rfl) rfl ?_
          refine wl_s rfl (so_callR (c_run_Run ({ s with halted := true } : MS) mm mo (n.toNat : Int) (by show s.mem.length ≤ _; omega) (by show s.out.length ≤ _; omega) (by omega) _ hT ⟨hR.mem, hR.out⟩) gb25 (by rfl) fun vq6 hq6 hlq6 hpq6 => ?_)
          obtain ⟨m4, o4, rfl, hR4⟩ := hpq6
          replace hT := hT.mono hlq6
          replace hR := hR.mono hlq6
          refine wl_ro (mv_u rfl) rfl ?_
          refine wl_ro (ro_extract rfl rfl) rfl ?_
          refine wl_ro (ro_extract rfl rfl) rfl ?_
          refine wl_s rfl (so_allocA zr40 fun b16 => ?_)
          refine wl_s0 (so_storeA ag40 rfl rfl rfl (ones_Machine _) (by repeat (first | exact .head | apply Sel.tail)) rfl ?_)
          refine wl_ro (as_i rfl) rfl ?_
          refine wl_nil ?_
          refine wq_then ?_
          refine xp_seq ?_
          have hz : G.runLen ({ s with halted := true } : MS) ((n.toNat : Int)).toNat = 0 := G.runLen_still rfl
          refine xp_region ?_
          refine wl_ro (ro_loadA ag40 rfl (by repeat (first | exact .head | apply Sel.tail)) (by rfl) (whole_Machine _)) rfl ?_
          refine wl_ro (ro_loadA ag40 rfl (by repeat (first | exact .head | apply Sel.tail)) (by rfl) (whole_Machine _)) rfl ?_
          refine wl_s rfl (so_callW (c_ref10_Same (G.st ({ s with halted := true } : MS) (G.runLen ({ s with halted := true } : MS) ((n.toNat : Int)).toNat)) ({ s with halted := true } : MS) _ _ _ _ (by rw [G.st_mem]; show s.mem.length ≤ _; omega) (by rw [hz]; show s.out.length ≤ _; omega)) (by first | exact hT | exact hR | exact ⟨hR1, hR2⟩ | exact ⟨hR4, ⟨hR.mem, hR.out⟩⟩) gb26 (by rfl) ?_)
          refine wl_ro (mv_b rfl) rfl ?_
          refine wl_yes rfl rfl rfl rfl rfl (yes_of (by rw [hz]; exact G.same_refl _)) (so_ro (mv_i rfl) ?_)
          refine wl_yes rfl rfl rfl rfl rfl (yes_of (by rw [hz]; exact G.same_refl _)) (so_ro (roI_eql rfl rfl) ?_)
          refine wl_ro (ro_pickT rfl (by rw [hz]; exact G.same_refl _)) rfl ?_
          refine wl_ro (mv_b rfl) rfl ?_
          refine wl_yes rfl rfl rfl rfl rfl (yes_of (decide_eq_true (by rw [hz]; rfl))) (so_ro (ro_loadA ag40 rfl (by repeat (first | exact .head | apply Sel.tail)) (by rfl) (whole_Machine _)) ?_)
          refine wl_yes rfl rfl rfl rfl rfl (yes_of (decide_eq_true (by rw [hz]; rfl))) (so_ro (mv_8 rfl) ?_)
          refine wl_yes rfl rfl rfl rfl rfl (yes_of (decide_eq_true (by rw [hz]; rfl))) (so_ro (cv_8_i us5 ik3 rfl) ?_)
          refine wl_yes rfl rfl rfl rfl rfl (yes_of (decide_eq_true (by rw [hz]; rfl))) (so_callR (c_run_Traps ({ s with halted := true } : MS) mm mo (n.toNat : Int) (by show s.mem.length ≤ _; omega) (by show s.out.length ≤ _; omega) (by omega) _ hT ⟨hR.mem, hR.out⟩) gb27 (by rfl) fun vq7 hq7 hlq7 hpq7 => ?_)
          obtain ⟨vD, rfl, hSD⟩ := hpq7
          refine wl_yes rfl rfl rfl rfl rfl (yes_of (decide_eq_true (by rw [hz]; rfl))) (so_ro (ro_len_slice sl45 rfl) ?_)
          refine wl_yes rfl rfl rfl rfl rfl (yes_of (decide_eq_true (by rw [hz]; rfl))) (so_ro (roI_eql rfl rfl) ?_)
          refine wl_ro (ro_pickT rfl (decide_eq_true (by rw [hz]; rfl))) rfl ?_
          refine wl_ro (mv_b rfl) rfl ?_
          refine wl_yes rfl rfl rfl rfl rfl (yes_of (decide_eq_true (by rw [hSD.1, hz]; rfl))) (so_ro (mv_b rfl) ?_)
          refine wl_yes rfl rfl rfl rfl rfl (yes_of (decide_eq_true (by rw [hSD.1, hz]; rfl))) (so_ro (mv_b rfl) ?_)
          refine wl_split (dj := 115) rfl (fun g8 => ?_) (fun g8 => ?_)
          ·
            refine wl_no rfl rfl rfl rfl rfl (no_of g8) ?_
            refine wl_no rfl rfl rfl rfl rfl (no_of g8) ?_
            refine wl_no rfl rfl rfl rfl rfl (no_of g8) ?_
            refine wl_no rfl rfl rfl rfl rfl (no_of g8) ?_
            refine wl_yes rfl rfl rfl rfl rfl (yes_of (decide_eq_true (by rw [hSD.1, hz]; rfl))) (so_ro (ro_pickT rfl g8) ?_)
            refine wl_yes rfl rfl rfl rfl rfl (yes_of (decide_eq_true (by rw [hSD.1, hz]; rfl))) (so_ro (mv_b rfl) ?_)
            refine wl_no rfl rfl rfl rfl rfl (no_of rfl) ?_
            refine wl_no rfl rfl rfl rfl rfl (no_of rfl) ?_
            refine wl_yes rfl rfl rfl rfl rfl (yes_of (decide_eq_true (by rw [hSD.1, hz]; rfl))) (so_ro (ro_pickT rfl rfl) ?_)
            refine wl_ro (ro_pickT rfl (decide_eq_true (by rw [hSD.1, hz]; rfl))) rfl ?_
            refine wl_ro (as_b rfl) rfl ?_
            refine wl_nil ?_
            refine wq_then ?_
            refine xp_ret ?_
            refine fq_retV rfl (.cons (rv_b rfl) .nil) _ rfl ?_
            first | rfl | exact congrArg Value.bool (by rcases G.until_end s pc (G.runLen s ((n.toNat : Int)).toNat) with h9 | h9 <;> rcases G.runLen_stop s n.toNat with h8 | h8 <;> simp_all)
          ·
            refine wl_yes rfl rfl rfl rfl rfl (yes_of g8) (so_ro (mv_i rfl) ?_)
            refine wl_yes rfl rfl rfl rfl rfl (yes_of g8) (so_ro (mv_8 rfl) ?_)
            refine wl_yes rfl rfl rfl rfl rfl (yes_of g8) (so_ro (cv_8_i us5 ik3 rfl) ?_)
            refine wl_yes rfl rfl rfl rfl rfl (yes_of g8) (so_ro (roI_eql rfl rfl) ?_)
            refine wl_yes rfl rfl rfl rfl rfl (yes_of (decide_eq_true (by rw [hSD.1, hz]; rfl))) (so_ro (ro_pickF rfl g8) ?_)
            refine wl_yes rfl rfl rfl rfl rfl (yes_of (decide_eq_true (by rw [hSD.1, hz]; rfl))) (so_ro (mv_b rfl) ?_)
            refine wl_split (dj := 121) rfl (fun g9 => ?_) (fun g9 => ?_)
            ·
              refine wl_no rfl rfl rfl rfl rfl (no_of g9) ?_
              refine wl_no rfl rfl rfl rfl rfl (no_of g9) ?_
              refine wl_yes rfl rfl rfl rfl rfl (yes_of (decide_eq_true (by rw [hSD.1, hz]; rfl))) (so_ro (ro_pickT rfl g9) ?_)
              refine wl_ro (ro_pickT rfl (decide_eq_true (by rw [hSD.1, hz]; rfl))) rfl ?_
              refine wl_ro (as_b rfl) rfl ?_
              refine wl_nil ?_
              refine wq_then ?_
              refine xp_ret ?_
              refine fq_retV rfl (.cons (rv_b rfl) .nil) _ rfl ?_
              first | rfl | exact congrArg Value.bool (by rcases G.until_end s pc (G.runLen s ((n.toNat : Int)).toNat) with h9 | h9 <;> rcases G.runLen_stop s n.toNat with h8 | h8 <;> simp_all)
            ·
              refine wl_yes rfl rfl rfl rfl rfl (yes_of g9) (so_ro (ro_fieldAddrC 32 fb40_4 rfl rfl) ?_)
              refine wl_yes rfl rfl rfl rfl rfl (yes_of g9) (so_ro (ro_load sc4 rfl (by repeat (first | exact .head | apply Sel.tail)) (get_Machine_halted _)) ?_)
              refine wl_yes rfl rfl rfl rfl rfl (yes_of (decide_eq_true (by rw [hSD.1, hz]; rfl))) (so_ro (ro_pickF rfl g9) ?_)
              refine wl_ro (ro_pickT rfl (decide_eq_true (by rw [hSD.1, hz]; rfl))) rfl ?_
              refine wl_ro (as_b rfl) rfl ?_
              refine wl_nil ?_
              refine wq_then ?_
              refine xp_ret ?_
              refine fq_retV rfl (.cons (rv_b rfl) .nil) _ rfl ?_
              first | rfl | exact congrArg Value.bool (by rcases G.until_end s pc (G.runLen s ((n.toNat : Int)).toNat) with h9 | h9 <;> rcases G.runLen_stop s n.toNat with h8 | h8 <;> simp_all)
set_option maxHeartbeats 4000000 in
theorem c_law14_RunTrapsAreCounted (s : MS) (mm mo : SV) (n : BitVec 8) : CtW (fun h => Tb h ∧ Rp h s mm mo) Tryd.prog 6 [.agg (encMachine (mach s mm mo)), u8 n] (.bool true) := by
  rintro h ⟨hT, hR⟩
  refine ctr_enter (n := 72) [.agg (encMachine (mach s mm mo)), u8 n] Tryd.func6 rfl rfl rfl fun w0 => ?_
  refine xp_seq ?_
  refine xp_region ?_
  refine wl_s rfl (so_boxA rfl fun b2 => ?_)
  refine wl_ro (as_b rfl) rfl ?_
  refine wl_nil ?_
  refine wq_then ?_
  refine xp_seq ?_
  refine xp_seq ?_
  refine xp_region ?_
  refine wl_s rfl (so_callW (c_law14_awake) (by first | exact hT | exact hR | exact ⟨hSf, hSC⟩) gb23 (by rfl) ?_)
  refine wl_ro (ro_not rfl) rfl ?_
  refine wl_ro (mv_b rfl) rfl ?_
  refine wl_yes rfl rfl rfl rfl rfl (yes_of rfl) (so_ro (ro_loadA ag40 rfl (by repeat (first | exact .head | apply Sel.tail)) (by rfl) (whole_Machine _)) ?_)
  refine wl_yes rfl rfl rfl rfl rfl (yes_of rfl) (so_callW (c_ref10_Few s mm mo) (by first | exact hT | exact hR | exact ⟨hSf, hSC⟩) gb24 (by rfl) ?_)
  refine wl_yes rfl rfl rfl rfl rfl (yes_of rfl) (so_ro (ro_not rfl) ?_)
  refine wl_ro (ro_pickF rfl rfl) rfl ?_
  refine wl_ro (mv_b rfl) rfl ?_
  refine wl_split (dj := 18) rfl (fun g1 => ?_) (fun g1 => ?_)
  ·
    refine wl_no rfl rfl rfl rfl rfl (no_of g1) ?_
    refine wl_no rfl rfl rfl rfl rfl (no_of g1) ?_
    refine wl_ro (ro_pickT rfl g1) rfl ?_
    refine wl_nil ?_
    refine wq_then ?_
    refine xp_condT rfl rfl ?_
    refine xp_seq ?_
    refine xp_region ?_
    refine wl_s rfl (so_callW (c_law14_awake) (by first | exact hT | exact hR | exact ⟨hSf, hSC⟩) gb23 (by rfl) ?_)
    refine wl_ro (as_b rfl) rfl ?_
    refine wl_nil ?_
    refine wq_then ?_
    refine xp_ret ?_
    refine wq_then_ret ?_
    refine fq_retV rfl (.cons (rv_b rfl) .nil) _ rfl ?_
    rfl
  ·
    refine wl_yes rfl rfl rfl rfl rfl (yes_of g1) (so_ro (mv_8 rfl) ?_)
    refine wl_yes rfl rfl rfl rfl rfl (yes_of g1) (so_ro (ro8_gtr (b := 40#8) rfl rfl) ?_)
    refine wl_ro (ro_pickF rfl g1) rfl ?_
    refine wl_nil ?_
    refine wq_then ?_
    refine xp_cond _ rfl (fun c2 => ?_) (fun c2 => ?_)
    ·
      try simp only [decide_eq_true_eq, decide_eq_false_iff_not, Bool.not_eq_true', Bool.not_eq_false'] at c2
      refine xp_seq ?_
      refine xp_region ?_
      refine wl_s rfl (so_callW (c_law14_awake) (by first | exact hT | exact hR | exact ⟨hSf, hSC⟩) gb23 (by rfl) ?_)
      refine wl_ro (as_b rfl) rfl ?_
      refine wl_nil ?_
      refine wq_then ?_
      refine xp_ret ?_
      refine wq_then_ret ?_
      refine fq_retV rfl (.cons (rv_b rfl) .nil) _ rfl ?_
      rfl
    ·
      try simp only [decide_eq_true_eq, decide_eq_false_iff_not, Bool.not_eq_true', Bool.not_eq_false'] at c2
      refine xp_skip ?_
      refine wq_then ?_
      refine xp_seq ?_
      have hfew : s.mem.length ≤ 600 ∧ s.out.length ≤ 600 := by simp_all [G.few]
      obtain ⟨hm6, ho6⟩ := hfew
      have hsn : ¬ (40#8 < n) := by simp_all
      have hnn : n.toNat ≤ 40 := by rw [BitVec.lt_def] at hsn; simpa using hsn
      refine xp_region ?_
      refine wl_ro (as_s rfl) rfl ?_
      refine wl_nil ?_
      refine wq_then ?_
      refine xp_seq ?_
      refine xp_region ?_
      refine wl_ro (ro_loadA ag40 rfl (by repeat (first | exact .head | apply Sel.tail)) (by rfl) (whole_Machine _)) rfl ?_
      refine wl_s rfl (so_allocA zr40 fun b6 => ?_)
      refine wl_s0 (so_storeA ag40 rfl rfl rfl (ones_Machine _) (by repeat (first | exact .head | apply Sel.tail)) rfl ?_)
      refine wl_nil ?_
      refine wq_then ?_
      refine xp_seq ?_
      refine xp_seq ?_
      refine xp_region ?_
      refine wl_ro (as_i rfl) rfl ?_
      refine wl_nil ?_
      refine wq_then ?_
      refine xp_block ?_
      refine xp_loopE (ds := [])  (A := Nat × SV) [4, 5, 7, 8, 9, 10, 24, 25, 26, 27, 28, 29, 30, 31, 32, 33, 34, 35, 36, 37, 38, 39, 40, 41, 42, 43, 44, 45, 46, 47, 48, 49, 50, 51, 52, 53, 54, 55, 56, 57, 58, 59, 60, 61, 62, 63, 64, 65] (fun x => 41 - x.1) (fun x => [(5, sv x.2), (7, int (x.1 : Int))]) (fun x h' L' => x.1 ≤ G.runLen s ((n.toNat : Int)).toNat ∧ Tb h' ∧ Rp h' s mm mo ∧ ∃ N m1 o1, OwS eTrap 65 x.2 (G.trapsTo s x.1) N ∧ Rp h' (G.st s x.1) m1 o1 ∧ L' = [(b6, .cells (encMachine (mach (G.st s x.1) m1 o1)) 40 (0, 0)), (b2, .cells (encMachine (mach s mm mo)) 40 (0, 0))] ++ N) (0, ⟨none, 0, 0⟩) ⟨rfl, rfl, trivial⟩ ?_ ?_
      · exact ⟨Nat.zero_le _, hT, hR, [], mm, mo, OwS.nil _ _, hR, rfl⟩
      · clear hT hR; rintro ⟨i, va⟩ us h2 L2 ⟨hir, hT, hR, N, m1, o1, hN, hR1, rfl⟩; have hle40 : i ≤ 40 := Nat.le_trans hir (Nat.le_trans (G.runLen_le s n.toNat) hnn); simp only at hir hN hR1
        refine xp_seq ?_
        refine xp_seq ?_
        refine xp_region ?_
        refine wl_ro (mv_i rfl) rfl ?_
        refine wl_ro (mv_8 rfl) rfl ?_
        refine wl_ro (cv_8_i us5 ik3 rfl) rfl ?_
        refine wl_ro (roI_lss rfl rfl) rfl ?_
        refine wl_ro (mv_b rfl) rfl ?_
        refine wl_split (dj := 28) rfl (fun g3 => ?_) (fun g3 => ?_)
        ·
          refine wl_yes rfl rfl rfl rfl rfl (yes_of g3) (so_ro (ro_fieldAddrC 32 fb40_4 rfl rfl) ?_)
          refine wl_yes rfl rfl rfl rfl rfl (yes_of g3) (so_ro (ro_load sc4 rfl (by repeat (first | exact .head | apply Sel.tail)) (get_Machine_halted _)) ?_)
          refine wl_yes rfl rfl rfl rfl rfl (yes_of g3) (so_ro (ro_not rfl) ?_)
          refine wl_ro (ro_pickT rfl g3) rfl ?_
          refine wl_nil ?_
          refine wq_then ?_
          refine xp_cond _ rfl (fun c4 => ?_) (fun c4 => ?_)
          ·
            try simp only [decide_eq_true_eq, decide_eq_false_iff_not, Bool.not_eq_true', Bool.not_eq_false'] at c4
            refine xp_skip ?_
            refine wq_then ?_
            refine xp_seq ?_
            refine xp_block ?_
            refine xp_seq ?_
            have hnh : (G.st s i).halted = false := by simp_all
            have hin : i < n.toNat := by simp_all <;> omega
            have h1 : G.runLen (G.st s i) (1 : Int).toNat = 1 := G.runLen_of (Nat.le_refl _) (fun j hj => by rw [show j = 0 by omega]; exact hnh) (.inl rfl)
            refine xp_region ?_
            refine wl_ro (ro_loadA ag40 rfl (by repeat (first | exact .head | apply Sel.tail)) (by rfl) (whole_Machine _)) rfl ?_
            refine wl_s rfl (so_callR (c_run_Traps (G.st s i) m1 o1 (1 : Int) (by rw [G.st_mem]; omega) (by have h9 := G.st_out s i; omega) (by omega) _ hT hR1) gb27 (by rfl) fun vq h3 hl3 hp3 => ?_)
            obtain ⟨vA, rfl, hSA⟩ := hp3
            replace hT := hT.mono hl3
            replace hR := hR.mono hl3
            replace hR1 := hR1.mono hl3
            refine wl_ro (as_s rfl) rfl ?_
            refine wl_nil ?_
            refine wq_then ?_
            refine xp_seq ?_
            refine xp_region ?_
            refine wl_ro (ro_loadA ag40 rfl (by repeat (first | exact .head | apply Sel.tail)) (by rfl) (whole_Machine _)) rfl ?_
            refine wl_s rfl (so_callR (c_run_Run (G.st s i) m1 o1 (1 : Int) (by rw [G.st_mem]; omega) (by have h9 := G.st_out s i; omega) (by omega) _ hT hR1) gb25 (by rfl) fun vq h4 hl4 hp4 => ?_)
            obtain ⟨m2, o2, rfl, hR2⟩ := hp4
            replace hT := hT.mono hl4
            replace hR := hR.mono hl4
            replace hSA := hSA.mono eTrap hl4
            refine wl_ro (mv_u rfl) rfl ?_
            refine wl_ro (ro_extract rfl rfl) rfl ?_
            refine wl_ro (ro_extract rfl rfl) rfl ?_
            refine wl_s rfl (so_allocA zr40 fun b9 => ?_)
            refine wl_s0 (so_storeA ag40 rfl rfl rfl (ones_Machine _) (by repeat (first | exact .head | apply Sel.tail)) rfl ?_)
            refine wl_ro (as_i rfl) rfl ?_
            refine wl_nil ?_
            refine wq_then ?_
            refine xp_seq ?_
            refine xp_seq ?_
            refine xp_region ?_
            refine wl_ro (mv_i rfl) rfl ?_
            refine wl_ro (roI_neq rfl rfl) rfl ?_
            refine wl_ro (mv_b rfl) rfl ?_
            refine wl_yes rfl rfl rfl rfl rfl (yes_of (by rw [h1]; rfl)) (so_ro (mv_s rfl) ?_)
            refine wl_yes rfl rfl rfl rfl rfl (yes_of (by rw [h1]; rfl)) (so_ro (ro_len_slice sl45 rfl) ?_)
            refine wl_yes rfl rfl rfl rfl rfl (yes_of (by rw [h1]; rfl)) (so_ro (roI_gtr rfl rfl) ?_)
            refine wl_ro (ro_pickF rfl (by rw [h1]; rfl)) rfl ?_
            refine wl_ro (mv_b rfl) rfl ?_
            refine wl_yes rfl rfl rfl rfl rfl (yes_of (decide_eq_false (by have h9 := G.trapsTo_len (G.st s i) (G.runLen (G.st s i) (1 : Int).toNat); rw [hSA.1]; omega))) (so_ro (mv_s rfl) ?_)
            refine wl_yes rfl rfl rfl rfl rfl (yes_of (decide_eq_false (by have h9 := G.trapsTo_len (G.st s i) (G.runLen (G.st s i) (1 : Int).toNat); rw [hSA.1]; omega))) (so_ro (ro_len_slice sl45 rfl) ?_)
            refine wl_yes rfl rfl rfl rfl rfl (yes_of (decide_eq_false (by have h9 := G.trapsTo_len (G.st s i) (G.runLen (G.st s i) (1 : Int).toNat); rw [hSA.1]; omega))) (so_ro (roI_eql rfl rfl) ?_)
            refine wl_yes rfl rfl rfl rfl rfl (yes_of (decide_eq_false (by have h9 := G.trapsTo_len (G.st s i) (G.runLen (G.st s i) (1 : Int).toNat); rw [hSA.1]; omega))) (so_ro (mv_b rfl) ?_)
            refine wl_split (dj := 53) rfl (fun g5 => ?_) (fun g5 => ?_)
            ·
              refine wl_yes rfl rfl rfl rfl rfl (yes_of g5) (so_ro (ro_fieldAddrC 0 fb40_0 rfl rfl) ?_)
              refine wl_yes rfl rfl rfl rfl rfl (yes_of g5) (so_ro (ro_fieldAddrC 17 fb37_2 rfl rfl) ?_)
              refine wl_yes rfl rfl rfl rfl rfl (yes_of g5) (so_ro (ro_indexAddr_c 0 17 ar23 rfl rfl rfl rfl) ?_)
              refine wl_yes rfl rfl rfl rfl rfl (yes_of g5) (so_ro (ro_load sc22 rfl (by repeat (first | exact .head | apply Sel.tail)) (get_Machine_core_csr_at _ 0 (by decide))) ?_)
              refine wl_yes rfl rfl rfl rfl rfl (yes_of g5) (so_ro (ro32_rem (b := 2#32) rfl rfl (by decide)) ?_)
              refine wl_yes rfl rfl rfl rfl rfl (yes_of g5) (so_ro (ro32_neq (b := 1#32) rfl rfl) ?_)
              refine wl_yes rfl rfl rfl rfl rfl (yes_of (decide_eq_false (by have h9 := G.trapsTo_len (G.st s i) (G.runLen (G.st s i) (1 : Int).toNat); rw [hSA.1]; omega))) (so_ro (ro_pickT rfl g5) ?_)
              refine wl_ro (ro_pickF rfl (decide_eq_false (by have h9 := G.trapsTo_len (G.st s i) (G.runLen (G.st s i) (1 : Int).toNat); rw [hSA.1]; omega))) rfl ?_
              refine wl_nil ?_
              refine wq_then ?_
              refine xp_condF rfl (by first | rfl | (have h9 : (G.step (G.st s i)).2.cause ≠ 0 := (by intro h8; simp_all [SlH, G.trapsTo, G.tr, G.st]); have h7 := G.step_super (G.st s i) h9; rw [h1]; show (!decide (rget (G.step (G.st s i)).1.core.csr 0 % 2#32 = 1#32)) = false; rw [h7]; rfl)) ?_
              refine xp_skip ?_
              refine wq_then ?_
              refine xp_seq ?_
              refine xp_region ?_
              refine wl_ro (mv_s rfl) rfl ?_
              refine wl_ro (mv_s rfl) rfl ?_
              refine wl_s rfl (so_appendOwS (e := eTrap) (ys := G.trapsTo (G.st s i) (G.runLen (G.st s i) (1 : Int).toNat)) [_, _, _] se45 hN (by have h9 := G.trapsTo_len s i; have h8 := G.trapsTo_len (G.st s i) (G.runLen (G.st s i) (1 : Int).toNat); omega) (by decide) rfl rfl (len_svh hSA) (rd_slh hSA) fun v5 N5 hN5 => ?_)
              refine wl_ro (as_s rfl) rfl ?_
              refine wl_nil ?_
              refine wq_then ?_
              refine xp_region ?_
              refine wl_ro (ro_loadA ag40 rfl (by repeat (first | exact .head | apply Sel.tail)) (by rfl) (whole_Machine _)) rfl ?_
              refine wl_s0 (so_storeA ag40 rfl rfl rfl (ones_Machine _) (by repeat (first | exact .head | apply Sel.tail)) rfl ?_)
              refine wl_nil ?_
              refine wq_in ?_
              refine wq_then ?_
              refine xp_region ?_
              refine wl_ro (mv_i rfl) rfl ?_
              refine wl_ro (roI_add rfl rfl (by omega)) rfl ?_
              refine wl_ro (as_i rfl) rfl ?_
              refine wl_nil ?_
              refine wq_sub (.cons _ (List.Sublist.refl _)) ?_
              rw [h1] at hR2 hN5
              rw [← G.trapsTo_add] at hN5
              rw [G.st_add] at hR2
              refine wq_loopE (i + 1, v5) (by show 41 - (i + 1) < 41 - i; omega) (by repeat (first | exact out_ovr | refine out_upd rfl ?_)) ⟨rfl, slot_i rfl (by show (i : Int) + 1 = ((i + 1 : Nat) : Int); omega), trivial⟩ ?_
              exact ⟨G.run_more (n := (n.toNat : Int)) (s := s) hir (by omega) (by rw [hnh]; decide), hT, hR, N5, m2, o2, hN5, hR2, by rw [h1, G.st_add]; rfl⟩
            ·
              refine wl_no rfl rfl rfl rfl rfl (no_of g5) ?_
              refine wl_no rfl rfl rfl rfl rfl (no_of g5) ?_
              refine wl_no rfl rfl rfl rfl rfl (no_of g5) ?_
              refine wl_no rfl rfl rfl rfl rfl (no_of g5) ?_
              refine wl_no rfl rfl rfl rfl rfl (no_of g5) ?_
              refine wl_no rfl rfl rfl rfl rfl (no_of g5) ?_
              refine wl_yes rfl rfl rfl rfl rfl (yes_of (decide_eq_false (by have h9 := G.trapsTo_len (G.st s i) (G.runLen (G.st s i) (1 : Int).toNat); rw [hSA.1]; omega))) (so_ro (ro_pickF rfl g5) ?_)
              refine wl_ro (ro_pickF rfl (decide_eq_false (by have h9 := G.trapsTo_len (G.st s i) (G.runLen (G.st s i) (1 : Int).toNat); rw [hSA.1]; omega))) rfl ?_
              refine wl_nil ?_
              refine wq_then ?_
              refine xp_condF rfl rfl ?_
              refine xp_skip ?_
              refine wq_then ?_
              refine xp_seq ?_
              refine xp_region ?_
              refine wl_ro (mv_s rfl) rfl ?_
              refine wl_ro (mv_s rfl) rfl ?_
              refine wl_s rfl (so_appendOwS (e := eTrap) (ys := G.trapsTo (G.st s i) (G.runLen (G.st s i) (1 : Int).toNat)) [_, _, _] se45 hN (by have h9 := G.trapsTo_len s i; have h8 := G.trapsTo_len (G.st s i) (G.runLen (G.st s i) (1 : Int).toNat); omega) (by decide) rfl rfl (len_svh hSA) (rd_slh hSA) fun v5 N5 hN5 => ?_)
              refine wl_ro (as_s rfl) rfl ?_
              refine wl_nil ?_
              refine wq_then ?_
              refine xp_region ?_
              refine wl_ro (ro_loadA ag40 rfl (by repeat (first | exact .head | apply Sel.tail)) (by rfl) (whole_Machine _)) rfl ?_
              refine wl_s0 (so_storeA ag40 rfl rfl rfl (ones_Machine _) (by repeat (first | exact .head | apply Sel.tail)) rfl ?_)
              refine wl_nil ?_
              refine wq_in ?_
              refine wq_then ?_
              refine xp_region ?_
              refine wl_ro (mv_i rfl) rfl ?_
              refine wl_ro (roI_add rfl rfl (by omega)) rfl ?_
              refine wl_ro (as_i rfl) rfl ?_
              refine wl_nil ?_
              refine wq_sub (.cons _ (List.Sublist.refl _)) ?_
              rw [h1] at hR2 hN5
              rw [← G.trapsTo_add] at hN5
              rw [G.st_add] at hR2
              refine wq_loopE (i + 1, v5) (by show 41 - (i + 1) < 41 - i; omega) (by repeat (first | exact out_ovr | refine out_upd rfl ?_)) ⟨rfl, slot_i rfl (by show (i : Int) + 1 = ((i + 1 : Nat) : Int); omega), trivial⟩ ?_
              exact ⟨G.run_more (n := (n.toNat : Int)) (s := s) hir (by omega) (by rw [hnh]; decide), hT, hR, N5, m2, o2, hN5, hR2, by rw [h1, G.st_add]; rfl⟩
          ·
            try simp only [decide_eq_true_eq, decide_eq_false_iff_not, Bool.not_eq_true', Bool.not_eq_false'] at c4
            refine xp_exit ?_
            refine wq_then_exit ?_
            refine wq_then_exit ?_
            refine wq_in_here ?_
            refine wq_then ?_
            refine xp_seq ?_
            have hlast : i = G.runLen s ((n.toNat : Int)).toNat := G.run_last (n := (n.toNat : Int)) (s := s) hir (by simp_all)
            refine xp_freezeOw (La := [_, _]) hN (by simp) fun hf hlf hSf => ?_
            replace hT := hT.mono hlf
            replace hR := hR.mono hlf
            refine xp_region ?_
            refine wl_ro (mv_s rfl) rfl ?_
            refine wl_ro (ro_loadA ag40 rfl (by repeat (first | exact .head | apply Sel.tail)) (by rfl) (whole_Machine _)) rfl ?_
            refine wl_ro (mv_8 rfl) rfl ?_
            refine wl_ro (cv_8_i us5 ik3 rfl) rfl ?_
            refine wl_s rfl (so_callR (c_run_Traps s mm mo (n.toNat : Int) (by omega) (by omega) (by omega) _ hT hR) gb27 (by rfl) fun vq6 hq6 hlq6 hpq6 => ?_)
            obtain ⟨vC, rfl, hSC⟩ := hpq6
            replace hSf := hSf.mono eTrap hlq6
            refine wl_s rfl (so_callW (c_ref14_Same _ _ (G.trapsTo s i) (G.trapsTo s (G.runLen s ((n.toNat : Int)).toNat)) (by have h9 := G.trapsTo_len s i; omega)) (by first | exact hT | exact hR | exact ⟨hSf, hSC⟩) gb28 (by rfl) ?_)
            refine wl_ro (as_b rfl) rfl ?_
            refine wl_nil ?_
            refine wq_then ?_
            refine xp_ret ?_
            refine fq_retV rfl (.cons (rv_b rfl) .nil) _ rfl ?_
            exact congrArg Value.bool (decide_eq_true (by rw [← hlast]))
        ·
          refine wl_no rfl rfl rfl rfl rfl (no_of g3) ?_
          refine wl_no rfl rfl rfl rfl rfl (no_of g3) ?_
          refine wl_no rfl rfl rfl rfl rfl (no_of g3) ?_
          refine wl_ro (ro_pickF rfl g3) rfl ?_
          refine wl_nil ?_
          refine wq_then ?_
          refine xp_condF rfl rfl ?_
          refine xp_exit ?_
          refine wq_then_exit ?_
          refine wq_then_exit ?_
          refine wq_in_here ?_
          refine wq_then ?_
          refine xp_seq ?_
          have hlast : i = G.runLen s ((n.toNat : Int)).toNat := G.run_last (n := (n.toNat : Int)) (s := s) hir (by simp_all)
          refine xp_freezeOw (La := [_, _]) hN (by simp) fun hf hlf hSf => ?_
          replace hT := hT.mono hlf
          replace hR := hR.mono hlf
          refine xp_region ?_
          refine wl_ro (mv_s rfl) rfl ?_
          refine wl_ro (ro_loadA ag40 rfl (by repeat (first | exact .head | apply Sel.tail)) (by rfl) (whole_Machine _)) rfl ?_
          refine wl_ro (mv_8 rfl) rfl ?_
          refine wl_ro (cv_8_i us5 ik3 rfl) rfl ?_
          refine wl_s rfl (so_callR (c_run_Traps s mm mo (n.toNat : Int) (by omega) (by omega) (by omega) _ hT hR) gb27 (by rfl) fun vq7 hq7 hlq7 hpq7 => ?_)
          obtain ⟨vC, rfl, hSC⟩ := hpq7
          replace hSf := hSf.mono eTrap hlq7
          refine wl_s rfl (so_callW (c_ref14_Same _ _ (G.trapsTo s i) (G.trapsTo s (G.runLen s ((n.toNat : Int)).toNat)) (by have h9 := G.trapsTo_len s i; omega)) (by first | exact hT | exact hR | exact ⟨hSf, hSC⟩) gb28 (by rfl) ?_)
          refine wl_ro (as_b rfl) rfl ?_
          refine wl_nil ?_
          refine wq_then ?_
          refine xp_ret ?_
          refine fq_retV rfl (.cons (rv_b rfl) .nil) _ rfl ?_
          exact congrArg Value.bool (decide_eq_true (by rw [← hlast]))
set_option maxHeartbeats 4000000 in
theorem c_law14_RunsDoNotModify (s : MS) (mm mo : SV) (n : BitVec 8) : CtW (fun h => Tb h ∧ Rp h s mm mo) Tryd.prog 7 [.agg (encMachine (mach s mm mo)), u8 n] (.bool true) := by
  rintro h ⟨hT, hR⟩
  refine ctr_enter (n := 71) [.agg (encMachine (mach s mm mo)), u8 n] Tryd.func7 rfl rfl rfl fun w0 => ?_
  refine xp_seq ?_
  refine xp_region ?_
  refine wl_s rfl (so_boxA rfl fun b2 => ?_)
  refine wl_ro (as_b rfl) rfl ?_
  refine wl_nil ?_
  refine wq_then ?_
  refine xp_seq ?_
  refine xp_seq ?_
  refine xp_region ?_
  refine wl_s rfl (so_callW (c_law14_awake) (by first | exact hT | exact hR | exact ⟨hRo, hR⟩) gb23 (by rfl) ?_)
  refine wl_ro (ro_not rfl) rfl ?_
  refine wl_ro (mv_b rfl) rfl ?_
  refine wl_yes rfl rfl rfl rfl rfl (yes_of rfl) (so_ro (ro_loadA ag40 rfl (by repeat (first | exact .head | apply Sel.tail)) (by rfl) (whole_Machine _)) ?_)
  refine wl_yes rfl rfl rfl rfl rfl (yes_of rfl) (so_callW (c_ref10_Few s mm mo) (by first | exact hT | exact hR | exact ⟨hRo, hR⟩) gb24 (by rfl) ?_)
  refine wl_yes rfl rfl rfl rfl rfl (yes_of rfl) (so_ro (ro_not rfl) ?_)
  refine wl_ro (ro_pickF rfl rfl) rfl ?_
  refine wl_ro (mv_b rfl) rfl ?_
  refine wl_split (dj := 14) rfl (fun g1 => ?_) (fun g1 => ?_)
  ·
    refine wl_no rfl rfl rfl rfl rfl (no_of g1) ?_
    refine wl_no rfl rfl rfl rfl rfl (no_of g1) ?_
    refine wl_ro (ro_pickT rfl g1) rfl ?_
    refine wl_nil ?_
    refine wq_then ?_
    refine xp_condT rfl rfl ?_
    refine xp_seq ?_
    refine xp_region ?_
    refine wl_s rfl (so_callW (c_law14_awake) (by first | exact hT | exact hR | exact ⟨hRo, hR⟩) gb23 (by rfl) ?_)
    refine wl_ro (as_b rfl) rfl ?_
    refine wl_nil ?_
    refine wq_then ?_
    refine xp_ret ?_
    refine wq_then_ret ?_
    refine fq_retV rfl (.cons (rv_b rfl) .nil) _ rfl ?_
    first | rfl | exact congrArg Value.bool (decide_eq_true (by simp [bget]))
  ·
    refine wl_yes rfl rfl rfl rfl rfl (yes_of g1) (so_ro (mv_8 rfl) ?_)
    refine wl_yes rfl rfl rfl rfl rfl (yes_of g1) (so_ro (ro8_gtr (b := 20#8) rfl rfl) ?_)
    refine wl_ro (ro_pickF rfl g1) rfl ?_
    refine wl_nil ?_
    refine wq_then ?_
    refine xp_cond _ rfl (fun c2 => ?_) (fun c2 => ?_)
    ·
      try simp only [decide_eq_true_eq, decide_eq_false_iff_not, Bool.not_eq_true', Bool.not_eq_false'] at c2
      refine xp_seq ?_
      refine xp_region ?_
      refine wl_s rfl (so_callW (c_law14_awake) (by first | exact hT | exact hR | exact ⟨hRo, hR⟩) gb23 (by rfl) ?_)
      refine wl_ro (as_b rfl) rfl ?_
      refine wl_nil ?_
      refine wq_then ?_
      refine xp_ret ?_
      refine wq_then_ret ?_
      refine fq_retV rfl (.cons (rv_b rfl) .nil) _ rfl ?_
      first | rfl | exact congrArg Value.bool (decide_eq_true (by simp [bget]))
    ·
      try simp only [decide_eq_true_eq, decide_eq_false_iff_not, Bool.not_eq_true', Bool.not_eq_false'] at c2
      refine xp_skip ?_
      refine wq_then ?_
      refine xp_seq ?_
      have hfew : s.mem.length ≤ 600 ∧ s.out.length ≤ 600 := by simp_all [G.few]
      obtain ⟨hm6, ho6⟩ := hfew
      have hsn : ¬ (20#8 < n) := by simp_all
      have hnn : n.toNat ≤ 20 := by rw [BitVec.lt_def] at hsn; simpa using hsn
      have hl2 := hR.out.1
      refine xp_region ?_
      refine wl_ro (ro_loadA ag40 rfl (by repeat (first | exact .head | apply Sel.tail)) (by rfl) (whole_Machine _)) rfl ?_
      refine wl_s rfl (so_allocA zr40 fun b5 => ?_)
      refine wl_s0 (so_storeA ag40 rfl rfl rfl (ones_Machine _) (by repeat (first | exact .head | apply Sel.tail)) rfl ?_)
      refine wl_nil ?_
      refine wq_then ?_
      refine xp_seq ?_
      refine xp_region ?_
      refine wl_s rfl (so_buildSlice0 se38 fun b20 => ?_)
      refine wl_ro (ro_fieldAddrC 29 fb40_1 rfl rfl) rfl ?_
      refine wl_ro (ro_load sc38 rfl (by repeat (first | exact .head | apply Sel.tail)) (get_Machine_mem _)) rfl ?_
      refine wl_s rfl (so_appendNew (e := eByte) (ys := s.mem) se38 (by omega) (by decide) rfl rfl (len_svh hR.mem.slh) (fun _ => rd_slh hR.mem.slh) fun v23 N23 hN23 => ?_)
      refine wl_ro (ro_fieldAddrC 29 fb40_1 rfl rfl) rfl ?_
      refine wl_s0 (so_store sc38 rfl rfl rfl (by repeat (first | exact .head | apply Sel.tail)) (by rfl) (set_Machine_mem (v := ⟨_, _, _⟩) _ ) ?_)
      refine wl_nil ?_
      refine wq_then ?_
      refine xp_seq ?_
      refine xp_freezeOw (La := [_, _]) hN23 (by simp) fun hf1 hlf1 hSm => ?_
      replace hT := hT.mono hlf1
      replace hR := hR.mono hlf1
      refine xp_region ?_
      refine wl_s rfl (so_buildSlice0 se38 fun b25 => ?_)
      refine wl_ro (ro_fieldAddrC 31 fb40_3 rfl rfl) rfl ?_
      refine wl_ro (ro_load sc38 rfl (by repeat (first | exact .head | apply Sel.tail)) (get_Machine_out _)) rfl ?_
      refine wl_s rfl (so_appendNew (e := eByte) (ys := s.out) se38 (by omega) (by decide) rfl rfl (len_svh hR.out.slh) (fun _ => rd_slh hR.out.slh) fun v28 N28 hN28 => ?_)
      refine wl_s rfl (so_buildSliceC (cs := flat eByte [77#8, 78#8]) se38 zr5 rfl rfl (by kernel_rfl) fun b29 => ?_)
      refine wl_s rfl (so_appendOwS (e := eByte) (ys := [77#8, 78#8]) [_, _, _] se38 hN28 (by simp only [List.length_cons, List.length_nil]; omega) (by decide) rfl rfl (len_slice _ _ _) (rd_own .head (Nat.le_of_ble_eq_true (by kernel_rfl)) (by kernel_rfl)) fun v30 N30 hN30 => ?_)
      refine wl_ro (as_s rfl) rfl ?_
      refine wl_nil ?_
      refine wq_then ?_
      refine xp_seq ?_
      refine xp_freezeOw (La := [_, _, _]) hN30 (by simp) fun hf2 hlf2 hSf => ?_
      replace hT := hT.mono hlf2
      replace hR := hR.mono hlf2
      replace hSm := hSm.mono eByte hlf2
      refine xp_region ?_
      refine wl_ro (mv_s rfl) rfl ?_
      refine wl_ro (ro_fieldAddrC 31 fb40_3 rfl rfl) rfl ?_
      refine wl_ro (ro_load sc38 rfl (by repeat (first | exact .head | apply Sel.tail)) (get_Machine_out _)) rfl ?_
      refine wl_ro (ro_len_slice sl38 rfl) rfl ?_
      refine wl_ro (ro_slice_to (s := v30) se38 rfl rfl (by show mo.len ≤ v30.cap; have h8 := hSf.1; have h9 := hSf.2.1; simp only [List.length_append, List.length_cons, List.length_nil] at h8; omega)) rfl ?_
      refine wl_ro (ro_fieldAddrC 31 fb40_3 rfl rfl) rfl ?_
      refine wl_s0 (so_store sc38 rfl rfl rfl (by repeat (first | exact .head | apply Sel.tail)) (by rfl) (set_Machine_out (v := ⟨_, _, _⟩) _ ) ?_)
      refine wl_nil ?_
      refine wq_then ?_
      refine xp_seq ?_
      have hRo : Rp hf2 s v23 ⟨if v30.cap = 0 then v30.a else v30.a.map (·.add 0), mo.len, v30.cap⟩ := ⟨hSm.bytes, by have h9 := hSf.bytes.to; rw [← hl2] at h9; exact h9⟩
      refine xp_region ?_
      refine wl_ro (ro_loadA ag40 rfl (by repeat (first | exact .head | apply Sel.tail)) (by rfl) (whole_Machine _)) rfl ?_
      refine wl_ro (mv_8 rfl) rfl ?_
      refine wl_ro (cv_8_i us5 ik3 rfl) rfl ?_
      refine wl_s rfl (so_callR (c_run_Run s v23 _ (n.toNat : Int) (by omega) (by omega) (by omega) _ hT hRo) gb25 (by rfl) fun vq3 hq3 hlq3 hpq3 => ?_)
      replace hT := hT.mono hlq3
      replace hR := hR.mono hlq3
      replace hRo := hRo.mono hlq3
      replace hSf := hSf.mono eByte hlq3
      refine wl_nil ?_
      refine wq_then ?_
      refine xp_seq ?_
      refine xp_region ?_
      refine wl_ro (ro_loadA ag40 rfl (by repeat (first | exact .head | apply Sel.tail)) (by rfl) (whole_Machine _)) rfl ?_
      refine wl_ro (mv_8 rfl) rfl ?_
      refine wl_ro (cv_8_i us5 ik3 rfl) rfl ?_
      refine wl_s rfl (so_callR (c_run_RunUntil s v23 _ 4#32 (n.toNat : Int) (by omega) (by omega) (by omega) _ hT hRo) gb29 (by rfl) fun vq4 hq4 hlq4 hpq4 => ?_)
      replace hT := hT.mono hlq4
      replace hR := hR.mono hlq4
      replace hRo := hRo.mono hlq4
      replace hSf := hSf.mono eByte hlq4
      refine wl_nil ?_
      refine wq_then ?_
      refine xp_seq ?_
      refine xp_region ?_
      refine wl_ro (ro_loadA ag40 rfl (by repeat (first | exact .head | apply Sel.tail)) (by rfl) (whole_Machine _)) rfl ?_
      refine wl_ro (mv_8 rfl) rfl ?_
      refine wl_ro (cv_8_i us5 ik3 rfl) rfl ?_
      refine wl_s rfl (so_callR (c_run_Traps s v23 _ (n.toNat : Int) (by omega) (by omega) (by omega) _ hT hRo) gb27 (by rfl) fun vq5 hq5 hlq5 hpq5 => ?_)
      replace hT := hT.mono hlq5
      replace hR := hR.mono hlq5
      replace hRo := hRo.mono hlq5
      replace hSf := hSf.mono eByte hlq5
      refine wl_nil ?_
      refine wq_then ?_
      refine xp_seq ?_
      have hl3 : (mach s mm mo).out.len = mo.len := rfl
      refine xp_region ?_
      refine wl_ro (ro_loadA ag40 rfl (by repeat (first | exact .head | apply Sel.tail)) (by rfl) (whole_Machine _)) rfl ?_
      refine wl_ro (ro_loadA ag40 rfl (by repeat (first | exact .head | apply Sel.tail)) (by rfl) (whole_Machine _)) rfl ?_
      refine wl_s rfl (so_callW (c_ref10_Same s s v23 _ mm mo (by omega) (by omega)) (by first | exact hT | exact hR | exact ⟨hRo, hR⟩) gb26 (by rfl) ?_)
      refine wl_ro (mv_b rfl) rfl ?_
      refine wl_yes rfl rfl rfl rfl rfl (yes_of (G.same_refl s)) (so_ro (mv_s rfl) ?_)
      refine wl_yes rfl rfl rfl rfl rfl (yes_of (G.same_refl s)) (so_ro (ro_fieldAddrC 31 fb40_3 rfl rfl) ?_)
      refine wl_yes rfl rfl rfl rfl rfl (yes_of (G.same_refl s)) (so_ro (ro_load sc38 rfl (by repeat (first | exact .head | apply Sel.tail)) (get_Machine_out _)) ?_)
      refine wl_yes rfl rfl rfl rfl rfl (yes_of (G.same_refl s)) (so_ro (ro_len_slice sl38 rfl) ?_)
      refine wl_yes rfl rfl rfl rfl rfl (yes_of (G.same_refl s)) (so_ro (ro_indexAddr_b s.out.length sl38 hSf.bytes rfl rfl (by rw [hl2]) (by simp)) ?_)
      refine wl_yes rfl rfl rfl rfl rfl (yes_of (G.same_refl s)) (so_ro (ro_loadB sc5 hSf.bytes rfl (by simp)) ?_)
      refine wl_yes rfl rfl rfl rfl rfl (yes_of (G.same_refl s)) (so_ro (ro8_eql (b := 77#8) rfl rfl) ?_)
      refine wl_ro (ro_pickT rfl (G.same_refl s)) rfl ?_
      refine wl_ro (mv_b rfl) rfl ?_
      refine wl_yes rfl rfl rfl rfl rfl (yes_of (decide_eq_true (by simp [bget]))) (so_ro (mv_s rfl) ?_)
      refine wl_yes rfl rfl rfl rfl rfl (yes_of (decide_eq_true (by simp [bget]))) (so_ro (ro_fieldAddrC 31 fb40_3 rfl rfl) ?_)
      refine wl_yes rfl rfl rfl rfl rfl (yes_of (decide_eq_true (by simp [bget]))) (so_ro (ro_load sc38 rfl (by repeat (first | exact .head | apply Sel.tail)) (get_Machine_out _)) ?_)
      refine wl_yes rfl rfl rfl rfl rfl (yes_of (decide_eq_true (by simp [bget]))) (so_ro (ro_len_slice sl38 rfl) ?_)
      refine wl_yes rfl rfl rfl rfl rfl (yes_of (decide_eq_true (by simp [bget]))) (so_ro (roI_add rfl rfl (by omega)) ?_)
      refine wl_yes rfl rfl rfl rfl rfl (yes_of (decide_eq_true (by simp [bget]))) (so_ro (ro_indexAddr_b (s.out.length + 1) sl38 hSf.bytes rfl rfl (by rw [hl2]; rfl) (by simp)) ?_)
      refine wl_yes rfl rfl rfl rfl rfl (yes_of (decide_eq_true (by simp [bget]))) (so_ro (ro_loadB sc5 hSf.bytes rfl (by simp)) ?_)
      refine wl_yes rfl rfl rfl rfl rfl (yes_of (decide_eq_true (by simp [bget]))) (so_ro (ro8_eql (b := 78#8) rfl rfl) ?_)
      refine wl_ro (ro_pickT rfl (decide_eq_true (by simp [bget]))) rfl ?_
      refine wl_ro (as_b rfl) rfl ?_
      refine wl_nil ?_
      refine wq_then ?_
      refine xp_ret ?_
      refine fq_retV rfl (.cons (rv_b rfl) .nil) _ rfl ?_
      first | rfl | exact congrArg Value.bool (decide_eq_true (by simp [bget]))
end Go.Proofs.YtnikheoiciokhaaDoor
