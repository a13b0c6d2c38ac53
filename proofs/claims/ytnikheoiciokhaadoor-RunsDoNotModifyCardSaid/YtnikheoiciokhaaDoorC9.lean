/-
  CONTRACTS OF GO FUNCTIONS (printed by gen.py, own work).
-/
import Derived.Test.YtnikheoiciokhaaDoorC8
import Derived.Test.YtnikheoiciokhaaDoorSxK
namespace Go.Proofs.YtnikheoiciokhaaDoor
open Go Go.Sx
set_option linter.unusedVariables false
set_option maxRecDepth 20000
set_option linter.unusedSimpArgs false

theorem c_run_steps (m : Sx.Machine) (n : Int) (h : PH) : CtR Tryd.prog 36 #[.agg (encMachine m), int n] h fun u h' => ∃ b1 b2, u = .func (.func 41) #[] #[.pointer (some ⟨b1, 0, none⟩), .pointer (some ⟨b2, 0, none⟩)] ∧ h' b1 = some (.cells (encMachine m) 40 (0, 0)) ∧ h' b2 = some (.cells #[int n] 3 (0, 0)) := by
  refine ctr_enter (n := 6) [.agg (encMachine m), int n] Tryd.func36 rfl rfl rfl fun w0 => ?_
  refine xp_seq ?_
  refine xp_region ?_
  refine wl_s rfl (so_boxA rfl fun b2 => ?_)
  refine wl_s rfl (so_boxS rfl rfl fun b3 => ?_)
  refine wl_ro (ro_assign _) rfl ?_
  refine wl_nil ?_
  refine wq_then ?_
  refine xp_seq ?_
  refine xp_region ?_
  refine wl_ro (ro_makeFuncL (fs := []) (cs := [.pointer (some ⟨b2, 0, none⟩), .pointer (some ⟨b3, 0, none⟩)]) rfl rfl) rfl ?_
  refine wl_ro (as_f rfl) rfl ?_
  refine wl_nil ?_
  refine wq_then ?_
  refine xp_ret ?_
  refine wq_freeze .head (by simp) fun h1 hl1 hz1 => ?_
  refine wq_freeze .head (by simp) fun h2 hl2 hz2 => ?_
  refine fq_retR _ rfl (.cons (rv_f rfl) .nil) rfl ?_
  exact ⟨b2, b3, rfl, hz2, hl2 _ _ hz1⟩
theorem c_run_steps_1 (b1 b2 : Nat) (s : MS) (mm mo : SV) (n : Int) (hmem : s.mem.length ≤ 1099511627776) (hout : s.out.length ≤ 549755813888) (hn : n ≤ 549755813888) (h : PH) (hT : Tb h) (hR : Rp h s mm mo) (hz1 : h b1 = some (.cells (encMachine (mach s mm mo)) 40 (0, 0))) (hz2 : h b2 = some (.cells #[int n] 3 (0, 0))) : It Tryd.prog 41 [.pointer (some ⟨b1, 0, none⟩), .pointer (some ⟨b2, 0, none⟩)] h (G.runLen s n.toNat + 1) (StepsA s) := by
  intro l I X h1 L hle hIm hXm hI0 hround
  replace hT := hT.mono hle
  replace hR := hR.mono hle
  replace hz1 := hle _ _ hz1
  replace hz2 := hle _ _ hz2
  have hrl := G.runLen_le s n.toNat
  refine ctX_enter (n := 33) [.func (.yield l) #[] #[], .pointer (some ⟨b1, 0, none⟩), .pointer (some ⟨b2, 0, none⟩)] Tryd.func41 rfl rfl rfl fun w0 hB0 => ?_
  refine xp_seq ?_
  refine xp_region ?_
  refine wl_ro (ro_loadHA ag40 rfl hz1 (by rfl) (whole_Machine _)) rfl ?_
  refine wl_ro (ro_buildS pl70 zr70 (build_RState_0 _)) rfl ?_
  refine wl_s rfl (so_allocA zr70 fun b4 => ?_)
  refine wl_s0 (so_storeA ag70 rfl rfl rfl (ones_RState _) (by repeat (first | exact .head | apply Sel.tail)) rfl ?_)
  refine wl_nil ?_
  refine wq_then ?_
  refine xp_seq ?_
  refine xp_region ?_
  refine wl_ro (as_i rfl) rfl ?_
  refine wl_nil ?_
  refine wq_then ?_
  refine xp_block ?_
  refine xp_loopE (ds := [])  (A := Nat) [5, 8, 9, 10, 11, 12, 13, 14, 15, 16, 17, 18, 19, 20, 21, 22, 23, 24, 25, 26, 27, 28, 29, 30, 31, 32] (fun j => G.runLen s n.toNat - j) (fun j => [(5, int (j : Int))]) (fun j h' L' => j ≤ G.runLen s n.toNat ∧ h1.le h' ∧ ∃ mm1 mo1 Lc, L' = (b4, .cells (encRState ⟨mach (G.st s j) mm1 mo1, G.tr s j⟩) 70 (0, 0)) :: Lc ∧ I j h' Lc ∧ Rp h' (G.st s j) mm1 mo1 ∧ Tb h' ∧ h' b2 = some (.cells #[int n] 3 (0, 0))) 0 ⟨rfl, trivial⟩ ?_ ?_
  · exact ⟨Nat.zero_le _, PH.le_refl _, mm, mo, L, rfl, hI0, hR, hT, hz2⟩
  · rintro j us h2 L2 ⟨hj, hle2, mm1, mo1, Lc, rfl, hI, hR1, hT1, hz2⟩
    refine xp_seq ?_
    refine xp_block ?_
    refine xp_seq ?_
    refine xp_seq ?_
    refine xp_region ?_
    refine wl_ro (mv_f rfl) rfl ?_
    refine wl_ro (mv_i rfl) rfl ?_
    refine wl_ro (ro_loadA ag70 rfl (by repeat (first | exact .head | apply Sel.tail)) (by rfl) (whole_RState _)) rfl ?_
    refine wl_s rfl (so_yield1 rfl (by rfl) (hround j h2 Lc _ (by omega) hle2 hI ⟨mm1, mo1, rfl, hR1⟩) fun v3 h3 Lc3 hl3 hp3 => ?_)
    replace hz2 := hl3 _ _ hz2
    replace hT1 := hT1.mono hl3
    replace hR1 := hR1.mono hl3
    rcases hp3 with ⟨rfl, hI3⟩ | ⟨rfl, hX3⟩
    ·
      refine wl_ro (ro_not rfl) rfl ?_
      refine wl_ro (mv_b rfl) rfl ?_
      refine wl_yes rfl rfl rfl rfl rfl (yes_of rfl) (so_ro (mv_i rfl) ?_)
      refine wl_yes rfl rfl rfl rfl rfl (yes_of rfl) (so_ro (ro_loadH sc3 rfl hz2 rfl) ?_)
      refine wl_yes rfl rfl rfl rfl rfl (yes_of rfl) (so_ro (roI_geq rfl rfl) ?_)
      refine wl_ro (ro_pickF rfl rfl) rfl ?_
      refine wl_ro (mv_b rfl) rfl ?_
      refine wl_split (dj := 20) rfl (fun g1 => ?_) (fun g1 => ?_)
      ·
        refine wl_no rfl rfl rfl rfl rfl (no_of g1) ?_
        refine wl_no rfl rfl rfl rfl rfl (no_of g1) ?_
        refine wl_no rfl rfl rfl rfl rfl (no_of g1) ?_
        refine wl_ro (ro_pickT rfl g1) rfl ?_
        refine wl_nil ?_
        refine wq_then ?_
        refine xp_condT rfl rfl ?_
        refine xp_ret ?_
        refine wq_then_ret ?_
        refine wq_in_ret ?_
        refine wq_then_ret ?_
        refine wq_then_ret ?_
        refine wq_in_ret ?_
        exact fq_retX (L' := Lc3) _ rfl .nil rfl (List.sublist_cons_self _ _) (.inl (by rw [← G.run_last hj (by simp_all)]; exact hI3))
      ·
        refine wl_yes rfl rfl rfl rfl rfl (yes_of g1) (so_ro (ro_fieldAddrC 0 fb70_0 rfl rfl) ?_)
        refine wl_yes rfl rfl rfl rfl rfl (yes_of g1) (so_ro (ro_fieldAddrC 32 fb40_4 rfl rfl) ?_)
        refine wl_yes rfl rfl rfl rfl rfl (yes_of g1) (so_ro (ro_load sc4 rfl (by repeat (first | exact .head | apply Sel.tail)) (get_RState_m_halted _)) ?_)
        refine wl_ro (ro_pickF rfl g1) rfl ?_
        refine wl_nil ?_
        refine wq_then ?_
        refine xp_cond _ rfl (fun c2 => ?_) (fun c2 => ?_)
        ·
          try simp only [decide_eq_true_eq, decide_eq_false_iff_not] at c2
          refine xp_ret ?_
          refine wq_then_ret ?_
          refine wq_in_ret ?_
          refine wq_then_ret ?_
          refine wq_then_ret ?_
          refine wq_in_ret ?_
          exact fq_retX (L' := Lc3) _ rfl .nil rfl (List.sublist_cons_self _ _) (.inl (by rw [← G.run_last hj (by simp_all)]; exact hI3))
        ·
          try simp only [decide_eq_true_eq, decide_eq_false_iff_not] at c2
          refine xp_skip ?_
          refine wq_then ?_
          have hj2 : j < G.runLen s n.toNat := G.run_more hj (by simp_all) (by simp_all)
          refine xp_region ?_
          refine wl_ro (ro_fieldAddrC 0 fb70_0 rfl rfl) rfl ?_
          refine wl_ro (ro_loadA ag40 rfl (by repeat (first | exact .head | apply Sel.tail)) (by rfl) (get_RState_m _)) rfl ?_
          refine wl_s rfl (so_callR (c_step_Step (G.st s j) mm1 mo1 (by rw [G.st_mem]; exact hmem) (by have := G.st_out s j; omega) _ hT1 hR1) gb42 (by rfl) fun vq h4 hl4 hp4 => ?_)
          obtain ⟨mm2, mo2, rfl, hR2⟩ := hp4
          refine wl_ro (mv_u rfl) rfl ?_
          refine wl_ro (ro_extract rfl rfl) rfl ?_
          refine wl_ro (ro_extract rfl rfl) rfl ?_
          refine wl_ro (ro_fieldAddrC 0 fb70_0 rfl rfl) rfl ?_
          refine wl_s0 (so_storeP ag40 rfl rfl rfl (ones_Machine _) (by repeat (first | exact .head | apply Sel.tail)) (by rfl) (set_RState_m _ _) ?_)
          refine wl_ro (ro_fieldAddrC 33 fb70_1 rfl rfl) rfl ?_
          refine wl_s0 (so_storeP ag65 rfl rfl rfl (ones_Trap _) (by repeat (first | exact .head | apply Sel.tail)) (by rfl) (set_RState_trap _ _) ?_)
          refine wl_nil ?_
          refine wq_in ?_
          refine wq_then ?_
          refine xp_region ?_
          refine wl_ro (mv_i rfl) rfl ?_
          refine wl_ro (roI_add rfl rfl (by omega)) rfl ?_
          refine wl_ro (as_i rfl) rfl ?_
          refine wl_nil ?_
          refine wq_loopE (j + 1) (by omega) (by repeat (first | exact out_ovr | refine out_upd rfl ?_)) ⟨slot_i rfl (by omega), trivial⟩ ?_
          exact ⟨by omega, PH.le_trans hle2 (PH.le_trans hl3 hl4), mm2, mo2, Lc3, rfl, hIm _ _ _ _ hl4 hI3, hR2, hT1.mono hl4, hl4 _ _ hz2⟩
    ·
      refine wl_ro (ro_not rfl) rfl ?_
      refine wl_ro (mv_b rfl) rfl ?_
      refine wl_no rfl rfl rfl rfl rfl (no_of rfl) ?_
      refine wl_no rfl rfl rfl rfl rfl (no_of rfl) ?_
      refine wl_no rfl rfl rfl rfl rfl (no_of rfl) ?_
      refine wl_ro (ro_pickT rfl rfl) rfl ?_
      refine wl_ro (mv_b rfl) rfl ?_
      refine wl_no rfl rfl rfl rfl rfl (no_of rfl) ?_
      refine wl_no rfl rfl rfl rfl rfl (no_of rfl) ?_
      refine wl_no rfl rfl rfl rfl rfl (no_of rfl) ?_
      refine wl_ro (ro_pickT rfl rfl) rfl ?_
      refine wl_nil ?_
      refine wq_then ?_
      refine xp_condT rfl rfl ?_
      refine xp_ret ?_
      refine wq_then_ret ?_
      refine wq_in_ret ?_
      refine wq_then_ret ?_
      refine wq_then_ret ?_
      refine wq_in_ret ?_
      exact fq_retX (L' := Lc3) _ rfl .nil rfl (List.sublist_cons_self _ _) (.inr hX3)
theorem c_run_Run (s : MS) (mm mo : SV) (n : Int) (hmem : s.mem.length ≤ 1099511627776) (hout : s.out.length ≤ 549755813888) (hn : n ≤ 549755813888) (h : PH) (hT : Tb h) (hR : Rp h s mm mo) : CtR Tryd.prog 25 #[.agg (encMachine (mach s mm mo)), int n] h fun u h' => ∃ mm' mo', u = .tuple #[.agg (encMachine (mach (G.st s (G.runLen s n.toNat)) mm' mo')), int ((G.runLen s n.toNat) : Nat)] ∧ Rp h' (G.st s (G.runLen s n.toNat)) mm' mo' := by
  refine ctr_enter (n := 19) [.agg (encMachine (mach s mm mo)), int n] Tryd.func25 rfl rfl rfl fun w0 => ?_
  refine xp_seq ?_
  refine xp_region ?_
  refine wl_s rfl (so_boxA rfl fun b2 => ?_)
  refine wl_s rfl (so_allocA zr40 fun b4 => ?_)
  refine wl_ro (as_i rfl) rfl ?_
  refine wl_nil ?_
  refine wq_then ?_
  refine xp_seq ?_
  refine xp_region ?_
  refine wl_s rfl (so_allocS zr3 rfl fun b6 => ?_)
  refine wl_s0 (so_store sc3 rfl rfl rfl (by repeat (first | exact .head | apply Sel.tail)) (by rfl) (set1 _ _) ?_)
  refine wl_nil ?_
  refine wq_then ?_
  refine xp_seq ?_
  refine xp_seq ?_
  refine xp_region ?_
  refine wl_ro (ro_loadA ag40 rfl (by repeat (first | exact .head | apply Sel.tail)) (by rfl) (whole_Machine _)) rfl ?_
  refine wl_ro (mv_i rfl) rfl ?_
  refine wl_s rfl (so_callR (c_run_steps _ _ h) gb36 (by rfl) fun vq1 hq1 hlq1 hpq1 => ?_)
  obtain ⟨bm, bn, rfl, hzm, hzn⟩ := hpq1
  have hit := c_run_steps_1 bm bn s mm mo n hmem hout hn _ (hT.mono hlq1) (hR.mono hlq1) hzm hzn
  replace hR := hR.mono hlq1
  refine wl_nil ?_
  refine wq_then ?_
  refine xp_block ?_
  refine xp_range (I := fun k h' L' => ∃ mm1 mo1, L' = [(b6, .cells #[int ((k - 1 : Nat) : Int)] 3 (0, 0)), (b4, .cells (encMachine Machine.zero) 40 (0, 0)), (b2, .cells (encMachine (mach (G.st s (k - 1)) mm1 mo1)) 40 (0, 0))] ∧ Rp h' (G.st s (k - 1)) mm1 mo1) (X := fun _ _ _ => False) rfl gb41 hit (fun _ _ _ ⟨_, _, e, _⟩ => by rw [e]; rfl) rfl (fun k h1 h2 L1 hl ⟨m1, o1, e, hr⟩ => ⟨m1, o1, e, hr.mono hl⟩) (fun _ _ _ _ _ x => x) ⟨mm, mo, rfl, hR⟩ ?_ ?_ ?_
  ·
    intro l rec k h1 L1 w1 vs hk hle1 hI1 hA1 hrs hru
    obtain ⟨mm1, mo1, rfl, hRa⟩ := hI1
    obtain ⟨mm2, mo2, rfl, hRb⟩ := hA1
    refine xp_seq ?_
    refine xp_region ?_
    refine wl_ro (as_i rfl) rfl ?_
    refine wl_nil ?_
    refine wq_then ?_
    refine xp_region ?_
    refine wl_s rfl (so_allocA zr70 fun b8 => ?_)
    refine wl_s0 (so_storeA ag70 rfl rfl rfl (ones_RState _) (by repeat (first | exact .head | apply Sel.tail)) rfl ?_)
    refine wl_nil ?_
    refine wq_begin (.tail .head) hrs ?_
    refine xp_block ?_
    refine xp_region ?_
    refine wl_ro (ro_fieldAddrC 0 fb70_0 rfl rfl) rfl ?_
    refine wl_ro (ro_loadA ag40 rfl (by repeat (first | exact .head | apply Sel.tail)) (by rfl) (get_RState_m _)) rfl ?_
    refine wl_ro (mv_i rfl) rfl ?_
    refine wl_s0 (so_storeA ag40 rfl rfl rfl (ones_Machine _) (by repeat (first | exact .head | apply Sel.tail)) rfl ?_)
    refine wl_s0 (so_store sc3 rfl rfl rfl (by repeat (first | exact .head | apply Sel.tail)) (by rfl) (set1 _ _) ?_)
    refine wl_nil ?_
    refine wq_in ?_
    refine wq_roundN (.tail .head) (List.Sublist.cons _ (List.Sublist.refl _)) (ypost_go hru rfl ?_)
    exact ⟨mm2, mo2, rfl, hRb⟩
  ·
    intro D h1 L1 hle1 hI1
    obtain ⟨mm1, mo1, rfl, hR1⟩ := hI1
    refine wq_in ?_
    refine wq_then ?_
    refine xp_seq ?_
    refine xp_draw [true, true, false, true] [2] mixed ?_
    refine wd_ro 0 rfl (by kernel_rfl) (ro_loadA ag40 rfl (by repeat (first | exact .head | apply Sel.tail)) (by rfl) (whole_Machine _)) rfl ?_
    refine wd_ro 1 rfl (by kernel_rfl) (ro_load sc3 rfl (by repeat (first | exact .head | apply Sel.tail)) rfl) rfl ?_
    refine wd_so0 2 rfl (by kernel_rfl) (so_storeA ag40 rfl rfl rfl (ones_Machine _) (by repeat (first | exact .head | apply Sel.tail)) rfl ⟨⟨(by first | exact PH.le_refl _ | assumption | exact PH.le_trans (by assumption) (by assumption)), (inc_of (by repeat' (first | exact List.nil_sublist _ | apply List.Sublist.cons_cons | apply List.Sublist.cons))), .inl (by kernel_rfl)⟩, ?_⟩)
    refine wd_ro 3 rfl (by kernel_rfl) (as_i rfl) rfl ?_
    refine wd_done (by kernel_rfl) ?_
    refine wq_then ?_
    refine xp_ret ?_
    refine fq_retCR _ (by repeat (first | exact .head | apply Sel.tail)) rfl (.cons (rv_cellA ag40 rfl (by repeat (first | exact .head | apply Sel.tail)) rfl) (.cons (rv_i rfl) .nil)) rfl ?_
    exact ⟨mm1, mo1, rfl, hR1⟩
  ·
    intro D c h1 L1 hle1 hX1
    exact hX1.elim
theorem c_run_Traps (s : MS) (mm mo : SV) (n : Int) (hmem : s.mem.length ≤ 1099511627776) (hout : s.out.length ≤ 549755813888) (hn : n ≤ 549755813888) (h : PH) (hT : Tb h) (hR : Rp h s mm mo) : CtR Tryd.prog 27 #[.agg (encMachine (mach s mm mo)), int n] h fun u h' => ∃ v, u = sv v ∧ SlH eTrap h' v (G.trapsTo s (G.runLen s n.toNat)) := by
  refine ctr_enter (n := 23) [.agg (encMachine (mach s mm mo)), int n] Tryd.func27 rfl rfl rfl fun w0 => ?_
  refine xp_seq ?_
  refine xp_region ?_
  refine wl_s rfl (so_boxA rfl fun b2 => ?_)
  refine wl_ro (as_s rfl) rfl ?_
  refine wl_nil ?_
  refine wq_then ?_
  refine xp_seq ?_
  refine xp_region ?_
  refine wl_s rfl (so_allocS zr45 rfl fun b5 => ?_)
  refine wl_nil ?_
  refine wq_then ?_
  refine xp_seq ?_
  refine xp_seq ?_
  refine xp_region ?_
  refine wl_ro (ro_loadA ag40 rfl (by repeat (first | exact .head | apply Sel.tail)) (by rfl) (whole_Machine _)) rfl ?_
  refine wl_ro (mv_i rfl) rfl ?_
  refine wl_s rfl (so_callR (c_run_steps _ _ h) gb36 (by rfl) fun vq1 hq1 hlq1 hpq1 => ?_)
  obtain ⟨bm, bn, rfl, hzm, hzn⟩ := hpq1
  have hit := c_run_steps_1 bm bn s mm mo n hmem hout hn _ (hT.mono hlq1) (hR.mono hlq1) hzm hzn
  replace hR := hR.mono hlq1
  refine wl_nil ?_
  refine wq_then ?_
  refine xp_block ?_
  refine xp_range (I := fun k h' L' => ∃ v N, OwS eTrap 65 v (G.trapsTo s (k - 1)) N ∧ L' = (b5, .cells #[sv v] 45 (0, 0)) :: (b2, .cells (encMachine (mach s mm mo)) 40 (0, 0)) :: N) (X := fun _ _ _ => False) rfl gb41 hit (fun _ _ _ ⟨_, _, e, _⟩ => by rw [e]; rfl) rfl (fun k h1 h2 L1 hl x => x) (fun _ _ _ _ _ x => x) ⟨⟨none, 0, 0⟩, [], OwS.nil _ _, rfl⟩ ?_ ?_ ?_
  ·
    intro l rec k h1 L1 w1 vs hk hle1 hI1 hA1 hrs hru
    obtain ⟨v1, N1, hN1, rfl⟩ := hI1
    obtain ⟨mm2, mo2, rfl, hRb⟩ := hA1
    refine xp_region ?_
    refine wl_s rfl (so_allocA zr70 fun b7 => ?_)
    refine wl_s0 (so_storeA ag70 rfl rfl rfl (ones_RState _) (by repeat (first | exact .head | apply Sel.tail)) rfl ?_)
    refine wl_nil ?_
    refine wq_begin (.tail .head) hrs ?_
    refine xp_block ?_
    refine xp_seq ?_
    refine xp_region ?_
    refine wl_ro (ro_fieldAddrC 33 fb70_1 rfl rfl) rfl ?_
    refine wl_ro (ro_fieldAddrC 33 fb65_0 rfl rfl) rfl ?_
    refine wl_ro (ro_load sc3 rfl (by repeat (first | exact .head | apply Sel.tail)) (get_RState_trap_cause _)) rfl ?_
    refine wl_ro (roI_neq rfl rfl) rfl ?_
    refine wl_nil ?_
    refine wq_then ?_
    refine xp_cond _ rfl (fun c2 => ?_) (fun c2 => ?_)
    ·
      try simp only [decide_eq_true_eq, decide_eq_false_iff_not, Bool.not_eq_true', Bool.not_eq_false'] at c2
      have hc := c2
      refine xp_region ?_
      refine wl_ro (ro_load sc45 rfl (by repeat (first | exact .head | apply Sel.tail)) rfl) rfl ?_
      refine wl_ro (ro_fieldAddrC 33 fb70_1 rfl rfl) rfl ?_
      refine wl_ro (ro_loadA ag65 rfl (by repeat (first | exact .head | apply Sel.tail)) (by rfl) (get_RState_trap _)) rfl ?_
      refine wl_s rfl (so_buildSlice1 (v := .agg (encTrap (G.tr s k))) se45 rfl rfl rfl (by decide) (by decide) fun b20 => ?_)
      refine wl_s rfl (so_appendOw (e := eTrap) [_, _, _, _, _] se45 hN1 (by have := G.trapsTo_len s (k - 1); have := G.runLen_le s n.toNat; omega) (by decide) rfl rfl .head fun v2 N2 hN2 => ?_)
      refine wl_s0 (so_store sc45 rfl rfl rfl (by repeat (first | exact .head | apply Sel.tail)) (by rfl) (set1 _ _) ?_)
      refine wl_nil ?_
      refine wq_in ?_
      refine wq_roundN (.tail (.tail .head)) (List.Sublist.cons _ (List.Sublist.cons _ (List.Sublist.refl _))) (ypost_go hru rfl ?_)
      exact ⟨v2, N2, by have e1 := G.trapsTo_step s k; rw [if_neg hc] at e1; rw [← e1] at hN2; exact hN2, rfl⟩
    ·
      try simp only [decide_eq_true_eq, decide_eq_false_iff_not, Bool.not_eq_true', Bool.not_eq_false'] at c2
      have hc := c2
      refine xp_skip ?_
      refine wq_in ?_
      refine wq_roundN (.tail .head) (List.Sublist.cons _ (List.Sublist.refl _)) (ypost_go hru rfl ?_)
      exact ⟨v1, N1, by have e1 := G.trapsTo_step s k; rw [if_pos hc, List.append_nil] at e1; rw [← e1] at hN1; exact hN1, rfl⟩
  ·
    intro D h1 L1 hle1 hI1
    obtain ⟨v1, N1, hN1, rfl⟩ := hI1
    refine wq_in ?_
    refine wq_then ?_
    refine xp_seq ?_
    refine xp_region ?_
    refine wl_ro (ro_load sc45 rfl (by repeat (first | exact .head | apply Sel.tail)) rfl) rfl ?_
    refine wl_ro (as_s rfl) rfl ?_
    refine wl_nil ?_
    refine wq_then ?_
    refine xp_ret ?_
    refine wq_freezeOw (La := [_, _, _]) hN1 (by simp) fun hf hlf hSf => ?_
    refine fq_retCR _ (by repeat (first | exact .head | apply Sel.tail)) rfl (.cons (rv_s rfl) .nil) rfl ?_
    exact ⟨v1, rfl, hSf⟩
  ·
    intro D c h1 L1 hle1 hX1
    exact hX1.elim
theorem c_run_RunUntil (s : MS) (mm mo : SV) (pc : BitVec 32) (n : Int) (hmem : s.mem.length ≤ 1099511627776) (hout : s.out.length ≤ 549755813888) (hn : n ≤ 549755813888) (h : PH) (hT : Tb h) (hR : Rp h s mm mo) : CtR Tryd.prog 29 #[.agg (encMachine (mach s mm mo)), int n, u32 pc] h fun u h' => ∃ mm' mo', u = .tuple #[.agg (encMachine (mach (G.st s (G.untilAt s pc (G.runLen s n.toNat))) mm' mo')), int ((G.untilAt s pc (G.runLen s n.toNat)) : Nat), .bool (decide ((G.st s (G.untilAt s pc (G.runLen s n.toNat))).core.pc = pc))] ∧ Rp h' (G.st s (G.untilAt s pc (G.runLen s n.toNat))) mm' mo' := by
  refine ctr_enter (n := 29) [.agg (encMachine (mach s mm mo)), int n, u32 pc] Tryd.func29 rfl rfl rfl fun w0 => ?_
  refine xp_seq ?_
  refine xp_region ?_
  refine wl_s rfl (so_boxA rfl fun b3 => ?_)
  refine wl_s rfl (so_boxS rfl rfl fun b5 => ?_)
  refine wl_s rfl (so_allocA zr40 fun b6 => ?_)
  refine wl_s rfl (so_allocS zr3 rfl fun b7 => ?_)
  refine wl_s rfl (so_allocS zr4 rfl fun b8 => ?_)
  refine wl_nil ?_
  refine wq_then ?_
  refine xp_seq ?_
  refine xp_region ?_
  refine wl_s rfl (so_allocS zr3 rfl fun b9 => ?_)
  refine wl_s0 (so_store sc3 rfl rfl rfl (by repeat (first | exact .head | apply Sel.tail)) (by rfl) (set1 _ _) ?_)
  refine wl_nil ?_
  refine wq_then ?_
  refine xp_seq ?_
  refine xp_seq ?_
  refine xp_region ?_
  refine wl_ro (ro_loadA ag40 rfl (by repeat (first | exact .head | apply Sel.tail)) (by rfl) (whole_Machine _)) rfl ?_
  refine wl_ro (mv_i rfl) rfl ?_
  refine wl_s rfl (so_callR (c_run_steps _ _ h) gb36 (by rfl) fun vq1 hq1 hlq1 hpq1 => ?_)
  obtain ⟨bm, bn, rfl, hzm, hzn⟩ := hpq1
  have hit := c_run_steps_1 bm bn s mm mo n hmem hout hn _ (hT.mono hlq1) (hR.mono hlq1) hzm hzn
  replace hR := hR.mono hlq1
  refine wl_nil ?_
  refine wq_then ?_
  refine xp_block ?_
  refine xp_range (I := fun k h' L' => (∀ j, j < k → (G.st s j).core.pc ≠ pc) ∧ ∃ mm1 mo1, L' = [(b9, .cells #[int ((k - 1 : Nat) : Int)] 3 (0, 0)), (b8, .cells #[.bool false] 4 (0, 0)), (b7, .cells #[int 0] 3 (0, 0)), (b6, .cells (encMachine Machine.zero) 40 (0, 0)), (b5, .cells #[u32 pc] 22 (0, 0)), (b3, .cells (encMachine (mach (G.st s (k - 1)) mm1 mo1)) 40 (0, 0))] ∧ Rp h' (G.st s (k - 1)) mm1 mo1) (X := fun c h' L' => c = .ret ∧ ∃ k, k ≤ (G.runLen s n.toNat) ∧ (∀ j, j < k → (G.st s j).core.pc ≠ pc) ∧ (G.st s k).core.pc = pc ∧ ∃ mm1 mo1, L' = [(b9, .cells #[int (k : Int)] 3 (0, 0)), (b8, .cells #[.bool true] 4 (0, 0)), (b7, .cells #[int (k : Int)] 3 (0, 0)), (b6, .cells (encMachine (mach (G.st s k) mm1 mo1)) 40 (0, 0)), (b5, .cells #[u32 pc] 22 (0, 0)), (b3, .cells (encMachine (mach (G.st s k) mm1 mo1)) 40 (0, 0))] ∧ Rp h' (G.st s k) mm1 mo1) rfl gb41 hit (fun _ _ _ ⟨_, _, e, _⟩ => by rw [e]; rfl) rfl (fun k h1 h2 L1 hl ⟨hj, m1, o1, e, hr⟩ => ⟨hj, m1, o1, e, hr.mono hl⟩) (fun c h1 h2 L1 hl ⟨hc, k, h3, h4, h5, m1, o1, e, hr⟩ => ⟨hc, k, h3, h4, h5, m1, o1, e, hr.mono hl⟩) ⟨fun j hj => absurd hj (Nat.not_lt_zero j), mm, mo, rfl, hR⟩ ?_ ?_ ?_
  ·
    intro l rec k h1 L1 w1 vs hk hle1 hI1 hA1 hrs hru
    obtain ⟨hj, mm1, mo1, rfl, hRa⟩ := hI1
    obtain ⟨mm2, mo2, rfl, hRb⟩ := hA1
    refine xp_seq ?_
    refine xp_region ?_
    refine wl_ro (as_i rfl) rfl ?_
    refine wl_nil ?_
    refine wq_then ?_
    refine xp_region ?_
    refine wl_s rfl (so_allocA zr70 fun b11 => ?_)
    refine wl_s0 (so_storeA ag70 rfl rfl rfl (ones_RState _) (by repeat (first | exact .head | apply Sel.tail)) rfl ?_)
    refine wl_nil ?_
    refine wq_begin (.tail .head) hrs ?_
    refine xp_block ?_
    refine xp_seq ?_
    refine xp_region ?_
    refine wl_ro (ro_fieldAddrC 0 fb70_0 rfl rfl) rfl ?_
    refine wl_ro (ro_loadA ag40 rfl (by repeat (first | exact .head | apply Sel.tail)) (by rfl) (get_RState_m _)) rfl ?_
    refine wl_ro (mv_i rfl) rfl ?_
    refine wl_s0 (so_storeA ag40 rfl rfl rfl (ones_Machine _) (by repeat (first | exact .head | apply Sel.tail)) rfl ?_)
    refine wl_s0 (so_store sc3 rfl rfl rfl (by repeat (first | exact .head | apply Sel.tail)) (by rfl) (set1 _ _) ?_)
    refine wl_nil ?_
    refine wq_then ?_
    refine xp_seq ?_
    refine xp_region ?_
    refine wl_ro (ro_fieldAddrC 0 fb40_0 rfl rfl) rfl ?_
    refine wl_ro (ro_fieldAddrC 16 fb37_1 rfl rfl) rfl ?_
    refine wl_ro (ro_load sc22 rfl (by repeat (first | exact .head | apply Sel.tail)) (get_Machine_core_pc _)) rfl ?_
    refine wl_ro (ro_load sc22 rfl (by repeat (first | exact .head | apply Sel.tail)) rfl) rfl ?_
    refine wl_ro (ro32_eql rfl rfl) rfl ?_
    refine wl_nil ?_
    refine wq_then ?_
    refine xp_cond _ rfl (fun c2 => ?_) (fun c2 => ?_)
    ·
      try simp only [decide_eq_true_eq, decide_eq_false_iff_not, Bool.not_eq_true', Bool.not_eq_false'] at c2
      have hc := c2
      refine xp_seq ?_
      refine xp_draw [true, true, true, false, false, false, true, true] [2, 3, 4] mixed ?_
      refine wd_ro 0 rfl (by kernel_rfl) (ro_loadA ag40 rfl (by repeat (first | exact .head | apply Sel.tail)) (by rfl) (whole_Machine _)) rfl ?_
      refine wd_ro 1 rfl (by kernel_rfl) (ro_load sc3 rfl (by repeat (first | exact .head | apply Sel.tail)) rfl) rfl ?_
      refine wd_so0 2 rfl (by kernel_rfl) (so_storeA ag40 rfl rfl rfl (ones_Machine _) (by repeat (first | exact .head | apply Sel.tail)) rfl ⟨⟨(by first | exact PH.le_refl _ | assumption | exact PH.le_trans (by assumption) (by assumption)), (inc_of (by repeat' (first | exact List.nil_sublist _ | apply List.Sublist.cons_cons | apply List.Sublist.cons))), .inl (by kernel_rfl)⟩, ?_⟩)
      refine wd_so0 3 rfl (by kernel_rfl) (so_store sc3 rfl rfl rfl (by repeat (first | exact .head | apply Sel.tail)) (by rfl) (set1 _ _) ⟨⟨(by first | exact PH.le_refl _ | assumption | exact PH.le_trans (by assumption) (by assumption)), (inc_of (by repeat' (first | exact List.nil_sublist _ | apply List.Sublist.cons_cons | apply List.Sublist.cons))), .inl (by kernel_rfl)⟩, ?_⟩)
      refine wd_so0 4 rfl (by kernel_rfl) (so_store sc4 rfl rfl rfl (by repeat (first | exact .head | apply Sel.tail)) (by rfl) (set1 _ _) ⟨⟨(by first | exact PH.le_refl _ | assumption | exact PH.le_trans (by assumption) (by assumption)), (inc_of (by repeat' (first | exact List.nil_sublist _ | apply List.Sublist.cons_cons | apply List.Sublist.cons))), .inl (by kernel_rfl)⟩, ?_⟩)
      refine wd_done (by kernel_rfl) ?_
      refine wq_then ?_
      refine xp_ret ?_
      refine wq_in_ret ?_
      refine wq_roundR (.tail .head) (List.Sublist.cons _ (List.Sublist.refl _)) (ypost_stop hru rfl ?_)
      exact ⟨rfl, k, by omega, hj, hc, mm2, mo2, rfl, hRb⟩
    ·
      try simp only [decide_eq_true_eq, decide_eq_false_iff_not, Bool.not_eq_true', Bool.not_eq_false'] at c2
      have hc := c2
      refine xp_skip ?_
      refine wq_in ?_
      refine wq_roundN (.tail .head) (List.Sublist.cons _ (List.Sublist.refl _)) (ypost_go hru rfl ?_)
      exact ⟨fun j hjk => (by rcases Nat.lt_succ_iff_lt_or_eq.1 hjk with h9 | h9; exact hj j h9; rw [h9]; exact hc), mm2, mo2, rfl, hRb⟩
  ·
    intro D h1 L1 hle1 hI1
    obtain ⟨hj, mm1, mo1, rfl, hR1⟩ := hI1
    refine wq_in ?_
    refine wq_then ?_
    refine xp_seq ?_
    refine xp_draw [true, true, false, false, false, true, true] [2, 3, 4] mixed ?_
    refine wd_ro 0 rfl (by kernel_rfl) (ro_loadA ag40 rfl (by repeat (first | exact .head | apply Sel.tail)) (by rfl) (whole_Machine _)) rfl ?_
    refine wd_ro 1 rfl (by kernel_rfl) (ro_load sc3 rfl (by repeat (first | exact .head | apply Sel.tail)) rfl) rfl ?_
    refine wd_so0 2 rfl (by kernel_rfl) (so_storeA ag40 rfl rfl rfl (ones_Machine _) (by repeat (first | exact .head | apply Sel.tail)) rfl ⟨⟨(by first | exact PH.le_refl _ | assumption | exact PH.le_trans (by assumption) (by assumption)), (inc_of (by repeat' (first | exact List.nil_sublist _ | apply List.Sublist.cons_cons | apply List.Sublist.cons))), .inl (by kernel_rfl)⟩, ?_⟩)
    refine wd_so0 3 rfl (by kernel_rfl) (so_store sc3 rfl rfl rfl (by repeat (first | exact .head | apply Sel.tail)) (by rfl) (set1 _ _) ⟨⟨(by first | exact PH.le_refl _ | assumption | exact PH.le_trans (by assumption) (by assumption)), (inc_of (by repeat' (first | exact List.nil_sublist _ | apply List.Sublist.cons_cons | apply List.Sublist.cons))), .inl (by kernel_rfl)⟩, ?_⟩)
    refine wd_so0 4 rfl (by kernel_rfl) (so_store sc4 rfl rfl rfl (by repeat (first | exact .head | apply Sel.tail)) (by rfl) (set1 _ _) ⟨⟨(by first | exact PH.le_refl _ | assumption | exact PH.le_trans (by assumption) (by assumption)), (inc_of (by repeat' (first | exact List.nil_sublist _ | apply List.Sublist.cons_cons | apply List.Sublist.cons))), .inl (by kernel_rfl)⟩, ?_⟩)
    refine wd_done (by kernel_rfl) ?_
    refine wq_then ?_
    refine xp_ret ?_
    refine fq_retCR _ (by repeat (first | exact .head | apply Sel.tail)) rfl (.cons (rv_cellA ag40 rfl (by repeat (first | exact .head | apply Sel.tail)) rfl) (.cons (rv_cell sc3 rfl (by repeat (first | exact .head | apply Sel.tail)) rfl) (.cons (rv_cell sc4 rfl (by repeat (first | exact .head | apply Sel.tail)) rfl) .nil))) rfl ?_
    have eu := G.until_eq (Nat.le_refl (G.runLen s n.toNat)) (fun j h9 => hj j (Nat.lt_succ_of_lt h9)) (.inr rfl)
    exact ⟨mm1, mo1, by rw [eu, decide_eq_false (hj _ (Nat.lt_succ_self _))]; rfl, by rw [eu]; exact hR1⟩
  ·
    intro D c h1 L1 hle1 hX1
    obtain ⟨rfl, k, hk, hj, hpc, mm1, mo1, rfl, hR1⟩ := hX1
    refine xp_ret ?_
    refine wq_in_ret ?_
    refine wq_then_ret ?_
    refine fq_retCR _ (by repeat (first | exact .head | apply Sel.tail)) rfl (.cons (rv_cellA ag40 rfl (by repeat (first | exact .head | apply Sel.tail)) rfl) (.cons (rv_cell sc3 rfl (by repeat (first | exact .head | apply Sel.tail)) rfl) (.cons (rv_cell sc4 rfl (by repeat (first | exact .head | apply Sel.tail)) rfl) .nil))) rfl ?_
    have eu := G.until_eq hk hj (.inl hpc)
    exact ⟨mm1, mo1, by rw [eu, decide_eq_true hpc]; rfl, by rw [eu]; exact hR1⟩
end Go.Proofs.YtnikheoiciokhaaDoor
