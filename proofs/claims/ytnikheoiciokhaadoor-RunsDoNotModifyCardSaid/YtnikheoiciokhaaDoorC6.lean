/-
  CONTRACTS OF GO FUNCTIONS (printed by gen.py, own work).
-/
import Derived.Test.YtnikheoiciokhaaDoorC5
namespace Go.Proofs.YtnikheoiciokhaaDoor
open Go Go.Sx
set_option linter.unusedVariables false
set_option maxRecDepth 20000
set_option linter.unusedSimpArgs false

theorem c_alu_deeds (h : PH) : CtR Tryd.prog 112 #[] h fun v h' => ∃ b, v = .map (some b) ∧ h' b = some (.map deedsM 8) := by
  refine ctr_enter (n := 3) [] Tryd.func112 rfl rfl rfl fun w0 => ?_
  refine xp_seq ?_
  refine xp_region ?_
  refine wl_ro (as_m rfl) rfl ?_
  refine wl_nil ?_
  refine wq_then ?_
  refine xp_seq ?_
  refine xp_region ?_
  refine wl_s rfl (so_makeMap fun b1 => ?_)
  refine wl_s0 (so_insert mpk153 rfl rfl (by repeat (first | exact .head | apply Sel.tail)) (by kernel_rfl) (by kernel_rfl) rfl ?_)
  refine wl_s0 (so_insert mpk153 rfl rfl (by repeat (first | exact .head | apply Sel.tail)) (by kernel_rfl) (by kernel_rfl) rfl ?_)
  refine wl_s0 (so_insert mpk153 rfl rfl (by repeat (first | exact .head | apply Sel.tail)) (by kernel_rfl) (by kernel_rfl) rfl ?_)
  refine wl_s0 (so_insert mpk153 rfl rfl (by repeat (first | exact .head | apply Sel.tail)) (by kernel_rfl) (by kernel_rfl) rfl ?_)
  refine wl_s0 (so_insert mpk153 rfl rfl (by repeat (first | exact .head | apply Sel.tail)) (by kernel_rfl) (by kernel_rfl) rfl ?_)
  refine wl_s0 (so_insert mpk153 rfl rfl (by repeat (first | exact .head | apply Sel.tail)) (by kernel_rfl) (by kernel_rfl) rfl ?_)
  refine wl_s0 (so_insert mpk153 rfl rfl (by repeat (first | exact .head | apply Sel.tail)) (by kernel_rfl) (by kernel_rfl) rfl ?_)
  refine wl_s0 (so_insert mpk153 rfl rfl (by repeat (first | exact .head | apply Sel.tail)) (by kernel_rfl) (by kernel_rfl) rfl ?_)
  refine wl_ro (mv_m rfl) rfl ?_
  refine wl_ro (as_m rfl) rfl ?_
  refine wl_nil ?_
  refine wq_then ?_
  refine xp_ret ?_
  refine wq_freeze .head (by simp) fun hf hlf hbf => ?_
  refine fq_retR _ rfl (.cons (rv_m rfl) .nil) rfl ?_
  exact ⟨_, rfl, hbf⟩
theorem c_alu_Eval (op : Int) (x y : BitVec 32) : CtV Tryd.prog 103 [int op, u32 x, u32 y] (u32 (G.eval op x y)) := by
  intro h
  refine ctr_enter (n := 21) [int op, u32 x, u32 y] Tryd.func103 rfl rfl rfl fun w0 => ?_
  refine xp_seq ?_
  refine xp_region ?_
  refine wl_ro (as_32 (a := 0#32) rfl) rfl ?_
  refine wl_nil ?_
  refine wq_then ?_
  refine xp_seq ?_
  rcases G.op_cases op with rfl | rfl | rfl | rfl | rfl | rfl | rfl | rfl | hop
  ·
    refine xp_region ?_
    refine wl_s rfl (so_callR (c_alu_deeds _) gb112 (by rfl) fun vq1 hq1 hlq1 hpq1 => ?_)
    obtain ⟨b1, rfl, hb1⟩ := hpq1
    refine wl_ro (mv_i rfl) rfl ?_
    refine wl_ro ((ro_lookup mpk153 mpe153 rfl rfl hb1 (by kernel_rfl)).as (v' := .tuple #[.func (.func 117) #[] #[], .bool true]) (by kernel_rfl)) rfl ?_
    refine wl_ro (mv_u rfl) rfl ?_
    refine wl_ro (ro_extract rfl rfl) rfl ?_
    refine wl_ro (ro_extract rfl rfl) rfl ?_
    refine wl_ro (as_f rfl) rfl ?_
    refine wl_ro (as_b rfl) rfl ?_
    refine wl_nil ?_
    refine wq_then ?_
    refine xp_seq ?_
    refine xp_seq ?_
    refine xp_region ?_
    refine wl_ro (mv_b rfl) rfl ?_
    refine wl_ro (ro_not rfl) rfl ?_
    refine wl_nil ?_
    refine wq_then ?_
    refine xp_condF rfl rfl ?_
    refine xp_skip ?_
    refine wq_then ?_
    refine xp_seq ?_
    refine xp_region ?_
    refine wl_ro (mv_f rfl) rfl ?_
    refine wl_ro (mv_32 rfl) rfl ?_
    refine wl_ro (mv_32 rfl) rfl ?_
    refine wl_s rfl (so_callFV rfl (c_alu_deeds_1 _ _) gb117 (by rfl) ?_)
    refine wl_ro (as_32 rfl) rfl ?_
    refine wl_nil ?_
    refine wq_then ?_
    refine xp_ret ?_
    refine fq_retV rfl (.cons (rv_32 rfl) .nil) _ rfl ?_
    simp [G.eval]
  ·
    refine xp_region ?_
    refine wl_s rfl (so_callR (c_alu_deeds _) gb112 (by rfl) fun vq2 hq2 hlq2 hpq2 => ?_)
    obtain ⟨b1, rfl, hb1⟩ := hpq2
    refine wl_ro (mv_i rfl) rfl ?_
    refine wl_ro ((ro_lookup mpk153 mpe153 rfl rfl hb1 (by kernel_rfl)).as (v' := .tuple #[.func (.func 118) #[] #[], .bool true]) (by kernel_rfl)) rfl ?_
    refine wl_ro (mv_u rfl) rfl ?_
    refine wl_ro (ro_extract rfl rfl) rfl ?_
    refine wl_ro (ro_extract rfl rfl) rfl ?_
    refine wl_ro (as_f rfl) rfl ?_
    refine wl_ro (as_b rfl) rfl ?_
    refine wl_nil ?_
    refine wq_then ?_
    refine xp_seq ?_
    refine xp_seq ?_
    refine xp_region ?_
    refine wl_ro (mv_b rfl) rfl ?_
    refine wl_ro (ro_not rfl) rfl ?_
    refine wl_nil ?_
    refine wq_then ?_
    refine xp_condF rfl rfl ?_
    refine xp_skip ?_
    refine wq_then ?_
    refine xp_seq ?_
    refine xp_region ?_
    refine wl_ro (mv_f rfl) rfl ?_
    refine wl_ro (mv_32 rfl) rfl ?_
    refine wl_ro (mv_32 rfl) rfl ?_
    refine wl_s rfl (so_callFV rfl (c_alu_deeds_2 _ _) gb118 (by rfl) ?_)
    refine wl_ro (as_32 rfl) rfl ?_
    refine wl_nil ?_
    refine wq_then ?_
    refine xp_ret ?_
    refine fq_retV rfl (.cons (rv_32 rfl) .nil) _ rfl ?_
    simp [G.eval]
  ·
    refine xp_region ?_
    refine wl_s rfl (so_callR (c_alu_deeds _) gb112 (by rfl) fun vq3 hq3 hlq3 hpq3 => ?_)
    obtain ⟨b1, rfl, hb1⟩ := hpq3
    refine wl_ro (mv_i rfl) rfl ?_
    refine wl_ro ((ro_lookup mpk153 mpe153 rfl rfl hb1 (by kernel_rfl)).as (v' := .tuple #[.func (.func 119) #[] #[], .bool true]) (by kernel_rfl)) rfl ?_
    refine wl_ro (mv_u rfl) rfl ?_
    refine wl_ro (ro_extract rfl rfl) rfl ?_
    refine wl_ro (ro_extract rfl rfl) rfl ?_
    refine wl_ro (as_f rfl) rfl ?_
    refine wl_ro (as_b rfl) rfl ?_
    refine wl_nil ?_
    refine wq_then ?_
    refine xp_seq ?_
    refine xp_seq ?_
    refine xp_region ?_
    refine wl_ro (mv_b rfl) rfl ?_
    refine wl_ro (ro_not rfl) rfl ?_
    refine wl_nil ?_
    refine wq_then ?_
    refine xp_condF rfl rfl ?_
    refine xp_skip ?_
    refine wq_then ?_
    refine xp_seq ?_
    refine xp_region ?_
    refine wl_ro (mv_f rfl) rfl ?_
    refine wl_ro (mv_32 rfl) rfl ?_
    refine wl_ro (mv_32 rfl) rfl ?_
    refine wl_s rfl (so_callFV rfl (c_alu_deeds_3 _ _) gb119 (by rfl) ?_)
    refine wl_ro (as_32 rfl) rfl ?_
    refine wl_nil ?_
    refine wq_then ?_
    refine xp_ret ?_
    refine fq_retV rfl (.cons (rv_32 rfl) .nil) _ rfl ?_
    simp [G.eval]
  ·
    refine xp_region ?_
    refine wl_s rfl (so_callR (c_alu_deeds _) gb112 (by rfl) fun vq4 hq4 hlq4 hpq4 => ?_)
    obtain ⟨b1, rfl, hb1⟩ := hpq4
    refine wl_ro (mv_i rfl) rfl ?_
    refine wl_ro ((ro_lookup mpk153 mpe153 rfl rfl hb1 (by kernel_rfl)).as (v' := .tuple #[.func (.func 120) #[] #[], .bool true]) (by kernel_rfl)) rfl ?_
    refine wl_ro (mv_u rfl) rfl ?_
    refine wl_ro (ro_extract rfl rfl) rfl ?_
    refine wl_ro (ro_extract rfl rfl) rfl ?_
    refine wl_ro (as_f rfl) rfl ?_
    refine wl_ro (as_b rfl) rfl ?_
    refine wl_nil ?_
    refine wq_then ?_
    refine xp_seq ?_
    refine xp_seq ?_
    refine xp_region ?_
    refine wl_ro (mv_b rfl) rfl ?_
    refine wl_ro (ro_not rfl) rfl ?_
    refine wl_nil ?_
    refine wq_then ?_
    refine xp_condF rfl rfl ?_
    refine xp_skip ?_
    refine wq_then ?_
    refine xp_seq ?_
    refine xp_region ?_
    refine wl_ro (mv_f rfl) rfl ?_
    refine wl_ro (mv_32 rfl) rfl ?_
    refine wl_ro (mv_32 rfl) rfl ?_
    refine wl_s rfl (so_callFV rfl (c_alu_deeds_4 _ _) gb120 (by rfl) ?_)
    refine wl_ro (as_32 rfl) rfl ?_
    refine wl_nil ?_
    refine wq_then ?_
    refine xp_ret ?_
    refine fq_retV rfl (.cons (rv_32 rfl) .nil) _ rfl ?_
    simp [G.eval]
  ·
    refine xp_region ?_
    refine wl_s rfl (so_callR (c_alu_deeds _) gb112 (by rfl) fun vq5 hq5 hlq5 hpq5 => ?_)
    obtain ⟨b1, rfl, hb1⟩ := hpq5
    refine wl_ro (mv_i rfl) rfl ?_
    refine wl_ro ((ro_lookup mpk153 mpe153 rfl rfl hb1 (by kernel_rfl)).as (v' := .tuple #[.func (.func 121) #[] #[], .bool true]) (by kernel_rfl)) rfl ?_
    refine wl_ro (mv_u rfl) rfl ?_
    refine wl_ro (ro_extract rfl rfl) rfl ?_
    refine wl_ro (ro_extract rfl rfl) rfl ?_
    refine wl_ro (as_f rfl) rfl ?_
    refine wl_ro (as_b rfl) rfl ?_
    refine wl_nil ?_
    refine wq_then ?_
    refine xp_seq ?_
    refine xp_seq ?_
    refine xp_region ?_
    refine wl_ro (mv_b rfl) rfl ?_
    refine wl_ro (ro_not rfl) rfl ?_
    refine wl_nil ?_
    refine wq_then ?_
    refine xp_condF rfl rfl ?_
    refine xp_skip ?_
    refine wq_then ?_
    refine xp_seq ?_
    refine xp_region ?_
    refine wl_ro (mv_f rfl) rfl ?_
    refine wl_ro (mv_32 rfl) rfl ?_
    refine wl_ro (mv_32 rfl) rfl ?_
    refine wl_s rfl (so_callFV rfl (c_alu_deeds_5 _ _) gb121 (by rfl) ?_)
    refine wl_ro (as_32 rfl) rfl ?_
    refine wl_nil ?_
    refine wq_then ?_
    refine xp_ret ?_
    refine fq_retV rfl (.cons (rv_32 rfl) .nil) _ rfl ?_
    simp [G.eval]
  ·
    refine xp_region ?_
    refine wl_s rfl (so_callR (c_alu_deeds _) gb112 (by rfl) fun vq6 hq6 hlq6 hpq6 => ?_)
    obtain ⟨b1, rfl, hb1⟩ := hpq6
    refine wl_ro (mv_i rfl) rfl ?_
    refine wl_ro ((ro_lookup mpk153 mpe153 rfl rfl hb1 (by kernel_rfl)).as (v' := .tuple #[.func (.func 122) #[] #[], .bool true]) (by kernel_rfl)) rfl ?_
    refine wl_ro (mv_u rfl) rfl ?_
    refine wl_ro (ro_extract rfl rfl) rfl ?_
    refine wl_ro (ro_extract rfl rfl) rfl ?_
    refine wl_ro (as_f rfl) rfl ?_
    refine wl_ro (as_b rfl) rfl ?_
    refine wl_nil ?_
    refine wq_then ?_
    refine xp_seq ?_
    refine xp_seq ?_
    refine xp_region ?_
    refine wl_ro (mv_b rfl) rfl ?_
    refine wl_ro (ro_not rfl) rfl ?_
    refine wl_nil ?_
    refine wq_then ?_
    refine xp_condF rfl rfl ?_
    refine xp_skip ?_
    refine wq_then ?_
    refine xp_seq ?_
    refine xp_region ?_
    refine wl_ro (mv_f rfl) rfl ?_
    refine wl_ro (mv_32 rfl) rfl ?_
    refine wl_ro (mv_32 rfl) rfl ?_
    refine wl_s rfl (so_callFV rfl (c_alu_deeds_6 _ _) gb122 (by rfl) ?_)
    refine wl_ro (as_32 rfl) rfl ?_
    refine wl_nil ?_
    refine wq_then ?_
    refine xp_ret ?_
    refine fq_retV rfl (.cons (rv_32 rfl) .nil) _ rfl ?_
    simp [G.eval]
  ·
    refine xp_region ?_
    refine wl_s rfl (so_callR (c_alu_deeds _) gb112 (by rfl) fun vq7 hq7 hlq7 hpq7 => ?_)
    obtain ⟨b1, rfl, hb1⟩ := hpq7
    refine wl_ro (mv_i rfl) rfl ?_
    refine wl_ro ((ro_lookup mpk153 mpe153 rfl rfl hb1 (by kernel_rfl)).as (v' := .tuple #[.func (.func 123) #[] #[], .bool true]) (by kernel_rfl)) rfl ?_
    refine wl_ro (mv_u rfl) rfl ?_
    refine wl_ro (ro_extract rfl rfl) rfl ?_
    refine wl_ro (ro_extract rfl rfl) rfl ?_
    refine wl_ro (as_f rfl) rfl ?_
    refine wl_ro (as_b rfl) rfl ?_
    refine wl_nil ?_
    refine wq_then ?_
    refine xp_seq ?_
    refine xp_seq ?_
    refine xp_region ?_
    refine wl_ro (mv_b rfl) rfl ?_
    refine wl_ro (ro_not rfl) rfl ?_
    refine wl_nil ?_
    refine wq_then ?_
    refine xp_condF rfl rfl ?_
    refine xp_skip ?_
    refine wq_then ?_
    refine xp_seq ?_
    refine xp_region ?_
    refine wl_ro (mv_f rfl) rfl ?_
    refine wl_ro (mv_32 rfl) rfl ?_
    refine wl_ro (mv_32 rfl) rfl ?_
    refine wl_s rfl (so_callFV rfl (c_alu_deeds_7 _ _) gb123 (by rfl) ?_)
    refine wl_ro (as_32 rfl) rfl ?_
    refine wl_nil ?_
    refine wq_then ?_
    refine xp_ret ?_
    refine fq_retV rfl (.cons (rv_32 rfl) .nil) _ rfl ?_
    simp [G.eval]
  ·
    refine xp_region ?_
    refine wl_s rfl (so_callR (c_alu_deeds _) gb112 (by rfl) fun vq8 hq8 hlq8 hpq8 => ?_)
    obtain ⟨b1, rfl, hb1⟩ := hpq8
    refine wl_ro (mv_i rfl) rfl ?_
    refine wl_ro ((ro_lookup mpk153 mpe153 rfl rfl hb1 (by kernel_rfl)).as (v' := .tuple #[.func (.func 124) #[] #[], .bool true]) (by kernel_rfl)) rfl ?_
    refine wl_ro (mv_u rfl) rfl ?_
    refine wl_ro (ro_extract rfl rfl) rfl ?_
    refine wl_ro (ro_extract rfl rfl) rfl ?_
    refine wl_ro (as_f rfl) rfl ?_
    refine wl_ro (as_b rfl) rfl ?_
    refine wl_nil ?_
    refine wq_then ?_
    refine xp_seq ?_
    refine xp_seq ?_
    refine xp_region ?_
    refine wl_ro (mv_b rfl) rfl ?_
    refine wl_ro (ro_not rfl) rfl ?_
    refine wl_nil ?_
    refine wq_then ?_
    refine xp_condF rfl rfl ?_
    refine xp_skip ?_
    refine wq_then ?_
    refine xp_seq ?_
    refine xp_region ?_
    refine wl_ro (mv_f rfl) rfl ?_
    refine wl_ro (mv_32 rfl) rfl ?_
    refine wl_ro (mv_32 rfl) rfl ?_
    refine wl_s rfl (so_callFV rfl (c_alu_deeds_8 _ _) gb124 (by rfl) ?_)
    refine wl_ro (as_32 rfl) rfl ?_
    refine wl_nil ?_
    refine wq_then ?_
    refine xp_ret ?_
    refine fq_retV rfl (.cons (rv_32 rfl) .nil) _ rfl ?_
    simp [G.eval]
  ·
    refine xp_region ?_
    refine wl_s rfl (so_callR (c_alu_deeds _) gb112 (by rfl) fun vq9 hq9 hlq9 hpq9 => ?_)
    obtain ⟨b1, rfl, hb1⟩ := hpq9
    refine wl_ro (mv_i rfl) rfl ?_
    refine wl_ro ((ro_lookup mpk153 mpe153 rfl rfl hb1 (by kernel_rfl)).as (v' := .tuple #[.nilFunc, .bool false]) (by simp [lookI, deedsM, findI, hop])) rfl ?_
    refine wl_ro (mv_u rfl) rfl ?_
    refine wl_ro (ro_extract rfl rfl) rfl ?_
    refine wl_ro (ro_extract rfl rfl) rfl ?_
    refine wl_ro (ro_assign _) rfl ?_
    refine wl_ro (as_b rfl) rfl ?_
    refine wl_nil ?_
    refine wq_then ?_
    refine xp_seq ?_
    refine xp_seq ?_
    refine xp_region ?_
    refine wl_ro (mv_b rfl) rfl ?_
    refine wl_ro (ro_not rfl) rfl ?_
    refine wl_nil ?_
    refine wq_then ?_
    refine xp_condT rfl rfl ?_
    refine xp_seq ?_
    refine xp_region ?_
    refine wl_ro (as_32 (a := 0#32) rfl) rfl ?_
    refine wl_nil ?_
    refine wq_then ?_
    refine xp_ret ?_
    refine wq_then_ret ?_
    refine fq_retV rfl (.cons (rv_32 rfl) .nil) _ rfl ?_
    simp [G.eval, hop]
theorem c_fetch_Resolve (m : Sx.Machine) (a : BitVec 32) (n : Nat) (hn : BitVec.ofInt 32 (n : Int) ≠ 0#32) : CtW Tb Tryd.prog 104 [.agg (encMachine m), u32 a, int n] (.tuple #[u32 (G.resolve m.core m.mem.len a n).1, .agg (encTrap (G.resolve m.core m.mem.len a n).2)]) := by
  intro h hT
  refine ctr_enter (n := 35) [.agg (encMachine m), u32 a, int n] Tryd.func104 rfl rfl rfl fun w0 => ?_
  refine xp_seq ?_
  refine xp_region ?_
  refine wl_s rfl (so_boxA rfl fun b3 => ?_)
  refine wl_ro (as_32 (a := 0#32) rfl) rfl ?_
  refine wl_s rfl (so_allocA zr65 fun b7 => ?_)
  refine wl_nil ?_
  refine wq_then ?_
  refine xp_seq ?_
  refine xp_seq ?_
  refine xp_region ?_
  refine wl_ro (mv_32 rfl) rfl ?_
  refine wl_ro (mv_i rfl) rfl ?_
  refine wl_ro (cv_i_32 us3 ik22 rfl) rfl ?_
  refine wl_ro (ro32_rem rfl rfl hn) rfl ?_
  refine wl_ro (ro32_neq (b := 0#32) rfl rfl) rfl ?_
  refine wl_nil ?_
  refine wq_then ?_
  refine xp_cond _ rfl (fun c1 => ?_) (fun c1 => ?_)
  ·
    try simp only [decide_eq_true_eq, decide_eq_false_iff_not, Bool.not_eq_true', Bool.not_eq_false'] at c1
    refine xp_seq ?_
    refine xp_region ?_
    refine wl_ro (mv_32 rfl) rfl ?_
    refine wl_ro (ro_buildS pl65 zr65 (build_Trap_0_1 _ _)) rfl ?_
    refine wl_ro (as_32 (a := 0#32) rfl) rfl ?_
    refine wl_s0 (so_storeA ag65 rfl rfl rfl (ones_Trap _) (by repeat (first | exact .head | apply Sel.tail)) rfl ?_)
    refine wl_nil ?_
    refine wq_then ?_
    refine xp_ret ?_
    refine wq_then_ret ?_
    refine fq_retV rfl (.cons (rv_32 rfl) (.cons (rv_cellA ag65 rfl (by repeat (first | exact .head | apply Sel.tail)) rfl) .nil)) _ rfl ?_
    first | (simp only [G.resolve, if_neg c1]; rfl) | (simp only [G.resolve, if_pos c1, c2, Bool.false_eq_true, if_false, if_true]; rfl)
  ·
    try simp only [decide_eq_true_eq, decide_eq_false_iff_not, Bool.not_eq_true', Bool.not_eq_false'] at c1
    refine xp_skip ?_
    refine wq_then ?_
    refine xp_seq ?_
    refine xp_region ?_
    refine wl_ro (ro_fieldAddrC 0 fb40_0 rfl rfl) rfl ?_
    refine wl_ro (ro_loadA ag37 rfl (by repeat (first | exact .head | apply Sel.tail)) (by rfl) (get_Machine_core _)) rfl ?_
    refine wl_ro (ro_fieldAddrC 29 fb40_1 rfl rfl) rfl ?_
    refine wl_ro (ro_load sc38 rfl (by repeat (first | exact .head | apply Sel.tail)) (get_Machine_mem _)) rfl ?_
    refine wl_ro (ro_len_slice sl38 rfl) rfl ?_
    refine wl_ro (cv_i_32 us3 ik22 rfl) rfl ?_
    refine wl_ro (mv_32 rfl) rfl ?_
    refine wl_ro (mv_i rfl) rfl ?_
    refine wl_s rfl (so_callV (c_reloc_TranslateCore _ _ _ _) gb113 (by rfl) ?_)
    refine wl_ro (mv_u rfl) rfl ?_
    refine wl_ro (ro_extract rfl rfl) rfl ?_
    refine wl_ro (ro_extract rfl rfl) rfl ?_
    refine wl_ro (as_32 rfl) rfl ?_
    refine wl_ro (as_b rfl) rfl ?_
    refine wl_nil ?_
    refine wq_then ?_
    refine xp_seq ?_
    refine xp_seq ?_
    refine xp_region ?_
    refine wl_ro (mv_b rfl) rfl ?_
    refine wl_ro (ro_not rfl) rfl ?_
    refine wl_nil ?_
    refine wq_then ?_
    refine xp_cond _ rfl (fun c2 => ?_) (fun c2 => ?_)
    ·
      try simp only [decide_eq_true_eq, decide_eq_false_iff_not, Bool.not_eq_true', Bool.not_eq_false'] at c2
      refine xp_seq ?_
      refine xp_region ?_
      refine wl_ro (mv_32 rfl) rfl ?_
      refine wl_ro (ro_buildS pl65 zr65 (build_Trap_0_1 _ _)) rfl ?_
      refine wl_ro (as_32 (a := 0#32) rfl) rfl ?_
      refine wl_s0 (so_storeA ag65 rfl rfl rfl (ones_Trap _) (by repeat (first | exact .head | apply Sel.tail)) rfl ?_)
      refine wl_nil ?_
      refine wq_then ?_
      refine xp_ret ?_
      refine wq_then_ret ?_
      refine fq_retV rfl (.cons (rv_32 rfl) (.cons (rv_cellA ag65 rfl (by repeat (first | exact .head | apply Sel.tail)) rfl) .nil)) _ rfl ?_
      first | (simp only [G.resolve, if_neg c1]; rfl) | (simp only [G.resolve, if_pos c1, c2, Bool.false_eq_true, if_false, if_true]; rfl)
    ·
      try simp only [decide_eq_true_eq, decide_eq_false_iff_not, Bool.not_eq_true', Bool.not_eq_false'] at c2
      refine xp_skip ?_
      refine wq_then ?_
      refine xp_seq ?_
      refine xp_draw [false, true] [3] mixed ?_
      refine wd_ro 0 rfl (by kernel_rfl) (mv_32 rfl) rfl ?_
      refine wd_ro 1 rfl (by kernel_rfl) (ro_tabT ag65 rfl hT.none) rfl ?_
      refine wd_ro 2 rfl (by kernel_rfl) (as_32 rfl) rfl ?_
      refine wd_so0 3 rfl (by kernel_rfl) (so_storeA ag65 rfl rfl rfl (ones_Trap _) (by repeat (first | exact .head | apply Sel.tail)) rfl ⟨⟨(by first | exact PH.le_refl _ | assumption | exact PH.le_trans (by assumption) (by assumption)), (inc_of (by repeat' (first | exact List.nil_sublist _ | apply List.Sublist.cons_cons | apply List.Sublist.cons))), .inl (by kernel_rfl)⟩, ?_⟩)
      refine wd_done (by kernel_rfl) ?_
      refine wq_then ?_
      refine xp_ret ?_
      refine fq_retV rfl (.cons (rv_32 rfl) (.cons (rv_cellA ag65 rfl (by repeat (first | exact .head | apply Sel.tail)) rfl) .nil)) _ rfl ?_
      first | (simp only [G.resolve, if_neg c1]; rfl) | (simp only [G.resolve, if_pos c1, c2, Bool.false_eq_true, if_false, if_true]; rfl)
theorem c_fetch_Load (s : MS) (mm mo : SV) (a : BitVec 32) (n : Nat) (hn : BitVec.ofInt 32 (n : Int) ≠ 0#32) (hn8 : n ≤ 8) : CtW (fun h => Tb h ∧ Rp h s mm mo) Tryd.prog 90 [.agg (encMachine (mach s mm mo)), u32 a, int n] (.tuple #[u32 (G.fLoad s a n).1, .agg (encTrap (G.fLoad s a n).2)]) := by
  rintro h ⟨hT, hR⟩
  refine ctr_enter (n := 33) [.agg (encMachine (mach s mm mo)), u32 a, int n] Tryd.func90 rfl rfl rfl fun w0 => ?_
  refine xp_seq ?_
  refine xp_region ?_
  refine wl_s rfl (so_boxA rfl fun b3 => ?_)
  refine wl_ro (as_32 (a := 0#32) rfl) rfl ?_
  refine wl_s rfl (so_allocA zr65 fun b7 => ?_)
  refine wl_nil ?_
  refine wq_then ?_
  refine xp_seq ?_
  have hl : mm.len = s.mem.length := hR.mem.1
  refine xp_region ?_
  refine wl_ro (ro_loadA ag40 rfl (by repeat (first | exact .head | apply Sel.tail)) (by rfl) (whole_Machine _)) rfl ?_
  refine wl_ro (mv_32 rfl) rfl ?_
  refine wl_ro (mv_i rfl) rfl ?_
  refine wl_s rfl (so_callW (c_fetch_Resolve _ _ _ (by first | assumption | decide)) (by first | exact hT | exact hR.mem) gb104 (by rfl) ?_)
  refine wl_ro (mv_u rfl) rfl ?_
  refine wl_ro (ro_extract rfl rfl) rfl ?_
  refine wl_ro (ro_extract rfl rfl) rfl ?_
  refine wl_s rfl (so_allocA zr65 fun b9 => ?_)
  refine wl_ro (as_32 rfl) rfl ?_
  refine wl_s0 (so_storeA ag65 rfl rfl rfl (ones_Trap _) (by repeat (first | exact .head | apply Sel.tail)) rfl ?_)
  refine wl_nil ?_
  refine wq_then ?_
  refine xp_seq ?_
  refine xp_seq ?_
  refine xp_region ?_
  refine wl_ro (ro_loadA ag65 rfl (by repeat (first | exact .head | apply Sel.tail)) (by rfl) (whole_Trap _)) rfl ?_
  refine wl_ro (ro_tabT ag65 rfl hT.none) rfl ?_
  refine wl_ro (roa_neq pe65 (eqf65 _ _ _) rfl rfl) rfl ?_
  refine wl_nil ?_
  refine wq_then ?_
  refine xp_cond _ rfl (fun c1 => ?_) (fun c1 => ?_)
  ·
    try simp only [decide_eq_true_eq, decide_eq_false_iff_not, Bool.not_eq_true', Bool.not_eq_false'] at c1
    refine xp_seq ?_
    refine xp_draw [true, false, true] [2] mixed ?_
    refine wd_ro 0 rfl (by kernel_rfl) (ro_loadA ag65 rfl (by repeat (first | exact .head | apply Sel.tail)) (by rfl) (whole_Trap _)) rfl ?_
    refine wd_ro 1 rfl (by kernel_rfl) (as_32 (a := 0#32) rfl) rfl ?_
    refine wd_so0 2 rfl (by kernel_rfl) (so_storeA ag65 rfl rfl rfl (ones_Trap _) (by repeat (first | exact .head | apply Sel.tail)) rfl ⟨⟨(by first | exact PH.le_refl _ | assumption | exact PH.le_trans (by assumption) (by assumption)), (inc_of (by repeat' (first | exact List.nil_sublist _ | apply List.Sublist.cons_cons | apply List.Sublist.cons))), .inl (by kernel_rfl)⟩, ?_⟩)
    refine wd_done (by kernel_rfl) ?_
    refine wq_then ?_
    refine xp_ret ?_
    refine wq_then_ret ?_
    refine fq_retV rfl (.cons (rv_32 rfl) (.cons (rv_cellA ag65 rfl (by repeat (first | exact .head | apply Sel.tail)) rfl) .nil)) _ rfl ?_
    first | (simp only [G.fLoad, ← hl, if_neg c1]; rfl) | (simp only [G.fLoad, ← hl, if_pos c1]; rfl)
  ·
    try simp only [decide_eq_true_eq, decide_eq_false_iff_not, Bool.not_eq_true', Bool.not_eq_false'] at c1
    refine xp_skip ?_
    refine wq_then ?_
    refine xp_seq ?_
    refine xp_region ?_
    refine wl_ro (ro_fieldAddrC 29 fb40_1 rfl rfl) rfl ?_
    refine wl_ro (ro_load sc38 rfl (by repeat (first | exact .head | apply Sel.tail)) (get_Machine_mem _)) rfl ?_
    refine wl_ro (mv_32 rfl) rfl ?_
    refine wl_ro (mv_i rfl) rfl ?_
    refine wl_s rfl (so_callW (c_mem_Load _ s.mem _ _ (by omega)) (by first | exact hT | exact hR.mem) gb105 (by rfl) ?_)
    refine wl_ro (mv_u rfl) rfl ?_
    refine wl_ro (ro_extract rfl rfl) rfl ?_
    refine wl_ro (ro_extract rfl rfl) rfl ?_
    refine wl_ro (as_32 rfl) rfl ?_
    refine wl_ro (as_b rfl) rfl ?_
    refine wl_nil ?_
    refine wq_then ?_
    refine xp_seq ?_
    refine xp_draw [true, false, true] [3] mixed ?_
    refine wd_ro 0 rfl (by kernel_rfl) (mv_32 rfl) rfl ?_
    refine wd_ro 1 rfl (by kernel_rfl) (ro_tabT ag65 rfl hT.none) rfl ?_
    refine wd_ro 2 rfl (by kernel_rfl) (as_32 rfl) rfl ?_
    refine wd_so0 3 rfl (by kernel_rfl) (so_storeA ag65 rfl rfl rfl (ones_Trap _) (by repeat (first | exact .head | apply Sel.tail)) rfl ⟨⟨(by first | exact PH.le_refl _ | assumption | exact PH.le_trans (by assumption) (by assumption)), (inc_of (by repeat' (first | exact List.nil_sublist _ | apply List.Sublist.cons_cons | apply List.Sublist.cons))), .inl (by kernel_rfl)⟩, ?_⟩)
    refine wd_done (by kernel_rfl) ?_
    refine wq_then ?_
    refine xp_ret ?_
    refine fq_retV rfl (.cons (rv_32 rfl) (.cons (rv_cellA ag65 rfl (by repeat (first | exact .head | apply Sel.tail)) rfl) .nil)) _ rfl ?_
    first | (simp only [G.fLoad, ← hl, if_neg c1]; rfl) | (simp only [G.fLoad, ← hl, if_pos c1]; rfl)
theorem c_fetch_Fetch (s : MS) (mm mo : SV) : CtW (fun h => Tb h ∧ Rp h s mm mo) Tryd.prog 69 [.agg (encMachine (mach s mm mo))] (.tuple #[u32 (G.fFetch s).1, .agg (encTrap (G.fFetch s).2)]) := by
  rintro h ⟨hT, hR⟩
  refine ctr_enter (n := 11) [.agg (encMachine (mach s mm mo))] Tryd.func69 rfl rfl rfl fun w0 => ?_
  refine xp_seq ?_
  refine xp_region ?_
  refine wl_s rfl (so_boxA rfl fun b1 => ?_)
  refine wl_ro (as_32 (a := 0#32) rfl) rfl ?_
  refine wl_s rfl (so_allocA zr65 fun b3 => ?_)
  refine wl_nil ?_
  refine wq_then ?_
  refine xp_seq ?_
  refine xp_region ?_
  refine wl_ro (ro_loadA ag40 rfl (by repeat (first | exact .head | apply Sel.tail)) (by rfl) (whole_Machine _)) rfl ?_
  refine wl_ro (ro_fieldAddrC 0 fb40_0 rfl rfl) rfl ?_
  refine wl_ro (ro_fieldAddrC 16 fb37_1 rfl rfl) rfl ?_
  refine wl_ro (ro_load sc22 rfl (by repeat (first | exact .head | apply Sel.tail)) (get_Machine_core_pc _)) rfl ?_
  refine wl_s rfl (so_callW (c_fetch_Load s mm mo _ 4 (by decide) (by omega)) (by exact ⟨hT, hR⟩) gb90 (by rfl) ?_)
  refine wl_ro (ro_extract rfl rfl) rfl ?_
  refine wl_ro (ro_extract rfl rfl) rfl ?_
  refine wl_ro (as_32 rfl) rfl ?_
  refine wl_s0 (so_storeA ag65 rfl rfl rfl (ones_Trap _) (by repeat (first | exact .head | apply Sel.tail)) rfl ?_)
  refine wl_nil ?_
  refine wq_then ?_
  refine xp_ret ?_
  refine fq_retV rfl (.cons (rv_32 rfl) (.cons (rv_cellA ag65 rfl (by repeat (first | exact .head | apply Sel.tail)) rfl) .nil)) _ rfl ?_
  rfl
theorem c_fetch_Store (s : MS) (mm mo : SV) (a : BitVec 32) (n : Nat) (hn : BitVec.ofInt 32 (n : Int) ≠ 0#32) (hn0 : 0 < n) (hn8 : n ≤ 8) (v : BitVec 32) (hmem : s.mem.length ≤ 1099511627776) (h : PH) (hT : Tb h) (hR : Rp h s mm mo) : CtR Tryd.prog 100 #[.agg (encMachine (mach s mm mo)), u32 a, int n, u32 v] h fun u h' => ∃ mm', u = .tuple #[.agg (encMachine (mach (G.fStore s a n v).1 mm' mo)), .agg (encTrap (G.fStore s a n v).2)] ∧ Rp h' (G.fStore s a n v).1 mm' mo := by
  refine ctr_enter (n := 36) [.agg (encMachine (mach s mm mo)), u32 a, int n, u32 v] Tryd.func100 rfl rfl rfl fun w0 => ?_
  refine xp_seq ?_
  refine xp_region ?_
  refine wl_s rfl (so_boxA rfl fun b4 => ?_)
  refine wl_s rfl (so_allocA zr40 fun b8 => ?_)
  refine wl_s rfl (so_allocA zr65 fun b9 => ?_)
  refine wl_nil ?_
  refine wq_then ?_
  refine xp_seq ?_
  have hl : mm.len = s.mem.length := hR.mem.1
  refine xp_region ?_
  refine wl_ro (ro_loadA ag40 rfl (by repeat (first | exact .head | apply Sel.tail)) (by rfl) (whole_Machine _)) rfl ?_
  refine wl_ro (mv_32 rfl) rfl ?_
  refine wl_ro (mv_i rfl) rfl ?_
  refine wl_s rfl (so_callW (c_fetch_Resolve _ _ _ (by first | assumption | decide)) (by exact hT) gb104 (by rfl) ?_)
  refine wl_ro (mv_u rfl) rfl ?_
  refine wl_ro (ro_extract rfl rfl) rfl ?_
  refine wl_ro (ro_extract rfl rfl) rfl ?_
  refine wl_s rfl (so_allocA zr65 fun b11 => ?_)
  refine wl_ro (as_32 rfl) rfl ?_
  refine wl_s0 (so_storeA ag65 rfl rfl rfl (ones_Trap _) (by repeat (first | exact .head | apply Sel.tail)) rfl ?_)
  refine wl_nil ?_
  refine wq_then ?_
  refine xp_seq ?_
  refine xp_seq ?_
  refine xp_region ?_
  refine wl_ro (ro_loadA ag65 rfl (by repeat (first | exact .head | apply Sel.tail)) (by rfl) (whole_Trap _)) rfl ?_
  refine wl_ro (ro_tabT ag65 rfl hT.none) rfl ?_
  refine wl_ro (roa_neq pe65 (eqf65 _ _ _) rfl rfl) rfl ?_
  refine wl_nil ?_
  refine wq_then ?_
  refine xp_cond _ rfl (fun c1 => ?_) (fun c1 => ?_)
  ·
    try simp only [decide_eq_true_eq, decide_eq_false_iff_not, Bool.not_eq_true', Bool.not_eq_false'] at c1
    refine xp_seq ?_
    refine xp_draw [true, false, false, true] [2, 3] mixed ?_
    refine wd_ro 0 rfl (by kernel_rfl) (ro_loadA ag40 rfl (by repeat (first | exact .head | apply Sel.tail)) (by rfl) (whole_Machine _)) rfl ?_
    refine wd_ro 1 rfl (by kernel_rfl) (ro_loadA ag65 rfl (by repeat (first | exact .head | apply Sel.tail)) (by rfl) (whole_Trap _)) rfl ?_
    refine wd_so0 2 rfl (by kernel_rfl) (so_storeA ag40 rfl rfl rfl (ones_Machine _) (by repeat (first | exact .head | apply Sel.tail)) rfl ⟨⟨(by first | exact PH.le_refl _ | assumption | exact PH.le_trans (by assumption) (by assumption)), (inc_of (by repeat' (first | exact List.nil_sublist _ | apply List.Sublist.cons_cons | apply List.Sublist.cons))), .inl (by kernel_rfl)⟩, ?_⟩)
    refine wd_so0 3 rfl (by kernel_rfl) (so_storeA ag65 rfl rfl rfl (ones_Trap _) (by repeat (first | exact .head | apply Sel.tail)) rfl ⟨⟨(by first | exact PH.le_refl _ | assumption | exact PH.le_trans (by assumption) (by assumption)), (inc_of (by repeat' (first | exact List.nil_sublist _ | apply List.Sublist.cons_cons | apply List.Sublist.cons))), .inl (by kernel_rfl)⟩, ?_⟩)
    refine wd_done (by kernel_rfl) ?_
    refine wq_then ?_
    refine xp_ret ?_
    refine wq_then_ret ?_
    refine fq_retR _ rfl (.cons (rv_cellA ag40 rfl (by repeat (first | exact .head | apply Sel.tail)) rfl) (.cons (rv_cellA ag65 rfl (by repeat (first | exact .head | apply Sel.tail)) rfl) .nil)) rfl ?_
    have hg : G.fStore s a n v = (s, (G.resolve s.core mm.len a n).2) := by simp only [G.fStore, ← hl, if_neg c1]
    rw [hg]; exact ⟨mm, rfl, hR⟩
  ·
    try simp only [decide_eq_true_eq, decide_eq_false_iff_not, Bool.not_eq_true', Bool.not_eq_false'] at c1
    refine xp_skip ?_
    refine wq_then ?_
    refine xp_seq ?_
    refine xp_region ?_
    refine wl_ro (ro_fieldAddrC 29 fb40_1 rfl rfl) rfl ?_
    refine wl_ro (ro_load sc38 rfl (by repeat (first | exact .head | apply Sel.tail)) (get_Machine_mem _)) rfl ?_
    refine wl_ro (mv_32 rfl) rfl ?_
    refine wl_ro (mv_i rfl) rfl ?_
    refine wl_ro (mv_32 rfl) rfl ?_
    refine wl_s rfl (so_callR (c_mem_Store _ s.mem (by omega) _ _ (by omega) (by omega) _ _ hR.mem) gb110 (by rfl) fun vq2 hq2 hlq2 hpq2 => ?_)
    obtain ⟨mm', rfl, hB'⟩ := hpq2
    refine wl_ro (mv_u rfl) rfl ?_
    refine wl_ro (ro_extract rfl rfl) rfl ?_
    refine wl_ro (ro_extract rfl rfl) rfl ?_
    refine wl_ro (ro_fieldAddrC 29 fb40_1 rfl rfl) rfl ?_
    refine wl_s0 (so_store sc38 rfl rfl rfl (by repeat (first | exact .head | apply Sel.tail)) (by rfl) (set_Machine_mem (v := ⟨_, _, _⟩) _ ) ?_)
    refine wl_nil ?_
    refine wq_then ?_
    refine xp_seq ?_
    refine xp_draw [true, false, false, true] [2, 3] mixed ?_
    refine wd_ro 0 rfl (by kernel_rfl) (ro_loadA ag40 rfl (by repeat (first | exact .head | apply Sel.tail)) (by rfl) (whole_Machine _)) rfl ?_
    refine wd_ro 1 rfl (by kernel_rfl) (ro_tabT ag65 rfl (by first | exact hT.none | exact (Tb.mono hT (by assumption)).none)) rfl ?_
    refine wd_so0 2 rfl (by kernel_rfl) (so_storeA ag40 rfl rfl rfl (ones_Machine _) (by repeat (first | exact .head | apply Sel.tail)) rfl ⟨⟨(by first | exact PH.le_refl _ | assumption | exact PH.le_trans (by assumption) (by assumption)), (inc_of (by repeat' (first | exact List.nil_sublist _ | apply List.Sublist.cons_cons | apply List.Sublist.cons))), .inl (by kernel_rfl)⟩, ?_⟩)
    refine wd_so0 3 rfl (by kernel_rfl) (so_storeA ag65 rfl rfl rfl (ones_Trap _) (by repeat (first | exact .head | apply Sel.tail)) rfl ⟨⟨(by first | exact PH.le_refl _ | assumption | exact PH.le_trans (by assumption) (by assumption)), (inc_of (by repeat' (first | exact List.nil_sublist _ | apply List.Sublist.cons_cons | apply List.Sublist.cons))), .inl (by kernel_rfl)⟩, ?_⟩)
    refine wd_done (by kernel_rfl) ?_
    refine wq_then ?_
    refine xp_ret ?_
    refine fq_retR _ rfl (.cons (rv_cellA ag40 rfl (by repeat (first | exact .head | apply Sel.tail)) rfl) (.cons (rv_cellA ag65 rfl (by repeat (first | exact .head | apply Sel.tail)) rfl) .nil)) rfl ?_
    have hg : G.fStore s a n v = ({ s with mem := (G.store s.mem (G.resolve s.core mm.len a n).1 n v).1 }, Trap.zero) := by simp only [G.fStore, ← hl, if_pos c1]
    rw [hg]; exact ⟨mm', rfl, hB', hR.out.mono (by assumption)⟩
theorem c_fetch_TimerPending (m : Sx.Machine) : CtV Tryd.prog 52 [.agg (encMachine m)] (.bool (G.timerPending m.core m.time)) := by
  intro h
  refine ctr_enter (n := 15) [.agg (encMachine m)] Tryd.func52 rfl rfl rfl fun w0 => ?_
  refine xp_seq ?_
  refine xp_region ?_
  refine wl_s rfl (so_boxA rfl fun b1 => ?_)
  refine wl_ro (as_b rfl) rfl ?_
  refine wl_nil ?_
  refine wq_then ?_
  refine xp_seq ?_
  refine xp_draw [true] [] mixed ?_
  refine wd_ro 0 rfl (by kernel_rfl) (ro_fieldAddrC 0 fb40_0 rfl rfl) rfl ?_
  refine wd_ro 1 rfl (by kernel_rfl) (ro_loadA ag37 rfl (by repeat (first | exact .head | apply Sel.tail)) (by rfl) (get_Machine_core _)) rfl ?_
  refine wd_so 2 rfl (by kernel_rfl) rfl (so_callV (c_trap_InterruptsEnabled _) gb63 (by rfl) ⟨⟨(by first | exact PH.le_refl _ | assumption | exact PH.le_trans (by assumption) (by assumption)), (inc_of (by repeat' (first | exact List.nil_sublist _ | apply List.Sublist.cons_cons | apply List.Sublist.cons))), .inr (inc_of (by repeat' (first | exact List.nil_sublist _ | apply List.Sublist.cons_cons | apply List.Sublist.cons)))⟩, ?_⟩)
  refine wd_ro 3 rfl (by kernel_rfl) (mv_b rfl) rfl ?_
  refine wd_split (dj := 6) rfl (fun g1 => ?_) (fun g1 => ?_)
  ·
    refine wd_yes 4 rfl (by kernel_rfl) rfl rfl rfl rfl (yes_of g1) (ro_fieldAddrC 30 fb40_2 rfl rfl) rfl ?_
    refine wd_yes 5 rfl (by kernel_rfl) rfl rfl rfl rfl (yes_of g1) (ro_load sc24 rfl (by repeat (first | exact .head | apply Sel.tail)) (get_Machine_time _)) rfl ?_
    refine wd_yes 6 rfl (by kernel_rfl) rfl rfl rfl rfl (yes_of g1) (ro_fieldAddrC 0 fb40_0 rfl rfl) rfl ?_
    refine wd_yes 7 rfl (by kernel_rfl) rfl rfl rfl rfl (yes_of g1) (ro_fieldAddrC 17 fb37_2 rfl rfl) rfl ?_
    refine wd_yes 8 rfl (by kernel_rfl) rfl rfl rfl rfl (yes_of g1) (ro_loadA ag23 rfl (by repeat (first | exact .head | apply Sel.tail)) (by rfl) (get_Machine_core_csr _)) rfl ?_
    refine wd_soY 9 rfl (by kernel_rfl) rfl rfl rfl rfl (yes_of g1) rfl (so_callV (c_csr_TimerCompare _) gb19 (by rfl) ⟨⟨(by first | exact PH.le_refl _ | assumption | exact PH.le_trans (by assumption) (by assumption)), (inc_of (by repeat' (first | exact List.nil_sublist _ | apply List.Sublist.cons_cons | apply List.Sublist.cons))), .inr (inc_of (by repeat' (first | exact List.nil_sublist _ | apply List.Sublist.cons_cons | apply List.Sublist.cons)))⟩, ?_⟩)
    refine wd_yes 10 rfl (by kernel_rfl) rfl rfl rfl rfl (yes_of g1) (ro64_geq rfl rfl) rfl ?_
    refine wd_ro 11 rfl (by kernel_rfl) (ro_pickT rfl g1) rfl ?_
    refine wd_ro 12 rfl (by kernel_rfl) (as_b rfl) rfl ?_
    refine wd_done (by kernel_rfl) ?_
    refine wq_then ?_
    refine xp_ret ?_
    refine fq_retV rfl (.cons (rv_b rfl) .nil) _ rfl ?_
    simp_all [G.timerPending]
  ·
    refine wd_no 4 rfl (by kernel_rfl) rfl rfl rfl rfl (no_of g1) rfl ?_
    refine wd_no 5 rfl (by kernel_rfl) rfl rfl rfl rfl (no_of g1) rfl ?_
    refine wd_no 6 rfl (by kernel_rfl) rfl rfl rfl rfl (no_of g1) rfl ?_
    refine wd_no 7 rfl (by kernel_rfl) rfl rfl rfl rfl (no_of g1) rfl ?_
    refine wd_no 8 rfl (by kernel_rfl) rfl rfl rfl rfl (no_of g1) rfl ?_
    refine wd_no 9 rfl (by kernel_rfl) rfl rfl rfl rfl (no_of g1) rfl ?_
    refine wd_no 10 rfl (by kernel_rfl) rfl rfl rfl rfl (no_of g1) rfl ?_
    refine wd_ro 11 rfl (by kernel_rfl) (ro_pickF rfl g1) rfl ?_
    refine wd_ro 12 rfl (by kernel_rfl) (as_b rfl) rfl ?_
    refine wd_done (by kernel_rfl) ?_
    refine wq_then ?_
    refine xp_ret ?_
    refine fq_retV rfl (.cons (rv_b rfl) .nil) _ rfl ?_
    simp_all [G.timerPending]
theorem c_exec_step_at (b : Nat) (st : Sx.Step) : CtM (fun _ => True) Tryd.prog 98 [.pointer (some ⟨b, 0, none⟩)] b (.cells (encStep st) 130 (0, 0)) (.cells (encStep st) 130 (0, 0)) (u32 (st.x + st.i.imm)) := by
  intro h hT
  refine ct1_enter (n := 14) [.pointer (some ⟨b, 0, none⟩)] Tryd.func98 rfl rfl rfl fun w0 hb0 => ?_
  refine xp_seq ?_
  refine xp_region ?_
  refine wl_ro (as_32 (a := 0#32) rfl) rfl ?_
  refine wl_nil ?_
  refine wq_then ?_
  refine xp_seq ?_
  refine xp_draw [true] [] mixed ?_
  refine wd_ro 0 rfl (by kernel_rfl) (mv_p rfl) rfl ?_
  refine wd_ro 1 rfl (by kernel_rfl) (ro_nilCheck rfl) rfl ?_
  refine wd_ro 2 rfl (by kernel_rfl) (ro_fieldAddrC 38 fb130_2 rfl rfl) rfl ?_
  refine wd_ro 3 rfl (by kernel_rfl) (ro_load sc22 rfl (by repeat (first | exact .head | apply Sel.tail)) (get_Step_x _)) rfl ?_
  refine wd_ro 4 rfl (by kernel_rfl) (mv_p rfl) rfl ?_
  refine wd_ro 5 rfl (by kernel_rfl) (ro_nilCheck rfl) rfl ?_
  refine wd_ro 6 rfl (by kernel_rfl) (ro_fieldAddrC 33 fb130_1 rfl rfl) rfl ?_
  refine wd_ro 7 rfl (by kernel_rfl) (ro_fieldAddrC 37 fb75_4 rfl rfl) rfl ?_
  refine wd_ro 8 rfl (by kernel_rfl) (ro_load sc21 rfl (by repeat (first | exact .head | apply Sel.tail)) (get_Step_i_imm _)) rfl ?_
  refine wd_ro 9 rfl (by kernel_rfl) (cv_i32_32 us21 ik22 rfl) rfl ?_
  refine wd_ro 10 rfl (by kernel_rfl) (ro32_add rfl rfl) rfl ?_
  refine wd_ro 11 rfl (by kernel_rfl) (as_32 rfl) rfl ?_
  refine wd_done (by kernel_rfl) ?_
  refine wq_then ?_
  refine xp_ret ?_
  refine fq_retM rfl (.cons (rv_32 rfl) .nil) _ rfl (by repeat (first | exact List.Sublist.cons_cons _ (List.nil_sublist _) | apply List.Sublist.cons)) ?_ ?_
  · rfl
  · first | rfl | exact rfl
theorem c_exec_step_far (b : Nat) (st : Sx.Step) : CtM (fun _ => True) Tryd.prog 102 [.pointer (some ⟨b, 0, none⟩)] b (.cells (encStep st) 130 (0, 0)) (.cells (encStep st) 130 (0, 0)) (u32 (4#32 * st.i.imm)) := by
  intro h hT
  refine ct1_enter (n := 10) [.pointer (some ⟨b, 0, none⟩)] Tryd.func102 rfl rfl rfl fun w0 hb0 => ?_
  refine xp_seq ?_
  refine xp_region ?_
  refine wl_ro (as_32 (a := 0#32) rfl) rfl ?_
  refine wl_nil ?_
  refine wq_then ?_
  refine xp_seq ?_
  refine xp_region ?_
  refine wl_ro (mv_p rfl) rfl ?_
  refine wl_ro (ro_nilCheck rfl) rfl ?_
  refine wl_ro (ro_fieldAddrC 33 fb130_1 rfl rfl) rfl ?_
  refine wl_ro (ro_fieldAddrC 37 fb75_4 rfl rfl) rfl ?_
  refine wl_ro (ro_load sc21 rfl (by repeat (first | exact .head | apply Sel.tail)) (get_Step_i_imm _)) rfl ?_
  refine wl_ro (cv_i32_32 us21 ik22 rfl) rfl ?_
  refine wl_ro (ro32_mul (a := 4#32) rfl rfl) rfl ?_
  refine wl_ro (as_32 rfl) rfl ?_
  refine wl_nil ?_
  refine wq_then ?_
  refine xp_ret ?_
  refine fq_retM rfl (.cons (rv_32 rfl) .nil) _ rfl (by repeat (first | exact List.Sublist.cons_cons _ (List.nil_sublist _) | apply List.Sublist.cons)) ?_ ?_
  · rfl
  · rfl
theorem c_exec_step_size (b : Nat) (st : Sx.Step) : CtM (fun _ => True) Tryd.prog 99 [.pointer (some ⟨b, 0, none⟩)] b (.cells (encStep st) 130 (0, 0)) (.cells (encStep st) 130 (0, 0)) (int (G.xSize st.i.op : Nat)) := by
  intro h hT
  refine ct1_enter (n := 17) [.pointer (some ⟨b, 0, none⟩)] Tryd.func99 rfl rfl rfl fun w0 hb0 => ?_
  refine xp_seq ?_
  refine xp_region ?_
  refine wl_ro (as_i rfl) rfl ?_
  refine wl_nil ?_
  refine wq_then ?_
  refine xp_seq ?_
  refine xp_seq ?_
  refine xp_region ?_
  refine wl_ro (mv_p rfl) rfl ?_
  refine wl_ro (ro_nilCheck rfl) rfl ?_
  refine wl_ro (ro_fieldAddrC 33 fb130_1 rfl rfl) rfl ?_
  refine wl_ro (ro_fieldAddrC 33 fb75_0 rfl rfl) rfl ?_
  refine wl_ro (ro_load sc3 rfl (by repeat (first | exact .head | apply Sel.tail)) (get_Step_i_op _)) rfl ?_
  refine wl_ro (roI_eql rfl rfl) rfl ?_
  refine wl_ro (mv_b rfl) rfl ?_
  refine wl_split (dj := 9) rfl (fun g1 => ?_) (fun g1 => ?_)
  ·
    refine wl_no rfl rfl rfl rfl rfl (no_of g1) ?_
    refine wl_no rfl rfl rfl rfl rfl (no_of g1) ?_
    refine wl_no rfl rfl rfl rfl rfl (no_of g1) ?_
    refine wl_no rfl rfl rfl rfl rfl (no_of g1) ?_
    refine wl_no rfl rfl rfl rfl rfl (no_of g1) ?_
    refine wl_no rfl rfl rfl rfl rfl (no_of g1) ?_
    refine wl_ro (ro_pickT rfl g1) rfl ?_
    refine wl_nil ?_
    refine wq_then ?_
    refine xp_condT rfl rfl ?_
    refine xp_seq ?_
    refine xp_region ?_
    refine wl_ro (as_i rfl) rfl ?_
    refine wl_nil ?_
    refine wq_then ?_
    refine xp_ret ?_
    refine wq_then_ret ?_
    refine fq_retM rfl (.cons (rv_i rfl) .nil) _ rfl (by repeat (first | exact List.Sublist.cons_cons _ (List.nil_sublist _) | apply List.Sublist.cons)) ?_ ?_
    · simp_all [G.xSize]
    · rfl
  ·
    refine wl_yes rfl rfl rfl rfl rfl (yes_of g1) (so_ro (mv_p rfl) ?_)
    refine wl_yes rfl rfl rfl rfl rfl (yes_of g1) (so_ro (ro_nilCheck rfl) ?_)
    refine wl_yes rfl rfl rfl rfl rfl (yes_of g1) (so_ro (ro_fieldAddrC 33 fb130_1 rfl rfl) ?_)
    refine wl_yes rfl rfl rfl rfl rfl (yes_of g1) (so_ro (ro_fieldAddrC 33 fb75_0 rfl rfl) ?_)
    refine wl_yes rfl rfl rfl rfl rfl (yes_of g1) (so_ro (ro_load sc3 rfl (by repeat (first | exact .head | apply Sel.tail)) (get_Step_i_op _)) ?_)
    refine wl_yes rfl rfl rfl rfl rfl (yes_of g1) (so_ro (roI_eql rfl rfl) ?_)
    refine wl_ro (ro_pickF rfl g1) rfl ?_
    refine wl_nil ?_
    refine wq_then ?_
    refine xp_cond _ rfl (fun c2 => ?_) (fun c2 => ?_)
    ·
      try simp only [decide_eq_true_eq, decide_eq_false_iff_not] at c2
      refine xp_seq ?_
      refine xp_region ?_
      refine wl_ro (as_i rfl) rfl ?_
      refine wl_nil ?_
      refine wq_then ?_
      refine xp_ret ?_
      refine wq_then_ret ?_
      refine fq_retM rfl (.cons (rv_i rfl) .nil) _ rfl (by repeat (first | exact List.Sublist.cons_cons _ (List.nil_sublist _) | apply List.Sublist.cons)) ?_ ?_
      · simp_all [G.xSize]
      · rfl
    ·
      try simp only [decide_eq_true_eq, decide_eq_false_iff_not] at c2
      refine xp_skip ?_
      refine wq_then ?_
      refine xp_seq ?_
      refine xp_region ?_
      refine wl_ro (as_i rfl) rfl ?_
      refine wl_nil ?_
      refine wq_then ?_
      refine xp_ret ?_
      refine fq_retM rfl (.cons (rv_i rfl) .nil) _ rfl (by repeat (first | exact List.Sublist.cons_cons _ (List.nil_sublist _) | apply List.Sublist.cons)) ?_ ?_
      · simp_all [G.xSize]
      · rfl
theorem c_exec_step_put (b : Nat) (st : Sx.Step) (v : BitVec 32) : CtM (fun _ => True) Tryd.prog 97 [.pointer (some ⟨b, 0, none⟩), u32 v] b (.cells (encStep st) 130 (0, 0)) (.cells (encStep { st with m := { st.m with core := G.xPut st.m.core st.i.rd v } }) 130 (0, 0)) (.tuple #[]) := by
  intro h hT
  refine ct1_enter (n := 32) [.pointer (some ⟨b, 0, none⟩), u32 v] Tryd.func97 rfl rfl rfl fun w0 hb0 => ?_
  refine xp_seq ?_
  refine xp_draw [false] [18] mixed ?_
  refine wd_ro 0 rfl (by kernel_rfl) (mv_p rfl) rfl ?_
  refine wd_ro 1 rfl (by kernel_rfl) (mv_p rfl) rfl ?_
  refine wd_ro 2 rfl (by kernel_rfl) (ro_nilCheck rfl) rfl ?_
  refine wd_ro 3 rfl (by kernel_rfl) (ro_fieldAddrC 0 fb130_0 rfl rfl) rfl ?_
  refine wd_ro 4 rfl (by kernel_rfl) (ro_fieldAddrC 0 fb40_0 rfl rfl) rfl ?_
  refine wd_ro 5 rfl (by kernel_rfl) (ro_fieldAddrC 0 fb37_0 rfl rfl) rfl ?_
  refine wd_roW2 6 rfl (by kernel_rfl) (by kernel_rfl) (ro_loadA ag35 rfl (by repeat (first | exact .head | apply Sel.tail)) (by rfl) (get_Step_m_core_regs _)) rfl ?_
  refine wd_ro 7 rfl (by kernel_rfl) (mv_p rfl) rfl ?_
  refine wd_ro 8 rfl (by kernel_rfl) (ro_nilCheck rfl) rfl ?_
  refine wd_ro 9 rfl (by kernel_rfl) (ro_fieldAddrC 33 fb130_1 rfl rfl) rfl ?_
  refine wd_ro 10 rfl (by kernel_rfl) (ro_fieldAddrC 34 fb75_1 rfl rfl) rfl ?_
  refine wd_roW2 11 rfl (by kernel_rfl) (by kernel_rfl) (ro_load sc3 rfl (by repeat (first | exact .head | apply Sel.tail)) (get_Step_i_rd _)) rfl ?_
  refine wd_ro 12 rfl (by kernel_rfl) (mv_32 rfl) rfl ?_
  refine wd_so 13 rfl (by kernel_rfl) rfl (so_callV (c_regs_Set _ _ _) gb79 (by rfl) ⟨⟨(by first | exact PH.le_refl _ | assumption | exact PH.le_trans (by assumption) (by assumption)), (inc_of (by repeat' (first | exact List.nil_sublist _ | apply List.Sublist.cons_cons | apply List.Sublist.cons))), .inr (inc_of (by repeat' (first | exact List.nil_sublist _ | apply List.Sublist.cons_cons | apply List.Sublist.cons)))⟩, ?_⟩)
  refine wd_ro 14 rfl (by kernel_rfl) (ro_nilCheck rfl) rfl ?_
  refine wd_ro 15 rfl (by kernel_rfl) (ro_fieldAddrC 0 fb130_0 rfl rfl) rfl ?_
  refine wd_ro 16 rfl (by kernel_rfl) (ro_fieldAddrC 0 fb40_0 rfl rfl) rfl ?_
  refine wd_ro 17 rfl (by kernel_rfl) (ro_fieldAddrC 0 fb37_0 rfl rfl) rfl ?_
  refine wd_so0 18 rfl (by kernel_rfl) (so_storeP ag35 rfl rfl rfl (ones_V16 _) (by repeat (first | exact .head | apply Sel.tail)) (by rfl) (set_Step_m_core_regs _ _) ⟨⟨(by first | exact PH.le_refl _ | assumption | exact PH.le_trans (by assumption) (by assumption)), (inc_of (by repeat' (first | exact List.nil_sublist _ | apply List.Sublist.cons_cons | apply List.Sublist.cons))), .inl (by kernel_rfl)⟩, ?_⟩)
  refine wd_done (by kernel_rfl) ?_
  refine wq_then ?_
  refine xp_region ?_
  refine wl_ro (mv_p rfl) rfl ?_
  refine wl_ro (mv_p rfl) rfl ?_
  refine wl_ro (ro_nilCheck rfl) rfl ?_
  refine wl_ro (ro_fieldAddrC 0 fb130_0 rfl rfl) rfl ?_
  refine wl_ro (ro_fieldAddrC 0 fb40_0 rfl rfl) rfl ?_
  refine wl_ro (ro_loadA ag37 rfl (by repeat (first | exact .head | apply Sel.tail)) (by rfl) (get_Step_m_core _)) rfl ?_
  refine wl_s rfl (so_callV (c_exec_Advance _ 4#32) gb80 (by rfl) ?_)
  refine wl_ro (ro_nilCheck rfl) rfl ?_
  refine wl_ro (ro_fieldAddrC 0 fb130_0 rfl rfl) rfl ?_
  refine wl_ro (ro_fieldAddrC 0 fb40_0 rfl rfl) rfl ?_
  refine wl_s0 (so_storeP ag37 rfl rfl rfl (ones_Core _) (by repeat (first | exact .head | apply Sel.tail)) (by rfl) (set_Step_m_core _ _) ?_)
  refine wl_nil ?_
  refine fq_end1 ?_
  refine fq_retM rfl .nil _ rfl (by repeat (first | exact List.Sublist.cons_cons _ (List.nil_sublist _) | apply List.Sublist.cons)) ?_ ?_
  · rfl
  · rfl
theorem c_exec_step_addi (b : Nat) (st : Sx.Step) : CtM (fun _ => True) Tryd.prog 81 [.pointer (some ⟨b, 0, none⟩)] b (.cells (encStep st) 130 (0, 0)) (.cells (encStep { st with m := { st.m with core := G.xPut st.m.core st.i.rd (st.x + st.i.imm) } }) 130 (0, 0)) (.tuple #[]) := by
  intro h hT
  refine ct1_enter (n := 6) [.pointer (some ⟨b, 0, none⟩)] Tryd.func81 rfl rfl rfl fun w0 hb0 => ?_
  refine xp_region ?_
  refine wl_ro (mv_p rfl) rfl ?_
  refine wl_ro (mv_p rfl) rfl ?_
  refine wl_s rfl (so_callMV (c_exec_step_at _ _) (by first | assumption | exact Tb.mono (by assumption) (by assumption) | exact Tb.mono (Tb.mono (by assumption) (by assumption)) (by assumption) | exact ⟨by first | assumption | exact Tb.mono (by assumption) (by assumption), by first | assumption | exact Rp.mono (by assumption) (by assumption) | exact Bytes.mono (by assumption) (by assumption)⟩) gb98 (by rfl) .head ?_)
  refine wl_s rfl (so_callMV (c_exec_step_put _ _ _) (by first | assumption | exact Tb.mono (by assumption) (by assumption) | exact Tb.mono (Tb.mono (by assumption) (by assumption)) (by assumption) | exact ⟨by first | assumption | exact Tb.mono (by assumption) (by assumption), by first | assumption | exact Rp.mono (by assumption) (by assumption) | exact Bytes.mono (by assumption) (by assumption)⟩) gb97 (by rfl) .head ?_)
  refine wl_nil ?_
  refine fq_end1 ?_
  refine fq_retM rfl .nil _ rfl (by repeat (first | exact List.Sublist.cons_cons _ (List.nil_sublist _) | apply List.Sublist.cons)) ?_ ?_
  · rfl
  · rfl
theorem c_exec_step_lui (b : Nat) (st : Sx.Step) : CtM (fun _ => True) Tryd.prog 82 [.pointer (some ⟨b, 0, none⟩)] b (.cells (encStep st) 130 (0, 0)) (.cells (encStep { st with m := { st.m with core := G.xPut st.m.core st.i.rd (st.i.imm <<< 14) } }) 130 (0, 0)) (.tuple #[]) := by
  intro h hT
  refine ct1_enter (n := 11) [.pointer (some ⟨b, 0, none⟩)] Tryd.func82 rfl rfl rfl fun w0 hb0 => ?_
  refine xp_region ?_
  refine wl_ro (mv_p rfl) rfl ?_
  refine wl_ro (mv_p rfl) rfl ?_
  refine wl_ro (ro_nilCheck rfl) rfl ?_
  refine wl_ro (ro_fieldAddrC 33 fb130_1 rfl rfl) rfl ?_
  refine wl_ro (ro_fieldAddrC 37 fb75_4 rfl rfl) rfl ?_
  refine wl_ro (ro_load sc21 rfl (by repeat (first | exact .head | apply Sel.tail)) (get_Step_i_imm _)) rfl ?_
  refine wl_ro (cv_i32_32 us21 ik22 rfl) rfl ?_
  refine wl_ro (ro32_shl (s := 14) rfl rfl) rfl ?_
  refine wl_s rfl (so_callMV (c_exec_step_put _ _ _) (by first | assumption | exact Tb.mono (by assumption) (by assumption) | exact Tb.mono (Tb.mono (by assumption) (by assumption)) (by assumption) | exact ⟨by first | assumption | exact Tb.mono (by assumption) (by assumption), by first | assumption | exact Rp.mono (by assumption) (by assumption) | exact Bytes.mono (by assumption) (by assumption)⟩) gb97 (by rfl) .head ?_)
  refine wl_nil ?_
  refine fq_end1 ?_
  refine fq_retM rfl .nil _ rfl (by repeat (first | exact List.Sublist.cons_cons _ (List.nil_sublist _) | apply List.Sublist.cons)) ?_ ?_
  · rfl
  · rfl
theorem c_exec_step_branch (b : Nat) (st : Sx.Step) : CtM (fun _ => True) Tryd.prog 85 [.pointer (some ⟨b, 0, none⟩)] b (.cells (encStep st) 130 (0, 0)) (.cells (encStep { st with m := { st.m with core := G.advance st.m.core (if G.branchTaken st.i.op st.z st.x then 4#32 * st.i.imm else 4#32) } }) 130 (0, 0)) (.tuple #[]) := by
  intro h hT
  refine ct1_enter (n := 30) [.pointer (some ⟨b, 0, none⟩)] Tryd.func85 rfl rfl rfl fun w0 hb0 => ?_
  refine xp_seq ?_
  refine xp_region ?_
  refine wl_ro (as_32 (a := 4#32) rfl) rfl ?_
  refine wl_nil ?_
  refine wq_then ?_
  refine xp_seq ?_
  refine xp_seq ?_
  refine xp_draw [true] [] mixed ?_
  refine wd_ro 0 rfl (by kernel_rfl) (mv_p rfl) rfl ?_
  refine wd_ro 1 rfl (by kernel_rfl) (ro_nilCheck rfl) rfl ?_
  refine wd_ro 2 rfl (by kernel_rfl) (ro_fieldAddrC 33 fb130_1 rfl rfl) rfl ?_
  refine wd_ro 3 rfl (by kernel_rfl) (ro_fieldAddrC 33 fb75_0 rfl rfl) rfl ?_
  refine wd_ro 4 rfl (by kernel_rfl) (ro_load sc3 rfl (by repeat (first | exact .head | apply Sel.tail)) (get_Step_i_op _)) rfl ?_
  refine wd_ro 5 rfl (by kernel_rfl) (mv_p rfl) rfl ?_
  refine wd_ro 6 rfl (by kernel_rfl) (ro_nilCheck rfl) rfl ?_
  refine wd_ro 7 rfl (by kernel_rfl) (ro_fieldAddrC 40 fb130_4 rfl rfl) rfl ?_
  refine wd_ro 8 rfl (by kernel_rfl) (ro_load sc22 rfl (by repeat (first | exact .head | apply Sel.tail)) (get_Step_z _)) rfl ?_
  refine wd_ro 9 rfl (by kernel_rfl) (mv_p rfl) rfl ?_
  refine wd_ro 10 rfl (by kernel_rfl) (ro_nilCheck rfl) rfl ?_
  refine wd_ro 11 rfl (by kernel_rfl) (ro_fieldAddrC 38 fb130_2 rfl rfl) rfl ?_
  refine wd_ro 12 rfl (by kernel_rfl) (ro_load sc22 rfl (by repeat (first | exact .head | apply Sel.tail)) (get_Step_x _)) rfl ?_
  refine wd_so 13 rfl (by kernel_rfl) rfl (so_callV (c_alu_BranchTaken _ _ _) gb101 (by rfl) ⟨⟨(by first | exact PH.le_refl _ | assumption | exact PH.le_trans (by assumption) (by assumption)), (inc_of (by repeat' (first | exact List.nil_sublist _ | apply List.Sublist.cons_cons | apply List.Sublist.cons))), .inr (inc_of (by repeat' (first | exact List.nil_sublist _ | apply List.Sublist.cons_cons | apply List.Sublist.cons)))⟩, ?_⟩)
  refine wd_done (by kernel_rfl) ?_
  refine wq_then ?_
  refine xp_cond _ rfl (fun c1 => ?_) (fun c1 => ?_)
  ·
    refine xp_region ?_
    refine wl_ro (mv_p rfl) rfl ?_
    refine wl_s rfl (so_callMV (c_exec_step_far _ _) (by first | assumption | exact Tb.mono (by assumption) (by assumption) | exact Tb.mono (Tb.mono (by assumption) (by assumption)) (by assumption) | exact ⟨by first | assumption | exact Tb.mono (by assumption) (by assumption), by first | assumption | exact Rp.mono (by assumption) (by assumption) | exact Bytes.mono (by assumption) (by assumption)⟩) gb102 (by rfl) .head ?_)
    refine wl_ro (as_32 rfl) rfl ?_
    refine wl_nil ?_
    refine wq_then ?_
    refine xp_region ?_
    refine wl_ro (mv_p rfl) rfl ?_
    refine wl_ro (mv_p rfl) rfl ?_
    refine wl_ro (ro_nilCheck rfl) rfl ?_
    refine wl_ro (ro_fieldAddrC 0 fb130_0 rfl rfl) rfl ?_
    refine wl_ro (ro_fieldAddrC 0 fb40_0 rfl rfl) rfl ?_
    refine wl_ro (ro_loadA ag37 rfl (by repeat (first | exact .head | apply Sel.tail)) (by rfl) (get_Step_m_core _)) rfl ?_
    refine wl_ro (mv_32 rfl) rfl ?_
    refine wl_s rfl (so_callV (c_exec_Advance _ _) gb80 (by rfl) ?_)
    refine wl_ro (ro_nilCheck rfl) rfl ?_
    refine wl_ro (ro_fieldAddrC 0 fb130_0 rfl rfl) rfl ?_
    refine wl_ro (ro_fieldAddrC 0 fb40_0 rfl rfl) rfl ?_
    refine wl_s0 (so_storeP ag37 rfl rfl rfl (ones_Core _) (by repeat (first | exact .head | apply Sel.tail)) (by rfl) (set_Step_m_core _ _) ?_)
    refine wl_nil ?_
    refine fq_end1 ?_
    refine fq_retM rfl .nil _ rfl (by repeat (first | exact List.Sublist.cons_cons _ (List.nil_sublist _) | apply List.Sublist.cons)) ?_ ?_
    · rfl
    · first | rfl | simp_all
  ·
    refine xp_skip ?_
    refine wq_then ?_
    refine xp_region ?_
    refine wl_ro (mv_p rfl) rfl ?_
    refine wl_ro (mv_p rfl) rfl ?_
    refine wl_ro (ro_nilCheck rfl) rfl ?_
    refine wl_ro (ro_fieldAddrC 0 fb130_0 rfl rfl) rfl ?_
    refine wl_ro (ro_fieldAddrC 0 fb40_0 rfl rfl) rfl ?_
    refine wl_ro (ro_loadA ag37 rfl (by repeat (first | exact .head | apply Sel.tail)) (by rfl) (get_Step_m_core _)) rfl ?_
    refine wl_ro (mv_32 rfl) rfl ?_
    refine wl_s rfl (so_callV (c_exec_Advance _ _) gb80 (by rfl) ?_)
    refine wl_ro (ro_nilCheck rfl) rfl ?_
    refine wl_ro (ro_fieldAddrC 0 fb130_0 rfl rfl) rfl ?_
    refine wl_ro (ro_fieldAddrC 0 fb40_0 rfl rfl) rfl ?_
    refine wl_s0 (so_storeP ag37 rfl rfl rfl (ones_Core _) (by repeat (first | exact .head | apply Sel.tail)) (by rfl) (set_Step_m_core _ _) ?_)
    refine wl_nil ?_
    refine fq_end1 ?_
    refine fq_retM rfl .nil _ rfl (by repeat (first | exact List.Sublist.cons_cons _ (List.nil_sublist _) | apply List.Sublist.cons)) ?_ ?_
    · rfl
    · first | rfl | simp_all
theorem c_exec_step_jump (b : Nat) (st : Sx.Step) : CtM (fun _ => True) Tryd.prog 86 [.pointer (some ⟨b, 0, none⟩)] b (.cells (encStep st) 130 (0, 0)) (.cells (encStep { st with m := { st.m with core := G.xJump st.m.core st.i st.x } }) 130 (0, 0)) (.tuple #[]) := by
  intro h hT
  refine ct1_enter (n := 35) [.pointer (some ⟨b, 0, none⟩)] Tryd.func86 rfl rfl rfl fun w0 hb0 => ?_
  refine xp_seq ?_
  refine xp_draw [true] [] mixed ?_
  refine wd_ro 0 rfl (by kernel_rfl) (mv_p rfl) rfl ?_
  refine wd_ro 1 rfl (by kernel_rfl) (ro_nilCheck rfl) rfl ?_
  refine wd_ro 2 rfl (by kernel_rfl) (ro_fieldAddrC 0 fb130_0 rfl rfl) rfl ?_
  refine wd_ro 3 rfl (by kernel_rfl) (ro_fieldAddrC 0 fb40_0 rfl rfl) rfl ?_
  refine wd_ro 4 rfl (by kernel_rfl) (ro_fieldAddrC 16 fb37_1 rfl rfl) rfl ?_
  refine wd_ro 5 rfl (by kernel_rfl) (ro_load sc22 rfl (by repeat (first | exact .head | apply Sel.tail)) (get_Step_m_core_pc _)) rfl ?_
  refine wd_ro 6 rfl (by kernel_rfl) (mv_p rfl) rfl ?_
  refine wd_so 7 rfl (by kernel_rfl) rfl (so_callMV (c_exec_step_far _ _) (by first | assumption | exact Tb.mono (by assumption) (by assumption) | exact Tb.mono (Tb.mono (by assumption) (by assumption)) (by assumption) | exact ⟨by first | assumption | exact Tb.mono (by assumption) (by assumption), by first | assumption | exact Rp.mono (by assumption) (by assumption) | exact Bytes.mono (by assumption) (by assumption)⟩) gb102 (by rfl) .head ⟨⟨(by first | exact PH.le_refl _ | assumption | exact PH.le_trans (by assumption) (by assumption)), (inc_of (by repeat' (first | exact List.nil_sublist _ | apply List.Sublist.cons_cons | apply List.Sublist.cons))), .inr (inc_of (by repeat' (first | exact List.nil_sublist _ | apply List.Sublist.cons_cons | apply List.Sublist.cons)))⟩, ?_⟩)
  refine wd_ro 8 rfl (by kernel_rfl) (ro32_add rfl rfl) rfl ?_
  refine wd_ro 9 rfl (by kernel_rfl) (as_32 rfl) rfl ?_
  refine wd_done (by kernel_rfl) ?_
  refine wq_then ?_
  refine xp_seq ?_
  refine xp_seq ?_
  refine xp_region ?_
  refine wl_ro (mv_p rfl) rfl ?_
  refine wl_ro (ro_nilCheck rfl) rfl ?_
  refine wl_ro (ro_fieldAddrC 33 fb130_1 rfl rfl) rfl ?_
  refine wl_ro (ro_fieldAddrC 33 fb75_0 rfl rfl) rfl ?_
  refine wl_ro (ro_load sc3 rfl (by repeat (first | exact .head | apply Sel.tail)) (get_Step_i_op _)) rfl ?_
  refine wl_ro (roI_eql rfl rfl) rfl ?_
  refine wl_nil ?_
  refine wq_then ?_
  refine xp_cond _ rfl (fun c1 => ?_) (fun c1 => ?_)
  ·
    try simp only [decide_eq_true_eq, decide_eq_false_iff_not] at c1
    refine xp_region ?_
    refine wl_ro (mv_p rfl) rfl ?_
    refine wl_s rfl (so_callMV (c_exec_step_at _ _) (by first | assumption | exact Tb.mono (by assumption) (by assumption) | exact Tb.mono (Tb.mono (by assumption) (by assumption)) (by assumption) | exact ⟨by first | assumption | exact Tb.mono (by assumption) (by assumption), by first | assumption | exact Rp.mono (by assumption) (by assumption) | exact Bytes.mono (by assumption) (by assumption)⟩) gb98 (by rfl) .head ?_)
    refine wl_ro (as_32 rfl) rfl ?_
    refine wl_nil ?_
    refine wq_then ?_
    refine xp_seq ?_
    refine xp_region ?_
    refine wl_ro (mv_p rfl) rfl ?_
    refine wl_ro (mv_p rfl) rfl ?_
    refine wl_ro (ro_nilCheck rfl) rfl ?_
    refine wl_ro (ro_fieldAddrC 0 fb130_0 rfl rfl) rfl ?_
    refine wl_ro (ro_fieldAddrC 0 fb40_0 rfl rfl) rfl ?_
    refine wl_ro (ro_fieldAddrC 16 fb37_1 rfl rfl) rfl ?_
    refine wl_ro (ro_load sc22 rfl (by repeat (first | exact .head | apply Sel.tail)) (get_Step_m_core_pc _)) rfl ?_
    refine wl_ro (ro32_add (b := 4#32) rfl rfl) rfl ?_
    refine wl_s rfl (so_callMV (c_exec_step_put _ _ _) (by first | assumption | exact Tb.mono (by assumption) (by assumption) | exact Tb.mono (Tb.mono (by assumption) (by assumption)) (by assumption) | exact ⟨by first | assumption | exact Tb.mono (by assumption) (by assumption), by first | assumption | exact Rp.mono (by assumption) (by assumption) | exact Bytes.mono (by assumption) (by assumption)⟩) gb97 (by rfl) .head ?_)
    refine wl_nil ?_
    refine wq_then ?_
    refine xp_region ?_
    refine wl_ro (mv_p rfl) rfl ?_
    refine wl_ro (mv_32 rfl) rfl ?_
    refine wl_ro (ro_nilCheck rfl) rfl ?_
    refine wl_ro (ro_fieldAddrC 0 fb130_0 rfl rfl) rfl ?_
    refine wl_ro (ro_fieldAddrC 0 fb40_0 rfl rfl) rfl ?_
    refine wl_ro (ro_fieldAddrC 16 fb37_1 rfl rfl) rfl ?_
    refine wl_s0 (so_store sc22 rfl rfl rfl (by repeat (first | exact .head | apply Sel.tail)) (by rfl) (set_Step_m_core_pc _ _) ?_)
    refine wl_nil ?_
    refine fq_end1 ?_
    refine fq_retM rfl .nil _ rfl (by repeat (first | exact List.Sublist.cons_cons _ (List.nil_sublist _) | apply List.Sublist.cons)) ?_ ?_
    · rfl
    · simp only [G.xJump, c1, if_true, if_false]; try rfl
  ·
    try simp only [decide_eq_true_eq, decide_eq_false_iff_not] at c1
    refine xp_skip ?_
    refine wq_then ?_
    refine xp_seq ?_
    refine xp_region ?_
    refine wl_ro (mv_p rfl) rfl ?_
    refine wl_ro (mv_p rfl) rfl ?_
    refine wl_ro (ro_nilCheck rfl) rfl ?_
    refine wl_ro (ro_fieldAddrC 0 fb130_0 rfl rfl) rfl ?_
    refine wl_ro (ro_fieldAddrC 0 fb40_0 rfl rfl) rfl ?_
    refine wl_ro (ro_fieldAddrC 16 fb37_1 rfl rfl) rfl ?_
    refine wl_ro (ro_load sc22 rfl (by repeat (first | exact .head | apply Sel.tail)) (get_Step_m_core_pc _)) rfl ?_
    refine wl_ro (ro32_add (b := 4#32) rfl rfl) rfl ?_
    refine wl_s rfl (so_callMV (c_exec_step_put _ _ _) (by first | assumption | exact Tb.mono (by assumption) (by assumption) | exact Tb.mono (Tb.mono (by assumption) (by assumption)) (by assumption) | exact ⟨by first | assumption | exact Tb.mono (by assumption) (by assumption), by first | assumption | exact Rp.mono (by assumption) (by assumption) | exact Bytes.mono (by assumption) (by assumption)⟩) gb97 (by rfl) .head ?_)
    refine wl_nil ?_
    refine wq_then ?_
    refine xp_region ?_
    refine wl_ro (mv_p rfl) rfl ?_
    refine wl_ro (mv_32 rfl) rfl ?_
    refine wl_ro (ro_nilCheck rfl) rfl ?_
    refine wl_ro (ro_fieldAddrC 0 fb130_0 rfl rfl) rfl ?_
    refine wl_ro (ro_fieldAddrC 0 fb40_0 rfl rfl) rfl ?_
    refine wl_ro (ro_fieldAddrC 16 fb37_1 rfl rfl) rfl ?_
    refine wl_s0 (so_store sc22 rfl rfl rfl (by repeat (first | exact .head | apply Sel.tail)) (by rfl) (set_Step_m_core_pc _ _) ?_)
    refine wl_nil ?_
    refine fq_end1 ?_
    refine fq_retM rfl .nil _ rfl (by repeat (first | exact List.Sublist.cons_cons _ (List.nil_sublist _) | apply List.Sublist.cons)) ?_ ?_
    · rfl
    · simp only [G.xJump, c1, if_true, if_false]; try rfl
theorem c_exec_step_call (b : Nat) (st : Sx.Step) : CtM (fun _ => True) Tryd.prog 87 [.pointer (some ⟨b, 0, none⟩)] b (.cells (encStep st) 130 (0, 0)) (.cells (encStep { st with trap := ⟨5, 0#32⟩ }) 130 (0, 0)) (.tuple #[]) := by
  intro h hT
  refine ct1_enter (n := 6) [.pointer (some ⟨b, 0, none⟩)] Tryd.func87 rfl rfl rfl fun w0 hb0 => ?_
  refine xp_region ?_
  refine wl_ro (mv_p rfl) rfl ?_
  refine wl_ro (ro_buildS pl65 zr65 (build_Trap_0 _)) rfl ?_
  refine wl_ro (ro_nilCheck rfl) rfl ?_
  refine wl_ro (ro_fieldAddrC 41 fb130_5 rfl rfl) rfl ?_
  refine wl_s0 (so_storeP ag65 rfl rfl rfl (ones_Trap _) (by repeat (first | exact .head | apply Sel.tail)) (by rfl) (set_Step_trap _ _) ?_)
  refine wl_nil ?_
  refine fq_end1 ?_
  refine fq_retM rfl .nil _ rfl (by repeat (first | exact List.Sublist.cons_cons _ (List.nil_sublist _) | apply List.Sublist.cons)) ?_ ?_
  · rfl
  · rfl
theorem c_exec_step_reckon (b : Nat) (st : Sx.Step) : CtM (fun _ => True) Tryd.prog 89 [.pointer (some ⟨b, 0, none⟩)] b (.cells (encStep st) 130 (0, 0)) (.cells (encStep { st with m := { st.m with core := G.xPut st.m.core st.i.rd (G.eval st.i.op st.x st.y) } }) 130 (0, 0)) (.tuple #[]) := by
  intro h hT
  refine ct1_enter (n := 18) [.pointer (some ⟨b, 0, none⟩)] Tryd.func89 rfl rfl rfl fun w0 hb0 => ?_
  refine xp_draw [false] [15] mixed ?_
  refine wd_ro 0 rfl (by kernel_rfl) (mv_p rfl) rfl ?_
  refine wd_ro 1 rfl (by kernel_rfl) (mv_p rfl) rfl ?_
  refine wd_ro 2 rfl (by kernel_rfl) (ro_nilCheck rfl) rfl ?_
  refine wd_ro 3 rfl (by kernel_rfl) (ro_fieldAddrC 33 fb130_1 rfl rfl) rfl ?_
  refine wd_ro 4 rfl (by kernel_rfl) (ro_fieldAddrC 33 fb75_0 rfl rfl) rfl ?_
  refine wd_roW2 5 rfl (by kernel_rfl) (by kernel_rfl) (ro_load sc3 rfl (by repeat (first | exact .head | apply Sel.tail)) (get_Step_i_op _)) rfl ?_
  refine wd_ro 6 rfl (by kernel_rfl) (mv_p rfl) rfl ?_
  refine wd_ro 7 rfl (by kernel_rfl) (ro_nilCheck rfl) rfl ?_
  refine wd_ro 8 rfl (by kernel_rfl) (ro_fieldAddrC 38 fb130_2 rfl rfl) rfl ?_
  refine wd_roW2 9 rfl (by kernel_rfl) (by kernel_rfl) (ro_load sc22 rfl (by repeat (first | exact .head | apply Sel.tail)) (get_Step_x _)) rfl ?_
  refine wd_ro 10 rfl (by kernel_rfl) (mv_p rfl) rfl ?_
  refine wd_ro 11 rfl (by kernel_rfl) (ro_nilCheck rfl) rfl ?_
  refine wd_ro 12 rfl (by kernel_rfl) (ro_fieldAddrC 39 fb130_3 rfl rfl) rfl ?_
  refine wd_roW2 13 rfl (by kernel_rfl) (by kernel_rfl) (ro_load sc22 rfl (by repeat (first | exact .head | apply Sel.tail)) (get_Step_y _)) rfl ?_
  refine wd_so 14 rfl (by kernel_rfl) rfl (so_callV (c_alu_Eval _ _ _) gb103 (by rfl) ⟨⟨(by first | exact PH.le_refl _ | assumption | exact PH.le_trans (by assumption) (by assumption)), (inc_of (by repeat' (first | exact List.nil_sublist _ | apply List.Sublist.cons_cons | apply List.Sublist.cons))), .inr (inc_of (by repeat' (first | exact List.nil_sublist _ | apply List.Sublist.cons_cons | apply List.Sublist.cons)))⟩, ?_⟩)
  refine wd_so 15 rfl (by kernel_rfl) rfl (so_callMV (c_exec_step_put _ _ _) (by first | assumption | exact Tb.mono (by assumption) (by assumption) | exact Tb.mono (Tb.mono (by assumption) (by assumption)) (by assumption) | exact ⟨by first | assumption | exact Tb.mono (by assumption) (by assumption), by first | assumption | exact Rp.mono (by assumption) (by assumption) | exact Bytes.mono (by assumption) (by assumption)⟩) gb97 (by rfl) .head ⟨⟨(by first | exact PH.le_refl _ | assumption | exact PH.le_trans (by assumption) (by assumption)), (inc_of (by repeat' (first | exact List.nil_sublist _ | apply List.Sublist.cons_cons | apply List.Sublist.cons))), .inl (by kernel_rfl)⟩, ?_⟩)
  refine wd_done (by kernel_rfl) ?_
  refine fq_end1 ?_
  refine fq_retM rfl .nil _ rfl (by repeat (first | exact List.Sublist.cons_cons _ (List.nil_sublist _) | apply List.Sublist.cons)) ?_ ?_
  · rfl
  · rfl
end Go.Proofs.YtnikheoiciokhaaDoor
