/-
  WHAT THE LAID TABLES HOLD, and what an argument that is a machine looks like, in this program (printed by rows.py, own work).
-/
import Derived.Test.YtnikheoiciokhaaDoorF
import Derived.Test.YtnikheoiciokhaaDoorSxV
import Derived.Test.YtnikheoiciokhaaDoorRows
import Derived.Stop.Joined
import Derived.SevenTiedAt
namespace Go.Proofs.YtnikheoiciokhaaDoor
open Go Go.Sx Go.RowKit Go.ChangeShapes
set_option linter.unusedVariables false

theorem sC37 : structC Tryd.prog 37 29 [(35, 0, 16), (22, 16, 1), (23, 17, 12)] = true := by kernel_rfl
theorem sC40 : structC Tryd.prog 40 33 [(37, 0, 29), (38, 29, 1), (24, 30, 1), (38, 31, 1), (4, 32, 1)] = true := by kernel_rfl
theorem ownP : ownKnob Tryd.prog.godebug = none := by kernel_rfl
theorem laidOutP : laidOutB Tryd.prog = true := by kernel_rfl
abbrev laidT {H : Type} : List (String × DataW H) := [("gaoler/isa.forms", Rows.laid_gaoler_isa_forms), ("gaoler/isa.parts", Rows.laid_gaoler_isa_parts), ("gaoler/fetch.none", Rows.laid_gaoler_fetch_none)]
theorem g_forms : Tryd.prog.globalNamed "gaoler/isa.forms" = some 2 := by kernel_rfl
theorem gt_forms : (Tryd.prog.globals[2]?).map (·.type) = some 145 := by kernel_rfl
theorem g_parts : Tryd.prog.globalNamed "gaoler/isa.parts" = some 1 := by kernel_rfl
theorem gt_parts : (Tryd.prog.globals[1]?).map (·.type) = some 137 := by kernel_rfl
theorem g_none : Tryd.prog.globalNamed "gaoler/fetch.none" = some 3 := by kernel_rfl
theorem gt_none : (Tryd.prog.globals[3]?).map (·.type) = some 65 := by kernel_rfl
set_option maxRecDepth 100000 in
theorem door_metT (os : Os) (args : Array Value) : laidMetH Tryd.prog laidT ((World.doorLaid Tryd.prog 400 os).forCall (fun _ _ => 0) ⟨#[], args, []⟩).memory :=
  laidMetH_of_parts3 (fuel := 8) (laidMet_of_run' 8 (by kernel_rfl) (by kernel_rfl)) (by kernel_rfl) (by kernel_rfl)

theorem tb_of_laid {W : World} (h : laidMetH Tryd.prog laidT W) : Tb (heapH W) := by
  rw [MakeChecks.laidMetH_plain _ _ _ (by kernel_rfl)] at h
  obtain ⟨ps, ⟨g0, t0, cs0, f0, p0, q0, hg0, ht0, hv0, hd0, ⟨g1, t1, cs1, f1, p1, q1, hg1, ht1, hv1, hd1, ⟨g2, t2, cs2, f2, p2, q2, hg2, ht2, hv2, hd2, _, _⟩, _⟩, _⟩, _, _⟩ := h
  obtain rfl := Option.some.inj (g_forms.symm.trans hg0)
  obtain rfl := Option.some.inj (gt_forms.symm.trans ht0)
  obtain ⟨E0, fr0, hb0⟩ := var_block g_forms hv0
  obtain rfl := Option.some.inj (g_parts.symm.trans hg1)
  obtain rfl := Option.some.inj (gt_parts.symm.trans ht1)
  obtain ⟨E1, fr1, hb1⟩ := var_block g_parts hv1
  obtain rfl := Option.some.inj (g_none.symm.trans hg2)
  obtain rfl := Option.some.inj (gt_none.symm.trans ht2)
  obtain ⟨E2, fr2, hb2⟩ := var_block g_none hv2
  exact ⟨tabI_of hb0 (by kernel_rfl : Tryd.prog.underlying 145 = some (.array 26 3)) (by kernel_rfl : Tryd.prog.underlying 3 = some (.int .i64)) (by kernel_rfl) hd0 (fun i (hi : i < 26) => by
      have : i = 0 ∨ i = 1 ∨ i = 2 ∨ i = 3 ∨ i = 4 ∨ i = 5 ∨ i = 6 ∨ i = 7 ∨ i = 8 ∨ i = 9 ∨ i = 10 ∨ i = 11 ∨ i = 12 ∨ i = 13 ∨ i = 14 ∨ i = 15 ∨ i = 16 ∨ i = 17 ∨ i = 18 ∨ i = 19 ∨ i = 20 ∨ i = 21 ∨ i = 22 ∨ i = 23 ∨ i = 24 ∨ i = 25 := by omega
      rcases this with rfl | rfl | rfl | rfl | rfl | rfl | rfl | rfl | rfl | rfl | rfl | rfl | rfl | rfl | rfl | rfl | rfl | rfl | rfl | rfl | rfl | rfl | rfl | rfl | rfl | rfl <;> rfl),
    tabH_of hb1 (by kernel_rfl : Tryd.prog.underlying 137 = some (.array 8 136)) (by kernel_rfl : structC Tryd.prog 136 5 [(4, 0, 1), (4, 1, 1), (4, 2, 1), (4, 3, 1), (4, 4, 1)] = true) (by kernel_rfl) (by kernel_rfl : Tryd.prog.underlying 4 = some .bool) hd1 (fun i (hi : i < 8) => by
      have : i = 0 ∨ i = 1 ∨ i = 2 ∨ i = 3 ∨ i = 4 ∨ i = 5 ∨ i = 6 ∨ i = 7 := by omega
      rcases this with rfl | rfl | rfl | rfl | rfl | rfl | rfl | rfl <;> rfl),
    tabT_of hb2 (by kernel_rfl : structC Tryd.prog 65 2 [(3, 0, 1), (22, 1, 1)] = true) (by kernel_rfl : Tryd.prog.underlying 3 = some (.int .i64)) (by kernel_rfl : Tryd.prog.underlying 22 = some (.int .u32)) hd2⟩

section
variable {H : Type} {enc : TypeId × Value → H} {W : World} {base : Nat} {sp : Nat → Bool} {held : Bool}
set_option maxRecDepth 100000 in
theorem arg_Machine {r : Reach} {b0 : Nat} {v : Value} {d : DataW H} {ps : List MemPlace} (hval : Value.okWide Tryd.prog W r b0 40 v) (hd : DataW.Trod enc Tryd.prog W base sp held 40 v d ps) :
    ∃ s mm mo, v = .agg (encMachine (mach s mm mo)) ∧ Rp (heapH W) s mm mo := by
  obtain ⟨c, hv, s, mm, mo, hc, h⟩ := arg_agg (Q := fun c => ∃ s mm mo, c = encMachine (mach s mm mo) ∧ Rp (heapH W) s mm mo) sC40 hval hd fun fuel cs x hx => by
    obtain ⟨s, mm, mo, e1, e2⟩ := tr_Machine sC40 sC37 (by kernel_rfl : Tryd.prog.underlying 22 = some (.int .u32)) (by kernel_rfl : arrC Tryd.prog 35 22 16 = true) (by kernel_rfl : arrC Tryd.prog 23 22 12 = true) (by kernel_rfl : sliceC Tryd.prog 38 5 1 = true) (by kernel_rfl : Tryd.prog.underlying 5 = some (.int .u8)) (by kernel_rfl : Tryd.prog.underlying 24 = some (.int .u64)) (by kernel_rfl : Tryd.prog.underlying 4 = some .bool) hx
    exact ⟨_, e1, s, mm, mo, rfl, e2⟩
  exact ⟨s, mm, mo, by rw [hv, hc], h⟩
end
end Go.Proofs.YtnikheoiciokhaaDoor
