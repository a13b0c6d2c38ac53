/-
  THE ROW AND THE CARD OF CsrMatchesReference (own work).
-/
import Derived.Test.YtnikheoiciokhaaDoorC4
import Derived.Test.YtnikheoiciokhaaDoorSxW
import Derived.Test.YtnikheoiciokhaaDoorRows
import Derived.Test.YtnikheoiciokhaaDoorCards
import Derived.Test.YtnikheoiciokhaaDoorTie
import Derived.Stop.Joined
import Derived.SevenTiedAt
namespace Go.Proofs.YtnikheoiciokhaaDoor
open Go Go.Sx Go.RowKit Go.ChangeShapes
set_option linter.unusedVariables false

theorem own04 : ownKnob Tryd.prog.godebug = none := by kernel_rfl
theorem laidOutD : laidOutB Tryd.prog = true := by kernel_rfl
theorem gNames : Tryd.prog.globalNamed "gaoler/csr.names" = some 0 := by kernel_rfl
theorem tNames : (Tryd.prog.globals[0]?).map (·.type) = some 60 := by kernel_rfl

abbrev laid04 {H : Type} : List (String × DataW H) := [("gaoler/csr.names", Rows.laid_gaoler_csr_names)]
set_option maxRecDepth 100000 in
theorem door_met04 (os : Os) (args : Array Value) : laidMetH Tryd.prog laid04 ((World.doorLaid Tryd.prog 400 os).forCall (fun _ _ => 0) ⟨#[], args, []⟩).memory :=
  laidMetH_of_parts3 (fuel := 8) (laidMet_of_run' 8 (by kernel_rfl) (by kernel_rfl)) (by kernel_rfl) (by kernel_rfl)

theorem names_of_laid {W : World} (h : laidMetH Tryd.prog laid04 W) : TbN (heapH W) := by
  rw [MakeChecks.laidMetH_plain _ _ _ (by kernel_rfl)] at h
  obtain ⟨ps, ⟨g0, t0, cs0, f0, p0, q0, hg0, ht0, hv0, hd0, _, _⟩, _, _⟩ := h
  obtain rfl := Option.some.inj (gNames.symm.trans hg0)
  obtain rfl := Option.some.inj (tNames.symm.trans ht0)
  obtain ⟨E, fr, hb⟩ := var_block gNames hv0
  exact ⟨tabS_of hb (by kernel_rfl : Tryd.prog.underlying 60 = some (.array 12 9)) (by kernel_rfl) (by kernel_rfl) hd0 fun i hi => by
    have : i = 0 ∨ i = 1 ∨ i = 2 ∨ i = 3 ∨ i = 4 ∨ i = 5 ∨ i = 6 ∨ i = 7 ∨ i = 8 ∨ i = 9 ∨ i = 10 ∨ i = 11 := by omega
    rcases this with rfl | rfl | rfl | rfl | rfl | rfl | rfl | rfl | rfl | rfl | rfl | rfl <;> rfl⟩

set_option maxRecDepth 100000 in
theorem row04_lifted (os : Os) (started : os.Started) (H : Type) (enc : TypeId × Value → H) :
    ReturnsInHanded {} Tryd.checked os 3 .any (fun w args => (Rows.csrMatchesReferenceSpec.pre enc Tryd.prog Tryd.f3 [] false w args ∧ laidMetH Tryd.prog laid04 w) ∧ sizedMet enc Tryd.prog Tryd.f3 (OpenSpec.ofChange Rows.csrMatchesReferenceSpec) false w args)
      (Rows.csrMatchesReferenceSpec.post enc Tryd.prog Tryd.f3 false true false false) := by
  refine returnsInHanded_of_change_and (C := Tryd.checked) (X := fun w _ => laidMetH Tryd.prog laid04 w) (fun _ _ _ hh h => h.of_heap hh) own04 started (by kernel_rfl) Tryd.func3
    (ChangeSpec.witness_shaped (enc := enc) (C := Tryd.checked) (os := os) (X := fun w _ => laidMetH Tryd.prog laid04 w) false (World.doorLaid Tryd.prog 400 os) #[.agg (encV12 (vzero 12)), u64 0#64, int 0, .string ⟨#[]⟩, u32 0#32] 8 rfl (World.shaped_of_RefB (by kernel_rfl) (by kernel_rfl)) (by kernel_rfl) (by kernel_rfl) (by kernel_rfl) (door_met04 os _)) ?_
  intro W base args ds gs before hval0 hW _ _ hL _
  have hval : ∀ (j : Nat) t v, Tryd.f3.params[j]? = some t → args[j]? = some v → Value.okWide Tryd.prog W .any base t v := hval0
  have hW' := hW
  obtain ⟨p, q, hA0, hV, rfl, hfz, hnd⟩ := hW
  have hA : DataW.TrodAll enc Tryd.prog W 0 (fun _ => true) true Tryd.f3.params.toList args.toList ds p := hA0
  rw [Tryd.params3] at hA hval
  obtain ⟨v0, v1, v2, v3, v4, d0, d1, d2, d3, d4, p0, p1, p2, p3, p4, rfl, rfl, h0, h1, h2, h3, h4⟩ := trodAll_five hA
  obtain ⟨rfl, rfl⟩ := trodVars_none hV
  obtain ⟨c, rfl⟩ := arg_V12 (by kernel_rfl : Tryd.prog.underlying 23 = some (.array 12 22)) (by kernel_rfl) (by kernel_rfl) (by kernel_rfl) (hval 0 23 v0 rfl rfl) h0
  obtain ⟨time, rfl⟩ := arg_u64 (by kernel_rfl) (hval 1 24 v1 rfl rfl) h1
  obtain ⟨n, rfl, _⟩ := arg_int (by kernel_rfl) (hval 2 3 v2 rfl rfl) h2
  obtain ⟨s, rfl⟩ := arg_string (by kernel_rfl) (hval 3 9 v3 rfl rfl)
  obtain ⟨v, rfl⟩ := arg_u32 (by kernel_rfl) (hval 4 22 v4 rfl rfl) h4
  refine ((c_law04_CsrMatchesReference c time n s v).calls W (names_of_laid hL)).mono fun e W' ⟨he, hb⟩ => ?_
  subst he
  exact ⟨_, rfl, post_true (tb := 4) laidOutD hW' rfl rfl (by kernel_rfl) (by kernel_rfl) (by kernel_rfl) hb⟩

theorem csrMatchesReference_holds : Rows.CsrMatchesReferenceSaid :=
  OpenClaim.holds_of_wide 3 Tryd.f3 rfl rfl rfl rfl rfl rfl rfl ⟨rfl, rfl, rfl, rfl, rfl⟩ rfl rfl rfl rfl rfl (by kernel_rfl) Tryd.func3 (by kernel_rfl)
    (of_decide_eq_true (by kernel_rfl)) (by unfold Func.isWrapper; first | (rw [if_pos (by decide +kernel)]; kernel_rfl) | (rw [if_neg (by decide +kernel)]; exact ⟨rfl, rfl⟩))
    (fun os started H enc _ => row04_lifted os started H enc)

theorem csrMatchesReference_card_holds : Rows.CsrMatchesReferenceCardSaid :=
  Claim7.holds_tied_plain_at .later [] [.widerDeep] true (true, "053c863be6a1c218898695a11ab8d327a2697c20c6e30bd65e3ca68a9d948c65") true
    csrMatchesReference_holds (fun _ h => by cases h) (by kernel_rfl) (fun _ h => by cases h) csrMatchesReference_row_tie rfl ⟨rfl, rfl⟩ (by kernel_rfl) rfl
    (fun f fn hf hfn => by
      obtain rfl : f = 3 := Option.some.inj ((show Tryd.prog.funcNamed "gaoler/gaolerlaw04.CsrMatchesReference" = some 3 by kernel_rfl).symm.trans hf) |>.symm
      obtain rfl : fn = Tryd.f3 := (Option.some.inj (Tryd.func3.symm.trans hfn)).symm
      exact ⟨by kernel_rfl, fun j t ht => by
        rw [Tryd.params3] at ht
        have hm : t ∈ [23, 24, 3, 9, 22] := by simpa using Array.mem_of_getElem? ht
        have hall : ([23, 24, 3, 9, 22].all fun u => !Tryd.prog.wantsStandIn u) = true := by kernel_rfl
        exact (show Tryd.prog.wantsStandIn t = false by simpa using List.all_eq_true.1 hall t hm)⟩)
    (by kernel_rfl)
#print axioms csrMatchesReference_card_holds
end Go.Proofs.YtnikheoiciokhaaDoor
