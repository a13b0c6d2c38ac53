/-
  THE ROW AND THE CARD OF RunsDoNotModify (printed by rows.py, own work): the law returns true for every input.
-/
import Derived.Test.YtnikheoiciokhaaDoorC11
import Derived.Test.YtnikheoiciokhaaDoorT
import Derived.Test.YtnikheoiciokhaaDoorCards
import Derived.Test.YtnikheoiciokhaaDoorTie
namespace Go.Proofs.YtnikheoiciokhaaDoor
open Go Go.Sx Go.RowKit Go.ChangeShapes
set_option linter.unusedVariables false

set_option maxRecDepth 100000 in
theorem lifted_runsDoNotModify (os : Os) (started : os.Started) (H : Type) (enc : TypeId × Value → H) :
    ReturnsInHanded {} Tryd.checked os 7 .any (fun w args => (Rows.runsDoNotModifySpec.pre enc Tryd.prog Tryd.f7 [] false w args ∧ laidMetH Tryd.prog laidT w) ∧ sizedMet enc Tryd.prog Tryd.f7 (OpenSpec.ofChange Rows.runsDoNotModifySpec) false w args)
      (Rows.runsDoNotModifySpec.post enc Tryd.prog Tryd.f7 false true false false) := by
  refine returnsInHanded_of_change_and (C := Tryd.checked) (X := fun w _ => laidMetH Tryd.prog laidT w) (fun _ _ _ hh h => h.of_heap hh) ownP started (by kernel_rfl) Tryd.func7
    (ChangeSpec.witness_shaped (enc := enc) (C := Tryd.checked) (os := os) (X := fun w _ => laidMetH Tryd.prog laidT w) false (World.doorLaid Tryd.prog 400 os) #[.agg (encMachine Machine.zero), u8 0#8] 8 rfl (World.shaped_of_RefB (by kernel_rfl) (by kernel_rfl)) (by kernel_rfl) (by kernel_rfl) (by kernel_rfl) (door_metT os _)) ?_
  intro W base args ds gs before hval0 hW _ _ hL _
  have hval : ∀ (j : Nat) t v, Tryd.f7.params[j]? = some t → args[j]? = some v → Value.okWide Tryd.prog W .any base t v := hval0
  have hW' := hW
  obtain ⟨p, q, hA0, hV, rfl, hfz, hnd⟩ := hW
  have hA : DataW.TrodAll enc Tryd.prog W 0 (fun _ => true) true Tryd.f7.params.toList args.toList ds p := hA0
  rw [Tryd.params7] at hA hval
  obtain ⟨v0, vs0, d0, ds0, p0, q0, ha0, rfl, rfl, h0, hA0⟩ := trodAll_cons hA
  obtain ⟨v1, vs1, d1, ds1, p1, q1, ha1, rfl, rfl, h1, hA1⟩ := trodAll_cons hA0
  subst ha1
  obtain ⟨rfl, rfl, rfl⟩ := trodAll_nil hA1
  obtain rfl : args = #[v0, v1] := Array.ext' ha0
  obtain ⟨rfl, rfl⟩ := trodVars_none hV
  obtain ⟨s0, mm0, mo0, rfl, hR0⟩ := arg_Machine (hval 0 40 v0 rfl rfl) h0
  obtain ⟨n1, rfl⟩ := arg_u8 (by kernel_rfl) (hval 1 5 v1 rfl rfl) h1
  refine ((c_law14_RunsDoNotModify s0 mm0 mo0 n1).calls W ⟨tb_of_laid hL, hR0⟩).mono fun e W' ⟨he, hb⟩ => ?_
  subst he
  exact ⟨_, rfl, post_true (tb := 4) laidOutP hW' rfl rfl (by kernel_rfl) (by kernel_rfl) (by kernel_rfl) hb⟩

theorem holds_runsDoNotModify : Rows.RunsDoNotModifySaid :=
  OpenClaim.holds_of_wide 7 Tryd.f7 rfl rfl rfl rfl rfl rfl rfl ⟨rfl, rfl, rfl, rfl, rfl⟩ rfl rfl rfl rfl rfl (by kernel_rfl) Tryd.func7 (by kernel_rfl)
    (of_decide_eq_true (by kernel_rfl)) (by unfold Func.isWrapper; first | (rw [if_pos (by decide +kernel)]; kernel_rfl) | (rw [if_neg (by decide +kernel)]; exact ⟨rfl, rfl⟩))
    (fun os started H enc _ => lifted_runsDoNotModify os started H enc)

/-- For every input, the law RunsDoNotModify returns true. -/
theorem runsDoNotModify_card_holds : Rows.RunsDoNotModifyCardSaid :=
  Claim7.holds_tied_plain_at .later [] [.data, .data, .data] true (true, "053c863be6a1c218898695a11ab8d327a2697c20c6e30bd65e3ca68a9d948c65") true
    holds_runsDoNotModify (fun _ h => by cases h) (by kernel_rfl) (fun _ h => by cases h) runsDoNotModify_row_tie rfl ⟨rfl, rfl⟩ (by kernel_rfl) rfl
    (fun f fn hf hfn => by
      obtain rfl : f = 7 := Option.some.inj ((show Tryd.prog.funcNamed "gaoler/gaolerlaw14.RunsDoNotModify" = some 7 by kernel_rfl).symm.trans hf) |>.symm
      obtain rfl : fn = Tryd.f7 := (Option.some.inj (Tryd.func7.symm.trans hfn)).symm
      exact ⟨by kernel_rfl, fun j t ht => by
        rw [Tryd.params7] at ht
        have hm : t ∈ [40, 5] := by simpa using Array.mem_of_getElem? ht
        have hall : ([40, 5].all fun u => !Tryd.prog.wantsStandIn u) = true := by kernel_rfl
        exact (show Tryd.prog.wantsStandIn t = false by simpa using List.all_eq_true.1 hall t hm)⟩)
    (by kernel_rfl)
#print axioms runsDoNotModify_card_holds
end Go.Proofs.YtnikheoiciokhaaDoor
