/- The law FnExactPrint answers true at every argument that it is called with: the program and the reference are one function there. Conditions: those of the row (the five listed variables hold what the program's text lays; the card ties them). -/
import Derived.Test.YtljgefnmbpmjmaaDoorT8
import Derived.Test.YtljgefnmbpmjmaaDoorT15
import Derived.Test.YtljgefnmbpmjmaaDoorCards
import Derived.Test.YtljgefnmbpmjmaaDoorTie
import Derived.SizedLaws
set_option linter.unusedVariables false
namespace Go.Proofs.YtljgefnmbpmjmaaDoor
open Go.ChangeShapes Go.WideShapes Go.ChangeAt Go.WideMaps Go.WideElems Go.RowKit Go.Pm
theorem own : ownKnob Tryd.prog.godebug = none := by kernel_rfl
theorem door_met (os : Os) (args : Array Value) : laidMetH Tryd.prog laidL ((World.doorLaid Tryd.prog 4000 os).forCall (fun _ _ => 0) ⟨#[], args, []⟩).memory :=
  laidMetH_of_parts3 (fuel := 8) (laidMet_of_run' 8 (by kernel_rfl) (by kernel_rfl)) (by kernel_rfl) (by kernel_rfl)
set_option maxRecDepth 100000 in
theorem law_lifted (os : Os) (started : os.Started) (H : Type) (enc : TypeId × Value → H) :
    ReturnsInHanded {} Tryd.checked os 3 .any (fun w args => (Rows.fnExactPrintSpec.pre enc Tryd.prog Tryd.f3 [] false w args ∧ laidMetH Tryd.prog laidL w) ∧ sizedMet enc Tryd.prog Tryd.f3 (OpenSpec.ofChange Rows.fnExactPrintSpec) false w args)
      (Rows.fnExactPrintSpec.post enc Tryd.prog Tryd.f3 false true false false) := by
  refine returnsInHanded_of_change_and (C := Tryd.checked) (X := fun w _ => laidMetH Tryd.prog laidL w) (fun _ _ _ hh h => h.of_heap hh) own started (by kernel_rfl) Tryd.func3
    (ChangeSpec.witness_shaped (enc := enc) (C := Tryd.checked) (os := os) (X := fun w _ => laidMetH Tryd.prog laidL w) false (World.doorLaid Tryd.prog 4000 os) #[.agg #[.slice none 0 0]] 8 rfl (World.shaped_of_RefB (by kernel_rfl) (by kernel_rfl)) (by kernel_rfl) (by kernel_rfl) (by kernel_rfl) (door_met os _)) ?_
  intro W base args ds gs before hval hW _ _ hL _
  have hW' := hW
  obtain ⟨p, q, hA0, hV, rfl, hfz, hnd⟩ := hW
  have hA : DataW.TrodAll enc Tryd.prog W 0 (fun _ => true) true Tryd.f3.params.toList args.toList ds p := hA0
  rw [Tryd.params3] at hA hval
  obtain ⟨v0, d0, rfl, rfl, h0⟩ := trodAll_one hA
  obtain ⟨y0, hy0, hv0⟩ := ent_agg (show (Tryd.prog.underlying 24).map isStructD = some true by kernel_rfl) (hval 0 24 v0 rfl rfl) rdProg h0
  have hlaw := (law_print y0 hy0).2.2.2 (FW W) ⟨fun _ => 0, fun _ => ⟨none, 0, 0⟩⟩ W #[v0] (glob_ok hL) (fun _ _ h => h) (SRel.nil _ _ _) rfl (fun j hj => by
    match j, hj with
    | 0, _ => exact hv0 _ _
    | j + 1, hj => exact absurd hj (by simp))
  refine hlaw.mono ?_
  rintro e W' ⟨F', η', σ', E, h1, h2, h3, h4, rfl⟩
  obtain ⟨_, _, _, _, _, _, _, _, _, _, _, _, rfl, _⟩ := trodVars_two hV
  cases e with
  | returned v =>
    have hv1 : v = .bool true := VRel.s_inv h4
    subst hv1
    exact ⟨_, rfl, post_true (by kernel_rfl) (by kernel_rfl) (by kernel_rfl) (by kernel_rfl) (show Tryd.prog.underlying 4 = some .bool by kernel_rfl) rfl hW' h1⟩
  | panicked c => exact h4.elim
  | outgrown => exact h4.elim
theorem law_row : Rows.FnExactPrintSaid :=
  OpenClaim.holds_of_wide 3 Tryd.f3 rfl rfl rfl rfl rfl rfl rfl ⟨rfl, rfl, rfl, rfl, rfl⟩ rfl rfl rfl rfl rfl (by kernel_rfl) Tryd.func3 (by kernel_rfl)
    (of_decide_eq_true (by kernel_rfl)) (by unfold Func.isWrapper; first | (rw [if_pos (by decide +kernel)]; kernel_rfl) | (rw [if_neg (by decide +kernel)]; exact ⟨rfl, rfl⟩))
    (fun os started H enc _ => law_lifted os started H enc)
theorem fnExactPrint_holds : Rows.FnExactPrintCardSaid :=
  Claim7.holds_tied_plain_at .later [] [.data, .data, .data, .mapped, .mapped] true (true, "207a0f4e7aca2848b6011316ee0f3a46031e729aa4b0b588feab72cd54dd7bef") false
    law_row (fun _ h => by cases h) (by kernel_rfl) (fun _ h => by cases h) fnExactPrint_row_tie rfl ⟨rfl, rfl⟩ (by kernel_rfl) rfl
    (fun f fn hf hfn => by
      obtain rfl : f = 3 := Option.some.inj ((show Tryd.prog.funcNamed "loop.example/s0043/laws.FnExactPrint" = some 3 by kernel_rfl).symm.trans hf) |>.symm
      obtain rfl : fn = Tryd.f3 := (Option.some.inj (Tryd.func3.symm.trans hfn)).symm
      exact ⟨by kernel_rfl, fun j t ht => by
        rw [Tryd.params3] at ht
        have hm : t ∈ [24] := by simpa using Array.mem_of_getElem? ht
        have hall : ([24].all fun u => !Tryd.prog.wantsStandIn u) = true := by kernel_rfl
        exact (show Tryd.prog.wantsStandIn t = false by simpa using List.all_eq_true.1 hall t hm)⟩)
    (by kernel_rfl)
#print axioms fnExactPrint_holds
end Go.Proofs.YtljgefnmbpmjmaaDoor
