/- The law FnExactPrintMachine answers true at every argument that it is called with: the program and the reference are one function there. Conditions: those of the row (the five listed variables hold what the program's text lays; the card ties them). -/
import Derived.Test.YtaabemmnjhgbgaaGreatDoorE1
import Derived.Test.YtaabemmnjhgbgaaGreatDoorD6
import Derived.Test.YtaabemmnjhgbgaaGreatDoorCards
import Derived.Test.YtaabemmnjhgbgaaGreatDoorTie
import Derived.SizedLaws
set_option linter.unusedVariables false
namespace Go.Proofs.YtaabemmnjhgbgaaGreatDoor
open Go.ChangeShapes Go.WideShapes Go.ChangeAt Go.WideMaps Go.WideElems Go.RowKit Go.Pm
theorem own : ownKnob Tryz.prog.godebug = none := by kernel_rfl
theorem door_met (os : Os) (args : Array Value) : laidMetH Tryz.prog laidL ((World.doorLaid Tryz.prog 4000 os).forCall (fun _ _ => 0) ⟨#[], args, []⟩).memory :=
  laidMetH_of_parts3 (fuel := 8) (laidMet_of_run' 8 (by kernel_rfl) (by kernel_rfl)) (by kernel_rfl) (by kernel_rfl)
set_option maxRecDepth 100000 in
theorem law_lifted (os : Os) (started : os.Started) (H : Type) (enc : TypeId × Value → H) :
    ReturnsInHanded {} Tryz.checked os 3 .any (fun w args => (Rows.fnExactPrintMachineSpec.pre enc Tryz.prog Tryz.f3 [] false w args ∧ laidMetH Tryz.prog laidL w) ∧ sizedMet enc Tryz.prog Tryz.f3 (OpenSpec.ofChange Rows.fnExactPrintMachineSpec) false w args)
      (Rows.fnExactPrintMachineSpec.post enc Tryz.prog Tryz.f3 false true false false) := by
  refine returnsInHanded_of_change_and (C := Tryz.checked) (X := fun w _ => laidMetH Tryz.prog laidL w) (fun _ _ _ hh h => h.of_heap hh) own started (by kernel_rfl) Tryz.func3
    (ChangeSpec.witness_shaped (enc := enc) (C := Tryz.checked) (os := os) (X := fun w _ => laidMetH Tryz.prog laidL w) false (World.doorLaid Tryz.prog 4000 os) #[.agg #[.slice none 0 0]] 8 rfl (World.shaped_of_RefB (by kernel_rfl) (by kernel_rfl)) (by kernel_rfl) (by kernel_rfl) (by kernel_rfl) (door_met os _)) ?_
  intro W base args ds gs before hval hW _ _ hL _
  have hW' := hW
  obtain ⟨p, q, hA0, hV, rfl, hfz, hnd⟩ := hW
  have hA : DataW.TrodAll enc Tryz.prog W 0 (fun _ => true) true Tryz.f3.params.toList args.toList ds p := hA0
  rw [Tryz.params3] at hA hval
  obtain ⟨v0, d0, rfl, rfl, h0⟩ := trodAll_one hA
  obtain ⟨y0, hy0, hv0⟩ := ent_agg (show (Tryz.prog.underlying 24).map isStructD = some true by kernel_rfl) (hval 0 24 v0 rfl rfl) rdMachine h0
  have hlaw := (law_print y0 hy0).2.2.2 (FW W) ⟨fun _ => 0, fun _ => ⟨none, 0, 0⟩⟩ W #[v0] (glob_ok hL) (fun _ _ h => h) (SRel.nil _ _ _) rfl (fun j hj => by
    match j, hj with
    | 0, _ => exact hv0 _ _
    | j + 1, hj => exact absurd hj (by simp))
  refine hlaw.mono ?_
  rintro e W' ⟨F', η', σ', E, h1, h2, h3, h4, rfl⟩
  obtain ⟨_, _, _, _, _, _, _, _, _, _, _, _, rfl, _⟩ := trodVars_two hV
  cases e with
  | returned v =>
    have hv1 : v = .bool true := VRel.s_inv h4
    subst hv1
    exact ⟨_, rfl, post_true (by kernel_rfl) (by kernel_rfl) (by kernel_rfl) (by kernel_rfl) (show Tryz.prog.underlying 4 = some .bool by kernel_rfl) rfl hW' h1⟩
  | panicked c => exact h4.elim
  | outgrown => exact h4.elim
theorem law_row : Rows.FnExactPrintMachineSaid :=
  OpenClaim.holds_of_wide 3 Tryz.f3 rfl rfl rfl rfl rfl rfl rfl ⟨rfl, rfl, rfl, rfl, rfl⟩ rfl rfl rfl rfl rfl (by kernel_rfl) Tryz.func3 (by kernel_rfl)
    (of_decide_eq_true (by kernel_rfl)) (by unfold Func.isWrapper; first | (rw [if_pos (by decide +kernel)]; kernel_rfl) | (rw [if_neg (by decide +kernel)]; exact ⟨rfl, rfl⟩))
    (fun os started H enc _ => law_lifted os started H enc)
theorem fnExactPrintMachine_holds : Rows.FnExactPrintMachineCardSaid :=
  Claim7.holds_tied_plain_at .later [] [.data, .data, .data, .mapped, .mapped] true (true, "b7f69f622f0961e82a242b1d000dcbb3bb0f08d12fded82f40b21231dba44295") false
    law_row (fun _ h => by cases h) (by kernel_rfl) (fun _ h => by cases h) fnExactPrintMachine_row_tie rfl ⟨rfl, rfl⟩ (by kernel_rfl) rfl
    (fun f fn hf hfn => by
      obtain rfl : f = 3 := Option.some.inj ((show Tryz.prog.funcNamed "loop.example/s0043/laws.FnExactPrintMachine" = some 3 by kernel_rfl).symm.trans hf) |>.symm
      obtain rfl : fn = Tryz.f3 := (Option.some.inj (Tryz.func3.symm.trans hfn)).symm
      exact ⟨by kernel_rfl, fun j t ht => by
        rw [Tryz.params3] at ht
        have hm : t ∈ [24] := by simpa using Array.mem_of_getElem? ht
        have hall : ([24].all fun u => !Tryz.prog.wantsStandIn u) = true := by kernel_rfl
        exact (show Tryz.prog.wantsStandIn t = false by simpa using List.all_eq_true.1 hall t hm)⟩)
    (by kernel_rfl)
#print axioms fnExactPrintMachine_holds
end Go.Proofs.YtaabemmnjhgbgaaGreatDoor
