/- The law FnExactReset answers true at every argument that it is called with: the program and the reference are one function there. Conditions: those of the row (the listed variable impl.keywords holds what the program's text lays; the card ties it). -/
import Derived.Test.YtdjanhhljinokaaDoorT9
import Derived.Test.YtdjanhhljinokaaDoorT17
import Derived.Test.YtdjanhhljinokaaDoorCards
import Derived.Test.YtdjanhhljinokaaDoorTie
import Derived.SizedLaws
set_option linter.unusedVariables false
namespace Go.Proofs.YtdjanhhljinokaaDoor
open Go.ChangeShapes Go.WideShapes Go.ChangeAt Go.WideMaps Go.WideElems Go.RowKit Go.Pm
theorem own : ownKnob Tryd.prog.godebug = none := by kernel_rfl
def laidL {H : Type} : List (String × DataW H) := [("loop.example/s0043/impl.keywords", Rows.laid_loop_example_s0043_impl_keywords)]
theorem door_met (os : Os) (args : Array Value) : laidMetH Tryd.prog laidL ((World.doorLaid Tryd.prog 4000 os).forCall (fun _ _ => 0) ⟨#[], args, []⟩).memory :=
  laidMetH_of_parts3 (fuel := 8) (laidMet_of_run' 8 (by kernel_rfl) (by kernel_rfl)) (by kernel_rfl) (by kernel_rfl)
set_option maxRecDepth 100000 in
theorem law_lifted (os : Os) (started : os.Started) (H : Type) (enc : TypeId × Value → H) :
    ReturnsInHanded {} Tryd.checked os 3 .any (fun w args => (Rows.fnExactResetSpec.pre enc Tryd.prog Tryd.f3 [] false w args ∧ laidMetH Tryd.prog laidL w) ∧ sizedMet enc Tryd.prog Tryd.f3 (OpenSpec.ofChange Rows.fnExactResetSpec) false w args)
      (Rows.fnExactResetSpec.post enc Tryd.prog Tryd.f3 false true false false) := by
  refine returnsInHanded_of_change_and (C := Tryd.checked) (X := fun w _ => laidMetH Tryd.prog laidL w) (fun _ _ _ hh h => h.of_heap hh) own started (by kernel_rfl) Tryd.func3
    (ChangeSpec.witness_shaped (enc := enc) (C := Tryd.checked) (os := os) (X := fun w _ => laidMetH Tryd.prog laidL w) false (World.doorLaid Tryd.prog 4000 os) #[.agg #[.slice none 0 0], .int .i64 0] 8 rfl (World.shaped_of_RefB (by kernel_rfl) (by kernel_rfl)) (by kernel_rfl) (by kernel_rfl) (by kernel_rfl) (door_met os _)) ?_
  intro W base args ds gs before hval hW _ _ hL _
  have hW' := hW
  obtain ⟨p, q, hA0, hV, rfl, hfz, hnd⟩ := hW
  have hA : DataW.TrodAll enc Tryd.prog W 0 (fun _ => true) true Tryd.f3.params.toList args.toList ds p := hA0
  rw [Tryd.params3] at hA hval
  obtain ⟨v0, v1, d0, d1, p0, p1, rfl, rfl, rfl, h0, h1⟩ := trodAll_two hA
  obtain ⟨y1, rfl, rfl, rfl, hy1⟩ := open_int (show Tryd.prog.underlying 3 = some (.int .i64) by kernel_rfl) (hval 1 3 v1 rfl rfl) h1
  obtain ⟨y0, hy0, hv0⟩ := ent_agg (show (Tryd.prog.underlying 24).map isStructD = some true by kernel_rfl) (hval 0 24 v0 rfl rfl) rdMachine h0
  have hlaw := (law_reset y0 y1 hy0).2.2.2 (FW W) ⟨fun _ => 0, fun _ => ⟨none, 0, 0⟩⟩ W #[v0, .int .i64 y1] (glob_ok hL) (fun _ _ h => h) (SRel.nil _ _ _) rfl (fun j hj => by
    match j, hj with
    | 0, _ => exact hv0 _ _
    | 1, _ => exact .d (.s _)
    | j + 2, hj => exact absurd hj (by simp))
  refine hlaw.mono ?_
  rintro e W' ⟨F', η', σ', E, h1, h2, h3, h4, rfl⟩
  obtain ⟨g1, _, _, _, _, _, rfl, _⟩ := trodVars_one hV
  cases e with
  | returned v =>
    have hv1 : v = .bool true := VRel.s_inv h4
    subst hv1
    exact ⟨_, rfl, post_true (by kernel_rfl) (by kernel_rfl) (by kernel_rfl) (by kernel_rfl) (show Tryd.prog.underlying 4 = some .bool by kernel_rfl) rfl hW' h1⟩
  | panicked c => exact h4.elim
  | outgrown => exact h4.elim
theorem law_row : Rows.FnExactResetSaid :=
  OpenClaim.holds_of_wide 3 Tryd.f3 rfl rfl rfl rfl rfl rfl rfl ⟨rfl, rfl, rfl, rfl, rfl⟩ rfl rfl rfl rfl rfl (by kernel_rfl) Tryd.func3 (by kernel_rfl)
    (of_decide_eq_true (by kernel_rfl)) (by unfold Func.isWrapper; first | (rw [if_pos (by decide +kernel)]; kernel_rfl) | (rw [if_neg (by decide +kernel)]; exact ⟨rfl, rfl⟩))
    (fun os started H enc _ => law_lifted os started H enc)
theorem fnExactReset_holds : Rows.FnExactResetCardSaid :=
  Claim7.holds_tied_plain_at .later [] [.mapped] true (true, "84af7cc701867198999524147ec86d83012459d3598b125a95324a161c92df97") false
    law_row (fun _ h => by cases h) (by kernel_rfl) (fun _ h => by cases h) fnExactReset_row_tie rfl ⟨rfl, rfl⟩ (by kernel_rfl) rfl
    (fun f fn hf hfn => by
      obtain rfl : f = 3 := Option.some.inj ((show Tryd.prog.funcNamed "loop.example/s0043/laws.FnExactReset" = some 3 by kernel_rfl).symm.trans hf) |>.symm
      obtain rfl : fn = Tryd.f3 := (Option.some.inj (Tryd.func3.symm.trans hfn)).symm
      exact ⟨by kernel_rfl, fun j t ht => by
        rw [Tryd.params3] at ht
        have hm : t ∈ [24, 3] := by simpa using Array.mem_of_getElem? ht
        have hall : ([24, 3].all fun u => !Tryd.prog.wantsStandIn u) = true := by kernel_rfl
        exact (show Tryd.prog.wantsStandIn t = false by simpa using List.all_eq_true.1 hall t hm)⟩)
    (by kernel_rfl)
#print axioms fnExactReset_holds
end Go.Proofs.YtdjanhhljinokaaDoor
