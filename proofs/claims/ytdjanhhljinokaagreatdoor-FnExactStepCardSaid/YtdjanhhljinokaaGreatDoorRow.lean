/- Part of the proof: Rw1. -/
import Derived.Test.YtdjanhhljinokaaGreatDoorT12
import Derived.Test.YtdjanhhljinokaaGreatDoorT8
import Derived.Test.YtdjanhhljinokaaGreatDoorT29
import Derived.Test.YtdjanhhljinokaaGreatDoorCards
import Derived.Test.YtdjanhhljinokaaGreatDoorTie
import Derived.SizedLaws
set_option linter.unusedVariables false
set_option linter.unusedSimpArgs false
namespace Go.Proofs.YtdjanhhljinokaaGreatDoor
open Go.ChangeShapes Go.WideShapes Go.ChangeAt Go.WideMaps Go.WideElems Go.RowKit Go.Pm
theorem own:ownKnob Tryz.prog.godebug=none:=by kernel_rfl
def laidL {H:Type}:List (String×DataW H):=[("loop.example/s0043/impl.keywords",Rows.laid_loop_example_s0043_impl_keywords)]
theorem J9G (os:Os) (args:Array Value):laidMetH Tryz.prog laidL ((World.doorLaid Tryz.prog 4000 os).forCall (fun _ _=>0) ⟨#[],args,[]⟩).memory:=
 laidMetH_of_parts3 (fuel:=8) (laidMet_of_run' 8 (by kernel_rfl) (by kernel_rfl)) (by kernel_rfl) (by kernel_rfl)
set_option maxRecDepth 100000 in
theorem J80 (os:Os) (started:os.Started) (H:Type) (enc:TypeId×Value→H):
  ReturnsInHanded {} Tryz.checked os 3 .any (fun w args=>(Rows.fnExactStepSpec.pre enc Tryz.prog Tryz.f3 [] false w args∧laidMetH Tryz.prog laidL w)∧sizedMet enc Tryz.prog Tryz.f3 (OpenSpec.ofChange Rows.fnExactStepSpec) false w args)
   (Rows.fnExactStepSpec.post enc Tryz.prog Tryz.f3 false true false false):=by
 refine returnsInHanded_of_change_and (C:=Tryz.checked) (X:=fun w _=>laidMetH Tryz.prog laidL w) (fun _ _ _ hh h=>h.of_heap hh) own started (by kernel_rfl) Tryz.func3
  (ChangeSpec.witness_shaped (enc:=enc) (C:=Tryz.checked) (os:=os) (X:=fun w _=>laidMetH Tryz.prog laidL w) false (World.doorLaid Tryz.prog 4000 os) #[.agg #[.slice none 0 0],.int .i64 0,.slice none 0 0,.slice none 0 0] 8 rfl (World.shaped_of_RefB (by kernel_rfl) (by kernel_rfl)) (by kernel_rfl) (by kernel_rfl) (by kernel_rfl) (J9G os _)) ?_
 intro W base args ds gs before hval hW _ _ hL _
 have hW':=hW
 obtain⟨p,q,hA0,hV,rfl,hfz,hnd⟩:=hW
 have hA:DataW.TrodAll enc Tryz.prog W 0 (fun _=>true) true Tryz.f3.params.toList args.toList ds p:=hA0
 rw[Tryz.params3]at hA hval
 obtain⟨v0,v1,v2,v3,d0,d1,d2,d3,p0,p1,p2,p3,rfl,rfl,rfl,h0,h1,h2,h3⟩:=trodAll_four hA
 obtain⟨y1,rfl,rfl,rfl,hy1⟩:=open_int (show Tryz.prog.underlying 3=some (.int .i64) by kernel_rfl) (hval 1 3 v1 rfl rfl) h1
 obtain⟨y0,hy0,hv0⟩:=JbP (show(Tryz.prog.underlying 24).map isStructD=some true by kernel_rfl) (hval 0 24 v0 rfl rfl) rdMachine h0
 obtain⟨y2,hy2,hv2⟩:=Jaj (show Tryz.prog.underlying 25=some (.slice 3) by kernel_rfl) (hval 2 25 v2 rfl rfl) rdNums h2
 obtain⟨y3,hy3,hv3⟩:=Jaj (show Tryz.prog.underlying 25=some (.slice 3) by kernel_rfl) (hval 3 25 v3 rfl rfl) rdNums h3
 have hlaw:=(Ja9 y0 y1 y2 y3 hy0).2.2.2 (FW W) ⟨fun _=>0,fun _=>⟨none,0,0⟩⟩ W #[v0,.int .i64 y1,v2,v3] (Jbu hL) (fun _ _ h=>h) (SRel.nil _ _ _) rfl (fun j hj=>by
  match j,hj with
  |0,_=>exact hv0 _ _
  |1,_=>exact .d (.s _)
  |2,_=>exact hv2 _ _
  |3,_=>exact hv3 _ _
  |j+4,hj=>exact absurd hj (by simp))
 refine hlaw.mono ?_
 rintro e W' ⟨F',η',σ',E,h1,h2,h3,h4,rfl⟩
 obtain⟨g1,_,_,_,_,_,rfl,_⟩:=trodVars_one hV
 cases e with
 |returned v=>
  have hv1:v=.bool true:=VRel.s_inv h4
  subst hv1
  exact⟨_,rfl,J9h (by kernel_rfl) (by kernel_rfl) (by kernel_rfl) (by kernel_rfl) (show Tryz.prog.underlying 4=some .bool by kernel_rfl) rfl hW' h1⟩
 |panicked c=>exact h4.elim
 |outgrown=>exact h4.elim
theorem Jb8:Rows.FnExactStepSaid:=
 OpenClaim.holds_of_wide 3 Tryz.f3 rfl rfl rfl rfl rfl rfl rfl ⟨rfl,rfl,rfl,rfl,rfl⟩ rfl rfl rfl rfl rfl (by kernel_rfl) Tryz.func3 (by kernel_rfl)
  (of_decide_eq_true (by kernel_rfl)) (by unfold Func.isWrapper;first|(rw[if_pos (by decide +kernel)];kernel_rfl)|(rw[if_neg (by decide +kernel)];exact⟨rfl,rfl⟩))
  (fun os started H enc _=>J80 os started H enc)
theorem fnExactStep_holds:Rows.FnExactStepCardSaid:=
 Claim7.holds_tied_plain_at .later [] [.mapped] true (true,"8170006a64137c9a0d95ca1be39c5f04309760810f47a76fa469645947e48719") true
  Jb8 (fun _ h=>by cases h) (by kernel_rfl) (fun _ h=>by cases h) fnExactStep_row_tie rfl ⟨rfl,rfl⟩ (by kernel_rfl) rfl
  (fun f fn hf hfn=>by
   obtain rfl:f=3:=Option.some.inj ((show Tryz.prog.funcNamed "loop.example/s0043/laws.FnExactStep"=some 3 by kernel_rfl).symm.trans hf) |>.symm
   obtain rfl:fn=Tryz.f3:=(Option.some.inj (Tryz.func3.symm.trans hfn)).symm
   exact⟨by kernel_rfl,fun j t ht=>by
    rw[Tryz.params3]at ht
    have hm:t∈[24,3,25,25]:=by simpa using Array.mem_of_getElem? ht
    have hall:([24,3,25,25].all fun u=>!Tryz.prog.wantsStandIn u)=true:=by kernel_rfl
    exact(show Tryz.prog.wantsStandIn t=false by simpa using List.all_eq_true.1 hall t hm)⟩)
  (by kernel_rfl)
#print axioms fnExactStep_holds
end Go.Proofs.YtdjanhhljinokaaGreatDoor
