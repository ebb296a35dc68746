/- The law FnExactFuse answers true at every argument that it is called with: the program and the reference are one function there. Conditions: those of the row (the listed variable impl.keywords holds what the program text lays; the card ties it). -/
import Derived.Test.YtdjanhhljinokaaGreatDoorT14
import Derived.Test.YtdjanhhljinokaaGreatDoorT30
import Derived.Test.YtdjanhhljinokaaGreatDoorCards
import Derived.Test.YtdjanhhljinokaaGreatDoorTie
import Derived.SizedLaws
set_option linter.unusedVariables false
set_option linter.unusedSimpArgs false
namespace Go.Proofs.YtdjanhhljinokaaGreatDoor
open Go.ChangeShapes Go.WideShapes Go.ChangeAt Go.WideMaps Go.WideElems Go.RowKit Go.Pm
theorem own:ownKnob Tryz.prog.godebug=none:=by kernel_rfl
def laidL {H:Type}:List (String×DataW H):=[("loop.example/s0043/impl.keywords",Rows.laid_loop_example_s0043_impl_keywords)]
theorem J9x (os:Os) (args:Array Value):laidMetH Tryz.prog laidL ((World.doorLaid Tryz.prog 4000 os).forCall (fun _ _=>0) ⟨#[],args,[]⟩).memory:=
 laidMetH_of_parts3 (fuel:=8) (laidMet_of_run' 8 (by kernel_rfl) (by kernel_rfl)) (by kernel_rfl) (by kernel_rfl)
set_option maxRecDepth 100000 in
theorem J7q (os:Os) (started:os.Started) (H:Type) (enc:TypeId×Value→H):
  ReturnsInHanded {} Tryz.checked os 4 .any (fun w args=>(Rows.fnExactFuseSpec.pre enc Tryz.prog Tryz.f4 [] false w args∧laidMetH Tryz.prog laidL w)∧sizedMet enc Tryz.prog Tryz.f4 (OpenSpec.ofChange Rows.fnExactFuseSpec) false w args)
   (Rows.fnExactFuseSpec.post enc Tryz.prog Tryz.f4 false true false false):=by
 refine returnsInHanded_of_change_and (C:=Tryz.checked) (X:=fun w _=>laidMetH Tryz.prog laidL w) (fun _ _ _ hh h=>h.of_heap hh) own started (by kernel_rfl) Tryz.func4
  (ChangeSpec.witness_shaped (enc:=enc) (C:=Tryz.checked) (os:=os) (X:=fun w _=>laidMetH Tryz.prog laidL w) false (World.doorLaid Tryz.prog 4000 os) #[.agg #[.slice none 0 0]] 8 rfl (World.shaped_of_RefB (by kernel_rfl) (by kernel_rfl)) (by kernel_rfl) (by kernel_rfl) (by kernel_rfl) (J9x os _)) ?_
 intro W base args ds gs before hval hW _ _ hL _
 have hW':=hW
 obtain⟨p,q,hA0,hV,rfl,hfz,hnd⟩:=hW
 have hA:DataW.TrodAll enc Tryz.prog W 0 (fun _=>true) true Tryz.f4.params.toList args.toList ds p:=hA0
 rw[Tryz.params4]at hA hval
 obtain⟨v0,d0,rfl,rfl,h0⟩:=trodAll_one hA
 obtain⟨y0,hy0,hv0⟩:=Jbc (show(Tryz.prog.underlying 24).map isStructD=some true by kernel_rfl) (hval 0 24 v0 rfl rfl) rdMachine h0
 have hlaw:=(J8Y y0 hy0).2.2.2 (FW W) ⟨fun _=>0,fun _=>⟨none,0,0⟩⟩ W #[v0] (Jbh hL) (fun _ _ h=>h) (SRel.nil _ _ _) rfl (fun j hj=>by
  match j,hj with
  |0,_=>exact hv0 _ _
  |j+1,hj=>exact absurd hj (by simp))
 refine hlaw.mono ?_
 rintro e W' ⟨F',η',σ',E,h1,h2,h3,h4,rfl⟩
 obtain⟨g1,_,_,_,_,_,rfl,_⟩:=trodVars_one hV
 cases e with
 |returned v=>
  have hv1:v=.bool true:=VRel.s_inv h4
  subst hv1
  exact⟨_,rfl,J8e (by kernel_rfl) (by kernel_rfl) (by kernel_rfl) (by kernel_rfl) (show Tryz.prog.underlying 4=some .bool by kernel_rfl) rfl hW' h1⟩
 |panicked c=>exact h4.elim
 |outgrown=>exact h4.elim
theorem JaJ:Rows.FnExactFuseSaid:=
 OpenClaim.holds_of_wide 4 Tryz.f4 rfl rfl rfl rfl rfl rfl rfl ⟨rfl,rfl,rfl,rfl,rfl⟩ rfl rfl rfl rfl rfl (by kernel_rfl) Tryz.func4 (by kernel_rfl)
  (of_decide_eq_true (by kernel_rfl)) (by unfold Func.isWrapper;first|(rw[if_pos (by decide +kernel)];kernel_rfl)|(rw[if_neg (by decide +kernel)];exact⟨rfl,rfl⟩))
  (fun os started H enc _=>J7q os started H enc)
theorem fnExactFuse_holds:Rows.FnExactFuseCardSaid:=
 Claim7.holds_tied_plain_at .later [] [.mapped] true (true,"8170006a64137c9a0d95ca1be39c5f04309760810f47a76fa469645947e48719") true
  JaJ (fun _ h=>by cases h) (by kernel_rfl) (fun _ h=>by cases h) fnExactFuse_row_tie rfl ⟨rfl,rfl⟩ (by kernel_rfl) rfl
  (fun f fn hf hfn=>by
   obtain rfl:f=4:=Option.some.inj ((show Tryz.prog.funcNamed "loop.example/s0043/laws.FnExactFuse"=some 4 by kernel_rfl).symm.trans hf) |>.symm
   obtain rfl:fn=Tryz.f4:=(Option.some.inj (Tryz.func4.symm.trans hfn)).symm
   exact⟨by kernel_rfl,fun j t ht=>by
    rw[Tryz.params4]at ht
    have hm:t∈[24]:=by simpa using Array.mem_of_getElem? ht
    have hall:([24].all fun u=>!Tryz.prog.wantsStandIn u)=true:=by kernel_rfl
    exact(show Tryz.prog.wantsStandIn t=false by simpa using List.all_eq_true.1 hall t hm)⟩)
  (by kernel_rfl)
#print axioms fnExactFuse_holds
end Go.Proofs.YtdjanhhljinokaaGreatDoor
