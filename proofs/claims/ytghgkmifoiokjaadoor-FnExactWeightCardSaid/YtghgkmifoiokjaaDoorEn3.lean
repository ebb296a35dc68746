/- The readings of this seat's types, and its listed variables. -/
import Derived.Test.YtghgkmifoiokjaaDoorEn2
import Derived.Test.YtghgkmifoiokjaaDoorCf
import Derived.MakeChecks
import Derived.Test.YtghgkmifoiokjaaDoorRows
set_option linter.unusedVariables false
set_option linter.unusedSimpArgs false
namespace Go.Pm
open Go.Proofs
section
variable {H : Type} {en : TypeId × Value → H} {w : World} {base : Nat} {spare : Nat → Bool} {held : Bool}
theorem rdStr : Rd en Tryd.prog w base spare held 9 eStr dStr := rd_map id (fun _ => rfl) (fun _ h => h) (rd_string (by kernel_rfl))
theorem rdStrs : Rd en Tryd.prog w base spare held 47 (fun l : List ByteArray => [.im (l.map eStr)]) (dL dStr) := rd_map id (fun _ => rfl) (fun _ h => h) (rd_slice (sz := 1) (by kernel_rfl) rdStr (by kernel_rfl) (by decide) (fun _ => rfl))
theorem rdInt : Rd en Tryd.prog w base spare held 3 (fun n : Int => [.s (.int .i64 n)]) (fun _ => True) := rd_int (by kernel_rfl)
theorem rdBool : Rd en Tryd.prog w base spare held 4 (fun b : Bool => [.s (.bool b)]) (fun _ => True) := rd_bool (by kernel_rfl)
theorem rdCnd : Rd en Tryd.prog w base spare held 114 eCnd dCnd :=
  rd_map (fun p : ByteArray × Bool × Unit => (⟨p.1, p.2.1⟩ : Cnd)) (fun _ => rfl) (fun _ h => h.1)
    (rd_structG (n := 2) (by kernel_rfl) (by kernel_rfl) (fun _ => rfl) (rdG_cons 1 rdStr (fun _ => rfl) (rdG_cons 1 rdBool (fun _ => rfl) rdG_nil)))
theorem rdItm : Rd en Tryd.prog w base spare held 116 eItm dItm :=
  rd_map (fun p : Int × Int × ByteArray × Unit => (⟨p.1, p.2.1, p.2.2.1⟩ : Itm)) (fun _ => rfl) (fun _ h => h.2.2.1)
    (rd_structG (n := 3) (by kernel_rfl) (by kernel_rfl) (fun _ => rfl) (rdG_cons 1 rdInt (fun _ => rfl) (rdG_cons 1 rdInt (fun _ => rfl) (rdG_cons 1 rdStr (fun _ => rfl) rdG_nil))))
theorem rdCnds : Rd en Tryd.prog w base spare held 89 (fun l : List Cnd => [.im (l.map eCnd)]) (dL dCnd) := rd_map id (fun _ => rfl) (fun _ h => h) (rd_slice (sz := 2) (by kernel_rfl) rdCnd (by kernel_rfl) (by decide) (fun _ => rfl))
theorem rdItms : Rd en Tryd.prog w base spare held 93 eItms (dL dItm) := rd_map id (fun _ => rfl) (fun _ h => h) (rd_slice (sz := 3) (by kernel_rfl) rdItm (by kernel_rfl) (by decide) (fun _ => rfl))
theorem rdItmss : Rd en Tryd.prog w base spare held 94 (fun l : List (List Itm) => [.im (l.map eItms)]) (dL (dL dItm)) := rd_map id (fun _ => rfl) (fun _ h => h) (rd_slice (sz := 1) (by kernel_rfl) rdItms (by kernel_rfl) (by decide) (fun _ => rfl))
theorem rdVr : Rd en Tryd.prog w base spare held 91 eVr dVr :=
  rd_map (fun p : ByteArray × Int × List Cnd × Unit => (⟨p.1, p.2.1, p.2.2.1⟩ : Vr)) (fun _ => rfl) (fun _ h => ⟨h.1, h.2.2.1⟩)
    (rd_structG (n := 3) (by kernel_rfl) (by kernel_rfl) (fun _ => rfl) (rdG_cons 1 rdStr (fun _ => rfl) (rdG_cons 1 rdInt (fun _ => rfl) (rdG_cons 1 rdCnds (fun _ => rfl) rdG_nil))))
theorem rdVrs : Rd en Tryd.prog w base spare held 60 (fun l : List Vr => [.im (l.map eVr)]) (dL dVr) := rd_map id (fun _ => rfl) (fun _ h => h) (rd_slice (sz := 3) (by kernel_rfl) rdVr (by kernel_rfl) (by decide) (fun _ => rfl))
theorem rdEqn : Rd en Tryd.prog w base spare held 96 eEqn dEqn :=
  rd_map (fun p : List ByteArray × List Itm × ByteArray × List (List Itm) × Unit => (⟨p.1, p.2.1, p.2.2.1, p.2.2.2.1⟩ : Eqn)) (fun _ => rfl) (fun _ h => ⟨h.1, h.2.1, h.2.2.1, h.2.2.2.1⟩)
    (rd_structG (n := 4) (by kernel_rfl) (by kernel_rfl) (fun _ => rfl) (rdG_cons 1 rdStrs (fun _ => rfl) (rdG_cons 1 rdItms (fun _ => rfl) (rdG_cons 1 rdStr (fun _ => rfl) (rdG_cons 1 rdItmss (fun _ => rfl) rdG_nil)))))
theorem rdEqns : Rd en Tryd.prog w base spare held 61 (fun l : List Eqn => [.im (l.map eEqn)]) (dL dEqn) := rd_map id (fun _ => rfl) (fun _ h => h) (rd_slice (sz := 4) (by kernel_rfl) rdEqn (by kernel_rfl) (by decide) (fun _ => rfl))
theorem rdNod : Rd en Tryd.prog w base spare held 63 eNod dNod :=
  rd_map (fun p : ByteArray × List Vr × List Vr × List Vr × List Eqn × Unit => (⟨p.1, p.2.1, p.2.2.1, p.2.2.2.1, p.2.2.2.2.1⟩ : Nod)) (fun _ => rfl) (fun _ h => ⟨h.1, h.2.1, h.2.2.1, h.2.2.2.1, h.2.2.2.2.1⟩)
    (rd_structG (n := 5) (by kernel_rfl) (by kernel_rfl) (fun _ => rfl) (rdG_cons 1 rdStr (fun _ => rfl) (rdG_cons 1 rdVrs (fun _ => rfl) (rdG_cons 1 rdVrs (fun _ => rfl) (rdG_cons 1 rdVrs (fun _ => rfl) (rdG_cons 1 rdEqns (fun _ => rfl) rdG_nil))))))
theorem rdNods : Rd en Tryd.prog w base spare held 22 (fun l : List Nod => [.im (l.map eNod)]) (dL dNod) := rd_map id (fun _ => rfl) (fun _ h => h) (rd_slice (sz := 5) (by kernel_rfl) rdNod (by kernel_rfl) (by decide) (fun _ => rfl))
theorem rdProg : Rd en Tryd.prog w base spare held 24 (fun l : List Nod => [.im (l.map eNod)]) (dL dNod) :=
  rd_map (fun p : List Nod × Unit => p.1) (fun _ => rfl) (fun _ h => h.1)
    (rd_structG (n := 1) (by kernel_rfl) (by kernel_rfl) (fun _ => rfl) (rdG_cons 1 rdNods (fun _ => rfl) rdG_nil))
end
def kwLaid : List (Lit × DataW Unit) := mapEnts YtghgkmifoiokjaaDoor.Rows.laid_loop_example_s0043_impl_keywords
theorem kw_lit : litMap kwLaid = wordMap kwS := by kernel_rfl
theorem kw_fit : ((litMap kwLaid).all fun y => keyFit .string y.1) = true := by kernel_rfl
theorem kw_dist : distB ((litMap kwLaid).map (·.1)) = true := by kernel_rfl
theorem glob_ok {W : World} (h : laidMetH Tryd.prog [("loop.example/s0043/impl.keywords", YtghgkmifoiokjaaDoor.Rows.laid_loop_example_s0043_impl_keywords)] W) : GRel X (FW W) := by
  rw [MakeChecks.laidMetH_plain _ _ _ (by kernel_rfl)] at h
  obtain ⟨ps, ⟨g0, t0, cs0, f0, p0, q0, hg0, ht0, hv0, hd0, _, _⟩, _, _⟩ := h
  have ht : t0 = 69 := (Option.some.inj ((show (Tryd.prog.globals[0]?).map (·.type) = some 69 by kernel_rfl).symm.trans (by rw [← Option.some.inj ((show Tryd.prog.globalNamed "loop.example/s0043/impl.keywords" = some 0 by kernel_rfl).symm.trans hg0)] at ht0; exact ht0))).symm
  subst ht
  obtain ⟨v, hc, ho, hx⟩ := ent_map (kk := .string) (k := 9) (e := 4) (by kernel_rfl) (.inl (by kernel_rfl)) (.inl (by kernel_rfl)) kw_fit kw_dist (show DataW.trod _ _ _ _ _ _ _ _ _ = some (.map kwLaid, p0) from hd0)
  rw [kw_lit] at hx
  have key := ent_var hg0 (show Tryd.prog.globalNamed "loop.example/s0043/impl.keywords" = some 0 by kernel_rfl) hv0 hc ho hx
  intro g cells hg
  simp only [X_G, gl] at hg
  split at hg
  · rename_i hg'
    subst hg'
    cases hg
    exact key
  · cases hg
end Go.Pm
