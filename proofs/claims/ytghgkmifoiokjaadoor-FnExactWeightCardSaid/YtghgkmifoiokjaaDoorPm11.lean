/- The abstract machine, eleventh text: contracts of functions that only compute, and the simp rules of the machine. -/
import Derived.Test.YtghgkmifoiokjaaDoorPm10
set_option linter.unusedVariables false
set_option linter.unusedSimpArgs false
namespace Go.Pm

/-- Nothing that was there has been turned. -/
def Kept (σ σ' : St) : Prop := ∀ i, i < σ.next → σ'.obj i = σ.obj i
theorem Kept.refl (σ : St) : Kept σ σ := fun _ _ => rfl

/-- The call gives this datum, and nothing else happens. -/
def Pure (X : Cfg) (f : FuncId) (args : List AV) (x : D) : Prop := ∀ σ, AFun X f args σ fun E σ' => E = .ret (.d x) ∧ σ' = σ

/-- What is asked at the end of a body, the results' places known. -/
def endQ (X : Cfg) (rs : List ResultVar) (K : AEnd → St → Prop) : Exit → Env → St → Prop
  | .normal, env, σ => ares σ X env (fun r σ => K (.ret r) σ) rs []
  | .ret, env, σ => ares σ X env (fun r σ => K (.ret r) σ) rs []
  | .panic ch, env, σ => K (.pan ch) σ
  | _, _, _ => False

theorem afun_of {X : Cfg} {f : FuncId} {fn : Func} {c : Code} {nt : Nat} {rs : Array ResultVar} {args : List AV} {σ : St} {K : AEnd → St → Prop} (hf : X.P.funcs[f]? = some fn) (hb : fn.body = some c)
    (hn : (fn.name == "runtime.NumGoroutine") = false) (hnt : fn.ntmps = nt) (hrs : fn.results = rs) (hle : args.length ≤ nt) (h : Ok X nt c (endQ X rs.toList K) (env0 args) σ) : AFun X f args σ K := by
  subst hnt
  subst hrs
  exact afun_intro hf hb hn hle h

theorem pure_of {X : Cfg} {f : FuncId} {fn : Func} {c : Code} {nt : Nat} {rs : Array ResultVar} {args : List AV} {x : D} (hf : X.P.funcs[f]? = some fn) (hb : fn.body = some c)
    (hn : (fn.name == "runtime.NumGoroutine") = false) (hnt : fn.ntmps = nt) (hrs : fn.results = rs) (hle : args.length ≤ nt)
    (h : ∀ σ, Ok X nt c (endQ X rs.toList fun E σ' => E = .ret (.d x) ∧ Kept σ σ') (env0 args) σ) : Pure X f args x :=
  fun σ => AFun.forget ((afun_of hf hb hn hnt hrs hle (h σ)).mono fun E σ' ⟨h1, h2⟩ => ⟨x, h1, h2, rfl, rfl⟩)

/-- A call of a function that only computes. -/
theorem Pure.go {X : Cfg} {f : FuncId} {args : List AV} {x : D} (h : Pure X f args x) {σ : St} {env : Env} {Q : Exit → Env → St → Prop} {K : AV → St → Prop} (hk : K (.d x) σ) : acall X f args σ env Q K :=
  (h σ).mono fun E σ' ⟨h1, h2⟩ => by subst h1; subst h2; exact hk

/-- Values under short names. -/
@[reducible] def vi (n : Int) : AV := .d (.s (.int .i64 n))
@[reducible] def vb (b : Bool) : AV := .d (.s (.bool b))
@[reducible] def vs (s : ByteArray) : AV := .d (.s (.string s))

theorem ok_region_k {X : Cfg} {nt : Nat} {id : Nat} {ops : List Oper} {K : Env → St → Prop} {Q : Exit → Env → St → Prop} {env : Env} {σ : St}
    (h : areg X nt ops (andThen K Q) ops env σ) : Ok X nt (.region id ops.toArray false) (andThen K Q) env σ := ok_region h

theorem ok_cond' {X : Cfg} {nt : Nat} {Q : Exit → Env → St → Prop} {env : Env} {σ : St} {c : Operand} {x y : Code} {b : Bool} (hb : aev X env c = .d (.s (.bool b)))
    (h1 : b = true → Ok X nt x Q env σ) (h2 : b = false → Ok X nt y Q env σ) : Ok X nt (.cond c x y) Q env σ := ok_cond ⟨b, hb, h1, h2⟩

/-- The place that an operation's guard looks at. -/
def gd (ops : List Oper) (j : Nat) : Nat := ((ops[j]?).bind (·.dst)).getD 0

section regs
variable {X : Cfg} {nt : Nat} {ops rest : List Oper} {Q : Exit → Env → St → Prop} {env : Env} {σ : St} {dst : Option Tmp} {op : Op} {ty : TypeId} {pos : String} {after : Array Edge} {j : Nat} {want : Bool}
theorem areg_nil : areg X nt ops Q [] env σ = Q .normal env σ := rfl
theorem areg_none : areg X nt ops Q (⟨dst, op, ty, pos, after, none⟩ :: rest) env σ = (dst.all (· < nt) = true ∧ aoper X op env σ Q fun v σ' => areg X nt ops Q rest (put env dst v) σ') := rfl
theorem areg_bool {b : Bool} (hj : ((ops[j]?).bind (·.dst)).isSome = true) (hn : gd ops j < nt) (hb : env (gd ops j) = .d (.s (.bool b))) :
    areg X nt ops Q (⟨dst, op, ty, pos, after, some (j, want)⟩ :: rest) env σ = (dst.all (· < nt) = true ∧ if b = want then aoper X op env σ Q fun v σ' => areg X nt ops Q rest (put env dst v) σ' else areg X nt ops Q rest (put env dst (.d (.s undef))) σ) := by
  obtain ⟨d, hd⟩ := Option.isSome_iff_exists.1 hj
  have hgd : gd ops j = d := by simp [gd, hd]
  rw [hgd] at hn hb
  simp only [areg, hd, hn, true_and, hb]
  cases b <;> cases want <;> simp
theorem areg_true (hj : ((ops[j]?).bind (·.dst)).isSome = true) (hn : gd ops j < nt) (hb : env (gd ops j) = .d (.s (.bool true))) :
    areg X nt ops Q (⟨dst, op, ty, pos, after, some (j, want)⟩ :: rest) env σ = (dst.all (· < nt) = true ∧ if want = true then aoper X op env σ Q fun v σ' => areg X nt ops Q rest (put env dst v) σ' else areg X nt ops Q rest (put env dst (.d (.s undef))) σ) := by
  rw [areg_bool hj hn hb]; cases want <;> rfl
theorem areg_false (hj : ((ops[j]?).bind (·.dst)).isSome = true) (hn : gd ops j < nt) (hb : env (gd ops j) = .d (.s (.bool false))) :
    areg X nt ops Q (⟨dst, op, ty, pos, after, some (j, want)⟩ :: rest) env σ = (dst.all (· < nt) = true ∧ if want = true then areg X nt ops Q rest (put env dst (.d (.s undef))) σ else aoper X op env σ Q fun v σ' => areg X nt ops Q rest (put env dst v) σ') := by
  rw [areg_bool hj hn hb]; cases want <;> rfl
theorem areg_undef (hj : ((ops[j]?).bind (·.dst)).isSome = true) (hn : gd ops j < nt) (hb : env (gd ops j) = .d (.s undef)) :
    areg X nt ops Q (⟨dst, op, ty, pos, after, some (j, want)⟩ :: rest) env σ = (dst.all (· < nt) = true ∧ areg X nt ops Q rest (put env dst (.d (.s undef))) σ) := by
  obtain ⟨d, hd⟩ := Option.isSome_iff_exists.1 hj
  have hgd : gd ops j = d := by simp [gd, hd]
  rw [hgd] at hn hb
  simp only [areg, hd, hn, true_and, hb]
  rfl
/-- A guard that is not decided: both ways. -/
theorem areg_split {d : Nat} {b : Bool} (hd : gd ops j = d) (hb : env d = .d (.s (.bool b))) (h1 : b = true → areg X nt ops Q (⟨dst, op, ty, pos, after, some (j, want)⟩ :: rest) env σ)
    (h2 : b = false → areg X nt ops Q (⟨dst, op, ty, pos, after, some (j, want)⟩ :: rest) env σ) : areg X nt ops Q (⟨dst, op, ty, pos, after, some (j, want)⟩ :: rest) env σ := by
  cases b
  · exact h2 rfl
  · exact h1 rfl
end regs

attribute [simp] gd areg_nil areg_none areg_true areg_false areg_undef
attribute [simp] put_some put_none St.obj_alloc St.next_alloc St.obj_set St.next_set St.obj_bump St.next_bump obj_bumpSet next_bumpSet
attribute [simp] aoper aop aev acallee abinop abin aunop aextract amakeFunc abuiltin aminmax anil alen abox aalloc aload astore afieldAddr afield aslice optInt aindexAddr aindex alookup amakeMap amapUpdate
  behind piece isAggK splice AV.cells AV.one Value.oneCell' zrow rowsOf srcOf entriesOf kindOfMap keyFit azero aeq eqPlain eqFlds fillA places abuild fillRows abuildSlice amakeSlice aappend aconvert amakeInterface
  ares andThen inBlock endQ
end Go.Pm
