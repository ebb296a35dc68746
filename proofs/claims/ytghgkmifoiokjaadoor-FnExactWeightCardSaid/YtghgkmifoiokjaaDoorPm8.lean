/- The abstract machine, eighth text: the dispatcher of operations, a region of them, and how a function's body gives what its call comes to. -/
import Derived.Test.YtghgkmifoiokjaaDoorPm7
import Derived.Laws.StructEq
set_option linter.unusedVariables false
set_option linter.unusedSimpArgs false
namespace Go.Pm

section ops
variable {X : Cfg} {F : FH} {η : Et} {σ : St} {w : World} {K : AV → St → Prop}

/-! ### equality -/

def eqPlain : KD → Value → Value → Option Bool
  | .int _, .int k a, .int k' b => if k = k' then some (decide (a = b)) else none
  | .string, .string a, .string b => some (decide (a = b))
  | .bool, .bool a, .bool b => some (a == b)
  | _, _, _ => none

theorem run_eqPlain {P : Program} {t : TypeId} {d : TypeDesc} {kk : KD} (hu : P.underlying t = some d) (hd : kindOf d = kk) {a b : Value} {r : Bool} (h : eqPlain kk a b = some r) (n : Nat) (w : World) :
    (Op.equalIn (n + 1) t a b).run P w = .ok r w := by
  unfold eqPlain at h
  split at h
  · split at h
    · rename_i hk
      subst hk
      simp only [Option.some.injEq] at h
      subst h
      have := kind_int hd
      subst this
      rw [run_equalIn_int w n t _ _ _ _ hu, beq_dec]
    · simp at h
  · simp only [Option.some.injEq] at h
    subst h
    have := kind_string hd
    subst this
    rw [run_equalIn_string w n t _ _ hu, toList_eq]
  · simp only [Option.some.injEq] at h
    subst h
    have := kind_bool hd
    subst this
    rw [run_equalIn_bool' w n t _ _ hu]
  · simp at h

def eqFlds (X : Cfg) (xs ys : List AV) : List (Nat × TypeId) → Option Bool
  | [] => some true
  | f :: fs =>
    match X.T f.2, xs[f.1]?, ys[f.1]? with
    | some ti, some (.d (.s a)), some (.d (.s b)) =>
      match eqPlain ti.kind a b, eqFlds X xs ys fs with
      | some r, some r' => some (r && r')
      | _, _ => none
    | _, _, _ => none

theorem run_eqFlds {xs ys : List AV} {vx vy : Array Value} (hx : vx.size = xs.length) (hy : vy.size = ys.length) (hxr : ∀ j (h : j < xs.length), VRel F η σ.next xs[j] (vx.getD j undef))
    (hyr : ∀ j (h : j < ys.length), VRel F η σ.next ys[j] (vy.getD j undef)) (n : Nat) : ∀ (fs : List Field) (r : Bool), (∀ f ∈ fs, f.name ≠ "_") →
    eqFlds X xs ys (fs.map fun f => (f.offset, f.type)) = some r → (Op.eqFields (n + 1) vx vy fs).run X.P w = .ok r w
  | [], r, _, h => by simp [eqFlds] at h; subst h; simp [Op.eqFields]
  | f :: fs, r, hn, h => by
    simp only [List.map_cons, eqFlds] at h
    split at h
    · rename_i ti a b ht hxa hyb
      split at h
      · rename_i r1 r2 he1 he2
        simp only [Option.some.injEq] at h
        subst h
        obtain ⟨d, i, z, hu, hd, hi, _⟩ := X.ok _ ti ht
        obtain ⟨h1, e1⟩ := List.getElem?_eq_some_iff.1 hxa
        obtain ⟨h2, e2⟩ := List.getElem?_eq_some_iff.1 hyb
        have g1 := hxr _ h1
        rw [e1] at g1
        have g1 := g1.s_inv
        have g2 := hyr _ h2
        rw [e2] at g2
        have g2 := g2.s_inv
        have hna : isAggK (kindOf d) = false := by
          rw [hd]; revert he1; generalize ti.kind = kk; intro he1; unfold eqPlain at he1; split at he1 <;> first | (simp at he1; done) | rfl
        have p1 : (part f.type vx f.offset).run X.P w = .ok a w := by
          have hlt : f.offset < vx.size := by omega
          simp only [Array.getD, hlt, dif_pos, Array.getInternal_eq_getElem] at g1
          simp [part, run_isAgg hu, hna, hlt, g1]
        have p2 : (part f.type vy f.offset).run X.P w = .ok b w := by
          have hlt : f.offset < vy.size := by omega
          simp only [Array.getD, hlt, dif_pos, Array.getInternal_eq_getElem] at g2
          simp [part, run_isAgg hu, hna, hlt, g2]
        have p3 := run_eqPlain hu hd he1 n w
        have ih := run_eqFlds hx hy hxr hyr n fs r2 (fun g hg => hn g (by simp [hg])) he2
        simp only [Op.eqFields]
        rw [if_pos (hn f (by simp))]
        simp only [Sem.run_bind, p1, p2, p3, Result.andThen_ok, Sem.run_ite]
        cases r1 with
        | true => simpa using ih
        | false => simp
      · simp at h
    · simp at h

/-- Equality where it is no matter of numbers and strings alone. -/
def aeq (X : Cfg) (ti : TI) (x y : AV) : Option Bool :=
  match ti.kind, x, y with
  | .bool, .d (.s (.bool a)), .d (.s (.bool b)) => some (a == b)
  | .struct fs, .agg xs, .agg ys => if ti.eqok then eqFlds X xs ys fs else none
  | .ptr _, .d (.s (.pointer none)), .d (.s (.pointer none)) => some true
  | .ptr _, .ref _ _, .d (.s (.pointer none)) => some false
  | .ptr _, .ep _ _ _ _, .d (.s (.pointer none)) => some false
  | .ptr _, .d (.ip _ _), .d (.s (.pointer none)) => some false
  | .func, .d (.s .nilFunc), .d (.s .nilFunc) => some true
  | .func, .fn _ _, .d (.s .nilFunc) => some false
  | .func, .d (.s (.func _ _ _)), .d (.s .nilFunc) => some false
  | .iface, .ifc _ _, .d (.s .nilIface) => some false
  | .iface, .d (.s (.iface _ _)), .d (.s .nilIface) => some false
  | _, _, _ => none

def abinop (X : Cfg) (op : BinOp) (t : TypeId) (x y : AV) (σ : St) (K : AV → St → Prop) : Prop :=
  match (match x, y with | .d (.s a), .d (.s b) => abin op a b | _, _ => none) with
  | some r => K (.d (.s r)) σ
  | none => ∃ ti, X.T t = some ti ∧ ∃ r, aeq X ti x y = some r ∧ ((op = .eql ∧ K (.d (.s (.bool r))) σ) ∨ (op = .neq ∧ K (.d (.s (.bool (!r)))) σ))

theorem kind_func {d : TypeDesc} (h : kindOf d = .func) : ∃ a b c, d = .func a b c := by
  cases d <;> simp [kindOf] at h
  exact ⟨_, _, _, rfl⟩
theorem kind_iface {d : TypeDesc} (h : kindOf d = .iface) : ∃ a, d = .interface a := by
  cases d <;> simp [kindOf] at h
  exact ⟨_, rfl⟩

theorem eqIn_ptr {P : Program} {t e : TypeId} (hu : P.underlying t = some (.pointer e)) (n : Nat) (x : Option Addr) (w : World) :
    (Op.equalIn (n + 1) t (.pointer x) (.pointer none)).run P w = .ok x.isNone w := by
  cases x <;> simp [Op.equalIn, run_underlying hu]
theorem eqIn_func {P : Program} {t : TypeId} {a b c} (hu : P.underlying t = some (.func a b c)) (n : Nat) (f : Fn) (x y : Array Value) (w : World) :
    (Op.equalIn (n + 1) t (.func f x y) .nilFunc).run P w = .ok false w ∧ (Op.equalIn (n + 1) t .nilFunc .nilFunc).run P w = .ok true w := by
  constructor <;> simp [Op.equalIn, run_underlying hu]
theorem eqIn_iface {P : Program} {t : TypeId} {a} (hu : P.underlying t = some (.interface a)) (n : Nat) (d : TypeId) (x : Value) (w : World) :
    (Op.equalIn (n + 1) t (.iface d x) .nilIface).run P w = .ok false w := by
  simp [Op.equalIn, run_underlying hu]

theorem abinop_ok (hg : GRel X F) (hf : FRel F w) (hs : SRel F η σ w) {op : BinOp} {t : TypeId} {x y : AV} {vx vy : Value} (hx : VRel F η σ.next x vx) (hy : VRel F η σ.next y vy) (ox oy : Operand)
    (h : abinop X op t x y σ K) : VOk X F η σ w ((do eqGuard op t ox oy vx vy; binOp op t vx vy : Sem Value).run X.P w) K := by
  unfold abinop at h
  split at h
  · rename_i r hr
    split at hr
    · have e1 := hx.s_inv
      have e2 := hy.s_inv
      subst e1
      subst e2
      exact VOk.same hg hf hs (abin_ok hr t ox oy X.P w) (.d (.s r)) h
    · simp at hr
  · rename_i hnone
    clear hnone
    obtain ⟨ti, ht, r, hr, hK⟩ := h
    obtain ⟨d, i, z, hu, hd, hi, _⟩ := X.ok t ti ht
    have key : ∀ (g : (eqGuard op t ox oy vx vy).run X.P w = .ok () w) (e : (Op.equalIn 10000 t vx vy).run X.P w = .ok r w)
        (b1 : op = .eql → binOp .eql t vx vy = do pure (.bool (← Op.equal t vx vy))) (b2 : op = .neq → binOp .neq t vx vy = do pure (.bool (!(← Op.equal t vx vy)))),
        VOk X F η σ w ((do eqGuard op t ox oy vx vy; binOp op t vx vy : Sem Value).run X.P w) K := by
      intro g e b1 b2
      rcases hK with ⟨rfl, hk⟩ | ⟨rfl, hk⟩
      · refine VOk.same hg hf hs ?_ (.d (.s _)) hk
        rw [Sem.run_bind, g, Result.andThen_ok, b1 rfl]
        simp [Op.equal, Op.maxDepth, e]
      · refine VOk.same hg hf hs ?_ (.d (.s _)) hk
        rw [Sem.run_bind, g, Result.andThen_ok, b2 rfl]
        simp [Op.equal, Op.maxDepth, e]
    unfold aeq at hr
    split at hr
    · rename_i a b hkd
      rw [hkd] at hd
      have := kind_bool hd
      subst this
      have e1 := hx.s_inv
      have e2 := hy.s_inv
      subst e1
      subst e2
      simp only [Option.some.injEq] at hr
      subst hr
      exact key (by rw [eqGuard_at_bool]; rfl) (run_equalIn_bool' w 9999 t a b hu) (fun _ => rfl) (fun _ => rfl)
    · rename_i fs xs ys hkd
      split at hr
      · rename_i hok
        obtain ⟨f1, f2, fs', f3, f4⟩ := X.eq t ti ht hok
        rw [f3] at hu
        simp only [Option.some.injEq] at hu
        subst hu
        have hfs : fs = fs'.toList.map fun f => (f.offset, f.type) := by rw [hkd] at hd; simpa [kindOf] using hd.symm
        subst hfs
        cases hx with
        | agg hnx hrx =>
          cases hy with
          | agg hny hry =>
            have he := run_eqFlds (X := X) (w := w) hnx hny hrx hry 9998 fs'.toList r f4 hr
            have hfo : X.P.fieldsOf t = fs' := by simp [Program.fieldsOf, f3]
            refine key (run_eqGuard_agg w op t ox oy _ _ f2) ?_ (fun _ => rfl) (fun _ => rfl)
            rw [run_equalIn_struct w 9999 t _ _ (by rw [hfo]; exact f3) f1, hfo]
            exact he
      · simp at hr
    all_goals first
      | (simp at hr; done)
      | skip
    all_goals
      simp only [Option.some.injEq] at hr
      subst hr
    · rename_i e hkd
      rw [hkd] at hd
      have := kind_ptr hd
      subst this
      have e1 := hx.s_inv
      have e2 := hy.s_inv
      subst e1
      subst e2
      exact key (by rw [eqGuard_at_pointer]; rfl) (eqIn_ptr hu 9999 _ w) (fun _ => rfl) (fun _ => rfl)
    · rename_i e i1 off hkd
      rw [hkd] at hd
      have := kind_ptr hd
      subst this
      have e2 := hy.s_inv
      subst e2
      cases hx
      exact key (by rw [eqGuard_at_pointer]; rfl) (eqIn_ptr hu 9999 _ w) (fun _ => rfl) (fun _ => rfl)
    · rename_i e i1 v k off hkd
      rw [hkd] at hd
      have := kind_ptr hd
      subst this
      have e2 := hy.s_inv
      subst e2
      cases hx
      exact key (by rw [eqGuard_at_pointer]; rfl) (eqIn_ptr hu 9999 _ w) (fun _ => rfl) (fun _ => rfl)
    · rename_i e cs off hkd
      rw [hkd] at hd
      have := kind_ptr hd
      subst this
      have e2 := hy.s_inv
      subst e2
      cases hx with
      | d hx => cases hx; exact key (by rw [eqGuard_at_pointer]; rfl) (eqIn_ptr hu 9999 _ w) (fun _ => rfl) (fun _ => rfl)
    · rename_i hkd
      rw [hkd] at hd
      obtain ⟨a, b, c, rfl⟩ := kind_func hd
      have e1 := hx.s_inv
      have e2 := hy.s_inv
      subst e1
      subst e2
      exact key (by rw [eqGuard_at_nilFunc]; rfl) (eqIn_func hu 9999 (.func 0) #[] #[] w).2 (fun _ => rfl) (fun _ => rfl)
    · rename_i f caps hkd
      rw [hkd] at hd
      obtain ⟨a, b, c, rfl⟩ := kind_func hd
      have e2 := hy.s_inv
      subst e2
      cases hx
      exact key (by rw [eqGuard_at_func]; rfl) (eqIn_func hu 9999 _ _ _ w).1 (fun _ => rfl) (fun _ => rfl)
    · rename_i f a1 b1 hkd
      rw [hkd] at hd
      obtain ⟨a, b, c, rfl⟩ := kind_func hd
      have e1 := hx.s_inv
      have e2 := hy.s_inv
      subst e1
      subst e2
      exact key (by rw [eqGuard_at_func]; rfl) (eqIn_func hu 9999 _ _ _ w).1 (fun _ => rfl) (fun _ => rfl)
    · rename_i t1 x1 hkd
      rw [hkd] at hd
      obtain ⟨a, rfl⟩ := kind_iface hd
      have e2 := hy.s_inv
      subst e2
      cases hx
      exact key (by rw [eqGuard_at_iface]; rfl) (eqIn_iface hu 9999 _ _ w) (fun _ => rfl) (fun _ => rfl)
    · rename_i t1 x1 hkd
      rw [hkd] at hd
      obtain ⟨a, rfl⟩ := kind_iface hd
      have e1 := hx.s_inv
      have e2 := hy.s_inv
      subst e1
      subst e2
      exact key (by rw [eqGuard_at_iface]; rfl) (eqIn_iface hu 9999 _ _ w) (fun _ => rfl) (fun _ => rfl)

/-! ### the small ones -/

def aunop (op : UnOp) (x : AV) (σ : St) (K : AV → St → Prop) : Prop :=
  match op, x with
  | .neg, .d (.s (.int k n)) => K (.d (.s (.int k (k.wrap (0 - n))))) σ
  | .not, .d (.s (.bool b)) => K (.d (.s (.bool (!b)))) σ
  | _, _ => False

theorem aunop_ok (hg : GRel X F) (hf : FRel F w) (hs : SRel F η σ w) {op : UnOp} {x : AV} {vx : Value} (hx : VRel F η σ.next x vx) (h : aunop op x σ K) : VOk X F η σ w ((Op.unary op vx).run X.P w) K := by
  unfold aunop at h
  split at h
  · have e1 := hx.s_inv
    subst e1
    exact VOk.same hg hf hs (by simp [Op.unary, Op.intArith]) (.d (.s _)) h
  · have e1 := hx.s_inv
    subst e1
    exact VOk.same hg hf hs (by simp [Op.unary]) (.d (.s _)) h
  · exact h.elim

def aconvert (X : Cfg) (src dst : TypeId) (x : AV) (σ : St) (K : AV → St → Prop) : Prop :=
  ∃ ts, X.T src = some ts ∧ ∃ td, X.T dst = some td ∧
    match td.kind, ts.kind, x with
    | .int k, _, .d (.s (.int _ n)) => K (.d (.s (.int k (k.wrap n)))) σ
    | .string, .string, .d (.s (.string s)) => K (.d (.s (.string s))) σ
    | _, _, _ => False

theorem aconvert_ok (hg : GRel X F) (hf : FRel F w) (hs : SRel F η σ w) {src dst : TypeId} {x : AV} {vx : Value} (hx : VRel F η σ.next x vx) (h : aconvert X src dst x σ K) :
    VOk X F η σ w ((convert src dst vx).run X.P w) K := by
  obtain ⟨ts, hts, td, htd, hm⟩ := h
  obtain ⟨d1, i1, z1, hu1, hd1, _⟩ := X.ok src ts hts
  obtain ⟨d2, i2, z2, hu2, hd2, _⟩ := X.ok dst td htd
  split at hm
  · rename_i k k' n hkd
    rw [hkd] at hd2
    have := kind_int hd2
    subst this
    have e1 := hx.s_inv
    subst e1
    exact VOk.same hg hf hs (by simp [convert, run_underlying hu1, run_underlying hu2, Conv.intToInt]) (.d (.s _)) hm
  · rename_i s hkd hks
    rw [hkd] at hd2
    rw [hks] at hd1
    have := kind_string hd2
    subst this
    have := kind_string hd1
    subst this
    have e1 := hx.s_inv
    subst e1
    exact VOk.same hg hf hs (by simp [convert, run_underlying hu1, run_underlying hu2]) (.d (.s _)) hm
  · exact hm.elim

def aextract (x : AV) (i : Nat) (σ : St) (K : AV → St → Prop) : Prop :=
  match x with
  | .tup vs => ∃ r, vs[i]? = some r ∧ K r σ
  | _ => False

theorem aextract_ok (hg : GRel X F) (hf : FRel F w) (hs : SRel F η σ w) {x : AV} {i : Nat} {vx : Value} (hx : VRel F η σ.next x vx) (h : aextract x i σ K) : VOk X F η σ w ((Instr.extract vx i).run X.P w) K := by
  unfold aextract at h
  split at h
  · obtain ⟨r, hr, hk⟩ := h
    obtain ⟨hlt, rfl⟩ := List.getElem?_eq_some_iff.1 hr
    cases hx with
    | tup hn hrel =>
      have := hrel i hlt
      rename_i vs
      have hlt' : i < vs.size := by omega
      simp only [Array.getD, hlt', dif_pos, Array.getInternal_eq_getElem] at this
      exact VOk.same hg hf hs (by simp [Instr.extract, hlt']) this hk
  · exact h.elim

def amakeFunc (fn : Fn) (first : List AV) (caps : List AV) (σ : St) (K : AV → St → Prop) : Prop :=
  match fn, first, caps with
  | .func f, [], [] => K (.d (.s (.func (.func f) #[] #[]))) σ
  | .func f, [], c :: cs => K (.fn f (c :: cs)) σ
  | _, _, _ => False

def amakeInterface (X : Cfg) (t : TypeId) (x : AV) (σ : St) (K : AV → St → Prop) : Prop :=
  ∃ ti, X.T t = some ti ∧ ti.kind ≠ .iface ∧
    match x with
    | .d (.s v) => K (.d (.s (.iface t v))) σ
    | x => K (.ifc t x) σ

theorem amakeInterface_ok (hg : GRel X F) (hf : FRel F w) (hs : SRel F η σ w) {t : TypeId} {x : AV} {vx : Value} (hx : VRel F η σ.next x vx) (h : amakeInterface X t x σ K) :
    VOk X F η σ w ((Instr.makeInterface t vx).run X.P w) K := by
  obtain ⟨ti, ht, hne, hm⟩ := h
  obtain ⟨d, i, z, hu, hd, _⟩ := X.ok t ti ht
  have hr : (Instr.makeInterface t vx).run X.P w = .ok (.iface t vx) w := by
    unfold Instr.makeInterface
    simp only [Sem.run_bind, run_underlying hu, Result.andThen_ok]
    cases d <;> first | rfl | (exfalso; apply hne; rw [← hd]; rfl)
  split at hm
  · have e1 := hx.s_inv
    subst e1
    exact VOk.same hg hf hs hr (.d (.s _)) hm
  · exact VOk.same hg hf hs hr (.ifc hx) hm

def aminmax (mx : Bool) (x y : AV) (σ : St) (K : AV → St → Prop) : Prop :=
  match x, y with
  | .d (.s (.int k a)), .d (.s (.int _ b)) => K (.d (.s (.int k (if mx then (if b > a then b else a) else (if b < a then b else a))))) σ
  | _, _ => False

/-! ### one operation -/

def anil (x : AV) : Bool :=
  match x with
  | .ref _ _ => true
  | .ep _ _ _ _ => true
  | .d (.ip _ _) => true
  | _ => false

def abuiltin (X : Cfg) (env : Env) (σ : St) (K : AV → St → Prop) (b : Builtin) (args : List Operand) (tys : List TypeId) : Prop :=
  match b, args, tys with
  | .len, [x], [t] => alen X t (aev X env x) σ K
  | .append, [s, x], [ts, tx] => aappend X ts tx (aev X env s) (aev X env x) σ K
  | .min, [x, y], _ => aminmax false (aev X env x) (aev X env y) σ K
  | .max, [x, y], _ => aminmax true (aev X env x) (aev X env y) σ K
  | _, _, _ => False

def aop (X : Cfg) (env : Env) (σ : St) (K : AV → St → Prop) : Op → Prop
  | .move x => K (aev X env x) σ
  | .assign x => K (aev X env x) σ
  | .pick c a b => ∃ t, aev X env c = .d (.s (.bool t)) ∧ K (if t then aev X env a else aev X env b) σ
  | .alloc e => aalloc X e σ K
  | .box _ x => abox (aev X env x) σ K
  | .build t ps => abuild X t (ps.toList.map fun p => (p.1, aev X env p.2)) σ K
  | .buildSlice t n ps => abuildSlice X t n (ps.toList.map fun p => (p.1, aev X env p.2)) σ K
  | .load t a => aload X t (aev X env a) σ K
  | .store t a x => astore X t (aev X env a) (aev X env x) σ K
  | .nilCheck x => anil (aev X env x) = true ∧ K (aev X env x) σ
  | .binOp op t x y _ => abinop X op t (aev X env x) (aev X env y) σ K
  | .unOp op _ x => aunop op (aev X env x) σ K
  | .convert s d x => aconvert X s d (aev X env x) σ K
  | .makeInterface t x => amakeInterface X t (aev X env x) σ K
  | .makeFunc fn first caps => amakeFunc fn (first.toList.map (aev X env)) (caps.toList.map (aev X env)) σ K
  | .makeMap t none => amakeMap X t σ K
  | .mapUpdate t m k v => amapUpdate X t (aev X env m) (aev X env k) (aev X env v) σ K
  | .insert t m k v => amapUpdate X t (aev X env m) (aev X env k) (aev X env v) σ K
  | .lookup t m k ok => alookup X t (aev X env m) (aev X env k) ok σ K
  | .makeSlice t l c => amakeSlice X t (aev X env l) (aev X env c) σ K
  | .slice t x lo hi none => aslice X t (aev X env x) (lo.map (aev X env)) (hi.map (aev X env)) σ K
  | .fieldAddr t x f => afieldAddr X t (aev X env x) f σ K
  | .field t x f => afield X t (aev X env x) f σ K
  | .indexAddr t x i => aindexAddr X t (aev X env x) (aev X env i) σ K
  | .index t x i => aindex X t (aev X env x) (aev X env i) σ K
  | .extract t i => aextract (aev X env t) i σ K
  | .call c => match c.callee with | .builtin b => abuiltin X env σ K b c.args.toList c.argTypes.toList | _ => False
  | _ => False

theorem parts_rel {nt : Nat} {env : Env} {a : Act} (hg : GRel X F) (hr : Rel F η nt env σ a w) (ps : Array (Nat × Operand)) :
    (ps.map fun (p : Nat × Operand) => (p.1, a.eval p.2)).toList.length = (ps.toList.map fun p => (p.1, aev X env p.2)).length ∧
    ∀ k (h : k < (ps.toList.map fun p => (p.1, aev X env p.2)).length) (h' : k < (ps.map fun (p : Nat × Operand) => (p.1, a.eval p.2)).toList.length),
      ((ps.map fun (p : Nat × Operand) => (p.1, a.eval p.2)).toList[k]).1 = ((ps.toList.map fun p => (p.1, aev X env p.2))[k]).1 ∧
      VRel F η σ.next ((ps.toList.map fun p => (p.1, aev X env p.2))[k]).2 ((ps.map fun (p : Nat × Operand) => (p.1, a.eval p.2)).toList[k]).2 := by
  refine ⟨by simp, fun k h h' => ?_⟩
  simp only [Array.toList_map, List.getElem_map, true_and]
  exact aev_rel hg hr _

theorem map_rel {nt : Nat} {env : Env} {a : Act} (hg : GRel X F) (hr : Rel F η nt env σ a w) (lo : Option Operand) :
    (∀ x v, lo.map (aev X env) = some x → lo.map a.eval = some v → VRel F η σ.next x v) ∧ (lo.map (aev X env)).isSome = (lo.map a.eval).isSome := by
  refine ⟨fun x v h1 h2 => ?_, by simp⟩
  cases lo with
  | none => simp at h1
  | some y =>
    simp only [Option.map_some, Option.some.injEq] at h1 h2
    subst h1
    subst h2
    exact aev_rel hg hr y

theorem OpOk.unit {s : Sem Unit} (hg : GRel X F) (h : ∃ w' σ', s.run X.P w = .ok () w' ∧ Step F η σ w F η σ' w' ∧ FRel F w' ∧ SRel F η σ' w' ∧ K (.d (.s undef)) σ') :
    OpOk X F η σ w ((do s; pure .skip : Sem Next).run X.P w) K := by
  obtain ⟨w', σ', hr, h1, h2, h3, h4⟩ := h
  exact ⟨.skip, undef, w', F, η, σ', _, by simp [hr], .inr ⟨rfl, rfl⟩, h1, hg, h2, h3, .d (.s _), h4⟩

theorem aop_ok {nt : Nat} {env : Env} {a : Act} {o : Oper} (hg : GRel X F) (hr : Rel F η nt env σ a w) (h : aop X env σ K o.op) : OpOk X F η σ w ((execOp a.eval o).run X.P w) K := by
  have hf := hr.fr
  have hs := hr.st
  have ev := fun x => aev_rel hg hr x
  obtain ⟨dst, op, ty, pos, after, guard⟩ := o
  simp only at h
  cases op with
  | move x => exact OpOk.same hg hf hs (by simp [execOp]) (ev x) h
  | assign x => exact OpOk.same hg hf hs (by simp [execOp]) (ev x) h
  | pick c x y =>
    obtain ⟨t, ht, hk⟩ := h
    have h1 := ev c
    rw [ht] at h1
    have h1 := h1.s_inv
    refine OpOk.same hg hf hs (v := if t then a.eval x else a.eval y) (by simp [execOp, h1, asBool]) ?_ hk
    cases t <;> simp [ev]
  | alloc e => exact (aalloc_ok hg hf hs h).op
  | box e x => exact (abox_ok hg hf hs (ev x) h).op
  | build t ps =>
    obtain ⟨h1, h2⟩ := parts_rel hg hr ps
    exact (abuild_ok hg hf hs h1 h2 h).op
  | buildSlice t n ps =>
    obtain ⟨h1, h2⟩ := parts_rel hg hr ps
    exact (abuildSlice_ok hg hf hs h1 h2 h).op
  | load t x =>
    obtain ⟨v, r, h1, h2, h3⟩ := aload_ok hg hf hs (ev x) h
    exact (VOk.same hg hf hs h1 h2 h3).op
  | store t x y => exact OpOk.unit hg (astore_ok hg hf hs (ev x) (ev y) h)
  | nilCheck x =>
    obtain ⟨h1, h2⟩ := h
    refine OpOk.same hg hf hs (v := a.eval x) ?_ (ev x) h2
    have hx := ev x
    simp only [execOp]
    generalize aev X env x = ax at h1 hx
    generalize a.eval x = vx at hx
    unfold anil at h1
    split at h1
    · cases hx; rfl
    · cases hx; rfl
    · cases hx with | d hx => cases hx; rfl
    · simp at h1
  | binOp bop t x y yt => exact (abinop_ok hg hf hs (ev x) (ev y) x y h).op
  | unOp uop t x => exact (aunop_ok hg hf hs (ev x) h).op
  | convert s d x => exact (aconvert_ok hg hf hs (ev x) h).op
  | makeInterface t x => exact (amakeInterface_ok hg hf hs (ev x) h).op
  | makeFunc fn first caps =>
    simp only [aop] at h
    unfold amakeFunc at h
    split at h
    · rename_i f hfi hca
      have e1 : first = #[] := by
        have := congrArg List.length hfi
        simp only [List.length_map, Array.length_toList, List.length_nil] at this
        exact Array.eq_empty_of_size_eq_zero this
      have e2 : caps = #[] := by
        have := congrArg List.length hca
        simp only [List.length_map, Array.length_toList, List.length_nil] at this
        exact Array.eq_empty_of_size_eq_zero this
      subst e1
      subst e2
      exact OpOk.same hg hf hs (by simp [execOp, Instr.makeFunc]) (.d (.s _)) h
    · rename_i f c cs hfi hca
      have e1 : first = #[] := by
        have := congrArg List.length hfi
        simp only [List.length_map, Array.length_toList, List.length_nil] at this
        exact Array.eq_empty_of_size_eq_zero this
      subst e1
      refine OpOk.same hg hf hs (v := .func (.func f) #[] (caps.map a.eval)) (by simp [execOp, Instr.makeFunc]) (.fn ?_ fun j hj => ?_) h
      · have := congrArg List.length hca
        simpa using this
      · have hj2 : j < caps.size := by
          have := congrArg List.length hca
          simp only [List.length_map, Array.length_toList] at this
          omega
        have e3 : (c :: cs)[j]'hj = aev X env caps[j] := by
          have : (c :: cs)[j]? = some (aev X env caps[j]) := by rw [← hca]; simp [hj2]
          rw [List.getElem?_eq_getElem hj] at this
          exact Option.some.inj this
        rw [e3]
        have : (caps.map a.eval).getD j undef = a.eval caps[j] := by simp [Array.getD, hj2]
        rw [this]
        exact ev _
    · exact h.elim
  | makeMap t r =>
    cases r with
    | none => exact (amakeMap_ok hg hf hs rfl h).op
    | some r => exact h.elim
  | mapUpdate t m k v => exact OpOk.unit hg (amapUpdate_ok hg hf hs (ev m) (ev k) (ev v) h)
  | insert t m k v => exact OpOk.unit hg (amapUpdate_ok hg hf hs (ev m) (ev k) (ev v) h)
  | lookup t m k ok => exact (alookup_ok hg hf hs (ev m) (ev k) h).op
  | makeSlice t l c => exact (amakeSlice_ok hg hf hs (ev l) (ev c) h).op
  | slice t x lo hi mx =>
    cases mx with
    | none =>
      obtain ⟨l1, l2⟩ := map_rel hg hr lo
      obtain ⟨l3, l4⟩ := map_rel hg hr hi
      exact (aslice_ok hg hf hs (ev x) l1 l3 l2 l4 h).op
    | some m => exact h.elim
  | fieldAddr t x f => exact (afieldAddr_ok hg hf hs (ev x) h).op
  | field t x f => exact (afield_ok hg hf hs (ev x) h).op
  | indexAddr t x i => exact (aindexAddr_ok hg hf hs (ev x) (ev i) h).op
  | index t x i => exact (aindex_ok hg hf hs (ev x) (ev i) h).op
  | extract t i => exact (aextract_ok hg hf hs (ev t) h).op
  | call c =>
    obtain ⟨callee, ⟨args⟩, ⟨ats⟩⟩ := c
    cases callee with
    | builtin b =>
      simp only [aop] at h
      unfold abuiltin at h
      split at h
      · have := (alen_ok (ty := ty) hg hf hs (ev _) h).op
        simpa [execOp, resolve, invoke, builtin] using this
      · have := (aappend_ok (ty := ty) hg hf hs (ev _) (ev _) h).op
        simpa [execOp, resolve, invoke, builtin] using this
      · rename_i ox oy
        unfold aminmax at h
        split at h
        · rename_i x y k n k' m hx hy
          have e1 := ev ox
          have e2 := ev oy
          rw [hx] at e1
          rw [hy] at e2
          have e1 := e1.s_inv
          have e2 := e2.s_inv
          exact OpOk.same hg hf hs (by simp [execOp, resolve, invoke, builtin, Builtin.min_, Builtin.min2, e1, e2]) (.d (.s _)) h
        · exact h.elim
      · rename_i ox oy
        unfold aminmax at h
        split at h
        · rename_i x y k n k' m hx hy
          have e1 := ev ox
          have e2 := ev oy
          rw [hx] at e1
          rw [hy] at e2
          have e1 := e1.s_inv
          have e2 := e2.s_inv
          exact OpOk.same hg hf hs (by simp [execOp, resolve, invoke, builtin, Builtin.max_, Builtin.max2, e1, e2]) (.d (.s _)) h
        · exact h.elim
      · exact h.elim
    | value f => exact h.elim
    | invoke r m => exact h.elim
  | _ => exact h.elim
end ops
end Go.Pm
