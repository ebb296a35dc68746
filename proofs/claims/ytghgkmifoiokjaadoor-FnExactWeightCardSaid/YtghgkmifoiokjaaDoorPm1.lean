/- An abstract machine for proofs on Go programs of the model: data that nothing writes any more is a tree, what the call made itself is a numbered object. This text: the words (values, objects, how they stand for the model's memory) and how they carry over a step. -/
import Derived.WalkKit
import Derived.Laws.AppendOwn
import Derived.Laws.OwnMore
import Derived.KernelRfl
set_option linter.unusedVariables false
namespace Go.Pm

/-- A type, as far as the abstract machine looks at it. -/
inductive KD where
  | bool | int (k : IntKind) | string | ptr (e : TypeId) | slice (e : TypeId) | array (n : Nat) (e : TypeId) | map (k e : TypeId) | struct (fs : List (Nat × TypeId)) | func | iface | other
  deriving DecidableEq

def kindOf : TypeDesc → KD
  | .bool => .bool
  | .int k => .int k
  | .string => .string
  | .pointer e => .ptr e
  | .slice e => .slice e
  | .array n e => .array n e
  | .map k e => .map k e
  | .struct fs => .struct (fs.toList.map fun f => (f.offset, f.type))
  | .func _ _ _ => .func
  | .interface _ => .iface
  | _ => .other

def isAggK : KD → Bool
  | .struct _ => true
  | .array _ _ => true
  | _ => false

/-- Is the value a key of a map of this kind? -/
def keyFit : KD → Value → Bool
  | .string, .string _ => true
  | .int k, .int k' _ => k == k'
  | .bool, .bool _ => true
  | _, _ => false

def keyEq : Value → Value → Bool
  | .string a, .string b => decide (a = b)
  | .int _ a, .int _ b => decide (a = b)
  | .bool a, .bool b => a == b
  | _, _ => false

/-- Data that nothing writes any more. -/
inductive D where
  | s (v : Value)
  | im (rows : List (List D))
  | ip (cells : List D) (off : Nat)
  | mp (k : KD) (es : List (Value × D))

/-- An abstract value: data, or a reference to an object. -/
inductive AV where
  | d (x : D)
  | agg (cs : List AV)
  | tup (vs : List AV)
  | ref (i off : Nat)
  | sl (i v lo hi : Nat)
  | ep (i v k off : Nat)
  | mp (i : Nat)
  | it (i : Nat)
  | fn (f : FuncId) (caps : List AV)
  | ifc (t : TypeId) (x : AV)
  | any

/-- An object that the calls at hand own. -/
inductive AO where
  | var (cells : List AV)
  | row (v : Nat) (E : TypeId) (sz : Nat) (rows : List (List AV))
  | map (k : KD) (es : List (Value × AV))
  | iter (o : Obj)

structure St where
  obj : Nat → Option AO
  next : Nat

structure Hd where
  blk : Option Nat
  cap : Nat
  sz : Nat

structure Et where
  blk : Nat → Nat
  hdr : Nat → Hd

abbrev FH := Nat → Option Obj
abbrev Env := Nat → AV

def St.alloc (σ : St) (o : AO) : St := ⟨fun i => if i = σ.next then some o else σ.obj i, σ.next + 1⟩
def St.set (σ : St) (i : Nat) (o : AO) : St := ⟨fun j => if j = i then some o else σ.obj j, σ.next⟩
def St.bump (σ : St) : St := ⟨σ.obj, σ.next + 1⟩

def put (env : Env) (d : Option Nat) (v : AV) : Env :=
  match d with
  | some t => fun t' => if t' = t then v else env t'
  | none => env

theorem put_some (env : Env) (t t' : Nat) (v : AV) : put env (some t) v t' = if t' = t then v else env t' := rfl
theorem put_none (env : Env) (v : AV) : put env none v = env := rfl
theorem St.obj_alloc (σ : St) (o : AO) (i : Nat) : (σ.alloc o).obj i = if i = σ.next then some o else σ.obj i := rfl
theorem St.next_alloc (σ : St) (o : AO) : (σ.alloc o).next = σ.next + 1 := rfl
theorem St.obj_set (σ : St) (i : Nat) (o : AO) (j : Nat) : (σ.set i o).obj j = if j = i then some o else σ.obj j := rfl
theorem St.next_set (σ : St) (i : Nat) (o : AO) : (σ.set i o).next = σ.next := rfl
theorem St.obj_bump (σ : St) (i : Nat) : σ.bump.obj i = σ.obj i := rfl
theorem St.next_bump (σ : St) : σ.bump.next = σ.next + 1 := rfl

/-- How data stands in frozen memory. -/
inductive DRel (F : FH) : D → Value → Prop
  | s (v : Value) : DRel F (.s v) v
  | im0 (a : Option Addr) (cap : Nat) : DRel F (.im []) (.slice a 0 cap)
  | im (rows : List (List D)) (b o cap sz : Nat) (c : Array Value) (E : TypeId) (fz : Nat × Nat) (f : Nat → Nat → Value)
      (hb : F b = some (.cells c E fz)) (hcap : rows.length ≤ cap) (hsz : ∀ r ∈ rows, r.length = sz)
      (hc : ∀ k, k < rows.length → ∀ j, j < sz → c[o + k * sz + j]? = some (f k j))
      (ho : ∀ k, k < rows.length → ∀ j, j < sz → (f k j).oneCell' = true)
      (hr : ∀ k (h : k < rows.length) j (h' : j < (rows[k]).length), DRel F ((rows[k])[j]) (f k j)) :
      DRel F (.im rows) (.slice (some ⟨b, o, none⟩) rows.length cap)
  | ip (cells : List D) (off b o : Nat) (c : Array Value) (E : TypeId) (fz : Nat × Nat) (f : Nat → Value)
      (hb : F b = some (.cells c E fz)) (hc : ∀ j, j < cells.length → c[o + j]? = some (f j)) (ho : ∀ j, j < cells.length → (f j).oneCell' = true)
      (hr : ∀ j (h : j < cells.length), DRel F (cells[j]) (f j)) :
      DRel F (.ip cells off) (.pointer (some ⟨b, o + off, none⟩))
  | mp0 (kk : KD) : DRel F (.mp kk []) (.map none)
  | mp (kk : KD) (es : List (Value × D)) (r : Nat) (ents : Array MapEntry) (clock : Nat) (f : Nat → Value) (π : Nat → Nat)
      (hb : F r = some (.map ents clock)) (hn : ents.size = es.length) (hf : ∀ e ∈ es, keyFit kk e.1 = true)
      (hd : ∀ k k' (h : k < es.length) (h' : k' < es.length), keyEq es[k].1 es[k'].1 = true → k = k')
      (hk : ∀ k (h : k < es.length), (ents[π k]?).map (fun e => (e.key, e.val)) = some (es[k].1, f k))
      (hs : ∀ j, j < ents.size → ∃ k, k < es.length ∧ π k = j)
      (hr : ∀ k (h : k < es.length), DRel F (es[k].2) (f k)) :
      DRel F (.mp kk es) (.map (some r))

inductive VRel (F : FH) (η : Et) (n : Nat) : AV → Value → Prop
  | d {x : D} {v : Value} (h : DRel F x v) : VRel F η n (.d x) v
  | agg {cs : List AV} {vs : Array Value} (hn : vs.size = cs.length) (h : ∀ j (hj : j < cs.length), VRel F η n cs[j] (vs.getD j undef)) :
      VRel F η n (.agg cs) (.agg vs)
  | tup {cs : List AV} {vs : Array Value} (hn : vs.size = cs.length) (h : ∀ j (hj : j < cs.length), VRel F η n cs[j] (vs.getD j undef)) :
      VRel F η n (.tup cs) (.tuple vs)
  | ref {i off : Nat} (hi : i < n) : VRel F η n (.ref i off) (.pointer (some ⟨η.blk i, off, none⟩))
  | sl {i v lo hi b cap sz off : Nat} (h1 : i < n) (h2 : v < n) (hh : η.hdr v = ⟨some b, cap, sz⟩) (hle : lo ≤ hi) (hc : hi ≤ cap) (hoff : lo < cap → off = lo * sz) :
      VRel F η n (.sl i v lo hi) (.slice (some ⟨b, off, none⟩) (hi - lo) (cap - lo))
  | sl0 {i v cap sz : Nat} (hi : i < n) (hv : v < n) (hh : η.hdr v = ⟨none, cap, sz⟩) : VRel F η n (.sl i v 0 0) (.slice none 0 0)
  | ep {i v k off b cap sz : Nat} (hi : i < n) (hv : v < n) (hh : η.hdr v = ⟨some b, cap, sz⟩) :
      VRel F η n (.ep i v k off) (.pointer (some ⟨b, k * sz + off, none⟩))
  | mp {i : Nat} (hi : i < n) : VRel F η n (.mp i) (.map (some (η.blk i)))
  | it {i : Nat} (hi : i < n) : VRel F η n (.it i) (.pointer (some ⟨η.blk i, 0, none⟩))
  | fn {f : FuncId} {caps : List AV} {vs : Array Value} (hn : vs.size = caps.length) (h : ∀ j (hj : j < caps.length), VRel F η n caps[j] (vs.getD j undef)) :
      VRel F η n (.fn f caps) (.func (.func f) #[] vs)
  | ifc {t : TypeId} {x : AV} {v : Value} (h : VRel F η n x v) : VRel F η n (.ifc t x) (.iface t v)
  | any (v : Value) : VRel F η n .any v

theorem VRel.s_inv {F : FH} {η : Et} {n : Nat} {v u : Value} (h : VRel F η n (.d (.s v)) u) : u = v := by
  cases h with
  | d h => cases h; rfl

def FH.le (F F' : FH) : Prop := ∀ b o, F b = some o → F' b = some o
theorem FH.le_refl (F : FH) : F.le F := fun _ _ h => h
theorem FH.le_trans {F G H : FH} (h : F.le G) (h' : G.le H) : F.le H := fun b o hb => h' b o (h b o hb)

theorem DRel.mono {F F' : FH} (h : F.le F') {x : D} {v : Value} (hd : DRel F x v) : DRel F' x v := by
  induction hd with
  | s v => exact .s v
  | im0 a cap => exact .im0 a cap
  | im rows b o cap sz c E fz f hb hcap hsz hc ho _ ih => exact .im rows b o cap sz c E fz f (h _ _ hb) hcap hsz hc ho ih
  | ip cells off b o c E fz f hb hc ho _ ih => exact .ip cells off b o c E fz f (h _ _ hb) hc ho ih
  | mp0 kk => exact .mp0 kk
  | mp kk es r ents clock f π hb hn hf hd hk hs _ ih => exact .mp kk es r ents clock f π (h _ _ hb) hn hf hd hk hs ih

/-- The numbers below n mean the same. -/
def Et.agree (n : Nat) (η η' : Et) : Prop := ∀ i, i < n → η'.blk i = η.blk i ∧ η'.hdr i = η.hdr i
theorem Et.agree_refl (n : Nat) (η : Et) : η.agree n η := fun _ _ => ⟨rfl, rfl⟩
theorem Et.agree_trans {n m : Nat} {a b c : Et} (h : a.agree n b) (h' : b.agree m c) (hnm : n ≤ m) : a.agree n c :=
  fun i hi => ⟨((h' i (by omega)).1).trans (h i hi).1, ((h' i (by omega)).2).trans (h i hi).2⟩

theorem VRel.mono {F F' : FH} {η η' : Et} {n n' : Nat} (hF : F.le F') (hη : η.agree n η') (hn : n ≤ n') {x : AV} {v : Value} (h : VRel F η n x v) : VRel F' η' n' x v := by
  induction h with
  | d h => exact .d (h.mono hF)
  | agg h1 _ ih => exact .agg h1 ih
  | tup h1 _ ih => exact .tup h1 ih
  | @ref i off hi =>
    have := @VRel.ref F' η' n' i off (by omega)
    rwa [(hη i hi).1] at this
  | @sl i v lo hi b cap sz off h1 h2 hh hle hc hoff => exact .sl (by omega) (by omega) ((hη v h2).2.trans hh) hle hc hoff
  | @sl0 i v cap sz h1 h2 hh => exact .sl0 (by omega) (by omega) ((hη v h2).2.trans hh)
  | @ep i v k off b cap sz h1 h2 hh => exact .ep (by omega) (by omega) ((hη v h2).2.trans hh)
  | @mp i hi =>
    have := @VRel.mp F' η' n' i (by omega)
    rwa [(hη i hi).1] at this
  | @it i hi =>
    have := @VRel.it F' η' n' i (by omega)
    rwa [(hη i hi).1] at this
  | fn h1 _ ih => exact .fn h1 ih
  | ifc _ ih => exact .ifc ih
  | any v => exact .any v

def FRel (F : FH) (w : World) : Prop := ∀ b o, F b = some o → w.heap[b]? = some o

/-- The block that an object lies in. -/
def own (η : Et) (i : Nat) : AO → Option Nat
  | .row v _ _ _ => (η.hdr v).blk
  | _ => some (η.blk i)

def Hd.val (h : Hd) (n : Nat) : Value :=
  match h.blk with
  | some b => .slice (some ⟨b, 0, none⟩) n h.cap
  | none => .slice none 0 0

/-- How an object stands in memory. -/
inductive ORel (F : FH) (η : Et) (n : Nat) (w : World) (i : Nat) : AO → Prop
  | var {cells : List AV} (c : Array Value) (E : TypeId) (hb : w.heap[η.blk i]? = some (.cells c E (0, 0))) (hn : c.size = cells.length)
      (h1 : ∀ j, j < cells.length → (c.getD j undef).oneCell' = true) (h : ∀ j (hj : j < cells.length), VRel F η n cells[j] (c.getD j undef)) : ORel F η n w i (.var cells)
  | row {v : Nat} {E : TypeId} {sz : Nat} {rows : List (List AV)} (xs : List Value) (hv : v < n) (hs : (η.hdr v).sz = sz) (hp : 0 < sz)
      (ho : w.ownsRow 0 E sz ((η.hdr v).val rows.length) rows.length xs) (hsz : ∀ r ∈ rows, r.length = sz) (h1 : ∀ u ∈ xs, u.oneCell' = true)
      (h : ∀ k (hk : k < rows.length) j (hj : j < (rows[k]).length), VRel F η n ((rows[k])[j]) (xs.getD (k * sz + j) undef)) : ORel F η n w i (.row v E sz rows)
  | map {kk : KD} {es : List (Value × AV)} (ents : Array MapEntry) (clock : Nat) (hb : w.heap[η.blk i]? = some (.map ents clock)) (hn : ents.size = es.length) (hf : ∀ e ∈ es, keyFit kk e.1 = true)
      (hk : ∀ k (h : k < es.length), (ents[k]?).map (fun e => e.key) = some es[k].1)
      (hd : ∀ k k' (h : k < es.length) (h' : k' < es.length), keyEq es[k].1 es[k'].1 = true → k = k')
      (hb1 : ∀ k (h : k < ents.size), ents[k].born < clock) (hb2 : ∀ k k' (h : k < ents.size) (h' : k' < ents.size), ents[k].born = ents[k'].born → k = k')
      (h : ∀ k (h : k < es.length), VRel F η n es[k].2 ((ents[k]?.map (fun e => e.val)).getD undef)) : ORel F η n w i (.map kk es)
  | iter {o : Obj} (hb : w.heap[η.blk i]? = some o) : ORel F η n w i (.iter o)

structure SRel (F : FH) (η : Et) (σ : St) (w : World) : Prop where
  lt : ∀ i o, σ.obj i = some o → i < σ.next
  ob : ∀ i o, σ.obj i = some o → ORel F η σ.next w i o
  ap : ∀ i j oi oj b, σ.obj i = some oi → σ.obj j = some oj → own η i oi = some b → own η j oj = some b → i = j
  fr : ∀ i o b, σ.obj i = some o → own η i o = some b → F b = none

/-- Blocks may come; the system and what was printed stay. -/
def More (w w' : World) : Prop := w.heap.size ≤ w'.heap.size ∧ w'.os = w.os ∧ w'.output = w.output
theorem More.refl (w : World) : More w w := ⟨Nat.le_refl _, rfl, rfl⟩
theorem More.trans {a b c : World} (h : More a b) (k : More b c) : More a c := ⟨Nat.le_trans h.1 k.1, k.2.1.trans h.2.1, k.2.2.trans h.2.2⟩

structure Step (F : FH) (η : Et) (σ : St) (w : World) (F' : FH) (η' : Et) (σ' : St) (w' : World) : Prop where
  fh : F.le F'
  et : η.agree σ.next η'
  nx : σ.next ≤ σ'.next
  gr : More w w'
  fm : ∀ b, b < w.heap.size → (∀ i o, σ.obj i = some o → own η i o ≠ some b) → w'.heap[b]? = w.heap[b]?
  nw : ∀ i o b, σ'.obj i = some o → own η' i o = some b → b < w.heap.size → ∃ j oj, σ.obj j = some oj ∧ own η j oj = some b
  nf : ∀ b o, F' b = some o → b < w.heap.size → F b = some o ∨ ∃ j oj, σ.obj j = some oj ∧ own η j oj = some b

theorem Step.refl (F : FH) (η : Et) (σ : St) (w : World) : Step F η σ w F η σ w :=
  ⟨F.le_refl, Et.agree_refl _ _, Nat.le_refl _, .refl _, fun _ _ _ => rfl, fun i o _ h h' _ => ⟨i, o, h, h'⟩, fun _ _ h _ => .inl h⟩

theorem Step.trans {F F' F'' : FH} {η η' η'' : Et} {σ σ' σ'' : St} {w w' w'' : World} (h : Step F η σ w F' η' σ' w') (h' : Step F' η' σ' w' F'' η'' σ'' w'') :
    Step F η σ w F'' η'' σ'' w'' := by
  refine ⟨FH.le_trans h.fh h'.fh, Et.agree_trans h.et h'.et h.nx, Nat.le_trans h.nx h'.nx, h.gr.trans h'.gr, ?_, ?_, ?_⟩
  · intro b hb hno
    have h1 := h.fm b hb hno
    have hb' : b < w'.heap.size := Nat.lt_of_lt_of_le hb h.gr.1
    rw [h'.fm b hb' (fun i o hi ho => ?_), h1]
    obtain ⟨j, oj, hj, hoj⟩ := h.nw i o b hi ho hb
    exact hno j oj hj hoj
  · intro i o b hi ho hb
    obtain ⟨j, oj, hj, hoj⟩ := h'.nw i o b hi ho (Nat.lt_of_lt_of_le hb h.gr.1)
    exact h.nw j oj b hj hoj hb
  · intro b o hb hlt
    rcases h'.nf b o hb (Nat.lt_of_lt_of_le hlt h.gr.1) with h1 | ⟨j, oj, hj, hoj⟩
    · exact h.nf b o h1 hlt
    · exact .inr (h.nw j oj b hj hoj hlt)

structure TI where
  kind : KD
  size : Nat
  bytes : Nat
  zero : List Value
  eqok : Bool := false

/-- Two values of the struct can be compared cell by cell. -/
def Flat (P : Program) (t : TypeId) : Prop :=
  P.stoodInHeld t = false ∧ P.eqGuardType P.depth t = false ∧ ∃ fs, P.underlying t = some (.struct fs) ∧ ∀ f ∈ fs.toList, f.name ≠ "_"

/-- A program with its table of types and the frozen package-level variables. -/
structure Cfg where
  P : Program
  G : Nat → Option (List D)
  T : TypeId → Option TI
  ok : ∀ t ti, T t = some ti → ∃ d i z, P.underlying t = some d ∧ kindOf d = ti.kind ∧ P.info? t = some i ∧ i.size = ti.size ∧ i.bytes = ti.bytes ∧ i.zero = some z ∧
    z.cells = ti.zero.toArray ∧ ti.zero.length = ti.size ∧ ti.zero.all (·.oneCell') = true ∧ (isAggK ti.kind = false → z = ti.zero.headD undef) ∧ (isAggK ti.kind = true → z = .agg ti.zero.toArray)
  cl : ∀ t ti fs, T t = some ti → ti.kind = .struct fs → ∀ f ∈ fs, (T f.2).isSome = true
  eq : ∀ t ti, T t = some ti → ti.eqok = true → Flat P t

def GRel (X : Cfg) (F : FH) : Prop := ∀ g cells, X.G g = some cells → DRel F (.ip cells 0) (.pointer (some ⟨g, 0, none⟩))
theorem GRel.mono {X : Cfg} {F F' : FH} (h : GRel X F) (hF : F.le F') : GRel X F' := fun g cells hg => (h g cells hg).mono hF

structure Rel (F : FH) (η : Et) (nt : Nat) (env : Env) (σ : St) (a : Act) (w : World) : Prop where
  fr : FRel F w
  st : SRel F η σ w
  en : ∀ t, VRel F η σ.next (env t) (a.tmps.getD t undef)
  sz : a.tmps.size = nt
  df : a.defers = []

def aev (X : Cfg) (env : Env) : Operand → AV
  | .tmp t => env t
  | .const v => .d (.s v)
  | .global g => match X.G g with | some cells => .d (.ip cells 0) | none => .any
  | .func f => .d (.s (.func (.func f) #[] #[]))

theorem aev_rel {X : Cfg} {F : FH} {η : Et} {nt : Nat} {env : Env} {σ : St} {a : Act} {w : World} (hg : GRel X F) (h : Rel F η nt env σ a w) (x : Operand) :
    VRel F η σ.next (aev X env x) (a.eval x) := by
  cases x with
  | tmp t => exact h.en t
  | const v => exact .d (.s v)
  | global g =>
    simp only [aev, Act.eval]
    split
    · rename_i cells hc; exact .d (hg g cells hc)
    · exact .any _
  | func f => exact .d (.s _)

inductive AEnd where
  | ret (r : AV)
  | pan (chain : List PanicEntry)

def EndRel (F : FH) (η : Et) (n : Nat) : AEnd → Ending → Prop
  | .ret r, .returned v => VRel F η n r v
  | .pan c, .panicked c' => c' = c
  | _, _ => False

/-- A function that has a body in the model. -/
def CallOk (P : Program) (f : FuncId) : Prop := ∃ fn, P.funcs[f]? = some fn ∧ (fn.name == "runtime.NumGoroutine") = false ∧ fn.body.isNone = false

/-- What one call comes to, in the words of the abstract machine. -/
def AFun (X : Cfg) (f : FuncId) (args : List AV) (σ : St) (K : AEnd → St → Prop) : Prop :=
  CallOk X.P f ∧ ∀ (F : FH) (η : Et) (w : World) (vals : Array Value), GRel X F → FRel F w → SRel F η σ w → vals.size = args.length →
    (∀ j (h : j < args.length), VRel F η σ.next args[j] (vals.getD j undef)) →
    Calls X.P f vals w fun e w' => ∃ F' η' σ' E, Step F η σ w F' η' σ' w' ∧ FRel F' w' ∧ SRel F' η' σ' w' ∧ EndRel F' η' σ'.next E e ∧ K E σ'

theorem AFun.mono {X : Cfg} {f : FuncId} {args : List AV} {σ : St} {K K' : AEnd → St → Prop} (h : AFun X f args σ K) (hk : ∀ E σ', K E σ' → K' E σ') : AFun X f args σ K' :=
  ⟨h.1, fun F η w vals hg hf hs hn hv => (h.2 F η w vals hg hf hs hn hv).mono fun _ _ ⟨F', η', σ', E, h1, h2, h3, h4, h5⟩ => ⟨F', η', σ', E, h1, h2, h3, h4, hk _ _ h5⟩⟩

/-- What is asked of the end of a piece of code. -/
def Post (X : Cfg) (nt : Nat) (F : FH) (η : Et) (σ : St) (w : World) (Q : Exit → Env → St → Prop) (e : Exit) (a' : Act) (w' : World) : Prop :=
  ∃ F' η' env' σ', Step F η σ w F' η' σ' w' ∧ GRel X F' ∧ Rel F' η' nt env' σ' a' w' ∧ Q e env' σ'

def Ok (X : Cfg) (nt : Nat) (c : Code) (Q : Exit → Env → St → Prop) (env : Env) (σ : St) : Prop :=
  ∀ (F : FH) (η : Et) (a : Act) (w : World), GRel X F → Rel F η nt env σ a w → c.wp X.P (Post X nt F η σ w Q) a w

theorem Post.trans {X : Cfg} {nt : Nat} {F F' : FH} {η η' : Et} {σ σ' : St} {w w' : World} {Q Q' : Exit → Env → St → Prop} {e : Exit} {a'' : Act} {w'' : World}
    (hs : Step F η σ w F' η' σ' w') (h : Post X nt F' η' σ' w' Q e a'' w'') (hq : ∀ env σ, Q e env σ → Q' e env σ) : Post X nt F η σ w Q' e a'' w'' := by
  obtain ⟨F1, η1, env1, σ1, s1, g1, r1, q1⟩ := h
  exact ⟨F1, η1, env1, σ1, hs.trans s1, g1, r1, hq _ _ q1⟩

section rules
variable {X : Cfg} {nt : Nat} {Q : Exit → Env → St → Prop} {env : Env} {σ : St}

theorem ok_skip (h : Q .normal env σ) : Ok X nt .skip Q env σ :=
  fun F η _ w hg hr => wp_skip ⟨F, η, env, σ, .refl _ _ _ _, hg, hr, h⟩
theorem ok_ret (h : Q .ret env σ) : Ok X nt .ret Q env σ :=
  fun F η _ w hg hr => wp_ret ⟨F, η, env, σ, .refl _ _ _ _, hg, hr, h⟩
theorem ok_exit {id : Nat} (h : Q (.exit id) env σ) : Ok X nt (.exit id) Q env σ :=
  fun F η _ w hg hr => wp_exit ⟨F, η, env, σ, .refl _ _ _ _, hg, hr, h⟩
theorem ok_mono {c : Code} {Q' : Exit → Env → St → Prop} (h : Ok X nt c Q env σ) (hq : ∀ e env σ, Q e env σ → Q' e env σ) : Ok X nt c Q' env σ :=
  fun F η a w hg hr => wp_mono (h F η a w hg hr) fun _ _ _ hp => hp.trans (.refl _ _ _ _) fun _ _ => hq _ _ _

/-- After the first piece comes the second. -/
def andThen (K : Env → St → Prop) (Q : Exit → Env → St → Prop) : Exit → Env → St → Prop
  | .normal, env, σ => K env σ
  | e, env, σ => Q e env σ

theorem ok_seq {x y : Code} (h : Ok X nt x (andThen (Ok X nt y Q) Q) env σ) : Ok X nt (.seq x y) Q env σ := by
  intro F η a w hg hr
  refine wp_seq (wp_mono (h F η a w hg hr) ?_)
  intro e a1 w1 hp
  cases e with
  | normal =>
    obtain ⟨F1, η1, env1, σ1, s1, g1, r1, q1⟩ := hp
    exact wp_mono (q1 F1 η1 a1 w1 g1 r1) fun e2 a2 w2 hp2 => hp2.trans s1 fun _ _ h => h
  | exit id => exact hp
  | goto l => exact hp
  | ret => exact hp
  | panic ch => exact hp
  | outgrown => exact hp

theorem ok_seq_k {x y : Code} (h : ∀ K : Env → St → Prop, (∀ env σ, Ok X nt y Q env σ → K env σ) → Ok X nt x (andThen K Q) env σ) : Ok X nt (.seq x y) Q env σ :=
  ok_seq (h _ fun _ _ h => h)

def inBlock (id : Nat) (Q : Exit → Env → St → Prop) : Exit → Env → St → Prop
  | .exit id', env, σ => if id' = id then Q .normal env σ else Q (.exit id') env σ
  | e, env, σ => Q e env σ

theorem ok_block {id : Nat} {c : Code} (h : Ok X nt c (inBlock id Q) env σ) : Ok X nt (.block id c) Q env σ := by
  intro F η a w hg hr
  refine wp_block (wp_mono (h F η a w hg hr) ?_)
  intro e a1 w1 hp
  cases e with
  | exit id' =>
    obtain ⟨F1, η1, env1, σ1, s1, g1, r1, q1⟩ := hp
    by_cases hid : id' = id
    · simp only [inBlock, hid, if_true] at q1
      simp only [Exit.inBlock, hid, if_true]
      exact ⟨F1, η1, env1, σ1, s1, g1, r1, q1⟩
    · simp only [inBlock, hid, if_false] at q1
      simp only [Exit.inBlock, hid, if_false]
      exact ⟨F1, η1, env1, σ1, s1, g1, r1, q1⟩
  | normal => exact hp
  | goto l => exact hp
  | ret => exact hp
  | panic ch => exact hp
  | outgrown => exact hp

theorem ok_cond {c : Operand} {x y : Code} (h : ∃ b, aev X env c = .d (.s (.bool b)) ∧ (b = true → Ok X nt x Q env σ) ∧ (b = false → Ok X nt y Q env σ)) :
    Ok X nt (.cond c x y) Q env σ := by
  intro F η a w hg hr
  obtain ⟨b, hb, h1, h2⟩ := h
  have hv := aev_rel hg hr c
  rw [hb] at hv
  have he : a.eval c = .bool b := hv.s_inv
  exact wp_cond_split he (fun e => h1 e F η a w hg hr) (fun e => h2 e F η a w hg hr)

/-- A change of the description alone: memory stays. -/
def Turn (X : Cfg) (nt : Nat) (env : Env) (σ : St) (env' : Env) (σ' : St) : Prop :=
  ∀ (F : FH) (η : Et) (a : Act) (w : World), GRel X F → Rel F η nt env σ a w → ∃ F' η', Step F η σ w F' η' σ' w ∧ GRel X F' ∧ Rel F' η' nt env' σ' a w

theorem Turn.refl : Turn X nt env σ env σ := fun F η _ w hg hr => ⟨F, η, .refl _ _ _ _, hg, hr⟩
theorem Turn.trans {env1 env2 : Env} {σ1 σ2 : St} (h : Turn X nt env σ env1 σ1) (h' : Turn X nt env1 σ1 env2 σ2) : Turn X nt env σ env2 σ2 := by
  intro F η a w hg hr
  obtain ⟨F1, η1, s1, g1, r1⟩ := h F η a w hg hr
  obtain ⟨F2, η2, s2, g2, r2⟩ := h' F1 η1 a w g1 r1
  exact ⟨F2, η2, s1.trans s2, g2, r2⟩

theorem ok_turn {c : Code} {env' : Env} {σ' : St} (t : Turn X nt env σ env' σ') (h : Ok X nt c Q env' σ') : Ok X nt c Q env σ := by
  intro F η a w hg hr
  obtain ⟨F1, η1, s1, g1, r1⟩ := t F η a w hg hr
  exact wp_mono (h F1 η1 a w g1 r1) fun _ _ _ hp => hp.trans s1 fun _ _ h => h

/-- A loop: what holds at each round's head, with a measure that falls. -/
theorem ok_loop {c : Code} (I : Nat → Env → St → Prop) (n0 : Nat) (h0 : I n0 env σ)
    (round : ∀ n env σ, I n env σ → Ok X nt c (andThen (fun env σ => ∃ m, m < n ∧ I m env σ) Q) env σ) : Ok X nt (.loop c) Q env σ := by
  intro F0 η0 a0 w0 hg0 hr0
  let J : Act → World → Nat → Prop := fun a w n => ∃ F η env' σ', Step F0 η0 σ w0 F η σ' w ∧ GRel X F ∧ Rel F η nt env' σ' a w ∧ I n env' σ'
  intro b k cs
  have key : ∀ n a w, J a w n → ∃ e a' w', Post X nt F0 η0 σ w0 Q e a' w' ∧ Arrives X.P (lone (b.at a (.code c :: .inLoop c :: k)) cs w) b k cs e a' w' := by
    intro n
    induction n using Nat.strongRecOn with
    | _ n ih =>
      intro a w hJ
      obtain ⟨F, η, env', σ', hs, hg, hr, hI⟩ := hJ
      obtain ⟨e, a₁, w₁, hq, harr⟩ := round n env' σ' hI F η a w hg hr b (.inLoop c :: k) cs
      cases e with
      | normal =>
        obtain ⟨F1, η1, env1, σ1, s1, g1, r1, m, hm, hIm⟩ := hq
        obtain ⟨e₂, a₂, w₂, hq₂, harr₂⟩ := ih m hm a₁ w₁ ⟨F1, η1, env1, σ1, hs.trans s1, g1, r1, hIm⟩
        exact ⟨e₂, a₂, w₂, hq₂, .of_steps (Steps.trans harr (.one step_inLoop)) harr₂⟩
      | exit id => exact ⟨_, a₁, w₁, hq.trans hs (fun _ _ h => h), .pass (x := .inLoop c) rfl (fun _ _ => .inl (by simp)) harr⟩
      | goto l => exact ⟨_, a₁, w₁, hq.trans hs (fun _ _ h => h), .pass (x := .inLoop c) rfl (fun _ _ => .inl (by simp)) harr⟩
      | ret => exact ⟨_, a₁, w₁, hq.trans hs (fun _ _ h => h), .pass (x := .inLoop c) rfl (fun _ _ => .inl (by simp)) harr⟩
      | panic ch => exact ⟨_, a₁, w₁, hq.trans hs (fun _ _ h => h), .pass (x := .inLoop c) rfl (fun _ _ => .inl (by simp)) harr⟩
      | outgrown => exact ⟨_, a₁, w₁, hq.trans hs (fun _ _ h => h), .pass (x := .inLoop c) rfl (fun _ _ => .inl (by simp)) harr⟩
  obtain ⟨e, a', w', hq, harr⟩ := key n0 a0 w0 ⟨F0, η0, env, σ, .refl _ _ _ _, hg0, hr0, h0⟩
  exact ⟨e, a', w', hq, .of_steps (.one step_loop) harr⟩
end rules
end Go.Pm
