/- An abstract machine for proofs on Go programs of the model: data that nothing writes any more is a tree, what the call made itself is a numbered object. This text: the words (values, objects, how they stand for the model's memory) and how they carry over a step. -/
import Derived.WalkKit
import Derived.Laws.AppendOwn
import Derived.Laws.OwnMore
import Derived.KernelRfl
set_option linter.unusedVariables false
namespace Go.Pm

/-- A type, as far as the abstract machine looks at it. -/
inductive KD where
  | bool | int (k : IntKind) | string | ptr (e : TypeId) | slice (e : TypeId) | array (n : Nat) (e : TypeId) | map (k e : TypeId) | struct (fs : List (Nat × TypeId)) | func | iface | other
  deriving DecidableEq

def kindOf : TypeDesc → KD
  | .bool => .bool
  | .int k => .int k
  | .string => .string
  | .pointer e => .ptr e
  | .slice e => .slice e
  | .array n e => .array n e
  | .map k e => .map k e
  | .struct fs => .struct (fs.toList.map fun f => (f.offset, f.type))
  | .func _ _ _ => .func
  | .interface _ => .iface
  | _ => .other

def isAggK : KD → Bool
  | .struct _ => true
  | .array _ _ => true
  | _ => false

/-- Is the value a key of a map of this kind? -/
def keyFit : KD → Value → Bool
  | .string, .string _ => true
  | .int k, .int k' _ => k == k'
  | .bool, .bool _ => true
  | _, _ => false

def keyEq : Value → Value → Bool
  | .string a, .string b => decide (a = b)
  | .int _ a, .int _ b => decide (a = b)
  | .bool a, .bool b => a == b
  | _, _ => false

/-- Data that nothing writes any more. -/
inductive D where
  | s (v : Value)
  | im (rows : List (List D))
  | ip (cells : List D) (off : Nat)
  | mp (k : KD) (es : List (Value × D))

/-- An abstract value: data, or a reference to an object. -/
inductive AV where
  | d (x : D)
  | agg (cs : List AV)
  | tup (vs : List AV)
  | ref (i off : Nat)
  | sl (i v lo hi : Nat)
  | ep (i v k off : Nat)
  | mp (i : Nat)
  | it (i : Nat)
  | fn (f : FuncId) (caps : List AV)
  | ifc (t : TypeId) (x : AV)
  | any

/-- An object that the calls at hand own. -/
inductive AO where
  | var (cells : List AV)
  | row (v : Nat) (E : TypeId) (sz : Nat) (rows : List (List AV))
  | map (k : KD) (es : List (Value × AV))
  | iter (o : Obj)
  | box (τ : Nat → Option Obj)

structure St where
  obj : Nat → Option AO
  next : Nat

structure Hd where
  blk : Option Nat
  cap : Nat
  sz : Nat

structure Et where
  blk : Nat → Nat
  hdr : Nat → Hd

abbrev FH := Nat → Option Obj
abbrev Env := Nat → AV

def St.alloc (σ : St) (o : AO) : St := ⟨fun i => if i = σ.next then some o else σ.obj i, σ.next + 1⟩
def St.set (σ : St) (i : Nat) (o : AO) : St := ⟨fun j => if j = i then some o else σ.obj j, σ.next⟩
def St.bump (σ : St) : St := ⟨σ.obj, σ.next + 1⟩

def put (env : Env) (d : Option Nat) (v : AV) : Env :=
  match d with
  | some t => fun t' => if t' = t then v else env t'
  | none => env

theorem put_some (env : Env) (t t' : Nat) (v : AV) : put env (some t) v t' = if t' = t then v else env t' := rfl
theorem put_none (env : Env) (v : AV) : put env none v = env := rfl
theorem St.obj_alloc (σ : St) (o : AO) (i : Nat) : (σ.alloc o).obj i = if i = σ.next then some o else σ.obj i := rfl
theorem St.next_alloc (σ : St) (o : AO) : (σ.alloc o).next = σ.next + 1 := rfl
theorem St.obj_set (σ : St) (i : Nat) (o : AO) (j : Nat) : (σ.set i o).obj j = if j = i then some o else σ.obj j := rfl
theorem St.next_set (σ : St) (i : Nat) (o : AO) : (σ.set i o).next = σ.next := rfl
theorem St.obj_bump (σ : St) (i : Nat) : σ.bump.obj i = σ.obj i := rfl
theorem St.next_bump (σ : St) : σ.bump.next = σ.next + 1 := rfl

/-- How data stands in frozen memory. -/
inductive DRel (F : FH) : D → Value → Prop
  | s (v : Value) : DRel F (.s v) v
  | im0 (a : Option Addr) (cap : Nat) : DRel F (.im []) (.slice a 0 cap)
  | im (rows : List (List D)) (b o cap sz : Nat) (c : Array Value) (E : TypeId) (fz : Nat × Nat) (f : Nat → Nat → Value)
      (hb : F b = some (.cells c E fz)) (hcap : rows.length ≤ cap) (hsz : ∀ r ∈ rows, r.length = sz)
      (hc : ∀ k, k < rows.length → ∀ j, j < sz → c[o + k * sz + j]? = some (f k j))
      (ho : ∀ k, k < rows.length → ∀ j, j < sz → (f k j).oneCell' = true)
      (hr : ∀ k (h : k < rows.length) j (h' : j < (rows[k]).length), DRel F ((rows[k])[j]) (f k j)) :
      DRel F (.im rows) (.slice (some ⟨b, o, none⟩) rows.length cap)
  | ip (cells : List D) (off b o : Nat) (c : Array Value) (E : TypeId) (fz : Nat × Nat) (f : Nat → Value)
      (hb : F b = some (.cells c E fz)) (hc : ∀ j, j < cells.length → c[o + j]? = some (f j)) (ho : ∀ j, j < cells.length → (f j).oneCell' = true)
      (hr : ∀ j (h : j < cells.length), DRel F (cells[j]) (f j)) :
      DRel F (.ip cells off) (.pointer (some ⟨b, o + off, none⟩))
  | mp0 (kk : KD) : DRel F (.mp kk []) (.map none)
  | mp (kk : KD) (es : List (Value × D)) (r : Nat) (ents : Array MapEntry) (clock : Nat) (f : Nat → Value) (π : Nat → Nat)
      (hb : F r = some (.map ents clock)) (hn : ents.size = es.length) (hf : ∀ e ∈ es, keyFit kk e.1 = true)
      (hd : ∀ k k' (h : k < es.length) (h' : k' < es.length), keyEq es[k].1 es[k'].1 = true → k = k')
      (hk : ∀ k (h : k < es.length), (ents[π k]?).map (fun e => (e.key, e.val)) = some (es[k].1, f k))
      (hs : ∀ j, j < ents.size → ∃ k, k < es.length ∧ π k = j)
      (hr : ∀ k (h : k < es.length), DRel F (es[k].2) (f k)) :
      DRel F (.mp kk es) (.map (some r))

inductive VRel (F : FH) (η : Et) (n : Nat) : AV → Value → Prop
  | d {x : D} {v : Value} (h : DRel F x v) : VRel F η n (.d x) v
  | agg {cs : List AV} {vs : Array Value} (hn : vs.size = cs.length) (h : ∀ j (hj : j < cs.length), VRel F η n cs[j] (vs.getD j undef)) :
      VRel F η n (.agg cs) (.agg vs)
  | tup {cs : List AV} {vs : Array Value} (hn : vs.size = cs.length) (h : ∀ j (hj : j < cs.length), VRel F η n cs[j] (vs.getD j undef)) :
      VRel F η n (.tup cs) (.tuple vs)
  | ref {i off : Nat} (hi : i < n) : VRel F η n (.ref i off) (.pointer (some ⟨η.blk i, off, none⟩))
  | sl {i v lo hi b cap sz off : Nat} (h1 : i < n) (h2 : v < n) (hh : η.hdr v = ⟨some b, cap, sz⟩) (hle : lo ≤ hi) (hc : hi ≤ cap) (hoff : lo < cap → off = lo * sz) :
      VRel F η n (.sl i v lo hi) (.slice (some ⟨b, off, none⟩) (hi - lo) (cap - lo))
  | sl0 {i v cap sz : Nat} (hi : i < n) (hv : v < n) (hh : η.hdr v = ⟨none, cap, sz⟩) : VRel F η n (.sl i v 0 0) (.slice none 0 0)
  | ep {i v k off b cap sz : Nat} (hi : i < n) (hv : v < n) (hh : η.hdr v = ⟨some b, cap, sz⟩) :
      VRel F η n (.ep i v k off) (.pointer (some ⟨b, k * sz + off, none⟩))
  | mp {i : Nat} (hi : i < n) : VRel F η n (.mp i) (.map (some (η.blk i)))
  | it {i : Nat} (hi : i < n) : VRel F η n (.it i) (.pointer (some ⟨η.blk i, 0, none⟩))
  | fn {f : FuncId} {caps : List AV} {vs : Array Value} (hn : vs.size = caps.length) (h : ∀ j (hj : j < caps.length), VRel F η n caps[j] (vs.getD j undef)) :
      VRel F η n (.fn f caps) (.func (.func f) #[] vs)
  | ifc {t : TypeId} {x : AV} {v : Value} (h : VRel F η n x v) : VRel F η n (.ifc t x) (.iface t v)
  | any (v : Value) : VRel F η n .any v

theorem VRel.s_inv {F : FH} {η : Et} {n : Nat} {v u : Value} (h : VRel F η n (.d (.s v)) u) : u = v := by
  cases h with
  | d h => cases h; rfl

def FH.le (F F' : FH) : Prop := ∀ b o, F b = some o → F' b = some o
theorem FH.le_refl (F : FH) : F.le F := fun _ _ h => h
theorem FH.le_trans {F G H : FH} (h : F.le G) (h' : G.le H) : F.le H := fun b o hb => h' b o (h b o hb)

theorem DRel.mono {F F' : FH} (h : F.le F') {x : D} {v : Value} (hd : DRel F x v) : DRel F' x v := by
  induction hd with
  | s v => exact .s v
  | im0 a cap => exact .im0 a cap
  | im rows b o cap sz c E fz f hb hcap hsz hc ho _ ih => exact .im rows b o cap sz c E fz f (h _ _ hb) hcap hsz hc ho ih
  | ip cells off b o c E fz f hb hc ho _ ih => exact .ip cells off b o c E fz f (h _ _ hb) hc ho ih
  | mp0 kk => exact .mp0 kk
  | mp kk es r ents clock f π hb hn hf hd hk hs _ ih => exact .mp kk es r ents clock f π (h _ _ hb) hn hf hd hk hs ih

/-- The numbers below n mean the same. -/
def Et.agree (n : Nat) (η η' : Et) : Prop := ∀ i, i < n → η'.blk i = η.blk i ∧ η'.hdr i = η.hdr i
theorem Et.agree_refl (n : Nat) (η : Et) : η.agree n η := fun _ _ => ⟨rfl, rfl⟩
theorem Et.agree_trans {n m : Nat} {a b c : Et} (h : a.agree n b) (h' : b.agree m c) (hnm : n ≤ m) : a.agree n c :=
  fun i hi => ⟨((h' i (by omega)).1).trans (h i hi).1, ((h' i (by omega)).2).trans (h i hi).2⟩

theorem VRel.mono {F F' : FH} {η η' : Et} {n n' : Nat} (hF : F.le F') (hη : η.agree n η') (hn : n ≤ n') {x : AV} {v : Value} (h : VRel F η n x v) : VRel F' η' n' x v := by
  induction h with
  | d h => exact .d (h.mono hF)
  | agg h1 _ ih => exact .agg h1 ih
  | tup h1 _ ih => exact .tup h1 ih
  | @ref i off hi =>
    have := @VRel.ref F' η' n' i off (by omega)
    rwa [(hη i hi).1] at this
  | @sl i v lo hi b cap sz off h1 h2 hh hle hc hoff => exact .sl (by omega) (by omega) ((hη v h2).2.trans hh) hle hc hoff
  | @sl0 i v cap sz h1 h2 hh => exact .sl0 (by omega) (by omega) ((hη v h2).2.trans hh)
  | @ep i v k off b cap sz h1 h2 hh => exact .ep (by omega) (by omega) ((hη v h2).2.trans hh)
  | @mp i hi =>
    have := @VRel.mp F' η' n' i (by omega)
    rwa [(hη i hi).1] at this
  | @it i hi =>
    have := @VRel.it F' η' n' i (by omega)
    rwa [(hη i hi).1] at this
  | fn h1 _ ih => exact .fn h1 ih
  | ifc _ ih => exact .ifc ih
  | any v => exact .any v

def FRel (F : FH) (w : World) : Prop := ∀ b o, F b = some o → w.heap[b]? = some o

/-- The block that an object lies in. -/
def own (η : Et) (i : Nat) : AO → Option Nat
  | .row v _ _ _ => (η.hdr v).blk
  | .box _ => none
  | _ => some (η.blk i)
/-- The blocks that an object lies in: a box is many blocks, each known to the letter. -/
def Owns (η : Et) (i : Nat) : AO → Nat → Prop
  | .box τ, b => τ b ≠ none
  | o, b => own η i o = some b

def Hd.val (h : Hd) (n : Nat) : Value :=
  match h.blk with
  | some b => .slice (some ⟨b, 0, none⟩) n h.cap
  | none => .slice none 0 0

/-- How an object stands in memory. -/
inductive ORel (F : FH) (η : Et) (n : Nat) (w : World) (i : Nat) : AO → Prop
  | var {cells : List AV} (c : Array Value) (E : TypeId) (hb : w.heap[η.blk i]? = some (.cells c E (0, 0))) (hn : c.size = cells.length)
      (h1 : ∀ j, j < cells.length → (c.getD j undef).oneCell' = true) (h : ∀ j (hj : j < cells.length), VRel F η n cells[j] (c.getD j undef)) : ORel F η n w i (.var cells)
  | row {v : Nat} {E : TypeId} {sz : Nat} {rows : List (List AV)} (xs : List Value) (hv : v < n) (hs : (η.hdr v).sz = sz) (hp : 0 < sz)
      (ho : w.ownsRow 0 E sz ((η.hdr v).val rows.length) rows.length xs) (hsz : ∀ r ∈ rows, r.length = sz) (h1 : ∀ u ∈ xs, u.oneCell' = true)
      (h : ∀ k (hk : k < rows.length) j (hj : j < (rows[k]).length), VRel F η n ((rows[k])[j]) (xs.getD (k * sz + j) undef)) : ORel F η n w i (.row v E sz rows)
  | map {kk : KD} {es : List (Value × AV)} (ents : Array MapEntry) (clock : Nat) (hb : w.heap[η.blk i]? = some (.map ents clock)) (hn : ents.size = es.length) (hf : ∀ e ∈ es, keyFit kk e.1 = true)
      (hk : ∀ k (h : k < es.length), (ents[k]?).map (fun e => e.key) = some es[k].1)
      (hd : ∀ k k' (h : k < es.length) (h' : k' < es.length), keyEq es[k].1 es[k'].1 = true → k = k')
      (hb1 : ∀ k (h : k < ents.size), ents[k].born < clock) (hb2 : ∀ k k' (h : k < ents.size) (h' : k' < ents.size), ents[k].born = ents[k'].born → k = k')
      (h : ∀ k (h : k < es.length), VRel F η n es[k].2 ((ents[k]?.map (fun e => e.val)).getD undef)) : ORel F η n w i (.map kk es)
  | iter {o : Obj} (hb : w.heap[η.blk i]? = some o) : ORel F η n w i (.iter o)
  | box {τ : Nat → Option Obj} (hb : ∀ b o, τ b = some o → w.heap[b]? = some o) : ORel F η n w i (.box τ)

structure SRel (F : FH) (η : Et) (σ : St) (w : World) : Prop where
  lt : ∀ i o, σ.obj i = some o → i < σ.next
  ob : ∀ i o, σ.obj i = some o → ORel F η σ.next w i o
  ap : ∀ i j oi oj b, σ.obj i = some oi → σ.obj j = some oj → Owns η i oi b → Owns η j oj b → i = j
  fr : ∀ i o b, σ.obj i = some o → Owns η i o b → F b = none

/-- Blocks may come; the system and what was printed stay. -/
def More (w w' : World) : Prop := w.heap.size ≤ w'.heap.size ∧ w'.os = w.os ∧ w'.output = w.output
theorem More.refl (w : World) : More w w := ⟨Nat.le_refl _, rfl, rfl⟩
theorem More.trans {a b c : World} (h : More a b) (k : More b c) : More a c := ⟨Nat.le_trans h.1 k.1, k.2.1.trans h.2.1, k.2.2.trans h.2.2⟩

structure Step (F : FH) (η : Et) (σ : St) (w : World) (F' : FH) (η' : Et) (σ' : St) (w' : World) : Prop where
  fh : F.le F'
  et : η.agree σ.next η'
  nx : σ.next ≤ σ'.next
  gr : More w w'
  fm : ∀ b, b < w.heap.size → (∀ i o, σ.obj i = some o → ¬ Owns η i o b) → w'.heap[b]? = w.heap[b]?
  nw : ∀ i o b, σ'.obj i = some o → Owns η' i o b → b < w.heap.size → ∃ j oj, σ.obj j = some oj ∧ Owns η j oj b
  nf : ∀ b o, F' b = some o → b < w.heap.size → F b = some o ∨ ∃ j oj, σ.obj j = some oj ∧ Owns η j oj b

theorem Step.refl (F : FH) (η : Et) (σ : St) (w : World) : Step F η σ w F η σ w :=
  ⟨F.le_refl, Et.agree_refl _ _, Nat.le_refl _, .refl _, fun _ _ _ => rfl, fun i o _ h h' _ => ⟨i, o, h, h'⟩, fun _ _ h _ => .inl h⟩

theorem Step.trans {F F' F'' : FH} {η η' η'' : Et} {σ σ' σ'' : St} {w w' w'' : World} (h : Step F η σ w F' η' σ' w') (h' : Step F' η' σ' w' F'' η'' σ'' w'') :
    Step F η σ w F'' η'' σ'' w'' := by
  refine ⟨FH.le_trans h.fh h'.fh, Et.agree_trans h.et h'.et h.nx, Nat.le_trans h.nx h'.nx, h.gr.trans h'.gr, ?_, ?_, ?_⟩
  · intro b hb hno
    have h1 := h.fm b hb hno
    have hb' : b < w'.heap.size := Nat.lt_of_lt_of_le hb h.gr.1
    rw [h'.fm b hb' (fun i o hi ho => ?_), h1]
    obtain ⟨j, oj, hj, hoj⟩ := h.nw i o b hi ho hb
    exact hno j oj hj hoj
  · intro i o b hi ho hb
    obtain ⟨j, oj, hj, hoj⟩ := h'.nw i o b hi ho (Nat.lt_of_lt_of_le hb h.gr.1)
    exact h.nw j oj b hj hoj hb
  · intro b o hb hlt
    rcases h'.nf b o hb (Nat.lt_of_lt_of_le hlt h.gr.1) with h1 | ⟨j, oj, hj, hoj⟩
    · exact h.nf b o h1 hlt
    · exact .inr (h.nw j oj b hj hoj hlt)

structure TI where
  kind : KD
  size : Nat
  bytes : Nat
  zero : List Value
  eqok : Bool := false

/-- Two values of the struct can be compared cell by cell. -/
def Flat (P : Program) (t : TypeId) : Prop :=
  P.stoodInHeld t = false ∧ P.eqGuardType P.depth t = false ∧ ∃ fs, P.underlying t = some (.struct fs) ∧ ∀ f ∈ fs.toList, f.name ≠ "_"

/-- A program with its table of types and the frozen package-level variables. -/
structure Cfg where
  P : Program
  G : Nat → Option (List D)
  T : TypeId → Option TI
  ok : ∀ t ti, T t = some ti → ∃ d i z, P.underlying t = some d ∧ kindOf d = ti.kind ∧ P.info? t = some i ∧ i.size = ti.size ∧ i.bytes = ti.bytes ∧ i.zero = some z ∧
    z.cells = ti.zero.toArray ∧ ti.zero.length = ti.size ∧ ti.zero.all (·.oneCell') = true ∧ (isAggK ti.kind = false → z = ti.zero.headD undef) ∧ (isAggK ti.kind = true → z = .agg ti.zero.toArray)
  cl : ∀ t ti fs, T t = some ti → ti.kind = .struct fs → ∀ f ∈ fs, (T f.2).isSome = true
  eq : ∀ t ti, T t = some ti → ti.eqok = true → Flat P t

def GRel (X : Cfg) (F : FH) : Prop := ∀ g cells, X.G g = some cells → DRel F (.ip cells 0) (.pointer (some ⟨g, 0, none⟩)) ∧ ∃ c E fz, F g = some (.cells c E fz) ∧ c.size = cells.length
theorem GRel.mono {X : Cfg} {F F' : FH} (h : GRel X F) (hF : F.le F') : GRel X F' := fun g cells hg => by
  obtain ⟨h1, c, E, fz, h2, h3⟩ := h g cells hg
  exact ⟨h1.mono hF, c, E, fz, hF _ _ h2, h3⟩

structure Rel (F : FH) (η : Et) (nt : Nat) (env : Env) (σ : St) (a : Act) (w : World) : Prop where
  fr : FRel F w
  st : SRel F η σ w
  en : ∀ t, VRel F η σ.next (env t) (a.tmps.getD t undef)
  sz : a.tmps.size = nt
  df : a.defers = []

def aev (X : Cfg) (env : Env) : Operand → AV
  | .tmp t => env t
  | .const v => .d (.s v)
  | .global g => match X.G g with | some cells => .d (.ip cells 0) | none => .any
  | .func f => .d (.s (.func (.func f) #[] #[]))

theorem aev_rel {X : Cfg} {F : FH} {η : Et} {nt : Nat} {env : Env} {σ : St} {a : Act} {w : World} (hg : GRel X F) (h : Rel F η nt env σ a w) (x : Operand) :
    VRel F η σ.next (aev X env x) (a.eval x) := by
  cases x with
  | tmp t => exact h.en t
  | const v => exact .d (.s v)
  | global g =>
    simp only [aev, Act.eval]
    split
    · rename_i cells hc; exact .d (hg g cells hc).1
    · exact .any _
  | func f => exact .d (.s _)

inductive AEnd where
  | ret (r : AV)
  | pan (chain : List PanicEntry)

def EndRel (F : FH) (η : Et) (n : Nat) : AEnd → Ending → Prop
  | .ret r, .returned v => VRel F η n r v
  | .pan c, .panicked c' => c' = c
  | _, _ => False

/-- A function that has a body in the model. -/
def CallOk (P : Program) (f : FuncId) : Prop := ∃ fn, P.funcs[f]? = some fn ∧ (fn.name == "runtime.NumGoroutine") = false ∧ fn.body.isNone = false

/-- What one call comes to, in the words of the abstract machine. -/
def AFun (X : Cfg) (f : FuncId) (args : List AV) (σ : St) (K : AEnd → St → Prop) : Prop :=
  CallOk X.P f ∧ ∀ (F : FH) (η : Et) (w : World) (vals : Array Value), GRel X F → FRel F w → SRel F η σ w → vals.size = args.length →
    (∀ j (h : j < args.length), VRel F η σ.next args[j] (vals.getD j undef)) →
    Calls X.P f vals w fun e w' => ∃ F' η' σ' E, Step F η σ w F' η' σ' w' ∧ FRel F' w' ∧ SRel F' η' σ' w' ∧ EndRel F' η' σ'.next E e ∧ K E σ'

theorem AFun.mono {X : Cfg} {f : FuncId} {args : List AV} {σ : St} {K K' : AEnd → St → Prop} (h : AFun X f args σ K) (hk : ∀ E σ', K E σ' → K' E σ') : AFun X f args σ K' :=
  ⟨h.1, fun F η w vals hg hf hs hn hv => (h.2 F η w vals hg hf hs hn hv).mono fun _ _ ⟨F', η', σ', E, h1, h2, h3, h4, h5⟩ => ⟨F', η', σ', E, h1, h2, h3, h4, hk _ _ h5⟩⟩

/-- What is asked of the end of a piece of code. -/
def Post (X : Cfg) (nt : Nat) (F : FH) (η : Et) (σ : St) (w : World) (Q : Exit → Env → St → Prop) (e : Exit) (a' : Act) (w' : World) : Prop :=
  ∃ F' η' env' σ', Step F η σ w F' η' σ' w' ∧ GRel X F' ∧ Rel F' η' nt env' σ' a' w' ∧ Q e env' σ'

def Ok (X : Cfg) (nt : Nat) (c : Code) (Q : Exit → Env → St → Prop) (env : Env) (σ : St) : Prop :=
  ∀ (F : FH) (η : Et) (a : Act) (w : World), GRel X F → Rel F η nt env σ a w → c.wp X.P (Post X nt F η σ w Q) a w

theorem Post.trans {X : Cfg} {nt : Nat} {F F' : FH} {η η' : Et} {σ σ' : St} {w w' : World} {Q Q' : Exit → Env → St → Prop} {e : Exit} {a'' : Act} {w'' : World}
    (hs : Step F η σ w F' η' σ' w') (h : Post X nt F' η' σ' w' Q e a'' w'') (hq : ∀ env σ, Q e env σ → Q' e env σ) : Post X nt F η σ w Q' e a'' w'' := by
  obtain ⟨F1, η1, env1, σ1, s1, g1, r1, q1⟩ := h
  exact ⟨F1, η1, env1, σ1, hs.trans s1, g1, r1, hq _ _ q1⟩

section rules
variable {X : Cfg} {nt : Nat} {Q : Exit → Env → St → Prop} {env : Env} {σ : St}

theorem ok_skip (h : Q .normal env σ) : Ok X nt .skip Q env σ :=
  fun F η _ w hg hr => wp_skip ⟨F, η, env, σ, .refl _ _ _ _, hg, hr, h⟩
theorem ok_ret (h : Q .ret env σ) : Ok X nt .ret Q env σ :=
  fun F η _ w hg hr => wp_ret ⟨F, η, env, σ, .refl _ _ _ _, hg, hr, h⟩
theorem ok_exit {id : Nat} (h : Q (.exit id) env σ) : Ok X nt (.exit id) Q env σ :=
  fun F η _ w hg hr => wp_exit ⟨F, η, env, σ, .refl _ _ _ _, hg, hr, h⟩
theorem ok_mono {c : Code} {Q' : Exit → Env → St → Prop} (h : Ok X nt c Q env σ) (hq : ∀ e env σ, Q e env σ → Q' e env σ) : Ok X nt c Q' env σ :=
  fun F η a w hg hr => wp_mono (h F η a w hg hr) fun _ _ _ hp => hp.trans (.refl _ _ _ _) fun _ _ => hq _ _ _

/-- After the first piece comes the second. -/
def andThen (K : Env → St → Prop) (Q : Exit → Env → St → Prop) : Exit → Env → St → Prop
  | .normal, env, σ => K env σ
  | e, env, σ => Q e env σ

theorem ok_seq {x y : Code} (h : Ok X nt x (andThen (Ok X nt y Q) Q) env σ) : Ok X nt (.seq x y) Q env σ := by
  intro F η a w hg hr
  refine wp_seq (wp_mono (h F η a w hg hr) ?_)
  intro e a1 w1 hp
  cases e with
  | normal =>
    obtain ⟨F1, η1, env1, σ1, s1, g1, r1, q1⟩ := hp
    exact wp_mono (q1 F1 η1 a1 w1 g1 r1) fun e2 a2 w2 hp2 => hp2.trans s1 fun _ _ h => h
  | exit id => exact hp
  | goto l => exact hp
  | ret => exact hp
  | panic ch => exact hp
  | outgrown => exact hp

def inBlock (id : Nat) (Q : Exit → Env → St → Prop) : Exit → Env → St → Prop
  | .exit id', env, σ => if id' = id then Q .normal env σ else Q (.exit id') env σ
  | e, env, σ => Q e env σ

theorem ok_block {id : Nat} {c : Code} (h : Ok X nt c (inBlock id Q) env σ) : Ok X nt (.block id c) Q env σ := by
  intro F η a w hg hr
  refine wp_block (wp_mono (h F η a w hg hr) ?_)
  intro e a1 w1 hp
  cases e with
  | exit id' =>
    obtain ⟨F1, η1, env1, σ1, s1, g1, r1, q1⟩ := hp
    by_cases hid : id' = id
    · simp only [inBlock, hid, if_true] at q1
      simp only [Exit.inBlock, hid, if_true]
      exact ⟨F1, η1, env1, σ1, s1, g1, r1, q1⟩
    · simp only [inBlock, hid, if_false] at q1
      simp only [Exit.inBlock, hid, if_false]
      exact ⟨F1, η1, env1, σ1, s1, g1, r1, q1⟩
  | normal => exact hp
  | goto l => exact hp
  | ret => exact hp
  | panic ch => exact hp
  | outgrown => exact hp

theorem ok_cond {c : Operand} {x y : Code} (h : ∃ b, aev X env c = .d (.s (.bool b)) ∧ (b = true → Ok X nt x Q env σ) ∧ (b = false → Ok X nt y Q env σ)) :
    Ok X nt (.cond c x y) Q env σ := by
  intro F η a w hg hr
  obtain ⟨b, hb, h1, h2⟩ := h
  have hv := aev_rel hg hr c
  rw [hb] at hv
  have he : a.eval c = .bool b := hv.s_inv
  exact wp_cond_split he (fun e => h1 e F η a w hg hr) (fun e => h2 e F η a w hg hr)

/-- A change of the description alone: memory stays. -/
def Turn (X : Cfg) (nt : Nat) (env : Env) (σ : St) (env' : Env) (σ' : St) : Prop :=
  ∀ (F : FH) (η : Et) (a : Act) (w : World), GRel X F → Rel F η nt env σ a w → ∃ F' η', Step F η σ w F' η' σ' w ∧ GRel X F' ∧ Rel F' η' nt env' σ' a w

theorem Turn.refl : Turn X nt env σ env σ := fun F η _ w hg hr => ⟨F, η, .refl _ _ _ _, hg, hr⟩
theorem ok_turn {c : Code} {env' : Env} {σ' : St} (t : Turn X nt env σ env' σ') (h : Ok X nt c Q env' σ') : Ok X nt c Q env σ := by
  intro F η a w hg hr
  obtain ⟨F1, η1, s1, g1, r1⟩ := t F η a w hg hr
  exact wp_mono (h F1 η1 a w g1 r1) fun _ _ _ hp => hp.trans s1 fun _ _ h => h

/-- A loop: what holds at each round's head, with a measure that falls. -/
theorem ok_loop {c : Code} (I : Nat → Env → St → Prop) (n0 : Nat) (h0 : I n0 env σ)
    (round : ∀ n env σ, I n env σ → Ok X nt c (andThen (fun env σ => ∃ m, m < n ∧ I m env σ) Q) env σ) : Ok X nt (.loop c) Q env σ := by
  intro F0 η0 a0 w0 hg0 hr0
  let J : Act → World → Nat → Prop := fun a w n => ∃ F η env' σ', Step F0 η0 σ w0 F η σ' w ∧ GRel X F ∧ Rel F η nt env' σ' a w ∧ I n env' σ'
  intro b k cs
  have key : ∀ n a w, J a w n → ∃ e a' w', Post X nt F0 η0 σ w0 Q e a' w' ∧ Arrives X.P (lone (b.at a (.code c :: .inLoop c :: k)) cs w) b k cs e a' w' := by
    intro n
    induction n using Nat.strongRecOn with
    | _ n ih =>
      intro a w hJ
      obtain ⟨F, η, env', σ', hs, hg, hr, hI⟩ := hJ
      obtain ⟨e, a₁, w₁, hq, harr⟩ := round n env' σ' hI F η a w hg hr b (.inLoop c :: k) cs
      cases e with
      | normal =>
        obtain ⟨F1, η1, env1, σ1, s1, g1, r1, m, hm, hIm⟩ := hq
        obtain ⟨e₂, a₂, w₂, hq₂, harr₂⟩ := ih m hm a₁ w₁ ⟨F1, η1, env1, σ1, hs.trans s1, g1, r1, hIm⟩
        exact ⟨e₂, a₂, w₂, hq₂, .of_steps (Steps.trans harr (.one step_inLoop)) harr₂⟩
      | exit id => exact ⟨_, a₁, w₁, hq.trans hs (fun _ _ h => h), .pass (x := .inLoop c) rfl (fun _ _ => .inl (by simp)) harr⟩
      | goto l => exact ⟨_, a₁, w₁, hq.trans hs (fun _ _ h => h), .pass (x := .inLoop c) rfl (fun _ _ => .inl (by simp)) harr⟩
      | ret => exact ⟨_, a₁, w₁, hq.trans hs (fun _ _ h => h), .pass (x := .inLoop c) rfl (fun _ _ => .inl (by simp)) harr⟩
      | panic ch => exact ⟨_, a₁, w₁, hq.trans hs (fun _ _ h => h), .pass (x := .inLoop c) rfl (fun _ _ => .inl (by simp)) harr⟩
      | outgrown => exact ⟨_, a₁, w₁, hq.trans hs (fun _ _ h => h), .pass (x := .inLoop c) rfl (fun _ _ => .inl (by simp)) harr⟩
  obtain ⟨e, a', w', hq, harr⟩ := key n0 a0 w0 ⟨F0, η0, env, σ, .refl _ _ _ _, hg0, hr0, h0⟩
  exact ⟨e, a', w', hq, .of_steps (.one step_loop) harr⟩
end rules
end Go.Pm
/- The abstract machine, second text: how a step of memory carries the description over (a new object, a store into an object). -/
set_option linter.unusedVariables false
namespace Go.Pm

theorem own_row_blk {w : World} {E sz n : Nat} {h : Hd} {xs : List Value} (ho : w.ownsRow 0 E sz (h.val n) n xs) {b : Nat} (hb : h.blk = some b) :
    ∃ cur, w.heap[b]? = some (.cells cur E (0, 0)) ∧ n ≤ h.cap ∧ h.cap ≤ maxLen ∧ cur.size = h.cap * sz ∧ cur.toList.take (n * sz) = xs := by
  obtain ⟨_, ho⟩ := ho
  simp only [Hd.val, hb] at ho
  rcases ho with ⟨h, _⟩ | ⟨g, cap, cur, h, _, hg, h1, h2, h3, h4⟩
  · simp at h
  · simp only [Value.slice.injEq, Option.some.injEq, Addr.mk.injEq, and_true, true_and] at h
    obtain ⟨rfl, rfl⟩ := h
    exact ⟨cur, hg, h1, h2, h3, h4⟩

theorem own_row_nil {w : World} {E sz n : Nat} {h : Hd} {xs : List Value} (ho : w.ownsRow 0 E sz (h.val n) n xs) (hb : h.blk = none) : n = 0 := by
  obtain ⟨_, ho⟩ := ho
  simp only [Hd.val, hb] at ho
  rcases ho with ⟨_, h⟩ | ⟨g, cap, cur, h, _⟩
  · exact h
  · simp at h

theorem ORel.own_lt {F : FH} {η : Et} {n : Nat} {w : World} {i : Nat} {o : AO} (h : ORel F η n w i o) {b : Nat} (hb : Owns η i o b) : b < w.heap.size := by
  have key : ∀ {x : Obj}, w.heap[b]? = some x → b < w.heap.size := fun hx => (Array.getElem?_eq_some_iff.1 hx).1
  cases h with
  | var c E h1 h2 h2' h3 => simp only [Owns, own, Option.some.injEq] at hb; subst hb; exact key h1
  | row xs hv hs hp ho hsz h1 h => obtain ⟨cur, hg, _⟩ := own_row_blk ho hb; exact key hg
  | map ents clock h1 => simp only [Owns, own, Option.some.injEq] at hb; subst hb; exact key h1
  | iter h1 => simp only [Owns, own, Option.some.injEq] at hb; subst hb; exact key h1
  | @box τ h1 =>
    cases hx : τ b with
    | none => exact absurd hx hb
    | some x => exact key (h1 b x hx)

theorem ORel.own_agree {F : FH} {η η' : Et} {n : Nat} {w : World} {i : Nat} {o : AO} (h : ORel F η n w i o) (hi : i < n) (ha : η.agree n η') : Owns η' i o = Owns η i o := by
  cases h with
  | var => funext b; simp only [Owns, own]; rw [(ha i hi).1]
  | row xs hv => funext b; simp only [Owns, own]; rw [(ha _ hv).2]
  | map => funext b; simp only [Owns, own]; rw [(ha i hi).1]
  | iter => funext b; simp only [Owns, own]; rw [(ha i hi).1]
  | box => rfl

theorem ORel.mono {F F' : FH} {η η' : Et} {n n' : Nat} {w w' : World} {i : Nat} {o : AO} (h : ORel F η n w i o) (hi : i < n) (hF : F.le F') (ha : η.agree n η') (hn : n ≤ n')
    (hb : ∀ b, Owns η i o b → w'.heap[b]? = w.heap[b]?) : ORel F' η' n' w' i o := by
  cases h with
  | var c E h1 h2 h2' h3 =>
    refine .var c E ?_ h2 h2' fun j hj => (h3 j hj).mono hF ha hn
    rw [(ha i hi).1, hb _ rfl]; exact h1
  | @row v E sz rows xs hv hs hp ho hsz h1 h =>
    have hh := (ha _ hv).2
    refine .row xs (Nat.lt_of_lt_of_le hv hn) (by rw [hh]; exact hs) hp ?_ hsz h1 fun k hk j hj => (h k hk j hj).mono hF ha hn
    rw [hh]
    refine ⟨ho.1, ?_⟩
    rcases ho.2 with hx | ⟨g, cap, cur, hx, h0, hg, rest⟩
    · exact .inl hx
    · refine .inr ⟨g, cap, cur, hx, h0, ?_, rest⟩
      have : Owns η i (.row v E sz rows) g := by
        simp only [Owns, own]
        unfold Hd.val at hx
        cases hbk : (η.hdr v).blk with
        | none => simp [hbk] at hx
        | some b => simp [hbk] at hx; simp [hx.1]
      rw [hb _ this]; exact hg
  | map ents clock h1 h2 h2' h3 h3' h4 h5 h6 =>
    refine .map ents clock ?_ h2 h2' h3 h3' h4 h5 fun k hk => (h6 k hk).mono hF ha hn
    rw [(ha i hi).1, hb _ rfl]; exact h1
  | iter h1 => exact .iter (by rw [(ha i hi).1, hb _ rfl]; exact h1)
  | box h1 => exact .box fun b o h => by rw [hb b (by simp [Owns, h])]; exact h1 b o h

/-- One object is new or is written; all else stays. -/
theorem upd {F : FH} {η η' : Et} {σ : St} {w w' : World} (hf : FRel F w) (hs : SRel F η σ w) (i : Nat) (o : AO) (n' : Nat)
    (hi : i < n') (hn : σ.next ≤ n') (ha : η.agree σ.next η') (hsz : More w w')
    (hfr : ∀ b, b < w.heap.size → (∀ oi, σ.obj i = some oi → ¬ Owns η i oi b) → w'.heap[b]? = w.heap[b]?)
    (hob : ORel F η' n' w' i o)
    (hown : ∀ b, Owns η' i o b → b < w.heap.size → ∃ oi, σ.obj i = some oi ∧ Owns η i oi b) :
    Step F η σ w F η' ⟨fun j => if j = i then some o else σ.obj j, n'⟩ w' ∧ FRel F w' ∧ SRel F η' ⟨fun j => if j = i then some o else σ.obj j, n'⟩ w' := by
  have hoth : ∀ j oj b, j ≠ i → σ.obj j = some oj → Owns η j oj b → w'.heap[b]? = w.heap[b]? := by
    intro j oj b hji hj hb
    refine hfr b ((hs.ob j oj hj).own_lt hb) fun oi hoi hb' => hji (hs.ap j i oj oi b hj hoi hb hb')
  have hag : ∀ j oj, σ.obj j = some oj → Owns η' j oj = Owns η j oj := fun j oj hj => (hs.ob j oj hj).own_agree (hs.lt j oj hj) ha
  refine ⟨⟨F.le_refl, ha, hn, hsz, ?_, ?_, fun _ _ h _ => .inl h⟩, ?_, ⟨?_, ?_, ?_, ?_⟩⟩
  · exact fun b hb hno => hfr b hb fun oi hoi => hno i oi hoi
  · intro j oj b hj hb hlt
    by_cases hji : j = i
    · subst hji
      simp only [if_true, Option.some.injEq] at hj
      subst hj
      obtain ⟨oi, h1, h2⟩ := hown b hb hlt
      exact ⟨j, oi, h1, h2⟩
    · simp only [hji, if_false] at hj
      rw [hag j oj hj] at hb
      exact ⟨j, oj, hj, hb⟩
  · intro b ob hb
    have h1 := hf b ob hb
    have hlt : b < w.heap.size := (Array.getElem?_eq_some_iff.1 h1).1
    rw [hfr b hlt fun oi hoi hb' => ?_]
    · exact h1
    · have := hs.fr i oi b hoi hb'
      rw [hb] at this; cases this
  · intro j oj hj
    by_cases hji : j = i
    · subst hji; exact hi
    · simp only [hji, if_false] at hj
      exact Nat.lt_of_lt_of_le (hs.lt j oj hj) hn
  · intro j oj hj
    by_cases hji : j = i
    · subst hji
      simp only [if_true, Option.some.injEq] at hj
      subst hj
      exact hob
    · simp only [hji, if_false] at hj
      exact (hs.ob j oj hj).mono (hs.lt j oj hj) F.le_refl ha hn fun b hb => hoth j oj b hji hj hb
  · intro j k oj ok b hj hk hbj hbk
    by_cases hji : j = i
    · by_cases hki : k = i
      · omega
      · exfalso
        subst hji
        simp only [if_true, Option.some.injEq] at hj
        subst hj
        simp only [hki, if_false] at hk
        rw [hag k ok hk] at hbk
        obtain ⟨oi, h1, h2⟩ := hown b hbj ((hs.ob k ok hk).own_lt hbk)
        exact hki (hs.ap k j ok oi b hk h1 hbk h2)
    · simp only [hji, if_false] at hj
      rw [hag j oj hj] at hbj
      by_cases hki : k = i
      · exfalso
        subst hki
        simp only [if_true, Option.some.injEq] at hk
        subst hk
        obtain ⟨oi, h1, h2⟩ := hown b hbk ((hs.ob j oj hj).own_lt hbj)
        exact hji (hs.ap j k oj oi b hj h1 hbj h2)
      · simp only [hki, if_false] at hk
        rw [hag k ok hk] at hbk
        exact hs.ap j k oj ok b hj hk hbj hbk
  · intro j oj b hj hb
    by_cases hlt : b < w.heap.size
    · by_cases hji : j = i
      · subst hji
        simp only [if_true, Option.some.injEq] at hj
        subst hj
        obtain ⟨oi, h1, h2⟩ := hown b hb hlt
        exact hs.fr j oi b h1 h2
      · simp only [hji, if_false] at hj
        rw [hag j oj hj] at hb
        exact hs.fr j oj b hj hb
    · cases hF : F b with
      | none => rfl
      | some ob => exact absurd (Array.getElem?_eq_some_iff.1 (hf b ob hF)).1 hlt

/-- η with a new block for number n. -/
def Et.withBlk (η : Et) (n b : Nat) : Et := ⟨fun i => if i = n then b else η.blk i, η.hdr⟩
def Et.withHdr (η : Et) (n : Nat) (h : Hd) : Et := ⟨η.blk, fun i => if i = n then h else η.hdr i⟩
theorem Et.agree_withBlk (η : Et) (n b : Nat) : η.agree n (η.withBlk n b) :=
  fun i hi => ⟨by simp [Et.withBlk, Nat.ne_of_lt hi], rfl⟩
theorem Et.agree_withHdr (η : Et) (n : Nat) (h : Hd) : η.agree n (η.withHdr n h) :=
  fun i hi => ⟨rfl, by simp [Et.withHdr, Nat.ne_of_lt hi]⟩

/-- A new variable. -/
theorem new_var {F : FH} {η : Et} {σ : St} {w : World} (hf : FRel F w) (hs : SRel F η σ w) (cells : List AV) (c : Array Value) (E : TypeId) (hn : c.size = cells.length) (h1 : ∀ j, j < cells.length → (c.getD j undef).oneCell' = true)
    (h : ∀ j (hj : j < cells.length), VRel F η σ.next cells[j] (c.getD j undef)) :
    ∃ η', Step F η σ w F η' (σ.alloc (.var cells)) (w.alloc (.cells c E)) ∧ FRel F (w.alloc (.cells c E)) ∧ SRel F η' (σ.alloc (.var cells)) (w.alloc (.cells c E)) ∧
      η'.blk σ.next = w.heap.size := by
  have ha := Et.agree_withBlk η σ.next w.heap.size
  have hnone : ∀ oi, σ.obj σ.next = some oi → False := fun oi ho => Nat.lt_irrefl _ (hs.lt _ _ ho)
  have hblk : (η.withBlk σ.next w.heap.size).blk σ.next = w.heap.size := by simp [Et.withBlk]
  obtain ⟨g1, g2, g3⟩ := upd (η' := η.withBlk σ.next w.heap.size) (w' := w.alloc (.cells c E)) hf hs σ.next (.var cells) (σ.next + 1) (Nat.lt_succ_self _) (Nat.le_succ _) ha ⟨by simp, rfl, rfl⟩
    (fun b hb _ => heap_alloc_old w _ hb)
    (.var c E (by rw [hblk]; exact heap_alloc_new w _) hn h1 fun j hj => (h j hj).mono F.le_refl ha (Nat.le_succ _))
    (fun b hb hlt => by simp only [Owns, own, hblk, Option.some.injEq] at hb; omega)
  exact ⟨_, g1, g2, g3, hblk⟩

/-- A new row in a new block. -/
theorem new_row {F : FH} {η : Et} {σ : St} {w : World} (hf : FRel F w) (hs : SRel F η σ w) (E sz : Nat) (rows : List (List AV)) (c : Array Value) (cap : Nat)
    (hp : 0 < sz) (hcap : cap ≤ maxLen) (hc : c.size = cap * sz) (hle : rows.length ≤ cap) (hsz : ∀ r ∈ rows, r.length = sz) (h1 : ∀ j, j < rows.length * sz → (c.getD j undef).oneCell' = true)
    (h : ∀ k (hk : k < rows.length) j (hj : j < (rows[k]).length), VRel F η σ.next ((rows[k])[j]) (c.getD (k * sz + j) undef)) :
    ∃ η', Step F η σ w F η' (σ.alloc (.row σ.next E sz rows)) (w.alloc (.cells c E)) ∧ FRel F (w.alloc (.cells c E)) ∧ SRel F η' (σ.alloc (.row σ.next E sz rows)) (w.alloc (.cells c E)) ∧
      η'.hdr σ.next = ⟨some w.heap.size, cap, sz⟩ := by
  have ha := Et.agree_withHdr η σ.next ⟨some w.heap.size, cap, sz⟩
  have hh : (η.withHdr σ.next ⟨some w.heap.size, cap, sz⟩).hdr σ.next = ⟨some w.heap.size, cap, sz⟩ := by simp [Et.withHdr]
  have hlen : ∀ k, k < rows.length → ∀ j, j < sz → k * sz + j < rows.length * sz := by
    intro k hk j hj
    calc k * sz + j < k * sz + sz := by omega
      _ = (k + 1) * sz := by rw [Nat.add_mul, Nat.one_mul]
      _ ≤ rows.length * sz := Nat.mul_le_mul_right _ hk
  obtain ⟨g1, g2, g3⟩ := upd (η' := η.withHdr σ.next ⟨some w.heap.size, cap, sz⟩) (w' := w.alloc (.cells c E)) hf hs σ.next (.row σ.next E sz rows) (σ.next + 1) (Nat.lt_succ_self _) (Nat.le_succ _) ha ⟨by simp, rfl, rfl⟩
    (fun b hb _ => heap_alloc_old w _ hb)
    (.row (c.toList.take (rows.length * sz)) (Nat.lt_succ_self _) (by rw [hh]) hp
      (by
        rw [hh]
        refine ⟨?_, .inr ⟨w.heap.size, cap, c, rfl, Nat.zero_le _, heap_alloc_new w _, hle, hcap, hc, rfl⟩⟩
        have := Nat.mul_le_mul_right sz hle
        simp only [List.length_take, Array.length_toList]
        omega)
      hsz
      (fun u hu => by
        obtain ⟨j, hj, rfl⟩ := List.mem_iff_getElem.1 hu
        have hj2 : j < rows.length * sz := by simp only [List.length_take] at hj; omega
        have hj3 : j < c.size := by simp only [List.length_take, Array.length_toList] at hj; omega
        have := h1 j hj2
        simpa [Array.getD, hj3] using this)
      (fun k hk j hj => by
        have hj' : j < sz := by rw [← hsz _ (List.getElem_mem hk)]; exact hj
        have := (h k hk j hj).mono F.le_refl ha (Nat.le_succ σ.next)
        have e : (c.toList.take (rows.length * sz)).getD (k * sz + j) undef = c.getD (k * sz + j) undef := by
          simp [List.getD, hlen k hk j hj']
        rw [e]; exact this))
    (fun b hb hlt => by simp only [Owns, own, hh, Option.some.injEq] at hb; omega)
  exact ⟨_, g1, g2, g3, hh⟩

/-- A nil slice, from now on an object without elements. -/
theorem new_nil {F : FH} {η : Et} {σ : St} {w : World} (hf : FRel F w) (hs : SRel F η σ w) (E sz : Nat) (hp : 0 < sz) :
    ∃ η', Step F η σ w F η' (σ.alloc (.row σ.next E sz [])) w ∧ FRel F w ∧ SRel F η' (σ.alloc (.row σ.next E sz [])) w ∧ η'.hdr σ.next = ⟨none, 0, sz⟩ := by
  have ha := Et.agree_withHdr η σ.next ⟨none, 0, sz⟩
  have hh : (η.withHdr σ.next ⟨none, 0, sz⟩).hdr σ.next = ⟨none, 0, sz⟩ := by simp [Et.withHdr]
  obtain ⟨h1, h2, h3⟩ := upd (η' := η.withHdr σ.next ⟨none, 0, sz⟩) (w' := w) hf hs σ.next (.row σ.next E sz []) (σ.next + 1) (Nat.lt_succ_self _) (Nat.le_succ _) ha (.refl _)
    (fun b hb _ => rfl)
    (.row [] (Nat.lt_succ_self _) (by rw [hh]) hp (by rw [hh]; exact World.ownsRow_nil w 0 E sz) (by simp) (by simp) (fun k hk => by simp at hk))
    (fun b hb hlt => by simp [Owns, own, hh] at hb)
  exact ⟨_, h1, h2, h3, hh⟩

theorem Step.drew {F : FH} {η : Et} {σ : St} {w : World} : Step F η σ w F η σ w.drew :=
  ⟨F.le_refl, Et.agree_refl _ _, Nat.le_refl _, ⟨Nat.le_refl _, rfl, rfl⟩, fun _ _ _ => rfl, fun i o _ h h' _ => ⟨i, o, h, h'⟩, fun _ _ h _ => .inl h⟩
theorem SRel.drew {F : FH} {η : Et} {σ : St} {w : World} (h : SRel F η σ w) : SRel F η σ w.drew :=
  ⟨h.lt, fun i o ho => (h.ob i o ho).mono (h.lt i o ho) F.le_refl (Et.agree_refl _ _) (Nat.le_refl _) fun _ _ => rfl, h.ap, h.fr⟩
theorem FRel.drew {F : FH} {w : World} (h : FRel F w) : FRel F w.drew := h

theorem owns_own {η : Et} {i : Nat} {o : AO} {b x : Nat} (h : own η i o = some b) : Owns η i o x ↔ x = b := by
  cases o <;> first | (simp [own] at h; done) | (simp only [Owns]; rw [h]; simp only [Option.some.injEq]; exact eq_comm)
/-- A store into a block that stands for one object. -/
theorem set_row_block {F : FH} {η : Et} {σ : St} {w : World} (hf : FRel F w) (hs : SRel F η σ w) {i : Nat} {oi o : AO} {b : Nat} (hi : σ.obj i = some oi) (hb : own η i oi = some b) (hb' : own η i o = some b)
    (cs : Array Value) (hob : ORel F η σ.next (w.setRow b cs) i o) :
    Step F η σ w F η (σ.set i o) (w.setRow b cs) ∧ FRel F (w.setRow b cs) ∧ SRel F η (σ.set i o) (w.setRow b cs) :=
  upd (η' := η) hf hs i o σ.next (hs.lt i oi hi) (Nat.le_refl _) (Et.agree_refl _ _) ⟨by simp, rfl, rfl⟩
    (fun b1 _ hno => setRow_other w b b1 cs fun e => hno oi hi ((owns_own hb).2 e))
    hob (fun b1 hb1 _ => ⟨oi, hi, (owns_own hb).2 ((owns_own hb').1 hb1)⟩)
end Go.Pm
/- The abstract machine, third text: loads, stores, new variables and rows. -/
set_option linter.unusedVariables false
set_option linter.unusedSimpArgs false
namespace Go.Pm

def AV.cells : AV → Option (List AV)
  | .agg cs => some cs
  | .d (.s (.agg vs)) => some (vs.toList.map fun v => .d (.s v))
  | .tup _ => none
  | .any => none
  | x => some [x]

def AV.one : AV → Bool
  | .d (.s v) => v.oneCell'
  | .agg _ => false
  | .tup _ => false
  | .any => false
  | _ => true

theorem cells_rel {F : FH} {η : Et} {n : Nat} {x : AV} {v : Value} {cs : List AV} (h : VRel F η n x v) (hc : x.cells = some cs) :
    v.cells.size = cs.length ∧ ∀ j (hj : j < cs.length), VRel F η n cs[j] (v.cells.getD j undef) := by
  have one : ∀ {y : AV} {u : Value}, VRel F η n y u → (∀ vs, u ≠ .agg vs) → cs = [y] → u.cells.size = cs.length ∧ ∀ j (hj : j < cs.length), VRel F η n cs[j] (u.cells.getD j undef) := by
    intro y u hy hu he
    subst he
    have hcu : u.cells = #[u] := by cases u <;> first | rfl | exact absurd rfl (hu _)
    rw [hcu]
    refine ⟨rfl, fun j hj => ?_⟩
    have : j = 0 := by simp at hj; exact hj
    subst this
    exact hy
  cases h with
  | @d x v hd =>
    cases hd with
    | s v =>
      cases v with
      | agg vs =>
        simp only [AV.cells, Option.some.injEq] at hc
        subst hc
        refine ⟨by simp [Value.cells], fun j hj => ?_⟩
        simp only [List.length_map, Array.length_toList] at hj
        simp only [List.getElem_map, Array.getElem_toList, Value.cells]
        rw [Array.getD, dif_pos hj]
        exact .d (.s _)
      | _ => exact one (.d (.s _)) (by intro vs h; cases h) (by simpa [AV.cells] using hc.symm)
    | im0 a cap => exact one (.d (.im0 a cap)) (by intro vs h; cases h) (by simpa [AV.cells] using hc.symm)
    | im rows b o cap sz c E fz f hb hcap hsz hc' ho hr => exact one (.d (.im rows b o cap sz c E fz f hb hcap hsz hc' ho hr)) (by intro vs h; cases h) (by simpa [AV.cells] using hc.symm)
    | ip cells off b o c E fz f hb hc' ho hr => exact one (.d (.ip cells off b o c E fz f hb hc' ho hr)) (by intro vs h; cases h) (by simpa [AV.cells] using hc.symm)
    | mp0 kk => exact one (.d (.mp0 kk)) (by intro vs h; cases h) (by simpa [AV.cells] using hc.symm)
    | mp kk es r ents clock f π hb hn hff hdd hk hsu hr => exact one (.d (.mp kk es r ents clock f π hb hn hff hdd hk hsu hr)) (by intro vs h; cases h) (by simpa [AV.cells] using hc.symm)
  | agg hn h =>
    simp only [AV.cells, Option.some.injEq] at hc
    subst hc
    exact ⟨hn, h⟩
  | tup hn h => simp [AV.cells] at hc
  | ref h1 => exact one (.ref h1) (by intro vs h; cases h) (by simpa [AV.cells] using hc.symm)
  | sl h1 h2 h3 h4 h5 h6 => exact one (.sl h1 h2 h3 h4 h5 h6) (by intro vs h; cases h) (by simpa [AV.cells] using hc.symm)
  | sl0 h1 h2 h3 => exact one (.sl0 h1 h2 h3) (by intro vs h; cases h) (by simpa [AV.cells] using hc.symm)
  | ep h1 h2 h3 => exact one (.ep h1 h2 h3) (by intro vs h; cases h) (by simpa [AV.cells] using hc.symm)
  | mp h1 => exact one (.mp h1) (by intro vs h; cases h) (by simpa [AV.cells] using hc.symm)
  | it h1 => exact one (.it h1) (by intro vs h; cases h) (by simpa [AV.cells] using hc.symm)
  | fn h1 h2 => exact one (.fn h1 h2) (by intro vs h; cases h) (by simpa [AV.cells] using hc.symm)
  | ifc h1 => exact one (.ifc h1) (by intro vs h; cases h) (by simpa [AV.cells] using hc.symm)
  | any v => simp [AV.cells] at hc

theorem one_rel {F : FH} {η : Et} {n : Nat} {x : AV} {v : Value} (h : VRel F η n x v) (hc : x.one = true) : v.oneCell' = true := by
  cases h with
  | d hd =>
    cases hd with
    | s v => exact hc
    | _ => rfl
  | agg hn h => simp [AV.one] at hc
  | tup hn h => simp [AV.one] at hc
  | any v => simp [AV.one] at hc
  | _ => rfl

theorem run_isAgg {P : Program} {t : TypeId} {d : TypeDesc} (h : P.underlying t = some d) (w : World) : (isAgg t).run P w = .ok (isAggK (kindOf d)) w := by
  unfold isAgg
  rw [Sem.run_bind, run_underlying h w]
  cases d <;> rfl

theorem run_sizeOf {P : Program} {t : TypeId} {i : TypeInfo} (h : P.info? t = some i) (w : World) : (sizeOf t).run P w = .ok i.size w := by
  simp [sizeOf, typeInfo, h]

def piece (ag : Bool) (cells : List AV) (off size : Nat) : Option AV :=
  if ag then (if off + size ≤ cells.length then some (.agg ((cells.drop off).take size)) else none) else cells[off]?

theorem getD_append_range (f : Nat → Value) (n j : Nat) (hj : j < n) : (((List.range n).map f).toArray).getD j undef = f j := by
  simp [Array.getD, hj]

/-- A load from cells that are known. -/
theorem run_loadVar_at {P : Program} {F : FH} {η : Et} {n : Nat} {w : World} {t : TypeId} {d : TypeDesc} {i : TypeInfo} (hu : P.underlying t = some d) (hi : P.info? t = some i)
    {cells : List AV} {b o off : Nat} {f : Nat → Value} (hc : ∀ j, j < cells.length → w.cell? ⟨b, o + j, none⟩ = some (f j))
    (hr : ∀ j (h : j < cells.length), VRel F η n cells[j] (f j)) {r : AV} (hp : piece (isAggK (kindOf d)) cells off i.size = some r) :
    ∃ v, (loadVar t ⟨b, o + off, none⟩).run P w = .ok v w ∧ VRel F η n r v := by
  unfold piece at hp
  cases hd : isAggK (kindOf d) with
  | true =>
    simp only [hd, if_true] at hp
    split at hp
    · rename_i hle
      simp only [Option.some.injEq] at hp
      subst hp
      have hl : (loadCells ⟨b, o + off, none⟩ i.size).run P w = .ok ((List.range i.size).map fun j => f (off + j)).toArray w :=
        run_loadCells w ⟨b, o + off, none⟩ i.size (fun j => f (off + j)) (fun j hj => by rw [Addr.add_lit, Nat.add_assoc]; exact hc (off + j) (by omega))
      refine ⟨.agg ((List.range i.size).map fun j => f (off + j)).toArray, by simp only [loadVar, Sem.run_bind, run_isAgg hu, Result.andThen_ok, hd, if_true, run_sizeOf hi, hl, Sem.run_pure], ?_⟩
      refine .agg (by simp; omega) fun j hj => ?_
      simp only [List.length_take, List.length_drop] at hj
      rw [getD_append_range _ _ _ (by omega)]
      have := hr (off + j) (by omega)
      simpa using this
    · simp at hp
  | false =>
    simp only [hd, Bool.false_eq_true, if_false] at hp
    obtain ⟨hlt, rfl⟩ := List.getElem?_eq_some_iff.1 hp
    refine ⟨f off, ?_, hr off hlt⟩
    simp only [loadVar, Sem.run_bind, run_isAgg hu, Result.andThen_ok, hd, Bool.false_eq_true, if_false, run_load, hc off hlt]

/-- The cells behind a pointer, and where in them it points. -/
def behind (σ : St) : AV → Option (List AV × Nat)
  | .ref i off => match σ.obj i with | some (.var cells) => some (cells, off) | _ => none
  | .ep i v k off => match σ.obj i with | some (.row v' _ _ rows) => if v = v' then (rows[k]?).map fun r => (r, off) else none | _ => none
  | .d (.ip cells off) => some (cells.map .d, off)
  | _ => none

theorem behind_rel {F : FH} {η : Et} {σ : St} {w : World} (hf : FRel F w) (hs : SRel F η σ w) {p : AV} {vp : Value} (hp : VRel F η σ.next p vp) {cells : List AV} {off : Nat}
    (hb : behind σ p = some (cells, off)) :
    ∃ (b o : Nat) (f : Nat → Value), vp = .pointer (some ⟨b, o + off, none⟩) ∧ (∀ j, j < cells.length → w.cell? ⟨b, o + j, none⟩ = some (f j)) ∧ ∀ j (h : j < cells.length), VRel F η σ.next cells[j] (f j) := by
  cases hp with
  | @ref i off' h1 =>
    simp only [behind] at hb
    split at hb
    · rename_i cs ho
      simp only [Option.some.injEq, Prod.mk.injEq] at hb
      obtain ⟨rfl, rfl⟩ := hb
      cases hs.ob i _ ho with
      | var c E hbk hn ho1 h =>
        refine ⟨η.blk i, 0, fun j => c.getD j undef, by simp, fun j hj => ?_, h⟩
        rw [cell_of_row w _ _ _ _ _ hbk]
        simp [Array.getD, hn, hj]
    · simp at hb
  | @ep i v k off' b cap sz h1 h2 hh =>
    simp only [behind] at hb
    split at hb
    · rename_i v' E sz' rows ho
      split at hb
      · rename_i hv
        subst hv
        cases hk : rows[k]? with
        | none => simp [hk] at hb
        | some r =>
          simp only [hk, Option.map_some, Option.some.injEq, Prod.mk.injEq] at hb
          obtain ⟨rfl, rfl⟩ := hb
          obtain ⟨hklt, rfl⟩ := List.getElem?_eq_some_iff.1 hk
          cases hs.ob i _ ho with
          | row xs hv hs' hpos hown hsz ho1 h =>
            obtain ⟨cur, hg, hle, hmx, hcs, htk⟩ := own_row_blk hown (b := b) (by rw [hh])
            have hsz' : sz' = sz := by rw [← hs', hh]
            subst hsz'
            have hlen : (rows[k]).length = sz' := hsz _ (List.getElem_mem hklt)
            have hin : ∀ j, j < sz' → k * sz' + j < rows.length * sz' := by
              intro j hj
              have : (k + 1) * sz' ≤ rows.length * sz' := Nat.mul_le_mul_right _ hklt
              rw [Nat.add_mul, Nat.one_mul] at this
              omega
            have hmul : rows.length * sz' ≤ cur.size := by rw [hcs]; exact Nat.mul_le_mul_right _ (by rw [hh] at hle ⊢; exact hle)
            refine ⟨b, k * sz', fun j => xs.getD (k * sz' + j) undef, rfl, fun j hj => ?_, fun j hj => h k hklt j hj⟩
            rw [cell_of_row w _ _ _ _ _ hg]
            have hj' : k * sz' + j < rows.length * sz' := hin j (by omega)
            have : xs[k * sz' + j]? = cur[k * sz' + j]? := by rw [← htk]; simp [List.getElem?_take, hj']
            simp only [List.getD, this]
            rw [Array.getElem?_eq_getElem (by omega)]
            rfl
      · simp at hb
    · simp at hb
  | d hd =>
    cases hd with
    | ip cs off' b o c E fz f hbk hc ho hr =>
      simp only [behind, Option.some.injEq, Prod.mk.injEq] at hb
      obtain ⟨rfl, rfl⟩ := hb
      refine ⟨b, o, f, rfl, fun j hj => ?_, fun j hj => ?_⟩
      · rw [cell_of_row w _ _ _ _ _ (hf _ _ hbk)]; exact hc j (by simpa using hj)
      · simp only [List.getElem_map]; exact .d (hr j (by simpa using hj))
    | _ => simp [behind] at hb
  | _ => simp [behind] at hb

/-- How an operation went. -/
def OpOk (X : Cfg) (F : FH) (η : Et) (σ : St) (w : World) (r : Result Next) (K : AV → St → Prop) : Prop :=
  ∃ nx v w' F' η' σ' x, r = .ok nx w' ∧ (nx = .value v ∨ (nx = .skip ∧ v = undef)) ∧ Step F η σ w F' η' σ' w' ∧ GRel X F' ∧ FRel F' w' ∧ SRel F' η' σ' w' ∧ VRel F' η' σ'.next x v ∧ K x σ'

theorem OpOk.same {X : Cfg} {F : FH} {η : Et} {σ : St} {w : World} {r : Result Next} {K : AV → St → Prop} (hg : GRel X F) (hf : FRel F w) (hs : SRel F η σ w) {v : Value} {x : AV}
    (hr : r = .ok (.value v) w) (hv : VRel F η σ.next x v) (hk : K x σ) : OpOk X F η σ w r K :=
  ⟨_, v, w, F, η, σ, x, hr, .inl rfl, .refl _ _ _ _, hg, hf, hs, hv, hk⟩

section ops
variable {X : Cfg} {F : FH} {η : Et} {σ : St} {w : World} {K : AV → St → Prop}

def aload (X : Cfg) (t : TypeId) (p : AV) (σ : St) (K : AV → St → Prop) : Prop :=
  ∃ ti, X.T t = some ti ∧ ∃ co, behind σ p = some co ∧ ∃ r, piece (isAggK ti.kind) co.1 co.2 ti.size = some r ∧ K r σ

theorem aload_ok (hg : GRel X F) (hf : FRel F w) (hs : SRel F η σ w) {t : TypeId} {p : AV} {vp : Value} (hp : VRel F η σ.next p vp) (h : aload X t p σ K) :
    ∃ v r, (Instr.loadAt t vp).run X.P w = .ok v w ∧ VRel F η σ.next r v ∧ K r σ := by
  obtain ⟨ti, ht, ⟨cells, off⟩, hb, r, hr, hk⟩ := h
  obtain ⟨d, i, z, hu, hd, hi, hsz, _⟩ := X.ok t ti ht
  obtain ⟨b, o, f, rfl, hc, hrel⟩ := behind_rel hf hs hp hb
  rw [← hsz, ← hd] at hr
  obtain ⟨v, hv, hvr⟩ := run_loadVar_at hu hi hc hrel hr
  exact ⟨v, r, by simpa [Instr.loadAt, Instr.sureAddr] using hv, hvr, hk⟩

def splice (cells : List AV) (off : Nat) (cs : List AV) : List AV := cells.take off ++ cs ++ cells.drop (off + cs.length)

def astore (X : Cfg) (t : TypeId) (p x : AV) (σ : St) (K : AV → St → Prop) : Prop :=
  ∃ ti, X.T t = some ti ∧ ∃ cs, x.cells = some cs ∧ cs.length = ti.size ∧ cs.all AV.one = true ∧
    match p with
    | .ref i off => ∃ cells, σ.obj i = some (.var cells) ∧ off + ti.size ≤ cells.length ∧ K (.d (.s undef)) (σ.set i (.var (splice cells off cs)))
    | .ep i v k off => ∃ E sz rows, σ.obj i = some (.row v E sz rows) ∧ ∃ r, rows[k]? = some r ∧ off + ti.size ≤ r.length ∧
        K (.d (.s undef)) (σ.set i (.row v E sz (rows.set k (splice r off cs))))
    | _ => False

theorem splice_length {cells cs : List AV} {off : Nat} (h : off + cs.length ≤ cells.length) : (splice cells off cs).length = cells.length := by
  simp only [splice, List.length_append, List.length_take, List.length_drop]; omega

theorem splice_get {cells cs : List AV} {off : Nat} (h : off + cs.length ≤ cells.length) (j : Nat) (hj : j < (splice cells off cs).length) :
    (∃ (h1 : off ≤ j) (h2 : j - off < cs.length), (splice cells off cs)[j] = cs[j - off]) ∨
    (∃ (h1 : j < cells.length), (j < off ∨ off + cs.length ≤ j) ∧ (splice cells off cs)[j] = cells[j]) := by
  have hl := splice_length h
  unfold splice at hj ⊢
  by_cases h1 : j < off
  · right
    refine ⟨by omega, .inl h1, ?_⟩
    rw [List.getElem_append_left (by simp; omega), List.getElem_append_left (by simp; omega)]
    simp
  · by_cases h2 : j < off + cs.length
    · left
      refine ⟨by omega, by omega, ?_⟩
      rw [List.getElem_append_left (by simp; omega), List.getElem_append_right (by simp; omega)]
      simp [Nat.min_eq_left (show off ≤ cells.length by omega)]
    · right
      have hjc : j < cells.length := by unfold splice at hl; omega
      refine ⟨hjc, .inr (by omega), ?_⟩
      rw [List.getElem_append_right (by simp; omega)]
      simp only [List.getElem_drop, List.length_append, List.length_take]
      congr 1
      omega

/-- The cells of a block after some were stored. -/
theorem stored_getD (cur : Array Value) (o : Nat) (vs : List Value) (h : o + vs.length ≤ cur.size) (j : Nat) :
    ((cur.toList.take o ++ vs ++ cur.toList.drop (o + vs.length)).toArray).getD j undef = if o ≤ j ∧ j < o + vs.length then vs.getD (j - o) undef else cur.getD j undef := by
  have e : ∀ (l : List Value), l.toArray.getD j undef = (l[j]?).getD undef := by intro l; simp [Array.getD_eq_getD_getElem?]
  have e2 : cur.getD j undef = (cur.toList[j]?).getD undef := by simp [Array.getD_eq_getD_getElem?]
  rw [e, e2]
  by_cases h1 : j < o
  · rw [if_neg (by omega), List.append_assoc, List.getElem?_append_left (by simp; omega)]
    simp [List.getElem?_take, h1]
  · by_cases h2 : j < o + vs.length
    · rw [if_pos (by omega), List.append_assoc, List.getElem?_append_right (by simp; omega), List.getElem?_append_left (by simp; omega)]
      simp [List.getD, Nat.min_eq_left (show o ≤ cur.size by omega)]
    · rw [if_neg (by omega), List.getElem?_append_right (by simp; omega)]
      simp only [List.getElem?_drop, List.length_append, List.length_take, Array.length_toList]
      congr 2
      omega

theorem getD_one {vs : List Value} (h : ∀ v ∈ vs, v.oneCell' = true) {j : Nat} (hj : j < vs.length) : (vs.getD j undef).oneCell' = true := by
  simp only [List.getD, List.getElem?_eq_getElem hj, Option.getD_some]
  exact h _ (List.getElem_mem hj)

theorem astore_ok (hg : GRel X F) (hf : FRel F w) (hs : SRel F η σ w) {t : TypeId} {p x : AV} {vp vx : Value} (hp : VRel F η σ.next p vp) (hx : VRel F η σ.next x vx)
    (h : astore X t p x σ K) : ∃ w' σ', (Instr.storeAt t vp vx).run X.P w = .ok () w' ∧ Step F η σ w F η σ' w' ∧ FRel F w' ∧ SRel F η σ' w' ∧ K (.d (.s undef)) σ' := by
  obtain ⟨ti, ht, cs, hcs, hlen, hone, hm⟩ := h
  obtain ⟨d0, i0, z, hu, _, hi, hsz, _⟩ := X.ok t ti ht
  obtain ⟨hcn, hcr⟩ := cells_rel hx hcs
  have hsize : vx.cells.size = ti.size := hcn.trans hlen
  have hvl : vx.cells.toList.length = cs.length := by simp [hcn]
  have hv1 : ∀ v ∈ vx.cells.toList, v.oneCell' = true := by
    intro v hv
    obtain ⟨j, hj, rfl⟩ := List.mem_iff_getElem.1 hv
    have hj' : j < cs.length := by omega
    have := one_rel (hcr j hj') (List.all_eq_true.1 hone _ (List.getElem_mem hj'))
    simpa [Array.getD, show j < vx.cells.size by omega] using this
  have hgetD : ∀ j, vx.cells.toList.getD j undef = vx.cells.getD j undef := fun j => by simp [List.getD, Array.getD_eq_getD_getElem?]
  have hrun : ∀ b o cur E, w.heap[b]? = some (.cells cur E (0, 0)) → o + cs.length ≤ cur.size →
      (storeVar t ⟨b, o, none⟩ vx).run X.P w = .ok () (w.setRow b (cur.toList.take o ++ vx.cells.toList ++ cur.toList.drop (o + vx.cells.toList.length)).toArray) := by
    intro b o cur E hb hle
    have := run_storeCells_at X.P b o E vx.cells.toList 0 cur w hb (by simpa [hcn] using hle) hv1
    simp only [Nat.add_zero] at this
    simp [storeVar, run_sizeOf hi, hsz, hsize, this]
  cases p with
  | ref i off =>
    obtain ⟨cells, ho, hle, hk⟩ := hm
    cases hp with
    | ref h1 =>
      have hor := hs.ob i _ ho
      cases hor with
      | var c E hbk hn ho1 hr =>
        have hfit : off + cs.length ≤ c.size := by omega
        have hfit' : off + vx.cells.toList.length ≤ c.size := by omega
        obtain ⟨s1, s2, s3⟩ := set_row_block (o := .var (splice cells off cs)) hf hs ho rfl rfl _
          (.var (c.toList.take off ++ vx.cells.toList ++ c.toList.drop (off + vx.cells.toList.length)).toArray E (setRow_heap w _ _ _ _ _ hbk)
            (by rw [splice_length (by omega)]; simp [hcn]; omega)
            (fun j hj => by
              rw [stored_getD c off _ hfit']
              split
              · rename_i hc; exact getD_one hv1 (by omega)
              · exact ho1 j (by rw [splice_length (by omega)] at hj; exact hj))
            (fun j hj => by
              rw [stored_getD c off _ hfit']
              rcases splice_get (show off + cs.length ≤ cells.length by omega) j hj with ⟨h1, h2, e⟩ | ⟨h1, h2, e⟩
              · rw [if_pos (by omega), e, hgetD]; exact hcr _ h2
              · rw [if_neg (by omega), e]; exact hr j h1))
        exact ⟨_, _, by simp only [Instr.storeAt, Instr.sureAddr, Sem.run_bind, Sem.run_pure, Result.andThen_ok]; exact hrun _ off c E hbk hfit, s1, s2, s3, hk⟩
  | ep i v k off =>
    obtain ⟨E, sz, rows, ho, r, hrk, hle, hk⟩ := hm
    cases hp with
    | @ep _ _ _ _ b cap sz' h1 h2 hh =>
      have hor := hs.ob i _ ho
      cases hor with
      | row xs hv hs' hpos hown hsz1 ho1 hrr =>
        obtain ⟨cur, hgb, hle2, hmx, hcs2, htk⟩ := own_row_blk hown (b := b) (by rw [hh])
        have hszz : sz' = sz := by rw [← hs', hh]
        subst hszz
        obtain ⟨hklt, rfl⟩ := List.getElem?_eq_some_iff.1 hrk
        have hrl : (rows[k]).length = sz' := hsz1 _ (List.getElem_mem hklt)
        have hmul : rows.length * sz' ≤ cur.size := by rw [hcs2]; exact Nat.mul_le_mul_right _ hle2
        have hk1 : (k + 1) * sz' ≤ rows.length * sz' := Nat.mul_le_mul_right _ hklt
        rw [Nat.add_mul, Nat.one_mul] at hk1
        have hfit : k * sz' + off + cs.length ≤ cur.size := by omega
        have hfit' : k * sz' + off + vx.cells.toList.length ≤ cur.size := by omega
        have hxl : xs.length = rows.length * sz' := hown.1
        have hxg : ∀ j, j < rows.length * sz' → xs.getD j undef = cur.getD j undef := by
          intro j hj
          rw [← htk]
          simp [List.getD, Array.getD_eq_getD_getElem?, List.getElem?_take, hj]
        let new := (cur.toList.take (k * sz' + off) ++ vx.cells.toList ++ cur.toList.drop (k * sz' + off + vx.cells.toList.length)).toArray
        have hnewsz : new.size = cur.size := by simp [new]; omega
        have hnewg : ∀ j, j < rows.length * sz' → (new.toList.take (rows.length * sz')).getD j undef = new.getD j undef := by
          intro j hj
          simp [List.getD, Array.getD_eq_getD_getElem?, List.getElem?_take, hj]
        have hdis : ∀ a j, j < sz' → a ≠ k → ¬ (k * sz' + off ≤ a * sz' + j ∧ a * sz' + j < k * sz' + off + vx.cells.toList.length) := by
          intro a j hj hak hh2
          rcases Nat.lt_or_gt_of_ne hak with hlt | hgt
          · have : (a + 1) * sz' ≤ k * sz' := Nat.mul_le_mul_right _ hlt
            rw [Nat.add_mul, Nat.one_mul] at this
            omega
          · have : (k + 1) * sz' ≤ a * sz' := Nat.mul_le_mul_right _ hgt
            rw [Nat.add_mul, Nat.one_mul] at this
            omega
        obtain ⟨s1, s2, s3⟩ := set_row_block (b := b) (o := .row v E sz' (rows.set k (splice rows[k] off cs))) hf hs ho (by simp [Owns, own, hh]) (by simp [Owns, own, hh]) new
          (.row (new.toList.take (rows.length * sz')) hv hs' hpos
            (by
              simp only [List.length_set]
              refine ⟨by simp only [List.length_take, Array.length_toList]; omega, .inr ⟨b, cap, new, ?_, Nat.zero_le _, setRow_heap w _ _ _ _ _ hgb, ?_, ?_, ?_, rfl⟩⟩
              · simp [Hd.val, hh]
              · simpa [hh] using hle2
              · simpa [hh] using hmx
              · rw [hnewsz]; simpa [hh] using hcs2)
            (fun r hr => by
              rcases List.mem_or_eq_of_mem_set hr with hm | rfl
              · exact hsz1 r hm
              · rw [splice_length (by omega)]; exact hrl)
            (fun u hu => by
              obtain ⟨j, hj, rfl⟩ := List.mem_iff_getElem.1 hu
              have hj2 : j < rows.length * sz' := by simp only [List.length_take] at hj; omega
              have := hnewg j hj2
              rw [stored_getD cur _ _ hfit'] at this
              simp only [List.getD, List.getElem?_eq_getElem hj, Option.getD_some] at this
              rw [this]
              split
              · exact getD_one hv1 (by omega)
              · rw [← hxg j hj2]; exact getD_one ho1 (by omega))
            (fun a ha j hj => by
              have ha' : a < rows.length := by simpa using ha
              have hjl : j < sz' := by
                rw [List.getElem_set] at hj
                split at hj
                · rw [splice_length (by omega)] at hj; omega
                · rw [hsz1 _ (List.getElem_mem ha')] at hj; exact hj
              have hin : a * sz' + j < rows.length * sz' := by
                have : (a + 1) * sz' ≤ rows.length * sz' := Nat.mul_le_mul_right _ ha'
                rw [Nat.add_mul, Nat.one_mul] at this
                omega
              rw [hnewg _ hin, stored_getD cur _ _ hfit']
              by_cases hak : a = k
              · subst hak
                have e1 : (rows.set a (splice rows[a] off cs))[a]'ha = splice rows[a] off cs := by simp
                have hj' : j < (splice rows[a] off cs).length := by rw [splice_length (by omega)]; omega
                have e2 : ((rows.set a (splice rows[a] off cs))[a]'ha)[j]'hj = (splice rows[a] off cs)[j]'hj' := by simp only [e1]
                rw [e2]
                rcases splice_get (show off + cs.length ≤ (rows[a]).length by omega) j hj' with ⟨h1, h2, e⟩ | ⟨h1, h2, e⟩
                · rw [if_pos (by omega), e, hgetD, show a * sz' + j - (a * sz' + off) = j - off by omega]; exact hcr _ h2
                · rw [if_neg (by omega), e, ← hxg _ hin]; exact hrr a ha' j h1
              · rw [if_neg (hdis a j hjl hak), ← hxg _ hin]
                have e1 : (rows.set k (splice rows[k] off cs))[a]'ha = rows[a] := by rw [List.getElem_set]; simp [Ne.symm hak]
                have e2 : ((rows.set k (splice rows[k] off cs))[a]'ha)[j]'hj = (rows[a])[j]'(by rw [hsz1 _ (List.getElem_mem ha')]; exact hjl) := by simp only [e1]
                rw [e2]
                exact hrr a ha' j _))
        exact ⟨_, _, by simp only [Instr.storeAt, Instr.sureAddr, Sem.run_bind, Sem.run_pure, Result.andThen_ok]; exact hrun _ _ cur E hgb hfit, s1, s2, s3, hk⟩
  | _ => exact hm.elim
end ops
end Go.Pm
/- The abstract machine, fourth text: operations that make memory: variables, structs, slices, append. -/
set_option linter.unusedVariables false
set_option linter.unusedSimpArgs false
namespace Go.Pm

def VOk (X : Cfg) (F : FH) (η : Et) (σ : St) (w : World) (r : Result Value) (K : AV → St → Prop) : Prop :=
  ∃ v w' F' η' σ' x, r = .ok v w' ∧ Step F η σ w F' η' σ' w' ∧ GRel X F' ∧ FRel F' w' ∧ SRel F' η' σ' w' ∧ VRel F' η' σ'.next x v ∧ K x σ'

section ops
variable {X : Cfg} {F : FH} {η : Et} {σ : St} {w : World} {K : AV → St → Prop}

theorem VOk.same (hg : GRel X F) (hf : FRel F w) (hs : SRel F η σ w) {r : Result Value} {v : Value} {x : AV} (hr : r = .ok v w) (hv : VRel F η σ.next x v) (hk : K x σ) : VOk X F η σ w r K :=
  ⟨v, w, F, η, σ, x, hr, .refl _ _ _ _, hg, hf, hs, hv, hk⟩

theorem VOk.op {s : Sem Value} (h : VOk X F η σ w (s.run X.P w) K) : OpOk X F η σ w ((do pure (Next.value (← s)) : Sem Next).run X.P w) K := by
  obtain ⟨v, w', F', η', σ', x, hr, h1, h2, h3, h4, h5, h6⟩ := h
  exact ⟨_, v, w', F', η', σ', x, by simp [hr], .inl rfl, h1, h2, h3, h4, h5, h6⟩

def zrow (ti : TI) : List AV := ti.zero.map fun v => .d (.s v)

theorem zrow_rel {ti : TI} (j : Nat) (hj : j < (zrow ti).length) : VRel F η σ.next (zrow ti)[j] (ti.zero.toArray.getD j undef) := by
  have hj' : j < ti.zero.length := by simpa [zrow] using hj
  simp only [zrow, List.getElem_map, Array.getD, List.size_toArray, hj', dif_pos, Array.getInternal_eq_getElem, List.getElem_toArray]
  exact .d (.s _)

theorem zero_one {ti : TI} (h : ti.zero.all (·.oneCell') = true) (j : Nat) (hj : j < ti.zero.length) : (ti.zero.toArray.getD j undef).oneCell' = true := by
  simp only [Array.getD, List.size_toArray, hj, dif_pos, Array.getInternal_eq_getElem, List.getElem_toArray]
  exact List.all_eq_true.1 h _ (List.getElem_mem hj)

def aalloc (X : Cfg) (E : TypeId) (σ : St) (K : AV → St → Prop) : Prop :=
  ∃ ti, X.T E = some ti ∧ K (.ref σ.next 0) (σ.alloc (.var (zrow ti)))

theorem aalloc_ok (hg : GRel X F) (hf : FRel F w) (hs : SRel F η σ w) {E : TypeId} (h : aalloc X E σ K) : VOk X F η σ w ((Instr.alloc E true (.tuple #[])).run X.P w) K := by
  obtain ⟨ti, ht, hk⟩ := h
  obtain ⟨d, i, z, hu, hd, hi, hsz, hby, hz, hzc, hzl, hz1, hzn, hza⟩ := X.ok E ti ht
  obtain ⟨η', s1, s2, s3, hb⟩ := new_var hf hs (zrow ti) z.cells E (by simp [hzc, zrow]) (fun j hj => by rw [hzc]; exact zero_one hz1 j (by simpa [zrow] using hj))
    (fun j hj => by rw [hzc]; exact zrow_rel j hj)
  refine ⟨.pointer (some ⟨w.heap.size, 0, none⟩), _, F, η', _, .ref σ.next 0, ?_, s1, hg, s2, s3, ?_, hk⟩
  · simp [Instr.alloc, zeroValue, typeInfo, hi, hz, newVar, newRow]
  · rw [← hb]; exact .ref (Nat.lt_succ_self _)

def abox (x : AV) (σ : St) (K : AV → St → Prop) : Prop :=
  ∃ cs, x.cells = some cs ∧ cs.all AV.one = true ∧ K (.ref σ.next 0) (σ.alloc (.var cs))

theorem abox_ok (hg : GRel X F) (hf : FRel F w) (hs : SRel F η σ w) {E : TypeId} {x : AV} {v : Value} (hx : VRel F η σ.next x v) (h : abox x σ K) :
    VOk X F η σ w ((Instr.box E v).run X.P w) K := by
  obtain ⟨cs, hc, h1, hk⟩ := h
  obtain ⟨hn, hr⟩ := cells_rel hx hc
  obtain ⟨η', s1, s2, s3, hb⟩ := new_var hf hs cs v.cells E hn (fun j hj => one_rel (hr j hj) (List.all_eq_true.1 h1 _ (List.getElem_mem hj))) hr
  refine ⟨.pointer (some ⟨w.heap.size, 0, none⟩), _, F, η', _, .ref σ.next 0, ?_, s1, hg, s2, s3, ?_, hk⟩
  · simp [Instr.box, newVar, newRow]
  · rw [← hb]; exact .ref (Nat.lt_succ_self _)

/-! ### structs out of parts -/

theorem fold_set (off : Nat) : ∀ (l : List Value) (k : Nat) (cells : Array Value), off + k + l.length ≤ cells.size →
    ((l.zipIdx k).foldl (fun cs (p : Value × Nat) => cs.setIfInBounds (off + p.2) p.1) cells).size = cells.size ∧
    ∀ j, ((l.zipIdx k).foldl (fun cs (p : Value × Nat) => cs.setIfInBounds (off + p.2) p.1) cells).getD j undef = if off + k ≤ j ∧ j < off + k + l.length then l.getD (j - (off + k)) undef else cells.getD j undef
  | [], k, cells, _ => by simp; intro j h; omega
  | v :: l, k, cells, h => by
    simp only [List.zipIdx_cons, List.foldl_cons, List.length_cons] at h ⊢
    have ih := fold_set off l (k + 1) (cells.setIfInBounds (off + k) v) (by simp; omega)
    refine ⟨by rw [ih.1]; simp, fun j => ?_⟩
    rw [ih.2 j]
    by_cases h1 : off + (k + 1) ≤ j ∧ j < off + (k + 1) + l.length
    · rw [if_pos h1, if_pos (by omega), show j - (off + k) = (j - (off + (k + 1))) + 1 by omega]
      simp
    · rw [if_neg h1]
      by_cases h2 : j = off + k
      · subst h2
        rw [if_pos (by omega)]
        simp [Array.getD, show off + k < cells.size by omega]
      · rw [if_neg (by omega)]
        simp only [Array.getD_eq_getD_getElem?, Array.getElem?_setIfInBounds]
        rw [if_neg (by omega)]

def fillA (place : Nat → Option (Nat × Nat)) : List AV → List (Nat × AV) → Option (List AV)
  | cells, [] => some cells
  | cells, (i, x) :: rest =>
    match place i, x.cells with
    | some (off, size), some cs => if cs.length = size ∧ off + size ≤ cells.length ∧ cs.all AV.one = true then fillA place (splice cells off cs) rest else none
    | _, _ => none

theorem fill_rel {place : Nat → Option (Nat × Nat)} {n : Nat} : ∀ (parts : List (Nat × AV)) (vals : List (Nat × Value)) (cells : List AV) (cur : Array Value) (out : List AV),
    vals.length = parts.length → (∀ k (h : k < parts.length) (h' : k < vals.length), (vals[k]).1 = (parts[k]).1 ∧ VRel F η n (parts[k]).2 (vals[k]).2) →
    cur.size = cells.length → (∀ j, j < cells.length → (cur.getD j undef).oneCell' = true) → (∀ j (h : j < cells.length), VRel F η n cells[j] (cur.getD j undef)) → fillA place cells parts = some out →
    ∃ c, Instr.fill place cur vals = some c ∧ c.size = out.length ∧ out.length = cells.length ∧ (∀ j, j < out.length → (c.getD j undef).oneCell' = true) ∧ ∀ j (h : j < out.length), VRel F η n out[j] (c.getD j undef)
  | [], vals, cells, cur, out, hl, _, hn, h1, hr, hf => by
    have : vals = [] := List.eq_nil_of_length_eq_zero (by simpa using hl)
    subst this
    simp only [fillA, Option.some.injEq] at hf
    subst hf
    exact ⟨cur, rfl, hn, rfl, h1, hr⟩
  | (i, x) :: parts, [], cells, cur, out, hl, _, _, _, _, _ => by simp at hl
  | (i, x) :: parts, (i', v) :: vals, cells, cur, out, hl, hp, hn, h1, hr, hf => by
    have h0 := hp 0 (by simp) (by simp)
    simp only [List.getElem_cons_zero] at h0
    obtain ⟨rfl, hxv⟩ := h0
    simp only [fillA] at hf
    split at hf
    · rename_i off size cs hpl hcs
      split at hf
      · rename_i hc
        obtain ⟨hc1, hc2, hc3⟩ := hc
        obtain ⟨hcn, hcr⟩ := cells_rel hxv hcs
        have hsize : v.cells.size = size := by omega
        obtain ⟨hfs, hfg⟩ := fold_set off v.cells.toList 0 cur (by simp; omega)
        have hcs' : off + cs.length ≤ cells.length := by omega
        have hvl : v.cells.toList.length = cs.length := by simp [hcn]
        have hgd : ∀ j, v.cells.toList.getD j undef = v.cells.getD j undef := fun j => by simp [List.getD, Array.getD_eq_getD_getElem?]
        obtain ⟨c, e1, e2, e3, e4, e5⟩ := fill_rel parts vals (splice cells off cs) _ out (by simpa using hl)
          (fun k h h' => by have := hp (k + 1) (by simp; omega) (by simp; omega); simpa using this)
          (by rw [hfs, splice_length hcs']; exact hn)
          (fun j hj => by
            rw [splice_length hcs'] at hj
            rw [hfg j]
            split
            · rename_i hjj
              rw [hgd]
              exact one_rel (hcr (j - (off + 0)) (by omega)) (List.all_eq_true.1 hc3 _ (List.getElem_mem (by omega)))
            · exact h1 j hj)
          (fun j hj => by
            rw [hfg j]
            rcases splice_get hcs' j hj with ⟨g1, g2, e⟩ | ⟨g1, g2, e⟩
            · rw [if_pos (by omega), e, hgd]; exact hcr _ g2
            · rw [if_neg (by omega), e]; exact hr j g1)
          hf
        refine ⟨c, ?_, e2, by rw [e3, splice_length hcs'], e4, e5⟩
        simp only [Instr.fill, hpl]
        rw [if_neg (by simp; omega)]
        rw [← e1]
        congr 1
        rw [← Array.foldl_toList, Array.toList_zipIdx]
      · simp at hf
    · simp at hf

def places (X : Cfg) (fs : List (Nat × TypeId)) (i : Nat) : Option (Nat × Nat) :=
  match fs[i]? with
  | some f => match X.T f.2 with | some ti => some (f.1, ti.size) | none => none
  | none => none

def abuild (X : Cfg) (t : TypeId) (parts : List (Nat × AV)) (σ : St) (K : AV → St → Prop) : Prop :=
  ∃ ti, X.T t = some ti ∧
    match ti.kind with
    | .struct fs => ∃ cs, fillA (places X fs) (zrow ti) parts = some cs ∧ K (.agg cs) σ
    | .array n e => ∃ te, X.T e = some te ∧ ∃ cs, fillA (fun i => some (i * te.size, te.size)) (zrow ti) parts = some cs ∧ K (.agg cs) σ
    | _ => False

theorem kind_struct {d : TypeDesc} {fs : List (Nat × TypeId)} (h : kindOf d = .struct fs) : ∃ a, d = .struct a ∧ fs = a.toList.map fun f => (f.offset, f.type) := by
  cases d <;> simp [kindOf] at h
  exact ⟨_, rfl, h.symm⟩
theorem kind_array {d : TypeDesc} {n e : Nat} (h : kindOf d = .array n e) : d = .array n e := by
  cases d <;> simp [kindOf] at h
  simp [h]
theorem kind_slice {d : TypeDesc} {e : Nat} (h : kindOf d = .slice e) : d = .slice e := by
  cases d <;> simp [kindOf] at h
  simp [h]
theorem kind_map {d : TypeDesc} {k e : Nat} (h : kindOf d = .map k e) : d = .map k e := by
  cases d <;> simp [kindOf] at h
  simp [h]
theorem kind_string {d : TypeDesc} (h : kindOf d = .string) : d = .string := by
  cases d <;> simp [kindOf] at h
  rfl
theorem kind_int {d : TypeDesc} {k : IntKind} (h : kindOf d = .int k) : d = .int k := by
  cases d <;> simp [kindOf] at h
  simp [h]
theorem kind_bool {d : TypeDesc} (h : kindOf d = .bool) : d = .bool := by
  cases d <;> simp [kindOf] at h
  rfl
theorem kind_ptr {d : TypeDesc} {e : Nat} (h : kindOf d = .ptr e) : d = .pointer e := by
  cases d <;> simp [kindOf] at h
  simp [h]

theorem fields_places (fs : List Field) (h : ∀ f ∈ fs, (X.T f.type).isSome = true) :
    ∃ pl, fs.mapM (fun f => (X.P.info? f.type).map fun i => (f.offset, i.size)) = some pl ∧ ∀ i, pl[i]? = places X (fs.map fun f => (f.offset, f.type)) i := by
  induction fs with
  | nil => exact ⟨[], rfl, fun i => by simp [places]⟩
  | cons f fs ih =>
    obtain ⟨pl, e1, e2⟩ := ih fun g hg => h g (by simp [hg])
    obtain ⟨ti, ht⟩ := Option.isSome_iff_exists.1 (h f (by simp))
    obtain ⟨d, i, z, hu, hd, hi, hsz, _⟩ := X.ok f.type ti ht
    refine ⟨(f.offset, ti.size) :: pl, by simp [List.mapM_cons, hi, hsz, e1], fun k => ?_⟩
    cases k with
    | zero => simp [places, ht]
    | succ k => simpa [places] using e2 k

theorem abuild_ok (hg : GRel X F) (hf : FRel F w) (hs : SRel F η σ w) {t : TypeId} {parts : List (Nat × AV)} {vals : Array (Nat × Value)}
    (hn : vals.toList.length = parts.length) (hv : ∀ k (h : k < parts.length) (h' : k < vals.toList.length), (vals.toList[k]).1 = (parts[k]).1 ∧ VRel F η σ.next (parts[k]).2 (vals.toList[k]).2)
    (h : abuild X t parts σ K) : VOk X F η σ w ((Instr.build t vals).run X.P w) K := by
  obtain ⟨ti, ht, hm⟩ := h
  obtain ⟨d, i, z, hu, hd, hi, hsz, hby, hz, hzc, hzl, hz1, hzn, hza⟩ := X.ok t ti ht
  have hz0 : z.cells.size = (zrow ti).length := by simp [hzc, zrow]
  have hz2 : ∀ j, j < (zrow ti).length → (z.cells.getD j undef).oneCell' = true := fun j hj => by rw [hzc]; exact zero_one hz1 j (by simpa [zrow] using hj)
  have hz3 : ∀ j (h : j < (zrow ti).length), VRel F η σ.next (zrow ti)[j] (z.cells.getD j undef) := fun j hj => by rw [hzc]; exact zrow_rel j hj
  split at hm
  · rename_i fs hkd
    rw [hkd] at hd
    obtain ⟨a, rfl, rfl⟩ := kind_struct hd
    obtain ⟨cs, hcs, hk⟩ := hm
    obtain ⟨pl, e1, e2⟩ := fields_places (X := X) a.toList fun f hf => X.cl t ti _ ht hkd (f.offset, f.type) (List.mem_map.2 ⟨f, hf, rfl⟩)
    obtain ⟨c, f1, f2, f3, f4, f5⟩ := fill_rel parts vals.toList (zrow ti) z.cells cs hn hv hz0 hz2 hz3 hcs
    have hb : X.P.built t vals.toList = some c := by
      simp only [Program.built, hi, hu, hz, e1]
      rw [← f1]
      congr 1
      funext k
      simpa using e2 k
    exact VOk.same hg hf hs (run_build w t vals c hb) (.agg f2 f5) hk
  · rename_i n e hkd
    rw [hkd] at hd
    have := kind_array hd
    subst this
    obtain ⟨te, hte, cs, hcs, hk⟩ := hm
    obtain ⟨d', i', z', hu', hd', hi', hsz', _⟩ := X.ok e te hte
    obtain ⟨c, f1, f2, f3, f4, f5⟩ := fill_rel parts vals.toList (zrow ti) z.cells cs hn hv hz0 hz2 hz3 hcs
    have hb : X.P.built t vals.toList = some c := by
      simp only [Program.built, hi, hu, hz, hi', hsz', f1]
    exact VOk.same hg hf hs (run_build w t vals c hb) (.agg f2 f5) hk
  · exact hm.elim

/-! ### slices -/

def fillRows (sz : Nat) : List (List AV) → List (Nat × AV) → Option (List (List AV))
  | rows, [] => some rows
  | rows, (i, x) :: rest =>
    match x.cells with
    | some cs => if cs.length = sz ∧ i < rows.length ∧ cs.all AV.one = true then fillRows sz (rows.set i cs) rest else none
    | none => none

theorem row_lt {k n sz j : Nat} (hk : k < n) (hj : j < sz) : k * sz + j < n * sz := by
  have : (k + 1) * sz ≤ n * sz := Nat.mul_le_mul_right _ hk
  rw [Nat.add_mul, Nat.one_mul] at this
  omega

theorem row_ne {a k sz j m : Nat} (hj : j < sz) (hm : m < sz) (hak : a ≠ k) : a * sz + j ≠ k * sz + m := by
  intro h
  rcases Nat.lt_or_gt_of_ne hak with hlt | hgt
  · have : (a + 1) * sz ≤ k * sz := Nat.mul_le_mul_right _ hlt
    rw [Nat.add_mul, Nat.one_mul] at this
    omega
  · have : (k + 1) * sz ≤ a * sz := Nat.mul_le_mul_right _ hgt
    rw [Nat.add_mul, Nat.one_mul] at this
    omega

/-- Rows laid out one behind the other. -/
structure Laid (F : FH) (η : Et) (n sz : Nat) (rows : List (List AV)) (c : Array Value) : Prop where
  size : rows.length * sz ≤ c.size
  len : ∀ r ∈ rows, r.length = sz
  one : ∀ j, j < rows.length * sz → (c.getD j undef).oneCell' = true
  rel : ∀ k (hk : k < rows.length) j (hj : j < (rows[k]).length), VRel F η n ((rows[k])[j]) (c.getD (k * sz + j) undef)

theorem fillRows_rel {n sz : Nat} : ∀ (parts : List (Nat × AV)) (vals : List (Nat × Value)) (rows : List (List AV)) (cur : Array Value) (out : List (List AV)),
    vals.length = parts.length → (∀ k (h : k < parts.length) (h' : k < vals.length), (vals[k]).1 = (parts[k]).1 ∧ VRel F η n (parts[k]).2 (vals[k]).2) →
    cur.size = rows.length * sz → Laid F η n sz rows cur → fillRows sz rows parts = some out →
    ∃ c, Instr.fill (fun i => some (i * sz, sz)) cur vals = some c ∧ c.size = cur.size ∧ out.length = rows.length ∧ Laid F η n sz out c
  | [], vals, rows, cur, out, hl, _, hn, hL, hf => by
    have : vals = [] := List.eq_nil_of_length_eq_zero (by simpa using hl)
    subst this
    simp only [fillRows, Option.some.injEq] at hf
    subst hf
    exact ⟨cur, rfl, rfl, rfl, hL⟩
  | (i, x) :: parts, [], rows, cur, out, hl, _, _, _, _ => by simp at hl
  | (i, x) :: parts, (i', v) :: vals, rows, cur, out, hl, hp, hn, hL, hf => by
    have h0 := hp 0 (by simp) (by simp)
    simp only [List.getElem_cons_zero] at h0
    obtain ⟨rfl, hxv⟩ := h0
    simp only [fillRows] at hf
    split at hf
    · rename_i cs hcs
      split at hf
      · rename_i hc
        obtain ⟨hc1, hc2, hc3⟩ := hc
        obtain ⟨hcn, hcr⟩ := cells_rel hxv hcs
        have hfit : i' * sz + sz ≤ cur.size := by
          have : (i' + 1) * sz ≤ rows.length * sz := Nat.mul_le_mul_right _ hc2
          rw [Nat.add_mul, Nat.one_mul] at this
          omega
        obtain ⟨hfs, hfg⟩ := fold_set (i' * sz) v.cells.toList 0 cur (by simp; omega)
        have hgd : ∀ j, v.cells.toList.getD j undef = v.cells.getD j undef := fun j => by simp [List.getD, Array.getD_eq_getD_getElem?]
        have hvl : v.cells.toList.length = sz := by simp [hcn]; omega
        have hL' : Laid F η n sz (rows.set i' cs) (((v.cells.toList.zipIdx 0).foldl (fun cs (p : Value × Nat) => cs.setIfInBounds (i' * sz + p.2) p.1) cur)) := by
          refine ⟨by rw [hfs, hn]; simp, fun r hr => ?_, fun j hj => ?_, fun k hk j hj => ?_⟩
          · rcases List.mem_or_eq_of_mem_set hr with hm | rfl
            · exact hL.len r hm
            · exact hc1
          · rw [List.length_set] at hj
            rw [hfg j]
            split
            · rename_i hjj
              rw [hgd]
              exact one_rel (hcr (j - (i' * sz + 0)) (by omega)) (List.all_eq_true.1 hc3 _ (List.getElem_mem (by omega)))
            · exact hL.one j hj
          · have hk' : k < rows.length := by simpa using hk
            rw [hfg]
            by_cases hki : k = i'
            · subst hki
              have e1 : (rows.set k cs)[k]'hk = cs := by simp
              have hj' : j < cs.length := by rw [e1] at hj; exact hj
              have e2 : ((rows.set k cs)[k]'hk)[j]'hj = cs[j]'hj' := by simp only [e1]
              rw [e2, if_pos (by omega), hgd, show k * sz + j - (k * sz + 0) = j by omega]
              exact hcr j hj'
            · have e1 : (rows.set i' cs)[k]'hk = rows[k] := by rw [List.getElem_set]; simp [Ne.symm hki]
              have hj' : j < (rows[k]).length := by rw [e1] at hj; exact hj
              have e2 : ((rows.set i' cs)[k]'hk)[j]'hj = (rows[k])[j]'hj' := by simp only [e1]
              have hjs : j < sz := by rw [← hL.len _ (List.getElem_mem hk')]; exact hj'
              rw [e2, if_neg ?_]
              · exact hL.rel k hk' j hj'
              · intro hh
                have := row_ne hjs (show k * sz + j - i' * sz < sz by omega) hki
                omega
        obtain ⟨c, e1, e2, e3, e4⟩ := fillRows_rel parts vals (rows.set i' cs) _ out (by simpa using hl)
          (fun k h h' => by have := hp (k + 1) (by simp; omega) (by simp; omega); simpa using this)
          (by rw [hfs, hn]; simp) hL' hf
        refine ⟨c, ?_, by rw [e2, hfs], by rw [e3]; simp, e4⟩
        simp only [Instr.fill]
        rw [if_neg (by simp; omega), ← e1]
        congr 1
        rw [← Array.foldl_toList, Array.toList_zipIdx]
      · simp at hf
    · simp at hf

theorem laid_zero {ti : TI} (hz1 : ti.zero.all (·.oneCell') = true) (hzl : ti.zero.length = ti.size) (hp : 0 < ti.size) (n len : Nat) {c : Array Value}
    (hc : ∀ j, j < len * ti.size → c.getD j undef = ti.zero.toArray.getD (j % ti.size) undef) (hs : len * ti.size ≤ c.size) :
    Laid F η n ti.size (List.replicate len (zrow ti)) c := by
  refine ⟨by simpa using hs, fun r hr => ?_, fun j hj => ?_, fun k hk j hj => ?_⟩
  · rw [(List.mem_replicate.1 hr).2]; simp [zrow, hzl]
  · simp only [List.length_replicate] at hj
    rw [hc j hj]
    exact zero_one hz1 _ (by rw [hzl]; exact Nat.mod_lt _ hp)
  · simp only [List.length_replicate] at hk
    simp only [List.getElem_replicate] at hj ⊢
    have hjs : j < ti.size := by simpa [zrow, hzl] using hj
    rw [hc _ (row_lt hk hjs), Nat.add_comm, Nat.add_mul_mod_self_right, Nat.mod_eq_of_lt hjs]
    exact zrow_rel (σ := ⟨fun _ => none, n⟩) j hj

/-- A new block of rows. -/
theorem new_laid (hf : FRel F w) (hs : SRel F η σ w) (E sz : Nat) (rows : List (List AV)) (c : Array Value) (cap : Nat)
    (hp : 0 < sz) (hcap : cap ≤ maxLen) (hc : c.size = cap * sz) (hle : rows.length ≤ cap) (hL : Laid F η σ.next sz rows c) :
    ∃ η', Step F η σ w F η' (σ.alloc (.row σ.next E sz rows)) (w.alloc (.cells c E)) ∧ FRel F (w.alloc (.cells c E)) ∧ SRel F η' (σ.alloc (.row σ.next E sz rows)) (w.alloc (.cells c E)) ∧
      η'.hdr σ.next = ⟨some w.heap.size, cap, sz⟩ :=
  new_row hf hs E sz rows c cap hp hcap hc hle hL.len hL.one hL.rel

def abuildSlice (X : Cfg) (t : TypeId) (len : Nat) (parts : List (Nat × AV)) (σ : St) (K : AV → St → Prop) : Prop :=
  ∃ ti, X.T t = some ti ∧ ∃ e te, ti.kind = .slice e ∧ X.T e = some te ∧ 0 < te.size ∧ len * te.size ≤ 16777216 ∧
    ∃ rows, fillRows te.size (List.replicate len (zrow te)) parts = some rows ∧ K (.sl σ.next σ.next 0 len) (σ.alloc (.row σ.next e te.size rows))

theorem zero_at {z : Array Value} (hp : 0 < z.size) (j m : Nat) (hj : j < m) : ((Array.range m).map (z[· % z.size]!)).getD j undef = z.getD (j % z.size) undef := by
  have h1 : j % z.size < z.size := Nat.mod_lt _ hp
  simp [Array.getD, hj, h1]

theorem abuildSlice_ok (hg : GRel X F) (hf : FRel F w) (hs : SRel F η σ w) {t : TypeId} {len : Nat} {parts : List (Nat × AV)} {vals : Array (Nat × Value)}
    (hn : vals.toList.length = parts.length) (hv : ∀ k (h : k < parts.length) (h' : k < vals.toList.length), (vals.toList[k]).1 = (parts[k]).1 ∧ VRel F η σ.next (parts[k]).2 (vals.toList[k]).2)
    (h : abuildSlice X t len parts σ K) : VOk X F η σ w ((Instr.buildSlice t len vals).run X.P w) K := by
  obtain ⟨ti, ht, e, te, hkd, hte, hp, hlim, rows, hrows, hk⟩ := h
  obtain ⟨d, i, z, hu, hd, hi, hsz, _⟩ := X.ok t ti ht
  obtain ⟨d', i', z', hu', hd', hi', hsz', hby', hz', hzc', hzl', hz1', _⟩ := X.ok e te hte
  rw [hkd] at hd
  have hsl := kind_slice hd
  subst hsl
  have hzs : z'.cells.size = te.size := by simp [hzc', hzl']
  let zero : Array Value := if len * te.size = 0 then #[] else z'.cells
  let c0 := (Array.range (len * te.size)).map (zero[· % zero.size]!)
  have hc0s : c0.size = len * te.size := by simp [c0]
  have hL0 : Laid F η σ.next te.size (List.replicate len (zrow te)) c0 := by
    refine laid_zero hz1' hzl' hp σ.next len (fun j hj => ?_) (Nat.le_of_eq hc0s.symm)
    have hne : len * te.size ≠ 0 := by omega
    have hzz : zero = z'.cells := if_neg hne
    simp only [c0, hzz]
    rw [zero_at (by omega) j _ hj, hzs, hzc']
  obtain ⟨c, e1, e2, e3, e4⟩ := fillRows_rel parts vals.toList _ c0 rows hn hv (by rw [hc0s]; simp) hL0 hrows
  have hrl : rows.length = len := by rw [e3]; simp
  have hmx : len ≤ maxLen := by
    have : len ≤ len * te.size := Nat.le_mul_of_pos_right _ hp
    unfold maxLen; omega
  obtain ⟨η', s1, s2, s3, hh⟩ := new_laid hf hs e te.size rows c len hp hmx (by rw [e2, hc0s]) (by omega) e4
  refine ⟨.slice (some ⟨w.heap.size, 0, none⟩) len len, _, F, η', _, .sl σ.next σ.next 0 len, ?_, s1, hg, s2, s3, ?_, hk⟩
  · simp only [Instr.buildSlice, Sem.run_bind, run_underlying hu, Result.andThen_ok, run_sizeOf hi', hsz']
    rw [if_neg (by omega)]
    by_cases h0 : len * te.size = 0
    · have e1' : Instr.fill (fun i => some (i * te.size, te.size)) ((Array.range (len * te.size)).map ((#[] : Array Value)[· % (#[] : Array Value).size]!)) vals.toList = some c := by
        have := e1
        simp only [c0, zero, if_pos h0] at this
        exact this
      rw [if_pos h0]
      simp only [Sem.run_bind, Sem.run_pure, Result.andThen_ok, e1']
      rfl
    · have e1' : Instr.fill (fun i => some (i * te.size, te.size)) ((Array.range (len * te.size)).map (z'.cells[· % z'.cells.size]!)) vals.toList = some c := by
        have := e1
        simp only [c0, zero, if_neg h0] at this
        exact this
      have hzv : (zeroValue e).run X.P w = .ok z' w := by simp [zeroValue, typeInfo, hi', hz']
      rw [if_neg h0]
      simp only [Sem.run_bind, Sem.run_pure, Result.andThen_ok, hzv, e1']
      rfl
  · have := @VRel.sl F η' (σ.next + 1) σ.next σ.next 0 len w.heap.size len te.size 0 (by omega) (by omega) hh (Nat.zero_le _) (Nat.le_refl _) (by simp)
    exact this

def amakeSlice (X : Cfg) (t : TypeId) (l c : AV) (σ : St) (K : AV → St → Prop) : Prop :=
  ∃ n m : Int, (∃ k1, l = .d (.s (.int k1 n))) ∧ (∃ k2, c = .d (.s (.int k2 m))) ∧ 0 ≤ n ∧ n ≤ m ∧ m ≤ 4294967296 ∧
    ∃ ti, X.T t = some ti ∧ ∃ e te, ti.kind = .slice e ∧ X.T e = some te ∧ 0 < te.size ∧ te.bytes ≤ 32768 ∧
      K (.sl σ.next σ.next 0 n.toNat) (σ.alloc (.row σ.next e te.size (List.replicate n.toNat (zrow te))))

theorem amakeSlice_ok (hg : GRel X F) (hf : FRel F w) (hs : SRel F η σ w) {t : TypeId} {l c : AV} {vl vc : Value} (hl : VRel F η σ.next l vl) (hc : VRel F η σ.next c vc)
    (h : amakeSlice X t l c σ K) : VOk X F η σ w ((Instr.makeSlice t vl vc).run X.P w) K := by
  obtain ⟨n, m, ⟨k1, rfl⟩, ⟨k2, rfl⟩, hn, hnm, hm, ti, ht, e, te, hkd, hte, hp, hby, hk⟩ := h
  have e1 := hl.s_inv
  have e2 := hc.s_inv
  subst e1
  subst e2
  obtain ⟨d, i, z, hu, hd, hi, hsz, _⟩ := X.ok t ti ht
  obtain ⟨d', i', z', hu', hd', hi', hsz', hby', hz', hzc', hzl', hz1', _⟩ := X.ok e te hte
  rw [hkd] at hd
  have hsl := kind_slice hd
  subst hsl
  have hzs : z'.cells.size = te.size := by simp [hzc', hzl']
  have hb2 : (i'.bytes : Int) * m ≤ 281474976710656 := by
    rw [hby']
    have h1 : (te.bytes : Int) * m ≤ 32768 * 4294967296 := Int.mul_le_mul (by omega) hm (by omega) (by omega)
    omega
  have hr := run_make (P := X.P) w t e i' z' hu hi' hz' k1 k2 n m hn hnm hb2 (by omega)
  rw [hsz'] at hr
  have hL : Laid F η σ.next te.size (List.replicate n.toNat (zrow te)) (madeCells z'.cells (m.toNat * te.size)) := by
    have hle : n.toNat * te.size ≤ m.toNat * te.size := Nat.mul_le_mul_right _ (by omega)
    refine laid_zero hz1' hzl' hp σ.next n.toNat (fun j hj => ?_) (by rw [size_madeCells]; exact hle)
    rw [madeCells, zero_at (by omega) j _ (by omega), hzs, hzc']
  obtain ⟨η', s1, s2, s3, hh⟩ := new_laid hf hs e te.size (List.replicate n.toNat (zrow te)) _ m.toNat hp (by unfold maxLen; omega) (size_madeCells _ _) (by simp; omega) hL
  refine ⟨_, _, F, η', _, .sl σ.next σ.next 0 n.toNat, hr, s1, hg, s2, s3, ?_, hk⟩
  have := @VRel.sl F η' (σ.next + 1) σ.next σ.next 0 n.toNat w.heap.size m.toNat te.size 0 (by omega) (by omega) hh (Nat.zero_le _) (by omega) (by simp)
  exact this
end ops
end Go.Pm
