/- Part of the proof: Pm1. -/
import Derived.WalkKit
import Derived.Laws.AppendOwn
import Derived.Laws.OwnMore
import Derived.KernelRfl
set_option linter.unusedVariables false
set_option linter.unusedSimpArgs false
namespace Go.Pm
theorem J0{p:Prop}[Decidable p](h:p):decide p=true:=decide_eq_true h
theorem J1{p:Prop}[Decidable p](h:¬p):decide p=false:=decide_eq_false h
inductive KD where
 |bool|int (k:IntKind)|string|ptr (e:TypeId)|slice (e:TypeId)|array (n:Nat) (e:TypeId)|map (k e:TypeId)|struct (fs:List (Nat×TypeId))|func|iface|other
 deriving DecidableEq
def kindOf:TypeDesc→KD
 |.bool=>.bool
 |.int k=>.int k
 |.string=>.string
 |.pointer e=>.ptr e
 |.slice e=>.slice e
 |.array n e=>.array n e
 |.map k e=>.map k e
 |.struct fs=>.struct (fs.toList.map fun f=>(f.offset,f.type))
 |.func _ _ _=>.func
 |.interface _=>.iface
 |_=>.other
def isAggK:KD→Bool
 |.struct _=>true
 |.array _ _=>true
 |_=>false
def keyFit:KD→Value→Bool
 |.string,.string _=>true
 |.int k,.int k' _=>k == k'
 |.bool,.bool _=>true
 |_,_=>false
def keyEq:Value→Value→Bool
 |.string a,.string b=>decide (a=b)
 |.int _ a,.int _ b=>decide (a=b)
 |.bool a,.bool b=>a == b
 |_,_=>false
inductive D where
 |s (v:Value)
 |im (rows:List (List D))
 |ip (cells:List D) (off:Nat)
 |mp (k:KD) (es:List (Value×D))
inductive AV where
 |d (x:D)
 |agg (cs:List AV)
 |tup (vs:List AV)
 |ref (i off:Nat)
 |sl (i v lo hi:Nat)
 |ep (i v k off:Nat)
 |mp (i:Nat)
 |it (i:Nat)
 |fn (f:FuncId) (caps:List AV)
 |ifc (t:TypeId) (x:AV)
 |any
inductive AO where
 |var (cells:List AV)
 |row (v:Nat) (E:TypeId) (sz:Nat) (rows:List (List AV))
 |map (k:KD) (es:List (Value×AV))
 |iter (o:Obj)
 |box (τ:Nat→Option Obj)
structure St where
 obj:Nat→Option AO
 next:Nat
structure Hd where
 blk:Option Nat
 cap:Nat
 sz:Nat
structure Et where
 blk:Nat→Nat
 hdr:Nat→Hd
abbrev FH:=Nat→Option Obj
abbrev Env:=Nat→AV
def St.alloc (σ:St) (o:AO):St:=⟨fun i=>if i=σ.next then some o else σ.obj i,σ.next+1⟩
def St.set (σ:St) (i:Nat) (o:AO):St:=⟨fun j=>if j=i then some o else σ.obj j,σ.next⟩
def St.bump (σ:St):St:=⟨σ.obj,σ.next+1⟩
def put (env:Env) (d:Option Nat) (v:AV):Env:=
 match d with
 |some t=>fun t'=>if t'=t then v else env t'
 |none=>env
theorem J4c (env:Env) (t t':Nat) (v:AV):put env (some t) v t'=if t'=t then v else env t':=rfl
theorem J9u (env:Env) (v:AV):put env none v=env:=rfl
theorem St.obj_alloc (σ:St) (o:AO) (i:Nat):(σ.alloc o).obj i=if i=σ.next then some o else σ.obj i:=rfl
theorem St.next_alloc (σ:St) (o:AO):(σ.alloc o).next=σ.next+1:=rfl
theorem St.obj_set (σ:St) (i:Nat) (o:AO) (j:Nat):(σ.set i o).obj j=if j=i then some o else σ.obj j:=rfl
theorem St.next_set (σ:St) (i:Nat) (o:AO):(σ.set i o).next=σ.next:=rfl
theorem St.obj_bump (σ:St) (i:Nat):σ.bump.obj i=σ.obj i:=rfl
theorem St.next_bump (σ:St):σ.bump.next=σ.next+1:=rfl
inductive DRel (F:FH):D→Value→Prop
 |s (v:Value):DRel F (.s v) v
 |im0 (a:Option Addr) (cap:Nat):DRel F (.im []) (.slice a 0 cap)
 |im (rows:List (List D)) (b o cap sz:Nat) (c:Array Value) (E:TypeId) (fz:Nat×Nat) (f:Nat→Nat→Value)
   (hb:F b=some (.cells c E fz)) (hcap:rows.length≤cap) (hsz:∀r∈rows,r.length=sz)
   (hc:∀k,k<rows.length→∀j,j<sz→c[o+k*sz+j]? = some (f k j))
   (ho:∀k,k<rows.length→∀j,j<sz→(f k j).oneCell'=true)
   (hr:∀k (h:k<rows.length) j (h':j<(rows[k]).length),DRel F ((rows[k])[j]) (f k j)):
   DRel F (.im rows) (.slice (some ⟨b,o,none⟩) rows.length cap)
 |ip (cells:List D) (off b o:Nat) (c:Array Value) (E:TypeId) (fz:Nat×Nat) (f:Nat→Value)
   (hb:F b=some (.cells c E fz)) (hc:∀j,j<cells.length→c[o+j]? = some (f j)) (ho:∀j,j<cells.length→(f j).oneCell'=true)
   (hr:∀j (h:j<cells.length),DRel F (cells[j]) (f j)):
   DRel F (.ip cells off) (.pointer (some ⟨b,o+off,none⟩))
 |mp0 (kk:KD):DRel F (.mp kk []) (.map none)
 |mp (kk:KD) (es:List (Value×D)) (r:Nat) (ents:Array MapEntry) (clock:Nat) (f:Nat→Value) (π:Nat→Nat)
   (hb:F r=some (.map ents clock)) (hn:ents.size=es.length) (hf:∀e∈es,keyFit kk e.1=true)
   (hd:∀k k' (h:k<es.length) (h':k'<es.length),keyEq es[k].1 es[k'].1=true→k=k')
   (hk:∀k (h:k<es.length),(ents[π k]?).map (fun e=>(e.key,e.val))=some (es[k].1,f k))
   (hs:∀j,j<ents.size→∃k,k<es.length∧π k=j)
   (hr:∀k (h:k<es.length),DRel F (es[k].2) (f k)):
   DRel F (.mp kk es) (.map (some r))
inductive VRel (F:FH) (η:Et) (n:Nat):AV→Value→Prop
 |d {x:D} {v:Value} (h:DRel F x v):VRel F η n (.d x) v
 |agg {cs:List AV} {vs:Array Value} (hn:vs.size=cs.length) (h:∀j (hj:j<cs.length),VRel F η n cs[j] (vs.getD j undef)):
   VRel F η n (.agg cs) (.agg vs)
 |tup {cs:List AV} {vs:Array Value} (hn:vs.size=cs.length) (h:∀j (hj:j<cs.length),VRel F η n cs[j] (vs.getD j undef)):
   VRel F η n (.tup cs) (.tuple vs)
 |ref {i off:Nat} (hi:i<n):VRel F η n (.ref i off) (.pointer (some ⟨η.blk i,off,none⟩))
 |sl {i v lo hi b cap sz off:Nat} (h1:i<n) (h2:v<n) (hh:η.hdr v=⟨some b,cap,sz⟩) (hle:lo≤hi) (hc:hi≤cap) (hoff:lo<cap→off=lo*sz):
   VRel F η n (.sl i v lo hi) (.slice (some ⟨b,off,none⟩) (hi-lo) (cap-lo))
 |sl0 {i v cap sz:Nat} (hi:i<n) (hv:v<n) (hh:η.hdr v=⟨none,cap,sz⟩):VRel F η n (.sl i v 0 0) (.slice none 0 0)
 |ep {i v k off b cap sz:Nat} (hi:i<n) (hv:v<n) (hh:η.hdr v=⟨some b,cap,sz⟩):
   VRel F η n (.ep i v k off) (.pointer (some ⟨b,k*sz+off,none⟩))
 |mp {i:Nat} (hi:i<n):VRel F η n (.mp i) (.map (some (η.blk i)))
 |it {i:Nat} (hi:i<n):VRel F η n (.it i) (.pointer (some ⟨η.blk i,0,none⟩))
 |fn {f:FuncId} {caps:List AV} {vs:Array Value} (hn:vs.size=caps.length) (h:∀j (hj:j<caps.length),VRel F η n caps[j] (vs.getD j undef)):
   VRel F η n (.fn f caps) (.func (.func f) #[] vs)
 |ifc {t:TypeId} {x:AV} {v:Value} (h:VRel F η n x v):VRel F η n (.ifc t x) (.iface t v)
 |any (v:Value):VRel F η n .any v
theorem VRel.s_inv {F:FH} {η:Et} {n:Nat} {v u:Value} (h:VRel F η n (.d (.s v)) u):u=v:=by
 cases h with
 |d h=>cases h;rfl
def FH.le (F F':FH):Prop:=∀b o,F b=some o→F' b=some o
theorem FH.le_refl (F:FH):F.le F:=fun _ _ h=>h
theorem FH.le_trans {F G H:FH} (h:F.le G) (h':G.le H):F.le H:=fun b o hb=>h' b o (h b o hb)
theorem DRel.mono {F F':FH} (h:F.le F') {x:D} {v:Value} (hd:DRel F x v):DRel F' x v:=by
 induction hd with
 |s v=>exact .s v
 |im0 a cap=>exact .im0 a cap
 |im rows b o cap sz c E fz f hb hcap hsz hc ho _ ih=>exact .im rows b o cap sz c E fz f (h _ _ hb) hcap hsz hc ho ih
 |ip cells off b o c E fz f hb hc ho _ ih=>exact .ip cells off b o c E fz f (h _ _ hb) hc ho ih
 |mp0 kk=>exact .mp0 kk
 |mp kk es r ents clock f π hb hn hf hd hk hs _ ih=>exact .mp kk es r ents clock f π (h _ _ hb) hn hf hd hk hs ih
def Et.agree (n:Nat) (η η':Et):Prop:=∀i,i<n→η'.blk i=η.blk i∧η'.hdr i=η.hdr i
theorem Et.agree_refl (n:Nat) (η:Et):η.agree n η:=fun _ _=>⟨rfl,rfl⟩
theorem Et.agree_trans {n m:Nat} {a b c:Et} (h:a.agree n b) (h':b.agree m c) (hnm:n≤m):a.agree n c:=
 fun i hi=>⟨((h' i (by omega)).1).trans (h i hi).1,((h' i (by omega)).2).trans (h i hi).2⟩
theorem VRel.mono {F F':FH} {η η':Et} {n n':Nat} (hF:F.le F') (hη:η.agree n η') (hn:n≤n') {x:AV} {v:Value} (h:VRel F η n x v):VRel F' η' n' x v:=by
 induction h with
 |d h=>exact .d (h.mono hF)
 |agg h1 _ ih=>exact .agg h1 ih
 |tup h1 _ ih=>exact .tup h1 ih
 |@ref i off hi=>
  have:=@VRel.ref F' η' n' i off (by omega)
  rwa [(hη i hi).1]at this
 |@sl i v lo hi b cap sz off h1 h2 hh hle hc hoff=>exact .sl (by omega) (by omega) ((hη v h2).2.trans hh) hle hc hoff
 |@sl0 i v cap sz h1 h2 hh=>exact .sl0 (by omega) (by omega) ((hη v h2).2.trans hh)
 |@ep i v k off b cap sz h1 h2 hh=>exact .ep (by omega) (by omega) ((hη v h2).2.trans hh)
 |@mp i hi=>
  have:=@VRel.mp F' η' n' i (by omega)
  rwa [(hη i hi).1]at this
 |@it i hi=>
  have:=@VRel.it F' η' n' i (by omega)
  rwa [(hη i hi).1]at this
 |fn h1 _ ih=>exact .fn h1 ih
 |ifc _ ih=>exact .ifc ih
 |any v=>exact .any v
def FRel (F:FH) (w:World):Prop:=∀b o,F b=some o→w.heap[b]? = some o
def own (η:Et) (i:Nat):AO→Option Nat
 |.row v _ _ _=>(η.hdr v).blk
 |.box _=>none
 |_=>some (η.blk i)
def Owns (η:Et) (i:Nat):AO→Nat→Prop
 |.box τ,b=>τ b≠none
 |o,b=>own η i o=some b
def Hd.val (h:Hd) (n:Nat):Value:=
 match h.blk with
 |some b=>.slice (some ⟨b,0,none⟩) n h.cap
 |none=>.slice none 0 0
inductive ORel (F:FH) (η:Et) (n:Nat) (w:World) (i:Nat):AO→Prop
 |var {cells:List AV} (c:Array Value) (E:TypeId) (hb:w.heap[η.blk i]? = some (.cells c E (0,0))) (hn:c.size=cells.length)
   (h1:∀j,j<cells.length→(c.getD j undef).oneCell'=true) (h:∀j (hj:j<cells.length),VRel F η n cells[j] (c.getD j undef)):ORel F η n w i (.var cells)
 |row {v:Nat} {E:TypeId} {sz:Nat} {rows:List (List AV)} (xs:List Value) (hv:v<n) (hs:(η.hdr v).sz=sz) (hp:0<sz)
   (ho:w.ownsRow 0 E sz ((η.hdr v).val rows.length) rows.length xs) (hsz:∀r∈rows,r.length=sz) (h1:∀u∈xs,u.oneCell'=true)
   (h:∀k (hk:k<rows.length) j (hj:j<(rows[k]).length),VRel F η n ((rows[k])[j]) (xs.getD (k*sz+j) undef)):ORel F η n w i (.row v E sz rows)
 |map {kk:KD} {es:List (Value×AV)} (ents:Array MapEntry) (clock:Nat) (hb:w.heap[η.blk i]? = some (.map ents clock)) (hn:ents.size=es.length) (hf:∀e∈es,keyFit kk e.1=true)
   (hk:∀k (h:k<es.length),(ents[k]?).map (fun e=>e.key)=some es[k].1)
   (hd:∀k k' (h:k<es.length) (h':k'<es.length),keyEq es[k].1 es[k'].1=true→k=k')
   (hb1:∀k (h:k<ents.size),ents[k].born<clock) (hb2:∀k k' (h:k<ents.size) (h':k'<ents.size),ents[k].born=ents[k'].born→k=k')
   (h:∀k (h:k<es.length),VRel F η n es[k].2 ((ents[k]?.map (fun e=>e.val)).getD undef)):ORel F η n w i (.map kk es)
 |iter {o:Obj} (hb:w.heap[η.blk i]? = some o):ORel F η n w i (.iter o)
 |box {τ:Nat→Option Obj} (hb:∀b o,τ b=some o→w.heap[b]? = some o):ORel F η n w i (.box τ)
structure SRel (F:FH) (η:Et) (σ:St) (w:World):Prop where
 lt:∀i o,σ.obj i=some o→i<σ.next
 ob:∀i o,σ.obj i=some o→ORel F η σ.next w i o
 ap:∀i j oi oj b,σ.obj i=some oi→σ.obj j=some oj→Owns η i oi b→Owns η j oj b→i=j
 fr:∀i o b,σ.obj i=some o→Owns η i o b→F b=none
def More (w w':World):Prop:=w.heap.size≤w'.heap.size∧w'.os=w.os∧w'.output=w.output
theorem More.refl (w:World):More w w:=⟨Nat.le_refl _,rfl,rfl⟩
theorem More.trans {a b c:World} (h:More a b) (k:More b c):More a c:=⟨Nat.le_trans h.1 k.1,k.2.1.trans h.2.1,k.2.2.trans h.2.2⟩
structure Step (F:FH) (η:Et) (σ:St) (w:World) (F':FH) (η':Et) (σ':St) (w':World):Prop where
 fh:F.le F'
 et:η.agree σ.next η'
 nx:σ.next≤σ'.next
 gr:More w w'
 fm:∀b,b<w.heap.size→(∀i o,σ.obj i=some o→¬Owns η i o b)→w'.heap[b]? = w.heap[b]?
 nw:∀i o b,σ'.obj i=some o→Owns η' i o b→b<w.heap.size→∃j oj,σ.obj j=some oj∧Owns η j oj b
 nf:∀b o,F' b=some o→b<w.heap.size→F b=some o∨∃j oj,σ.obj j=some oj∧Owns η j oj b
theorem Step.refl (F:FH) (η:Et) (σ:St) (w:World):Step F η σ w F η σ w:=
 ⟨F.le_refl,Et.agree_refl _ _,Nat.le_refl _,.refl _,fun _ _ _=>rfl,fun i o _ h h' _=>⟨i,o,h,h'⟩,fun _ _ h _=>.inl h⟩
theorem Step.trans {F F' F'':FH} {η η' η'':Et} {σ σ' σ'':St} {w w' w'':World} (h:Step F η σ w F' η' σ' w') (h':Step F' η' σ' w' F'' η'' σ'' w''):
  Step F η σ w F'' η'' σ'' w'':=by
 refine⟨FH.le_trans h.fh h'.fh,Et.agree_trans h.et h'.et h.nx,Nat.le_trans h.nx h'.nx,h.gr.trans h'.gr,?_,?_,?_⟩
 ·intro b hb hno
  have h1:=h.fm b hb hno
  have hb':b<w'.heap.size:=Nat.lt_of_lt_of_le hb h.gr.1
  rw[h'.fm b hb' (fun i o hi ho=>?_),h1]
  obtain⟨j,oj,hj,hoj⟩:=h.nw i o b hi ho hb
  exact hno j oj hj hoj
 ·intro i o b hi ho hb
  obtain⟨j,oj,hj,hoj⟩:=h'.nw i o b hi ho (Nat.lt_of_lt_of_le hb h.gr.1)
  exact h.nw j oj b hj hoj hb
 ·intro b o hb hlt
  rcases h'.nf b o hb (Nat.lt_of_lt_of_le hlt h.gr.1)with h1|⟨j,oj,hj,hoj⟩
  ·exact h.nf b o h1 hlt
  ·exact .inr (h.nw j oj b hj hoj hlt)
structure TI where
 kind:KD
 size:Nat
 bytes:Nat
 zero:List Value
 eqok:Bool:=false
def Flat (P:Program) (t:TypeId):Prop:=
 P.stoodInHeld t=false∧P.eqGuardType P.depth t=false∧∃fs,P.underlying t=some (.struct fs)∧∀f∈fs.toList,f.name≠"_"
structure Cfg where
 P:Program
 G:Nat→Option (List D)
 T:TypeId→Option TI
 ok:∀t ti,T t=some ti→∃d i z,P.underlying t=some d∧kindOf d=ti.kind∧P.info? t=some i∧i.size=ti.size∧i.bytes=ti.bytes∧i.zero=some z∧
  z.cells=ti.zero.toArray∧ti.zero.length=ti.size∧ti.zero.all (·.oneCell')=true∧(isAggK ti.kind=false→z=ti.zero.headD undef)∧(isAggK ti.kind=true→z=.agg ti.zero.toArray)
 cl:∀t ti fs,T t=some ti→ti.kind=.struct fs→∀f∈fs,(T f.2).isSome=true
 eq:∀t ti,T t=some ti→ti.eqok=true→Flat P t
def GRel (X:Cfg) (F:FH):Prop:=∀g cells,X.G g=some cells→DRel F (.ip cells 0) (.pointer (some ⟨g,0,none⟩))∧∃c E fz,F g=some (.cells c E fz)∧c.size=cells.length
theorem GRel.mono {X:Cfg} {F F':FH} (h:GRel X F) (hF:F.le F'):GRel X F':=fun g cells hg=>by
 obtain⟨h1,c,E,fz,h2,h3⟩:=h g cells hg
 exact⟨h1.mono hF,c,E,fz,hF _ _ h2,h3⟩
structure Rel (F:FH) (η:Et) (nt:Nat) (env:Env) (σ:St) (a:Act) (w:World):Prop where
 fr:FRel F w
 st:SRel F η σ w
 en:∀t,VRel F η σ.next (env t) (a.tmps.getD t undef)
 sz:a.tmps.size=nt
 df:a.defers=[]
def aev (X:Cfg) (env:Env):Operand→AV
 |.tmp t=>env t
 |.const v=>.d (.s v)
 |.global g=>match X.G g with|some cells=>.d (.ip cells 0)|none=>.any
 |.func f=>.d (.s (.func (.func f) #[] #[]))
theorem J0V {X:Cfg} {F:FH} {η:Et} {nt:Nat} {env:Env} {σ:St} {a:Act} {w:World} (hg:GRel X F) (h:Rel F η nt env σ a w) (x:Operand):
  VRel F η σ.next (aev X env x) (a.eval x):=by
 cases x with
 |tmp t=>exact h.en t
 |const v=>exact .d (.s v)
 |global g=>
  simp only[aev,Act.eval]
  split
  ·rename_i cells hc;exact .d (hg g cells hc).1
  ·exact .any _
 |func f=>exact .d (.s _)
inductive AEnd where
 |ret (r:AV)
 |pan (chain:List PanicEntry)
def EndRel (F:FH) (η:Et) (n:Nat):AEnd→Ending→Prop
 |.ret r,.returned v=>VRel F η n r v
 |.pan c,.panicked c'=>c'=c
 |_,_=>False
def CallOk (P:Program) (f:FuncId):Prop:=∃fn,P.funcs[f]? = some fn∧(fn.name == "runtime.NumGoroutine")=false∧fn.body.isNone=false
def AFun (X:Cfg) (f:FuncId) (args:List AV) (σ:St) (K:AEnd→St→Prop):Prop:=
 CallOk X.P f∧∀(F:FH) (η:Et) (w:World) (vals:Array Value),GRel X F→FRel F w→SRel F η σ w→vals.size=args.length→
  (∀j (h:j<args.length),VRel F η σ.next args[j] (vals.getD j undef))→
  Calls X.P f vals w fun e w'=>∃F' η' σ' E,Step F η σ w F' η' σ' w'∧FRel F' w'∧SRel F' η' σ' w'∧EndRel F' η' σ'.next E e∧K E σ'
theorem AFun.mono {X:Cfg} {f:FuncId} {args:List AV} {σ:St} {K K':AEnd→St→Prop} (h:AFun X f args σ K) (hk:∀E σ',K E σ'→K' E σ'):AFun X f args σ K':=
 ⟨h.1,fun F η w vals hg hf hs hn hv=>(h.2 F η w vals hg hf hs hn hv).mono fun _ _ ⟨F',η',σ',E,h1,h2,h3,h4,h5⟩=>⟨F',η',σ',E,h1,h2,h3,h4,hk _ _ h5⟩⟩
def Post (X:Cfg) (nt:Nat) (F:FH) (η:Et) (σ:St) (w:World) (Q:Exit→Env→St→Prop) (e:Exit) (a':Act) (w':World):Prop:=
 ∃F' η' env' σ',Step F η σ w F' η' σ' w'∧GRel X F'∧Rel F' η' nt env' σ' a' w'∧Q e env' σ'
def Ok (X:Cfg) (nt:Nat) (c:Code) (Q:Exit→Env→St→Prop) (env:Env) (σ:St):Prop:=
 ∀(F:FH) (η:Et) (a:Act) (w:World),GRel X F→Rel F η nt env σ a w→c.wp X.P (Post X nt F η σ w Q) a w
theorem Post.trans {X:Cfg} {nt:Nat} {F F':FH} {η η':Et} {σ σ':St} {w w':World} {Q Q':Exit→Env→St→Prop} {e:Exit} {a'':Act} {w'':World}
  (hs:Step F η σ w F' η' σ' w') (h:Post X nt F' η' σ' w' Q e a'' w'') (hq:∀env σ,Q e env σ→Q' e env σ):Post X nt F η σ w Q' e a'' w'':=by
 obtain⟨F1,η1,env1,σ1,s1,g1,r1,q1⟩:=h
 exact⟨F1,η1,env1,σ1,hs.trans s1,g1,r1,hq _ _ q1⟩
section rules
variable {X:Cfg} {nt:Nat} {Q:Exit→Env→St→Prop} {env:Env} {σ:St}
theorem J7 (h:Q .normal env σ):Ok X nt .skip Q env σ:=
 fun F η _ w hg hr=>wp_skip ⟨F,η,env,σ,.refl _ _ _ _,hg,hr,h⟩
theorem J9 (h:Q .ret env σ):Ok X nt .ret Q env σ:=
 fun F η _ w hg hr=>wp_ret ⟨F,η,env,σ,.refl _ _ _ _,hg,hr,h⟩
theorem Jf {id:Nat} (h:Q (.exit id) env σ):Ok X nt (.exit id) Q env σ:=
 fun F η _ w hg hr=>wp_exit ⟨F,η,env,σ,.refl _ _ _ _,hg,hr,h⟩
theorem J89 {c:Code} {Q':Exit→Env→St→Prop} (h:Ok X nt c Q env σ) (hq:∀e env σ,Q e env σ→Q' e env σ):Ok X nt c Q' env σ:=
 fun F η a w hg hr=>wp_mono (h F η a w hg hr) fun _ _ _ hp=>hp.trans (.refl _ _ _ _) fun _ _=>hq _ _ _
def andThen (K:Env→St→Prop) (Q:Exit→Env→St→Prop):Exit→Env→St→Prop
 |.normal,env,σ=>K env σ
 |e,env,σ=>Q e env σ
theorem J5 {x y:Code} (h:Ok X nt x (andThen (Ok X nt y Q) Q) env σ):Ok X nt (.seq x y) Q env σ:=by
 intro F η a w hg hr
 refine wp_seq (wp_mono (h F η a w hg hr) ?_)
 intro e a1 w1 hp
 cases e with
 |normal=>
  obtain⟨F1,η1,env1,σ1,s1,g1,r1,q1⟩:=hp
  exact wp_mono (q1 F1 η1 a1 w1 g1 r1) fun e2 a2 w2 hp2=>hp2.trans s1 fun _ _ h=>h
 |exit id=>exact hp
 |goto l=>exact hp
 |ret=>exact hp
 |panic ch=>exact hp
 |outgrown=>exact hp
def inBlock (id:Nat) (Q:Exit→Env→St→Prop):Exit→Env→St→Prop
 |.exit id',env,σ=>if id'=id then Q .normal env σ else Q (.exit id') env σ
 |e,env,σ=>Q e env σ
theorem J4 {id:Nat} {c:Code} (h:Ok X nt c (inBlock id Q) env σ):Ok X nt (.block id c) Q env σ:=by
 intro F η a w hg hr
 refine wp_block (wp_mono (h F η a w hg hr) ?_)
 intro e a1 w1 hp
 cases e with
 |exit id'=>
  obtain⟨F1,η1,env1,σ1,s1,g1,r1,q1⟩:=hp
  by_cases hid:id'=id
  ·simp only[inBlock,hid,if_true]at q1
   simp only[Exit.inBlock,hid,if_true]
   exact⟨F1,η1,env1,σ1,s1,g1,r1,q1⟩
  ·simp only[inBlock,hid,if_false]at q1
   simp only[Exit.inBlock,hid,if_false]
   exact⟨F1,η1,env1,σ1,s1,g1,r1,q1⟩
 |normal=>exact hp
 |goto l=>exact hp
 |ret=>exact hp
 |panic ch=>exact hp
 |outgrown=>exact hp
theorem JaM {c:Operand} {x y:Code} (h:∃b,aev X env c=.d (.s (.bool b))∧(b=true→Ok X nt x Q env σ)∧(b=false→Ok X nt y Q env σ)):
  Ok X nt (.cond c x y) Q env σ:=by
 intro F η a w hg hr
 obtain⟨b,hb,h1,h2⟩:=h
 have hv:=J0V hg hr c
 rw[hb]at hv
 have he:a.eval c=.bool b:=hv.s_inv
 exact wp_cond_split he (fun e=>h1 e F η a w hg hr) (fun e=>h2 e F η a w hg hr)
def Turn (X:Cfg) (nt:Nat) (env:Env) (σ:St) (env':Env) (σ':St):Prop:=
 ∀(F:FH) (η:Et) (a:Act) (w:World),GRel X F→Rel F η nt env σ a w→∃F' η',Step F η σ w F' η' σ' w∧GRel X F'∧Rel F' η' nt env' σ' a w
theorem Turn.refl:Turn X nt env σ env σ:=fun F η _ w hg hr=>⟨F,η,.refl _ _ _ _,hg,hr⟩
theorem J0a {c:Code} {env':Env} {σ':St} (t:Turn X nt env σ env' σ') (h:Ok X nt c Q env' σ'):Ok X nt c Q env σ:=by
 intro F η a w hg hr
 obtain⟨F1,η1,s1,g1,r1⟩:=t F η a w hg hr
 exact wp_mono (h F1 η1 a w g1 r1) fun _ _ _ hp=>hp.trans s1 fun _ _ h=>h
theorem Jb1 {c:Code} (I:Nat→Env→St→Prop) (n0:Nat) (h0:I n0 env σ)
  (round:∀n env σ,I n env σ→Ok X nt c (andThen (fun env σ=>∃m,m<n∧I m env σ) Q) env σ):Ok X nt (.loop c) Q env σ:=by
 intro F0 η0 a0 w0 hg0 hr0
 let J:Act→World→Nat→Prop:=fun a w n=>∃F η env' σ',Step F0 η0 σ w0 F η σ' w∧GRel X F∧Rel F η nt env' σ' a w∧I n env' σ'
 intro b k cs
 have key:∀n a w,J a w n→∃e a' w',Post X nt F0 η0 σ w0 Q e a' w'∧Arrives X.P (lone (b.at a (.code c::.inLoop c::k)) cs w) b k cs e a' w':=by
  intro n
  induction n using Nat.strongRecOn with
  |_ n ih=>
   intro a w hJ
   obtain⟨F,η,env',σ',hs,hg,hr,hI⟩:=hJ
   obtain⟨e,a₁,w₁,hq,harr⟩:=round n env' σ' hI F η a w hg hr b (.inLoop c::k) cs
   cases e with
   |normal=>
    obtain⟨F1,η1,env1,σ1,s1,g1,r1,m,hm,hIm⟩:=hq
    obtain⟨e₂,a₂,w₂,hq₂,harr₂⟩:=ih m hm a₁ w₁ ⟨F1,η1,env1,σ1,hs.trans s1,g1,r1,hIm⟩
    exact⟨e₂,a₂,w₂,hq₂,.of_steps (Steps.trans harr (.one step_inLoop)) harr₂⟩
   |exit id=>exact⟨_,a₁,w₁,hq.trans hs (fun _ _ h=>h),.pass (x:=.inLoop c) rfl (fun _ _=>.inl (by simp)) harr⟩
   |goto l=>exact⟨_,a₁,w₁,hq.trans hs (fun _ _ h=>h),.pass (x:=.inLoop c) rfl (fun _ _=>.inl (by simp)) harr⟩
   |ret=>exact⟨_,a₁,w₁,hq.trans hs (fun _ _ h=>h),.pass (x:=.inLoop c) rfl (fun _ _=>.inl (by simp)) harr⟩
   |panic ch=>exact⟨_,a₁,w₁,hq.trans hs (fun _ _ h=>h),.pass (x:=.inLoop c) rfl (fun _ _=>.inl (by simp)) harr⟩
   |outgrown=>exact⟨_,a₁,w₁,hq.trans hs (fun _ _ h=>h),.pass (x:=.inLoop c) rfl (fun _ _=>.inl (by simp)) harr⟩
 obtain⟨e,a',w',hq,harr⟩:=key n0 a0 w0 ⟨F0,η0,env,σ,.refl _ _ _ _,hg0,hr0,h0⟩
 exact⟨e,a',w',hq,.of_steps (.one step_loop) harr⟩
end rules
end Go.Pm
/- Part of the proof: Pm2. -/
namespace Go.Pm
theorem J06 {w:World} {E sz n:Nat} {h:Hd} {xs:List Value} (ho:w.ownsRow 0 E sz (h.val n) n xs) {b:Nat} (hb:h.blk=some b):
  ∃cur,w.heap[b]? = some (.cells cur E (0,0))∧n≤h.cap∧h.cap≤maxLen∧cur.size=h.cap*sz∧cur.toList.take (n*sz)=xs:=by
 obtain⟨_,ho⟩:=ho
 simp only[Hd.val,hb]at ho
 rcases ho with⟨h,_⟩|⟨g,cap,cur,h,_,hg,h1,h2,h3,h4⟩
 ·simp at h
 ·simp only[Value.slice.injEq,Option.some.injEq,Addr.mk.injEq,and_true,true_and]at h
  obtain⟨rfl,rfl⟩:=h
  exact⟨cur,hg,h1,h2,h3,h4⟩
theorem J1e {w:World} {E sz n:Nat} {h:Hd} {xs:List Value} (ho:w.ownsRow 0 E sz (h.val n) n xs) (hb:h.blk=none):n=0:=by
 obtain⟨_,ho⟩:=ho
 simp only[Hd.val,hb]at ho
 rcases ho with⟨_,h⟩|⟨g,cap,cur,h,_⟩
 ·exact h
 ·simp at h
theorem ORel.own_lt {F:FH} {η:Et} {n:Nat} {w:World} {i:Nat} {o:AO} (h:ORel F η n w i o) {b:Nat} (hb:Owns η i o b):b<w.heap.size:=by
 have key:∀{x:Obj},w.heap[b]? = some x→b<w.heap.size:=fun hx=>(Array.getElem?_eq_some_iff.1 hx).1
 cases h with
 |var c E h1 h2 h2' h3=>simp only[Owns,own,Option.some.injEq]at hb;subst hb;exact key h1
 |row xs hv hs hp ho hsz h1 h=>obtain⟨cur,hg,_⟩:=J06 ho hb;exact key hg
 |map ents clock h1=>simp only[Owns,own,Option.some.injEq]at hb;subst hb;exact key h1
 |iter h1=>simp only[Owns,own,Option.some.injEq]at hb;subst hb;exact key h1
 |@box τ h1=>
  cases hx:τ b with
  |none=>exact absurd hx hb
  |some x=>exact key (h1 b x hx)
theorem ORel.own_agree {F:FH} {η η':Et} {n:Nat} {w:World} {i:Nat} {o:AO} (h:ORel F η n w i o) (hi:i<n) (ha:η.agree n η'):Owns η' i o=Owns η i o:=by
 cases h with
 |var=>funext b;simp only[Owns,own];rw[(ha i hi).1]
 |row xs hv=>funext b;simp only[Owns,own];rw[(ha _ hv).2]
 |map=>funext b;simp only[Owns,own];rw[(ha i hi).1]
 |iter=>funext b;simp only[Owns,own];rw[(ha i hi).1]
 |box=>rfl
theorem ORel.mono {F F':FH} {η η':Et} {n n':Nat} {w w':World} {i:Nat} {o:AO} (h:ORel F η n w i o) (hi:i<n) (hF:F.le F') (ha:η.agree n η') (hn:n≤n')
  (hb:∀b,Owns η i o b→w'.heap[b]? = w.heap[b]?):ORel F' η' n' w' i o:=by
 cases h with
 |var c E h1 h2 h2' h3=>
  refine .var c E ?_ h2 h2' fun j hj=>(h3 j hj).mono hF ha hn
  rw[(ha i hi).1,hb _ rfl];exact h1
 |@row v E sz rows xs hv hs hp ho hsz h1 h=>
  have hh:=(ha _ hv).2
  refine .row xs (Nat.lt_of_lt_of_le hv hn) (by rw[hh];exact hs) hp ?_ hsz h1 fun k hk j hj=>(h k hk j hj).mono hF ha hn
  rw[hh]
  refine⟨ho.1,?_⟩
  rcases ho.2 with hx|⟨g,cap,cur,hx,h0,hg,rest⟩
  ·exact .inl hx
  ·refine .inr ⟨g,cap,cur,hx,h0,?_,rest⟩
   have:Owns η i (.row v E sz rows) g:=by
    simp only[Owns,own]
    unfold Hd.val at hx
    cases hbk:(η.hdr v).blk with
    |none=>simp[hbk]at hx
    |some b=>simp[hbk]at hx;simp[hx.1]
   rw[hb _ this];exact hg
 |map ents clock h1 h2 h2' h3 h3' h4 h5 h6=>
  refine .map ents clock ?_ h2 h2' h3 h3' h4 h5 fun k hk=>(h6 k hk).mono hF ha hn
  rw[(ha i hi).1,hb _ rfl];exact h1
 |iter h1=>exact .iter (by rw[(ha i hi).1,hb _ rfl];exact h1)
 |box h1=>exact .box fun b o h=>by rw[hb b (by simp[Owns,h])];exact h1 b o h
theorem upd {F:FH} {η η':Et} {σ:St} {w w':World} (hf:FRel F w) (hs:SRel F η σ w) (i:Nat) (o:AO) (n':Nat)
  (hi:i<n') (hn:σ.next≤n') (ha:η.agree σ.next η') (hsz:More w w')
  (hfr:∀b,b<w.heap.size→(∀oi,σ.obj i=some oi→¬Owns η i oi b)→w'.heap[b]? = w.heap[b]?)
  (hob:ORel F η' n' w' i o)
  (hown:∀b,Owns η' i o b→b<w.heap.size→∃oi,σ.obj i=some oi∧Owns η i oi b):
  Step F η σ w F η' ⟨fun j=>if j=i then some o else σ.obj j,n'⟩ w'∧FRel F w'∧SRel F η' ⟨fun j=>if j=i then some o else σ.obj j,n'⟩ w':=by
 have hoth:∀j oj b,j≠i→σ.obj j=some oj→Owns η j oj b→w'.heap[b]? = w.heap[b]?:=by
  intro j oj b hji hj hb
  refine hfr b ((hs.ob j oj hj).own_lt hb) fun oi hoi hb'=>hji (hs.ap j i oj oi b hj hoi hb hb')
 have hag:∀j oj,σ.obj j=some oj→Owns η' j oj=Owns η j oj:=fun j oj hj=>(hs.ob j oj hj).own_agree (hs.lt j oj hj) ha
 refine⟨⟨F.le_refl,ha,hn,hsz,?_,?_,fun _ _ h _=>.inl h⟩,?_,⟨?_,?_,?_,?_⟩⟩
 ·exact fun b hb hno=>hfr b hb fun oi hoi=>hno i oi hoi
 ·intro j oj b hj hb hlt
  by_cases hji:j=i
  ·subst hji
   simp only[if_true,Option.some.injEq]at hj
   subst hj
   obtain⟨oi,h1,h2⟩:=hown b hb hlt
   exact⟨j,oi,h1,h2⟩
  ·simp only[hji,if_false]at hj
   rw[hag j oj hj]at hb
   exact⟨j,oj,hj,hb⟩
 ·intro b ob hb
  have h1:=hf b ob hb
  have hlt:b<w.heap.size:=(Array.getElem?_eq_some_iff.1 h1).1
  rw[hfr b hlt fun oi hoi hb'=>?_]
  ·exact h1
  ·have:=hs.fr i oi b hoi hb'
   rw[hb]at this;cases this
 ·intro j oj hj
  by_cases hji:j=i
  ·subst hji;exact hi
  ·simp only[hji,if_false]at hj
   exact Nat.lt_of_lt_of_le (hs.lt j oj hj) hn
 ·intro j oj hj
  by_cases hji:j=i
  ·subst hji
   simp only[if_true,Option.some.injEq]at hj
   subst hj
   exact hob
  ·simp only[hji,if_false]at hj
   exact(hs.ob j oj hj).mono (hs.lt j oj hj) F.le_refl ha hn fun b hb=>hoth j oj b hji hj hb
 ·intro j k oj ok b hj hk hbj hbk
  by_cases hji:j=i
  ·by_cases hki:k=i
   ·omega
   ·exfalso
    subst hji
    simp only[if_true,Option.some.injEq]at hj
    subst hj
    simp only[hki,if_false]at hk
    rw[hag k ok hk]at hbk
    obtain⟨oi,h1,h2⟩:=hown b hbj ((hs.ob k ok hk).own_lt hbk)
    exact hki (hs.ap k j ok oi b hk h1 hbk h2)
  ·simp only[hji,if_false]at hj
   rw[hag j oj hj]at hbj
   by_cases hki:k=i
   ·exfalso
    subst hki
    simp only[if_true,Option.some.injEq]at hk
    subst hk
    obtain⟨oi,h1,h2⟩:=hown b hbk ((hs.ob j oj hj).own_lt hbj)
    exact hji (hs.ap j k oj oi b hj h1 hbj h2)
   ·simp only[hki,if_false]at hk
    rw[hag k ok hk]at hbk
    exact hs.ap j k oj ok b hj hk hbj hbk
 ·intro j oj b hj hb
  by_cases hlt:b<w.heap.size
  ·by_cases hji:j=i
   ·subst hji
    simp only[if_true,Option.some.injEq]at hj
    subst hj
    obtain⟨oi,h1,h2⟩:=hown b hb hlt
    exact hs.fr j oi b h1 h2
   ·simp only[hji,if_false]at hj
    rw[hag j oj hj]at hb
    exact hs.fr j oj b hj hb
  ·cases hF:F b with
   |none=>rfl
   |some ob=>exact absurd (Array.getElem?_eq_some_iff.1 (hf b ob hF)).1 hlt
def Et.withBlk (η:Et) (n b:Nat):Et:=⟨fun i=>if i=n then b else η.blk i,η.hdr⟩
def Et.withHdr (η:Et) (n:Nat) (h:Hd):Et:=⟨η.blk,fun i=>if i=n then h else η.hdr i⟩
theorem Et.agree_withBlk (η:Et) (n b:Nat):η.agree n (η.withBlk n b):=
 fun i hi=>⟨by simp[Et.withBlk,Nat.ne_of_lt hi],rfl⟩
theorem Et.agree_withHdr (η:Et) (n:Nat) (h:Hd):η.agree n (η.withHdr n h):=
 fun i hi=>⟨rfl,by simp[Et.withHdr,Nat.ne_of_lt hi]⟩
theorem J85 {F:FH} {η:Et} {σ:St} {w:World} (hf:FRel F w) (hs:SRel F η σ w) (cells:List AV) (c:Array Value) (E:TypeId) (hn:c.size=cells.length) (h1:∀j,j<cells.length→(c.getD j undef).oneCell'=true)
  (h:∀j (hj:j<cells.length),VRel F η σ.next cells[j] (c.getD j undef)):
  ∃η',Step F η σ w F η' (σ.alloc (.var cells)) (w.alloc (.cells c E))∧FRel F (w.alloc (.cells c E))∧SRel F η' (σ.alloc (.var cells)) (w.alloc (.cells c E))∧
   η'.blk σ.next=w.heap.size:=by
 have ha:=Et.agree_withBlk η σ.next w.heap.size
 have hnone:∀oi,σ.obj σ.next=some oi→False:=fun oi ho=>Nat.lt_irrefl _ (hs.lt _ _ ho)
 have hblk:(η.withBlk σ.next w.heap.size).blk σ.next=w.heap.size:=by simp[Et.withBlk]
 obtain⟨g1,g2,g3⟩:=upd (η':=η.withBlk σ.next w.heap.size) (w':=w.alloc (.cells c E)) hf hs σ.next (.var cells) (σ.next+1) (Nat.lt_succ_self _) (Nat.le_succ _) ha ⟨by simp,rfl,rfl⟩
  (fun b hb _=>heap_alloc_old w _ hb)
  (.var c E (by rw[hblk];exact heap_alloc_new w _) hn h1 fun j hj=>(h j hj).mono F.le_refl ha (Nat.le_succ _))
  (fun b hb hlt=>by simp only[Owns,own,hblk,Option.some.injEq]at hb;omega)
 exact⟨_,g1,g2,g3,hblk⟩
theorem JaW {F:FH} {η:Et} {σ:St} {w:World} (hf:FRel F w) (hs:SRel F η σ w) (E sz:Nat) (rows:List (List AV)) (c:Array Value) (cap:Nat)
  (hp:0<sz) (hcap:cap≤maxLen) (hc:c.size=cap*sz) (hle:rows.length≤cap) (hsz:∀r∈rows,r.length=sz) (h1:∀j,j<rows.length*sz→(c.getD j undef).oneCell'=true)
  (h:∀k (hk:k<rows.length) j (hj:j<(rows[k]).length),VRel F η σ.next ((rows[k])[j]) (c.getD (k*sz+j) undef)):
  ∃η',Step F η σ w F η' (σ.alloc (.row σ.next E sz rows)) (w.alloc (.cells c E))∧FRel F (w.alloc (.cells c E))∧SRel F η' (σ.alloc (.row σ.next E sz rows)) (w.alloc (.cells c E))∧
   η'.hdr σ.next=⟨some w.heap.size,cap,sz⟩:=by
 have ha:=Et.agree_withHdr η σ.next ⟨some w.heap.size,cap,sz⟩
 have hh:(η.withHdr σ.next ⟨some w.heap.size,cap,sz⟩).hdr σ.next=⟨some w.heap.size,cap,sz⟩:=by simp[Et.withHdr]
 have hlen:∀k,k<rows.length→∀j,j<sz→k*sz+j<rows.length*sz:=by
  intro k hk j hj
  calc k*sz+j<k*sz+sz:=by omega
   _=(k+1)*sz:=by rw[Nat.add_mul,Nat.one_mul]
   _≤rows.length*sz:=Nat.mul_le_mul_right _ hk
 obtain⟨g1,g2,g3⟩:=upd (η':=η.withHdr σ.next ⟨some w.heap.size,cap,sz⟩) (w':=w.alloc (.cells c E)) hf hs σ.next (.row σ.next E sz rows) (σ.next+1) (Nat.lt_succ_self _) (Nat.le_succ _) ha ⟨by simp,rfl,rfl⟩
  (fun b hb _=>heap_alloc_old w _ hb)
  (.row (c.toList.take (rows.length*sz)) (Nat.lt_succ_self _) (by rw[hh]) hp
   (by
    rw[hh]
    refine⟨?_,.inr ⟨w.heap.size,cap,c,rfl,Nat.zero_le _,heap_alloc_new w _,hle,hcap,hc,rfl⟩⟩
    have:=Nat.mul_le_mul_right sz hle
    simp only[List.length_take,Array.length_toList]
    omega)
   hsz
   (fun u hu=>by
    obtain⟨j,hj,rfl⟩:=List.mem_iff_getElem.1 hu
    have hj2:j<rows.length*sz:=by simp only[List.length_take]at hj;omega
    have hj3:j<c.size:=by simp only[List.length_take,Array.length_toList]at hj;omega
    have:=h1 j hj2
    simpa[Array.getD,hj3]using this)
   (fun k hk j hj=>by
    have hj':j<sz:=by rw[←hsz _ (List.getElem_mem hk)];exact hj
    have:=(h k hk j hj).mono F.le_refl ha (Nat.le_succ σ.next)
    have e:(c.toList.take (rows.length*sz)).getD (k*sz+j) undef=c.getD (k*sz+j) undef:=by
     simp[List.getD,hlen k hk j hj']
    rw[e];exact this))
  (fun b hb hlt=>by simp only[Owns,own,hh,Option.some.injEq]at hb;omega)
 exact⟨_,g1,g2,g3,hh⟩
theorem J6g {F:FH} {η:Et} {σ:St} {w:World} (hf:FRel F w) (hs:SRel F η σ w) (E sz:Nat) (hp:0<sz):
  ∃η',Step F η σ w F η' (σ.alloc (.row σ.next E sz [])) w∧FRel F w∧SRel F η' (σ.alloc (.row σ.next E sz [])) w∧η'.hdr σ.next=⟨none,0,sz⟩:=by
 have ha:=Et.agree_withHdr η σ.next ⟨none,0,sz⟩
 have hh:(η.withHdr σ.next ⟨none,0,sz⟩).hdr σ.next=⟨none,0,sz⟩:=by simp[Et.withHdr]
 obtain⟨h1,h2,h3⟩:=upd (η':=η.withHdr σ.next ⟨none,0,sz⟩) (w':=w) hf hs σ.next (.row σ.next E sz []) (σ.next+1) (Nat.lt_succ_self _) (Nat.le_succ _) ha (.refl _)
  (fun b hb _=>rfl)
  (.row [] (Nat.lt_succ_self _) (by rw[hh]) hp (by rw[hh];exact World.ownsRow_nil w 0 E sz) (by simp) (by simp) (fun k hk=>by simp at hk))
  (fun b hb hlt=>by simp[Owns,own,hh]at hb)
 exact⟨_,h1,h2,h3,hh⟩
theorem Step.drew {F:FH} {η:Et} {σ:St} {w:World}:Step F η σ w F η σ w.drew:=
 ⟨F.le_refl,Et.agree_refl _ _,Nat.le_refl _,⟨Nat.le_refl _,rfl,rfl⟩,fun _ _ _=>rfl,fun i o _ h h' _=>⟨i,o,h,h'⟩,fun _ _ h _=>.inl h⟩
theorem SRel.drew {F:FH} {η:Et} {σ:St} {w:World} (h:SRel F η σ w):SRel F η σ w.drew:=
 ⟨h.lt,fun i o ho=>(h.ob i o ho).mono (h.lt i o ho) F.le_refl (Et.agree_refl _ _) (Nat.le_refl _) fun _ _=>rfl,h.ap,h.fr⟩
theorem FRel.drew {F:FH} {w:World} (h:FRel F w):FRel F w.drew:=h
theorem J3V {η:Et} {i:Nat} {o:AO} {b x:Nat} (h:own η i o=some b):Owns η i o x↔x=b:=by
 cases o<;>first|(simp[own]at h;done)|(simp only[Owns];rw[h];simp only[Option.some.injEq];exact eq_comm)
theorem J2i {F:FH} {η:Et} {σ:St} {w:World} (hf:FRel F w) (hs:SRel F η σ w) {i:Nat} {oi o:AO} {b:Nat} (hi:σ.obj i=some oi) (hb:own η i oi=some b) (hb':own η i o=some b)
  (cs:Array Value) (hob:ORel F η σ.next (w.setRow b cs) i o):
  Step F η σ w F η (σ.set i o) (w.setRow b cs)∧FRel F (w.setRow b cs)∧SRel F η (σ.set i o) (w.setRow b cs):=
 upd (η':=η) hf hs i o σ.next (hs.lt i oi hi) (Nat.le_refl _) (Et.agree_refl _ _) ⟨by simp,rfl,rfl⟩
  (fun b1 _ hno=>setRow_other w b b1 cs fun e=>hno oi hi ((J3V hb).2 e))
  hob (fun b1 hb1 _=>⟨oi,hi,(J3V hb).2 ((J3V hb').1 hb1)⟩)
end Go.Pm
