/- Part of the proof: Pm8. -/
import Derived.Test.YtdjanhhljinokaaGreatDoorT4
import Derived.Laws.StructEq
set_option linter.unusedVariables false
set_option linter.unusedSimpArgs false
namespace Go.Pm
section ops
variable {X:Cfg} {F:FH} {η:Et} {σ:St} {w:World} {K:AV→St→Prop}
def eqPlain:KD→Value→Value→Option Bool
 |.int _,.int k a,.int k' b=>if k=k' then some (decide (a=b))else none
 |.string,.string a,.string b=>some (decide (a=b))
 |.bool,.bool a,.bool b=>some (a == b)
 |_,_,_=>none
theorem J78 {P:Program} {t:TypeId} {d:TypeDesc} {kk:KD} (hu:P.underlying t=some d) (hd:kindOf d=kk) {a b:Value} {r:Bool} (h:eqPlain kk a b=some r) (n:Nat) (w:World):
  (Op.equalIn (n+1) t a b).run P w=.ok r w:=by
 unfold eqPlain at h
 split at h
 ·split at h
  ·rename_i hk
   subst hk
   simp only[Option.some.injEq]at h
   subst h
   have:=J1Y hd
   subst this
   rw[run_equalIn_int w n t _ _ _ _ hu,J67]
  ·simp at h
 ·simp only[Option.some.injEq]at h
  subst h
  have:=JW hd
  subst this
  rw[run_equalIn_string w n t _ _ hu,J3i]
 ·simp only[Option.some.injEq]at h
  subst h
  have:=J29 hd
  subst this
  rw[run_equalIn_bool' w n t _ _ hu]
 ·simp at h
def eqFlds (X:Cfg) (xs ys:List AV):List (Nat×TypeId)→Option Bool
 |[]=>some true
 |f::fs=>
  match X.T f.2,xs[f.1]?,ys[f.1]? with
  |some ti,some (.d (.s a)),some (.d (.s b))=>
   match eqPlain ti.kind a b,eqFlds X xs ys fs with
   |some r,some r'=>some (r&&r')
   |_,_=>none
  |_,_,_=>none
theorem J4h {xs ys:List AV} {vx vy:Array Value} (hx:vx.size=xs.length) (hy:vy.size=ys.length) (hxr:∀j (h:j<xs.length),VRel F η σ.next xs[j] (vx.getD j undef))
  (hyr:∀j (h:j<ys.length),VRel F η σ.next ys[j] (vy.getD j undef)) (n:Nat):∀(fs:List Field) (r:Bool),(∀f∈fs,f.name≠"_")→
  eqFlds X xs ys (fs.map fun f=>(f.offset,f.type))=some r→(Op.eqFields (n+1) vx vy fs).run X.P w=.ok r w
 |[],r,_,h=>by simp[eqFlds]at h;subst h;simp[Op.eqFields]
 |f::fs,r,hn,h=>by
  simp only[List.map_cons,eqFlds]at h
  split at h
  ·rename_i ti a b ht hxa hyb
   split at h
   ·rename_i r1 r2 he1 he2
    simp only[Option.some.injEq]at h
    subst h
    obtain⟨d,i,z,hu,hd,hi,_⟩:=X.ok _ ti ht
    obtain⟨h1,e1⟩:=List.getElem?_eq_some_iff.1 hxa
    obtain⟨h2,e2⟩:=List.getElem?_eq_some_iff.1 hyb
    have g1:=hxr _ h1
    rw[e1]at g1
    have g1:=g1.s_inv
    have g2:=hyr _ h2
    rw[e2]at g2
    have g2:=g2.s_inv
    have hna:isAggK (kindOf d)=false:=by
     rw[hd];revert he1;generalize ti.kind=kk;intro he1;unfold eqPlain at he1;split at he1<;>first|(simp at he1;done)|rfl
    have p1:(part f.type vx f.offset).run X.P w=.ok a w:=by
     have hlt:f.offset<vx.size:=by omega
     simp only[Array.getD,hlt,dif_pos,Array.getInternal_eq_getElem]at g1
     simp[part,J0W hu,hna,hlt,g1]
    have p2:(part f.type vy f.offset).run X.P w=.ok b w:=by
     have hlt:f.offset<vy.size:=by omega
     simp only[Array.getD,hlt,dif_pos,Array.getInternal_eq_getElem]at g2
     simp[part,J0W hu,hna,hlt,g2]
    have p3:=J78 hu hd he1 n w
    have ih:=J4h hx hy hxr hyr n fs r2 (fun g hg=>hn g (by simp[hg])) he2
    simp only[Op.eqFields]
    rw[if_pos (hn f (by simp))]
    simp only[Sem.run_bind,p1,p2,p3,Result.andThen_ok,Sem.run_ite]
    cases r1 with
    |true=>simpa using ih
    |false=>simp
   ·simp at h
  ·simp at h
def aeq (X:Cfg) (ti:TI) (x y:AV):Option Bool:=
 match ti.kind,x,y with
 |.bool,.d (.s (.bool a)),.d (.s (.bool b))=>some (a == b)
 |.struct fs,.agg xs,.agg ys=>if ti.eqok then eqFlds X xs ys fs else none
 |.ptr _,.d (.s (.pointer none)),.d (.s (.pointer none))=>some true
 |.ptr _,.ref _ _,.d (.s (.pointer none))=>some false
 |.ptr _,.ep _ _ _ _,.d (.s (.pointer none))=>some false
 |.ptr _,.d (.ip _ _),.d (.s (.pointer none))=>some false
 |.func,.d (.s .nilFunc),.d (.s .nilFunc)=>some true
 |.func,.fn _ _,.d (.s .nilFunc)=>some false
 |.func,.d (.s (.func _ _ _)),.d (.s .nilFunc)=>some false
 |.iface,.ifc _ _,.d (.s .nilIface)=>some false
 |.iface,.d (.s (.iface _ _)),.d (.s .nilIface)=>some false
 |_,_,_=>none
def abinop (X:Cfg) (op:BinOp) (t:TypeId) (x y:AV) (σ:St) (K:AV→St→Prop):Prop:=
 match (match x,y with|.d (.s a),.d (.s b)=>abin op a b|_,_=>none)with
 |some r=>K (.d (.s r)) σ
 |none=>∃ti,X.T t=some ti∧∃r,aeq X ti x y=some r∧((op=.eql∧K (.d (.s (.bool r))) σ)∨(op=.neq∧K (.d (.s (.bool (!r)))) σ))
theorem J3h {d:TypeDesc} (h:kindOf d=.func):∃a b c,d=.func a b c:=by
 cases d<;>simp[kindOf]at h
 exact⟨_,_,_,rfl⟩
theorem J4I {d:TypeDesc} (h:kindOf d=.iface):∃a,d=.interface a:=by
 cases d<;>simp[kindOf]at h
 exact⟨_,rfl⟩
theorem J2R {P:Program} {t e:TypeId} (hu:P.underlying t=some (.pointer e)) (n:Nat) (x:Option Addr) (w:World):
  (Op.equalIn (n+1) t (.pointer x) (.pointer none)).run P w=.ok x.isNone w:=by
 cases x<;>simp[Op.equalIn,run_underlying hu]
theorem J3f {P:Program} {t:TypeId} {a b c} (hu:P.underlying t=some (.func a b c)) (n:Nat) (f:Fn) (x y:Array Value) (w:World):
  (Op.equalIn (n+1) t (.func f x y) .nilFunc).run P w=.ok false w∧(Op.equalIn (n+1) t .nilFunc .nilFunc).run P w=.ok true w:=by
 constructor<;>simp[Op.equalIn,run_underlying hu]
theorem J4u {P:Program} {t:TypeId} {a} (hu:P.underlying t=some (.interface a)) (n:Nat) (d:TypeId) (x:Value) (w:World):
  (Op.equalIn (n+1) t (.iface d x) .nilIface).run P w=.ok false w:=by
 simp[Op.equalIn,run_underlying hu]
theorem J8J (hg:GRel X F) (hf:FRel F w) (hs:SRel F η σ w) {op:BinOp} {t:TypeId} {x y:AV} {vx vy:Value} (hx:VRel F η σ.next x vx) (hy:VRel F η σ.next y vy) (ox oy:Operand)
  (h:abinop X op t x y σ K):VOk X F η σ w ((do eqGuard op t ox oy vx vy;binOp op t vx vy:Sem Value).run X.P w) K:=by
 unfold abinop at h
 split at h
 ·rename_i r hr
  split at hr
  ·have e1:=hx.s_inv
   have e2:=hy.s_inv
   subst e1
   subst e2
   exact VOk.same hg hf hs (Jb6 hr t ox oy X.P w) (.d (.s r)) h
  ·simp at hr
 ·rename_i hnone
  clear hnone
  obtain⟨ti,ht,r,hr,hK⟩:=h
  obtain⟨d,i,z,hu,hd,hi,_⟩:=X.ok t ti ht
  have key:∀(g:(eqGuard op t ox oy vx vy).run X.P w=.ok () w) (e:(Op.equalIn 10000 t vx vy).run X.P w=.ok r w)
    (b1:op=.eql→binOp .eql t vx vy=do pure (.bool (←Op.equal t vx vy))) (b2:op=.neq→binOp .neq t vx vy=do pure (.bool (!(←Op.equal t vx vy)))),
    VOk X F η σ w ((do eqGuard op t ox oy vx vy;binOp op t vx vy:Sem Value).run X.P w) K:=by
   intro g e b1 b2
   rcases hK with⟨rfl,hk⟩|⟨rfl,hk⟩
   ·refine VOk.same hg hf hs ?_ (.d (.s _)) hk
    rw[Sem.run_bind,g,Result.andThen_ok,b1 rfl]
    simp[Op.equal,Op.maxDepth,e]
   ·refine VOk.same hg hf hs ?_ (.d (.s _)) hk
    rw[Sem.run_bind,g,Result.andThen_ok,b2 rfl]
    simp[Op.equal,Op.maxDepth,e]
  unfold aeq at hr
  split at hr
  ·rename_i a b hkd
   rw[hkd]at hd
   have:=J29 hd
   subst this
   have e1:=hx.s_inv
   have e2:=hy.s_inv
   subst e1
   subst e2
   simp only[Option.some.injEq]at hr
   subst hr
   exact key (by rw[eqGuard_at_bool];rfl) (run_equalIn_bool' w 9999 t a b hu) (fun _=>rfl) (fun _=>rfl)
  ·rename_i fs xs ys hkd
   split at hr
   ·rename_i hok
    obtain⟨f1,f2,fs',f3,f4⟩:=X.eq t ti ht hok
    rw[f3]at hu
    simp only[Option.some.injEq]at hu
    subst hu
    have hfs:fs=fs'.toList.map fun f=>(f.offset,f.type):=by rw[hkd]at hd;simpa[kindOf]using hd.symm
    subst hfs
    cases hx with
    |agg hnx hrx=>
     cases hy with
     |agg hny hry=>
      have he:=J4h (X:=X) (w:=w) hnx hny hrx hry 9998 fs'.toList r f4 hr
      have hfo:X.P.fieldsOf t=fs':=by simp[Program.fieldsOf,f3]
      refine key (run_eqGuard_agg w op t ox oy _ _ f2) ?_ (fun _=>rfl) (fun _=>rfl)
      rw[run_equalIn_struct w 9999 t _ _ (by rw[hfo];exact f3) f1,hfo]
      exact he
   ·simp at hr
  all_goals first
   |(simp at hr;done)
   |skip
  all_goals
   simp only[Option.some.injEq]at hr
   subst hr
  ·rename_i e hkd
   rw[hkd]at hd
   have:=J2z hd
   subst this
   have e1:=hx.s_inv
   have e2:=hy.s_inv
   subst e1
   subst e2
   exact key (by rw[eqGuard_at_pointer];rfl) (J2R hu 9999 _ w) (fun _=>rfl) (fun _=>rfl)
  ·rename_i e i1 off hkd
   rw[hkd]at hd
   have:=J2z hd
   subst this
   have e2:=hy.s_inv
   subst e2
   cases hx
   exact key (by rw[eqGuard_at_pointer];rfl) (J2R hu 9999 _ w) (fun _=>rfl) (fun _=>rfl)
  ·rename_i e i1 v k off hkd
   rw[hkd]at hd
   have:=J2z hd
   subst this
   have e2:=hy.s_inv
   subst e2
   cases hx
   exact key (by rw[eqGuard_at_pointer];rfl) (J2R hu 9999 _ w) (fun _=>rfl) (fun _=>rfl)
  ·rename_i e cs off hkd
   rw[hkd]at hd
   have:=J2z hd
   subst this
   have e2:=hy.s_inv
   subst e2
   cases hx with
   |d hx=>cases hx;exact key (by rw[eqGuard_at_pointer];rfl) (J2R hu 9999 _ w) (fun _=>rfl) (fun _=>rfl)
  ·rename_i hkd
   rw[hkd]at hd
   obtain⟨a,b,c,rfl⟩:=J3h hd
   have e1:=hx.s_inv
   have e2:=hy.s_inv
   subst e1
   subst e2
   exact key (by rw[eqGuard_at_nilFunc];rfl) (J3f hu 9999 (.func 0) #[] #[] w).2 (fun _=>rfl) (fun _=>rfl)
  ·rename_i f caps hkd
   rw[hkd]at hd
   obtain⟨a,b,c,rfl⟩:=J3h hd
   have e2:=hy.s_inv
   subst e2
   cases hx
   exact key (by rw[eqGuard_at_func];rfl) (J3f hu 9999 _ _ _ w).1 (fun _=>rfl) (fun _=>rfl)
  ·rename_i f a1 b1 hkd
   rw[hkd]at hd
   obtain⟨a,b,c,rfl⟩:=J3h hd
   have e1:=hx.s_inv
   have e2:=hy.s_inv
   subst e1
   subst e2
   exact key (by rw[eqGuard_at_func];rfl) (J3f hu 9999 _ _ _ w).1 (fun _=>rfl) (fun _=>rfl)
  ·rename_i t1 x1 hkd
   rw[hkd]at hd
   obtain⟨a,rfl⟩:=J4I hd
   have e2:=hy.s_inv
   subst e2
   cases hx
   exact key (by rw[eqGuard_at_iface];rfl) (J4u hu 9999 _ _ w) (fun _=>rfl) (fun _=>rfl)
  ·rename_i t1 x1 hkd
   rw[hkd]at hd
   obtain⟨a,rfl⟩:=J4I hd
   have e1:=hx.s_inv
   have e2:=hy.s_inv
   subst e1
   subst e2
   exact key (by rw[eqGuard_at_iface];rfl) (J4u hu 9999 _ _ w) (fun _=>rfl) (fun _=>rfl)
def aunop (op:UnOp) (x:AV) (σ:St) (K:AV→St→Prop):Prop:=
 match op,x with
 |.neg,.d (.s (.int k n))=>K (.d (.s (.int k (k.wrap (0-n))))) σ
 |.not,.d (.s (.bool b))=>K (.d (.s (.bool (!b)))) σ
 |_,_=>False
theorem J8W (hg:GRel X F) (hf:FRel F w) (hs:SRel F η σ w) {op:UnOp} {x:AV} {vx:Value} (hx:VRel F η σ.next x vx) (h:aunop op x σ K):VOk X F η σ w ((Op.unary op vx).run X.P w) K:=by
 unfold aunop at h
 split at h
 ·have e1:=hx.s_inv
  subst e1
  exact VOk.same hg hf hs (by simp[Op.unary,Op.intArith]) (.d (.s _)) h
 ·have e1:=hx.s_inv
  subst e1
  exact VOk.same hg hf hs (by simp[Op.unary]) (.d (.s _)) h
 ·exact h.elim
def aconvert (X:Cfg) (src dst:TypeId) (x:AV) (σ:St) (K:AV→St→Prop):Prop:=
 ∃ts,X.T src=some ts∧∃td,X.T dst=some td∧
  match td.kind,ts.kind,x with
  |.int k,_,.d (.s (.int _ n))=>K (.d (.s (.int k (k.wrap n)))) σ
  |.string,.string,.d (.s (.string s))=>K (.d (.s (.string s))) σ
  |_,_,_=>False
theorem J6n (hg:GRel X F) (hf:FRel F w) (hs:SRel F η σ w) {src dst:TypeId} {x:AV} {vx:Value} (hx:VRel F η σ.next x vx) (h:aconvert X src dst x σ K):
  VOk X F η σ w ((convert src dst vx).run X.P w) K:=by
 obtain⟨ts,hts,td,htd,hm⟩:=h
 obtain⟨d1,i1,z1,hu1,hd1,_⟩:=X.ok src ts hts
 obtain⟨d2,i2,z2,hu2,hd2,_⟩:=X.ok dst td htd
 split at hm
 ·rename_i k k' n hkd
  rw[hkd]at hd2
  have:=J1Y hd2
  subst this
  have e1:=hx.s_inv
  subst e1
  exact VOk.same hg hf hs (by simp[convert,run_underlying hu1,run_underlying hu2,Conv.intToInt]) (.d (.s _)) hm
 ·rename_i s hkd hks
  rw[hkd]at hd2
  rw[hks]at hd1
  have:=JW hd2
  subst this
  have:=JW hd1
  subst this
  have e1:=hx.s_inv
  subst e1
  exact VOk.same hg hf hs (by simp[convert,run_underlying hu1,run_underlying hu2]) (.d (.s _)) hm
 ·exact hm.elim
def aextract (x:AV) (i:Nat) (σ:St) (K:AV→St→Prop):Prop:=
 match x with
 |.tup vs=>∃r,vs[i]? = some r∧K r σ
 |_=>False
theorem J6o (hg:GRel X F) (hf:FRel F w) (hs:SRel F η σ w) {x:AV} {i:Nat} {vx:Value} (hx:VRel F η σ.next x vx) (h:aextract x i σ K):VOk X F η σ w ((Instr.extract vx i).run X.P w) K:=by
 unfold aextract at h
 split at h
 ·obtain⟨r,hr,hk⟩:=h
  obtain⟨hlt,rfl⟩:=List.getElem?_eq_some_iff.1 hr
  cases hx with
  |tup hn hrel=>
   have:=hrel i hlt
   rename_i vs
   have hlt':i<vs.size:=by omega
   simp only[Array.getD,hlt',dif_pos,Array.getInternal_eq_getElem]at this
   exact VOk.same hg hf hs (by simp[Instr.extract,hlt']) this hk
 ·exact h.elim
def amakeFunc (fn:Fn) (first:List AV) (caps:List AV) (σ:St) (K:AV→St→Prop):Prop:=
 match fn,first,caps with
 |.func f,[],[]=>K (.d (.s (.func (.func f) #[] #[]))) σ
 |.func f,[],c::cs=>K (.fn f (c::cs)) σ
 |_,_,_=>False
def amakeInterface (X:Cfg) (t:TypeId) (x:AV) (σ:St) (K:AV→St→Prop):Prop:=
 ∃ti,X.T t=some ti∧ti.kind≠.iface∧
  match x with
  |.d (.s v)=>K (.d (.s (.iface t v))) σ
  |x=>K (.ifc t x) σ
theorem J2y (hg:GRel X F) (hf:FRel F w) (hs:SRel F η σ w) {t:TypeId} {x:AV} {vx:Value} (hx:VRel F η σ.next x vx) (h:amakeInterface X t x σ K):
  VOk X F η σ w ((Instr.makeInterface t vx).run X.P w) K:=by
 obtain⟨ti,ht,hne,hm⟩:=h
 obtain⟨d,i,z,hu,hd,_⟩:=X.ok t ti ht
 have hr:(Instr.makeInterface t vx).run X.P w=.ok (.iface t vx) w:=by
  unfold Instr.makeInterface
  simp only[Sem.run_bind,run_underlying hu,Result.andThen_ok]
  cases d<;>first|rfl|(exfalso;apply hne;rw[←hd];rfl)
 split at hm
 ·have e1:=hx.s_inv
  subst e1
  exact VOk.same hg hf hs hr (.d (.s _)) hm
 ·exact VOk.same hg hf hs hr (.ifc hx) hm
def aminmax (mx:Bool) (x y:AV) (σ:St) (K:AV→St→Prop):Prop:=
 match x,y with
 |.d (.s (.int k a)),.d (.s (.int _ b))=>K (.d (.s (.int k (if mx then(if b > a then b else a)else(if b<a then b else a))))) σ
 |_,_=>False
def anil (x:AV):Bool:=
 match x with
 |.ref _ _=>true
 |.ep _ _ _ _=>true
 |.d (.ip _ _)=>true
 |_=>false
def abuiltin (X:Cfg) (env:Env) (σ:St) (K:AV→St→Prop) (b:Builtin) (args:List Operand) (tys:List TypeId):Prop:=
 match b,args,tys with
 |.len,[x],[t]=>alen X t (aev X env x) σ K
 |.append,[s,x],[ts,tx]=>aappend X ts tx (aev X env s) (aev X env x) σ K
 |.min,[x,y],_=>aminmax false (aev X env x) (aev X env y) σ K
 |.max,[x,y],_=>aminmax true (aev X env x) (aev X env y) σ K
 |_,_,_=>False
def aop (X:Cfg) (env:Env) (σ:St) (K:AV→St→Prop):Op→Prop
 |.move x=>K (aev X env x) σ
 |.assign x=>K (aev X env x) σ
 |.pick c a b=>∃t,aev X env c=.d (.s (.bool t))∧K (if t then aev X env a else aev X env b) σ
 |.alloc e=>aalloc X e σ K
 |.box _ x=>abox (aev X env x) σ K
 |.build t ps=>abuild X t (ps.toList.map fun p=>(p.1,aev X env p.2)) σ K
 |.buildSlice t n ps=>abuildSlice X t n (ps.toList.map fun p=>(p.1,aev X env p.2)) σ K
 |.load t a=>aload X t (aev X env a) σ K
 |.store t a x=>astore X t (aev X env a) (aev X env x) σ K
 |.nilCheck x=>anil (aev X env x)=true∧K (aev X env x) σ
 |.binOp op t x y _=>abinop X op t (aev X env x) (aev X env y) σ K
 |.unOp op _ x=>aunop op (aev X env x) σ K
 |.convert s d x=>aconvert X s d (aev X env x) σ K
 |.makeInterface t x=>amakeInterface X t (aev X env x) σ K
 |.makeFunc fn first caps=>amakeFunc fn (first.toList.map (aev X env)) (caps.toList.map (aev X env)) σ K
 |.makeMap t none=>amakeMap X t σ K
 |.mapUpdate t m k v=>amapUpdate X t (aev X env m) (aev X env k) (aev X env v) σ K
 |.insert t m k v=>amapUpdate X t (aev X env m) (aev X env k) (aev X env v) σ K
 |.lookup t m k ok=>alookup X t (aev X env m) (aev X env k) ok σ K
 |.makeSlice t l c=>amakeSlice X t (aev X env l) (aev X env c) σ K
 |.slice t x lo hi none=>aslice X t (aev X env x) (lo.map (aev X env)) (hi.map (aev X env)) σ K
 |.fieldAddr t x f=>afieldAddr X t (aev X env x) f σ K
 |.field t x f=>afield X t (aev X env x) f σ K
 |.indexAddr t x i=>aindexAddr X t (aev X env x) (aev X env i) σ K
 |.index t x i=>aindex X t (aev X env x) (aev X env i) σ K
 |.extract t i=>aextract (aev X env t) i σ K
 |.call c=>match c.callee with|.builtin b=>abuiltin X env σ K b c.args.toList c.argTypes.toList|_=>False
 |_=>False
theorem J5h {nt:Nat} {env:Env} {a:Act} (hg:GRel X F) (hr:Rel F η nt env σ a w) (ps:Array (Nat×Operand)):
  (ps.map fun(p:Nat×Operand)=>(p.1,a.eval p.2)).toList.length=(ps.toList.map fun p=>(p.1,aev X env p.2)).length∧
  ∀k (h:k<(ps.toList.map fun p=>(p.1,aev X env p.2)).length) (h':k<(ps.map fun(p:Nat×Operand)=>(p.1,a.eval p.2)).toList.length),
   ((ps.map fun(p:Nat×Operand)=>(p.1,a.eval p.2)).toList[k]).1=((ps.toList.map fun p=>(p.1,aev X env p.2))[k]).1∧
   VRel F η σ.next ((ps.toList.map fun p=>(p.1,aev X env p.2))[k]).2 ((ps.map fun(p:Nat×Operand)=>(p.1,a.eval p.2)).toList[k]).2:=by
 refine⟨by simp,fun k h h'=>?_⟩
 simp only[Array.toList_map,List.getElem_map,true_and]
 exact J0V hg hr _
theorem J7N {nt:Nat} {env:Env} {a:Act} (hg:GRel X F) (hr:Rel F η nt env σ a w) (lo:Option Operand):
  (∀x v,lo.map (aev X env)=some x→lo.map a.eval=some v→VRel F η σ.next x v)∧(lo.map (aev X env)).isSome=(lo.map a.eval).isSome:=by
 refine⟨fun x v h1 h2=>?_,by simp⟩
 cases lo with
 |none=>simp at h1
 |some y=>
  simp only[Option.map_some,Option.some.injEq]at h1 h2
  subst h1
  subst h2
  exact J0V hg hr y
theorem OpOk.unit {s:Sem Unit} (hg:GRel X F) (h:∃w' σ',s.run X.P w=.ok () w'∧Step F η σ w F η σ' w'∧FRel F w'∧SRel F η σ' w'∧K (.d (.s undef)) σ'):
  OpOk X F η σ w ((do s;pure .skip:Sem Next).run X.P w) K:=by
 obtain⟨w',σ',hr,h1,h2,h3,h4⟩:=h
 exact⟨.skip,undef,w',F,η,σ',_,by simp[hr],.inr ⟨rfl,rfl⟩,h1,hg,h2,h3,.d (.s _),h4⟩
theorem JbX {nt:Nat} {env:Env} {a:Act} {o:Oper} (hg:GRel X F) (hr:Rel F η nt env σ a w) (h:aop X env σ K o.op):OpOk X F η σ w ((execOp a.eval o).run X.P w) K:=by
 have hf:=hr.fr
 have hs:=hr.st
 have ev:=fun x=>J0V hg hr x
 obtain⟨dst,op,ty,pos,after,guard⟩:=o
 simp only at h
 cases op with
 |move x=>exact OpOk.same hg hf hs (by simp[execOp]) (ev x) h
 |assign x=>exact OpOk.same hg hf hs (by simp[execOp]) (ev x) h
 |pick c x y=>
  obtain⟨t,ht,hk⟩:=h
  have h1:=ev c
  rw[ht]at h1
  have h1:=h1.s_inv
  refine OpOk.same hg hf hs (v:=if t then a.eval x else a.eval y) (by simp[execOp,h1,asBool]) ?_ hk
  cases t<;>simp[ev]
 |alloc e=>exact(J8T hg hf hs h).op
 |box e x=>exact(JaP hg hf hs (ev x) h).op
 |build t ps=>
  obtain⟨h1,h2⟩:=J5h hg hr ps
  exact(J8n hg hf hs h1 h2 h).op
 |buildSlice t n ps=>
  obtain⟨h1,h2⟩:=J5h hg hr ps
  exact(J47 hg hf hs h1 h2 h).op
 |load t x=>
  obtain⟨v,r,h1,h2,h3⟩:=J6T hg hf hs (ev x) h
  exact(VOk.same hg hf hs h1 h2 h3).op
 |store t x y=>exact OpOk.unit hg (J8G hg hf hs (ev x) (ev y) h)
 |nilCheck x=>
  obtain⟨h1,h2⟩:=h
  refine OpOk.same hg hf hs (v:=a.eval x) ?_ (ev x) h2
  have hx:=ev x
  simp only[execOp]
  generalize aev X env x=ax at h1 hx
  generalize a.eval x=vx at hx
  unfold anil at h1
  split at h1
  ·cases hx;rfl
  ·cases hx;rfl
  ·cases hx with|d hx=>cases hx;rfl
  ·simp at h1
 |binOp bop t x y yt=>exact(J8J hg hf hs (ev x) (ev y) x y h).op
 |unOp uop t x=>exact(J8W hg hf hs (ev x) h).op
 |convert s d x=>exact(J6n hg hf hs (ev x) h).op
 |makeInterface t x=>exact(J2y hg hf hs (ev x) h).op
 |makeFunc fn first caps=>
  simp only[aop]at h
  unfold amakeFunc at h
  split at h
  ·rename_i f hfi hca
   have e1:first=#[]:=by
    have:=congrArg List.length hfi
    simp only[List.length_map,Array.length_toList,List.length_nil]at this
    exact Array.eq_empty_of_size_eq_zero this
   have e2:caps=#[]:=by
    have:=congrArg List.length hca
    simp only[List.length_map,Array.length_toList,List.length_nil]at this
    exact Array.eq_empty_of_size_eq_zero this
   subst e1
   subst e2
   exact OpOk.same hg hf hs (by simp[execOp,Instr.makeFunc]) (.d (.s _)) h
  ·rename_i f c cs hfi hca
   have e1:first=#[]:=by
    have:=congrArg List.length hfi
    simp only[List.length_map,Array.length_toList,List.length_nil]at this
    exact Array.eq_empty_of_size_eq_zero this
   subst e1
   refine OpOk.same hg hf hs (v:=.func (.func f) #[] (caps.map a.eval)) (by simp[execOp,Instr.makeFunc]) (.fn ?_ fun j hj=>?_) h
   ·have:=congrArg List.length hca
    simpa using this
   ·have hj2:j<caps.size:=by
     have:=congrArg List.length hca
     simp only[List.length_map,Array.length_toList]at this
     omega
    have e3:(c::cs)[j]'hj=aev X env caps[j]:=by
     have:(c::cs)[j]? = some (aev X env caps[j]):=by rw[←hca];simp[hj2]
     rw[List.getElem?_eq_getElem hj]at this
     exact Option.some.inj this
    rw[e3]
    have:(caps.map a.eval).getD j undef=a.eval caps[j]:=by simp[Array.getD,hj2]
    rw[this]
    exact ev _
  ·exact h.elim
 |makeMap t r=>
  cases r with
  |none=>exact(J6p hg hf hs rfl h).op
  |some r=>exact h.elim
 |mapUpdate t m k v=>exact OpOk.unit hg (J2d hg hf hs (ev m) (ev k) (ev v) h)
 |insert t m k v=>exact OpOk.unit hg (J2d hg hf hs (ev m) (ev k) (ev v) h)
 |lookup t m k ok=>exact(J7E hg hf hs (ev m) (ev k) h).op
 |makeSlice t l c=>exact(J50 hg hf hs (ev l) (ev c) h).op
 |slice t x lo hi mx=>
  cases mx with
  |none=>
   obtain⟨l1,l2⟩:=J7N hg hr lo
   obtain⟨l3,l4⟩:=J7N hg hr hi
   exact(J8P hg hf hs (ev x) l1 l3 l2 l4 h).op
  |some m=>exact h.elim
 |fieldAddr t x f=>exact(J51 hg hf hs (ev x) h).op
 |field t x f=>exact(J8S hg hf hs (ev x) h).op
 |indexAddr t x i=>exact(J4Z hg hf hs (ev x) (ev i) h).op
 |index t x i=>exact(J8V hg hf hs (ev x) (ev i) h).op
 |extract t i=>exact(J6o hg hf hs (ev t) h).op
 |call c=>
  obtain⟨callee,⟨args⟩,⟨ats⟩⟩:=c
  cases callee with
  |builtin b=>
   simp only[aop]at h
   unfold abuiltin at h
   split at h
   ·have:=(Jb8 (ty:=ty) hg hf hs (ev _) h).op
    simpa[execOp,resolve,invoke,builtin]using this
   ·have:=(J7v (ty:=ty) hg hf hs (ev _) (ev _) h).op
    simpa[execOp,resolve,invoke,builtin]using this
   ·rename_i ox oy
    unfold aminmax at h
    split at h
    ·rename_i x y k n k' m hx hy
     have e1:=ev ox
     have e2:=ev oy
     rw[hx]at e1
     rw[hy]at e2
     have e1:=e1.s_inv
     have e2:=e2.s_inv
     exact OpOk.same hg hf hs (by simp[execOp,resolve,invoke,builtin,Builtin.min_,Builtin.min2,e1,e2]) (.d (.s _)) h
    ·exact h.elim
   ·rename_i ox oy
    unfold aminmax at h
    split at h
    ·rename_i x y k n k' m hx hy
     have e1:=ev ox
     have e2:=ev oy
     rw[hx]at e1
     rw[hy]at e2
     have e1:=e1.s_inv
     have e2:=e2.s_inv
     exact OpOk.same hg hf hs (by simp[execOp,resolve,invoke,builtin,Builtin.max_,Builtin.max2,e1,e2]) (.d (.s _)) h
    ·exact h.elim
   ·exact h.elim
  |value f=>exact h.elim
  |invoke r m=>exact h.elim
 |_=>exact h.elim
end ops
end Go.Pm
/- Part of the proof: Pm9. -/
namespace Go.Pm
def acall (X:Cfg) (k:FuncId) (args:List AV) (σ:St) (env:Env) (Q:Exit→Env→St→Prop) (K:AV→St→Prop):Prop:=
 AFun X k args σ fun E σ'=>match E with|.ret r=>K r σ'|.pan ch=>Q (.panic ch) env σ'
def acallee (X:Cfg) (f:AV) (args:List AV) (σ:St) (env:Env) (Q:Exit→Env→St→Prop) (K:AV→St→Prop):Prop:=
 match f with
 |.d (.s (.func (.func k) fs cs))=>fs.toList=[]∧cs.toList=[]∧acall X k args σ env Q K
 |.fn k caps=>acall X k (args++caps) σ env Q K
 |_=>False
def aoper (X:Cfg) (o:Op) (env:Env) (σ:St) (Q:Exit→Env→St→Prop) (K:AV→St→Prop):Prop:=
 match o with
 |.call c=>
  match c.callee with
  |.value f=>acallee X (aev X env f) (c.args.toList.map (aev X env)) σ env Q K
  |.builtin b=>abuiltin X env σ K b c.args.toList c.argTypes.toList
  |.invoke _ _=>False
 |op=>aop X env σ K op
def areg (X:Cfg) (nt:Nat) (ops:List Oper) (Q:Exit→Env→St→Prop):List Oper→Env→St→Prop
 |[],env,σ=>Q .normal env σ
 |o::rest,env,σ=>
  o.dst.all (·<nt)=true∧
  match o.guard with
  |none=>aoper X o.op env σ Q fun v σ'=>areg X nt ops Q rest (put env o.dst v) σ'
  |some (j,want)=>
   match (ops[j]?).bind (·.dst)with
   |none=>False
   |some d=>d<nt∧
    match env d with
    |.d (.s (.bool b))=>(b=want→aoper X o.op env σ Q fun v σ'=>areg X nt ops Q rest (put env o.dst v) σ')∧(b=(!want)→areg X nt ops Q rest (put env o.dst (.d (.s undef))) σ)
    |.d (.s (.tuple _))=>areg X nt ops Q rest (put env o.dst (.d (.s undef))) σ
    |_=>False
section sound
variable {X:Cfg} {nt:Nat} {F F':FH} {η η':Et} {σ σ':St} {w w':World} {env:Env} {a:Act}
theorem Rel.put (h:Rel F η nt env σ a w) {dst:Option Nat} (hd:dst.all (·<nt)=true) {x:AV} {v:Value} (hx:VRel F η σ.next x v):Rel F η nt (put env dst x) σ (a.put dst v) w:=by
 cases dst with
 |none=>exact h
 |some d=>
  have hlt:d<nt:=by simpa using hd
  refine⟨h.fr,h.st,fun t=>?_,by simp[Act.put,h.sz],h.df⟩
  simp only[Act.put,Pm.put]
  by_cases ht:t=d
  ·subst ht
   rw[if_pos rfl]
   have:(a.tmps.setIfInBounds t v).getD t undef=v:=by simp[Array.getD,h.sz,hlt]
   rw[this];exact hx
  ·rw[if_neg ht]
   have:(a.tmps.setIfInBounds d v).getD t undef=a.tmps.getD t undef:=by
    simp only[Array.getD_eq_getD_getElem?,Array.getElem?_setIfInBounds]
    rw[if_neg (Ne.symm ht)]
   rw[this];exact h.en t
theorem Rel.step (h:Rel F η nt env σ a w) (hs:Step F η σ w F' η' σ' w') (hf:FRel F' w') (hr:SRel F' η' σ' w'):Rel F' η' nt env σ' a w':=
 ⟨hf,hr,fun t=>(h.en t).mono hs.fh hs.et hs.nx,h.sz,h.df⟩
theorem Post.of_step {Q:Exit→Env→St→Prop} {e:Exit} {a':Act} {w'':World} (hs:Step F η σ w F' η' σ' w') (h:Post X nt F' η' σ' w' Q e a' w''):Post X nt F η σ w Q e a' w'':=
 Post.trans hs h fun _ _ h=>h
theorem J0O {P:Program} {ops:Array Oper} {Q Q':Exit→Act→World→Prop} (hq:∀e a w,Q e a w→Q' e a w):∀(l:List Oper) (a:Act) (w:World),wpList P ops Q l a w→wpList P ops Q' l a w
 |[],a,w,h=>hq _ _ _ h
 |o::l,a,w,h=>by
  have ih:=J0O (P:=P) (ops:=ops) hq l
  unfold wpList at h ⊢
  have hL:LetsOut Q→LetsOut Q':=fun⟨a0,w0,h0⟩=>⟨a0,w0,hq _ _ _ h0⟩
  split at h
  ·rename_i hw
   rw[if_pos hw]
   rcases h with h|⟨h1,h2⟩
   ·left
    unfold Oper.wp Oper.upon at h ⊢
    split at h
    ·exact ih _ _ h
    ·exact ih _ _ h
    ·exact ih _ _ h
    ·exact h.mono fun e w2 hh=>by
      cases e with
      |returned v=>exact ih _ _ hh
      |panicked c=>exact hq _ _ _ hh
      |outgrown=>exact hL hh
    ·exact h.mono fun v w2 hh=>ih _ _ hh
    ·exact hq _ _ _ h
    ·exact h.elim
   ·exact .inr ⟨h1,hL h2⟩
  ·rename_i hw
   rw[if_neg hw]
   exact ih _ _ h
theorem J5Z {P:Program} {f:FuncId} (h:CallOk P f) (args:Array Value) (w:World):(callFunc f args).run P w=.ok (.enter f args) w:=by
 obtain⟨fn,h1,h2,h3⟩:=h
 simp only[callFunc,Sem.run_bind,run_program,Result.andThen_ok,h1]
 rw[if_neg (by rw[h2];simp)]
 rw[if_neg (by rw[h3];simp)]
 rfl
theorem J0Y {o:Oper} {Kc:Act→World→Prop} {Qc:Exit→Act→World→Prop} {Q:Exit→Env→St→Prop} {R:AV→St→Prop} (hg:GRel X F) (hr:Rel F η nt env σ a w) (hd:o.dst.all (·<nt)=true)
  (h:aoper X o.op env σ Q R)
  (hnext:∀(F':FH) (η':Et) (x:AV) (v:Value) (σ':St) (w':World),Step F η σ w F' η' σ' w'→GRel X F'→Rel F' η' nt env σ' a w'→VRel F' η' σ'.next x v→R x σ'→
   Kc (a.put o.dst v) w')
  (hpan:∀(ch:List PanicEntry) (F':FH) (η':Et) (σ':St) (w':World),Step F η σ w F' η' σ' w'→GRel X F'→Rel F' η' nt env σ' a w'→Q (.panic ch) env σ'→Qc (.panic ch) a w'):
  o.wp X.P a w Kc Qc:=by
 have simple:∀(h:aop X env σ R o.op),o.wp X.P a w Kc Qc:=by
  intro h
  obtain⟨nx,v,w',F',η',σ',x,hrun,hnx,hs,hg',hf',hr',hv,hk⟩:=JbX (o:=o) hg hr h
  unfold Oper.wp
  rw[hrun]
  rcases hnx with rfl|⟨rfl,rfl⟩
  ·exact hnext F' η' x v σ' w' hs hg' (hr.step hs hf' hr') hv hk
  ·exact hnext F' η' x undef σ' w' hs hg' (hr.step hs hf' hr') hv hk
 have call:∀(k:FuncId) (args:List AV) (vals:Array Value),vals.size=args.length→(∀j (hj:j<args.length),VRel F η σ.next args[j] (vals.getD j undef))→
   (execOp a.eval o).run X.P w=(callFunc k vals).run X.P w→acall X k args σ env Q R→o.wp X.P a w Kc Qc:=by
  intro k args vals hn hv hrun hc
  unfold Oper.wp
  rw[hrun,J5Z hc.1]
  refine(hc.2 F η w vals hg hr.fr hr.st hn hv).mono ?_
  rintro e w' ⟨F',η',σ',E,hs,hf',hr',he,hk⟩
  cases E with
  |ret r=>
   cases e with
   |returned v=>exact hnext F' η' r v σ' w' hs (hg.mono hs.fh) (hr.step hs hf' hr') he hk
   |panicked c=>exact he.elim
   |outgrown=>exact he.elim
  |pan ch=>
   cases e with
   |returned v=>exact he.elim
   |panicked c=>
    have:c=ch:=he
    subst this
    exact hpan _ F' η' σ' w' hs (hg.mono hs.fh) (hr.step hs hf' hr') hk
   |outgrown=>exact he.elim
 obtain⟨dst,op,ty,pos,after,guard⟩:=o
 cases op with
 |call c=>
  obtain⟨callee,args,ats⟩:=c
  cases callee with
  |builtin b=>exact simple h
  |value f=>
   simp only[aoper]at h
   unfold acallee at h
   split at h
   ·rename_i k fs cs hfv
    obtain⟨e1,e2,h⟩:=h
    have hfv2:=J0V hg hr f
    rw[hfv]at hfv2
    have hfv2:=hfv2.s_inv
    have e1:fs=#[]:=by cases fs;simp_all
    have e2:cs=#[]:=by cases cs;simp_all
    subst e1
    subst e2
    refine call k _ (args.map a.eval) (by simp) (fun j hj=>?_) ?_ h
    ·have hj':j<args.size:=by simpa using hj
     simp only[List.getElem_map,Array.getElem_toList,Array.getD,Array.size_map,hj',dif_pos,Array.getInternal_eq_getElem,Array.getElem_map]
     exact J0V hg hr _
    ·simp[execOp,resolve,hfv2,Deferred.ofValue,invoke]
   ·rename_i k caps hfv
    have hfv2:=J0V hg hr f
    rw[hfv]at hfv2
    generalize hq:a.eval f=vf at hfv2
    cases hfv2 with
    |@fn _ _ vs hn hrel=>
    refine call k _ (args.map a.eval++vs) (by simp[hn]) (fun j hj=>?_) ?_ h
    ·by_cases hj1:j<args.size
     ·rw[List.getElem_append_left (by simpa using hj1)]
      have e:(args.map a.eval++vs).getD j undef=a.eval args[j]:=by
       rw[Array.getD_eq_getD_getElem?,Array.getElem?_append_left (by simpa using hj1)]
       simp[hj1]
      rw[e]
      simp only[List.getElem_map,Array.getElem_toList]
      exact J0V hg hr _
     ·simp only[List.length_append,List.length_map,Array.length_toList]at hj
      rw[List.getElem_append_right (by simp;omega)]
      have e:(args.map a.eval++vs).getD j undef=vs.getD (j-args.size) undef:=by
       rw[Array.getD_eq_getD_getElem?,Array.getElem?_append_right (by simp;omega)]
       simp[Array.getD_eq_getD_getElem?]
      rw[e]
      simp only[List.length_map,Array.length_toList]
      exact hrel _ (by omega)
    ·simp[execOp,resolve,hq,Deferred.ofValue,invoke]
   ·exact h.elim
  |invoke r m=>exact h.elim
 |_=>exact simple h
theorem J9J {o:Oper} {ops:Array Oper} {rest:List Oper} {Q:Exit→Env→St→Prop} {R:AV→St→Prop} (hg:GRel X F) (hr:Rel F η nt env σ a w) (hd:o.dst.all (·<nt)=true)
  (h:aoper X o.op env σ Q R)
  (hnext:∀(F':FH) (η':Et) (x:AV) (v:Value) (σ':St) (w':World),Step F η σ w F' η' σ' w'→GRel X F'→Rel F' η' nt env σ' a w'→VRel F' η' σ'.next x v→R x σ'→
   wpList X.P ops (Post X nt F η σ w Q) rest (a.put o.dst v) w'):
  o.wp X.P a w (wpList X.P ops (Post X nt F η σ w Q) rest) (Post X nt F η σ w Q):=
 J0Y hg hr hd h hnext fun ch F' η' σ' w' hs hg' hr' hq=>⟨F',η',env,σ',hs,hg',hr',hq⟩
def ares (σ:St) (X:Cfg) (env:Env) (K:AV→St→Prop):List ResultVar→List AV→Prop
 |[],acc=>match acc with|[r]=>K r σ|rs=>K (.tup rs) σ
 |.tmp t::rs,acc=>ares σ X env K rs (acc++[env t])
 |.cell p ty::rs,acc=>aload X ty (env p) σ fun r _=>ares σ X env K rs (acc++[r])
def resv (tmps:Array Value):ResultVar→Sem Value
 |.tmp t=>pure (tmps.getD t undef)
 |.cell p t=>do loadVar t (←asAddr (tmps.getD p undef))
theorem J5Q (hg:GRel X F) (hr:Rel F η nt env σ a w) {K:AV→St→Prop}:∀(rs:List ResultVar) (acc:List AV) (vals:List Value),vals.length=acc.length→
  (∀j (h:j<acc.length),VRel F η σ.next acc[j] (vals.getD j undef))→ares σ X env K rs acc→
  ∃out:List Value,(rs.mapM (resv a.tmps)).run X.P w=.ok out w∧
   ∃racc:List AV,(vals++out).length=racc.length∧(∀j (h:j<racc.length),VRel F η σ.next racc[j] ((vals++out).getD j undef))∧(match racc with|[r]=>K r σ|rs=>K (.tup rs) σ)
 |[],acc,vals,hl,hv,h=>⟨[],by simp,acc,by simpa using hl,by simpa using hv,h⟩
 |r::rs,acc,vals,hl,hv,h=>by
  have app:∀(x:AV) (v:Value),VRel F η σ.next x v→(vals++[v]).length=(acc++[x]).length∧∀j (h:j<(acc++[x]).length),VRel F η σ.next (acc++[x])[j] ((vals++[v]).getD j undef):=by
   intro x v hxv
   refine⟨by simp[hl],fun j hj=>?_⟩
   by_cases hja:j<acc.length
   ·rw[List.getElem_append_left hja]
    have:(vals++[v]).getD j undef=vals.getD j undef:=by simp only[List.getD];rw[List.getElem?_append_left (by omega)]
    rw[this];exact hv j hja
   ·have hje:j=acc.length:=by simp at hj;omega
    subst hje
    rw[List.getElem_append_right (Nat.le_refl _)]
    have:(vals++[v]).getD acc.length undef=v:=by simp only[List.getD];rw[List.getElem?_append_right (by omega)];simp[hl]
    rw[this];simpa using hxv
  cases r with
  |tmp t=>
   obtain⟨h1,h2⟩:=app (env t) (a.tmps.getD t undef) (hr.en t)
   obtain⟨out,e1,racc,e2,e3,e4⟩:=J5Q hg hr rs (acc++[env t]) (vals++[a.tmps.getD t undef]) h1 h2 h
   exact⟨a.tmps.getD t undef::out,by simp only[List.mapM_cons,resv,Sem.run_bind,Sem.run_pure,Result.andThen_ok,e1],racc,by simpa using e2,by simpa using e3,e4⟩
  |cell p ty=>
   obtain⟨v,r,hl1,hl2,hl3⟩:=J6T hg hr.fr hr.st (hr.en p) h
   obtain⟨h1,h2⟩:=app r v hl2
   obtain⟨out,e1,racc,e2,e3,e4⟩:=J5Q hg hr rs (acc++[r]) (vals++[v]) h1 h2 hl3
   refine⟨v::out,?_,racc,by simpa using e2,by simpa using e3,e4⟩
   have hld:(resv a.tmps (.cell p ty)).run X.P w=.ok v w:=by
    show(do loadVar ty (←asAddr (a.tmps.getD p undef)):Sem Value).run X.P w=_
    generalize a.tmps.getD p undef=pv at hl1
    cases pv with
    |pointer x=>
     cases x with
     |none=>simp[Instr.loadAt,Instr.sureAddr]at hl1
     |some ad=>simpa[Instr.loadAt,Instr.sureAddr,asAddr]using hl1
    |_=>simp[Instr.loadAt,Instr.sureAddr]at hl1
   simp only[List.mapM_cons,Sem.run_bind,hld,Result.andThen_ok,e1,Sem.run_pure]
def bodyQ (X:Cfg) (fn:Func) (K:AEnd→St→Prop):Exit→Env→St→Prop
 |.normal,env,σ=>ares σ X env (fun r σ=>K (.ret r) σ) fn.results.toList []
 |.ret,env,σ=>ares σ X env (fun r σ=>K (.ret r) σ) fn.results.toList []
 |.panic ch,env,σ=>K (.pan ch) σ
 |_,_,_=>False
theorem J7p (hg:GRel X F) (hr:Rel F η nt env σ a w) {fn:Func} {K:AV→St→Prop} (h:ares σ X env K fn.results.toList []):
  ∃v r,(results fn a.tmps).run X.P w=.ok v w∧VRel F η σ.next r v∧K r σ:=by
 obtain⟨out,e1,racc,e2,e3,e4⟩:=J5Q hg hr fn.results.toList [] [] rfl (by simp) h
 simp only[List.nil_append]at e2 e3
 have hrun:(results fn a.tmps).run X.P w=.ok (if h:out.toArray.size=1 then out.toArray[0]else .tuple out.toArray) w:=by
  have hfe:(fun(x:ResultVar)=>(match x with|.tmp t=>pure (a.tmps.getD t undef)|.cell p t=>do loadVar t (←asAddr (a.tmps.getD p undef)):Sem Value))=resv a.tmps:=by
   funext x;cases x<;>rfl
  have:results fn a.tmps=(do let vs ←fn.results.mapM (resv a.tmps);pure (if h:vs.size=1 then vs[0]else .tuple vs)):=by
   unfold results
   rw[←hfe]
   rfl
  rw[this]
  simp only[Array.mapM_eq_mapM_toList,Sem.run_bind,Sem.run_map,e1,Result.andThen_ok,Sem.run_pure]
 match racc,e2,e3,e4 with
 |[r],e2,e3,e4=>
  have hl:out.length=1:=by simpa using e2
  refine⟨_,r,hrun,?_,e4⟩
  rw[dif_pos (by simpa using hl)]
  have:=e3 0 (by simp)
  have h0:0<out.length:=by omega
  simpa[List.getD,List.getElem?_eq_getElem h0]using this
 |[],e2,e3,e4=>
  have hl:out.length=0:=by simpa using e2
  refine⟨_,.tup [],hrun,?_,e4⟩
  rw[dif_neg (by simp;omega)]
  exact .tup (by simpa using hl) (fun j hj=>by simp at hj)
 |r1::r2::rs,e2,e3,e4=>
  have hl:out.length=(r1::r2::rs).length:=e2
  refine⟨_,.tup (r1::r2::rs),hrun,?_,e4⟩
  rw[dif_neg (by simp at hl ⊢;omega)]
  refine .tup (by simpa using hl) fun j hj=>?_
  have:=e3 j hj
  simpa[J61]using this
def env0 (args:List AV):Env:=fun t=>args.getD t (.d (.s undef))
theorem J7u {f:FuncId} {fn:Func} {c:Code} {args:List AV} {σ:St} {K:AEnd→St→Prop} (hf:X.P.funcs[f]? = some fn) (hb:fn.body=some c)
  (hn:(fn.name == "runtime.NumGoroutine")=false) (hle:args.length≤fn.ntmps) (h:Ok X fn.ntmps c (bodyQ X fn K) (env0 args) σ):AFun X f args σ K:=by
 refine⟨⟨fn,hf,hn,by rw[hb];rfl⟩,fun F η w vals hg hfr hs hvn hv=>?_⟩
 refine calls_of_wp hf hb (wp_mono (h F η {tmps:=vals++Array.replicate (fn.ntmps-vals.size) undef,defers:=[]} w hg ⟨hfr,hs,fun t=>?_,by simp;omega,rfl⟩) ?_)
 ·by_cases ht:t<args.length
  ·have e1:env0 args t=args[t]:=by simp[env0,List.getD,ht]
   have e2:(vals++Array.replicate (fn.ntmps-vals.size) undef).getD t undef=vals.getD t undef:=by
    simp only[Array.getD_eq_getD_getElem?]
    rw[Array.getElem?_append_left (by omega)]
   rw[e1,e2];exact hv t ht
  ·have e1:env0 args t=.d (.s undef):=by simp[env0,List.getD,List.getElem?_eq_none (Nat.le_of_not_lt ht)]
   have e2:(vals++Array.replicate (fn.ntmps-vals.size) undef).getD t undef=undef:=by
    simp only[Array.getD_eq_getD_getElem?]
    rw[Array.getElem?_append_right (by omega)]
    simp only[Array.getElem?_replicate]
    split<;>rfl
   rw[e1,e2];exact .d (.s _)
 ·rintro e a' w' ⟨F',η',env',σ',hs',hg',hr',hq⟩
  have fin:ares σ' X env' (fun r σ=>K (.ret r) σ) fn.results.toList []→a'.defers=[]∧∃v,(results fn a'.tmps).run X.P w'=.ok v w'∧
    ∃F'' η'' σ'' E,Step F η σ w F'' η'' σ'' w'∧FRel F'' w'∧SRel F'' η'' σ'' w'∧EndRel F'' η'' σ''.next E (.returned v)∧K E σ'':=by
   intro hq
   obtain⟨v,r,h1,h2,h3⟩:=J7p hg' hr' hq
   exact⟨hr'.df,v,h1,F',η',σ',.ret r,hs',hr'.fr,hr'.st,h2,h3⟩
  cases e with
  |normal=>exact fin hq
  |ret=>exact fin hq
  |panic ch=>exact⟨hr'.df,F',η',σ',.pan ch,hs',hr'.fr,hr'.st,rfl,hq⟩
  |exit id=>exact hq.elim
  |goto l=>exact hq.elim
  |outgrown=>exact hq.elim
end sound
end Go.Pm
/- Part of the proof: Pm10. -/
namespace Go.Pm
def veq:Value→Value→Bool
 |.bool a,.bool b=>a == b
 |.int j a,.int k b=>decide (j=k)&&decide (a=b)
 |.string a,.string b=>decide (a=b)
 |.pointer none,.pointer none=>true
 |.slice none 0 0,.slice none 0 0=>true
 |.map none,.map none=>true
 |.nilFunc,.nilFunc=>true
 |.nilIface,.nilIface=>true
 |_,_=>false
theorem JbV {a b:Value} (h:veq a b=true):a=b∧a.oneCell'=true:=by
 unfold veq at h
 split at h<;>first|(simp at h;done)|skip
 all_goals first
  |exact⟨rfl,rfl⟩
  |(simp at h;subst h;exact⟨rfl,rfl⟩)
  |(simp at h;obtain⟨rfl,rfl⟩:=h;exact⟨rfl,rfl⟩)
def veqs:List Value→List Value→Bool
 |[],[]=>true
 |a::l,b::m=>veq a b&&veqs l m
 |_,_=>false
theorem J68:∀{l m:List Value},veqs l m=true→l=m∧l.all (·.oneCell')=true
 |[],[],_=>⟨rfl,rfl⟩
 |a::l,b::m,h=>by
  simp only[veqs,Bool.and_eq_true]at h
  obtain⟨h1,h2⟩:=JbV h.1
  obtain⟨h3,h4⟩:=J68 h.2
  exact⟨by rw[h1,h3],by simp[h2];simpa using h4⟩
 |[],b::m,h=>by simp[veqs]at h
 |a::l,[],h=>by simp[veqs]at h
def look (L:List (Option TI)) (t:TypeId):Option TI:=
 match L[t]? with
 |some x=>x
 |none=>none
def checkT (P:Program) (L:List (Option TI)) (t:TypeId) (ti:TI):Bool:=
 match P.underlying t,P.info? t with
 |some d,some i=>
  decide (kindOf d=ti.kind)&&decide (i.size=ti.size)&&decide (i.bytes=ti.bytes)&&decide (ti.zero.length=ti.size) &&
  (match i.zero with
   |some (.agg vs)=>isAggK ti.kind&&veqs vs.toList ti.zero
   |some z=>!isAggK ti.kind&&veqs [z] ti.zero
   |none=>false) &&
  (match ti.kind with|.struct fs=>fs.all fun f=>(look L f.2).isSome|_=>true) &&
  (!ti.eqok||((!P.stoodInHeld t)&&(!P.eqGuardType P.depth t)&&(match d with|.struct fs=>fs.toList.all fun f=>decide (f.name≠"_")|_=>false)))
 |_,_=>false
def checkAll (P:Program) (L:List (Option TI)):List (Option TI)→Nat→Bool
 |[],_=>true
 |none::l,t=>checkAll P L l (t+1)
 |some ti::l,t=>checkT P L t ti&&checkAll P L l (t+1)
theorem J1W {P:Program} {L:List (Option TI)}:∀(l:List (Option TI)) (t:Nat),checkAll P L l t=true→∀j ti,l[j]? = some (some ti)→checkT P L (t+j) ti=true
 |[],_,_,j,ti,h=>by simp at h
 |none::l,t,hc,j,ti,h=>by
  cases j with
  |zero=>simp at h
  |succ j=>
   have:=J1W l (t+1) hc j ti (by simpa using h)
   rwa [show t+(j+1)=t+1+j by omega]
 |some x::l,t,hc,j,ti,h=>by
  simp only[checkAll,Bool.and_eq_true]at hc
  cases j with
  |zero=>simp at h;subst h;exact hc.1
  |succ j=>
   have:=J1W l (t+1) hc.2 j ti (by simpa using h)
   rwa [show t+(j+1)=t+1+j by omega]
theorem J2k {P:Program} {L:List (Option TI)} (h:checkAll P L L 0=true) {t:TypeId} {ti:TI} (ht:look L t=some ti):checkT P L t ti=true:=by
 unfold look at ht
 split at ht
 ·rename_i x hx
  subst ht
  simpa using J1W L 0 h t ti hx
 ·simp at ht
def mkCfg (P:Program) (G:Nat→Option (List D)) (L:List (Option TI)) (h:checkAll P L L 0=true):Cfg where
 P:=P
 G:=G
 T:=look L
 ok:=by
  intro t ti ht
  have hc:=J2k h ht
  unfold checkT at hc
  split at hc
  ·rename_i d i hu hi
   simp only[Bool.and_eq_true,decide_eq_true_eq]at hc
   obtain⟨⟨⟨⟨⟨⟨h1,h2⟩,h3⟩,h4⟩,h5⟩,h6⟩,h7⟩:=hc
   split at h5
   ·rename_i vs hz
    simp only[Bool.and_eq_true]at h5
    obtain⟨h8,h9⟩:=J68 h5.2
    refine⟨d,i,.agg vs,hu,h1,hi,h2,h3,hz,by simp[Value.cells,←h8],h4,by rw[←h8];exact h9,by simp[h5.1],fun _=>by simp[←h8]⟩
   ·rename_i z hnz hz
    simp only[Bool.and_eq_true,Bool.not_eq_true']at h5
    obtain⟨h8,h9⟩:=J68 h5.2
    have hcz:z.cells=#[z]:=by cases z<;>first|rfl|exact(hnz _ rfl).elim
    exact⟨d,i,z,hu,h1,hi,h2,h3,hz,by rw[hcz,←h8],h4,by rw[←h8];exact h9,fun _=>by rw[←h8];rfl,by simp[h5.1]⟩
   ·simp at h5
  ·simp at hc
 cl:=by
  intro t ti fs ht hk f hf
  have hc:=J2k h ht
  unfold checkT at hc
  split at hc
  ·simp only[Bool.and_eq_true,hk]at hc
   exact List.all_eq_true.1 hc.1.2 f hf
  ·simp at hc
 eq:=by
  intro t ti ht he
  have hc:=J2k h ht
  unfold checkT at hc
  split at hc
  ·rename_i d i hu hi
   simp only[Bool.and_eq_true,he,Bool.not_true,Bool.false_or]at hc
   obtain⟨⟨h1,h2⟩,h3⟩:=hc.2
   split at h3
   ·rename_i fs
    exact⟨by simpa using h1,by simpa using h2,fs,hu,fun f hf=>by simpa using List.all_eq_true.1 h3 f hf⟩
   ·simp at h3
  ·simp at hc
end Go.Pm
/- Part of the proof: Pm11. -/
namespace Go.Pm
def Kept (σ σ':St):Prop:=∀i,i<σ.next→σ'.obj i=σ.obj i
def Pure (X:Cfg) (f:FuncId) (args:List AV) (x:D):Prop:=∀σ,AFun X f args σ fun E σ'=>E=.ret (.d x)∧σ'=σ
def endQ (X:Cfg) (rs:List ResultVar) (K:AEnd→St→Prop):Exit→Env→St→Prop
 |.normal,env,σ=>ares σ X env (fun r σ=>K (.ret r) σ) rs []
 |.ret,env,σ=>ares σ X env (fun r σ=>K (.ret r) σ) rs []
 |.panic ch,env,σ=>K (.pan ch) σ
 |_,_,_=>False
theorem Jx {X:Cfg} {f:FuncId} {fn:Func} {c:Code} {nt:Nat} {rs:Array ResultVar} {args:List AV} {σ:St} {K:AEnd→St→Prop} (hf:X.P.funcs[f]? = some fn) (hb:fn.body=some c)
  (hn:(fn.name == "runtime.NumGoroutine")=false) (hnt:fn.ntmps=nt) (hrs:fn.results=rs) (hle:args.length≤nt) (h:Ok X nt c (endQ X rs.toList K) (env0 args) σ):AFun X f args σ K:=by
 subst hnt
 subst hrs
 exact J7u hf hb hn hle h
@[reducible] def vi (n:Int):AV:=.d (.s (.int .i64 n))
@[reducible] def vb (b:Bool):AV:=.d (.s (.bool b))
@[reducible] def vs (s:ByteArray):AV:=.d (.s (.string s))
theorem J4q {X:Cfg} {nt:Nat} {Q:Exit→Env→St→Prop} {env:Env} {σ:St} {c:Operand} {x y:Code} {b:Bool} (hb:aev X env c=.d (.s (.bool b)))
  (h1:b=true→Ok X nt x Q env σ) (h2:b=false→Ok X nt y Q env σ):Ok X nt (.cond c x y) Q env σ:=JaM ⟨b,hb,h1,h2⟩
def gd (ops:List Oper) (j:Nat):Nat:=((ops[j]?).bind (·.dst)).getD 0
section regs
variable {X:Cfg} {nt:Nat} {ops rest:List Oper} {Q:Exit→Env→St→Prop} {env:Env} {σ:St} {dst:Option Tmp} {op:Op} {ty:TypeId} {pos:String} {after:Array Edge} {j:Nat} {want:Bool}
theorem J9j:areg X nt ops Q [] env σ=Q .normal env σ:=rfl
theorem J8N:areg X nt ops Q (⟨dst,op,ty,pos,after,none⟩::rest) env σ=(dst.all (·<nt)=true∧aoper X op env σ Q fun v σ'=>areg X nt ops Q rest (put env dst v) σ'):=rfl
theorem J5r {b:Bool} (hj:((ops[j]?).bind (·.dst)).isSome=true) (hn:gd ops j<nt) (hb:env (gd ops j)=.d (.s (.bool b))):
  areg X nt ops Q (⟨dst,op,ty,pos,after,some (j,want)⟩::rest) env σ=(dst.all (·<nt)=true∧if b=want then aoper X op env σ Q fun v σ'=>areg X nt ops Q rest (put env dst v) σ' else areg X nt ops Q rest (put env dst (.d (.s undef))) σ):=by
 obtain⟨d,hd⟩:=Option.isSome_iff_exists.1 hj
 have hgd:gd ops j=d:=by simp[gd,hd]
 rw[hgd]at hn hb
 simp only[areg,hd,hn,true_and,hb]
 cases b<;>cases want<;>simp
theorem J8R (hj:((ops[j]?).bind (·.dst)).isSome=true) (hn:gd ops j<nt) (hb:env (gd ops j)=.d (.s (.bool true))):
  areg X nt ops Q (⟨dst,op,ty,pos,after,some (j,want)⟩::rest) env σ=(dst.all (·<nt)=true∧if want=true then aoper X op env σ Q fun v σ'=>areg X nt ops Q rest (put env dst v) σ' else areg X nt ops Q rest (put env dst (.d (.s undef))) σ):=by
 rw[J5r hj hn hb];cases want<;>rfl
theorem J7e (hj:((ops[j]?).bind (·.dst)).isSome=true) (hn:gd ops j<nt) (hb:env (gd ops j)=.d (.s (.bool false))):
  areg X nt ops Q (⟨dst,op,ty,pos,after,some (j,want)⟩::rest) env σ=(dst.all (·<nt)=true∧if want=true then areg X nt ops Q rest (put env dst (.d (.s undef))) σ else aoper X op env σ Q fun v σ'=>areg X nt ops Q rest (put env dst v) σ'):=by
 rw[J5r hj hn hb];cases want<;>rfl
theorem J7f (hj:((ops[j]?).bind (·.dst)).isSome=true) (hn:gd ops j<nt) (hb:env (gd ops j)=.d (.s undef)):
  areg X nt ops Q (⟨dst,op,ty,pos,after,some (j,want)⟩::rest) env σ=(dst.all (·<nt)=true∧areg X nt ops Q rest (put env dst (.d (.s undef))) σ):=by
 obtain⟨d,hd⟩:=Option.isSome_iff_exists.1 hj
 have hgd:gd ops j=d:=by simp[gd,hd]
 rw[hgd]at hn hb
 simp only[areg,hd,hn,true_and,hb]
 rfl
end regs
attribute [simp] gd J9j J8N J8R J7e J7f
attribute [simp] J4c J9u St.obj_alloc St.next_alloc St.obj_set St.next_set St.obj_bump St.next_bump J0J J65
attribute [simp] aoper aop aev acallee abinop abin aunop aextract amakeFunc abuiltin aminmax anil alen abox aalloc aload astore afieldAddr afield aslice optInt aindexAddr aindex alookup amakeMap amapUpdate
 behind piece isAggK splice AV.cells AV.one Value.oneCell' zrow rowsOf srcOf entriesOf kindOfMap keyFit azero aeq eqPlain eqFlds fillA places abuild fillRows abuildSlice amakeSlice aappend aconvert amakeInterface
 ares andThen inBlock endQ
end Go.Pm
