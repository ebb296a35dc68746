/- Part of the proof: Pm26. -/
import Derived.Test.YtdjanhhljinokaaGreatDoorT9
import Derived.Test.YtdjanhhljinokaaGreatDoorT7
import Derived.Sort.Grow
import Derived.Deep.Draws
import Derived.Laws.IdiomStrings
set_option linter.unusedVariables false
set_option linter.unusedSimpArgs false
namespace Go.Pm
attribute [local irreducible] AR Ok inBlock andThen endQ aoper
section
variable {X:Cfg} {nt:Nat} {ops:Array Oper} {T:Nat→Prop} {es:List Nat} {n:Nat} {rest:List Oper} {Q:Exit→Env→St→Prop} {env:Env} {σ σ':St} {dst:Option Tmp} {op:Op} {ty:TypeId} {pos:String} {after:Array Edge} {r:AV}
theorem Wx {K':Env→St→Prop} (h:K' env σ):ADE X nt ops T es (andThen K' Q) n [] env σ:=⟨env,σ,.nil n env σ,J3 h⟩
theorem Wy (h:Q .normal env σ):ADE X nt ops T es Q n [] env σ:=⟨env,σ,.nil n env σ,h⟩
theorem J1L {o:Oper} (h:OpAtT X nt ops T σ o env r) (k:ADE X nt ops T es Q (n+1) rest (put env o.dst r) σ) (hne:es.contains n=false):ADE X nt ops T es Q n (o::rest) env σ:=by
 obtain⟨E,σF,h1,h2⟩:=k
 exact⟨E,σF,.op hne h h1,h2⟩
theorem Wa (k:ADE X nt ops T es Q (n+1) rest (put env dst r) σ) (hs:∀σ',astep X env σ' op=some (r,σ'):=by intro _;exact rfl) (hd:dst.all (·<nt)=true:=by exact rfl) (hne:es.contains n=false:=by exact rfl):ADE X nt ops T es Q n (⟨dst,op,ty,pos,after,none⟩::rest) env σ:=
 J1L (o:=⟨dst,op,ty,pos,after,none⟩) ⟨hd,fun σ' _=>J2I (hs σ') ⟨rfl,rfl⟩⟩ k hne
theorem Wn {x:Operand} (k:ADE X nt ops T es Q (n+1) rest (put env dst r) σ) (ha:anil (aev X env x)=true:=by exact rfl) (hr:(aev X env x).force=some r:=by exact rfl) (hd:dst.all (·<nt)=true:=by exact rfl) (hne:es.contains n=false:=by exact rfl):ADE X nt ops T es Q n (⟨dst,.nilCheck x,ty,pos,after,none⟩::rest) env σ:=
 J1L (o:=⟨dst,.nilCheck x,ty,pos,after,none⟩) ⟨hd,fun σ' _=>by simp only[aoper,aop];exact⟨ha,trivial,J0c hr⟩⟩ k hne
theorem Wl {p:Operand} {i off t:Nat} {cells:List AV} {ti:TI} (ho:σ.obj i=some (.var cells)) (hT:T i) (k:ADE X nt ops T es Q (n+1) rest (put env dst r) σ) (hp:aev X env p=.ref i off:=by exact rfl) (ht:X.T t=some ti:=by exact rfl)
  (hc:pieceF (isAggK ti.kind) cells off ti.size=some r:=by exact rfl) (hd:dst.all (·<nt)=true:=by exact rfl) (hne:es.contains n=false:=by exact rfl):ADE X nt ops T es Q n (⟨dst,.load t p,ty,pos,after,none⟩::rest) env σ:=
 J1L (o:=⟨dst,.load t p,ty,pos,after,none⟩) ⟨hd,fun σ' hag=>by
  simp only[aoper,aop,aload]
  exact⟨ti,ht,(cells,off),by simp only[hp,behind,hag i hT,ho],r,J0z hc,trivial,rfl⟩⟩ k hne
theorem We (h:aoper X op env σ (fun _ _ _=>False) fun v σ2=>σ2=σ'∧v=r) (hT:rest=[]∨∀j,T j→σ'.obj j=σ.obj j) (k:ADE X nt ops T es Q (n+1) rest (put env dst r) σ') (hd:dst.all (·<nt)=true:=by exact rfl) (he:es.contains n=true:=by exact rfl):
  ADE X nt ops T es Q n (⟨dst,op,ty,pos,after,none⟩::rest) env σ:=by
 obtain⟨E,σF,h1,h2⟩:=k
 exact⟨E,σF,.eff (o:=⟨dst,op,ty,pos,after,none⟩) he hd rfl h hT h1,h2⟩
end
section
variable {X:Cfg} {nt:Nat} {Q:Exit→Env→St→Prop} {K:AV→St→Prop} {env:Env} {σ σ':St} {r:AV}
theorem Ju {x:Operand} (k:K r σ) (ha:anil (aev X env x)=true:=by exact rfl) (hr:(aev X env x).force=some r:=by exact rfl):aoper X (.nilCheck x) env σ Q K:=by
 simp only[aoper,aop]
 refine⟨ha,?_⟩
 rw[J0c hr];exact k
theorem Ys {p:Operand} {i off t:Nat} {cells:List AV} {ti:TI} (ho:σ.obj i=some (.var cells)) (hK:K r σ) (hp:aev X env p=.ref i off:=by exact rfl) (ht:X.T t=some ti:=by exact rfl) (hc:pieceF (isAggK ti.kind) cells off ti.size=some r:=by exact rfl):aoper X (.load t p) env σ Q K:=by
 simp only[aoper,aop,aload]
 exact⟨ti,ht,(cells,off),by simp only[hp,behind,ho],r,J0z hc,hK⟩
theorem Yt {p x:Operand} {i off t:Nat} {cells cs m:List AV} {ti:TI} (ho:σ.obj i=some (.var cells)) (hK:K (.d (.s undef)) (σ.set i (.var m))) (hp:aev X env p=.ref i off:=by exact rfl) (ht:X.T t=some ti:=by exact rfl) (hx:cellsF (aev X env x)=some cs:=by exact rfl)
  (h1:(decide (cs.length=ti.size)&&cs.all AV.one)=true:=by exact rfl) (hm:spliceF cells off cs=some m:=by exact rfl):aoper X (.store t p x) env σ Q K:=by
 simp only[aoper,aop,astore]
 simp only[Bool.and_eq_true,decide_eq_true_eq]at h1
 obtain⟨h3,h4⟩:=J0q hm
 refine⟨ti,ht,cs,J0C hx,h1.1,h1.2,?_⟩
 simp only[hp]
 exact⟨cells,ho,by rw[←h1.1];exact h4,by rw[h3];exact hK⟩
theorem Yu {e i:Nat} {ti:TI} {cs:List AV} (hK:K (.ref i 0) (σ.alloc (.var cs))) (ht:X.T e=some ti:=by exact rfl) (hc:listF (zrow ti)=some cs:=by exact rfl) (hi:σ.next=i:=by exact rfl):aoper X (.alloc e) env σ Q K:=by
 subst hi
 have hc:=J1o hc
 subst hc
 simp only[aoper,aop,aalloc]
 exact⟨ti,ht,hK⟩
theorem Yv {e i:Nat} {x:Operand} {cs:List AV} (hK:K (.ref i 0) (σ.alloc (.var cs))) (hc:cellsF (aev X env x)=some cs:=by exact rfl) (h1:cs.all AV.one=true:=by exact rfl) (hi:σ.next=i:=by exact rfl):aoper X (.box e x) env σ Q K:=by
 subst hi
 simp only[aoper,aop,abox]
 exact⟨cs,J0C hc,h1,hK⟩
theorem Yw {t len n sz:Nat} {ps:Array (Nat×Operand)} {ti te:TI} {e:Nat} {rows:List (List AV)} (h:K (.sl n n 0 len) (σ.alloc (.row n e sz rows))) (ht:X.T t=some ti:=by exact rfl) (hk:ti.kind=.slice e:=by exact rfl) (hte:X.T e=some te:=by exact rfl) (hsz:te.size=sz:=by exact rfl) (hp:Nat.blt 0 sz=true:=by exact rfl)
  (hb:Nat.ble (len*sz) 16777216=true:=by exact rfl) (hr:fillRows sz (List.replicate len (zrow te)) (ps.toList.map fun p=>(p.1,aev X env p.2))=some rows:=by exact rfl) (hn:σ.next=n:=by exact rfl):aoper X (.buildSlice t len ps) env σ Q K:=by
 subst hn
 subst hsz
 simp only[aoper,aop,abuildSlice]
 exact⟨ti,ht,e,te,hk,hte,Je hp,Nat.le_of_ble_eq_true hb,rows,hr,h⟩
def slcN (i h n:Nat):AV:=if n=0 then .d (.s (.slice none 0 0))else .sl i h 0 n
theorem J1p {i h n:Nat} (hn:n≠0):slcN i h n=.sl i h 0 n:=if_neg hn
theorem J5q (i h:Nat):slcN i h 0=.d (.s (.slice none 0 0)):=rfl
theorem app1 {α:Type} {f:α→List AV} {l:List α} {y:α} {i h k v t tx el sz:Nat} {ti te tix:TI} {s x:Operand} {as:Array Operand} {ts:Array TypeId} (ho:l≠[]→σ.obj i=some (.row h el sz (l.map f))) (hk:σ.obj k=some (.row v el sz [f y])) (hf:∀z,(f z).length=sz)
  (hK:∀i' σ',i'=(if l=[]then σ.next else i)→σ'.obj i'=some (.row σ.next el sz ((l++[y]).map f))→(∀j,j≠i'→σ'.obj j=σ.obj j)→σ'.next=σ.next+1→K (.sl i' σ.next 0 (l.length+1)) σ')
  (h1:as.toList=[s,x]:=by exact rfl) (h2:ts.toList=[t,tx]:=by exact rfl) (hs:aev X env s=slcN i h l.length:=by exact rfl) (hx:aev X env x=.sl k v 0 1:=by exact rfl) (ht:X.T t=some ti:=by exact rfl) (hkd:ti.kind=.slice el:=by exact rfl) (hte:X.T el=some te:=by exact rfl) (hsz:te.size=sz:=by exact rfl) (hp:Nat.blt 0 sz=true:=by exact rfl)
  (hpb:Nat.blt 0 te.bytes=true:=by exact rfl) (htx:X.T tx=some tix:=by exact rfl) (hkx:tix.kind=.slice el:=by exact rfl) (hbb:Nat.ble te.bytes 1024=true:=by exact rfl) (hb:l.length≤2097152:=by omega):aoper X (.call ⟨.builtin .append,as,ts⟩) env σ Q K:=by
 subst hsz
 have hb:(l.length+1)*te.bytes≤140737488355328:=Nat.le_trans (Nat.mul_le_mul (show l.length+1≤2097153 by omega) (Nat.le_of_ble_eq_true hbb)) (by decide)
 simp only[aoper,h1,h2,abuiltin,aappend]
 refine⟨ti,ht,el,te,hkd,hte,Je hp,Je hpb,tix,htx,[f y],?_,?_,?_⟩
 ·rw[hkx,hx];simp[srcOf,rowsOf,hk]
 ·intro r hr
  simp only[List.mem_singleton]at hr
  subst hr;exact hf y
 ·rw[hs]
  by_cases hl:l=[]
  ·subst hl
   simp only[List.length_nil,J5q,List.length_singleton]
   refine⟨by simpa using hb,hK σ.next (σ.alloc (.row σ.next el te.size [f y])) (by simp) (by simp[St.alloc]) (fun j hj=>by simp[St.alloc,hj]) rfl⟩
  ·have hn:l.length≠0:=fun h=>hl (List.eq_nil_of_length_eq_zero h)
   simp only[J1p hn,List.length_singleton]
   refine⟨trivial,_,ho hl,by simp,hb,hK i (bumpSet σ i _) (by simp[hl]) ?_ (fun j hj=>by simp[bumpSet,hj]) rfl⟩
   simp[bumpSet,List.take_of_length_le]
def slcB (b:Bool) (i h n:Nat):AV:=if b then .sl i h 0 n else .d (.s (.slice none 0 0))
theorem Yx2 {b:Bool} {i h n:Nat} {x:Operand} {t el:Nat} {ti:TI} {as:Array Operand} {ts:Array TypeId} (hn:b=false→n=0) (hK:K (vi n) σ) (h1:as.toList=[x]:=by exact rfl) (h2:ts.toList=[t]:=by exact rfl) (hx:aev X env x=slcB b i h n:=by exact rfl) (ht:X.T t=some ti:=by exact rfl) (hk':ti.kind=.slice el:=by exact rfl):aoper X (.call ⟨.builtin .len,as,ts⟩) env σ Q K:=by
 simp only[aoper,h1,h2,abuiltin,alen]
 refine⟨ti,ht,?_⟩
 simp only[hk',hx]
 cases b with
 |false=>have:=hn rfl;subst this;exact hK
 |true=>exact hK
theorem app2 {α:Type} {f:α→List AV} {l:List α} {y:α} {b:Bool} {rows:List (List AV)} {i h k v t tx el sz n:Nat} {ti te tix:TI} {s x:Operand} {as:Array Operand} {ts:Array TypeId} (hl:b=false→l=[]) (hn:n=l.length) (ho:b=true→σ.obj i=some (.row h el sz rows)∧rows.take n=l.map f∧n≤rows.length) (hk:σ.obj k=some (.row v el sz [f y])) (hf:∀z,(f z).length=sz)
  (hK:∀i' σ',i'=(if b then i else σ.next)→σ'.obj i'=some (.row σ.next el sz ((l++[y]).map f))→(∀j,j≠i'→σ'.obj j=σ.obj j)→σ'.next=σ.next+1→K (.sl i' σ.next 0 (n+1)) σ')
  (h1:as.toList=[s,x]:=by exact rfl) (h2:ts.toList=[t,tx]:=by exact rfl) (hs:aev X env s=slcB b i h n:=by exact rfl) (hx:aev X env x=.sl k v 0 1:=by exact rfl) (ht:X.T t=some ti:=by exact rfl) (hkd:ti.kind=.slice el:=by exact rfl) (hte:X.T el=some te:=by exact rfl) (hsz:te.size=sz:=by exact rfl) (hp:Nat.blt 0 sz=true:=by exact rfl)
  (hpb:Nat.blt 0 te.bytes=true:=by exact rfl) (htx:X.T tx=some tix:=by exact rfl) (hkx:tix.kind=.slice el:=by exact rfl) (hbb:Nat.ble te.bytes 1024=true:=by exact rfl) (hb:n≤2097152:=by omega):aoper X (.call ⟨.builtin .append,as,ts⟩) env σ Q K:=by
 subst hsz
 have hb:(n+1)*te.bytes≤140737488355328:=Nat.le_trans (Nat.mul_le_mul (show n+1≤2097153 by omega) (Nat.le_of_ble_eq_true hbb)) (by decide)
 simp only[aoper,h1,h2,abuiltin,aappend]
 refine⟨ti,ht,el,te,hkd,hte,Je hp,Je hpb,tix,htx,[f y],?_,?_,?_⟩
 ·rw[hkx,hx];simp[srcOf,rowsOf,hk]
 ·intro r hr
  simp only[List.mem_singleton]at hr
  subst hr;exact hf y
 ·rw[hs]
  cases b with
  |false=>
   have:=hl rfl
   subst this
   simp only[List.length_nil]at hn
   subst hn
   simp only[slcB,Bool.false_eq_true,if_false,List.length_singleton]
   refine⟨by simpa using hb,hK σ.next (σ.alloc (.row σ.next el te.size [f y])) (by simp) (by simp[St.alloc]) (fun j hj=>by simp[St.alloc,hj]) rfl⟩
  |true=>
   obtain⟨o1,o2,o3⟩:=ho rfl
   simp only[slcB,if_true,List.length_singleton]
   refine⟨trivial,_,o1,o3,hb,hK i (bumpSet σ i _) (by simp) ?_ (fun j hj=>by simp[bumpSet,hj]) rfl⟩
   simp[bumpSet,o2]
theorem Yz {x y:Operand} {t i v hi e sz:Nat} {n:Int} {ti te:TI} {rows:List (List AV)} (k:Nat) (ho:σ.obj i=some (.row v e sz rows)) (hn:n=(k:Int)) (hle:k≤hi) (hK:K (.sl i v 0 k) σ) (hx:aev X env x=.sl i v 0 hi:=by exact rfl) (hy:aev X env y=vi n:=by exact rfl) (ht:X.T t=some ti:=by exact rfl) (hk:ti.kind=.slice e:=by exact rfl)
  (hte:X.T e=some te:=by exact rfl) (hsz:te.size=sz:=by exact rfl):aoper X (.slice t x none (some y) none) env σ Q K:=by
 subst hn
 subst hsz
 simp only[aoper,aop,aslice,Option.map_none,Option.map_some]
 refine⟨ti,ht,none,rfl,some (k:Int),by rw[hy];rfl,?_⟩
 simp only[hk,hx,Option.getD_none,Option.getD_some,Nat.sub_zero,Int.toNat_zero,Nat.add_zero,Int.toNat_natCast,Nat.zero_add]
 exact⟨Int.le_refl _,Int.natCast_nonneg _,by omega,⟨te,rows,hte,ho⟩,hK⟩
def appS (σ:St) (b:Bool) (i:Nat) (o:AO):St:=if b then σ.alloc o else bumpSet σ i o
theorem J5H {σ:St} {b:Bool} {i:Nat} {o:AO}:(appS σ b i o).obj (if b then σ.next else i)=some o:=by cases b<;>simp[appS,St.alloc,bumpSet]
theorem J28 {σ:St} {b:Bool} {i j:Nat} {o:AO} (h:j≠(if b then σ.next else i)):(appS σ b i o).obj j=σ.obj j:=by
 cases b
 ·have h:j≠i:=h
  simp[appS,bumpSet,h]
 ·have h:j≠σ.next:=h
  simp[appS,St.alloc,h]
theorem J0Z {σ:St} {b:Bool} {i:Nat} {o:AO}:(appS σ b i o).next=σ.next+1:=by cases b<;>rfl
theorem app1d {α:Type} {f:α→List AV} {l:List α} {y:α} {i h k v t tx el sz:Nat} {ti te tix:TI} {s x:Operand} {as:Array Operand} {ts:Array TypeId} (ho:l≠[]→σ.obj i=some (.row h el sz (l.map f))) (hk:σ.obj k=some (.row v el sz [f y])) (hf:∀z,(f z).length=sz)
  (hK:K (.sl (if l.isEmpty then σ.next else i) σ.next 0 (l.length+1)) (appS σ l.isEmpty i (.row σ.next el sz ((l++[y]).map f))))
  (h1:as.toList=[s,x]:=by exact rfl) (h2:ts.toList=[t,tx]:=by exact rfl) (hs:aev X env s=slcN i h l.length:=by exact rfl) (hx:aev X env x=.sl k v 0 1:=by exact rfl) (ht:X.T t=some ti:=by exact rfl) (hkd:ti.kind=.slice el:=by exact rfl) (hte:X.T el=some te:=by exact rfl) (hsz:te.size=sz:=by exact rfl) (hp:Nat.blt 0 sz=true:=by exact rfl)
  (hpb:Nat.blt 0 te.bytes=true:=by exact rfl) (htx:X.T tx=some tix:=by exact rfl) (hkx:tix.kind=.slice el:=by exact rfl) (hbb:Nat.ble te.bytes 1024=true:=by exact rfl) (hb:l.length≤2097152:=by omega):aoper X (.call ⟨.builtin .append,as,ts⟩) env σ Q K:=by
 subst hsz
 have hb:(l.length+1)*te.bytes≤140737488355328:=Nat.le_trans (Nat.mul_le_mul (show l.length+1≤2097153 by omega) (Nat.le_of_ble_eq_true hbb)) (by decide)
 simp only[aoper,h1,h2,abuiltin,aappend]
 refine⟨ti,ht,el,te,hkd,hte,Je hp,Je hpb,tix,htx,[f y],?_,?_,?_⟩
 ·rw[hkx,hx];simp[srcOf,rowsOf,hk]
 ·intro r hr
  simp only[List.mem_singleton]at hr
  subst hr;exact hf y
 ·rw[hs]
  cases l with
  |nil=>
   simp only[List.length_nil,J5q,List.length_singleton]
   exact⟨by simpa using hb,hK⟩
  |cons z l=>
   simp only[List.length_cons,J1p (Nat.succ_ne_zero _),List.length_singleton]
   refine⟨trivial,_,ho (by simp),by simp,by simpa using hb,?_⟩
   have e1:List.take (l.length+1) (List.map f (z::l))++[f y]=((z::l)++[y]).map f:=by rw[List.take_of_length_le (by simp)];simp
   rw[e1]
   exact hK
theorem J7Y {k:FuncId} {args caps:List AV} {KK:AEnd→St→Prop} {as:Array Operand} {ts:Array TypeId} {f:Operand} (h:AFun X k args σ KK) (hk:∀E σ',KK E σ'→∃r,E=.ret r∧K r σ') (hf:aev X env f=.fn k caps:=by exact rfl) (ha:as.toList.map (aev X env)++caps=args:=by exact rfl):aoper X (.call ⟨.value f,as,ts⟩) env σ Q K:=by
 subst ha
 simp only[aoper,hf,acallee,acall]
 refine h.mono fun E σ' h'=>?_
 obtain⟨r,rfl,h2⟩:=hk E σ' h'
 exact h2
theorem Yr {p:Operand} {i off t:Nat} {cells:List AV} {ti:TI} (ho:σ.obj i=some (.var cells)) (hK:K r σ) (hp:aev X env p=.ref i off:=by exact rfl) (ht:X.T t=some ti:=by exact rfl) (hc:piece (isAggK ti.kind) cells off ti.size=some r:=by exact rfl):aoper X (.load t p) env σ Q K:=by
 simp only[aoper,aop,aload]
 exact⟨ti,ht,(cells,off),by simp only[hp,behind,ho],r,hc,hK⟩
theorem ret0 {K:AEnd→St→Prop} (h:K (.ret (.tup [])) σ):endQ X #[].toList K .ret env σ:=by unfold endQ;exact h
theorem nrm0 {K:AEnd→St→Prop} (h:K (.ret (.tup [])) σ):endQ X #[].toList K .normal env σ:=by unfold endQ;exact h
theorem ret2 {s t:Nat} {K:AEnd→St→Prop} {x y:AV} (h:K (.ret (.tup [x,y])) σ) (hx:(env s).force=some x:=by exact rfl) (hy:(env t).force=some y:=by exact rfl):endQ X #[.tmp s,.tmp t].toList K .ret env σ:=by
 rw[←J0c hx,←J0c hy]at h
 unfold endQ;exact h
theorem Ymv {x:Operand} (hK:K r σ) (hx:aev X env x=r:=by exact rfl):aoper X (.move x) env σ Q K:=by subst hx;simp only[aoper,aop];exact hK
theorem Yas {x:Operand} (hK:K r σ) (hx:aev X env x=r:=by exact rfl):aoper X (.assign x) env σ Q K:=by subst hx;simp only[aoper,aop];exact hK
theorem Yi1 {t i v hi el sz:Nat} {n:Int} {ti te:TI} {rows:List (List AV)} {x y:Operand} (k:Nat) (ho:σ.obj i=some (.row v el sz rows)) (hn:n=(k:Int)) (hlt:k<hi) (h:K (.ep i v k 0) σ) (hx:aev X env x=.sl i v 0 hi:=by exact rfl) (hy:aev X env y=vi n:=by exact rfl) (ht:X.T t=some ti:=by exact rfl) (hk:ti.kind=.slice el:=by exact rfl)
  (hte:X.T el=some te:=by exact rfl) (hsz:te.size=sz:=by exact rfl):aoper X (.indexAddr t x y) env σ Q K:=by
 subst hn
 subst hsz
 exact Jv hx hy hlt ht hk hte ho h
theorem Ye1 {cells:List AV} {rows:List (List AV)} {p:Operand} {i v k el sz t:Nat} {ti:TI} (ho:σ.obj i=some (.row v el sz rows)) (hr:rows[k]? = some cells) (hK:K r σ) (hp:aev X env p=.ep i v k 0:=by exact rfl) (ht:X.T t=some ti:=by exact rfl)
  (hc:pieceF (isAggK ti.kind) cells 0 ti.size=some r:=by exact rfl):aoper X (.load t p) env σ Q K:=Ye hr hK hp ho ht hc
end
section
variable {X:Cfg} {nt:Nat} {ops:Array Oper} {T:Nat→Prop} {es:List Nat} {n:Nat} {rest:List Oper} {Q:Exit→Env→St→Prop} {env:Env} {σ σ':St} {dst:Option Tmp} {op:Op} {ty:TypeId} {pos:String} {after:Array Edge} {r:AV}
theorem Wr {p:Operand} {i off t:Nat} {cells:List AV} {ti:TI} (ho:σ.obj i=some (.var cells)) (hT:T i) (k:ADE X nt ops T es Q (n+1) rest (put env dst r) σ) (hp:aev X env p=.ref i off:=by exact rfl) (ht:X.T t=some ti:=by exact rfl)
  (hc:piece (isAggK ti.kind) cells off ti.size=some r:=by exact rfl) (hd:dst.all (·<nt)=true:=by exact rfl) (hne:es.contains n=false:=by exact rfl):ADE X nt ops T es Q n (⟨dst,.load t p,ty,pos,after,none⟩::rest) env σ:=
 J1L (o:=⟨dst,.load t p,ty,pos,after,none⟩) ⟨hd,fun σ' hag=>by
  simp only[aoper,aop,aload]
  exact⟨ti,ht,(cells,off),by simp only[hp,behind,hag i hT,ho],r,hc,trivial,rfl⟩⟩ k hne
end
end Go.Pm
/- Part of the proof: Pm27. -/
namespace Go.Pm
attribute [local irreducible] AR Ok inBlock andThen endQ aoper
theorem AFun.same {X:Cfg} {f:FuncId} {args:List AV} {σ:St} {r:AV} (h:AFun X f args σ fun E σ'=>E=.ret r∧σ'.next=σ.next∧∀j,j<σ.next→σ'.obj j=σ.obj j):AFun X f args σ fun E σ'=>E=.ret r∧σ'=σ:=by
 refine⟨h.1,fun F η w vals hg hf hs hn hv=>(h.2 F η w vals hg hf hs hn hv).mono ?_⟩
 rintro e w' ⟨F',η',σ1,E,st,hf',hs1,he,rfl,hnx,hob⟩
 have hle:∀j o,σ.obj j=some o→σ1.obj j=some o:=fun j o hj=>by rw[hob j (hs.lt j o hj)];exact hj
 refine⟨F',η',σ,_,⟨st.fh,st.et,Nat.le_refl _,st.gr,st.fm,fun i o b ho=>st.nw i o b (hle i o ho),st.nf⟩,hf',⟨hs.lt,fun i o ho=>by rw[←hnx];exact hs1.ob i o (hle i o ho),fun i j oi oj b hi hj=>hs1.ap i j oi oj b (hle i oi hi) (hle j oj hj),fun i o b ho=>hs1.fr i o b (hle i o ho)⟩,?_,rfl,rfl⟩
 rw[hnx]at he;exact he
theorem AFun.low' {X:Cfg} {f:FuncId} {args:List AV} {σ:St} {K K':AEnd→St→Prop} (h:AFun X f args σ K)
  (hk:∀E σ1,K E σ1→σ.next≤σ1.next→∃σ2,K' E σ2∧σ.next≤σ2.next∧σ2.next≤σ1.next∧(∀i o,σ2.obj i=some o→i<σ2.next∧σ1.obj i=some o∧o.low σ2.next)∧(∀r,E=.ret r→Pm.low σ2.next r=true)):AFun X f args σ K':=by
 refine⟨h.1,fun F η w vals hg hf hs hn hv=>(h.2 F η w vals hg hf hs hn hv).mono ?_⟩
 rintro e w' ⟨F',η',σ1,E,st,hf',hs1,he,hK⟩
 obtain⟨σ2,h1,h2,h3,h4,h6⟩:=hk E σ1 hK st.nx
 refine⟨F',η',σ2,E,⟨st.fh,st.et,h2,st.gr,st.fm,fun i o b ho=>st.nw i o b (h4 i o ho).2.1,st.nf⟩,hf',⟨fun i o ho=>(h4 i o ho).1,fun i o ho=>J77 (hs1.ob i o (h4 i o ho).2.1) (h4 i o ho).2.2,fun i j oi oj b hi hj=>hs1.ap i j oi oj b (h4 i oi hi).2.1 (h4 j oj hj).2.1,fun i o b ho=>hs1.fr i o b (h4 i o ho).2.1⟩,?_,h1⟩
 cases E with
 |ret r=>
  cases e with
  |returned v=>exact J1d he (h6 r rfl)
  |panicked c=>exact he.elim
  |outgrown=>exact he.elim
 |pan c=>
  cases e with
  |returned v=>exact he.elim
  |panicked c'=>exact he
  |outgrown=>exact he.elim
mutual
theorem J3L {n:Nat} {π ρ:Nat→Nat} (h:∀j,j<n→ρ j=π j):∀x:AV,low n x=true→ren ρ x=ren π x
 |.d x,_=>rfl
 |.agg cs,hl=>by simp only[low]at hl;simp only[ren,J1z h cs hl]
 |.tup cs,hl=>by simp only[low]at hl;simp only[ren,J1z h cs hl]
 |.ref i off,hl=>by simp only[low,decide_eq_true_eq]at hl;simp only[ren,h i hl]
 |.sl i v lo hi,hl=>by simp only[low,Bool.and_eq_true,decide_eq_true_eq]at hl;simp only[ren,h i hl.1,h v hl.2]
 |.ep i v k off,hl=>by simp only[low,Bool.and_eq_true,decide_eq_true_eq]at hl;simp only[ren,h i hl.1,h v hl.2]
 |.mp i,hl=>by simp only[low,decide_eq_true_eq]at hl;simp only[ren,h i hl]
 |.it i,hl=>by simp only[low,decide_eq_true_eq]at hl;simp only[ren,h i hl]
 |.fn f caps,hl=>by simp only[low]at hl;simp only[ren,J1z h caps hl]
 |.ifc t x,hl=>by simp only[low]at hl;simp only[ren,J3L h x hl]
 |.any,_=>rfl
theorem J1z {n:Nat} {π ρ:Nat→Nat} (h:∀j,j<n→ρ j=π j):∀cs:List AV,lows n cs=true→rens ρ cs=rens π cs
 |[],_=>rfl
 |c::cs,hl=>by simp only[lows,Bool.and_eq_true]at hl;simp only[rens,J3L h c hl.1,J1z h cs hl.2]
end
theorem J9b {n:Nat} {π ρ:Nat→Nat} (h:∀j,j<n→ρ j=π j) {o:AO} (hl:o.low n):renO ρ o=renO π o:=by
 cases o with
 |var cells=>simp only[renO,J1z h cells hl]
 |row v E sz rows=>
  simp only[renO,h v hl.1]
  congr 1
  exact List.map_congr_left fun r hr=>J1z h r (hl.2 r hr)
 |map k es=>
  simp only[renO]
  congr 1
  exact List.map_congr_left fun e he=>by rw[J3L h e.2 (hl e he)]
 |iter o=>rfl
 |box o=>rfl
theorem AFun.ro {X:Cfg} {f:FuncId} {args:List AV} {r:AV} {O:List (Option AO)} (h:AFun X f args (stL O) fun E σ'=>E=.ret r∧∀j,j<O.length→σ'.obj j=(stL O).obj j) (hO:∀(j:Nat) (o:AO),(O[j]?).join=some o→o.low O.length) (ha:lows O.length args=true) (hr:Pm.low O.length r=true) (π:Nat→Nat)
  (hi:∀(i j:Nat) (o o':AO),(O[i]?).join=some o→(O[j]?).join=some o'→π i=π j→i=j) {σ:St} (hlt:∀j,j<O.length→π j<σ.next) (hob:∀(j:Nat) (o:AO),(O[j]?).join=some o→σ.obj (π j)=some (renO π o)):
  AFun X f (rens π args) σ fun E σ'=>E=.ret (ren π r)∧σ'=σ:=by
 have hlen:∀j o,(O[j]?).join=some o→j<O.length:=fun j o hj=>by
  rcases Nat.lt_or_ge j O.length with h|h
  ·exact h
  ·rw[List.getElem?_eq_none h]at hj;cases hj
 have h1:AFun X f args (stL O) fun E σ'=>E=.ret r∧σ'=stL O:=h.low' fun E σ1 ⟨he,hj⟩ hnx=>⟨stL O,⟨he,rfl⟩,Nat.le_refl _,hnx,fun i o ho=>⟨hlen i o ho,by rw[hj i (hlen i o ho)];exact ho,hO i o ho⟩,fun r' hr'=>by rw[he]at hr';cases hr';exact hr⟩
 let κ:Nat→Option Nat:=fun i=>(List.range O.length).find? fun j=>(π j == i)&&((O[j]?).join).isSome
 have hk2:∀i j,κ i=some j→(π j=i∧∃o,(O[j]?).join=some o)∧j<O.length:=by
  intro i j hj
  have a1:=List.find?_some hj
  have a2:=List.mem_range.1 (List.mem_of_find?_eq_some hj)
  simp only[Bool.and_eq_true,beq_iff_eq]at a1
  exact⟨⟨a1.1,Option.isSome_iff_exists.1 a1.2⟩,a2⟩
 have hk1:∀j o,(O[j]?).join=some o→κ (π j)=some j:=by
  intro j o hj
  cases hq:κ (π j)with
  |none=>
   have:=List.find?_eq_none.1 hq j (List.mem_range.2 (hlen j o hj))
   simp[hj]at this
  |some j'=>
   obtain⟨⟨a1,o',a2⟩,_⟩:=hk2 _ _ hq
   rw[hi j' j o' o a2 hj a1]
 refine AFun.same ((AFun.frame h1 π κ hlt hlen (fun j o hj=>⟨hob j o hj,hO j o hj⟩) hk1 (fun i j hj=>⟨(hk2 i j hj).1.1,(hk2 i j hj).2⟩) ha).mono ?_)
 rintro E σ' ⟨E0,σ1,⟨rfl,rfl⟩,rfl,rfl⟩
 have hext:∀j,j<O.length→ext (stL O).next σ.next π j=π j:=fun j hj=>if_pos hj
 refine⟨by simp only[renE];rw[J3L hext r hr],(by show σ.next+((stL O).next-(stL O).next)=σ.next;omega),fun j hj=>?_⟩
 simp only[mrg,hj,if_true]
 cases hq:κ j with
 |none=>rfl
 |some k=>
  obtain⟨⟨a1,o,a2⟩,_⟩:=hk2 j k hq
  have a3:(stL O).obj k=some o:=a2
  simp only[a3,Option.map_some]
  rw[J9b hext (hO k o a2),←a1,hob k o a2]
theorem Wc {X:Cfg} {nt:Nat} {ops:Array Oper} {T:Nat→Prop} {es:List Nat} {n:Nat} {rest:List Oper} {Q:Exit→Env→St→Prop} {env:Env} {σ:St} {dst:Option Tmp} {ty:TypeId} {pos:String} {after:Array Edge} {r:AV} {k:FuncId} {args caps:List AV} {ars:Array Operand} {ts:Array TypeId} {f:Operand}
  (h:∀σ',(∀j,T j→σ'.obj j=σ.obj j)→AFun X k args σ' fun E σ2=>E=.ret r∧σ2=σ') (kk:ADE X nt ops T es Q (n+1) rest (put env dst r) σ) (hf:aev X env f=.fn k caps:=by exact rfl) (ha:ars.toList.map (aev X env)++caps=args:=by exact rfl)
  (hd:dst.all (·<nt)=true:=by exact rfl) (hne:es.contains n=false:=by exact rfl):ADE X nt ops T es Q n (⟨dst,.call ⟨.value f,ars,ts⟩,ty,pos,after,none⟩::rest) env σ:=
 J1L (o:=⟨dst,.call ⟨.value f,ars,ts⟩,ty,pos,after,none⟩) ⟨hd,fun σ' hag=>Yp (h σ' hag) ⟨rfl,rfl⟩ hf ha⟩ kk hne
end Go.Pm
/- Part of the proof: Dm. -/
namespace Go.Pm
structure Slt where
 name:ByteArray
 type:Int
structure Sm where
 kind:Int
 name:ByteArray
 pos:Int
 outs:List ByteArray
 code:List Itm
 args:List (List Itm)
structure Cls where
 name:ByteArray
 ins:List Slt
 outs:List Slt
 locs:List ByteArray
 mems:List Int
 insts:List Int
 body:List Sm
def eNum (n:Int):List D:=[.s (.int .i64 n)]
def eSlt (x:Slt):List D:=[.s (.string x.name),.s (.int .i64 x.type)]
def eSm (x:Sm):List D:=[.s (.int .i64 x.kind),.s (.string x.name),.s (.int .i64 x.pos),.im (x.outs.map eStr),.im (x.code.map eItm),.im (x.args.map eItms)]
def eCls (x:Cls):List D:=[.s (.string x.name),.im (x.ins.map eSlt),.im (x.outs.map eSlt),.im (x.locs.map eStr),.im (x.mems.map eNum),.im (x.insts.map eNum),.im (x.body.map eSm)]
def wNum0 (_:Int):Nat:=0
theorem J5K:∀l:List Int,(l.map wNum0).sum=0
 |[]=>rfl
 |x::l=>by simp only[List.map_cons,List.sum_cons,J5K l,wNum0]
def wSlt (x:Slt):Nat:=x.name.size
def wSm (x:Sm):Nat:=x.name.size+wL wStr x.outs+wL wItm x.code+wL (wL wItm) x.args
def wCls (x:Cls):Nat:=x.name.size+wL wSlt x.ins+wL wSlt x.outs+wL wStr x.locs+wL wNum0 x.mems+wL wNum0 x.insts+wL wSm x.body
def dNums (l:List Int):Prop:=l.length≤mx
def dSlt (x:Slt):Prop:=x.name.size≤mx
def dSm (x:Sm):Prop:=x.name.size≤mx∧dL dStr x.outs∧dL dItm x.code∧dL (dL dItm) x.args
def dCls (x:Cls):Prop:=x.name.size≤mx∧dL dSlt x.ins∧dL dSlt x.outs∧dL dStr x.locs∧dNums x.mems∧dNums x.insts∧dL dSm x.body
end Go.Pm
/- Part of the proof: Gr1. -/
namespace Go.Pm
inductive Br where
 |nd (s:Sm) (yes no:List Br)
mutual
def eBr:Br→List D
 |.nd s yes no=>[.s (.int .i64 s.kind),.s (.string s.name),.s (.int .i64 s.pos),.im (s.outs.map eStr),.im (s.code.map eItm),.im (s.args.map eItms),.im (eBrs yes),.im (eBrs no)]
def eBrs:List Br→List (List D)
 |[]=>[]
 |b::l=>[.ip (eBr b) 0]::eBrs l
end
def eBrP (b:Br):List D:=[.ip (eBr b) 0]
theorem J1s:∀l:List Br,eBrs l=l.map eBrP
 |[]=>rfl
 |b::l=>by simp only[eBrs,List.map_cons,J1s l];rfl
structure Fr where
 s:Sm
 els:Bool
 yes:List Br
 no:List Br
def putF (b:Br):List Fr→List Br→List Fr×List Br
 |[],R=>([],R++[b])
 |f::st,R=>((if f.els then {f with no:=f.no++[b]}else {f with yes:=f.yes++[b]})::st,R)
def growGo:List Sm→List Fr→List Br→Option (List Br)
 |[],[],R=>some R
 |[],_::_,_=>none
 |s::l,st,R=>
  if s.kind=4 then growGo l (⟨s,false,[],[]⟩::st) R
  else if s.kind=5 then
   match st with
   |[]=>none
   |f::st'=>if f.els then none else growGo l ({f with els:=true}::st') R
  else if s.kind=6 then
   match st with
   |[]=>none
   |f::st'=>if f.els then growGo l (putF (.nd f.s f.yes f.no) st' R).1 (putF (.nd f.s f.yes f.no) st' R).2 else none
  else growGo l (putF (.nd s [] []) st R).1 (putF (.nd s [] []) st R).2
def growI (l:List Sm):Option (List Br):=growGo l [] []
structure Gn where
 s:Sm
 y:Nat
 hy:Nat
 n:Nat
 hn:Nat
 yes:List Nat
 no:List Nat
mutual
def trB (nd:Nat→Option Gn) (op:Nat→Bool):Br→Nat→Prop
 |.nd s ys ns,a=>∃g,nd a=some g∧op a=false∧g.s=s∧trL nd op ys g.yes∧trL nd op ns g.no
def trL (nd:Nat→Option Gn) (op:Nat→Bool):List Br→List Nat→Prop
 |[],[]=>True
 |b::bs,a::l=>trB nd op b a∧trL nd op bs l
 |_,_=>False
end
mutual
theorem J9d {nd nd':Nat→Option Gn} {op op':Nat→Bool} (h:∀b g,nd b=some g→op b=false→nd' b=some g∧op' b=false):∀(t:Br) (a:Nat),trB nd op t a→trB nd' op' t a
 |.nd s ys ns,a,ht=>by
  simp only[trB]at ht ⊢
  obtain⟨g,h1,h2,h3,h4,h5⟩:=ht
  obtain⟨h6,h7⟩:=h a g h1 h2
  exact⟨g,h6,h7,h3,JR h ys g.yes h4,JR h ns g.no h5⟩
theorem JR {nd nd':Nat→Option Gn} {op op':Nat→Bool} (h:∀b g,nd b=some g→op b=false→nd' b=some g∧op' b=false):∀(ts:List Br) (l:List Nat),trL nd op ts l→trL nd' op' ts l
 |[],[],_=>by simp[trL]
 |b::bs,a::l,ht=>by
  simp only[trL]at ht ⊢
  exact⟨J9d h b a ht.1,JR h bs l ht.2⟩
 |[],_::_,ht=>by simp[trL]at ht
 |_::_,[],ht=>by simp[trL]at ht
end
theorem J19 {nd:Nat→Option Gn} {op:Nat→Bool} {t:Br} {a:Nat} (ht:trB nd op t a):∀(ts:List Br) (l:List Nat),trL nd op ts l→trL nd op (ts++[t]) (l++[a])
 |[],[],_=>by simp[trL,ht]
 |b::bs,c::l,h=>by
  simp only[trL]at h
  simp only[List.cons_append,trL]
  exact⟨h.1,J19 ht bs l h.2⟩
 |[],_::_,h=>by simp[trL]at h
 |_::_,[],h=>by simp[trL]at h
theorem J3R {nd:Nat→Option Gn} {op:Nat→Bool}:∀(ts:List Br) (l:List Nat),trL nd op ts l→ts.length=l.length
 |[],[],_=>rfl
 |b::bs,c::l,h=>by
  simp only[trL]at h
  simp[J3R bs l h.2]
 |[],_::_,h=>by simp[trL]at h
 |_::_,[],h=>by simp[trL]at h
structure On where
 o:Nat
 a:Nat
 els:Bool
def frB (nd:Nat→Option Gn) (op:Nat→Bool) (f:Fr) (x:On) (yes no:List Nat):Prop:=∃g,nd x.a=some g∧op x.a=true∧g.s=f.s∧x.els=f.els∧g.yes=yes∧g.no=no
def frP (nd:Nat→Option Gn) (op:Nat→Bool):List Fr→List On→List Br→List Nat→Nat→Prop
 |[],[],R,cs,p=>∃l,cs=l++[p]∧trL nd op R l
 |f::fs,x::st,R,cs,p=>(∃l m,frB nd op f x (if x.els then l else l++[p]) (if x.els then m++[p]else m)∧trL nd op f.yes l∧trL nd op f.no m)∧frP nd op fs st R cs x.a
 |_,_,_,_,_=>False
def frS (nd:Nat→Option Gn) (op:Nat→Bool):List Fr→List On→List Br→List Nat→Prop
 |[],[],R,cs=>trL nd op R cs
 |f::fs,x::st,R,cs=>(∃l m,frB nd op f x l m∧trL nd op f.yes l∧trL nd op f.no m)∧frP nd op fs st R cs x.a
 |_,_,_,_=>False
end Go.Pm
/- Part of the proof: Pm28. -/
namespace Go.Pm
attribute [local irreducible] AR Ok inBlock andThen endQ aoper
theorem AFun.wf {X:Cfg} {f:FuncId} {args:List AV} {σ:St} {K:AEnd→St→Prop} (hc:CallOk X.P f) (h:(∀i o,σ.obj i=some o→i<σ.next)→AFun X f args σ K):AFun X f args σ K:=
 ⟨hc,fun F η w vals hg hf hs=>(h hs.lt).2 F η w vals hg hf hs⟩
mutual
theorem J5W:∀x:AV,ren (fun j=>j) x=x
 |.d _=>rfl
 |.agg cs=>by simp only[ren,J0P cs]
 |.tup cs=>by simp only[ren,J0P cs]
 |.ref _ _=>rfl
 |.sl _ _ _ _=>rfl
 |.ep _ _ _ _=>rfl
 |.mp _=>rfl
 |.it _=>rfl
 |.fn _ cs=>by simp only[ren,J0P cs]
 |.ifc _ x=>by simp only[ren,J5W x]
 |.any=>rfl
theorem J0P:∀cs:List AV,rens (fun j=>j) cs=cs
 |[]=>rfl
 |c::cs=>by simp only[rens,J5W c,J0P cs]
end
theorem J96 (o:AO):renO (fun j=>j) o=o:=by
 cases o with
 |var cells=>simp only[renO,J0P]
 |row v E sz rows=>
  simp only[renO]
  congr 1
  rw[show rows.map (rens fun j=>j)=rows.map id from List.map_congr_left fun r _=>J0P r]
  exact List.map_id _
 |map k es=>
  simp only[renO]
  congr 1
  rw[show(es.map fun e=>(e.1,ren (fun j=>j) e.2))=es.map id from List.map_congr_left fun e _=>by rw[J5W];rfl]
  exact List.map_id _
 |iter o=>rfl
 |box o=>rfl
section
variable {X:Cfg} {nt:Nat} {ops:Array Oper} {T:Nat→Prop} {es:List Nat} {n:Nat} {rest:List Oper} {Q:Exit→Env→St→Prop} {env:Env} {σ σ':St} {dst:Option Tmp} {op:Op} {ty:TypeId} {pos:String} {after:Array Edge} {r:AV}
theorem Wq (h:∀σ',(∀j,T j→σ'.obj j=σ.obj j)→aoper X op env σ' (fun _ _ _=>False) fun v σ2=>σ2=σ'∧v=r) (k:ADE X nt ops T es Q (n+1) rest (put env dst r) σ)
  (hd:dst.all (·<nt)=true:=by exact rfl) (hne:es.contains n=false:=by exact rfl):ADE X nt ops T es Q n (⟨dst,op,ty,pos,after,none⟩::rest) env σ:=
 J1L (o:=⟨dst,op,ty,pos,after,none⟩) ⟨hd,h⟩ k hne
end
def OwnL (n:Nat):List AV→List AV→Prop
 |[],[]=>True
 |x::xs,y::ys=>Own n x y∧OwnL n xs ys
 |_,_=>False
theorem OwnL.get {n:Nat}:∀{cs cs':List AV},OwnL n cs cs'→cs'.length=cs.length∧∀j (h1:j<cs.length) (h2:j<cs'.length),Own n cs[j] cs'[j]
 |[],[],_=>⟨rfl,fun j h=>by simp at h⟩
 |x::xs,y::ys,h=>by
  obtain⟨h1,h2⟩:=OwnL.get h.2
  refine⟨by simp[h1],fun j a b=>?_⟩
  cases j with
  |zero=>exact h.1
  |succ j=>exact h2 j (by simpa using a) (by simpa using b)
 |[],_::_,h=>h.elim
 |_::_,[],h=>h.elim
theorem J1q {X:Cfg} {nt:Nat} {env:Env} {σ:St} (i E sz:Nat) {cs cs':List AV} (hp:Nat.blt 0 sz=true) (h:σ.obj i=some (.var cs)) (hi:(i == σ.next)=false) (hc:OwnL σ.next cs cs'):Turn X nt env σ env ((σ.alloc (.row σ.next E sz [])).set i (.var cs')):=by
 have hi:i≠σ.next:=by simpa using hi
 refine J6G E sz (Je hp) rfl (by rw[St.obj_set,if_neg (Ne.symm hi),St.obj_alloc,if_pos rfl]) (fun j o' hj ho=>?_) fun t=>.refl _
 rw[St.obj_set]at ho
 by_cases hji:j=i
 ·subst hji
  rw[if_pos rfl]at ho
  cases ho
  exact⟨_,h,hc.get⟩
 ·rw[if_neg hji,St.obj_alloc,if_neg hj]at ho
  refine⟨o',ho,?_⟩
  cases o' with
  |var cs=>exact⟨rfl,fun j h1 h2=>.refl _⟩
  |row=>rfl
  |map=>rfl
  |iter=>rfl
  |box=>rfl
theorem J8O {X:Cfg} {nt:Nat} {env:Env} {σ:St} (t E sz:Nat) (hp:Nat.blt 0 sz=true) (h:env t=.d (.s (.slice none 0 0)):=by exact rfl):Turn X nt env σ (put env (some t) (.sl σ.next σ.next 0 0)) (σ.alloc (.row σ.next E sz [])):=by
 refine J6G E sz (Je hp) rfl (by rw[St.obj_alloc,if_pos rfl]) (fun j o' hj ho=>?_) fun t'=>?_
 ·rw[St.obj_alloc,if_neg hj]at ho
  refine⟨o',ho,?_⟩
  cases o' with
  |var cs=>exact⟨rfl,fun j h1 h2=>.refl _⟩
  |row=>rfl
  |map=>rfl
  |iter=>rfl
  |box=>rfl
 ·rw[J4c]
  by_cases ht:t'=t
  ·subst ht;rw[if_pos rfl,h];exact .nil
  ·rw[if_neg ht];exact .refl _
section
variable {X:Cfg} {nt:Nat} {Q:Exit→Env→St→Prop} {K:AV→St→Prop} {env:Env} {σ:St}
theorem Yl2 {α:Type} {e:α→List D} {J:List α} (m:List α) {xrows:List (List D)} {as:Array Operand} {ts:Array TypeId} {s x:Operand} {t tx el i v n hi bb:Nat} {ti te tix:TI} (hle:hi≤J.length) (h:K (.sl i n 0 (hi+m.length)) (bumpSet σ i (.row n el te.size (im2 e (J.take hi++m)))))
  (h1:as.toList=[s,x]:=by exact rfl) (h2:ts.toList=[t,tx]:=by exact rfl) (hs:aev X env s=.sl i v 0 hi:=by exact rfl) (ht:X.T t=some ti:=by exact rfl) (hk:ti.kind=.slice el:=by exact rfl) (hte:X.T el=some te:=by exact rfl) (hp:Nat.blt 0 te.size=true:=by exact rfl) (hpb:Nat.blt 0 te.bytes=true:=by exact rfl)
  (htx:X.T tx=some tix:=by exact rfl) (hkx:tix.kind=.slice el:=by exact rfl) (ho:σ.obj i=some (.row v el te.size (im2 e J)):=by exact rfl) (hx:aev X env x=.d (.im xrows):=by exact rfl) (hxr:xrows=m.map e:=by exact rfl) (hsz:∀y:α,(e y).length=te.size:=by exact fun _=>rfl) (hn:natF σ.next=some n:=by exact rfl)
  (hbb:te.bytes=bb:=by exact rfl) (hb:(hi+m.length)*bb≤140737488355328:=by first|omega|(simp only[List.length_cons,List.length_nil,List.length_append];omega)):
  aoper X (.call ⟨.builtin .append,as,ts⟩) env σ Q K:=by
 subst hbb
 have hn:=J0S hn
 subst hn
 subst hxr
 simp only[aoper,h1,h2,abuiltin,aappend]
 refine⟨ti,ht,el,te,hk,hte,Je hp,Je hpb,tix,htx,im2 e m,by rw[hkx,hx];rfl,?_,?_⟩
 ·intro r hr
  simp only[im2,List.map_map,List.mem_map,Function.comp]at hr
  obtain⟨y,_,rfl⟩:=hr
  simp[hsz]
 ·simp only[hs]
  refine⟨trivial,im2 e J,ho,by rw[JT];exact hle,by rw[JT];exact hb,?_⟩
  have e1:(im2 e J).take hi++im2 e m=im2 e (J.take hi++m):=by simp[im2,List.map_take]
  rw[e1,JT]
  exact h
theorem app3 {α:Type} {e:α→List D} {l:List α} {y:α} {i h k v t tx el sz:Nat} {ti te tix:TI} {s x:Operand} {as:Array Operand} {ts:Array TypeId} (ho:σ.obj i=some (.row h el sz (im2 e l))) (hk:σ.obj k=some (.row v el sz [(e y).map .d])) (hf:∀z,(e z).length=sz)
  (hK:K (.sl i σ.next 0 (l.length+1)) (bumpSet σ i (.row σ.next el sz (im2 e (l++[y])))))
  (h1:as.toList=[s,x]:=by exact rfl) (h2:ts.toList=[t,tx]:=by exact rfl) (hs:aev X env s=.sl i h 0 l.length:=by exact rfl) (hx:aev X env x=.sl k v 0 1:=by exact rfl) (ht:X.T t=some ti:=by exact rfl) (hkd:ti.kind=.slice el:=by exact rfl) (hte:X.T el=some te:=by exact rfl) (hsz:te.size=sz:=by exact rfl) (hp:Nat.blt 0 sz=true:=by exact rfl)
  (hpb:Nat.blt 0 te.bytes=true:=by exact rfl) (htx:X.T tx=some tix:=by exact rfl) (hkx:tix.kind=.slice el:=by exact rfl) (hbb:Nat.ble te.bytes 1024=true:=by exact rfl) (hb:l.length≤2097152:=by omega):aoper X (.call ⟨.builtin .append,as,ts⟩) env σ Q K:=by
 subst hsz
 have hb:(l.length+1)*te.bytes≤140737488355328:=Nat.le_trans (Nat.mul_le_mul (show l.length+1≤2097153 by omega) (Nat.le_of_ble_eq_true hbb)) (by decide)
 simp only[aoper,h1,h2,abuiltin,aappend]
 refine⟨ti,ht,el,te,hkd,hte,Je hp,Je hpb,tix,htx,[(e y).map .d],?_,?_,?_⟩
 ·rw[hkx,hx];simp[srcOf,rowsOf,hk]
 ·intro r hr
  simp only[List.mem_singleton]at hr
  subst hr;simp[hf y]
 ·simp only[hs,List.length_singleton]
  refine⟨trivial,_,ho,by rw[JT];exact Nat.le_refl _,hb,?_⟩
  have e1:(im2 e l).take l.length++[(e y).map .d]=im2 e (l++[y]):=by rw[List.take_of_length_le (by rw[JT];exact Nat.le_refl _)];simp[im2]
  rw[e1]
  exact hK
end
end Go.Pm
/- Part of the proof: Pm29. -/
namespace Go.Pm
attribute [local irreducible] AR Ok inBlock andThen endQ aoper
theorem J1H {X:Cfg} {nt:Nat} {Q:Exit→Env→St→Prop} {env:Env} {σ:St} {c1 c2:Code} (E:Env) (S:St) (h1:Ok X nt c1 (fun e env σ=>e=.normal∧Turn X nt env σ E S) env σ) (h2:Ok X nt c2 Q E S):Ok X nt (.seq c1 c2) Q env σ:=by
 refine J5 (J89 h1 ?_)
 rintro e env' σ' ⟨rfl,ht⟩
 exact J3 (J0a ht h2)
def subc:List Bool→Code→Code
 |[],c=>c
 |d::p,.seq a b=>subc p (if d then b else a)
 |d::p,.cond _ a b=>subc p (if d then b else a)
 |_::p,.block _ c=>subc p c
 |_::p,.loop c=>subc p c
 |_,c=>c
def roadTo (id:Nat):Code→Option (List Bool)
 |.seq a b=>((roadTo id a).map (false::·)).or ((roadTo id b).map (true::·))
 |.cond _ a b=>((roadTo id a).map (false::·)).or ((roadTo id b).map (true::·))
 |.block i c=>if i=id then some [false]else(roadTo id c).map (false::·)
 |.loop c=>(roadTo id c).map (false::·)
 |_=>none
end Go.Pm
/- Part of the proof: Pm30. -/
namespace Go.Pm
attribute [local irreducible] AR Ok inBlock andThen endQ aoper
theorem PFun.lend {X:Cfg} {f:FuncId} {args args':List AV} {v:Value} (h:PFun X f args' (.d (.s v))) (σ:St) (hl:args'.length=args.length) (ha:∀j (h1:j<args.length) (h2:j<args'.length),AFz σ args[j] args'[j]):
  AFun X f args σ fun E σ'=>E=.ret (.d (.s v))∧σ'=σ:=by
 obtain⟨_,_,hc,h⟩:=h
 refine⟨hc,fun F η w vals hg hf hs hn hv=>?_⟩
 have hle:=FH.le_all hs
 have hfa:FRel (F.all η σ w) w:=by
  intro b o hb
  unfold FH.all at hb
  split at hb
  ·exact hb
  ·exact hf b o hb
 refine(h (F.all η σ w) η w vals (hg.mono hle) hfa (SRel.nil _ η w) (by rw[hn,hl]) fun j hj=>J2C hs (ha j (by omega) hj) (hv j (by omega))).mono ?_
 rintro e w' ⟨F',η',σ',E,h1,h2,h3,h4,rfl⟩
 have hfm:∀b,b<w.heap.size→w'.heap[b]? = w.heap[b]?:=fun b hb=>h1.fm b hb fun i o ho=>by simp[St.nil]at ho
 refine⟨F,η,σ,.ret (.d (.s v)),⟨F.le_refl,Et.agree_refl _ _,Nat.le_refl _,h1.gr,fun b hb _=>hfm b hb,fun i o b ho hb _=>⟨i,o,ho,hb⟩,fun b o hb _=>.inl hb⟩,?_,⟨hs.lt,fun i o ho=>?_,hs.ap,hs.fr⟩,?_,rfl,rfl⟩
 ·intro b o hb
  have h0:=hf b o hb
  have hlt:b<w.heap.size:=by
   by_cases hh:b<w.heap.size
   ·exact hh
   ·rw[Array.getElem?_eq_none (by omega)]at h0;cases h0
  rw[hfm b hlt];exact h0
 ·exact(hs.ob i o ho).mono (hs.lt i o ho) F.le_refl (Et.agree_refl _ _) (Nat.le_refl _) fun b hb=>hfm b ((hs.ob i o ho).own_lt hb)
 ·cases e with
  |returned u=>
   have h5:VRel F' η' σ'.next (.d (.s v)) u:=h4
   have:=h5.s_inv
   subst this
   exact .d (.s _)
  |panicked c=>exact h4.elim
  |outgrown=>exact h4.elim
def AFzL (σ:St):List AV→List AV→Prop
 |[],[]=>True
 |x::l,y::m=>AFz σ x y∧AFzL σ l m
 |_,_=>False
theorem AFzL.get {σ:St}:∀{l m:List AV},AFzL σ l m→m.length=l.length∧∀j (h1:j<l.length) (h2:j<m.length),AFz σ l[j] m[j]
 |[],[],_=>⟨rfl,fun j h1=>by simp at h1⟩
 |x::l,y::m,h=>by
  obtain⟨h1,h2⟩:=h.2.get
  refine⟨by simp[h1],fun j h3 h4=>?_⟩
  cases j with
  |zero=>exact h.1
  |succ j=>exact h2 j (by simpa using h3) (by simpa using h4)
 |[],_::_,h=>h.elim
 |_::_,[],h=>h.elim
theorem PFun.lendL {X:Cfg} {f:FuncId} {args args':List AV} {v:Value} (h:PFun X f args' (.d (.s v))) {σ:St} (ha:AFzL σ args args'):AFun X f args σ fun E σ'=>E=.ret (.d (.s v))∧σ'=σ:=
 h.lend σ ha.get.1 ha.get.2
theorem Jah {σ:St} (l:List D):AFz σ (.agg (l.map .d)) (.agg (l.map .d)):=by
 refine .agg rfl fun j h1 h2=>?_
 simp only[List.getElem_map]
 exact .data (.d _)
theorem Jbp {σ:St} (x:D):AFz σ (.d x) (.d x):=.data (.d x)
theorem J03 {α:Type} {l:List α} {k:Nat} {x:α} (h:l[k]? = some x):l.take (k+1)=l.take k++[x]:=by rw[List.take_add_one,h];rfl
section
variable {X:Cfg} {nt:Nat} {ops:Array Oper} {rest:List Oper} {Q:Exit→Env→St→Prop} {env:Env} {σ:St} {dst:Option Tmp} {op:Op} {ty:TypeId} {pos:String} {after:Array Edge} {j d:Nat} {b want:Bool} {r:AV} {K:AV→St→Prop}
theorem Ua (k:AD X nt ops Q σ rest (put env dst r)) (hj:(ops[j]?).bind (·.dst)=some d:=by exact rfl) (hn:Nat.blt d nt=true:=by exact rfl) (hb:env d=.d (.s (.bool b)):=by exact rfl) (hd:dst.all (·<nt)=true:=by exact rfl) (hw:b=want:=by with_reducible first|exact rfl|assumption) (h:astep X env σ op=some (r,σ):=by exact rfl):
  AD X nt ops Q σ (⟨dst,op,ty,pos,after,some (j,want)⟩::rest) env:=J71 hj hn hb hd hw (J2I h ⟨rfl,rfl⟩) k
theorem Ub (k:AD X nt ops Q σ rest (put env dst (.d (.s undef)))) (hj:(ops[j]?).bind (·.dst)=some d:=by exact rfl) (hn:Nat.blt d nt=true:=by exact rfl) (hb:env d=.d (.s (.bool b)):=by exact rfl) (hd:dst.all (·<nt)=true:=by exact rfl) (hw:b=false:=by with_reducible first|exact rfl|assumption):
  AD X nt ops Q σ (⟨dst,op,ty,pos,after,some (j,true)⟩::rest) env:=J8i hj hn hb hd hw k
theorem Ue (h:aoper X op env σ (fun _ _ _=>False) fun v σ'=>σ'=σ∧v=r) (k:AD X nt ops Q σ rest (put env dst r)) (hj:(ops[j]?).bind (·.dst)=some d:=by exact rfl) (hn:Nat.blt d nt=true:=by exact rfl) (hb:env d=.d (.s (.bool b)):=by exact rfl) (hd:dst.all (·<nt)=true:=by exact rfl) (hw:b=want:=by with_reducible first|exact rfl|assumption):
  AD X nt ops Q σ (⟨dst,op,ty,pos,after,some (j,want)⟩::rest) env:=J71 hj hn hb hd hw h k
theorem Ysl {α:Type} {e:α→List D} {l:List α} {t el:TypeId} {x y z:Operand} {m n:Int} {ti te:TI} (a b:Nat) (r:List α) (hr:(l.drop a).take (b-a)=r) (hK:K (.d (.im (r.map e))) σ)
  (hx:aev X env x=.d (.im (l.map e)):=by exact rfl) (hy:aev X env y=vi m:=by exact rfl) (hz:aev X env z=vi n:=by exact rfl) (ht:X.T t=some ti:=by exact rfl) (hk:ti.kind=.slice el:=by exact rfl) (hte:X.T el=some te:=by exact rfl) (hsz:∀u:α,(e u).length=te.size:=by exact fun _=>rfl) (ha:m=(a:Int):=by omega) (hb:n=(b:Int):=by omega) (hab:a≤b:=by omega) (hbl:b≤l.length:=by omega):aoper X (.slice t x (some y) (some z) none) env σ Q K:=by
 simp only[aoper,aop,aslice,Option.map_some,optInt]
 rw[hx,hy,hz]
 refine⟨ti,ht,some m,rfl,some n,rfl,?_⟩
 rw[hk]
 subst ha hb hr
 refine⟨by simp,by simpa using hab,by simpa using hbl,⟨te,hte,fun r hr=>?_⟩,?_⟩
 ·obtain⟨u,_,rfl⟩:=List.mem_map.1 hr
  exact hsz u
 ·rw[List.map_take,List.map_drop]at hK
  simpa using hK
theorem Ycv {s t:TypeId} {x:Operand} {ts td:TI} {k k':IntKind} {n:Int} (hk:K (.d (.s (.int k (k.wrap n)))) σ) (hx:aev X env x=.d (.s (.int k' n)):=by exact rfl) (hs:X.T s=some ts:=by exact rfl) (ht:X.T t=some td:=by exact rfl) (hd:td.kind=.int k:=by exact rfl):aoper X (.convert s t x) env σ Q K:=by
 simp only[aoper,aop,aconvert]
 refine⟨ts,hs,td,ht,?_⟩
 rw[hd,hx]
 exact hk
end
end Go.Pm
/- Part of the proof: Pm31. -/
namespace Go.Pm
attribute [local irreducible] AR Ok inBlock andThen endQ aoper
section
variable {X:Cfg} {nt:Nat} {Q:Exit→Env→St→Prop} {env:Env} {σ:St} {K:AV→St→Prop}
theorem Yej {α:Type} {e:α→List D} {l:List α} {y:α} {n:Int} {ti te:TI} {el:TypeId} {t:TypeId} {x i:Operand} (k:Nat) (hn:n=(k:Int)) (hl:l[k]? = some y) (hK:K (.d (.ip (e y) 0)) σ) (hx:aev X env x=.d (.im (l.map e)):=by exact rfl) (hi:aev X env i=vi n:=by exact rfl)
  (ht:X.T t=some ti:=by exact rfl) (hk:ti.kind=.slice el:=by exact rfl) (hte:X.T el=some te:=by exact rfl) (hsz:(e y).length=te.size:=by exact rfl):aoper X (.indexAddr t x i) env σ Q K:=J7M hx (hi.trans (congrArg vi hn)) hl ht hk hte hsz hK
end
end Go.Pm
/- Part of the proof: Pm32. -/
namespace Go.Pm
section
variable {X:Cfg} {nt:Nat} {ops:Array Oper} {rest:List Oper} {Q:Exit→Env→St→Prop} {env:Env} {σ:St} {dst:Option Tmp} {op:Op} {ty:TypeId} {pos:String} {after:Array Edge}
theorem Jaq (hd:dst.all (·<nt)=true) (h:∀(F:FH) (η:Et) (a:Act) (w:World),GRel X F→Rel F η nt env σ a w→OpOk X F η σ w ((execOp a.eval ⟨dst,op,ty,pos,after,none⟩).run X.P w) (fun v σ'=>AR X nt ops Q rest (put env dst v) σ')):
  AR X nt ops Q (⟨dst,op,ty,pos,after,none⟩::rest) env σ:=by
 intro F η a w hg hr
 unfold wpList
 rw[if_pos (by simp[Region.wanted])]
 refine .inl ?_
 obtain⟨nx,v,w',F',η',σ',x,hrun,hnx,hs,hg',hf',hr',hv,hk⟩:=h F η a w hg hr
 unfold Oper.wp
 rw[hrun]
 have hr2:=hr.step hs hf' hr'
 rcases hnx with rfl|⟨rfl,rfl⟩
 ·exact J0O (fun _ _ _ hp=>hp.of_step hs) rest _ _ (hk F' η' (a.put dst v) w' hg' (hr2.put hd hv))
 ·exact J0O (fun _ _ _ hp=>hp.of_step hs) rest _ _ (hk F' η' (a.put dst undef) w' hg' (hr2.put hd hv))
end
end Go.Pm
/- Part of the proof: Pm33. -/
namespace Go.Pm
section
variable {X:Cfg} {nt:Nat} {ops:Array Oper} {rest:List Oper} {Q:Exit→Env→St→Prop} {env:Env} {σ:St} {dst:Option Tmp} {op:Op} {ty:TypeId} {pos:String} {after:Array Edge}
end
def St.drop (σ:St) (r:Nat):St:=⟨fun j=>if j=r then none else σ.obj j,σ.next⟩
theorem St.obj_drop (σ:St) (r j:Nat):(σ.drop r).obj j=if j=r then none else σ.obj j:=rfl
end Go.Pm
/- Part of the proof: Pm34. -/
namespace Go.Pm
attribute [local irreducible] AR Ok inBlock andThen endQ aoper
section
variable {X:Cfg} {nt:Nat} {Q:Exit→Env→St→Prop} {env:Env} {σ:St} {K:AV→St→Prop}
end
end Go.Pm
/- Part of the proof: Pm35. -/
namespace Go.Pm
def bdO (u:TypeId) (h:Nat) (t:ByteArray):List (Option AO):=[some (.var [.ref 0 0,.sl 1 h 0 t.size]),some (.row h u 1 (byteRows t))]
def bdUsed (u:TypeId) (σ:St) (i r:Nat) (s:ByteArray):St:=(bumpSet σ r (.row σ.next u 1 (byteRows s))).set i (.var [.ref i 0,.sl r σ.next 0 s.size])
def bdPi (i r h:Nat) (j:Nat):Nat:=if j=0 then i else if j=1 then r else h
section
variable {X:Cfg} {nt:Nat} {Q:Exit→Env→St→Prop} {env:Env} {σ:St} {K:AV→St→Prop}
attribute [local irreducible] AR Ok inBlock andThen endQ aoper
theorem Ul {t ty:TypeId} {x y:Operand} {a b:ByteArray} (hK:K (vs (a++b)) σ) (hx:aev X env x=vs a:=by exact rfl) (hy:aev X env y=vs b:=by exact rfl) (hb:(a++b).size≤9223372036854775807:=by first|omega|(simp only[ByteArray.size_append];omega)):aoper X (.binOp .add t x y ty) env σ Q K:=by
 rw[ByteArray.size_append]at hb
 exact J6h hx hy (by simp only[abin,if_pos hb]) hK
end
end Go.Pm
/- Part of the proof: Pm36. -/
namespace Go.Pm
section
variable {X:Cfg} {nt:Nat} {ops:Array Oper} {rest:List Oper} {Q:Exit→Env→St→Prop} {env:Env} {σ:St} {dst:Option Tmp} {ty:TypeId} {pos:String} {after:Array Edge}
end
end Go.Pm
/- Part of the proof: Pm37. -/
namespace Go.Pm
section
variable {X:Cfg} {nt:Nat} {ops:Array Oper} {rest:List Oper} {Q:Exit→Env→St→Prop} {env:Env} {σ:St} {dst:Option Tmp} {ty:TypeId} {pos:String} {after:Array Edge}
theorem Up {s t el i v n:Nat} {x:Operand} {w:ByteArray} {ts te td:TI} (hn:n=w.size) (ho:σ.obj i=some (.row v el 1 (byteRows w))) (h:AR X nt ops Q rest (put env dst (vs w)) σ)
  (hd:dst.all (·<nt)=true:=by exact rfl) (hx:aev X env x=.sl i v 0 n:=by exact rfl) (hs:X.T s=some ts:=by exact rfl) (hks:ts.kind=.slice el:=by exact rfl) (hte:X.T el=some te:=by exact rfl) (hke:te.kind=.int .u8:=by exact rfl) (ht:X.T t=some td:=by exact rfl) (hkt:td.kind=.string:=by exact rfl):
  AR X nt ops Q (⟨dst,.convert s t x,ty,pos,after,none⟩::rest) env σ:=by
 subst hn
 refine Jaq hd fun F η a w0 hg hr0=>?_
 have hf:=hr0.fr
 have hst:=hr0.st
 obtain⟨d1,i1,z1,hu1,hd1,_⟩:=X.ok s ts hs
 obtain⟨d2,i2,z2,hu2,hd2,_⟩:=X.ok t td ht
 obtain⟨d3,i3,z3,hu3,hd3,_⟩:=X.ok el te hte
 rw[hks]at hd1
 rw[hkt]at hd2
 rw[hke]at hd3
 have e1:=JO hd1
 have e2:=JW hd2
 have e3:=J1Y hd3
 subst e1 e2 e3
 have hev:=J0V hg hr0 x
 rw[hx]at hev
 have key:(convert s t (a.eval x)).run X.P w0=.ok (.string w) w0:=by
  generalize a.eval x=vx at hev
  generalize hzz:w.size=z at hev
  have hor:=hst.ob i _ ho
  cases hev with
  |@sl _ _ _ _ g cap sz off q1 q2 hh hle hc' hoff=>
   cases hor with
   |row xs b1 b2 b3 b4 b5 b6 b7=>
    subst hzz
    have hblk:(η.hdr v).blk=some g:=by rw[hh]
    obtain⟨cur,hg1,hn2,hcap1,hsz1,htk⟩:=J06 b4 hblk
    have hcap:(η.hdr v).cap=cap:=by rw[hh]
    rw[hcap]at hn2 hcap1 hsz1
    rw[JF,Nat.mul_one]at htk
    rw[JF]at hn2
    rw[Nat.mul_one]at hsz1
    have hlen:w.data.toList.length=w.size:=by simp
    by_cases h0:w.size=0
    ·have hw:w=⟨#[]⟩:=by
      apply ByteArray.ext
      apply Array.ext
      ·simpa using h0
      ·intro j h1 h2
       have:w.data.size=w.size:=rfl
       omega
     have key:=run_convert_bytes_back w0 s t el ⟨g,off,none⟩ cap [] hu1 hu3 hu2 (fun j hj=>absurd hj (by simp))
     rw[hw]
     exact key
    ·have hoff:=hoff (by omega)
     rw[Nat.zero_mul]at hoff
     subst hoff
     have key:=run_convert_bytes_back w0 s t el ⟨g,0,none⟩ cap w.data.toList hu1 hu3 hu2 (fun j hj=>by
      have hjb:j<(byteRows w).length:=by rw[JF];simpa using hj
      have hrow:=b7 j hjb 0 (by simp[byteRows])
      have hcur:cur[j]? = xs[j]?:=by
       rw[←htk,List.getElem?_take,if_pos (by rw[JF]at hjb;exact hjb),Array.getElem?_toList]
      have hxl:xs.length=w.size:=by
       have:=b4.1
       rw[JF,Nat.mul_one]at this
       exact this
      have hjx:j<xs.length:=by rw[hxl];rw[JF]at hjb;exact hjb
      have ea:(Addr.add ⟨g,0,none⟩ j)=⟨g,j,none⟩:=by unfold Addr.add;split<;>simp_all
      have ec:w0.cell? ⟨g,j,none⟩=cur[j]?:=by simp[World.cell?,hg1]
      rw[ea,ec,hcur,List.getElem?_eq_getElem hjx]
      have e2:xs.getD (j*1+0) undef=xs[j]:=by
       rw[Nat.mul_one,Nat.add_zero]
       simp[List.getD,List.getElem?_eq_getElem hjx]
      rw[e2]at hrow
      have e3:(byteRows w)[j][0]'(by simp[byteRows])=.d (.s (.int .u8 (w.data.toList[j]).toNat)):=by
       simp only[byteRows,List.getElem_map,List.getElem_cons_zero]
      rw[e3]at hrow
      rw[hrow.s_inv])
     rw[hlen]at key
     exact key
  |sl0 q1 q2 hh=>
   rw[run_convert_bytes_string w0 s t el none 0 0 hu1 hu3 hu2]
   have h0:w=.empty:=by
    apply ByteArray.ext
    apply Array.ext
    ·exact hzz
    ·intro j h1 h2
     simp at h2
   rw[h0]
   rfl
 exact(VOk.same hg hf hst key (.d (.s (.string w))) h).op
end
attribute [local irreducible] AR Ok inBlock andThen endQ aoper
section
variable {X:Cfg} {nt:Nat} {Q:Exit→Env→St→Prop} {env:Env} {σ:St} {K:AV→St→Prop}
end
end Go.Pm
