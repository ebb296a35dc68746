/- Part of the proof: Pm12. -/
import Derived.Test.YtdjanhhljinokaaGreatDoorT5
set_option linter.unusedVariables false
set_option linter.unusedSimpArgs false
namespace Go.Pm
def AV.force:AV→Option AV
 |.d x=>some (.d x)
 |.agg cs=>some (.agg cs)
 |.tup vs=>some (.tup vs)
 |.ref i off=>some (.ref i off)
 |.sl i v lo hi=>some (.sl i v lo hi)
 |.ep i v k off=>some (.ep i v k off)
 |.mp i=>some (.mp i)
 |.it i=>some (.it i)
 |.fn f caps=>some (.fn f caps)
 |.ifc t x=>some (.ifc t x)
 |.any=>some .any
theorem J0c {x y:AV} (h:x.force=some y):x=y:=by cases x<;>simpa[AV.force]using h
def natF:Nat→Option Nat
 |0=>some 0
 |n+1=>match natF n with|some m=>some (m+1)|none=>none
theorem J0S:∀{n m:Nat},natF n=some m→n=m
 |0,m,h=>by simpa[natF]using h
 |n+1,m,h=>by
  simp only[natF]at h
  split at h
  ·rename_i k hk;simp only[Option.some.injEq]at h;rw[J0S hk,h]
  ·simp at h
def takeF {α:Type}:Nat→List α→Option (List α)
 |0,_=>some []
 |_+1,[]=>none
 |n+1,x::l=>match takeF n l with|some m=>some (x::m)|none=>none
theorem J6w {α:Type}:∀{n:Nat} {l m:List α},takeF n l=some m→l.take n=m∧n≤l.length
 |0,l,m,h=>by simp[takeF]at h;simp[h]
 |n+1,[],m,h=>by simp[takeF]at h
 |n+1,x::l,m,h=>by
  simp only[takeF]at h
  split at h
  ·rename_i k hk
   simp only[Option.some.injEq]at h
   obtain⟨h1,h2⟩:=J6w hk
   subst h
   exact⟨by simp[h1],by simp;exact h2⟩
  ·simp at h
def listF {α:Type}:List α→Option (List α)
 |[]=>some []
 |x::l=>match listF l with|some m=>some (x::m)|none=>none
theorem J1o {α:Type}:∀{l m:List α},listF l=some m→l=m
 |[],m,h=>by simpa[listF]using h
 |x::l,m,h=>by
  simp only[listF]at h
  split at h
  ·rename_i k hk;simp only[Option.some.injEq]at h;rw[←h,J1o hk]
  ·simp at h
def dropF {α:Type}:Nat→List α→Option (List α)
 |0,l=>some l
 |n+1,[]=>none
 |n+1,_::l=>dropF n l
theorem J74 {α:Type}:∀{n:Nat} {l m:List α},dropF n l=some m→l.drop n=m∧n≤l.length
 |0,l,m,h=>by simp[dropF]at h;simp[h]
 |n+1,[],m,h=>by simp[dropF]at h
 |n+1,x::l,m,h=>by
  obtain⟨h1,h2⟩:=J74 (n:=n) (l:=l) h
  exact⟨by simp[h1],by simp;exact h2⟩
def pieceF (ag:Bool) (cells:List AV) (off size:Nat):Option AV:=
 match ag with
 |true=>match dropF off cells with|some m=>(match takeF size m with|some r=>some (.agg r)|none=>none)|none=>none
 |false=>match cells[off]? with|some x=>x.force|none=>none
theorem J0z {ag:Bool} {cells:List AV} {off size:Nat} {r:AV} (h:pieceF ag cells off size=some r):piece ag cells off size=some r:=by
 cases ag with
 |true=>
  simp only[pieceF]at h
  split at h
  ·rename_i m hm
   split at h
   ·rename_i r' hr
    obtain⟨h1,h2⟩:=J74 hm
    obtain⟨h3,h4⟩:=J6w hr
    simp only[Option.some.injEq]at h
    subst h
    subst h1
    simp only[List.length_drop]at h4
    simp only[piece,if_true,h3]
    rw[if_pos (by omega)]
   ·simp at h
  ·simp at h
 |false=>
  simp only[pieceF]at h
  split at h
  ·rename_i x hx
   simp only[piece,hx,J0c h]
   rfl
  ·simp at h
def spliceF:List AV→Nat→List AV→Option (List AV)
 |l,0,[]=>listF l
 |[],0,_::_=>none
 |_::l,0,c::cs=>match spliceF l 0 cs with|some m=>some (c::m)|none=>none
 |[],_+1,_=>none
 |x::l,n+1,cs=>match spliceF l n cs with|some m=>some (x::m)|none=>none
theorem J0q:∀{l:List AV} {n:Nat} {cs m:List AV},spliceF l n cs=some m→splice l n cs=m∧n+cs.length≤l.length
 |l,0,[],m,h=>by simp only[spliceF]at h;simp[splice,J1o h]
 |[],0,_::_,m,h=>by simp[spliceF]at h
 |_::l,0,c::cs,m,h=>by
  simp only[spliceF]at h
  split at h
  ·rename_i k hk
   simp only[Option.some.injEq]at h
   obtain⟨h1,h2⟩:=J0q hk
   subst h
   subst h1
   refine⟨?_,by simp only[List.length_cons];omega⟩
   simp only[splice,List.take_zero,List.nil_append,List.length_cons,Nat.zero_add,List.drop_succ_cons,List.cons_append]
  ·simp at h
 |[],n+1,cs,m,h=>by simp[spliceF]at h
 |x::l,n+1,cs,m,h=>by
  simp only[spliceF]at h
  split at h
  ·rename_i k hk
   simp only[Option.some.injEq]at h
   obtain⟨h1,h2⟩:=J0q hk
   subst h
   subst h1
   refine⟨?_,by simp only[List.length_cons];omega⟩
   simp only[splice,List.take_succ_cons,List.cons_append]
   rw[show n+1+cs.length=(n+cs.length)+1 by omega,List.drop_succ_cons]
  ·simp at h
def cellsF (x:AV):Option (List AV):=match x.cells with|some cs=>listF cs|none=>none
theorem J0C {x:AV} {cs:List AV} (h:cellsF x=some cs):x.cells=some cs:=by
 simp only[cellsF]at h
 split at h
 ·rename_i k hk;rw[hk,J1o h]
 ·simp at h
def fillF (place:Nat→Option (Nat×Nat)):List AV→List (Nat×AV)→Option (List AV)
 |cells,[]=>some cells
 |cells,(i,x)::rest=>
  match place i,cellsF x with
  |some (off,size),some cs=>
   match decide (cs.length=size)&&cs.all AV.one,spliceF cells off cs with
   |true,some m=>fillF place m rest
   |_,_=>none
  |_,_=>none
theorem J6m {place:Nat→Option (Nat×Nat)}:∀{parts:List (Nat×AV)} {cells m:List AV},fillF place cells parts=some m→fillA place cells parts=some m
 |[],cells,m,h=>h
 |(i,x)::rest,cells,m,h=>by
  simp only[fillF]at h
  split at h
  ·rename_i off size cs h1 h2
   split at h
   ·rename_i m' hb hs
    obtain⟨h3,h4⟩:=J0q hs
    simp only[Bool.and_eq_true,decide_eq_true_eq]at hb
    have hsz:cs.length=size:=hb.1
    have ho:cs.all AV.one=true:=hb.2
    simp only[fillA,h1,J0C h2]
    rw[if_pos ⟨hsz,by omega,ho⟩,h3]
    exact J6m h
   ·simp at h
  ·simp at h
def astep (X:Cfg) (env:Env) (σ:St):Op→Option (AV×St)
 |.move x=>match (aev X env x).force with|some r=>some (r,σ)|none=>none
 |.assign x=>match (aev X env x).force with|some r=>some (r,σ)|none=>none
 |.pick c a b=>
  match aev X env c with
  |.d (.s (.bool true))=>(match (aev X env a).force with|some r=>some (r,σ)|none=>none)
  |.d (.s (.bool false))=>(match (aev X env b).force with|some r=>some (r,σ)|none=>none)
  |_=>none
 |.binOp op _ x y _=>
  match decide (op=.add)||decide (op=.sub)||decide (op=.mul),aev X env x,aev X env y with
  |false,.d (.s a),.d (.s b)=>(match abin op a b with|some r=>some (.d (.s r),σ)|none=>none)
  |_,_,_=>none
 |.unOp op _ x=>
  match op,aev X env x with
  |.neg,.d (.s (.int k n))=>some (.d (.s (.int k (k.wrap (0-n)))),σ)
  |.not,.d (.s (.bool b))=>some (.d (.s (.bool (!b))),σ)
  |_,_=>none
 |.load t a=>
  match X.T t,behind σ (aev X env a)with
  |some ti,some co=>match pieceF (isAggK ti.kind) co.1 co.2 ti.size with|some r=>some (r,σ)|none=>none
  |_,_=>none
 |.fieldAddr t p f=>
  match X.T t with
  |some ti=>
   match ti.kind with
   |.struct fs=>
    match fs[f]? with
    |some fd=>
     match X.T fd.2 with
     |some tf=>
      if 0<tf.size then
       match natF fd.1 with
       |some d=>
        match aev X env p with
        |.ref i off=>some (.ref i (off+d),σ)
        |.ep i v k off=>some (.ep i v k (off+d),σ)
        |.d (.ip cells off)=>some (.d (.ip cells (off+d)),σ)
        |_=>none
       |none=>none
      else none
     |none=>none
    |none=>none
   |_=>none
  |none=>none
 |.field t x f=>
  match X.T t with
  |some ti=>
   match ti.kind with
   |.struct fs=>
    match fs[f]? with
    |some fd=>
     match X.T fd.2,aev X env x with
     |some tf,.agg cs=>match pieceF (isAggK tf.kind) cs fd.1 tf.size with|some r=>some (r,σ)|none=>none
     |_,_=>none
    |none=>none
   |_=>none
  |none=>none
 |.extract t i=>match aev X env t with|.tup vs=>(match vs[i]? with|some r=>(match r.force with|some r=>some (r,σ)|none=>none)|none=>none)|_=>none
 |.alloc e=>match X.T e with|some ti=>(match natF σ.next,listF (zrow ti)with|some n,some cs=>some (.ref n 0,σ.alloc (.var cs))|_,_=>none)|none=>none
 |.box _ x=>match cellsF (aev X env x),natF σ.next with|some cs,some n=>if cs.all AV.one=true then some (.ref n 0,σ.alloc (.var cs))else none|_,_=>none
 |.build t ps=>
  match X.T t with
  |some ti=>
   match ti.kind,listF (zrow ti)with
   |.struct fs,some z=>match fillF (places X fs) z (ps.toList.map fun p=>(p.1,aev X env p.2))with|some cs=>some (.agg cs,σ)|none=>none
   |_,_=>none
  |none=>none
 |.store t p x=>
  match X.T t,cellsF (aev X env x)with
  |some ti,some cs=>
   match decide (cs.length=ti.size)&&cs.all AV.one,aev X env p with
   |true,.ref i off=>(match σ.obj i with|some (.var cells)=>(match spliceF cells off cs with|some m=>some (.d (.s undef),σ.set i (.var m))|none=>none)|_=>none)
   |_,_=>none
  |_,_=>none
 |.call c=>
  match c.callee,c.args.toList,c.argTypes.toList with
  |.builtin .len,[x],[t]=>
   match X.T t with
   |some ti=>
    match ti.kind,aev X env x with
    |.string,.d (.s (.string s))=>some (.d (.s (.int .i64 s.size)),σ)
    |.slice _,.d (.s (.slice _ n _))=>some (.d (.s (.int .i64 n)),σ)
    |.slice _,.sl _ _ lo hi=>some (.d (.s (.int .i64 ((hi-lo:Nat):Int))),σ)
    |_,_=>none
   |none=>none
  |_,_,_=>none
 |_=>none
theorem J9l {X:Cfg} {env:Env} {σ σ':St} {r:AV} {op:Op} {K:AV→St→Prop} {Q:Exit→Env→St→Prop} (h:astep X env σ op=some (r,σ')) (hk:K r σ'):aoper X op env σ Q K:=by
 have fin:∀{x:AV} {s:St},some (x,s)=some (r,σ')→(x=r∧s=σ'):=fun h=>by simpa using h
 cases op with
 |move x=>
  simp only[astep]at h
  split at h
  ·rename_i x' hx;obtain⟨rfl,rfl⟩:=fin h;rw[←J0c hx]at hk;exact hk
  ·simp at h
 |assign x=>
  simp only[astep]at h
  split at h
  ·rename_i x' hx;obtain⟨rfl,rfl⟩:=fin h;rw[←J0c hx]at hk;exact hk
  ·simp at h
 |pick c a b=>
  simp only[astep]at h
  split at h
  ·rename_i hc
   split at h
   ·rename_i x' hx;obtain⟨rfl,rfl⟩:=fin h;rw[←J0c hx]at hk;exact⟨true,hc,hk⟩
   ·simp at h
  ·rename_i hc
   split at h
   ·rename_i x' hx;obtain⟨rfl,rfl⟩:=fin h;rw[←J0c hx]at hk;exact⟨false,hc,hk⟩
   ·simp at h
  ·simp at h
 |binOp op t x y ty=>
  simp only[astep]at h
  split at h
  ·rename_i a b _ hx hy
   split at h
   ·rename_i r' hr
    obtain⟨rfl,rfl⟩:=fin h
    simp only[aoper,aop,abinop,hx,hy,hr]
    exact hk
   ·simp at h
  ·simp at h
 |unOp op t x=>
  simp only[astep]at h
  split at h
  ·rename_i hx;obtain⟨rfl,rfl⟩:=fin h;simp only[aoper,aop,aunop,hx];exact hk
  ·rename_i hx;obtain⟨rfl,rfl⟩:=fin h;simp only[aoper,aop,aunop,hx];exact hk
  ·simp at h
 |load t a=>
  simp only[astep]at h
  split at h
  ·rename_i ti co ht hco
   split at h
   ·rename_i r' hr
    obtain⟨rfl,rfl⟩:=fin h
    exact⟨ti,ht,co,hco,_,J0z hr,hk⟩
   ·simp at h
  ·simp at h
 |fieldAddr t p f=>
  simp only[astep]at h
  split at h
  ·rename_i ti ht
   split at h
   ·rename_i fs hfs
    split at h
    ·rename_i fd hfd
     split at h
     ·rename_i tf htf
      split at h
      ·rename_i hp
       refine⟨ti,ht,fs,hfs,fd,hfd,tf,htf,hp,?_⟩
       split at h
       ·rename_i d hd
        have hd:=J0S hd
        subst hd
        split at h
        ·rename_i hx;obtain⟨rfl,rfl⟩:=fin h;simp only[hx];exact hk
        ·rename_i hx;obtain⟨rfl,rfl⟩:=fin h;simp only[hx];exact hk
        ·rename_i hx;obtain⟨rfl,rfl⟩:=fin h;simp only[hx];exact hk
        ·simp at h
       ·simp at h
      ·simp at h
     ·simp at h
    ·simp at h
   ·simp at h
  ·simp at h
 |field t x f=>
  simp only[astep]at h
  split at h
  ·rename_i ti ht
   split at h
   ·rename_i fs hfs
    split at h
    ·rename_i fd hfd
     split at h
     ·rename_i tf cs htf hx
      split at h
      ·rename_i r' hr
       obtain⟨rfl,rfl⟩:=fin h
       exact⟨ti,ht,fs,hfs,fd,hfd,tf,htf,cs,hx,_,J0z hr,hk⟩
      ·simp at h
     ·simp at h
    ·simp at h
   ·simp at h
  ·simp at h
 |extract t i=>
  simp only[astep]at h
  split at h
  ·rename_i vs hx
   split at h
   ·rename_i r' hr
    split at h
    ·rename_i r2 hr2
     obtain⟨rfl,rfl⟩:=fin h
     simp only[aoper,aop,aextract,hx]
     rw[←J0c hr2]at hk
     exact⟨_,hr,hk⟩
    ·simp at h
   ·simp at h
  ·simp at h
 |alloc e=>
  simp only[astep]at h
  split at h
  ·rename_i ti ht
   split at h
   ·rename_i n cs hn hcs
    obtain⟨rfl,rfl⟩:=fin h
    rw[←J0S hn,←J1o hcs]at hk
    exact⟨ti,ht,hk⟩
   ·simp at h
  ·simp at h
 |box e x=>
  simp only[astep]at h
  split at h
  ·rename_i cs n hcs hn
   split at h
   ·rename_i h1
    obtain⟨rfl,rfl⟩:=fin h
    rw[←J0S hn]at hk
    exact⟨cs,J0C hcs,h1,hk⟩
   ·simp at h
  ·simp at h
 |build t ps=>
  simp only[astep]at h
  split at h
  ·rename_i ti ht
   split at h
   ·rename_i fs z hfs hz
    split at h
    ·rename_i cs hcs
     obtain⟨rfl,rfl⟩:=fin h
     rw[←J1o hz]at hcs
     refine⟨ti,ht,?_⟩
     simp only[hfs]
     exact⟨cs,J6m hcs,hk⟩
    ·simp at h
   ·simp at h
  ·simp at h
 |store t p x=>
  simp only[astep]at h
  split at h
  ·rename_i ti cs ht hcs
   split at h
   ·rename_i i off h1 hx
    simp only[Bool.and_eq_true,decide_eq_true_eq]at h1
    refine⟨ti,ht,cs,J0C hcs,h1.1,h1.2,?_⟩
    split at h
    ·rename_i cells ho
     split at h
     ·rename_i m hm
      obtain⟨rfl,rfl⟩:=fin h
      obtain⟨h3,h4⟩:=J0q hm
      simp only[hx]
      exact⟨cells,ho,by rw[←h1.1];exact h4,by rw[h3];exact hk⟩
     ·simp at h
    ·simp at h
   ·simp at h
  ·simp at h
 |call c=>
  obtain⟨callee,args,tys⟩:=c
  simp only[astep]at h
  split at h
  ·rename_i x t h1 h2
   split at h
   ·rename_i ti ht
    simp only[aoper,h1,h2,abuiltin]
    refine⟨ti,ht,?_⟩
    split at h
    ·rename_i s hkd hx;obtain⟨rfl,rfl⟩:=fin h;simp only[hkd,hx];exact hk
    ·rename_i s hkd hx;obtain⟨rfl,rfl⟩:=fin h;simp only[hkd,hx];exact hk
    ·rename_i s hkd hx;obtain⟨rfl,rfl⟩:=fin h;simp only[hkd,hx];exact hk
    ·simp at h
   ·simp at h
  ·simp at h
 |_=>simp[astep]at h
end Go.Pm
/- Part of the proof: Pm13. -/
namespace Go.Pm
mutual
def low (n:Nat):AV→Bool
 |.d _=>true
 |.agg cs=>lows n cs
 |.tup cs=>lows n cs
 |.ref i _=>decide (i<n)
 |.sl i v _ _=>decide (i<n)&&decide (v<n)
 |.ep i v _ _=>decide (i<n)&&decide (v<n)
 |.mp i=>decide (i<n)
 |.it i=>decide (i<n)
 |.fn _ caps=>lows n caps
 |.ifc _ x=>low n x
 |.any=>true
def lows (n:Nat):List AV→Bool
 |[]=>true
 |c::cs=>low n c&&lows n cs
end
theorem J0U {n:Nat}:∀{cs:List AV},lows n cs=true→∀j (h:j<cs.length),low n cs[j]=true
 |[],_,j,h=>by simp at h
 |c::cs,h,j,hj=>by
  simp only[lows,Bool.and_eq_true]at h
  cases j with
  |zero=>exact h.1
  |succ j=>exact J0U h.2 j (by simpa using hj)
theorem J8a {n:Nat}:∀{cs:List AV},(∀c∈cs,low n c=true)→lows n cs=true
 |[],_=>rfl
 |c::cs,h=>by
  simp only[lows,Bool.and_eq_true]
  exact⟨h c (by simp),J8a fun c' hc=>h c' (by simp[hc])⟩
theorem J1d {F:FH} {η:Et} {m n:Nat} {x:AV} {v:Value} (h:VRel F η m x v):low n x=true→VRel F η n x v:=by
 induction h with
 |d h=>intro _;exact .d h
 |agg h1 _ ih=>intro h;simp only[low]at h;exact .agg h1 fun j hj=>ih j hj (J0U h j hj)
 |tup h1 _ ih=>intro h;simp only[low]at h;exact .tup h1 fun j hj=>ih j hj (J0U h j hj)
 |ref hi=>intro h;exact .ref (by simpa[low]using h)
 |sl h1 h2 hh hle hc hoff=>intro h;simp[low]at h;exact .sl h.1 h.2 hh hle hc hoff
 |sl0 hi hv hh=>intro h;simp[low]at h;exact .sl0 h.1 h.2 hh
 |ep hi hv hh=>intro h;simp[low]at h;exact .ep h.1 h.2 hh
 |mp hi=>intro h;exact .mp (by simpa[low]using h)
 |it hi=>intro h;exact .it (by simpa[low]using h)
 |fn h1 _ ih=>intro h;simp only[low]at h;exact .fn h1 fun j hj=>ih j hj (J0U h j hj)
 |ifc _ ih=>intro h;simp only[low]at h;exact .ifc (ih h)
 |any v=>intro _;exact .any v
def AO.low (n:Nat):AO→Prop
 |.var cells=>lows n cells=true
 |.row v _ _ rows=>v<n∧∀r∈rows,lows n r=true
 |.map _ es=>∀e∈es,Pm.low n e.2=true
 |.iter _=>True
 |.box _=>True
theorem J77 {F:FH} {η:Et} {m n:Nat} {w:World} {i:Nat} {o:AO} (h:ORel F η m w i o) (hl:o.low n):ORel F η n w i o:=by
 cases h with
 |var c E b1 b2 b3 b4=>exact .var c E b1 b2 b3 fun j hj=>J1d (b4 j hj) (J0U hl j hj)
 |row xs b1 b2 b3 b4 b5 b6 b7=>exact .row xs hl.1 b2 b3 b4 b5 b6 fun k hk j hj=>J1d (b7 k hk j hj) (J0U (hl.2 _ (List.getElem_mem hk)) j hj)
 |map e c b1 b2 b3 b4 b4' b5 b6 b7=>exact .map e c b1 b2 b3 b4 b4' b5 b6 fun k hk=>J1d (b7 k hk) (hl _ (List.getElem_mem hk))
 |iter hb=>exact .iter hb
 |box hb=>exact .box hb
structure Low (env:Env) (σ:St) (env':Env) (σ':St):Prop where
 nx:σ'.next≤σ.next
 ob:∀i o,σ'.obj i=some o→i<σ'.next∧σ.obj i=some o∧o.low σ'.next
 en:∀t,env' t=.any∨(env' t=env t∧low σ'.next (env t)=true)
theorem Low.rel {F:FH} {η:Et} {nt:Nat} {env env':Env} {σ σ':St} {a:Act} {w:World} (h:Low env σ env' σ') (hr:Rel F η nt env σ a w):Rel F η nt env' σ' a w:=by
 refine⟨hr.fr,⟨fun i o ho=>(h.ob i o ho).1,fun i o ho=>J77 (hr.st.ob i o (h.ob i o ho).2.1) (h.ob i o ho).2.2,?_,fun i o b ho=>hr.st.fr i o b (h.ob i o ho).2.1⟩,fun t=>?_,hr.sz,hr.df⟩
 ·exact fun i j oi oj b hi hj=>hr.st.ap i j oi oj b (h.ob i oi hi).2.1 (h.ob j oj hj).2.1
 ·rcases h.en t with h1|⟨h1,h2⟩
  ·rw[h1];exact .any _
  ·rw[h1];exact J1d (hr.en t) h2
theorem Low.step {F F':FH} {η η':Et} {σ0 σ σ':St} {env env':Env} {w0 w:World} (h:Low env σ env' σ') (hs:Step F η σ0 w0 F' η' σ w) (hn:σ0.next≤σ'.next):Step F η σ0 w0 F' η' σ' w:=
 ⟨hs.fh,hs.et,hn,hs.gr,hs.fm,fun i o b ho=>hs.nw i o b (h.ob i o ho).2.1,hs.nf⟩
theorem Jo {X:Cfg} {nt:Nat} {Q:Exit→Env→St→Prop} {env:Env} {σ:St} {c:Code} {ι:Type} (E:ι→Env) (S:ι→St) (inv:ι→Prop) (μ:ι→Nat) (x0:ι) (hi:inv x0)
  (h0:Turn X nt env σ (E x0) (S x0)) (hS:∀x,(S x0).next≤(S x).next)
  (round:∀x,inv x→Ok X nt c (andThen (fun env σ=>∃y,inv y∧μ y<μ x∧Low env σ (E y) (S y)) Q) (E x) (S x)):Ok X nt (.loop c) Q env σ:=by
 refine J0a h0 ?_
 intro F0 η0 a0 w0 hg0 hr0
 let J:Act→World→Nat→Prop:=fun a w n=>∃F η x,inv x∧μ x=n∧Step F0 η0 (S x0) w0 F η (S x) w∧GRel X F∧Rel F η nt (E x) (S x) a w
 intro b k cs
 have key:∀n a w,J a w n→∃e a' w',Post X nt F0 η0 (S x0) w0 Q e a' w'∧Arrives X.P (lone (b.at a (.code c::.inLoop c::k)) cs w) b k cs e a' w':=by
  intro n
  induction n using Nat.strongRecOn with
  |_ n ih=>
   intro a w hJ
   obtain⟨F,η,x,hx,hμ,hs,hg,hr⟩:=hJ
   obtain⟨e,a₁,w₁,hq,harr⟩:=round x hx F η a w hg hr b (.inLoop c::k) cs
   cases e with
   |normal=>
    obtain⟨F1,η1,env1,σ1,s1,g1,r1,y,hy,hlt,hlow⟩:=hq
    obtain⟨e₂,a₂,w₂,hq₂,harr₂⟩:=ih (μ y) (by omega) a₁ w₁ ⟨F1,η1,y,hy,rfl,hlow.step (hs.trans s1) (hS y),g1,hlow.rel r1⟩
    exact⟨e₂,a₂,w₂,hq₂,.of_steps (Steps.trans harr (.one step_inLoop)) harr₂⟩
   |exit id=>exact⟨_,a₁,w₁,hq.trans hs (fun _ _ h=>h),.pass (x:=.inLoop c) rfl (fun _ _=>.inl (by simp)) harr⟩
   |goto l=>exact⟨_,a₁,w₁,hq.trans hs (fun _ _ h=>h),.pass (x:=.inLoop c) rfl (fun _ _=>.inl (by simp)) harr⟩
   |ret=>exact⟨_,a₁,w₁,hq.trans hs (fun _ _ h=>h),.pass (x:=.inLoop c) rfl (fun _ _=>.inl (by simp)) harr⟩
   |panic ch=>exact⟨_,a₁,w₁,hq.trans hs (fun _ _ h=>h),.pass (x:=.inLoop c) rfl (fun _ _=>.inl (by simp)) harr⟩
   |outgrown=>exact⟨_,a₁,w₁,hq.trans hs (fun _ _ h=>h),.pass (x:=.inLoop c) rfl (fun _ _=>.inl (by simp)) harr⟩
 obtain⟨e,a',w',hq,harr⟩:=key (μ x0) a0 w0 ⟨F0,η0,x0,hi,rfl,.refl _ _ _ _,hg0,hr0⟩
 exact⟨e,a',w',hq,.of_steps (.one step_loop) harr⟩
inductive Frz (z:Option (Nat×Nat×List (List D))):AV→AV→Prop
 |refl (x:AV):Frz z x x
 |any (x:AV):Frz z x .any
 |nil:Frz z (.d (.s (.slice none 0 0))) (.d (.im []))
 |sl {i v:Nat} {rows:List (List D)} {lo hi:Nat} {rs:List (List D)} (h:z=some (i,v,rows)) (hle:hi≤rows.length) (e:rs=(rows.drop lo).take (hi-lo)):Frz z (.sl i v lo hi) (.d (.im rs))
 |agg {cs cs':List AV} (hl:cs'.length=cs.length) (h:∀j (h1:j<cs.length) (h2:j<cs'.length),Frz z cs[j] cs'[j]):Frz z (.agg cs) (.agg cs')
 |tup {cs cs':List AV} (hl:cs'.length=cs.length) (h:∀j (h1:j<cs.length) (h2:j<cs'.length),Frz z cs[j] cs'[j]):Frz z (.tup cs) (.tup cs')
def OFrz (z:Option (Nat×Nat×List (List D))):AO→AO→Prop
 |.var cs,.var cs'=>cs'.length=cs.length∧∀j (h1:j<cs.length) (h2:j<cs'.length),Frz z cs[j] cs'[j]
 |.row v E sz rows,.row v' E' sz' rows'=>v=v'∧E=E'∧sz=sz'∧rows=rows'
 |.map k es,.map k' es'=>k=k'∧es=es'
 |.iter x,.iter y=>x=y
 |.box x,.box y=>x=y
 |_,_=>False
theorem J5N (z:Option (Nat×Nat×List (List D))) (o:AO):OFrz z o o:=by
 cases o with
 |var cs=>exact⟨rfl,fun j _ _=>.refl _⟩
 |row=>exact⟨rfl,rfl,rfl,rfl⟩
 |map=>exact⟨rfl,rfl⟩
 |iter x=>exact rfl
 |box x=>exact rfl
def FH.with (F:FH) (b:Nat) (o:Obj):FH:=fun b'=>if b'=b then some o else F b'
theorem J6d {F:FH} {η:Et} {n:Nat} {z:Option (Nat×Nat×List (List D))}
  (hz:∀i v rows,z=some (i,v,rows)→∀lo hi u,hi≤rows.length→VRel F η n (.sl i v lo hi) u→DRel F (.im ((rows.drop lo).take (hi-lo))) u) {x y:AV} (h:Frz z x y):
  ∀{u:Value},VRel F η n x u→VRel F η n y u:=by
 induction h with
 |refl x=>intro u h;exact h
 |any x=>intro u _;exact .any u
 |nil=>intro u h;have:=h.s_inv;subst this;exact .d (.im0 none 0)
 |sl h hle e=>intro u hu;subst e;exact .d (hz _ _ _ h _ _ _ hle hu)
 |agg hl _ ih=>
  intro u hu
  cases hu with
  |agg h1 h2=>exact .agg (by rw[h1,hl]) fun j hj=>ih j (by omega) hj (h2 j (by omega))
 |tup hl _ ih=>
  intro u hu
  cases hu with
  |tup h1 h2=>exact .tup (by rw[h1,hl]) fun j hj=>ih j (by omega) hj (h2 j (by omega))
theorem J6O {F:FH} {η:Et} {n:Nat} {w:World} {i:Nat} {z:Option (Nat×Nat×List (List D))}
  (hz:∀i v rows,z=some (i,v,rows)→∀lo hi u,hi≤rows.length→VRel F η n (.sl i v lo hi) u→DRel F (.im ((rows.drop lo).take (hi-lo))) u) {o o':AO} (hf:OFrz z o o')
  (h:ORel F η n w i o):ORel F η n w i o'∧Owns η i o'=Owns η i o:=by
 cases h with
 |var c E b1 b2 b3 b4=>
  cases o' with
  |var cs'=>exact⟨.var c E b1 (by rw[b2,hf.1]) (fun j hj=>b3 j (by rw[←hf.1];exact hj)) fun j hj=>J6d hz (hf.2 j (by rw[←hf.1];exact hj) hj) (b4 j (by rw[←hf.1];exact hj)),rfl⟩
  |row=>exact hf.elim
  |map=>exact hf.elim
  |iter=>exact hf.elim
  |box=>exact hf.elim
 |row xs b1 b2 b3 b4 b5 b6 b7=>
  cases o' with
  |row=>obtain⟨rfl,rfl,rfl,rfl⟩:=hf;exact⟨.row xs b1 b2 b3 b4 b5 b6 b7,rfl⟩
  |var=>exact hf.elim
  |map=>exact hf.elim
  |iter=>exact hf.elim
  |box=>exact hf.elim
 |map e c b1 b2 b3 b4 b4' b5 b6 b7=>
  cases o' with
  |map=>obtain⟨rfl,rfl⟩:=hf;exact⟨.map e c b1 b2 b3 b4 b4' b5 b6 b7,rfl⟩
  |var=>exact hf.elim
  |row=>exact hf.elim
  |iter=>exact hf.elim
  |box=>exact hf.elim
 |iter hb=>
  cases o' with
  |iter y=>cases hf;exact⟨.iter hb,rfl⟩
  |var=>exact hf.elim
  |row=>exact hf.elim
  |map=>exact hf.elim
  |box=>exact hf.elim
 |box hb=>
  cases o' with
  |box y=>cases hf;exact⟨.box hb,rfl⟩
  |var=>exact hf.elim
  |row=>exact hf.elim
  |map=>exact hf.elim
  |iter=>exact hf.elim
theorem J5E {X:Cfg} {nt:Nat} {env env':Env} {σ σ':St} (hn:σ'.next=σ.next) (ho:∀j o',σ'.obj j=some o'→∃o,σ.obj j=some o∧OFrz none o o') (he:∀t,Frz none (env t) (env' t)):
  Turn X nt env σ env' σ':=by
 intro F η a w hg hr
 have hz:∀i v rows,(none:Option (Nat×Nat×List (List D)))=some (i,v,rows)→∀lo hi u,hi≤rows.length→VRel F η σ.next (.sl i v lo hi) u→DRel F (.im ((rows.drop lo).take (hi-lo))) u:=
  fun i v rows h=>by cases h
 have hown:∀j o',σ'.obj j=some o'→∃o,σ.obj j=some o∧Owns η j o'=Owns η j o∧ORel F η σ.next w j o':=by
  intro j o' hj
  obtain⟨o,h1,h2⟩:=ho j o' hj
  obtain⟨h3,h4⟩:=J6O hz h2 (hr.st.ob j o h1)
  exact⟨o,h1,h4,h3⟩
 refine⟨F,η,⟨F.le_refl,Et.agree_refl _ _,by omega,.refl _,fun _ _ _=>rfl,?_,fun _ _ h _=>.inl h⟩,hg,⟨hr.fr,⟨?_,?_,?_,?_⟩,?_,hr.sz,hr.df⟩⟩
 ·intro j o' b hj hb _
  obtain⟨o,h1,h2,_⟩:=hown j o' hj
  exact⟨j,o,h1,by rw[←h2];exact hb⟩
 ·intro j o' hj
  obtain⟨o,h1,_⟩:=hown j o' hj
  rw[hn];exact hr.st.lt j o h1
 ·intro j o' hj
  obtain⟨o,h1,_,h3⟩:=hown j o' hj
  rw[hn];exact h3
 ·intro j k oj ok b hj hk hbj hbk
  obtain⟨o1,h1,h2,_⟩:=hown j oj hj
  obtain⟨o3,h3,h4,_⟩:=hown k ok hk
  exact hr.st.ap j k o1 o3 b h1 h3 (by rw[←h2];exact hbj) (by rw[←h4];exact hbk)
 ·intro j oj b hj hb
  obtain⟨o1,h1,h2,_⟩:=hown j oj hj
  exact hr.st.fr j o1 b h1 (by rw[←h2];exact hb)
 ·intro t
  rw[hn]
  exact J6d hz (he t) (hr.en t)
theorem J83 {α:Type} {rows:List α} {lo hi k:Nat} (hk:k<((rows.drop lo).take (hi-lo)).length):∃h:lo+k<rows.length,((rows.drop lo).take (hi-lo))[k]=rows[lo+k]:=by
 simp only[List.length_take,List.length_drop]at hk
 exact⟨by omega,by simp⟩
theorem J3v {X:Cfg} {nt:Nat} {env env':Env} {σ σ':St} (i:Nat) {v E sz:Nat} {rows:List (List D)} (hi:σ.obj i=some (.row v E sz (rows.map (·.map .d)))) (hn:σ'.next=σ.next)
  (ho:∀j o',σ'.obj j=some o'→j≠i∧∃o,σ.obj j=some o∧OFrz (some (i,v,rows)) o o') (he:∀t,Frz (some (i,v,rows)) (env t) (env' t)):Turn X nt env σ env' σ':=by
 intro F η a w hg hr
 have hrow:=hr.st.ob i _ hi
 obtain⟨F',hle,hF',hnone,hz⟩:∃F':FH,F.le F'∧(∀b o,F' b=some o→F b=some o∨(Owns η i (.row v E sz (rows.map (·.map .d))) b∧w.heap[b]? = some o))∧True∧
   (∀i1 v1 rows1,(some (i,v,rows):Option (Nat×Nat×List (List D)))=some (i1,v1,rows1)→∀lo top u,top≤rows1.length→VRel F' η σ.next (.sl i1 v1 lo top) u→DRel F' (.im ((rows1.drop lo).take (top-lo))) u):=by
  generalize hrr:AO.row v E sz (rows.map (·.map .d))=oo at hrow
  cases hrow with
  |var=>cases hrr
  |map=>cases hrr
  |iter=>cases hrr
  |box=>cases hrr
  |row xs b1 b2 b3 b4 b5 b6 b7=>
   simp only[AO.row.injEq]at hrr
   obtain⟨rfl,rfl,rfl,rfl⟩:=hrr
   cases hblk:(η.hdr v).blk with
   |none=>
    have hl:=J1e b4 hblk
    simp only[List.length_map]at hl
    refine⟨F,F.le_refl,fun b o h=>.inl h,trivial,?_⟩
    intro i1 v1 rows1 e lo top u hle hu
    simp only[Option.some.injEq,Prod.mk.injEq]at e
    obtain⟨rfl,rfl,rfl⟩:=e
    have:rows=[]:=List.eq_nil_of_length_eq_zero hl
    subst this
    simp only[List.drop_nil,List.take_nil]
    cases hu with
    |sl h1 h2 hh hle2 hc hoff=>
     rw[hh]at hblk;cases hblk
    |sl0=>exact .im0 none 0
   |some b=>
    obtain⟨cur,hg1,hn1,hcap1,hsz1,htk⟩:=J06 b4 hblk
    have hFb:F b=none:=hr.st.fr i _ b hi (by simp only[Owns,own];exact hblk)
    have hle:F.le (F.with b (.cells cur E (0,0))):=by
     intro b' o h'
     simp only[FH.with]
     by_cases hbb:b'=b
     ·subst hbb;rw[hFb]at h';cases h'
     ·simp only[hbb,if_false];exact h'
    refine⟨F.with b (.cells cur E (0,0)),hle,?_,trivial,?_⟩
    ·intro b' o h'
     simp only[FH.with]at h'
     by_cases hbb:b'=b
     ·subst hbb
      simp only[if_true,Option.some.injEq]at h'
      subst h'
      exact .inr ⟨by simp only[Owns,own];exact hblk,hg1⟩
     ·simp only[hbb,if_false]at h';exact .inl h'
    ·intro i1 v1 rows1 e lo top u hle1 hu
     simp only[Option.some.injEq,Prod.mk.injEq]at e
     obtain⟨rfl,rfl,rfl⟩:=e
     simp only[List.length_map]at hn1 htk
     have hsr:∀r∈rows,r.length=sz:=fun r hrm=>by simpa using b5 (r.map .d) (by simp only[List.mem_map];exact⟨r,hrm,rfl⟩)
     have hxl:xs.length=rows.length*sz:=by
      have h1:rows.length*sz≤cur.size:=by rw[hsz1];exact Nat.mul_le_mul_right _ hn1
      rw[←htk,List.length_take,Array.length_toList]
      exact Nat.min_eq_left h1
     have hxc:∀m,m<rows.length*sz→cur[m]? = some (xs.getD m undef):=by
      intro m hm
      have h1:xs[m]? = cur[m]?:=by rw[←htk,List.getElem?_take,if_pos hm,Array.getElem?_toList]
      rw[←h1,List.getElem?_eq_getElem (by omega)]
      simp[List.getD,List.getElem?_eq_getElem (show m<xs.length by omega)]
     cases hu with
     |@sl _ _ _ _ b' cap' sz' off h1 h2 hh hle2 hc hoff=>
      rw[hh]at hblk
      simp only[Option.some.injEq]at hblk
      subst hblk
      have hsz':sz'=sz:=by rw[hh]at b2;exact b2
      subst hsz'
      have hcap:(η.hdr v).cap=cap':=by rw[hh]
      rcases Nat.lt_or_ge lo top with hlt|hge
      ·have hoff':=hoff (by omega)
       subst hoff'
       have hlen:((rows.drop lo).take (top-lo)).length=top-lo:=by simp only[List.length_take,List.length_drop];omega
       have key:DRel (F.with b' (.cells cur E (0,0))) (.im ((rows.drop lo).take (top-lo))) (.slice (some ⟨b',lo*sz',none⟩) ((rows.drop lo).take (top-lo)).length (cap'-lo)):=by
        refine .im _ b' (lo*sz') (cap'-lo) sz' cur E (0,0) (fun k j=>xs.getD ((lo+k)*sz'+j) undef) (by simp[FH.with]) (by omega) ?_ ?_ ?_ ?_
        ·intro r hrm
         exact hsr r (List.mem_of_mem_drop (List.mem_of_mem_take hrm))
        ·intro k hk j hj
         have:lo*sz'+k*sz'+j=(lo+k)*sz'+j:=by rw[Nat.add_mul]
         rw[this]
         exact hxc _ (J0F (by omega) hj)
        ·intro k hk j hj
         refine b6 _ ?_
         have hm:(lo+k)*sz'+j<xs.length:=by rw[hxl];exact J0F (by omega) hj
         simp only[List.getD,List.getElem?_eq_getElem hm,Option.getD_some]
         exact List.getElem_mem hm
        ·intro k hk j hj
         obtain⟨hk2,e2⟩:=J83 hk
         have hj2:j<(rows[lo+k]).length:=by rw[←e2];exact hj
         have:=b7 (lo+k) (by simpa using hk2) j (by simpa using hj2)
         simp only[List.getElem_map]at this
         have e3:((rows.drop lo).take (top-lo))[k][j]=rows[lo+k][j]:=by
          simp only[e2]
         rw[e3]
         cases this with
         |d hd=>exact hd.mono hle
       rw[hlen]at key
       exact key
      ·have:(rows.drop lo).take (top-lo)=[]:=by rw[show top-lo=0 by omega];simp
       rw[this,show top-lo=0 by omega]
       exact .im0 _ _
     |sl0 h1 h2 hh=>rw[hh]at hblk;cases hblk
 have hst:∀j o,σ.obj j=some o→ORel F' η σ.next w j o:=fun j o hj=>(hr.st.ob j o hj).mono (hr.st.lt j o hj) hle (Et.agree_refl _ _) (Nat.le_refl _) fun _ _=>rfl
 have hown:∀j o',σ'.obj j=some o'→j≠i∧∃o,σ.obj j=some o∧Owns η j o'=Owns η j o∧ORel F' η σ.next w j o':=by
  intro j o' hj
  obtain⟨hji,o,h1,h2⟩:=ho j o' hj
  obtain⟨h3,h4⟩:=J6O hz h2 (hst j o h1)
  exact⟨hji,o,h1,h4,h3⟩
 refine⟨F',η,⟨hle,Et.agree_refl _ _,by omega,.refl _,fun _ _ _=>rfl,?_,?_⟩,hg.mono hle,⟨?_,⟨?_,?_,?_,?_⟩,?_,hr.sz,hr.df⟩⟩
 ·intro j o' b hj hb _
  obtain⟨_,o,h1,h2,_⟩:=hown j o' hj
  exact⟨j,o,h1,by rw[←h2];exact hb⟩
 ·intro b o hb _
  rcases hF' b o hb with h|⟨h,_⟩
  ·exact .inl h
  ·exact .inr ⟨i,_,hi,h⟩
 ·intro b o hb
  rcases hF' b o hb with h|⟨_,h⟩
  ·exact hr.fr b o h
  ·exact h
 ·intro j o' hj
  obtain⟨_,o,h1,_⟩:=hown j o' hj
  rw[hn];exact hr.st.lt j o h1
 ·intro j o' hj
  obtain⟨_,o,h1,_,h3⟩:=hown j o' hj
  rw[hn];exact h3
 ·intro j k oj ok b hj hk hbj hbk
  obtain⟨_,o1,h1,h2,_⟩:=hown j oj hj
  obtain⟨_,o3,h3,h4,_⟩:=hown k ok hk
  exact hr.st.ap j k o1 o3 b h1 h3 (by rw[←h2];exact hbj) (by rw[←h4];exact hbk)
 ·intro j oj b hj hb
  obtain⟨hji,o1,h1,h2,_⟩:=hown j oj hj
  have hb1:Owns η j o1 b:=by rw[←h2];exact hb
  have h0:=hr.st.fr j o1 b h1 hb1
  cases hFb:F' b with
  |none=>rfl
  |some o=>
   rcases hF' b o hFb with h|⟨h,_⟩
   ·rw[h0]at h;cases h
   ·exact absurd (hr.st.ap j i o1 _ b h1 hi hb1 h) hji
 ·intro t
  rw[hn]
  exact J6d hz (he t) ((hr.en t).mono hle (Et.agree_refl _ _) (Nat.le_refl _))
inductive Own (n:Nat):AV→AV→Prop
 |refl (x:AV):Own n x x
 |nil:Own n (.d (.s (.slice none 0 0))) (.sl n n 0 0)
 |agg {cs cs':List AV} (hl:cs'.length=cs.length) (h:∀j (h1:j<cs.length) (h2:j<cs'.length),Own n cs[j] cs'[j]):Own n (.agg cs) (.agg cs')
def OOwn (n:Nat):AO→AO→Prop
 |.var cs,.var cs'=>cs'.length=cs.length∧∀j (h1:j<cs.length) (h2:j<cs'.length),Own n cs[j] cs'[j]
 |o,o'=>o=o'
theorem J7W {F:FH} {η:Et} {n m sz cap:Nat} (hh:η.hdr n=⟨none,cap,sz⟩) (hm:n<m) {x y:AV} (h:Own n x y):∀{u:Value},VRel F η m x u→VRel F η m y u:=by
 induction h with
 |refl x=>intro u h;exact h
 |nil=>intro u h;have:=h.s_inv;subst this;exact .sl0 hm hm hh
 |agg hl _ ih=>
  intro u hu
  cases hu with
  |agg h1 h2=>exact .agg (by rw[h1,hl]) fun j hj=>ih j (by omega) hj (h2 j (by omega))
theorem J6G {X:Cfg} {nt:Nat} {env env':Env} {σ σ':St} (E sz:Nat) (hp:0<sz) (hn:σ'.next=σ.next+1) (hnew:σ'.obj σ.next=some (.row σ.next E sz []))
  (ho:∀j o',j≠σ.next→σ'.obj j=some o'→∃o,σ.obj j=some o∧OOwn σ.next o o') (he:∀t,Own σ.next (env t) (env' t)):Turn X nt env σ env' σ':=by
 intro F η a w hg hr
 obtain⟨η',s1,f1,r1,hh⟩:=J6g hr.fr hr.st E sz hp
 have hob:∀j o',σ'.obj j=some o'→∃o,(σ.alloc (.row σ.next E sz [])).obj j=some o∧Owns η' j o'=Owns η' j o∧ORel F η' (σ.next+1) w j o':=by
  intro j o' hj
  by_cases hjn:j=σ.next
  ·subst hjn
   rw[hnew]at hj
   simp only[Option.some.injEq]at hj
   subst hj
   exact⟨_,by simp[St.alloc],rfl,r1.ob _ _ (by simp[St.alloc])⟩
  ·obtain⟨o,h1,h2⟩:=ho j o' hjn hj
   have h1':(σ.alloc (.row σ.next E sz [])).obj j=some o:=by simp[St.alloc,hjn,h1]
   have h3:=r1.ob j o h1'
   refine⟨o,h1',?_⟩
   cases h3 with
   |var c Ec b1 b2 b3 b4=>
    cases o' with
    |var cs'=>exact⟨rfl,.var c Ec b1 (by rw[b2,h2.1]) (fun j hj=>b3 j (by rw[←h2.1];exact hj)) fun j hj=>J7W hh (Nat.lt_succ_self _) (h2.2 j (by rw[←h2.1];exact hj) hj) (b4 j (by rw[←h2.1];exact hj))⟩
    |row=>cases h2
    |map=>cases h2
    |iter=>cases h2
    |box=>cases h2
   |row xs b1 b2 b3 b4 b5 b6 b7=>
    cases h2
    exact⟨rfl,.row xs b1 b2 b3 b4 b5 b6 b7⟩
   |map e c b1 b2 b3 b4 b4' b5 b6 b7=>
    cases h2
    exact⟨rfl,.map e c b1 b2 b3 b4 b4' b5 b6 b7⟩
   |iter hb=>cases h2;exact⟨rfl,.iter hb⟩
   |box hb=>cases h2;exact⟨rfl,.box hb⟩
 refine⟨F,η',⟨s1.fh,s1.et,by omega,s1.gr,s1.fm,?_,s1.nf⟩,hg,⟨f1,⟨?_,?_,?_,?_⟩,?_,hr.sz,hr.df⟩⟩
 ·intro j o' b hj hb hlt
  obtain⟨o,h1,h2,_⟩:=hob j o' hj
  exact s1.nw j o b h1 (by rw[←h2];exact hb) hlt
 ·intro j o' hj
  obtain⟨o,h1,_⟩:=hob j o' hj
  rw[hn];exact r1.lt j o h1
 ·intro j o' hj
  obtain⟨o,_,_,h3⟩:=hob j o' hj
  rw[hn];exact h3
 ·intro j k oj ok b hj hk hbj hbk
  obtain⟨o1,h1,h2,_⟩:=hob j oj hj
  obtain⟨o3,h3,h4,_⟩:=hob k ok hk
  exact r1.ap j k o1 o3 b h1 h3 (by rw[←h2];exact hbj) (by rw[←h4];exact hbk)
 ·intro j oj b hj hb
  obtain⟨o1,h1,h2,_⟩:=hob j oj hj
  exact r1.fr j o1 b h1 (by rw[←h2];exact hb)
 ·intro t
  rw[hn]
  exact J7W hh (Nat.lt_succ_self _) (he t) ((hr.en t).mono s1.fh s1.et s1.nx)
def St.nil:St:=⟨fun _=>none,0⟩
def PFun (X:Cfg) (f:FuncId) (args:List AV) (r:AV):Prop:=
 lows 0 args=true∧low 0 r=true∧AFun X f args St.nil fun E _=>E=.ret r
theorem SRel.nil (F:FH) (η:Et) (w:World):SRel F η St.nil w:=
 ⟨fun i o h=>by simp[St.nil]at h,fun i o h=>by simp[St.nil]at h,fun i j oi oj b h=>by simp[St.nil]at h,fun i o b h=>by simp[St.nil]at h⟩
theorem PFun.at {X:Cfg} {f:FuncId} {args:List AV} {r:AV} (h:PFun X f args r) (σ:St):AFun X f args σ fun E σ'=>E=.ret r∧σ'=σ:=by
 obtain⟨hl,hlr,hc,h⟩:=h
 refine⟨hc,fun F η w vals hg hf hs hn hv=>?_⟩
 refine(h F η w vals hg hf (SRel.nil F η w) hn fun j hj=>J1d (hv j hj) (J0U hl j hj)).mono ?_
 rintro e w' ⟨F',η',σ',E,h1,h2,h3,h4,rfl⟩
 have hfm:∀b,b<w.heap.size→w'.heap[b]? = w.heap[b]?:=fun b hb=>h1.fm b hb fun i o ho=>by simp[St.nil]at ho
 have hnf:∀b o,F' b=some o→b<w.heap.size→F b=some o:=by
  intro b o hb hlt
  rcases h1.nf b o hb hlt with h|⟨j,oj,hj,_⟩
  ·exact h
  ·simp[St.nil]at hj
 refine⟨F',η,σ,.ret r,⟨h1.fh,Et.agree_refl _ _,Nat.le_refl _,h1.gr,fun b hb _=>hfm b hb,fun i o b ho hb _=>⟨i,o,ho,hb⟩,fun b o hb hlt=>.inl (hnf b o hb hlt)⟩,h2,⟨hs.lt,fun i o ho=>?_,hs.ap,?_⟩,?_,rfl,rfl⟩
 ·exact(hs.ob i o ho).mono (hs.lt i o ho) h1.fh (Et.agree_refl _ _) (Nat.le_refl _) fun b hb=>hfm b ((hs.ob i o ho).own_lt hb)
 ·intro i o b ho hb
  have h0:=hs.fr i o b ho hb
  cases hFb:F' b with
  |none=>rfl
  |some o'=>
   have:=hnf b o' hFb ((hs.ob i o ho).own_lt hb)
   rw[h0]at this;cases this
 ·cases e with
  |returned v=>
   have h5:VRel F' η' σ'.next r v:=h4
   have h6:VRel F' η' 0 r v:=J1d h5 hlr
   exact h6.mono F'.le_refl (fun i hi=>by omega) (Nat.zero_le _)
  |panicked c=>exact h4.elim
  |outgrown=>exact h4.elim
end Go.Pm
/- Part of the proof: Pm14. -/
namespace Go.Pm
def AR (X:Cfg) (nt:Nat) (ops:Array Oper) (Q:Exit→Env→St→Prop) (rest:List Oper) (env:Env) (σ:St):Prop:=
 ∀(F:FH) (η:Et) (a:Act) (w:World),GRel X F→Rel F η nt env σ a w→wpList X.P ops (Post X nt F η σ w Q) rest a w
theorem Je {a b:Nat} (h:Nat.blt a b=true):a<b:=by rwa [Nat.blt_eq]at h
section regs
variable {X:Cfg} {nt:Nat} {ops:Array Oper} {rest:List Oper} {Q:Exit→Env→St→Prop} {K:AV→St→Prop} {env:Env} {σ σ':St} {dst:Option Tmp} {op:Op} {ty:TypeId} {pos:String} {after:Array Edge} {j d:Nat} {b want:Bool} {r:AV}
theorem Jd {id:Nat} (h:AR X nt ops Q ops.toList env σ):Ok X nt (.region id ops false) Q env σ:=
 fun F η a w hg hr=>wp_region_list (h F η a w hg hr)
theorem J9L (h:Q .normal env σ):AR X nt ops Q [] env σ:=
 fun F η a w hg hr=>⟨F,η,env,σ,.refl _ _ _ _,hg,hr,h⟩
theorem Jaw {env':Env} (t:Turn X nt env σ env' σ') (h:AR X nt ops Q rest env' σ'):AR X nt ops Q rest env σ:=by
 intro F η a w hg hr
 obtain⟨F1,η1,s1,g1,r1⟩:=t F η a w hg hr
 exact J0O (fun _ _ _ hp=>hp.of_step s1) _ _ _ (h F1 η1 a w g1 r1)
theorem Jbs {F:FH} {η:Et} {a:Act} {w:World} {o:Oper} (hg:GRel X F) (hr:Rel F η nt env σ a w) (hd:o.dst.all (·<nt)=true) (h:aoper X o.op env σ Q (fun v σ'=>AR X nt ops Q rest (put env o.dst v) σ')):
  o.wp X.P a w (wpList X.P ops (Post X nt F η σ w Q) rest) (Post X nt F η σ w Q):=by
 refine J9J hg hr hd h ?_
 intro F' η' x v σ' w' hs hg' hr' hv hk
 exact J0O (fun _ _ _ hp=>hp.of_step hs) rest _ _ (hk F' η' (a.put o.dst v) w' hg' (hr'.put hd hv))
theorem J6b (hd:dst.all (·<nt)=true) (h:aoper X op env σ Q (fun v σ'=>AR X nt ops Q rest (put env dst v) σ')):AR X nt ops Q (⟨dst,op,ty,pos,after,none⟩::rest) env σ:=by
 intro F η a w hg hr
 unfold wpList
 rw[if_pos (by simp[Region.wanted])]
 exact .inl (Jbs (o:=⟨dst,op,ty,pos,after,none⟩) hg hr hd h)
theorem JS {F:FH} {η:Et} {a:Act} {w:World} (hr:Rel F η nt env σ a w) (hj:(ops[j]?).bind (·.dst)=some d) (hn:d<nt) {v:Value} (hb:env d=.d (.s v)):
  (ops[j]?).bind (·.dst)=some d∧a.tmps[d]? = some v:=by
 refine⟨hj,?_⟩
 have hen:=hr.en d
 rw[hb]at hen
 have hv:=hen.s_inv
 have hlt:d<a.tmps.size:=by rw[hr.sz];exact hn
 have hget:a.tmps[d]? = some (a.tmps.getD d undef):=by simp[hlt,Array.getD]
 rw[hget,hv]
theorem J5S (hj:(ops[j]?).bind (·.dst)=some d) (hn:d<nt) (hb:env d=.d (.s (.bool want))) (hd:dst.all (·<nt)=true) (h:aoper X op env σ Q (fun v σ'=>AR X nt ops Q rest (put env dst v) σ')):
  AR X nt ops Q (⟨dst,op,ty,pos,after,some (j,want)⟩::rest) env σ:=by
 intro F η a w hg hr
 obtain⟨h1,h2⟩:=JS hr hj hn hb
 have hy:yielded ops a.tmps j=some want:=by unfold yielded;rw[h1,Option.bind_some,h2]
 unfold wpList
 rw[if_pos (by simp[Region.wanted,hy])]
 exact .inl (Jbs (o:=⟨dst,op,ty,pos,after,some (j,want)⟩) hg hr hd h)
theorem J3E (hj:(ops[j]?).bind (·.dst)=some d) (hn:d<nt) (hb:env d=.d (.s (.bool b))) (hne:b = !want) (hd:dst.all (·<nt)=true)
  (h:AR X nt ops Q rest (put env dst (.d (.s undef))) σ):AR X nt ops Q (⟨dst,op,ty,pos,after,some (j,want)⟩::rest) env σ:=by
 intro F η a w hg hr
 obtain⟨h1,h2⟩:=JS hr hj hn hb
 have hy:yielded ops a.tmps j=some b:=by unfold yielded;rw[h1,Option.bind_some,h2]
 unfold wpList
 rw[if_neg (by simp[Region.wanted,hy,hne])]
 exact h F η (a.put dst undef) w hg (hr.put hd (.d (.s _)))
theorem J9I (hj:(ops[j]?).bind (·.dst)=some d) (hn:Nat.blt d nt=true) (hb:env d=.d (.s undef)) (hd:dst.all (·<nt)=true)
  (h:AR X nt ops Q rest (put env dst (.d (.s undef))) σ):AR X nt ops Q (⟨dst,op,ty,pos,after,some (j,want)⟩::rest) env σ:=by
 intro F η a w hg hr
 obtain⟨h1,h2⟩:=JS hr hj (Je hn) hb
 have hy:yielded ops a.tmps j=none:=by unfold yielded;rw[h1,Option.bind_some,h2];rfl
 unfold wpList
 rw[if_neg (by simp[Region.wanted,hy])]
 exact h F η (a.put dst undef) w hg (hr.put hd (.d (.s _)))
theorem J9G (hj:(ops[j]?).bind (·.dst)=some d) (hn:Nat.blt d nt=true) (hb:env d=.d (.s (.bool b))) (hd:dst.all (·<nt)=true) (hw:b=want) (h:aoper X op env σ Q (fun v σ'=>AR X nt ops Q rest (put env dst v) σ')):
  AR X nt ops Q (⟨dst,op,ty,pos,after,some (j,want)⟩::rest) env σ:=by subst hw;exact J5S hj (Je hn) hb hd h
theorem J8B (hj:(ops[j]?).bind (·.dst)=some d) (hn:Nat.blt d nt=true) (hb:env d=.d (.s (.bool b))) (hd:dst.all (·<nt)=true) (hw:b=false) (h:AR X nt ops Q rest (put env dst (.d (.s undef))) σ):
  AR X nt ops Q (⟨dst,op,ty,pos,after,some (j,true)⟩::rest) env σ:=by subst hw;exact J3E hj (Je hn) hb rfl hd h
theorem J8M (hj:(ops[j]?).bind (·.dst)=some d) (hn:Nat.blt d nt=true) (hb:env d=.d (.s (.bool b))) (hd:dst.all (·<nt)=true) (hw:b=true) (h:AR X nt ops Q rest (put env dst (.d (.s undef))) σ):
  AR X nt ops Q (⟨dst,op,ty,pos,after,some (j,false)⟩::rest) env σ:=by subst hw;exact J3E hj (Je hn) hb rfl hd h
theorem J7j (hj:(ops[j]?).bind (·.dst)=some d) (hn:Nat.blt d nt=true) (hb:env d=.d (.s (.bool b))) (hd:dst.all (·<nt)=true)
  (h1:b=true→aoper X op env σ Q (fun v σ'=>AR X nt ops Q rest (put env dst v) σ')) (h2:b=false→AR X nt ops Q rest (put env dst (.d (.s undef))) σ):AR X nt ops Q (⟨dst,op,ty,pos,after,some (j,true)⟩::rest) env σ:=by
 cases b
 ·exact J3E hj (Je hn) hb rfl hd (h2 rfl)
 ·exact J5S hj (Je hn) hb hd (h1 rfl)
theorem J7J (hj:(ops[j]?).bind (·.dst)=some d) (hn:Nat.blt d nt=true) (hb:env d=.d (.s (.bool b))) (hd:dst.all (·<nt)=true)
  (h1:b=false→aoper X op env σ Q (fun v σ'=>AR X nt ops Q rest (put env dst v) σ')) (h2:b=true→AR X nt ops Q rest (put env dst (.d (.s undef))) σ):AR X nt ops Q (⟨dst,op,ty,pos,after,some (j,false)⟩::rest) env σ:=by
 cases b
 ·exact J5S hj (Je hn) hb hd (h1 rfl)
 ·exact J3E hj (Je hn) hb rfl hd (h2 rfl)
theorem J8I {c x y:Operand} {u:AV} (hc:aev X env c=.d (.s (.bool b))) (hb:b=true) (hx:(aev X env x).force=some u) (h1:K u σ):aoper X (.pick c x y) env σ Q K:=
 ⟨true,by rw[←hb];exact hc,by rw[←J0c hx]at h1;exact h1⟩
theorem J8b {c x y:Operand} {u:AV} (hc:aev X env c=.d (.s (.bool b))) (hb:b=false) (hx:(aev X env y).force=some u) (h1:K u σ):aoper X (.pick c x y) env σ Q K:=
 ⟨false,by rw[←hb];exact hc,by rw[←J0c hx]at h1;exact h1⟩
theorem J2I (h:astep X env σ op=some (r,σ')) (hk:K r σ'):aoper X op env σ Q K:=J9l h hk
theorem J3Q {n:Int} (h:-9223372036854775808≤n) (h':n≤9223372036854775807):IntKind.i64.wrap n=n:=by
 rw[IntKind.wrap_i64];omega
theorem J6h {t ty:TypeId} {x y:Operand} {o:BinOp} {u v r:Value} (hx:aev X env x=.d (.s u)) (hy:aev X env y=.d (.s v)) (h:abin o u v=some r) (hk:K (.d (.s r)) σ):
  aoper X (.binOp o t x y ty) env σ Q K:=by
 simp only[aoper,aop,abinop,hx,hy,h]
 exact hk
theorem Jc0 {t ty:TypeId} {x y:Operand} {m n:Int} (hx:aev X env x=vi m) (hy:aev X env y=vi n) (h:-9223372036854775808≤m+n∧m+n≤9223372036854775807)
  (hk:K (vi (m+n)) σ):aoper X (.binOp .add t x y ty) env σ Q K:=
 J6h hx hy (by simp only[abin,if_true,J3Q h.1 h.2]) hk
theorem J93 {t ty:TypeId} {x y:Operand} {m n:Int} (hx:aev X env x=vi m) (hy:aev X env y=vi n) (h:-9223372036854775808≤m-n∧m-n≤9223372036854775807)
  (hk:K (vi (m-n)) σ):aoper X (.binOp .sub t x y ty) env σ Q K:=
 J6h hx hy (by simp only[abin,if_true,J3Q h.1 h.2]) hk
theorem JaT {k:FuncId} {args:List AV} {c:Call} {f:Operand} (h:PFun X k args r) (hc:c.callee=.value f) (hf:aev X env f=.d (.s (.func (.func k) #[] #[]))) (ha:c.args.toList.map (aev X env)=args)
  (hk:K r σ):aoper X (.call c) env σ Q K:=by
 obtain⟨callee,as,tys⟩:=c
 simp only at hc ha
 subst hc
 subst ha
 simp only[aoper,hf,acallee,acall]
 refine⟨trivial,trivial,(h.at σ).mono ?_⟩
 rintro E σ' ⟨rfl,rfl⟩
 exact hk
theorem JbH {α:Type} {e:α→List D} {l:List α} {ti:TI} {el:TypeId} {as:Array Operand} {ts:Array TypeId} {x:Operand} {t:TypeId} (hx:aev X env x=.d (.im (l.map e))) (h1:as.toList=[x]) (h2:ts.toList=[t])
  (ht:X.T t=some ti) (hk':ti.kind=.slice el) (hk:K (vi l.length) σ):aoper X (.call ⟨.builtin .len,as,ts⟩) env σ Q K:=by
 simp only[aoper,h1,h2,abuiltin,alen]
 refine⟨ti,ht,?_⟩
 simp only[hk',hx,List.length_map]
 exact hk
theorem J7M {α:Type} {e:α→List D} {l:List α} {y:α} {k:Nat} {ti te:TI} {el:TypeId} {t:TypeId} {x i:Operand} (hx:aev X env x=.d (.im (l.map e))) (hi:aev X env i=vi (k:Int)) (hl:l[k]? = some y)
  (ht:X.T t=some ti) (hk':ti.kind=.slice el) (hte:X.T el=some te) (hs:(e y).length=te.size) (hk:K (.d (.ip (e y) 0)) σ):aoper X (.indexAddr t x i) env σ Q K:=by
 simp only[aoper,aop,aindexAddr]
 have hlt:k<l.length:=(List.getElem?_eq_some_iff.1 hl).1
 refine⟨k,⟨_,hi⟩,Int.natCast_nonneg k,ti,ht,?_⟩
 simp only[hk',hx]
 exact⟨by simp;omega,te,hte,e y,by simp[hl],hs,hk⟩
def envL:List (Nat×AV)→Env
 |[],_=>.any
 |(k,v)::l,t=>if t=k then v else envL l t
def stL (l:List (Option AO)):St:=⟨fun i=>(l[i]?).join,l.length⟩
def LowEnv (env:Env) (n:Nat):List (Nat×AV)→Prop
 |[]=>True
 |(k,v)::l=>(env k=v∧low n v=true)∧LowEnv env n l
def LowSt (σ:St) (n:Nat):Nat→List (Option AO)→Prop
 |_,[]=>True
 |i,none::l=>LowSt σ n (i+1) l
 |i,some o::l=>(σ.obj i=some o∧o.low n)∧LowSt σ n (i+1) l
theorem J5t {n:Nat}:∀{L:List (Nat×AV)},LowEnv env n L→∀t,envL L t=.any∨(envL L t=env t∧low n (env t)=true)
 |[],_,t=>.inl rfl
 |(k,v)::l,h,t=>by
  simp only[envL]
  by_cases ht:t=k
  ·subst ht
   rw[if_pos rfl]
   exact .inr ⟨h.1.1.symm,by rw[h.1.1];exact h.1.2⟩
  ·rw[if_neg ht];exact J5t h.2 t
theorem J4L {n:Nat}:∀{L:List (Option AO)} {i:Nat},LowSt σ n i L→∀j o,(L[j]?).join=some o→σ.obj (i+j)=some o∧o.low n
 |[],_,_,j,o,h=>by simp at h
 |none::l,i,hs,j,o,h=>by
  cases j with
  |zero=>simp at h
  |succ j=>
   have:=J4L (L:=l) (i:=i+1) hs j o (by simpa using h)
   rwa [show i+1+j=i+(j+1) by omega]at this
 |some x::l,i,hs,j,o,h=>by
  cases j with
  |zero=>simp at h;subst h;exact hs.1
  |succ j=>
   have:=J4L (L:=l) (i:=i+1) hs.2 j o (by simpa using h)
   rwa [show i+1+j=i+(j+1) by omega]at this
theorem Jh {L:List (Nat×AV)} {O:List (Option AO)} (hn:O.length≤σ.next) (he:LowEnv env O.length L) (ho:LowSt σ O.length 0 O):Low env σ (envL L) (stL O):=by
 refine⟨hn,fun i o h=>?_,J5t he⟩
 have h':=J4L ho i o h
 rw[Nat.zero_add]at h'
 refine⟨?_,h'⟩
 have h1:(O[i]?).join=some o:=h
 rcases Nat.lt_or_ge i O.length with hlt|hge
 ·exact hlt
 ·rw[List.getElem?_eq_none hge]at h1;cases h1
def WeakEnv (z:Option (Nat×Nat×List (List D))) (env:Env):List (Nat×AV)→Prop
 |[]=>True
 |(k,v)::l=>Frz z (env k) v∧WeakEnv z env l
def WeakSt (z:Option (Nat×Nat×List (List D))) (σ:St):Nat→List (Option AO)→Prop
 |_,[]=>True
 |i,none::l=>WeakSt z σ (i+1) l
 |i,some o::l=>(z.all (fun y=>y.1 != i)=true∧∃o0,σ.obj i=some o0∧OFrz z o0 o)∧WeakSt z σ (i+1) l
theorem Js {z:Option (Nat×Nat×List (List D))}:∀{L:List (Nat×AV)},WeakEnv z env L→∀t,Frz z (env t) (envL L t)
 |[],_,t=>.any _
 |(k,v)::l,h,t=>by
  simp only[envL]
  by_cases ht:t=k
  ·subst ht;rw[if_pos rfl];exact h.1
  ·rw[if_neg ht];exact Js h.2 t
theorem J3g {z:Option (Nat×Nat×List (List D))}:∀{L:List (Option AO)} {i:Nat},WeakSt z σ i L→∀j o,(L[j]?).join=some o→z.all (fun y=>y.1 != (i+j))=true∧∃o0,σ.obj (i+j)=some o0∧OFrz z o0 o
 |[],_,_,j,o,h=>by simp at h
 |none::l,i,hs,j,o,h=>by
  cases j with
  |zero=>simp at h
  |succ j=>
   have:=J3g (L:=l) (i:=i+1) hs j o (by simpa using h)
   rwa [show i+1+j=i+(j+1) by omega]at this
 |some x::l,i,hs,j,o,h=>by
  cases j with
  |zero=>simp at h;subst h;exact hs.1
  |succ j=>
   have:=J3g (L:=l) (i:=i+1) hs.2 j o (by simpa using h)
   rwa [show i+1+j=i+(j+1) by omega]at this
theorem Jg {L:List (Nat×AV)} {O:List (Option AO)} (hn:O.length=σ.next) (he:WeakEnv none env L) (ho:WeakSt none σ 0 O):Turn X nt env σ (envL L) (stL O):=
 J5E hn (fun j o h=>by have:=(J3g ho j o h).2;rwa [Nat.zero_add]at this) (Js he)
end regs
theorem Jj {X:Cfg} {f:FuncId} {fn:Func} {c:Code} {nt:Nat} {rs:Array ResultVar} {args:List AV} {r:AV} (hf:X.P.funcs[f]? = some fn) (hb:fn.body=some c)
  (hn:(fn.name == "runtime.NumGoroutine")=false) (hnt:fn.ntmps=nt) (hrs:fn.results=rs) (hle:args.length≤nt) (h1:lows 0 args=true) (h2:low 0 r=true)
  (h:Ok X nt c (endQ X rs.toList fun E _=>E=.ret r) (env0 args) St.nil):PFun X f args r:=
 ⟨h1,h2,Jx hf hb hn hnt hrs hle h⟩
theorem JbS {X:Cfg} {nt:Nat} {Q:Exit→Env→St→Prop} {env:Env} {σ:St} {c:Operand} {x y:Code} {b:Bool} (hb:aev X env c=.d (.s (.bool b))) (hw:b=true) (h:Ok X nt x Q env σ):Ok X nt (.cond c x y) Q env σ:=
 J4q hb (fun _=>h) (fun h'=>by rw[hw]at h';cases h')
theorem JbD {X:Cfg} {nt:Nat} {Q:Exit→Env→St→Prop} {env:Env} {σ:St} {c:Operand} {x y:Code} {b:Bool} (hb:aev X env c=.d (.s (.bool b))) (hw:b=false) (h:Ok X nt y Q env σ):Ok X nt (.cond c x y) Q env σ:=
 J4q hb (fun h'=>by rw[hw]at h';cases h') (fun _=>h)
theorem Ja {id:Nat} {Q:Exit→Env→St→Prop} {env:Env} {σ:St} (h:Q .ret env σ):inBlock id Q .ret env σ:=h
theorem J8 {K:Env→St→Prop} {Q:Exit→Env→St→Prop} {env:Env} {σ:St} (h:Q .ret env σ):andThen K Q .ret env σ:=h
theorem J6E {id:Nat} {K:Env→St→Prop} {Q:Exit→Env→St→Prop} {env:Env} {σ:St} (h:Q (.exit id) env σ):andThen K Q (.exit id) env σ:=h
theorem J6 {id:Nat} {Q:Exit→Env→St→Prop} {env:Env} {σ:St} (h:Q .normal env σ):inBlock id Q .normal env σ:=h
theorem Jb {id:Nat} {Q:Exit→Env→St→Prop} {env:Env} {σ:St} (h:Q .normal env σ):inBlock id Q (.exit id) env σ:=by simp only[inBlock,if_true];exact h
theorem J3 {K:Env→St→Prop} {Q:Exit→Env→St→Prop} {env:Env} {σ:St} (h:K env σ):andThen K Q .normal env σ:=h
theorem ret1 {X:Cfg} {t:Nat} {K:AEnd→St→Prop} {x:AV} {env:Env} {σ:St} (h:(env t).force=some x) (hx:K (.ret x) σ):endQ X #[.tmp t].toList K .ret env σ:=by
 rw[←J0c h]at hx;exact hx
end Go.Pm
namespace Go.Pm
theorem Jm {α:Type} {l:List α} {k:Nat} (h:l[k]? = none):l.drop k=[]:=by
 rw[List.getElem?_eq_none_iff]at h
 exact List.drop_eq_nil_of_le h
theorem Jc {α:Type} {l:List α} {k:Nat} {x:α} (h:l[k]? = some x):l.drop k=x::l.drop (k+1)∧k<l.length:=by
 obtain⟨h1,h2⟩:=List.getElem?_eq_some_iff.1 h
 exact⟨by rw[List.drop_eq_getElem_cons h1,h2],h1⟩
theorem Jk {α:Type} {l:List α} {k:Nat} (h:l[k]? = none):l.length≤k:=List.getElem?_eq_none_iff.1 h
theorem Ji {a b:Bool} (h:a=b):AEnd.ret (vb a)=AEnd.ret (vb b):=by rw[h]
theorem Jw {a b:Int} (h:a=b):AEnd.ret (vi a)=AEnd.ret (vi b):=by rw[h]
end Go.Pm
