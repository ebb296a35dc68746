/- Part of the proof: Pm28. -/
import Derived.Test.YtdjanhhljinokaaGreatDoorT8
import Derived.Sort.Grow
import Derived.Deep.Draws
import Derived.Laws.IdiomStrings
import Derived.Test.YtdjanhhljinokaaGreatDoorT6
import Derived.Below
set_option linter.unusedVariables false
set_option linter.unusedSimpArgs false
namespace Go.Pm
attribute [local irreducible] AR Ok inBlock andThen endQ aoper
theorem AFun.wf {X:Cfg} {f:FuncId} {args:List AV} {σ:St} {K:AEnd→St→Prop} (hc:CallOk X.P f) (h:(∀i o,σ.obj i=some o→i<σ.next)→AFun X f args σ K):AFun X f args σ K:=
 ⟨hc,fun F η w vals hg hf hs=>(h hs.lt).2 F η w vals hg hf hs⟩
mutual
theorem J4c:∀x:AV,ren (fun j=>j) x=x
 |.d _=>rfl
 |.agg cs=>by simp only[ren,J16 cs]
 |.tup cs=>by simp only[ren,J16 cs]
 |.ref _ _=>rfl
 |.sl _ _ _ _=>rfl
 |.ep _ _ _ _=>rfl
 |.mp _=>rfl
 |.it _=>rfl
 |.fn _ cs=>by simp only[ren,J16 cs]
 |.ifc _ x=>by simp only[ren,J4c x]
 |.any=>rfl
theorem J16:∀cs:List AV,rens (fun j=>j) cs=cs
 |[]=>rfl
 |c::cs=>by simp only[rens,J4c c,J16 cs]
end
theorem J7e (o:AO):renO (fun j=>j) o=o:=by
 cases o with
 |var cells=>simp only[renO,J16]
 |row v E sz rows=>
  simp only[renO]
  congr 1
  rw[show rows.map (rens fun j=>j)=rows.map id from List.map_congr_left fun r _=>J16 r]
  exact List.map_id _
 |map k es=>
  simp only[renO]
  congr 1
  rw[show(es.map fun e=>(e.1,ren (fun j=>j) e.2))=es.map id from List.map_congr_left fun e _=>by rw[J4c];rfl]
  exact List.map_id _
 |iter o=>rfl
 |box o=>rfl
section
variable {X:Cfg} {nt:Nat} {ops:Array Oper} {T:Nat→Prop} {es:List Nat} {n:Nat} {rest:List Oper} {Q:Exit→Env→St→Prop} {env:Env} {σ σ':St} {dst:Option Tmp} {op:Op} {ty:TypeId} {pos:String} {after:Array Edge} {r:AV}
theorem Wq (h:∀σ',(∀j,T j→σ'.obj j=σ.obj j)→aoper X op env σ' (fun _ _ _=>False) fun v σ2=>σ2=σ'∧v=r) (k:ADE X nt ops T es Q (n+1) rest (put env dst r) σ)
  (hd:dst.all (·<nt)=true:=by exact rfl) (hne:es.contains n=false:=by exact rfl):ADE X nt ops T es Q n (⟨dst,op,ty,pos,after,none⟩::rest) env σ:=
 J1X (o:=⟨dst,op,ty,pos,after,none⟩) ⟨hd,h⟩ k hne
end
def OwnL (n:Nat):List AV→List AV→Prop
 |[],[]=>True
 |x::xs,y::ys=>Own n x y∧OwnL n xs ys
 |_,_=>False
theorem OwnL.get {n:Nat}:∀{cs cs':List AV},OwnL n cs cs'→cs'.length=cs.length∧∀j (h1:j<cs.length) (h2:j<cs'.length),Own n cs[j] cs'[j]
 |[],[],_=>⟨rfl,fun j h=>by simp at h⟩
 |x::xs,y::ys,h=>by
  obtain⟨h1,h2⟩:=OwnL.get h.2
  refine⟨by simp[h1],fun j a b=>?_⟩
  cases j with
  |zero=>exact h.1
  |succ j=>exact h2 j (by simpa using a) (by simpa using b)
 |[],_::_,h=>h.elim
 |_::_,[],h=>h.elim
theorem J0t {X:Cfg} {nt:Nat} {env:Env} {σ:St} (i E sz:Nat) {cs cs':List AV} (hp:Nat.blt 0 sz=true) (h:σ.obj i=some (.var cs)) (hi:(i == σ.next)=false) (hc:OwnL σ.next cs cs'):Turn X nt env σ env ((σ.alloc (.row σ.next E sz [])).set i (.var cs')):=by
 have hi:i≠σ.next:=by simpa using hi
 refine J7x E sz (Je hp) rfl (by rw[St.obj_set,if_neg (Ne.symm hi),St.obj_alloc,if_pos rfl]) (fun j o' hj ho=>?_) fun t=>.refl _
 rw[St.obj_set]at ho
 by_cases hji:j=i
 ·subst hji
  rw[if_pos rfl]at ho
  cases ho
  exact⟨_,h,hc.get⟩
 ·rw[if_neg hji,St.obj_alloc,if_neg hj]at ho
  refine⟨o',ho,?_⟩
  cases o' with
  |var cs=>exact⟨rfl,fun j h1 h2=>.refl _⟩
  |row=>rfl
  |map=>rfl
  |iter=>rfl
  |box=>rfl
theorem J2j {X:Cfg} {nt:Nat} {env:Env} {σ:St} (t E sz:Nat) (hp:Nat.blt 0 sz=true) (h:env t=.d (.s (.slice none 0 0)):=by exact rfl):Turn X nt env σ (put env (some t) (.sl σ.next σ.next 0 0)) (σ.alloc (.row σ.next E sz [])):=by
 refine J7x E sz (Je hp) rfl (by rw[St.obj_alloc,if_pos rfl]) (fun j o' hj ho=>?_) fun t'=>?_
 ·rw[St.obj_alloc,if_neg hj]at ho
  refine⟨o',ho,?_⟩
  cases o' with
  |var cs=>exact⟨rfl,fun j h1 h2=>.refl _⟩
  |row=>rfl
  |map=>rfl
  |iter=>rfl
  |box=>rfl
 ·rw[J7v]
  by_cases ht:t'=t
  ·subst ht;rw[if_pos rfl,h];exact .nil
  ·rw[if_neg ht];exact .refl _
section
variable {X:Cfg} {nt:Nat} {Q:Exit→Env→St→Prop} {K:AV→St→Prop} {env:Env} {σ:St}
theorem Yl2 {α:Type} {e:α→List D} {J:List α} (m:List α) {xrows:List (List D)} {as:Array Operand} {ts:Array TypeId} {s x:Operand} {t tx el i v n hi bb:Nat} {ti te tix:TI} (hle:hi≤J.length) (h:K (.sl i n 0 (hi+m.length)) (bumpSet σ i (.row n el te.size (im2 e (J.take hi++m)))))
  (h1:as.toList=[s,x]:=by exact rfl) (h2:ts.toList=[t,tx]:=by exact rfl) (hs:aev X env s=.sl i v 0 hi:=by exact rfl) (ht:X.T t=some ti:=by exact rfl) (hk:ti.kind=.slice el:=by exact rfl) (hte:X.T el=some te:=by exact rfl) (hp:Nat.blt 0 te.size=true:=by exact rfl) (hpb:Nat.blt 0 te.bytes=true:=by exact rfl)
  (htx:X.T tx=some tix:=by exact rfl) (hkx:tix.kind=.slice el:=by exact rfl) (ho:σ.obj i=some (.row v el te.size (im2 e J)):=by exact rfl) (hx:aev X env x=.d (.im xrows):=by exact rfl) (hxr:xrows=m.map e:=by exact rfl) (hsz:∀y:α,(e y).length=te.size:=by exact fun _=>rfl) (hn:natF σ.next=some n:=by exact rfl)
  (hbb:te.bytes=bb:=by exact rfl) (hb:(hi+m.length)*bb≤140737488355328:=by first|omega|(simp only[List.length_cons,List.length_nil,List.length_append];omega)):
  aoper X (.call ⟨.builtin .append,as,ts⟩) env σ Q K:=by
 subst hbb
 have hn:=J0R hn
 subst hn
 subst hxr
 simp only[aoper,h1,h2,abuiltin,aappend]
 refine⟨ti,ht,el,te,hk,hte,Je hp,Je hpb,tix,htx,im2 e m,by rw[hkx,hx];rfl,?_,?_⟩
 ·intro r hr
  simp only[im2,List.map_map,List.mem_map,Function.comp]at hr
  obtain⟨y,_,rfl⟩:=hr
  simp[hsz]
 ·simp only[hs]
  refine⟨trivial,im2 e J,ho,by rw[JK];exact hle,by rw[JK];exact hb,?_⟩
  have e1:(im2 e J).take hi++im2 e m=im2 e (J.take hi++m):=by simp[im2,List.map_take]
  rw[e1,JK]
  exact h
theorem app3 {α:Type} {e:α→List D} {l:List α} {y:α} {i h k v t tx el sz:Nat} {ti te tix:TI} {s x:Operand} {as:Array Operand} {ts:Array TypeId} (ho:σ.obj i=some (.row h el sz (im2 e l))) (hk:σ.obj k=some (.row v el sz [(e y).map .d])) (hf:∀z,(e z).length=sz)
  (hK:K (.sl i σ.next 0 (l.length+1)) (bumpSet σ i (.row σ.next el sz (im2 e (l++[y])))))
  (h1:as.toList=[s,x]:=by exact rfl) (h2:ts.toList=[t,tx]:=by exact rfl) (hs:aev X env s=.sl i h 0 l.length:=by exact rfl) (hx:aev X env x=.sl k v 0 1:=by exact rfl) (ht:X.T t=some ti:=by exact rfl) (hkd:ti.kind=.slice el:=by exact rfl) (hte:X.T el=some te:=by exact rfl) (hsz:te.size=sz:=by exact rfl) (hp:Nat.blt 0 sz=true:=by exact rfl)
  (hpb:Nat.blt 0 te.bytes=true:=by exact rfl) (htx:X.T tx=some tix:=by exact rfl) (hkx:tix.kind=.slice el:=by exact rfl) (hbb:Nat.ble te.bytes 1024=true:=by exact rfl) (hb:l.length≤2097152:=by omega):aoper X (.call ⟨.builtin .append,as,ts⟩) env σ Q K:=by
 subst hsz
 have hb:(l.length+1)*te.bytes≤140737488355328:=Nat.le_trans (Nat.mul_le_mul (show l.length+1≤2097153 by omega) (Nat.le_of_ble_eq_true hbb)) (by decide)
 simp only[aoper,h1,h2,abuiltin,aappend]
 refine⟨ti,ht,el,te,hkd,hte,Je hp,Je hpb,tix,htx,[(e y).map .d],?_,?_,?_⟩
 ·rw[hkx,hx];simp[srcOf,rowsOf,hk]
 ·intro r hr
  simp only[List.mem_singleton]at hr
  subst hr;simp[hf y]
 ·simp only[hs,List.length_singleton]
  refine⟨trivial,_,ho,by rw[JK];exact Nat.le_refl _,hb,?_⟩
  have e1:(im2 e l).take l.length++[(e y).map .d]=im2 e (l++[y]):=by rw[List.take_of_length_le (by rw[JK];exact Nat.le_refl _)];simp[im2]
  rw[e1]
  exact hK
end
end Go.Pm
/- Part of the proof: Pm29. -/
namespace Go.Pm
attribute [local irreducible] AR Ok inBlock andThen endQ aoper
theorem J1I {X:Cfg} {nt:Nat} {Q:Exit→Env→St→Prop} {env:Env} {σ:St} {c1 c2:Code} (E:Env) (S:St) (h1:Ok X nt c1 (fun e env σ=>e=.normal∧Turn X nt env σ E S) env σ) (h2:Ok X nt c2 Q E S):Ok X nt (.seq c1 c2) Q env σ:=by
 refine J6 (J8m h1 ?_)
 rintro e env' σ' ⟨rfl,ht⟩
 exact J3 (JC ht h2)
def subc:List Bool→Code→Code
 |[],c=>c
 |d::p,.seq a b=>subc p (if d then b else a)
 |d::p,.cond _ a b=>subc p (if d then b else a)
 |_::p,.block _ c=>subc p c
 |_::p,.loop c=>subc p c
 |_,c=>c
def roadTo (id:Nat):Code→Option (List Bool)
 |.seq a b=>((roadTo id a).map (false::·)).or ((roadTo id b).map (true::·))
 |.cond _ a b=>((roadTo id a).map (false::·)).or ((roadTo id b).map (true::·))
 |.block i c=>if i=id then some [false]else(roadTo id c).map (false::·)
 |.loop c=>(roadTo id c).map (false::·)
 |_=>none
end Go.Pm
/- Part of the proof: Pm30. -/
namespace Go.Pm
attribute [local irreducible] AR Ok inBlock andThen endQ aoper
theorem PFun.lend {X:Cfg} {f:FuncId} {args args':List AV} {v:Value} (h:PFun X f args' (.d (.s v))) (σ:St) (hl:args'.length=args.length) (ha:∀j (h1:j<args.length) (h2:j<args'.length),AFz σ args[j] args'[j]):
  AFun X f args σ fun E σ'=>E=.ret (.d (.s v))∧σ'=σ:=by
 obtain⟨_,_,hc,h⟩:=h
 refine⟨hc,fun F η w vals hg hf hs hn hv=>?_⟩
 have hle:=FH.le_all hs
 have hfa:FRel (F.all η σ w) w:=by
  intro b o hb
  unfold FH.all at hb
  split at hb
  ·exact hb
  ·exact hf b o hb
 refine(h (F.all η σ w) η w vals (hg.mono hle) hfa (SRel.nil _ η w) (by rw[hn,hl]) fun j hj=>J49 hs (ha j (by omega) hj) (hv j (by omega))).mono ?_
 rintro e w' ⟨F',η',σ',E,h1,h2,h3,h4,rfl⟩
 have hfm:∀b,b<w.heap.size→w'.heap[b]? = w.heap[b]?:=fun b hb=>h1.fm b hb fun i o ho=>by simp[St.nil]at ho
 refine⟨F,η,σ,.ret (.d (.s v)),⟨F.le_refl,Et.agree_refl _ _,Nat.le_refl _,h1.gr,fun b hb _=>hfm b hb,fun i o b ho hb _=>⟨i,o,ho,hb⟩,fun b o hb _=>.inl hb⟩,?_,⟨hs.lt,fun i o ho=>?_,hs.ap,hs.fr⟩,?_,rfl,rfl⟩
 ·intro b o hb
  have h0:=hf b o hb
  have hlt:b<w.heap.size:=by
   by_cases hh:b<w.heap.size
   ·exact hh
   ·rw[Array.getElem?_eq_none (by omega)]at h0;cases h0
  rw[hfm b hlt];exact h0
 ·exact(hs.ob i o ho).mono (hs.lt i o ho) F.le_refl (Et.agree_refl _ _) (Nat.le_refl _) fun b hb=>hfm b ((hs.ob i o ho).own_lt hb)
 ·cases e with
  |returned u=>
   have h5:VRel F' η' σ'.next (.d (.s v)) u:=h4
   have:=h5.s_inv
   subst this
   exact .d (.s _)
  |panicked c=>exact h4.elim
  |outgrown=>exact h4.elim
def AFzL (σ:St):List AV→List AV→Prop
 |[],[]=>True
 |x::l,y::m=>AFz σ x y∧AFzL σ l m
 |_,_=>False
theorem AFzL.get {σ:St}:∀{l m:List AV},AFzL σ l m→m.length=l.length∧∀j (h1:j<l.length) (h2:j<m.length),AFz σ l[j] m[j]
 |[],[],_=>⟨rfl,fun j h1=>by simp at h1⟩
 |x::l,y::m,h=>by
  obtain⟨h1,h2⟩:=h.2.get
  refine⟨by simp[h1],fun j h3 h4=>?_⟩
  cases j with
  |zero=>exact h.1
  |succ j=>exact h2 j (by simpa using h3) (by simpa using h4)
 |[],_::_,h=>h.elim
 |_::_,[],h=>h.elim
theorem PFun.lendL {X:Cfg} {f:FuncId} {args args':List AV} {v:Value} (h:PFun X f args' (.d (.s v))) {σ:St} (ha:AFzL σ args args'):AFun X f args σ fun E σ'=>E=.ret (.d (.s v))∧σ'=σ:=
 h.lend σ ha.get.1 ha.get.2
theorem JaZ {σ:St} (l:List D):AFz σ (.agg (l.map .d)) (.agg (l.map .d)):=by
 refine .agg rfl fun j h1 h2=>?_
 simp only[List.getElem_map]
 exact .data (.d _)
theorem J69 {σ:St} (x:D):AFz σ (.d x) (.d x):=.data (.d x)
theorem JT {α:Type} {l:List α} {k:Nat} {x:α} (h:l[k]? = some x):l.take (k+1)=l.take k++[x]:=by rw[List.take_add_one,h];rfl
section
variable {X:Cfg} {nt:Nat} {ops:Array Oper} {rest:List Oper} {Q:Exit→Env→St→Prop} {env:Env} {σ:St} {dst:Option Tmp} {op:Op} {ty:TypeId} {pos:String} {after:Array Edge} {j d:Nat} {b want:Bool} {r:AV} {K:AV→St→Prop}
theorem Ua (k:AD X nt ops Q σ rest (put env dst r)) (hj:(ops[j]?).bind (·.dst)=some d:=by exact rfl) (hn:Nat.blt d nt=true:=by exact rfl) (hb:env d=.d (.s (.bool b)):=by exact rfl) (hd:dst.all (·<nt)=true:=by exact rfl) (hw:b=want:=by with_reducible first|exact rfl|assumption) (h:astep X env σ op=some (r,σ):=by exact rfl):
  AD X nt ops Q σ (⟨dst,op,ty,pos,after,some (j,want)⟩::rest) env:=J72 hj hn hb hd hw (J2k h ⟨rfl,rfl⟩) k
theorem Ub (k:AD X nt ops Q σ rest (put env dst (.d (.s undef)))) (hj:(ops[j]?).bind (·.dst)=some d:=by exact rfl) (hn:Nat.blt d nt=true:=by exact rfl) (hb:env d=.d (.s (.bool b)):=by exact rfl) (hd:dst.all (·<nt)=true:=by exact rfl) (hw:b=false:=by with_reducible first|exact rfl|assumption):
  AD X nt ops Q σ (⟨dst,op,ty,pos,after,some (j,true)⟩::rest) env:=J9B hj hn hb hd hw k
theorem Ue (h:aoper X op env σ (fun _ _ _=>False) fun v σ'=>σ'=σ∧v=r) (k:AD X nt ops Q σ rest (put env dst r)) (hj:(ops[j]?).bind (·.dst)=some d:=by exact rfl) (hn:Nat.blt d nt=true:=by exact rfl) (hb:env d=.d (.s (.bool b)):=by exact rfl) (hd:dst.all (·<nt)=true:=by exact rfl) (hw:b=want:=by with_reducible first|exact rfl|assumption):
  AD X nt ops Q σ (⟨dst,op,ty,pos,after,some (j,want)⟩::rest) env:=J72 hj hn hb hd hw h k
theorem Ysl {α:Type} {e:α→List D} {l:List α} {t el:TypeId} {x y z:Operand} {m n:Int} {ti te:TI} (a b:Nat) (r:List α) (hr:(l.drop a).take (b-a)=r) (hK:K (.d (.im (r.map e))) σ)
  (hx:aev X env x=.d (.im (l.map e)):=by exact rfl) (hy:aev X env y=vi m:=by exact rfl) (hz:aev X env z=vi n:=by exact rfl) (ht:X.T t=some ti:=by exact rfl) (hk:ti.kind=.slice el:=by exact rfl) (hte:X.T el=some te:=by exact rfl) (hsz:∀u:α,(e u).length=te.size:=by exact fun _=>rfl) (ha:m=(a:Int):=by omega) (hb:n=(b:Int):=by omega) (hab:a≤b:=by omega) (hbl:b≤l.length:=by omega):aoper X (.slice t x (some y) (some z) none) env σ Q K:=by
 simp only[aoper,aop,aslice,Option.map_some,optInt]
 rw[hx,hy,hz]
 refine⟨ti,ht,some m,rfl,some n,rfl,?_⟩
 rw[hk]
 subst ha hb hr
 refine⟨by simp,by simpa using hab,by simpa using hbl,⟨te,hte,fun r hr=>?_⟩,?_⟩
 ·obtain⟨u,_,rfl⟩:=List.mem_map.1 hr
  exact hsz u
 ·rw[List.map_take,List.map_drop]at hK
  simpa using hK
theorem Ycv {s t:TypeId} {x:Operand} {ts td:TI} {k k':IntKind} {n:Int} (hk:K (.d (.s (.int k (k.wrap n)))) σ) (hx:aev X env x=.d (.s (.int k' n)):=by exact rfl) (hs:X.T s=some ts:=by exact rfl) (ht:X.T t=some td:=by exact rfl) (hd:td.kind=.int k:=by exact rfl):aoper X (.convert s t x) env σ Q K:=by
 simp only[aoper,aop,aconvert]
 refine⟨ts,hs,td,ht,?_⟩
 rw[hd,hx]
 exact hk
end
end Go.Pm
/- Part of the proof: Gr1. -/
namespace Go.Pm
inductive Br where
 |nd (s:Sm) (yes no:List Br)
mutual
def eBr:Br→List D
 |.nd s yes no=>[.s (.int .i64 s.kind),.s (.string s.name),.s (.int .i64 s.pos),.im (s.outs.map eStr),.im (s.code.map eItm),.im (s.args.map eItms),.im (eBrs yes),.im (eBrs no)]
def eBrs:List Br→List (List D)
 |[]=>[]
 |b::l=>[.ip (eBr b) 0]::eBrs l
end
def eBrP (b:Br):List D:=[.ip (eBr b) 0]
theorem J1S:∀l:List Br,eBrs l=l.map eBrP
 |[]=>rfl
 |b::l=>by simp only[eBrs,List.map_cons,J1S l];rfl
structure Fr where
 s:Sm
 els:Bool
 yes:List Br
 no:List Br
def putF (b:Br):List Fr→List Br→List Fr×List Br
 |[],R=>([],R++[b])
 |f::st,R=>((if f.els then {f with no:=f.no++[b]}else {f with yes:=f.yes++[b]})::st,R)
def growGo:List Sm→List Fr→List Br→Option (List Br)
 |[],[],R=>some R
 |[],_::_,_=>none
 |s::l,st,R=>
  if s.kind=4 then growGo l (⟨s,false,[],[]⟩::st) R
  else if s.kind=5 then
   match st with
   |[]=>none
   |f::st'=>if f.els then none else growGo l ({f with els:=true}::st') R
  else if s.kind=6 then
   match st with
   |[]=>none
   |f::st'=>if f.els then growGo l (putF (.nd f.s f.yes f.no) st' R).1 (putF (.nd f.s f.yes f.no) st' R).2 else none
  else growGo l (putF (.nd s [] []) st R).1 (putF (.nd s [] []) st R).2
def growI (l:List Sm):Option (List Br):=growGo l [] []
structure Gn where
 s:Sm
 y:Nat
 hy:Nat
 n:Nat
 hn:Nat
 yes:List Nat
 no:List Nat
mutual
def trB (nd:Nat→Option Gn) (op:Nat→Bool):Br→Nat→Prop
 |.nd s ys ns,a=>∃g,nd a=some g∧op a=false∧g.s=s∧trL nd op ys g.yes∧trL nd op ns g.no
def trL (nd:Nat→Option Gn) (op:Nat→Bool):List Br→List Nat→Prop
 |[],[]=>True
 |b::bs,a::l=>trB nd op b a∧trL nd op bs l
 |_,_=>False
end
mutual
theorem JaL {nd nd':Nat→Option Gn} {op op':Nat→Bool} (h:∀b g,nd b=some g→op b=false→nd' b=some g∧op' b=false):∀(t:Br) (a:Nat),trB nd op t a→trB nd' op' t a
 |.nd s ys ns,a,ht=>by
  simp only[trB]at ht ⊢
  obtain⟨g,h1,h2,h3,h4,h5⟩:=ht
  obtain⟨h6,h7⟩:=h a g h1 h2
  exact⟨g,h6,h7,h3,JU h ys g.yes h4,JU h ns g.no h5⟩
theorem JU {nd nd':Nat→Option Gn} {op op':Nat→Bool} (h:∀b g,nd b=some g→op b=false→nd' b=some g∧op' b=false):∀(ts:List Br) (l:List Nat),trL nd op ts l→trL nd' op' ts l
 |[],[],_=>by simp[trL]
 |b::bs,a::l,ht=>by
  simp only[trL]at ht ⊢
  exact⟨JaL h b a ht.1,JU h bs l ht.2⟩
 |[],_::_,ht=>by simp[trL]at ht
 |_::_,[],ht=>by simp[trL]at ht
end
theorem J13 {nd:Nat→Option Gn} {op:Nat→Bool} {t:Br} {a:Nat} (ht:trB nd op t a):∀(ts:List Br) (l:List Nat),trL nd op ts l→trL nd op (ts++[t]) (l++[a])
 |[],[],_=>by simp[trL,ht]
 |b::bs,c::l,h=>by
  simp only[trL]at h
  simp only[List.cons_append,trL]
  exact⟨h.1,J13 ht bs l h.2⟩
 |[],_::_,h=>by simp[trL]at h
 |_::_,[],h=>by simp[trL]at h
theorem J4f {nd:Nat→Option Gn} {op:Nat→Bool}:∀(ts:List Br) (l:List Nat),trL nd op ts l→ts.length=l.length
 |[],[],_=>rfl
 |b::bs,c::l,h=>by
  simp only[trL]at h
  simp[J4f bs l h.2]
 |[],_::_,h=>by simp[trL]at h
 |_::_,[],h=>by simp[trL]at h
structure On where
 o:Nat
 a:Nat
 els:Bool
def frB (nd:Nat→Option Gn) (op:Nat→Bool) (f:Fr) (x:On) (yes no:List Nat):Prop:=∃g,nd x.a=some g∧op x.a=true∧g.s=f.s∧x.els=f.els∧g.yes=yes∧g.no=no
def frP (nd:Nat→Option Gn) (op:Nat→Bool):List Fr→List On→List Br→List Nat→Nat→Prop
 |[],[],R,cs,p=>∃l,cs=l++[p]∧trL nd op R l
 |f::fs,x::st,R,cs,p=>(∃l m,frB nd op f x (if x.els then l else l++[p]) (if x.els then m++[p]else m)∧trL nd op f.yes l∧trL nd op f.no m)∧frP nd op fs st R cs x.a
 |_,_,_,_,_=>False
def frS (nd:Nat→Option Gn) (op:Nat→Bool):List Fr→List On→List Br→List Nat→Prop
 |[],[],R,cs=>trL nd op R cs
 |f::fs,x::st,R,cs=>(∃l m,frB nd op f x l m∧trL nd op f.yes l∧trL nd op f.no m)∧frP nd op fs st R cs x.a
 |_,_,_,_=>False
end Go.Pm
/- Part of the proof: Fo1. -/
namespace Go.Pm
inductive Spell:List Sm→List Br→Prop
 |nil:Spell [] []
 |leaf {s:Sm} {l:List Sm} {R:List Br} (h4:s.kind≠4) (h5:s.kind≠5) (h6:s.kind≠6) (h:Spell l R):Spell (s::l) (.nd s [] []::R)
 |cond {s e f:Sm} {y n l:List Sm} {Y N R:List Br} (h4:s.kind=4) (h5:e.kind=5) (h6:f.kind=6) (hy:Spell y Y) (hn:Spell n N) (h:Spell l R):Spell (s::(y++e::(n++f::l))) (.nd s Y N::R)
def putFs:List Br→List Fr→List Br→List Fr×List Br
 |[],st,R=>(st,R)
 |b::bs,st,R=>putFs bs (putF b st R).1 (putF b st R).2
theorem J5Q:∀(bs R:List Br),putFs bs [] R=([],R++bs)
 |[],R=>by simp[putFs]
 |b::bs,R=>by simp[putFs,putF,J5Q bs]
theorem J64 (s:Sm) (n:List Br) (st:List Fr) (R:List Br):∀(bs:List Br) (Y:List Br),putFs bs (⟨s,false,Y,n⟩::st) R=(⟨s,false,Y++bs,n⟩::st,R)
 |[],Y=>by simp[putFs]
 |b::bs,Y=>by simp[putFs,putF,J64 s n st R bs]
theorem J7m (s:Sm) (y:List Br) (st:List Fr) (R:List Br):∀(bs:List Br) (N:List Br),putFs bs (⟨s,true,y,N⟩::st) R=(⟨s,true,y,N++bs⟩::st,R)
 |[],Y=>by simp[putFs]
 |b::bs,Y=>by simp[putFs,putF,J7m s y st R bs]
theorem Jbt {s:Sm} (h:s.kind=4) (l:List Sm) (st:List Fr) (R:List Br):growGo (s::l) st R=growGo l (⟨s,false,[],[]⟩::st) R:=by simp only[growGo];rw[if_pos h]
theorem J96 {s u:Sm} (h:s.kind=5) (l:List Sm) (y n:List Br) (st:List Fr) (R:List Br):growGo (s::l) (⟨u,false,y,n⟩::st) R=growGo l (⟨u,true,y,n⟩::st) R:=by
 simp only[growGo];rw[if_neg (by omega),if_pos h];rfl
theorem J9D {s u:Sm} (h:s.kind=6) (l:List Sm) (y n:List Br) (st:List Fr) (R:List Br):growGo (s::l) (⟨u,true,y,n⟩::st) R=growGo l (putF (.nd u y n) st R).1 (putF (.nd u y n) st R).2:=by
 simp only[growGo];rw[if_neg (by omega),if_neg (by omega),if_pos h];rfl
theorem J8b {l:List Sm} {T:List Br} (h:Spell l T):∀(r:List Sm) (st:List Fr) (R:List Br),growGo (l++r) st R=growGo r (putFs T st R).1 (putFs T st R).2:=by
 induction h with
 |nil=>intro r st R;rfl
 |leaf h4 h5 h6 _ ih=>
  intro r st R
  simp only[List.cons_append,growGo,h4,h5,h6,if_false,ih,putFs]
 |@cond s e f y n l Y N T h4 h5 h6 _ _ _ ihy ihn ih=>
  intro r st R
  have e1:s::(y++e::(n++f::l))++r=s::(y++(e::(n++(f::(l++r))))):=by simp
  rw[e1,Jbt h4,ihy,J64,List.nil_append,J96 h5,ihn,J7m,List.nil_append,J9D h6,ih]
  rfl
theorem JM {l:List Sm} {T:List Br} (h:Spell l T):growI l=some T:=by
 have:=J8b h [] [] []
 rw[List.append_nil]at this
 unfold growI
 rw[this,J5Q]
 rfl
inductive Comp:List Sm→List Fr→List Br→List Br→Prop
 |done {l:List Sm} {R T:List Br} (h:Spell l T):Comp l [] R (R++T)
 |yes {y l:List Sm} {Y R R':List Br} {e:Sm} {f:Fr} {st:List Fr} (hf:f.els=false) (hy:Spell y Y) (he:e.kind=5) (h:Comp l (⟨f.s,true,f.yes++Y,f.no⟩::st) R R'):Comp (y++e::l) (f::st) R R'
 |no {n l:List Sm} {N R R':List Br} {e:Sm} {f:Fr} {st:List Fr} (hf:f.els=true) (hn:Spell n N) (he:e.kind=6) (h:Comp l (putF (.nd f.s f.yes (f.no++N)) st R).1 (putF (.nd f.s f.yes (f.no++N)) st R).2 R'):Comp (n++e::l) (f::st) R R'
theorem J5W {u l:List Sm} {b:Br} (hu:∀{m:List Sm} {T:List Br},Spell m T→Spell (u++m) (b::T)) {st:List Fr} {R R':List Br} (h:Comp l (putF b st R).1 (putF b st R).2 R'):Comp (u++l) st R R':=by
 cases st with
 |nil=>
  simp only[putF]at h
  cases h with
  |done h=>rw[List.append_assoc];exact .done (hu h)
 |cons f st=>
  simp only[putF]at h
  cases hf:f.els with
  |false=>
   simp only[hf,Bool.false_eq_true,if_false]at h
   cases h with
   |yes hf' hy he h=>
    rw[←List.append_assoc]
    refine .yes hf (hu hy) he ?_
    simpa using h
   |no hf'=>simp[hf]at hf'
  |true=>
   simp only[hf,if_true]at h
   cases h with
   |yes hf'=>simp[hf]at hf'
   |no hf' hn he h=>
    rw[←List.append_assoc]
    refine .no hf (hu hn) he ?_
    simpa using h
theorem J1u:∀(l:List Sm) (st:List Fr) (R R':List Br),growGo l st R=some R'→Comp l st R R'
 |[],[],R,R',e=>by
  simp only[growGo,Option.some.injEq]at e
  subst e
  have:=Comp.done (R:=R) Spell.nil
  simpa using this
 |[],_::_,R,R',e=>by simp[growGo]at e
 |s::l,st,R,R',e=>by
  simp only[growGo]at e
  split at e
  ·rename_i h4
   have:=J1u l _ R R' e
   cases this with
   |@yes y l1 Y _ _ t1 _ _ hf hy he h=>
    cases h with
    |@no n l2 N _ _ t2 _ _ hf2 hn he2 h=>
     have key:=J5W (u:=s::(y++t1::(n++[t2]))) (b:=.nd s Y N) (st:=st) (R:=R) (R':=R') (l:=l2) (fun {m T} hm=>by
      have:=Spell.cond h4 he he2 hy hn hm
      simpa using this) (by simpa using h)
     simpa using key
    |yes hf'=>cases hf'
   |no hf=>cases hf
  ·rename_i h4
   split at e
   ·rename_i h5
    cases st with
    |nil=>cases e
    |cons f st'=>
     dsimp only at e
     split at e
     ·cases e
     ·rename_i hf
      have:=J1u l _ R R' e
      have:=Comp.yes (f:=f) (by simpa using hf) Spell.nil h5 (by simpa using this)
      simpa using this
   ·rename_i h5
    split at e
    ·rename_i h6
     cases st with
     |nil=>cases e
     |cons f st'=>
      dsimp only at e
      split at e
      ·rename_i hf
       have:=J1u l _ _ R' e
       have:=Comp.no (f:=f) hf Spell.nil h6 (by simpa using this)
       simpa using this
      ·cases e
    ·rename_i h6
     have:=J1u l _ _ R' e
     exact J5W (u:=[s]) (fun hm=>Spell.leaf h4 h5 h6 hm) this
theorem Jae {l:List Sm} {R X:List Br} (h:Comp l [] R X):∃T,X=R++T∧Spell l T:=by
 cases h with
 |done h=>exact⟨_,rfl,h⟩
theorem JJ {l:List Sm} {T:List Br} (h:growI l=some T):Spell l T:=by
 obtain⟨T',rfl,h'⟩:=Jae (J1u l [] [] T h)
 exact h'
def partsGo:List Sm→Nat→Int→Int→Int×Int
 |[],_,_,_=>(-1,-1)
 |s::l,j,d,o=>
  if s.kind=4 then partsGo l (j+1) (d+1) o
  else if s.kind=5 then(if d=1 then(if 0≤o then(-1,-1)else partsGo l (j+1) d j)else partsGo l (j+1) d o)
  else if s.kind=6 then(if d-1=0 then(o,j)else partsGo l (j+1) (d-1) o)
  else partsGo l (j+1) d o
def partsS (l:List Sm) (i:Nat):Int×Int:=partsGo (l.drop i) i 0 (-1)
theorem J8I {s:Sm} (h:s.kind=4) (l:List Sm) (j:Nat) (d o:Int):partsGo (s::l) j d o=partsGo l (j+1) (d+1) o:=by simp only[partsGo];rw[if_pos h]
theorem Jbs {s:Sm} (h:s.kind=5) (l:List Sm) (j:Nat) {d:Int} (hd:d≠1) (o:Int):partsGo (s::l) j d o=partsGo l (j+1) d o:=by simp only[partsGo];rw[if_neg (by omega),if_pos h,if_neg hd]
theorem Jc1 {s:Sm} (h:s.kind=6) (l:List Sm) (j:Nat) {d:Int} (hd:d-1≠0) (o:Int):partsGo (s::l) j d o=partsGo l (j+1) (d-1) o:=by simp only[partsGo];rw[if_neg (by omega),if_neg (by omega),if_pos h,if_neg hd]
theorem J3I {l:List Sm} {T:List Br} (h:Spell l T):∀(r:List Sm) (j:Nat) (d o:Int),1≤d→partsGo (l++r) j d o=partsGo r (j+l.length) d o:=by
 induction h with
 |nil=>intro r j d o _;rfl
 |leaf h4 h5 h6 _ ih=>
  intro r j d o hd
  simp only[List.cons_append,partsGo,h4,h5,h6,if_false,ih _ _ _ _ hd,List.length_cons]
  congr 1;omega
 |@cond s e f y n l Y N T h4 h5 h6 _ _ _ ihy ihn ih=>
  intro r j d o hd
  have e1:s::(y++e::(n++f::l))++r=s::(y++(e::(n++(f::(l++r))))):=by simp
  rw[e1]
  rw[J8I h4,ihy _ _ _ _ (by omega),Jbs h5 _ _ (by omega),ihn _ _ _ _ (by omega),Jc1 h6 _ _ (by omega),ih _ _ _ _ (by omega)]
  simp only[List.length_cons,List.length_append]
  congr 1<;>omega
theorem J2E {s e f:Sm} {y n:List Sm} {Y N:List Br} (h4:s.kind=4) (h5:e.kind=5) (h6:f.kind=6) (hy:Spell y Y) (hn:Spell n N) (r:List Sm) (j:Nat):
  partsGo (s::(y++e::(n++f::r))) j 0 (-1)=(((j+1+y.length:Nat):Int),((j+1+y.length+1+n.length:Nat):Int)):=by
 rw[J8I h4,J3I hy _ _ _ _ (by omega)]
 have h1:∀(m:List Sm) (j:Nat),partsGo (e::m) j (0+1) (-1)=partsGo m (j+1) 1 j:=by
  intro m j
  simp only[partsGo]
  rw[if_neg (by omega),if_pos h5,if_pos (by omega),if_neg (by omega)]
  rfl
 rw[h1,J3I hn _ _ _ _ (by omega)]
 simp only[partsGo]
 rw[if_neg (by omega),if_neg (by omega),if_pos h6,if_pos (by omega)]
theorem J53:∀(l:List Sm) (j:Nat) (d o O E:Int),1≤d→partsGo l j d o=(O,E)→0≤E→(∃q,E=((j+q:Nat):Int)∧∃f,l[q]? = some f∧f.kind=6∧(O=o∨∃p,p<q∧O=((j+p:Nat):Int)∧∃e,l[p]? = some e∧e.kind=5))
 |[],j,d,o,O,E,_,h,hE=>by simp only[partsGo,Prod.mk.injEq]at h;omega
 |s::l,j,d,o,O,E,hd,h,hE=>by
  have up:∀{d' o':Int},1≤d'→partsGo l (j+1) d' o'=(O,E)→(o'=o∨(o'=(j:Int)∧s.kind=5))→∃q,E=((j+q:Nat):Int)∧∃f,(s::l)[q]? = some f∧f.kind=6∧(O=o∨∃p,p<q∧O=((j+p:Nat):Int)∧∃e,(s::l)[p]? = some e∧e.kind=5):=by
   intro d' o' hd' h' ho
   obtain⟨q,h1,f,h2,h3,h4⟩:=J53 l (j+1) d' o' O E hd' h' hE
   refine⟨q+1,by omega,f,by simpa using h2,h3,?_⟩
   rcases h4 with h4|⟨p,h5,h6,e,h7,h8⟩
   ·rcases ho with ho|⟨ho,hs⟩
    ·exact .inl (by omega)
    ·exact .inr ⟨0,by omega,by omega,s,rfl,hs⟩
   ·exact .inr ⟨p+1,by omega,by omega,e,by simpa using h7,h8⟩
  simp only[partsGo]at h
  split at h
  ·exact up (by omega) h (.inl rfl)
  ·split at h
   ·rename_i h5
    split at h
    ·split at h
     ·simp only[Prod.mk.injEq]at h;omega
     ·exact up hd h (.inr ⟨rfl,h5⟩)
    ·exact up hd h (.inl rfl)
   ·split at h
    ·rename_i h6
     split at h
     ·simp only[Prod.mk.injEq]at h
      exact⟨0,by omega,s,rfl,h6,.inl h.1.symm⟩
     ·exact up (by omega) h (.inl rfl)
    ·exact up hd h (.inl rfl)
end Go.Pm
/- Part of the proof: Fo2. -/
namespace Go.Pm
theorem J7M {s:Sm} {r:List Sm} {T:List Br} (h4:s.kind=4) (h:Spell (s::r) T):∃y e n f r2 Y N R,r=y++e::(n++f::r2)∧e.kind=5∧f.kind=6∧Spell y Y∧Spell n N∧Spell r2 R∧T=.nd s Y N::R:=by
 cases h with
 |leaf h=>exact absurd h4 h
 |cond h4 h5 h6 hy hn h=>exact⟨_,_,_,_,_,_,_,_,rfl,h5,h6,hy,hn,h,rfl⟩
theorem J55 {s:Sm} {r:List Sm} {T:List Br} (h4:s.kind≠4) (h:Spell (s::r) T):s.kind≠5∧s.kind≠6∧∃R,Spell r R∧T=.nd s [] []::R:=by
 cases h with
 |leaf h4 h5 h6 h=>exact⟨h5,h6,_,h,rfl⟩
 |cond h=>exact absurd h h4
theorem J6f:growI []=some []:=rfl
theorem J7N {s:Sm} {r:List Sm} (h4:s.kind≠4) (h5:s.kind≠5) (h6:s.kind≠6):growI (s::r)=(growI r).map (.nd s [] []::·):=by
 cases h:growI r with
 |none=>
  rw[Option.map_none]
  cases h':growI (s::r)with
  |none=>rfl
  |some T=>
   obtain⟨_,_,R,h1,_⟩:=J55 h4 (JJ h')
   rw[JM h1]at h;cases h
 |some R=>exact JM (.leaf h4 h5 h6 (JJ h))
theorem J8W {s:Sm} {r:List Sm} (h:s.kind=5∨s.kind=6):growI (s::r)=none:=by
 cases h':growI (s::r)with
 |none=>rfl
 |some T=>obtain⟨h5,h6,_⟩:=J55 (by omega) (JJ h');omega
theorem Jbn {s:Sm} {r:List Sm} {j:Nat} {O E:Int} (h4:s.kind=4) (hp:partsGo (s::r) j 0 (-1)=(O,E)) (hb:O<0∨E<0):growI (s::r)=none:=by
 cases h':growI (s::r)with
 |none=>rfl
 |some T=>
  obtain⟨y,e,n,f,r2,Y,N,R,rfl,h5,h6,hy,hn,_⟩:=J7M h4 (JJ h')
  rw[J2E h4 h5 h6 hy hn,Prod.mk.injEq]at hp
  omega
theorem Jcj {s:Sm} {r:List Sm} {j:Nat} {O E:Int} (h4:s.kind=4) (hp:partsGo (s::r) j 0 (-1)=(O,E)) (hO:0≤O) (hE:0≤E):
  ∃y e n f r2,r=y++e::(n++f::r2)∧e.kind=5∧f.kind=6∧O=((j+1+y.length:Nat):Int)∧E=((j+1+y.length+1+n.length:Nat):Int):=by
 rw[J8I h4]at hp
 obtain⟨q,h1,f,h2,h3,h⟩:=J53 r (j+1) _ _ O E (by omega) hp hE
 rcases h with h|⟨p,hpq,h5,e,h6,h7⟩
 ·omega
 obtain⟨d1,l1⟩:r.drop q=f::r.drop (q+1)∧q<r.length:=by
  obtain⟨hl,he⟩:=List.getElem?_eq_some_iff.1 h2
  exact⟨by rw[List.drop_eq_getElem_cons hl,he],hl⟩
 obtain⟨d2,l2⟩:r.drop p=e::r.drop (p+1)∧p<r.length:=by
  obtain⟨hl,he⟩:=List.getElem?_eq_some_iff.1 h6
  exact⟨by rw[List.drop_eq_getElem_cons hl,he],hl⟩
 have d3:(r.drop (p+1)).drop (q-p-1)=f::r.drop (q+1):=by rw[List.drop_drop,←d1];congr 1;omega
 refine⟨r.take p,e,(r.drop (p+1)).take (q-p-1),f,r.drop (q+1),?_,h7,h3,?_,?_⟩
 ·rw[←d3,List.take_append_drop,←d2,List.take_append_drop]
 ·rw[List.length_take,Nat.min_eq_left (by omega)];exact h5
 ·rw[List.length_take,Nat.min_eq_left (by omega),List.length_take,List.length_drop,Nat.min_eq_left (by omega)];omega
theorem J9K {s e f:Sm} {y n r2:List Sm} {j:Nat} (h4:s.kind=4) (h5:e.kind=5) (h6:f.kind=6) (hp:partsGo (s::(y++e::(n++f::r2))) j 0 (-1)=(((j+1+y.length:Nat):Int),((j+1+y.length+1+n.length:Nat):Int))):
  growI (s::(y++e::(n++f::r2)))=(growI y).bind fun Y=>(growI n).bind fun N=>(growI r2).map fun R=>.nd s Y N::R:=by
 cases h':growI (s::(y++e::(n++f::r2)))with
 |some T=>
  obtain⟨y',e',n',f',r',Y,N,R,he,h5',h6',hy,hn,hr,rfl⟩:=J7M h4 (JJ h')
  rw[he,J2E h4 h5' h6' hy hn,Prod.mk.injEq]at hp
  obtain⟨rfl,he2⟩:=List.append_inj he (by omega)
  rw[List.cons.injEq]at he2
  obtain⟨rfl,he2⟩:=he2
  obtain⟨rfl,he3⟩:=List.append_inj he2 (by omega)
  rw[List.cons.injEq]at he3
  obtain⟨rfl,rfl⟩:=he3
  rw[JM hy,JM hn,JM hr];rfl
 |none=>
  cases hy:growI y with
  |none=>rfl
  |some Y=>
   cases hn:growI n with
   |none=>rfl
   |some N=>
    cases hr:growI r2 with
    |none=>rfl
    |some R=>rw[JM (.cond h4 h5 h6 (JJ hy) (JJ hn) (JJ hr))]at h';cases h'
theorem J5Z {l:List Sm} {T:List Br} (h:Spell l T):l=[]↔T=[]:=by cases h<;>simp
mutual
def deepB:Br→Int→Bool
 |.nd s Y N,d=>if s.kind=4 then(if(Y≠[]∨N≠[])∧20<d+1 then false else deepL Y (d+1)&&deepL N (d+1))else true
def deepL:List Br→Int→Bool
 |[],_=>true
 |b::R,d=>deepB b d&&deepL R d
end
def nestV (l:List Sm) (d:Int):Bool:=match growI l with|none=>false|some R=>deepL R d
theorem J9p (d:Int):nestV [] d=true:=by simp[nestV,J6f,deepL]
theorem J7R {s:Sm} {r:List Sm} (h4:s.kind≠4) (h5:s.kind≠5) (h6:s.kind≠6) (d:Int):nestV (s::r) d=nestV r d:=by
 unfold nestV
 rw[J7N h4 h5 h6]
 cases growI r with
 |none=>rfl
 |some R=>simp[deepL,deepB,h4]
theorem J5v {s:Sm} {r:List Sm} (h:s.kind=5∨s.kind=6) (d:Int):nestV (s::r) d=false:=by
 unfold nestV;rw[J8W h]
theorem J50 {s:Sm} {r:List Sm} {j:Nat} {O E:Int} (h4:s.kind=4) (hp:partsGo (s::r) j 0 (-1)=(O,E)) (hb:O<0∨E<0) (d:Int):nestV (s::r) d=false:=by
 unfold nestV;rw[Jbn h4 hp hb]
theorem Jan {s e f:Sm} {y n r2:List Sm} {j:Nat} (h4:s.kind=4) (h5:e.kind=5) (h6:f.kind=6) (hp:partsGo (s::(y++e::(n++f::r2))) j 0 (-1)=(((j+1+y.length:Nat):Int),((j+1+y.length+1+n.length:Nat):Int))) (d:Int):
  nestV (s::(y++e::(n++f::r2))) d=if(0<y.length∨0<n.length)∧20<d+1 then false else nestV y (d+1)&&nestV n (d+1)&&nestV r2 d:=by
 unfold nestV
 rw[J9K h4 h5 h6 hp]
 cases hy:growI y with
 |none=>simp
 |some Y=>
  cases hn:growI n with
  |none=>simp
  |some N=>
   have e1:(0<y.length↔Y≠[]):=by rw[List.length_pos_iff,Ne,J5Z (JJ hy)]
   have e2:(0<n.length↔N≠[]):=by rw[List.length_pos_iff,Ne,J5Z (JJ hn)]
   cases hr:growI r2 with
   |none=>simp
   |some R=>
    simp only[Option.bind_some,Option.map_some,deepL,deepB,h4,if_true,e1,e2]
    split
    ·rfl
    ·rfl
def withinAt (sw:Sm→ByteArray→Bool) (l:List Sm) (i:Nat):Bool:=match l[i]? with
 |none=>true
 |some s=>if s.kind=4 then !(((l.drop i).take ((partsS l i).2.toNat-i)).any fun t=>sw t s.name)else true
def withinS (sw:Sm→ByteArray→Bool) (l:List Sm):Bool:=(List.range l.length).all (withinAt sw l)
end Go.Pm
/- Part of the proof: Pm31. -/
namespace Go.Pm
attribute [local irreducible] AR Ok inBlock andThen endQ aoper
section
variable {X:Cfg} {nt:Nat} {Q:Exit→Env→St→Prop} {env:Env} {σ:St} {K:AV→St→Prop}
theorem Yej {α:Type} {e:α→List D} {l:List α} {y:α} {n:Int} {ti te:TI} {el:TypeId} {t:TypeId} {x i:Operand} (k:Nat) (hn:n=(k:Int)) (hl:l[k]? = some y) (hK:K (.d (.ip (e y) 0)) σ) (hx:aev X env x=.d (.im (l.map e)):=by exact rfl) (hi:aev X env i=vi n:=by exact rfl)
  (ht:X.T t=some ti:=by exact rfl) (hk:ti.kind=.slice el:=by exact rfl) (hte:X.T el=some te:=by exact rfl) (hsz:(e y).length=te.size:=by exact rfl):aoper X (.indexAddr t x i) env σ Q K:=J8o hx (hi.trans (congrArg vi hn)) hl ht hk hte hsz hK
end
end Go.Pm
/- Part of the proof: Pm32. -/
namespace Go.Pm
section
variable {X:Cfg} {nt:Nat} {ops:Array Oper} {rest:List Oper} {Q:Exit→Env→St→Prop} {env:Env} {σ:St} {dst:Option Tmp} {op:Op} {ty:TypeId} {pos:String} {after:Array Edge}
theorem JbQ (hd:dst.all (·<nt)=true) (h:∀(F:FH) (η:Et) (a:Act) (w:World),GRel X F→Rel F η nt env σ a w→OpOk X F η σ w ((execOp a.eval ⟨dst,op,ty,pos,after,none⟩).run X.P w) (fun v σ'=>AR X nt ops Q rest (put env dst v) σ')):
  AR X nt ops Q (⟨dst,op,ty,pos,after,none⟩::rest) env σ:=by
 intro F η a w hg hr
 unfold wpList
 rw[if_pos (by simp[Region.wanted])]
 refine .inl ?_
 obtain⟨nx,v,w',F',η',σ',x,hrun,hnx,hs,hg',hf',hr',hv,hk⟩:=h F η a w hg hr
 unfold Oper.wp
 rw[hrun]
 have hr2:=hr.step hs hf' hr'
 rcases hnx with rfl|⟨rfl,rfl⟩
 ·exact J0O (fun _ _ _ hp=>hp.of_step hs) rest _ _ (hk F' η' (a.put dst v) w' hg' (hr2.put hd hv))
 ·exact J0O (fun _ _ _ hp=>hp.of_step hs) rest _ _ (hk F' η' (a.put dst undef) w' hg' (hr2.put hd hv))
end
end Go.Pm
/- Part of the proof: Pm33. -/
namespace Go.Pm
section
variable {X:Cfg} {nt:Nat} {ops:Array Oper} {rest:List Oper} {Q:Exit→Env→St→Prop} {env:Env} {σ:St} {dst:Option Tmp} {op:Op} {ty:TypeId} {pos:String} {after:Array Edge}
end
def St.drop (σ:St) (r:Nat):St:=⟨fun j=>if j=r then none else σ.obj j,σ.next⟩
theorem St.obj_drop (σ:St) (r j:Nat):(σ.drop r).obj j=if j=r then none else σ.obj j:=rfl
end Go.Pm
/- Part of the proof: Pm34. -/
namespace Go.Pm
attribute [local irreducible] AR Ok inBlock andThen endQ aoper
section
variable {X:Cfg} {nt:Nat} {Q:Exit→Env→St→Prop} {env:Env} {σ:St} {K:AV→St→Prop}
end
end Go.Pm
/- Part of the proof: Pm35. -/
namespace Go.Pm
theorem St.ext' {a b:St} (h1:a.obj=b.obj) (h2:a.next=b.next):a=b:=by
 cases a;cases b;cases h1;cases h2;rfl
theorem AFun.lowR {X:Cfg} {f:FuncId} {args:List AV} {σ:St} {K K':AEnd→St→Prop} (h:AFun X f args σ K)
  (hk:∀E σ1,K E σ1→∃σ2 π r,K' (.ret r) σ2∧LowR σ.next π (fun _=>.any) σ1 (fun _=>.any) σ2∧E=.ret (ren π r)∧Pm.low σ2.next r=true):AFun X f args σ K':=by
 refine⟨h.1,fun F η w vals hg hf hs hn hv=>(h.2 F η w vals hg hf hs hn hv).mono ?_⟩
 rintro e w' ⟨F',η',σ1,E,st,hf',hs1,he,hK⟩
 obtain⟨σ2,π,r,h1,hl,rfl,hr⟩:=hk E σ1 hK
 refine⟨F',η'.ren π,σ2,.ret r,hl.step st,hf',⟨fun i o ho=>(hl.ob i o ho).1,fun i o ho=>J4M (hl.ob i o ho).2.2 (hs1.ob _ _ (hl.ob i o ho).2.1),?_,fun i o b ho hb=>hs1.fr (π i) _ b (hl.ob i o ho).2.1 (by rw[←J0k];exact hb)⟩,?_,h1⟩
 ·intro i j oi oj b hi hj hbi hbj
  rw[J0k]at hbi hbj
  exact hl.inj i j oi oj hi hj (hs1.ap _ _ _ _ b (hl.ob i oi hi).2.1 (hl.ob j oj hj).2.1 hbi hbj)
 ·cases e with
  |returned v=>exact J2M _ _ hr he
  |panicked c=>exact he.elim
  |outgrown=>exact he.elim
theorem AFun.wfr {X:Cfg} {f:FuncId} {args:List AV} {σ:St} {K:AEnd→St→Prop} (hc:CallOk X.P f) (h:(∀i o,σ.obj i=some o→i<σ.next)→(∀i v E sz rows,σ.obj i=some (.row v E sz rows)→v<σ.next)→AFun X f args σ K):AFun X f args σ K:=
 ⟨hc,fun F η w vals hg hf hs=>(h hs.lt fun i v E sz rows ho=>by
  have:=hs.ob i _ ho
  cases this with
  |row xs hv=>exact hv).2 F η w vals hg hf hs⟩
def bdO (u:TypeId) (h:Nat) (t:ByteArray):List (Option AO):=[some (.var [.ref 0 0,.sl 1 h 0 t.size]),some (.row h u 1 (byteRows t))]
def bdUsed (u:TypeId) (σ:St) (i r:Nat) (s:ByteArray):St:=(bumpSet σ r (.row σ.next u 1 (byteRows s))).set i (.var [.ref i 0,.sl r σ.next 0 s.size])
def bdPi (i r h:Nat) (j:Nat):Nat:=if j=0 then i else if j=1 then r else h
section
variable {X:Cfg} {nt:Nat} {Q:Exit→Env→St→Prop} {env:Env} {σ:St} {K:AV→St→Prop}
attribute [local irreducible] AR Ok inBlock andThen endQ aoper
theorem Ul {t ty:TypeId} {x y:Operand} {a b:ByteArray} (hK:K (vs (a++b)) σ) (hx:aev X env x=vs a:=by exact rfl) (hy:aev X env y=vs b:=by exact rfl) (hb:(a++b).size≤9223372036854775807:=by first|omega|(simp only[ByteArray.size_append];omega)):aoper X (.binOp .add t x y ty) env σ Q K:=by
 rw[ByteArray.size_append]at hb
 exact J2x hx hy (by simp only[abin,if_pos hb]) hK
end
end Go.Pm
/- Part of the proof: Pm36. -/
namespace Go.Pm
section
variable {X:Cfg} {nt:Nat} {ops:Array Oper} {rest:List Oper} {Q:Exit→Env→St→Prop} {env:Env} {σ:St} {dst:Option Tmp} {ty:TypeId} {pos:String} {after:Array Edge}
end
end Go.Pm
/- Part of the proof: Pm37. -/
namespace Go.Pm
section
variable {X:Cfg} {nt:Nat} {ops:Array Oper} {rest:List Oper} {Q:Exit→Env→St→Prop} {env:Env} {σ:St} {dst:Option Tmp} {ty:TypeId} {pos:String} {after:Array Edge}
theorem Up {s t el i v n:Nat} {x:Operand} {w:ByteArray} {ts te td:TI} (hn:n=w.size) (ho:σ.obj i=some (.row v el 1 (byteRows w))) (h:AR X nt ops Q rest (put env dst (vs w)) σ)
  (hd:dst.all (·<nt)=true:=by exact rfl) (hx:aev X env x=.sl i v 0 n:=by exact rfl) (hs:X.T s=some ts:=by exact rfl) (hks:ts.kind=.slice el:=by exact rfl) (hte:X.T el=some te:=by exact rfl) (hke:te.kind=.int .u8:=by exact rfl) (ht:X.T t=some td:=by exact rfl) (hkt:td.kind=.string:=by exact rfl):
  AR X nt ops Q (⟨dst,.convert s t x,ty,pos,after,none⟩::rest) env σ:=by
 subst hn
 refine JbQ hd fun F η a w0 hg hr0=>?_
 have hf:=hr0.fr
 have hst:=hr0.st
 obtain⟨d1,i1,z1,hu1,hd1,_⟩:=X.ok s ts hs
 obtain⟨d2,i2,z2,hu2,hd2,_⟩:=X.ok t td ht
 obtain⟨d3,i3,z3,hu3,hd3,_⟩:=X.ok el te hte
 rw[hks]at hd1
 rw[hkt]at hd2
 rw[hke]at hd3
 have e1:=JQ hd1
 have e2:=JZ hd2
 have e3:=J21 hd3
 subst e1 e2 e3
 have hev:=J0V hg hr0 x
 rw[hx]at hev
 have key:(convert s t (a.eval x)).run X.P w0=.ok (.string w) w0:=by
  generalize a.eval x=vx at hev
  generalize hzz:w.size=z at hev
  have hor:=hst.ob i _ ho
  cases hev with
  |@sl _ _ _ _ g cap sz off q1 q2 hh hle hc' hoff=>
   cases hor with
   |row xs b1 b2 b3 b4 b5 b6 b7=>
    subst hzz
    have hblk:(η.hdr v).blk=some g:=by rw[hh]
    obtain⟨cur,hg1,hn2,hcap1,hsz1,htk⟩:=J05 b4 hblk
    have hcap:(η.hdr v).cap=cap:=by rw[hh]
    rw[hcap]at hn2 hcap1 hsz1
    rw[JI,Nat.mul_one]at htk
    rw[JI]at hn2
    rw[Nat.mul_one]at hsz1
    have hlen:w.data.toList.length=w.size:=by simp
    by_cases h0:w.size=0
    ·have hw:w=⟨#[]⟩:=by
      apply ByteArray.ext
      apply Array.ext
      ·simpa using h0
      ·intro j h1 h2
       have:w.data.size=w.size:=rfl
       omega
     have key:=run_convert_bytes_back w0 s t el ⟨g,off,none⟩ cap [] hu1 hu3 hu2 (fun j hj=>absurd hj (by simp))
     rw[hw]
     exact key
    ·have hoff:=hoff (by omega)
     rw[Nat.zero_mul]at hoff
     subst hoff
     have key:=run_convert_bytes_back w0 s t el ⟨g,0,none⟩ cap w.data.toList hu1 hu3 hu2 (fun j hj=>by
      have hjb:j<(byteRows w).length:=by rw[JI];simpa using hj
      have hrow:=b7 j hjb 0 (by simp[byteRows])
      have hcur:cur[j]? = xs[j]?:=by
       rw[←htk,List.getElem?_take,if_pos (by rw[JI]at hjb;exact hjb),Array.getElem?_toList]
      have hxl:xs.length=w.size:=by
       have:=b4.1
       rw[JI,Nat.mul_one]at this
       exact this
      have hjx:j<xs.length:=by rw[hxl];rw[JI]at hjb;exact hjb
      have ea:(Addr.add ⟨g,0,none⟩ j)=⟨g,j,none⟩:=by unfold Addr.add;split<;>simp_all
      have ec:w0.cell? ⟨g,j,none⟩=cur[j]?:=by simp[World.cell?,hg1]
      rw[ea,ec,hcur,List.getElem?_eq_getElem hjx]
      have e2:xs.getD (j*1+0) undef=xs[j]:=by
       rw[Nat.mul_one,Nat.add_zero]
       simp[List.getD,List.getElem?_eq_getElem hjx]
      rw[e2]at hrow
      have e3:(byteRows w)[j][0]'(by simp[byteRows])=.d (.s (.int .u8 (w.data.toList[j]).toNat)):=by
       simp only[byteRows,List.getElem_map,List.getElem_cons_zero]
      rw[e3]at hrow
      rw[hrow.s_inv])
     rw[hlen]at key
     exact key
  |sl0 q1 q2 hh=>
   rw[run_convert_bytes_string w0 s t el none 0 0 hu1 hu3 hu2]
   have h0:w=.empty:=by
    apply ByteArray.ext
    apply Array.ext
    ·exact hzz
    ·intro j h1 h2
     simp at h2
   rw[h0]
   rfl
 exact(VOk.same hg hf hst key (.d (.s (.string w))) h).op
end
attribute [local irreducible] AR Ok inBlock andThen endQ aoper
section
variable {X:Cfg} {nt:Nat} {Q:Exit→Env→St→Prop} {env:Env} {σ:St} {K:AV→St→Prop}
end
end Go.Pm
/- Part of the proof: Pm38. -/
namespace Go.Pm
def St.sel (σ:St) (S:Nat→Bool):St:=⟨fun j=>if S j then σ.obj j else none,σ.next⟩
theorem St.sel_obj {σ:St} {S:Nat→Bool} {j:Nat} {o:AO} (h:(σ.sel S).obj j=some o):S j=true∧σ.obj j=some o:=by
 unfold St.sel at h
 simp only at h
 split at h
 ·rename_i hs;exact⟨hs,h⟩
 ·cases h
theorem SRel.sel {F:FH} {η:Et} {σ:St} {w:World} (hs:SRel F η σ w) (S:Nat→Bool):SRel F η (σ.sel S) w:=
 ⟨fun i o h=>hs.lt i o (St.sel_obj h).2,fun i o h=>hs.ob i o (St.sel_obj h).2,fun i j oi oj b hi hj=>hs.ap i j oi oj b (St.sel_obj hi).2 (St.sel_obj hj).2,fun i o b h=>hs.fr i o b (St.sel_obj h).2⟩
inductive Kz (τ:St):AV→AV→Prop
 |same (x:AV):Kz τ x x
 |fz {x y:AV} (h:AFz τ x y):Kz τ x y
theorem J7I {F:FH} {η:Et} {τ:St} {w:World} (hs:SRel F η τ w) {x y:AV} (h:Kz τ x y) {u:Value} (hu:VRel F η τ.next x u):VRel (F.all η τ w) η τ.next y u:=by
 cases h with
 |same=>exact hu.mono (FH.le_all hs) (Et.agree_refl _ _) (Nat.le_refl _)
 |fz h=>exact J49 hs h hu
inductive OKz (τ:St):AO→AO→Prop
 |same (o:AO):OKz τ o o
 |var {cs cs':List AV} (hl:cs'.length=cs.length) (h:∀j (h1:j<cs.length) (h2:j<cs'.length),Kz τ cs[j] cs'[j]):OKz τ (.var cs) (.var cs')
 |row {v E sz:Nat} {rows rows':List (List AV)} (hl:rows'.length=rows.length) (hr:∀k (h1:k<rows.length) (h2:k<rows'.length),(rows'[k]).length=(rows[k]).length)
   (h:∀k (h1:k<rows.length) (h2:k<rows'.length) j (h3:j<(rows[k]).length) (h4:j<(rows'[k]).length),Kz τ (rows[k])[j] (rows'[k])[j]):OKz τ (.row v E sz rows) (.row v E sz rows')
theorem Jbo {τ:St} {o o':AO} (h:OKz τ o o') (η:Et) (i:Nat):Owns η i o'=Owns η i o:=by cases h<;>rfl
theorem JbB {F:FH} {η:Et} {τ:St} {w:World} (hs:SRel F η τ w) {i:Nat} {o o':AO} (h:OKz τ o o') (hi:i<τ.next) (ho:ORel F η τ.next w i o):ORel (F.all η τ w) η τ.next w i o':=by
 cases h with
 |same=>exact ho.mono hi (FH.le_all hs) (Et.agree_refl _ _) (Nat.le_refl _) fun b _=>rfl
 |var hl h=>
  cases ho with
  |var c E b1 b2 b3 b4=>exact .var c E b1 (by rw[b2,hl]) (fun j hj=>b3 j (by omega)) fun j hj=>J7I hs (h j (by omega) hj) (b4 j (by omega))
 |row hl hr h=>
  cases ho with
  |row xs b1 b2 b3 b4 b5 b6 b7=>
   refine .row xs b1 b2 b3 (by rw[hl];exact b4) ?_ b6 ?_
   ·intro r hrm
    obtain⟨k,hk,rfl⟩:=List.getElem_of_mem hrm
    rw[hr k (by omega) hk]
    exact b5 _ (List.getElem_mem _)
   ·intro k hk j hj
    exact J7I hs (h k (by omega) hk j (by rw[←hr k (by omega) hk];exact hj) hj) (b7 k (by omega) j (by rw[←hr k (by omega) hk];exact hj))
theorem J4K {X:Cfg} {nt:Nat} {env env':Env} {σ σ':St} (S:Nat→Bool) (hn:σ'.next=σ.next) (ho:∀j o',σ'.obj j=some o'→S j=false∧∃o,σ.obj j=some o∧OKz (σ.sel S) o o') (he:∀t,Kz (σ.sel S) (env t) (env' t)):Turn X nt env σ env' σ':=by
 intro F η a w hg hr
 have hs:=hr.st.sel S
 have hle:=FH.le_all hs
 have keep:∀i o',σ'.obj i=some o'→S i=false∧i<σ.next∧∃o,σ.obj i=some o∧Owns η i o'=Owns η i o∧ORel (F.all η (σ.sel S) w) η σ.next w i o':=fun i o' h=>by
  obtain⟨h1,o,h2,h3⟩:=ho i o' h
  exact⟨h1,hr.st.lt i o h2,o,h2,Jbo h3 η i,JbB hs h3 (hr.st.lt i o h2) (hr.st.ob i o h2)⟩
 refine⟨F.all η (σ.sel S) w,η,⟨hle,Et.agree_refl _ _,by rw[hn];exact Nat.le_refl _,.refl _,fun _ _ _=>rfl,?_,?_⟩,hg.mono hle,⟨?_,⟨?_,?_,?_,?_⟩,fun t=>by rw[hn];exact J7I hs (he t) (hr.en t),hr.sz,hr.df⟩⟩
 ·intro i o' b h hb _
  obtain⟨_,_,o,h2,h3,_⟩:=keep i o' h
  exact⟨i,o,h2,by rw[←h3];exact hb⟩
 ·intro b o hb hlt
  unfold FH.all at hb
  split at hb
  ·rename_i h
   obtain⟨i,oi,h1,h2⟩:=h
   exact .inr ⟨i,oi,(St.sel_obj h1).2,h2⟩
  ·exact .inl hb
 ·intro b o hb
  unfold FH.all at hb
  split at hb
  ·exact hb
  ·exact hr.fr b o hb
 ·intro i o' h
  obtain⟨_,h2,_⟩:=keep i o' h
  rw[hn];exact h2
 ·intro i o' h
  obtain⟨_,_,o,_,_,h4⟩:=keep i o' h
  rw[hn];exact h4
 ·intro i j oi oj b hi hj hbi hbj
  obtain⟨_,_,o1,h1,e1,_⟩:=keep i oi hi
  obtain⟨_,_,o2,h2,e2,_⟩:=keep j oj hj
  exact hr.st.ap i j o1 o2 b h1 h2 (by rw[←e1];exact hbi) (by rw[←e2];exact hbj)
 ·intro i o' b h hb
  obtain⟨h1,_,o,h2,e1,_⟩:=keep i o' h
  rw[e1]at hb
  unfold FH.all
  rw[if_neg]
  ·exact hr.st.fr i o b h2 hb
  ·rintro⟨j,oj,hj,hbj⟩
   obtain⟨q1,q2⟩:=St.sel_obj hj
   have:=hr.st.ap i j o oj b h2 q2 hb hbj
   subst this
   rw[h1]at q1;cases q1
end Go.Pm
/- Part of the proof: Pm39. -/
namespace Go.Pm
open Go.RowKit
end Go.Pm
/- Part of the proof: Pm40. -/
namespace Go.Pm
attribute [local irreducible] AR Ok inBlock andThen endQ aoper
section
variable {X:Cfg} {nt:Nat} {Q:Exit→Env→St→Prop} {env:Env} {σ:St} {K:AV→St→Prop}
theorem Uq {x y:Operand} {t i v m e sz:Nat} {n:Int} {ti te:TI} {rows:List (List AV)} (a:Nat) (ho:σ.obj i=some (.row v e sz rows)) (hn:n=(a:Int)) (ham:a≤m) (hK:K (.sl i v a m) σ) (hx:aev X env x=.sl i v 0 m:=by exact rfl) (hy:aev X env y=vi n:=by exact rfl)
  (ht:X.T t=some ti:=by exact rfl) (hk:ti.kind=.slice e:=by exact rfl) (hte:X.T e=some te:=by exact rfl) (hsz:te.size=sz:=by exact rfl):aoper X (.slice t x (some y) none none) env σ Q K:=by
 subst hsz
 subst hn
 simp only[aoper,aop,aslice,Option.map_some,Option.map_none,optInt]
 rw[hx,hy]
 refine⟨ti,ht,some (a:Int),rfl,none,rfl,?_⟩
 rw[hk]
 refine⟨by simp,by simpa using ham,by simp,⟨te,rows,hte,ho⟩,?_⟩
 simpa using hK
theorem Ur {x y:Operand} {t i v m e sz:Nat} {n:Int} {ti te:TI} {rows:List (List AV)} (b:Nat) (ho:σ.obj i=some (.row v e sz rows)) (hn:n=(b:Int)) (hbm:b≤m) (hK:K (.sl i v 0 b) σ) (hx:aev X env x=.sl i v 0 m:=by exact rfl) (hy:aev X env y=vi n:=by exact rfl)
  (ht:X.T t=some ti:=by exact rfl) (hk:ti.kind=.slice e:=by exact rfl) (hte:X.T e=some te:=by exact rfl) (hsz:te.size=sz:=by exact rfl):aoper X (.slice t x none (some y) none) env σ Q K:=by
 subst hsz
 subst hn
 simp only[aoper,aop,aslice,Option.map_some,Option.map_none,optInt]
 rw[hx,hy]
 refine⟨ti,ht,none,rfl,some (b:Int),rfl,?_⟩
 rw[hk]
 refine⟨by simp,by simp,by simpa using hbm,⟨te,rows,hte,ho⟩,?_⟩
 simpa using hK
theorem Ut {ars:Array Operand} {ts:Array TypeId} {s x:Operand} {t tx el i v hi k w m n sz z:Nat} {ti te tix:TI} {rows rows2:List (List AV)} (ho:σ.obj i=some (.row v el sz rows)) (hok:σ.obj k=some (.row w el sz rows2)) (hle:hi≤rows.length) (hm:m=rows2.length) (hl:∀r∈rows2,r.length=sz) (hb:hi+rows2.length≤2097153) (hz:hi+rows2.length=z)
  (hK:K (.sl i n 0 z) (bumpSet σ i (.row n el sz (rows.take hi++rows2))))
  (h1:ars.toList=[s,x]:=by exact rfl) (h2:ts.toList=[t,tx]:=by exact rfl) (hs:aev X env s=.sl i v 0 hi:=by exact rfl) (hx:aev X env x=.sl k w 0 m:=by exact rfl) (ht:X.T t=some ti:=by exact rfl) (hk:ti.kind=.slice el:=by exact rfl) (hte:X.T el=some te:=by exact rfl) (hsz:te.size=sz:=by exact rfl) (hpz:Nat.blt 0 sz=true:=by exact rfl) (hby:Nat.blt 0 te.bytes=true:=by exact rfl) (hbb:Nat.ble te.bytes 1024=true:=by exact rfl)
  (htx:X.T tx=some tix:=by exact rfl) (hkx:tix.kind=.slice el:=by exact rfl) (hn:σ.next=n:=by exact rfl):aoper X (.call ⟨.builtin .append,ars,ts⟩) env σ Q K:=by
 subst hn
 subst hsz
 subst hm
 subst hz
 simp only[aoper,abuiltin]
 rw[h1,h2]
 simp only[aappend]
 refine⟨ti,ht,el,te,hk,hte,Je hpz,Je hby,tix,htx,rows2,?_,hl,?_⟩
 ·rw[hkx,hx]
  simp[srcOf,rowsOf,hok]
 ·rw[hs]
  exact⟨rfl,rows,ho,hle,Nat.le_trans (Nat.mul_le_mul hb (Nat.le_of_ble_eq_true hbb)) (by decide),hK⟩
end
end Go.Pm
