/- Part of the proof: Gr4. -/
import Derived.Test.YtdjanhhljinokaaGreatDoorT17
import Derived.Test.YtdjanhhljinokaaGreatDoorT13
import Derived.Test.YtdjanhhljinokaaGreatDoorT14
set_option linter.unusedVariables false
set_option linter.unusedSimpArgs false
namespace Go.Pm
attribute [local irreducible] AR Ok inBlock andThen endQ aoper
set_option maxHeartbeats 1000000
open Go.Proofs
def FzL (σ:St):List AV→List D→Prop
 |[],[]=>True
 |x::xs,d::ds=>Fz σ x d∧FzL σ xs ds
 |_,_=>False
theorem FzL.get {σ:St}:∀{cs:List AV} {ds:List D},FzL σ cs ds→ds.length=cs.length∧∀j (h1:j<cs.length) (h2:j<ds.length),Fz σ cs[j] ds[j]
 |[],[],_=>⟨rfl,fun j h=>by simp at h⟩
 |x::xs,d::ds,h=>by
  obtain⟨h1,h2⟩:=FzL.get h.2
  refine⟨by simp[h1],fun j a b=>?_⟩
  cases j with
  |zero=>exact h.1
  |succ j=>exact h2 j (by simpa using a) (by simpa using b)
 |[],_::_,h=>h.elim
 |_::_,[],h=>h.elim
theorem J9H {σ:St}:∀(ds:List D) {cs:List AV} {es:List D},FzL σ cs es→FzL σ (ds.map .d++cs) (ds++es)
 |[],_,_,h=>h
 |d::ds,_,_,h=>⟨.d _,J9H ds h⟩
theorem J6a {σ:St} {i hN E:Nat} {l:List Nat} {ts:List Br} (hl:ts.length=l.length) (ho:l≠[]→σ.obj i=some (.row hN E 1 (l.map prf))) (h:∀k (h1:k<l.length) (h2:k<ts.length),Fz σ (.ref l[k] 0) (.ip (eBr ts[k]) 0)):Fz σ (slcN i hN l.length) (.im (ts.map eBrP)):=by
 by_cases hn:l=[]
 ·subst hn
  have:ts=[]:=List.eq_nil_of_length_eq_zero hl
  subst this
  exact .nil
 ·rw[J1p (fun e=>hn (List.eq_nil_of_length_eq_zero e))]
  refine .sl (drows:=ts.map eBrP) (ho hn) (by simp[hl]) (fun k h1 h2=>by simp[eBrP,prf]) (fun k h1 h2 j h3 h4=>?_) (by simp) (by rw[Nat.sub_zero,List.drop_zero,List.take_of_length_le (by simp[hl])])
  have:j=0:=by simp[prf]at h3;omega
  subst this
  have:=h k (by simpa using h1) (by simpa using h2)
  simpa[prf,eBrP]using this
mutual
theorem JaB {σ:St} {G:Gs} {κ:Nat→Tag} {c:Nat} {op:Nat→Bool} (h:GRep σ G κ c):∀(t:Br) (a:Nat),trB G.nd op t a→Fz σ (.ref a 0) (.ip (eBr t) 0)
 |.nd s ys ns,a,ht=>by
  simp only[trB]at ht
  obtain⟨g,g1,g2,g3,g4,g5⟩:=ht
  obtain⟨b1,b2,b3,b4⟩:=h.nd a g g1
  have hy:=J6a (J3R ys g.yes g4) (fun hne=>(b3 hne).1) (J2w h ys g.yes g4)
  have hn:=J6a (J3R ns g.no g5) (fun hne=>(b4 hne).1) (J2w h ns g.no g5)
  have key:FzL σ (ncell g) (eBr (.nd s ys ns)):=by
   have:eBr (.nd s ys ns)=eSm s++[.im (ys.map eBrP),.im (ns.map eBrP)]:=by simp only[eBr,J1s];rfl
   rw[this,←g3]
   exact J9H (eSm g.s) ⟨hy,hn,trivial⟩
  exact .ref b1 key.get.1 key.get.2
theorem J2w {σ:St} {G:Gs} {κ:Nat→Tag} {c:Nat} {op:Nat→Bool} (h:GRep σ G κ c):∀(ts:List Br) (l:List Nat),trL G.nd op ts l→∀k (h1:k<l.length) (h2:k<ts.length),Fz σ (.ref l[k] 0) (.ip (eBr ts[k]) 0)
 |[],_,_,k,_,h2=>by simp at h2
 |t::ts,[],ht,k,_,_=>by simp[trL]at ht
 |t::ts,a::l,ht,0,_,_=>by
  simp only[trL]at ht
  exact JaB h t a ht.1
 |t::ts,a::l,ht,k+1,h1,h2=>by
  simp only[trL]at ht
  exact J2w h ts l ht.2 k (by simpa using h1) (by simpa using h2)
end
theorem fzt2 {X:Cfg} {nt:Nat} {Q:Exit→Env→St→Prop} {env:Env} {σ:St} {c:Code} (s t:Nat) {x y:AV} (h1:AFz σ (env s) x) (h2:AFz σ (env t) y) (h:Ok X nt c Q (envL [(s,x),(t,y)]) ⟨fun _=>none,σ.next⟩):Ok X nt c Q env σ:=by
 refine J0a (J7Z fun t'=>?_) h
 simp only[envL]
 by_cases hs:t'=s
 ·subst hs;rw[if_pos rfl];exact h1
 ·rw[if_neg hs]
  by_cases ht:t'=t
  ·subst ht;rw[if_pos rfl];exact h2
  ·rw[if_neg ht];exact .any _
theorem fzt2n {X:Cfg} {nt:Nat} {Q:Exit→Env→St→Prop} {env:Env} {σ:St} {c:Code} (s t:Nat) (h:Ok X nt c Q (envL [(s,.any),(t,vb false)]) ⟨fun _=>none,σ.next⟩) (h0:env s=.d (.s (.slice none 0 0)):=by exact rfl) (h1:env t=vb false:=by exact rfl):Ok X nt c Q env σ:=
 fzt2 s t (.any _) (.data (by rw[h1];exact .d _)) h
def growR (l:List Sm):AV:=match growI l with|some R=>.tup [.d (.im (R.map eBrP)),vb true]|none=>.tup [.any,vb false]
def UG (nx:Nat) (G:Gs):Prop:=∃pa:Nat→Tag,(∀c∈G.root,pa c=.rc∧c<nx)∧G.root.Nodup∧∀a g,G.nd a=some g→a<nx∧(∀c∈g.yes,pa c=.ny a∧a<c∧c<nx)∧(∀c∈g.no,pa c=.nn a∧a<c∧c<nx)∧g.yes.Nodup∧g.no.Nodup
theorem UG.mono {n m:Nat} {G:Gs} (h:UG n G) (hnm:n≤m):UG m G:=by
 obtain⟨pa,u1,u2,u3⟩:=h
 refine⟨pa,fun c hc=>⟨(u1 c hc).1,by have:=(u1 c hc).2;omega⟩,u2,fun a g hg=>?_⟩
 obtain⟨v1,v2,v3,v4,v5⟩:=u3 a g hg
 exact⟨by omega,fun c hc=>by obtain⟨q1,q2,q3⟩:=v2 c hc;exact⟨q1,q2,by omega⟩,fun c hc=>by obtain⟨q1,q2,q3⟩:=v3 c hc;exact⟨q1,q2,by omega⟩,v4,v5⟩
theorem UG.put {nx nx':Nat} {G:Gs} {M i hN:Nat} {s:Sm} (h:UG nx G) (h1:nx≤M) (h2:M<nx') (hx:∀x∈G.stk,∃g,G.nd x.a=some g):UG nx' ((G.new M s).put M i hN):=by
 obtain⟨pa,u1,u2,u3⟩:=h
 -- the children of the old nodes
 have old:∀(t:Tag) a g,G.nd a=some g→a<nx'∧a≠M∧(∀c∈g.yes,(if c=M then t else pa c)=.ny a∧a<c∧c<nx')∧(∀c∈g.no,(if c=M then t else pa c)=.nn a∧a<c∧c<nx')∧g.yes.Nodup∧g.no.Nodup∧M∉g.yes∧M∉g.no:=by
  intro t a g hg
  obtain⟨v1,v2,v3,v4,v5⟩:=u3 a g hg
  refine⟨by omega,by omega,fun c hc=>?_,fun c hc=>?_,v4,v5,fun hc=>?_,fun hc=>?_⟩
  ·obtain⟨q1,q2,q3⟩:=v2 c hc;rw[if_neg (by omega)];exact⟨q1,q2,by omega⟩
  ·obtain⟨q1,q2,q3⟩:=v3 c hc;rw[if_neg (by omega)];exact⟨q1,q2,by omega⟩
  ·have:=(v2 M hc).2.2;omega
  ·have:=(v3 M hc).2.2;omega
 have hroot:∀(t:Tag),∀c∈G.root,(if c=M then t else pa c)=.rc∧c<nx':=fun t c hc=>by
  obtain⟨q1,q2⟩:=u1 c hc;rw[if_neg (by omega)];exact⟨q1,by omega⟩
 rcases hst:G.stk with _|⟨x,st⟩
 ·have e:(G.new M s).put M i hN={G.new M s with root:=(G.new M s).root++[M],rr:=i,rh:=hN}:=by simp only[Gs.put,Gs.new,hst]
  rw[e]
  refine⟨fun c=>if c=M then .rc else pa c,fun c hc=>?_,J2r u2 fun hc=>?_,fun a g hg=>?_⟩
  ·rcases List.mem_append.1 hc with q|q
   ·exact hroot .rc c q
   ·simp only[List.mem_singleton]at q;subst q;exact⟨if_pos rfl,h2⟩
  ·have:=(u1 M hc).2;omega
  ·simp only[Gs.new]at hg
   by_cases ha:a=M
   ·rw[if_pos ha,Option.some.injEq]at hg
    subst hg
    exact⟨by omega,by simp,by simp,List.nodup_nil,List.nodup_nil⟩
   ·rw[if_neg ha]at hg
    obtain⟨v1,_,v2,v3,v4,v5,_,_⟩:=old .rc a g hg
    exact⟨v1,v2,v3,v4,v5⟩
 ·obtain⟨gx,hgx⟩:=hx x (by rw[hst];exact List.mem_cons_self)
  have hxM:x.a≠M:=by have:=(u3 _ _ hgx).1;omega
  have hxl:=(u3 _ _ hgx).1
  have e:(G.new M s).put M i hN={G.new M s with nd:=fun a=>if a=x.a then((G.new M s).nd a).map fun g=>if x.els then {g with no:=g.no++[M],n:=i,hn:=hN}else {g with yes:=g.yes++[M],y:=i,hy:=hN}else(G.new M s).nd a}:=by
   simp only[Gs.put,show(G.new M s).stk=x::st from hst]
  rw[e]
  refine⟨fun c=>if c=M then(if x.els then .nn x.a else .ny x.a)else pa c,fun c hc=>hroot _ c hc,u2,fun a g hg=>?_⟩
  simp only[Gs.new]at hg
  by_cases hax:a=x.a
  ·subst hax
   rw[if_pos rfl,if_neg hxM,hgx,Option.map_some,Option.some.injEq]at hg
   obtain⟨v1,_,v2,v3,v4,v5,v6,v7⟩:=old (if x.els then .nn x.a else .ny x.a) x.a gx hgx
   subst hg
   cases hels:x.els with
   |true=>
    simp only[hels,if_true]at v2 v3 ⊢
    refine⟨v1,v2,fun c hc=>?_,v4,J2r v5 v7⟩
    rcases List.mem_append.1 hc with q|q
    ·exact v3 c q
    ·simp only[List.mem_singleton]at q;subst q;exact⟨if_pos rfl,by omega,h2⟩
   |false=>
    simp only[hels,Bool.false_eq_true,if_false]at v2 v3 ⊢
    refine⟨v1,fun c hc=>?_,v3,J2r v4 v6,v5⟩
    rcases List.mem_append.1 hc with q|q
    ·exact v2 c q
    ·simp only[List.mem_singleton]at q;subst q;exact⟨if_pos rfl,by omega,h2⟩
  ·rw[if_neg hax]at hg
   by_cases ha:a=M
   ·rw[if_pos ha,Option.some.injEq]at hg
    subst hg
    exact⟨by omega,by simp,by simp,List.nodup_nil,List.nodup_nil⟩
   ·rw[if_neg ha]at hg
    obtain⟨v1,_,v2,v3,v4,v5,_,_⟩:=old (if x.els then .nn x.a else .ny x.a) a g hg
    exact⟨v1,v2,v3,v4,v5⟩
theorem ret2e {X:Cfg} {env:Env} {σ:St} {s t:Nat} {K:AEnd→St→Prop} (h:K (.ret (.tup [env s,env t])) σ):endQ X #[.tmp s,.tmp t].toList K .ret env σ:=by unfold endQ;exact h
def growK (l:List Sm) (E:AEnd) (σ:St):Prop:=match growI l with
 |none=>∃x,E=.ret (.tup [x,vb false])
 |some R=>∃G κ c,GRep σ G κ c∧trL G.nd (opS []) R G.root∧UG σ.next G∧E=.ret (.tup [slcN G.rr G.rh G.root.length,vb true])
structure Lp where
 k:Nat
 G:Gs
 FS:List Fr
 R:List Br
def LpI (l:List Sm) (x:Lp) (σ:St):Prop:=x.k≤l.length∧(∃κ,GRep σ x.G κ (2*x.k))∧frS x.G.nd (opS x.G.stk) x.FS x.G.stk x.R x.G.root∧(x.G.stk.map (·.a)).Nodup∧(x.G.stk.map (·.o)).Nodup∧growGo (l.drop x.k) x.FS x.R=growI l∧UG σ.next x.G
section
variable {X:Cfg} {nt:Nat} {ops:Array Oper} {T:Nat→Prop} {es:List Nat} {n:Nat} {rest:List Oper} {Q:Exit→Env→St→Prop} {env:Env} {σ σ':St} {dst:Option Tmp} {op:Op} {ty:TypeId} {pos:String} {after:Array Edge} {r:AV}
theorem Wm {x:Operand} (k:ADE X nt ops T es Q (n+1) rest (put env dst (aev X env x)) σ) (hd:dst.all (·<nt)=true:=by exact rfl) (hne:es.contains n=false:=by exact rfl):ADE X nt ops T es Q n (⟨dst,.assign x,ty,pos,after,none⟩::rest) env σ:=
 J1L (o:=⟨dst,.assign x,ty,pos,after,none⟩) ⟨hd,fun σ' _=>by simp only[aoper,aop];exact⟨trivial,trivial⟩⟩ k hne
theorem Wlen {b:Bool} {i h m:Nat} {x:Operand} {t el:Nat} {ti:TI} {ars:Array Operand} {ts:Array TypeId} (hn:b=false→m=0) (k:ADE X nt ops T es Q (n+1) rest (put env dst (vi m)) σ) (h1:ars.toList=[x]:=by exact rfl) (h2:ts.toList=[t]:=by exact rfl) (hx:aev X env x=slcB b i h m:=by exact rfl) (ht:X.T t=some ti:=by exact rfl) (hk':ti.kind=.slice el:=by exact rfl)
  (hd:dst.all (·<nt)=true:=by exact rfl) (hne:es.contains n=false:=by exact rfl):ADE X nt ops T es Q n (⟨dst,.call ⟨.builtin .len,ars,ts⟩,ty,pos,after,none⟩::rest) env σ:=
 J1L (o:=⟨dst,.call ⟨.builtin .len,ars,ts⟩,ty,pos,after,none⟩) ⟨hd,fun σ' _=>Yx2 hn ⟨rfl,rfl⟩ h1 h2 hx ht hk'⟩ k hne
end
theorem GRep.temp {σ:St} {G:Gs} {κ:Nat→Tag} {c:Nat} (h:GRep σ G κ c) (o o':AO):GRep ((σ.alloc o).set σ.next o') G κ c:=by
 refine h.junk (Nat.le_refl _) (by simp only[St.next_set,St.next_alloc];omega) fun j hj=>?_
 have:=h.lt j hj
 rw[St.obj_set,if_neg (by omega),St.obj_alloc,if_neg (by omega)]
theorem J72 {σ:St} {G:Gs} {κ:Nat→Tag} {c M:Nat} (h:GRep σ G κ c) (hM:σ.next≤M):G.nd M=none∧opS G.stk M=false:=by
 have h1:G.nd M=none:=by
  cases hq:G.nd M with
  |none=>rfl
  |some g=>
   have h2:=(h.nd M g hq).2.1
   have:=h.lt M (Tag.tn h2 (by intro h;cases h))
   omega
 refine⟨h1,?_⟩
 cases hq:opS G.stk M with
 |false=>rfl
 |true=>
  obtain⟨x,hx,hxa⟩:=List.any_eq_true.1 hq
  obtain⟨_,_,g,hg⟩:=h.op x hx
  have:x.a=M:=by simpa using hxa
  rw[this,h1]at hg;cases hg
theorem J5F {σ:St} {G:Gs} {κ:Nat→Tag} {c M i hN:Nat} {s:Sm} (h:GRep σ G κ c) (hM:σ.next≤M) (hd:(G.stk.map (·.a)).Nodup):
  ((G.new M s).put M i hN).stk=G.stk∧((G.new M s).put M i hN).sa=G.sa∧(∀b g,G.nd b=some g→opS G.stk b=false→((G.new M s).put M i hN).nd b=some g)∧((G.new M s).put M i hN).nd M=some ⟨s,0,0,0,0,[],[]⟩∧
  (match G.stk with
   |[]=>((G.new M s).put M i hN).root=G.root++[M]
   |x::st'=>((G.new M s).put M i hN).root=G.root∧(∀g,G.nd x.a=some g→∃g',((G.new M s).put M i hN).nd x.a=some g'∧g'.s=g.s∧(if x.els then g'.yes=g.yes∧g'.no=g.no++[M]else g'.yes=g.yes++[M]∧g'.no=g.no))∧∀y∈st',((G.new M s).put M i hN).nd y.a=G.nd y.a):=by
 obtain⟨hn,hop⟩:=J72 h hM
 rcases hst:G.stk with _|⟨x,st⟩
 ·have e:(G.new M s).put M i hN={G.new M s with root:=(G.new M s).root++[M],rr:=i,rh:=hN}:=by simp only[Gs.put,Gs.new,hst]
  rw[e]
  refine⟨hst,rfl,fun b g hb _=>?_,?_,rfl⟩
  ·have:b≠M:=fun e=>by rw[e,hn]at hb;cases hb
   simp only[Gs.new,this,if_false];exact hb
  ·simp only[Gs.new,if_true]
 ·have hxM:x.a≠M:=fun e=>by
   have:opS G.stk M=true:=by rw[hst,←e];simp[opS]
   rw[hop]at this;cases this
  have e:(G.new M s).put M i hN={G.new M s with nd:=fun a=>if a=x.a then((G.new M s).nd a).map fun g=>if x.els then {g with no:=g.no++[M],n:=i,hn:=hN}else {g with yes:=g.yes++[M],y:=i,hy:=hN}else(G.new M s).nd a}:=by
   simp only[Gs.put,show(G.new M s).stk=x::st from hst]
  rw[e]
  rw[hst]at hd
  simp only[List.map_cons,List.nodup_cons]at hd
  refine⟨hst,rfl,fun b g hb ho=>?_,?_,rfl,fun g hg=>?_,fun y hy=>?_⟩
  ·have h1:b≠M:=fun e=>by rw[e,hn]at hb;cases hb
   have h2:b≠x.a:=fun e=>by subst e;simp[opS]at ho
   simp only[h2,if_false,Gs.new,h1];exact hb
  ·simp only[Ne.symm hxM,if_false,Gs.new,if_true]
  ·cases hels:x.els with
   |true=>exact⟨{g with no:=g.no++[M],n:=i,hn:=hN},by simp only[if_true,Gs.new,hxM,if_false,hg,Option.map_some],rfl,by simp⟩
   |false=>exact⟨{g with yes:=g.yes++[M],y:=i,hy:=hN},by simp only[if_true,Gs.new,hxM,if_false,hg,Option.map_some,Bool.false_eq_true],rfl,by simp⟩
  ·have h2:y.a≠x.a:=fun e=>hd.1 (by rw[←e];exact List.mem_map.2 ⟨y,hy,rfl⟩)
   have h1:y.a≠M:=fun e=>by
    have:opS G.stk M=true:=by rw[hst,←e];simp only[opS,List.any_eq_true];exact⟨y,List.mem_cons_of_mem _ hy,by simp⟩
    rw[hop]at this;cases this
   simp only[h2,if_false,Gs.new,h1]
theorem J8U {nd:Nat→Option Gn} {op op':Nat→Bool} (hc:∀b g,nd b=some g→op b=false→nd b=some g∧op' b=false) {t:Br} {p:Nat} (ht:trB nd op' t p):∀{fs:List Fr} {st:List On} {R:List Br} {cs:List Nat},(∀y∈st,op' y.a=true)→
  frP nd op fs st R cs p→frS nd op' (putF t fs R).1 st (putF t fs R).2 cs
 |[],[],R,cs,_,h=>by
  obtain⟨l,rfl,h2⟩:=h
  exact J19 ht _ _ (JR hc _ _ h2)
 |f::fs,y::st,R,cs,ho,h=>by
  obtain⟨⟨l,m,⟨g,g1,g2,g3,g4,g5,g6⟩,h2,h3⟩,h4⟩:=h
  have h2':=JR hc _ _ h2
  have h3':=JR hc _ _ h3
  have h4':=J2O hc fs st R cs y.a (fun z hz=>⟨rfl,ho z (List.mem_cons_of_mem _ hz)⟩) h4
  have hoy:=ho y List.mem_cons_self
  simp only[putF]
  cases hf:f.els with
  |true=>
   rw[g4,hf]at g5 g6
   simp only[if_true]at g5 g6 ⊢
   exact⟨⟨l,m++[p],⟨g,g1,hoy,g3,by rw[g4,hf],g5,g6⟩,h2',J19 ht _ _ h3'⟩,h4'⟩
  |false=>
   rw[g4,hf]at g5 g6
   simp only[Bool.false_eq_true,if_false]at g5 g6 ⊢
   exact⟨⟨l++[p],m,⟨g,g1,hoy,g3,by rw[g4,hf],g5,g6⟩,J19 ht _ _ h2',h3'⟩,h4'⟩
 |[],_::_,_,_,_,h=>h.elim
 |_::_,[],_,_,_,h=>h.elim
def G0:Gs:=⟨fun _=>none,[],[],0,0,false,0,0⟩
set_option maxHeartbeats 8000000 in
theorem J9r (l:List Sm) (hl:l.length≤1048576):AFun X 41 [.d (.im (l.map eSm))] St.nil (growK l):=by
 refine Jx Tryz.func41 rfl (by decide) Tryz.ntmps41 Tryz.results41 (by simp) ?_
 repeat' first|refine Z1 ?_|refine Z2 ?_|refine Z5 ?_|refine Yq ?_|refine Zd ?_|refine Zo ?_|refine J5 ?_|refine J4 ?_
 refine J24 (ι:=Lp) (fun x=>envL [(4,.ref 0 0),(5,.ref 1 0),(6,.fn 82 [.ref 1 0,.ref 0 0]),(11,.d (.im (l.map eSm))),(12,vi l.length),(13,vi x.k)]) (LpI l) (fun x=>l.length-x.k) ⟨0,G0,[],[]⟩ ?_ (Js ⟨.refl _,.refl _,.refl _,.refl _,.refl _,.refl _,trivial⟩) ?_
 ·refine⟨Nat.zero_le _,⟨fun j=>if j=0 then .rc else if j=1 then .sc else .non,⟨fun i hi=>?_,rfl,rfl,rfl,rfl,fun _=>rfl,fun h=>absurd rfl h,fun h=>(by cases h),fun a g h=>(by cases h),fun x h=>(by cases h),⟨Nat.le_refl _,Nat.le_refl _,fun a g h=>(by cases h)⟩⟩⟩,trivial,List.nodup_nil,List.nodup_nil,rfl,⟨fun _=>.non,(fun c hc=>by cases hc),List.nodup_nil,fun a g h=>by cases h⟩⟩
  show i<2
  by_cases h0:i=0
  ·omega
  ·by_cases h1:i=1
   ·omega
   ·exact absurd (by simp[h0,h1]) hi
 rintro⟨k,G,FS,R⟩ σ ⟨i1,⟨κ,hG⟩,i3,i4,i5,i6,i7⟩
 simp only at i1 hG i3 i4 i5 i6 i7
 dsimp only
 rcases hx:l[k]? with _|s
 ·have hle:=Jk hx
  have ek:decide ((k:Int)<(l.length:Int))=false:=J1 (by omega)
  rw[Jm hx]at i6
  have hlen0:G.sa=false→G.stk.length=0:=fun h=>by rw[hG.sa h];rfl
  repeat' first|refine Z1 ?_|refine Z2 ?_|refine Zo ?_|refine J5 ?_|refine Zq ?_|refine Jf ?_|refine J3 ?_|refine Jb ?_|refine Zv ?_
  refine J09 (fun j=>j=0∨j=1) [] Jr (by decide +kernel) ?_
  refine Wr hG.r0 (.inl rfl) ?_
  refine Wr hG.r1 (.inr rfl) ?_
  refine Wlen hlen0 ?_
  refine Wa ?_
  refine Wm ?_
  refine Wm ?_
  refine Wx ?_
  rcases hst:G.stk with _|⟨x,st⟩
  ·rcases FS with _|⟨f,fs⟩
   ·rw[hst]at i3
    have hR:growI l=some R:=by rw[←i6];rfl
    repeat' first|refine ret2e ?_|refine J9 ?_
    unfold growK
    rw[hR]
    exact⟨G,κ,_,hG,i3,i7,rfl⟩
   ·rw[hst]at i3;exact i3.elim
  ·rcases FS with _|⟨f,fs⟩
   ·rw[hst]at i3;exact i3.elim
   ·have hR:growI l=none:=by rw[←i6];rfl
    have e0:decide ((((x::st).length:Nat):Int)=0)=false:=J1 (by simp only[List.length_cons];omega)
    refine fzt2 2 3 (x:=.any) (y:=vb false) (.any _) (.data (by show Fz σ (vb (decide ((((x::st).length:Nat):Int)=0))) _;rw[e0];exact .d _)) ?_
    repeat' first|refine ret2 ?_|refine J9 ?_
    unfold growK
    rw[hR]
    exact⟨_,rfl⟩
 obtain⟨hd,hlt⟩:=Jc hx
 have ek:decide ((k:Int)<(l.length:Int))=true:=J0 (by omega)
 rw[hd]at i6
 obtain⟨hb1,hb2,hb3⟩:=hG.bd
 have hk20:2*k≤2097152:=by omega
 have hG1:=hG.temp (.var [.d (.s (.int .i64 0)),.d (.s (.string .empty)),.d (.s (.int .i64 0)),.d (.s (.slice none 0 0)),.d (.s (.slice none 0 0)),.d (.s (.slice none 0 0))]) (.var ((eSm s).map .d))
 have hG2:=hG1.newnode (M:=σ.next+1) (s:=s) rfl
 have hop:∀y∈G.stk,opS G.stk y.a=true:=fun y hy=>List.any_eq_true.2 ⟨y,hy,by simp⟩
 obtain⟨hnM,hoM⟩:=J72 hG (show σ.next≤σ.next+1 by omega)
 by_cases h4:s.kind=4
 ·have d4:decide (s.kind=4)=true:=J0 h4
  simp only[growGo,h4,if_true]at i6
  repeat' first|refine Z1 ?_|refine Z2 ?_|refine Z5 ?_|refine Yu (i:=σ.next) ?_|refine Ze ?_|refine Zo ?_|refine J5 ?_|refine Zp ?_|refine J4 ?_|refine J7 ?_|refine J3 ?_
  refine Yt (i:=σ.next) (JE σ _) ?_
  repeat' first|refine Z1 ?_|refine Z2 ?_|refine Z5 ?_|refine Ys (JU _ _ _) ?_|refine Yv (i:=σ.next+1) (cs:=ncell ⟨s,0,0,0,0,[],[]⟩) ?_|refine Zo ?_|refine Zp ?_|refine J4 ?_
  refine J7Y (J97 hG2 hk20 (σ.next+1)) (fun E σ' hE=>?_)
  obtain⟨rfl,i,hN,κ',hG3,hn3,hκ3⟩:=hE
  refine⟨_,rfl,?_⟩
  obtain⟨p1,p2,p3,p4,p5⟩:=J5F (s:=s) (M:=σ.next+1) (i:=i) (hN:=hN) hG (by omega) i4
  obtain⟨rows,hrows⟩:∃rows,((G.new (σ.next+1) s).put (σ.next+1) i hN).sa=true→σ'.obj ((G.new (σ.next+1) s).put (σ.next+1) i hN).sr=some (.row ((G.new (σ.next+1) s).put (σ.next+1) i hN).sh 143 1 rows)∧rows.take ((G.new (σ.next+1) s).put (σ.next+1) i hN).stk.length=((G.new (σ.next+1) s).put (σ.next+1) i hN).stk.reverse.map orf∧((G.new (σ.next+1) s).put (σ.next+1) i hN).stk.length≤rows.length:=by
   cases hq:((G.new (σ.next+1) s).put (σ.next+1) i hN).sa with
   |false=>exact⟨[],fun h=>by cases h⟩
   |true=>obtain⟨r,hr⟩:=(hG3.sr hq).1;exact⟨r,fun _=>hr⟩
  obtain⟨c1,c2,c3⟩:=hG3.bd
  have l0:=hG3.lt 0 (Tag.tn hG3.k0 (by intro h;cases h))
  have l1:=hG3.lt 1 (Tag.tn hG3.k1 (by intro h;cases h))
  repeat' first|refine Z2 ?_|refine Z5 ?_|refine Jd ?_
  refine Yr hG3.r1 ?_
  repeat' first|refine Z1 ?_|refine Z5 ?_|refine Yv (i:=σ'.next) (cs:=[.ref (σ.next+1) 0,vb false]) ?_|refine Yw (sz:=1) (rows:=[orf ⟨σ'.next,σ.next+1,false⟩]) ?_
  refine app2 (f:=orf) (l:=((G.new (σ.next+1) s).put (σ.next+1) i hN).stk.reverse) (y:=⟨σ'.next,σ.next+1,false⟩) (rows:=rows) (k:=σ'.next+1) (v:=σ'.next+1) (fun h=>by rw[hG3.sa h];rfl) (by rw[List.length_reverse]) (fun h=>⟨?_,(hrows h).2.1,(hrows h).2.2⟩) (JE _ _) (fun _=>rfl) (fun i' σ'' e1 e2 e3 e4=>?_)
  ·have:=hG3.lt _ (Tag.tn (hG3.sr h).2 (by intro h;cases h))
   rw[St.obj_alloc,if_neg (by simp only[St.next_alloc];omega),St.obj_alloc,if_neg (by omega)]
   exact(hrows h).1
  have hi1:1≠i':=by
   rw[e1]
   split
   ·rename_i hsa
    intro e
    have:=(hG3.sr hsa).2
    rw[←e,hG3.k1]at this;cases this
   ·simp only[St.next_alloc];omega
  have f1:σ''.obj 1=some (.var [slcB ((G.new (σ.next+1) s).put (σ.next+1) i hN).sa ((G.new (σ.next+1) s).put (σ.next+1) i hN).sr ((G.new (σ.next+1) s).put (σ.next+1) i hN).sh ((G.new (σ.next+1) s).put (σ.next+1) i hN).stk.length]):=by
   rw[e3 1 hi1,St.obj_alloc,if_neg (by simp only[St.next_alloc];omega),St.obj_alloc,if_neg (by omega)];exact hG3.r1
  have hio:σ'.next≠i':=by
   rw[e1]
   split
   ·rename_i hsa
    have:=hG3.lt _ (Tag.tn (hG3.sr hsa).2 (by intro h;cases h));omega
   ·simp only[St.next_alloc];omega
  repeat' first|refine Z1 ?_|refine Z2 ?_|refine Z3 ?_|refine Z5 ?_|refine Yt f1 ?_|refine Zf ?_|refine Jd ?_|refine J3 ?_|refine J6 ?_
  obtain⟨κ2,hG4⟩:=hG3.push (x:=⟨σ'.next,σ.next+1,false⟩) (i:=i') (hN:=σ'.next+2) (σ2:=σ''.set 1 (.var [.sl i' (σ'.next+2) 0 (((G.new (σ.next+1) s).put (σ.next+1) i hN).stk.length+1)])) ⟨_,p4⟩ (by simp only[St.next_set,e4,St.next_alloc];omega) rfl (by
   rw[e1]
   cases hq:((G.new (σ.next+1) s).put (σ.next+1) i hN).sa with
   |false=>left;simp only[Bool.false_eq_true,if_false,St.next_set,e4,St.next_alloc];exact⟨trivial,by omega,by omega⟩
   |true=>right;exact⟨rfl,rfl⟩) (JU _ _ _) (by rw[St.obj_set,if_neg (Ne.symm hi1)];exact e2) (by rw[St.obj_set,if_neg (by simp only;omega),e3 _ hio,St.obj_alloc,if_neg (by simp only[St.next_alloc];omega)];exact JE _ _) (fun j hj hj1 hji=>by
    have:=hG3.lt j hj
    rw[St.obj_set,if_neg hj1,e3 j hji,St.obj_alloc,if_neg (by simp only[St.next_alloc];omega),St.obj_alloc,if_neg (by omega)])
  refine⟨⟨k+1,{(G.new (σ.next+1) s).put (σ.next+1) i hN with stk:=⟨σ'.next,σ.next+1,false⟩::((G.new (σ.next+1) s).put (σ.next+1) i hN).stk,sa:=true,sr:=i',sh:=σ'.next+2},⟨s,false,[],[]⟩::FS,R⟩,⟨hlt,⟨κ2,hG4⟩,⟨⟨[],[],⟨_,p4,by simp[opS],rfl,rfl,rfl,rfl⟩,trivial,trivial⟩,?_⟩,?_,?_,i6,(i7.put (M:=σ.next+1) (i:=i) (hN:=hN) (s:=s) (by omega) (show σ.next+1<(σ''.set 1 _).next by simp only[St.next_set,e4,St.next_alloc]at *;omega) fun x hx=>(hG.op x hx).2.2)⟩,by show l.length-(k+1)<l.length-k;omega,Js ⟨.refl _,.refl _,.refl _,.refl _,.refl _,.refl _,trivial⟩⟩
  ·simp only[p1]
   refine J9c (op:=opS G.stk) (fun b g hb ho=>⟨p3 b g hb ho,?_⟩) i3 ?_
   ·have:b≠σ.next+1:=fun e=>by rw[e,hnM]at hb;cases hb
    simp only[opS,List.any_cons,Bool.or_eq_false_iff,beq_eq_false_iff_ne]at ho ⊢
    exact⟨Ne.symm this,ho⟩
   ·have hop2:∀y∈G.stk,opS (⟨σ'.next,σ.next+1,false⟩::G.stk) y.a=true:=fun y hy=>List.any_eq_true.2 ⟨y,List.mem_cons_of_mem _ hy,by simp⟩
    rcases hst:G.stk with _|⟨x,st⟩
    ·rw[hst]at p5;exact p5
    ·rw[hst]at p5 hop2
     exact⟨p5.1,p5.2.1,hop2 x List.mem_cons_self,fun y hy=>⟨p5.2.2 y hy,hop2 y (List.mem_cons_of_mem _ hy)⟩⟩
  ·simp only[p1,List.map_cons,List.nodup_cons]
   refine⟨fun hm=>?_,i4⟩
   obtain⟨y,hy,hya⟩:=List.mem_map.1 hm
   have:=hop y hy
   rw[hya,hoM]at this;cases this
  ·simp only[p1,List.map_cons,List.nodup_cons]
   refine⟨fun hm=>?_,i5⟩
   obtain⟨y,hy,hya⟩:=List.mem_map.1 hm
   have h1:=(hG3.op y (by rw[p1];exact hy)).2.1
   have:=hG3.lt _ (Tag.tn h1 (by intro h;cases h))
   omega
 by_cases h5:s.kind=5
 ·have d4:decide (s.kind=4)=false:=J1 h4
  have d5:decide (s.kind=5)=true:=J0 h5
  simp only[growGo]at i6
  rw[if_neg h4,if_pos h5]at i6
  rcases hst:G.stk with _|⟨x,st⟩
  ·have r1:=hG1.r1
   rw[hst]at r1 i3
   obtain rfl:FS=[]:=by cases FS with|nil=>rfl|cons f fs=>exact i3.elim
   have hR:growI l=none:=i6.symm
   have e0:decide (((([]:List On).length:Nat):Int)=0)=true:=rfl
   have e00:decide (((0:Nat):Int)=0)=true:=rfl
   repeat' first|refine Z1 ?_|refine Z2 ?_|refine Z5 ?_|refine Yu (i:=σ.next) ?_|refine Ze ?_|refine Zo ?_|refine J5 ?_|refine Zp ?_|refine J4 ?_|refine J7 ?_|refine J3 ?_
   refine Yt (i:=σ.next) (JE σ _) ?_
   repeat' first|refine Z1 ?_|refine Z2 ?_|refine Z5 ?_|refine Ys (JU _ _ _) ?_|refine Zo ?_|refine J5 ?_|refine Zp ?_|refine Zq ?_|refine J4 ?_
   refine Yr r1 ?_
   repeat' first|refine Z1 ?_|refine Z2 ?_|refine Z5 ?_|refine Z9 ?_|refine Yx2 (fun _=>rfl) ?_|refine fzt2n 2 3 ?_|refine ret2 ?_|refine Zo ?_|refine Zp ?_|refine J9 ?_|refine J8 ?_|refine Ja ?_
   unfold growK
   rw[hR]
   exact⟨_,rfl⟩
  have r1:=hG1.r1
  have hsa:G.sa=true:=by
   cases hq:G.sa with
   |true=>rfl
   |false=>rw[hG.sa hq]at hst;cases hst
  rw[hst,List.length_cons,show slcB G.sa G.sr G.sh (st.length+1)=.sl G.sr G.sh 0 (st.length+1) by rw[hsa];rfl]at r1
  have hsl:st.length+1≤2*k:=by rw[hst]at hb2;exact hb2
  obtain⟨rows,hsr,hsr2,hsr3⟩:=(hG1.sr hsa).1
  rw[hst]at hsr2 hsr3
  obtain⟨hopo,hopt,g,hg⟩:=hG1.op x (by rw[hst];exact List.mem_cons_self)
  have hget:rows[st.length]? = some (orf x):=by
   have h1:(rows.take (x::st).length)[st.length]? = some (orf x):=by rw[hsr2];simp
   rwa [List.getElem?_take,if_pos (by simp)]at h1
  have e1:decide (((st.length+1-0:Nat):Int)=0)=false:=J1 (by omega)
  rcases FS with _|⟨f,fs⟩
  ·rw[hst]at i3;exact i3.elim
  rw[hst]at i3 i4 i5
  obtain⟨⟨ly,ln,⟨g',g1,g2,g3,g4,g5,g6⟩,t2,t3⟩,t4⟩:=i3
  simp only[List.map_cons,List.nodup_cons]at i4 i5
  cases hels:x.els with
  |true=>
   have hR:growI l=none:=by rw[←i6];simp only[g4]at hels;simp[hels]
   repeat' first|refine Z1 ?_|refine Z2 ?_|refine Z5 ?_|refine Yu (i:=σ.next) ?_|refine Ze ?_|refine Zo ?_|refine J5 ?_|refine Zp ?_|refine J4 ?_|refine J7 ?_|refine J3 ?_
   refine Yt (i:=σ.next) (JE σ _) ?_
   repeat' first|refine Z1 ?_|refine Z2 ?_|refine Z5 ?_|refine Z7 ?_|refine Ys (JU _ _ _) ?_|refine Ys r1 ?_|refine Yi1 (n:=((st.length+1-0:Nat):Int)-1) (hi:=st.length+1) st.length hsr (by omega) (by omega) ?_|refine Ye1 hsr hget ?_|refine Ju ?_|refine Ys hopo ?_|refine Zg ?_|refine Zi ?_|refine fzt2n 2 3 ?_|refine ret2 ?_|refine Zo ?_|refine J5 ?_|refine Zp ?_|refine Zq ?_|refine J4 ?_|refine J9 ?_|refine J8 ?_|refine Ja ?_
   unfold growK
   rw[hR]
   exact⟨_,rfl⟩
  |false=>
   have hfe:f.els=false:=by rw[←g4];exact hels
   simp only[hfe,Bool.false_eq_true,if_false]at i6
   repeat' first|refine Z1 ?_|refine Z2 ?_|refine Z5 ?_|refine Yu (i:=σ.next) ?_|refine Ze ?_|refine Zo ?_|refine J5 ?_|refine Zp ?_|refine J4 ?_|refine J7 ?_|refine J3 ?_
   refine Yt (i:=σ.next) (JE σ _) ?_
   repeat' first|refine Z1 ?_|refine Z2 ?_|refine Z5 ?_|refine Z7 ?_|refine Ys (JU _ _ _) ?_|refine Ys r1 ?_|refine Yi1 (n:=((st.length+1-0:Nat):Int)-1) (hi:=st.length+1) st.length hsr (by omega) (by omega) ?_|refine Ye1 hsr hget ?_|refine Ju ?_|refine Ys hopo ?_|refine Zg ?_|refine Zi ?_|refine Zo ?_|refine J5 ?_|refine Jd ?_|refine Zp ?_|refine Zq ?_|refine J4 ?_|refine J7 ?_|refine J3 ?_
   refine Yt (i:=x.o) hopo ?_
   repeat' first|refine Z1 ?_|refine Z2 ?_|refine Z3 ?_|refine Z5 ?_|refine Zf ?_|refine Jd ?_|refine J3 ?_|refine J6 ?_
   refine⟨⟨k+1,{G with stk:={x with els:=true}::st},{f with els:=true}::fs,R⟩,⟨hlt,⟨κ,(hG1.setels hst (fun y hy e=>i5.1 (by rw[←e];exact List.mem_map.2 ⟨y,hy,rfl⟩))).junk (show 2*k≤2*(k+1) by omega) (Nat.le_refl _) (fun _ _=>rfl)⟩,?_,List.nodup_cons.2 i4,List.nodup_cons.2 i5,i6,i7.mono (by simp only[St.next_set,St.next_alloc];omega)⟩,by show l.length-(k+1)<l.length-k;omega,Js ⟨.refl _,.refl _,.refl _,.refl _,.refl _,.refl _,trivial⟩⟩
   exact⟨⟨ly,ln,⟨g',g1,g2,g3,rfl,g5,g6⟩,t2,t3⟩,t4⟩
 by_cases h6:s.kind=6
 ·have d4:decide (s.kind=4)=false:=J1 h4
  have d5:decide (s.kind=5)=false:=J1 h5
  have d6:decide (s.kind=6)=true:=J0 h6
  simp only[growGo]at i6
  rw[if_neg h4,if_neg h5,if_pos h6]at i6
  rcases hst:G.stk with _|⟨x,st⟩
  ·have r1:=hG1.r1
   rw[hst]at r1 i3
   obtain rfl:FS=[]:=by cases FS with|nil=>rfl|cons f fs=>exact i3.elim
   have hR:growI l=none:=i6.symm
   have e0:decide (((([]:List On).length:Nat):Int)=0)=true:=rfl
   have e00:decide (((0:Nat):Int)=0)=true:=rfl
   repeat' first|refine Z1 ?_|refine Z2 ?_|refine Z5 ?_|refine Yu (i:=σ.next) ?_|refine Ze ?_|refine Zo ?_|refine J5 ?_|refine Zp ?_|refine J4 ?_|refine J7 ?_|refine J3 ?_
   refine Yt (i:=σ.next) (JE σ _) ?_
   repeat' first|refine Z1 ?_|refine Z2 ?_|refine Z5 ?_|refine Ys (JU _ _ _) ?_|refine Zo ?_|refine J5 ?_|refine Zp ?_|refine Zq ?_|refine J4 ?_
   refine Yr r1 ?_
   repeat' first|refine Z1 ?_|refine Z2 ?_|refine Z5 ?_|refine Z9 ?_|refine Yx2 (fun _=>rfl) ?_|refine fzt2n 2 3 ?_|refine ret2 ?_|refine Zo ?_|refine Zp ?_|refine J9 ?_|refine J8 ?_|refine Ja ?_
   unfold growK
   rw[hR]
   exact⟨_,rfl⟩
  have r1:=hG1.r1
  have hsa:G.sa=true:=by
   cases hq:G.sa with
   |true=>rfl
   |false=>rw[hG.sa hq]at hst;cases hst
  rw[hst,List.length_cons,show slcB G.sa G.sr G.sh (st.length+1)=.sl G.sr G.sh 0 (st.length+1) by rw[hsa];rfl]at r1
  have hsl:st.length+1≤2*k:=by rw[hst]at hb2;exact hb2
  obtain⟨rows,hsr,hsr2,hsr3⟩:=(hG1.sr hsa).1
  rw[hst]at hsr2 hsr3
  obtain⟨hopo,hopt,g,hg⟩:=hG1.op x (by rw[hst];exact List.mem_cons_self)
  have hget:rows[st.length]? = some (orf x):=by
   have h1:(rows.take (x::st).length)[st.length]? = some (orf x):=by rw[hsr2];simp
   rwa [List.getElem?_take,if_pos (by simp)]at h1
  have e1:decide (((st.length+1-0:Nat):Int)=0)=false:=J1 (by omega)
  rcases FS with _|⟨f,fs⟩
  ·rw[hst]at i3;exact i3.elim
  rw[hst]at i3 i4 i5
  obtain⟨⟨ly,ln,⟨g',g1,g2,g3,g4,g5,g6⟩,t2,t3⟩,t4⟩:=i3
  simp only[List.map_cons,List.nodup_cons]at i4 i5
  cases hels:x.els with
  |false=>
   have hnf:(!x.els)=true:=by rw[hels];rfl
   have hR:growI l=none:=by rw[←i6];simp only[g4]at hels;simp[hels]
   repeat' first|refine Z1 ?_|refine Z2 ?_|refine Z5 ?_|refine Yu (i:=σ.next) ?_|refine Ze ?_|refine Zo ?_|refine J5 ?_|refine Zp ?_|refine J4 ?_|refine J7 ?_|refine J3 ?_
   refine Yt (i:=σ.next) (JE σ _) ?_
   repeat' first|refine Z1 ?_|refine Z2 ?_|refine Z5 ?_|refine Z7 ?_|refine Ys (JU _ _ _) ?_|refine Ys r1 ?_|refine Yi1 (n:=((st.length+1-0:Nat):Int)-1) (hi:=st.length+1) st.length hsr (by omega) (by omega) ?_|refine Ye1 hsr hget ?_|refine Ju ?_|refine Ys hopo ?_|refine Zg ?_|refine Zi ?_|refine fzt2n 2 3 ?_|refine ret2 ?_|refine Zo ?_|refine J5 ?_|refine Zp ?_|refine Zq ?_|refine J4 ?_|refine J9 ?_|refine J8 ?_|refine Ja ?_
   unfold growK
   rw[hR]
   exact⟨_,rfl⟩
  |true=>
   have hnf:(!x.els)=false:=by rw[hels];rfl
   have hfe:f.els=true:=by rw[←g4];exact hels
   simp only[hfe,if_true]at i6
   repeat' first|refine Z1 ?_|refine Z2 ?_|refine Z5 ?_|refine Yu (i:=σ.next) ?_|refine Ze ?_|refine Zo ?_|refine J5 ?_|refine Zp ?_|refine J4 ?_|refine J7 ?_|refine J3 ?_
   refine Yt (i:=σ.next) (JE σ _) ?_
   repeat' first|refine Z1 ?_|refine Z2 ?_|refine Z3 ?_|refine Z5 ?_|refine Z7 ?_|refine Ys (JU _ _ _) ?_|refine Ys r1 ?_|refine Yi1 (n:=((st.length+1-0:Nat):Int)-1) (hi:=st.length+1) st.length hsr (by omega) (by omega) ?_|refine Ye1 hsr hget ?_|refine Ju ?_|refine Ys hopo ?_|refine Yz (n:=((st.length+1-0:Nat):Int)-1) (hi:=st.length+1) st.length hsr (by omega) (by omega) ?_|refine Yt r1 ?_|refine Zf ?_|refine Zg ?_|refine Zi ?_|refine Zo ?_|refine J5 ?_|refine Jd ?_|refine Zp ?_|refine Zq ?_|refine J4 ?_|refine J7 ?_|refine J3 ?_|refine J6 ?_
   refine⟨⟨k+1,{G with stk:=st},(putF (.nd f.s f.yes f.no) fs R).1,(putF (.nd f.s f.yes f.no) fs R).2⟩,⟨hlt,⟨κ,(hG1.pop hst hsa).junk (show 2*k≤2*(k+1) by omega) (Nat.le_refl _) (fun _ _=>rfl)⟩,?_,i4.2,i5.2,i6,i7.mono (by simp only[St.next_set,St.next_alloc];omega)⟩,by show l.length-(k+1)<l.length-k;omega,Js ⟨.refl _,.refl _,.refl _,.refl _,.refl _,.refl _,trivial⟩⟩
   have hc:∀b g,G.nd b=some g→opS (x::st) b=false→G.nd b=some g∧opS st b=false:=fun b g hb ho=>⟨hb,by simp only[opS,List.any_cons,Bool.or_eq_false_iff]at ho ⊢;exact ho.2⟩
   have hxo:opS st x.a=false:=by
    cases hq:opS st x.a with
    |false=>rfl
    |true=>
     obtain⟨y,hy,hya⟩:=List.any_eq_true.1 hq
     exact absurd (List.mem_map.2 ⟨y,hy,by simpa using hya⟩) i4.1
   exact J8U hc (t:=.nd f.s f.yes f.no) ⟨g',g1,hxo,g3,by rw[g5];exact JR hc _ _ t2,by rw[g6];exact JR hc _ _ t3⟩ (fun y hy=>List.any_eq_true.2 ⟨y,hy,by simp⟩) t4
 have d4:decide (s.kind=4)=false:=J1 h4
 have d5:decide (s.kind=5)=false:=J1 h5
 have d6:decide (s.kind=6)=false:=J1 h6
 simp only[growGo,h4,h5,h6,if_false]at i6
 repeat' first|refine Z1 ?_|refine Z2 ?_|refine Z5 ?_|refine Yu (i:=σ.next) ?_|refine Ze ?_|refine Zo ?_|refine J5 ?_|refine Zp ?_|refine J4 ?_|refine J7 ?_|refine J3 ?_
 refine Yt (i:=σ.next) (JE σ _) ?_
 repeat' first|refine Z1 ?_|refine Z2 ?_|refine Z5 ?_|refine Ys (JU _ _ _) ?_|refine Yv (i:=σ.next+1) (cs:=ncell ⟨s,0,0,0,0,[],[]⟩) ?_|refine Zo ?_|refine Jd ?_|refine Zq ?_|refine J4 ?_
 refine J7Y (J97 hG2 hk20 (σ.next+1)) (fun E σ' hE=>?_)
 obtain⟨rfl,i,hN,κ',hG3,hn3,hκ3⟩:=hE
 refine⟨_,rfl,?_⟩
 repeat' first|refine Z1 ?_|refine Z2 ?_|refine Z3 ?_|refine Z5 ?_|refine Zf ?_|refine Jd ?_|refine J3 ?_|refine J6 ?_
 obtain⟨p1,p2,p3,p4,p5⟩:=J5F (s:=s) (M:=σ.next+1) (i:=i) (hN:=hN) hG (by omega) i4
 refine⟨⟨k+1,(G.new (σ.next+1) s).put (σ.next+1) i hN,_,_⟩,⟨hlt,⟨κ',hG3.junk (show 2*k+1≤2*(k+1) by omega) (Nat.le_refl _) (fun _ _=>rfl)⟩,?_,by simp only[p1];exact i4,by simp only[p1];exact i5,i6,i7.put (by omega) (by have:=hn3;simp only[St.next_set,St.next_alloc]at *;omega) fun x hx=>(hG.op x hx).2.2⟩,by show l.length-(k+1)<l.length-k;omega,Js ⟨.refl _,.refl _,.refl _,.refl _,.refl _,.refl _,trivial⟩⟩
 simp only[p1]
 refine JaI (fun b g hb ho=>⟨p3 b g hb ho,ho⟩) (t:=.nd s [] []) (M:=σ.next+1) ⟨_,p4,hoM,rfl,trivial,trivial⟩ i3 ?_
 rcases hst:G.stk with _|⟨x,st⟩
 ·rw[hst]at p5;exact p5
 ·rw[hst]at p5 hop
  exact⟨p5.1,p5.2.1,hop x List.mem_cons_self,fun y hy=>⟨p5.2.2 y hy,hop y (List.mem_cons_of_mem _ hy)⟩⟩
theorem Jbg (l:List Sm) (hl:l.length≤1048576):PFun X 41 [.d (.im (l.map eSm))] (growR l):=by
 refine⟨rfl,by unfold growR;split<;>rfl,(J9r l hl).fzr fun E σ1 h=>?_⟩
 unfold growK at h
 unfold growR
 cases hR:growI l with
 |none=>
  simp only[hR]at h
  obtain⟨x,rfl⟩:=h
  exact⟨_,rfl,.tup rfl fun j h1 h2=>match j,h1,h2 with
   |0,_,_=>.any _
   |1,_,_=>.data (.d _)⟩
 |some R=>
  simp only[hR]at h
  obtain⟨G,κ,c,hG,ht,_,rfl⟩:=h
  have hfz:=J6a (J3R R G.root ht) (fun hne=>(hG.rr hne).1) (J2w hG R G.root ht)
  exact⟨_,rfl,.tup rfl fun j h1 h2=>match j,h1,h2 with
   |0,_,_=>.data hfz
   |1,_,_=>.data (.d _)⟩
end Go.Pm
/- Part of the proof: Gr6. -/
namespace Go.Pm
attribute [local irreducible] AR Ok inBlock andThen endQ aoper
set_option maxHeartbeats 1000000
open Go.Proofs
def gO (l:List Nat) (y h:Nat):Option (Nat×Nat):=if l=[]then none else some (y,h)
theorem J9s {l:List Nat} {n:Nat} (y h:Nat) (hn:n=l.length):slO (gO l y h) n=slcN y h n:=by
 subst hn
 unfold gO slcN
 by_cases e:l=[]
 ·subst e;rfl
 ·rw[if_neg e,if_neg (fun z=>e (List.eq_nil_of_length_eq_zero z))];rfl
theorem J7n {σ:St} {l:List Nat} {y h E:Nat} (hr:l≠[]→σ.obj y=some (.row h E 1 (l.map prf))):rowO σ (gO l y h) E 1 (l.map prf):=by
 unfold gO
 by_cases e:l=[]
 ·subst e;rfl
 ·rw[if_neg e];exact hr e
mutual
def ndB:Mb→List Nat
 |.nd a _ _ ys _ ns=>a::(ndL ys++ndL ns)
def ndL:List Mb→List Nat
 |[]=>[]
 |m::l=>ndB m++ndL l
end
mutual
def fgB:Mb→List Tag
 |.nd a _ Y ys N ns=>.nd a::((rwO Y).map (fun _=>.ny a)++(fgL ys++((rwO N).map (fun _=>.nn a)++fgL ns)))
def fgL:List Mb→List Tag
 |[]=>[]
 |m::l=>fgB m++fgL l
end
theorem Jan (O:Option (Nat×Nat)):O=none∨∃y h,O=some (y,h):=by
 cases O with
 |none=>exact .inl rfl
 |some p=>exact .inr ⟨p.1,p.2,rfl⟩
mutual
theorem J7V:∀(m:Mb) (t:Tag),t∈fgB m→∃b∈ndB m,t=.nd b∨t=.ny b∨t=.nn b
 |.nd a s Y ys N ns,t,h=>by
  simp only[fgB,List.mem_cons,List.mem_append,List.mem_map]at h
  simp only[ndB,List.mem_cons,List.mem_append]
  rcases h with h|⟨_,_,h⟩|h|⟨_,_,h⟩|h
  ·exact⟨a,.inl rfl,.inl h⟩
  ·exact⟨a,.inl rfl,.inr (.inl h.symm)⟩
  ·obtain⟨b,h1,h2⟩:=J1C ys t h;exact⟨b,.inr (.inl h1),h2⟩
  ·exact⟨a,.inl rfl,.inr (.inr h.symm)⟩
  ·obtain⟨b,h1,h2⟩:=J1C ns t h;exact⟨b,.inr (.inr h1),h2⟩
theorem J1C:∀(l:List Mb) (t:Tag),t∈fgL l→∃b∈ndL l,t=.nd b∨t=.ny b∨t=.nn b
 |[],t,h=>by simp[fgL]at h
 |m::l,t,h=>by
  simp only[fgL,List.mem_append]at h
  simp only[ndL,List.mem_append]
  rcases h with h|h
  ·obtain⟨b,h1,h2⟩:=J7V m t h;exact⟨b,.inl h1,h2⟩
  ·obtain⟨b,h1,h2⟩:=J1C l t h;exact⟨b,.inr h1,h2⟩
end
theorem J3Y (O:Option (Nat×Nat)) (t:Tag):((rwO O).map fun _=>t).Nodup:=by
 rcases Jan O with rfl|⟨y,h,rfl⟩<;>simp[rwO]
mutual
theorem JbL:∀(m:Mb),(ndB m).Nodup→(fgB m).Nodup
 |.nd a s Y ys N ns,h=>by
  simp only[ndB,List.nodup_cons,List.nodup_append,List.mem_append,not_or]at h
  obtain⟨⟨h1,h2⟩,h3,h4,h5⟩:=h
  have e1:=J6i ys h3
  have e2:=J6i ns h4
  have my:∀t∈fgL ys,∃b∈ndL ys,t=.nd b∨t=.ny b∨t=.nn b:=fun t ht=>J1C ys t ht
  have mn:∀t∈fgL ns,∃b∈ndL ns,t=.nd b∨t=.ny b∨t=.nn b:=fun t ht=>J1C ns t ht
  have na:∀t∈fgL ys,t≠.nd a∧t≠.ny a∧t≠.nn a:=fun t ht=>by
   obtain⟨b,hb,hq⟩:=my t ht
   have hab:b≠a:=fun e=>h1 (e▸hb)
   rcases hq with rfl|rfl|rfl<;>simp[hab]
  have nb:∀t∈fgL ns,t≠.nd a∧t≠.ny a∧t≠.nn a:=fun t ht=>by
   obtain⟨b,hb,hq⟩:=mn t ht
   have hab:b≠a:=fun e=>h2 (e▸hb)
   rcases hq with rfl|rfl|rfl<;>simp[hab]
  have nyn:∀t∈fgL ys,∀u∈fgL ns,t≠u:=fun t ht u hu e=>by
   subst e
   obtain⟨b,hb,hq⟩:=my t ht
   obtain⟨c,hc,hr⟩:=mn t hu
   have:b=c:=by rcases hq with rfl|rfl|rfl<;>rcases hr with hr|hr|hr<;>first|exact Tag.nd.inj hr|exact Tag.ny.inj hr|exact Tag.nn.inj hr|cases hr
   exact h5 b hb c hc this
  simp only[fgB,List.nodup_cons,List.nodup_append,List.mem_append,List.mem_map,not_or]
  refine⟨⟨fun⟨_,_,e⟩=>(by cases e),fun hm=>(na _ hm).1 rfl,fun⟨_,_,e⟩=>(by cases e),fun hm=>(nb _ hm).1 rfl⟩,J3Y _ _,⟨e1,⟨J3Y _ _,e2,?_⟩,?_⟩,?_⟩
  ·rintro t ⟨_,_,rfl⟩ u hu e
   exact(nb u hu).2.2 e.symm
  ·rintro t ht u (⟨_,_,rfl⟩|hu) e
   ·exact(na t ht).2.2 e
   ·exact nyn t ht u hu e
  ·rintro t ⟨_,_,rfl⟩ u (hu|⟨_,_,rfl⟩|hu) e
   ·exact(na u hu).2.1 e.symm
   ·cases e
   ·exact(nb u hu).2.1 e.symm
theorem J6i:∀(l:List Mb),(ndL l).Nodup→(fgL l).Nodup
 |[],_=>List.nodup_nil
 |m::l,h=>by
  simp only[ndL,List.nodup_append]at h
  obtain⟨h1,h2,h3⟩:=h
  simp only[fgL,List.nodup_append]
  refine⟨JbL m h1,J6i l h2,fun t ht u hu e=>?_⟩
  subst e
  obtain⟨b,hb,hq⟩:=J7V m t ht
  obtain⟨c,hc,hr⟩:=J1C l t hu
  have:b=c:=by rcases hq with rfl|rfl|rfl<;>rcases hr with hr|hr|hr<;>first|exact Tag.nd.inj hr|exact Tag.ny.inj hr|exact Tag.nn.inj hr|cases hr
  exact h3 b hb c hc this
end
def chn (pa:Nat→Tag) (S:List Nat) (r:Nat):Prop:=∀x∈S,r≤x∧(x≠r→∃b∈S,b<x∧(pa x=.ny b∨pa x=.nn b))
theorem J6A {pa:Nat→Tag} {S T:List Nat} {r q:Nat} {p p':Tag} (hS:chn pa S r) (hT:chn pa T q) (hr:pa r=p) (hq:pa q=p') (hp:∀b,p=.ny b∨p=.nn b→b<q) (hp':∀b,p'=.ny b∨p'=.nn b→b<r) (hne:r≠q):∀x,x∈S→x∈T→False:=by
 intro x
 induction x using Nat.strongRecOn with
 |_ x ih=>
  intro h1 h2
  obtain⟨a1,a2⟩:=hS x h1
  obtain⟨b1,b2⟩:=hT x h2
  by_cases e1:x=r
  ·subst e1
   obtain⟨b,hb,hlt,hpb⟩:=b2 hne
   rw[hr]at hpb
   have:=hp b hpb
   have:=(hT b hb).1
   omega
  ·by_cases e2:x=q
   ·subst e2
    obtain⟨b,hb,hlt,hpb⟩:=a2 e1
    rw[hq]at hpb
    have:=hp' b hpb
    have:=(hS b hb).1
    omega
   ·obtain⟨b,hb,hlt,hpb⟩:=a2 e1
    obtain⟨c,hc,_,hpc⟩:=b2 e2
    have:b=c:=by rcases hpb with hpb|hpb<;>rw[hpb]at hpc<;>rcases hpc with h|h<;>first|exact Tag.ny.inj h|exact Tag.nn.inj h|cases h
    subst this
    exact ih b hlt hb hc
section
variable {σ:St} {G:Gs} {κ:Nat→Tag} {c:Nat} {pa:Nat→Tag} {nx:Nat} {op:Nat→Bool}
structure MbOk (σ:St) (κ:Nat→Tag) (pa:Nat→Tag) (t:Br) (a:Nat) (m:Mb):Prop where
 ea:m.a=a
 et:tmB m=t
 ho:hoB 131 σ m
 ch:chn pa (ndB m) a
 nd:(ndB m).Nodup
 fg:(fpB m).map κ=fgB m
structure MlOk (σ:St) (κ:Nat→Tag) (pa:Nat→Tag) (p:Tag) (ts:List Br) (l:List Nat) (L:List Mb):Prop where
 ea:L.map Mb.a=l
 et:tmL L=ts
 ho:hoL 131 σ L
 ch:∀x∈ndL L,∃r∈l,r≤x∧(x≠r→∃b∈ndL L,b<x∧(pa x=.ny b∨pa x=.nn b))
 nd:(ndL L).Nodup
 fg:(fpL L).map κ=fgL L
 cs:∀m∈L,chn pa (ndB m) m.a∧pa m.a=p
theorem J3S {x:Nat}:∀{L:List Mb},x∈ndL L→∃m∈L,x∈ndB m
 |[],h=>by simp[ndL]at h
 |m::L,h=>by
  simp only[ndL,List.mem_append]at h
  rcases h with h|h
  ·exact⟨m,by simp,h⟩
  ·obtain⟨m',h1,h2⟩:=J3S h;exact⟨m',by simp[h1],h2⟩
theorem Jbn {p:Tag} {t:Br} {a:Nat} {m:Mb} {ts:List Br} {l:List Nat} {L:List Mb} (hp:∀b,p=.ny b∨p=.nn b→b<a∧∀x∈l,b<x) (hm:MbOk σ κ pa t a m) (hL:MlOk σ κ pa p ts l L) (hpa:pa a=p) (hnd:a∉l):MlOk σ κ pa p (t::ts) (a::l) (m::L):=by
 have hne:∀x∈ndB m,∀y∈ndL L,x≠y:=by
  intro x hx y hy e
  subst e
  obtain⟨m',h1,h2⟩:=J3S hy
  obtain⟨c1,c2⟩:=hL.cs m' h1
  have hal:m'.a∈l:=by rw[←hL.ea];exact List.mem_map.2 ⟨m',h1,rfl⟩
  exact J6A hm.ch c1 hpa c2 (fun b hb=>(hp b hb).2 _ hal) (fun b hb=>(hp b hb).1) (fun e=>hnd (by rw[e];exact hal)) x hx h2
 refine⟨by simp[hm.ea,hL.ea],by simp only[tmL,hm.et,hL.et],⟨hm.ho,hL.ho⟩,fun x hx=>?_,?_,by simp only[fpL,fgL,List.map_append,hm.fg,hL.fg],fun m' hm'=>?_⟩
 ·simp only[ndL,List.mem_append]at hx
  rcases hx with hx|hx
  ·obtain⟨h1,h2⟩:=hm.ch x hx
   refine⟨a,by simp,h1,fun e=>?_⟩
   obtain⟨b,hb,h3⟩:=h2 e
   exact⟨b,by simp[ndL,hb],h3⟩
  ·obtain⟨r,hr,h1,h2⟩:=hL.ch x hx
   refine⟨r,by simp[hr],h1,fun e=>?_⟩
   obtain⟨b,hb,h3⟩:=h2 e
   exact⟨b,by simp[ndL,hb],h3⟩
 ·simp only[ndL,List.nodup_append];exact⟨hm.nd,hL.nd,hne⟩
 ·rcases List.mem_cons.1 hm' with rfl|hm'
  ·rw[hm.ea];exact⟨hm.ch,hpa⟩
  ·exact hL.cs m' hm'
theorem JbK {p:Tag}:MlOk σ κ pa p [] [] []:=⟨rfl,rfl,trivial,fun x hx=>(by simp[ndL]at hx),List.nodup_nil,rfl,fun m hm=>(by cases hm)⟩
mutual
theorem Jci (h:GRep σ G κ c) (hu:∀a g,G.nd a=some g→a<nx∧(∀c∈g.yes,pa c=.ny a∧a<c∧c<nx)∧(∀c∈g.no,pa c=.nn a∧a<c∧c<nx)∧g.yes.Nodup∧g.no.Nodup):∀(t:Br) (a:Nat),trB G.nd op t a→∃m,MbOk σ κ pa t a m
 |.nd s ys ns,a,ht=>by
  simp only[trB]at ht
  obtain⟨g,g1,g2,g3,g4,g5⟩:=ht
  obtain⟨u1,u2,u3,u4,u5⟩:=hu a g g1
  obtain⟨b1,b2,b3,b4⟩:=h.nd a g g1
  obtain⟨Y,hY⟩:=J7K h hu (.ny a) ys g.yes (fun b hb x hx=>by rcases hb with e|e<;>cases e;exact(u2 x hx).2.1) (fun x hx=>(u2 x hx).1) u4 g4
  obtain⟨N,hN⟩:=J7K h hu (.nn a) ns g.no (fun b hb x hx=>by rcases hb with e|e<;>cases e;exact(u3 x hx).2.1) (fun x hx=>(u3 x hx).1) u5 g5
  have ly:Y.length=g.yes.length:=by rw[←hY.ea,List.length_map]
  have ln:N.length=g.no.length:=by rw[←hN.ea,List.length_map]
  have ry:g.yes.map prf=Y.map mrf:=by rw[←hY.ea,List.map_map];rfl
  have rn':g.no.map prf=N.map mrf:=by rw[←hN.ea,List.map_map];rfl
  -- the numbers below are greater
  have lowY:∀x∈ndL Y,a<x:=fun x hx=>by obtain⟨r,hr,h1,_⟩:=hY.ch x hx;have:=(u2 r hr).2.1;omega
  have lowN:∀x∈ndL N,a<x:=fun x hx=>by obtain⟨r,hr,h1,_⟩:=hN.ch x hx;have:=(u3 r hr).2.1;omega
  refine⟨.nd a s (gO g.yes g.y g.hy) Y (gO g.no g.n g.hn) N,rfl,by simp only[tmB,hY.et,hN.et],?_,?_,?_,?_⟩
  ·refine⟨?_,?_,?_,hY.ho,hN.ho⟩
   ·rw[b1]
    simp only[ncell,mcell,Mb.s,Mb.Y,Mb.ys,Mb.N,Mb.ns,g3,ly,ln]
    rw[J9s g.y g.hy rfl,J9s g.n g.hn rfl]
   ·rw[←ry];exact J7n fun hne=>(b3 hne).1
   ·rw[←rn'];exact J7n fun hne=>(b4 hne).1
  ·intro x hx
   simp only[ndB,List.mem_cons,List.mem_append]at hx
   rcases hx with rfl|hx|hx
   ·exact⟨Nat.le_refl _,fun e=>absurd rfl e⟩
   ·refine⟨Nat.le_of_lt (lowY x hx),fun _=>?_⟩
    obtain⟨r,hr,h1,h2⟩:=hY.ch x hx
    by_cases e:x=r
    ·subst e;exact⟨a,by simp[ndB],lowY x hx,.inl (u2 x hr).1⟩
    ·obtain⟨b,hb,h3⟩:=h2 e;exact⟨b,by simp[ndB,hb],h3⟩
   ·refine⟨Nat.le_of_lt (lowN x hx),fun _=>?_⟩
    obtain⟨r,hr,h1,h2⟩:=hN.ch x hx
    by_cases e:x=r
    ·subst e;exact⟨a,by simp[ndB],lowN x hx,.inr (u3 x hr).1⟩
    ·obtain⟨b,hb,h3⟩:=h2 e;exact⟨b,by simp[ndB,hb],h3⟩
  ·simp only[ndB,List.nodup_cons,List.mem_append,not_or,List.nodup_append]
   refine⟨⟨fun hx=>by have:=lowY a hx;omega,fun hx=>by have:=lowN a hx;omega⟩,hY.nd,hN.nd,fun x hx y hy e=>?_⟩
   subst e
   obtain⟨m1,h1,h2⟩:=J3S hx
   obtain⟨m2,h3,h4⟩:=J3S hy
   obtain⟨c1,c2⟩:=hY.cs m1 h1
   obtain⟨d1,d2⟩:=hN.cs m2 h3
   have i1:m1.a∈g.yes:=by rw[←hY.ea];exact List.mem_map.2 ⟨m1,h1,rfl⟩
   have i2:m2.a∈g.no:=by rw[←hN.ea];exact List.mem_map.2 ⟨m2,h3,rfl⟩
   refine J6A c1 d1 c2 d2 (fun b hb=>by rcases hb with e|e<;>cases e;exact(u3 _ i2).2.1) (fun b hb=>by rcases hb with e|e<;>cases e;exact(u2 _ i1).2.1) (fun e=>?_) x h2 h4
   rw[e,d2]at c2;cases c2
  ·simp only[fpB,fgB,List.map_cons,List.map_append,b2,hY.fg,hN.fg]
   have r1:(rwO (gO g.yes g.y g.hy)).map κ=(rwO (gO g.yes g.y g.hy)).map fun _=>Tag.ny a:=by
    unfold gO
    by_cases e:g.yes=[]
    ·rw[if_pos e];rfl
    ·rw[if_neg e];simp only[rwO,List.map_cons,List.map_nil,(b3 e).2]
   have r2:(rwO (gO g.no g.n g.hn)).map κ=(rwO (gO g.no g.n g.hn)).map fun _=>Tag.nn a:=by
    unfold gO
    by_cases e:g.no=[]
    ·rw[if_pos e];rfl
    ·rw[if_neg e];simp only[rwO,List.map_cons,List.map_nil,(b4 e).2]
   rw[r1,r2]
theorem J7K (h:GRep σ G κ c) (hu:∀a g,G.nd a=some g→a<nx∧(∀c∈g.yes,pa c=.ny a∧a<c∧c<nx)∧(∀c∈g.no,pa c=.nn a∧a<c∧c<nx)∧g.yes.Nodup∧g.no.Nodup) (p:Tag):∀(ts:List Br) (l:List Nat),(∀b,p=.ny b∨p=.nn b→∀x∈l,b<x)→(∀x∈l,pa x=p)→l.Nodup→trL G.nd op ts l→∃L,MlOk σ κ pa p ts l L
 |[],[],_,_,_,_=>⟨[],JbK⟩
 |t::ts,a::l,hp,hpa,hnd,ht=>by
  simp only[trL]at ht
  obtain⟨m,hm⟩:=Jci h hu t a ht.1
  rw[List.nodup_cons]at hnd
  obtain⟨L,hL⟩:=J7K h hu p ts l (fun b hb x hx=>hp b hb x (by simp[hx])) (fun x hx=>hpa x (by simp[hx])) hnd.2 ht.2
  exact⟨m::L,Jbn (fun b hb=>⟨hp b hb a (by simp),fun x hx=>hp b hb x (by simp[hx])⟩) hm hL (hpa a (by simp)) hnd.1⟩
 |[],_::_,_,_,_,ht=>by simp[trL]at ht
 |_::_,[],_,_,_,ht=>by simp[trL]at ht
end
end
theorem J2F {α β:Type} {f:α→β}:∀{l:List α},(l.map f).Nodup→l.Nodup
 |[],_=>List.nodup_nil
 |a::l,h=>by
  simp only[List.map_cons,List.nodup_cons,List.mem_map,not_exists,not_and]at h ⊢
  exact⟨fun hm=>h.1 a hm rfl,J2F h.2⟩
theorem J5w (k:Nat):∀l:List Nat,l.Nodup→(l.map (k+·)).Nodup
 |[],_=>List.nodup_nil
 |a::l,h=>by
  simp only[List.map_cons,List.nodup_cons,List.mem_map,not_exists,not_and]at h ⊢
  exact⟨fun x hx e=>h.1 (by
   have:x=a:=by omega
   rw[←this];exact hx),J5w k l h.2⟩
def GrowEnd (σ:St) (T:List Br) (E:AEnd) (σ':St):Prop:=∃R L,E=.ret (.tup [slO R L.length,vb true])∧tmL L=T∧hoL 131 σ' L∧rowO σ' R 131 1 (L.map mrf)∧(rwO R++fpL L).Nodup∧(∀j∈rwO R++fpL L,σ.next≤j)∧σ.next≤σ'.next∧∀j,j<σ.next→σ'.obj j=σ.obj j
theorem Jb5 (l:List Sm) (hl:l.length≤1048576) {T:List Br} (hT:growI l=some T) (σ:St):AFun X 41 [.d (.im (l.map eSm))] σ (GrowEnd σ T):=by
 have h0:=AFun.frame (σ:=σ) (J9r l hl) (fun j=>j) (fun _=>none) (fun j hj=>absurd hj (Nat.not_lt_zero j)) (fun j o h=>by cases h) (fun j o h=>by cases h) (fun j o h=>by cases h) (fun i j h=>by cases h) rfl
 rw[J0P]at h0
 refine h0.mono ?_
 rintro E σ' ⟨E0,σ1,hK,rfl,rfl⟩
 unfold growK at hK
 simp only[hT]at hK
 obtain⟨G,κ,c,hG,ht,⟨pa,u1,u2,u3⟩,rfl⟩:=hK
 obtain⟨L,hL⟩:=J7K hG u3 .rc T G.root (fun b hb=>by rcases hb with e|e<;>cases e) (fun x hx=>(u1 x hx).1) u2 ht
 have lr:L.length=G.root.length:=by rw[←hL.ea,List.length_map]
 have rr:G.root.map prf=L.map mrf:=by rw[←hL.ea,List.map_map];rfl
 have hext:ext St.nil.next σ.next (fun j=>j)=(σ.next+·):=by funext j;simp[ext,St.nil]
 have hm:∀j o,σ1.obj j=some o→(mrg St.nil σ (fun j=>j) (fun _=>none) σ1).obj (σ.next+j)=some (renO (σ.next+·) o):=by
  intro j o hj
  simp only[mrg,hext]
  rw[if_neg (by omega),show σ.next+j-σ.next+St.nil.next=j by simp[St.nil],hj]
  rfl
 have fr:(rwO (gO G.root G.rr G.rh)).map κ=(rwO (gO G.root G.rr G.rh)).map fun _=>Tag.rr:=by
  unfold gO
  by_cases e:G.root=[]
  ·rw[if_pos e];rfl
  ·rw[if_neg e];simp only[rwO,List.map_cons,List.map_nil,(hG.rr e).2]
 have hnd:(rwO (gO G.root G.rr G.rh)++fpL L).Nodup:=by
  refine J2F (f:=κ) ?_
  rw[List.map_append,fr,hL.fg,List.nodup_append]
  refine⟨J3Y _ _,J6i L hL.nd,fun t ht u hu e=>?_⟩
  obtain⟨_,_,rfl⟩:=List.mem_map.1 ht
  subst e
  obtain⟨b,_,h1|h1|h1⟩:=J1C L _ hu<;>cases h1
 refine⟨sftO σ.next (gO G.root G.rr G.rh),sftL σ.next L,?_,by rw[J3T,hL.et],J3I hm L hL.ho,?_,?_,fun j hj=>?_,Nat.le_add_right _ _,fun j hj=>?_⟩
 ·simp only[renE,ren,rens,hext,J76,←J7Q,lr]
  rw[J9s G.rr G.rh rfl]
 ·refine J4K hm ?_
  rw[←rr];exact J7n fun hne=>(hG.rr hne).1
 ·rw[J7t,J2A,←List.map_append]
  exact J5w _ _ hnd
 ·rw[J7t,J2A,←List.map_append]at hj
  obtain⟨q,_,rfl⟩:=List.mem_map.1 hj
  omega
 ·simp only[mrg,hj,if_true]
end Go.Pm
/- Part of the proof: Im1. -/
namespace Go.Pm
attribute [local irreducible] AR Ok inBlock andThen endQ aoper
set_option maxHeartbeats 1000000
open Go.Proofs
def digitI (c:UInt8):Bool:=decide (48≤(c.toNat:Int))&&decide ((c.toNat:Int)≤57)
def letterI (c:UInt8):Bool:=decide (97≤(c.toNat:Int))&&decide ((c.toNat:Int)≤122)||decide (65≤(c.toNat:Int))&&decide ((c.toNat:Int)≤90)
theorem J2U (c:UInt8):PFun X 149 [.d (.s (.int .u8 c.toNat))] (vb (digitI c)):=by
 refine Jj Tryz.func149 rfl (by decide) Tryz.ntmps149 Tryz.results149 (by simp) rfl rfl ?_
 repeat' first|refine Z1 ?_|refine Z2 ?_|refine Z5 ?_|refine Z7 ?_|refine Z8 ?_|refine Za (fun hc=>?_) (fun hc=>?_)|refine Zh ?_|refine Zi ?_|refine Zl ?_|refine Zm ?_|refine Zo ?_|refine J9 ?_|refine Zt ?_
 all_goals simp[digitI, *]
theorem J1u (c:UInt8):PFun X 160 [.d (.s (.int .u8 c.toNat))] (vb (letterI c)):=by
 refine Jj Tryz.func160 rfl (by decide) Tryz.ntmps160 Tryz.results160 (by simp) rfl rfl ?_
 repeat' first|refine Z1 ?_|refine Z2 ?_|refine Z5 ?_|refine Z6 ?_|refine Z7 ?_|refine Z8 ?_|refine Z9 ?_|refine Za (fun hc=>?_) (fun hc=>?_)|refine Zb (fun hc=>?_) (fun hc=>?_)|refine Zh ?_|refine Zi ?_|refine Zl ?_|refine Zm ?_|refine Zo ?_|refine J9 ?_|refine Zt ?_
 all_goals simp[letterI, *]
def arityI (op:Int):Int:=if op=1∨op=2∨op=3∨op=25 then 0 else if op=4∨op=5∨op=21∨op=22∨op=23 then 1 else if op=20 then 3 else 2
theorem J9e (op:Int):PFun X 119 [vi op] (vi (arityI op)):=by
 refine Jj Tryz.func119 rfl (by decide) Tryz.ntmps119 Tryz.results119 (by simp) rfl rfl ?_
 repeat' first|refine Z1 ?_|refine Z2 ?_|refine Z5 ?_|refine Z7 ?_|refine Z9 ?_|refine Zb (fun hc=>?_) (fun hc=>?_)|refine Zh ?_|refine Zi ?_|refine Zl ?_|refine Zm ?_|refine Zo ?_|refine J5 ?_|refine Zp ?_|refine Zr (fun hc=>?_) (fun hc=>?_)|refine J4 ?_|refine J7 ?_|refine J9 ?_|refine J3 ?_|refine J8 ?_|refine Ja ?_|refine J6 ?_|refine Zt ?_
 all_goals simp only[decide_eq_true_eq,decide_eq_false_iff_not,Bool.not_eq_true,Bool.not_eq_false,Bool.not_eq_eq_eq_not,Bool.not_true,Bool.not_false]at *
 all_goals simp[arityI, *]
end Go.Pm
