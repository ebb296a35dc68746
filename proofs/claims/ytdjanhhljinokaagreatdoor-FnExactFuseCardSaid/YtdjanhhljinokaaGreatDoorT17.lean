/- Part of the proof: Gr2. -/
import Derived.Test.YtdjanhhljinokaaGreatDoorT10
import Derived.Test.YtdjanhhljinokaaGreatDoorT14
set_option linter.unusedVariables false
set_option linter.unusedSimpArgs false
namespace Go.Pm
attribute [local irreducible] AR Ok inBlock andThen endQ aoper
set_option maxHeartbeats 1000000
open Go.Proofs
inductive Tag where
 |non|rc|sc|rr|sr|nd (a:Nat)|ny (a:Nat)|nn (a:Nat)|op (o:Nat)
 deriving DecidableEq
structure Gs where
 nd:Nat→Option Gn
 root:List Nat
 stk:List On
 rr:Nat
 rh:Nat
 sa:Bool
 sr:Nat
 sh:Nat
def prf (a:Nat):List AV:=[.ref a 0]
def orf (x:On):List AV:=[.ref x.o 0]
def ncell (g:Gn):List AV:=(eSm g.s).map .d++[slcN g.y g.hy g.yes.length,slcN g.n g.hn g.no.length]
structure GRep (σ:St) (G:Gs) (κ:Nat→Tag) (c:Nat):Prop where
 lt:∀i,κ i≠.non→i<σ.next
 k0:κ 0=.rc
 k1:κ 1=.sc
 r0:σ.obj 0=some (.var [slcN G.rr G.rh G.root.length])
 r1:σ.obj 1=some (.var [slcB G.sa G.sr G.sh G.stk.length])
 sa:G.sa=false→G.stk=[]
 rr:G.root≠[]→σ.obj G.rr=some (.row G.rh 131 1 (G.root.map prf))∧κ G.rr=.rr
 sr:G.sa=true→(∃rows,σ.obj G.sr=some (.row G.sh 143 1 rows)∧rows.take G.stk.length=G.stk.reverse.map orf∧G.stk.length≤rows.length)∧κ G.sr=.sr
 nd:∀a g,G.nd a=some g→σ.obj a=some (.var (ncell g))∧κ a=.nd a∧(g.yes≠[]→σ.obj g.y=some (.row g.hy 131 1 (g.yes.map prf))∧κ g.y=.ny a)∧(g.no≠[]→σ.obj g.n=some (.row g.hn 131 1 (g.no.map prf))∧κ g.n=.nn a)
 op:∀x∈G.stk,σ.obj x.o=some (.var [.ref x.a 0,vb x.els])∧κ x.o=.op x.o∧∃g,G.nd x.a=some g
 bd:G.root.length≤c∧G.stk.length≤c∧∀a g,G.nd a=some g→g.yes.length≤c∧g.no.length≤c
def Gs.put (G:Gs) (M i h:Nat):Gs:=
 match G.stk with
 |[]=>{G with root:=G.root++[M],rr:=i,rh:=h}
 |x::_=>{G with nd:=fun a=>if a=x.a then(G.nd a).map fun g=>if x.els then {g with no:=g.no++[M],n:=i,hn:=h}else {g with yes:=g.yes++[M],y:=i,hy:=h}else G.nd a}
theorem Tag.ne_non_rr {t:Tag} (h:t=.rr):t≠.non:=by subst h;intro h;cases h
theorem GRep.put_root {σ σ2:St} {G:Gs} {κ:Nat→Tag} {c M i hN:Nat} (h:GRep σ G κ c) (hst:G.stk=[]) (hn:σ.next<σ2.next) (hi:(G.root=[]∧σ.next≤i∧i<σ2.next)∨(G.root≠[]∧i=G.rr))
  (f0:σ2.obj 0=some (.var [.sl i hN 0 (G.root.length+1)])) (fr:σ2.obj i=some (.row hN 131 1 ((G.root++[M]).map prf))) (fo:∀j,κ j≠.non→j≠0→j≠i→σ2.obj j=σ.obj j):
  ∃κ',GRep σ2 (G.put M i hN) κ' (c+1)∧∀j,κ j≠.non→κ' j=κ j:=by
 obtain⟨hb1,hb2,hb3⟩:=h.bd
 have hold:∀j,κ j≠.non→κ j≠.rr→j≠i:=by
  intro j h1 h2 e
  subst e
  rcases hi with⟨_,h3,_⟩|⟨h3,h4⟩
  ·have:=h.lt j h1;omega
  ·subst h4;exact h2 (h.rr h3).2
 have hκ:∀j,κ j≠.non→(if j=i then Tag.rr else κ j)=κ j:=by
  intro j h1
  by_cases hj:j=i
  ·rw[if_pos hj]
   apply Classical.byContradiction
   intro h2
   exact hold j h1 (fun h3=>h2 h3.symm) hj
  ·rw[if_neg hj]
 have t0:κ 0≠.non:=by rw[h.k0];intro h;cases h
 have t1:κ 1≠.non:=by rw[h.k1];intro h;cases h
 refine⟨fun j=>if j=i then .rr else κ j,?_,hκ⟩
 have hG:G.put M i hN={G with root:=G.root++[M],rr:=i,rh:=hN}:=by simp only[Gs.put,hst]
 rw[hG]
 refine⟨fun j hj=>?_,by rw[hκ 0 t0];exact h.k0,by rw[hκ 1 t1];exact h.k1,?_,?_,h.sa,fun _=>⟨fr,if_pos rfl⟩,fun hs=>?_,fun a g hg=>?_,fun x hx=>?_,?_⟩
 ·by_cases hji:j=i
  ·subst hji
   rcases hi with⟨_,_,h3⟩|⟨h3,h4⟩
   ·exact h3
   ·have:=h.lt j (by rw[h4];exact Tag.ne_non_rr (h.rr h3).2);omega
  ·have hj':κ j≠.non:=by simpa[hji]using hj
   have:=h.lt j hj';omega
 ·rw[f0];simp only[List.length_append,List.length_singleton];rw[J1p (by omega)]
 ·rw[fo 1 t1 (by omega) (hold 1 t1 (by rw[h.k1];intro h;cases h))];exact h.r1
 ·obtain⟨⟨rows,s1,s2,s3⟩,s4⟩:=h.sr hs
  have ts:κ G.sr≠.non:=by rw[s4];intro h;cases h
  have hs0:G.sr≠0:=fun e=>by rw[e,h.k0]at s4;cases s4
  exact⟨⟨rows,by rw[fo _ ts hs0 (hold _ ts (by rw[s4];intro h;cases h))];exact s1,s2,s3⟩,by rw[hκ _ ts];exact s4⟩
 ·obtain⟨g1,g2,g3,g4⟩:=h.nd a g hg
  have ta:κ a≠.non:=by rw[g2];intro h;cases h
  have ha0:a≠0:=fun e=>by subst e;rw[h.k0]at g2;cases g2
  refine⟨by rw[fo a ta ha0 (hold a ta (by rw[g2];intro h;cases h))];exact g1,by rw[hκ a ta];exact g2,fun hy=>?_,fun hy=>?_⟩
  ·obtain⟨y1,y2⟩:=g3 hy
   have ty:κ g.y≠.non:=by rw[y2];intro h;cases h
   have hy0:g.y≠0:=fun e=>by rw[e,h.k0]at y2;cases y2
   exact⟨by rw[fo _ ty hy0 (hold _ ty (by rw[y2];intro h;cases h))];exact y1,by rw[hκ _ ty];exact y2⟩
  ·obtain⟨y1,y2⟩:=g4 hy
   have ty:κ g.n≠.non:=by rw[y2];intro h;cases h
   have hy0:g.n≠0:=fun e=>by rw[e,h.k0]at y2;cases y2
   exact⟨by rw[fo _ ty hy0 (hold _ ty (by rw[y2];intro h;cases h))];exact y1,by rw[hκ _ ty];exact y2⟩
 ·simp only[hst]at hx;cases hx
 ·refine⟨by simp only[List.length_append,List.length_singleton];omega,by simp only[hst,List.length_nil];omega,fun a g hg=>?_⟩
  have:=hb3 a g hg
  omega
theorem GRep.put_node {σ σ2:St} {G:Gs} {κ:Nat→Tag} {c M i hN:Nat} {x:On} {st:List On} {g:Gn} (h:GRep σ G κ c) (hst:G.stk=x::st) (hg:G.nd x.a=some g) (hn:σ.next<σ2.next)
  (hi:((if x.els then g.no else g.yes)=[]∧σ.next≤i∧i<σ2.next)∨((if x.els then g.no else g.yes)≠[]∧i=if x.els then g.n else g.y))
  (f0:σ2.obj x.a=some (.var (ncell (if x.els then {g with no:=g.no++[M],n:=i,hn:=hN}else {g with yes:=g.yes++[M],y:=i,hy:=hN}))))
  (fr:σ2.obj i=some (.row hN 131 1 (((if x.els then g.no else g.yes)++[M]).map prf))) (fo:∀j,κ j≠.non→j≠x.a→j≠i→σ2.obj j=σ.obj j):
  ∃κ',GRep σ2 (G.put M i hN) κ' (c+1)∧∀j,κ j≠.non→κ' j=κ j:=by
 obtain⟨hb1,hb2,hb3⟩:=h.bd
 obtain⟨x1,x2,x3,x4⟩:=h.nd x.a g hg
 -- the tag of the row that is written
 obtain⟨tg,htg,htn⟩:∃tg,tg=(if x.els then Tag.nn x.a else Tag.ny x.a)∧tg≠.non:=⟨_,rfl,by split<;>(intro h;cases h)⟩
 have hitg:(if x.els then g.no else g.yes)≠[]→κ (if x.els then g.n else g.y)=tg:=by
  intro hne
  rw[htg]
  cases he:x.els with
  |true=>rw[he]at hne;exact(x4 hne).2
  |false=>rw[he]at hne;exact(x3 hne).2
 have hold:∀j,κ j≠.non→κ j≠tg→j≠i:=by
  intro j h1 h2 e
  subst e
  rcases hi with⟨_,h3,_⟩|⟨h3,h4⟩
  ·have:=h.lt j h1;omega
  ·rw[h4]at h2;exact h2 (hitg h3)
 have hκ:∀j,κ j≠.non→(if j=i then tg else κ j)=κ j:=by
  intro j h1
  by_cases hj:j=i
  ·rw[if_pos hj]
   apply Classical.byContradiction
   intro h2
   exact hold j h1 (fun h3=>h2 h3.symm) hj
  ·rw[if_neg hj]
 have tgne:tg≠.rc∧tg≠.sc∧tg≠.rr∧tg≠.sr∧(∀b,tg≠.nd b)∧(∀o,tg≠.op o):=by
  rw[htg];split<;>refine⟨?_,?_,?_,?_,?_,?_⟩<;>(first|(intro b h;cases h;done)|(intro h;cases h))
 have t0:κ 0≠.non:=by rw[h.k0];intro h;cases h
 have t1:κ 1≠.non:=by rw[h.k1];intro h;cases h
 have hput:G.put M i hN={G with nd:=fun a=>if a=x.a then(G.nd a).map fun g=>if x.els then {g with no:=g.no++[M],n:=i,hn:=hN}else {g with yes:=g.yes++[M],y:=i,hy:=hN}else G.nd a}:=by simp only[Gs.put,hst]
 refine⟨fun j=>if j=i then tg else κ j,?_,hκ⟩
 rw[hput]
 have far:∀j t,κ j=t→t≠.non→t≠tg→j≠x.a→σ2.obj j=σ.obj j∧(if j=i then tg else κ j)=t:=by
  intro j t h1 h2 h3 h4
  have h5:κ j≠.non:=by rw[h1];exact h2
  exact⟨fo j h5 h4 (hold j h5 (by rw[h1];exact h3)),by rw[hκ j h5];exact h1⟩
 have xa:∀j t,κ j=t→t≠.nd x.a→j≠x.a:=fun j t h1 h2 e=>by subst e;rw[x2]at h1;exact h2 h1.symm
 refine⟨fun j hj=>?_,by rw[hκ 0 t0];exact h.k0,by rw[hκ 1 t1];exact h.k1,?_,?_,h.sa,fun hne=>?_,fun hne=>?_,fun a g' hg'=>?_,fun y hy=>?_,?_⟩
 ·by_cases hji:j=i
  ·subst hji
   rcases hi with⟨_,_,h3⟩|⟨h3,h4⟩
   ·exact h3
   ·have:=h.lt j (by rw[h4,hitg h3];exact htn);omega
  ·have hj':κ j≠.non:=by simpa[hji]using hj
   have:=h.lt j hj';omega
 ·rw[(far 0 .rc h.k0 (by intro h;cases h) (Ne.symm tgne.1) (xa 0 _ h.k0 (by intro h;cases h))).1];exact h.r0
 ·rw[(far 1 .sc h.k1 (by intro h;cases h) (Ne.symm tgne.2.1) (xa 1 _ h.k1 (by intro h;cases h))).1];exact h.r1
 ·obtain⟨a1,a2⟩:=h.rr hne
  obtain⟨b1,b2⟩:=far _ .rr a2 (by intro h;cases h) (Ne.symm tgne.2.2.1) (xa _ _ a2 (by intro h;cases h))
  exact⟨by rw[b1];exact a1,b2⟩
 ·obtain⟨⟨rows,a1,a3,a4⟩,a2⟩:=h.sr hne
  obtain⟨b1,b2⟩:=far _ .sr a2 (by intro h;cases h) (Ne.symm tgne.2.2.2.1) (xa _ _ a2 (by intro h;cases h))
  exact⟨⟨rows,by rw[b1];exact a1,a3,a4⟩,b2⟩
 ·simp only at hg'
  by_cases hax:a=x.a
  ·subst hax
   rw[if_pos rfl,hg,Option.map_some]at hg'
   cases hg'
   have tx:κ x.a≠.non:=by rw[x2];intro h;cases h
   refine⟨f0,by rw[hκ _ tx];exact x2,fun hy=>?_,fun hy=>?_⟩
   ·cases he:x.els with
    |true=>
     simp only[he,if_true]at hy htg ⊢
     obtain⟨y1,y2⟩:=x3 hy
     obtain⟨b1,b2⟩:=far _ _ y2 (by intro h;cases h) (by rw[htg];intro h;cases h) (xa _ _ y2 (by intro h;cases h))
     exact⟨by rw[b1];exact y1,b2⟩
    |false=>
     simp only[he,Bool.false_eq_true,if_false]at fr htg ⊢
     exact⟨fr,by simp[htg]⟩
   ·cases he:x.els with
    |true=>
     simp only[he,if_true]at fr htg ⊢
     exact⟨fr,by simp[htg]⟩
    |false=>
     simp only[he,Bool.false_eq_true,if_false]at hy htg ⊢
     obtain⟨y1,y2⟩:=x4 hy
     obtain⟨b1,b2⟩:=far _ _ y2 (by intro h;cases h) (by rw[htg];intro h;cases h) (xa _ _ y2 (by intro h;cases h))
     exact⟨by rw[b1];exact y1,b2⟩
  ·rw[if_neg hax]at hg'
   obtain⟨g1,g2,g3,g4⟩:=h.nd a g' hg'
   obtain⟨b1,b2⟩:=far a _ g2 (by intro h;cases h) (Ne.symm (tgne.2.2.2.2.1 a)) hax
   refine⟨by rw[b1];exact g1,b2,fun hy=>?_,fun hy=>?_⟩
   ·obtain⟨y1,y2⟩:=g3 hy
    obtain⟨c1,c2⟩:=far _ _ y2 (by intro h;cases h) (by rw[htg];split<;>(intro h;cases h<;>exact hax rfl)) (xa _ _ y2 (by intro h;cases h))
    exact⟨by rw[c1];exact y1,c2⟩
   ·obtain⟨y1,y2⟩:=g4 hy
    obtain⟨c1,c2⟩:=far _ _ y2 (by intro h;cases h) (by rw[htg];split<;>(intro h;cases h<;>exact hax rfl)) (xa _ _ y2 (by intro h;cases h))
    exact⟨by rw[c1];exact y1,c2⟩
 ·obtain⟨a1,a2,g',a3⟩:=h.op y hy
  obtain⟨b1,b2⟩:=far _ _ a2 (by intro h;cases h) (Ne.symm (tgne.2.2.2.2.2 _)) (xa _ _ a2 (by intro h;cases h))
  refine⟨by rw[b1];exact a1,b2,?_⟩
  by_cases hya:y.a=x.a
  ·show ∃g',(if y.a=x.a then _ else _)=some g'
   rw[if_pos hya,hya,hg];exact⟨_,rfl⟩
  ·show ∃g',(if y.a=x.a then _ else _)=some g'
   rw[if_neg hya];exact⟨g',a3⟩
 ·refine⟨by simp only;omega,by simp only;omega,fun a g' hg'=>?_⟩
  simp only at hg'
  by_cases hax:a=x.a
  ·subst hax
   rw[if_pos rfl,hg,Option.map_some]at hg'
   cases hg'
   have:=hb3 _ g hg
   split<;>simp only[List.length_append,List.length_singleton]<;>omega
  ·rw[if_neg hax]at hg'
   have:=hb3 a g' hg'
   omega
set_option maxHeartbeats 4000000 in
theorem J97 {σ:St} {G:Gs} {κ:Nat→Tag} {c:Nat} (h:GRep σ G κ c) (hc:c≤2097152) (M:Nat):AFun X 82 [.ref M 0,.ref 1 0,.ref 0 0] σ fun E σ'=>E=.ret (.tup [])∧∃i hd κ',GRep σ' (G.put M i hd) κ' (c+1)∧σ.next≤σ'.next∧(∀j,κ j≠.non→κ' j=κ j):=by
 obtain⟨hb1,hb2,hb3⟩:=h.bd
 have t0:κ 0≠.non:=by rw[h.k0];intro h;cases h
 have t1:κ 1≠.non:=by rw[h.k1];intro h;cases h
 have l0:=h.lt 0 t0
 have l1:=h.lt 1 t1
 refine Jx Tryz.func82 rfl (by decide) Tryz.ntmps82 Tryz.results82 (by simp) ?_
 have ht0:decide (((0:Nat):Int)=0)=true:=rfl
 rcases hst:G.stk with _|⟨x,st⟩
 ·have r1:=h.r1
  rw[hst]at r1
  repeat' first|refine Z5 ?_|refine Zo ?_|refine J5 ?_
  refine Yr r1 ?_
  repeat' first|refine Z1 ?_|refine Z2 ?_|refine Z5 ?_|refine Yx2 (fun _=>rfl) ?_|refine Zo ?_|refine Zp ?_
  refine Yr h.r0 ?_
  repeat' first|refine Z1 ?_|refine Z5 ?_|refine Yw (sz:=1) (rows:=[prf M]) ?_
  refine app1 (f:=prf) (l:=G.root) (y:=M) (h:=G.rh) (i:=G.rr) (k:=σ.next) (v:=σ.next) (fun hne=>?_) ?_ (fun _=>rfl) (fun i' σ' e1 e2 e3 e4=>?_)
  ·have:=h.lt G.rr (by rw[(h.rr hne).2];intro h;cases h)
   rw[St.obj_alloc,if_neg (by omega)]
   exact(h.rr hne).1
  ·rw[St.obj_alloc,if_pos rfl]
  have hi0:i'≠0:=by
   rw[e1]
   split
   ·simp only[St.next_alloc];omega
   ·rename_i hne
    intro e
    have:=(h.rr hne).2
    rw[e,h.k0]at this;cases this
  have f0:σ'.obj 0=some (.var [slcN G.rr G.rh G.root.length]):=by
   rw[e3 0 (Ne.symm hi0),St.obj_alloc,if_neg (by omega)];exact h.r0
  repeat' first|refine Z2 ?_|refine Z5 ?_|refine Yt f0 ?_|refine ret0 ?_|refine J9 ?_|refine J8 ?_
  refine⟨rfl,i',σ.next+1,?_⟩
  obtain⟨κ',h1,h2⟩:=h.put_root (M:=M) (i:=i') (hN:=σ.next+1) (σ2:=σ'.set 0 _) hst (by simp only[St.next_set,e4,St.next_alloc];omega) (by
   rw[e1]
   by_cases hr:G.root=[]
   ·left;rw[if_pos hr];simp only[St.next_set,e4,St.next_alloc];exact⟨hr,by omega,by omega⟩
   ·right;rw[if_neg hr];exact⟨hr,rfl⟩) (by rw[St.obj_set,if_pos rfl]) (by rw[St.obj_set,if_neg hi0];exact e2) (fun j hj hj0 hji=>by
    have:=h.lt j hj
    rw[St.obj_set,if_neg hj0,e3 j hji,St.obj_alloc,if_neg (by omega)])
  exact⟨κ',h1,by simp only[St.next_set,e4,St.next_alloc];omega,h2⟩
 ·have r1:=h.r1
  have hsa:G.sa=true:=by
   cases hq:G.sa with
   |true=>rfl
   |false=>rw[h.sa hq]at hst;cases hst
  rw[hst,List.length_cons,show slcB G.sa G.sr G.sh (st.length+1)=.sl G.sr G.sh 0 (st.length+1) by rw[hsa];rfl]at r1
  have hsl:st.length+1≤c:=by rw[hst]at hb2;exact hb2
  obtain⟨rows,hsr,hsr2,hsr3⟩:=(h.sr hsa).1
  rw[hst]at hsr2 hsr3
  obtain⟨hop,hopt,g,hg⟩:=h.op x (by rw[hst];exact List.mem_cons_self)
  obtain⟨x1,x2,x3,x4⟩:=h.nd x.a g hg
  have hgb:=hb3 x.a g hg
  have hget:rows[st.length]? = some (orf x):=by
   have h1:(rows.take (x::st).length)[st.length]? = some (orf x):=by rw[hsr2];simp
   rwa [List.getElem?_take,if_pos (by simp)]at h1
  have e1:decide (((st.length+1-0:Nat):Int)=0)=false:=J1 (by omega)
  have lo:=h.lt x.o (by rw[hopt];intro h;cases h)
  have la:=h.lt x.a (by rw[x2];intro h;cases h)
  have hao:x.a≠x.o:=fun e=>by rw[e,hopt]at x2;cases x2
  have hT:∀o' j,j=x.o∨j=x.a→(σ.alloc o').obj j=σ.obj j:=fun o' j hj=>by
   rw[St.obj_alloc,if_neg (by rcases hj with rfl|rfl<;>omega)]
  cases hels:x.els with
  |true=>
   have hgn:g.no≠[]→(σ.alloc (.row σ.next 131 1 [prf M])).obj g.n=some (.row g.hn 131 1 (g.no.map prf)):=fun hne=>by
    have:=h.lt g.n (by rw[(x4 hne).2];intro h;cases h)
    rw[St.obj_alloc,if_neg (by omega)];exact(x4 hne).1
   have hin:∀j,j=x.o∨j=x.a→j≠(if g.no.isEmpty then(σ.alloc (.row σ.next 131 1 [prf M])).next else g.n):=fun j hj e=>by
    split at e
    ·simp only[St.next_alloc]at e;rcases hj with rfl|rfl<;>omega
    ·rename_i hne
     have:=(x4 (by simpa using hne)).2
     rw[←e]at this
     rcases hj with rfl|rfl
     ·rw[hopt]at this;cases this
     ·rw[x2]at this;cases this
   have hii:∀j,j=(if g.no.isEmpty then σ.next+1 else g.n)→¬j=x.a:=fun j hj e=>hin x.a (.inr rfl) (by rw[←e];exact hj)
   repeat' first|refine Z1 ?_|refine Z2 ?_|refine Z5 ?_|refine Ys r1 ?_|refine Yi1 (n:=((st.length+1-0:Nat):Int)-1) (hi:=st.length+1) st.length hsr (by omega) (by omega) ?_|refine Ye1 hsr hget ?_|refine Ju ?_|refine Ys hop ?_|refine Zg ?_|refine Zo ?_|refine J5 ?_|refine Zp ?_|refine Zq ?_|refine J7 ?_|refine J3 ?_
   refine J09 (fun j=>j=x.o∨j=x.a) [12,13,16] Jr (by decide +kernel) ?_
   repeat' first|refine Wa ?_|refine Wn ?_|refine Wl hop (.inl rfl) ?_|refine Wr x1 (.inr rfl) ?_
   refine We (Yw (sz:=1) (rows:=[prf M]) ⟨rfl,rfl⟩) (.inr (hT _)) ?_
   refine We (app1d (f:=prf) (l:=g.no) (y:=M) (h:=g.hn) (i:=g.n) (k:=σ.next) (v:=σ.next) hgn (by rw[St.obj_alloc,if_pos rfl]) (fun _=>rfl) ⟨rfl,rfl⟩) (.inr fun j hj=>J28 (hin j hj)) ?_
   repeat' first|refine Wa ?_|refine Wn ?_
   refine We (Yt (by rw[J28 (hin _ (.inr rfl)),hT _ _ (.inr rfl)];exact x1) ⟨rfl,rfl⟩) (.inl rfl) ?_
   refine Wy ?_
   refine nrm0 ?_
   refine⟨rfl,if g.no.isEmpty then σ.next+1 else g.n,σ.next+1,?_⟩
   refine Exists.imp (fun κ' (hh:_∧_)=>⟨hh.1,?_,hh.2⟩) (h.put_node (M:=M) (hN:=σ.next+1) hst hg ?_ ?_ ?_ ?_ ?_)
   ·simp only[St.next_set,J0Z,St.next_alloc];omega
   ·simp only[St.next_set,J0Z,St.next_alloc];omega
   ·simp only[hels,if_true]
    by_cases hno:g.no=[]
    ·left;simp only[hno,List.isEmpty_nil,if_true,St.next_set,J0Z,St.next_alloc];exact⟨trivial,by omega,by omega⟩
    ·right;exact⟨hno,by rw[if_neg (by simpa using hno)]⟩
   ·rw[St.obj_set,if_pos rfl]
    simp only[hels,if_true,ncell,List.length_append,List.length_singleton]
    rw[J1p (Nat.succ_ne_zero g.no.length)]
    rfl
   ·rw[St.obj_set,if_neg (hii _ rfl)]
    simp only[hels,if_true]
    exact J5H
   ·intro j hj hja hji
    have:=h.lt j hj
    rw[St.obj_set,if_neg hja,J28 hji,St.obj_alloc,if_neg (by omega)]
  |false=>
   have hgn:g.yes≠[]→(σ.alloc (.row σ.next 131 1 [prf M])).obj g.y=some (.row g.hy 131 1 (g.yes.map prf)):=fun hne=>by
    have:=h.lt g.y (by rw[(x3 hne).2];intro h;cases h)
    rw[St.obj_alloc,if_neg (by omega)];exact(x3 hne).1
   have hin:∀j,j=x.o∨j=x.a→j≠(if g.yes.isEmpty then(σ.alloc (.row σ.next 131 1 [prf M])).next else g.y):=fun j hj e=>by
    split at e
    ·simp only[St.next_alloc]at e;rcases hj with rfl|rfl<;>omega
    ·rename_i hne
     have:=(x3 (by simpa using hne)).2
     rw[←e]at this
     rcases hj with rfl|rfl
     ·rw[hopt]at this;cases this
     ·rw[x2]at this;cases this
   have hii:∀j,j=(if g.yes.isEmpty then σ.next+1 else g.y)→¬j=x.a:=fun j hj e=>hin x.a (.inr rfl) (by rw[←e];exact hj)
   repeat' first|refine Z1 ?_|refine Z2 ?_|refine Z5 ?_|refine Ys r1 ?_|refine Yi1 (n:=((st.length+1-0:Nat):Int)-1) (hi:=st.length+1) st.length hsr (by omega) (by omega) ?_|refine Ye1 hsr hget ?_|refine Ju ?_|refine Ys hop ?_|refine Zg ?_|refine Zo ?_|refine J5 ?_|refine Zq ?_|refine J7 ?_|refine J3 ?_
   refine J09 (fun j=>j=x.o∨j=x.a) [12,13,16] Jr (by decide +kernel) ?_
   repeat' first|refine Wa ?_|refine Wn ?_|refine Wl hop (.inl rfl) ?_|refine Wr x1 (.inr rfl) ?_
   refine We (Yw (sz:=1) (rows:=[prf M]) ⟨rfl,rfl⟩) (.inr (hT _)) ?_
   refine We (app1d (f:=prf) (l:=g.yes) (y:=M) (h:=g.hy) (i:=g.y) (k:=σ.next) (v:=σ.next) hgn (by rw[St.obj_alloc,if_pos rfl]) (fun _=>rfl) ⟨rfl,rfl⟩) (.inr fun j hj=>J28 (hin j hj)) ?_
   repeat' first|refine Wa ?_|refine Wn ?_
   refine We (Yt (by rw[J28 (hin _ (.inr rfl)),hT _ _ (.inr rfl)];exact x1) ⟨rfl,rfl⟩) (.inl rfl) ?_
   refine Wy ?_
   refine nrm0 ?_
   refine⟨rfl,if g.yes.isEmpty then σ.next+1 else g.y,σ.next+1,?_⟩
   refine Exists.imp (fun κ' (hh:_∧_)=>⟨hh.1,?_,hh.2⟩) (h.put_node (M:=M) (hN:=σ.next+1) hst hg ?_ ?_ ?_ ?_ ?_)
   ·simp only[St.next_set,J0Z,St.next_alloc];omega
   ·simp only[St.next_set,J0Z,St.next_alloc];omega
   ·simp only[hels,Bool.false_eq_true,if_false]
    by_cases hno:g.yes=[]
    ·left;simp only[hno,List.isEmpty_nil,if_true,St.next_set,J0Z,St.next_alloc];exact⟨trivial,by omega,by omega⟩
    ·right;exact⟨hno,by rw[if_neg (by simpa using hno)]⟩
   ·rw[St.obj_set,if_pos rfl]
    simp only[hels,Bool.false_eq_true,if_false,ncell,List.length_append,List.length_singleton]
    rw[J1p (Nat.succ_ne_zero g.yes.length)]
    rfl
   ·rw[St.obj_set,if_neg (hii _ rfl)]
    simp only[hels,Bool.false_eq_true,if_false]
    exact J5H
   ·intro j hj hja hji
    have:=h.lt j hj
    rw[St.obj_set,if_neg hja,J28 hji,St.obj_alloc,if_neg (by omega)]
end Go.Pm
/- Part of the proof: Gr3. -/
namespace Go.Pm
attribute [local irreducible] AR Ok inBlock andThen endQ aoper
set_option maxHeartbeats 1000000
open Go.Proofs
theorem J24 {X:Cfg} {nt:Nat} {Q:Exit→Env→St→Prop} {env:Env} {σ:St} {c:Code} {ι:Type} (E:ι→Env) (I:ι→St→Prop) (μ:ι→Nat) (x0:ι) (hi:I x0 σ) (he:∀t,Frz none (env t) (E x0 t))
  (round:∀x σ,I x σ→Ok X nt c (andThen (fun env σ'=>∃y,I y σ'∧μ y<μ x∧∀t,Frz none (env t) (E y t)) Q) (E x) σ):Ok X nt (.loop c) Q env σ:=by
 refine Jb1 (fun n env σ=>∃x,I x σ∧μ x=n∧∀t,Frz none (env t) (E x t)) (μ x0) ⟨x0,hi,rfl,he⟩ ?_
 rintro n env σ ⟨x,hx,rfl,hE⟩
 refine J0a (J5E (env':=E x) (σ':=σ) rfl (fun j o' h=>⟨o',h,J5N _ _⟩) hE) (J89 (round x σ hx) ?_)
 intro e env σ h
 cases e with
 |normal=>
  unfold andThen at h ⊢
  obtain⟨y,h1,h2,h3⟩:=h
  exact⟨μ y,h2,y,h1,rfl,h3⟩
 |exit id=>unfold andThen at h ⊢;exact h
 |goto l=>unfold andThen at h ⊢;exact h
 |ret=>unfold andThen at h ⊢;exact h
 |panic ch=>unfold andThen at h ⊢;exact h
 |outgrown=>unfold andThen at h ⊢;exact h
theorem JE (σ:St) (o:AO):(σ.alloc o).obj σ.next=some o:=by simp[St.alloc]
theorem JU (σ:St) (i:Nat) (o:AO):(σ.set i o).obj i=some o:=by simp[St.set]
theorem Tag.tn {κ:Nat→Tag} {j:Nat} {t:Tag} (h:κ j=t) (ht:t≠.non):κ j≠.non:=by rw[h];exact ht
theorem GRep.junk {σ σ1:St} {G:Gs} {κ:Nat→Tag} {c c':Nat} (h:GRep σ G κ c) (hc:c≤c') (hn:σ.next≤σ1.next) (ho:∀j,κ j≠.non→σ1.obj j=σ.obj j):GRep σ1 G κ c':=by
 refine⟨fun i hi=>Nat.lt_of_lt_of_le (h.lt i hi) hn,h.k0,h.k1,?_,?_,h.sa,fun hr=>?_,fun hs=>?_,fun a g hg=>?_,fun x hx=>?_,?_⟩
 ·rw[ho 0 (Tag.tn h.k0 (by intro h;cases h))];exact h.r0
 ·rw[ho 1 (Tag.tn h.k1 (by intro h;cases h))];exact h.r1
 ·rw[ho _ (Tag.tn (h.rr hr).2 (by intro h;cases h))];exact h.rr hr
 ·rw[ho _ (Tag.tn (h.sr hs).2 (by intro h;cases h))];exact h.sr hs
 ·obtain⟨g1,g2,g3,g4⟩:=h.nd a g hg
  refine⟨by rw[ho a (Tag.tn g2 (by intro h;cases h))];exact g1,g2,fun hy=>?_,fun hy=>?_⟩
  ·rw[ho _ (Tag.tn (g3 hy).2 (by intro h;cases h))];exact g3 hy
  ·rw[ho _ (Tag.tn (g4 hy).2 (by intro h;cases h))];exact g4 hy
 ·obtain⟨a1,a2,a3⟩:=h.op x hx
  exact⟨by rw[ho _ (Tag.tn a2 (by intro h;cases h))];exact a1,a2,a3⟩
 ·obtain⟨b1,b2,b3⟩:=h.bd
  exact⟨by omega,by omega,fun a g hg=>by have:=b3 a g hg;omega⟩
def Gs.new (G:Gs) (M:Nat) (s:Sm):Gs:={G with nd:=fun a=>if a=M then some ⟨s,0,0,0,0,[],[]⟩else G.nd a}
theorem GRep.newnode {σ:St} {G:Gs} {κ:Nat→Tag} {c M:Nat} {s:Sm} (h:GRep σ G κ c) (hM:σ.next=M):GRep (σ.alloc (.var (ncell ⟨s,0,0,0,0,[],[]⟩))) (G.new M s) (fun j=>if j=M then .nd M else κ j) c:=by
 subst hM
 have hf:∀j,κ j≠.non→j≠σ.next:=fun j hj e=>by have:=h.lt j hj;omega
 have ho:∀j,κ j≠.non→(σ.alloc (.var (ncell ⟨s,0,0,0,0,[],[]⟩))).obj j=σ.obj j∧(if j=σ.next then Tag.nd σ.next else κ j)=κ j:=fun j hj=>by
  have:=hf j hj
  exact⟨by rw[St.obj_alloc,if_neg this],if_neg this⟩
 have go:∀j t,κ j=t→t≠.non→(σ.alloc (.var (ncell ⟨s,0,0,0,0,[],[]⟩))).obj j=σ.obj j∧(if j=σ.next then Tag.nd σ.next else κ j)=t:=fun j t h1 h2=>by
  obtain⟨a,b⟩:=ho j (Tag.tn h1 h2)
  exact⟨a,by rw[b,h1]⟩
 refine⟨fun j hj=>?_,(go 0 _ h.k0 (by intro h;cases h)).2,(go 1 _ h.k1 (by intro h;cases h)).2,?_,?_,h.sa,fun hr=>?_,fun hs=>?_,fun a g hg=>?_,fun x hx=>?_,?_⟩
 ·by_cases hjn:j=σ.next
  ·subst hjn;simp[St.alloc]
  ·have:=h.lt j (by simpa[hjn]using hj);simp only[St.next_alloc];omega
 ·rw[(go 0 _ h.k0 (by intro h;cases h)).1];exact h.r0
 ·rw[(go 1 _ h.k1 (by intro h;cases h)).1];exact h.r1
 ·obtain⟨a,b⟩:=go _ _ (h.rr hr).2 (by intro h;cases h)
  exact⟨by rw[show(G.new σ.next s).rr=G.rr from rfl,a];exact(h.rr hr).1,b⟩
 ·obtain⟨a,b⟩:=go _ _ (h.sr hs).2 (by intro h;cases h)
  exact⟨by rw[show(G.new σ.next s).sr=G.sr from rfl,a];exact(h.sr hs).1,b⟩
 ·simp only[Gs.new]at hg
  by_cases ha:a=σ.next
  ·rw[if_pos ha]at hg
   cases hg
   subst ha
   exact⟨by rw[St.obj_alloc,if_pos rfl],if_pos rfl,fun h=>absurd rfl h,fun h=>absurd rfl h⟩
  ·rw[if_neg ha]at hg
   obtain⟨g1,g2,g3,g4⟩:=h.nd a g hg
   obtain⟨b1,b2⟩:=go a _ g2 (by intro h;cases h)
   refine⟨by rw[b1];exact g1,b2,fun hy=>?_,fun hy=>?_⟩
   ·obtain⟨c1,c2⟩:=go _ _ (g3 hy).2 (by intro h;cases h)
    exact⟨by rw[c1];exact(g3 hy).1,c2⟩
   ·obtain⟨c1,c2⟩:=go _ _ (g4 hy).2 (by intro h;cases h)
    exact⟨by rw[c1];exact(g4 hy).1,c2⟩
 ·obtain⟨a1,a2,g,a3⟩:=h.op x hx
  obtain⟨b1,b2⟩:=go _ _ a2 (by intro h;cases h)
  refine⟨by rw[b1];exact a1,b2,?_⟩
  simp only[Gs.new]
  split
  ·exact⟨_,rfl⟩
  ·exact⟨g,a3⟩
 ·obtain⟨b1,b2,b3⟩:=h.bd
  refine⟨b1,b2,fun a g hg=>?_⟩
  simp only[Gs.new]at hg
  split at hg
  ·cases hg;exact⟨Nat.zero_le _,Nat.zero_le _⟩
  ·exact b3 a g hg
theorem GRep.push {σ σ2:St} {G:Gs} {κ:Nat→Tag} {c i hN:Nat} {x:On} (h:GRep σ G κ c) (hx:∃g,G.nd x.a=some g) (hn:σ.next<σ2.next) (ho:σ.next=x.o) (hi:(G.sa=false∧x.o<i∧i<σ2.next)∨(G.sa=true∧i=G.sr))
  (f1:σ2.obj 1=some (.var [.sl i hN 0 (G.stk.length+1)])) (fr:σ2.obj i=some (.row hN 143 1 ((G.stk.reverse++[x]).map orf))) (fx:σ2.obj x.o=some (.var [.ref x.a 0,vb x.els]))
  (fo:∀j,κ j≠.non→j≠1→j≠i→σ2.obj j=σ.obj j):
  ∃κ',GRep σ2 {G with stk:=x::G.stk,sa:=true,sr:=i,sh:=hN} κ' (c+1):=by
 obtain⟨hb1,hb2,hb3⟩:=h.bd
 have hold:∀j,κ j≠.non→κ j≠.sr→j≠i:=by
  intro j h1 h2 e
  subst e
  rcases hi with⟨_,h3,_⟩|⟨h3,h4⟩
  ·have:=h.lt j h1;omega
  ·subst h4;exact h2 (h.sr h3).2
 have hio:i≠x.o:=by
  rcases hi with⟨_,h3,_⟩|⟨h3,h4⟩
  ·omega
  ·have:=h.lt i (Tag.tn (t:=.sr) (by rw[h4];exact(h.sr h3).2) (by intro h;cases h));omega
 refine⟨fun j=>if j=i then .sr else if j=x.o then .op x.o else κ j,?_⟩
 have go:∀j t,κ j=t→t≠.non→t≠.sr→t≠.sc→σ2.obj j=σ.obj j∧(if j=i then Tag.sr else if j=x.o then Tag.op x.o else κ j)=t:=by
  intro j t h1 h2 h3 h4
  have hj:=Tag.tn h1 h2
  have a1:=hold j hj (by rw[h1];exact h3)
  have a2:j≠x.o:=fun e=>by have:=h.lt j hj;omega
  have a3:j≠1:=fun e=>by subst e;rw[h.k1]at h1;exact h4 h1.symm
  exact⟨fo j hj a3 a1,by rw[if_neg a1,if_neg a2];exact h1⟩
 have t1:=Tag.tn h.k1 (by intro h;cases h)
 have a11:=hold 1 t1 (by rw[h.k1];intro h;cases h)
 refine⟨fun j hj=>?_,(go 0 _ h.k0 (by intro h;cases h) (by intro h;cases h) (by intro h;cases h)).2,?_,?_,?_,(fun h=>by cases h),fun hr=>?_,fun _=>⟨⟨_,fr,by rw[List.take_of_length_le (by simp)];simp,by simp⟩,if_pos rfl⟩,fun a g hg=>?_,fun y hy=>?_,?_⟩
 ·by_cases h1:j=i
  ·subst h1
   rcases hi with⟨_,_,h3⟩|⟨h3,h4⟩
   ·exact h3
   ·have:=h.lt j (Tag.tn (t:=.sr) (by rw[h4];exact(h.sr h3).2) (by intro h;cases h));omega
  ·by_cases h2:j=x.o
   ·omega
   ·have:=h.lt j (by simpa[h1,h2]using hj);omega
 ·have:=h.lt 1 t1
  show(if(1:Nat)=i then Tag.sr else if 1=x.o then Tag.op x.o else κ 1)=.sc
  rw[if_neg a11,if_neg (by omega)];exact h.k1
 ·rw[(go 0 _ h.k0 (by intro h;cases h) (by intro h;cases h) (by intro h;cases h)).1];exact h.r0
 ·rw[f1];rfl
 ·obtain⟨a,b⟩:=go _ _ (h.rr hr).2 (by intro h;cases h) (by intro h;cases h) (by intro h;cases h)
  exact⟨by rw[a];exact(h.rr hr).1,b⟩
 ·obtain⟨g1,g2,g3,g4⟩:=h.nd a g hg
  obtain⟨b1,b2⟩:=go a _ g2 (by intro h;cases h) (by intro h;cases h) (by intro h;cases h)
  refine⟨by rw[b1];exact g1,b2,fun hy=>?_,fun hy=>?_⟩
  ·obtain⟨c1,c2⟩:=go _ _ (g3 hy).2 (by intro h;cases h) (by intro h;cases h) (by intro h;cases h)
   exact⟨by rw[c1];exact(g3 hy).1,c2⟩
  ·obtain⟨c1,c2⟩:=go _ _ (g4 hy).2 (by intro h;cases h) (by intro h;cases h) (by intro h;cases h)
   exact⟨by rw[c1];exact(g4 hy).1,c2⟩
 ·rcases List.mem_cons.1 hy with rfl|hy
  ·exact⟨fx,by rw[if_neg (Ne.symm hio),if_pos rfl],hx⟩
  ·obtain⟨a1,a2,a3⟩:=h.op y hy
   obtain⟨b1,b2⟩:=go _ _ a2 (by intro h;cases h) (by intro h;cases h) (by intro h;cases h)
   exact⟨by rw[b1];exact a1,b2,a3⟩
 ·exact⟨by simp only;omega,by simp only[List.length_cons];omega,fun a g hg=>by have:=hb3 a g hg;omega⟩
theorem GRep.setels {σ:St} {G:Gs} {κ:Nat→Tag} {c:Nat} {x:On} {st:List On} (h:GRep σ G κ c) (hst:G.stk=x::st) (hd:∀y∈st,y.o≠x.o):GRep (σ.set x.o (.var [.ref x.a 0,vb true])) {G with stk:={x with els:=true}::st} κ c:=by
 obtain⟨hb1,hb2,hb3⟩:=h.bd
 obtain⟨x1,x2,x3⟩:=h.op x (by rw[hst];exact List.mem_cons_self)
 have go:∀j t,κ j=t→t≠.op x.o→(σ.set x.o (.var [.ref x.a 0,vb true])).obj j=σ.obj j:=by
  intro j t h1 h2
  rw[St.obj_set,if_neg (fun e=>by subst e;rw[x2]at h1;exact h2 h1.symm)]
 refine⟨h.lt,h.k0,h.k1,?_,?_,(fun hs=>by rw[h.sa hs]at hst;cases hst),fun hr=>⟨?_,(h.rr hr).2⟩,fun hs=>?_,fun a g hg=>?_,fun y hy=>?_,?_⟩
 ·rw[go 0 _ h.k0 (by intro h;cases h)];exact h.r0
 ·rw[go 1 _ h.k1 (by intro h;cases h),h.r1,hst];rfl
 ·rw[go _ _ (h.rr hr).2 (by intro h;cases h)];exact(h.rr hr).1
 ·obtain⟨⟨rows,a1,a3,a4⟩,a2⟩:=h.sr hs
  rw[hst]at a3 a4
  exact⟨⟨rows,by rw[go _ _ a2 (by intro h;cases h)];exact a1,by simpa[orf]using a3,a4⟩,a2⟩
 ·obtain⟨g1,g2,g3,g4⟩:=h.nd a g hg
  exact⟨by rw[go _ _ g2 (by intro h;cases h)];exact g1,g2,fun hy=>⟨by rw[go _ _ (g3 hy).2 (by intro h;cases h)];exact(g3 hy).1,(g3 hy).2⟩,fun hy=>⟨by rw[go _ _ (g4 hy).2 (by intro h;cases h)];exact(g4 hy).1,(g4 hy).2⟩⟩
 ·rcases List.mem_cons.1 hy with rfl|hy
  ·exact⟨by rw[St.obj_set,if_pos rfl],x2,x3⟩
  ·obtain⟨a1,a2,a3⟩:=h.op y (by rw[hst];exact List.mem_cons_of_mem _ hy)
   exact⟨by rw[go _ _ a2 (fun he=>hd y hy (Tag.op.inj he))];exact a1,a2,a3⟩
 ·refine⟨hb1,?_,hb3⟩
  rw[hst]at hb2;exact hb2
theorem GRep.pop {σ:St} {G:Gs} {κ:Nat→Tag} {c:Nat} {x:On} {st:List On} (h:GRep σ G κ c) (hst:G.stk=x::st) (hsa:G.sa=true):GRep (σ.set 1 (.var [.sl G.sr G.sh 0 st.length])) {G with stk:=st} κ c:=by
 obtain⟨hb1,hb2,hb3⟩:=h.bd
 have go:∀j t,κ j=t→t≠.sc→(σ.set 1 (.var [.sl G.sr G.sh 0 st.length])).obj j=σ.obj j:=by
  intro j t h1 h2
  rw[St.obj_set,if_neg (fun e=>by subst e;rw[h.k1]at h1;exact h2 h1.symm)]
 refine⟨h.lt,h.k0,h.k1,?_,?_,(fun hs=>by simp only[hsa]at hs;cases hs),fun hr=>⟨?_,(h.rr hr).2⟩,fun hs=>?_,fun a g hg=>?_,fun y hy=>?_,?_⟩
 ·rw[go 0 _ h.k0 (by intro h;cases h)];exact h.r0
 ·rw[St.obj_set,if_pos rfl];simp only[slcB,hsa,if_true]
 ·rw[go _ _ (h.rr hr).2 (by intro h;cases h)];exact(h.rr hr).1
 ·obtain⟨⟨rows,a1,a3,a4⟩,a2⟩:=h.sr hs
  rw[hst]at a3 a4
  simp only[List.length_cons]at a3 a4
  refine⟨⟨rows,by rw[go _ _ a2 (by intro h;cases h)];exact a1,?_,by simp only;omega⟩,a2⟩
  have h1:=congrArg (List.take st.length) a3
  rw[List.take_take,Nat.min_eq_left (by omega)]at h1
  rw[h1]
  simp
 ·obtain⟨g1,g2,g3,g4⟩:=h.nd a g hg
  exact⟨by rw[go _ _ g2 (by intro h;cases h)];exact g1,g2,fun hy=>⟨by rw[go _ _ (g3 hy).2 (by intro h;cases h)];exact(g3 hy).1,(g3 hy).2⟩,fun hy=>⟨by rw[go _ _ (g4 hy).2 (by intro h;cases h)];exact(g4 hy).1,(g4 hy).2⟩⟩
 ·obtain⟨a1,a2,a3⟩:=h.op y (by rw[hst];exact List.mem_cons_of_mem _ hy)
  exact⟨by rw[go _ _ a2 (by intro h;cases h)];exact a1,a2,a3⟩
 ·refine⟨hb1,?_,hb3⟩
  rw[hst]at hb2
  simp only[List.length_cons]at hb2 ⊢
  omega
def opS (st:List On) (a:Nat):Bool:=st.any fun x=>x.a == a
theorem J2O {nd nd':Nat→Option Gn} {op op':Nat→Bool} (hc:∀b g,nd b=some g→op b=false→nd' b=some g∧op' b=false):∀(fs:List Fr) (st:List On) (R:List Br) (cs:List Nat) (p:Nat),(∀y∈st,nd' y.a=nd y.a∧op' y.a=true)→
  frP nd op fs st R cs p→frP nd' op' fs st R cs p
 |[],[],R,cs,p,_,h=>by
  obtain⟨l,h1,h2⟩:=h
  exact⟨l,h1,JR hc _ _ h2⟩
 |f::fs,x::st,R,cs,p,ho,h=>by
  obtain⟨⟨l,m,⟨g,g1,g2,g3,g4,g5,g6⟩,h2,h3⟩,h4⟩:=h
  obtain⟨o1,o2⟩:=ho x List.mem_cons_self
  exact⟨⟨l,m,⟨g,by rw[o1];exact g1,o2,g3,g4,g5,g6⟩,JR hc _ _ h2,JR hc _ _ h3⟩,J2O hc fs st R cs x.a (fun y hy=>ho y (List.mem_cons_of_mem _ hy)) h4⟩
 |[],_::_,_,_,_,_,h=>h.elim
 |_::_,[],_,_,_,_,h=>h.elim
theorem JaI {nd nd':Nat→Option Gn} {op op':Nat→Bool} (hc:∀b g,nd b=some g→op b=false→nd' b=some g∧op' b=false) {t:Br} {M:Nat} (ht:trB nd' op' t M):∀{fs:List Fr} {st:List On} {R:List Br} {cs cs':List Nat},
  frS nd op fs st R cs→(match st with|[]=>cs'=cs++[M]|x::st'=>cs'=cs∧(∀g,nd x.a=some g→∃g',nd' x.a=some g'∧g'.s=g.s∧(if x.els then g'.yes=g.yes∧g'.no=g.no++[M]else g'.yes=g.yes++[M]∧g'.no=g.no))∧op' x.a=true∧∀y∈st',nd' y.a=nd y.a∧op' y.a=true)→
  frS nd' op' (putF t fs R).1 st (putF t fs R).2 cs'
 |[],[],R,cs,cs',h,hs=>by
  simp only at hs
  subst hs
  exact J19 ht _ _ (JR hc _ _ h)
 |f::fs,x::st,R,cs,cs',h,hs=>by
  obtain⟨⟨l,m,⟨g,g1,g2,g3,g4,g5,g6⟩,h2,h3⟩,h4⟩:=h
  simp only at hs
  obtain⟨rfl,e1,e2,e3⟩:=hs
  obtain⟨g',k1,k2,k3⟩:=e1 g g1
  have h2':=JR hc _ _ h2
  have h3':=JR hc _ _ h3
  have h4':=J2O hc fs st R _ x.a e3 h4
  simp only[putF]
  cases hf:f.els with
  |true=>
   rw[g4,hf]at k3
   simp only[if_true]at k3 ⊢
   exact⟨⟨l,m++[M],⟨g',k1,e2,by rw[k2,g3],by rw[g4,hf],by rw[k3.1,g5],by rw[k3.2,g6]⟩,h2',J19 ht _ _ h3'⟩,h4'⟩
  |false=>
   rw[g4,hf]at k3
   simp only[Bool.false_eq_true,if_false]at k3 ⊢
   exact⟨⟨l++[M],m,⟨g',k1,e2,by rw[k2,g3],by rw[g4,hf],by rw[k3.1,g5],by rw[k3.2,g6]⟩,J19 ht _ _ h2',h3'⟩,h4'⟩
 |[],_::_,_,_,_,h,_=>h.elim
 |_::_,[],_,_,_,h,_=>h.elim
theorem J9c {nd nd':Nat→Option Gn} {op op':Nat→Bool} (hc:∀b g,nd b=some g→op b=false→nd' b=some g∧op' b=false) {M:Nat}:∀{fs:List Fr} {st:List On} {R:List Br} {cs cs':List Nat},
  frS nd op fs st R cs→(match st with|[]=>cs'=cs++[M]|x::st'=>cs'=cs∧(∀g,nd x.a=some g→∃g',nd' x.a=some g'∧g'.s=g.s∧(if x.els then g'.yes=g.yes∧g'.no=g.no++[M]else g'.yes=g.yes++[M]∧g'.no=g.no))∧op' x.a=true∧∀y∈st',nd' y.a=nd y.a∧op' y.a=true)→
  frP nd' op' fs st R cs' M
 |[],[],R,cs,cs',h,hs=>by
  simp only at hs
  exact⟨cs,hs,JR hc _ _ h⟩
 |f::fs,x::st,R,cs,cs',h,hs=>by
  obtain⟨⟨l,m,⟨g,g1,g2,g3,g4,g5,g6⟩,h2,h3⟩,h4⟩:=h
  simp only at hs
  obtain⟨rfl,e1,e2,e3⟩:=hs
  obtain⟨g',k1,k2,k3⟩:=e1 g g1
  refine⟨⟨l,m,⟨g',k1,e2,by rw[k2,g3],g4,?_,?_⟩,JR hc _ _ h2,JR hc _ _ h3⟩,J2O hc fs st R _ x.a e3 h4⟩
  ·cases hx:x.els<;>(rw[hx]at k3;simp only[if_true,Bool.false_eq_true,if_false]at k3 ⊢;rw[k3.1,g5])
  ·cases hx:x.els<;>(rw[hx]at k3;simp only[if_true,Bool.false_eq_true,if_false]at k3 ⊢;rw[k3.2,g6])
 |[],_::_,_,_,_,h,_=>h.elim
 |_::_,[],_,_,_,h,_=>h.elim
end Go.Pm
