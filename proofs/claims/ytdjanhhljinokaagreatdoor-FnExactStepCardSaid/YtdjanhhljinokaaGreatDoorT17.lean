/- Part of the proof: Gr3. -/
import Derived.Test.YtdjanhhljinokaaGreatDoorT16
import Derived.Test.YtdjanhhljinokaaGreatDoorT9
set_option linter.unusedVariables false
set_option linter.unusedSimpArgs false
namespace Go.Pm
attribute [local irreducible] AR Ok inBlock andThen endQ aoper
set_option maxHeartbeats 1000000
open Go.Proofs
theorem Jb7 {X:Cfg} {nt:Nat} {Q:Exit→Env→St→Prop} {env:Env} {σ:St} {c:Code} {ι:Type} (E:ι→Env) (I:ι→St→Prop) (μ:ι→Nat) (x0:ι) (hi:I x0 σ) (he:∀t,Frz none (env t) (E x0 t))
  (round:∀x σ,I x σ→Ok X nt c (andThen (fun env σ'=>∃y,I y σ'∧μ y<μ x∧∀t,Frz none (env t) (E y t)) Q) (E x) σ):Ok X nt (.loop c) Q env σ:=by
 refine JbK (fun n env σ=>∃x,I x σ∧μ x=n∧∀t,Frz none (env t) (E x t)) (μ x0) ⟨x0,hi,rfl,he⟩ ?_
 rintro n env σ ⟨x,hx,rfl,hE⟩
 refine JC (J5M (env':=E x) (σ':=σ) rfl (fun j o' h=>⟨o',h,J5O _ _⟩) hE) (J8m (round x σ hx) ?_)
 intro e env σ h
 cases e with
 |normal=>
  unfold andThen at h ⊢
  obtain⟨y,h1,h2,h3⟩:=h
  exact⟨μ y,h2,y,h1,rfl,h3⟩
 |exit id=>unfold andThen at h ⊢;exact h
 |goto l=>unfold andThen at h ⊢;exact h
 |ret=>unfold andThen at h ⊢;exact h
 |panic ch=>unfold andThen at h ⊢;exact h
 |outgrown=>unfold andThen at h ⊢;exact h
theorem JH (σ:St) (o:AO):(σ.alloc o).obj σ.next=some o:=by simp[St.alloc]
theorem JY (σ:St) (i:Nat) (o:AO):(σ.set i o).obj i=some o:=by simp[St.set]
theorem Tag.tn {κ:Nat→Tag} {j:Nat} {t:Tag} (h:κ j=t) (ht:t≠.non):κ j≠.non:=by rw[h];exact ht
theorem GRep.junk {σ σ1:St} {G:Gs} {κ:Nat→Tag} {c c':Nat} (h:GRep σ G κ c) (hc:c≤c') (hn:σ.next≤σ1.next) (ho:∀j,κ j≠.non→σ1.obj j=σ.obj j):GRep σ1 G κ c':=by
 refine⟨fun i hi=>Nat.lt_of_lt_of_le (h.lt i hi) hn,h.k0,h.k1,?_,?_,h.sa,fun hr=>?_,fun hs=>?_,fun a g hg=>?_,fun x hx=>?_,?_⟩
 ·rw[ho 0 (Tag.tn h.k0 (by intro h;cases h))];exact h.r0
 ·rw[ho 1 (Tag.tn h.k1 (by intro h;cases h))];exact h.r1
 ·rw[ho _ (Tag.tn (h.rr hr).2 (by intro h;cases h))];exact h.rr hr
 ·rw[ho _ (Tag.tn (h.sr hs).2 (by intro h;cases h))];exact h.sr hs
 ·obtain⟨g1,g2,g3,g4⟩:=h.nd a g hg
  refine⟨by rw[ho a (Tag.tn g2 (by intro h;cases h))];exact g1,g2,fun hy=>?_,fun hy=>?_⟩
  ·rw[ho _ (Tag.tn (g3 hy).2 (by intro h;cases h))];exact g3 hy
  ·rw[ho _ (Tag.tn (g4 hy).2 (by intro h;cases h))];exact g4 hy
 ·obtain⟨a1,a2,a3⟩:=h.op x hx
  exact⟨by rw[ho _ (Tag.tn a2 (by intro h;cases h))];exact a1,a2,a3⟩
 ·obtain⟨b1,b2,b3⟩:=h.bd
  exact⟨by omega,by omega,fun a g hg=>by have:=b3 a g hg;omega⟩
def Gs.new (G:Gs) (M:Nat) (s:Sm):Gs:={G with nd:=fun a=>if a=M then some ⟨s,0,0,0,0,[],[]⟩else G.nd a}
theorem GRep.newnode {σ:St} {G:Gs} {κ:Nat→Tag} {c M:Nat} {s:Sm} (h:GRep σ G κ c) (hM:σ.next=M):GRep (σ.alloc (.var (ncell ⟨s,0,0,0,0,[],[]⟩))) (G.new M s) (fun j=>if j=M then .nd M else κ j) c:=by
 subst hM
 have hf:∀j,κ j≠.non→j≠σ.next:=fun j hj e=>by have:=h.lt j hj;omega
 have ho:∀j,κ j≠.non→(σ.alloc (.var (ncell ⟨s,0,0,0,0,[],[]⟩))).obj j=σ.obj j∧(if j=σ.next then Tag.nd σ.next else κ j)=κ j:=fun j hj=>by
  have:=hf j hj
  exact⟨by rw[St.obj_alloc,if_neg this],if_neg this⟩
 have go:∀j t,κ j=t→t≠.non→(σ.alloc (.var (ncell ⟨s,0,0,0,0,[],[]⟩))).obj j=σ.obj j∧(if j=σ.next then Tag.nd σ.next else κ j)=t:=fun j t h1 h2=>by
  obtain⟨a,b⟩:=ho j (Tag.tn h1 h2)
  exact⟨a,by rw[b,h1]⟩
 refine⟨fun j hj=>?_,(go 0 _ h.k0 (by intro h;cases h)).2,(go 1 _ h.k1 (by intro h;cases h)).2,?_,?_,h.sa,fun hr=>?_,fun hs=>?_,fun a g hg=>?_,fun x hx=>?_,?_⟩
 ·by_cases hjn:j=σ.next
  ·subst hjn;simp[St.alloc]
  ·have:=h.lt j (by simpa[hjn]using hj);simp only[St.next_alloc];omega
 ·rw[(go 0 _ h.k0 (by intro h;cases h)).1];exact h.r0
 ·rw[(go 1 _ h.k1 (by intro h;cases h)).1];exact h.r1
 ·obtain⟨a,b⟩:=go _ _ (h.rr hr).2 (by intro h;cases h)
  exact⟨by rw[show(G.new σ.next s).rr=G.rr from rfl,a];exact(h.rr hr).1,b⟩
 ·obtain⟨a,b⟩:=go _ _ (h.sr hs).2 (by intro h;cases h)
  exact⟨by rw[show(G.new σ.next s).sr=G.sr from rfl,a];exact(h.sr hs).1,b⟩
 ·simp only[Gs.new]at hg
  by_cases ha:a=σ.next
  ·rw[if_pos ha]at hg
   cases hg
   subst ha
   exact⟨by rw[St.obj_alloc,if_pos rfl],if_pos rfl,fun h=>absurd rfl h,fun h=>absurd rfl h⟩
  ·rw[if_neg ha]at hg
   obtain⟨g1,g2,g3,g4⟩:=h.nd a g hg
   obtain⟨b1,b2⟩:=go a _ g2 (by intro h;cases h)
   refine⟨by rw[b1];exact g1,b2,fun hy=>?_,fun hy=>?_⟩
   ·obtain⟨c1,c2⟩:=go _ _ (g3 hy).2 (by intro h;cases h)
    exact⟨by rw[c1];exact(g3 hy).1,c2⟩
   ·obtain⟨c1,c2⟩:=go _ _ (g4 hy).2 (by intro h;cases h)
    exact⟨by rw[c1];exact(g4 hy).1,c2⟩
 ·obtain⟨a1,a2,g,a3⟩:=h.op x hx
  obtain⟨b1,b2⟩:=go _ _ a2 (by intro h;cases h)
  refine⟨by rw[b1];exact a1,b2,?_⟩
  simp only[Gs.new]
  split
  ·exact⟨_,rfl⟩
  ·exact⟨g,a3⟩
 ·obtain⟨b1,b2,b3⟩:=h.bd
  refine⟨b1,b2,fun a g hg=>?_⟩
  simp only[Gs.new]at hg
  split at hg
  ·cases hg;exact⟨Nat.zero_le _,Nat.zero_le _⟩
  ·exact b3 a g hg
theorem GRep.push {σ σ2:St} {G:Gs} {κ:Nat→Tag} {c i hN:Nat} {x:On} (h:GRep σ G κ c) (hx:∃g,G.nd x.a=some g) (hn:σ.next<σ2.next) (ho:σ.next=x.o) (hi:(G.sa=false∧x.o<i∧i<σ2.next)∨(G.sa=true∧i=G.sr))
  (f1:σ2.obj 1=some (.var [.sl i hN 0 (G.stk.length+1)])) (fr:σ2.obj i=some (.row hN 143 1 ((G.stk.reverse++[x]).map orf))) (fx:σ2.obj x.o=some (.var [.ref x.a 0,vb x.els]))
  (fo:∀j,κ j≠.non→j≠1→j≠i→σ2.obj j=σ.obj j):
  ∃κ',GRep σ2 {G with stk:=x::G.stk,sa:=true,sr:=i,sh:=hN} κ' (c+1):=by
 obtain⟨hb1,hb2,hb3⟩:=h.bd
 have hold:∀j,κ j≠.non→κ j≠.sr→j≠i:=by
  intro j h1 h2 e
  subst e
  rcases hi with⟨_,h3,_⟩|⟨h3,h4⟩
  ·have:=h.lt j h1;omega
  ·subst h4;exact h2 (h.sr h3).2
 have hio:i≠x.o:=by
  rcases hi with⟨_,h3,_⟩|⟨h3,h4⟩
  ·omega
  ·have:=h.lt i (Tag.tn (t:=.sr) (by rw[h4];exact(h.sr h3).2) (by intro h;cases h));omega
 refine⟨fun j=>if j=i then .sr else if j=x.o then .op x.o else κ j,?_⟩
 have go:∀j t,κ j=t→t≠.non→t≠.sr→t≠.sc→σ2.obj j=σ.obj j∧(if j=i then Tag.sr else if j=x.o then Tag.op x.o else κ j)=t:=by
  intro j t h1 h2 h3 h4
  have hj:=Tag.tn h1 h2
  have a1:=hold j hj (by rw[h1];exact h3)
  have a2:j≠x.o:=fun e=>by have:=h.lt j hj;omega
  have a3:j≠1:=fun e=>by subst e;rw[h.k1]at h1;exact h4 h1.symm
  exact⟨fo j hj a3 a1,by rw[if_neg a1,if_neg a2];exact h1⟩
 have t1:=Tag.tn h.k1 (by intro h;cases h)
 have a11:=hold 1 t1 (by rw[h.k1];intro h;cases h)
 refine⟨fun j hj=>?_,(go 0 _ h.k0 (by intro h;cases h) (by intro h;cases h) (by intro h;cases h)).2,?_,?_,?_,(fun h=>by cases h),fun hr=>?_,fun _=>⟨⟨_,fr,by rw[List.take_of_length_le (by simp)];simp,by simp⟩,if_pos rfl⟩,fun a g hg=>?_,fun y hy=>?_,?_⟩
 ·by_cases h1:j=i
  ·subst h1
   rcases hi with⟨_,_,h3⟩|⟨h3,h4⟩
   ·exact h3
   ·have:=h.lt j (Tag.tn (t:=.sr) (by rw[h4];exact(h.sr h3).2) (by intro h;cases h));omega
  ·by_cases h2:j=x.o
   ·omega
   ·have:=h.lt j (by simpa[h1,h2]using hj);omega
 ·have:=h.lt 1 t1
  show(if(1:Nat)=i then Tag.sr else if 1=x.o then Tag.op x.o else κ 1)=.sc
  rw[if_neg a11,if_neg (by omega)];exact h.k1
 ·rw[(go 0 _ h.k0 (by intro h;cases h) (by intro h;cases h) (by intro h;cases h)).1];exact h.r0
 ·rw[f1];rfl
 ·obtain⟨a,b⟩:=go _ _ (h.rr hr).2 (by intro h;cases h) (by intro h;cases h) (by intro h;cases h)
  exact⟨by rw[a];exact(h.rr hr).1,b⟩
 ·obtain⟨g1,g2,g3,g4⟩:=h.nd a g hg
  obtain⟨b1,b2⟩:=go a _ g2 (by intro h;cases h) (by intro h;cases h) (by intro h;cases h)
  refine⟨by rw[b1];exact g1,b2,fun hy=>?_,fun hy=>?_⟩
  ·obtain⟨c1,c2⟩:=go _ _ (g3 hy).2 (by intro h;cases h) (by intro h;cases h) (by intro h;cases h)
   exact⟨by rw[c1];exact(g3 hy).1,c2⟩
  ·obtain⟨c1,c2⟩:=go _ _ (g4 hy).2 (by intro h;cases h) (by intro h;cases h) (by intro h;cases h)
   exact⟨by rw[c1];exact(g4 hy).1,c2⟩
 ·rcases List.mem_cons.1 hy with rfl|hy
  ·exact⟨fx,by rw[if_neg (Ne.symm hio),if_pos rfl],hx⟩
  ·obtain⟨a1,a2,a3⟩:=h.op y hy
   obtain⟨b1,b2⟩:=go _ _ a2 (by intro h;cases h) (by intro h;cases h) (by intro h;cases h)
   exact⟨by rw[b1];exact a1,b2,a3⟩
 ·exact⟨by simp only;omega,by simp only[List.length_cons];omega,fun a g hg=>by have:=hb3 a g hg;omega⟩
theorem GRep.setels {σ:St} {G:Gs} {κ:Nat→Tag} {c:Nat} {x:On} {st:List On} (h:GRep σ G κ c) (hst:G.stk=x::st) (hd:∀y∈st,y.o≠x.o):GRep (σ.set x.o (.var [.ref x.a 0,vb true])) {G with stk:={x with els:=true}::st} κ c:=by
 obtain⟨hb1,hb2,hb3⟩:=h.bd
 obtain⟨x1,x2,x3⟩:=h.op x (by rw[hst];exact List.mem_cons_self)
 have go:∀j t,κ j=t→t≠.op x.o→(σ.set x.o (.var [.ref x.a 0,vb true])).obj j=σ.obj j:=by
  intro j t h1 h2
  rw[St.obj_set,if_neg (fun e=>by subst e;rw[x2]at h1;exact h2 h1.symm)]
 refine⟨h.lt,h.k0,h.k1,?_,?_,(fun hs=>by rw[h.sa hs]at hst;cases hst),fun hr=>⟨?_,(h.rr hr).2⟩,fun hs=>?_,fun a g hg=>?_,fun y hy=>?_,?_⟩
 ·rw[go 0 _ h.k0 (by intro h;cases h)];exact h.r0
 ·rw[go 1 _ h.k1 (by intro h;cases h),h.r1,hst];rfl
 ·rw[go _ _ (h.rr hr).2 (by intro h;cases h)];exact(h.rr hr).1
 ·obtain⟨⟨rows,a1,a3,a4⟩,a2⟩:=h.sr hs
  rw[hst]at a3 a4
  exact⟨⟨rows,by rw[go _ _ a2 (by intro h;cases h)];exact a1,by simpa[orf]using a3,a4⟩,a2⟩
 ·obtain⟨g1,g2,g3,g4⟩:=h.nd a g hg
  exact⟨by rw[go _ _ g2 (by intro h;cases h)];exact g1,g2,fun hy=>⟨by rw[go _ _ (g3 hy).2 (by intro h;cases h)];exact(g3 hy).1,(g3 hy).2⟩,fun hy=>⟨by rw[go _ _ (g4 hy).2 (by intro h;cases h)];exact(g4 hy).1,(g4 hy).2⟩⟩
 ·rcases List.mem_cons.1 hy with rfl|hy
  ·exact⟨by rw[St.obj_set,if_pos rfl],x2,x3⟩
  ·obtain⟨a1,a2,a3⟩:=h.op y (by rw[hst];exact List.mem_cons_of_mem _ hy)
   exact⟨by rw[go _ _ a2 (fun he=>hd y hy (Tag.op.inj he))];exact a1,a2,a3⟩
 ·refine⟨hb1,?_,hb3⟩
  rw[hst]at hb2;exact hb2
theorem GRep.pop {σ:St} {G:Gs} {κ:Nat→Tag} {c:Nat} {x:On} {st:List On} (h:GRep σ G κ c) (hst:G.stk=x::st) (hsa:G.sa=true):GRep (σ.set 1 (.var [.sl G.sr G.sh 0 st.length])) {G with stk:=st} κ c:=by
 obtain⟨hb1,hb2,hb3⟩:=h.bd
 have go:∀j t,κ j=t→t≠.sc→(σ.set 1 (.var [.sl G.sr G.sh 0 st.length])).obj j=σ.obj j:=by
  intro j t h1 h2
  rw[St.obj_set,if_neg (fun e=>by subst e;rw[h.k1]at h1;exact h2 h1.symm)]
 refine⟨h.lt,h.k0,h.k1,?_,?_,(fun hs=>by simp only[hsa]at hs;cases hs),fun hr=>⟨?_,(h.rr hr).2⟩,fun hs=>?_,fun a g hg=>?_,fun y hy=>?_,?_⟩
 ·rw[go 0 _ h.k0 (by intro h;cases h)];exact h.r0
 ·rw[St.obj_set,if_pos rfl];simp only[slcB,hsa,if_true]
 ·rw[go _ _ (h.rr hr).2 (by intro h;cases h)];exact(h.rr hr).1
 ·obtain⟨⟨rows,a1,a3,a4⟩,a2⟩:=h.sr hs
  rw[hst]at a3 a4
  simp only[List.length_cons]at a3 a4
  refine⟨⟨rows,by rw[go _ _ a2 (by intro h;cases h)];exact a1,?_,by simp only;omega⟩,a2⟩
  have h1:=congrArg (List.take st.length) a3
  rw[List.take_take,Nat.min_eq_left (by omega)]at h1
  rw[h1]
  simp
 ·obtain⟨g1,g2,g3,g4⟩:=h.nd a g hg
  exact⟨by rw[go _ _ g2 (by intro h;cases h)];exact g1,g2,fun hy=>⟨by rw[go _ _ (g3 hy).2 (by intro h;cases h)];exact(g3 hy).1,(g3 hy).2⟩,fun hy=>⟨by rw[go _ _ (g4 hy).2 (by intro h;cases h)];exact(g4 hy).1,(g4 hy).2⟩⟩
 ·obtain⟨a1,a2,a3⟩:=h.op y (by rw[hst];exact List.mem_cons_of_mem _ hy)
  exact⟨by rw[go _ _ a2 (by intro h;cases h)];exact a1,a2,a3⟩
 ·refine⟨hb1,?_,hb3⟩
  rw[hst]at hb2
  simp only[List.length_cons]at hb2 ⊢
  omega
def opS (st:List On) (a:Nat):Bool:=st.any fun x=>x.a == a
theorem J34 {nd nd':Nat→Option Gn} {op op':Nat→Bool} (hc:∀b g,nd b=some g→op b=false→nd' b=some g∧op' b=false):∀(fs:List Fr) (st:List On) (R:List Br) (cs:List Nat) (p:Nat),(∀y∈st,nd' y.a=nd y.a∧op' y.a=true)→
  frP nd op fs st R cs p→frP nd' op' fs st R cs p
 |[],[],R,cs,p,_,h=>by
  obtain⟨l,h1,h2⟩:=h
  exact⟨l,h1,JU hc _ _ h2⟩
 |f::fs,x::st,R,cs,p,ho,h=>by
  obtain⟨⟨l,m,⟨g,g1,g2,g3,g4,g5,g6⟩,h2,h3⟩,h4⟩:=h
  obtain⟨o1,o2⟩:=ho x List.mem_cons_self
  exact⟨⟨l,m,⟨g,by rw[o1];exact g1,o2,g3,g4,g5,g6⟩,JU hc _ _ h2,JU hc _ _ h3⟩,J34 hc fs st R cs x.a (fun y hy=>ho y (List.mem_cons_of_mem _ hy)) h4⟩
 |[],_::_,_,_,_,_,h=>h.elim
 |_::_,[],_,_,_,_,h=>h.elim
theorem JbE {nd nd':Nat→Option Gn} {op op':Nat→Bool} (hc:∀b g,nd b=some g→op b=false→nd' b=some g∧op' b=false) {t:Br} {M:Nat} (ht:trB nd' op' t M):∀{fs:List Fr} {st:List On} {R:List Br} {cs cs':List Nat},
  frS nd op fs st R cs→(match st with|[]=>cs'=cs++[M]|x::st'=>cs'=cs∧(∀g,nd x.a=some g→∃g',nd' x.a=some g'∧g'.s=g.s∧(if x.els then g'.yes=g.yes∧g'.no=g.no++[M]else g'.yes=g.yes++[M]∧g'.no=g.no))∧op' x.a=true∧∀y∈st',nd' y.a=nd y.a∧op' y.a=true)→
  frS nd' op' (putF t fs R).1 st (putF t fs R).2 cs'
 |[],[],R,cs,cs',h,hs=>by
  simp only at hs
  subst hs
  exact J13 ht _ _ (JU hc _ _ h)
 |f::fs,x::st,R,cs,cs',h,hs=>by
  obtain⟨⟨l,m,⟨g,g1,g2,g3,g4,g5,g6⟩,h2,h3⟩,h4⟩:=h
  simp only at hs
  obtain⟨rfl,e1,e2,e3⟩:=hs
  obtain⟨g',k1,k2,k3⟩:=e1 g g1
  have h2':=JU hc _ _ h2
  have h3':=JU hc _ _ h3
  have h4':=J34 hc fs st R _ x.a e3 h4
  simp only[putF]
  cases hf:f.els with
  |true=>
   rw[g4,hf]at k3
   simp only[if_true]at k3 ⊢
   exact⟨⟨l,m++[M],⟨g',k1,e2,by rw[k2,g3],by rw[g4,hf],by rw[k3.1,g5],by rw[k3.2,g6]⟩,h2',J13 ht _ _ h3'⟩,h4'⟩
  |false=>
   rw[g4,hf]at k3
   simp only[Bool.false_eq_true,if_false]at k3 ⊢
   exact⟨⟨l++[M],m,⟨g',k1,e2,by rw[k2,g3],by rw[g4,hf],by rw[k3.1,g5],by rw[k3.2,g6]⟩,J13 ht _ _ h2',h3'⟩,h4'⟩
 |[],_::_,_,_,_,h,_=>h.elim
 |_::_,[],_,_,_,h,_=>h.elim
theorem Jag {nd nd':Nat→Option Gn} {op op':Nat→Bool} (hc:∀b g,nd b=some g→op b=false→nd' b=some g∧op' b=false) {M:Nat}:∀{fs:List Fr} {st:List On} {R:List Br} {cs cs':List Nat},
  frS nd op fs st R cs→(match st with|[]=>cs'=cs++[M]|x::st'=>cs'=cs∧(∀g,nd x.a=some g→∃g',nd' x.a=some g'∧g'.s=g.s∧(if x.els then g'.yes=g.yes∧g'.no=g.no++[M]else g'.yes=g.yes++[M]∧g'.no=g.no))∧op' x.a=true∧∀y∈st',nd' y.a=nd y.a∧op' y.a=true)→
  frP nd' op' fs st R cs' M
 |[],[],R,cs,cs',h,hs=>by
  simp only at hs
  exact⟨cs,hs,JU hc _ _ h⟩
 |f::fs,x::st,R,cs,cs',h,hs=>by
  obtain⟨⟨l,m,⟨g,g1,g2,g3,g4,g5,g6⟩,h2,h3⟩,h4⟩:=h
  simp only at hs
  obtain⟨rfl,e1,e2,e3⟩:=hs
  obtain⟨g',k1,k2,k3⟩:=e1 g g1
  refine⟨⟨l,m,⟨g',k1,e2,by rw[k2,g3],g4,?_,?_⟩,JU hc _ _ h2,JU hc _ _ h3⟩,J34 hc fs st R _ x.a e3 h4⟩
  ·cases hx:x.els<;>(rw[hx]at k3;simp only[if_true,Bool.false_eq_true,if_false]at k3 ⊢;rw[k3.1,g5])
  ·cases hx:x.els<;>(rw[hx]at k3;simp only[if_true,Bool.false_eq_true,if_false]at k3 ⊢;rw[k3.2,g6])
 |[],_::_,_,_,_,h,_=>h.elim
 |_::_,[],_,_,_,h,_=>h.elim
end Go.Pm
/- Part of the proof: Gr4. -/
namespace Go.Pm
attribute [local irreducible] AR Ok inBlock andThen endQ aoper
set_option maxHeartbeats 1000000
open Go.Proofs
def FzL (σ:St):List AV→List D→Prop
 |[],[]=>True
 |x::xs,d::ds=>Fz σ x d∧FzL σ xs ds
 |_,_=>False
theorem FzL.get {σ:St}:∀{cs:List AV} {ds:List D},FzL σ cs ds→ds.length=cs.length∧∀j (h1:j<cs.length) (h2:j<ds.length),Fz σ cs[j] ds[j]
 |[],[],_=>⟨rfl,fun j h=>by simp at h⟩
 |x::xs,d::ds,h=>by
  obtain⟨h1,h2⟩:=FzL.get h.2
  refine⟨by simp[h1],fun j a b=>?_⟩
  cases j with
  |zero=>exact h.1
  |succ j=>exact h2 j (by simpa using a) (by simpa using b)
 |[],_::_,h=>h.elim
 |_::_,[],h=>h.elim
theorem JbX {σ:St}:∀(ds:List D) {cs:List AV} {es:List D},FzL σ cs es→FzL σ (ds.map .d++cs) (ds++es)
 |[],_,_,h=>h
 |d::ds,_,_,h=>⟨.d _,JbX ds h⟩
theorem J6H {σ:St} {i hN E:Nat} {l:List Nat} {ts:List Br} (hl:ts.length=l.length) (ho:l≠[]→σ.obj i=some (.row hN E 1 (l.map prf))) (h:∀k (h1:k<l.length) (h2:k<ts.length),Fz σ (.ref l[k] 0) (.ip (eBr ts[k]) 0)):Fz σ (slcN i hN l.length) (.im (ts.map eBrP)):=by
 by_cases hn:l=[]
 ·subst hn
  have:ts=[]:=List.eq_nil_of_length_eq_zero hl
  subst this
  exact .nil
 ·rw[J1v (fun e=>hn (List.eq_nil_of_length_eq_zero e))]
  refine .sl (drows:=ts.map eBrP) (ho hn) (by simp[hl]) (fun k h1 h2=>by simp[eBrP,prf]) (fun k h1 h2 j h3 h4=>?_) (by simp) (by rw[Nat.sub_zero,List.drop_zero,List.take_of_length_le (by simp[hl])])
  have:j=0:=by simp[prf]at h3;omega
  subst this
  have:=h k (by simpa using h1) (by simpa using h2)
  simpa[prf,eBrP]using this
mutual
theorem JbJ {σ:St} {G:Gs} {κ:Nat→Tag} {c:Nat} {op:Nat→Bool} (h:GRep σ G κ c):∀(t:Br) (a:Nat),trB G.nd op t a→Fz σ (.ref a 0) (.ip (eBr t) 0)
 |.nd s ys ns,a,ht=>by
  simp only[trB]at ht
  obtain⟨g,g1,g2,g3,g4,g5⟩:=ht
  obtain⟨b1,b2,b3,b4⟩:=h.nd a g g1
  have hy:=J6H (J4f ys g.yes g4) (fun hne=>(b3 hne).1) (J2F h ys g.yes g4)
  have hn:=J6H (J4f ns g.no g5) (fun hne=>(b4 hne).1) (J2F h ns g.no g5)
  have key:FzL σ (ncell g) (eBr (.nd s ys ns)):=by
   have:eBr (.nd s ys ns)=eSm s++[.im (ys.map eBrP),.im (ns.map eBrP)]:=by simp only[eBr,J1S];rfl
   rw[this,←g3]
   exact JbX (eSm g.s) ⟨hy,hn,trivial⟩
  exact .ref b1 key.get.1 key.get.2
theorem J2F {σ:St} {G:Gs} {κ:Nat→Tag} {c:Nat} {op:Nat→Bool} (h:GRep σ G κ c):∀(ts:List Br) (l:List Nat),trL G.nd op ts l→∀k (h1:k<l.length) (h2:k<ts.length),Fz σ (.ref l[k] 0) (.ip (eBr ts[k]) 0)
 |[],_,_,k,_,h2=>by simp at h2
 |t::ts,[],ht,k,_,_=>by simp[trL]at ht
 |t::ts,a::l,ht,0,_,_=>by
  simp only[trL]at ht
  exact JbJ h t a ht.1
 |t::ts,a::l,ht,k+1,h1,h2=>by
  simp only[trL]at ht
  exact J2F h ts l ht.2 k (by simpa using h1) (by simpa using h2)
end
theorem fzt2 {X:Cfg} {nt:Nat} {Q:Exit→Env→St→Prop} {env:Env} {σ:St} {c:Code} (s t:Nat) {x y:AV} (h1:AFz σ (env s) x) (h2:AFz σ (env t) y) (h:Ok X nt c Q (envL [(s,x),(t,y)]) ⟨fun _=>none,σ.next⟩):Ok X nt c Q env σ:=by
 refine JC (J6l fun t'=>?_) h
 simp only[envL]
 by_cases hs:t'=s
 ·subst hs;rw[if_pos rfl];exact h1
 ·rw[if_neg hs]
  by_cases ht:t'=t
  ·subst ht;rw[if_pos rfl];exact h2
  ·rw[if_neg ht];exact .any _
theorem fzt2n {X:Cfg} {nt:Nat} {Q:Exit→Env→St→Prop} {env:Env} {σ:St} {c:Code} (s t:Nat) (h:Ok X nt c Q (envL [(s,.any),(t,vb false)]) ⟨fun _=>none,σ.next⟩) (h0:env s=.d (.s (.slice none 0 0)):=by exact rfl) (h1:env t=vb false:=by exact rfl):Ok X nt c Q env σ:=
 fzt2 s t (.any _) (.data (by rw[h1];exact .d _)) h
def growR (l:List Sm):AV:=match growI l with|some R=>.tup [.d (.im (R.map eBrP)),vb true]|none=>.tup [.any,vb false]
structure Lp where
 k:Nat
 G:Gs
 FS:List Fr
 R:List Br
def LpI (l:List Sm) (x:Lp) (σ:St):Prop:=x.k≤l.length∧(∃κ,GRep σ x.G κ (2*x.k))∧frS x.G.nd (opS x.G.stk) x.FS x.G.stk x.R x.G.root∧(x.G.stk.map (·.a)).Nodup∧(x.G.stk.map (·.o)).Nodup∧growGo (l.drop x.k) x.FS x.R=growI l
section
variable {X:Cfg} {nt:Nat} {ops:Array Oper} {T:Nat→Prop} {es:List Nat} {n:Nat} {rest:List Oper} {Q:Exit→Env→St→Prop} {env:Env} {σ σ':St} {dst:Option Tmp} {op:Op} {ty:TypeId} {pos:String} {after:Array Edge} {r:AV}
theorem Wm {x:Operand} (k:ADE X nt ops T es Q (n+1) rest (put env dst (aev X env x)) σ) (hd:dst.all (·<nt)=true:=by exact rfl) (hne:es.contains n=false:=by exact rfl):ADE X nt ops T es Q n (⟨dst,.assign x,ty,pos,after,none⟩::rest) env σ:=
 J1X (o:=⟨dst,.assign x,ty,pos,after,none⟩) ⟨hd,fun σ' _=>by simp only[aoper,aop];exact⟨trivial,trivial⟩⟩ k hne
theorem Wlen {b:Bool} {i h m:Nat} {x:Operand} {t el:Nat} {ti:TI} {ars:Array Operand} {ts:Array TypeId} (hn:b=false→m=0) (k:ADE X nt ops T es Q (n+1) rest (put env dst (vi m)) σ) (h1:ars.toList=[x]:=by exact rfl) (h2:ts.toList=[t]:=by exact rfl) (hx:aev X env x=slcB b i h m:=by exact rfl) (ht:X.T t=some ti:=by exact rfl) (hk':ti.kind=.slice el:=by exact rfl)
  (hd:dst.all (·<nt)=true:=by exact rfl) (hne:es.contains n=false:=by exact rfl):ADE X nt ops T es Q n (⟨dst,.call ⟨.builtin .len,ars,ts⟩,ty,pos,after,none⟩::rest) env σ:=
 J1X (o:=⟨dst,.call ⟨.builtin .len,ars,ts⟩,ty,pos,after,none⟩) ⟨hd,fun σ' _=>Yx2 hn ⟨rfl,rfl⟩ h1 h2 hx ht hk'⟩ k hne
end
theorem GRep.temp {σ:St} {G:Gs} {κ:Nat→Tag} {c:Nat} (h:GRep σ G κ c) (o o':AO):GRep ((σ.alloc o).set σ.next o') G κ c:=by
 refine h.junk (Nat.le_refl _) (by simp only[St.next_set,St.next_alloc];omega) fun j hj=>?_
 have:=h.lt j hj
 rw[St.obj_set,if_neg (by omega),St.obj_alloc,if_neg (by omega)]
theorem J7u {σ:St} {G:Gs} {κ:Nat→Tag} {c M:Nat} (h:GRep σ G κ c) (hM:σ.next≤M):G.nd M=none∧opS G.stk M=false:=by
 have h1:G.nd M=none:=by
  cases hq:G.nd M with
  |none=>rfl
  |some g=>
   have h2:=(h.nd M g hq).2.1
   have:=h.lt M (Tag.tn h2 (by intro h;cases h))
   omega
 refine⟨h1,?_⟩
 cases hq:opS G.stk M with
 |false=>rfl
 |true=>
  obtain⟨x,hx,hxa⟩:=List.any_eq_true.1 hq
  obtain⟨_,_,g,hg⟩:=h.op x hx
  have:x.a=M:=by simpa using hxa
  rw[this,h1]at hg;cases hg
theorem J5X {σ:St} {G:Gs} {κ:Nat→Tag} {c M i hN:Nat} {s:Sm} (h:GRep σ G κ c) (hM:σ.next≤M) (hd:(G.stk.map (·.a)).Nodup):
  ((G.new M s).put M i hN).stk=G.stk∧((G.new M s).put M i hN).sa=G.sa∧(∀b g,G.nd b=some g→opS G.stk b=false→((G.new M s).put M i hN).nd b=some g)∧((G.new M s).put M i hN).nd M=some ⟨s,0,0,0,0,[],[]⟩∧
  (match G.stk with
   |[]=>((G.new M s).put M i hN).root=G.root++[M]
   |x::st'=>((G.new M s).put M i hN).root=G.root∧(∀g,G.nd x.a=some g→∃g',((G.new M s).put M i hN).nd x.a=some g'∧g'.s=g.s∧(if x.els then g'.yes=g.yes∧g'.no=g.no++[M]else g'.yes=g.yes++[M]∧g'.no=g.no))∧∀y∈st',((G.new M s).put M i hN).nd y.a=G.nd y.a):=by
 obtain⟨hn,hop⟩:=J7u h hM
 rcases hst:G.stk with _|⟨x,st⟩
 ·have e:(G.new M s).put M i hN={G.new M s with root:=(G.new M s).root++[M],rr:=i,rh:=hN}:=by simp only[Gs.put,Gs.new,hst]
  rw[e]
  refine⟨hst,rfl,fun b g hb _=>?_,?_,rfl⟩
  ·have:b≠M:=fun e=>by rw[e,hn]at hb;cases hb
   simp only[Gs.new,this,if_false];exact hb
  ·simp only[Gs.new,if_true]
 ·have hxM:x.a≠M:=fun e=>by
   have:opS G.stk M=true:=by rw[hst,←e];simp[opS]
   rw[hop]at this;cases this
  have e:(G.new M s).put M i hN={G.new M s with nd:=fun a=>if a=x.a then((G.new M s).nd a).map fun g=>if x.els then {g with no:=g.no++[M],n:=i,hn:=hN}else {g with yes:=g.yes++[M],y:=i,hy:=hN}else(G.new M s).nd a}:=by
   simp only[Gs.put,show(G.new M s).stk=x::st from hst]
  rw[e]
  rw[hst]at hd
  simp only[List.map_cons,List.nodup_cons]at hd
  refine⟨hst,rfl,fun b g hb ho=>?_,?_,rfl,fun g hg=>?_,fun y hy=>?_⟩
  ·have h1:b≠M:=fun e=>by rw[e,hn]at hb;cases hb
   have h2:b≠x.a:=fun e=>by subst e;simp[opS]at ho
   simp only[h2,if_false,Gs.new,h1];exact hb
  ·simp only[Ne.symm hxM,if_false,Gs.new,if_true]
  ·cases hels:x.els with
   |true=>exact⟨{g with no:=g.no++[M],n:=i,hn:=hN},by simp only[if_true,Gs.new,hxM,if_false,hg,Option.map_some],rfl,by simp⟩
   |false=>exact⟨{g with yes:=g.yes++[M],y:=i,hy:=hN},by simp only[if_true,Gs.new,hxM,if_false,hg,Option.map_some,Bool.false_eq_true],rfl,by simp⟩
  ·have h2:y.a≠x.a:=fun e=>hd.1 (by rw[←e];exact List.mem_map.2 ⟨y,hy,rfl⟩)
   have h1:y.a≠M:=fun e=>by
    have:opS G.stk M=true:=by rw[hst,←e];simp only[opS,List.any_eq_true];exact⟨y,List.mem_cons_of_mem _ hy,by simp⟩
    rw[hop]at this;cases this
   simp only[h2,if_false,Gs.new,h1]
theorem J9v {nd:Nat→Option Gn} {op op':Nat→Bool} (hc:∀b g,nd b=some g→op b=false→nd b=some g∧op' b=false) {t:Br} {p:Nat} (ht:trB nd op' t p):∀{fs:List Fr} {st:List On} {R:List Br} {cs:List Nat},(∀y∈st,op' y.a=true)→
  frP nd op fs st R cs p→frS nd op' (putF t fs R).1 st (putF t fs R).2 cs
 |[],[],R,cs,_,h=>by
  obtain⟨l,rfl,h2⟩:=h
  exact J13 ht _ _ (JU hc _ _ h2)
 |f::fs,y::st,R,cs,ho,h=>by
  obtain⟨⟨l,m,⟨g,g1,g2,g3,g4,g5,g6⟩,h2,h3⟩,h4⟩:=h
  have h2':=JU hc _ _ h2
  have h3':=JU hc _ _ h3
  have h4':=J34 hc fs st R cs y.a (fun z hz=>⟨rfl,ho z (List.mem_cons_of_mem _ hz)⟩) h4
  have hoy:=ho y List.mem_cons_self
  simp only[putF]
  cases hf:f.els with
  |true=>
   rw[g4,hf]at g5 g6
   simp only[if_true]at g5 g6 ⊢
   exact⟨⟨l,m++[p],⟨g,g1,hoy,g3,by rw[g4,hf],g5,g6⟩,h2',J13 ht _ _ h3'⟩,h4'⟩
  |false=>
   rw[g4,hf]at g5 g6
   simp only[Bool.false_eq_true,if_false]at g5 g6 ⊢
   exact⟨⟨l++[p],m,⟨g,g1,hoy,g3,by rw[g4,hf],g5,g6⟩,J13 ht _ _ h2',h3'⟩,h4'⟩
 |[],_::_,_,_,_,h=>h.elim
 |_::_,[],_,_,_,h=>h.elim
def G0:Gs:=⟨fun _=>none,[],[],0,0,false,0,0⟩
set_option maxHeartbeats 8000000 in
theorem J8r (l:List Sm) (hl:l.length≤1048576):PFun X 41 [.d (.im (l.map eSm))] (growR l):=by
 refine Jn Tryz.func41 rfl (by decide) Tryz.ntmps41 Tryz.results41 (by simp) rfl (by unfold growR;split<;>rfl) ?_
 repeat' first|refine Z1 ?_|refine Z2 ?_|refine Z5 ?_|refine Yq ?_|refine Zd ?_|refine Zo ?_|refine J6 ?_|refine J5 ?_
 refine Jb7 (ι:=Lp) (fun x=>envL [(4,.ref 0 0),(5,.ref 1 0),(6,.fn 82 [.ref 1 0,.ref 0 0]),(11,.d (.im (l.map eSm))),(12,vi l.length),(13,vi x.k)]) (LpI l) (fun x=>l.length-x.k) ⟨0,G0,[],[]⟩ ?_ (J0o ⟨.refl _,.refl _,.refl _,.refl _,.refl _,.refl _,trivial⟩) ?_
 ·refine⟨Nat.zero_le _,⟨fun j=>if j=0 then .rc else if j=1 then .sc else .non,⟨fun i hi=>?_,rfl,rfl,rfl,rfl,fun _=>rfl,fun h=>absurd rfl h,fun h=>(by cases h),fun a g h=>(by cases h),fun x h=>(by cases h),⟨Nat.le_refl _,Nat.le_refl _,fun a g h=>(by cases h)⟩⟩⟩,trivial,List.nodup_nil,List.nodup_nil,rfl⟩
  show i<2
  by_cases h0:i=0
  ·omega
  ·by_cases h1:i=1
   ·omega
   ·exact absurd (by simp[h0,h1]) hi
 rintro⟨k,G,FS,R⟩ σ ⟨i1,⟨κ,hG⟩,i3,i4,i5,i6⟩
 simp only at i1 hG i3 i4 i5 i6
 dsimp only
 rcases hx:l[k]? with _|s
 ·have hle:=Jo hx
  have ek:decide ((k:Int)<(l.length:Int))=false:=J1 (by omega)
  rw[Jr hx]at i6
  have hlen0:G.sa=false→G.stk.length=0:=fun h=>by rw[hG.sa h];rfl
  repeat' first|refine Z1 ?_|refine Z2 ?_|refine Zo ?_|refine J6 ?_|refine Zq ?_|refine Jh ?_|refine J3 ?_|refine Ja ?_|refine Zv ?_
  refine Jv (fun j=>j=0∨j=1) [] Jp (by decide +kernel) ?_
  refine Wr hG.r0 (.inl rfl) ?_
  refine Wr hG.r1 (.inr rfl) ?_
  refine Wlen hlen0 ?_
  refine Wa ?_
  refine Wm ?_
  refine Wm ?_
  refine Wx ?_
  rcases hst:G.stk with _|⟨x,st⟩
  ·rcases FS with _|⟨f,fs⟩
   ·rw[hst]at i3
    have hR:growI l=some R:=by rw[←i6];rfl
    have hfz:=J6H (J4f R G.root i3) (fun hne=>(hG.rr hne).1) (J2F hG R G.root i3)
    refine fzt2 2 3 (x:=.d (.im (R.map eBrP))) (y:=vb true) (.data hfz) (.data (by rw[show((([]:List On).length:Nat):Int)=0 from rfl];exact .d _)) ?_
    repeat' first|refine ret2 ?_|refine Jb ?_
    show AEnd.ret _=AEnd.ret (growR l)
    unfold growR
    rw[hR]
   ·rw[hst]at i3;exact i3.elim
  ·rcases FS with _|⟨f,fs⟩
   ·rw[hst]at i3;exact i3.elim
   ·have hR:growI l=none:=by rw[←i6];rfl
    have e0:decide ((((x::st).length:Nat):Int)=0)=false:=J1 (by simp only[List.length_cons];omega)
    refine fzt2 2 3 (x:=.any) (y:=vb false) (.any _) (.data (by show Fz σ (vb (decide ((((x::st).length:Nat):Int)=0))) _;rw[e0];exact .d _)) ?_
    repeat' first|refine ret2 ?_|refine Jb ?_
    show AEnd.ret _=AEnd.ret (growR l)
    unfold growR
    rw[hR]
 obtain⟨hd,hlt⟩:=Ji hx
 have ek:decide ((k:Int)<(l.length:Int))=true:=J0 (by omega)
 rw[hd]at i6
 obtain⟨hb1,hb2,hb3⟩:=hG.bd
 have hk20:2*k≤2097152:=by omega
 have hG1:=hG.temp (.var [.d (.s (.int .i64 0)),.d (.s (.string .empty)),.d (.s (.int .i64 0)),.d (.s (.slice none 0 0)),.d (.s (.slice none 0 0)),.d (.s (.slice none 0 0))]) (.var ((eSm s).map .d))
 have hG2:=hG1.newnode (M:=σ.next+1) (s:=s) rfl
 have hop:∀y∈G.stk,opS G.stk y.a=true:=fun y hy=>List.any_eq_true.2 ⟨y,hy,by simp⟩
 obtain⟨hnM,hoM⟩:=J7u hG (show σ.next≤σ.next+1 by omega)
 by_cases h4:s.kind=4
 ·have d4:decide (s.kind=4)=true:=J0 h4
  simp only[growGo,h4,if_true]at i6
  repeat' first|refine Z1 ?_|refine Z2 ?_|refine Z5 ?_|refine Yu (i:=σ.next) ?_|refine Ze ?_|refine Zo ?_|refine J6 ?_|refine Zp ?_|refine J5 ?_|refine J8 ?_|refine J3 ?_
  refine Yt (i:=σ.next) (JH σ _) ?_
  repeat' first|refine Z1 ?_|refine Z2 ?_|refine Z5 ?_|refine Ys (JY _ _ _) ?_|refine Yv (i:=σ.next+1) (cs:=ncell ⟨s,0,0,0,0,[],[]⟩) ?_|refine Zo ?_|refine Zp ?_|refine J5 ?_
  refine J8A (Jak hG2 hk20 (σ.next+1)) (fun E σ' hE=>?_)
  obtain⟨rfl,i,hN,κ',hG3,hn3,hκ3⟩:=hE
  refine⟨_,rfl,?_⟩
  obtain⟨p1,p2,p3,p4,p5⟩:=J5X (s:=s) (M:=σ.next+1) (i:=i) (hN:=hN) hG (by omega) i4
  obtain⟨rows,hrows⟩:∃rows,((G.new (σ.next+1) s).put (σ.next+1) i hN).sa=true→σ'.obj ((G.new (σ.next+1) s).put (σ.next+1) i hN).sr=some (.row ((G.new (σ.next+1) s).put (σ.next+1) i hN).sh 143 1 rows)∧rows.take ((G.new (σ.next+1) s).put (σ.next+1) i hN).stk.length=((G.new (σ.next+1) s).put (σ.next+1) i hN).stk.reverse.map orf∧((G.new (σ.next+1) s).put (σ.next+1) i hN).stk.length≤rows.length:=by
   cases hq:((G.new (σ.next+1) s).put (σ.next+1) i hN).sa with
   |false=>exact⟨[],fun h=>by cases h⟩
   |true=>obtain⟨r,hr⟩:=(hG3.sr hq).1;exact⟨r,fun _=>hr⟩
  obtain⟨c1,c2,c3⟩:=hG3.bd
  have l0:=hG3.lt 0 (Tag.tn hG3.k0 (by intro h;cases h))
  have l1:=hG3.lt 1 (Tag.tn hG3.k1 (by intro h;cases h))
  repeat' first|refine Z2 ?_|refine Z5 ?_|refine Jf ?_
  refine Yr hG3.r1 ?_
  repeat' first|refine Z1 ?_|refine Z5 ?_|refine Yv (i:=σ'.next) (cs:=[.ref (σ.next+1) 0,vb false]) ?_|refine Yw (sz:=1) (rows:=[orf ⟨σ'.next,σ.next+1,false⟩]) ?_
  refine app2 (f:=orf) (l:=((G.new (σ.next+1) s).put (σ.next+1) i hN).stk.reverse) (y:=⟨σ'.next,σ.next+1,false⟩) (rows:=rows) (k:=σ'.next+1) (v:=σ'.next+1) (fun h=>by rw[hG3.sa h];rfl) (by rw[List.length_reverse]) (fun h=>⟨?_,(hrows h).2.1,(hrows h).2.2⟩) (JH _ _) (fun _=>rfl) (fun i' σ'' e1 e2 e3 e4=>?_)
  ·have:=hG3.lt _ (Tag.tn (hG3.sr h).2 (by intro h;cases h))
   rw[St.obj_alloc,if_neg (by simp only[St.next_alloc];omega),St.obj_alloc,if_neg (by omega)]
   exact(hrows h).1
  have hi1:1≠i':=by
   rw[e1]
   split
   ·rename_i hsa
    intro e
    have:=(hG3.sr hsa).2
    rw[←e,hG3.k1]at this;cases this
   ·simp only[St.next_alloc];omega
  have f1:σ''.obj 1=some (.var [slcB ((G.new (σ.next+1) s).put (σ.next+1) i hN).sa ((G.new (σ.next+1) s).put (σ.next+1) i hN).sr ((G.new (σ.next+1) s).put (σ.next+1) i hN).sh ((G.new (σ.next+1) s).put (σ.next+1) i hN).stk.length]):=by
   rw[e3 1 hi1,St.obj_alloc,if_neg (by simp only[St.next_alloc];omega),St.obj_alloc,if_neg (by omega)];exact hG3.r1
  have hio:σ'.next≠i':=by
   rw[e1]
   split
   ·rename_i hsa
    have:=hG3.lt _ (Tag.tn (hG3.sr hsa).2 (by intro h;cases h));omega
   ·simp only[St.next_alloc];omega
  repeat' first|refine Z1 ?_|refine Z2 ?_|refine Z3 ?_|refine Z5 ?_|refine Yt f1 ?_|refine Zf ?_|refine Jf ?_|refine J3 ?_|refine J4 ?_
  obtain⟨κ2,hG4⟩:=hG3.push (x:=⟨σ'.next,σ.next+1,false⟩) (i:=i') (hN:=σ'.next+2) (σ2:=σ''.set 1 (.var [.sl i' (σ'.next+2) 0 (((G.new (σ.next+1) s).put (σ.next+1) i hN).stk.length+1)])) ⟨_,p4⟩ (by simp only[St.next_set,e4,St.next_alloc];omega) rfl (by
   rw[e1]
   cases hq:((G.new (σ.next+1) s).put (σ.next+1) i hN).sa with
   |false=>left;simp only[Bool.false_eq_true,if_false,St.next_set,e4,St.next_alloc];exact⟨trivial,by omega,by omega⟩
   |true=>right;exact⟨rfl,rfl⟩) (JY _ _ _) (by rw[St.obj_set,if_neg (Ne.symm hi1)];exact e2) (by rw[St.obj_set,if_neg (by simp only;omega),e3 _ hio,St.obj_alloc,if_neg (by simp only[St.next_alloc];omega)];exact JH _ _) (fun j hj hj1 hji=>by
    have:=hG3.lt j hj
    rw[St.obj_set,if_neg hj1,e3 j hji,St.obj_alloc,if_neg (by simp only[St.next_alloc];omega),St.obj_alloc,if_neg (by omega)])
  refine⟨⟨k+1,{(G.new (σ.next+1) s).put (σ.next+1) i hN with stk:=⟨σ'.next,σ.next+1,false⟩::((G.new (σ.next+1) s).put (σ.next+1) i hN).stk,sa:=true,sr:=i',sh:=σ'.next+2},⟨s,false,[],[]⟩::FS,R⟩,⟨hlt,⟨κ2,hG4⟩,⟨⟨[],[],⟨_,p4,by simp[opS],rfl,rfl,rfl,rfl⟩,trivial,trivial⟩,?_⟩,?_,?_,i6⟩,by show l.length-(k+1)<l.length-k;omega,J0o ⟨.refl _,.refl _,.refl _,.refl _,.refl _,.refl _,trivial⟩⟩
  ·simp only[p1]
   refine Jag (op:=opS G.stk) (fun b g hb ho=>⟨p3 b g hb ho,?_⟩) i3 ?_
   ·have:b≠σ.next+1:=fun e=>by rw[e,hnM]at hb;cases hb
    simp only[opS,List.any_cons,Bool.or_eq_false_iff,beq_eq_false_iff_ne]at ho ⊢
    exact⟨Ne.symm this,ho⟩
   ·have hop2:∀y∈G.stk,opS (⟨σ'.next,σ.next+1,false⟩::G.stk) y.a=true:=fun y hy=>List.any_eq_true.2 ⟨y,List.mem_cons_of_mem _ hy,by simp⟩
    rcases hst:G.stk with _|⟨x,st⟩
    ·rw[hst]at p5;exact p5
    ·rw[hst]at p5 hop2
     exact⟨p5.1,p5.2.1,hop2 x List.mem_cons_self,fun y hy=>⟨p5.2.2 y hy,hop2 y (List.mem_cons_of_mem _ hy)⟩⟩
  ·simp only[p1,List.map_cons,List.nodup_cons]
   refine⟨fun hm=>?_,i4⟩
   obtain⟨y,hy,hya⟩:=List.mem_map.1 hm
   have:=hop y hy
   rw[hya,hoM]at this;cases this
  ·simp only[p1,List.map_cons,List.nodup_cons]
   refine⟨fun hm=>?_,i5⟩
   obtain⟨y,hy,hya⟩:=List.mem_map.1 hm
   have h1:=(hG3.op y (by rw[p1];exact hy)).2.1
   have:=hG3.lt _ (Tag.tn h1 (by intro h;cases h))
   omega
 by_cases h5:s.kind=5
 ·have d4:decide (s.kind=4)=false:=J1 h4
  have d5:decide (s.kind=5)=true:=J0 h5
  simp only[growGo]at i6
  rw[if_neg h4,if_pos h5]at i6
  rcases hst:G.stk with _|⟨x,st⟩
  ·have r1:=hG1.r1
   rw[hst]at r1 i3
   obtain rfl:FS=[]:=by cases FS with|nil=>rfl|cons f fs=>exact i3.elim
   have hR:growI l=none:=i6.symm
   have e0:decide (((([]:List On).length:Nat):Int)=0)=true:=rfl
   have e00:decide (((0:Nat):Int)=0)=true:=rfl
   repeat' first|refine Z1 ?_|refine Z2 ?_|refine Z5 ?_|refine Yu (i:=σ.next) ?_|refine Ze ?_|refine Zo ?_|refine J6 ?_|refine Zp ?_|refine J5 ?_|refine J8 ?_|refine J3 ?_
   refine Yt (i:=σ.next) (JH σ _) ?_
   repeat' first|refine Z1 ?_|refine Z2 ?_|refine Z5 ?_|refine Ys (JY _ _ _) ?_|refine Zo ?_|refine J6 ?_|refine Zp ?_|refine Zq ?_|refine J5 ?_
   refine Yr r1 ?_
   repeat' first|refine Z1 ?_|refine Z2 ?_|refine Z5 ?_|refine Z9 ?_|refine Yx2 (fun _=>rfl) ?_|refine fzt2n 2 3 ?_|refine ret2 ?_|refine Zo ?_|refine Zp ?_|refine Jb ?_|refine J7 ?_|refine J9 ?_
   show AEnd.ret _=AEnd.ret (growR l)
   unfold growR
   rw[hR]
  have r1:=hG1.r1
  have hsa:G.sa=true:=by
   cases hq:G.sa with
   |true=>rfl
   |false=>rw[hG.sa hq]at hst;cases hst
  rw[hst,List.length_cons,show slcB G.sa G.sr G.sh (st.length+1)=.sl G.sr G.sh 0 (st.length+1) by rw[hsa];rfl]at r1
  have hsl:st.length+1≤2*k:=by rw[hst]at hb2;exact hb2
  obtain⟨rows,hsr,hsr2,hsr3⟩:=(hG1.sr hsa).1
  rw[hst]at hsr2 hsr3
  obtain⟨hopo,hopt,g,hg⟩:=hG1.op x (by rw[hst];exact List.mem_cons_self)
  have hget:rows[st.length]? = some (orf x):=by
   have h1:(rows.take (x::st).length)[st.length]? = some (orf x):=by rw[hsr2];simp
   rwa [List.getElem?_take,if_pos (by simp)]at h1
  have e1:decide (((st.length+1-0:Nat):Int)=0)=false:=J1 (by omega)
  rcases FS with _|⟨f,fs⟩
  ·rw[hst]at i3;exact i3.elim
  rw[hst]at i3 i4 i5
  obtain⟨⟨ly,ln,⟨g',g1,g2,g3,g4,g5,g6⟩,t2,t3⟩,t4⟩:=i3
  simp only[List.map_cons,List.nodup_cons]at i4 i5
  cases hels:x.els with
  |true=>
   have hR:growI l=none:=by rw[←i6];simp only[g4]at hels;simp[hels]
   repeat' first|refine Z1 ?_|refine Z2 ?_|refine Z5 ?_|refine Yu (i:=σ.next) ?_|refine Ze ?_|refine Zo ?_|refine J6 ?_|refine Zp ?_|refine J5 ?_|refine J8 ?_|refine J3 ?_
   refine Yt (i:=σ.next) (JH σ _) ?_
   repeat' first|refine Z1 ?_|refine Z2 ?_|refine Z5 ?_|refine Z7 ?_|refine Ys (JY _ _ _) ?_|refine Ys r1 ?_|refine Yi1 (n:=((st.length+1-0:Nat):Int)-1) (hi:=st.length+1) st.length hsr (by omega) (by omega) ?_|refine Ye1 hsr hget ?_|refine Ju ?_|refine Ys hopo ?_|refine Zg ?_|refine Zi ?_|refine fzt2n 2 3 ?_|refine ret2 ?_|refine Zo ?_|refine J6 ?_|refine Zp ?_|refine Zq ?_|refine J5 ?_|refine Jb ?_|refine J7 ?_|refine J9 ?_
   show AEnd.ret _=AEnd.ret (growR l)
   unfold growR
   rw[hR]
  |false=>
   have hfe:f.els=false:=by rw[←g4];exact hels
   simp only[hfe,Bool.false_eq_true,if_false]at i6
   repeat' first|refine Z1 ?_|refine Z2 ?_|refine Z5 ?_|refine Yu (i:=σ.next) ?_|refine Ze ?_|refine Zo ?_|refine J6 ?_|refine Zp ?_|refine J5 ?_|refine J8 ?_|refine J3 ?_
   refine Yt (i:=σ.next) (JH σ _) ?_
   repeat' first|refine Z1 ?_|refine Z2 ?_|refine Z5 ?_|refine Z7 ?_|refine Ys (JY _ _ _) ?_|refine Ys r1 ?_|refine Yi1 (n:=((st.length+1-0:Nat):Int)-1) (hi:=st.length+1) st.length hsr (by omega) (by omega) ?_|refine Ye1 hsr hget ?_|refine Ju ?_|refine Ys hopo ?_|refine Zg ?_|refine Zi ?_|refine Zo ?_|refine J6 ?_|refine Jf ?_|refine Zp ?_|refine Zq ?_|refine J5 ?_|refine J8 ?_|refine J3 ?_
   refine Yt (i:=x.o) hopo ?_
   repeat' first|refine Z1 ?_|refine Z2 ?_|refine Z3 ?_|refine Z5 ?_|refine Zf ?_|refine Jf ?_|refine J3 ?_|refine J4 ?_
   refine⟨⟨k+1,{G with stk:={x with els:=true}::st},{f with els:=true}::fs,R⟩,⟨hlt,⟨κ,(hG1.setels hst (fun y hy e=>i5.1 (by rw[←e];exact List.mem_map.2 ⟨y,hy,rfl⟩))).junk (show 2*k≤2*(k+1) by omega) (Nat.le_refl _) (fun _ _=>rfl)⟩,?_,List.nodup_cons.2 i4,List.nodup_cons.2 i5,i6⟩,by show l.length-(k+1)<l.length-k;omega,J0o ⟨.refl _,.refl _,.refl _,.refl _,.refl _,.refl _,trivial⟩⟩
   exact⟨⟨ly,ln,⟨g',g1,g2,g3,rfl,g5,g6⟩,t2,t3⟩,t4⟩
 by_cases h6:s.kind=6
 ·have d4:decide (s.kind=4)=false:=J1 h4
  have d5:decide (s.kind=5)=false:=J1 h5
  have d6:decide (s.kind=6)=true:=J0 h6
  simp only[growGo]at i6
  rw[if_neg h4,if_neg h5,if_pos h6]at i6
  rcases hst:G.stk with _|⟨x,st⟩
  ·have r1:=hG1.r1
   rw[hst]at r1 i3
   obtain rfl:FS=[]:=by cases FS with|nil=>rfl|cons f fs=>exact i3.elim
   have hR:growI l=none:=i6.symm
   have e0:decide (((([]:List On).length:Nat):Int)=0)=true:=rfl
   have e00:decide (((0:Nat):Int)=0)=true:=rfl
   repeat' first|refine Z1 ?_|refine Z2 ?_|refine Z5 ?_|refine Yu (i:=σ.next) ?_|refine Ze ?_|refine Zo ?_|refine J6 ?_|refine Zp ?_|refine J5 ?_|refine J8 ?_|refine J3 ?_
   refine Yt (i:=σ.next) (JH σ _) ?_
   repeat' first|refine Z1 ?_|refine Z2 ?_|refine Z5 ?_|refine Ys (JY _ _ _) ?_|refine Zo ?_|refine J6 ?_|refine Zp ?_|refine Zq ?_|refine J5 ?_
   refine Yr r1 ?_
   repeat' first|refine Z1 ?_|refine Z2 ?_|refine Z5 ?_|refine Z9 ?_|refine Yx2 (fun _=>rfl) ?_|refine fzt2n 2 3 ?_|refine ret2 ?_|refine Zo ?_|refine Zp ?_|refine Jb ?_|refine J7 ?_|refine J9 ?_
   show AEnd.ret _=AEnd.ret (growR l)
   unfold growR
   rw[hR]
  have r1:=hG1.r1
  have hsa:G.sa=true:=by
   cases hq:G.sa with
   |true=>rfl
   |false=>rw[hG.sa hq]at hst;cases hst
  rw[hst,List.length_cons,show slcB G.sa G.sr G.sh (st.length+1)=.sl G.sr G.sh 0 (st.length+1) by rw[hsa];rfl]at r1
  have hsl:st.length+1≤2*k:=by rw[hst]at hb2;exact hb2
  obtain⟨rows,hsr,hsr2,hsr3⟩:=(hG1.sr hsa).1
  rw[hst]at hsr2 hsr3
  obtain⟨hopo,hopt,g,hg⟩:=hG1.op x (by rw[hst];exact List.mem_cons_self)
  have hget:rows[st.length]? = some (orf x):=by
   have h1:(rows.take (x::st).length)[st.length]? = some (orf x):=by rw[hsr2];simp
   rwa [List.getElem?_take,if_pos (by simp)]at h1
  have e1:decide (((st.length+1-0:Nat):Int)=0)=false:=J1 (by omega)
  rcases FS with _|⟨f,fs⟩
  ·rw[hst]at i3;exact i3.elim
  rw[hst]at i3 i4 i5
  obtain⟨⟨ly,ln,⟨g',g1,g2,g3,g4,g5,g6⟩,t2,t3⟩,t4⟩:=i3
  simp only[List.map_cons,List.nodup_cons]at i4 i5
  cases hels:x.els with
  |false=>
   have hnf:(!x.els)=true:=by rw[hels];rfl
   have hR:growI l=none:=by rw[←i6];simp only[g4]at hels;simp[hels]
   repeat' first|refine Z1 ?_|refine Z2 ?_|refine Z5 ?_|refine Yu (i:=σ.next) ?_|refine Ze ?_|refine Zo ?_|refine J6 ?_|refine Zp ?_|refine J5 ?_|refine J8 ?_|refine J3 ?_
   refine Yt (i:=σ.next) (JH σ _) ?_
   repeat' first|refine Z1 ?_|refine Z2 ?_|refine Z5 ?_|refine Z7 ?_|refine Ys (JY _ _ _) ?_|refine Ys r1 ?_|refine Yi1 (n:=((st.length+1-0:Nat):Int)-1) (hi:=st.length+1) st.length hsr (by omega) (by omega) ?_|refine Ye1 hsr hget ?_|refine Ju ?_|refine Ys hopo ?_|refine Zg ?_|refine Zi ?_|refine fzt2n 2 3 ?_|refine ret2 ?_|refine Zo ?_|refine J6 ?_|refine Zp ?_|refine Zq ?_|refine J5 ?_|refine Jb ?_|refine J7 ?_|refine J9 ?_
   show AEnd.ret _=AEnd.ret (growR l)
   unfold growR
   rw[hR]
  |true=>
   have hnf:(!x.els)=false:=by rw[hels];rfl
   have hfe:f.els=true:=by rw[←g4];exact hels
   simp only[hfe,if_true]at i6
   repeat' first|refine Z1 ?_|refine Z2 ?_|refine Z5 ?_|refine Yu (i:=σ.next) ?_|refine Ze ?_|refine Zo ?_|refine J6 ?_|refine Zp ?_|refine J5 ?_|refine J8 ?_|refine J3 ?_
   refine Yt (i:=σ.next) (JH σ _) ?_
   repeat' first|refine Z1 ?_|refine Z2 ?_|refine Z3 ?_|refine Z5 ?_|refine Z7 ?_|refine Ys (JY _ _ _) ?_|refine Ys r1 ?_|refine Yi1 (n:=((st.length+1-0:Nat):Int)-1) (hi:=st.length+1) st.length hsr (by omega) (by omega) ?_|refine Ye1 hsr hget ?_|refine Ju ?_|refine Ys hopo ?_|refine Yz (n:=((st.length+1-0:Nat):Int)-1) (hi:=st.length+1) st.length hsr (by omega) (by omega) ?_|refine Yt r1 ?_|refine Zf ?_|refine Zg ?_|refine Zi ?_|refine Zo ?_|refine J6 ?_|refine Jf ?_|refine Zp ?_|refine Zq ?_|refine J5 ?_|refine J8 ?_|refine J3 ?_|refine J4 ?_
   refine⟨⟨k+1,{G with stk:=st},(putF (.nd f.s f.yes f.no) fs R).1,(putF (.nd f.s f.yes f.no) fs R).2⟩,⟨hlt,⟨κ,(hG1.pop hst hsa).junk (show 2*k≤2*(k+1) by omega) (Nat.le_refl _) (fun _ _=>rfl)⟩,?_,i4.2,i5.2,i6⟩,by show l.length-(k+1)<l.length-k;omega,J0o ⟨.refl _,.refl _,.refl _,.refl _,.refl _,.refl _,trivial⟩⟩
   have hc:∀b g,G.nd b=some g→opS (x::st) b=false→G.nd b=some g∧opS st b=false:=fun b g hb ho=>⟨hb,by simp only[opS,List.any_cons,Bool.or_eq_false_iff]at ho ⊢;exact ho.2⟩
   have hxo:opS st x.a=false:=by
    cases hq:opS st x.a with
    |false=>rfl
    |true=>
     obtain⟨y,hy,hya⟩:=List.any_eq_true.1 hq
     exact absurd (List.mem_map.2 ⟨y,hy,by simpa using hya⟩) i4.1
   exact J9v hc (t:=.nd f.s f.yes f.no) ⟨g',g1,hxo,g3,by rw[g5];exact JU hc _ _ t2,by rw[g6];exact JU hc _ _ t3⟩ (fun y hy=>List.any_eq_true.2 ⟨y,hy,by simp⟩) t4
 have d4:decide (s.kind=4)=false:=J1 h4
 have d5:decide (s.kind=5)=false:=J1 h5
 have d6:decide (s.kind=6)=false:=J1 h6
 simp only[growGo,h4,h5,h6,if_false]at i6
 repeat' first|refine Z1 ?_|refine Z2 ?_|refine Z5 ?_|refine Yu (i:=σ.next) ?_|refine Ze ?_|refine Zo ?_|refine J6 ?_|refine Zp ?_|refine J5 ?_|refine J8 ?_|refine J3 ?_
 refine Yt (i:=σ.next) (JH σ _) ?_
 repeat' first|refine Z1 ?_|refine Z2 ?_|refine Z5 ?_|refine Ys (JY _ _ _) ?_|refine Yv (i:=σ.next+1) (cs:=ncell ⟨s,0,0,0,0,[],[]⟩) ?_|refine Zo ?_|refine Jf ?_|refine Zq ?_|refine J5 ?_
 refine J8A (Jak hG2 hk20 (σ.next+1)) (fun E σ' hE=>?_)
 obtain⟨rfl,i,hN,κ',hG3,hn3,hκ3⟩:=hE
 refine⟨_,rfl,?_⟩
 repeat' first|refine Z1 ?_|refine Z2 ?_|refine Z3 ?_|refine Z5 ?_|refine Zf ?_|refine Jf ?_|refine J3 ?_|refine J4 ?_
 obtain⟨p1,p2,p3,p4,p5⟩:=J5X (s:=s) (M:=σ.next+1) (i:=i) (hN:=hN) hG (by omega) i4
 refine⟨⟨k+1,(G.new (σ.next+1) s).put (σ.next+1) i hN,_,_⟩,⟨hlt,⟨κ',hG3.junk (show 2*k+1≤2*(k+1) by omega) (Nat.le_refl _) (fun _ _=>rfl)⟩,?_,by simp only[p1];exact i4,by simp only[p1];exact i5,i6⟩,by show l.length-(k+1)<l.length-k;omega,J0o ⟨.refl _,.refl _,.refl _,.refl _,.refl _,.refl _,trivial⟩⟩
 simp only[p1]
 refine JbE (fun b g hb ho=>⟨p3 b g hb ho,ho⟩) (t:=.nd s [] []) (M:=σ.next+1) ⟨_,p4,hoM,rfl,trivial,trivial⟩ i3 ?_
 rcases hst:G.stk with _|⟨x,st⟩
 ·rw[hst]at p5;exact p5
 ·rw[hst]at p5 hop
  exact⟨p5.1,p5.2.1,hop x List.mem_cons_self,fun y hy=>⟨p5.2.2 y hy,hop y (List.mem_cons_of_mem _ hy)⟩⟩
end Go.Pm
/- Part of the proof: Mc2. -/
namespace Go.Pm
attribute [local irreducible] AR Ok inBlock andThen endQ aoper
set_option maxHeartbeats 1000000
open Go.Proofs
def callC (B I:List Int) (p:Int):Int:=(B[((I[p.toNat]?).getD 0).toNat]?).getD 0
mutual
def costB (B I:List Int):Br→Int
 |.nd s y n=>1+(if s.kind=3 then callC B I s.pos else if s.kind=4 then max (costL B I y) (costL B I n)else 0)
def costL (B I:List Int):List Br→Int
 |[]=>0
 |b::l=>costB B I b+costL B I l
end
mutual
def brN:Br→Nat
 |.nd _ y n=>1+brsN y+brsN n
def brsN:List Br→Nat
 |[]=>0
 |b::l=>brN b+brsN l
end
def goodS (B I:List Int) (s:Sm):Prop:=s.kind=3→0≤s.pos∧∃g b,I[s.pos.toNat]? = some g∧0≤g∧B[g.toNat]? = some b
mutual
def goodB (B I:List Int):Br→Prop
 |.nd s y n=>goodS B I s∧goodL B I y∧goodL B I n
def goodL (B I:List Int):List Br→Prop
 |[]=>True
 |b::l=>goodB B I b∧goodL B I l
end
def bdB (B:List Int):Prop:=∀b∈B,0≤b∧b≤400000
theorem Ja2 {B I:List Int} (hB:bdB B) (p:Int):0≤callC B I p∧callC B I p≤400000:=by
 unfold callC
 cases hq:B[((I[p.toNat]?).getD 0).toNat]? with
 |none=>simp
 |some b=>exact hB b (List.mem_of_getElem? hq)
mutual
theorem J7C {B I:List Int} (hB:bdB B):∀b:Br,0≤costB B I b∧costB B I b≤400001*(brN b:Int)
 |.nd s y n=>by
  have h1:=J1y (I:=I) hB y
  have h2:=J1y (I:=I) hB n
  have h3:=Ja2 (I:=I) hB s.pos
  simp only[costB,brN]
  split
  ·omega
  ·split
   ·omega
   ·omega
theorem J1y {B I:List Int} (hB:bdB B):∀l:List Br,0≤costL B I l∧costL B I l≤400001*(brsN l:Int)
 |[]=>by simp[costL,brsN]
 |b::l=>by
  have h1:=J7C (I:=I) hB b
  have h2:=J1y (I:=I) hB l
  simp only[costL,brsN]
  omega
end
theorem J4q {b:Br}:∀{l:List Br},b∈l→brN b≤brsN l
 |c::l,h=>by
  simp only[brsN]
  rcases List.mem_cons.1 h with rfl|h
  ·omega
  ·have:=J4q h;omega
theorem J65 {B I:List Int} {b:Br}:∀{l:List Br},b∈l→goodL B I l→goodB B I b
 |c::l,h,hg=>by
  simp only[goodL]at hg
  rcases List.mem_cons.1 h with rfl|h
  ·exact hg.1
  ·exact J65 h hg.2
theorem J4x:∀l:List Br,l.length≤brsN l
 |[]=>Nat.le_refl _
 |b::l=>by
  have:=J4x l
  have:1≤brN b:=by cases b;simp only[brN];omega
  simp only[brsN,List.length_cons];omega
def coO (B:List Int) (z:Nat) (c:Cls):List (Option AO):=
 [none,none,none,some (.row 2 3 1 (im2 eNum B)),some (.var [.sl 0 1 0 z,.sl 3 2 0 B.length]),some (.var [.ref 4 0]),some (.var ((eCls c).map .d)),some (.var [.fn 118 [.ref 5 0,.ref 6 0,.ref 7 0]])]
theorem J3B {B:List Int} {z:Nat} {c:Cls} {j:Nat} {o:AO} (h:((coO B z c)[j]?).join=some o):j<8∧o.low 8:=by
 unfold coO at h
 match j,h with
 |0,h=>cases h
 |1,h=>cases h
 |2,h=>cases h
 |3,h=>cases h;exact⟨by omega,Je rfl,Jc _ _ _⟩
 |4,h=>cases h;exact⟨by omega,rfl⟩
 |5,h=>cases h;exact⟨by omega,rfl⟩
 |6,h=>cases h;exact⟨by omega,rfl⟩
 |7,h=>cases h;exact⟨by omega,rfl⟩
 |j+8,h=>simp at h
def coT (j:Nat):Prop:=j=3∨j=4∨j=5∨j=6∨j=7
theorem Jcz {B:List Int} {z:Nat} {c:Cls} {j:Nat} {o:AO} (h:((coO B z c)[j]?).join=some o):coT j:=by
 have h8:=(J3B h).1
 unfold coO at h
 match j,h with
 |0,h=>cases h
 |1,h=>cases h
 |2,h=>cases h
 |3,h=>exact .inl rfl
 |4,h=>exact .inr (.inl rfl)
 |5,h=>exact .inr (.inr (.inl rfl))
 |6,h=>exact .inr (.inr (.inr (.inl rfl)))
 |7,h=>exact .inr (.inr (.inr (.inr rfl)))
 |j+8,h=>omega
def coK (r:Int) (B:List Int) (z:Nat) (c:Cls) (E:AEnd) (σ':St):Prop:=E=.ret (vi r)∧∀j,j<(coO B z c).length→σ'.obj j=(stL (coO B z c)).obj j
theorem J8E {B:List Int} {z:Nat} {c:Cls} {l:List Br} {r:Int} (h:AFun X 118 [.d (.im (l.map eBrP)),.ref 5 0,.ref 6 0,.ref 7 0] (stL (coO B z c)) (coK r B z c)) (σ':St) (hT:∀j,coT j→σ'.obj j=(stL (coO B z c)).obj j):
  AFun X 118 [.d (.im (l.map eBrP)),.ref 5 0,.ref 6 0,.ref 7 0] σ' fun E σ2=>E=.ret (vi r)∧σ2=σ':=by
 refine AFun.wf h.1 fun hwf=>?_
 have h7:7<σ'.next:=hwf 7 _ (by rw[hT 7 (.inr (.inr (.inr (.inr rfl))))];rfl)
 exact AFun.ro (O:=coO B z c) h (fun j o ho=>(J3B ho).2) rfl rfl (fun j=>j) (fun i j _ _ _ _ e=>e) (fun j hj=>by have:j<8:=hj;omega) (fun j o ho=>by rw[hT j (Jcz ho),J7e];exact ho)
set_option maxHeartbeats 4000000 in
theorem Jcn (B:List Int) (z:Nat) (c:Cls) (hB:bdB B):∀(N:Nat) (l:List Br),brsN l=N→brsN l≤1048576→goodL B c.insts l→AFun X 118 [.d (.im (l.map eBrP)),.ref 5 0,.ref 6 0,.ref 7 0] (stL (coO B z c)) (coK (costL B c.insts l) B z c):=by
 intro N
 induction N using Nat.strongRecOn with
 |_ N ih=>
  intro l hN hle hg
  refine Jw Tryz.func118 rfl (by decide) Tryz.ntmps118 Tryz.results118 (by simp) ?_
  have hll:=J4x l
  unfold coO
  repeat' first|refine Z1 ?_|refine Z2 ?_|refine Z5 ?_|refine Zd ?_|refine Zo ?_|refine J6 ?_|refine J5 ?_
  refine Jq (ι:=Nat×Int) (fun x_=>envL [(0,.d (.im (l.map eBrP))),(1,.ref 5 0),(2,.ref 6 0),(3,.ref 7 0),(6,vi x_.2),(9,.d (.im (l.map eBrP))),(10,vi l.length),(11,vi x_.1)]) (fun x_=>stL [none,none,none,some (.row 2 3 1 (im2 eNum B)),some (.var [.sl 0 1 0 z,.sl 3 2 0 B.length]),some (.var [.ref 4 0]),some (.var ((eCls c).map .d)),some (.var [.fn 118 [.ref 5 0,.ref 6 0,.ref 7 0]])]) (fun x_=>x_.1≤l.length∧0≤x_.2∧x_.2+costL B c.insts (l.drop x_.1)=costL B c.insts l) (fun x_=>l.length-x_.1) (0,0) (⟨Nat.zero_le _,Int.le_refl _,by simp⟩) (Jj rfl ⟨.refl _,.refl _,.refl _,.refl _,.refl _,.refl _,.refl _,.refl _,trivial⟩ ⟨⟨rfl,_,rfl,rfl,rfl,rfl,rfl⟩,⟨rfl,_,rfl,rfl,fun _ _ _=>.refl _⟩,⟨rfl,_,rfl,rfl,fun _ _ _=>.refl _⟩,⟨rfl,_,rfl,rfl,fun _ _ _=>.refl _⟩,⟨rfl,_,rfl,rfl,fun _ _ _=>.refl _⟩,trivial⟩) (fun _=>Nat.le_refl 8) ?_
  rintro⟨k,n⟩ ⟨i1,i2,i3⟩
  simp only at i1 i2 i3
  rcases hx:l[k]? with _|b
  ·have hle:=Jo hx
   have ek:decide ((k:Int)<(l.length:Int))=false:=J1 (by omega)
   rw[Jr hx]at i3
   simp only[costL,Int.add_zero]at i3
   subst i3
   repeat' first|refine Z1 ?_|refine Z2 ?_|refine Zo ?_|refine J6 ?_|refine Zq ?_|refine Jh ?_|refine Jb ?_|refine J3 ?_|refine Ja ?_|refine Zv ?_|refine Zt ?_
   exact⟨rfl,fun j hj=>rfl⟩
  obtain⟨hd,hlt⟩:=Ji hx
  have ek:decide ((k:Int)<(l.length:Int))=true:=J0 (by omega)
  rw[hd]at i3
  simp only[costL]at i3
  have hmem:=List.mem_of_getElem? hx
  have hbn:=J4q hmem
  have hgb:=J65 hmem hg
  have b1:=J7C (I:=c.insts) hB b
  have b2:=J1y (I:=c.insts) hB (l.drop (k+1))
  have b3:=J1y (I:=c.insts) hB l
  obtain⟨s,y,m⟩:=b
  simp only[brN]at hbn
  simp only[goodB]at hgb
  obtain⟨g1,g2,g3⟩:=hgb
  simp only[costB]at i3 b1
  by_cases k3:s.kind=3
  ·have d3:decide (s.kind=3)=true:=J0 k3
   obtain⟨g4,g,v,g5,g6,g7⟩:=g1 k3
   rw[if_pos k3]at i3
   have hc:callC B c.insts s.pos=v:=by unfold callC;rw[g5];simp only[Option.getD_some];rw[g7];rfl
   rw[hc]at i3
   have hv:=hB v (List.mem_of_getElem? g7)
   obtain⟨p,hp⟩:∃p:Nat,s.pos=(p:Int):=⟨s.pos.toNat,by omega⟩
   obtain⟨q,hq⟩:∃q:Nat,g=(q:Int):=⟨g.toNat,by omega⟩
   rw[hp,Int.toNat_natCast]at g5
   rw[hq,Int.toNat_natCast]at g7
   have hql:q<B.length:=(List.getElem?_eq_some_iff.1 g7).1
   have hqr:(im2 eNum B)[q]? = some [vi v]:=J0b g7
   repeat' first|refine Z1 ?_|refine Z2 ?_|refine Z5 ?_|refine Ju ?_|refine Ze ?_|refine Zf ?_|refine Zo ?_|refine J6 ?_|refine Zp ?_|refine J5 ?_|refine J8 ?_|refine J3 ?_
   refine Jv coT [] Jp (by decide +kernel) ?_
   repeat' first|refine Wa ?_|refine Wn ?_|refine Wl (i:=5) rfl (.inr (.inr (.inl rfl))) ?_|refine Wr (i:=4) rfl (.inr (.inl rfl)) ?_|refine Wl (i:=6) rfl (.inr (.inr (.inr (.inl rfl)))) ?_
   refine Wq (fun σ' _=>Ze (k:=p) ⟨rfl,rfl⟩ rfl (congrArg vi hp) g5) ?_
   refine Wa ?_
   refine Wq (fun σ' h=>Yi1 (n:=g) q (h 3 (.inl rfl)) hq hql ⟨rfl,rfl⟩) ?_
   refine Wq (fun σ' h=>Ye1 (h 3 (.inl rfl)) hqr ⟨rfl,rfl⟩) ?_
   refine Wq (fun σ' h=>Zf ⟨rfl,rfl⟩) ?_
   refine Wa ?_
   refine Wy ?_
   repeat' first|refine Z1 ?_|refine Z2 ?_|refine Z5 ?_|refine Zf ?_|refine Jf ?_|refine J3 ?_|refine J4 ?_
   exact⟨(k+1,n+1+v),⟨hlt,by simp only;omega,by simp only;omega⟩,by(try simp only);omega,Jl (Nat.le_of_ble_eq_true rfl) ⟨⟨rfl,rfl⟩,⟨rfl,rfl⟩,⟨rfl,rfl⟩,⟨rfl,rfl⟩,⟨rfl,rfl⟩,⟨rfl,rfl⟩,⟨rfl,rfl⟩,⟨rfl,rfl⟩,trivial⟩ ⟨⟨rfl,Je rfl,Jc _ _ _⟩,⟨rfl,rfl⟩,⟨rfl,rfl⟩,⟨rfl,rfl⟩,⟨rfl,rfl⟩,trivial⟩⟩
  have d3:decide (s.kind=3)=false:=J1 k3
  rw[if_neg k3]at i3 b1
  by_cases k4:s.kind=4
  ·have d4:decide (s.kind=4)=true:=J0 k4
   rw[if_pos k4]at i3 b1
   have hy:=J8E (ih (brsN y) (by omega) y rfl (by omega) g2)
   have hm:=J8E (ih (brsN m) (by omega) m rfl (by omega) g3)
   rw[←J1S]at hy hm
   repeat' first|refine Z1 ?_|refine Z2 ?_|refine Z5 ?_|refine Ju ?_|refine Ze ?_|refine Zf ?_|refine Zo ?_|refine J6 ?_|refine Zp ?_|refine Zq ?_|refine J5 ?_|refine J8 ?_|refine J3 ?_
   refine Jv coT [] Jp (by decide +kernel) ?_
   repeat' first|refine Wa ?_|refine Wn ?_|refine Wl (i:=7) rfl (.inr (.inr (.inr (.inr rfl)))) ?_
   refine Wc hy ?_
   repeat' first|refine Wa ?_|refine Wn ?_|refine Wl (i:=7) rfl (.inr (.inr (.inr (.inr rfl)))) ?_
   refine Wc hm ?_
   refine Wq (fun σ' h=>Yi ⟨rfl,rfl⟩) ?_
   refine Wq (fun σ' h=>Zf ⟨rfl,rfl⟩) ?_
   refine Wa ?_
   refine Wy ?_
   repeat' first|refine Z1 ?_|refine Z2 ?_|refine Z5 ?_|refine Zf ?_|refine Jf ?_|refine J3 ?_|refine J4 ?_
   exact⟨(k+1,n+1+max (costL B c.insts y) (costL B c.insts m)),⟨hlt,by simp only;omega,by simp only;omega⟩,by(try simp only);omega,Jl (Nat.le_of_ble_eq_true rfl) ⟨⟨rfl,rfl⟩,⟨rfl,rfl⟩,⟨rfl,rfl⟩,⟨rfl,rfl⟩,⟨rfl,rfl⟩,⟨rfl,rfl⟩,⟨rfl,rfl⟩,⟨rfl,rfl⟩,trivial⟩ ⟨⟨rfl,Je rfl,Jc _ _ _⟩,⟨rfl,rfl⟩,⟨rfl,rfl⟩,⟨rfl,rfl⟩,⟨rfl,rfl⟩,trivial⟩⟩
  have d4:decide (s.kind=4)=false:=J1 k4
  rw[if_neg k4]at i3 b1
  repeat' first|refine Z1 ?_|refine Z2 ?_|refine Z5 ?_|refine Ju ?_|refine Ze ?_|refine Zf ?_|refine Zo ?_|refine J6 ?_|refine Jf ?_|refine Zp ?_|refine Zq ?_|refine J5 ?_|refine J8 ?_|refine J3 ?_|refine J4 ?_
  exact⟨(k+1,n+1),⟨hlt,by simp only;omega,by simp only;omega⟩,by(try simp only);omega,Jl (Nat.le_of_ble_eq_true rfl) ⟨⟨rfl,rfl⟩,⟨rfl,rfl⟩,⟨rfl,rfl⟩,⟨rfl,rfl⟩,⟨rfl,rfl⟩,⟨rfl,rfl⟩,⟨rfl,rfl⟩,⟨rfl,rfl⟩,trivial⟩ ⟨⟨rfl,Je rfl,Jc _ _ _⟩,⟨rfl,rfl⟩,⟨rfl,rfl⟩,⟨rfl,rfl⟩,⟨rfl,rfl⟩,trivial⟩⟩
end Go.Pm
/- Part of the proof: Mc3. -/
namespace Go.Pm
abbrev Vm:=List (ByteArray×Int)
def wget (W:Vm) (s:ByteArray):Int:=(sfind W s).getD 0
def addOK (F:Vm) (s:ByteArray):Bool:=nameI s&&!(sfind F s).isSome
def slotGo (v:Int):Vm→List Slt→Option Vm
 |F,[]=>some F
 |F,x::l=>if addOK F x.name=true∧(x.type=1∨x.type=2)then slotGo v (sput F x.name v) l else none
def locGo:Vm→List ByteArray→Option Vm
 |F,[]=>some F
 |F,x::l=>if addOK F x=true then locGo (sput F x 1) l else none
def instGo (k:Nat) (Z:List Int):Int→List Int→Option Int
 |n,[]=>some n
 |n,g::l=>if g<0∨(k:Int)≤g then none else instGo k Z (n+(Z[g.toNat]?).getD 0) l
def givenI (F W:Vm) (s:ByteArray):Bool:=(sfind F s).isSome&&decide ((sfind F s).getD 0=1)&&decide (wget W s=0)
def outsGo (F W:Vm):List (ByteArray×Bool)→List ByteArray→Bool
 |_,[]=>true
 |E,x::l=>if givenI F W x=true∧(sfind E x).getD false=false then outsGo F W (sput E x true) l else false
def b1 (s:Sm) (m:Nat):Bool:=decide (20<((m-0:Nat):Int))&&decide (s.kind≠5)&&decide (s.kind≠6)
def b2 (s:Sm):Bool:=(decide (s.kind≠2)&&decide (s.kind≠3)&&decide (s.pos≠0))||(decide (s.kind≠1)&&decide (s.kind≠4)&&decide (s.name≠⟨#[]⟩))
def b3 (s:Sm):Bool:=(decide (s.kind≠3)&&(decide (0<(s.outs.length:Int))||decide (0<(s.args.length:Int))))||(decide (s.kind≠1)&&decide (s.kind≠2)&&decide (0<(s.code.length:Int)))
def stmI (cs:List Cls) (c:Cls) (F:Vm) (s:Sm) (S:List ByteArray) (W:Vm):Option (List ByteArray×Vm):=
 if b1 s S.length=true then none
 else if b2 s=true then none
 else if b3 s=true then none
 else if s.kind=1 then(if givenI F W s.name=true∧codeI F c.mems.length s.code=true then some (S,W)else none)
 else if s.kind=2 then(if 0≤s.pos∧s.pos<(c.mems.length:Int)∧codeI F c.mems.length s.code=true then some (S,W)else none)
 else if s.kind=3 then
  (if 0≤s.pos∧s.pos<(c.insts.length:Int)then
   match (c.insts[s.pos.toNat]?).bind (fun g=>cs[g.toNat]?)with
   |none=>none
   |some d=>if s.outs.length=d.outs.length∧s.args.length=d.ins.length∧outsGo F W [] s.outs=true∧s.args.all (codeI F c.mems.length)=true then some (S,W)else none
  else none)
 else if s.kind=4 then(if(sfind F s.name).isSome=true then some (S++[s.name],sput W s.name (wget W s.name+1))else none)
 else if s.kind=5 then some (S,W)
 else if s.kind=6 then
  match S.getLast? with
  |none=>none
  |some x=>some (S.dropLast,sput W x (wget W x-1))
 else none
def bodyGo (cs:List Cls) (c:Cls) (F:Vm):List Sm→List ByteArray→Vm→Option Unit
 |[],_,_=>some ()
 |s::l,S,W=>(stmI cs c F s S W).bind fun p=>bodyGo cs c F l p.1 p.2
def headBad (N:List (ByteArray×Bool)) (c:Cls):Prop:=nameI c.name=false∨(sfind N c.name).getD false=true
def sizeBad (c:Cls):Prop:=(c.outs.length:Int)<1∨1000<((c.ins.length:Int)+c.outs.length+c.locs.length)∨1000<(c.mems.length:Int)∨1000<(c.insts.length:Int)∨30000<(c.body.length:Int)
instance (N:List (ByteArray×Bool)) (c:Cls):Decidable (headBad N c):=by unfold headBad;infer_instance
instance (c:Cls):Decidable (sizeBad c):=by unfold sizeBad;infer_instance
def k4 (c:Cls) (B:List Int) (n:Int) (R:List Br):Option (Int×Int):=if 20000<n∨400000<costL B c.insts R then none else some (n,costL B c.insts R)
def k3 (cs:List Cls) (c:Cls) (B:List Int) (F:Vm) (n:Int):Option (Int×Int):=(bodyGo cs c F c.body [] []).bind fun _=>(growI c.body).bind (k4 c B n)
def k2 (cs:List Cls) (k:Nat) (Z B:List Int) (c:Cls) (F:Vm):Option (Int×Int):=if c.mems.all valI=false then none else(instGo k Z c.mems.length c.insts).bind (k3 cs c B F)
def slotsGo:Nat→List (List Slt)→Vm→Option Vm
 |_,[],F=>some F
 |v,l::r,F=>(slotGo v F l).bind (slotsGo (v+1) r)
def k0 (cs:List Cls) (k:Nat) (Z B:List Int) (c:Cls) (F:Vm):Option (Int×Int):=(locGo F c.locs).bind (k2 cs k Z B c)
def k1 (cs:List Cls) (k:Nat) (Z B:List Int) (c:Cls):Option (Int×Int):=(slotsGo 0 [c.ins,c.outs] []).bind (k0 cs k Z B c)
def classI (cs:List Cls) (k:Nat) (N:List (ByteArray×Bool)) (Z B:List Int) (c:Cls):Option (Int×Int):=if headBad N c then none else if sizeBad c then none else k1 cs k Z B c
def mGo (cs:List Cls):Nat→List Cls→List (ByteArray×Bool)→List Int→List Int→Option (List Int×List Int)
 |_,[],_,Z,B=>some (Z,B)
 |k,c::r,N,Z,B=>(classI cs k N Z B c).bind fun p=>mGo cs (k+1) r (sput N c.name true) (Z++[p.1]) (B++[p.2])
def mI (cs:List Cls):Option (List Int×List Int):=if(cs.length:Int)<1∨200<(cs.length:Int)then none else mGo cs 0 cs [] [] []
def finR:Option (List Int×List Int)→AV
 |none=>.tup [.d (.s (.pointer none)),vb false]
 |some (Z,B)=>.tup [.d (.ip [.im (Z.map eNum),.im (B.map eNum)] 0),vb true]
end Go.Pm
