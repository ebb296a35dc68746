/- Part of the proof: Fu2. -/
import Derived.Test.YtdjanhhljinokaaGreatDoorT19
import Derived.Test.YtdjanhhljinokaaGreatDoorT10
set_option linter.unusedVariables false
set_option linter.unusedSimpArgs false
namespace Go.Pm
theorem J6v {L:List Sm} {T:List Br} (h:Spell L T):∀(i:Nat) (s:Sm),L[i]? = some s→s.kind=4→
  ∃(P S:List Sm) (C:List Br→List Br) (y n r:List Sm) (e f:Sm) (Y N R:List Br),L=P++(s::(y++e::(n++f::r)))++S∧P.length=i∧e.kind=5∧f.kind=6∧Spell y Y∧Spell n N∧Spell r R∧T=C (.nd s Y N::R)∧
   (∀m Z,Spell m Z→Spell (P++m++S) (C Z))∧(∀Z Z',Fs Z Z'→Fs (C Z) (C Z'))∧∀s' S',S=s'::S'→s'.kind≠4:=by
 induction h with
 |nil=>intro i s h;simp at h
 |@leaf s0 l R h4 h5 h6 hl ih=>
  intro i s hi h
  cases i with
  |zero=>simp only[List.getElem?_cons_zero,Option.some.injEq]at hi;subst hi;exact absurd h h4
  |succ i=>
   obtain⟨P,S,C,y,n,r,e,f,Y,N,R',rfl,rfl,he,hf,hy,hn,hr,rfl,hC,hF,hS⟩:=ih i s (by simpa using hi) h
   refine⟨s0::P,S,fun Z=>.nd s0 [] []::C Z,y,n,r,e,f,Y,N,R',by simp,by simp,he,hf,hy,hn,hr,rfl,fun m Z hm=>?_,fun Z Z' hz=>?_,hS⟩
   ·have:=Spell.leaf h4 h5 h6 (hC m Z hm);simpa using this
   ·have:=(hF Z Z' hz).ctx [.nd s0 [] []] [];simpa using this
 |@cond s0 e0 f0 y0 n0 l Y0 N0 R h4 h5 h6 hy hn hl ihy ihn ih=>
  intro i s hi h
  cases i with
  |zero=>
   simp only[List.getElem?_cons_zero,Option.some.injEq]at hi;subst hi
   exact⟨[],[],fun Z=>Z,y0,n0,l,e0,f0,Y0,N0,R,by simp,rfl,h5,h6,hy,hn,hl,rfl,fun m Z hm=>by simpa using hm,fun Z Z' hz=>hz,fun _ _ e=>by cases e⟩
  |succ i=>
   rw[List.getElem?_cons_succ]at hi
   rcases Nat.lt_or_ge i y0.length with h1|h1
   ·rw[List.getElem?_append_left h1]at hi
    obtain⟨P,S,C,y,n,r,e,f,Y,N,R',rfl,rfl,he,hf,hy',hn',hr,rfl,hC,hF,hS⟩:=ihy i s hi h
    refine⟨s0::P,S++e0::(n0++f0::l),fun Z=>.nd s0 (C Z) N0::R,y,n,r,e,f,Y,N,R',by simp,by simp,he,hf,hy',hn',hr,rfl,fun m Z hm=>?_,fun Z Z' hz=>?_,fun s' S' e'=>?_⟩
    ·have:=Spell.cond h4 h5 h6 (hC m Z hm) hn hl;simpa using this
    ·exact Fs.yes [] s0 _ _ N0 R (hF Z Z' hz)
    ·cases S with
     |nil=>simp only[List.nil_append,List.cons.injEq]at e';rw[←e'.1];omega
     |cons a S=>simp only[List.cons_append,List.cons.injEq]at e';rw[←e'.1];exact hS _ _ rfl
   ·rw[List.getElem?_append_right h1]at hi
    rcases hj:i-y0.length with _|j
    ·rw[hj,List.getElem?_cons_zero,Option.some.injEq]at hi;subst hi;omega
    ·rw[hj,List.getElem?_cons_succ]at hi
     rcases Nat.lt_or_ge j n0.length with h2|h2
     ·rw[List.getElem?_append_left h2]at hi
      obtain⟨P,S,C,y,n,r,e,f,Y,N,R',rfl,hP,he,hf,hy',hn',hr,rfl,hC,hF,hS⟩:=ihn j s hi h
      refine⟨s0::(y0++e0::P),S++f0::l,fun Z=>.nd s0 Y0 (C Z)::R,y,n,r,e,f,Y,N,R',by simp,by simp;omega,he,hf,hy',hn',hr,rfl,fun m Z hm=>?_,fun Z Z' hz=>?_,fun s' S' e'=>?_⟩
      ·have:=Spell.cond h4 h5 h6 hy (hC m Z hm) hl;simpa using this
      ·exact Fs.no [] s0 Y0 _ _ R (hF Z Z' hz)
      ·cases S with
       |nil=>simp only[List.nil_append,List.cons.injEq]at e';rw[←e'.1];omega
       |cons a S=>simp only[List.cons_append,List.cons.injEq]at e';rw[←e'.1];exact hS _ _ rfl
     ·rw[List.getElem?_append_right h2]at hi
      rcases hq:j-n0.length with _|q
      ·rw[hq,List.getElem?_cons_zero,Option.some.injEq]at hi;subst hi;omega
      ·rw[hq,List.getElem?_cons_succ]at hi
       obtain⟨P,S,C,y,n,r,e,f,Y,N,R',rfl,hP,he,hf,hy',hn',hr,rfl,hC,hF,hS⟩:=ih q s hi h
       refine⟨s0::(y0++e0::(n0++f0::P)),S,fun Z=>.nd s0 Y0 N0::C Z,y,n,r,e,f,Y,N,R',by simp,by simp;omega,he,hf,hy',hn',hr,rfl,fun m Z hm=>?_,fun Z Z' hz=>?_,hS⟩
       ·have:=Spell.cond h4 h5 h6 hy hn (hC m Z hm);simpa using this
       ·have:=(hF Z Z' hz).ctx [.nd s0 Y0 N0] [];simpa using this
theorem Jce {T T':List Br} (h:Fs T T'):∀{L:List Sm},Spell L T→∃(i:Nat) (s:Sm) (y n r:List Sm) (e f u:Sm) (Y N:List Br),L.drop i=s::(y++e::(n++f::u::r))∧s.kind=4∧e.kind=5∧f.kind=6∧Spell y Y∧Spell n N∧u.kind=4∧u.name=s.name:=by
 have hd:∀(a b:List Sm) (i:Nat) (z:Sm) (w:List Sm),b.drop i=z::w→(a++b).drop (a.length+i)=z::w:=fun a b i z w e=>by rw[List.drop_append,List.drop_of_length_le (by omega),List.nil_append,Nat.add_sub_cancel_left,e]
 have hd2:∀(a b:List Sm) (i:Nat) (z:Sm) (w:List Sm),a.drop i=z::w→(a++b).drop i=z::(w++b):=fun a b i z w e=>by
  have hlt:i<a.length:=by
   rcases Nat.lt_or_ge i a.length with q|q
   ·exact q
   ·rw[List.drop_of_length_le q]at e;cases e
  rw[List.drop_append,e,show i-a.length=0 by omega];rfl
 induction h with
 |top p a b q hp=>
  intro L hL
  obtain⟨l1,l2,rfl,_,h2⟩:=J0u _ _ hL
  obtain⟨p1,p2,p3⟩:=J1A.1 hp
  generalize e:a::b::q=T at h2
  cases h2 with
  |nil=>cases e
  |leaf h4 h5 h6 h=>simp only[List.cons.injEq]at e;obtain⟨rfl,_⟩:=e;exact absurd p2 h4
  |@cond s e' f y n l Y N R h4 h5 h6 hy hn h=>
   simp only[List.cons.injEq]at e
   obtain⟨rfl,rfl⟩:=e
   generalize e2:b::q=T at h
   cases h with
   |nil=>cases e2
   |@leaf u l R k4 k5 k6 h=>simp only[List.cons.injEq]at e2;obtain⟨rfl,_⟩:=e2;exact absurd p1 k4
   |@cond u e3 f3 y3 n3 l3 Y3 N3 R3 k4 k5 k6 ky kn h=>
    simp only[List.cons.injEq]at e2
    obtain⟨rfl,_⟩:=e2
    exact⟨l1.length+0,s,y,n,_,e',f,u,Y,N,hd l1 _ 0 _ _ rfl,h4,h5,h6,hy,hn,k4,p3.symm⟩
 |yes p s y0 y' n q h ih=>
  intro L hL
  obtain⟨l1,l2,rfl,_,h2⟩:=J0u _ _ hL
  generalize e:Br.nd s y0 n::q=T at h2
  cases h2 with
  |nil=>cases e
  |leaf h4 h5 h6 h'=>
   simp only[List.cons.injEq,Br.nd.injEq]at e
   obtain⟨⟨rfl,rfl,rfl⟩,_⟩:=e
   have:=h.n;simp[brsN]at this
  |@cond s2 e' f ly ln l Y N R h4 h5 h6 hy hn h'=>
   simp only[List.cons.injEq,Br.nd.injEq]at e
   obtain⟨⟨rfl,rfl,rfl⟩,_⟩:=e
   obtain⟨i,t,a,b,r,e2,f2,u,A,B,h1,rest⟩:=ih hy
   refine⟨l1.length+(1+i),t,a,b,r++e'::(ln++f::l),e2,f2,u,A,B,hd l1 _ _ _ _ ?_,rest⟩
   rw[Nat.add_comm 1 i,List.drop_succ_cons,hd2 _ _ _ _ _ h1]
   simp
 |no p s y0 n0 n' q h ih=>
  intro L hL
  obtain⟨l1,l2,rfl,_,h2⟩:=J0u _ _ hL
  generalize e:Br.nd s y0 n0::q=T at h2
  cases h2 with
  |nil=>cases e
  |leaf h4 h5 h6 h'=>
   simp only[List.cons.injEq,Br.nd.injEq]at e
   obtain⟨⟨rfl,rfl,rfl⟩,_⟩:=e
   have:=h.n;simp[brsN]at this
  |@cond s2 e' f ly ln l Y N R h4 h5 h6 hy hn h'=>
   simp only[List.cons.injEq,Br.nd.injEq]at e
   obtain⟨⟨rfl,rfl,rfl⟩,_⟩:=e
   obtain⟨i,t,a,b,r,e2,f2,u,A,B,h1,rest⟩:=ih hn
   refine⟨l1.length+(1+(ly.length+(1+i))),t,a,b,r++f::l,e2,f2,u,A,B,hd l1 _ _ _ _ ?_,rest⟩
   rw[Nat.add_comm 1 (ly.length+(1+i)),List.drop_succ_cons]
   refine hd ly _ _ _ _ ?_
   rw[Nat.add_comm 1 i,List.drop_succ_cons,hd2 _ _ _ _ _ h1]
   simp
def prAt (L:List Sm) (i:Nat):Bool:=match L[i]? with
 |none=>false
 |some s=>decide (s.kind=4)&&(match L[(partsS L i).2.toNat+1]? with|some u=>decide (u.kind=4)&&decide (u.name=s.name)|none=>false)
def cutS (L:List Sm) (i:Nat):List Sm:=
 L.take (partsS L i).1.toNat++(L.drop ((partsS L i).2.toNat+2)).take ((partsS L ((partsS L i).2.toNat+1)).1.toNat-((partsS L i).2.toNat+2))++(L.drop (partsS L i).1.toNat).take ((partsS L i).2.toNat-(partsS L i).1.toNat)++
  (L.drop ((partsS L ((partsS L i).2.toNat+1)).1.toNat+1)).take ((partsS L ((partsS L i).2.toNat+1)).2.toNat-((partsS L ((partsS L i).2.toNat+1)).1.toNat+1))++L.drop (partsS L ((partsS L i).2.toNat+1)).2.toNat
def onceGo (L:List Sm):Nat→Nat→List Sm×Bool
 |0,_=>(L,false)
 |k+1,i=>if prAt L i=true then(cutS L i,true)else onceGo L k (i+1)
def onceS (L:List Sm):List Sm×Bool:=onceGo L L.length 0
theorem J7O (L:List Sm):∀(k i:Nat),(onceGo L k i).2=false→(onceGo L k i).1=L∧∀j,i≤j→j<i+k→prAt L j=false
 |0,i,_=>⟨rfl,fun j h1 h2=>by omega⟩
 |k+1,i,h=>by
  simp only[onceGo]at h ⊢
  by_cases q:prAt L i=true
  ·rw[if_pos q]at h;cases h
  ·rw[if_neg q]at h ⊢
   obtain⟨h1,h2⟩:=J7O L k (i+1) h
   refine⟨h1,fun j hj hk=>?_⟩
   rcases Nat.lt_or_ge i j with hl|hl
   ·exact h2 j hl (by omega)
   ·rw[show j=i by omega];simpa using q
theorem J6K (L:List Sm):∀(k i:Nat),(onceGo L k i).2=true→∃j,prAt L j=true∧(onceGo L k i).1=cutS L j
 |0,i,h=>by cases h
 |k+1,i,h=>by
  simp only[onceGo]at h ⊢
  by_cases q:prAt L i=true
  ·rw[if_pos q];exact⟨i,q,rfl⟩
  ·rw[if_neg q]at h ⊢
   exact J6K L k (i+1) h
theorem J1T {P r:List Sm} {s e f:Sm} {y n:List Sm} {Y N:List Br} (h4:s.kind=4) (h5:e.kind=5) (h6:f.kind=6) (hy:Spell y Y) (hn:Spell n N):
  partsS (P++s::(y++e::(n++f::r))) P.length=(((P.length+1+y.length:Nat):Int),((P.length+1+y.length+1+n.length:Nat):Int)):=by
 unfold partsS
 rw[List.drop_append,List.drop_length,List.nil_append,Nat.sub_self,List.drop_zero]
 exact J1Q h4 h5 h6 hy hn r P.length
theorem J46 {L:List Sm} {T:List Br} (h:Spell L T) (ho:(onceS L).2=false):(onceS L).1=L∧∀T',¬Fs T T':=by
 obtain⟨h1,h2⟩:=J7O L _ _ ho
 refine⟨h1,fun T' hs=>?_⟩
 obtain⟨i,s,y,n,r,e,f,u,Y,N,hd,k4,k5,k6,hy,hn,ku,hu⟩:=Jce hs h
 have hi:i<L.length:=by
  rcases Nat.lt_or_ge i L.length with q|q
  ·exact q
  ·rw[List.drop_of_length_le q]at hd;cases hd
 have hL:L=L.take i++s::(y++e::(n++f::u::r)):=by rw[←hd,List.take_append_drop]
 have hp:(L.take i).length=i:=by rw[List.length_take];omega
 have:=h2 i (Nat.zero_le _) (by omega)
 have hpt:=J1T (P:=L.take i) (r:=u::r) k4 k5 k6 hy hn
 rw[←hL,hp]at hpt
 have e1:L[i]? = some s:=by rw[←List.head?_drop,hd];rfl
 have e2:L[i+1+y.length+1+n.length+1]? = some u:=by
  have:(L.drop i)[1+y.length+1+n.length+1]? = some u:=by
   rw[hd,show 1+y.length+1+n.length+1=(y.length+(1+n.length+1))+1 by omega,List.getElem?_cons_succ,List.getElem?_append_right (by omega),show y.length+(1+n.length+1)-y.length=(n.length+1)+1 by omega,List.getElem?_cons_succ,List.getElem?_append_right (by omega),show n.length+1-n.length=0+1 by omega]
   rfl
  rw[List.getElem?_drop]at this
  rw[←this];congr 1;omega
 simp only[prAt,e1,hpt,Int.toNat_natCast,e2,k4,ku,hu,decide_true,Bool.and_self]at this
 cases this
theorem J8s {L:List Sm} {T:List Br} (h:Spell L T) (ho:(onceS L).2=true):∃T',Spell (onceS L).1 T'∧Fs T T'∧(onceS L).1.length+3=L.length∧∀s∈(onceS L).1,s∈L:=by
 obtain⟨i,hp,hc⟩:=J6K L _ _ ho
 unfold onceS
 rw[hc]
 rcases e1:L[i]? with _|s
 ·simp[prAt,e1]at hp
 simp only[prAt,e1,Bool.and_eq_true,decide_eq_true_eq]at hp
 obtain⟨k4,hp⟩:=hp
 obtain⟨P,S,C,y,n,r,e,f,Y,N,R,hL,hP,k5,k6,hy,hn,hr,rfl,hC,hF,hS⟩:=J6v h i s e1 k4
 have hpt:=J1T (P:=P) (r:=r++S) k4 k5 k6 hy hn
 have hL':L=P++s::(y++e::(n++f::(r++S))):=by rw[hL];simp
 rw[←hL',hP]at hpt
 rw[hpt]at hp
 simp only[Int.toNat_natCast]at hp
 have e2:L[i+1+y.length+1+n.length+1]? = (r++S)[0]?:=by
  rw[hL',←hP,List.getElem?_append_right (by omega),show P.length+1+y.length+1+n.length+1-P.length=(y.length+(1+n.length+1))+1 by omega,List.getElem?_cons_succ,List.getElem?_append_right (by omega),show y.length+(1+n.length+1)-y.length=(n.length+1)+1 by omega,List.getElem?_cons_succ,List.getElem?_append_right (by omega),show n.length+1-n.length=0+1 by omega]
  rfl
 rw[e2]at hp
 cases hr with
 |nil=>
  cases S with
  |nil=>simp at hp
  |cons s' S'=>
   have:=hS s' S' rfl
   simp[this]at hp
 |leaf h4=>simp[h4]at hp
 |@cond u e3 f3 y3 n3 r3 Y3 N3 R3 u4 u5 u6 hy3 hn3 hr3=>
  simp only[List.cons_append,List.getElem?_cons_zero,Bool.and_eq_true,decide_eq_true_eq]at hp
  have hpt2:=J1T (P:=P++s::(y++e::(n++[f]))) (r:=r3++S) u4 u5 u6 hy3 hn3
  have hL2:L=P++s::(y++e::(n++[f]))++u::(y3++e3::(n3++f3::(r3++S))):=by rw[hL'];simp
  have hlen:(P++s::(y++e::(n++[f]))).length=i+1+y.length+1+n.length+1:=by simp;omega
  rw[←hL2,hlen]at hpt2
  have key:cutS L i=P++(s::((y++y3)++e::((n++n3)++f3::r3)))++S:=by
   unfold cutS
   rw[hpt]
   simp only[Int.toNat_natCast]
   rw[hpt2]
   simp only[Int.toNat_natCast]
   generalize hA:P++s::y=A
   have a1:L.take (i+1+y.length)=A:=by
    rw[hL',←hA,←hP,show P++s::(y++e::(n++f::(u::(y3++e3::(n3++f3::r3))++S)))=(P++s::y)++(e::(n++f::(u::(y3++e3::(n3++f3::r3))++S))) by simp]
    exact List.take_left' (by simp;omega)
   have a3:(L.drop (i+1+y.length)).take (i+1+y.length+1+n.length-(i+1+y.length))=e::n:=by
    rw[hL',←hP,show P++s::(y++e::(n++f::(u::(y3++e3::(n3++f3::r3))++S)))=(P++s::y)++((e::n)++(f::(u::(y3++e3::(n3++f3::r3))++S))) by simp,List.drop_left' (by simp;omega)]
    exact List.take_left' (by simp;omega)
   have a2:(L.drop (i+1+y.length+1+n.length+2)).take (i+1+y.length+1+n.length+1+1+y3.length-(i+1+y.length+1+n.length+2))=y3:=by
    rw[hL2,show P++s::(y++e::(n++[f]))++u::(y3++e3::(n3++f3::(r3++S)))=(P++s::(y++e::(n++[f]))++[u])++(y3++(e3::(n3++f3::(r3++S)))) by simp,List.drop_left' (by simp;omega)]
    exact List.take_left' (by omega)
   have a4:(L.drop (i+1+y.length+1+n.length+1+1+y3.length+1)).take (i+1+y.length+1+n.length+1+1+y3.length+1+n3.length-(i+1+y.length+1+n.length+1+1+y3.length+1))=n3:=by
    rw[hL2,show P++s::(y++e::(n++[f]))++u::(y3++e3::(n3++f3::(r3++S)))=(P++s::(y++e::(n++[f]))++u::(y3++[e3]))++(n3++(f3::(r3++S))) by simp,List.drop_left' (by simp;omega)]
    exact List.take_left' (by omega)
   have a5:L.drop (i+1+y.length+1+n.length+1+1+y3.length+1+n3.length)=f3::(r3++S):=by
    rw[hL2,show P++s::(y++e::(n++[f]))++u::(y3++e3::(n3++f3::(r3++S)))=(P++s::(y++e::(n++[f]))++u::(y3++e3::n3))++(f3::(r3++S)) by simp,List.drop_left' (by simp;omega)]
   rw[a1,a2,a3,a4,a5,←hA]
   simp
  rw[key]
  refine⟨C (.nd s (Y++Y3) (N++N3)::R3),hC _ _ (.cond k4 k5 u6 (hy.app hy3) (hn.app hn3) hr3),hF _ _ ?_,?_,fun t ht=>?_⟩
  ·exact Fs.top [] (.nd s Y N) (.nd u Y3 N3) R3 (J1A.2 ⟨u4,k4,hp.2.symm⟩)
  ·rw[hL'];simp;omega
  ·rw[hL']
   simp only[List.mem_append,List.mem_cons]at ht ⊢
   grind
def fuseB (l:List Sm):List Sm:=match growI l with|some T=>flL (fuF (brsN T) T)|none=>[]
theorem J8p {L:List Sm} {T T0:List Br} {k:Nat} (h:Spell L T) (hc:∀s∈L,cnS s) (ho:(onceS L).2=false) (hk:brsN T≤k) (he:fuF k T0=fuF k T):(onceS L).1=flL (fuF k T0):=by
 obtain⟨h1,h2⟩:=J46 h ho
 rw[h1,he,J5O k T hk h2]
 exact J6L h hc
end Go.Pm
/- Part of the proof: Mc3. -/
namespace Go.Pm
abbrev Vm:=List (ByteArray×Int)
def wget (W:Vm) (s:ByteArray):Int:=(sfind W s).getD 0
def addOK (F:Vm) (s:ByteArray):Bool:=nameI s&&!(sfind F s).isSome
def slotGo (v:Int):Vm→List Slt→Option Vm
 |F,[]=>some F
 |F,x::l=>if addOK F x.name=true∧(x.type=1∨x.type=2)then slotGo v (sput F x.name v) l else none
def locGo:Vm→List ByteArray→Option Vm
 |F,[]=>some F
 |F,x::l=>if addOK F x=true then locGo (sput F x 1) l else none
def instGo (k:Nat) (Z:List Int):Int→List Int→Option Int
 |n,[]=>some n
 |n,g::l=>if g<0∨(k:Int)≤g then none else instGo k Z (n+(Z[g.toNat]?).getD 0) l
def givenI (F W:Vm) (s:ByteArray):Bool:=(sfind F s).isSome&&decide ((sfind F s).getD 0=1)&&decide (wget W s=0)
def outsGo (F W:Vm):List (ByteArray×Bool)→List ByteArray→Bool
 |_,[]=>true
 |E,x::l=>if givenI F W x=true∧(sfind E x).getD false=false then outsGo F W (sput E x true) l else false
def b1 (s:Sm) (m:Nat):Bool:=decide (20<((m-0:Nat):Int))&&decide (s.kind≠5)&&decide (s.kind≠6)
def b2 (s:Sm):Bool:=(decide (s.kind≠2)&&decide (s.kind≠3)&&decide (s.pos≠0))||(decide (s.kind≠1)&&decide (s.kind≠4)&&decide (s.name≠⟨#[]⟩))
def b3 (s:Sm):Bool:=(decide (s.kind≠3)&&(decide (0<(s.outs.length:Int))||decide (0<(s.args.length:Int))))||(decide (s.kind≠1)&&decide (s.kind≠2)&&decide (0<(s.code.length:Int)))
def stmI (cs:List Cls) (c:Cls) (F:Vm) (s:Sm) (S:List ByteArray) (W:Vm):Option (List ByteArray×Vm):=
 if b1 s S.length=true then none
 else if b2 s=true then none
 else if b3 s=true then none
 else if s.kind=1 then(if givenI F W s.name=true∧codeI F c.mems.length s.code=true then some (S,W)else none)
 else if s.kind=2 then(if 0≤s.pos∧s.pos<(c.mems.length:Int)∧codeI F c.mems.length s.code=true then some (S,W)else none)
 else if s.kind=3 then
  (if 0≤s.pos∧s.pos<(c.insts.length:Int)then
   match (c.insts[s.pos.toNat]?).bind (fun g=>cs[g.toNat]?)with
   |none=>none
   |some d=>if s.outs.length=d.outs.length∧s.args.length=d.ins.length∧outsGo F W [] s.outs=true∧s.args.all (codeI F c.mems.length)=true then some (S,W)else none
  else none)
 else if s.kind=4 then(if(sfind F s.name).isSome=true then some (S++[s.name],sput W s.name (wget W s.name+1))else none)
 else if s.kind=5 then some (S,W)
 else if s.kind=6 then
  match S.getLast? with
  |none=>none
  |some x=>some (S.dropLast,sput W x (wget W x-1))
 else none
def bodyGo (cs:List Cls) (c:Cls) (F:Vm):List Sm→List ByteArray→Vm→Option Unit
 |[],_,_=>some ()
 |s::l,S,W=>(stmI cs c F s S W).bind fun p=>bodyGo cs c F l p.1 p.2
def headBad (N:List (ByteArray×Bool)) (c:Cls):Prop:=nameI c.name=false∨(sfind N c.name).getD false=true
def sizeBad (c:Cls):Prop:=(c.outs.length:Int)<1∨1000<((c.ins.length:Int)+c.outs.length+c.locs.length)∨1000<(c.mems.length:Int)∨1000<(c.insts.length:Int)∨30000<(c.body.length:Int)
instance (N:List (ByteArray×Bool)) (c:Cls):Decidable (headBad N c):=by unfold headBad;infer_instance
instance (c:Cls):Decidable (sizeBad c):=by unfold sizeBad;infer_instance
def k4 (c:Cls) (B:List Int) (n:Int) (R:List Br):Option (Int×Int):=if 20000<n∨400000<costL B c.insts R then none else some (n,costL B c.insts R)
def k3 (cs:List Cls) (c:Cls) (B:List Int) (F:Vm) (n:Int):Option (Int×Int):=(bodyGo cs c F c.body [] []).bind fun _=>(growI c.body).bind (k4 c B n)
def k2 (cs:List Cls) (k:Nat) (Z B:List Int) (c:Cls) (F:Vm):Option (Int×Int):=if c.mems.all valI=false then none else(instGo k Z c.mems.length c.insts).bind (k3 cs c B F)
def slotsGo:Nat→List (List Slt)→Vm→Option Vm
 |_,[],F=>some F
 |v,l::r,F=>(slotGo v F l).bind (slotsGo (v+1) r)
def k0 (cs:List Cls) (k:Nat) (Z B:List Int) (c:Cls) (F:Vm):Option (Int×Int):=(locGo F c.locs).bind (k2 cs k Z B c)
def k1 (cs:List Cls) (k:Nat) (Z B:List Int) (c:Cls):Option (Int×Int):=(slotsGo 0 [c.ins,c.outs] []).bind (k0 cs k Z B c)
def classI (cs:List Cls) (k:Nat) (N:List (ByteArray×Bool)) (Z B:List Int) (c:Cls):Option (Int×Int):=if headBad N c then none else if sizeBad c then none else k1 cs k Z B c
def mGo (cs:List Cls):Nat→List Cls→List (ByteArray×Bool)→List Int→List Int→Option (List Int×List Int)
 |_,[],_,Z,B=>some (Z,B)
 |k,c::r,N,Z,B=>(classI cs k N Z B c).bind fun p=>mGo cs (k+1) r (sput N c.name true) (Z++[p.1]) (B++[p.2])
def mI (cs:List Cls):Option (List Int×List Int):=if(cs.length:Int)<1∨200<(cs.length:Int)then none else mGo cs 0 cs [] [] []
def finR:Option (List Int×List Int)→AV
 |none=>.tup [.d (.s (.pointer none)),vb false]
 |some (Z,B)=>.tup [.d (.ip [.im (Z.map eNum),.im (B.map eNum)] 0),vb true]
end Go.Pm
/- Part of the proof: Sp1. -/
namespace Go.Pm
attribute [local irreducible] AR Ok inBlock andThen endQ aoper
set_option maxHeartbeats 1000000
open Go.Proofs
theorem J27 (c:UInt8):PFun X 136 [.d (.s (.int .u8 c.toNat))] (vb (digitI c)):=by
 refine Jj Tryz.func136 rfl (by decide) Tryz.ntmps136 Tryz.results136 (by simp) rfl rfl ?_
 repeat' first|refine Z1 ?_|refine Z2 ?_|refine Z5 ?_|refine Z7 ?_|refine Z8 ?_|refine Za (fun hc=>?_) (fun hc=>?_)|refine Zh ?_|refine Zi ?_|refine Zl ?_|refine Zm ?_|refine Zo ?_|refine J9 ?_|refine Zt ?_
 all_goals simp[digitI, *]
theorem J15 (c:UInt8):PFun X 195 [.d (.s (.int .u8 c.toNat))] (vb (letterI c)):=by
 refine Jj Tryz.func195 rfl (by decide) Tryz.ntmps195 Tryz.results195 (by simp) rfl rfl ?_
 repeat' first|refine Z1 ?_|refine Z2 ?_|refine Z5 ?_|refine Z6 ?_|refine Z7 ?_|refine Z8 ?_|refine Z9 ?_|refine Za (fun hc=>?_) (fun hc=>?_)|refine Zb (fun hc=>?_) (fun hc=>?_)|refine Zh ?_|refine Zi ?_|refine Zl ?_|refine Zm ?_|refine Zo ?_|refine J9 ?_|refine Zt ?_
 all_goals simp[letterI, *]
def inS (ks:List ByteArray) (s:ByteArray):Bool:=ks.any fun k=>decide (k=s)
theorem J37 (ks:List ByteArray) (s:ByteArray) (hl:ks.length≤1048576):PFun X 169 [.d (.im (ks.map eStr)),vs s] (vb (inS ks s)):=by
 refine Jj Tryz.func169 rfl (by decide) Tryz.ntmps169 Tryz.results169 (by simp) rfl rfl ?_
 repeat' first|refine Z1 ?_|refine Z2 ?_|refine Z5 ?_|refine Zd ?_|refine Zo ?_|refine J5 ?_|refine J4 ?_
 refine Jo (ι:=Nat) (fun x=>envL [(1,vs s),(4,vb false),(7,.d (.im (ks.map eStr))),(8,vi ks.length),(9,vi x)]) (fun x=>stL []) (fun x=>x≤ks.length∧inS (ks.drop x) s=inS ks s) (fun x=>ks.length-x) 0 (⟨Nat.zero_le _,rfl⟩) (Jg rfl ⟨.refl _,.refl _,.refl _,.refl _,.refl _,trivial⟩ trivial) (fun _=>Nat.le_refl 0) ?_
 rintro k ⟨i1,i2⟩
 rcases hx:ks[k]? with _|x
 ·have hle:=Jk hx
  have ek:decide ((k:Int)<(ks.length:Int))=false:=J1 (by omega)
  rw[Jm hx]at i2
  repeat' first|refine Z1 ?_|refine Z2 ?_|refine Zo ?_|refine J5 ?_|refine Zq ?_|refine Jf ?_|refine J9 ?_|refine J3 ?_|refine Jb ?_|refine Zv ?_|refine Zt ?_
  exact Ji i2
 ·obtain⟨hd,hlt⟩:=Jc hx
  have ek:decide ((k:Int)<(ks.length:Int))=true:=J0 (by omega)
  rw[hd]at i2
  simp only[inS,List.any_cons]at i2
  cases he:decide (x=s)with
  |true=>
   repeat' first|refine Z1 ?_|refine Z2 ?_|refine Z5 ?_|refine Ze ?_|refine Zo ?_|refine J5 ?_|refine Zp ?_|refine J4 ?_|refine J7 ?_|refine J9 ?_|refine J3 ?_|refine J8 ?_|refine Ja ?_|refine Zt ?_
   exact Ji (by rw[he]at i2;exact i2)
  |false=>
   repeat' first|refine Z1 ?_|refine Z2 ?_|refine Z5 ?_|refine Ze ?_|refine Zf ?_|refine Zo ?_|refine J5 ?_|refine Jd ?_|refine Zp ?_|refine Zq ?_|refine J4 ?_|refine J7 ?_|refine J3 ?_|refine J6 ?_
   rw[he,Bool.false_or]at i2
   exact⟨k+1,⟨hlt,i2⟩,by(try simp only);omega,Jh (Nat.zero_le _) ⟨⟨rfl,rfl⟩,⟨rfl,rfl⟩,⟨rfl,rfl⟩,⟨rfl,rfl⟩,⟨rfl,rfl⟩,trivial⟩ trivial⟩
def kwSpecBytes:List (List UInt8):=[[110,111,100,101],[114,101,116,117,114,110,115],[118,97,114],[108,101,116],[116,101,108],[105,110,116],[98,111,111,108],[119,104,101,110],[119,104,101,110,111,116],[105,102],[116,104,101,110],[101,108,115,101],[102,98,121],[109,101,114,103,101],[116,114,117,101],[102,97,108,115,101],[97,110,100],[111,114],[120,111,114],[110,111,116],[109,111,100]]
def kwSpec:List ByteArray:=kwSpecBytes.map fun l=>⟨l.toArray⟩
theorem J9N:PFun X 196 [] (.d (.im (kwSpec.map eStr))):=by
 refine Jj Tryz.func196 rfl (by decide) Tryz.ntmps196 Tryz.results196 (by simp) rfl rfl ?_
 repeat' first|refine Z1 ?_|refine Z2 ?_|refine Z4 ?_|refine Zo ?_|refine J9 ?_|refine Zt ?_
 rfl
def plainS (s:ByteArray):Bool:=
 match bs s with
 |[]=>false
 |c::r=>if 40<(s.size:Int)then false else letterI c&&!inS kwSpec s&&(c::r).all tailI
def freshS (s:ByteArray):Bool:=
 match bs s with
 |c::d::r=>if 10<(s.size:Int)∨(c.toNat:Int)≠36∨(d.toNat:Int)=48 then false else(d::r).all digitI
 |_=>false
def nameS (s:ByteArray):Bool:=plainS s||freshS s
theorem J5x (s:ByteArray):PFun X 165 [vs s] (vb (plainS s)):=by
 have hsz:=J04 s
 refine Jj Tryz.func165 rfl (by decide) Tryz.ntmps165 Tryz.results165 (by simp) rfl rfl ?_
 rcases hb:bs s with _|⟨c,r⟩
 ·rw[hb]at hsz
  have e:decide ((s.size:Int)<1)=true:=J0 (by simp at hsz;omega)
  repeat' first|refine Z1 ?_|refine Z2 ?_|refine Z5 ?_|refine Z9 ?_|refine Zl ?_|refine Zo ?_|refine J5 ?_|refine Zp ?_|refine J9 ?_|refine J8 ?_|refine Zt ?_
  exact Ji (by simp[plainS,hb])
 ·have h0:(bs s)[0]? = some c:=by rw[hb];rfl
  rw[hb]at hsz
  simp only[List.length_cons]at hsz
  have e:decide ((s.size:Int)<1)=false:=J1 (by omega)
  by_cases hbig:40<(s.size:Int)
  ·have e2:decide (40<(s.size:Int))=true:=J0 hbig
   repeat' first|refine Z1 ?_|refine Z2 ?_|refine Z5 ?_|refine Z7 ?_|refine Z9 ?_|refine Zh ?_|refine Zi ?_|refine Zl ?_|refine Zm ?_|refine Zo ?_|refine J5 ?_|refine Zp ?_|refine J9 ?_|refine J8 ?_|refine Zt ?_
   exact Ji (by simp[plainS,hb,hbig])
  have e2:decide (40<(s.size:Int))=false:=J1 hbig
  cases hl:letterI c with
  |false=>
   have el:(!letterI c)=true:=by rw[hl];rfl
   repeat' first|refine Z1 ?_|refine Z2 ?_|refine Z5 ?_|refine Z7 ?_|refine Z9 ?_|refine J1a rfl rfl h0 rfl rfl rfl ?_|refine Zc (J15 _) ?_|refine Zh ?_|refine Zi ?_|refine Zl ?_|refine Zm ?_|refine Zo ?_|refine J5 ?_|refine Zp ?_|refine J9 ?_|refine J8 ?_|refine Zt ?_
   exact Ji (by simp[plainS,hb,hbig,hl])
  |true=>
   have el:(!letterI c)=false:=by rw[hl];rfl
   cases hw:inS kwSpec s with
   |true=>
    repeat' first|refine Z1 ?_|refine Z2 ?_|refine Z5 ?_|refine Z7 ?_|refine J1a rfl rfl h0 rfl rfl rfl ?_|refine Zc (J15 _) ?_|refine Zc (J9N) ?_|refine Zc (J37 kwSpec s (by decide)) ?_|refine Zh ?_|refine Zi ?_|refine Zm ?_|refine Zo ?_|refine J5 ?_|refine Zp ?_|refine J9 ?_|refine J8 ?_|refine Zt ?_
    exact Ji (by simp[plainS,hb,hbig,hl,hw])
   |false=>
    have hn:plainS s=(c::r).all tailI:=by simp only[plainS,hb,hbig,hl,hw,if_false];rfl
    repeat' first|refine Z1 ?_|refine Z2 ?_|refine Z5 ?_|refine Z7 ?_|refine J1a rfl rfl h0 rfl rfl rfl ?_|refine Zc (J15 _) ?_|refine Zc (J9N) ?_|refine Zc (J37 kwSpec s (by decide)) ?_|refine Zh ?_|refine Zi ?_|refine Zm ?_|refine Zo ?_|refine J5 ?_|refine Zq ?_|refine J4 ?_|refine J7 ?_|refine J3 ?_
    refine Jo (ι:=Nat) (fun x=>envL [(0,vs s),(2,vb false),(3,vi x)]) (fun x=>stL []) (fun x=>x≤s.size∧((bs s).drop x).all tailI=plainS s) (fun x=>s.size-x) 0 (⟨by omega,by rw[hn,hb];rfl⟩) (Jg rfl ⟨.refl _,.refl _,.refl _,trivial⟩ trivial) (fun _=>Nat.le_refl 0) ?_
    rintro k ⟨i2,i3⟩
    rcases hx:(bs s)[k]? with _|x
    ·have hle:=Jk hx
     rw[J04]at hle
     have ek:decide ((k:Int)<(s.size:Int))=false:=J1 (by omega)
     rw[Jm hx]at i3
     repeat' first|refine Z1 ?_|refine Z2 ?_|refine Zo ?_|refine J5 ?_|refine Zq ?_|refine Jf ?_|refine J9 ?_|refine J3 ?_|refine Jb ?_|refine Zv ?_|refine Zt ?_
     exact Ji i3
    ·obtain⟨hd,hlt⟩:=Jc hx
     rw[J04]at hlt
     have ek:decide ((k:Int)<(s.size:Int))=true:=J0 (by omega)
     rw[hd,List.all_cons]at i3
     cases htx:tailI x with
     |false=>
      have htx':=htx
      simp only[tailI,Bool.or_eq_false_iff,decide_eq_false_iff_not]at htx'
      have ex:(!letterI x)=true:=by rw[htx'.1.1];rfl
      have ex2:(!digitI x)=true:=by rw[htx'.1.2];rfl
      have ex3:decide ((x.toNat:Int)≠95)=true:=J0 htx'.2
      repeat' first|refine Z1 ?_|refine Z2 ?_|refine Z5 ?_|refine Z7 ?_|refine J1a rfl rfl hx rfl rfl rfl ?_|refine Zc (J27 _) ?_|refine Zc (J15 _) ?_|refine Zh ?_|refine Zi ?_|refine Zl ?_|refine Zo ?_|refine J5 ?_|refine Zp ?_|refine J4 ?_|refine J7 ?_|refine J9 ?_|refine J3 ?_|refine J8 ?_|refine Ja ?_|refine Zt ?_
      exact Ji (by rw[←i3,htx];rfl)
     |true=>
      rw[htx,Bool.true_and]at i3
      repeat' first|refine Z1 ?_|refine Z2 ?_|refine Z5 ?_|refine Z7 ?_|refine Z8 ?_|refine Za (fun hc=>?_) (fun hc=>?_)|refine J1a rfl rfl hx rfl rfl rfl ?_|refine Zc (J27 _) ?_|refine Zc (J15 _) ?_|refine Zf ?_|refine Zh ?_|refine Zi ?_|refine Zl ?_|refine Zm ?_|refine Zo ?_|refine J5 ?_|refine Jd ?_|refine Zp ?_|refine Zq ?_|refine Zr (fun hc=>?_) (fun hc=>?_)|refine J4 ?_|refine J7 ?_|refine J9 ?_|refine J3 ?_|refine J8 ?_|refine Ja ?_|refine J6 ?_|refine Zt ?_
      all_goals first
       |(exact⟨k+1,⟨by omega,i3⟩,by(try simp only);omega,Jh (Nat.zero_le _) ⟨⟨rfl,rfl⟩,⟨rfl,rfl⟩,⟨rfl,rfl⟩,trivial⟩ trivial⟩)
       |(exfalso;simp_all [tailI])
theorem J8u (s:ByteArray):PFun X 166 [vs s] (vb (freshS s)):=by
 have hsz:=J04 s
 refine Jj Tryz.func166 rfl (by decide) Tryz.ntmps166 Tryz.results166 (by simp) rfl rfl ?_
 by_cases h2:(s.size:Int)<2
 ·have e:decide ((s.size:Int)<2)=true:=J0 h2
  repeat' first|refine Z1 ?_|refine Z2 ?_|refine Z5 ?_|refine Z9 ?_|refine Zl ?_|refine Zo ?_|refine J5 ?_|refine Zp ?_|refine J9 ?_|refine J8 ?_|refine Zt ?_
  refine Ji ?_
  unfold freshS
  split
  ·rename_i hb;rw[hb]at hsz;simp only[List.length_cons]at hsz;omega
  ·rfl
 ·rcases hb:bs s with _|⟨c,_|⟨d,r⟩⟩
  ·rw[hb]at hsz;simp only[List.length_nil]at hsz;omega
  ·rw[hb]at hsz;simp only[List.length_cons,List.length_nil]at hsz;omega
  have h0:(bs s)[0]? = some c:=by rw[hb];rfl
  have h1:(bs s)[1]? = some d:=by rw[hb];rfl
  rw[hb]at hsz
  simp only[List.length_cons]at hsz
  have e:decide ((s.size:Int)<2)=false:=J1 h2
  by_cases hbad:10<(s.size:Int)∨(c.toNat:Int)≠36∨(d.toNat:Int)=48
  ·have hn:freshS s=false:=by simp only[freshS,hb,hbad,if_true]
   repeat' first|refine Z1 ?_|refine Z2 ?_|refine Z5 ?_|refine Z7 ?_|refine Z9 ?_|refine Zb (fun hc=>?_) (fun hc=>?_)|refine J1a rfl rfl h0 rfl rfl rfl ?_|refine J1a rfl rfl h1 rfl rfl rfl ?_|refine Zh ?_|refine Zi ?_|refine Zl ?_|refine Zm ?_|refine Zo ?_|refine J5 ?_|refine Zp ?_|refine Zr (fun hc=>?_) (fun hc=>?_)|refine J4 ?_|refine J7 ?_|refine J9 ?_|refine J3 ?_|refine J8 ?_|refine Zt ?_
   all_goals simp only[decide_eq_true_eq,decide_eq_false_iff_not,Bool.not_eq_true,Bool.not_eq_false,Bool.not_eq_eq_eq_not,Bool.not_true,Bool.not_false]at *
   all_goals first
    |exact Ji hn.symm
    |(exfalso;omega)
  ·have e2:decide (10<(s.size:Int))=false:=J1 (by omega)
   have e3:decide ((c.toNat:Int)≠36)=false:=J1 (by omega)
   have e4:decide ((d.toNat:Int)=48)=false:=J1 (by omega)
   have hn:freshS s=(d::r).all digitI:=by simp only[freshS,hb,hbad,if_false]
   repeat' first|refine Z1 ?_|refine Z2 ?_|refine Z5 ?_|refine Z7 ?_|refine J1a rfl rfl h0 rfl rfl rfl ?_|refine J1a rfl rfl h1 rfl rfl rfl ?_|refine Zh ?_|refine Zi ?_|refine Zm ?_|refine Zo ?_|refine J5 ?_|refine Zq ?_|refine J4 ?_|refine J7 ?_|refine J3 ?_
   refine Jo (ι:=Nat) (fun x=>envL [(0,vs s),(2,vb false),(3,vi x)]) (fun x=>stL []) (fun x=>1≤x∧x≤s.size∧((bs s).drop x).all digitI=freshS s) (fun x=>s.size-x) 1 (⟨by omega,by omega,by rw[hn,hb];simp⟩) (Jg rfl ⟨.refl _,.refl _,.refl _,trivial⟩ trivial) (fun _=>Nat.le_refl 0) ?_
   rintro k ⟨i1,i2,i3⟩
   rcases hx:(bs s)[k]? with _|x
   ·have hle:=Jk hx
    rw[J04]at hle
    have ek:decide ((k:Int)<(s.size:Int))=false:=J1 (by omega)
    rw[Jm hx]at i3
    repeat' first|refine Z1 ?_|refine Z2 ?_|refine Zo ?_|refine J5 ?_|refine Zq ?_|refine Jf ?_|refine J9 ?_|refine J3 ?_|refine Jb ?_|refine Zv ?_|refine Zt ?_
    exact Ji i3
   ·obtain⟨hd,hlt⟩:=Jc hx
    rw[J04]at hlt
    have ek:decide ((k:Int)<(s.size:Int))=true:=J0 (by omega)
    rw[hd,List.all_cons]at i3
    cases hdx:digitI x with
    |false=>
     have ex:(!digitI x)=true:=by rw[hdx];rfl
     repeat' first|refine Z1 ?_|refine Z2 ?_|refine Z5 ?_|refine J1a rfl rfl hx rfl rfl rfl ?_|refine Zc (J27 _) ?_|refine Zo ?_|refine J5 ?_|refine Zp ?_|refine J4 ?_|refine J7 ?_|refine J9 ?_|refine J3 ?_|refine J8 ?_|refine Ja ?_|refine Zt ?_
     exact Ji (by rw[←i3,hdx];rfl)
    |true=>
     have ex:(!digitI x)=false:=by rw[hdx];rfl
     repeat' first|refine Z1 ?_|refine Z2 ?_|refine Z5 ?_|refine J1a rfl rfl hx rfl rfl rfl ?_|refine Zc (J27 _) ?_|refine Zf ?_|refine Zo ?_|refine J5 ?_|refine Jd ?_|refine Zp ?_|refine Zq ?_|refine J4 ?_|refine J7 ?_|refine J3 ?_|refine J6 ?_
     rw[hdx,Bool.true_and]at i3
     exact⟨k+1,⟨by omega,by omega,i3⟩,by(try simp only);omega,Jh (Nat.zero_le _) ⟨⟨rfl,rfl⟩,⟨rfl,rfl⟩,⟨rfl,rfl⟩,trivial⟩ trivial⟩
theorem J1X (s:ByteArray):PFun X 128 [vs s] (vb (nameS s)):=by
 refine Jj Tryz.func128 rfl (by decide) Tryz.ntmps128 Tryz.results128 (by simp) rfl rfl ?_
 cases hp:plainS s with
 |true=>
  repeat' first|refine Z1 ?_|refine Z2 ?_|refine Z5 ?_|refine Z9 ?_|refine Zc (J5x s) ?_|refine Zl ?_|refine Zo ?_|refine J9 ?_|refine Zt ?_
  exact Ji (by rw[nameS,hp];rfl)
 |false=>
  repeat' first|refine Z1 ?_|refine Z2 ?_|refine Z5 ?_|refine Z7 ?_|refine Zc (J5x s) ?_|refine Zc (J8u s) ?_|refine Zi ?_|refine Zm ?_|refine Zo ?_|refine J9 ?_|refine Zt ?_
  exact Ji (by rw[nameS,hp];rfl)
end Go.Pm
/- Part of the proof: Sp2. -/
namespace Go.Pm
attribute [local irreducible] AR Ok inBlock andThen endQ aoper
set_option maxHeartbeats 1000000
open Go.Proofs
def sarityI (op:Int):Int:=if(1≤op∧op≤3)∨op=25 then 0 else if op=4∨op=5∨op=21∨op=22∨op=23 then 1 else if(6≤op∧op≤19)∨op=24 then 2 else if op=20 then 3 else -1
theorem J57 (op:Int):PFun X 188 [vi op] (vi (sarityI op)):=by
 refine Jj Tryz.func188 rfl (by decide) Tryz.ntmps188 Tryz.results188 (by simp) rfl rfl ?_
 repeat' first|refine Z1 ?_|refine Z2 ?_|refine Z5 ?_|refine Z7 ?_|refine Z8 ?_|refine Za (fun hc=>?_) (fun hc=>?_)|refine Zh ?_|refine Zi ?_|refine Zl ?_|refine Zm ?_|refine Zo ?_|refine J5 ?_|refine Jd ?_|refine Zp ?_|refine Zq ?_|refine Zr (fun hc=>?_) (fun hc=>?_)|refine J4 ?_|refine J7 ?_|refine J9 ?_|refine J3 ?_|refine J8 ?_|refine Ja ?_|refine J6 ?_|refine Zt ?_
 all_goals simp only[decide_eq_true_eq,decide_eq_false_iff_not,Bool.not_eq_true,Bool.not_eq_false,Bool.not_eq_eq_eq_not,Bool.not_true,Bool.not_false]at *
 all_goals (refine Jw ?_;unfold sarityI;grind)
theorem J4U (n:Int):-1≤sarityI n∧sarityI n≤3:=by unfold sarityI;grind
def beginS (l:List Itm):Nat→Int→Int
 |0,need=>if need≤0 then 0 else -1
 |a+1,need=>if need≤0 then((a+1:Nat):Int)else match l[a]? with
  |none=>-1
  |some x=>if sarityI x.op<0 then -1 else beginS l a (need+sarityI x.op-1)
theorem J5B (l:List Itm) (e:Nat) (he:e≤l.length) (hl:l.length≤1048576):PFun X 189 [.d (.im (l.map eItm)),vi e] (vi (beginS l e 1)):=by
 refine Jj Tryz.func189 rfl (by decide) Tryz.ntmps189 Tryz.results189 (by simp) rfl rfl ?_
 repeat' first|refine Z1 ?_|refine Z2 ?_|refine Zo ?_|refine J5 ?_|refine J4 ?_
 refine Jo (ι:=Nat×Int) (fun x=>envL [(0,.d (.im (l.map eItm))),(4,vi 0),(5,vi x.1),(6,vi x.2)]) (fun x=>stL []) (fun x=>x.1≤l.length∧0≤x.2∧x.2≤1+3*(l.length-x.1)∧beginS l x.1 x.2=beginS l e 1) (fun x=>x.1) (e,1) (⟨he,by simp only;omega,by simp only;omega,rfl⟩) (Jg rfl ⟨.refl _,.refl _,.refl _,.refl _,trivial⟩ trivial) (fun _=>Nat.le_refl 0) ?_
 rintro⟨a,need⟩ ⟨i1,i2,i3,i4⟩
 simp only at i1 i2 i3 i4
 by_cases hn:0<need
 ·have en:decide (0<need)=true:=J0 hn
  cases a with
  |zero=>
   have e1:decide (((0:Nat):Int)-1<0)=true:=by decide
   repeat' first|refine Z1 ?_|refine Z2 ?_|refine Z5 ?_|refine Z9 ?_|refine Zg ?_|refine Zo ?_|refine J5 ?_|refine Zp ?_|refine J4 ?_|refine J7 ?_|refine J9 ?_|refine J3 ?_|refine J8 ?_|refine Ja ?_|refine Zt ?_
   exact Jw (by rw[←i4];simp only[beginS];rw[if_neg (by omega)])
  |succ a=>
   have e1:decide ((a:Int)<0)=false:=J1 (by omega)
   have hlt:a<l.length:=by omega
   obtain⟨x,hx⟩:∃x,l[a]? = some x:=⟨l[a],by simp[hlt]⟩
   have hr:=J4U x.op
   simp only[beginS]at i4
   rw[if_neg (by omega),hx]at i4
   simp only at i4
   by_cases ha:sarityI x.op<0
   ·have ea:decide (sarityI x.op<0)=true:=J0 ha
    repeat' first|refine Z1 ?_|refine Z2 ?_|refine Z5 ?_|refine Z7 ?_|refine J7U (r:=(a:Int)) rfl rfl (by omega) (by omega) ?_|refine Zc (J57 _) ?_|refine Ze ?_|refine Zh ?_|refine Zi ?_|refine Zo ?_|refine J5 ?_|refine Zp ?_|refine J4 ?_|refine J7 ?_|refine J9 ?_|refine J3 ?_|refine J8 ?_|refine Ja ?_|refine Zt ?_
    exact Jw (by rw[←i4,if_pos ha])
   ·have ea:decide (sarityI x.op<0)=false:=J1 ha
    repeat' first|refine Z1 ?_|refine Z2 ?_|refine Z3 ?_|refine Z5 ?_|refine Z7 ?_|refine J7U (r:=(a:Int)) rfl rfl (by omega) (by omega) ?_|refine Zc (J57 _) ?_|refine Ze ?_|refine Zf ?_|refine Zg ?_|refine Zh ?_|refine Zi ?_|refine Zo ?_|refine J5 ?_|refine Jd ?_|refine Zp ?_|refine Zq ?_|refine J4 ?_|refine J7 ?_|refine J3 ?_|refine J6 ?_
    rw[if_neg ha]at i4
    exact⟨(a,need+sarityI x.op-1),⟨by simp only;omega,by simp only;omega,by simp only;omega,i4⟩,by(try simp only);omega,Jh (Nat.zero_le _) ⟨⟨rfl,rfl⟩,⟨rfl,rfl⟩,⟨rfl,rfl⟩,⟨rfl,rfl⟩,trivial⟩ trivial⟩
 ·have en:decide (0<need)=false:=J1 hn
  repeat' first|refine Z1 ?_|refine Z2 ?_|refine Zo ?_|refine J5 ?_|refine Zq ?_|refine Jf ?_|refine J9 ?_|refine J3 ?_|refine Jb ?_|refine Zv ?_|refine Zt ?_
  refine Jw ?_
  rw[←i4]
  cases a with
  |zero=>simp only[beginS];rw[if_pos (by omega)];rfl
  |succ a=>simp only[beginS];rw[if_pos (by omega)]
def itemS (x:Itm):Bool:=
 if(decide (x.op=3∨x.op=23∨x.op=24) != decide (x.name≠⟨#[]⟩))||(decide (x.op=3∨x.op=23∨x.op=24)&&!nameS x.name)then false
 else if x.op=1 then decide (0≤x.val)&&decide (x.val≤2147483647)
 else if x.op=2∨x.op=22∨x.op=23 then decide (0≤x.val)&&decide (x.val≤1)
 else if x.op=21 then decide (-2147483647≤x.val)&&decide (x.val≤2147483647)
 else if x.op=25 then true
 else decide (0≤x.val)&&decide (x.val≤0)
set_option maxHeartbeats 1000000 in
theorem J6D (x:Itm):PFun X 217 [.agg ((eItm x).map .d)] (vb (itemS x)):=by
 refine Jj Tryz.func217 rfl (by decide) Tryz.ntmps217 Tryz.results217 (by simp) rfl rfl ?_
 repeat' first|refine Z1 ?_|refine Z2 ?_|refine Z3 ?_|refine Z5 ?_|refine Z6 ?_|refine Z7 ?_|refine Z8 ?_|refine Z9 ?_|refine Za (fun hc=>?_) (fun hc=>?_)|refine Zb (fun hc=>?_) (fun hc=>?_)|refine Zc (J1X _) ?_|refine Zh ?_|refine Zi ?_|refine Zj ?_|refine Zl ?_|refine Zm ?_|refine Zo ?_|refine J5 ?_|refine Jd ?_|refine Zp ?_|refine Zq ?_|refine Zr (fun hc=>?_) (fun hc=>?_)|refine J4 ?_|refine J7 ?_|refine J9 ?_|refine J3 ?_|refine J8 ?_|refine Ja ?_|refine J6 ?_|refine Zt ?_
 all_goals (refine Ji ?_;unfold itemS;grind)
def codeS (l:List Itm) (most:Int):Bool:=if(l.length:Int)<1∨most<(l.length:Int)∨beginS l l.length 1≠0 then false else l.all itemS
theorem J6z (l:List Itm) (most:Int) (hl:l.length≤1048576):PFun X 197 [.d (.im (l.map eItm)),vi most] (vb (codeS l most)):=by
 refine Jj Tryz.func197 rfl (by decide) Tryz.ntmps197 Tryz.results197 (by simp) rfl rfl ?_
 by_cases hbad:(l.length:Int)<1∨most<(l.length:Int)∨beginS l l.length 1≠0
 ·have hn:codeS l most=false:=by simp only[codeS,hbad,if_true]
  repeat' first|refine Z1 ?_|refine Z2 ?_|refine Z5 ?_|refine Z7 ?_|refine Z9 ?_|refine Zb (fun hc=>?_) (fun hc=>?_)|refine Zc (J5B l l.length (Nat.le_refl _) hl) ?_|refine Zd ?_|refine Zh ?_|refine Zi ?_|refine Zl ?_|refine Zm ?_|refine Zo ?_|refine J5 ?_|refine Zp ?_|refine Zr (fun hc=>?_) (fun hc=>?_)|refine J4 ?_|refine J7 ?_|refine J9 ?_|refine J3 ?_|refine J8 ?_|refine Zt ?_
  all_goals simp only[decide_eq_true_eq,decide_eq_false_iff_not,Bool.not_eq_true,Bool.not_eq_false,Bool.not_eq_eq_eq_not,Bool.not_true,Bool.not_false]at *
  all_goals first
   |exact Ji hn.symm
   |(exfalso;omega)
 ·have e1:decide ((l.length:Int)<1)=false:=J1 (by omega)
  have e2:decide (most<(l.length:Int))=false:=J1 (by omega)
  have e3:decide (beginS l l.length 1≠0)=false:=J1 (by omega)
  have hn:codeS l most=l.all itemS:=by simp only[codeS,hbad,if_false]
  repeat' first|refine Z1 ?_|refine Z2 ?_|refine Z5 ?_|refine Z7 ?_|refine Zc (J5B l l.length (Nat.le_refl _) hl) ?_|refine Zd ?_|refine Zh ?_|refine Zi ?_|refine Zm ?_|refine Zo ?_|refine J5 ?_|refine Zq ?_|refine J4 ?_|refine J7 ?_|refine J3 ?_
  refine Jo (ι:=Nat) (fun x=>envL [(4,vb false),(23,.d (.im (l.map eItm))),(24,vi l.length),(25,vi x)]) (fun x=>stL []) (fun x=>x≤l.length∧(l.drop x).all itemS=codeS l most) (fun x=>l.length-x) 0 (⟨by omega,by rw[hn];simp⟩) (Jg rfl ⟨.refl _,.refl _,.refl _,.refl _,trivial⟩ trivial) (fun _=>Nat.le_refl 0) ?_
  rintro k ⟨i1,i2⟩
  rcases hx:l[k]? with _|x
  ·have hle:=Jk hx
   have ek:decide ((k:Int)<(l.length:Int))=false:=J1 (by omega)
   rw[Jm hx]at i2
   repeat' first|refine Z1 ?_|refine Z2 ?_|refine Zo ?_|refine J5 ?_|refine Zq ?_|refine Jf ?_|refine J9 ?_|refine J3 ?_|refine Jb ?_|refine Zv ?_|refine Zt ?_
   exact Ji i2
  ·obtain⟨hd,hlt⟩:=Jc hx
   have ek:decide ((k:Int)<(l.length:Int))=true:=J0 (by omega)
   rw[hd,List.all_cons]at i2
   cases hdx:itemS x with
   |false=>
    have ex:(!itemS x)=true:=by rw[hdx];rfl
    repeat' first|refine Z1 ?_|refine Z2 ?_|refine Z5 ?_|refine Zc (J6D x) ?_|refine Ze ?_|refine Zo ?_|refine J5 ?_|refine Zp ?_|refine J4 ?_|refine J7 ?_|refine J9 ?_|refine J3 ?_|refine J8 ?_|refine Ja ?_|refine Zt ?_
    exact Ji (by rw[←i2,hdx];rfl)
   |true=>
    have ex:(!itemS x)=false:=by rw[hdx];rfl
    repeat' first|refine Z1 ?_|refine Z2 ?_|refine Z5 ?_|refine Zc (J6D x) ?_|refine Ze ?_|refine Zf ?_|refine Zo ?_|refine J5 ?_|refine Jd ?_|refine Zp ?_|refine Zq ?_|refine J4 ?_|refine J7 ?_|refine J3 ?_|refine J6 ?_
    rw[hdx,Bool.true_and]at i2
    exact⟨k+1,⟨by omega,i2⟩,by(try simp only);omega,Jh (Nat.zero_le _) ⟨⟨rfl,rfl⟩,⟨rfl,rfl⟩,⟨rfl,rfl⟩,⟨rfl,rfl⟩,trivial⟩ trivial⟩
end Go.Pm
/- Part of the proof: Ms1. -/
namespace Go.Pm
attribute [local irreducible] AR Ok inBlock andThen endQ aoper
set_option maxHeartbeats 1000000
open Go.Proofs
def sNm (x:Slt):ByteArray:=x.name
def nmsC (c:Cls):List ByteArray:=c.ins.map sNm++c.outs.map sNm++c.locs
theorem J3X (c:Cls):(nmsC c).length=c.ins.length+c.outs.length+c.locs.length:=by simp[nmsC,Nat.add_assoc]
theorem J1G {c:Cls} (hw:wCls c≤1048576):c.ins.length+c.outs.length+c.locs.length+c.mems.length+c.insts.length+c.body.length≤1048576:=by simp only[wCls,wL]at hw;omega
theorem J0X (c:Cls) (hw:wCls c≤1048576):PFun X 110 [.agg ((eCls c).map .d)] (.d (.im ((nmsC c).map eStr))):=by
 have hl:=J1G hw
 refine Jj Tryz.func110 rfl (by decide) Tryz.ntmps110 Tryz.results110 (by simp) rfl rfl ?_
 repeat' first|refine Z1 ?_|refine Z2 ?_|refine Z5 ?_|refine J39 rfl rfl rfl rfl rfl rfl rfl ?_|refine Zd ?_|refine Zo ?_|refine J5 ?_|refine J4 ?_
 refine J0w (ι:=Nat×List ByteArray) (fun x_=>envL [(1,.ref 0 0),(3,.sl 1 2 0 x_.2.length),(10,.d (.im (c.ins.map eSlt))),(11,vi c.ins.length),(12,vi x_.1)]) (fun x_=>stL [some (.var ((eCls c).map .d)),some (.row 2 9 1 (im2 eStr x_.2)),none]) (fun x_=>x_.1≤c.ins.length∧x_.2=(c.ins.take x_.1).map sNm) (fun x_=>c.ins.length-x_.1) (0,[]) (⟨Nat.zero_le _,rfl⟩) Turn.refl (JC [(2,1)] rfl rfl rfl ⟨⟨rfl,rfl⟩,⟨rfl,rfl⟩,⟨rfl,rfl⟩,⟨rfl,rfl⟩,⟨rfl,rfl⟩,trivial⟩ ⟨⟨rfl,rfl⟩,⟨Jn rfl (by first|exact Jq _ _ _|rfl),Je rfl,Jl _ _ _⟩,trivial⟩) ?_
 rintro⟨k,L⟩ ⟨i1,i2⟩
 simp only at i1 i2
 have hL:L.length≤c.ins.length:=by rw[i2];simp;omega
 rcases hx:c.ins[k]? with _|x
 ·have hle:=Jk hx
  have ek:decide ((k:Int)<(c.ins.length:Int))=false:=J1 (by omega)
  rw[List.take_of_length_le hle]at i2
  repeat' first|refine Z1 ?_|refine Z2 ?_|refine Z5 ?_|refine Zd ?_|refine Zo ?_|refine J5 ?_|refine Zq ?_|refine J4 ?_|refine Jf ?_|refine J3 ?_|refine Jb ?_|refine Zv ?_
  refine J0w (ι:=Nat×List ByteArray) (fun x_=>envL [(1,.ref 0 0),(3,.sl 1 3 0 x_.2.length),(23,.d (.im (c.outs.map eSlt))),(24,vi c.outs.length),(25,vi x_.1)]) (fun x_=>stL [some (.var ((eCls c).map .d)),some (.row 3 9 1 (im2 eStr x_.2)),none,none]) (fun x_=>x_.1≤c.outs.length∧x_.2=L++(c.outs.take x_.1).map sNm) (fun x_=>c.outs.length-x_.1) (0,L) (⟨Nat.zero_le _,by simp⟩) Turn.refl (JC [(3,2)] rfl rfl rfl ⟨⟨rfl,rfl⟩,⟨rfl,rfl⟩,⟨rfl,rfl⟩,⟨rfl,rfl⟩,⟨rfl,rfl⟩,trivial⟩ ⟨⟨rfl,rfl⟩,⟨Jn rfl (by first|exact Jq _ _ _|rfl),Je rfl,Jl _ _ _⟩,trivial⟩) ?_
  rintro⟨q,M⟩ ⟨j1,j2⟩
  simp only at j1 j2
  have hM:M.length≤c.ins.length+c.outs.length:=by rw[j2];simp;omega
  rcases hy:c.outs[q]? with _|y
  ·have hle2:=Jk hy
   have eq:decide ((q:Int)<(c.outs.length:Int))=false:=J1 (by omega)
   rw[List.take_of_length_le hle2]at j2
   repeat' first|refine Z1 ?_|refine Z2 ?_|refine Z5 ?_|refine Yl (e:=eStr) (l:=M) c.locs ?_|refine J0G (e:=eStr) (l:=M++c.locs) rfl 2 rfl rfl rfl ?_|refine Zo ?_|refine J5 ?_|refine Zq ?_|refine Jf ?_|refine J9 ?_|refine J3 ?_|refine Jb ?_|refine Zv ?_|refine Zt ?_
   rw[j2,i2];rfl
  obtain⟨hd,hlt⟩:=Jc hy
  have eq:decide ((q:Int)<(c.outs.length:Int))=true:=J0 (by omega)
  repeat' first|refine Z1 ?_|refine Z2 ?_|refine Z3 ?_|refine Z4 ?_|refine Z5 ?_|refine Yl (e:=eStr) (l:=M) [y.name] ?_|refine Ze ?_|refine Zf ?_|refine Zo ?_|refine J5 ?_|refine Jd ?_|refine Zp ?_|refine J4 ?_|refine J7 ?_|refine J3 ?_|refine J6 ?_
  exact⟨(q+1,M++[y.name]),⟨hlt,by rw[j2,J03 hy,List.map_append,List.append_assoc];rfl⟩,by(try simp only);omega,JC [(3,6)] rfl rfl rfl ⟨⟨rfl,rfl⟩,⟨rfl,rfl⟩,⟨rfl,rfl⟩,⟨rfl,rfl⟩,⟨rfl,rfl⟩,trivial⟩ ⟨⟨rfl,rfl⟩,⟨Jn rfl (by first|exact Jq _ _ _|rfl),Je rfl,Jl _ _ _⟩,trivial⟩⟩
 obtain⟨hd,hlt⟩:=Jc hx
 have ek:decide ((k:Int)<(c.ins.length:Int))=true:=J0 (by omega)
 repeat' first|refine Z1 ?_|refine Z2 ?_|refine Z3 ?_|refine Z4 ?_|refine Z5 ?_|refine Yl (e:=eStr) (l:=L) [x.name] ?_|refine Ze ?_|refine Zf ?_|refine Zo ?_|refine J5 ?_|refine Jd ?_|refine Zp ?_|refine J4 ?_|refine J7 ?_|refine J3 ?_|refine J6 ?_
 exact⟨(k+1,L++[x.name]),⟨hlt,by rw[i2,J03 hx,List.map_append];rfl⟩,by(try simp only);omega,JC [(2,5)] rfl rfl rfl ⟨⟨rfl,rfl⟩,⟨rfl,rfl⟩,⟨rfl,rfl⟩,⟨rfl,rfl⟩,⟨rfl,rfl⟩,trivial⟩ ⟨⟨rfl,rfl⟩,⟨Jn rfl (by first|exact Jq _ _ _|rfl),Je rfl,Jl _ _ _⟩,trivial⟩⟩
end Go.Pm
