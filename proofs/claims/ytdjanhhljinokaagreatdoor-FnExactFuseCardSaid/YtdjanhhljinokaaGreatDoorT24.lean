/- Part of the proof: Ml1. -/
import Derived.Test.YtdjanhhljinokaaGreatDoorT21
import Derived.Test.YtdjanhhljinokaaGreatDoorT22
import Derived.Test.YtdjanhhljinokaaGreatDoorT23
set_option linter.unusedVariables false
set_option linter.unusedSimpArgs false
namespace Go.Pm
theorem J4l {s:ByteArray}:∀{l:List ByteArray} {j:Nat},s∉l→placeS s j l=-1
 |[],_,_=>rfl
 |x::l,j,h=>by
  simp only[List.mem_cons,not_or]at h
  simp only[placeS]
  rw[if_neg (fun e=>h.1 e.symm),J4l h.2]
theorem J1v {s:ByteArray}:∀{l:List ByteArray} (m:List ByteArray) {j:Nat},s∈l→(j:Int)≤placeS s j (l++m)∧placeS s j (l++m)<((j+l.length:Nat):Int)
 |x::l,m,j,h=>by
  simp only[List.cons_append,placeS,List.length_cons]
  by_cases hx:x=s
  ·rw[if_pos hx];omega
  ·rw[if_neg hx]
   have:=J1v (l:=l) m (j:=j+1) (by simpa[Ne.symm hx]using h)
   omega
theorem J1F {s:ByteArray}:∀{l:List ByteArray} (m:List ByteArray) {j:Nat},s∉l→placeS s j (l++m)=placeS s (j+l.length) m
 |[],m,j,_=>rfl
 |x::l,m,j,h=>by
  simp only[List.mem_cons,not_or]at h
  simp only[List.cons_append,placeS,List.length_cons]
  rw[if_neg (fun e=>h.1 e.symm),J1F m h.2]
  congr 1;omega
theorem J8g {s:ByteArray} {l:List ByteArray} {j:Nat} (h:s∈l):(j:Int)≤placeS s j l:=by
 have:=(J1v (s:=s) [] (j:=j) h).1
 rwa [List.append_nil]at this
theorem J4F (p:List ByteArray):∀(l q:List ByteArray),q++l=p→(varsGo p q.length l=true↔(∀x∈l,nameS x=true∧x∉q)∧l.Nodup)
 |[],q,_=>by simp[varsGo]
 |x::l,q,e=>by
  have ih:=J4F p l (q++[x]) (by simpa using e)
  rw[List.length_append,List.length_singleton]at ih
  have hp:placeS x 0 p<(q.length:Int)↔x∈q:=by
   constructor
   ·intro h
    by_cases hx:x∈q
    ·exact hx
    ·rw[←e,J1F _ hx]at h
     simp only[placeS,if_true]at h
     omega
   ·intro h
    have:=(J1v (s:=x) (x::l) (j:=0) h).2
    rw[e]at this
    omega
  simp only[varsGo]
  cases hn:nameS x with
  |false=>simp[hn]
  |true=>
   by_cases hq:x∈q
   ·rw[if_pos (.inr (hp.2 hq))]
    simp[hq]
   ·rw[if_neg (fun h=>h.elim (by simp) (fun h=>hq (hp.1 h))),ih]
    simp only[List.mem_cons,List.nodup_cons,List.mem_append,List.not_mem_nil,or_false,not_or]
    constructor
    ·rintro⟨h1,h2⟩
     refine⟨fun y hy=>?_,fun hx=>(h1 x hx).2.2 rfl,h2⟩
     rcases hy with rfl|hy
     ·exact⟨hn,hq⟩
     ·exact⟨(h1 y hy).1,(h1 y hy).2.1⟩
    ·rintro⟨h1,h2,h3⟩
     exact⟨fun y hy=>⟨(h1 y (.inr hy)).1,(h1 y (.inr hy)).2,fun e=>h2 (e▸hy)⟩,h3⟩
theorem J8v (l:List ByteArray):varsGo l 0 l=true↔(∀x∈l,nameS x=true)∧l.Nodup:=by
 have:=J4F l l [] rfl
 simpa using this
def tyOK (x:Slt):Prop:=x.type=1∨x.type=2
theorem J9Z (x:Slt):typS x=true↔tyOK x:=by simp only[typS,Bool.and_eq_true,decide_eq_true_eq,tyOK];omega
theorem J5c (F:Vm) (s:ByteArray):addOK F s=true↔nameS s=true∧sfind F s=none:=by
 unfold addOK
 rw[J3F]
 cases sfind F s<;>simp
theorem J0Q (v:Int):∀(l:List Slt) (F:Vm),slotGo v F l=none↔¬((∀x∈l,nameS x.name=true∧tyOK x∧sfind F x.name=none)∧(l.map sNm).Nodup)
 |[],F=>by simp[slotGo]
 |x::l,F=>by
  simp only[slotGo,J5c]
  by_cases h:(nameS x.name=true∧sfind F x.name=none)∧(x.type=1∨x.type=2)
  ·rw[if_pos h,J0Q v l]
   obtain⟨⟨h1,h2⟩,h3⟩:=h
   refine not_congr ?_
   simp only[List.mem_cons,List.map_cons,List.nodup_cons,List.mem_map,not_exists,not_and]
   constructor
   ·rintro⟨g1,g2⟩
    refine⟨fun y hy=>?_,fun y hy e=>?_,g2⟩
    ·rcases hy with rfl|hy
     ·exact⟨h1,h3,h2⟩
     ·obtain⟨a,b,c⟩:=g1 y hy
      rw[JG]at c
      refine⟨a,b,?_⟩
      split at c
      ·cases c
      ·exact c
    ·have:=(g1 y hy).2.2
     rw[JG,if_pos (show y.name=x.name from e)]at this;cases this
   ·rintro⟨g1,g2,g3⟩
    refine⟨fun y hy=>?_,g3⟩
    obtain⟨a,b,c⟩:=g1 y (.inr hy)
    refine⟨a,b,?_⟩
    rw[JG,if_neg (show ¬y.name=x.name from fun e=>g2 y hy e)]
    exact c
  ·rw[if_neg h]
   simp only[true_iff]
   intro hc
   obtain⟨a,b,c⟩:=hc.1 x List.mem_cons_self
   exact h ⟨⟨a,c⟩,b⟩
open Classical in
theorem J1V (v:Int):∀(l:List Slt) (F F':Vm),slotGo v F l=some F'→∀s,sfind F' s=if s∈l.map sNm then some v else sfind F s
 |[],F,F',h,s=>by simp only[slotGo,Option.some.injEq]at h;subst h;simp
 |x::l,F,F',h,s=>by
  simp only[slotGo]at h
  split at h
  ·rw[J1V v l _ F' h s,JG]
   by_cases h1:s∈l.map sNm
   ·simp[h1]
   ·by_cases h2:s=x.name
    ·simp[h1,h2,sNm]
    ·simp[h1,h2,sNm]
  ·cases h
theorem J2l:∀(l:List ByteArray) (F:Vm),locGo F l=none↔¬((∀x∈l,nameS x=true∧sfind F x=none)∧l.Nodup)
 |[],F=>by simp[locGo]
 |x::l,F=>by
  simp only[locGo,J5c]
  by_cases h:nameS x=true∧sfind F x=none
  ·rw[if_pos h,J2l l]
   obtain⟨h1,h2⟩:=h
   refine not_congr ?_
   simp only[List.mem_cons,List.nodup_cons]
   constructor
   ·rintro⟨g1,g2⟩
    refine⟨fun y hy=>?_,fun hx=>?_,g2⟩
    ·rcases hy with rfl|hy
     ·exact⟨h1,h2⟩
     ·obtain⟨a,c⟩:=g1 y hy
      rw[JG]at c
      refine⟨a,?_⟩
      split at c
      ·cases c
      ·exact c
    ·have:=(g1 x hx).2
     rw[JG,if_pos rfl]at this;cases this
   ·rintro⟨g1,g2,g3⟩
    refine⟨fun y hy=>?_,g3⟩
    obtain⟨a,c⟩:=g1 y (.inr hy)
    exact⟨a,by rw[JG,if_neg (show ¬y=x from fun e=>g2 (e▸hy))];exact c⟩
  ·rw[if_neg h]
   simp only[true_iff]
   intro hc
   exact h (hc.1 x List.mem_cons_self)
open Classical in
theorem J4k:∀(l:List ByteArray) (F F':Vm),locGo F l=some F'→∀s,sfind F' s=if s∈l then some 1 else sfind F s
 |[],F,F',h,s=>by simp only[locGo,Option.some.injEq]at h;subst h;simp
 |x::l,F,F',h,s=>by
  simp only[locGo]at h
  split at h
  ·rw[J4k l _ F' h s,JG]
   by_cases h1:s∈l
   ·simp[h1]
   ·by_cases h2:s=x
    ·simp[h1,h2]
    ·simp[h1,h2]
  ·cases h
open Classical in
def mapOf (c:Cls) (F:Vm):Prop:=∀s,sfind F s=if s∈c.outs.map sNm∨s∈c.locs then some 1 else if s∈c.ins.map sNm then some 0 else none
open Classical in
theorem Jb9 (c:Cls):(((∀x∈nmsC c,nameS x=true)∧(nmsC c).Nodup∧∀x∈c.ins++c.outs,tyOK x)→∃F,(slotsGo 0 [c.ins,c.outs] []).bind (fun F=>locGo F c.locs)=some F∧mapOf c F)∧
  (¬((∀x∈nmsC c,nameS x=true)∧(nmsC c).Nodup∧∀x∈c.ins++c.outs,tyOK x)→(slotsGo 0 [c.ins,c.outs] []).bind (fun F=>locGo F c.locs)=none):=by
 have e0:slotsGo 0 [c.ins,c.outs] []=(slotGo 0 [] c.ins).bind fun F=>slotGo 1 F c.outs:=by
  simp only[slotsGo]
  cases slotGo ((0:Nat):Int) [] c.ins with
  |none=>rfl
  |some F=>
   simp only[Option.bind_some]
   cases slotGo ((0+1:Nat):Int) F c.outs<;>rfl
 rw[e0]
 have nd:(nmsC c).Nodup↔(c.ins.map sNm).Nodup∧(c.outs.map sNm).Nodup∧(∀x∈c.ins.map sNm,x∉c.outs.map sNm)∧c.locs.Nodup∧∀x,(x∈c.ins.map sNm∨x∈c.outs.map sNm)→x∉c.locs:=by
  unfold nmsC
  rw[List.nodup_append,List.nodup_append]
  constructor
  ·rintro⟨⟨a,b,d⟩,e,f⟩
   exact⟨a,b,fun x hx hy=>d x hx x hy rfl,e,fun x hx hy=>f x (by simpa using hx) x hy rfl⟩
  ·rintro⟨a,b,d,e,f⟩
   exact⟨⟨a,b,fun x hx y hy h=>d x hx (h▸hy)⟩,e,fun x hx y hy h=>f x (by simpa using hx) (h▸hy)⟩
 have nm:(∀x∈nmsC c,nameS x=true)↔(∀x∈c.ins,nameS x.name=true)∧(∀x∈c.outs,nameS x.name=true)∧∀x∈c.locs,nameS x=true:=by
  unfold nmsC
  simp only[List.mem_append,List.mem_map]
  constructor
  ·intro h
   exact⟨fun x hx=>h _ (.inl (.inl ⟨x,hx,rfl⟩)),fun x hx=>h _ (.inl (.inr ⟨x,hx,rfl⟩)),fun x hx=>h x (.inr hx)⟩
  ·rintro⟨a,b,d⟩ x ((⟨y,hy,rfl⟩|⟨y,hy,rfl⟩)|hx)
   ·exact a y hy
   ·exact b y hy
   ·exact d x hx
 rw[nd,nm]
 cases h1:slotGo 0 [] c.ins with
 |none=>
  have g1:=(J0Q 0 c.ins []).1 h1
  refine⟨fun h=>absurd ⟨fun x hx=>⟨h.1.1 x hx,h.2.2 x (by simp[hx]),rfl⟩,h.2.1.1⟩ g1,fun _=>rfl⟩
 |some F1=>
  have g1:(∀x∈c.ins,nameS x.name=true∧tyOK x∧sfind ([]:Vm) x.name=none)∧(c.ins.map sNm).Nodup:=by
   rcases Classical.em ((∀x∈c.ins,nameS x.name=true∧tyOK x∧sfind ([]:Vm) x.name=none)∧(c.ins.map sNm).Nodup)with h|h
   ·exact h
   ·rw[(J0Q 0 c.ins []).2 h]at h1;cases h1
  have f1:=J1V 0 c.ins [] F1 h1
  simp only[Option.bind_some]
  cases h2:slotGo 1 F1 c.outs with
  |none=>
   have g2:=(J0Q 1 c.outs F1).1 h2
   refine⟨fun h=>absurd ⟨fun x hx=>⟨h.1.2.1 x hx,h.2.2 x (by simp[hx]),?_⟩,h.2.1.2.1⟩ g2,fun _=>rfl⟩
   rw[f1,if_neg (show ¬x.name∈c.ins.map sNm from fun hy=>h.2.1.2.2.1 _ hy (List.mem_map.2 ⟨x,hx,rfl⟩))];rfl
  |some F2=>
   have g2:(∀x∈c.outs,nameS x.name=true∧tyOK x∧sfind F1 x.name=none)∧(c.outs.map sNm).Nodup:=by
    rcases Classical.em ((∀x∈c.outs,nameS x.name=true∧tyOK x∧sfind F1 x.name=none)∧(c.outs.map sNm).Nodup)with h|h
    ·exact h
    ·rw[(J0Q 1 c.outs F1).2 h]at h2;cases h2
   have f2:=J1V 1 c.outs F1 F2 h2
   simp only[Option.bind_some]
   cases h3:locGo F2 c.locs with
   |none=>
    have g3:=(J2l c.locs F2).1 h3
    refine⟨fun h=>absurd ⟨fun x hx=>⟨h.1.2.2 x hx,?_⟩,h.2.1.2.2.2.1⟩ g3,fun _=>rfl⟩
    rw[f2,if_neg (fun hy=>h.2.1.2.2.2.2 x (.inr hy) hx),f1,if_neg (fun hy=>h.2.1.2.2.2.2 x (.inl hy) hx)];rfl
   |some F3=>
    have g3:(∀x∈c.locs,nameS x=true∧sfind F2 x=none)∧c.locs.Nodup:=by
     rcases Classical.em ((∀x∈c.locs,nameS x=true∧sfind F2 x=none)∧c.locs.Nodup)with h|h
     ·exact h
     ·rw[(J2l c.locs F2).2 h]at h3;cases h3
    have f3:=J4k c.locs F2 F3 h3
    refine⟨fun _=>⟨F3,rfl,fun s=>?_⟩,fun h=>absurd ⟨⟨fun x hx=>(g1.1 x hx).1,fun x hx=>(g2.1 x hx).1,fun x hx=>(g3.1 x hx).1⟩,⟨g1.2,g2.2,?_,g3.2,?_⟩,?_⟩ h⟩
    ·rw[f3,f2,f1]
     by_cases a:s∈c.locs
     ·simp[a]
     ·by_cases b:s∈c.outs.map sNm
      ·simp only[a,b,if_true,if_false,true_or]
      ·simp only[a,b,if_false,or_self];rfl
    ·intro x hx hy
     obtain⟨y,hyo,rfl⟩:=List.mem_map.1 hy
     have:=(g2.1 y hyo).2.2
     rw[f1,if_pos (show y.name∈c.ins.map sNm from hx)]at this;cases this
    ·intro x hx hl
     have:=(g3.1 x hl).2
     rw[f2]at this
     rcases hx with hx|hx
     ·split at this
      ·cases this
      ·rw[f1,if_pos hx]at this;cases this
     ·rw[if_pos hx]at this;cases this
    ·intro x hx
     rcases List.mem_append.1 hx with h|h
     ·exact(g1.1 x h).2.1
     ·exact(g2.1 x h).2.1
end Go.Pm
/- Part of the proof: Ml2. -/
namespace Go.Pm
theorem J5R (l:List ByteArray) (s:ByteArray):inS l s=true↔s∈l:=by
 simp[inS]
theorem J7P (c:Cls) (s:ByteArray):s∈nmsC c↔s∈c.ins.map sNm∨s∈c.outs.map sNm∨s∈c.locs:=by
 unfold nmsC;simp only[List.mem_append,or_assoc]
theorem J6H {c:Cls} {F:Vm} (hF:mapOf c F) (s:ByteArray):(sfind F s).isSome=inS (nmsC c) s:=by
 rw[Bool.eq_iff_iff,J5R,J7P,hF s]
 by_cases h1:s∈c.outs.map sNm∨s∈c.locs
 ·rw[if_pos h1]
  simp only[Option.isSome_some,true_iff]
  exact .inr h1
 ·rw[if_neg h1]
  by_cases h2:s∈c.ins.map sNm
  ·rw[if_pos h2];simp[h2]
  ·rw[if_neg h2]
   simp only[Option.isSome_none,Bool.false_eq_true,false_iff]
   exact fun h=>h.elim h2 h1
theorem Jbb {c:Cls} {F:Vm} (hF:mapOf c F) (hn:(nmsC c).Nodup) (s:ByteArray):setS c s=true↔sfind F s=some 1:=by
 rw[hF s]
 unfold setS
 rw[decide_eq_true_eq]
 have hl:(c.ins.map sNm).length=c.ins.length:=by simp
 have e:nmsC c=c.ins.map sNm++(c.outs.map sNm++c.locs):=by simp[nmsC]
 by_cases h2:s∈c.ins.map sNm
 ·have hno:¬(s∈c.outs.map sNm∨s∈c.locs):=by
   rw[e,List.nodup_append]at hn
   exact fun h=>hn.2.2 s h2 s (by simpa using h) rfl
  rw[if_neg hno,if_pos h2]
  have:=(J1v (s:=s) (c.outs.map sNm++c.locs) (j:=0) h2).2
  rw[←e]at this
  constructor
  ·intro h;omega
  ·intro h;simp at h
 ·by_cases h1:s∈c.outs.map sNm∨s∈c.locs
  ·rw[if_pos h1]
   simp only[iff_true]
   rw[e,J1F _ h2]
   have:=J8g (s:=s) (l:=c.outs.map sNm++c.locs) (j:=0+(c.ins.map sNm).length) (by simpa using h1)
   omega
  ·rw[if_neg h1,if_neg h2]
   rw[J4l (by rw[J7P];exact fun h=>h.elim h2 h1)]
   simp only[reduceCtorEq,iff_false]
   omega
theorem J5b {c:Cls} {F:Vm} (hF:mapOf c F) (hn:(nmsC c).Nodup) (W:Vm) (s:ByteArray):givenI F W s=true↔setS c s=true∧wget W s=0:=by
 rw[Jbb hF hn]
 unfold givenI
 cases sfind F s with
 |none=>simp
 |some v=>simp
theorem J82 {c:Cls} {F:Vm} (hF:mapOf c F) (x:Itm):ciI F c.mems.length x=(itemS x&&itmS c x&&decide (1≤x.op∧x.op≤25)):=by
 unfold ciI itmS
 rw[Jak,J6H hF]
 by_cases h25:x.op=25
 ·have hi:itemS x=decide (x.name=⟨#[]⟩):=by
   unfold itemS
   simp only[h25]
   by_cases hn:x.name=⟨#[]⟩<;>simp[hn]
  rw[hi]
  simp only[h25]
  by_cases hn:x.name=⟨#[]⟩
  ·by_cases hv:x.val<0∨(c.mems.length:Int)≤x.val
   ·have:x.val<0∨(c.mems.length:Int)≤x.val∨x.name≠⟨#[]⟩:=by rcases hv with h|h;exact .inl h;exact .inr (.inl h)
    simp[hv,this,hn]
   ·have:¬(x.val<0∨(c.mems.length:Int)≤x.val∨x.name≠⟨#[]⟩):=fun h=>by rcases h with h|h|h;exact hv (.inl h);exact hv (.inr h);exact h hn
    simp[hv,this,hn]
  ·have:x.val<0∨(c.mems.length:Int)≤x.val∨x.name≠⟨#[]⟩:=.inr (.inr hn)
   simp[this,hn]
 ·by_cases h20:20<x.op
  ·simp[h25,h20]
  ·by_cases h1:x.op<1
   ·have:¬(1≤x.op):=by omega
    simp[h25,h20,h1,this]
   ·have g1:1≤x.op:=by omega
    have g2:x.op≤24:=by omega
    have g3:x.op≤25:=by omega
    cases hi:itemS x with
    |false=>simp[h25,h20,h1,g1,g2,g3]
    |true=>
     by_cases h3:x.op=3
     ·cases hk:inS (nmsC c) x.name<;>simp[h3,hk]
     ·simp[h25,h20,h1,g1,g2,g3,h3]
theorem J4s {c:Cls} {F:Vm} (hF:mapOf c F) (l:List Itm):codeI F c.mems.length l=mcodeS c l:=by
 unfold codeI mcodeS codeS
 by_cases h1:(l.length:Int)<1∨6000<(l.length:Int)
 ·have h2:(l.length:Int)<1∨6000<(l.length:Int)∨beginS l l.length 1≠0:=by omega
  simp[h1,h2]
 ·by_cases hb:beginS l l.length 1=0
  ·have h2:¬((l.length:Int)<1∨6000<(l.length:Int)∨beginS l l.length 1≠0):=by omega
   rw[if_neg h1,if_neg h2,Bool.eq_iff_iff]
   simp only[Bool.and_eq_true,List.all_eq_true]
   have hops:∀x∈l,1≤x.op∧x.op≤25:=by
    intro x hx
    obtain⟨j,hj⟩:=List.getElem?_of_mem hx
    have:=J5o l l.length 1 hb j x (Jc hj).2 hj
    unfold sarityI at this
    grind
   constructor
   ·rintro⟨ha,hp⟩
    refine⟨fun x hx=>?_,fun x hx=>?_⟩
    ·have:=ha x hx;rw[J82 hF]at this;simp only[Bool.and_eq_true]at this;exact this.1.1
    ·have:=ha x hx;rw[J82 hF]at this;simp only[Bool.and_eq_true]at this;exact this.1.2
   ·rintro⟨ha,hq⟩
    refine⟨fun x hx=>?_,?_⟩
    ·rw[J82 hF];simp only[Bool.and_eq_true,decide_eq_true_eq];exact⟨⟨ha x hx,hq x hx⟩,hops x hx⟩
    ·rw[J5n]
     have:=(J2p l hops l.length 1 (Nat.le_refl _) (by omega)).1 hb
     rwa [List.take_length]at this
  ·have h2:(l.length:Int)<1∨6000<(l.length:Int)∨beginS l l.length 1≠0:=.inr (.inr hb)
   rw[if_neg h1,if_pos h2,Bool.false_and,Bool.eq_false_iff]
   intro hc
   simp only[Bool.and_eq_true,List.all_eq_true]at hc
   obtain⟨ha,hp⟩:=hc
   have hr:∀x∈l,1≤x.op∧x.op≤25:=by
    intro x hx
    have:=ha x hx
    rw[J82 hF]at this
    simp only[Bool.and_eq_true,decide_eq_true_eq]at this
    exact this.2
   rw[J5n]at hp
   have:=(J2p l hr l.length 1 (Nat.le_refl _) (by omega)).2 (by rw[List.take_length];exact hp)
   exact hb this
theorem J5z (c:Cls) (p:List ByteArray):∀(l q:List ByteArray),q++l=p→(outsS c p q.length l=true↔(∀x∈l,setS c x=true∧x∉q)∧l.Nodup)
 |[],q,_=>by simp[outsS]
 |x::l,q,e=>by
  have ih:=J5z c p l (q++[x]) (by simpa using e)
  rw[List.length_append,List.length_singleton]at ih
  have hp:placeS x 0 p<(q.length:Int)↔x∈q:=by
   constructor
   ·intro h
    by_cases hx:x∈q
    ·exact hx
    ·rw[←e,J1F _ hx]at h
     simp only[placeS,if_true]at h
     omega
   ·intro h
    have:=(J1v (s:=x) (x::l) (j:=0) h).2
    rw[e]at this
    omega
  simp only[outsS]
  cases hn:setS c x with
  |false=>simp[hn]
  |true=>
   by_cases hq:x∈q
   ·rw[if_pos (.inr (hp.2 hq))]
    simp[hq]
   ·rw[if_neg (fun h=>h.elim (by simp) (fun h=>hq (hp.1 h))),ih]
    simp only[List.mem_cons,List.nodup_cons,List.mem_append,List.not_mem_nil,or_false,not_or]
    constructor
    ·rintro⟨h1,h2⟩
     refine⟨fun y hy=>?_,fun hx=>(h1 x hx).2.2 rfl,h2⟩
     rcases hy with rfl|hy
     ·exact⟨hn,hq⟩
     ·exact⟨(h1 y hy).1,(h1 y hy).2.1⟩
    ·rintro⟨h1,h2,h3⟩
     exact⟨fun y hy=>⟨(h1 y (.inr hy)).1,(h1 y (.inr hy)).2,fun e=>h2 (e▸hy)⟩,h3⟩
theorem J4f (F W:Vm):∀(l:List ByteArray) (E:List (ByteArray×Bool)),outsGo F W E l=true↔(∀x∈l,givenI F W x=true∧(sfind E x).getD false=false)∧l.Nodup
 |[],E=>by simp[outsGo]
 |x::l,E=>by
  simp only[outsGo]
  by_cases h:givenI F W x=true∧(sfind E x).getD false=false
  ·rw[if_pos h,J4f F W l]
   simp only[List.mem_cons,List.nodup_cons]
   constructor
   ·rintro⟨g1,g2⟩
    refine⟨fun y hy=>?_,fun hx=>?_,g2⟩
    ·rcases hy with rfl|hy
     ·exact h
     ·obtain⟨a,b⟩:=g1 y hy
      rw[JG]at b
      refine⟨a,?_⟩
      split at b
      ·cases b
      ·exact b
    ·have:=(g1 x hx).2
     rw[JG,if_pos rfl]at this;cases this
   ·rintro⟨g1,g2,g3⟩
    refine⟨fun y hy=>?_,g3⟩
    obtain⟨a,b⟩:=g1 y (.inr hy)
    exact⟨a,by rw[JG,if_neg (show ¬y=x from fun e=>g2 (e▸hy))];exact b⟩
  ·rw[if_neg h]
   simp only[Bool.false_eq_true,false_iff]
   intro hc
   exact h (hc.1 x List.mem_cons_self)
theorem Jb2 {c:Cls} {F:Vm} (hF:mapOf c F) (hn:(nmsC c).Nodup) (W:Vm) (l:List ByteArray):outsGo F W [] l=true↔outsS c l 0 l=true∧∀x∈l,wget W x=0:=by
 have h1:=J5z c l l [] rfl
 rw[List.length_nil]at h1
 rw[h1,J4f]
 simp only[J5b hF hn,List.not_mem_nil,not_false_eq_true,and_true]
 constructor
 ·rintro⟨a,b⟩;exact⟨⟨fun x hx=>(a x hx).1.1,b⟩,fun x hx=>(a x hx).1.2⟩
 ·rintro⟨⟨a,b⟩,d⟩;exact⟨fun x hx=>⟨⟨a x hx,d x hx⟩,rfl⟩,b⟩
end Go.Pm
/- Part of the proof: Ml3. -/
namespace Go.Pm
def nxtI (s:Sm) (S:List ByteArray) (W:Vm):List ByteArray×Vm:=
 if s.kind=4 then(S++[s.name],sput W s.name (wget W s.name+1))
 else if s.kind=6 then(S.dropLast,sput W ((S.getLast?).getD s.name) (wget W ((S.getLast?).getD s.name)-1))
 else(S,W)
def condI (cs:List Cls) (c:Cls) (s:Sm) (S:List ByteArray) (W:Vm):Prop:=
 stmS cs c s=true∧¬(20<S.length∧s.kind≠5∧s.kind≠6)∧(∀x,writesS s x=true→wget W x=0)∧(s.kind=6→S≠[])
theorem J13 {s:Sm} (h1:s.kind≠1) (h3:s.kind≠3) (x:ByteArray):writesS s x=false:=by simp[writesS,h1,h3]
theorem nowr {s:Sm} {W:Vm} (h1:s.kind≠1) (h3:s.kind≠3):∀x,writesS s x=true→wget W x=0:=by
 intro x hx;rw[J13 h1 h3]at hx;cases hx
theorem Jcb (s:Sm):b2 s=(c1 s||c2 s):=by
 unfold b2 c1 c0 c2
 rw[Bool.eq_iff_iff]
 simp only[Bool.or_eq_true,Bool.and_eq_true,decide_eq_true_eq,Bool.not_eq_true',Bool.or_eq_false_iff,decide_eq_false_iff_not]
 constructor
 ·rintro(⟨⟨h1,h2⟩,h3⟩|⟨⟨h1,h2⟩,h3⟩)
  ·exact .inr ⟨⟨h1,h2⟩,h3⟩
  ·exact .inl ⟨⟨h1,h2⟩,h3⟩
 ·rintro(⟨⟨h1,h2⟩,h3⟩|⟨⟨h1,h2⟩,h3⟩)
  ·exact .inr ⟨⟨h1,h2⟩,h3⟩
  ·exact .inl ⟨⟨h1,h2⟩,h3⟩
theorem J7H {n:Nat}:decide (0<(n:Int))=decide ((n:Int)≠0):=by
 rw[Bool.eq_iff_iff];simp only[decide_eq_true_eq];omega
theorem Jcd (s:Sm):b3 s=(c3 s||c4 s):=by
 unfold b3 c3 c4
 rw[J7H,J7H,J7H]
theorem J2T {cs:List Cls} {c:Cls} {F:Vm} (hF:mapOf c F) (hn:(nmsC c).Nodup) (s:Sm) (S:List ByteArray) (W:Vm):
  (condI cs c s S W→stmI cs c F s S W=some (nxtI s S W))∧(¬condI cs c s S W→stmI cs c F s S W=none):=by
 unfold condI stmI stmS
 rw[Jcb,Jcd]
 by_cases h1:b1 s S.length=true
 ·rw[if_pos h1]
  refine⟨fun h=>absurd ?_ h.2.1,fun _=>rfl⟩
  simp only[b1,Bool.and_eq_true,decide_eq_true_eq]at h1
  exact⟨by omega,h1.1.2,h1.2⟩
 rw[if_neg h1]
 have hd:¬(20<S.length∧s.kind≠5∧s.kind≠6):=by
  intro h
  apply h1
  simp only[b1,Bool.and_eq_true,decide_eq_true_eq]
  exact⟨⟨by omega,h.2.1⟩,h.2.2⟩
 simp only[hd,not_false_eq_true,true_and]
 cases e1:c1 s with
 |true=>simp
 |false=>
 cases e2:c2 s with
 |true=>simp
 |false=>
 cases e3:c3 s with
 |true=>simp
 |false=>
 cases e4:c4 s with
 |true=>simp
 |false=>
 simp only[Bool.or_self,Bool.false_eq_true,if_false]
 by_cases k1:s.kind=1
 ·have hw:(∀x,writesS s x=true→wget W x=0)↔wget W s.name=0:=by
   constructor
   ·intro h;exact h s.name (by simp[writesS,k1])
   ·intro h x hx;simp[writesS,k1]at hx;rw[←hx];exact h
  have h6:s.kind=6→S≠[]:=fun h=>by omega
  simp only[k1,if_true,J5b hF hn,J4s hF,Bool.and_eq_true,hw]
  have nx:nxtI s S W=(S,W):=by unfold nxtI;rw[if_neg (by omega),if_neg (by omega)]
  rw[nx]
  constructor
  ·rintro⟨⟨a,b⟩,d,_⟩;rw[if_pos ⟨⟨a,d⟩,b⟩]
  ·intro h
   rw[if_neg (fun g=>h ⟨⟨g.1.1,g.2⟩,g.1.2,fun e=>by omega⟩)]
 by_cases k2:s.kind=2
 ·have nx:nxtI s S W=(S,W):=by unfold nxtI;rw[if_neg (by omega),if_neg (by omega)]
  simp only[if_neg k1,if_pos k2,J4s hF,Bool.and_eq_true,decide_eq_true_eq,nx]
  constructor
  ·rintro⟨⟨⟨a,b⟩,d⟩,_⟩;rw[if_pos ⟨a,b,d⟩]
  ·intro h
   rw[if_neg (fun g=>h ⟨⟨⟨g.1,g.2.1⟩,g.2.2⟩,nowr (by omega) (by omega),fun e=>by omega⟩)]
 by_cases k3:s.kind=3
 ·have nx:nxtI s S W=(S,W):=by unfold nxtI;rw[if_neg (by omega),if_neg (by omega)]
  have hw:(∀x,writesS s x=true→wget W x=0)↔∀x∈s.outs,wget W x=0:=by
   constructor
   ·intro h x hx;exact h x (by simp only[writesS,k3];rw[(J5R s.outs x).2 hx];rfl)
   ·intro h x hx
    simp only[writesS,k3]at hx
    exact h x ((J5R s.outs x).1 (by simpa using hx))
  have k4:¬s.kind=4:=by omega
  have k56:¬(s.kind=5∨s.kind=6):=by omega
  simp only[if_neg k1,if_neg k2,if_pos k3,if_neg k4,if_neg k56,nx,hw]
  by_cases hp:0≤s.pos∧s.pos<(c.insts.length:Int)
  ·rw[if_pos hp,if_neg (show ¬(s.pos<0∨(c.insts.length:Int)≤s.pos) by omega)]
   cases (c.insts[s.pos.toNat]?).bind (fun g=>cs[g.toNat]?)with
   |none=>simp
   |some d=>
    dsimp only
    have ha:s.args.all (codeI F c.mems.length)=s.args.all (mcodeS c):=by rw[show codeI F c.mems.length=mcodeS c from funext (J4s hF)]
    rw[ha]
    by_cases hl:s.outs.length=d.outs.length∧s.args.length=d.ins.length
    ·rw[if_pos hl]
     simp only[Bool.and_eq_true,Jb2 hF hn]
     constructor
     ·rintro⟨⟨a,b⟩,g,_⟩;rw[if_pos ⟨hl.1,hl.2,⟨a,g⟩,b⟩]
     ·intro h
      rw[if_neg (fun g=>h ⟨⟨g.2.2.1.1,g.2.2.2⟩,g.2.2.1.2,fun e=>by omega⟩)]
    ·rw[if_neg hl,if_neg (fun g=>hl ⟨g.1,g.2.1⟩)]
     simp
  ·rw[if_neg hp,if_pos (show s.pos<0∨(c.insts.length:Int)≤s.pos by omega)]
   simp
 by_cases k4:s.kind=4
 ·have nx:nxtI s S W=(S++[s.name],sput W s.name (wget W s.name+1)):=by unfold nxtI;rw[if_pos k4]
  simp only[if_neg k1,if_neg k2,if_neg k3,if_pos k4,nx,J6H hF]
  constructor
  ·rintro⟨a,_⟩;rw[if_pos a]
  ·intro h
   rw[if_neg (fun g=>h ⟨g,nowr (by omega) (by omega),fun e=>by omega⟩)]
 by_cases k5:s.kind=5
 ·have nx:nxtI s S W=(S,W):=by unfold nxtI;rw[if_neg (by omega),if_neg (by omega)]
  have k56:s.kind=5∨s.kind=6:=.inl k5
  rw[nx]
  simp only[if_neg k1,if_neg k2,if_neg k3,if_neg k4,if_pos k5,if_pos k56,true_and,implies_true]
  intro h
  exact absurd ⟨nowr (by omega) (by omega),fun e=>by omega⟩ h
 by_cases k6:s.kind=6
 ·have k56:s.kind=5∨s.kind=6:=.inr k6
  simp only[if_neg k1,if_neg k2,if_neg k3,if_neg k4,if_neg k5,if_pos k6,if_pos k56,true_and]
  cases hg:S.getLast? with
  |none=>
   have:S=[]:=by simpa using hg
   dsimp only
   exact⟨fun h=>absurd this (h.2 k6),fun _=>rfl⟩
  |some x=>
   have:S≠[]:=by intro e;rw[e]at hg;cases hg
   have nx:nxtI s S W=(S.dropLast,sput W x (wget W x-1)):=by unfold nxtI;rw[if_neg (by omega),if_pos k6,hg];rfl
   dsimp only
   rw[nx]
   exact⟨fun _=>rfl,fun h=>absurd ⟨nowr (by omega) (by omega),fun _=>this⟩ h⟩
 have k56:¬(s.kind=5∨s.kind=6):=fun h=>h.elim k5 k6
 simp only[if_neg k1,if_neg k2,if_neg k3,if_neg k4,if_neg k5,if_neg k6,if_neg k56]
 simp
def up (w:ByteArray→Int) (s:Sm):ByteArray→Int:=fun x=>if x=s.name then w x+1 else w x
mutual
def depB:Br→Nat→Prop
 |.nd s Y N,n=>n≤20∧(s.kind=4→depL Y (n+1)∧depL N (n+1))
def depL:List Br→Nat→Prop
 |[],_=>True
 |b::R,n=>depB b n∧depL R n
end
mutual
def wthB:Br→(ByteArray→Int)→Prop
 |.nd s Y N,w=>(∀x,writesS s x=true→w x=0)∧(s.kind=4→wthL Y (up w s)∧wthL N (up w s))
def wthL:List Br→(ByteArray→Int)→Prop
 |[],_=>True
 |b::R,w=>wthB b w∧wthL R w
end
theorem J7b (W:Vm) (s u:ByteArray) (v:Int):wget (sput W s v) u=if u=s then v else wget W u:=by
 unfold wget
 rw[JG]
 split<;>rfl
theorem J1j {cs:List Cls} {c:Cls} {F:Vm} {s:Sm} {l:List Sm} {S:List ByteArray} {W:Vm}:bodyGo cs c F (s::l) S W=(stmI cs c F s S W).bind fun p=>bodyGo cs c F l p.1 p.2:=rfl
theorem J7k {cs:List Cls} {c:Cls} {F:Vm} (hF:mapOf c F) (hn:(nmsC c).Nodup) {l:List Sm} {T:List Br} (h:Spell l T):∀(r:List Sm) (S:List ByteArray) (W:Vm),
  (l.all (stmS cs c)=true∧depL T S.length∧wthL T (wget W)→∃W',(∀u,wget W' u=wget W u)∧bodyGo cs c F (l++r) S W=bodyGo cs c F r S W')∧
  (¬(l.all (stmS cs c)=true∧depL T S.length∧wthL T (wget W))→bodyGo cs c F (l++r) S W=none):=by
 induction h with
 |nil=>intro r S W;exact⟨fun _=>⟨W,fun _=>rfl,rfl⟩,fun h=>absurd ⟨rfl,trivial,trivial⟩ h⟩
 |@leaf s l T h4 h5 h6 _ ih=>
  intro r S W
  have hst:=J2T (cs:=cs) hF hn s S W
  have nx:nxtI s S W=(S,W):=by unfold nxtI;rw[if_neg h4,if_neg h6]
  rw[nx]at hst
  simp only[List.cons_append,J1j,List.all_cons,Bool.and_eq_true,depL,depB,wthL,wthB,h4,false_implies,and_true]
  by_cases hc:condI cs c s S W
  ·rw[hst.1 hc,Option.bind_some]
   obtain⟨i1,i2⟩:=ih r S W
   refine⟨fun h=>i1 ⟨h.1.2,h.2.1.2,h.2.2.2⟩,fun h=>i2 fun g=>h ⟨⟨hc.1,g.1⟩,⟨?_,g.2.1⟩,hc.2.2.1,g.2.2⟩⟩
   have:=hc.2.1
   rcases Nat.lt_or_ge 20 S.length with h20|h20
   ·exact absurd ⟨h20,h5,h6⟩ this
   ·exact h20
  ·rw[hst.2 hc]
   refine⟨fun h=>absurd ⟨h.1.1,fun g=>by have:=h.2.1.1;omega,h.2.2.1,fun e=>absurd e h6⟩ hc,fun _=>rfl⟩
 |@cond s e f y n l Y N T h4 h5 h6 _ _ _ ihy ihn ih=>
  intro r S W
  have e1:s::(y++e::(n++f::l))++r=s::(y++(e::(n++(f::(l++r))))):=by simp
  rw[e1]
  have hall:(s::(y++e::(n++f::l))).all (stmS cs c)=true↔stmS cs c s=true∧y.all (stmS cs c)=true∧stmS cs c e=true∧n.all (stmS cs c)=true∧stmS cs c f=true∧l.all (stmS cs c)=true:=by
   simp only[List.all_cons,List.all_append,Bool.and_eq_true]
  rw[hall]
  simp only[depL,depB,wthL,wthB,h4,true_implies]
  generalize hS1:S++[s.name]=S1
  have hl1:S1.length=S.length+1:=by rw[←hS1];simp
  have hst:=J2T (cs:=cs) hF hn s S W
  have nx:nxtI s S W=(S1,sput W s.name (wget W s.name+1)):=by unfold nxtI;rw[if_pos h4,hS1]
  rw[nx]at hst
  rw[J1j]
  by_cases hc:condI cs c s S W
  rotate_left
  ·rw[hst.2 hc]
   exact⟨fun h=>absurd ⟨h.1.1,fun g=>by have:=h.2.1.1.1;omega,h.2.2.1.1,fun e=>by omega⟩ hc,fun _=>rfl⟩
  rw[hst.1 hc,Option.bind_some]
  dsimp only
  have hd:S.length≤20:=by
   have:=hc.2.1
   rcases Nat.lt_or_ge 20 S.length with h20|h20
   ·exact absurd ⟨h20,by omega,by omega⟩ this
   ·exact h20
  generalize hW1:sput W s.name (wget W s.name+1)=W1
  have hw1:wget W1=up (wget W) s:=by
   funext u
   rw[←hW1,J7b]
   unfold up
   by_cases hu:u=s.name
   ·rw[if_pos hu,if_pos hu,hu]
   ·rw[if_neg hu,if_neg hu]
  rw[←hw1,←hl1]
  obtain⟨y1,y2⟩:=ihy (e::(n++(f::(l++r)))) S1 W1
  by_cases hy:y.all (stmS cs c)=true∧depL Y S1.length∧wthL Y (wget W1)
  rotate_left
  ·rw[y2 hy]
   exact⟨fun h=>absurd ⟨h.1.2.1,h.2.1.1.2.1,h.2.2.1.2.1⟩ hy,fun _=>rfl⟩
  obtain⟨W2,hW2,hy2⟩:=y1 hy
  have hw2:wget W2=wget W1:=funext hW2
  rw[hy2,J1j]
  have hse:=J2T (cs:=cs) hF hn e S1 W2
  have nxe:nxtI e S1 W2=(S1,W2):=by unfold nxtI;rw[if_neg (by omega),if_neg (by omega)]
  rw[nxe]at hse
  by_cases he:stmS cs c e=true
  rotate_left
  ·rw[hse.2 (fun h=>he h.1)]
   exact⟨fun h=>absurd h.1.2.2.1 he,fun _=>rfl⟩
  rw[hse.1 ⟨he,fun g=>g.2.1 h5,nowr (by omega) (by omega),fun g=>by omega⟩,Option.bind_some]
  dsimp only
  obtain⟨n1,n2⟩:=ihn (f::(l++r)) S1 W2
  rw[hw2]at n1 n2
  by_cases hn':n.all (stmS cs c)=true∧depL N S1.length∧wthL N (wget W1)
  rotate_left
  ·rw[n2 hn']
   exact⟨fun h=>absurd ⟨h.1.2.2.2.1,h.2.1.1.2.2,h.2.2.1.2.2⟩ hn',fun _=>rfl⟩
  obtain⟨W3,hW3,hn3⟩:=n1 hn'
  rw[hn3,J1j]
  have hsf:=J2T (cs:=cs) hF hn f S1 W3
  have hgl:S1.getLast? = some s.name:=by rw[←hS1];simp
  have hdl:S1.dropLast=S:=by rw[←hS1];simp
  have nxf:nxtI f S1 W3=(S,sput W3 s.name (wget W3 s.name-1)):=by unfold nxtI;rw[if_neg (by omega),if_pos h6,hgl,hdl];rfl
  rw[nxf]at hsf
  by_cases hf:stmS cs c f=true
  rotate_left
  ·rw[hsf.2 (fun h=>hf h.1)]
   exact⟨fun h=>absurd h.1.2.2.2.2.1 hf,fun _=>rfl⟩
  rw[hsf.1 ⟨hf,fun g=>g.2.2 h6,nowr (by omega) (by omega),fun _ g=>by rw[g]at hgl;cases hgl⟩,Option.bind_some]
  dsimp only
  generalize hW4:sput W3 s.name (wget W3 s.name-1)=W4
  have hw4:wget W4=wget W:=by
   funext u
   rw[←hW4,J7b,hW3,hW3,hw1]
   unfold up
   by_cases hu:u=s.name
   ·rw[if_pos hu,if_pos rfl,hu];omega
   ·rw[if_neg hu,if_neg hu]
  obtain⟨l1,l2⟩:=ih r S W4
  rw[hw4]at l1 l2
  by_cases hl:l.all (stmS cs c)=true∧depL T S.length∧wthL T (wget W)
  ·refine⟨fun _=>?_,fun h=>absurd ⟨⟨hc.1,hy.1,he,hn'.1,hf,hl.1⟩,⟨⟨hd,hy.2.1,hn'.2.1⟩,hl.2.1⟩,⟨hc.2.2.1,hy.2.2,hn'.2.2⟩,hl.2.2⟩ h⟩
   obtain⟨W5,h51,h52⟩:=l1 hl
   exact⟨W5,h51,h52⟩
  ·rw[l2 hl]
   exact⟨fun h=>absurd ⟨h.1.2.2.2.2.2,h.2.1.2,h.2.2.2⟩ hl,fun _=>rfl⟩
end Go.Pm
/- Part of the proof: Ml4. -/
namespace Go.Pm
mutual
theorem J8d:∀(b:Br) (n:Nat),n≤20→(deepB b n=true↔depB b n)
 |.nd s Y N,n,h=>by
  have e1:((n:Int)+1)=((n+1:Nat):Int):=rfl
  simp only[deepB,depB]
  by_cases k:s.kind=4
  ·rw[if_pos k]
   simp only[h,k,true_and,true_implies]
   by_cases hn:n+1≤20
   ·rw[if_neg (fun g=>by omega),Bool.and_eq_true,e1,J20 Y (n+1) hn,J20 N (n+1) hn]
   ·by_cases hy:Y≠[]∨N≠[]
    ·rw[if_pos ⟨hy,by omega⟩]
     simp only[Bool.false_eq_true,false_iff,not_and]
     intro h1 h2
     rcases hy with hy|hy
     ·cases Y with
      |nil=>exact hy rfl
      |cons b R=>obtain⟨s',Y',N'⟩:=b;simp only[depL,depB]at h1;omega
     ·cases N with
      |nil=>exact hy rfl
      |cons b R=>obtain⟨s',Y',N'⟩:=b;simp only[depL,depB]at h2;omega
    ·simp only[not_or,Decidable.not_not]at hy
     obtain⟨rfl,rfl⟩:=hy
     simp[deepL,depL]
  ·rw[if_neg k]
   simp[h,k]
theorem J20:∀(R:List Br) (n:Nat),n≤20→(deepL R n=true↔depL R n)
 |[],n,h=>by simp[deepL,depL]
 |b::R,n,h=>by simp only[deepL,depL,Bool.and_eq_true,J8d b n h,J20 R n h]
end
mutual
def wrB:Br→ByteArray→Bool
 |.nd s Y N,x=>writesS s x||(decide (s.kind=4)&&(wrL Y x||wrL N x))
def wrL:List Br→ByteArray→Bool
 |[],_=>false
 |b::R,x=>wrB b x||wrL R x
end
mutual
def noB:Br→Prop
 |.nd s Y N=>s.kind=4→(wrL Y s.name=false∧wrL N s.name=false)∧noL Y∧noL N
def noL:List Br→Prop
 |[]=>True
 |b::R=>noB b∧noL R
end
theorem Jbr {w:ByteArray→Int} (h:∀u,0≤w u) (s:Sm):∀u,0≤up w s u:=by
 intro u;have:=h u;unfold up;split<;>omega
theorem Jal {w:ByteArray→Int} (h:∀u,0≤w u) (s:Sm) (x:ByteArray):up w s x=0↔w x=0∧x≠s.name:=by
 have:=h x
 unfold up
 by_cases hx:x=s.name
 ·rw[if_pos hx];simp only[hx,ne_eq,not_true_eq_false,and_false,iff_false];rw[←hx];omega
 ·rw[if_neg hx];simp[hx]
mutual
theorem J9z:∀(b:Br) (w:ByteArray→Int),(∀u,0≤w u)→(wthB b w↔(∀x,wrB b x=true→w x=0)∧noB b)
 |.nd s Y N,w,h=>by
  simp only[wthB,wrB,noB]
  by_cases k:s.kind=4
  ·simp only[k,true_implies,decide_true,Bool.true_and,Bool.or_eq_true,J2P Y _ (Jbr h s),J2P N _ (Jbr h s),Jal h s]
   have hno:∀T:List Br,(∀x,wrL T x=true→w x=0∧x≠s.name)↔(∀x,wrL T x=true→w x=0)∧wrL T s.name=false:=by
    intro T
    constructor
    ·intro g
     refine⟨fun x hx=>(g x hx).1,?_⟩
     cases hb:wrL T s.name with
     |false=>rfl
     |true=>exact absurd rfl (g _ hb).2
    ·rintro⟨g1,g2⟩ x hx
     exact⟨g1 x hx,fun e=>by rw[e,g2]at hx;cases hx⟩
   rw[hno Y,hno N]
   constructor
   ·rintro⟨a,⟨⟨b1,b2⟩,b3⟩,⟨d1,d2⟩,d3⟩
    refine⟨fun x hx=>?_,⟨b2,d2⟩,b3,d3⟩
    rcases hx with hx|hx|hx
    ·exact a x hx
    ·exact b1 x hx
    ·exact d1 x hx
   ·rintro⟨a,⟨b2,d2⟩,b3,d3⟩
    exact⟨fun x hx=>a x (.inl hx),⟨⟨fun x hx=>a x (.inr (.inl hx)),b2⟩,b3⟩,⟨fun x hx=>a x (.inr (.inr hx)),d2⟩,d3⟩
  ·simp[k]
theorem J2P:∀(T:List Br) (w:ByteArray→Int),(∀u,0≤w u)→(wthL T w↔(∀x,wrL T x=true→w x=0)∧noL T)
 |[],w,h=>by simp[wthL,wrL,noL]
 |b::R,w,h=>by
  simp only[wthL,wrL,noL,J9z b w h,J2P R w h,Bool.or_eq_true]
  constructor
  ·rintro⟨⟨a,b⟩,d,e⟩
   exact⟨fun x hx=>hx.elim (a x) (d x),b,e⟩
  ·rintro⟨a,b,e⟩
   exact⟨⟨fun x hx=>a x (.inl hx),b⟩,fun x hx=>a x (.inr hx),e⟩
end
theorem J9P {l:List Sm} {T:List Br} (h:Spell l T) (x:ByteArray):l.any (fun t=>writesS t x)=wrL T x:=by
 induction h with
 |nil=>rfl
 |leaf h4 h5 h6 _ ih=>simp only[List.any_cons,ih,wrL,wrB,h4,decide_false,Bool.false_and,Bool.or_false]
 |cond h4 h5 h6 _ _ _ ihy ihn ih=>
  simp only[List.any_cons,List.any_append,ihy,ihn,ih,wrL,wrB,h4,decide_true,Bool.true_and,J13 (show ¬_=1 by rw[h5];decide) (show ¬_=3 by rw[h5];decide),J13 (show ¬_=1 by rw[h6];decide) (show ¬_=3 by rw[h6];decide),Bool.false_or,Bool.or_assoc]
theorem J9t {L:List Sm} {i:Nat} {t:Sm} (h:L[i]? = some t) (hk:t.kind≠4):withinAt writesS L i=true:=by
 unfold withinAt;rw[h];simp only[if_neg hk]
theorem Jcj {L:List Sm} {i:Nat} {s e f:Sm} {y n r:List Sm} {Y N:List Br} (h4:s.kind=4) (h5:e.kind=5) (h6:f.kind=6) (hy:Spell y Y) (hn:Spell n N) (hd:L.drop i=s::(y++e::(n++f::r))):
  withinAt writesS L i=true↔wrL Y s.name=false∧wrL N s.name=false:=by
 have hx:L[i]? = some s:=by
  have:(L.drop i)[0]? = some s:=by rw[hd];rfl
  rwa [List.getElem?_drop,Nat.add_zero]at this
 unfold withinAt
 rw[hx]
 simp only[h4,if_true]
 unfold partsS
 rw[hd,J1Q h4 h5 h6 hy hn]
 dsimp only
 rw[Int.toNat_natCast,show i+1+y.length+1+n.length-i=y.length+(n.length+1)+1 by omega,List.take_succ_cons,List.take_length_add_append,List.take_succ_cons,List.take_left]
 simp only[List.any_cons,List.any_append,J9P hy,J9P hn,J13 (show ¬s.kind=1 by omega) (show ¬s.kind=3 by omega),J13 (show ¬e.kind=1 by omega) (show ¬e.kind=3 by omega),Bool.false_or,Bool.not_eq_true',Bool.or_eq_false_iff]
theorem J62 {l:List Sm} {T:List Br} (h:Spell l T):∀(L p q:List Sm),L=p++(l++q)→((∀i,p.length≤i→i<p.length+l.length→withinAt writesS L i=true)↔noL T):=by
 induction h with
 |nil=>intro L p q _;simp only[noL,iff_true,List.length_nil];intro i h1 h2;omega
 |@leaf s l T h4 h5 h6 _ ih=>
  intro L p q e
  have i1:=ih L (p++[s]) q (by rw[e];simp)
  simp only[noL,noB,h4,false_implies,true_and]
  rw[←i1]
  simp only[List.length_append,List.length_cons,List.length_nil]
  constructor
  ·intro h i h1 h2;exact h i (by omega) (by omega)
  ·intro h i h1 h2
   rcases Nat.lt_or_ge p.length i with h3|h3
   ·exact h i (by omega) (by omega)
   ·have:i=p.length:=by omega
    subst this
    exact J9t (t:=s) (by rw[e,List.getElem?_append_right (Nat.le_refl _)];simp) h4
 |@cond s e f y n l Y N T h4 h5 h6 hy hn _ ihy ihn ih=>
  intro L p q eL
  have i1:=ihy L (p++[s]) (e::(n++f::(l++q))) (by rw[eL];simp)
  have i2:=ihn L (p++s::(y++[e])) (f::(l++q)) (by rw[eL];simp)
  have i3:=ih L (p++s::(y++e::(n++[f]))) q (by rw[eL];simp)
  have i0:withinAt writesS L p.length=true↔wrL Y s.name=false∧wrL N s.name=false:=
   Jcj h4 h5 h6 hy hn (r:=l++q) (by rw[eL,List.drop_left];simp)
  have ie:withinAt writesS L (p.length+1+y.length)=true:=by
   refine J9t (t:=e) ?_ (by omega)
   rw[eL,show p++(s::(y++e::(n++f::l))++q)=(p++s::y)++e::(n++f::(l++q)) by simp,List.getElem?_append_right (by simp;omega)]
   simp only[List.length_append,List.length_cons]
   rw[show p.length+1+y.length-(p.length+(y.length+1))=0 by omega]
   rfl
  have if':withinAt writesS L (p.length+1+y.length+1+n.length)=true:=by
   refine J9t (t:=f) ?_ (by omega)
   rw[eL,show p++(s::(y++e::(n++f::l))++q)=(p++s::(y++e::n))++f::(l++q) by simp,List.getElem?_append_right (by simp;omega)]
   simp only[List.length_append,List.length_cons]
   rw[show p.length+1+y.length+1+n.length-(p.length+(y.length+(n.length+1)+1))=0 by omega]
   rfl
  simp only[noL,noB,h4,true_implies]
  rw[←i0,←i1,←i2,←i3]
  simp only[List.length_append,List.length_cons,List.length_nil]
  constructor
  ·intro h
   exact⟨⟨h _ (by omega) (by omega),fun i h1 h2=>h i (by omega) (by omega),fun i h1 h2=>h i (by omega) (by omega)⟩,fun i h1 h2=>h i (by omega) (by omega)⟩
  ·rintro⟨⟨g0,g1,g2⟩,g3⟩ i h1 h2
   by_cases a0:i=p.length
   ·rw[a0];exact g0
   by_cases a1:i<p.length+1+y.length
   ·exact g1 i (by omega) (by omega)
   by_cases a2:i=p.length+1+y.length
   ·rw[a2];exact ie
   by_cases a3:i<p.length+1+y.length+1+n.length
   ·exact g2 i (by omega) (by omega)
   by_cases a4:i=p.length+1+y.length+1+n.length
   ·rw[a4];exact if'
   exact g3 i (by omega) (by omega)
theorem J6B {l:List Sm} {T:List Br} (h:Spell l T):withinS writesS l=true↔noL T:=by
 have:=J62 h l [] [] (by simp)
 rw[←this]
 unfold withinS
 rw[List.all_eq_true]
 simp only[List.mem_range,List.length_nil,Nat.zero_add,Nat.zero_le,true_implies]
theorem J9a {cs:List Cls} {c:Cls} {F:Vm} (hF:mapOf c F) (hn:(nmsC c).Nodup) {T:List Br} (h:growI c.body=some T):
  (c.body.all (stmS cs c)=true∧nestV c.body 0=true∧withinS writesS c.body=true→bodyGo cs c F c.body [] []=some ())∧
  (¬(c.body.all (stmS cs c)=true∧nestV c.body 0=true∧withinS writesS c.body=true)→bodyGo cs c F c.body [] []=none):=by
 have hs:=JL h
 have e1:nestV c.body 0=true↔depL T 0:=by unfold nestV;rw[h];exact J20 T 0 (by omega)
 have e2:withinS writesS c.body=true↔wthL T (wget []):=by
  rw[J6B hs,J2P T (wget []) (fun u=>Int.le_refl 0)]
  simp[wget,sfind]
 rw[e1,e2]
 obtain⟨b1,b2⟩:=J7k (cs:=cs) hF hn hs [] [] []
 rw[List.append_nil]at b1 b2
 refine⟨fun h=>?_,b2⟩
 obtain⟨W',_,h'⟩:=b1 h
 rw[h'];rfl
end Go.Pm
/- Part of the proof: Ml5. -/
namespace Go.Pm
def cellV (Z:List Int) (c:Cls):Int:=instSum Z c.mems.length c.insts
def costV (B:List Int) (c:Cls):Int:=costL B c.insts ((growI c.body).getD [])
theorem JbF (v:Int):valI v=fitS v:=by
 unfold valI fitS wrapS
 rw[Bool.eq_iff_iff]
 simp only[Bool.and_eq_true,decide_eq_true_eq,IntKind.wrap,IntKind.bits,IntKind.signed]
 simp
 omega
theorem J55 (k:Nat) (Z:List Int):∀(l:List Int) (n:Int),instGo k Z n l=if l.all (insS k)=true then some (instSum Z n l)else none
 |[],n=>rfl
 |g::l,n=>by
  simp only[instGo,instSum,List.all_cons,Bool.and_eq_true]
  by_cases h:g<0∨(k:Int)≤g
  ·rw[if_pos h,if_neg]
   intro hc
   have:=hc.1
   simp only[insS,Bool.and_eq_true,decide_eq_true_eq]at this
   omega
  ·have hi:insS k g=true:=by simp only[insS,Bool.and_eq_true,decide_eq_true_eq];omega
   rw[if_neg h,J55 k Z l]
   simp only[hi,true_and]
theorem J2m (cs:List Cls) (k:Nat) (c:Cls):classS cs k c=true↔
  headS c=false∧(cs.take k).any (sameN c)=false∧¬1000<((nmsC c).length:Int)∧varsGo (nmsC c) 0 (nmsC c)=true∧(c.ins++c.outs).all typS=true∧c.mems.all fitS=true∧c.insts.all (insS k)=true∧
   c.body.all (stmS cs c)=true∧nestV c.body 0=true∧withinS writesS c.body=true:=by
 unfold classS
 cases headS c<;>simp
theorem J9B {cs:List Cls} {k:Nat} {c:Cls} {N:List (ByteArray×Bool)} {Z B:List Int} (hN:∀s,(sfind N s).getD false=(cs.take k).any fun d=>decide (d.name=s)):
  (classS cs k c=true∧cellV Z c≤20000∧costV B c≤400000→classI cs k N Z B c=some (cellV Z c,costV B c))∧(¬(classS cs k c=true∧cellV Z c≤20000∧costV B c≤400000)→classI cs k N Z B c=none):=by
 rw[J2m]
 unfold classI
 by_cases h1:headBad N c
 ·rw[if_pos h1]
  refine⟨fun h=>?_,fun _=>rfl⟩
  exfalso
  obtain⟨⟨a,b,_⟩,_⟩:=h
  rcases h1 with h1|h1
  ·rw[J3F]at h1
   simp[headS,h1]at a
  ·rw[hN]at h1
   rw[show(cs.take k).any (sameN c)=true from h1]at b;cases b
 rw[if_neg h1]
 unfold headBad at h1
 rw[not_or,J3F,hN]at h1
 obtain⟨a1,a2⟩:=h1
 have a1:nameS c.name=true:=by simpa using a1
 have a2:(cs.take k).any (sameN c)=false:=by
  cases hq:(cs.take k).any (sameN c)with
  |false=>rfl
  |true=>exact absurd hq a2
 by_cases h2:sizeBad c
 ·rw[if_pos h2]
  refine⟨fun h=>?_,fun _=>rfl⟩
  exfalso
  obtain⟨⟨a,_,b,_⟩,_⟩:=h
  rw[J3X]at b
  simp only[headS,Bool.or_eq_false_iff,decide_eq_false_iff_not]at a
  unfold sizeBad at h2
  omega
 rw[if_neg h2]
 have hh:headS c=false:=by
  unfold sizeBad at h2
  simp only[headS,a1,Bool.not_true,Bool.or_eq_false_iff,decide_eq_false_iff_not,true_and]
  omega
 have hl:¬1000<((nmsC c).length:Int):=by rw[J3X];unfold sizeBad at h2;omega
 simp only[hh,a2,hl,not_false_eq_true,true_and]
 have e1:k1 cs k Z B c=((slotsGo 0 [c.ins,c.outs] []).bind fun F=>locGo F c.locs).bind (k2 cs k Z B c):=by unfold k1 k0;rw[Option.bind_assoc]
 rw[e1]
 obtain⟨v1,v2⟩:=Jb9 c
 have et:(c.ins++c.outs).all typS=true↔∀x∈c.ins++c.outs,tyOK x:=by rw[List.all_eq_true];exact forall₂_congr fun x _=>J9Z x
 rw[J8v,et]
 by_cases h3:(∀x∈nmsC c,nameS x=true)∧(nmsC c).Nodup∧∀x∈c.ins++c.outs,tyOK x
 rotate_left
 ·rw[v2 h3]
  exact⟨fun h=>absurd ⟨h.1.1.1,h.1.1.2,h.1.2.1⟩ h3,fun _=>rfl⟩
 obtain⟨F,hF1,hF⟩:=v1 h3
 rw[hF1,Option.bind_some]
 unfold k2
 have ef:c.mems.all valI=c.mems.all fitS:=by rw[show valI=fitS from funext JbF]
 rw[ef,J55]
 by_cases h4:c.mems.all fitS=true
 rotate_left
 ·rw[if_pos (by simpa using h4)]
  exact⟨fun h=>absurd h.1.2.2.1 h4,fun _=>rfl⟩
 rw[if_neg (by rw[h4];simp)]
 by_cases h5:c.insts.all (insS k)=true
 rotate_left
 ·rw[if_neg h5]
  exact⟨fun h=>absurd h.1.2.2.2.1 h5,fun _=>rfl⟩
 rw[if_pos h5,Option.bind_some]
 unfold k3
 cases h6:growI c.body with
 |none=>
  have hn:nestV c.body 0=false:=by unfold nestV;rw[h6]
  refine⟨fun h=>?_,fun _=>?_⟩
  ·have:=h.1.2.2.2.2.2.1
   rw[hn]at this;cases this
  ·cases bodyGo cs c F c.body [] []<;>rfl
 |some T=>
  obtain⟨b1,b2⟩:=J9a (cs:=cs) hF h3.2.1 h6
  by_cases h7:c.body.all (stmS cs c)=true∧nestV c.body 0=true∧withinS writesS c.body=true
  rotate_left
  ·rw[b2 h7]
   exact⟨fun h=>absurd h.1.2.2.2.2 h7,fun _=>rfl⟩
  rw[b1 h7]
  simp only[Option.bind_some]
  unfold k4
  have ec:costV B c=costL B c.insts T:=by unfold costV;rw[h6];rfl
  rw[ec]
  unfold cellV
  by_cases h8:20000<instSum Z c.mems.length c.insts∨400000<costL B c.insts T
  ·rw[if_pos h8]
   exact⟨fun h=>by omega,fun _=>rfl⟩
  ·rw[if_neg h8]
   exact⟨fun _=>rfl,fun h=>absurd ⟨⟨⟨h3.1,h3.2.1⟩,h3.2.2,h4,h5,h7⟩,by omega,by omega⟩ h⟩
def okGo (cs:List Cls):Nat→List Int→List Int→List Cls→Prop
 |_,_,_,[]=>True
 |k,Z,B,c::r=>(classS cs k c=true∧cellV Z c≤20000∧costV B c≤400000)∧okGo cs (k+1) (Z++[cellV Z c]) (B++[costV B c]) r
def resGo:List Int→List Int→List Cls→List Int×List Int
 |Z,B,[]=>(Z,B)
 |Z,B,c::r=>resGo (Z++[cellV Z c]) (B++[costV B c]) r
theorem Ja3 (cs:List Cls):∀(r p:List Cls) (N:List (ByteArray×Bool)) (Z B:List Int),cs=p++r→(∀s,(sfind N s).getD false=p.any fun d=>decide (d.name=s))→
  (okGo cs p.length Z B r→mGo cs p.length r N Z B=some (resGo Z B r))∧(¬okGo cs p.length Z B r→mGo cs p.length r N Z B=none)
 |[],p,N,Z,B,_,_=>⟨fun _=>rfl,fun h=>absurd trivial h⟩
 |c::r,p,N,Z,B,e,hN=>by
  have ht:cs.take p.length=p:=by rw[e,List.take_left]
  have hc:=J9B (cs:=cs) (k:=p.length) (c:=c) (N:=N) (Z:=Z) (B:=B) (by rw[ht];exact hN)
  have ih:=Ja3 cs r (p++[c]) (sput N c.name true) (Z++[cellV Z c]) (B++[costV B c]) (by rw[e];simp) (fun s=>by
   rw[JG,List.any_append]
   by_cases hs:s=c.name
   ·simp[hs]
   ·have:¬c.name=s:=fun h=>hs h.symm
    simp[hs,this,hN s])
  rw[List.length_append,List.length_singleton]at ih
  simp only[mGo,okGo,resGo]
  by_cases h:classS cs p.length c=true∧cellV Z c≤20000∧costV B c≤400000
  ·rw[hc.1 h,Option.bind_some]
   exact⟨fun g=>ih.1 g.2,fun g=>ih.2 fun g'=>g ⟨h,g'⟩⟩
  ·rw[hc.2 h]
   exact⟨fun g=>absurd g.1 h,fun _=>rfl⟩
theorem J3z {z:Int}:∀(r:List Cls) (Z:List Int),z∈Z→z∈cellsGo Z r
 |[],Z,h=>h
 |c::r,Z,h=>J3z r _ (List.mem_append_left _ h)
theorem J2K {z:Int}:∀(r:List Cls) (Z:List Int),z∈Z→z∈boundsGo Z r
 |[],Z,h=>h
 |c::r,Z,h=>J2K r _ (List.mem_append_left _ h)
theorem J6l (cs:List Cls):∀(r:List Cls) (k:Nat) (Z B:List Int),(∀z∈Z,z≤20000)→(∀b∈B,b≤400000)→
  ((okGo cs k Z B r↔(∀j c,r[j]? = some c→classS cs (k+j) c=true)∧(∀z∈cellsGo Z r,z≤20000)∧∀b∈boundsGo B r,b≤400000)∧(okGo cs k Z B r→cellsGo Z r=(resGo Z B r).1∧boundsGo B r=(resGo Z B r).2))
 |[],k,Z,B,hZ,hB=>⟨by simp[okGo,cellsGo,boundsGo];exact⟨hZ,hB⟩,fun _=>⟨rfl,rfl⟩⟩
 |c::r,k,Z,B,hZ,hB=>by
  simp only[okGo,cellsGo,boundsGo,resGo]
  have ez:min (instSum Z c.mems.length c.insts) 20001=min (cellV Z c) 20001:=rfl
  have eb:boundV B c=min (costV B c) 400001:=rfl
  rw[ez,eb]
  by_cases h:cellV Z c≤20000∧costV B c≤400000
  ·rw[show min (cellV Z c) 20001=cellV Z c by omega,show min (costV B c) 400001=costV B c by omega]
   have ih:=J6l cs r (k+1) (Z++[cellV Z c]) (B++[costV B c]) (fun z hz=>by rcases List.mem_append.1 hz with g|g;exact hZ z g;simp only[List.mem_singleton]at g;omega) (fun z hz=>by rcases List.mem_append.1 hz with g|g;exact hB z g;simp only[List.mem_singleton]at g;omega)
   refine⟨?_,fun g=>ih.2 g.2⟩
   rw[ih.1]
   constructor
   ·rintro⟨⟨a,_⟩,b,d,e⟩
    refine⟨fun j c' hj=>?_,d,e⟩
    cases j with
    |zero=>simp only[List.getElem?_cons_zero,Option.some.injEq]at hj;subst hj;exact a
    |succ j=>rw[show k+(j+1)=k+1+j by omega];exact b j c' (by simpa using hj)
   ·rintro⟨a,d,e⟩
    exact⟨⟨a 0 c rfl,h⟩,fun j c' hj=>by rw[show k+1+j=k+(j+1) by omega];exact a (j+1) c' (by simpa using hj),d,e⟩
  ·refine⟨⟨fun g=>absurd g.1.2 h,fun g=>?_⟩,fun g=>absurd g.1.2 h⟩
   exfalso
   obtain⟨_,d,e⟩:=g
   have h1:=d _ (J3z r (Z++[min (cellV Z c) 20001]) (List.mem_append_right _ (List.mem_singleton.2 rfl)))
   have h2:=e _ (J2K r (B++[min (costV B c) 400001]) (List.mem_append_right _ (List.mem_singleton.2 rfl)))
   omega
def classAt (cs:List Cls) (k:Nat):Bool:=match cs[k]? with|none=>true|some c=>classS cs k c
def mokS (cs:List Cls):Bool:=
 if(cs.length:Int)<1∨200<(cs.length:Int)then false
 else if(List.range cs.length).all (classAt cs)=false then false
 else if(cellsS cs).all (fun z=>decide (z≤20000))=false then false
 else(boundsS cs).all fun z=>decide (z≤400000)
theorem J4t (cs:List Cls):(List.range cs.length).all (classAt cs)=true↔∀j c,cs[j]? = some c→classS cs j c=true:=by
 rw[List.all_eq_true]
 constructor
 ·intro h j c hj
  have:=h j (List.mem_range.2 (Jc hj).2)
  unfold classAt at this
  rw[hj]at this
  exact this
 ·intro h j hj
  unfold classAt
  cases hx:cs[j]? with
  |none=>rfl
  |some c=>exact h j c hx
theorem Jck (cs:List Cls):(mokS cs=true→mI cs=some (cellsS cs,boundsS cs))∧(mokS cs=false→mI cs=none):=by
 unfold mokS mI
 by_cases h1:(cs.length:Int)<1∨200<(cs.length:Int)
 ·rw[if_pos h1,if_pos h1]
  exact⟨fun h=>by(cases h),fun _=>rfl⟩
 rw[if_neg h1,if_neg h1]
 obtain⟨g1,g2⟩:=Ja3 cs cs [] [] [] [] rfl (fun s=>rfl)
 obtain⟨o1,o2⟩:=J6l cs cs 0 [] [] (fun z h=>by(cases h)) (fun z h=>by(cases h))
 simp only[List.length_nil,Nat.zero_add]at g1 g2 o1
 have e:(if(List.range cs.length).all (classAt cs)=false then false else if(cellsS cs).all (fun z=>decide (z≤20000))=false then false else(boundsS cs).all fun z=>decide (z≤400000))=true↔okGo cs 0 [] [] cs:=by
  rw[o1,←J4t]
  have e2:(cellsS cs).all (fun z=>decide (z≤20000))=true↔∀z∈cellsGo [] cs,z≤20000:=by simp[List.all_eq_true,cellsS]
  have e3:(boundsS cs).all (fun z=>decide (z≤400000))=true↔∀z∈boundsGo [] cs,z≤400000:=by simp[List.all_eq_true,boundsS]
  rw[←e2,←e3]
  cases (List.range cs.length).all (classAt cs)<;>cases (cellsS cs).all (fun z=>decide (z≤20000))<;>simp
 constructor
 ·intro h
  have hk:=e.1 h
  rw[g1 hk]
  obtain⟨a,b⟩:=o2 hk
  rw[show cellsS cs=(resGo [] [] cs).1 from a,show boundsS cs=(resGo [] [] cs).2 from b]
 ·intro h
  exact g2 fun hk=>by rw[e.2 hk]at h;cases h
theorem J3k:∀(r:List Cls) (Z:List Int),(cellsGo Z r).length=Z.length+r.length
 |[],Z=>rfl
 |c::r,Z=>by simp only[cellsGo,J3k r,List.length_append,List.length_cons,List.length_nil];omega
theorem J35:∀(r:List Cls) (Z:List Int),(boundsGo Z r).length=Z.length+r.length
 |[],Z=>rfl
 |c::r,Z=>by simp only[boundsGo,J35 r,List.length_append,List.length_cons,List.length_nil];omega
end Go.Pm
/- Part of the proof: Mc4. -/
namespace Go.Pm
attribute [local irreducible] AR Ok inBlock andThen endQ aoper
set_option maxHeartbeats 1000000
open Go.Proofs
theorem J52 {α:Type} {l:List α} {k:Nat} {x:α} (h:l[k]? = some x):l.take (k+1)=l.take k++[x]:=by rw[List.take_add_one,h];rfl
theorem J38 {σ:St} {i j:Nat} {F:Vm} (h1:σ.obj i=some (.var [.mp j])) (h2:σ.obj j=some (.map .string (smap vi F))) (s:ByteArray) (v:Int):
  AFun X 115 [vs s,vi v,.ref i 0] σ fun E σ'=>E=.ret (vb (addOK F s))∧σ'=σ.set j (.map .string (smap vi (sput F s v))):=by
 have hij:i≠j:=fun e=>by rw[e,h2]at h1;cases h1
 have h3:∀o,(σ.set j o).obj i=some (.var [.mp j]):=fun o=>by rw[St.obj_set,if_neg hij];exact h1
 refine Jx Tryz.func115 rfl (by decide) Tryz.ntmps115 Tryz.results115 (by simp) ?_
 cases n1:nameI s with
 |false=>
  repeat' first|refine Z1 ?_|refine Z2 ?_|refine Z5 ?_|refine Z8 ?_|refine Ys h1 ?_|refine Ya (e:=vi) (i:=j) (ho:=h2) ?_|refine Yc (e:=vi) (b:=v) (i:=j) (ho:=h2) ?_|refine Zc (J0v s) ?_|refine Zm ?_|refine Zo ?_|refine J9 ?_|refine Zt ?_
  exact⟨by simp only[addOK,n1];rfl,rfl⟩
 |true=>
  repeat' first|refine Z1 ?_|refine Z2 ?_|refine Z5 ?_|refine Z7 ?_|refine Ys h1 ?_|refine Ya (e:=vi) (i:=j) (ho:=h2) ?_|refine Yc (e:=vi) (b:=v) (i:=j) (ho:=h2) ?_|refine Zc (J0v s) ?_|refine Zi ?_|refine Zl ?_|refine Zo ?_|refine J9 ?_|refine Zt ?_
  exact⟨by simp only[addOK,n1];rfl,rfl⟩
theorem J1y {σ:St} {i j i' j':Nat} {F W:Vm} (h1:σ.obj i=some (.var [.mp j])) (h2:σ.obj j=some (.map .string (smap vi F))) (h3:σ.obj i'=some (.var [.mp j'])) (h4:σ.obj j'=some (.map .string (smap vi W))) (s:ByteArray):
  AFun X 116 [vs s,.ref i 0,.ref i' 0] σ fun E σ'=>E=.ret (vb (givenI F W s))∧σ'=σ:=by
 refine Jx Tryz.func116 rfl (by decide) Tryz.ntmps116 Tryz.results116 (by simp) ?_
 cases n1:(sfind F s).isSome with
 |false=>
  repeat' first|refine Z1 ?_|refine Z2 ?_|refine Z5 ?_|refine Z8 ?_|refine Ys h1 ?_|refine Ya (e:=vi) (i:=j) (ho:=h2) ?_|refine Zm ?_|refine Zo ?_|refine J9 ?_|refine Zt ?_
  exact⟨by simp only[givenI,n1];rfl,rfl⟩
 |true=>
  cases n2:decide ((sfind F s).getD 0=1)with
  |false=>
   repeat' first|refine Z1 ?_|refine Z2 ?_|refine Z5 ?_|refine Z7 ?_|refine Z8 ?_|refine Ys h1 ?_|refine Ya (e:=vi) (i:=j) (ho:=h2) ?_|refine Zh ?_|refine Zi ?_|refine Zl ?_|refine Zm ?_|refine Zo ?_|refine J9 ?_|refine Zt ?_
   exact⟨by simp only[givenI,n1,n2];rfl,rfl⟩
  |true=>
   repeat' first|refine Z1 ?_|refine Z2 ?_|refine Z5 ?_|refine Z7 ?_|refine Ys h1 ?_|refine Ys h3 ?_|refine Ya (e:=vi) (i:=j) (ho:=h2) ?_|refine Yb (e:=vi) (i:=j') (ho:=h4) ?_|refine Zh ?_|refine Zi ?_|refine Zl ?_|refine Zo ?_|refine J9 ?_|refine Zt ?_
   exact⟨by simp only[givenI,n1,n2];rfl,rfl⟩
end Go.Pm
