/- Part of the proof: Ml4. -/
import Derived.Test.YtdjanhhljinokaaGreatDoorT18
import Derived.Test.YtdjanhhljinokaaGreatDoorT17
import Derived.Test.YtdjanhhljinokaaGreatDoorT9
import Derived.Test.YtdjanhhljinokaaGreatDoorT14
set_option linter.unusedVariables false
set_option linter.unusedSimpArgs false
namespace Go.Pm
mutual
theorem J92:∀(b:Br) (n:Nat),n≤20→(deepB b n=true↔depB b n)
 |.nd s Y N,n,h=>by
  have e1:((n:Int)+1)=((n+1:Nat):Int):=rfl
  simp only[deepB,depB]
  by_cases k:s.kind=4
  ·rw[if_pos k]
   simp only[h,k,true_and,true_implies]
   by_cases hn:n+1≤20
   ·rw[if_neg (fun g=>by omega),Bool.and_eq_true,e1,J2b Y (n+1) hn,J2b N (n+1) hn]
   ·by_cases hy:Y≠[]∨N≠[]
    ·rw[if_pos ⟨hy,by omega⟩]
     simp only[Bool.false_eq_true,false_iff,not_and]
     intro h1 h2
     rcases hy with hy|hy
     ·cases Y with
      |nil=>exact hy rfl
      |cons b R=>obtain⟨s',Y',N'⟩:=b;simp only[depL,depB]at h1;omega
     ·cases N with
      |nil=>exact hy rfl
      |cons b R=>obtain⟨s',Y',N'⟩:=b;simp only[depL,depB]at h2;omega
    ·simp only[not_or,Decidable.not_not]at hy
     obtain⟨rfl,rfl⟩:=hy
     simp[deepL,depL]
  ·rw[if_neg k]
   simp[h,k]
theorem J2b:∀(R:List Br) (n:Nat),n≤20→(deepL R n=true↔depL R n)
 |[],n,h=>by simp[deepL,depL]
 |b::R,n,h=>by simp only[deepL,depL,Bool.and_eq_true,J92 b n h,J2b R n h]
end
mutual
def wrB:Br→ByteArray→Bool
 |.nd s Y N,x=>writesS s x||(decide (s.kind=4)&&(wrL Y x||wrL N x))
def wrL:List Br→ByteArray→Bool
 |[],_=>false
 |b::R,x=>wrB b x||wrL R x
end
mutual
def noB:Br→Prop
 |.nd s Y N=>s.kind=4→(wrL Y s.name=false∧wrL N s.name=false)∧noL Y∧noL N
def noL:List Br→Prop
 |[]=>True
 |b::R=>noB b∧noL R
end
theorem JbY {w:ByteArray→Int} (h:∀u,0≤w u) (s:Sm):∀u,0≤up w s u:=by
 intro u;have:=h u;unfold up;split<;>omega
theorem Jbf {w:ByteArray→Int} (h:∀u,0≤w u) (s:Sm) (x:ByteArray):up w s x=0↔w x=0∧x≠s.name:=by
 have:=h x
 unfold up
 by_cases hx:x=s.name
 ·rw[if_pos hx];simp only[hx,ne_eq,not_true_eq_false,and_false,iff_false];rw[←hx];omega
 ·rw[if_neg hx];simp[hx]
mutual
theorem Ja6:∀(b:Br) (w:ByteArray→Int),(∀u,0≤w u)→(wthB b w↔(∀x,wrB b x=true→w x=0)∧noB b)
 |.nd s Y N,w,h=>by
  simp only[wthB,wrB,noB]
  by_cases k:s.kind=4
  ·simp only[k,true_implies,decide_true,Bool.true_and,Bool.or_eq_true,J3b Y _ (JbY h s),J3b N _ (JbY h s),Jbf h s]
   have hno:∀T:List Br,(∀x,wrL T x=true→w x=0∧x≠s.name)↔(∀x,wrL T x=true→w x=0)∧wrL T s.name=false:=by
    intro T
    constructor
    ·intro g
     refine⟨fun x hx=>(g x hx).1,?_⟩
     cases hb:wrL T s.name with
     |false=>rfl
     |true=>exact absurd rfl (g _ hb).2
    ·rintro⟨g1,g2⟩ x hx
     exact⟨g1 x hx,fun e=>by rw[e,g2]at hx;cases hx⟩
   rw[hno Y,hno N]
   constructor
   ·rintro⟨a,⟨⟨b1,b2⟩,b3⟩,⟨d1,d2⟩,d3⟩
    refine⟨fun x hx=>?_,⟨b2,d2⟩,b3,d3⟩
    rcases hx with hx|hx|hx
    ·exact a x hx
    ·exact b1 x hx
    ·exact d1 x hx
   ·rintro⟨a,⟨b2,d2⟩,b3,d3⟩
    exact⟨fun x hx=>a x (.inl hx),⟨⟨fun x hx=>a x (.inr (.inl hx)),b2⟩,b3⟩,⟨fun x hx=>a x (.inr (.inr hx)),d2⟩,d3⟩
  ·simp[k]
theorem J3b:∀(T:List Br) (w:ByteArray→Int),(∀u,0≤w u)→(wthL T w↔(∀x,wrL T x=true→w x=0)∧noL T)
 |[],w,h=>by simp[wthL,wrL,noL]
 |b::R,w,h=>by
  simp only[wthL,wrL,noL,Ja6 b w h,J3b R w h,Bool.or_eq_true]
  constructor
  ·rintro⟨⟨a,b⟩,d,e⟩
   exact⟨fun x hx=>hx.elim (a x) (d x),b,e⟩
  ·rintro⟨a,b,e⟩
   exact⟨⟨fun x hx=>a x (.inl hx),b⟩,fun x hx=>a x (.inr hx),e⟩
end
theorem JaN {l:List Sm} {T:List Br} (h:Spell l T) (x:ByteArray):l.any (fun t=>writesS t x)=wrL T x:=by
 induction h with
 |nil=>rfl
 |leaf h4 h5 h6 _ ih=>simp only[List.any_cons,ih,wrL,wrB,h4,decide_false,Bool.false_and,Bool.or_false]
 |cond h4 h5 h6 _ _ _ ihy ihn ih=>
  simp only[List.any_cons,List.any_append,ihy,ihn,ih,wrL,wrB,h4,decide_true,Bool.true_and,J1d (show ¬_=1 by rw[h5];decide) (show ¬_=3 by rw[h5];decide),J1d (show ¬_=1 by rw[h6];decide) (show ¬_=3 by rw[h6];decide),Bool.false_or,Bool.or_assoc]
theorem JaJ {L:List Sm} {i:Nat} {t:Sm} (h:L[i]? = some t) (hk:t.kind≠4):withinAt writesS L i=true:=by
 unfold withinAt;rw[h];simp only[if_neg hk]
theorem Jcy {L:List Sm} {i:Nat} {s e f:Sm} {y n r:List Sm} {Y N:List Br} (h4:s.kind=4) (h5:e.kind=5) (h6:f.kind=6) (hy:Spell y Y) (hn:Spell n N) (hd:L.drop i=s::(y++e::(n++f::r))):
  withinAt writesS L i=true↔wrL Y s.name=false∧wrL N s.name=false:=by
 have hx:L[i]? = some s:=by
  have:(L.drop i)[0]? = some s:=by rw[hd];rfl
  rwa [List.getElem?_drop,Nat.add_zero]at this
 unfold withinAt
 rw[hx]
 simp only[h4,if_true]
 unfold partsS
 rw[hd,J2E h4 h5 h6 hy hn]
 dsimp only
 rw[Int.toNat_natCast,show i+1+y.length+1+n.length-i=y.length+(n.length+1)+1 by omega,List.take_succ_cons,List.take_length_add_append,List.take_succ_cons,List.take_left]
 simp only[List.any_cons,List.any_append,JaN hy,JaN hn,J1d (show ¬s.kind=1 by omega) (show ¬s.kind=3 by omega),J1d (show ¬e.kind=1 by omega) (show ¬e.kind=3 by omega),Bool.false_or,Bool.not_eq_true',Bool.or_eq_false_iff]
theorem J6N {l:List Sm} {T:List Br} (h:Spell l T):∀(L p q:List Sm),L=p++(l++q)→((∀i,p.length≤i→i<p.length+l.length→withinAt writesS L i=true)↔noL T):=by
 induction h with
 |nil=>intro L p q _;simp only[noL,iff_true,List.length_nil];intro i h1 h2;omega
 |@leaf s l T h4 h5 h6 _ ih=>
  intro L p q e
  have i1:=ih L (p++[s]) q (by rw[e];simp)
  simp only[noL,noB,h4,false_implies,true_and]
  rw[←i1]
  simp only[List.length_append,List.length_cons,List.length_nil]
  constructor
  ·intro h i h1 h2;exact h i (by omega) (by omega)
  ·intro h i h1 h2
   rcases Nat.lt_or_ge p.length i with h3|h3
   ·exact h i (by omega) (by omega)
   ·have:i=p.length:=by omega
    subst this
    exact JaJ (t:=s) (by rw[e,List.getElem?_append_right (Nat.le_refl _)];simp) h4
 |@cond s e f y n l Y N T h4 h5 h6 hy hn _ ihy ihn ih=>
  intro L p q eL
  have i1:=ihy L (p++[s]) (e::(n++f::(l++q))) (by rw[eL];simp)
  have i2:=ihn L (p++s::(y++[e])) (f::(l++q)) (by rw[eL];simp)
  have i3:=ih L (p++s::(y++e::(n++[f]))) q (by rw[eL];simp)
  have i0:withinAt writesS L p.length=true↔wrL Y s.name=false∧wrL N s.name=false:=
   Jcy h4 h5 h6 hy hn (r:=l++q) (by rw[eL,List.drop_left];simp)
  have ie:withinAt writesS L (p.length+1+y.length)=true:=by
   refine JaJ (t:=e) ?_ (by omega)
   rw[eL,show p++(s::(y++e::(n++f::l))++q)=(p++s::y)++e::(n++f::(l++q)) by simp,List.getElem?_append_right (by simp;omega)]
   simp only[List.length_append,List.length_cons]
   rw[show p.length+1+y.length-(p.length+(y.length+1))=0 by omega]
   rfl
  have if':withinAt writesS L (p.length+1+y.length+1+n.length)=true:=by
   refine JaJ (t:=f) ?_ (by omega)
   rw[eL,show p++(s::(y++e::(n++f::l))++q)=(p++s::(y++e::n))++f::(l++q) by simp,List.getElem?_append_right (by simp;omega)]
   simp only[List.length_append,List.length_cons]
   rw[show p.length+1+y.length+1+n.length-(p.length+(y.length+(n.length+1)+1))=0 by omega]
   rfl
  simp only[noL,noB,h4,true_implies]
  rw[←i0,←i1,←i2,←i3]
  simp only[List.length_append,List.length_cons,List.length_nil]
  constructor
  ·intro h
   exact⟨⟨h _ (by omega) (by omega),fun i h1 h2=>h i (by omega) (by omega),fun i h1 h2=>h i (by omega) (by omega)⟩,fun i h1 h2=>h i (by omega) (by omega)⟩
  ·rintro⟨⟨g0,g1,g2⟩,g3⟩ i h1 h2
   by_cases a0:i=p.length
   ·rw[a0];exact g0
   by_cases a1:i<p.length+1+y.length
   ·exact g1 i (by omega) (by omega)
   by_cases a2:i=p.length+1+y.length
   ·rw[a2];exact ie
   by_cases a3:i<p.length+1+y.length+1+n.length
   ·exact g2 i (by omega) (by omega)
   by_cases a4:i=p.length+1+y.length+1+n.length
   ·rw[a4];exact if'
   exact g3 i (by omega) (by omega)
theorem J79 {l:List Sm} {T:List Br} (h:Spell l T):withinS writesS l=true↔noL T:=by
 have:=J6N h l [] [] (by simp)
 rw[←this]
 unfold withinS
 rw[List.all_eq_true]
 simp only[List.mem_range,List.length_nil,Nat.zero_add,Nat.zero_le,true_implies]
theorem JaT {cs:List Cls} {c:Cls} {F:Vm} (hF:mapOf c F) (hn:(nmsC c).Nodup) {T:List Br} (h:growI c.body=some T):
  (c.body.all (stmS cs c)=true∧nestV c.body 0=true∧withinS writesS c.body=true→bodyGo cs c F c.body [] []=some ())∧
  (¬(c.body.all (stmS cs c)=true∧nestV c.body 0=true∧withinS writesS c.body=true)→bodyGo cs c F c.body [] []=none):=by
 have hs:=JJ h
 have e1:nestV c.body 0=true↔depL T 0:=by unfold nestV;rw[h];exact J2b T 0 (by omega)
 have e2:withinS writesS c.body=true↔wthL T (wget []):=by
  rw[J79 hs,J3b T (wget []) (fun u=>Int.le_refl 0)]
  simp[wget,sfind]
 rw[e1,e2]
 obtain⟨b1,b2⟩:=J87 (cs:=cs) hF hn hs [] [] []
 rw[List.append_nil]at b1 b2
 refine⟨fun h=>?_,b2⟩
 obtain⟨W',_,h'⟩:=b1 h
 rw[h'];rfl
end Go.Pm
/- Part of the proof: Ml5. -/
namespace Go.Pm
def cellV (Z:List Int) (c:Cls):Int:=instSum Z c.mems.length c.insts
def costV (B:List Int) (c:Cls):Int:=costL B c.insts ((growI c.body).getD [])
theorem J9P (v:Int):valI v=fitS v:=by
 unfold valI fitS wrapS
 rw[Bool.eq_iff_iff]
 simp only[Bool.and_eq_true,decide_eq_true_eq,IntKind.wrap,IntKind.bits,IntKind.signed]
 simp
 omega
theorem J5y (k:Nat) (Z:List Int):∀(l:List Int) (n:Int),instGo k Z n l=if l.all (insS k)=true then some (instSum Z n l)else none
 |[],n=>rfl
 |g::l,n=>by
  simp only[instGo,instSum,List.all_cons,Bool.and_eq_true]
  by_cases h:g<0∨(k:Int)≤g
  ·rw[if_pos h,if_neg]
   intro hc
   have:=hc.1
   simp only[insS,Bool.and_eq_true,decide_eq_true_eq]at this
   omega
  ·have hi:insS k g=true:=by simp only[insS,Bool.and_eq_true,decide_eq_true_eq];omega
   rw[if_neg h,J5y k Z l]
   simp only[hi,true_and]
theorem J1g (cs:List Cls) (k:Nat) (c:Cls):classS cs k c=true↔
  headS c=false∧(cs.take k).any (sameN c)=false∧¬1000<((nmsC c).length:Int)∧varsGo (nmsC c) 0 (nmsC c)=true∧(c.ins++c.outs).all typS=true∧c.mems.all fitS=true∧c.insts.all (insS k)=true∧
   c.body.all (stmS cs c)=true∧nestV c.body 0=true∧withinS writesS c.body=true:=by
 unfold classS
 cases headS c<;>simp
theorem Jaq {cs:List Cls} {k:Nat} {c:Cls} {N:List (ByteArray×Bool)} {Z B:List Int} (hN:∀s,(sfind N s).getD false=(cs.take k).any fun d=>decide (d.name=s)):
  (classS cs k c=true∧cellV Z c≤20000∧costV B c≤400000→classI cs k N Z B c=some (cellV Z c,costV B c))∧(¬(classS cs k c=true∧cellV Z c≤20000∧costV B c≤400000)→classI cs k N Z B c=none):=by
 rw[J1g]
 unfold classI
 by_cases h1:headBad N c
 ·rw[if_pos h1]
  refine⟨fun h=>?_,fun _=>rfl⟩
  exfalso
  obtain⟨⟨a,b,_⟩,_⟩:=h
  rcases h1 with h1|h1
  ·rw[J45]at h1
   simp[headS,h1]at a
  ·rw[hN]at h1
   rw[show(cs.take k).any (sameN c)=true from h1]at b;cases b
 rw[if_neg h1]
 unfold headBad at h1
 rw[not_or,J45,hN]at h1
 obtain⟨a1,a2⟩:=h1
 have a1:nameS c.name=true:=by simpa using a1
 have a2:(cs.take k).any (sameN c)=false:=by
  cases hq:(cs.take k).any (sameN c)with
  |false=>rfl
  |true=>exact absurd hq a2
 by_cases h2:sizeBad c
 ·rw[if_pos h2]
  refine⟨fun h=>?_,fun _=>rfl⟩
  exfalso
  obtain⟨⟨a,_,b,_⟩,_⟩:=h
  rw[J2P]at b
  simp only[headS,Bool.or_eq_false_iff,decide_eq_false_iff_not]at a
  unfold sizeBad at h2
  omega
 rw[if_neg h2]
 have hh:headS c=false:=by
  unfold sizeBad at h2
  simp only[headS,a1,Bool.not_true,Bool.or_eq_false_iff,decide_eq_false_iff_not,true_and]
  omega
 have hl:¬1000<((nmsC c).length:Int):=by rw[J2P];unfold sizeBad at h2;omega
 simp only[hh,a2,hl,not_false_eq_true,true_and]
 have e1:k1 cs k Z B c=((slotsGo 0 [c.ins,c.outs] []).bind fun F=>locGo F c.locs).bind (k2 cs k Z B c):=by unfold k1 k0;rw[Option.bind_assoc]
 rw[e1]
 obtain⟨v1,v2⟩:=J8D c
 have et:(c.ins++c.outs).all typS=true↔∀x∈c.ins++c.outs,tyOK x:=by rw[List.all_eq_true];exact forall₂_congr fun x _=>J7s x
 rw[J62,et]
 by_cases h3:(∀x∈nmsC c,nameS x=true)∧(nmsC c).Nodup∧∀x∈c.ins++c.outs,tyOK x
 rotate_left
 ·rw[v2 h3]
  exact⟨fun h=>absurd ⟨h.1.1.1,h.1.1.2,h.1.2.1⟩ h3,fun _=>rfl⟩
 obtain⟨F,hF1,hF⟩:=v1 h3
 rw[hF1,Option.bind_some]
 unfold k2
 have ef:c.mems.all valI=c.mems.all fitS:=by rw[show valI=fitS from funext J9P]
 rw[ef,J5y]
 by_cases h4:c.mems.all fitS=true
 rotate_left
 ·rw[if_pos (by simpa using h4)]
  exact⟨fun h=>absurd h.1.2.2.1 h4,fun _=>rfl⟩
 rw[if_neg (by rw[h4];simp)]
 by_cases h5:c.insts.all (insS k)=true
 rotate_left
 ·rw[if_neg h5]
  exact⟨fun h=>absurd h.1.2.2.2.1 h5,fun _=>rfl⟩
 rw[if_pos h5,Option.bind_some]
 unfold k3
 cases h6:growI c.body with
 |none=>
  have hn:nestV c.body 0=false:=by unfold nestV;rw[h6]
  refine⟨fun h=>?_,fun _=>?_⟩
  ·have:=h.1.2.2.2.2.2.1
   rw[hn]at this;cases this
  ·cases bodyGo cs c F c.body [] []<;>rfl
 |some T=>
  obtain⟨b1,b2⟩:=JaT (cs:=cs) hF h3.2.1 h6
  by_cases h7:c.body.all (stmS cs c)=true∧nestV c.body 0=true∧withinS writesS c.body=true
  rotate_left
  ·rw[b2 h7]
   exact⟨fun h=>absurd h.1.2.2.2.2 h7,fun _=>rfl⟩
  rw[b1 h7]
  simp only[Option.bind_some]
  unfold k4
  have ec:costV B c=costL B c.insts T:=by unfold costV;rw[h6];rfl
  rw[ec]
  unfold cellV
  by_cases h8:20000<instSum Z c.mems.length c.insts∨400000<costL B c.insts T
  ·rw[if_pos h8]
   exact⟨fun h=>by omega,fun _=>rfl⟩
  ·rw[if_neg h8]
   exact⟨fun _=>rfl,fun h=>absurd ⟨⟨⟨h3.1,h3.2.1⟩,h3.2.2,h4,h5,h7⟩,by omega,by omega⟩ h⟩
def okGo (cs:List Cls):Nat→List Int→List Int→List Cls→Prop
 |_,_,_,[]=>True
 |k,Z,B,c::r=>(classS cs k c=true∧cellV Z c≤20000∧costV B c≤400000)∧okGo cs (k+1) (Z++[cellV Z c]) (B++[costV B c]) r
def resGo:List Int→List Int→List Cls→List Int×List Int
 |Z,B,[]=>(Z,B)
 |Z,B,c::r=>resGo (Z++[cellV Z c]) (B++[costV B c]) r
theorem J9V (cs:List Cls):∀(r p:List Cls) (N:List (ByteArray×Bool)) (Z B:List Int),cs=p++r→(∀s,(sfind N s).getD false=p.any fun d=>decide (d.name=s))→
  (okGo cs p.length Z B r→mGo cs p.length r N Z B=some (resGo Z B r))∧(¬okGo cs p.length Z B r→mGo cs p.length r N Z B=none)
 |[],p,N,Z,B,_,_=>⟨fun _=>rfl,fun h=>absurd trivial h⟩
 |c::r,p,N,Z,B,e,hN=>by
  have ht:cs.take p.length=p:=by rw[e,List.take_left]
  have hc:=Jaq (cs:=cs) (k:=p.length) (c:=c) (N:=N) (Z:=Z) (B:=B) (by rw[ht];exact hN)
  have ih:=J9V cs r (p++[c]) (sput N c.name true) (Z++[cellV Z c]) (B++[costV B c]) (by rw[e];simp) (fun s=>by
   rw[JB,List.any_append]
   by_cases hs:s=c.name
   ·simp[hs]
   ·have:¬c.name=s:=fun h=>hs h.symm
    simp[hs,this,hN s])
  rw[List.length_append,List.length_singleton]at ih
  simp only[mGo,okGo,resGo]
  by_cases h:classS cs p.length c=true∧cellV Z c≤20000∧costV B c≤400000
  ·rw[hc.1 h,Option.bind_some]
   exact⟨fun g=>ih.1 g.2,fun g=>ih.2 fun g'=>g ⟨h,g'⟩⟩
  ·rw[hc.2 h]
   exact⟨fun g=>absurd g.1 h,fun _=>rfl⟩
theorem J40 {z:Int}:∀(r:List Cls) (Z:List Int),z∈Z→z∈cellsGo Z r
 |[],Z,h=>h
 |c::r,Z,h=>J40 r _ (List.mem_append_left _ h)
theorem J2V {z:Int}:∀(r:List Cls) (Z:List Int),z∈Z→z∈boundsGo Z r
 |[],Z,h=>h
 |c::r,Z,h=>J2V r _ (List.mem_append_left _ h)
theorem J7i (cs:List Cls):∀(r:List Cls) (k:Nat) (Z B:List Int),(∀z∈Z,z≤20000)→(∀b∈B,b≤400000)→
  ((okGo cs k Z B r↔(∀j c,r[j]? = some c→classS cs (k+j) c=true)∧(∀z∈cellsGo Z r,z≤20000)∧∀b∈boundsGo B r,b≤400000)∧(okGo cs k Z B r→cellsGo Z r=(resGo Z B r).1∧boundsGo B r=(resGo Z B r).2))
 |[],k,Z,B,hZ,hB=>⟨by simp[okGo,cellsGo,boundsGo];exact⟨hZ,hB⟩,fun _=>⟨rfl,rfl⟩⟩
 |c::r,k,Z,B,hZ,hB=>by
  simp only[okGo,cellsGo,boundsGo,resGo]
  have ez:min (instSum Z c.mems.length c.insts) 20001=min (cellV Z c) 20001:=rfl
  have eb:boundV B c=min (costV B c) 400001:=rfl
  rw[ez,eb]
  by_cases h:cellV Z c≤20000∧costV B c≤400000
  ·rw[show min (cellV Z c) 20001=cellV Z c by omega,show min (costV B c) 400001=costV B c by omega]
   have ih:=J7i cs r (k+1) (Z++[cellV Z c]) (B++[costV B c]) (fun z hz=>by rcases List.mem_append.1 hz with g|g;exact hZ z g;simp only[List.mem_singleton]at g;omega) (fun z hz=>by rcases List.mem_append.1 hz with g|g;exact hB z g;simp only[List.mem_singleton]at g;omega)
   refine⟨?_,fun g=>ih.2 g.2⟩
   rw[ih.1]
   constructor
   ·rintro⟨⟨a,_⟩,b,d,e⟩
    refine⟨fun j c' hj=>?_,d,e⟩
    cases j with
    |zero=>simp only[List.getElem?_cons_zero,Option.some.injEq]at hj;subst hj;exact a
    |succ j=>rw[show k+(j+1)=k+1+j by omega];exact b j c' (by simpa using hj)
   ·rintro⟨a,d,e⟩
    exact⟨⟨a 0 c rfl,h⟩,fun j c' hj=>by rw[show k+1+j=k+(j+1) by omega];exact a (j+1) c' (by simpa using hj),d,e⟩
  ·refine⟨⟨fun g=>absurd g.1.2 h,fun g=>?_⟩,fun g=>absurd g.1.2 h⟩
   exfalso
   obtain⟨_,d,e⟩:=g
   have h1:=d _ (J40 r (Z++[min (cellV Z c) 20001]) (List.mem_append_right _ (List.mem_singleton.2 rfl)))
   have h2:=e _ (J2V r (B++[min (costV B c) 400001]) (List.mem_append_right _ (List.mem_singleton.2 rfl)))
   omega
def classAt (cs:List Cls) (k:Nat):Bool:=match cs[k]? with|none=>true|some c=>classS cs k c
def mokS (cs:List Cls):Bool:=
 if(cs.length:Int)<1∨200<(cs.length:Int)then false
 else if(List.range cs.length).all (classAt cs)=false then false
 else if(cellsS cs).all (fun z=>decide (z≤20000))=false then false
 else(boundsS cs).all fun z=>decide (z≤400000)
theorem J4J (cs:List Cls):(List.range cs.length).all (classAt cs)=true↔∀j c,cs[j]? = some c→classS cs j c=true:=by
 rw[List.all_eq_true]
 constructor
 ·intro h j c hj
  have:=h j (List.mem_range.2 (Ji hj).2)
  unfold classAt at this
  rw[hj]at this
  exact this
 ·intro h j hj
  unfold classAt
  cases hx:cs[j]? with
  |none=>rfl
  |some c=>exact h j c hx
theorem Jc8 (cs:List Cls):(mokS cs=true→mI cs=some (cellsS cs,boundsS cs))∧(mokS cs=false→mI cs=none):=by
 unfold mokS mI
 by_cases h1:(cs.length:Int)<1∨200<(cs.length:Int)
 ·rw[if_pos h1,if_pos h1]
  exact⟨fun h=>by(cases h),fun _=>rfl⟩
 rw[if_neg h1,if_neg h1]
 obtain⟨g1,g2⟩:=J9V cs cs [] [] [] [] rfl (fun s=>rfl)
 obtain⟨o1,o2⟩:=J7i cs cs 0 [] [] (fun z h=>by(cases h)) (fun z h=>by(cases h))
 simp only[List.length_nil,Nat.zero_add]at g1 g2 o1
 have e:(if(List.range cs.length).all (classAt cs)=false then false else if(cellsS cs).all (fun z=>decide (z≤20000))=false then false else(boundsS cs).all fun z=>decide (z≤400000))=true↔okGo cs 0 [] [] cs:=by
  rw[o1,←J4J]
  have e2:(cellsS cs).all (fun z=>decide (z≤20000))=true↔∀z∈cellsGo [] cs,z≤20000:=by simp[List.all_eq_true,cellsS]
  have e3:(boundsS cs).all (fun z=>decide (z≤400000))=true↔∀z∈boundsGo [] cs,z≤400000:=by simp[List.all_eq_true,boundsS]
  rw[←e2,←e3]
  cases (List.range cs.length).all (classAt cs)<;>cases (cellsS cs).all (fun z=>decide (z≤20000))<;>simp
 constructor
 ·intro h
  have hk:=e.1 h
  rw[g1 hk]
  obtain⟨a,b⟩:=o2 hk
  rw[show cellsS cs=(resGo [] [] cs).1 from a,show boundsS cs=(resGo [] [] cs).2 from b]
 ·intro h
  exact g2 fun hk=>by rw[e.2 hk]at h;cases h
theorem J3S:∀(r:List Cls) (Z:List Int),(cellsGo Z r).length=Z.length+r.length
 |[],Z=>rfl
 |c::r,Z=>by simp only[cellsGo,J3S r,List.length_append,List.length_cons,List.length_nil];omega
theorem J32:∀(r:List Cls) (Z:List Int),(boundsGo Z r).length=Z.length+r.length
 |[],Z=>rfl
 |c::r,Z=>by simp only[boundsGo,J32 r,List.length_append,List.length_cons,List.length_nil];omega
end Go.Pm
/- Part of the proof: Mc4. -/
namespace Go.Pm
attribute [local irreducible] AR Ok inBlock andThen endQ aoper
set_option maxHeartbeats 1000000
open Go.Proofs
theorem J5S {α:Type} {l:List α} {k:Nat} {x:α} (h:l[k]? = some x):l.take (k+1)=l.take k++[x]:=by rw[List.take_add_one,h];rfl
theorem J3w {σ:St} {i j:Nat} {F:Vm} (h1:σ.obj i=some (.var [.mp j])) (h2:σ.obj j=some (.map .string (smap vi F))) (s:ByteArray) (v:Int):
  AFun X 115 [vs s,vi v,.ref i 0] σ fun E σ'=>E=.ret (vb (addOK F s))∧σ'=σ.set j (.map .string (smap vi (sput F s v))):=by
 have hij:i≠j:=fun e=>by rw[e,h2]at h1;cases h1
 have h3:∀o,(σ.set j o).obj i=some (.var [.mp j]):=fun o=>by rw[St.obj_set,if_neg hij];exact h1
 refine Jw Tryz.func115 rfl (by decide) Tryz.ntmps115 Tryz.results115 (by simp) ?_
 cases n1:nameI s with
 |false=>
  repeat' first|refine Z1 ?_|refine Z2 ?_|refine Z3 ?_|refine Z4 ?_|refine Z5 ?_|refine Z6 ?_|refine Z7 ?_|refine Z8 ?_|refine Z9 ?_|refine Za (fun hc=>?_) (fun hc=>?_)|refine Zb (fun hc=>?_) (fun hc=>?_)|refine Ys h1 ?_|refine Ya (e:=vi) (i:=j) (ho:=h2) ?_|refine Yc (e:=vi) (b:=v) (i:=j) (ho:=h2) ?_|refine Zc (J0y s) ?_|refine Zd ?_|refine Ze ?_|refine Zf ?_|refine Zg ?_|refine Zh ?_|refine Zi ?_|refine Zj ?_|refine Zk ?_|refine Zl ?_|refine Zm ?_|refine Zn (fun hc=>?_) (fun hc=>?_)|refine Zo ?_|refine J6 ?_|refine Jf ?_|refine Zp ?_|refine Zq ?_|refine Zr (fun hc=>?_) (fun hc=>?_)|refine J5 ?_|refine Jh ?_|refine J8 ?_|refine Jb ?_|refine J3 ?_|refine Ja ?_|refine Zs ?_|refine Zv ?_|refine J7 ?_|refine J9 ?_|refine J4 ?_|refine Zt ?_|refine Zu ?_
  exact⟨by simp only[addOK,n1];rfl,rfl⟩
 |true=>
  repeat' first|refine Z1 ?_|refine Z2 ?_|refine Z3 ?_|refine Z4 ?_|refine Z5 ?_|refine Z6 ?_|refine Z7 ?_|refine Z8 ?_|refine Z9 ?_|refine Za (fun hc=>?_) (fun hc=>?_)|refine Zb (fun hc=>?_) (fun hc=>?_)|refine Ys h1 ?_|refine Ya (e:=vi) (i:=j) (ho:=h2) ?_|refine Yc (e:=vi) (b:=v) (i:=j) (ho:=h2) ?_|refine Zc (J0y s) ?_|refine Zd ?_|refine Ze ?_|refine Zf ?_|refine Zg ?_|refine Zh ?_|refine Zi ?_|refine Zj ?_|refine Zk ?_|refine Zl ?_|refine Zm ?_|refine Zn (fun hc=>?_) (fun hc=>?_)|refine Zo ?_|refine J6 ?_|refine Jf ?_|refine Zp ?_|refine Zq ?_|refine Zr (fun hc=>?_) (fun hc=>?_)|refine J5 ?_|refine Jh ?_|refine J8 ?_|refine Jb ?_|refine J3 ?_|refine Ja ?_|refine Zs ?_|refine Zv ?_|refine J7 ?_|refine J9 ?_|refine J4 ?_|refine Zt ?_|refine Zu ?_
  exact⟨by simp only[addOK,n1];rfl,rfl⟩
theorem J1z {σ:St} {i j i' j':Nat} {F W:Vm} (h1:σ.obj i=some (.var [.mp j])) (h2:σ.obj j=some (.map .string (smap vi F))) (h3:σ.obj i'=some (.var [.mp j'])) (h4:σ.obj j'=some (.map .string (smap vi W))) (s:ByteArray):
  AFun X 116 [vs s,.ref i 0,.ref i' 0] σ fun E σ'=>E=.ret (vb (givenI F W s))∧σ'=σ:=by
 refine Jw Tryz.func116 rfl (by decide) Tryz.ntmps116 Tryz.results116 (by simp) ?_
 cases n1:(sfind F s).isSome with
 |false=>
  repeat' first|refine Z1 ?_|refine Z2 ?_|refine Z3 ?_|refine Z4 ?_|refine Z5 ?_|refine Z6 ?_|refine Z7 ?_|refine Z8 ?_|refine Z9 ?_|refine Za (fun hc=>?_) (fun hc=>?_)|refine Zb (fun hc=>?_) (fun hc=>?_)|refine Ys h1 ?_|refine Ys h3 ?_|refine Ya (e:=vi) (i:=j) (ho:=h2) ?_|refine Yb (e:=vi) (i:=j') (ho:=h4) ?_|refine Zd ?_|refine Ze ?_|refine Zf ?_|refine Zg ?_|refine Zh ?_|refine Zi ?_|refine Zj ?_|refine Zk ?_|refine Zl ?_|refine Zm ?_|refine Zn (fun hc=>?_) (fun hc=>?_)|refine Zo ?_|refine J6 ?_|refine Jf ?_|refine Zp ?_|refine Zq ?_|refine Zr (fun hc=>?_) (fun hc=>?_)|refine J5 ?_|refine Jh ?_|refine J8 ?_|refine Jb ?_|refine J3 ?_|refine Ja ?_|refine Zs ?_|refine Zv ?_|refine J7 ?_|refine J9 ?_|refine J4 ?_|refine Zt ?_|refine Zu ?_
  exact⟨by simp only[givenI,n1];rfl,rfl⟩
 |true=>
  cases n2:decide ((sfind F s).getD 0=1)with
  |false=>
   repeat' first|refine Z1 ?_|refine Z2 ?_|refine Z3 ?_|refine Z4 ?_|refine Z5 ?_|refine Z6 ?_|refine Z7 ?_|refine Z8 ?_|refine Z9 ?_|refine Za (fun hc=>?_) (fun hc=>?_)|refine Zb (fun hc=>?_) (fun hc=>?_)|refine Ys h1 ?_|refine Ys h3 ?_|refine Ya (e:=vi) (i:=j) (ho:=h2) ?_|refine Yb (e:=vi) (i:=j') (ho:=h4) ?_|refine Zd ?_|refine Ze ?_|refine Zf ?_|refine Zg ?_|refine Zh ?_|refine Zi ?_|refine Zj ?_|refine Zk ?_|refine Zl ?_|refine Zm ?_|refine Zn (fun hc=>?_) (fun hc=>?_)|refine Zo ?_|refine J6 ?_|refine Jf ?_|refine Zp ?_|refine Zq ?_|refine Zr (fun hc=>?_) (fun hc=>?_)|refine J5 ?_|refine Jh ?_|refine J8 ?_|refine Jb ?_|refine J3 ?_|refine Ja ?_|refine Zs ?_|refine Zv ?_|refine J7 ?_|refine J9 ?_|refine J4 ?_|refine Zt ?_|refine Zu ?_
   exact⟨by simp only[givenI,n1,n2];rfl,rfl⟩
  |true=>
   repeat' first|refine Z1 ?_|refine Z2 ?_|refine Z3 ?_|refine Z4 ?_|refine Z5 ?_|refine Z6 ?_|refine Z7 ?_|refine Z8 ?_|refine Z9 ?_|refine Za (fun hc=>?_) (fun hc=>?_)|refine Zb (fun hc=>?_) (fun hc=>?_)|refine Ys h1 ?_|refine Ys h3 ?_|refine Ya (e:=vi) (i:=j) (ho:=h2) ?_|refine Yb (e:=vi) (i:=j') (ho:=h4) ?_|refine Zd ?_|refine Ze ?_|refine Zf ?_|refine Zg ?_|refine Zh ?_|refine Zi ?_|refine Zj ?_|refine Zk ?_|refine Zl ?_|refine Zm ?_|refine Zn (fun hc=>?_) (fun hc=>?_)|refine Zo ?_|refine J6 ?_|refine Jf ?_|refine Zp ?_|refine Zq ?_|refine Zr (fun hc=>?_) (fun hc=>?_)|refine J5 ?_|refine Jh ?_|refine J8 ?_|refine Jb ?_|refine J3 ?_|refine Ja ?_|refine Zs ?_|refine Zv ?_|refine J7 ?_|refine J9 ?_|refine J4 ?_|refine Zt ?_|refine Zu ?_
   exact⟨by simp only[givenI,n1,n2];rfl,rfl⟩
end Go.Pm
/- Part of the proof: Mc5. -/
namespace Go.Pm
attribute [local irreducible] AR Ok inBlock andThen endQ aoper
set_option maxHeartbeats 8000000
open Go.Proofs
noncomputable def bCode:Code:=subc [true,true,true,true,false,true,false,false,true,true,false,false,true,true,true,true,true,true,true,true,true,true,true,true,true,true,false,true,false,false] (Tryz.f70.body.getD .skip)
abbrev Bx:=Nat×List ByteArray×Nat×Vm
def bE (cs:List Cls) (c:Cls) (k:Nat) (n:Int) (x:Bx):Env:=envL [(1,.ref 0 0),(4,.ref 2 0),(5,.mp 3),(52,.d (.im (cs.map eCls))),(53,vi cs.length),(54,vi k),(6,vi k),(7,.ref 8 0),(8,.ref 10 0),(9,.fn 115 [.ref 10 0]),(16,vi n),(22,.ref 13 0),(23,.fn 116 [.ref 10 0,.ref 13 0]),(198,.d (.im (c.body.map eSm))),(199,vi c.body.length),(200,vi x.1),(21,.sl 14 15 0 x.2.2.1)]
def bS (cs:List Cls) (c:Cls) (N:List (ByteArray×Bool)) (Z B:List Int) (F:Vm) (x:Bx):St:=stL [some (.var [.d (.im (cs.map eCls))]),some (.var [.sl 4 6 0 Z.length,.sl 5 7 0 B.length]),some (.var [.ref 1 0]),some (.map .string (smap vb N)),some (.row 6 3 1 (im2 eNum Z)),some (.row 7 3 1 (im2 eNum B)),none,none,some (.var ((eCls c).map .d)),some (.map .string (smap vi F)),some (.var [.mp 9]),none,some (.map .string (smap vi x.2.2.2)),some (.var [.mp 12]),some (.row 15 9 1 (im2 eStr x.2.1)),none]
def bInv (cs:List Cls) (c:Cls) (F:Vm) (G:Unit→Option (List Int×List Int)) (M:Option (List Int×List Int)) (x:Bx):Prop:=
 x.1≤c.body.length∧x.2.2.1≤x.1∧x.2.2.1≤x.2.1.length∧(∀s,-(x.1:Int)≤wget x.2.2.2 s∧wget x.2.2.2 s≤(x.1:Int))∧(∀s∈c.body.take x.1,s.kind=3→0≤s.pos∧s.pos<(c.insts.length:Int))∧(bodyGo cs c F (c.body.drop x.1) (x.2.1.take x.2.2.1) x.2.2.2).bind G=M
theorem Jc6 {a b:Bool} (h:b=a):Frz none (vb a) (vb b):=by rw[h];exact .refl _
theorem J9q (W:Vm) (s u:ByteArray) (v:Int):wget (sput W s v) u=if u=s then v else wget W u:=by
 unfold wget
 rw[JB]
 split<;>rfl
theorem J8K {W:Vm} {q:Nat} {s:ByteArray} {v:Int} (h:∀u,-(q:Int)≤wget W u∧wget W u≤(q:Int)) (hv:-((q:Int)+1)≤v∧v≤(q:Int)+1):∀u,-((q+1:Nat):Int)≤wget (sput W s v) u∧wget (sput W s v) u≤((q+1:Nat):Int):=by
 intro u
 have:=h u
 rw[J9q]
 split<;>omega
theorem J7G {cs:List Cls} {c:Cls} {k:Nat} {n:Int} {N:List (ByteArray×Bool)} {Z B:List Int} {F:Vm} {G:Unit→Option (List Int×List Int)} {M:Option (List Int×List Int)} {Q:Exit→Env→St→Prop}
  (hcl:cs.length≤1048576) (hk:k<cs.length) (hb:c.body.length≤30000) (hwb:∀s∈c.body,wSm s≤1048576) (hil:c.insts.length≤1000) (hml:c.mems.length≤1000) (hin:∀g∈c.insts,0≤g∧g<(k:Int))
  (hret:none=M→∀env σ,env 2=.d (.s (.pointer none))→env 3=vb false→Q .ret env σ) (x:Bx) (hi:bInv cs c F G M x) (hx:x.1<c.body.length):
  Ok X 475 bCode (andThen (fun env σ=>∃y,bInv cs c F G M y∧c.body.length-y.1<c.body.length-x.1∧∃π,LowR 15 π env σ (bE cs c k n y) (bS cs c N Z B F y)) Q) (bE cs c k n x) (bS cs c N Z B F x):=by
 obtain⟨q,J,m,W⟩:=x
 obtain⟨i1,i2,i3,i4,i5,i6⟩:=hi
 simp only at i1 i2 i3 i4 i5 i6 hx
 obtain⟨s,hs⟩:∃s,c.body[q]? = some s:=⟨c.body[q],List.getElem?_eq_getElem hx⟩
 obtain⟨hd,hlt⟩:=Ji hs
 have eq1:decide ((q:Int)<(c.body.length:Int))=true:=J0 (by omega)
 have hws:=hwb s (List.mem_of_getElem? hs)
 simp only[wSm,wL]at hws
 rw[hd]at i6
 simp only[bodyGo]at i6
 have hSl:(J.take m).length=m:=by rw[List.length_take];omega
 unfold stmI at i6
 rw[hSl]at i6
 unfold bE bS
 dsimp only
 refine Zo ?_
 repeat' first|refine Z1 ?_|refine Z2 ?_
 refine J6 ?_
 refine Zp ?_
 refine J8 ?_
 refine J3 ?_
 refine J6 ?_
 refine J5 ?_
 refine Zo ?_
 repeat' first|refine Z1 ?_|refine Z2 ?_|refine Z5 ?_|refine Ze ?_
 refine J6 ?_
 refine J1I (envL [(216,vb (b1 s m)),(1,.ref 0 0),(4,.ref 2 0),(5,.mp 3),(52,.d (.im (cs.map eCls))),(53,vi cs.length),(54,vi k),(6,vi k),(7,.ref 8 0),(8,.ref 10 0),(9,.fn 115 [.ref 10 0]),(16,vi n),(22,.ref 13 0),(23,.fn 116 [.ref 10 0,.ref 13 0]),(198,.d (.im (c.body.map eSm))),(199,vi c.body.length),(200,vi q),(21,.sl 14 15 0 m),(25,.ref 16 0)]) (stL [some (.var [.d (.im (cs.map eCls))]),some (.var [.sl 4 6 0 Z.length,.sl 5 7 0 B.length]),some (.var [.ref 1 0]),some (.map .string (smap vb N)),some (.row 6 3 1 (im2 eNum Z)),some (.row 7 3 1 (im2 eNum B)),none,none,some (.var ((eCls c).map .d)),some (.map .string (smap vi F)),some (.var [.mp 9]),none,some (.map .string (smap vi W)),some (.var [.mp 12]),some (.row 15 9 1 (im2 eStr J)),none,some (.var ((eSm s).map .d))]) ?_ ?_
 ·
  repeat' first|refine Z1 ?_|refine Z3 ?_|refine Z5 ?_|refine Z7 ?_|refine Z8 ?_|refine Za (fun hc=>?_) (fun hc=>?_)|refine Zh ?_|refine Zi ?_|refine Zl ?_|refine Zm ?_|refine Jf ?_
  all_goals exact⟨rfl,Jj rfl ⟨Jc6 (by simp only[b1, *];try rfl),.refl _,.refl _,.refl _,.refl _,.refl _,.refl _,.refl _,.refl _,.refl _,.refl _,.refl _,.refl _,.refl _,.refl _,.refl _,.refl _,.refl _,.refl _,trivial⟩ ⟨⟨rfl,_,rfl,rfl,fun _ _ _=>.refl _⟩,⟨rfl,_,rfl,rfl,fun _ _ _=>.refl _⟩,⟨rfl,_,rfl,rfl,fun _ _ _=>.refl _⟩,⟨rfl,_,rfl,rfl,rfl⟩,⟨rfl,_,rfl,rfl,rfl,rfl,rfl⟩,⟨rfl,_,rfl,rfl,rfl,rfl,rfl⟩,⟨rfl,_,rfl,rfl,fun _ _ _=>.refl _⟩,⟨rfl,_,rfl,rfl,rfl⟩,⟨rfl,_,rfl,rfl,fun _ _ _=>.refl _⟩,⟨rfl,_,rfl,rfl,rfl⟩,⟨rfl,_,rfl,rfl,fun _ _ _=>.refl _⟩,⟨rfl,_,rfl,rfl,rfl,rfl,rfl⟩,⟨rfl,_,rfl,rfl,fun _ _ _=>.refl _⟩,trivial⟩⟩
 cases hb1:b1 s m with
 |true=>
  rw[if_pos hb1]at i6
  repeat' first|refine Z1 ?_|refine Z2 ?_|refine Zo ?_|refine Zp ?_|refine Jb ?_|refine J7 ?_|refine J9 ?_
  exact hret i6 _ _ rfl rfl
 |false=>
 rw[if_neg (by rw[hb1];simp)]at i6
 refine Zq ?_
 refine J8 ?_
 refine J3 ?_
 refine J6 ?_
 refine J1I (envL [(244,vb (b2 s)),(1,.ref 0 0),(4,.ref 2 0),(5,.mp 3),(52,.d (.im (cs.map eCls))),(53,vi cs.length),(54,vi k),(6,vi k),(7,.ref 8 0),(8,.ref 10 0),(9,.fn 115 [.ref 10 0]),(16,vi n),(22,.ref 13 0),(23,.fn 116 [.ref 10 0,.ref 13 0]),(198,.d (.im (c.body.map eSm))),(199,vi c.body.length),(200,vi q),(21,.sl 14 15 0 m),(25,.ref 16 0)]) (stL [some (.var [.d (.im (cs.map eCls))]),some (.var [.sl 4 6 0 Z.length,.sl 5 7 0 B.length]),some (.var [.ref 1 0]),some (.map .string (smap vb N)),some (.row 6 3 1 (im2 eNum Z)),some (.row 7 3 1 (im2 eNum B)),none,none,some (.var ((eCls c).map .d)),some (.map .string (smap vi F)),some (.var [.mp 9]),none,some (.map .string (smap vi W)),some (.var [.mp 12]),some (.row 15 9 1 (im2 eStr J)),none,some (.var ((eSm s).map .d))]) ?_ ?_
 ·
  repeat' first|refine Z1 ?_|refine Z3 ?_|refine Z5 ?_|refine Z6 ?_|refine Z7 ?_|refine Z8 ?_|refine Z9 ?_|refine Za (fun hc=>?_) (fun hc=>?_)|refine Zb (fun hc=>?_) (fun hc=>?_)|refine Zh ?_|refine Zi ?_|refine Zl ?_|refine Zm ?_|refine Jf ?_
  all_goals exact⟨rfl,Jj rfl ⟨Jc6 (by simp only[b2, *];try rfl),.refl _,.refl _,.refl _,.refl _,.refl _,.refl _,.refl _,.refl _,.refl _,.refl _,.refl _,.refl _,.refl _,.refl _,.refl _,.refl _,.refl _,.refl _,trivial⟩ ⟨⟨rfl,_,rfl,rfl,fun _ _ _=>.refl _⟩,⟨rfl,_,rfl,rfl,fun _ _ _=>.refl _⟩,⟨rfl,_,rfl,rfl,fun _ _ _=>.refl _⟩,⟨rfl,_,rfl,rfl,rfl⟩,⟨rfl,_,rfl,rfl,rfl,rfl,rfl⟩,⟨rfl,_,rfl,rfl,rfl,rfl,rfl⟩,⟨rfl,_,rfl,rfl,fun _ _ _=>.refl _⟩,⟨rfl,_,rfl,rfl,rfl⟩,⟨rfl,_,rfl,rfl,fun _ _ _=>.refl _⟩,⟨rfl,_,rfl,rfl,rfl⟩,⟨rfl,_,rfl,rfl,fun _ _ _=>.refl _⟩,⟨rfl,_,rfl,rfl,rfl,rfl,rfl⟩,⟨rfl,_,rfl,rfl,fun _ _ _=>.refl _⟩,trivial⟩⟩
 cases hb2:b2 s with
 |true=>
  rw[if_pos hb2]at i6
  repeat' first|refine Z1 ?_|refine Z2 ?_|refine Zo ?_|refine Zp ?_|refine Jb ?_|refine J7 ?_|refine J9 ?_
  exact hret i6 _ _ rfl rfl
 |false=>
 rw[if_neg (by rw[hb2];simp)]at i6
 refine Zq ?_
 refine J8 ?_
 refine J3 ?_
 refine J6 ?_
 refine J1I (envL [(275,vb (b3 s)),(1,.ref 0 0),(4,.ref 2 0),(5,.mp 3),(52,.d (.im (cs.map eCls))),(53,vi cs.length),(54,vi k),(6,vi k),(7,.ref 8 0),(8,.ref 10 0),(9,.fn 115 [.ref 10 0]),(16,vi n),(22,.ref 13 0),(23,.fn 116 [.ref 10 0,.ref 13 0]),(198,.d (.im (c.body.map eSm))),(199,vi c.body.length),(200,vi q),(21,.sl 14 15 0 m),(25,.ref 16 0)]) (stL [some (.var [.d (.im (cs.map eCls))]),some (.var [.sl 4 6 0 Z.length,.sl 5 7 0 B.length]),some (.var [.ref 1 0]),some (.map .string (smap vb N)),some (.row 6 3 1 (im2 eNum Z)),some (.row 7 3 1 (im2 eNum B)),none,none,some (.var ((eCls c).map .d)),some (.map .string (smap vi F)),some (.var [.mp 9]),none,some (.map .string (smap vi W)),some (.var [.mp 12]),some (.row 15 9 1 (im2 eStr J)),none,some (.var ((eSm s).map .d))]) ?_ ?_
 ·
  repeat' first|refine Z1 ?_|refine Z3 ?_|refine Z5 ?_|refine Z6 ?_|refine Z7 ?_|refine Z8 ?_|refine Z9 ?_|refine Za (fun hc=>?_) (fun hc=>?_)|refine Zb (fun hc=>?_) (fun hc=>?_)|refine Zd ?_|refine Zh ?_|refine Zi ?_|refine Zl ?_|refine Zm ?_|refine Jf ?_
  all_goals exact⟨rfl,Jj rfl ⟨Jc6 (by simp only[b3, *];try rfl),.refl _,.refl _,.refl _,.refl _,.refl _,.refl _,.refl _,.refl _,.refl _,.refl _,.refl _,.refl _,.refl _,.refl _,.refl _,.refl _,.refl _,.refl _,trivial⟩ ⟨⟨rfl,_,rfl,rfl,fun _ _ _=>.refl _⟩,⟨rfl,_,rfl,rfl,fun _ _ _=>.refl _⟩,⟨rfl,_,rfl,rfl,fun _ _ _=>.refl _⟩,⟨rfl,_,rfl,rfl,rfl⟩,⟨rfl,_,rfl,rfl,rfl,rfl,rfl⟩,⟨rfl,_,rfl,rfl,rfl,rfl,rfl⟩,⟨rfl,_,rfl,rfl,fun _ _ _=>.refl _⟩,⟨rfl,_,rfl,rfl,rfl⟩,⟨rfl,_,rfl,rfl,fun _ _ _=>.refl _⟩,⟨rfl,_,rfl,rfl,rfl⟩,⟨rfl,_,rfl,rfl,fun _ _ _=>.refl _⟩,⟨rfl,_,rfl,rfl,rfl,rfl,rfl⟩,⟨rfl,_,rfl,rfl,fun _ _ _=>.refl _⟩,trivial⟩⟩
 cases hb3:b3 s with
 |true=>
  rw[if_pos hb3]at i6
  repeat' first|refine Z1 ?_|refine Z2 ?_|refine Zo ?_|refine Zp ?_|refine Jb ?_|refine J7 ?_|refine J9 ?_
  exact hret i6 _ _ rfl rfl
 |false=>
 rw[if_neg (by rw[hb3];simp)]at i6
 refine Zq ?_
 refine J8 ?_
 refine J3 ?_
 have tk:∀{u:Sm},u∈c.body.take (q+1)→u∈c.body.take q∨u=s:=by
  intro u hu
  rw[J5S hs]at hu
  simpa using hu
 have i4':∀u,-((q+1:Nat):Int)≤wget W u∧wget W u≤((q+1:Nat):Int):=fun u=>by have:=i4 u;omega
 have nx:∀{J':List ByteArray} {m':Nat} {W':Vm},m'≤q+1→m'≤J'.length→(∀u,-((q+1:Nat):Int)≤wget W' u∧wget W' u≤((q+1:Nat):Int))→(s.kind=3→0≤s.pos∧s.pos<(c.insts.length:Int))→(bodyGo cs c F (c.body.drop (q+1)) (J'.take m') W').bind G=M→bInv cs c F G M (q+1,J',m',W'):=by
  intro J' m' W' a1 a2 a3 a4 a5
  refine⟨hlt,a1,a2,a3,fun u hu h3=>?_,a5⟩
  rcases tk hu with h|rfl
  ·exact i5 u h h3
  ·exact a4 h3
 by_cases k1:s.kind=1
 ·have q1:decide (s.kind=1)=true:=J0 k1
  rw[if_pos k1]at i6
  cases hg:givenI F W s.name with
  |false=>
   have n1:(!givenI F W s.name)=true:=by rw[hg];rfl
   rw[if_neg (by rw[hg];simp)]at i6
   repeat' first|refine Z1 ?_|refine Z2 ?_|refine Z5 ?_|refine Z9 ?_|refine Yp (J1z (F:=F) (W:=W) (i:=10) (j:=9) (i':=13) (j':=12) rfl rfl rfl rfl s.name) ?_|refine Zl ?_|refine Zo ?_|refine Zp ?_|refine J5 ?_|refine Jb ?_|refine J7 ?_|refine J9 ?_
   exact hret i6 _ _ rfl rfl
  |true=>
   have n1:(!givenI F W s.name)=false:=by rw[hg];rfl
   cases hc:codeI F (c.mems.length:Int) s.code with
   |false=>
    have n2:(!codeI F (c.mems.length:Int) s.code)=true:=by rw[hc];rfl
    rw[if_neg (by rw[hc];simp)]at i6
    repeat' first|refine Z1 ?_|refine Z2 ?_|refine Z5 ?_|refine Z7 ?_|refine Yp (J1z (F:=F) (W:=W) (i:=10) (j:=9) (i':=13) (j':=12) rfl rfl rfl rfl s.name) ?_|refine Ym (J2g F (c.mems.length:Int) s.code (by omega) (i:=9) (Je rfl) rfl) ?_|refine Zd ?_|refine Zi ?_|refine Zm ?_|refine Zo ?_|refine Zp ?_|refine J5 ?_|refine Jb ?_|refine J7 ?_|refine J9 ?_
    exact hret i6 _ _ rfl rfl
   |true=>
    have n2:(!codeI F (c.mems.length:Int) s.code)=false:=by rw[hc];rfl
    rw[if_pos ⟨hg,hc⟩]at i6
    repeat' first|refine Z1 ?_|refine Z2 ?_|refine Z5 ?_|refine Z7 ?_|refine Yp (J1z (F:=F) (W:=W) (i:=10) (j:=9) (i':=13) (j':=12) rfl rfl rfl rfl s.name) ?_|refine Ym (J2g F (c.mems.length:Int) s.code (by omega) (i:=9) (Je rfl) rfl) ?_|refine Zd ?_|refine Zf ?_|refine Zi ?_|refine Zm ?_|refine Zo ?_|refine Jf ?_|refine Zp ?_|refine Zq ?_|refine J5 ?_|refine J8 ?_|refine J3 ?_|refine J4 ?_
    exact⟨(q+1,J,m,W),nx (by omega) i3 i4' (fun h=>by omega) i6,by(try simp only);omega,Js [(15,15)] rfl rfl rfl ⟨⟨rfl,rfl⟩,⟨rfl,rfl⟩,⟨rfl,rfl⟩,⟨rfl,rfl⟩,⟨rfl,rfl⟩,⟨rfl,rfl⟩,⟨rfl,rfl⟩,⟨rfl,rfl⟩,⟨rfl,rfl⟩,⟨rfl,rfl⟩,⟨rfl,rfl⟩,⟨rfl,rfl⟩,⟨rfl,rfl⟩,⟨rfl,rfl⟩,⟨rfl,rfl⟩,⟨rfl,rfl⟩,⟨rfl,rfl⟩,trivial⟩ ⟨⟨rfl,rfl⟩,⟨rfl,rfl⟩,⟨rfl,rfl⟩,⟨by first|exact Jt _ (fun _=>rfl)|rfl,Jk (fun _=>rfl) _⟩,⟨Jd rfl (by first|exact Jg _ _ _|rfl),Je rfl,Jc _ _ _⟩,⟨Jd rfl (by first|exact Jg _ _ _|rfl),Je rfl,Jc _ _ _⟩,⟨rfl,rfl⟩,⟨by first|exact Jt _ (fun _=>rfl)|rfl,Jk (fun _=>rfl) _⟩,⟨rfl,rfl⟩,⟨by first|exact Jt _ (fun _=>rfl)|rfl,Jk (fun _=>rfl) _⟩,⟨rfl,rfl⟩,⟨Jd rfl (by first|exact Jg _ _ _|rfl),Je rfl,Jc _ _ _⟩,trivial⟩⟩
 have q1:decide (s.kind=1)=false:=J1 k1
 rw[if_neg k1]at i6
 by_cases k2:s.kind=2
 ·have q2:decide (s.kind=2)=true:=J0 k2
  rw[if_pos k2]at i6
  by_cases h1:s.pos<0
  ·have n1:decide (s.pos<0)=true:=J0 h1
   rw[if_neg (fun h=>by omega)]at i6
   repeat' first|refine Z1 ?_|refine Z2 ?_|refine Z5 ?_|refine Z9 ?_|refine Zl ?_|refine Zo ?_|refine Zp ?_|refine Zq ?_|refine J5 ?_|refine Jb ?_|refine J7 ?_|refine J9 ?_
   exact hret i6 _ _ rfl rfl
  have n1:decide (s.pos<0)=false:=J1 h1
  by_cases h2:(c.mems.length:Int)≤s.pos
  ·have n2:decide ((c.mems.length:Int)≤s.pos)=true:=J0 h2
   rw[if_neg (fun h=>by omega)]at i6
   repeat' first|refine Z1 ?_|refine Z2 ?_|refine Z5 ?_|refine Z7 ?_|refine Z9 ?_|refine Zd ?_|refine Zh ?_|refine Zi ?_|refine Zl ?_|refine Zm ?_|refine Zo ?_|refine Zp ?_|refine Zq ?_|refine J5 ?_|refine Jb ?_|refine J7 ?_|refine J9 ?_
   exact hret i6 _ _ rfl rfl
  have n2:decide ((c.mems.length:Int)≤s.pos)=false:=J1 h2
  cases hc:codeI F (c.mems.length:Int) s.code with
  |false=>
   have n3:(!codeI F (c.mems.length:Int) s.code)=true:=by rw[hc];rfl
   rw[if_neg (by rw[hc];simp)]at i6
   repeat' first|refine Z1 ?_|refine Z2 ?_|refine Z5 ?_|refine Z7 ?_|refine Ym (J2g F (c.mems.length:Int) s.code (by omega) (i:=9) (Je rfl) rfl) ?_|refine Zd ?_|refine Zh ?_|refine Zi ?_|refine Zm ?_|refine Zo ?_|refine Zp ?_|refine Zq ?_|refine J5 ?_|refine Jb ?_|refine J7 ?_|refine J9 ?_
   exact hret i6 _ _ rfl rfl
  |true=>
   have n3:(!codeI F (c.mems.length:Int) s.code)=false:=by rw[hc];rfl
   rw[if_pos ⟨by omega,by omega,hc⟩]at i6
   repeat' first|refine Z1 ?_|refine Z2 ?_|refine Z5 ?_|refine Z7 ?_|refine Ym (J2g F (c.mems.length:Int) s.code (by omega) (i:=9) (Je rfl) rfl) ?_|refine Zd ?_|refine Zf ?_|refine Zh ?_|refine Zi ?_|refine Zm ?_|refine Zo ?_|refine Jf ?_|refine Zp ?_|refine Zq ?_|refine J5 ?_|refine J8 ?_|refine J3 ?_|refine J4 ?_
   exact⟨(q+1,J,m,W),nx (by omega) i3 i4' (fun h=>by omega) i6,by(try simp only);omega,Js [(15,15)] rfl rfl rfl ⟨⟨rfl,rfl⟩,⟨rfl,rfl⟩,⟨rfl,rfl⟩,⟨rfl,rfl⟩,⟨rfl,rfl⟩,⟨rfl,rfl⟩,⟨rfl,rfl⟩,⟨rfl,rfl⟩,⟨rfl,rfl⟩,⟨rfl,rfl⟩,⟨rfl,rfl⟩,⟨rfl,rfl⟩,⟨rfl,rfl⟩,⟨rfl,rfl⟩,⟨rfl,rfl⟩,⟨rfl,rfl⟩,⟨rfl,rfl⟩,trivial⟩ ⟨⟨rfl,rfl⟩,⟨rfl,rfl⟩,⟨rfl,rfl⟩,⟨by first|exact Jt _ (fun _=>rfl)|rfl,Jk (fun _=>rfl) _⟩,⟨Jd rfl (by first|exact Jg _ _ _|rfl),Je rfl,Jc _ _ _⟩,⟨Jd rfl (by first|exact Jg _ _ _|rfl),Je rfl,Jc _ _ _⟩,⟨rfl,rfl⟩,⟨by first|exact Jt _ (fun _=>rfl)|rfl,Jk (fun _=>rfl) _⟩,⟨rfl,rfl⟩,⟨by first|exact Jt _ (fun _=>rfl)|rfl,Jk (fun _=>rfl) _⟩,⟨rfl,rfl⟩,⟨Jd rfl (by first|exact Jg _ _ _|rfl),Je rfl,Jc _ _ _⟩,trivial⟩⟩
 have q2:decide (s.kind=2)=false:=J1 k2
 rw[if_neg k2]at i6
 by_cases k3:s.kind=3
 ·have q3:decide (s.kind=3)=true:=J0 k3
  rw[if_pos k3]at i6
  by_cases h1:s.pos<0
  ·have n1:decide (s.pos<0)=true:=J0 h1
   rw[if_neg (fun h=>by omega)]at i6
   repeat' first|refine Z1 ?_|refine Z2 ?_|refine Z5 ?_|refine Z9 ?_|refine Zl ?_|refine Zo ?_|refine J6 ?_|refine Zp ?_|refine Zq ?_|refine J5 ?_|refine Jb ?_|refine J7 ?_|refine J9 ?_
   exact hret i6 _ _ rfl rfl
  have n1:decide (s.pos<0)=false:=J1 h1
  by_cases h2:(c.insts.length:Int)≤s.pos
  ·have n2:decide ((c.insts.length:Int)≤s.pos)=true:=J0 h2
   rw[if_neg (fun h=>by omega)]at i6
   repeat' first|refine Z1 ?_|refine Z2 ?_|refine Z5 ?_|refine Z7 ?_|refine Zd ?_|refine Zh ?_|refine Zi ?_|refine Zm ?_|refine Zo ?_|refine J6 ?_|refine Zp ?_|refine Zq ?_|refine J5 ?_|refine Jb ?_|refine J7 ?_|refine J9 ?_
   exact hret i6 _ _ rfl rfl
  have n2:decide ((c.insts.length:Int)≤s.pos)=false:=J1 h2
  rw[if_pos ⟨by omega,by omega⟩]at i6
  have hkd:s.kind=3→0≤s.pos∧s.pos<(c.insts.length:Int):=fun _=>⟨by omega,by omega⟩
  obtain⟨p,hp⟩:∃p:Nat,s.pos=(p:Int):=⟨s.pos.toNat,by omega⟩
  obtain⟨g,hg⟩:∃g,c.insts[p]? = some g:=⟨c.insts[p]'(by omega),List.getElem?_eq_getElem (by omega)⟩
  obtain⟨g0,g1⟩:=hin g (List.mem_of_getElem? hg)
  obtain⟨gn,hgn⟩:∃gn:Nat,g=(gn:Int):=⟨g.toNat,by omega⟩
  obtain⟨d,hd2⟩:∃d,cs[gn]? = some d:=⟨cs[gn]'(by omega),List.getElem?_eq_getElem (by omega)⟩
  rw[hp,Int.toNat_natCast,hg,Option.bind_some,hgn,Int.toNat_natCast,hd2]at i6
  dsimp only at i6
  repeat' first|refine Z1 ?_|refine Z2 ?_|refine Z5 ?_|refine Z7 ?_|refine Zd ?_|refine Zh ?_|refine Zi ?_|refine Zm ?_|refine Zo ?_|refine J6 ?_|refine Zp ?_|refine Zq ?_|refine J5 ?_|refine J8 ?_|refine J3 ?_
  refine Jv (fun j=>j=0∨j=8∨j=16) [10,11] Jp (by decide +kernel) ?_
  repeat' first|refine Wl (i:=0) rfl (.inl rfl) ?_|refine Wl (i:=8) rfl (.inr (.inl rfl)) ?_|refine Wl (i:=16) rfl (.inr (.inr rfl)) ?_|refine Wa ?_
  refine Wq (fun σ' _=>Ze (k:=p) ⟨rfl,rfl⟩ rfl (congrArg vi hp) hg) ?_
  refine Wa ?_
  refine Wq (fun σ' _=>Ze (k:=gn) ⟨rfl,rfl⟩ rfl (congrArg vi hgn) hd2) ?_
  refine Wa ?_
  refine We (Yu (i:=17) ⟨rfl,rfl⟩) (.inr (fun j hj=>by rw[St.obj_alloc,if_neg (by show ¬j=17;omega)])) ?_
  refine We (Yt (i:=17) (m:=(eCls d).map .d) rfl ⟨rfl,rfl⟩) (.inl rfl) ?_
  refine Wx ?_
  by_cases ho:s.outs.length=d.outs.length
  ·have n3:decide ((s.outs.length:Int)≠(d.outs.length:Int))=false:=J1 (fun h=>h (by omega))
   by_cases hi:s.args.length=d.ins.length
   ·have n4:decide ((s.args.length:Int)≠(d.ins.length:Int))=false:=J1 (fun h=>h (by omega))
    repeat' first|refine Z1 ?_|refine Z2 ?_|refine Z5 ?_|refine Z7 ?_|refine Yd (kk:=.string) ?_|refine Zd ?_|refine Zh ?_|refine Zi ?_|refine Zm ?_|refine Zo ?_|refine J6 ?_|refine Zq ?_|refine J5 ?_|refine J8 ?_|refine J3 ?_
    refine Jq (ι:=Nat×List (ByteArray×Bool)) (fun x_=>envL [(1,.ref 0 0),(4,.ref 2 0),(5,.mp 3),(52,.d (.im (cs.map eCls))),(53,vi cs.length),(54,vi k),(6,vi k),(7,.ref 8 0),(8,.ref 10 0),(9,.fn 115 [.ref 10 0]),(16,vi n),(22,.ref 13 0),(23,.fn 116 [.ref 10 0,.ref 13 0]),(198,.d (.im (c.body.map eSm))),(199,vi c.body.length),(200,vi q),(21,.sl 14 15 0 m),(25,.ref 16 0),(27,.mp 18),(359,.d (.im (s.outs.map eStr))),(360,vi s.outs.length),(361,vi x_.1)]) (fun x_=>stL [some (.var [.d (.im (cs.map eCls))]),some (.var [.sl 4 6 0 Z.length,.sl 5 7 0 B.length]),some (.var [.ref 1 0]),some (.map .string (smap vb N)),some (.row 6 3 1 (im2 eNum Z)),some (.row 7 3 1 (im2 eNum B)),none,none,some (.var ((eCls c).map .d)),some (.map .string (smap vi F)),some (.var [.mp 9]),none,some (.map .string (smap vi W)),some (.var [.mp 12]),some (.row 15 9 1 (im2 eStr J)),none,some (.var ((eSm s).map .d)),none,some (.map .string (smap vb x_.2))]) (fun x_=>x_.1≤s.outs.length∧outsGo F W x_.2 (s.outs.drop x_.1)=outsGo F W [] s.outs) (fun x_=>s.outs.length-x_.1) (0,[]) (⟨Nat.zero_le _,rfl⟩) (Jj rfl ⟨.refl _,.refl _,.refl _,.refl _,.refl _,.refl _,.refl _,.refl _,.refl _,.refl _,.refl _,.refl _,.refl _,.refl _,.refl _,.refl _,.refl _,.refl _,.refl _,.refl _,.refl _,.refl _,trivial⟩ ⟨⟨rfl,_,rfl,rfl,fun _ _ _=>.refl _⟩,⟨rfl,_,rfl,rfl,fun _ _ _=>.refl _⟩,⟨rfl,_,rfl,rfl,fun _ _ _=>.refl _⟩,⟨rfl,_,rfl,rfl,rfl⟩,⟨rfl,_,rfl,rfl,rfl,rfl,rfl⟩,⟨rfl,_,rfl,rfl,rfl,rfl,rfl⟩,⟨rfl,_,rfl,rfl,fun _ _ _=>.refl _⟩,⟨rfl,_,rfl,rfl,rfl⟩,⟨rfl,_,rfl,rfl,fun _ _ _=>.refl _⟩,⟨rfl,_,rfl,rfl,rfl⟩,⟨rfl,_,rfl,rfl,fun _ _ _=>.refl _⟩,⟨rfl,_,rfl,rfl,rfl,rfl,rfl⟩,⟨rfl,_,rfl,rfl,fun _ _ _=>.refl _⟩,⟨rfl,_,rfl,rfl,rfl⟩,trivial⟩) (fun _=>Nat.le_refl 19) ?_
    rintro⟨y,E⟩ ⟨l1,l2⟩
    simp only at l1 l2
    by_cases hyl:y<s.outs.length
    ·obtain⟨x,hy⟩:∃x,s.outs[y]? = some x:=⟨s.outs[y],List.getElem?_eq_getElem hyl⟩
     obtain⟨hd3,hlt3⟩:=Ji hy
     have ey:decide ((y:Int)<(s.outs.length:Int))=true:=J0 (by omega)
     rw[hd3]at l2
     simp only[outsGo]at l2
     cases hv:givenI F W x with
     |false=>
      have n5:(!givenI F W x)=true:=by rw[hv];rfl
      rw[if_neg (by rw[hv];simp)]at l2
      rw[if_neg (fun h=>by rw[←l2]at h;simp at h)]at i6
      repeat' first|refine Z1 ?_|refine Z2 ?_|refine Z5 ?_|refine Z9 ?_|refine Yp (J1z (F:=F) (W:=W) (i:=10) (j:=9) (i':=13) (j':=12) rfl rfl rfl rfl x) ?_|refine Ze ?_|refine Zl ?_|refine Zo ?_|refine J6 ?_|refine Zp ?_|refine J5 ?_|refine J8 ?_|refine Jb ?_|refine J3 ?_|refine J7 ?_|refine J9 ?_
      exact hret i6 _ _ rfl rfl
     |true=>
      have n5:(!givenI F W x)=false:=by rw[hv];rfl
      cases he:(sfind E x).getD false with
      |true=>
       rw[if_neg (by rw[he];simp)]at l2
       rw[if_neg (fun h=>by rw[←l2]at h;simp at h)]at i6
       repeat' first|refine Z1 ?_|refine Z2 ?_|refine Z5 ?_|refine Z7 ?_|refine Yp (J1z (F:=F) (W:=W) (i:=10) (j:=9) (i':=13) (j':=12) rfl rfl rfl rfl x) ?_|refine Yb (e:=vb) ?_|refine Ze ?_|refine Zi ?_|refine Zm ?_|refine Zo ?_|refine J6 ?_|refine Zp ?_|refine J5 ?_|refine J8 ?_|refine Jb ?_|refine J3 ?_|refine J7 ?_|refine J9 ?_
       exact hret i6 _ _ rfl rfl
      |false=>
       rw[if_pos ⟨hv,he⟩]at l2
       repeat' first|refine Z1 ?_|refine Z2 ?_|refine Z3 ?_|refine Z5 ?_|refine Z7 ?_|refine Yp (J1z (F:=F) (W:=W) (i:=10) (j:=9) (i':=13) (j':=12) rfl rfl rfl rfl x) ?_|refine Yb (e:=vb) ?_|refine Yc (e:=vb) (b:=true) ?_|refine Ze ?_|refine Zf ?_|refine Zi ?_|refine Zm ?_|refine Zo ?_|refine J6 ?_|refine Jf ?_|refine Zp ?_|refine Zq ?_|refine J5 ?_|refine J8 ?_|refine J3 ?_|refine J4 ?_
       exact⟨(y+1,sput E x true),⟨hlt3,l2⟩,by(try simp only);omega,Jl (Nat.le_of_ble_eq_true rfl) ⟨⟨rfl,rfl⟩,⟨rfl,rfl⟩,⟨rfl,rfl⟩,⟨rfl,rfl⟩,⟨rfl,rfl⟩,⟨rfl,rfl⟩,⟨rfl,rfl⟩,⟨rfl,rfl⟩,⟨rfl,rfl⟩,⟨rfl,rfl⟩,⟨rfl,rfl⟩,⟨rfl,rfl⟩,⟨rfl,rfl⟩,⟨rfl,rfl⟩,⟨rfl,rfl⟩,⟨rfl,rfl⟩,⟨rfl,rfl⟩,⟨rfl,rfl⟩,⟨rfl,rfl⟩,⟨rfl,rfl⟩,⟨rfl,rfl⟩,⟨rfl,rfl⟩,trivial⟩ ⟨⟨rfl,rfl⟩,⟨rfl,rfl⟩,⟨rfl,rfl⟩,⟨rfl,Jk (fun _=>rfl) _⟩,⟨rfl,Je rfl,Jc _ _ _⟩,⟨rfl,Je rfl,Jc _ _ _⟩,⟨rfl,rfl⟩,⟨rfl,Jk (fun _=>rfl) _⟩,⟨rfl,rfl⟩,⟨rfl,Jk (fun _=>rfl) _⟩,⟨rfl,rfl⟩,⟨rfl,Je rfl,Jc _ _ _⟩,⟨rfl,rfl⟩,⟨rfl,Jk (fun _=>rfl) _⟩,trivial⟩⟩
    have ey:decide ((y:Int)<(s.outs.length:Int))=false:=J1 (by omega)
    rw[List.drop_eq_nil_of_le (by omega)]at l2
    have l2:true=outsGo F W [] s.outs:=l2
    repeat' first|refine Z1 ?_|refine Z2 ?_|refine Z5 ?_|refine Zd ?_|refine Zo ?_|refine J6 ?_|refine Zq ?_|refine J5 ?_|refine Jh ?_|refine J3 ?_|refine Ja ?_|refine Zv ?_
    refine Jq (ι:=Nat) (fun x=>envL [(1,.ref 0 0),(4,.ref 2 0),(5,.mp 3),(52,.d (.im (cs.map eCls))),(53,vi cs.length),(54,vi k),(6,vi k),(7,.ref 8 0),(8,.ref 10 0),(9,.fn 115 [.ref 10 0]),(16,vi n),(22,.ref 13 0),(23,.fn 116 [.ref 10 0,.ref 13 0]),(198,.d (.im (c.body.map eSm))),(199,vi c.body.length),(200,vi q),(21,.sl 14 15 0 m),(25,.ref 16 0),(378,.d (.im (s.args.map eItms))),(379,vi s.args.length),(380,vi x)]) (fun x=>stL [some (.var [.d (.im (cs.map eCls))]),some (.var [.sl 4 6 0 Z.length,.sl 5 7 0 B.length]),some (.var [.ref 1 0]),some (.map .string (smap vb N)),some (.row 6 3 1 (im2 eNum Z)),some (.row 7 3 1 (im2 eNum B)),none,none,some (.var ((eCls c).map .d)),some (.map .string (smap vi F)),some (.var [.mp 9]),none,some (.map .string (smap vi W)),some (.var [.mp 12]),some (.row 15 9 1 (im2 eStr J)),none,some (.var ((eSm s).map .d)),none,none]) (fun x=>x≤s.args.length∧(s.args.drop x).all (codeI F (c.mems.length:Int))=s.args.all (codeI F (c.mems.length:Int))) (fun x=>s.args.length-x) 0 (⟨Nat.zero_le _,rfl⟩) (Jj rfl ⟨.refl _,.refl _,.refl _,.refl _,.refl _,.refl _,.refl _,.refl _,.refl _,.refl _,.refl _,.refl _,.refl _,.refl _,.refl _,.refl _,.refl _,.refl _,.refl _,.refl _,.refl _,trivial⟩ ⟨⟨rfl,_,rfl,rfl,fun _ _ _=>.refl _⟩,⟨rfl,_,rfl,rfl,fun _ _ _=>.refl _⟩,⟨rfl,_,rfl,rfl,fun _ _ _=>.refl _⟩,⟨rfl,_,rfl,rfl,rfl⟩,⟨rfl,_,rfl,rfl,rfl,rfl,rfl⟩,⟨rfl,_,rfl,rfl,rfl,rfl,rfl⟩,⟨rfl,_,rfl,rfl,fun _ _ _=>.refl _⟩,⟨rfl,_,rfl,rfl,rfl⟩,⟨rfl,_,rfl,rfl,fun _ _ _=>.refl _⟩,⟨rfl,_,rfl,rfl,rfl⟩,⟨rfl,_,rfl,rfl,fun _ _ _=>.refl _⟩,⟨rfl,_,rfl,rfl,rfl,rfl,rfl⟩,⟨rfl,_,rfl,rfl,fun _ _ _=>.refl _⟩,trivial⟩) (fun _=>Nat.le_refl 19) ?_
    rintro y2 ⟨o1,o2⟩
    by_cases hyl2:y2<s.args.length
    ·obtain⟨x,hy⟩:∃x,s.args[y2]? = some x:=⟨s.args[y2],List.getElem?_eq_getElem hyl2⟩
     obtain⟨hd3,hlt3⟩:=Ji hy
     have ey2:decide ((y2:Int)<(s.args.length:Int))=true:=J0 (by omega)
     have hxl:x.length≤1048576:=by
      have:=JE (w:=wL wItm) (List.mem_of_getElem? hy)
      simp only[wL]at this hws
      omega
     rw[hd3,List.all_cons]at o2
     cases hc:codeI F (c.mems.length:Int) x with
     |false=>
      have n5:(!codeI F (c.mems.length:Int) x)=true:=by rw[hc];rfl
      rw[hc]at o2
      have o2:false=s.args.all (codeI F (c.mems.length:Int)):=o2
      rw[if_neg (fun h=>by rw[←o2]at h;simp at h)]at i6
      repeat' first|refine Z1 ?_|refine Z2 ?_|refine Z5 ?_|refine Ym (J2g F (c.mems.length:Int) x hxl (i:=9) (Je rfl) rfl) ?_|refine Zd ?_|refine Ze ?_|refine Zo ?_|refine J6 ?_|refine Zp ?_|refine J5 ?_|refine J8 ?_|refine Jb ?_|refine J3 ?_|refine J7 ?_|refine J9 ?_
      exact hret i6 _ _ rfl rfl
     |true=>
      have n5:(!codeI F (c.mems.length:Int) x)=false:=by rw[hc];rfl
      rw[hc,Bool.true_and]at o2
      repeat' first|refine Z1 ?_|refine Z2 ?_|refine Z5 ?_|refine Ym (J2g F (c.mems.length:Int) x hxl (i:=9) (Je rfl) rfl) ?_|refine Zd ?_|refine Ze ?_|refine Zf ?_|refine Zo ?_|refine J6 ?_|refine Jf ?_|refine Zp ?_|refine Zq ?_|refine J5 ?_|refine J8 ?_|refine J3 ?_|refine J4 ?_
      exact⟨y2+1,⟨hlt3,o2⟩,by(try simp only);omega,Jl (Nat.le_of_ble_eq_true rfl) ⟨⟨rfl,rfl⟩,⟨rfl,rfl⟩,⟨rfl,rfl⟩,⟨rfl,rfl⟩,⟨rfl,rfl⟩,⟨rfl,rfl⟩,⟨rfl,rfl⟩,⟨rfl,rfl⟩,⟨rfl,rfl⟩,⟨rfl,rfl⟩,⟨rfl,rfl⟩,⟨rfl,rfl⟩,⟨rfl,rfl⟩,⟨rfl,rfl⟩,⟨rfl,rfl⟩,⟨rfl,rfl⟩,⟨rfl,rfl⟩,⟨rfl,rfl⟩,⟨rfl,rfl⟩,⟨rfl,rfl⟩,⟨rfl,rfl⟩,trivial⟩ ⟨⟨rfl,rfl⟩,⟨rfl,rfl⟩,⟨rfl,rfl⟩,⟨rfl,Jk (fun _=>rfl) _⟩,⟨rfl,Je rfl,Jc _ _ _⟩,⟨rfl,Je rfl,Jc _ _ _⟩,⟨rfl,rfl⟩,⟨rfl,Jk (fun _=>rfl) _⟩,⟨rfl,rfl⟩,⟨rfl,Jk (fun _=>rfl) _⟩,⟨rfl,rfl⟩,⟨rfl,Je rfl,Jc _ _ _⟩,⟨rfl,rfl⟩,trivial⟩⟩
    have ey2:decide ((y2:Int)<(s.args.length:Int))=false:=J1 (by omega)
    rw[List.drop_eq_nil_of_le (by omega)]at o2
    have o2:true=s.args.all (codeI F (c.mems.length:Int)):=o2
    rw[if_pos ⟨ho,hi,l2.symm,o2.symm⟩]at i6
    repeat' first|refine Z1 ?_|refine Z2 ?_|refine Z5 ?_|refine Zf ?_|refine Zo ?_|refine J6 ?_|refine Jf ?_|refine Zq ?_|refine Jh ?_|refine J3 ?_|refine Ja ?_|refine Zv ?_|refine J4 ?_
    exact⟨(q+1,J,m,W),nx (by omega) i3 i4' hkd i6,by(try simp only);omega,Js [(15,15)] rfl rfl rfl ⟨⟨rfl,rfl⟩,⟨rfl,rfl⟩,⟨rfl,rfl⟩,⟨rfl,rfl⟩,⟨rfl,rfl⟩,⟨rfl,rfl⟩,⟨rfl,rfl⟩,⟨rfl,rfl⟩,⟨rfl,rfl⟩,⟨rfl,rfl⟩,⟨rfl,rfl⟩,⟨rfl,rfl⟩,⟨rfl,rfl⟩,⟨rfl,rfl⟩,⟨rfl,rfl⟩,⟨rfl,rfl⟩,⟨rfl,rfl⟩,trivial⟩ ⟨⟨rfl,rfl⟩,⟨rfl,rfl⟩,⟨rfl,rfl⟩,⟨by first|exact Jt _ (fun _=>rfl)|rfl,Jk (fun _=>rfl) _⟩,⟨Jd rfl (by first|exact Jg _ _ _|rfl),Je rfl,Jc _ _ _⟩,⟨Jd rfl (by first|exact Jg _ _ _|rfl),Je rfl,Jc _ _ _⟩,⟨rfl,rfl⟩,⟨by first|exact Jt _ (fun _=>rfl)|rfl,Jk (fun _=>rfl) _⟩,⟨rfl,rfl⟩,⟨by first|exact Jt _ (fun _=>rfl)|rfl,Jk (fun _=>rfl) _⟩,⟨rfl,rfl⟩,⟨Jd rfl (by first|exact Jg _ _ _|rfl),Je rfl,Jc _ _ _⟩,trivial⟩⟩
   ·have n4:decide ((s.args.length:Int)≠(d.ins.length:Int))=true:=J0 (fun h=>hi (by omega))
    rw[if_neg (fun h=>hi h.2.1)]at i6
    repeat' first|refine Z1 ?_|refine Z2 ?_|refine Z5 ?_|refine Z7 ?_|refine Zd ?_|refine Zh ?_|refine Zi ?_|refine Zm ?_|refine Zo ?_|refine J6 ?_|refine Zp ?_|refine Jb ?_|refine J7 ?_|refine J9 ?_
    exact hret i6 _ _ rfl rfl
  ·have n3:decide ((s.outs.length:Int)≠(d.outs.length:Int))=true:=J0 (fun h=>ho (by omega))
   rw[if_neg (fun h=>ho h.1)]at i6
   repeat' first|refine Z1 ?_|refine Z2 ?_|refine Z5 ?_|refine Z9 ?_|refine Zd ?_|refine Zl ?_|refine Zo ?_|refine J6 ?_|refine Zp ?_|refine Jb ?_|refine J7 ?_|refine J9 ?_
   exact hret i6 _ _ rfl rfl
 have q3:decide (s.kind=3)=false:=J1 k3
 rw[if_neg k3]at i6
 by_cases k4:s.kind=4
 ·have q4:decide (s.kind=4)=true:=J0 k4
  rw[if_pos k4]at i6
  cases hf:(sfind F s.name).isSome with
  |false=>
   have n1:(!(sfind F s.name).isSome)=true:=by rw[hf];rfl
   rw[if_neg (by rw[hf];simp)]at i6
   repeat' first|refine Z1 ?_|refine Z2 ?_|refine Z5 ?_|refine Ya (e:=vi) ?_|refine Zo ?_|refine J6 ?_|refine Zp ?_|refine Zq ?_|refine J5 ?_|refine Jb ?_|refine J7 ?_|refine J9 ?_
   exact hret i6 _ _ rfl rfl
  |true=>
   have n1:(!(sfind F s.name).isSome)=false:=by rw[hf];rfl
   rw[if_pos hf]at i6
   have hw1:=i4 s.name
   have hw2:=hw1
   unfold wget at hw2
   repeat' first|refine Z1 ?_|refine Z2 ?_|refine Z3 ?_|refine Z4 ?_|refine Z5 ?_|refine Ya (e:=vi) ?_|refine Yb (e:=vi) ?_|refine Yc (e:=vi) (b:=wget W s.name+1) ?_|refine Yl2 (e:=eStr) (J:=J) [s.name] i3 ?_|refine Zf ?_|refine Zo ?_|refine J6 ?_|refine Jf ?_|refine Zp ?_|refine Zq ?_|refine J5 ?_|refine J8 ?_|refine J3 ?_|refine J4 ?_
   exact⟨(q+1,J.take m++[s.name],m+1,sput W s.name (wget W s.name+1)),nx (by omega) (by simp only[List.length_append,hSl,List.length_singleton];omega) (J8K i4 (by omega)) (fun h=>by omega) (by rw[List.take_of_length_le (by simp only[List.length_append,hSl,List.length_singleton];omega)];exact i6),by(try simp only);omega,Js [(15,18)] rfl rfl rfl ⟨⟨rfl,rfl⟩,⟨rfl,rfl⟩,⟨rfl,rfl⟩,⟨rfl,rfl⟩,⟨rfl,rfl⟩,⟨rfl,rfl⟩,⟨rfl,rfl⟩,⟨rfl,rfl⟩,⟨rfl,rfl⟩,⟨rfl,rfl⟩,⟨rfl,rfl⟩,⟨rfl,rfl⟩,⟨rfl,rfl⟩,⟨rfl,rfl⟩,⟨rfl,rfl⟩,⟨rfl,rfl⟩,⟨rfl,rfl⟩,trivial⟩ ⟨⟨rfl,rfl⟩,⟨rfl,rfl⟩,⟨rfl,rfl⟩,⟨by first|exact Jt _ (fun _=>rfl)|rfl,Jk (fun _=>rfl) _⟩,⟨Jd rfl (by first|exact Jg _ _ _|rfl),Je rfl,Jc _ _ _⟩,⟨Jd rfl (by first|exact Jg _ _ _|rfl),Je rfl,Jc _ _ _⟩,⟨rfl,rfl⟩,⟨by first|exact Jt _ (fun _=>rfl)|rfl,Jk (fun _=>rfl) _⟩,⟨rfl,rfl⟩,⟨by first|exact Jt _ (fun _=>rfl)|rfl,Jk (fun _=>rfl) _⟩,⟨rfl,rfl⟩,⟨Jd rfl (by first|exact Jg _ _ _|rfl),Je rfl,Jc _ _ _⟩,trivial⟩⟩
 have q4:decide (s.kind=4)=false:=J1 k4
 rw[if_neg k4]at i6
 by_cases k5:s.kind=5
 ·have q5:decide (s.kind=5)=true:=J0 k5
  rw[if_pos k5]at i6
  repeat' first|refine Z1 ?_|refine Z2 ?_|refine Z5 ?_|refine Zf ?_|refine Zo ?_|refine Jf ?_|refine Zp ?_|refine Zq ?_|refine J5 ?_|refine J8 ?_|refine J3 ?_|refine J4 ?_
  exact⟨(q+1,J,m,W),nx (by omega) i3 i4' (fun h=>by omega) i6,by(try simp only);omega,Js [(15,15)] rfl rfl rfl ⟨⟨rfl,rfl⟩,⟨rfl,rfl⟩,⟨rfl,rfl⟩,⟨rfl,rfl⟩,⟨rfl,rfl⟩,⟨rfl,rfl⟩,⟨rfl,rfl⟩,⟨rfl,rfl⟩,⟨rfl,rfl⟩,⟨rfl,rfl⟩,⟨rfl,rfl⟩,⟨rfl,rfl⟩,⟨rfl,rfl⟩,⟨rfl,rfl⟩,⟨rfl,rfl⟩,⟨rfl,rfl⟩,⟨rfl,rfl⟩,trivial⟩ ⟨⟨rfl,rfl⟩,⟨rfl,rfl⟩,⟨rfl,rfl⟩,⟨by first|exact Jt _ (fun _=>rfl)|rfl,Jk (fun _=>rfl) _⟩,⟨Jd rfl (by first|exact Jg _ _ _|rfl),Je rfl,Jc _ _ _⟩,⟨Jd rfl (by first|exact Jg _ _ _|rfl),Je rfl,Jc _ _ _⟩,⟨rfl,rfl⟩,⟨by first|exact Jt _ (fun _=>rfl)|rfl,Jk (fun _=>rfl) _⟩,⟨rfl,rfl⟩,⟨by first|exact Jt _ (fun _=>rfl)|rfl,Jk (fun _=>rfl) _⟩,⟨rfl,rfl⟩,⟨Jd rfl (by first|exact Jg _ _ _|rfl),Je rfl,Jc _ _ _⟩,trivial⟩⟩
 have q5:decide (s.kind=5)=false:=J1 k5
 rw[if_neg k5]at i6
 by_cases k6:s.kind=6
 ·have q6:decide (s.kind=6)=true:=J0 k6
  rw[if_pos k6]at i6
  by_cases hm0:m=0
  ·subst hm0
   have n1:decide (((0-0:Nat):Int)=0)=true:=rfl
   rw[List.take_zero]at i6
   repeat' first|refine Z1 ?_|refine Z2 ?_|refine Zo ?_|refine J6 ?_|refine Zp ?_|refine Zq ?_|refine J5 ?_|refine Jb ?_|refine J7 ?_|refine J9 ?_
   exact hret i6 _ _ rfl rfl
  have n1:decide (((m-0:Nat):Int)=0)=false:=J1 (by omega)
  obtain⟨x,hx1⟩:∃x,J[m-1]? = some x:=⟨J[m-1],List.getElem?_eq_getElem (by omega)⟩
  have hgl:(J.take m).getLast? = some x:=by rw[List.getLast?_eq_getElem?,hSl,List.getElem?_take,if_pos (by omega)];exact hx1
  have hdl:(J.take m).dropLast=J.take (m-1):=by rw[List.dropLast_eq_take,hSl,List.take_take,Nat.min_eq_left (by omega)]
  rw[hgl]at i6
  dsimp only at i6
  rw[hdl]at i6
  have hw1:=i4 x
  have hw2:=hw1
  unfold wget at hw2
  have hr:(im2 eStr J)[m-1]? = some [vs x]:=J0b hx1
  repeat' first|refine Z1 ?_|refine Z2 ?_|refine Zo ?_|refine J6 ?_|refine Zp ?_|refine Zq ?_|refine J5 ?_|refine J8 ?_|refine J3 ?_
  refine Jv (fun j=>j=12∨j=13∨j=14) [9] Jp (by decide +kernel) ?_
  repeat' first|refine Wl (i:=13) rfl (.inr (.inl rfl)) ?_|refine Wa ?_
  refine Wq (fun σ' _=>Zg ⟨rfl,rfl⟩) ?_
  refine Wq (fun σ' h=>Yi1 (n:=((m-0:Nat):Int)-1) (hi:=m) (m-1) (h 14 (.inr (.inr rfl))) (by omega) (by omega) ⟨rfl,rfl⟩) ?_
  refine Wq (fun σ' h=>Ye1 (h 14 (.inr (.inr rfl))) hr ⟨rfl,rfl⟩) ?_
  refine Wq (fun σ' h=>Yb (e:=vi) (F:=W) (s:=x) (i:=12) (ho:=h 12 (.inl rfl)) ⟨rfl,rfl⟩) ?_
  refine Wq (fun σ' _=>Zg ⟨rfl,rfl⟩) ?_
  refine We (Yc (e:=vi) (b:=wget W x-1) (F:=W) (s:=x) (i:=12) ⟨rfl,rfl⟩) (.inl rfl) ?_
  first|refine Wx ?_|refine Wy ?_
  repeat' first|refine Z1 ?_|refine Z2 ?_|refine Z3 ?_|refine Z5 ?_|refine Yz (n:=((m-0:Nat):Int)-1) (hi:=m) (m-1) (i:=14) rfl (by omega) (by omega) ?_|refine Zf ?_|refine Zg ?_|refine Jf ?_|refine J3 ?_|refine J4 ?_
  exact⟨(q+1,J,m-1,sput W x (wget W x-1)),nx (by omega) (by omega) (J8K i4 (by omega)) (fun h=>by omega) i6,by(try simp only);omega,Js [(15,15)] rfl rfl rfl ⟨⟨rfl,rfl⟩,⟨rfl,rfl⟩,⟨rfl,rfl⟩,⟨rfl,rfl⟩,⟨rfl,rfl⟩,⟨rfl,rfl⟩,⟨rfl,rfl⟩,⟨rfl,rfl⟩,⟨rfl,rfl⟩,⟨rfl,rfl⟩,⟨rfl,rfl⟩,⟨rfl,rfl⟩,⟨rfl,rfl⟩,⟨rfl,rfl⟩,⟨rfl,rfl⟩,⟨rfl,rfl⟩,⟨rfl,rfl⟩,trivial⟩ ⟨⟨rfl,rfl⟩,⟨rfl,rfl⟩,⟨rfl,rfl⟩,⟨by first|exact Jt _ (fun _=>rfl)|rfl,Jk (fun _=>rfl) _⟩,⟨Jd rfl (by first|exact Jg _ _ _|rfl),Je rfl,Jc _ _ _⟩,⟨Jd rfl (by first|exact Jg _ _ _|rfl),Je rfl,Jc _ _ _⟩,⟨rfl,rfl⟩,⟨by first|exact Jt _ (fun _=>rfl)|rfl,Jk (fun _=>rfl) _⟩,⟨rfl,rfl⟩,⟨by first|exact Jt _ (fun _=>rfl)|rfl,Jk (fun _=>rfl) _⟩,⟨rfl,rfl⟩,⟨Jd rfl (by first|exact Jg _ _ _|rfl),Je rfl,Jc _ _ _⟩,trivial⟩⟩
 have q6:decide (s.kind=6)=false:=J1 k6
 rw[if_neg k6]at i6
 repeat' first|refine Z1 ?_|refine Z2 ?_|refine Zo ?_|refine Zq ?_|refine J5 ?_|refine Jb ?_|refine J7 ?_|refine J9 ?_
 exact hret i6 _ _ rfl rfl
end Go.Pm
