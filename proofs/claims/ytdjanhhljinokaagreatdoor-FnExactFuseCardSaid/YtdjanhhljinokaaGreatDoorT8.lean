/- Part of the proof: En2. -/
import Derived.Test.YtdjanhhljinokaaGreatDoorT7
import Derived.Carry
import Derived.OpenVars
import Derived.ChangeAlike
import Derived.ProofKit
import Derived.LaidMore
import Derived.OpenShut
set_option linter.unusedVariables false
set_option linter.unusedSimpArgs false
namespace Go.Pm
def litV:Lit→Value
 |.bool b=>.bool b
 |.int k n=>.int k n
 |.string l=>.string ⟨⟨l⟩⟩
 |_=>undef
def litO {H:Type}:DataW H→Value
 |.lit l=>litV l
 |_=>undef
def mapEnts {H:Type}:DataW H→List (Lit×DataW H)
 |.map l=>l
 |_=>[]
def litMap {H:Type} (g:List (Lit×DataW H)):List (Value×D):=g.map fun y=>(litV y.1,.s (litO y.2))
def distB:List Value→Bool
 |[]=>true
 |x::l=>l.all (fun y=>!keyEq x y&&!keyEq y x)&&distB l
def litB {H:Type}:DataW H→Bool
 |.lit (.bool _)|.lit (.int _ _)|.lit (.string _)=>true
 |_=>false
theorem J4g:∀{l:List Value},distB l=true→∀i j (hi:i<l.length) (hj:j<l.length),keyEq l[i] l[j]=true→i=j
 |[],_,i,j,hi,_,_=>by simp at hi
 |x::l,h,i,j,hi,hj,he=>by
  simp only[distB,Bool.and_eq_true,List.all_eq_true,Bool.not_eq_true']at h
  match i,j with
  |0,0=>rfl
  |0,j+1=>have:=(h.1 (l[j]'(by simpa using hj)) (List.getElem_mem _)).1;simp at he;rw[this]at he;cases he
  |i+1,0=>have:=(h.1 (l[i]'(by simpa using hi)) (List.getElem_mem _)).2;simp at he;rw[this]at he;cases he
  |i+1,j+1=>have:=J4g h.2 i j (by simpa using hi) (by simpa using hj) (by simpa using he);omega
theorem J3l {H:Type} (x:Lit×DataW H):∀l:List (Lit×DataW H),(DataW.insert x l).Perm (x::l)
 |[]=>.refl _
 |y::r=>by
  simp only[DataW.insert]
  split
  ·exact .refl _
  ·exact(List.Perm.cons y (J3l x r)).trans (List.Perm.swap x y r)
theorem J3t {H:Type}:∀l:List (Lit×DataW H),(l.foldr DataW.insert []).Perm l
 |[]=>.refl _
 |x::l=>(J3l x _).trans ((J3t l).cons x)
theorem JaF {P:Program} {k:TypeId} {v:Value} {l:Lit} (hk:P.underlying k=some .string∨P.underlying k=some (.int .i64)) (h:keyOf P k v=some l):v=litV l:=by
 rcases hk with hk|hk<;>simp only[keyOf,hk,mapKey]at h<;>cases v<;>simp at h
 ·obtain⟨_,rfl⟩:=h;rfl
 ·obtain⟨⟨rfl,_⟩,rfl⟩:=h;rfl
theorem J3a {v u:Value} {P:Program} {t:TypeId} (hv:v.cells.toList=[u]) (hf:v.formed P t=true) (hn:∀cs,v≠.agg cs):v=u:=by
 cases v<;>first|exact absurd rfl (hn _)|(simp[Value.formed]at hf;done)|(simpa[Value.cells]using hv)
theorem JaH {H:Type} {en:TypeId×Value→H} {P:Program} {w:World} {base:Nat} {spare:Nat→Bool} {held:Bool} {e:TypeId} {v:Value} {fuel:Nat} {d:DataW H} {ps:List MemPlace}
  (he:P.underlying e=some .bool∨P.underlying e=some .string∨P.underlying e=some (.int .i64)) (hf:v.formed P e=true) (h:DataW.trod en P w base spare held fuel e v.cells.toList=some (d,ps)):v=litO d:=by
 have hn:∀cs,v≠.agg cs:=by
  intro cs hv
  subst hv
  rcases he with he|he|he<;>simp[Value.formed,he]at hf
 cases fuel with
 |zero=>simp[DataW.trod]at h
 |succ fuel=>
  rcases he with he|he|he<;>unfold DataW.trod at h<;>rw[he]at h<;>
   (split at h<;>first|(rename_i hq _;cases hq;done)|(rename_i hq;cases hq;done)|(rename_i hq _ _;cases hq;done)|(simp_all;done)|skip)
  ·rename_i hc
   obtain⟨rfl,_⟩:_∧_:=by simpa using h
   exact J3a hc hf hn
  ·rename_i hc
   split at h
   ·obtain⟨rfl,_⟩:_∧_:=by simpa using h
    exact J3a hc hf hn
   ·cases h
  ·rename_i hc hq
   cases hc
   split at h
   ·rename_i hk
    obtain⟨rfl,_⟩:_∧_:=by simpa using h
    rw[J3a hq hf hn,hk.1];rfl
   ·cases h
theorem J1D {H:Type} (g:List (Lit×DataW H)):(litMap g).length=g.length:=by simp[litMap]
theorem J8r {n:Nat} {R:Nat→Nat→Prop} (h:∀k,k<n→∃j,R k j):∃π:Nat→Nat,∀k,k<n→R k (π k):=by
 refine⟨fun k=>if hk:k<n then(h k hk).choose else 0,fun k hk=>?_⟩
 simp only[hk,dif_pos]
 exact(h k hk).choose_spec
theorem Jau {H:Type} {en:TypeId×Value→H} {P:Program} {w:World} {base:Nat} {spare:Nat→Bool} {held:Bool} {t k e:TypeId} {kk:KD} {fuel:Nat} {cs:List Value} {g:List (Lit×DataW H)} {ps:List MemPlace}
  (ht:P.underlying t=some (.map k e)) (hk:P.underlying k=some .string∨P.underlying k=some (.int .i64)) (he:P.underlying e=some .bool∨P.underlying e=some .string∨P.underlying e=some (.int .i64))
  (hf:((litMap g).all fun y=>keyFit kk y.1)=true) (hd:distB ((litMap g).map (·.1))=true) (h:DataW.trod en P w base spare held fuel t cs=some (.map g,ps)):
  ∃v,cs=[v]∧v.oneCell'=true∧DRel (FW w) (.mp kk (litMap g)) v:=by
 cases fuel with
 |zero=>simp[DataW.trod]at h
 |succ fuel=>
  unfold DataW.trod at h
  rw[ht]at h
  split at h<;>first|(rename_i hq _;cases hq;done)|(rename_i hq;cases hq;done)|(rename_i hq _ _;cases hq;done)|(simp_all;done)|skip
  rename_i k' e' b hq
  cases hq
  refine⟨_,rfl,rfl,?_⟩
  split at h
  ·rename_i es clock hb
   split at h
   ·obtain⟨en0,hen,hs⟩:=Option.bind_eq_some_iff.1 h
    simp only at hs
    split at hs
    ·simp only[Option.some.injEq,Prod.mk.injEq,DataW.map.injEq]at hs
     obtain⟨hg,_⟩:=hs
     have hperm:(en0.map (·.1)).Perm g:=by rw[←hg];exact(J3t _).symm
     obtain⟨h1,h2⟩:=J21 _ _ _ hen
     have hlen:en0.length=g.length:=by simpa using hperm.length_eq
     have hes:es.size=g.length:=by rw[←hlen,h1];simp
     have hent:∀j (hj:j<es.size) (hj':j<en0.length),es[j].key=litV en0[j].1.1∧es[j].val=litO en0[j].1.2:=by
      intro j hj hj'
      have h3:=h2 j (by simpa using hj) hj'
      obtain⟨key,hkey,h4⟩:=Option.bind_eq_some_iff.1 h3
      split at h4
      ·rename_i hfo
       obtain⟨y,hy,h5⟩:=Option.map_eq_some_iff.1 h4
       rw[←h5]
       simp only[Array.getElem_toList]at hkey hy hfo
       obtain⟨yd,yp⟩:=y
       exact⟨JaF hk hkey,JaH he hfo hy⟩
      ·cases h4
     have hdist:∀i j (hi:i<g.length) (hj:j<g.length),g[i].1=g[j].1→i=j:=by
      intro i j hi hj hij
      have hi':i<((litMap g).map (·.1)).length:=by simpa[litMap]using hi
      have hj':j<((litMap g).map (·.1)).length:=by simpa[litMap]using hj
      refine J4g hd i j hi' hj' ?_
      have hfi:=List.all_eq_true.1 hf ((litMap g)[i]'(by simpa[litMap]using hi)) (List.getElem_mem _)
      simp only[litMap,List.getElem_map]at hfi
      simp only[litMap,List.map_map,List.getElem_map,Function.comp,←hij]
      revert hfi
      cases kk<;>cases hg1:litV (g[i].1)<;>simp[keyFit,keyEq]
     have hnd:g.Pairwise (fun a b=>a≠b):=by
      rw[List.pairwise_iff_getElem]
      intro i j hi hj hij he
      have:=hdist i j hi hj (by rw[he])
      omega
     have hnd2:(en0.map (·.1)).Pairwise (fun a b=>a≠b):=(hperm.pairwise_iff (fun h=>Ne.symm h)).2 hnd
     have hinj:∀i j (hi:i<en0.length) (hj:j<en0.length),en0[i].1=en0[j].1→i=j:=by
      intro i j hi hj hij
      rw[List.pairwise_iff_getElem]at hnd2
      rcases Nat.lt_trichotomy i j with hlt|rfl|hlt
      ·exact absurd (by rw[List.getElem_map,List.getElem_map];exact hij) (hnd2 i j (by simpa using hi) (by simpa using hj) hlt)
      ·rfl
      ·exact absurd (by rw[List.getElem_map,List.getElem_map];exact hij.symm) (hnd2 j i (by simpa using hj) (by simpa using hi) hlt)
     obtain⟨π,hπ⟩:∃π:Nat→Nat,∀k,k<g.length→∃(hk:k<g.length) (hj:π k<en0.length),(en0[π k]).1=g[k]:=by
      refine J8r (R:=fun k j=>∃(hk:k<g.length) (hj:j<en0.length),(en0[j]).1=g[k]) fun k hk=>?_
      have hm:g[k]∈en0.map (·.1):=hperm.mem_iff.2 (List.getElem_mem hk)
      obtain⟨j,hj,hj2⟩:=List.getElem_of_mem hm
      exact⟨j,hk,by simpa using hj,by simpa using hj2⟩
     refine .mp kk (litMap g) b es clock (fun k=>((litMap g)[k]?.map fun y=>match y.2 with|.s v=>v|_=>undef).getD undef) π hb (by rw[J1D];exact hes) (fun y hy=>List.all_eq_true.1 hf y hy) ?_ ?_ ?_ ?_
     ·intro i j hi hj hij
      exact J4g hd i j (by simpa using hi) (by simpa using hj) (by simpa using hij)
     ·intro i hi
      rw[J1D]at hi
      obtain⟨_,hj,hj2⟩:=hπ i hi
      have hje:π i<es.size:=by omega
      obtain⟨e1,e2⟩:=hent (π i) hje hj
      rw[hj2]at e1 e2
      simp only[Array.getElem?_eq_getElem hje,Option.map_some,e1,e2,litMap,List.getElem_map,List.getElem?_map,List.getElem?_eq_getElem hi,Option.getD_some]
     ·intro j hj
      have hj':j<en0.length:=by omega
      have hm:en0[j].1∈g:=hperm.mem_iff.1 (List.mem_map.2 ⟨_,List.getElem_mem hj',rfl⟩)
      obtain⟨i,hi,hi2⟩:=List.getElem_of_mem hm
      obtain⟨_,hp,hp2⟩:=hπ i hi
      exact⟨i,by rw[J1D];exact hi,hinj _ _ hp hj' (by rw[hp2,hi2])⟩
     ·intro i hi
      have hi':i<g.length:=by rw[J1D]at hi;exact hi
      simp only[litMap,List.getElem_map,List.getElem?_map,List.getElem?_eq_getElem hi',Option.map_some,Option.getD_some]
      exact .s _
    ·cases hs
   ·cases h
  ·cases h
open Go.ChangeShapes Go.WideShapes Go.WideElems Go.RowKit
section close
variable {H:Type} {enc:TypeId×Value→H} {P:Program} {W W':World}
theorem J2e (hl:laidOutB P=true) (hb:Below W.heap.size W W'):∀{ts:List TypeId} {vs:List Value} {ds:List (DataW H)} {ps:List MemPlace},(ts.all fun t=>P.readableRec t&&decide (t<P.types.size))=true→
  (∀x∈ps,x.block<W.heap.size)→DataW.TrodAll enc P W 0 (fun _=>true) true ts vs ds ps→DataW.TrodAll enc P W' 0 (fun b=>decide (b<W.heap.size)) true ts vs ds ps
 |[],[],[],_,_,_,h=>h
 |t::ts,v::vs,d::ds,ps,ht,hlt,h=>by
  obtain⟨p,q,h1,h2,rfl⟩:=h
  simp only[List.all_cons,Bool.and_eq_true,decide_eq_true_eq]at ht
  exact⟨p,q,Below.trod hl ht.1.1 ht.1.2 h1 hb (fun x hx=>hlt x (by simp[hx])),J2e hl hb (by simpa[List.all_eq_true]using ht.2) (fun x hx=>hlt x (by simp[hx])) h2,rfl⟩
 |[],_::_,_,_,_,_,h=>h.elim
 |[],[],_::_,_,_,_,h=>h.elim
 |_::_,[],_,_,_,_,h=>h.elim
 |_::_,_::_,[],_,_,_,h=>h.elim
theorem J8e {F F':FH} {η η':Et} {σ':St} {fn:Func} {s:ChangeSpec} {args:Array Value} {ds gs:List (DataW H)} {before:List MemPlace} {tb:TypeId} (hl:laidOutB P=true)
  (ha:(fn.params.toList.all fun t=>P.readableRec t&&decide (t<P.types.size))=true) (hv:varsRowed P s.vars=true) (hr:fn.resultTypes=#[tb]) (htb:P.underlying tb=some .bool)
  (hfn:s.fn H (ds++gs)={results:=[.lit (.bool true)],args:=ds,vars:=gs}) (hW:DataW.Whole enc P fn.params.toList s.vars false W args.toList ds gs before) (hs:Step F η St.nil W F' η' σ' W'):
  s.post enc P fn false true false false W args (.bool true) W':=by
 have hb:Below W.heap.size W {W' with tape:=W.tape}:=
  ⟨hs.gr.2.1,rfl,hs.gr.2.2,hs.gr.1,fun k hk=>hs.fm k hk fun i o ho=>by simp[St.nil]at ho⟩
 refine ChangeSpec.post_alike (W'':={W' with tape:=W.tape}) ?_ ⟨rfl,rfl,rfl⟩
 have hW':=hW
 have hlt:=hW.lt
 obtain⟨p,q,hA,hV,rfl,_,_⟩:=hW
 have hAs:=J2e (H:=H) (enc:=enc) hl hb ha (fun x hx=>hlt x (by simp[hx])) hA
 have hVs:=Below.trodVars (H:=H) (enc:=enc) hl hb hv hV
 refine⟨ds,gs,p++q,[],p,q,hW',?_,?_,?_,hb.frame _,fun h=>by cases h⟩
 ·rw[hfn,hr]
  exact trodAll_mk1 (shut_bool htb _)
 ·rw[hfn];exact hAs
 ·rw[hfn];exact hVs
def isStructD:TypeDesc→Bool
 |.struct _=>true
 |_=>false
theorem J6y {t:TypeId} (h:(P.underlying t).map isStructD=some true):∃fs,P.underlying t=some (.struct fs):=by
 cases hu:P.underlying t with
 |none=>rw[hu]at h;cases h
 |some d=>
  rw[hu]at h
  cases d<;>first|exact⟨_,rfl⟩|(simp[isStructD]at h;done)
theorem Jbc {α:Type} {t:TypeId} {e:α→List D} {ok:α→Prop} {v:Value} {d:DataW H} {ps:List MemPlace} {base0:Nat} (ht':(P.underlying t).map isStructD=some true) (hval:Value.okWide P W .any base0 t v) (hE:Rd enc P W 0 (fun _=>true) true t e ok)
  (h:DataW.Trod enc P W 0 (fun _=>true) true t v d ps):∃y,ok y∧∀η n,VRel (FW W) η n (.agg ((e y).map .d)) v:=by
 obtain⟨fs,ht⟩:=J6y ht'
 unfold Value.okWide at hval
 rw[ht]at hval
 obtain⟨cs,rfl,_⟩:=hval
 obtain⟨fuel,hf⟩:=h
 obtain⟨y,h1,h2,h3⟩:=hE fuel _ _ hf
 refine⟨y,h1,fun η n=>.agg (by simpa[Value.cells]using h2.symm) fun j hj=>?_⟩
 have hj':j<(e y).length:=by simpa using hj
 have:=(h3 j hj').1
 simp only[List.getElem_map]
 refine .d ?_
 simpa[Value.cells]using this
theorem JaS {n:String} {g g':Nat} {cs:Array Value} {x:D} {v:Value} (hg:P.globalNamed n=some g) (hg':P.globalNamed n=some g') (hv:W.var? P n=some cs) (hc:cs.toList=[v]) (ho:v.oneCell'=true) (hx:DRel (FW W) x v):
  DRel (FW W) (.ip [x] 0) (.pointer (some ⟨g',0,none⟩))∧∃c E fz,FW W g'=some (.cells c E fz)∧c.size=[x].length:=by
 obtain rfl:g=g':=Option.some.inj (hg.symm.trans hg')
 unfold World.var? at hv
 rw[hg]at hv
 simp only[Option.bind_some]at hv
 split at hv
 ·rename_i c E fz hh
  cases hv
  obtain⟨l⟩:=cs
  simp only at hc
  subst hc
  refine⟨.ip [x] 0 g 0 #[v] E fz (fun _=>v) hh ?_ ?_ ?_,#[v],E,fz,hh,rfl⟩
  ·intro j hj
   have:j=0:=by simp at hj;omega
   subst this;rfl
  ·intro j _;exact ho
  ·intro j hj
   have:j=0:=by simp at hj;omega
   subst this;exact hx
 ·cases hv
end close
section rdg
variable {H:Type} {en:TypeId×Value→H} {P:Program} {w:World} {base:Nat} {spare:Nat→Bool} {held:Bool}
def RdG (en:TypeId×Value→H) (P:Program) (w:World) (base:Nat) (spare:Nat→Bool) (held:Bool) {α:Type} (o:Nat) (prs:List (Nat×TypeId)) (e:α→List D) (ok:α→Prop):Prop:=
 ∀fs:List Field,(fs.map fun f=>(f.offset,f.type))=prs→RdF en P w base spare held o fs e ok
theorem J31 {o:Nat}:RdG en P w base spare held o [] (fun _:Unit=>[]) (fun _=>True):=by
 intro fs h
 have:fs=[]:=by simpa using h
 subst this
 exact Jav
theorem JK {α β:Type} {o ty:Nat} {prs:List (Nat×TypeId)} {e0:α→List D} {e1:β→List D} {ok0:α→Prop} {ok1:β→Prop} (s:Nat) (h0:Rd en P w base spare held ty e0 ok0) (hs:∀y,(e0 y).length=s)
  (h1:RdG en P w base spare held (o+s) prs e1 ok1):RdG en P w base spare held o ((o,ty)::prs) (fun p:α×β=>e0 p.1++e1 p.2) (fun p=>ok0 p.1∧ok1 p.2):=by
 intro fs h
 match fs with
 |[]=>simp at h
 |f::fs=>
  simp only[List.map_cons,List.cons.injEq,Prod.mk.injEq]at h
  obtain⟨⟨ho,rfl⟩,h⟩:=h
  exact J9n h0 ho hs (h1 fs h)
theorem J18 {α:Type} {t n:Nat} {prs:List (Nat×TypeId)} {e:α→List D} {ok:α→Prop} (ht:(P.underlying t).map kindOf=some (.struct prs)) (hn:P.cellsOf t=n) (hl:∀y,(e y).length=n) (h:RdG en P w base spare held 0 prs e ok):
  Rd en P w base spare held t e ok:=by
 cases hu:P.underlying t with
 |none=>rw[hu]at ht;cases ht
 |some d=>
  rw[hu]at ht
  cases d<;>simp only[Option.map_some,kindOf,Option.some.injEq]at ht<;>first|(cases ht;done)|skip
  rename_i fs
  simp only[KD.struct.injEq]at ht
  exact J8t hu hn hl (h _ ht)
end rdg
end Go.Pm
/- Part of the proof: Pm18. -/
namespace Go.Pm
attribute [local irreducible] AR Ok inBlock andThen endQ aoper
def trk {α:Type} (e:α→List D) (l:List α) (k:Nat) (z:List AV):List (List AV):=tRows e (l.take k) (l.length-k) z
theorem Jaj {α:Type} {e:α→List D} {l:List α} {k:Nat} {z:List AV} {y:α} (hx:l[k]? = some y):(trk e l k z).set k ((e y).map .d)=trk e l (k+1) z:=by
 have hlt:=(Jc hx).2
 have hy:=(List.getElem?_eq_some_iff.1 hx).2
 have h1:(l.take k).length=k:=by simp;omega
 have h2:l.length-k=(l.length-(k+1))+1:=by omega
 have h3:l.take (k+1)=l.take k++[y]:=by rw[List.take_add_one,hx];rfl
 unfold trk
 rw[h2,h3]
 have:=J8j e (l.take k) (l.length-(k+1)) z y
 rw[h1]at this
 exact this
theorem J0x {α:Type} {e:α→List D} {l:List α} {k:Nat} {z:List AV} (h:l.length≤k):trk e l k z=im2 e l:=by
 unfold trk
 rw[show l.length-k=0 by omega,J7r,List.take_of_length_le h]
theorem JaL {α:Type} {e:α→List D} {l:List α} {k:Nat} {z:List AV} {y:α} (hx:l[k]? = some y):(trk e l k z)[k]? = some z:=by
 have hlt:=(Jc hx).2
 unfold trk tRows
 have h1:(im2 e (l.take k)).length=k:=by rw[JT];simp;omega
 rw[List.getElem?_append_right (by omega),h1,Nat.sub_self,show l.length-k=(l.length-(k+1))+1 by omega]
 simp
theorem J4e (n:Nat):∀l:List D,lows n (l.map .d)=true
 |[]=>rfl
 |_::l=>by simp only[List.map_cons,lows,low,J4e n l,Bool.and_self]
theorem Jl {α:Type} (e:α→List D) (l:List α) (n:Nat):∀r∈im2 e l,lows n r=true:=by
 intro r hr
 simp only[im2,List.map_map,List.mem_map,Function.comp]at hr
 obtain⟨y,_,rfl⟩:=hr
 exact J4e n _
theorem J0y {α:Type} (e:α→List D) (l:List α) (k n:Nat) {z:List AV} (hz:lows n z=true):∀r∈trk e l k z,lows n r=true:=by
 intro r hr
 unfold trk tRows at hr
 rcases List.mem_append.1 hr with h|h
 ·exact Jl e _ n r h
 ·rw[(List.mem_replicate.1 h).2];exact hz
section rows
variable {X:Cfg} {nt:Nat} {Q:Exit→Env→St→Prop} {K:AV→St→Prop} {env:Env} {σ σ':St}
theorem J0t {α:Type} {e:α→List D} {l:List α} {k:Nat} {z:List AV} {y:α} {t i v el sz:Nat} {ti:TI} {p x:Operand} {cs:List AV} (hx:l[k]? = some y) (hp:aev X env p=.ep i v k 0) (ht:X.T t=some ti) (hxc:cellsF (aev X env x)=some cs) (hcs:cs=(e y).map .d)
  (hl:(e y).length=ti.size) (h1:((e y).map AV.d).all AV.one=true) (hz:z.length=ti.size) (ho:σ.obj i=some (.row v el sz (trk e l k z))) (h:K (.d (.s undef)) (σ.set i (.row v el sz (trk e l (k+1) z)))):aoper X (.store t p x) env σ Q K:=by
 subst hcs
 simp only[aoper,aop,astore]
 refine⟨ti,ht,_,J0C hxc,by simpa using hl,h1,?_⟩
 simp only[hp]
 refine⟨el,sz,_,ho,z,JaL hx,by omega,?_⟩
 have e1:splice z 0 ((e y).map .d)=(e y).map .d:=by simp[splice,hz,hl]
 rw[e1,Jaj hx]
 exact h
theorem J0G {α:Type} {e:α→List D} {l:List α} {rows:List (List AV)} (hrows:rows=im2 e l) (t:Nat) {i v el sz n:Nat} (ht:env t=.sl i v 0 n) (ho:σ.obj i=some (.row v el sz rows)) (hn:n=l.length)
  (h:Ok X nt .ret Q (envL [(t,.d (.im (l.map e)))]) ⟨fun _=>none,σ.next⟩):Ok X nt .ret Q env σ:=by
 subst hrows
 exact Jbw t ht ho hn h
theorem retc {t ty:Nat} {ti:TI} {co:List AV×Nat} {K:AEnd→St→Prop} {x:AV} (ht:X.T ty=some ti) (hb:behind σ (env t)=some co) (h:pieceF (isAggK ti.kind) co.1 co.2 ti.size=some x) (hx:K (.ret x) σ):endQ X #[.cell t ty].toList K .ret env σ:=by
 unfold endQ
 simp only[ares,aload]
 exact⟨ti,ht,co,hb,x,J0z h,hx⟩
theorem J7U {t ty:TypeId} {x y:Operand} {m n r:Int} (hx:aev X env x=vi m) (hy:aev X env y=vi n) (hr:m-n=r) (h:-9223372036854775808≤r∧r≤9223372036854775807) (hk:K (vi r) σ):aoper X (.binOp .sub t x y ty) env σ Q K:=by
 subst hr;exact J93 hx hy h hk
theorem JbA {t ty:TypeId} {x y:Operand} {ti:TI} {a b:Bool} (hx:aev X env x=vb a) (hy:aev X env y=vb b) (ht:X.T t=some ti) (hk:ti.kind=.bool) (h:K (vb (!(a == b))) σ):aoper X (.binOp .neq t x y ty) env σ Q K:=by
 simp only[aoper,aop,abinop,hx,hy,abin]
 exact⟨ti,ht,a == b,by simp[aeq,hk],.inr ⟨trivial,h⟩⟩
end rows
end Go.Pm
/- Part of the proof: Pm19. -/
namespace Go.Pm
attribute [local irreducible] AR Ok inBlock andThen endQ aoper
section
variable {X:Cfg} {nt:Nat} {ops:Array Oper} {rest:List Oper} {Q:Exit→Env→St→Prop} {K:AV→St→Prop} {env:Env} {σ σ':St} {dst:Option Tmp} {op:Op} {ty:TypeId} {pos:String} {after:Array Edge} {j d:Nat} {b want:Bool} {r:AV}
theorem Z1 (h:AR X nt ops Q rest (put env dst r) σ') (hd:dst.all (·<nt)=true:=by exact rfl) (hs:astep X env σ op=some (r,σ'):=by exact rfl):AR X nt ops Q (⟨dst,op,ty,pos,after,none⟩::rest) env σ:=J6b hd (J2I hs h)
theorem Z2 {K':Env→St→Prop} (h:K' env σ):AR X nt ops (andThen K' Q) [] env σ:=J9L (J3 h)
theorem Z3 (h:Q .normal env σ):AR X nt ops Q [] env σ:=J9L h
theorem Z4 {t len d:Nat} {ps:Array (Nat×Operand)} {ti te:TI} {e:Nat} {rows:List (List AV)} {drows:List (List D)} (h:AR X nt ops Q rest (put env (some d) (.d (.im drows))) σ.bump) (hd:Nat.blt d nt=true:=by exact rfl) (ht:X.T t=some ti:=by exact rfl) (hk:ti.kind=.slice e:=by exact rfl) (hte:X.T e=some te:=by exact rfl) (hp:Nat.blt 0 te.size=true:=by exact rfl)
  (hb:Nat.ble (len*te.size) 16777216=true:=by exact rfl) (hr:fillRows te.size (List.replicate len (zrow te)) (ps.toList.map fun p=>(p.1,aev X env p.2))=some rows:=by exact rfl) (hdr:rowsDF rows=some drows:=by exact rfl) (hl:drows.length=len:=by exact rfl)
  (hnew:σ.obj σ.next=none:=by exact rfl):AR X nt ops Q (⟨some d,.buildSlice t len ps,ty,pos,after,none⟩::rest) env σ:=J8q hd ht hk hte hp hb hr hdr hl hnew h
theorem Z5 (h:aoper X op env σ Q (fun v σ'=>AR X nt ops Q rest (put env dst v) σ')) (hd:dst.all (·<nt)=true:=by exact rfl):AR X nt ops Q (⟨dst,op,ty,pos,after,none⟩::rest) env σ:=J6b hd h
theorem Z6 (h:AR X nt ops Q rest (put env dst (.d (.s undef))) σ) (hj:(ops[j]?).bind (·.dst)=some d:=by exact rfl) (hn:Nat.blt d nt=true:=by exact rfl) (hb:env d=.d (.s undef):=by exact rfl) (hd:dst.all (·<nt)=true:=by exact rfl):
  AR X nt ops Q (⟨dst,op,ty,pos,after,some (j,want)⟩::rest) env σ:=J9I hj hn hb hd h
theorem Z7 (h:aoper X op env σ Q (fun v σ'=>AR X nt ops Q rest (put env dst v) σ')) (hj:(ops[j]?).bind (·.dst)=some d:=by exact rfl) (hn:Nat.blt d nt=true:=by exact rfl) (hb:env d=.d (.s (.bool b)):=by exact rfl) (hd:dst.all (·<nt)=true:=by exact rfl) (hw:b=want:=by with_reducible first|exact rfl|assumption):
  AR X nt ops Q (⟨dst,op,ty,pos,after,some (j,want)⟩::rest) env σ:=J9G hj hn hb hd hw h
theorem Z8 (h:AR X nt ops Q rest (put env dst (.d (.s undef))) σ) (hj:(ops[j]?).bind (·.dst)=some d:=by exact rfl) (hn:Nat.blt d nt=true:=by exact rfl) (hb:env d=.d (.s (.bool b)):=by exact rfl) (hd:dst.all (·<nt)=true:=by exact rfl) (hw:b=false:=by with_reducible first|exact rfl|assumption):
  AR X nt ops Q (⟨dst,op,ty,pos,after,some (j,true)⟩::rest) env σ:=J8B hj hn hb hd hw h
theorem Z9 (h:AR X nt ops Q rest (put env dst (.d (.s undef))) σ) (hj:(ops[j]?).bind (·.dst)=some d:=by exact rfl) (hn:Nat.blt d nt=true:=by exact rfl) (hb:env d=.d (.s (.bool b)):=by exact rfl) (hd:dst.all (·<nt)=true:=by exact rfl) (hw:b=true:=by with_reducible first|exact rfl|assumption):
  AR X nt ops Q (⟨dst,op,ty,pos,after,some (j,false)⟩::rest) env σ:=J8M hj hn hb hd hw h
theorem Za (h1:b=true→aoper X op env σ Q (fun v σ'=>AR X nt ops Q rest (put env dst v) σ')) (h2:b=false→AR X nt ops Q rest (put env dst (.d (.s undef))) σ) (hj:(ops[j]?).bind (·.dst)=some d:=by exact rfl) (hn:Nat.blt d nt=true:=by exact rfl) (hb:env d=.d (.s (.bool b)):=by exact rfl) (hd:dst.all (·<nt)=true:=by exact rfl):
  AR X nt ops Q (⟨dst,op,ty,pos,after,some (j,true)⟩::rest) env σ:=J7j hj hn hb hd h1 h2
theorem Zb (h1:b=false→aoper X op env σ Q (fun v σ'=>AR X nt ops Q rest (put env dst v) σ')) (h2:b=true→AR X nt ops Q rest (put env dst (.d (.s undef))) σ) (hj:(ops[j]?).bind (·.dst)=some d:=by exact rfl) (hn:Nat.blt d nt=true:=by exact rfl) (hb:env d=.d (.s (.bool b)):=by exact rfl) (hd:dst.all (·<nt)=true:=by exact rfl):
  AR X nt ops Q (⟨dst,op,ty,pos,after,some (j,false)⟩::rest) env σ:=J7J hj hn hb hd h1 h2
theorem Zc {k:FuncId} {args:List AV} {c:Call} {f:Operand} (h:PFun X k args r) (hk:K r σ) (hc:c.callee=.value f:=by exact rfl) (hf:aev X env f=.d (.s (.func (.func k) #[] #[])):=by exact rfl) (ha:c.args.toList.map (aev X env)=args:=by exact rfl):aoper X (.call c) env σ Q K:=JaT h hc hf ha hk
theorem Zd {α:Type} {e:α→List D} {l:List α} {ti:TI} {el:TypeId} {as:Array Operand} {ts:Array TypeId} {x:Operand} {t:TypeId} (hk:K (vi l.length) σ) (h1:as.toList=[x]:=by exact rfl) (h2:ts.toList=[t]:=by exact rfl) (hx:aev X env x=.d (.im (l.map e)):=by exact rfl)
  (ht:X.T t=some ti:=by exact rfl) (hk':ti.kind=.slice el:=by exact rfl):aoper X (.call ⟨.builtin .len,as,ts⟩) env σ Q K:=JbH hx h1 h2 ht hk' hk
theorem Ze {α:Type} {e:α→List D} {l:List α} {y:α} {k:Nat} {ti te:TI} {el:TypeId} {t:TypeId} {x i:Operand} (hk:K (.d (.ip (e y) 0)) σ) (hx:aev X env x=.d (.im (l.map e)):=by exact rfl) (hi:aev X env i=vi (k:Int):=by exact rfl) (hl:l[k]? = some y:=by assumption)
  (ht:X.T t=some ti:=by exact rfl) (hk':ti.kind=.slice el:=by exact rfl) (hte:X.T el=some te:=by exact rfl) (hs:(e y).length=te.size:=by exact rfl):aoper X (.indexAddr t x i) env σ Q K:=J7M hx hi hl ht hk' hte hs hk
theorem Zf {t ty:TypeId} {x y:Operand} {m n:Int} (hk:K (vi (m+n)) σ) (hx:aev X env x=vi m:=by exact rfl) (hy:aev X env y=vi n:=by exact rfl) (h:-9223372036854775808≤m+n∧m+n≤9223372036854775807:=by omega):aoper X (.binOp .add t x y ty) env σ Q K:=Jc0 hx hy h hk
theorem Zg {t ty:TypeId} {x y:Operand} {m n:Int} (hk:K (vi (m-n)) σ) (hx:aev X env x=vi m:=by exact rfl) (hy:aev X env y=vi n:=by exact rfl) (h:-9223372036854775808≤m-n∧m-n≤9223372036854775807:=by omega):aoper X (.binOp .sub t x y ty) env σ Q K:=J93 hx hy h hk
theorem Zh {t ty:TypeId} {x y:Operand} {o:BinOp} {u v r:Value} (hk:K (.d (.s r)) σ) (hx:aev X env x=.d (.s u):=by exact rfl) (hy:aev X env y=.d (.s v):=by exact rfl) (h:abin o u v=some r:=by exact rfl):aoper X (.binOp o t x y ty) env σ Q K:=J6h hx hy h hk
theorem Zi (hk:K r σ') (h:astep X env σ op=some (r,σ'):=by exact rfl):aoper X op env σ Q K:=J2I h hk
theorem Zj {t ty:TypeId} {x y:Operand} {ti:TI} {a b:Bool} (h:K (vb (!(a == b))) σ) (hx:aev X env x=vb a:=by exact rfl) (hy:aev X env y=vb b:=by exact rfl) (ht:X.T t=some ti:=by exact rfl) (hk:ti.kind=.bool:=by exact rfl):aoper X (.binOp .neq t x y ty) env σ Q K:=JbA hx hy ht hk h
theorem Zl {c x y:Operand} {u:AV} (h1:K u σ) (hc:aev X env c=.d (.s (.bool b)):=by exact rfl) (hb:b=true:=by with_reducible first|exact rfl|assumption) (hx:(aev X env x).force=some u:=by exact rfl):aoper X (.pick c x y) env σ Q K:=J8I hc hb hx h1
theorem Zm {c x y:Operand} {u:AV} (h1:K u σ) (hc:aev X env c=.d (.s (.bool b)):=by exact rfl) (hb:b=false:=by with_reducible first|exact rfl|assumption) (hx:(aev X env y).force=some u:=by exact rfl):aoper X (.pick c x y) env σ Q K:=J8b hc hb hx h1
theorem Zo {y:Code} {id:Nat} (h:AR X nt ops (andThen (Ok X nt y Q) Q) ops.toList env σ):Ok X nt (.seq (.region id ops false) y) Q env σ:=J5 (Jd h)
theorem Zp {c:Operand} {x y:Code} (h:Ok X nt x Q env σ) (hb:aev X env c=.d (.s (.bool b)):=by exact rfl) (hw:b=true:=by with_reducible first|exact rfl|assumption):Ok X nt (.cond c x y) Q env σ:=JbS hb hw h
theorem Zq {c:Operand} {x y:Code} (h:Ok X nt y Q env σ) (hb:aev X env c=.d (.s (.bool b)):=by exact rfl) (hw:b=false:=by with_reducible first|exact rfl|assumption):Ok X nt (.cond c x y) Q env σ:=JbD hb hw h
theorem Zr {c:Operand} {x y:Code} (h1:b=true→Ok X nt x Q env σ) (h2:b=false→Ok X nt y Q env σ) (hb:aev X env c=.d (.s (.bool b)):=by exact rfl):Ok X nt (.cond c x y) Q env σ:=J4q hb h1 h2
theorem Zt {t:Nat} {K:AEnd→St→Prop} {x:AV} (hx:K (.ret x) σ) (h:(env t).force=some x:=by exact rfl):endQ X #[.tmp t].toList K .ret env σ:=ret1 h hx
theorem Zu {t ty:Nat} {ti:TI} {co:List AV×Nat} {K:AEnd→St→Prop} {x:AV} (hx:K (.ret x) σ) (ht:X.T ty=some ti:=by exact rfl) (hb:behind σ (env t)=some co:=by exact rfl) (h:pieceF (isAggK ti.kind) co.1 co.2 ti.size=some x:=by exact rfl):endQ X #[.cell t ty].toList K .ret env σ:=retc ht hb h hx
theorem Zv {K:Env→St→Prop} {id:Nat} (h:Q (.exit id) env σ):andThen K Q (.exit id) env σ:=J6E h
end
section
variable {X:Cfg} {nt:Nat} {ops:Array Oper} {rest:List Oper} {Q:Exit→Env→St→Prop} {env:Env} {σ:St} {dst:Option Tmp} {op:Op} {ty:TypeId} {pos:String} {after:Array Edge} {j d:Nat} {b want:Bool} {r:AV}
theorem Zw (k:AD X nt ops Q σ rest (put env dst r)) (hd:dst.all (·<nt)=true:=by exact rfl) (h:astep X env σ op=some (r,σ):=by exact rfl):AD X nt ops Q σ (⟨dst,op,ty,pos,after,none⟩::rest) env:=J7S hd (J2I h ⟨rfl,rfl⟩) k
theorem Zx {K':Env→St→Prop} (h:K' env σ):AD X nt ops (andThen K' Q) σ [] env:=J9V (J3 h)
theorem Zy (h:Q .normal env σ):AD X nt ops Q σ [] env:=J9V h
theorem Zz (h:aoper X op env σ (fun _ _ _=>False) fun v σ'=>σ'=σ∧v=r) (k:AD X nt ops Q σ rest (put env dst r)) (hd:dst.all (·<nt)=true:=by exact rfl):AD X nt ops Q σ (⟨dst,op,ty,pos,after,none⟩::rest) env:=J7S hd h k
end
end Go.Pm
/- Part of the proof: Pm20. -/
namespace Go.Pm
attribute [local irreducible] AR Ok inBlock andThen endQ aoper
def sfind {β:Type}:List (ByteArray×β)→ByteArray→Option β
 |[],_=>none
 |(k,b)::F,s=>if s=k then some b else sfind F s
def sput {β:Type}:List (ByteArray×β)→ByteArray→β→List (ByteArray×β)
 |[],s,b=>[(s,b)]
 |(k,u)::F,s,b=>if s=k then(k,b)::F else(k,u)::sput F s b
theorem JG {β:Type} (s:ByteArray) (b:β) (t:ByteArray):∀F:List (ByteArray×β),sfind (sput F s b) t=if t=s then some b else sfind F t
 |[]=>by simp[sput,sfind]
 |(k,u)::F=>by
  have ih:=JG s b t F
  simp only[sput]
  by_cases h:s=k
  ·subst h;simp only[if_true,sfind];split<;>rfl
  ·simp only[h,if_false,sfind,ih]
   by_cases h2:t=k
   ·subst h2;simp[Ne.symm h]
   ·simp[h2]
def smap {β:Type} (e:β→AV) (F:List (ByteArray×β)):List (Value×AV):=F.map fun y=>(.string y.1,e y.2)
theorem J2n {β:Type} (e:β→AV) (s:ByteArray):∀F:List (ByteArray×β),afind (smap e F) (.string s)=(sfind F s).map e
 |[]=>rfl
 |(k,b)::F=>by
  have ih:=J2n e s F
  simp only[smap,List.map_cons,afind,keyEq,sfind]at ih ⊢
  by_cases h:s=k
  ·simp[h]
  ·simp[h,ih]
theorem J5G {β:Type} (e:β→AV) (s:ByteArray) (b:β):∀F:List (ByteArray×β),aput (smap e F) (.string s) (e b)=smap e (sput F s b)
 |[]=>rfl
 |(k,u)::F=>by
  have ih:=J5G e s b F
  simp only[smap,List.map_cons,aput,keyEq,sput]at ih ⊢
  by_cases h:s=k
  ·simp[h]
  ·simp[h,ih]
theorem Jp {β:Type} {e:β→AV} {n:Nat} (h:∀b,low n (e b)=true) (F:List (ByteArray×β)):∀y∈smap e F,low n y.2=true:=by
 intro y hy
 obtain⟨z,_,rfl⟩:=List.mem_map.1 hy
 exact h _
theorem J2E {α:Type} {e:α→List D} {l:List α} {k:Nat} {y:α} (h:l[k]? = some y):(im2 e l)[k]? = some ((e y).map .d):=by simp[im2,h]
def fil {α:Type} (e:α→List D) (l:List α) (m:Nat) (z:List AV):List (List AV):=tRows e l (m-l.length) z
def eInt (n:Int):List D:=[.s (.int .i64 n)]
def eBool (b:Bool):List D:=[.s (.bool b)]
def cInt (n:Int):List AV:=[vi n]
section
variable {X:Cfg} {nt:Nat} {ops:Array Oper} {rest:List Oper} {Q:Exit→Env→St→Prop} {K:AV→St→Prop} {env:Env} {σ σ':St} {r:AV}
theorem Ya {β:Type} {e:β→AV} {d0:β} {F:List (ByteArray×β)} {s:ByteArray} {i:Nat} {m k:Operand} {t kt et:TypeId} {ti tk te:TI} (hK:K (.tup [e ((sfind F s).getD d0),vb (sfind F s).isSome]) σ) (hm:aev X env m=.mp i:=by exact rfl) (hk:aev X env k=vs s:=by exact rfl)
  (ho:σ.obj i=some (.map .string (smap e F)):=by exact rfl) (h1:X.T t=some ti:=by exact rfl) (h2:ti.kind=.map kt et:=by exact rfl) (h3:X.T kt=some tk:=by exact rfl) (h4:X.T et=some te:=by exact rfl) (h5:tk.kind=.string:=by exact rfl) (h6:azero te=e d0:=by exact rfl):
  aoper X (.lookup t m k true) env σ Q K:=by
 simp only[aoper,aop,alookup]
 refine⟨ti,h1,kt,et,h2,tk,te,h3,h4,.string s,hk,by rw[h5];rfl,by simp only[hm,kindOfMap,ho,h5],smap e F,by simp only[hm,entriesOf,ho],?_⟩
 rw[J2n,h6]
 simp only[if_true]
 cases hq:sfind F s<;>rw[hq]at hK<;>exact hK
theorem Yb {β:Type} {e:β→AV} {d0:β} {F:List (ByteArray×β)} {s:ByteArray} {i:Nat} {m k:Operand} {t kt et:TypeId} {ti tk te:TI} (hK:K (e ((sfind F s).getD d0)) σ) (hm:aev X env m=.mp i:=by exact rfl) (hk:aev X env k=vs s:=by exact rfl)
  (ho:σ.obj i=some (.map .string (smap e F)):=by exact rfl) (h1:X.T t=some ti:=by exact rfl) (h2:ti.kind=.map kt et:=by exact rfl) (h3:X.T kt=some tk:=by exact rfl) (h4:X.T et=some te:=by exact rfl) (h5:tk.kind=.string:=by exact rfl) (h6:azero te=e d0:=by exact rfl):
  aoper X (.lookup t m k false) env σ Q K:=by
 simp only[aoper,aop,alookup]
 refine⟨ti,h1,kt,et,h2,tk,te,h3,h4,.string s,hk,by rw[h5];rfl,by simp only[hm,kindOfMap,ho,h5],smap e F,by simp only[hm,entriesOf,ho],?_⟩
 rw[J2n,h6]
 simp only[Bool.false_eq_true,if_false]
 cases hq:sfind F s<;>rw[hq]at hK<;>exact hK
theorem Yc {β:Type} {e:β→AV} {b:β} {F:List (ByteArray×β)} {s:ByteArray} {i:Nat} {m k x:Operand} {t kt et:TypeId} {ti tk:TI} (hK:K (.d (.s undef)) (σ.set i (.map .string (smap e (sput F s b))))) (hm:aev X env m=.mp i:=by exact rfl) (hk:aev X env k=vs s:=by exact rfl)
  (ho:σ.obj i=some (.map .string (smap e F)):=by exact rfl) (hx:aev X env x=e b:=by exact rfl) (h1:X.T t=some ti:=by exact rfl) (h2:ti.kind=.map kt et:=by exact rfl) (h3:X.T kt=some tk:=by exact rfl) (h5:tk.kind=.string:=by exact rfl):
  aoper X (.mapUpdate t m k x) env σ Q K:=by
 simp only[aoper,aop,amapUpdate]
 refine⟨ti,h1,kt,et,h2,tk,h3,.string s,hk,by rw[h5];rfl,i,hm,smap e F,by rw[h5];exact ho,?_⟩
 rw[hx,J5G,h5]
 exact hK
theorem Yd {t kt et n:Nat} {ti tk:TI} {kk:KD} (hK:K (.mp n) (σ.alloc (.map kk []))) (h1:X.T t=some ti:=by exact rfl) (h2:ti.kind=.map kt et:=by exact rfl) (h3:X.T kt=some tk:=by exact rfl) (h5:tk.kind=kk:=by exact rfl) (hn:natF σ.next=some n:=by exact rfl):aoper X (.makeMap t none) env σ Q K:=by
 have hn:=J0S hn
 subst hn
 subst h5
 exact(by simp only[aoper,aop,amakeMap];exact⟨ti,h1,kt,et,h2,tk,h3,hK⟩)
theorem Ye {cells:List AV} {rows:List (List AV)} {p:Operand} {i v k el sz t:Nat} {ti:TI} (hr:rows[k]? = some cells) (hK:K r σ) (hp:aev X env p=.ep i v k 0:=by exact rfl) (ho:σ.obj i=some (.row v el sz rows):=by exact rfl) (ht:X.T t=some ti:=by exact rfl)
  (hc:pieceF (isAggK ti.kind) cells 0 ti.size=some r:=by exact rfl):aoper X (.load t p) env σ Q K:=by
 simp only[aoper,aop,aload]
 exact⟨ti,ht,(cells,0),by simp only[hp,behind,ho,if_true,hr,Option.map_some],r,J0z hc,hK⟩
theorem Yf {t i v hi el:Nat} {n:Int} {ti te:TI} {rows:List (List AV)} {x y:Operand} (k:Nat) (hn:n=(k:Int)) (hlt:k<hi) (h:K (.ep i v k 0) σ) (hx:aev X env x=.sl i v 0 hi:=by exact rfl) (hy:aev X env y=vi n:=by exact rfl) (ht:X.T t=some ti:=by exact rfl) (hk:ti.kind=.slice el:=by exact rfl)
  (hte:X.T el=some te:=by exact rfl) (ho:σ.obj i=some (.row v el te.size rows):=by exact rfl):aoper X (.indexAddr t x y) env σ Q K:=by
 subst hn
 exact Jv hx hy hlt ht hk hte ho h
theorem Yi {x y:Operand} {m n:Int} {as:Array Operand} {ts:Array TypeId} (hk:K (vi (max m n)) σ) (h1:as.toList=[x,y]:=by exact rfl) (hx:aev X env x=vi m:=by exact rfl) (hy:aev X env y=vi n:=by exact rfl):aoper X (.call ⟨.builtin .max,as,ts⟩) env σ Q K:=by
 simp only[aoper,h1,abuiltin,aminmax,hx,hy]
 have:max m n=(if n > m then n else m):=by omega
 rw[this]at hk
 exact hk
theorem Yl {α:Type} {e:α→List D} {l:List α} (m:List α) {xrows:List (List D)} {as:Array Operand} {ts:Array TypeId} {s x:Operand} {t tx el i v n hi bb:Nat} {ti te tix:TI} (h:K (.sl i n 0 (l++m).length) (bumpSet σ i (.row n el te.size (im2 e (l++m)))))
  (h1:as.toList=[s,x]:=by exact rfl) (h2:ts.toList=[t,tx]:=by exact rfl) (hs:aev X env s=.sl i v 0 hi:=by exact rfl) (ht:X.T t=some ti:=by exact rfl) (hk:ti.kind=.slice el:=by exact rfl) (hte:X.T el=some te:=by exact rfl) (hp:Nat.blt 0 te.size=true:=by exact rfl) (hpb:Nat.blt 0 te.bytes=true:=by exact rfl)
  (htx:X.T tx=some tix:=by exact rfl) (hkx:tix.kind=.slice el:=by exact rfl) (ho:σ.obj i=some (.row v el te.size (im2 e l)):=by exact rfl) (hhi:hi=l.length:=by exact rfl) (hx:aev X env x=.d (.im xrows):=by exact rfl) (hxr:xrows=m.map e:=by exact rfl) (hsz:∀y:α,(e y).length=te.size:=by exact fun _=>rfl) (hn:natF σ.next=some n:=by exact rfl)
  (hbb:te.bytes=bb:=by exact rfl) (hb:(l.length+m.length)*bb≤140737488355328:=by first|omega|(simp only[List.length_cons,List.length_nil,List.length_append];omega)):
  aoper X (.call ⟨.builtin .append,as,ts⟩) env σ Q K:=by subst hhi;subst hbb;exact J8A hs h1 h2 ht hk hte hp hpb htx hkx ho hx hxr hsz hb hn h
end
end Go.Pm
/- Part of the proof: Pm21. -/
namespace Go.Pm
mutual
def ren (π:Nat→Nat):AV→AV
 |.d x=>.d x
 |.agg cs=>.agg (rens π cs)
 |.tup cs=>.tup (rens π cs)
 |.ref i off=>.ref (π i) off
 |.sl i v lo hi=>.sl (π i) (π v) lo hi
 |.ep i v k off=>.ep (π i) (π v) k off
 |.mp i=>.mp (π i)
 |.it i=>.it (π i)
 |.fn f caps=>.fn f (rens π caps)
 |.ifc t x=>.ifc t (ren π x)
 |.any=>.any
def rens (π:Nat→Nat):List AV→List AV
 |[]=>[]
 |c::cs=>ren π c::rens π cs
end
theorem JD (π:Nat→Nat):∀cs:List AV,rens π cs=cs.map (ren π)
 |[]=>rfl
 |c::cs=>by simp[rens,JD π cs]
def renO (π:Nat→Nat):AO→AO
 |.var cells=>.var (rens π cells)
 |.row v E sz rows=>.row (π v) E sz (rows.map (rens π))
 |.map k es=>.map k (es.map fun e=>(e.1,ren π e.2))
 |.iter o=>.iter o
 |.box o=>.box o
def Et.ren (η:Et) (π:Nat→Nat):Et:=⟨fun j=>η.blk (π j),fun j=>η.hdr (π j)⟩
mutual
theorem J3J {F:FH} {η:Et} {m n:Nat} {π:Nat→Nat}:∀(x:AV) (u:Value),low n x=true→VRel F η m (ren π x) u→VRel F (η.ren π) n x u
 |.d x,u,_,h=>by cases h with|d h=>exact .d h
 |.agg cs,u,hl,h=>by
  simp only[low]at hl
  simp only[ren]at h
  cases h with
  |agg h1 h2=>exact .agg (by simpa[JD]using h1) fun j hj=>J12 cs hl _ (fun j hj'=>h2 j hj') j hj
 |.tup cs,u,hl,h=>by
  simp only[low]at hl
  simp only[ren]at h
  cases h with
  |tup h1 h2=>exact .tup (by simpa[JD]using h1) fun j hj=>J12 cs hl _ (fun j hj'=>h2 j hj') j hj
 |.ref i off,u,hl,h=>by
  simp only[low,decide_eq_true_eq]at hl
  cases h with
  |ref hi=>exact @VRel.ref F (η.ren π) n i off hl
 |.sl i v lo hi,u,hl,h=>by
  simp only[low,Bool.and_eq_true,decide_eq_true_eq]at hl
  simp only[ren]at h
  cases h with
  |sl h1 h2 hh hle hc hoff=>exact .sl hl.1 hl.2 hh hle hc hoff
  |sl0 h1 h2 hh=>exact .sl0 hl.1 hl.2 hh
 |.ep i v k off,u,hl,h=>by
  simp only[low,Bool.and_eq_true,decide_eq_true_eq]at hl
  simp only[ren]at h
  cases h with
  |ep h1 h2 hh=>exact .ep hl.1 hl.2 hh
 |.mp i,u,hl,h=>by
  simp only[low,decide_eq_true_eq]at hl
  cases h with
  |mp hi=>exact @VRel.mp F (η.ren π) n i hl
 |.it i,u,hl,h=>by
  simp only[low,decide_eq_true_eq]at hl
  cases h with
  |it hi=>exact @VRel.it F (η.ren π) n i hl
 |.fn f caps,u,hl,h=>by
  simp only[low]at hl
  simp only[ren]at h
  cases h with
  |fn h1 h2=>exact .fn (by simpa[JD]using h1) fun j hj=>J12 caps hl _ (fun j hj'=>h2 j hj') j hj
 |.ifc t x,u,hl,h=>by
  simp only[low]at hl
  simp only[ren]at h
  cases h with
  |ifc h1=>exact .ifc (J3J x _ hl h1)
 |.any,u,_,_=>.any u
theorem J12 {F:FH} {η:Et} {m n:Nat} {π:Nat→Nat}:∀(cs:List AV),lows n cs=true→∀(g:Nat→Value),(∀j (hj:j<(rens π cs).length),VRel F η m (rens π cs)[j] (g j))→∀j (hj:j<cs.length),VRel F (η.ren π) n cs[j] (g j)
 |[],_,g,h,j,hj=>by simp at hj
 |c::cs,hl,g,h,0,hj=>by
  simp only[lows,Bool.and_eq_true]at hl
  exact J3J c _ hl.1 (h 0 (by simp[rens]))
 |c::cs,hl,g,h,j+1,hj=>by
  simp only[lows,Bool.and_eq_true]at hl
  exact J12 cs hl.2 (fun j=>g (j+1)) (fun j hj=>h (j+1) (by simpa[rens]using hj)) j (by simpa using hj)
end
theorem J6M {F:FH} {η:Et} {m n:Nat} {w:World} {π:Nat→Nat} {j:Nat} {o:AO} (hv:o.low n) (h:ORel F η m w (π j) (renO π o)):ORel F (η.ren π) n w j o:=by
 cases o with
 |var cells=>
  simp only[renO]at h
  cases h with
  |var c E b1 b2 b3 b4=>
   have hl:(rens π cells).length=cells.length:=by simp[JD]
   exact .var c E b1 (by rw[b2,hl]) (fun j hj=>b3 j (by rw[hl];exact hj)) (J12 cells hv _ b4)
 |row v E sz rows=>
  simp only[renO]at h
  cases h with
  |row xs b1 b2 b3 b4 b5 b6 b7=>
   refine .row xs hv.1 b2 b3 (by simpa[Et.ren]using b4) (fun r hr=>?_) b6 fun k hk j hj=>?_
   ·have:=b5 (rens π r) (List.mem_map.2 ⟨r,hr,rfl⟩)
    simpa[JD]using this
   ·refine J12 (m:=m) rows[k] (hv.2 _ (List.getElem_mem hk)) (fun j=>xs.getD (k*sz+j) undef) (fun j hj'=>?_) j hj
    have:=b7 k (by simpa using hk) j (by simpa using hj')
    simpa using this
 |map kk es=>
  simp only[renO]at h
  cases h with
  |map e c b1 b2 b3 b4 b4' b5 b6 b7=>
   refine .map e c b1 (by simpa using b2) (fun y hy=>b3 (y.1,ren π y.2) (List.mem_map.2 ⟨y,hy,rfl⟩)) (fun k hk=>?_) (fun k k' hk hk'=>?_) b5 b6 fun k hk=>?_
   ·have:=b4 k (by simpa using hk);simpa using this
   ·have:=b4' k k' (by simpa using hk) (by simpa using hk');simpa using this
   ·have:=b7 k (by simpa using hk)
    simp only[List.getElem_map]at this
    exact J3J _ _ (hv _ (List.getElem_mem hk)) this
 |iter o=>
  simp only[renO]at h
  cases h with
  |iter hb=>exact .iter hb
 |box o=>
  simp only[renO]at h
  cases h with
  |box hb=>exact .box hb
theorem J0H (η:Et) (π:Nat→Nat) (j:Nat) (o:AO):Owns (η.ren π) j o=Owns η (π j) (renO π o):=by cases o<;>rfl
structure LowR (b:Nat) (π:Nat→Nat) (env:Env) (σ:St) (env':Env) (σ':St):Prop where
 fix:∀j,j<b→π j=j
 le:b≤σ'.next
 ob:∀j o,σ'.obj j=some o→j<σ'.next∧σ.obj (π j)=some (renO π o)∧o.low σ'.next
 inj:∀j k o o',σ'.obj j=some o→σ'.obj k=some o'→π j=π k→j=k
 en:∀t,env' t=.any∨(env t=ren π (env' t)∧low σ'.next (env' t)=true)
theorem LowR.rel {F:FH} {η:Et} {nt b:Nat} {π:Nat→Nat} {env env':Env} {σ σ':St} {a:Act} {w:World} (h:LowR b π env σ env' σ') (hr:Rel F η nt env σ a w):Rel F (η.ren π) nt env' σ' a w:=by
 refine⟨hr.fr,⟨fun i o ho=>(h.ob i o ho).1,fun i o ho=>J6M (h.ob i o ho).2.2 (hr.st.ob _ _ (h.ob i o ho).2.1),?_,fun i o b ho hb=>hr.st.fr (π i) _ b (h.ob i o ho).2.1 (by rw[←J0H];exact hb)⟩,fun t=>?_,hr.sz,hr.df⟩
 ·intro i j oi oj b hi hj hbi hbj
  rw[J0H]at hbi hbj
  exact h.inj i j oi oj hi hj (hr.st.ap _ _ _ _ b (h.ob i oi hi).2.1 (h.ob j oj hj).2.1 hbi hbj)
 ·rcases h.en t with h1|⟨h1,h2⟩
  ·rw[h1];exact .any _
  ·have:=hr.en t
   rw[h1]at this
   exact J3J _ _ h2 this
theorem LowR.step {F F':FH} {η η':Et} {π:Nat→Nat} {σ0 σ σ':St} {env env':Env} {w0 w:World} (h:LowR σ0.next π env σ env' σ') (hs:Step F η σ0 w0 F' η' σ w):Step F η σ0 w0 F' (η'.ren π) σ' w:=by
 refine⟨hs.fh,fun i hi=>?_,h.le,hs.gr,hs.fm,fun i o b ho hb hlt=>?_,hs.nf⟩
 ·have:=hs.et i hi
  simp only[Et.ren,h.fix i hi]
  exact this
 ·rw[J0H]at hb
  exact hs.nw (π i) _ b (h.ob i o ho).2.1 hb hlt
theorem J0w {X:Cfg} {nt:Nat} {Q:Exit→Env→St→Prop} {env env1:Env} {σ σ1:St} {c:Code} {ι:Type} (E:ι→Env) (S:ι→St) (inv:ι→Prop) (μ:ι→Nat) (x0:ι) (hi:inv x0)
  (h0:Turn X nt env σ env1 σ1) (h1:∃π,LowR σ1.next π env1 σ1 (E x0) (S x0))
  (round:∀x,inv x→Ok X nt c (andThen (fun env σ=>∃y,inv y∧μ y<μ x∧∃π,LowR σ1.next π env σ (E y) (S y)) Q) (E x) (S x)):Ok X nt (.loop c) Q env σ:=by
 refine J0a h0 ?_
 intro F0 η0 a0 w0 hg0 hr0
 let J:Act→World→Nat→Prop:=fun a w n=>∃F η x,inv x∧μ x=n∧Step F0 η0 σ1 w0 F η (S x) w∧GRel X F∧Rel F η nt (E x) (S x) a w
 intro b k cs
 have key:∀n a w,J a w n→∃e a' w',Post X nt F0 η0 σ1 w0 Q e a' w'∧Arrives X.P (lone (b.at a (.code c::.inLoop c::k)) cs w) b k cs e a' w':=by
  intro n
  induction n using Nat.strongRecOn with
  |_ n ih=>
   intro a w hJ
   obtain⟨F,η,x,hx,hμ,hs,hg,hr⟩:=hJ
   obtain⟨e,a₁,w₁,hq,harr⟩:=round x hx F η a w hg hr b (.inLoop c::k) cs
   cases e with
   |normal=>
    obtain⟨F1,η1,env1,σ1',s1,g1,r1,y,hy,hlt,π,hlow⟩:=hq
    obtain⟨e₂,a₂,w₂,hq₂,harr₂⟩:=ih (μ y) (by omega) a₁ w₁ ⟨F1,_,y,hy,rfl,hlow.step (hs.trans s1),g1,hlow.rel r1⟩
    exact⟨e₂,a₂,w₂,hq₂,.of_steps (Steps.trans harr (.one step_inLoop)) harr₂⟩
   |exit id=>exact⟨_,a₁,w₁,hq.trans hs (fun _ _ h=>h),.pass (x:=.inLoop c) rfl (fun _ _=>.inl (by simp)) harr⟩
   |goto l=>exact⟨_,a₁,w₁,hq.trans hs (fun _ _ h=>h),.pass (x:=.inLoop c) rfl (fun _ _=>.inl (by simp)) harr⟩
   |ret=>exact⟨_,a₁,w₁,hq.trans hs (fun _ _ h=>h),.pass (x:=.inLoop c) rfl (fun _ _=>.inl (by simp)) harr⟩
   |panic ch=>exact⟨_,a₁,w₁,hq.trans hs (fun _ _ h=>h),.pass (x:=.inLoop c) rfl (fun _ _=>.inl (by simp)) harr⟩
   |outgrown=>exact⟨_,a₁,w₁,hq.trans hs (fun _ _ h=>h),.pass (x:=.inLoop c) rfl (fun _ _=>.inl (by simp)) harr⟩
 obtain⟨π,hlow⟩:=h1
 obtain⟨e,a',w',hq,harr⟩:=key (μ x0) a0 w0 ⟨F0,_,x0,hi,rfl,hlow.step (.refl _ _ _ _),hg0,hlow.rel hr0⟩
 exact⟨e,a',w',hq,.of_steps (.one step_loop) harr⟩
def rn:List (Nat×Nat)→Nat→Nat
 |[],j=>j
 |(a,b)::l,j=>if j=a then b else rn l j
theorem J92 {b:Nat}:∀{l:List (Nat×Nat)},(l.all fun y=>Nat.ble b y.1)=true→∀j,j<b→rn l j=j
 |[],_,j,_=>rfl
 |(a,c)::l,h,j,hj=>by
  simp only[List.all_cons,Bool.and_eq_true]at h
  have h1:b≤a:=Nat.le_of_ble_eq_true h.1
  simp only[rn]
  rw[if_neg (by omega)]
  exact J92 h.2 j hj
def LowEnvR (π:Nat→Nat) (env:Env) (n:Nat):List (Nat×AV)→Prop
 |[]=>True
 |(k,v)::l=>(env k=ren π v∧low n v=true)∧LowEnvR π env n l
def LowStR (π:Nat→Nat) (σ:St) (n:Nat):Nat→List (Option AO)→Prop
 |_,[]=>True
 |i,none::l=>LowStR π σ n (i+1) l
 |i,some o::l=>(σ.obj (π i)=some (renO π o)∧o.low n)∧LowStR π σ n (i+1) l
def live:Nat→List (Option AO)→List Nat
 |_,[]=>[]
 |i,none::l=>live (i+1) l
 |i,some _::l=>i::live (i+1) l
def distN:List Nat→Bool
 |[]=>true
 |x::l=>l.all (fun y=>!(x == y))&&distN l
theorem J4J {π:Nat→Nat} {env:Env} {n:Nat}:∀{L:List (Nat×AV)},LowEnvR π env n L→∀t,envL L t=.any∨(env t=ren π (envL L t)∧low n (envL L t)=true)
 |[],_,t=>.inl rfl
 |(k,v)::l,h,t=>by
  simp only[envL]
  by_cases ht:t=k
  ·subst ht;rw[if_pos rfl];exact .inr h.1
  ·rw[if_neg ht];exact J4J h.2 t
theorem J3j {π:Nat→Nat} {σ:St} {n:Nat}:∀{L:List (Option AO)} {i:Nat},LowStR π σ n i L→∀j o,(L[j]?).join=some o→(σ.obj (π (i+j))=some (renO π o)∧o.low n)∧i+j∈live i L
 |[],_,_,j,o,h=>by simp at h
 |none::l,i,hs,j,o,h=>by
  cases j with
  |zero=>simp at h
  |succ j=>
   have:=J3j (L:=l) (i:=i+1) hs j o (by simpa using h)
   rwa [show i+1+j=i+(j+1) by omega]at this
 |some x::l,i,hs,j,o,h=>by
  cases j with
  |zero=>simp at h;subst h;exact⟨hs.1,by simp[live]⟩
  |succ j=>
   have:=J3j (L:=l) (i:=i+1) hs.2 j o (by simpa using h)
   rw[show i+1+j=i+(j+1) by omega]at this
   exact⟨this.1,by simp[live,this.2]⟩
theorem J5L {π:Nat→Nat}:∀{l:List Nat},distN (l.map π)=true→∀i j,i∈l→j∈l→π i=π j→i=j
 |[],_,i,j,hi,_,_=>by simp at hi
 |x::l,h,i,j,hi,hj,he=>by
  simp only[List.map_cons,distN,Bool.and_eq_true,List.all_eq_true,Bool.not_eq_true',beq_eq_false_iff_ne,List.mem_map,ne_eq,forall_exists_index,and_imp]at h
  rcases List.mem_cons.1 hi with rfl|hi'<;>rcases List.mem_cons.1 hj with rfl|hj'
  ·rfl
  ·exact absurd he (h.1 _ j hj' rfl)
  ·exact absurd he.symm (h.1 _ i hi' rfl)
  ·exact J5L h.2 i j hi' hj' he
theorem JC {b:Nat} {env:Env} {σ:St} {L:List (Nat×AV)} {O:List (Option AO)} (R:List (Nat×Nat)) (hb:Nat.ble b O.length=true) (hf:(R.all fun y=>Nat.ble b y.1)=true) (hd:distN ((live 0 O).map (rn R))=true) (he:LowEnvR (rn R) env O.length L) (ho:LowStR (rn R) σ O.length 0 O):
  ∃π,LowR b π env σ (envL L) (stL O):=by
 have hat:∀i o,(O[i]?).join=some o→(σ.obj (rn R i)=some (renO (rn R) o)∧o.low O.length)∧i∈live 0 O:=fun i o h=>by
  have:=J3j ho i o h
  rwa [Nat.zero_add]at this
 refine⟨rn R,J92 hf,Nat.le_of_ble_eq_true hb,fun i o h=>⟨?_,(hat i o h).1⟩,fun i j o o' h h' he'=>J5L hd i j (hat i o h).2 (hat j o' h').2 he',J4J he⟩
 have h1:(O[i]?).join=some o:=h
 rcases Nat.lt_or_ge i O.length with hlt|hge
 ·exact hlt
 ·rw[List.getElem?_eq_none hge]at h1;cases h1
theorem Jn {π:Nat→Nat} {v v' E sz:Nat} {rows:List (List AV)} (hv:v=π v') (hr:rows.map (rens π)=rows):some (AO.row v E sz rows)=some (renO π (.row v' E sz rows)):=by simp only[renO,hr,←hv]
theorem J8Z (π:Nat→Nat):∀l:List D,rens π (l.map .d)=l.map .d
 |[]=>rfl
 |x::l=>by simp[rens,ren,J8Z π l]
theorem Jq {α:Type} (π:Nat→Nat) (e:α→List D) (l:List α):(im2 e l).map (rens π)=im2 e l:=by
 simp only[im2,List.map_map]
 refine List.map_congr_left fun y _=>?_
 exact J8Z π (e y)
theorem JB {β:Type} {π:Nat→Nat} {e:β→AV} {k:KD} (F:List (ByteArray×β)) (h:∀b,ren π (e b)=e b):some (AO.map k (smap e F))=some (renO π (.map k (smap e F))):=by
 simp[renO,smap,h]
end Go.Pm
