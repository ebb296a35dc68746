/- Part of the proof: Pm4. -/
import Derived.Test.YtdjanhhljinokaaGreatDoorT1
import Derived.Lib.AppendStr
set_option linter.unusedVariables false
set_option linter.unusedSimpArgs false
namespace Go.Pm
def VOk (X:Cfg) (F:FH) (η:Et) (σ:St) (w:World) (r:Result Value) (K:AV→St→Prop):Prop:=
 ∃v w' F' η' σ' x,r=.ok v w'∧Step F η σ w F' η' σ' w'∧GRel X F'∧FRel F' w'∧SRel F' η' σ' w'∧VRel F' η' σ'.next x v∧K x σ'
section ops
variable {X:Cfg} {F:FH} {η:Et} {σ:St} {w:World} {K:AV→St→Prop}
theorem VOk.same (hg:GRel X F) (hf:FRel F w) (hs:SRel F η σ w) {r:Result Value} {v:Value} {x:AV} (hr:r=.ok v w) (hv:VRel F η σ.next x v) (hk:K x σ):VOk X F η σ w r K:=
 ⟨v,w,F,η,σ,x,hr,.refl _ _ _ _,hg,hf,hs,hv,hk⟩
theorem VOk.op {s:Sem Value} (h:VOk X F η σ w (s.run X.P w) K):OpOk X F η σ w ((do pure (Next.value (←s)):Sem Next).run X.P w) K:=by
 obtain⟨v,w',F',η',σ',x,hr,h1,h2,h3,h4,h5,h6⟩:=h
 exact⟨_,v,w',F',η',σ',x,by simp[hr],.inl rfl,h1,h2,h3,h4,h5,h6⟩
def zrow (ti:TI):List AV:=ti.zero.map fun v=>.d (.s v)
theorem J2O {ti:TI} (j:Nat) (hj:j<(zrow ti).length):VRel F η σ.next (zrow ti)[j] (ti.zero.toArray.getD j undef):=by
 have hj':j<ti.zero.length:=by simpa[zrow]using hj
 simp only[zrow,List.getElem_map,Array.getD,List.size_toArray,hj',dif_pos,Array.getInternal_eq_getElem,List.getElem_toArray]
 exact .d (.s _)
theorem J54 {ti:TI} (h:ti.zero.all (·.oneCell')=true) (j:Nat) (hj:j<ti.zero.length):(ti.zero.toArray.getD j undef).oneCell'=true:=by
 simp only[Array.getD,List.size_toArray,hj,dif_pos,Array.getInternal_eq_getElem,List.getElem_toArray]
 exact List.all_eq_true.1 h _ (List.getElem_mem hj)
def aalloc (X:Cfg) (E:TypeId) (σ:St) (K:AV→St→Prop):Prop:=
 ∃ti,X.T E=some ti∧K (.ref σ.next 0) (σ.alloc (.var (zrow ti)))
theorem J8X (hg:GRel X F) (hf:FRel F w) (hs:SRel F η σ w) {E:TypeId} (h:aalloc X E σ K):VOk X F η σ w ((Instr.alloc E true (.tuple #[])).run X.P w) K:=by
 obtain⟨ti,ht,hk⟩:=h
 obtain⟨d,i,z,hu,hd,hi,hsz,hby,hz,hzc,hzl,hz1,hzn,hza⟩:=X.ok E ti ht
 obtain⟨η',s1,s2,s3,hb⟩:=J8n hf hs (zrow ti) z.cells E (by simp[hzc,zrow]) (fun j hj=>by rw[hzc];exact J54 hz1 j (by simpa[zrow]using hj))
  (fun j hj=>by rw[hzc];exact J2O j hj)
 refine⟨.pointer (some ⟨w.heap.size,0,none⟩),_,F,η',_,.ref σ.next 0,?_,s1,hg,s2,s3,?_,hk⟩
 ·simp[Instr.alloc,zeroValue,typeInfo,hi,hz,newVar,newRow]
 ·rw[←hb];exact .ref (Nat.lt_succ_self _)
def abox (x:AV) (σ:St) (K:AV→St→Prop):Prop:=
 ∃cs,x.cells=some cs∧cs.all AV.one=true∧K (.ref σ.next 0) (σ.alloc (.var cs))
theorem Jbk (hg:GRel X F) (hf:FRel F w) (hs:SRel F η σ w) {E:TypeId} {x:AV} {v:Value} (hx:VRel F η σ.next x v) (h:abox x σ K):
  VOk X F η σ w ((Instr.box E v).run X.P w) K:=by
 obtain⟨cs,hc,h1,hk⟩:=h
 obtain⟨hn,hr⟩:=J2i hx hc
 obtain⟨η',s1,s2,s3,hb⟩:=J8n hf hs cs v.cells E hn (fun j hj=>J4a (hr j hj) (List.all_eq_true.1 h1 _ (List.getElem_mem hj))) hr
 refine⟨.pointer (some ⟨w.heap.size,0,none⟩),_,F,η',_,.ref σ.next 0,?_,s1,hg,s2,s3,?_,hk⟩
 ·simp[Instr.box,newVar,newRow]
 ·rw[←hb];exact .ref (Nat.lt_succ_self _)
theorem J4Y (off:Nat):∀(l:List Value) (k:Nat) (cells:Array Value),off+k+l.length≤cells.size→
  ((l.zipIdx k).foldl (fun cs (p:Value×Nat)=>cs.setIfInBounds (off+p.2) p.1) cells).size=cells.size∧
  ∀j,((l.zipIdx k).foldl (fun cs (p:Value×Nat)=>cs.setIfInBounds (off+p.2) p.1) cells).getD j undef=if off+k≤j∧j<off+k+l.length then l.getD (j-(off+k)) undef else cells.getD j undef
 |[],k,cells,_=>by simp;intro j h;omega
 |v::l,k,cells,h=>by
  simp only[List.zipIdx_cons,List.foldl_cons,List.length_cons]at h ⊢
  have ih:=J4Y off l (k+1) (cells.setIfInBounds (off+k) v) (by simp;omega)
  refine⟨by rw[ih.1];simp,fun j=>?_⟩
  rw[ih.2 j]
  by_cases h1:off+(k+1)≤j∧j<off+(k+1)+l.length
  ·rw[if_pos h1,if_pos (by omega),show j-(off+k)=(j-(off+(k+1)))+1 by omega]
   simp
  ·rw[if_neg h1]
   by_cases h2:j=off+k
   ·subst h2
    rw[if_pos (by omega)]
    simp[Array.getD,show off+k<cells.size by omega]
   ·rw[if_neg (by omega)]
    simp only[Array.getD_eq_getD_getElem?,Array.getElem?_setIfInBounds]
    rw[if_neg (by omega)]
def fillA (place:Nat→Option (Nat×Nat)):List AV→List (Nat×AV)→Option (List AV)
 |cells,[]=>some cells
 |cells,(i,x)::rest=>
  match place i,x.cells with
  |some (off,size),some cs=>if cs.length=size∧off+size≤cells.length∧cs.all AV.one=true then fillA place (splice cells off cs) rest else none
  |_,_=>none
theorem J4y {place:Nat→Option (Nat×Nat)} {n:Nat}:∀(parts:List (Nat×AV)) (vals:List (Nat×Value)) (cells:List AV) (cur:Array Value) (out:List AV),
  vals.length=parts.length→(∀k (h:k<parts.length) (h':k<vals.length),(vals[k]).1=(parts[k]).1∧VRel F η n (parts[k]).2 (vals[k]).2)→
  cur.size=cells.length→(∀j,j<cells.length→(cur.getD j undef).oneCell'=true)→(∀j (h:j<cells.length),VRel F η n cells[j] (cur.getD j undef))→fillA place cells parts=some out→
  ∃c,Instr.fill place cur vals=some c∧c.size=out.length∧out.length=cells.length∧(∀j,j<out.length→(c.getD j undef).oneCell'=true)∧∀j (h:j<out.length),VRel F η n out[j] (c.getD j undef)
 |[],vals,cells,cur,out,hl,_,hn,h1,hr,hf=>by
  have:vals=[]:=List.eq_nil_of_length_eq_zero (by simpa using hl)
  subst this
  simp only[fillA,Option.some.injEq]at hf
  subst hf
  exact⟨cur,rfl,hn,rfl,h1,hr⟩
 |(i,x)::parts,[],cells,cur,out,hl,_,_,_,_,_=>by simp at hl
 |(i,x)::parts,(i',v)::vals,cells,cur,out,hl,hp,hn,h1,hr,hf=>by
  have h0:=hp 0 (by simp) (by simp)
  simp only[List.getElem_cons_zero]at h0
  obtain⟨rfl,hxv⟩:=h0
  simp only[fillA]at hf
  split at hf
  ·rename_i off size cs hpl hcs
   split at hf
   ·rename_i hc
    obtain⟨hc1,hc2,hc3⟩:=hc
    obtain⟨hcn,hcr⟩:=J2i hxv hcs
    have hsize:v.cells.size=size:=by omega
    obtain⟨hfs,hfg⟩:=J4Y off v.cells.toList 0 cur (by simp;omega)
    have hcs':off+cs.length≤cells.length:=by omega
    have hvl:v.cells.toList.length=cs.length:=by simp[hcn]
    have hgd:∀j,v.cells.toList.getD j undef=v.cells.getD j undef:=fun j=>by simp[List.getD,Array.getD_eq_getD_getElem?]
    obtain⟨c,e1,e2,e3,e4,e5⟩:=J4y parts vals (splice cells off cs) _ out (by simpa using hl)
     (fun k h h'=>by have:=hp (k+1) (by simp;omega) (by simp;omega);simpa using this)
     (by rw[hfs,JS hcs'];exact hn)
     (fun j hj=>by
      rw[JS hcs']at hj
      rw[hfg j]
      split
      ·rename_i hjj
       rw[hgd]
       exact J4a (hcr (j-(off+0)) (by omega)) (List.all_eq_true.1 hc3 _ (List.getElem_mem (by omega)))
      ·exact h1 j hj)
     (fun j hj=>by
      rw[hfg j]
      rcases J2t hcs' j hj with⟨g1,g2,e⟩|⟨g1,g2,e⟩
      ·rw[if_pos (by omega),e,hgd];exact hcr _ g2
      ·rw[if_neg (by omega),e];exact hr j g1)
     hf
    refine⟨c,?_,e2,by rw[e3,JS hcs'],e4,e5⟩
    simp only[Instr.fill,hpl]
    rw[if_neg (by simp;omega)]
    rw[←e1]
    congr 1
    rw[←Array.foldl_toList,Array.toList_zipIdx]
   ·simp at hf
  ·simp at hf
def places (X:Cfg) (fs:List (Nat×TypeId)) (i:Nat):Option (Nat×Nat):=
 match fs[i]? with
 |some f=>match X.T f.2 with|some ti=>some (f.1,ti.size)|none=>none
 |none=>none
def abuild (X:Cfg) (t:TypeId) (parts:List (Nat×AV)) (σ:St) (K:AV→St→Prop):Prop:=
 ∃ti,X.T t=some ti∧
  match ti.kind with
  |.struct fs=>∃cs,fillA (places X fs) (zrow ti) parts=some cs∧K (.agg cs) σ
  |.array n e=>∃te,X.T e=some te∧∃cs,fillA (fun i=>some (i*te.size,te.size)) (zrow ti) parts=some cs∧K (.agg cs) σ
  |_=>False
theorem J1Y {d:TypeDesc} {fs:List (Nat×TypeId)} (h:kindOf d=.struct fs):∃a,d=.struct a∧fs=a.toList.map fun f=>(f.offset,f.type):=by
 cases d<;>simp[kindOf]at h
 exact⟨_,rfl,h.symm⟩
theorem J4l {d:TypeDesc} {n e:Nat} (h:kindOf d=.array n e):d=.array n e:=by
 cases d<;>simp[kindOf]at h
 simp[h]
theorem JQ {d:TypeDesc} {e:Nat} (h:kindOf d=.slice e):d=.slice e:=by
 cases d<;>simp[kindOf]at h
 simp[h]
theorem J3h {d:TypeDesc} {k e:Nat} (h:kindOf d=.map k e):d=.map k e:=by
 cases d<;>simp[kindOf]at h
 simp[h]
theorem JZ {d:TypeDesc} (h:kindOf d=.string):d=.string:=by
 cases d<;>simp[kindOf]at h
 rfl
theorem J21 {d:TypeDesc} {k:IntKind} (h:kindOf d=.int k):d=.int k:=by
 cases d<;>simp[kindOf]at h
 simp[h]
theorem J2d {d:TypeDesc} (h:kindOf d=.bool):d=.bool:=by
 cases d<;>simp[kindOf]at h
 rfl
theorem J2T {d:TypeDesc} {e:Nat} (h:kindOf d=.ptr e):d=.pointer e:=by
 cases d<;>simp[kindOf]at h
 simp[h]
theorem J5o (fs:List Field) (h:∀f∈fs,(X.T f.type).isSome=true):
  ∃pl,fs.mapM (fun f=>(X.P.info? f.type).map fun i=>(f.offset,i.size))=some pl∧∀i,pl[i]? = places X (fs.map fun f=>(f.offset,f.type)) i:=by
 induction fs with
 |nil=>exact⟨[],rfl,fun i=>by simp[places]⟩
 |cons f fs ih=>
  obtain⟨pl,e1,e2⟩:=ih fun g hg=>h g (by simp[hg])
  obtain⟨ti,ht⟩:=Option.isSome_iff_exists.1 (h f (by simp))
  obtain⟨d,i,z,hu,hd,hi,hsz,_⟩:=X.ok f.type ti ht
  refine⟨(f.offset,ti.size)::pl,by simp[List.mapM_cons,hi,hsz,e1],fun k=>?_⟩
  cases k with
  |zero=>simp[places,ht]
  |succ k=>simpa[places]using e2 k
theorem J94 (hg:GRel X F) (hf:FRel F w) (hs:SRel F η σ w) {t:TypeId} {parts:List (Nat×AV)} {vals:Array (Nat×Value)}
  (hn:vals.toList.length=parts.length) (hv:∀k (h:k<parts.length) (h':k<vals.toList.length),(vals.toList[k]).1=(parts[k]).1∧VRel F η σ.next (parts[k]).2 (vals.toList[k]).2)
  (h:abuild X t parts σ K):VOk X F η σ w ((Instr.build t vals).run X.P w) K:=by
 obtain⟨ti,ht,hm⟩:=h
 obtain⟨d,i,z,hu,hd,hi,hsz,hby,hz,hzc,hzl,hz1,hzn,hza⟩:=X.ok t ti ht
 have hz0:z.cells.size=(zrow ti).length:=by simp[hzc,zrow]
 have hz2:∀j,j<(zrow ti).length→(z.cells.getD j undef).oneCell'=true:=fun j hj=>by rw[hzc];exact J54 hz1 j (by simpa[zrow]using hj)
 have hz3:∀j (h:j<(zrow ti).length),VRel F η σ.next (zrow ti)[j] (z.cells.getD j undef):=fun j hj=>by rw[hzc];exact J2O j hj
 split at hm
 ·rename_i fs hkd
  rw[hkd]at hd
  obtain⟨a,rfl,rfl⟩:=J1Y hd
  obtain⟨cs,hcs,hk⟩:=hm
  obtain⟨pl,e1,e2⟩:=J5o (X:=X) a.toList fun f hf=>X.cl t ti _ ht hkd (f.offset,f.type) (List.mem_map.2 ⟨f,hf,rfl⟩)
  obtain⟨c,f1,f2,f3,f4,f5⟩:=J4y parts vals.toList (zrow ti) z.cells cs hn hv hz0 hz2 hz3 hcs
  have hb:X.P.built t vals.toList=some c:=by
   simp only[Program.built,hi,hu,hz,e1]
   rw[←f1]
   congr 1
   funext k
   simpa using e2 k
  exact VOk.same hg hf hs (run_build w t vals c hb) (.agg f2 f5) hk
 ·rename_i n e hkd
  rw[hkd]at hd
  have:=J4l hd
  subst this
  obtain⟨te,hte,cs,hcs,hk⟩:=hm
  obtain⟨d',i',z',hu',hd',hi',hsz',_⟩:=X.ok e te hte
  obtain⟨c,f1,f2,f3,f4,f5⟩:=J4y parts vals.toList (zrow ti) z.cells cs hn hv hz0 hz2 hz3 hcs
  have hb:X.P.built t vals.toList=some c:=by
   simp only[Program.built,hi,hu,hz,hi',hsz',f1]
  exact VOk.same hg hf hs (run_build w t vals c hb) (.agg f2 f5) hk
 ·exact hm.elim
def fillRows (sz:Nat):List (List AV)→List (Nat×AV)→Option (List (List AV))
 |rows,[]=>some rows
 |rows,(i,x)::rest=>
  match x.cells with
  |some cs=>if cs.length=sz∧i<rows.length∧cs.all AV.one=true then fillRows sz (rows.set i cs) rest else none
  |none=>none
theorem J0A {k n sz j:Nat} (hk:k<n) (hj:j<sz):k*sz+j<n*sz:=by
 have:(k+1)*sz≤n*sz:=Nat.mul_le_mul_right _ hk
 rw[Nat.add_mul,Nat.one_mul]at this
 omega
theorem Jcg {a k sz j m:Nat} (hj:j<sz) (hm:m<sz) (hak:a≠k):a*sz+j≠k*sz+m:=by
 intro h
 rcases Nat.lt_or_gt_of_ne hak with hlt|hgt
 ·have:(a+1)*sz≤k*sz:=Nat.mul_le_mul_right _ hlt
  rw[Nat.add_mul,Nat.one_mul]at this
  omega
 ·have:(k+1)*sz≤a*sz:=Nat.mul_le_mul_right _ hgt
  rw[Nat.add_mul,Nat.one_mul]at this
  omega
structure Laid (F:FH) (η:Et) (n sz:Nat) (rows:List (List AV)) (c:Array Value):Prop where
 size:rows.length*sz≤c.size
 len:∀r∈rows,r.length=sz
 one:∀j,j<rows.length*sz→(c.getD j undef).oneCell'=true
 rel:∀k (hk:k<rows.length) j (hj:j<(rows[k]).length),VRel F η n ((rows[k])[j]) (c.getD (k*sz+j) undef)
theorem J31 {n sz:Nat}:∀(parts:List (Nat×AV)) (vals:List (Nat×Value)) (rows:List (List AV)) (cur:Array Value) (out:List (List AV)),
  vals.length=parts.length→(∀k (h:k<parts.length) (h':k<vals.length),(vals[k]).1=(parts[k]).1∧VRel F η n (parts[k]).2 (vals[k]).2)→
  cur.size=rows.length*sz→Laid F η n sz rows cur→fillRows sz rows parts=some out→
  ∃c,Instr.fill (fun i=>some (i*sz,sz)) cur vals=some c∧c.size=cur.size∧out.length=rows.length∧Laid F η n sz out c
 |[],vals,rows,cur,out,hl,_,hn,hL,hf=>by
  have:vals=[]:=List.eq_nil_of_length_eq_zero (by simpa using hl)
  subst this
  simp only[fillRows,Option.some.injEq]at hf
  subst hf
  exact⟨cur,rfl,rfl,rfl,hL⟩
 |(i,x)::parts,[],rows,cur,out,hl,_,_,_,_=>by simp at hl
 |(i,x)::parts,(i',v)::vals,rows,cur,out,hl,hp,hn,hL,hf=>by
  have h0:=hp 0 (by simp) (by simp)
  simp only[List.getElem_cons_zero]at h0
  obtain⟨rfl,hxv⟩:=h0
  simp only[fillRows]at hf
  split at hf
  ·rename_i cs hcs
   split at hf
   ·rename_i hc
    obtain⟨hc1,hc2,hc3⟩:=hc
    obtain⟨hcn,hcr⟩:=J2i hxv hcs
    have hfit:i'*sz+sz≤cur.size:=by
     have:(i'+1)*sz≤rows.length*sz:=Nat.mul_le_mul_right _ hc2
     rw[Nat.add_mul,Nat.one_mul]at this
     omega
    obtain⟨hfs,hfg⟩:=J4Y (i'*sz) v.cells.toList 0 cur (by simp;omega)
    have hgd:∀j,v.cells.toList.getD j undef=v.cells.getD j undef:=fun j=>by simp[List.getD,Array.getD_eq_getD_getElem?]
    have hvl:v.cells.toList.length=sz:=by simp[hcn];omega
    have hL':Laid F η n sz (rows.set i' cs) (((v.cells.toList.zipIdx 0).foldl (fun cs (p:Value×Nat)=>cs.setIfInBounds (i'*sz+p.2) p.1) cur)):=by
     refine⟨by rw[hfs,hn];simp,fun r hr=>?_,fun j hj=>?_,fun k hk j hj=>?_⟩
     ·rcases List.mem_or_eq_of_mem_set hr with hm|rfl
      ·exact hL.len r hm
      ·exact hc1
     ·rw[List.length_set]at hj
      rw[hfg j]
      split
      ·rename_i hjj
       rw[hgd]
       exact J4a (hcr (j-(i'*sz+0)) (by omega)) (List.all_eq_true.1 hc3 _ (List.getElem_mem (by omega)))
      ·exact hL.one j hj
     ·have hk':k<rows.length:=by simpa using hk
      rw[hfg]
      by_cases hki:k=i'
      ·subst hki
       have e1:(rows.set k cs)[k]'hk=cs:=by simp
       have hj':j<cs.length:=by rw[e1]at hj;exact hj
       have e2:((rows.set k cs)[k]'hk)[j]'hj=cs[j]'hj':=by simp only[e1]
       rw[e2,if_pos (by omega),hgd,show k*sz+j-(k*sz+0)=j by omega]
       exact hcr j hj'
      ·have e1:(rows.set i' cs)[k]'hk=rows[k]:=by rw[List.getElem_set];simp[Ne.symm hki]
       have hj':j<(rows[k]).length:=by rw[e1]at hj;exact hj
       have e2:((rows.set i' cs)[k]'hk)[j]'hj=(rows[k])[j]'hj':=by simp only[e1]
       have hjs:j<sz:=by rw[←hL.len _ (List.getElem_mem hk')];exact hj'
       rw[e2,if_neg ?_]
       ·exact hL.rel k hk' j hj'
       ·intro hh
        have:=Jcg hjs (show k*sz+j-i'*sz<sz by omega) hki
        omega
    obtain⟨c,e1,e2,e3,e4⟩:=J31 parts vals (rows.set i' cs) _ out (by simpa using hl)
     (fun k h h'=>by have:=hp (k+1) (by simp;omega) (by simp;omega);simpa using this)
     (by rw[hfs,hn];simp) hL' hf
    refine⟨c,?_,by rw[e2,hfs],by rw[e3];simp,e4⟩
    simp only[Instr.fill]
    rw[if_neg (by simp;omega),←e1]
    congr 1
    rw[←Array.foldl_toList,Array.toList_zipIdx]
   ·simp at hf
  ·simp at hf
theorem J60 {ti:TI} (hz1:ti.zero.all (·.oneCell')=true) (hzl:ti.zero.length=ti.size) (hp:0<ti.size) (n len:Nat) {c:Array Value}
  (hc:∀j,j<len*ti.size→c.getD j undef=ti.zero.toArray.getD (j % ti.size) undef) (hs:len*ti.size≤c.size):
  Laid F η n ti.size (List.replicate len (zrow ti)) c:=by
 refine⟨by simpa using hs,fun r hr=>?_,fun j hj=>?_,fun k hk j hj=>?_⟩
 ·rw[(List.mem_replicate.1 hr).2];simp[zrow,hzl]
 ·simp only[List.length_replicate]at hj
  rw[hc j hj]
  exact J54 hz1 _ (by rw[hzl];exact Nat.mod_lt _ hp)
 ·simp only[List.length_replicate]at hk
  simp only[List.getElem_replicate]at hj ⊢
  have hjs:j<ti.size:=by simpa[zrow,hzl]using hj
  rw[hc _ (J0A hk hjs),Nat.add_comm,Nat.add_mul_mod_self_right,Nat.mod_eq_of_lt hjs]
  exact J2O (σ:=⟨fun _=>none,n⟩) j hj
theorem J5m (hf:FRel F w) (hs:SRel F η σ w) (E sz:Nat) (rows:List (List AV)) (c:Array Value) (cap:Nat)
  (hp:0<sz) (hcap:cap≤maxLen) (hc:c.size=cap*sz) (hle:rows.length≤cap) (hL:Laid F η σ.next sz rows c):
  ∃η',Step F η σ w F η' (σ.alloc (.row σ.next E sz rows)) (w.alloc (.cells c E))∧FRel F (w.alloc (.cells c E))∧SRel F η' (σ.alloc (.row σ.next E sz rows)) (w.alloc (.cells c E))∧
   η'.hdr σ.next=⟨some w.heap.size,cap,sz⟩:=
 Jb6 hf hs E sz rows c cap hp hcap hc hle hL.len hL.one hL.rel
def abuildSlice (X:Cfg) (t:TypeId) (len:Nat) (parts:List (Nat×AV)) (σ:St) (K:AV→St→Prop):Prop:=
 ∃ti,X.T t=some ti∧∃e te,ti.kind=.slice e∧X.T e=some te∧0<te.size∧len*te.size≤16777216∧
  ∃rows,fillRows te.size (List.replicate len (zrow te)) parts=some rows∧K (.sl σ.next σ.next 0 len) (σ.alloc (.row σ.next e te.size rows))
theorem J8s {z:Array Value} (hp:0<z.size) (j m:Nat) (hj:j<m):((Array.range m).map (z[· % z.size]!)).getD j undef=z.getD (j % z.size) undef:=by
 have h1:j % z.size<z.size:=Nat.mod_lt _ hp
 simp[Array.getD,hj,h1]
theorem J4j (hg:GRel X F) (hf:FRel F w) (hs:SRel F η σ w) {t:TypeId} {len:Nat} {parts:List (Nat×AV)} {vals:Array (Nat×Value)}
  (hn:vals.toList.length=parts.length) (hv:∀k (h:k<parts.length) (h':k<vals.toList.length),(vals.toList[k]).1=(parts[k]).1∧VRel F η σ.next (parts[k]).2 (vals.toList[k]).2)
  (h:abuildSlice X t len parts σ K):VOk X F η σ w ((Instr.buildSlice t len vals).run X.P w) K:=by
 obtain⟨ti,ht,e,te,hkd,hte,hp,hlim,rows,hrows,hk⟩:=h
 obtain⟨d,i,z,hu,hd,hi,hsz,_⟩:=X.ok t ti ht
 obtain⟨d',i',z',hu',hd',hi',hsz',hby',hz',hzc',hzl',hz1',_⟩:=X.ok e te hte
 rw[hkd]at hd
 have hsl:=JQ hd
 subst hsl
 have hzs:z'.cells.size=te.size:=by simp[hzc',hzl']
 let zero:Array Value:=if len*te.size=0 then #[]else z'.cells
 let c0:=(Array.range (len*te.size)).map (zero[· % zero.size]!)
 have hc0s:c0.size=len*te.size:=by simp[c0]
 have hL0:Laid F η σ.next te.size (List.replicate len (zrow te)) c0:=by
  refine J60 hz1' hzl' hp σ.next len (fun j hj=>?_) (Nat.le_of_eq hc0s.symm)
  have hne:len*te.size≠0:=by omega
  have hzz:zero=z'.cells:=if_neg hne
  simp only[c0,hzz]
  rw[J8s (by omega) j _ hj,hzs,hzc']
 obtain⟨c,e1,e2,e3,e4⟩:=J31 parts vals.toList _ c0 rows hn hv (by rw[hc0s];simp) hL0 hrows
 have hrl:rows.length=len:=by rw[e3];simp
 have hmx:len≤maxLen:=by
  have:len≤len*te.size:=Nat.le_mul_of_pos_right _ hp
  unfold maxLen;omega
 obtain⟨η',s1,s2,s3,hh⟩:=J5m hf hs e te.size rows c len hp hmx (by rw[e2,hc0s]) (by omega) e4
 refine⟨.slice (some ⟨w.heap.size,0,none⟩) len len,_,F,η',_,.sl σ.next σ.next 0 len,?_,s1,hg,s2,s3,?_,hk⟩
 ·simp only[Instr.buildSlice,Sem.run_bind,run_underlying hu,Result.andThen_ok,JP hi',hsz']
  rw[if_neg (by omega)]
  by_cases h0:len*te.size=0
  ·have e1':Instr.fill (fun i=>some (i*te.size,te.size)) ((Array.range (len*te.size)).map ((#[]:Array Value)[· % (#[]:Array Value).size]!)) vals.toList=some c:=by
    have:=e1
    simp only[c0,zero,if_pos h0]at this
    exact this
   rw[if_pos h0]
   simp only[Sem.run_bind,Sem.run_pure,Result.andThen_ok,e1']
   rfl
  ·have e1':Instr.fill (fun i=>some (i*te.size,te.size)) ((Array.range (len*te.size)).map (z'.cells[· % z'.cells.size]!)) vals.toList=some c:=by
    have:=e1
    simp only[c0,zero,if_neg h0]at this
    exact this
   have hzv:(zeroValue e).run X.P w=.ok z' w:=by simp[zeroValue,typeInfo,hi',hz']
   rw[if_neg h0]
   simp only[Sem.run_bind,Sem.run_pure,Result.andThen_ok,hzv,e1']
   rfl
 ·have:=@VRel.sl F η' (σ.next+1) σ.next σ.next 0 len w.heap.size len te.size 0 (by omega) (by omega) hh (Nat.zero_le _) (Nat.le_refl _) (by simp)
  exact this
def amakeSlice (X:Cfg) (t:TypeId) (l c:AV) (σ:St) (K:AV→St→Prop):Prop:=
 ∃n m:Int,(∃k1,l=.d (.s (.int k1 n)))∧(∃k2,c=.d (.s (.int k2 m)))∧0≤n∧n≤m∧m≤4294967296∧
  ∃ti,X.T t=some ti∧∃e te,ti.kind=.slice e∧X.T e=some te∧0<te.size∧te.bytes≤32768∧
   K (.sl σ.next σ.next 0 n.toNat) (σ.alloc (.row σ.next e te.size (List.replicate n.toNat (zrow te))))
theorem J5q (hg:GRel X F) (hf:FRel F w) (hs:SRel F η σ w) {t:TypeId} {l c:AV} {vl vc:Value} (hl:VRel F η σ.next l vl) (hc:VRel F η σ.next c vc)
  (h:amakeSlice X t l c σ K):VOk X F η σ w ((Instr.makeSlice t vl vc).run X.P w) K:=by
 obtain⟨n,m,⟨k1,rfl⟩,⟨k2,rfl⟩,hn,hnm,hm,ti,ht,e,te,hkd,hte,hp,hby,hk⟩:=h
 have e1:=hl.s_inv
 have e2:=hc.s_inv
 subst e1
 subst e2
 obtain⟨d,i,z,hu,hd,hi,hsz,_⟩:=X.ok t ti ht
 obtain⟨d',i',z',hu',hd',hi',hsz',hby',hz',hzc',hzl',hz1',_⟩:=X.ok e te hte
 rw[hkd]at hd
 have hsl:=JQ hd
 subst hsl
 have hzs:z'.cells.size=te.size:=by simp[hzc',hzl']
 have hb2:(i'.bytes:Int)*m≤281474976710656:=by
  rw[hby']
  have h1:(te.bytes:Int)*m≤32768*4294967296:=Int.mul_le_mul (by omega) hm (by omega) (by omega)
  omega
 have hr:=run_make (P:=X.P) w t e i' z' hu hi' hz' k1 k2 n m hn hnm hb2 (by omega)
 rw[hsz']at hr
 have hL:Laid F η σ.next te.size (List.replicate n.toNat (zrow te)) (madeCells z'.cells (m.toNat*te.size)):=by
  have hle:n.toNat*te.size≤m.toNat*te.size:=Nat.mul_le_mul_right _ (by omega)
  refine J60 hz1' hzl' hp σ.next n.toNat (fun j hj=>?_) (by rw[size_madeCells];exact hle)
  rw[madeCells,J8s (by omega) j _ (by omega),hzs,hzc']
 obtain⟨η',s1,s2,s3,hh⟩:=J5m hf hs e te.size (List.replicate n.toNat (zrow te)) _ m.toNat hp (by unfold maxLen;omega) (size_madeCells _ _) (by simp;omega) hL
 refine⟨_,_,F,η',_,.sl σ.next σ.next 0 n.toNat,hr,s1,hg,s2,s3,?_,hk⟩
 have:=@VRel.sl F η' (σ.next+1) σ.next σ.next 0 n.toNat w.heap.size m.toNat te.size 0 (by omega) (by omega) hh (Nat.zero_le _) (by omega) (by simp)
 exact this
end ops
end Go.Pm
/- Part of the proof: Pm5. -/
namespace Go.Pm
section ops
variable {X:Cfg} {F:FH} {η:Et} {σ:St} {w:World} {K:AV→St→Prop}
def rowsOf (σ:St):AV→Option (List (List AV))
 |.d (.im rows)=>some (rows.map (·.map .d))
 |.d (.s (.slice none 0 0))=>some []
 |.sl i v lo hi=>match σ.obj i with|some (.row v' _ _ rows)=>if v=v'∧hi≤rows.length then some ((rows.drop lo).take (hi-lo))else none|_=>none
 |_=>none
structure Src (P:Program) (F:FH) (η:Et) (n:Nat) (w:World) (vx:Value) (sz:Nat) (rows:List (List AV)) (news:List Value):Prop where
 len:∀w1:World,w1.heap=w.heap→(Builtin.lenOf vx).run P w1=.ok rows.length w1
 fst:∀w1:World,w1.heap=w.heap→(Builtin.firstCells sz rows.length vx).run P w1=.ok news.toArray w1
 num:news.length=rows.length*sz
 one:∀u∈news,u.oneCell'=true
 rel:∀k (hk:k<rows.length) j (hj:j<(rows[k]).length),VRel F η n ((rows[k])[j]) (news.getD (k*sz+j) undef)
theorem J2N {w w1:World} (h:w1.heap=w.heap) (a:Addr):w1.cell? a=w.cell? a:=by simp[World.cell?,h]
theorem JbT (P:Program) (hf:FRel F w) (hs:SRel F η σ w) {x:AV} {vx:Value} (hx:VRel F η σ.next x vx) {rows:List (List AV)} (hr:rowsOf σ x=some rows) {sz:Nat}
  (hsz:∀r∈rows,r.length=sz):∃news,Src P F η σ.next w vx sz rows news:=by
 cases hx with
 |d hd=>
  cases hd with
  |s=>
   cases vx with
   |slice a n c=>
    cases a with
    |none=>
     cases n<;>cases c<;>simp[rowsOf]at hr
     subst hr
     exact⟨[],fun w1 _=>by simp[Builtin.lenOf],fun w1 _=>by simp[Builtin.firstCells],by simp,by simp,fun k hk=>by simp at hk⟩
    |some a=>simp[rowsOf]at hr
   |_=>simp[rowsOf]at hr
  |im0 a cap=>
   simp[rowsOf]at hr
   subst hr
   exact⟨[],fun w1 _=>by simp[Builtin.lenOf],fun w1 _=>by cases a<;>simp[Builtin.firstCells,loadCells,loadCellsFrom],by simp,by simp,fun k hk=>by simp at hk⟩
  |im drows b o cap sz' c E fz f hb hcap hszd hc ho hrr=>
   simp only[rowsOf,Option.some.injEq]at hr
   subst hr
   by_cases he:drows=[]
   ·subst he
    exact⟨[],fun w1 _=>by simp[Builtin.lenOf],fun w1 _=>by simp[Builtin.firstCells,loadCells,loadCellsFrom],by simp,by simp,fun k hk=>by simp at hk⟩
   ·obtain⟨r0,hr0⟩:=List.exists_mem_of_ne_nil _ he
    have hss:sz=sz':=by rw[←hszd r0 hr0,←hsz (r0.map .d) (List.mem_map_of_mem hr0)];simp
    subst hss
    have hlen:(drows.map (·.map AV.d)).length=drows.length:=by simp
    have hq:∀j,j<drows.length*sz→0<sz∧j / sz<drows.length∧j % sz<sz∧j / sz*sz+j % sz=j:=by
     intro j hj
     have h0:0<sz:=by
      rcases Nat.eq_zero_or_pos sz with h|h
      ·subst h;simp at hj
      ·exact h
     refine⟨h0,?_,Nat.mod_lt _ h0,?_⟩
     ·exact Nat.div_lt_of_lt_mul (by rw[Nat.mul_comm];exact hj)
     ·rw[Nat.mul_comm];exact Nat.div_add_mod j sz
    let g:Nat→Value:=fun j=>f (j / sz) (j % sz)
    have hcell:∀j,j<drows.length*sz→w.cell? ⟨b,o+j,none⟩=some (g j):=by
     intro j hj
     obtain⟨h0,h1,h2,h3⟩:=hq j hj
     rw[cell_of_row w _ _ _ _ _ (hf _ _ hb)]
     have:=hc (j / sz) h1 (j % sz) h2
     rw[show o+j / sz*sz+j % sz=o+j by omega]at this
     exact this
    refine⟨(List.range (drows.length*sz)).map g,fun w1 _=>by simp[Builtin.lenOf],fun w1 hw=>?_,by simp,fun u hu=>?_,fun k hk j hj=>?_⟩
    ·simp only[Builtin.firstCells,hlen]
     exact run_loadCells w1 ⟨b,o,none⟩ (drows.length*sz) g fun j hj=>by rw[Addr.add_lit,J2N hw];exact hcell j hj
    ·obtain⟨j,hj,rfl⟩:=List.mem_map.1 hu
     obtain⟨_,h1,h2,_⟩:=hq j (List.mem_range.1 hj)
     exact ho _ h1 _ h2
    ·have hk':k<drows.length:=by simpa using hk
     simp only[List.getElem_map,List.length_map]at hj ⊢
     have hj':j<sz:=by rw[←hszd _ (List.getElem_mem hk')];exact hj
     have hlt:=J0A hk' hj'
     have e1:(k*sz+j) / sz=k:=by
      rw[Nat.add_comm,Nat.add_mul_div_right _ _ (by omega),Nat.div_eq_of_lt hj',Nat.zero_add]
     have e2:(k*sz+j) % sz=j:=by
      rw[Nat.add_comm,Nat.add_mul_mod_self_right,Nat.mod_eq_of_lt hj']
     simp only[List.getD,List.getElem?_map,List.getElem?_range hlt,Option.map_some,Option.getD_some,g,e1,e2]
     exact .d (hrr k hk' j hj)
  |_=>simp[rowsOf]at hr
 |@sl i v lo hi b cap sz' off h1 h2 hh hle hc hoff=>
  simp only[rowsOf]at hr
  split at hr
  ·rename_i v' E sz2 rows' ho
   split at hr
   ·rename_i hcond
    obtain⟨rfl,hhi⟩:=hcond
    simp only[Option.some.injEq]at hr
    subst hr
    have hlen:((rows'.drop lo).take (hi-lo)).length=hi-lo:=by simp;omega
    rcases Nat.eq_or_lt_of_le hle with heq|hlt
    ·subst heq
     refine⟨[],fun w1 _=>by simp[Builtin.lenOf],fun w1 _=>?_,by simp,by simp,fun k hk=>by simp at hk⟩
     simp[Builtin.firstCells,loadCells,loadCellsFrom]
    ·cases hs.ob i _ ho with
     |row xs hv hs' hpos hown hszr ho1 hrr=>
      obtain⟨cur,hg,hle2,hmx,hcs,htk⟩:=J05 hown (b:=b) (by rw[hh])
      have e0:sz2=sz':=by rw[←hs',hh]
      subst e0
      have hgetr:∀k (hk:k<hi-lo),((rows'.drop lo).take (hi-lo))[k]'(by omega)=rows'[lo+k]'(by omega):=by
       intro k hk;simp
      have hss:sz=sz2:=by
       have h0:0<hi-lo:=by omega
       have:=hsz (((rows'.drop lo).take (hi-lo))[0]'(by omega)) (List.getElem_mem _)
       rw[hgetr 0 h0]at this
       rw[←this]
       exact hszr _ (List.getElem_mem _)
      subst hss
      have hof:=hoff (by omega)
      subst hof
      have hxl:xs.length=rows'.length*sz:=hown.1
      have hcell:∀j,j<(hi-lo)*sz→w.cell? ⟨b,lo*sz+j,none⟩=some (xs.getD (lo*sz+j) undef):=by
       intro j hj
       have:lo*sz+j<rows'.length*sz:=by
        have h3:hi*sz≤rows'.length*sz:=Nat.mul_le_mul_right _ hhi
        have h4:(hi-lo)*sz=hi*sz-lo*sz:=Nat.sub_mul _ _ _
        have h5:lo*sz≤hi*sz:=Nat.mul_le_mul_right _ hle
        omega
       rw[cell_of_row w _ _ _ _ _ hg]
       have h6:rows'.length*sz≤cur.size:=by rw[hcs];exact Nat.mul_le_mul_right _ hle2
       have:xs[lo*sz+j]? = cur[lo*sz+j]?:=by rw[←htk];simp[List.getElem?_take,this]
       simp only[List.getD,this]
       rw[Array.getElem?_eq_getElem (by omega)]
       rfl
      have hin:∀j,j<(hi-lo)*sz→lo*sz+j<rows'.length*sz:=by
       intro j hj
       have h3:hi*sz≤rows'.length*sz:=Nat.mul_le_mul_right _ hhi
       have h4:(hi-lo)*sz=hi*sz-lo*sz:=Nat.sub_mul _ _ _
       have h5:lo*sz≤hi*sz:=Nat.mul_le_mul_right _ hle
       omega
      refine⟨(List.range ((hi-lo)*sz)).map fun j=>xs.getD (lo*sz+j) undef,fun w1 _=>by simp[Builtin.lenOf];omega,fun w1 hw=>?_,by simp[hlen],fun u hu=>?_,fun k hk j hj=>?_⟩
      ·simp only[Builtin.firstCells,hlen]
       exact run_loadCells w1 ⟨b,lo*sz,none⟩ ((hi-lo)*sz) (fun j=>xs.getD (lo*sz+j) undef) fun j hj=>by rw[Addr.add_lit,J2N hw];exact hcell j hj
      ·obtain⟨j,hj,rfl⟩:=List.mem_map.1 hu
       have:=hin j (List.mem_range.1 hj)
       exact J1R ho1 (by omega)
      ·have hk':k<hi-lo:=by omega
       have e1:=hgetr k hk'
       have hj2:j<(rows'[lo+k]'(by omega)).length:=by rw[←e1];exact hj
       have hj':j<sz:=by rw[←hszr _ (List.getElem_mem (show lo+k<rows'.length by omega))];exact hj2
       have hlt:=J0A hk' hj'
       have e2:(((rows'.drop lo).take (hi-lo))[k]'hk)[j]'hj=(rows'[lo+k]'(by omega))[j]'hj2:=by simp only[e1]
       rw[e2]
       have e3:((List.range ((hi-lo)*sz)).map fun j=>xs.getD (lo*sz+j) undef).getD (k*sz+j) undef=xs.getD ((lo+k)*sz+j) undef:=by
        simp only[List.getD,List.getElem?_map,List.getElem?_range hlt,Option.map_some,Option.getD_some]
        rw[show lo*sz+(k*sz+j)=(lo+k)*sz+j by rw[Nat.add_mul];omega]
       rw[e3]
       exact hrr (lo+k) (by omega) j hj2
   ·simp at hr
  ·simp at hr
 |@sl0 i v cap sz' h1 h2 hh=>
  simp only[rowsOf]at hr
  split at hr
  ·split at hr
   ·simp at hr
    subst hr
    exact⟨[],fun w1 _=>by simp[Builtin.lenOf],fun w1 _=>by simp[Builtin.firstCells],by simp,by simp,fun k hk=>by simp at hk⟩
   ·simp at hr
  ·simp at hr
 |_=>simp[rowsOf]at hr
def byteRows (s:ByteArray):List (List AV):=s.data.toList.map fun b=>[.d (.s (.int .u8 b.toNat))]
theorem JI (s:ByteArray):(byteRows s).length=s.size:=by simp[byteRows]
def srcOf (k:KD) (sz:Nat) (σ:St) (x:AV):Option (List (List AV)):=
 match k with
 |.slice _=>rowsOf σ x
 |.string=>match x with|.d (.s (.string s))=>if sz=1 then some (byteRows s)else none|_=>none
 |_=>none
theorem J8N (P:Program) (hf:FRel F w) (hs:SRel F η σ w) {x:AV} {vx:Value} (hx:VRel F η σ.next x vx) {rows:List (List AV)} {k:KD} {sz:Nat} (hr:srcOf k sz σ x=some rows)
  (hsz:∀r∈rows,r.length=sz):∃news,Src P F η σ.next w vx sz rows news:=by
 unfold srcOf at hr
 split at hr
 ·exact JbT P hf hs hx hr hsz
 ·split at hr
  ·rename_i s
   split at hr
   ·rename_i h1
    subst h1
    simp only[Option.some.injEq]at hr
    subst hr
    have:=hx.s_inv
    subst this
    refine⟨Lib.strCells s,fun w1 _=>by simp[Builtin.lenOf,JI],fun w1 _=>?_,?_,Lib.strCells_oneCell s,fun k hk j hj=>?_⟩
    ·rw[JI];exact Lib.run_firstCells_string w1 1 s
    ·rw[JI,Lib.strCells_length,Nat.mul_one]
    ·have hk':k<s.data.toList.length:=by simpa[byteRows]using hk
     simp only[byteRows,List.getElem_map,List.length_singleton]at hj ⊢
     have:j=0:=by omega
     subst this
     simp only[List.getElem_singleton,Nat.mul_one,Nat.add_zero,Lib.strCells,List.getD,List.getElem?_map,List.getElem?_eq_getElem hk',Option.map_some,Option.getD_some]
     exact .d (.s _)
   ·simp at hr
  ·simp at hr
 ·simp at hr
section raw
variable {P:Program} {t tx ty e:TypeId} {dx:TypeDesc} {i:TypeInfo} {z:Value} {vx:Value} {m:Nat} {news:List Value}
theorem J6L (ht:P.underlying t=some (.slice e)) (hx:P.underlying tx=some dx) (hxk:(∃e',dx=.slice e')∨dx=.string) (hi:P.info? e=some i)
  (hl:(Builtin.lenOf vx).run P w=.ok m w) (hfc:(Builtin.firstCells i.size m vx).run P w=.ok news.toArray w) (hn:news.length=m*i.size) (h1:∀u∈news,u.oneCell'=true)
  (g o sLen sCap:Nat) (cur:Array Value) (hg:w.heap[g]? = some (.cells cur e (0,0))) (hroom:sLen+m≤sCap) (hfit:o+sLen*i.size+news.length≤cur.size):
  (Builtin.append_ #[t,tx] ty #[.slice (some ⟨g,o,none⟩) sLen sCap,vx]).run P w =
   .ok (.slice (some ⟨g,o,none⟩) (sLen+m) sCap) (w.setRow g (cur.toList.take (o+sLen*i.size)++news++cur.toList.drop (o+sLen*i.size+news.length)).toArray):=by
 have hst:=run_storeCells_at P g (o+sLen*i.size) e news 0 cur w hg (by simpa using hfit) h1
 simp only[Nat.add_zero]at hst
 rcases hxk with⟨e',rfl⟩|rfl<;>simp[Builtin.append_,run_underlying ht,run_underlying hx,sizeOf,typeInfo,hi,hl,hroom,hfc,Addr.add_lit,hst]
theorem J1M (ht:P.underlying t=some (.slice e)) (hx:P.underlying tx=some dx) (hxk:(∃e',dx=.slice e')∨dx=.string) (hi:P.info? e=some i) (hz:i.zero=some z)
  (hl:(Builtin.lenOf vx).run P w=.ok m w) (hfc:(Builtin.firstCells i.size m vx).run P w.drew=.ok news.toArray w.drew)
  (b:Option Addr) (sLen sCap:Nat) (olds:List Value) (hold:(Builtin.firstCells i.size sLen (.slice b sLen sCap)).run P w.drew=.ok olds.toArray w.drew)
  (hg:sCap<sLen+m) (h63:((sLen+m:Nat):Int)≤9223372036854775807) (hfit:Builtin.nextslicecap (sLen+m) sCap*i.bytes≤281474976710656):
  (Builtin.append_ #[t,tx] ty #[.slice b sLen sCap,vx]).run P w =
   .ok (.slice (some ⟨w.heap.size,0,none⟩) (sLen+m) (grownCap w (sLen+m) sCap e))
    (w.drew.alloc (.cells (olds.toArray++news.toArray++Builtin.zeroCells z.cells (grownCap w (sLen+m) sCap e-(sLen+m))) e)):=by
 have hn:¬(sLen+m≤sCap):=by omega
 have h63':¬(9223372036854775807<((sLen:Int)+(m:Int))):=by omega
 have h48':¬(281474976710656<Builtin.nextslicecap (sLen+m) sCap*i.bytes):=by omega
 rcases hxk with⟨e',rfl⟩|rfl
 all_goals
  simp[Builtin.append_,run_underlying ht,run_underlying hx,sizeOf,typeInfo,zeroValue,hi,hz,hl,hn,h63',h48',Question.forced,hfc,hold,newRow,grownCap]
  try (congr 2;apply Array.ext';simp[List.append_assoc])
end raw
def bumpSet (σ:St) (i:Nat) (o:AO):St:=⟨fun j=>if j=i then some o else σ.obj j,σ.next+1⟩
theorem J09 (σ:St) (i:Nat) (o:AO) (j:Nat):(bumpSet σ i o).obj j=if j=i then some o else σ.obj j:=rfl
theorem J6i (σ:St) (i:Nat) (o:AO):(bumpSet σ i o).next=σ.next+1:=rfl
def aappend (X:Cfg) (ts tx:TypeId) (s x:AV) (σ:St) (K:AV→St→Prop):Prop:=
 ∃ti,X.T ts=some ti∧∃e te,ti.kind=.slice e∧X.T e=some te∧0<te.size∧0<te.bytes∧∃tix,X.T tx=some tix∧
  ∃src,srcOf tix.kind te.size σ x=some src∧(∀r∈src,r.length=te.size)∧
  match s with
  |.d (.s (.slice none 0 0))=>src.length*te.bytes≤140737488355328∧K (.sl σ.next σ.next 0 src.length) (σ.alloc (.row σ.next e te.size src))
  |.sl i v lo hi=>lo=0∧∃rows,σ.obj i=some (.row v e te.size rows)∧hi≤rows.length∧(hi+src.length)*te.bytes≤140737488355328∧
    K (.sl i σ.next 0 (hi+src.length)) (bumpSet σ i (.row σ.next e te.size (rows.take hi++src)))
  |_=>False
theorem J6I (l:List Value) (j:Nat):l.toArray.getD j undef=l.getD j undef:=by simp[List.getD,Array.getD_eq_getD_getElem?]
theorem J3M {n sz:Nat} {r1 r2:List (List AV)} {c:Array Value} {l1 l2:List Value} (h1:l1.length=r1.length*sz) (h2:l2.length=r2.length*sz)
  (hs1:∀r∈r1,r.length=sz) (hs2:∀r∈r2,r.length=sz) (ho1:∀u∈l1,u.oneCell'=true) (ho2:∀u∈l2,u.oneCell'=true)
  (hr1:∀k (hk:k<r1.length) j (hj:j<(r1[k]).length),VRel F η n ((r1[k])[j]) (l1.getD (k*sz+j) undef))
  (hr2:∀k (hk:k<r2.length) j (hj:j<(r2[k]).length),VRel F η n ((r2[k])[j]) (l2.getD (k*sz+j) undef))
  (hc:∀j,j<(l1++l2).length→c.getD j undef=(l1++l2).getD j undef) (hsz:(l1++l2).length≤c.size):Laid F η n sz (r1++r2) c:=by
 have hlen:(l1++l2).length=(r1++r2).length*sz:=by simp only[List.length_append,h1,h2,Nat.add_mul]
 refine⟨by omega,fun r hr=>?_,fun j hj=>?_,fun k hk j hj=>?_⟩
 ·rcases List.mem_append.1 hr with h|h
  ·exact hs1 r h
  ·exact hs2 r h
 ·rw[hc j (by omega)]
  have hjl:j<(l1++l2).length:=by omega
  simp only[List.getD,List.getElem?_eq_getElem hjl,Option.getD_some]
  rcases List.mem_append.1 (List.getElem_mem hjl)with h|h
  ·exact ho1 _ h
  ·exact ho2 _ h
 ·by_cases hk1:k<r1.length
  ·have e1:(r1++r2)[k]'hk=r1[k]:=List.getElem_append_left hk1
   have hj1:j<(r1[k]).length:=by rw[e1]at hj;exact hj
   have hjs:j<sz:=by rw[←hs1 _ (List.getElem_mem hk1)];exact hj1
   have hlt:=J0A hk1 hjs
   have e2:((r1++r2)[k]'hk)[j]'hj=(r1[k])[j]'hj1:=by simp only[e1]
   rw[e2,hc _ (by simp;omega)]
   have:(l1++l2).getD (k*sz+j) undef=l1.getD (k*sz+j) undef:=by
    simp only[List.getD];rw[List.getElem?_append_left (by omega)]
   rw[this]
   exact hr1 k hk1 j hj1
  ·have hk2:k-r1.length<r2.length:=by simp at hk;omega
   have e1:(r1++r2)[k]'hk=r2[k-r1.length]:=List.getElem_append_right (by omega)
   have hj1:j<(r2[k-r1.length]).length:=by rw[e1]at hj;exact hj
   have hjs:j<sz:=by rw[←hs2 _ (List.getElem_mem hk2)];exact hj1
   have hlt:=J0A hk2 hjs
   have hkk:k*sz=r1.length*sz+(k-r1.length)*sz:=by rw[←Nat.add_mul];congr 1;omega
   have e2:((r1++r2)[k]'hk)[j]'hj=(r2[k-r1.length])[j]'hj1:=by simp only[e1]
   rw[e2,hc _ (by simp;omega)]
   have:(l1++l2).getD (k*sz+j) undef=l2.getD ((k-r1.length)*sz+j) undef:=by
    simp only[List.getD];rw[List.getElem?_append_right (by omega)]
    congr 2;omega
   rw[this]
   exact hr2 _ hk2 j hj1
theorem J1O {P:Program} {t tx ty e:TypeId} {dx:TypeDesc} {i:TypeInfo} {vx:Value} (ht:P.underlying t=some (.slice e)) (hx:P.underlying tx=some dx) (hxk:(∃e',dx=.slice e')∨dx=.string) (hi:P.info? e=some i)
  (hl:(Builtin.lenOf vx).run P w=.ok 0 w) (hfc:(Builtin.firstCells i.size 0 vx).run P w=.ok #[] w) (b:Option Addr) (sLen sCap:Nat) (hle:sLen≤sCap):
  (Builtin.append_ #[t,tx] ty #[.slice b sLen sCap,vx]).run P w=.ok (.slice b sLen sCap) w:=by
 rcases hxk with⟨e',rfl⟩|rfl<;>cases b<;>simp[Builtin.append_,run_underlying ht,run_underlying hx,sizeOf,typeInfo,hi,hl,hle,hfc,storeCells]
theorem J4g {w':World} (hf:FRel F w) (hs:SRel F η σ w) {i v E sz:Nat} {rows:List (List AV)} (ho:σ.obj i=some (.row v E sz rows)) (rows':List (List AV)) (b' cap':Nat) (c':Array Value)
  (hp:0<sz) (hcap:cap'≤maxLen) (hc:c'.size=cap'*sz) (hle:rows'.length≤cap') (hL:Laid F η σ.next sz rows' c') (hb:w'.heap[b']? = some (.cells c' E (0,0)))
  (hgr:More w w') (hfr:∀b,b<w.heap.size→(η.hdr v).blk≠some b→w'.heap[b]? = w.heap[b]?) (hown:b'<w.heap.size→(η.hdr v).blk=some b'):
  ∃η',Step F η σ w F η' (bumpSet σ i (.row σ.next E sz rows')) w'∧FRel F w'∧SRel F η' (bumpSet σ i (.row σ.next E sz rows')) w'∧η'.hdr σ.next=⟨some b',cap',sz⟩:=by
 have ha:=Et.agree_withHdr η σ.next ⟨some b',cap',sz⟩
 have hh:(η.withHdr σ.next ⟨some b',cap',sz⟩).hdr σ.next=⟨some b',cap',sz⟩:=by simp[Et.withHdr]
 have hmul:rows'.length*sz≤c'.size:=by rw[hc];exact Nat.mul_le_mul_right _ hle
 have hgd:∀j,j<rows'.length*sz→(c'.toList.take (rows'.length*sz)).getD j undef=c'.getD j undef:=by
  intro j hj
  simp[List.getD,Array.getD_eq_getD_getElem?,List.getElem?_take,hj]
 obtain⟨g1,g2,g3⟩:=upd (η':=η.withHdr σ.next ⟨some b',cap',sz⟩) (w':=w') hf hs i (.row σ.next E sz rows') (σ.next+1) (Nat.lt_succ_of_lt (hs.lt _ _ ho)) (Nat.le_succ _) ha hgr
  (fun b hb hno=>hfr b hb fun e=>hno _ ho (by simp only[Owns,own];exact e))
  (.row (c'.toList.take (rows'.length*sz)) (Nat.lt_succ_self _) (by rw[hh]) hp
   (by
    rw[hh]
    refine⟨?_,.inr ⟨b',cap',c',rfl,Nat.zero_le _,hb,hle,hcap,hc,rfl⟩⟩
    simp only[List.length_take,Array.length_toList]
    omega)
   hL.len
   (fun u hu=>by
    obtain⟨j,hj,rfl⟩:=List.mem_iff_getElem.1 hu
    have hj2:j<rows'.length*sz:=by simp only[List.length_take]at hj;omega
    have:=hgd j hj2
    simp only[List.getD,List.getElem?_eq_getElem hj,Option.getD_some]at this
    rw[this]
    exact hL.one j hj2)
   (fun k hk j hj=>by
    have hjs:j<sz:=by rw[←hL.len _ (List.getElem_mem hk)];exact hj
    rw[hgd _ (J0A hk hjs)]
    exact(hL.rel k hk j hj).mono F.le_refl ha (Nat.le_succ _)))
  (fun b hb hlt=>by
   simp only[Owns,own,hh,Option.some.injEq]at hb
   subst hb
   exact⟨_,ho,by simp only[Owns,own];exact hown hlt⟩)
 exact⟨_,g1,g2,g3,hh⟩
theorem J5Y {n b:Nat} (hb:0<b) (h:n*b≤140737488355328):n≤maxLen∧n≤140737488355328:=by
 have:n≤n*b:=Nat.le_mul_of_pos_right _ hb
 unfold maxLen
 omega
theorem J1P (w:World) (o:Obj) (b:Nat) (hb:b<w.heap.size):(w.drew.alloc o).heap[b]? = w.heap[b]?:=heap_alloc_old w.drew o hb
theorem J0Q (w:World) (o:Obj):(w.drew.alloc o).heap[w.heap.size]? = some o:=heap_alloc_new w.drew o
theorem J86 (hg:GRel X F) (hf:FRel F w) (hs:SRel F η σ w) {ts tx ty:TypeId} {s x:AV} {vs vx:Value} (hvs:VRel F η σ.next s vs) (hvx:VRel F η σ.next x vx)
  (h:aappend X ts tx s x σ K):VOk X F η σ w ((Builtin.append_ #[ts,tx] ty #[vs,vx]).run X.P w) K:=by
 obtain⟨ti,ht,e,te,hkd,hte,hp,hpb,tix,htx,src,hsrc,hsrcz,hm⟩:=h
 obtain⟨d,i0,z0,hu,hd,_,_⟩:=X.ok ts ti ht
 obtain⟨d',i,z,hu',hd',hinf,hsz,hby,hz,hzc,hzl,hz1,hzn,hza⟩:=X.ok e te hte
 obtain⟨dx,ix,zx,hux,hdx,_⟩:=X.ok tx tix htx
 rw[hkd]at hd
 have hsl:=JQ hd
 subst hsl
 have hnk:(∃e',dx=.slice e')∨dx=.string:=by
  unfold srcOf at hsrc
  split at hsrc
  ·rename_i e' he;rw[he]at hdx;exact .inl ⟨e',JQ hdx⟩
  ·rename_i he;rw[he]at hdx;exact .inr (JZ hdx)
  ·simp at hsrc
 obtain⟨news,hS⟩:=J8N X.P hf hs hvx hsrc hsrcz
 have hlx:=hS.len w rfl
 have hfx:=hS.fst w rfl
 have hfx':=hS.fst w.drew rfl
 rw[←hsz]at hfx hfx'
 have hzs:z.cells.size=te.size:=by simp[hzc,hzl]
 have hnum:=hS.num
 -- a new block behind the old rows
 have fresh:∀(olds:List Value) (r1:List (List AV)) (old:Nat),olds.length=r1.length*te.size→(∀r∈r1,r.length=te.size)→(∀u∈olds,u.oneCell'=true)→
   (∀k (hk:k<r1.length) j (hj:j<(r1[k]).length),VRel F η σ.next ((r1[k])[j]) (olds.getD (k*te.size+j) undef))→r1.length+src.length≤maxLen→
   (olds.toArray++news.toArray++Builtin.zeroCells z.cells (grownCap w (r1.length+src.length) old e-(r1.length+src.length))).size=grownCap w (r1.length+src.length) old e*te.size∧
   grownCap w (r1.length+src.length) old e≤maxLen∧r1.length+src.length≤grownCap w (r1.length+src.length) old e∧
   Laid F η σ.next te.size (r1++src) (olds.toArray++news.toArray++Builtin.zeroCells z.cells (grownCap w (r1.length+src.length) old e-(r1.length+src.length))):=by
  intro olds r1 old h1 h2 h3 h4 h5
  have hge:=grownCap_ge w (r1.length+src.length) old e
  refine⟨?_,grownCap_le_maxLen w _ old e h5,hge,?_⟩
  ·simp only[Array.size_append,List.size_toArray,size_zeroCells,hzs,h1,hnum,←Nat.add_mul]
   congr 1
   omega
  ·refine J3M h1 hnum h2 hsrcz h3 hS.one h4 hS.rel (fun j hj=>?_) (by simp)
   have:((olds++news).toArray++Builtin.zeroCells z.cells (grownCap w (r1.length+src.length) old e-(r1.length+src.length))).getD j undef=(olds++news).getD j undef:=by
    simp only[Array.getD_eq_getD_getElem?,List.getD]
    rw[Array.getElem?_append_left (by simpa using hj)]
    simp
   simpa using this
 have grow_fits:∀n cap,cap<n+src.length→(n+src.length)*te.bytes≤140737488355328→Builtin.nextslicecap (n+src.length) cap*i.bytes≤281474976710656:=by
  intro n cap h1 h2
  rw[hby];exact growslice_fits h1 h2
 split at hm
 ·-- onto nil
  obtain⟨hlim,hk⟩:=hm
  have:=hvs.s_inv
  subst this
  by_cases h0:src.length=0
  ·have hsrc0:src=[]:=List.eq_nil_of_length_eq_zero h0
   subst hsrc0
   have hn0:news=[]:=List.eq_nil_of_length_eq_zero (by simpa using hnum)
   subst hn0
   obtain⟨η',s1,s2,s3,hh⟩:=J6F hf hs e te.size hp
   refine⟨_,w,F,η',_,.sl σ.next σ.next 0 0,J1O hu hux hnk hinf hlx hfx none 0 0 (Nat.le_refl _),s1,hg,s2,s3,.sl0 (Nat.lt_succ_self _) (Nat.lt_succ_self _) hh,by simpa using hk⟩
  ·obtain⟨hmx,hmx2⟩:=J5Y hpb hlim
   have hr:=J1M (P:=X.P) (ty:=ty) hu hux hnk hinf hz hlx hfx' none 0 0 [] (by simp[Builtin.firstCells]) (by omega) (by omega) (grow_fits 0 0 (by omega) (by simpa using hlim))
   obtain⟨f1,f2,f3,f4⟩:=fresh [] [] 0 (by simp) (by simp) (by simp) (fun k hk=>by simp at hk) (by simpa using hmx)
   simp only[List.length_nil,Nat.zero_add,List.nil_append]at hr f1 f2 f3 f4
   obtain⟨η',s1,s2,s3,hh⟩:=J5m (hf.drew) (hs.drew) e te.size src _ _ hp f2 f1 f3 f4
   refine⟨_,_,F,η',_,.sl σ.next σ.next 0 src.length,hr,Step.drew.trans s1,hg,s2,s3,?_,hk⟩
   exact @VRel.sl F η' (σ.next+1) σ.next σ.next 0 src.length _ _ te.size 0 (by omega) (by omega) hh (Nat.zero_le _) f3 (by simp)
 ·-- onto rows of our own
  rename_i i1 v lo hi
  obtain⟨rfl,rows,ho,hhi,hlim,hk⟩:=hm
  obtain⟨hmx,hmx2⟩:=J5Y hpb hlim
  cases hs.ob i1 _ ho with
  |row xs hv hs' hpos hown hszr ho1 hrr=>
   have htl:(rows.take hi).length=hi:=by simp;omega
   have hmin:min hi rows.length=hi:=by omega
   have hxl:xs.length=rows.length*te.size:=hown.1
   have hmulhi:hi*te.size≤rows.length*te.size:=Nat.mul_le_mul_right _ hhi
   have hxtl:(xs.take (hi*te.size)).length=(rows.take hi).length*te.size:=by simp only[List.length_take,hxl,hmin];omega
   have htsz:∀r∈rows.take hi,r.length=te.size:=fun r hr=>hszr r (List.mem_of_mem_take hr)
   have hx1:∀u∈xs.take (hi*te.size),u.oneCell'=true:=fun u hu=>ho1 u (List.mem_of_mem_take hu)
   have hxr:∀k (hk:k<(rows.take hi).length) j (hj:j<((rows.take hi)[k]).length),VRel F η σ.next (((rows.take hi)[k])[j]) ((xs.take (hi*te.size)).getD (k*te.size+j) undef):=by
    intro k hk j hj
    have hk':k<hi:=by omega
    have e1:(rows.take hi)[k]'hk=rows[k]'(by omega):=by simp
    have hj2:j<(rows[k]'(by omega)).length:=by rw[←e1];exact hj
    have hjs:j<te.size:=by rw[←htsz _ (List.getElem_mem hk)];exact hj
    have e2:((rows.take hi)[k]'hk)[j]'hj=(rows[k]'(by omega))[j]'hj2:=by simp only[e1]
    have e3:(xs.take (hi*te.size)).getD (k*te.size+j) undef=xs.getD (k*te.size+j) undef:=by
     simp[List.getD,List.getElem?_take,J0A hk' hjs]
    rw[e2,e3]
    exact hrr k (by omega) j hj2
   cases hvs with
   |sl0 g1 g2 hh=>
    have hrn:rows=[]:=List.eq_nil_of_length_eq_zero (J1i hown (by rw[hh]))
    subst hrn
    by_cases h0:src.length=0
    ·have hsrc0:src=[]:=List.eq_nil_of_length_eq_zero h0
     subst hsrc0
     have hn0:news=[]:=List.eq_nil_of_length_eq_zero (by simpa using hnum)
     subst hn0
     have ha:=Et.agree_withHdr η σ.next ⟨none,0,te.size⟩
     have hhh:(η.withHdr σ.next ⟨none,0,te.size⟩).hdr σ.next=⟨none,0,te.size⟩:=by simp[Et.withHdr]
     obtain⟨s1,s2,s3⟩:=upd (η':=η.withHdr σ.next ⟨none,0,te.size⟩) (w':=w) hf hs i1 (.row σ.next e te.size ([].take 0++[])) (σ.next+1) (Nat.lt_succ_of_lt g1) (Nat.le_succ _) ha (.refl _)
      (fun _ _ _=>rfl)
      (.row [] (Nat.lt_succ_self _) (by rw[hhh]) hp (by rw[hhh];exact World.ownsRow_nil w 0 e te.size) (by simp) (by simp) (fun k hk=>by simp at hk))
      (fun b hb hlt=>by simp[Owns,own,hhh]at hb)
     exact⟨_,w,F,_,_,.sl i1 σ.next 0 0,J1O hu hux hnk hinf hlx hfx none 0 0 (Nat.le_refl _),s1,hg,s2,s3,.sl0 (Nat.lt_succ_of_lt g1) (Nat.lt_succ_self _) hhh,by simpa[bumpSet]using hk⟩
    ·have hr:=J1M (P:=X.P) (ty:=ty) hu hux hnk hinf hz hlx hfx' none 0 0 [] (by simp[Builtin.firstCells]) (by omega) (by omega) (grow_fits 0 0 (by omega) (by simpa using hlim))
     obtain⟨f1,f2,f3,f4⟩:=fresh [] [] 0 (by simp) (by simp) (by simp) (fun k hk=>by simp at hk) (by simpa using hmx)
     simp only[List.length_nil,Nat.zero_add,List.nil_append]at hr f1 f2 f3 f4
     obtain⟨η',s1,s2,s3,hhh⟩:=J4g (w':=w.drew.alloc _) hf hs ho src _ _ _ hp f2 f1 f3 f4 (J0Q w _) ⟨by simp,rfl,rfl⟩ (fun b hb _=>J1P w _ b hb) (fun hlt=>by omega)
     refine⟨_,_,F,η',_,.sl i1 σ.next 0 src.length,hr,s1,hg,s2,s3,?_,by simpa using hk⟩
     exact @VRel.sl F η' (σ.next+1) i1 σ.next 0 src.length _ _ te.size 0 (Nat.lt_succ_of_lt g1) (by omega) hhh (Nat.zero_le _) f3 (by simp)
   |@sl _ _ _ _ b cap sz' off g1 g2 hh hle hc hoff=>
    obtain⟨cur,hgb,hle2,hmxc,hcs,htk⟩:=J05 hown (b:=b) (by rw[hh])
    have e0:te.size=sz':=by rw[←hs',hh]
    subst e0
    have hcap:(η.hdr v).cap=cap:=by rw[hh]
    rw[hcap]at hle2 hmxc hcs
    have hxg:∀j,j<rows.length*te.size→xs.getD j undef=cur.getD j undef:=by
     intro j hj
     rw[←htk]
     simp[List.getD,Array.getD_eq_getD_getElem?,List.getElem?_take,hj]
    have hmulc:rows.length*te.size≤cur.size:=by rw[hcs];exact Nat.mul_le_mul_right _ hle2
    simp only[Nat.sub_zero]
    by_cases h0:src.length=0
    ·have hsrc0:src=[]:=List.eq_nil_of_length_eq_zero h0
     subst hsrc0
     have hn0:news=[]:=List.eq_nil_of_length_eq_zero (by simpa using hnum)
     subst hn0
     have hL:Laid F η σ.next te.size (rows.take hi) cur:=by
      refine⟨by rw[htl];omega,htsz,fun j hj=>?_,fun k hk j hj=>?_⟩
      ·rw[htl]at hj
       rw[←hxg j (by omega)]
       exact J1R ho1 (by omega)
      ·have hjs:j<te.size:=by rw[←htsz _ (List.getElem_mem hk)];exact hj
       have hlt:=J0A hk hjs
       rw[htl]at hlt
       have:=hxr k hk j hj
       rw[show(xs.take (hi*te.size)).getD (k*te.size+j) undef=cur.getD (k*te.size+j) undef from by
        rw[←hxg _ (by omega)];simp[List.getD,List.getElem?_take,hlt]]at this
       exact this
     obtain⟨η',s1,s2,s3,hhh⟩:=J4g (w':=w) hf hs ho (rows.take hi) b cap cur hp hmxc hcs (by rw[htl];omega) hL hgb (.refl _) (fun _ _ _=>rfl) (fun _=>by rw[hh])
     refine⟨_,w,F,η',_,.sl i1 σ.next 0 hi,J1O hu hux hnk hinf hlx hfx _ hi cap (by omega),s1,hg,s2,s3,?_,by simpa using hk⟩
     exact @VRel.sl F η' (σ.next+1) i1 σ.next 0 hi b cap te.size off (Nat.lt_succ_of_lt g1) (by omega) hhh (Nat.zero_le _) hc hoff
    ·by_cases hroom:hi+src.length≤cap
     ·have ho0:=hoff (by omega)
      simp only[Nat.zero_mul]at ho0
      subst ho0
      have hfit:0+hi*i.size+news.length≤cur.size:=by
       rw[hnum,hsz,hcs,Nat.zero_add,←Nat.add_mul];exact Nat.mul_le_mul_right _ hroom
      have hr:=J6L (P:=X.P) (ty:=ty) hu hux hnk hinf hlx hfx (by rw[hsz];exact hnum) hS.one b 0 hi cap cur hgb hroom hfit
      rw[hsz,Nat.zero_add]at hr
      have hfit2:hi*te.size+news.length≤cur.size:=by rw[hsz]at hfit;omega
      have hL:Laid F η σ.next te.size (rows.take hi++src) (cur.toList.take (hi*te.size)++news++cur.toList.drop (hi*te.size+news.length)).toArray:=by
       refine J3M hxtl hnum htsz hsrcz hx1 hS.one hxr hS.rel (fun j hj=>?_) (by simp only[List.size_toArray,List.length_append,List.length_take,List.length_drop,Array.length_toList,hxtl,htl];omega)
       rw[J0M cur _ _ hfit2]
       simp only[List.length_append,hxtl,htl]at hj
       by_cases hjj:hi*te.size≤j
       ·rw[if_pos (by omega)]
        simp only[List.getD]
        rw[List.getElem?_append_right (by rw[hxtl,htl];exact hjj),hxtl,htl]
       ·rw[if_neg (by omega),←hxg j (by omega)]
        simp only[List.getD]
        rw[List.getElem?_append_left (by rw[hxtl,htl];omega)]
        simp[List.getElem?_take,show j<hi*te.size by omega]
      obtain⟨η',s1,s2,s3,hhh⟩:=J4g (w':=w.setRow b _) hf hs ho (rows.take hi++src) b cap _ hp hmxc
       (by simp only[List.size_toArray,List.length_append,List.length_take,List.length_drop,Array.length_toList];omega)
       (by simp only[List.length_append,htl];exact hroom) hL (setRow_heap w b cur _ e _ hgb) ⟨by simp,rfl,rfl⟩ (fun b1 hb1 hne=>setRow_other w b b1 _ (fun e1=>hne (by rw[hh,e1]))) (fun _=>by rw[hh])
      refine⟨_,_,F,η',_,.sl i1 σ.next 0 (hi+src.length),hr,s1,hg,s2,s3,?_,hk⟩
      exact @VRel.sl F η' (σ.next+1) i1 σ.next 0 (hi+src.length) b cap te.size 0 (Nat.lt_succ_of_lt g1) (by omega) hhh (Nat.zero_le _) hroom (by simp)
     ·have hold:(Builtin.firstCells i.size hi (.slice (some ⟨b,off,none⟩) hi cap)).run X.P w.drew=.ok (xs.take (hi*te.size)).toArray w.drew:=by
       rcases Nat.eq_zero_or_pos cap with hc0|hc0
       ·have:hi=0:=by omega
        subst this
        simp[Builtin.firstCells,loadCells,loadCellsFrom]
       ·have ho0:=hoff hc0
        simp only[Nat.zero_mul]at ho0
        subst ho0
        refine run_firstCells_some w.drew i.size hi ⟨b,0,none⟩ hi cap _ (by rw[hxtl,htl,hsz]) fun j u hu=>?_
        have hj:j<hi*te.size:=by
         have:=(List.getElem?_eq_some_iff.1 hu).1
         rw[hxtl,htl]at this;exact this
        rw[Addr.add_lit,Nat.zero_add,World.cell?_drew,cell_of_row w _ _ _ _ _ hgb]
        rw[List.getElem?_take,if_pos hj,←htk,List.getElem?_take,if_pos (by omega)]at hu
        simpa using hu
      have hr:=J1M (P:=X.P) (ty:=ty) hu hux hnk hinf hz hlx hfx' (some ⟨b,off,none⟩) hi cap _ hold (by omega) (by omega) (grow_fits hi cap (by omega) hlim)
      obtain⟨f1,f2,f3,f4⟩:=fresh (xs.take (hi*te.size)) (rows.take hi) cap hxtl htsz hx1 hxr (by rw[htl];exact hmx)
      rw[htl]at f1 f2 f3 f4
      obtain⟨η',s1,s2,s3,hhh⟩:=J4g (w':=w.drew.alloc _) hf hs ho (rows.take hi++src) _ _ _ hp f2 f1 (by simp only[List.length_append,htl];exact f3) f4 (J0Q w _) ⟨by simp,rfl,rfl⟩ (fun b hb _=>J1P w _ b hb) (fun hlt=>by omega)
      refine⟨_,_,F,η',_,.sl i1 σ.next 0 (hi+src.length),hr,s1,hg,s2,s3,?_,hk⟩
      exact @VRel.sl F η' (σ.next+1) i1 σ.next 0 (hi+src.length) _ _ te.size 0 (Nat.lt_succ_of_lt g1) (by omega) hhh (Nat.zero_le _) f3 (by simp)
 ·exact hm.elim
end ops
end Go.Pm
