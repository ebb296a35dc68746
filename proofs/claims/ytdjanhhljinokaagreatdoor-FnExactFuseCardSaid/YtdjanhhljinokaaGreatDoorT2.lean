/- Part of the proof: Pm3. -/
import Derived.Test.YtdjanhhljinokaaGreatDoorT1
set_option linter.unusedVariables false
set_option linter.unusedSimpArgs false
namespace Go.Pm
def AV.cells:AV→Option (List AV)
 |.agg cs=>some cs
 |.d (.s (.agg vs))=>some (vs.toList.map fun v=>.d (.s v))
 |.tup _=>none
 |.any=>none
 |x=>some [x]
def AV.one:AV→Bool
 |.d (.s v)=>v.oneCell'
 |.agg _=>false
 |.tup _=>false
 |.any=>false
 |_=>true
theorem J25 {F:FH} {η:Et} {n:Nat} {x:AV} {v:Value} {cs:List AV} (h:VRel F η n x v) (hc:x.cells=some cs):
  v.cells.size=cs.length∧∀j (hj:j<cs.length),VRel F η n cs[j] (v.cells.getD j undef):=by
 have one:∀{y:AV} {u:Value},VRel F η n y u→(∀vs,u≠.agg vs)→cs=[y]→u.cells.size=cs.length∧∀j (hj:j<cs.length),VRel F η n cs[j] (u.cells.getD j undef):=by
  intro y u hy hu he
  subst he
  have hcu:u.cells=#[u]:=by cases u<;>first|rfl|exact absurd rfl (hu _)
  rw[hcu]
  refine⟨rfl,fun j hj=>?_⟩
  have:j=0:=by simp at hj;exact hj
  subst this
  exact hy
 cases h with
 |@d x v hd=>
  cases hd with
  |s v=>
   cases v with
   |agg vs=>
    simp only[AV.cells,Option.some.injEq]at hc
    subst hc
    refine⟨by simp[Value.cells],fun j hj=>?_⟩
    simp only[List.length_map,Array.length_toList]at hj
    simp only[List.getElem_map,Array.getElem_toList,Value.cells]
    rw[Array.getD,dif_pos hj]
    exact .d (.s _)
   |_=>exact one (.d (.s _)) (by intro vs h;cases h) (by simpa[AV.cells]using hc.symm)
  |im0 a cap=>exact one (.d (.im0 a cap)) (by intro vs h;cases h) (by simpa[AV.cells]using hc.symm)
  |im rows b o cap sz c E fz f hb hcap hsz hc' ho hr=>exact one (.d (.im rows b o cap sz c E fz f hb hcap hsz hc' ho hr)) (by intro vs h;cases h) (by simpa[AV.cells]using hc.symm)
  |ip cells off b o c E fz f hb hc' ho hr=>exact one (.d (.ip cells off b o c E fz f hb hc' ho hr)) (by intro vs h;cases h) (by simpa[AV.cells]using hc.symm)
  |mp0 kk=>exact one (.d (.mp0 kk)) (by intro vs h;cases h) (by simpa[AV.cells]using hc.symm)
  |mp kk es r ents clock f π hb hn hff hdd hk hsu hr=>exact one (.d (.mp kk es r ents clock f π hb hn hff hdd hk hsu hr)) (by intro vs h;cases h) (by simpa[AV.cells]using hc.symm)
 |agg hn h=>
  simp only[AV.cells,Option.some.injEq]at hc
  subst hc
  exact⟨hn,h⟩
 |tup hn h=>simp[AV.cells]at hc
 |ref h1=>exact one (.ref h1) (by intro vs h;cases h) (by simpa[AV.cells]using hc.symm)
 |sl h1 h2 h3 h4 h5 h6=>exact one (.sl h1 h2 h3 h4 h5 h6) (by intro vs h;cases h) (by simpa[AV.cells]using hc.symm)
 |sl0 h1 h2 h3=>exact one (.sl0 h1 h2 h3) (by intro vs h;cases h) (by simpa[AV.cells]using hc.symm)
 |ep h1 h2 h3=>exact one (.ep h1 h2 h3) (by intro vs h;cases h) (by simpa[AV.cells]using hc.symm)
 |mp h1=>exact one (.mp h1) (by intro vs h;cases h) (by simpa[AV.cells]using hc.symm)
 |it h1=>exact one (.it h1) (by intro vs h;cases h) (by simpa[AV.cells]using hc.symm)
 |fn h1 h2=>exact one (.fn h1 h2) (by intro vs h;cases h) (by simpa[AV.cells]using hc.symm)
 |ifc h1=>exact one (.ifc h1) (by intro vs h;cases h) (by simpa[AV.cells]using hc.symm)
 |any v=>simp[AV.cells]at hc
theorem J3P {F:FH} {η:Et} {n:Nat} {x:AV} {v:Value} (h:VRel F η n x v) (hc:x.one=true):v.oneCell'=true:=by
 cases h with
 |d hd=>
  cases hd with
  |s v=>exact hc
  |_=>rfl
 |agg hn h=>simp[AV.one]at hc
 |tup hn h=>simp[AV.one]at hc
 |any v=>simp[AV.one]at hc
 |_=>rfl
theorem J0W {P:Program} {t:TypeId} {d:TypeDesc} (h:P.underlying t=some d) (w:World):(isAgg t).run P w=.ok (isAggK (kindOf d)) w:=by
 unfold isAgg
 rw[Sem.run_bind,run_underlying h w]
 cases d<;>rfl
theorem JN {P:Program} {t:TypeId} {i:TypeInfo} (h:P.info? t=some i) (w:World):(sizeOf t).run P w=.ok i.size w:=by
 simp[sizeOf,typeInfo,h]
def piece (ag:Bool) (cells:List AV) (off size:Nat):Option AV:=
 if ag then(if off+size≤cells.length then some (.agg ((cells.drop off).take size))else none)else cells[off]?
theorem J2u (f:Nat→Value) (n j:Nat) (hj:j<n):(((List.range n).map f).toArray).getD j undef=f j:=by
 simp[Array.getD,hj]
theorem J4o {P:Program} {F:FH} {η:Et} {n:Nat} {w:World} {t:TypeId} {d:TypeDesc} {i:TypeInfo} (hu:P.underlying t=some d) (hi:P.info? t=some i)
  {cells:List AV} {b o off:Nat} {f:Nat→Value} (hc:∀j,j<cells.length→w.cell? ⟨b,o+j,none⟩=some (f j))
  (hr:∀j (h:j<cells.length),VRel F η n cells[j] (f j)) {r:AV} (hp:piece (isAggK (kindOf d)) cells off i.size=some r):
  ∃v,(loadVar t ⟨b,o+off,none⟩).run P w=.ok v w∧VRel F η n r v:=by
 unfold piece at hp
 cases hd:isAggK (kindOf d)with
 |true=>
  simp only[hd,if_true]at hp
  split at hp
  ·rename_i hle
   simp only[Option.some.injEq]at hp
   subst hp
   have hl:(loadCells ⟨b,o+off,none⟩ i.size).run P w=.ok ((List.range i.size).map fun j=>f (off+j)).toArray w:=
    run_loadCells w ⟨b,o+off,none⟩ i.size (fun j=>f (off+j)) (fun j hj=>by rw[Addr.add_lit,Nat.add_assoc];exact hc (off+j) (by omega))
   refine⟨.agg ((List.range i.size).map fun j=>f (off+j)).toArray,by simp only[loadVar,Sem.run_bind,J0W hu,Result.andThen_ok,hd,if_true,JN hi,hl,Sem.run_pure],?_⟩
   refine .agg (by simp;omega) fun j hj=>?_
   simp only[List.length_take,List.length_drop]at hj
   rw[J2u _ _ _ (by omega)]
   have:=hr (off+j) (by omega)
   simpa using this
  ·simp at hp
 |false=>
  simp only[hd,Bool.false_eq_true,if_false]at hp
  obtain⟨hlt,rfl⟩:=List.getElem?_eq_some_iff.1 hp
  refine⟨f off,?_,hr off hlt⟩
  simp only[loadVar,Sem.run_bind,J0W hu,Result.andThen_ok,hd,Bool.false_eq_true,if_false,run_load,hc off hlt]
def behind (σ:St):AV→Option (List AV×Nat)
 |.ref i off=>match σ.obj i with|some (.var cells)=>some (cells,off)|_=>none
 |.ep i v k off=>match σ.obj i with|some (.row v' _ _ rows)=>if v=v' then(rows[k]?).map fun r=>(r,off)else none|_=>none
 |.d (.ip cells off)=>some (cells.map .d,off)
 |_=>none
theorem J7h {F:FH} {η:Et} {σ:St} {w:World} (hf:FRel F w) (hs:SRel F η σ w) {p:AV} {vp:Value} (hp:VRel F η σ.next p vp) {cells:List AV} {off:Nat}
  (hb:behind σ p=some (cells,off)):
  ∃(b o:Nat) (f:Nat→Value),vp=.pointer (some ⟨b,o+off,none⟩)∧(∀j,j<cells.length→w.cell? ⟨b,o+j,none⟩=some (f j))∧∀j (h:j<cells.length),VRel F η σ.next cells[j] (f j):=by
 cases hp with
 |@ref i off' h1=>
  simp only[behind]at hb
  split at hb
  ·rename_i cs ho
   simp only[Option.some.injEq,Prod.mk.injEq]at hb
   obtain⟨rfl,rfl⟩:=hb
   cases hs.ob i _ ho with
   |var c E hbk hn ho1 h=>
    refine⟨η.blk i,0,fun j=>c.getD j undef,by simp,fun j hj=>?_,h⟩
    rw[cell_of_row w _ _ _ _ _ hbk]
    simp[Array.getD,hn,hj]
  ·simp at hb
 |@ep i v k off' b cap sz h1 h2 hh=>
  simp only[behind]at hb
  split at hb
  ·rename_i v' E sz' rows ho
   split at hb
   ·rename_i hv
    subst hv
    cases hk:rows[k]? with
    |none=>simp[hk]at hb
    |some r=>
     simp only[hk,Option.map_some,Option.some.injEq,Prod.mk.injEq]at hb
     obtain⟨rfl,rfl⟩:=hb
     obtain⟨hklt,rfl⟩:=List.getElem?_eq_some_iff.1 hk
     cases hs.ob i _ ho with
     |row xs hv hs' hpos hown hsz ho1 h=>
      obtain⟨cur,hg,hle,hmx,hcs,htk⟩:=J06 hown (b:=b) (by rw[hh])
      have hsz':sz'=sz:=by rw[←hs',hh]
      subst hsz'
      have hlen:(rows[k]).length=sz':=hsz _ (List.getElem_mem hklt)
      have hin:∀j,j<sz'→k*sz'+j<rows.length*sz':=by
       intro j hj
       have:(k+1)*sz'≤rows.length*sz':=Nat.mul_le_mul_right _ hklt
       rw[Nat.add_mul,Nat.one_mul]at this
       omega
      have hmul:rows.length*sz'≤cur.size:=by rw[hcs];exact Nat.mul_le_mul_right _ (by rw[hh]at hle ⊢;exact hle)
      refine⟨b,k*sz',fun j=>xs.getD (k*sz'+j) undef,rfl,fun j hj=>?_,fun j hj=>h k hklt j hj⟩
      rw[cell_of_row w _ _ _ _ _ hg]
      have hj':k*sz'+j<rows.length*sz':=hin j (by omega)
      have:xs[k*sz'+j]? = cur[k*sz'+j]?:=by rw[←htk];simp[List.getElem?_take,hj']
      simp only[List.getD,this]
      rw[Array.getElem?_eq_getElem (by omega)]
      rfl
   ·simp at hb
  ·simp at hb
 |d hd=>
  cases hd with
  |ip cs off' b o c E fz f hbk hc ho hr=>
   simp only[behind,Option.some.injEq,Prod.mk.injEq]at hb
   obtain⟨rfl,rfl⟩:=hb
   refine⟨b,o,f,rfl,fun j hj=>?_,fun j hj=>?_⟩
   ·rw[cell_of_row w _ _ _ _ _ (hf _ _ hbk)];exact hc j (by simpa using hj)
   ·simp only[List.getElem_map];exact .d (hr j (by simpa using hj))
  |_=>simp[behind]at hb
 |_=>simp[behind]at hb
def OpOk (X:Cfg) (F:FH) (η:Et) (σ:St) (w:World) (r:Result Next) (K:AV→St→Prop):Prop:=
 ∃nx v w' F' η' σ' x,r=.ok nx w'∧(nx=.value v∨(nx=.skip∧v=undef))∧Step F η σ w F' η' σ' w'∧GRel X F'∧FRel F' w'∧SRel F' η' σ' w'∧VRel F' η' σ'.next x v∧K x σ'
theorem OpOk.same {X:Cfg} {F:FH} {η:Et} {σ:St} {w:World} {r:Result Next} {K:AV→St→Prop} (hg:GRel X F) (hf:FRel F w) (hs:SRel F η σ w) {v:Value} {x:AV}
  (hr:r=.ok (.value v) w) (hv:VRel F η σ.next x v) (hk:K x σ):OpOk X F η σ w r K:=
 ⟨_,v,w,F,η,σ,x,hr,.inl rfl,.refl _ _ _ _,hg,hf,hs,hv,hk⟩
section ops
variable {X:Cfg} {F:FH} {η:Et} {σ:St} {w:World} {K:AV→St→Prop}
def aload (X:Cfg) (t:TypeId) (p:AV) (σ:St) (K:AV→St→Prop):Prop:=
 ∃ti,X.T t=some ti∧∃co,behind σ p=some co∧∃r,piece (isAggK ti.kind) co.1 co.2 ti.size=some r∧K r σ
theorem J6T (hg:GRel X F) (hf:FRel F w) (hs:SRel F η σ w) {t:TypeId} {p:AV} {vp:Value} (hp:VRel F η σ.next p vp) (h:aload X t p σ K):
  ∃v r,(Instr.loadAt t vp).run X.P w=.ok v w∧VRel F η σ.next r v∧K r σ:=by
 obtain⟨ti,ht,⟨cells,off⟩,hb,r,hr,hk⟩:=h
 obtain⟨d,i,z,hu,hd,hi,hsz,_⟩:=X.ok t ti ht
 obtain⟨b,o,f,rfl,hc,hrel⟩:=J7h hf hs hp hb
 rw[←hsz,←hd]at hr
 obtain⟨v,hv,hvr⟩:=J4o hu hi hc hrel hr
 exact⟨v,r,by simpa[Instr.loadAt,Instr.sureAddr]using hv,hvr,hk⟩
def splice (cells:List AV) (off:Nat) (cs:List AV):List AV:=cells.take off++cs++cells.drop (off+cs.length)
def astore (X:Cfg) (t:TypeId) (p x:AV) (σ:St) (K:AV→St→Prop):Prop:=
 ∃ti,X.T t=some ti∧∃cs,x.cells=some cs∧cs.length=ti.size∧cs.all AV.one=true∧
  match p with
  |.ref i off=>∃cells,σ.obj i=some (.var cells)∧off+ti.size≤cells.length∧K (.d (.s undef)) (σ.set i (.var (splice cells off cs)))
  |.ep i v k off=>∃E sz rows,σ.obj i=some (.row v E sz rows)∧∃r,rows[k]? = some r∧off+ti.size≤r.length∧
    K (.d (.s undef)) (σ.set i (.row v E sz (rows.set k (splice r off cs))))
  |_=>False
theorem JQ {cells cs:List AV} {off:Nat} (h:off+cs.length≤cells.length):(splice cells off cs).length=cells.length:=by
 simp only[splice,List.length_append,List.length_take,List.length_drop];omega
theorem J2q {cells cs:List AV} {off:Nat} (h:off+cs.length≤cells.length) (j:Nat) (hj:j<(splice cells off cs).length):
  (∃(h1:off≤j) (h2:j-off<cs.length),(splice cells off cs)[j]=cs[j-off])∨
  (∃(h1:j<cells.length),(j<off∨off+cs.length≤j)∧(splice cells off cs)[j]=cells[j]):=by
 have hl:=JQ h
 unfold splice at hj ⊢
 by_cases h1:j<off
 ·right
  refine⟨by omega,.inl h1,?_⟩
  rw[List.getElem_append_left (by simp;omega),List.getElem_append_left (by simp;omega)]
  simp
 ·by_cases h2:j<off+cs.length
  ·left
   refine⟨by omega,by omega,?_⟩
   rw[List.getElem_append_left (by simp;omega),List.getElem_append_right (by simp;omega)]
   simp[Nat.min_eq_left (show off≤cells.length by omega)]
  ·right
   have hjc:j<cells.length:=by unfold splice at hl;omega
   refine⟨hjc,.inr (by omega),?_⟩
   rw[List.getElem_append_right (by simp;omega)]
   simp only[List.getElem_drop,List.length_append,List.length_take]
   congr 1
   omega
theorem J0L (cur:Array Value) (o:Nat) (vs:List Value) (h:o+vs.length≤cur.size) (j:Nat):
  ((cur.toList.take o++vs++cur.toList.drop (o+vs.length)).toArray).getD j undef=if o≤j∧j<o+vs.length then vs.getD (j-o) undef else cur.getD j undef:=by
 have e:∀(l:List Value),l.toArray.getD j undef=(l[j]?).getD undef:=by intro l;simp[Array.getD_eq_getD_getElem?]
 have e2:cur.getD j undef=(cur.toList[j]?).getD undef:=by simp[Array.getD_eq_getD_getElem?]
 rw[e,e2]
 by_cases h1:j<o
 ·rw[if_neg (by omega),List.append_assoc,List.getElem?_append_left (by simp;omega)]
  simp[List.getElem?_take,h1]
 ·by_cases h2:j<o+vs.length
  ·rw[if_pos (by omega),List.append_assoc,List.getElem?_append_right (by simp;omega),List.getElem?_append_left (by simp;omega)]
   simp[List.getD,Nat.min_eq_left (show o≤cur.size by omega)]
  ·rw[if_neg (by omega),List.getElem?_append_right (by simp;omega)]
   simp only[List.getElem?_drop,List.length_append,List.length_take,Array.length_toList]
   congr 2
   omega
theorem J1S {vs:List Value} (h:∀v∈vs,v.oneCell'=true) {j:Nat} (hj:j<vs.length):(vs.getD j undef).oneCell'=true:=by
 simp only[List.getD,List.getElem?_eq_getElem hj,Option.getD_some]
 exact h _ (List.getElem_mem hj)
theorem J8G (hg:GRel X F) (hf:FRel F w) (hs:SRel F η σ w) {t:TypeId} {p x:AV} {vp vx:Value} (hp:VRel F η σ.next p vp) (hx:VRel F η σ.next x vx)
  (h:astore X t p x σ K):∃w' σ',(Instr.storeAt t vp vx).run X.P w=.ok () w'∧Step F η σ w F η σ' w'∧FRel F w'∧SRel F η σ' w'∧K (.d (.s undef)) σ':=by
 obtain⟨ti,ht,cs,hcs,hlen,hone,hm⟩:=h
 obtain⟨d0,i0,z,hu,_,hi,hsz,_⟩:=X.ok t ti ht
 obtain⟨hcn,hcr⟩:=J25 hx hcs
 have hsize:vx.cells.size=ti.size:=hcn.trans hlen
 have hvl:vx.cells.toList.length=cs.length:=by simp[hcn]
 have hv1:∀v∈vx.cells.toList,v.oneCell'=true:=by
  intro v hv
  obtain⟨j,hj,rfl⟩:=List.mem_iff_getElem.1 hv
  have hj':j<cs.length:=by omega
  have:=J3P (hcr j hj') (List.all_eq_true.1 hone _ (List.getElem_mem hj'))
  simpa[Array.getD,show j<vx.cells.size by omega]using this
 have hgetD:∀j,vx.cells.toList.getD j undef=vx.cells.getD j undef:=fun j=>by simp[List.getD,Array.getD_eq_getD_getElem?]
 have hrun:∀b o cur E,w.heap[b]? = some (.cells cur E (0,0))→o+cs.length≤cur.size→
   (storeVar t ⟨b,o,none⟩ vx).run X.P w=.ok () (w.setRow b (cur.toList.take o++vx.cells.toList++cur.toList.drop (o+vx.cells.toList.length)).toArray):=by
  intro b o cur E hb hle
  have:=run_storeCells_at X.P b o E vx.cells.toList 0 cur w hb (by simpa[hcn]using hle) hv1
  simp only[Nat.add_zero]at this
  simp[storeVar,JN hi,hsz,hsize,this]
 cases p with
 |ref i off=>
  obtain⟨cells,ho,hle,hk⟩:=hm
  cases hp with
  |ref h1=>
   have hor:=hs.ob i _ ho
   cases hor with
   |var c E hbk hn ho1 hr=>
    have hfit:off+cs.length≤c.size:=by omega
    have hfit':off+vx.cells.toList.length≤c.size:=by omega
    obtain⟨s1,s2,s3⟩:=J2i (o:=.var (splice cells off cs)) hf hs ho rfl rfl _
     (.var (c.toList.take off++vx.cells.toList++c.toList.drop (off+vx.cells.toList.length)).toArray E (setRow_heap w _ _ _ _ _ hbk)
      (by rw[JQ (by omega)];simp[hcn];omega)
      (fun j hj=>by
       rw[J0L c off _ hfit']
       split
       ·rename_i hc;exact J1S hv1 (by omega)
       ·exact ho1 j (by rw[JQ (by omega)]at hj;exact hj))
      (fun j hj=>by
       rw[J0L c off _ hfit']
       rcases J2q (show off+cs.length≤cells.length by omega) j hj with⟨h1,h2,e⟩|⟨h1,h2,e⟩
       ·rw[if_pos (by omega),e,hgetD];exact hcr _ h2
       ·rw[if_neg (by omega),e];exact hr j h1))
    exact⟨_,_,by simp only[Instr.storeAt,Instr.sureAddr,Sem.run_bind,Sem.run_pure,Result.andThen_ok];exact hrun _ off c E hbk hfit,s1,s2,s3,hk⟩
 |ep i v k off=>
  obtain⟨E,sz,rows,ho,r,hrk,hle,hk⟩:=hm
  cases hp with
  |@ep _ _ _ _ b cap sz' h1 h2 hh=>
   have hor:=hs.ob i _ ho
   cases hor with
   |row xs hv hs' hpos hown hsz1 ho1 hrr=>
    obtain⟨cur,hgb,hle2,hmx,hcs2,htk⟩:=J06 hown (b:=b) (by rw[hh])
    have hszz:sz'=sz:=by rw[←hs',hh]
    subst hszz
    obtain⟨hklt,rfl⟩:=List.getElem?_eq_some_iff.1 hrk
    have hrl:(rows[k]).length=sz':=hsz1 _ (List.getElem_mem hklt)
    have hmul:rows.length*sz'≤cur.size:=by rw[hcs2];exact Nat.mul_le_mul_right _ hle2
    have hk1:(k+1)*sz'≤rows.length*sz':=Nat.mul_le_mul_right _ hklt
    rw[Nat.add_mul,Nat.one_mul]at hk1
    have hfit:k*sz'+off+cs.length≤cur.size:=by omega
    have hfit':k*sz'+off+vx.cells.toList.length≤cur.size:=by omega
    have hxl:xs.length=rows.length*sz':=hown.1
    have hxg:∀j,j<rows.length*sz'→xs.getD j undef=cur.getD j undef:=by
     intro j hj
     rw[←htk]
     simp[List.getD,Array.getD_eq_getD_getElem?,List.getElem?_take,hj]
    let new:=(cur.toList.take (k*sz'+off)++vx.cells.toList++cur.toList.drop (k*sz'+off+vx.cells.toList.length)).toArray
    have hnewsz:new.size=cur.size:=by simp[new];omega
    have hnewg:∀j,j<rows.length*sz'→(new.toList.take (rows.length*sz')).getD j undef=new.getD j undef:=by
     intro j hj
     simp[List.getD,Array.getD_eq_getD_getElem?,List.getElem?_take,hj]
    have hdis:∀a j,j<sz'→a≠k→¬(k*sz'+off≤a*sz'+j∧a*sz'+j<k*sz'+off+vx.cells.toList.length):=by
     intro a j hj hak hh2
     rcases Nat.lt_or_gt_of_ne hak with hlt|hgt
     ·have:(a+1)*sz'≤k*sz':=Nat.mul_le_mul_right _ hlt
      rw[Nat.add_mul,Nat.one_mul]at this
      omega
     ·have:(k+1)*sz'≤a*sz':=Nat.mul_le_mul_right _ hgt
      rw[Nat.add_mul,Nat.one_mul]at this
      omega
    obtain⟨s1,s2,s3⟩:=J2i (b:=b) (o:=.row v E sz' (rows.set k (splice rows[k] off cs))) hf hs ho (by simp[Owns,own,hh]) (by simp[Owns,own,hh]) new
     (.row (new.toList.take (rows.length*sz')) hv hs' hpos
      (by
       simp only[List.length_set]
       refine⟨by simp only[List.length_take,Array.length_toList];omega,.inr ⟨b,cap,new,?_,Nat.zero_le _,setRow_heap w _ _ _ _ _ hgb,?_,?_,?_,rfl⟩⟩
       ·simp[Hd.val,hh]
       ·simpa[hh]using hle2
       ·simpa[hh]using hmx
       ·rw[hnewsz];simpa[hh]using hcs2)
      (fun r hr=>by
       rcases List.mem_or_eq_of_mem_set hr with hm|rfl
       ·exact hsz1 r hm
       ·rw[JQ (by omega)];exact hrl)
      (fun u hu=>by
       obtain⟨j,hj,rfl⟩:=List.mem_iff_getElem.1 hu
       have hj2:j<rows.length*sz':=by simp only[List.length_take]at hj;omega
       have:=hnewg j hj2
       rw[J0L cur _ _ hfit']at this
       simp only[List.getD,List.getElem?_eq_getElem hj,Option.getD_some]at this
       rw[this]
       split
       ·exact J1S hv1 (by omega)
       ·rw[←hxg j hj2];exact J1S ho1 (by omega))
      (fun a ha j hj=>by
       have ha':a<rows.length:=by simpa using ha
       have hjl:j<sz':=by
        rw[List.getElem_set]at hj
        split at hj
        ·rw[JQ (by omega)]at hj;omega
        ·rw[hsz1 _ (List.getElem_mem ha')]at hj;exact hj
       have hin:a*sz'+j<rows.length*sz':=by
        have:(a+1)*sz'≤rows.length*sz':=Nat.mul_le_mul_right _ ha'
        rw[Nat.add_mul,Nat.one_mul]at this
        omega
       rw[hnewg _ hin,J0L cur _ _ hfit']
       by_cases hak:a=k
       ·subst hak
        have e1:(rows.set a (splice rows[a] off cs))[a]'ha=splice rows[a] off cs:=by simp
        have hj':j<(splice rows[a] off cs).length:=by rw[JQ (by omega)];omega
        have e2:((rows.set a (splice rows[a] off cs))[a]'ha)[j]'hj=(splice rows[a] off cs)[j]'hj':=by simp only[e1]
        rw[e2]
        rcases J2q (show off+cs.length≤(rows[a]).length by omega) j hj' with⟨h1,h2,e⟩|⟨h1,h2,e⟩
        ·rw[if_pos (by omega),e,hgetD,show a*sz'+j-(a*sz'+off)=j-off by omega];exact hcr _ h2
        ·rw[if_neg (by omega),e,←hxg _ hin];exact hrr a ha' j h1
       ·rw[if_neg (hdis a j hjl hak),←hxg _ hin]
        have e1:(rows.set k (splice rows[k] off cs))[a]'ha=rows[a]:=by rw[List.getElem_set];simp[Ne.symm hak]
        have e2:((rows.set k (splice rows[k] off cs))[a]'ha)[j]'hj=(rows[a])[j]'(by rw[hsz1 _ (List.getElem_mem ha')];exact hjl):=by simp only[e1]
        rw[e2]
        exact hrr a ha' j _))
    exact⟨_,_,by simp only[Instr.storeAt,Instr.sureAddr,Sem.run_bind,Sem.run_pure,Result.andThen_ok];exact hrun _ _ cur E hgb hfit,s1,s2,s3,hk⟩
 |_=>exact hm.elim
end ops
end Go.Pm
/- Part of the proof: Pm4. -/
namespace Go.Pm
def VOk (X:Cfg) (F:FH) (η:Et) (σ:St) (w:World) (r:Result Value) (K:AV→St→Prop):Prop:=
 ∃v w' F' η' σ' x,r=.ok v w'∧Step F η σ w F' η' σ' w'∧GRel X F'∧FRel F' w'∧SRel F' η' σ' w'∧VRel F' η' σ'.next x v∧K x σ'
section ops
variable {X:Cfg} {F:FH} {η:Et} {σ:St} {w:World} {K:AV→St→Prop}
theorem VOk.same (hg:GRel X F) (hf:FRel F w) (hs:SRel F η σ w) {r:Result Value} {v:Value} {x:AV} (hr:r=.ok v w) (hv:VRel F η σ.next x v) (hk:K x σ):VOk X F η σ w r K:=
 ⟨v,w,F,η,σ,x,hr,.refl _ _ _ _,hg,hf,hs,hv,hk⟩
theorem VOk.op {s:Sem Value} (h:VOk X F η σ w (s.run X.P w) K):OpOk X F η σ w ((do pure (Next.value (←s)):Sem Next).run X.P w) K:=by
 obtain⟨v,w',F',η',σ',x,hr,h1,h2,h3,h4,h5,h6⟩:=h
 exact⟨_,v,w',F',η',σ',x,by simp[hr],.inl rfl,h1,h2,h3,h4,h5,h6⟩
def zrow (ti:TI):List AV:=ti.zero.map fun v=>.d (.s v)
theorem J30 {ti:TI} (j:Nat) (hj:j<(zrow ti).length):VRel F η σ.next (zrow ti)[j] (ti.zero.toArray.getD j undef):=by
 have hj':j<ti.zero.length:=by simpa[zrow]using hj
 simp only[zrow,List.getElem_map,Array.getD,List.size_toArray,hj',dif_pos,Array.getInternal_eq_getElem,List.getElem_toArray]
 exact .d (.s _)
theorem J4i {ti:TI} (h:ti.zero.all (·.oneCell')=true) (j:Nat) (hj:j<ti.zero.length):(ti.zero.toArray.getD j undef).oneCell'=true:=by
 simp only[Array.getD,List.size_toArray,hj,dif_pos,Array.getInternal_eq_getElem,List.getElem_toArray]
 exact List.all_eq_true.1 h _ (List.getElem_mem hj)
def aalloc (X:Cfg) (E:TypeId) (σ:St) (K:AV→St→Prop):Prop:=
 ∃ti,X.T E=some ti∧K (.ref σ.next 0) (σ.alloc (.var (zrow ti)))
theorem J8T (hg:GRel X F) (hf:FRel F w) (hs:SRel F η σ w) {E:TypeId} (h:aalloc X E σ K):VOk X F η σ w ((Instr.alloc E true (.tuple #[])).run X.P w) K:=by
 obtain⟨ti,ht,hk⟩:=h
 obtain⟨d,i,z,hu,hd,hi,hsz,hby,hz,hzc,hzl,hz1,hzn,hza⟩:=X.ok E ti ht
 obtain⟨η',s1,s2,s3,hb⟩:=J85 hf hs (zrow ti) z.cells E (by simp[hzc,zrow]) (fun j hj=>by rw[hzc];exact J4i hz1 j (by simpa[zrow]using hj))
  (fun j hj=>by rw[hzc];exact J30 j hj)
 refine⟨.pointer (some ⟨w.heap.size,0,none⟩),_,F,η',_,.ref σ.next 0,?_,s1,hg,s2,s3,?_,hk⟩
 ·simp[Instr.alloc,zeroValue,typeInfo,hi,hz,newVar,newRow]
 ·rw[←hb];exact .ref (Nat.lt_succ_self _)
def abox (x:AV) (σ:St) (K:AV→St→Prop):Prop:=
 ∃cs,x.cells=some cs∧cs.all AV.one=true∧K (.ref σ.next 0) (σ.alloc (.var cs))
theorem JaP (hg:GRel X F) (hf:FRel F w) (hs:SRel F η σ w) {E:TypeId} {x:AV} {v:Value} (hx:VRel F η σ.next x v) (h:abox x σ K):
  VOk X F η σ w ((Instr.box E v).run X.P w) K:=by
 obtain⟨cs,hc,h1,hk⟩:=h
 obtain⟨hn,hr⟩:=J25 hx hc
 obtain⟨η',s1,s2,s3,hb⟩:=J85 hf hs cs v.cells E hn (fun j hj=>J3P (hr j hj) (List.all_eq_true.1 h1 _ (List.getElem_mem hj))) hr
 refine⟨.pointer (some ⟨w.heap.size,0,none⟩),_,F,η',_,.ref σ.next 0,?_,s1,hg,s2,s3,?_,hk⟩
 ·simp[Instr.box,newVar,newRow]
 ·rw[←hb];exact .ref (Nat.lt_succ_self _)
theorem J4D (off:Nat):∀(l:List Value) (k:Nat) (cells:Array Value),off+k+l.length≤cells.size→
  ((l.zipIdx k).foldl (fun cs (p:Value×Nat)=>cs.setIfInBounds (off+p.2) p.1) cells).size=cells.size∧
  ∀j,((l.zipIdx k).foldl (fun cs (p:Value×Nat)=>cs.setIfInBounds (off+p.2) p.1) cells).getD j undef=if off+k≤j∧j<off+k+l.length then l.getD (j-(off+k)) undef else cells.getD j undef
 |[],k,cells,_=>by simp;intro j h;omega
 |v::l,k,cells,h=>by
  simp only[List.zipIdx_cons,List.foldl_cons,List.length_cons]at h ⊢
  have ih:=J4D off l (k+1) (cells.setIfInBounds (off+k) v) (by simp;omega)
  refine⟨by rw[ih.1];simp,fun j=>?_⟩
  rw[ih.2 j]
  by_cases h1:off+(k+1)≤j∧j<off+(k+1)+l.length
  ·rw[if_pos h1,if_pos (by omega),show j-(off+k)=(j-(off+(k+1)))+1 by omega]
   simp
  ·rw[if_neg h1]
   by_cases h2:j=off+k
   ·subst h2
    rw[if_pos (by omega)]
    simp[Array.getD,show off+k<cells.size by omega]
   ·rw[if_neg (by omega)]
    simp only[Array.getD_eq_getD_getElem?,Array.getElem?_setIfInBounds]
    rw[if_neg (by omega)]
def fillA (place:Nat→Option (Nat×Nat)):List AV→List (Nat×AV)→Option (List AV)
 |cells,[]=>some cells
 |cells,(i,x)::rest=>
  match place i,x.cells with
  |some (off,size),some cs=>if cs.length=size∧off+size≤cells.length∧cs.all AV.one=true then fillA place (splice cells off cs) rest else none
  |_,_=>none
theorem J3U {place:Nat→Option (Nat×Nat)} {n:Nat}:∀(parts:List (Nat×AV)) (vals:List (Nat×Value)) (cells:List AV) (cur:Array Value) (out:List AV),
  vals.length=parts.length→(∀k (h:k<parts.length) (h':k<vals.length),(vals[k]).1=(parts[k]).1∧VRel F η n (parts[k]).2 (vals[k]).2)→
  cur.size=cells.length→(∀j,j<cells.length→(cur.getD j undef).oneCell'=true)→(∀j (h:j<cells.length),VRel F η n cells[j] (cur.getD j undef))→fillA place cells parts=some out→
  ∃c,Instr.fill place cur vals=some c∧c.size=out.length∧out.length=cells.length∧(∀j,j<out.length→(c.getD j undef).oneCell'=true)∧∀j (h:j<out.length),VRel F η n out[j] (c.getD j undef)
 |[],vals,cells,cur,out,hl,_,hn,h1,hr,hf=>by
  have:vals=[]:=List.eq_nil_of_length_eq_zero (by simpa using hl)
  subst this
  simp only[fillA,Option.some.injEq]at hf
  subst hf
  exact⟨cur,rfl,hn,rfl,h1,hr⟩
 |(i,x)::parts,[],cells,cur,out,hl,_,_,_,_,_=>by simp at hl
 |(i,x)::parts,(i',v)::vals,cells,cur,out,hl,hp,hn,h1,hr,hf=>by
  have h0:=hp 0 (by simp) (by simp)
  simp only[List.getElem_cons_zero]at h0
  obtain⟨rfl,hxv⟩:=h0
  simp only[fillA]at hf
  split at hf
  ·rename_i off size cs hpl hcs
   split at hf
   ·rename_i hc
    obtain⟨hc1,hc2,hc3⟩:=hc
    obtain⟨hcn,hcr⟩:=J25 hxv hcs
    have hsize:v.cells.size=size:=by omega
    obtain⟨hfs,hfg⟩:=J4D off v.cells.toList 0 cur (by simp;omega)
    have hcs':off+cs.length≤cells.length:=by omega
    have hvl:v.cells.toList.length=cs.length:=by simp[hcn]
    have hgd:∀j,v.cells.toList.getD j undef=v.cells.getD j undef:=fun j=>by simp[List.getD,Array.getD_eq_getD_getElem?]
    obtain⟨c,e1,e2,e3,e4,e5⟩:=J3U parts vals (splice cells off cs) _ out (by simpa using hl)
     (fun k h h'=>by have:=hp (k+1) (by simp;omega) (by simp;omega);simpa using this)
     (by rw[hfs,JQ hcs'];exact hn)
     (fun j hj=>by
      rw[JQ hcs']at hj
      rw[hfg j]
      split
      ·rename_i hjj
       rw[hgd]
       exact J3P (hcr (j-(off+0)) (by omega)) (List.all_eq_true.1 hc3 _ (List.getElem_mem (by omega)))
      ·exact h1 j hj)
     (fun j hj=>by
      rw[hfg j]
      rcases J2q hcs' j hj with⟨g1,g2,e⟩|⟨g1,g2,e⟩
      ·rw[if_pos (by omega),e,hgd];exact hcr _ g2
      ·rw[if_neg (by omega),e];exact hr j g1)
     hf
    refine⟨c,?_,e2,by rw[e3,JQ hcs'],e4,e5⟩
    simp only[Instr.fill,hpl]
    rw[if_neg (by simp;omega)]
    rw[←e1]
    congr 1
    rw[←Array.foldl_toList,Array.toList_zipIdx]
   ·simp at hf
  ·simp at hf
def places (X:Cfg) (fs:List (Nat×TypeId)) (i:Nat):Option (Nat×Nat):=
 match fs[i]? with
 |some f=>match X.T f.2 with|some ti=>some (f.1,ti.size)|none=>none
 |none=>none
def abuild (X:Cfg) (t:TypeId) (parts:List (Nat×AV)) (σ:St) (K:AV→St→Prop):Prop:=
 ∃ti,X.T t=some ti∧
  match ti.kind with
  |.struct fs=>∃cs,fillA (places X fs) (zrow ti) parts=some cs∧K (.agg cs) σ
  |.array n e=>∃te,X.T e=some te∧∃cs,fillA (fun i=>some (i*te.size,te.size)) (zrow ti) parts=some cs∧K (.agg cs) σ
  |_=>False
theorem J1N {d:TypeDesc} {fs:List (Nat×TypeId)} (h:kindOf d=.struct fs):∃a,d=.struct a∧fs=a.toList.map fun f=>(f.offset,f.type):=by
 cases d<;>simp[kindOf]at h
 exact⟨_,rfl,h.symm⟩
theorem J4B {d:TypeDesc} {n e:Nat} (h:kindOf d=.array n e):d=.array n e:=by
 cases d<;>simp[kindOf]at h
 simp[h]
theorem JO {d:TypeDesc} {e:Nat} (h:kindOf d=.slice e):d=.slice e:=by
 cases d<;>simp[kindOf]at h
 simp[h]
theorem J2Q {d:TypeDesc} {k e:Nat} (h:kindOf d=.map k e):d=.map k e:=by
 cases d<;>simp[kindOf]at h
 simp[h]
theorem JW {d:TypeDesc} (h:kindOf d=.string):d=.string:=by
 cases d<;>simp[kindOf]at h
 rfl
theorem J1Y {d:TypeDesc} {k:IntKind} (h:kindOf d=.int k):d=.int k:=by
 cases d<;>simp[kindOf]at h
 simp[h]
theorem J29 {d:TypeDesc} (h:kindOf d=.bool):d=.bool:=by
 cases d<;>simp[kindOf]at h
 rfl
theorem J2z {d:TypeDesc} {e:Nat} (h:kindOf d=.ptr e):d=.pointer e:=by
 cases d<;>simp[kindOf]at h
 simp[h]
theorem J4X (fs:List Field) (h:∀f∈fs,(X.T f.type).isSome=true):
  ∃pl,fs.mapM (fun f=>(X.P.info? f.type).map fun i=>(f.offset,i.size))=some pl∧∀i,pl[i]? = places X (fs.map fun f=>(f.offset,f.type)) i:=by
 induction fs with
 |nil=>exact⟨[],rfl,fun i=>by simp[places]⟩
 |cons f fs ih=>
  obtain⟨pl,e1,e2⟩:=ih fun g hg=>h g (by simp[hg])
  obtain⟨ti,ht⟩:=Option.isSome_iff_exists.1 (h f (by simp))
  obtain⟨d,i,z,hu,hd,hi,hsz,_⟩:=X.ok f.type ti ht
  refine⟨(f.offset,ti.size)::pl,by simp[List.mapM_cons,hi,hsz,e1],fun k=>?_⟩
  cases k with
  |zero=>simp[places,ht]
  |succ k=>simpa[places]using e2 k
theorem J8n (hg:GRel X F) (hf:FRel F w) (hs:SRel F η σ w) {t:TypeId} {parts:List (Nat×AV)} {vals:Array (Nat×Value)}
  (hn:vals.toList.length=parts.length) (hv:∀k (h:k<parts.length) (h':k<vals.toList.length),(vals.toList[k]).1=(parts[k]).1∧VRel F η σ.next (parts[k]).2 (vals.toList[k]).2)
  (h:abuild X t parts σ K):VOk X F η σ w ((Instr.build t vals).run X.P w) K:=by
 obtain⟨ti,ht,hm⟩:=h
 obtain⟨d,i,z,hu,hd,hi,hsz,hby,hz,hzc,hzl,hz1,hzn,hza⟩:=X.ok t ti ht
 have hz0:z.cells.size=(zrow ti).length:=by simp[hzc,zrow]
 have hz2:∀j,j<(zrow ti).length→(z.cells.getD j undef).oneCell'=true:=fun j hj=>by rw[hzc];exact J4i hz1 j (by simpa[zrow]using hj)
 have hz3:∀j (h:j<(zrow ti).length),VRel F η σ.next (zrow ti)[j] (z.cells.getD j undef):=fun j hj=>by rw[hzc];exact J30 j hj
 split at hm
 ·rename_i fs hkd
  rw[hkd]at hd
  obtain⟨a,rfl,rfl⟩:=J1N hd
  obtain⟨cs,hcs,hk⟩:=hm
  obtain⟨pl,e1,e2⟩:=J4X (X:=X) a.toList fun f hf=>X.cl t ti _ ht hkd (f.offset,f.type) (List.mem_map.2 ⟨f,hf,rfl⟩)
  obtain⟨c,f1,f2,f3,f4,f5⟩:=J3U parts vals.toList (zrow ti) z.cells cs hn hv hz0 hz2 hz3 hcs
  have hb:X.P.built t vals.toList=some c:=by
   simp only[Program.built,hi,hu,hz,e1]
   rw[←f1]
   congr 1
   funext k
   simpa using e2 k
  exact VOk.same hg hf hs (run_build w t vals c hb) (.agg f2 f5) hk
 ·rename_i n e hkd
  rw[hkd]at hd
  have:=J4B hd
  subst this
  obtain⟨te,hte,cs,hcs,hk⟩:=hm
  obtain⟨d',i',z',hu',hd',hi',hsz',_⟩:=X.ok e te hte
  obtain⟨c,f1,f2,f3,f4,f5⟩:=J3U parts vals.toList (zrow ti) z.cells cs hn hv hz0 hz2 hz3 hcs
  have hb:X.P.built t vals.toList=some c:=by
   simp only[Program.built,hi,hu,hz,hi',hsz',f1]
  exact VOk.same hg hf hs (run_build w t vals c hb) (.agg f2 f5) hk
 ·exact hm.elim
def fillRows (sz:Nat):List (List AV)→List (Nat×AV)→Option (List (List AV))
 |rows,[]=>some rows
 |rows,(i,x)::rest=>
  match x.cells with
  |some cs=>if cs.length=sz∧i<rows.length∧cs.all AV.one=true then fillRows sz (rows.set i cs) rest else none
  |none=>none
theorem J0F {k n sz j:Nat} (hk:k<n) (hj:j<sz):k*sz+j<n*sz:=by
 have:(k+1)*sz≤n*sz:=Nat.mul_le_mul_right _ hk
 rw[Nat.add_mul,Nat.one_mul]at this
 omega
theorem Jc5 {a k sz j m:Nat} (hj:j<sz) (hm:m<sz) (hak:a≠k):a*sz+j≠k*sz+m:=by
 intro h
 rcases Nat.lt_or_gt_of_ne hak with hlt|hgt
 ·have:(a+1)*sz≤k*sz:=Nat.mul_le_mul_right _ hlt
  rw[Nat.add_mul,Nat.one_mul]at this
  omega
 ·have:(k+1)*sz≤a*sz:=Nat.mul_le_mul_right _ hgt
  rw[Nat.add_mul,Nat.one_mul]at this
  omega
structure Laid (F:FH) (η:Et) (n sz:Nat) (rows:List (List AV)) (c:Array Value):Prop where
 size:rows.length*sz≤c.size
 len:∀r∈rows,r.length=sz
 one:∀j,j<rows.length*sz→(c.getD j undef).oneCell'=true
 rel:∀k (hk:k<rows.length) j (hj:j<(rows[k]).length),VRel F η n ((rows[k])[j]) (c.getD (k*sz+j) undef)
theorem J2G {n sz:Nat}:∀(parts:List (Nat×AV)) (vals:List (Nat×Value)) (rows:List (List AV)) (cur:Array Value) (out:List (List AV)),
  vals.length=parts.length→(∀k (h:k<parts.length) (h':k<vals.length),(vals[k]).1=(parts[k]).1∧VRel F η n (parts[k]).2 (vals[k]).2)→
  cur.size=rows.length*sz→Laid F η n sz rows cur→fillRows sz rows parts=some out→
  ∃c,Instr.fill (fun i=>some (i*sz,sz)) cur vals=some c∧c.size=cur.size∧out.length=rows.length∧Laid F η n sz out c
 |[],vals,rows,cur,out,hl,_,hn,hL,hf=>by
  have:vals=[]:=List.eq_nil_of_length_eq_zero (by simpa using hl)
  subst this
  simp only[fillRows,Option.some.injEq]at hf
  subst hf
  exact⟨cur,rfl,rfl,rfl,hL⟩
 |(i,x)::parts,[],rows,cur,out,hl,_,_,_,_=>by simp at hl
 |(i,x)::parts,(i',v)::vals,rows,cur,out,hl,hp,hn,hL,hf=>by
  have h0:=hp 0 (by simp) (by simp)
  simp only[List.getElem_cons_zero]at h0
  obtain⟨rfl,hxv⟩:=h0
  simp only[fillRows]at hf
  split at hf
  ·rename_i cs hcs
   split at hf
   ·rename_i hc
    obtain⟨hc1,hc2,hc3⟩:=hc
    obtain⟨hcn,hcr⟩:=J25 hxv hcs
    have hfit:i'*sz+sz≤cur.size:=by
     have:(i'+1)*sz≤rows.length*sz:=Nat.mul_le_mul_right _ hc2
     rw[Nat.add_mul,Nat.one_mul]at this
     omega
    obtain⟨hfs,hfg⟩:=J4D (i'*sz) v.cells.toList 0 cur (by simp;omega)
    have hgd:∀j,v.cells.toList.getD j undef=v.cells.getD j undef:=fun j=>by simp[List.getD,Array.getD_eq_getD_getElem?]
    have hvl:v.cells.toList.length=sz:=by simp[hcn];omega
    have hL':Laid F η n sz (rows.set i' cs) (((v.cells.toList.zipIdx 0).foldl (fun cs (p:Value×Nat)=>cs.setIfInBounds (i'*sz+p.2) p.1) cur)):=by
     refine⟨by rw[hfs,hn];simp,fun r hr=>?_,fun j hj=>?_,fun k hk j hj=>?_⟩
     ·rcases List.mem_or_eq_of_mem_set hr with hm|rfl
      ·exact hL.len r hm
      ·exact hc1
     ·rw[List.length_set]at hj
      rw[hfg j]
      split
      ·rename_i hjj
       rw[hgd]
       exact J3P (hcr (j-(i'*sz+0)) (by omega)) (List.all_eq_true.1 hc3 _ (List.getElem_mem (by omega)))
      ·exact hL.one j hj
     ·have hk':k<rows.length:=by simpa using hk
      rw[hfg]
      by_cases hki:k=i'
      ·subst hki
       have e1:(rows.set k cs)[k]'hk=cs:=by simp
       have hj':j<cs.length:=by rw[e1]at hj;exact hj
       have e2:((rows.set k cs)[k]'hk)[j]'hj=cs[j]'hj':=by simp only[e1]
       rw[e2,if_pos (by omega),hgd,show k*sz+j-(k*sz+0)=j by omega]
       exact hcr j hj'
      ·have e1:(rows.set i' cs)[k]'hk=rows[k]:=by rw[List.getElem_set];simp[Ne.symm hki]
       have hj':j<(rows[k]).length:=by rw[e1]at hj;exact hj
       have e2:((rows.set i' cs)[k]'hk)[j]'hj=(rows[k])[j]'hj':=by simp only[e1]
       have hjs:j<sz:=by rw[←hL.len _ (List.getElem_mem hk')];exact hj'
       rw[e2,if_neg ?_]
       ·exact hL.rel k hk' j hj'
       ·intro hh
        have:=Jc5 hjs (show k*sz+j-i'*sz<sz by omega) hki
        omega
    obtain⟨c,e1,e2,e3,e4⟩:=J2G parts vals (rows.set i' cs) _ out (by simpa using hl)
     (fun k h h'=>by have:=hp (k+1) (by simp;omega) (by simp;omega);simpa using this)
     (by rw[hfs,hn];simp) hL' hf
    refine⟨c,?_,by rw[e2,hfs],by rw[e3];simp,e4⟩
    simp only[Instr.fill]
    rw[if_neg (by simp;omega),←e1]
    congr 1
    rw[←Array.foldl_toList,Array.toList_zipIdx]
   ·simp at hf
  ·simp at hf
theorem J5A {ti:TI} (hz1:ti.zero.all (·.oneCell')=true) (hzl:ti.zero.length=ti.size) (hp:0<ti.size) (n len:Nat) {c:Array Value}
  (hc:∀j,j<len*ti.size→c.getD j undef=ti.zero.toArray.getD (j % ti.size) undef) (hs:len*ti.size≤c.size):
  Laid F η n ti.size (List.replicate len (zrow ti)) c:=by
 refine⟨by simpa using hs,fun r hr=>?_,fun j hj=>?_,fun k hk j hj=>?_⟩
 ·rw[(List.mem_replicate.1 hr).2];simp[zrow,hzl]
 ·simp only[List.length_replicate]at hj
  rw[hc j hj]
  exact J4i hz1 _ (by rw[hzl];exact Nat.mod_lt _ hp)
 ·simp only[List.length_replicate]at hk
  simp only[List.getElem_replicate]at hj ⊢
  have hjs:j<ti.size:=by simpa[zrow,hzl]using hj
  rw[hc _ (J0F hk hjs),Nat.add_comm,Nat.add_mul_mod_self_right,Nat.mod_eq_of_lt hjs]
  exact J30 (σ:=⟨fun _=>none,n⟩) j hj
theorem J4H (hf:FRel F w) (hs:SRel F η σ w) (E sz:Nat) (rows:List (List AV)) (c:Array Value) (cap:Nat)
  (hp:0<sz) (hcap:cap≤maxLen) (hc:c.size=cap*sz) (hle:rows.length≤cap) (hL:Laid F η σ.next sz rows c):
  ∃η',Step F η σ w F η' (σ.alloc (.row σ.next E sz rows)) (w.alloc (.cells c E))∧FRel F (w.alloc (.cells c E))∧SRel F η' (σ.alloc (.row σ.next E sz rows)) (w.alloc (.cells c E))∧
   η'.hdr σ.next=⟨some w.heap.size,cap,sz⟩:=
 JaW hf hs E sz rows c cap hp hcap hc hle hL.len hL.one hL.rel
def abuildSlice (X:Cfg) (t:TypeId) (len:Nat) (parts:List (Nat×AV)) (σ:St) (K:AV→St→Prop):Prop:=
 ∃ti,X.T t=some ti∧∃e te,ti.kind=.slice e∧X.T e=some te∧0<te.size∧len*te.size≤16777216∧
  ∃rows,fillRows te.size (List.replicate len (zrow te)) parts=some rows∧K (.sl σ.next σ.next 0 len) (σ.alloc (.row σ.next e te.size rows))
theorem J86 {z:Array Value} (hp:0<z.size) (j m:Nat) (hj:j<m):((Array.range m).map (z[· % z.size]!)).getD j undef=z.getD (j % z.size) undef:=by
 have h1:j % z.size<z.size:=Nat.mod_lt _ hp
 simp[Array.getD,hj,h1]
theorem J47 (hg:GRel X F) (hf:FRel F w) (hs:SRel F η σ w) {t:TypeId} {len:Nat} {parts:List (Nat×AV)} {vals:Array (Nat×Value)}
  (hn:vals.toList.length=parts.length) (hv:∀k (h:k<parts.length) (h':k<vals.toList.length),(vals.toList[k]).1=(parts[k]).1∧VRel F η σ.next (parts[k]).2 (vals.toList[k]).2)
  (h:abuildSlice X t len parts σ K):VOk X F η σ w ((Instr.buildSlice t len vals).run X.P w) K:=by
 obtain⟨ti,ht,e,te,hkd,hte,hp,hlim,rows,hrows,hk⟩:=h
 obtain⟨d,i,z,hu,hd,hi,hsz,_⟩:=X.ok t ti ht
 obtain⟨d',i',z',hu',hd',hi',hsz',hby',hz',hzc',hzl',hz1',_⟩:=X.ok e te hte
 rw[hkd]at hd
 have hsl:=JO hd
 subst hsl
 have hzs:z'.cells.size=te.size:=by simp[hzc',hzl']
 let zero:Array Value:=if len*te.size=0 then #[]else z'.cells
 let c0:=(Array.range (len*te.size)).map (zero[· % zero.size]!)
 have hc0s:c0.size=len*te.size:=by simp[c0]
 have hL0:Laid F η σ.next te.size (List.replicate len (zrow te)) c0:=by
  refine J5A hz1' hzl' hp σ.next len (fun j hj=>?_) (Nat.le_of_eq hc0s.symm)
  have hne:len*te.size≠0:=by omega
  have hzz:zero=z'.cells:=if_neg hne
  simp only[c0,hzz]
  rw[J86 (by omega) j _ hj,hzs,hzc']
 obtain⟨c,e1,e2,e3,e4⟩:=J2G parts vals.toList _ c0 rows hn hv (by rw[hc0s];simp) hL0 hrows
 have hrl:rows.length=len:=by rw[e3];simp
 have hmx:len≤maxLen:=by
  have:len≤len*te.size:=Nat.le_mul_of_pos_right _ hp
  unfold maxLen;omega
 obtain⟨η',s1,s2,s3,hh⟩:=J4H hf hs e te.size rows c len hp hmx (by rw[e2,hc0s]) (by omega) e4
 refine⟨.slice (some ⟨w.heap.size,0,none⟩) len len,_,F,η',_,.sl σ.next σ.next 0 len,?_,s1,hg,s2,s3,?_,hk⟩
 ·simp only[Instr.buildSlice,Sem.run_bind,run_underlying hu,Result.andThen_ok,JN hi',hsz']
  rw[if_neg (by omega)]
  by_cases h0:len*te.size=0
  ·have e1':Instr.fill (fun i=>some (i*te.size,te.size)) ((Array.range (len*te.size)).map ((#[]:Array Value)[· % (#[]:Array Value).size]!)) vals.toList=some c:=by
    have:=e1
    simp only[c0,zero,if_pos h0]at this
    exact this
   rw[if_pos h0]
   simp only[Sem.run_bind,Sem.run_pure,Result.andThen_ok,e1']
   rfl
  ·have e1':Instr.fill (fun i=>some (i*te.size,te.size)) ((Array.range (len*te.size)).map (z'.cells[· % z'.cells.size]!)) vals.toList=some c:=by
    have:=e1
    simp only[c0,zero,if_neg h0]at this
    exact this
   have hzv:(zeroValue e).run X.P w=.ok z' w:=by simp[zeroValue,typeInfo,hi',hz']
   rw[if_neg h0]
   simp only[Sem.run_bind,Sem.run_pure,Result.andThen_ok,hzv,e1']
   rfl
 ·have:=@VRel.sl F η' (σ.next+1) σ.next σ.next 0 len w.heap.size len te.size 0 (by omega) (by omega) hh (Nat.zero_le _) (Nat.le_refl _) (by simp)
  exact this
def amakeSlice (X:Cfg) (t:TypeId) (l c:AV) (σ:St) (K:AV→St→Prop):Prop:=
 ∃n m:Int,(∃k1,l=.d (.s (.int k1 n)))∧(∃k2,c=.d (.s (.int k2 m)))∧0≤n∧n≤m∧m≤4294967296∧
  ∃ti,X.T t=some ti∧∃e te,ti.kind=.slice e∧X.T e=some te∧0<te.size∧te.bytes≤32768∧
   K (.sl σ.next σ.next 0 n.toNat) (σ.alloc (.row σ.next e te.size (List.replicate n.toNat (zrow te))))
theorem J50 (hg:GRel X F) (hf:FRel F w) (hs:SRel F η σ w) {t:TypeId} {l c:AV} {vl vc:Value} (hl:VRel F η σ.next l vl) (hc:VRel F η σ.next c vc)
  (h:amakeSlice X t l c σ K):VOk X F η σ w ((Instr.makeSlice t vl vc).run X.P w) K:=by
 obtain⟨n,m,⟨k1,rfl⟩,⟨k2,rfl⟩,hn,hnm,hm,ti,ht,e,te,hkd,hte,hp,hby,hk⟩:=h
 have e1:=hl.s_inv
 have e2:=hc.s_inv
 subst e1
 subst e2
 obtain⟨d,i,z,hu,hd,hi,hsz,_⟩:=X.ok t ti ht
 obtain⟨d',i',z',hu',hd',hi',hsz',hby',hz',hzc',hzl',hz1',_⟩:=X.ok e te hte
 rw[hkd]at hd
 have hsl:=JO hd
 subst hsl
 have hzs:z'.cells.size=te.size:=by simp[hzc',hzl']
 have hb2:(i'.bytes:Int)*m≤281474976710656:=by
  rw[hby']
  have h1:(te.bytes:Int)*m≤32768*4294967296:=Int.mul_le_mul (by omega) hm (by omega) (by omega)
  omega
 have hr:=run_make (P:=X.P) w t e i' z' hu hi' hz' k1 k2 n m hn hnm hb2 (by omega)
 rw[hsz']at hr
 have hL:Laid F η σ.next te.size (List.replicate n.toNat (zrow te)) (madeCells z'.cells (m.toNat*te.size)):=by
  have hle:n.toNat*te.size≤m.toNat*te.size:=Nat.mul_le_mul_right _ (by omega)
  refine J5A hz1' hzl' hp σ.next n.toNat (fun j hj=>?_) (by rw[size_madeCells];exact hle)
  rw[madeCells,J86 (by omega) j _ (by omega),hzs,hzc']
 obtain⟨η',s1,s2,s3,hh⟩:=J4H hf hs e te.size (List.replicate n.toNat (zrow te)) _ m.toNat hp (by unfold maxLen;omega) (size_madeCells _ _) (by simp;omega) hL
 refine⟨_,_,F,η',_,.sl σ.next σ.next 0 n.toNat,hr,s1,hg,s2,s3,?_,hk⟩
 have:=@VRel.sl F η' (σ.next+1) σ.next σ.next 0 n.toNat w.heap.size m.toNat te.size 0 (by omega) (by omega) hh (Nat.zero_le _) (by omega) (by simp)
 exact this
end ops
end Go.Pm
