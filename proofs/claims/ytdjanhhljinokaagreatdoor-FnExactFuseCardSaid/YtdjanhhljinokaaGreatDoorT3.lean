/- Part of the proof: Pm5. -/
import Derived.Test.YtdjanhhljinokaaGreatDoorT2
import Derived.Lib.AppendStr
set_option linter.unusedVariables false
set_option linter.unusedSimpArgs false
namespace Go.Pm
section ops
variable {X:Cfg} {F:FH} {η:Et} {σ:St} {w:World} {K:AV→St→Prop}
def rowsOf (σ:St):AV→Option (List (List AV))
 |.d (.im rows)=>some (rows.map (·.map .d))
 |.d (.s (.slice none 0 0))=>some []
 |.sl i v lo hi=>match σ.obj i with|some (.row v' _ _ rows)=>if v=v'∧hi≤rows.length then some ((rows.drop lo).take (hi-lo))else none|_=>none
 |_=>none
structure Src (P:Program) (F:FH) (η:Et) (n:Nat) (w:World) (vx:Value) (sz:Nat) (rows:List (List AV)) (news:List Value):Prop where
 len:∀w1:World,w1.heap=w.heap→(Builtin.lenOf vx).run P w1=.ok rows.length w1
 fst:∀w1:World,w1.heap=w.heap→(Builtin.firstCells sz rows.length vx).run P w1=.ok news.toArray w1
 num:news.length=rows.length*sz
 one:∀u∈news,u.oneCell'=true
 rel:∀k (hk:k<rows.length) j (hj:j<(rows[k]).length),VRel F η n ((rows[k])[j]) (news.getD (k*sz+j) undef)
theorem J2Y {w w1:World} (h:w1.heap=w.heap) (a:Addr):w1.cell? a=w.cell? a:=by simp[World.cell?,h]
theorem Jas (P:Program) (hf:FRel F w) (hs:SRel F η σ w) {x:AV} {vx:Value} (hx:VRel F η σ.next x vx) {rows:List (List AV)} (hr:rowsOf σ x=some rows) {sz:Nat}
  (hsz:∀r∈rows,r.length=sz):∃news,Src P F η σ.next w vx sz rows news:=by
 cases hx with
 |d hd=>
  cases hd with
  |s=>
   cases vx with
   |slice a n c=>
    cases a with
    |none=>
     cases n<;>cases c<;>simp[rowsOf]at hr
     subst hr
     exact⟨[],fun w1 _=>by simp[Builtin.lenOf],fun w1 _=>by simp[Builtin.firstCells],by simp,by simp,fun k hk=>by simp at hk⟩
    |some a=>simp[rowsOf]at hr
   |_=>simp[rowsOf]at hr
  |im0 a cap=>
   simp[rowsOf]at hr
   subst hr
   exact⟨[],fun w1 _=>by simp[Builtin.lenOf],fun w1 _=>by cases a<;>simp[Builtin.firstCells,loadCells,loadCellsFrom],by simp,by simp,fun k hk=>by simp at hk⟩
  |im drows b o cap sz' c E fz f hb hcap hszd hc ho hrr=>
   simp only[rowsOf,Option.some.injEq]at hr
   subst hr
   by_cases he:drows=[]
   ·subst he
    exact⟨[],fun w1 _=>by simp[Builtin.lenOf],fun w1 _=>by simp[Builtin.firstCells,loadCells,loadCellsFrom],by simp,by simp,fun k hk=>by simp at hk⟩
   ·obtain⟨r0,hr0⟩:=List.exists_mem_of_ne_nil _ he
    have hss:sz=sz':=by rw[←hszd r0 hr0,←hsz (r0.map .d) (List.mem_map_of_mem hr0)];simp
    subst hss
    have hlen:(drows.map (·.map AV.d)).length=drows.length:=by simp
    have hq:∀j,j<drows.length*sz→0<sz∧j / sz<drows.length∧j % sz<sz∧j / sz*sz+j % sz=j:=by
     intro j hj
     have h0:0<sz:=by
      rcases Nat.eq_zero_or_pos sz with h|h
      ·subst h;simp at hj
      ·exact h
     refine⟨h0,?_,Nat.mod_lt _ h0,?_⟩
     ·exact Nat.div_lt_of_lt_mul (by rw[Nat.mul_comm];exact hj)
     ·rw[Nat.mul_comm];exact Nat.div_add_mod j sz
    let g:Nat→Value:=fun j=>f (j / sz) (j % sz)
    have hcell:∀j,j<drows.length*sz→w.cell? ⟨b,o+j,none⟩=some (g j):=by
     intro j hj
     obtain⟨h0,h1,h2,h3⟩:=hq j hj
     rw[cell_of_row w _ _ _ _ _ (hf _ _ hb)]
     have:=hc (j / sz) h1 (j % sz) h2
     rw[show o+j / sz*sz+j % sz=o+j by omega]at this
     exact this
    refine⟨(List.range (drows.length*sz)).map g,fun w1 _=>by simp[Builtin.lenOf],fun w1 hw=>?_,by simp,fun u hu=>?_,fun k hk j hj=>?_⟩
    ·simp only[Builtin.firstCells,hlen]
     exact run_loadCells w1 ⟨b,o,none⟩ (drows.length*sz) g fun j hj=>by rw[Addr.add_lit,J2Y hw];exact hcell j hj
    ·obtain⟨j,hj,rfl⟩:=List.mem_map.1 hu
     obtain⟨_,h1,h2,_⟩:=hq j (List.mem_range.1 hj)
     exact ho _ h1 _ h2
    ·have hk':k<drows.length:=by simpa using hk
     simp only[List.getElem_map,List.length_map]at hj ⊢
     have hj':j<sz:=by rw[←hszd _ (List.getElem_mem hk')];exact hj
     have hlt:=J0F hk' hj'
     have e1:(k*sz+j) / sz=k:=by
      rw[Nat.add_comm,Nat.add_mul_div_right _ _ (by omega),Nat.div_eq_of_lt hj',Nat.zero_add]
     have e2:(k*sz+j) % sz=j:=by
      rw[Nat.add_comm,Nat.add_mul_mod_self_right,Nat.mod_eq_of_lt hj']
     simp only[List.getD,List.getElem?_map,List.getElem?_range hlt,Option.map_some,Option.getD_some,g,e1,e2]
     exact .d (hrr k hk' j hj)
  |_=>simp[rowsOf]at hr
 |@sl i v lo hi b cap sz' off h1 h2 hh hle hc hoff=>
  simp only[rowsOf]at hr
  split at hr
  ·rename_i v' E sz2 rows' ho
   split at hr
   ·rename_i hcond
    obtain⟨rfl,hhi⟩:=hcond
    simp only[Option.some.injEq]at hr
    subst hr
    have hlen:((rows'.drop lo).take (hi-lo)).length=hi-lo:=by simp;omega
    rcases Nat.eq_or_lt_of_le hle with heq|hlt
    ·subst heq
     refine⟨[],fun w1 _=>by simp[Builtin.lenOf],fun w1 _=>?_,by simp,by simp,fun k hk=>by simp at hk⟩
     simp[Builtin.firstCells,loadCells,loadCellsFrom]
    ·cases hs.ob i _ ho with
     |row xs hv hs' hpos hown hszr ho1 hrr=>
      obtain⟨cur,hg,hle2,hmx,hcs,htk⟩:=J06 hown (b:=b) (by rw[hh])
      have e0:sz2=sz':=by rw[←hs',hh]
      subst e0
      have hgetr:∀k (hk:k<hi-lo),((rows'.drop lo).take (hi-lo))[k]'(by omega)=rows'[lo+k]'(by omega):=by
       intro k hk;simp
      have hss:sz=sz2:=by
       have h0:0<hi-lo:=by omega
       have:=hsz (((rows'.drop lo).take (hi-lo))[0]'(by omega)) (List.getElem_mem _)
       rw[hgetr 0 h0]at this
       rw[←this]
       exact hszr _ (List.getElem_mem _)
      subst hss
      have hof:=hoff (by omega)
      subst hof
      have hxl:xs.length=rows'.length*sz:=hown.1
      have hcell:∀j,j<(hi-lo)*sz→w.cell? ⟨b,lo*sz+j,none⟩=some (xs.getD (lo*sz+j) undef):=by
       intro j hj
       have:lo*sz+j<rows'.length*sz:=by
        have h3:hi*sz≤rows'.length*sz:=Nat.mul_le_mul_right _ hhi
        have h4:(hi-lo)*sz=hi*sz-lo*sz:=Nat.sub_mul _ _ _
        have h5:lo*sz≤hi*sz:=Nat.mul_le_mul_right _ hle
        omega
       rw[cell_of_row w _ _ _ _ _ hg]
       have h6:rows'.length*sz≤cur.size:=by rw[hcs];exact Nat.mul_le_mul_right _ hle2
       have:xs[lo*sz+j]? = cur[lo*sz+j]?:=by rw[←htk];simp[List.getElem?_take,this]
       simp only[List.getD,this]
       rw[Array.getElem?_eq_getElem (by omega)]
       rfl
      have hin:∀j,j<(hi-lo)*sz→lo*sz+j<rows'.length*sz:=by
       intro j hj
       have h3:hi*sz≤rows'.length*sz:=Nat.mul_le_mul_right _ hhi
       have h4:(hi-lo)*sz=hi*sz-lo*sz:=Nat.sub_mul _ _ _
       have h5:lo*sz≤hi*sz:=Nat.mul_le_mul_right _ hle
       omega
      refine⟨(List.range ((hi-lo)*sz)).map fun j=>xs.getD (lo*sz+j) undef,fun w1 _=>by simp[Builtin.lenOf];omega,fun w1 hw=>?_,by simp[hlen],fun u hu=>?_,fun k hk j hj=>?_⟩
      ·simp only[Builtin.firstCells,hlen]
       exact run_loadCells w1 ⟨b,lo*sz,none⟩ ((hi-lo)*sz) (fun j=>xs.getD (lo*sz+j) undef) fun j hj=>by rw[Addr.add_lit,J2Y hw];exact hcell j hj
      ·obtain⟨j,hj,rfl⟩:=List.mem_map.1 hu
       have:=hin j (List.mem_range.1 hj)
       exact J1S ho1 (by omega)
      ·have hk':k<hi-lo:=by omega
       have e1:=hgetr k hk'
       have hj2:j<(rows'[lo+k]'(by omega)).length:=by rw[←e1];exact hj
       have hj':j<sz:=by rw[←hszr _ (List.getElem_mem (show lo+k<rows'.length by omega))];exact hj2
       have hlt:=J0F hk' hj'
       have e2:(((rows'.drop lo).take (hi-lo))[k]'hk)[j]'hj=(rows'[lo+k]'(by omega))[j]'hj2:=by simp only[e1]
       rw[e2]
       have e3:((List.range ((hi-lo)*sz)).map fun j=>xs.getD (lo*sz+j) undef).getD (k*sz+j) undef=xs.getD ((lo+k)*sz+j) undef:=by
        simp only[List.getD,List.getElem?_map,List.getElem?_range hlt,Option.map_some,Option.getD_some]
        rw[show lo*sz+(k*sz+j)=(lo+k)*sz+j by rw[Nat.add_mul];omega]
       rw[e3]
       exact hrr (lo+k) (by omega) j hj2
   ·simp at hr
  ·simp at hr
 |@sl0 i v cap sz' h1 h2 hh=>
  simp only[rowsOf]at hr
  split at hr
  ·split at hr
   ·simp at hr
    subst hr
    exact⟨[],fun w1 _=>by simp[Builtin.lenOf],fun w1 _=>by simp[Builtin.firstCells],by simp,by simp,fun k hk=>by simp at hk⟩
   ·simp at hr
  ·simp at hr
 |_=>simp[rowsOf]at hr
def byteRows (s:ByteArray):List (List AV):=s.data.toList.map fun b=>[.d (.s (.int .u8 b.toNat))]
theorem JF (s:ByteArray):(byteRows s).length=s.size:=by simp[byteRows]
def srcOf (k:KD) (sz:Nat) (σ:St) (x:AV):Option (List (List AV)):=
 match k with
 |.slice _=>rowsOf σ x
 |.string=>match x with|.d (.s (.string s))=>if sz=1 then some (byteRows s)else none|_=>none
 |_=>none
theorem J8K (P:Program) (hf:FRel F w) (hs:SRel F η σ w) {x:AV} {vx:Value} (hx:VRel F η σ.next x vx) {rows:List (List AV)} {k:KD} {sz:Nat} (hr:srcOf k sz σ x=some rows)
  (hsz:∀r∈rows,r.length=sz):∃news,Src P F η σ.next w vx sz rows news:=by
 unfold srcOf at hr
 split at hr
 ·exact Jas P hf hs hx hr hsz
 ·split at hr
  ·rename_i s
   split at hr
   ·rename_i h1
    subst h1
    simp only[Option.some.injEq]at hr
    subst hr
    have:=hx.s_inv
    subst this
    refine⟨Lib.strCells s,fun w1 _=>by simp[Builtin.lenOf,JF],fun w1 _=>?_,?_,Lib.strCells_oneCell s,fun k hk j hj=>?_⟩
    ·rw[JF];exact Lib.run_firstCells_string w1 1 s
    ·rw[JF,Lib.strCells_length,Nat.mul_one]
    ·have hk':k<s.data.toList.length:=by simpa[byteRows]using hk
     simp only[byteRows,List.getElem_map,List.length_singleton]at hj ⊢
     have:j=0:=by omega
     subst this
     simp only[List.getElem_singleton,Nat.mul_one,Nat.add_zero,Lib.strCells,List.getD,List.getElem?_map,List.getElem?_eq_getElem hk',Option.map_some,Option.getD_some]
     exact .d (.s _)
   ·simp at hr
  ·simp at hr
 ·simp at hr
section raw
variable {P:Program} {t tx ty e:TypeId} {dx:TypeDesc} {i:TypeInfo} {z:Value} {vx:Value} {m:Nat} {news:List Value}
theorem J5Y (ht:P.underlying t=some (.slice e)) (hx:P.underlying tx=some dx) (hxk:(∃e',dx=.slice e')∨dx=.string) (hi:P.info? e=some i)
  (hl:(Builtin.lenOf vx).run P w=.ok m w) (hfc:(Builtin.firstCells i.size m vx).run P w=.ok news.toArray w) (hn:news.length=m*i.size) (h1:∀u∈news,u.oneCell'=true)
  (g o sLen sCap:Nat) (cur:Array Value) (hg:w.heap[g]? = some (.cells cur e (0,0))) (hroom:sLen+m≤sCap) (hfit:o+sLen*i.size+news.length≤cur.size):
  (Builtin.append_ #[t,tx] ty #[.slice (some ⟨g,o,none⟩) sLen sCap,vx]).run P w =
   .ok (.slice (some ⟨g,o,none⟩) (sLen+m) sCap) (w.setRow g (cur.toList.take (o+sLen*i.size)++news++cur.toList.drop (o+sLen*i.size+news.length)).toArray):=by
 have hst:=run_storeCells_at P g (o+sLen*i.size) e news 0 cur w hg (by simpa using hfit) h1
 simp only[Nat.add_zero]at hst
 rcases hxk with⟨e',rfl⟩|rfl<;>simp[Builtin.append_,run_underlying ht,run_underlying hx,sizeOf,typeInfo,hi,hl,hroom,hfc,Addr.add_lit,hst]
theorem J1B (ht:P.underlying t=some (.slice e)) (hx:P.underlying tx=some dx) (hxk:(∃e',dx=.slice e')∨dx=.string) (hi:P.info? e=some i) (hz:i.zero=some z)
  (hl:(Builtin.lenOf vx).run P w=.ok m w) (hfc:(Builtin.firstCells i.size m vx).run P w.drew=.ok news.toArray w.drew)
  (b:Option Addr) (sLen sCap:Nat) (olds:List Value) (hold:(Builtin.firstCells i.size sLen (.slice b sLen sCap)).run P w.drew=.ok olds.toArray w.drew)
  (hg:sCap<sLen+m) (h63:((sLen+m:Nat):Int)≤9223372036854775807) (hfit:Builtin.nextslicecap (sLen+m) sCap*i.bytes≤281474976710656):
  (Builtin.append_ #[t,tx] ty #[.slice b sLen sCap,vx]).run P w =
   .ok (.slice (some ⟨w.heap.size,0,none⟩) (sLen+m) (grownCap w (sLen+m) sCap e))
    (w.drew.alloc (.cells (olds.toArray++news.toArray++Builtin.zeroCells z.cells (grownCap w (sLen+m) sCap e-(sLen+m))) e)):=by
 have hn:¬(sLen+m≤sCap):=by omega
 have h63':¬(9223372036854775807<((sLen:Int)+(m:Int))):=by omega
 have h48':¬(281474976710656<Builtin.nextslicecap (sLen+m) sCap*i.bytes):=by omega
 rcases hxk with⟨e',rfl⟩|rfl
 all_goals
  simp[Builtin.append_,run_underlying ht,run_underlying hx,sizeOf,typeInfo,zeroValue,hi,hz,hl,hn,h63',h48',Question.forced,hfc,hold,newRow,grownCap]
  try (congr 2;apply Array.ext';simp[List.append_assoc])
end raw
def bumpSet (σ:St) (i:Nat) (o:AO):St:=⟨fun j=>if j=i then some o else σ.obj j,σ.next+1⟩
theorem J0J (σ:St) (i:Nat) (o:AO) (j:Nat):(bumpSet σ i o).obj j=if j=i then some o else σ.obj j:=rfl
theorem J65 (σ:St) (i:Nat) (o:AO):(bumpSet σ i o).next=σ.next+1:=rfl
def aappend (X:Cfg) (ts tx:TypeId) (s x:AV) (σ:St) (K:AV→St→Prop):Prop:=
 ∃ti,X.T ts=some ti∧∃e te,ti.kind=.slice e∧X.T e=some te∧0<te.size∧0<te.bytes∧∃tix,X.T tx=some tix∧
  ∃src,srcOf tix.kind te.size σ x=some src∧(∀r∈src,r.length=te.size)∧
  match s with
  |.d (.s (.slice none 0 0))=>src.length*te.bytes≤140737488355328∧K (.sl σ.next σ.next 0 src.length) (σ.alloc (.row σ.next e te.size src))
  |.sl i v lo hi=>lo=0∧∃rows,σ.obj i=some (.row v e te.size rows)∧hi≤rows.length∧(hi+src.length)*te.bytes≤140737488355328∧
    K (.sl i σ.next 0 (hi+src.length)) (bumpSet σ i (.row σ.next e te.size (rows.take hi++src)))
  |_=>False
theorem J61 (l:List Value) (j:Nat):l.toArray.getD j undef=l.getD j undef:=by simp[List.getD,Array.getD_eq_getD_getElem?]
theorem J3w {n sz:Nat} {r1 r2:List (List AV)} {c:Array Value} {l1 l2:List Value} (h1:l1.length=r1.length*sz) (h2:l2.length=r2.length*sz)
  (hs1:∀r∈r1,r.length=sz) (hs2:∀r∈r2,r.length=sz) (ho1:∀u∈l1,u.oneCell'=true) (ho2:∀u∈l2,u.oneCell'=true)
  (hr1:∀k (hk:k<r1.length) j (hj:j<(r1[k]).length),VRel F η n ((r1[k])[j]) (l1.getD (k*sz+j) undef))
  (hr2:∀k (hk:k<r2.length) j (hj:j<(r2[k]).length),VRel F η n ((r2[k])[j]) (l2.getD (k*sz+j) undef))
  (hc:∀j,j<(l1++l2).length→c.getD j undef=(l1++l2).getD j undef) (hsz:(l1++l2).length≤c.size):Laid F η n sz (r1++r2) c:=by
 have hlen:(l1++l2).length=(r1++r2).length*sz:=by simp only[List.length_append,h1,h2,Nat.add_mul]
 refine⟨by omega,fun r hr=>?_,fun j hj=>?_,fun k hk j hj=>?_⟩
 ·rcases List.mem_append.1 hr with h|h
  ·exact hs1 r h
  ·exact hs2 r h
 ·rw[hc j (by omega)]
  have hjl:j<(l1++l2).length:=by omega
  simp only[List.getD,List.getElem?_eq_getElem hjl,Option.getD_some]
  rcases List.mem_append.1 (List.getElem_mem hjl)with h|h
  ·exact ho1 _ h
  ·exact ho2 _ h
 ·by_cases hk1:k<r1.length
  ·have e1:(r1++r2)[k]'hk=r1[k]:=List.getElem_append_left hk1
   have hj1:j<(r1[k]).length:=by rw[e1]at hj;exact hj
   have hjs:j<sz:=by rw[←hs1 _ (List.getElem_mem hk1)];exact hj1
   have hlt:=J0F hk1 hjs
   have e2:((r1++r2)[k]'hk)[j]'hj=(r1[k])[j]'hj1:=by simp only[e1]
   rw[e2,hc _ (by simp;omega)]
   have:(l1++l2).getD (k*sz+j) undef=l1.getD (k*sz+j) undef:=by
    simp only[List.getD];rw[List.getElem?_append_left (by omega)]
   rw[this]
   exact hr1 k hk1 j hj1
  ·have hk2:k-r1.length<r2.length:=by simp at hk;omega
   have e1:(r1++r2)[k]'hk=r2[k-r1.length]:=List.getElem_append_right (by omega)
   have hj1:j<(r2[k-r1.length]).length:=by rw[e1]at hj;exact hj
   have hjs:j<sz:=by rw[←hs2 _ (List.getElem_mem hk2)];exact hj1
   have hlt:=J0F hk2 hjs
   have hkk:k*sz=r1.length*sz+(k-r1.length)*sz:=by rw[←Nat.add_mul];congr 1;omega
   have e2:((r1++r2)[k]'hk)[j]'hj=(r2[k-r1.length])[j]'hj1:=by simp only[e1]
   rw[e2,hc _ (by simp;omega)]
   have:(l1++l2).getD (k*sz+j) undef=l2.getD ((k-r1.length)*sz+j) undef:=by
    simp only[List.getD];rw[List.getElem?_append_right (by omega)]
    congr 2;omega
   rw[this]
   exact hr2 _ hk2 j hj1
theorem J1I {P:Program} {t tx ty e:TypeId} {dx:TypeDesc} {i:TypeInfo} {vx:Value} (ht:P.underlying t=some (.slice e)) (hx:P.underlying tx=some dx) (hxk:(∃e',dx=.slice e')∨dx=.string) (hi:P.info? e=some i)
  (hl:(Builtin.lenOf vx).run P w=.ok 0 w) (hfc:(Builtin.firstCells i.size 0 vx).run P w=.ok #[] w) (b:Option Addr) (sLen sCap:Nat) (hle:sLen≤sCap):
  (Builtin.append_ #[t,tx] ty #[.slice b sLen sCap,vx]).run P w=.ok (.slice b sLen sCap) w:=by
 rcases hxk with⟨e',rfl⟩|rfl<;>cases b<;>simp[Builtin.append_,run_underlying ht,run_underlying hx,sizeOf,typeInfo,hi,hl,hle,hfc,storeCells]
theorem J3D {w':World} (hf:FRel F w) (hs:SRel F η σ w) {i v E sz:Nat} {rows:List (List AV)} (ho:σ.obj i=some (.row v E sz rows)) (rows':List (List AV)) (b' cap':Nat) (c':Array Value)
  (hp:0<sz) (hcap:cap'≤maxLen) (hc:c'.size=cap'*sz) (hle:rows'.length≤cap') (hL:Laid F η σ.next sz rows' c') (hb:w'.heap[b']? = some (.cells c' E (0,0)))
  (hgr:More w w') (hfr:∀b,b<w.heap.size→(η.hdr v).blk≠some b→w'.heap[b]? = w.heap[b]?) (hown:b'<w.heap.size→(η.hdr v).blk=some b'):
  ∃η',Step F η σ w F η' (bumpSet σ i (.row σ.next E sz rows')) w'∧FRel F w'∧SRel F η' (bumpSet σ i (.row σ.next E sz rows')) w'∧η'.hdr σ.next=⟨some b',cap',sz⟩:=by
 have ha:=Et.agree_withHdr η σ.next ⟨some b',cap',sz⟩
 have hh:(η.withHdr σ.next ⟨some b',cap',sz⟩).hdr σ.next=⟨some b',cap',sz⟩:=by simp[Et.withHdr]
 have hmul:rows'.length*sz≤c'.size:=by rw[hc];exact Nat.mul_le_mul_right _ hle
 have hgd:∀j,j<rows'.length*sz→(c'.toList.take (rows'.length*sz)).getD j undef=c'.getD j undef:=by
  intro j hj
  simp[List.getD,Array.getD_eq_getD_getElem?,List.getElem?_take,hj]
 obtain⟨g1,g2,g3⟩:=upd (η':=η.withHdr σ.next ⟨some b',cap',sz⟩) (w':=w') hf hs i (.row σ.next E sz rows') (σ.next+1) (Nat.lt_succ_of_lt (hs.lt _ _ ho)) (Nat.le_succ _) ha hgr
  (fun b hb hno=>hfr b hb fun e=>hno _ ho (by simp only[Owns,own];exact e))
  (.row (c'.toList.take (rows'.length*sz)) (Nat.lt_succ_self _) (by rw[hh]) hp
   (by
    rw[hh]
    refine⟨?_,.inr ⟨b',cap',c',rfl,Nat.zero_le _,hb,hle,hcap,hc,rfl⟩⟩
    simp only[List.length_take,Array.length_toList]
    omega)
   hL.len
   (fun u hu=>by
    obtain⟨j,hj,rfl⟩:=List.mem_iff_getElem.1 hu
    have hj2:j<rows'.length*sz:=by simp only[List.length_take]at hj;omega
    have:=hgd j hj2
    simp only[List.getD,List.getElem?_eq_getElem hj,Option.getD_some]at this
    rw[this]
    exact hL.one j hj2)
   (fun k hk j hj=>by
    have hjs:j<sz:=by rw[←hL.len _ (List.getElem_mem hk)];exact hj
    rw[hgd _ (J0F hk hjs)]
    exact(hL.rel k hk j hj).mono F.le_refl ha (Nat.le_succ _)))
  (fun b hb hlt=>by
   simp only[Owns,own,hh,Option.some.injEq]at hb
   subst hb
   exact⟨_,ho,by simp only[Owns,own];exact hown hlt⟩)
 exact⟨_,g1,g2,g3,hh⟩
theorem J5D {n b:Nat} (hb:0<b) (h:n*b≤140737488355328):n≤maxLen∧n≤140737488355328:=by
 have:n≤n*b:=Nat.le_mul_of_pos_right _ hb
 unfold maxLen
 omega
theorem J1J (w:World) (o:Obj) (b:Nat) (hb:b<w.heap.size):(w.drew.alloc o).heap[b]? = w.heap[b]?:=heap_alloc_old w.drew o hb
theorem J0R (w:World) (o:Obj):(w.drew.alloc o).heap[w.heap.size]? = some o:=heap_alloc_new w.drew o
theorem J7v (hg:GRel X F) (hf:FRel F w) (hs:SRel F η σ w) {ts tx ty:TypeId} {s x:AV} {vs vx:Value} (hvs:VRel F η σ.next s vs) (hvx:VRel F η σ.next x vx)
  (h:aappend X ts tx s x σ K):VOk X F η σ w ((Builtin.append_ #[ts,tx] ty #[vs,vx]).run X.P w) K:=by
 obtain⟨ti,ht,e,te,hkd,hte,hp,hpb,tix,htx,src,hsrc,hsrcz,hm⟩:=h
 obtain⟨d,i0,z0,hu,hd,_,_⟩:=X.ok ts ti ht
 obtain⟨d',i,z,hu',hd',hinf,hsz,hby,hz,hzc,hzl,hz1,hzn,hza⟩:=X.ok e te hte
 obtain⟨dx,ix,zx,hux,hdx,_⟩:=X.ok tx tix htx
 rw[hkd]at hd
 have hsl:=JO hd
 subst hsl
 have hnk:(∃e',dx=.slice e')∨dx=.string:=by
  unfold srcOf at hsrc
  split at hsrc
  ·rename_i e' he;rw[he]at hdx;exact .inl ⟨e',JO hdx⟩
  ·rename_i he;rw[he]at hdx;exact .inr (JW hdx)
  ·simp at hsrc
 obtain⟨news,hS⟩:=J8K X.P hf hs hvx hsrc hsrcz
 have hlx:=hS.len w rfl
 have hfx:=hS.fst w rfl
 have hfx':=hS.fst w.drew rfl
 rw[←hsz]at hfx hfx'
 have hzs:z.cells.size=te.size:=by simp[hzc,hzl]
 have hnum:=hS.num
 -- a new block behind the old rows
 have fresh:∀(olds:List Value) (r1:List (List AV)) (old:Nat),olds.length=r1.length*te.size→(∀r∈r1,r.length=te.size)→(∀u∈olds,u.oneCell'=true)→
   (∀k (hk:k<r1.length) j (hj:j<(r1[k]).length),VRel F η σ.next ((r1[k])[j]) (olds.getD (k*te.size+j) undef))→r1.length+src.length≤maxLen→
   (olds.toArray++news.toArray++Builtin.zeroCells z.cells (grownCap w (r1.length+src.length) old e-(r1.length+src.length))).size=grownCap w (r1.length+src.length) old e*te.size∧
   grownCap w (r1.length+src.length) old e≤maxLen∧r1.length+src.length≤grownCap w (r1.length+src.length) old e∧
   Laid F η σ.next te.size (r1++src) (olds.toArray++news.toArray++Builtin.zeroCells z.cells (grownCap w (r1.length+src.length) old e-(r1.length+src.length))):=by
  intro olds r1 old h1 h2 h3 h4 h5
  have hge:=grownCap_ge w (r1.length+src.length) old e
  refine⟨?_,grownCap_le_maxLen w _ old e h5,hge,?_⟩
  ·simp only[Array.size_append,List.size_toArray,size_zeroCells,hzs,h1,hnum,←Nat.add_mul]
   congr 1
   omega
  ·refine J3w h1 hnum h2 hsrcz h3 hS.one h4 hS.rel (fun j hj=>?_) (by simp)
   have:((olds++news).toArray++Builtin.zeroCells z.cells (grownCap w (r1.length+src.length) old e-(r1.length+src.length))).getD j undef=(olds++news).getD j undef:=by
    simp only[Array.getD_eq_getD_getElem?,List.getD]
    rw[Array.getElem?_append_left (by simpa using hj)]
    simp
   simpa using this
 have grow_fits:∀n cap,cap<n+src.length→(n+src.length)*te.bytes≤140737488355328→Builtin.nextslicecap (n+src.length) cap*i.bytes≤281474976710656:=by
  intro n cap h1 h2
  rw[hby];exact growslice_fits h1 h2
 split at hm
 ·-- onto nil
  obtain⟨hlim,hk⟩:=hm
  have:=hvs.s_inv
  subst this
  by_cases h0:src.length=0
  ·have hsrc0:src=[]:=List.eq_nil_of_length_eq_zero h0
   subst hsrc0
   have hn0:news=[]:=List.eq_nil_of_length_eq_zero (by simpa using hnum)
   subst hn0
   obtain⟨η',s1,s2,s3,hh⟩:=J6g hf hs e te.size hp
   refine⟨_,w,F,η',_,.sl σ.next σ.next 0 0,J1I hu hux hnk hinf hlx hfx none 0 0 (Nat.le_refl _),s1,hg,s2,s3,.sl0 (Nat.lt_succ_self _) (Nat.lt_succ_self _) hh,by simpa using hk⟩
  ·obtain⟨hmx,hmx2⟩:=J5D hpb hlim
   have hr:=J1B (P:=X.P) (ty:=ty) hu hux hnk hinf hz hlx hfx' none 0 0 [] (by simp[Builtin.firstCells]) (by omega) (by omega) (grow_fits 0 0 (by omega) (by simpa using hlim))
   obtain⟨f1,f2,f3,f4⟩:=fresh [] [] 0 (by simp) (by simp) (by simp) (fun k hk=>by simp at hk) (by simpa using hmx)
   simp only[List.length_nil,Nat.zero_add,List.nil_append]at hr f1 f2 f3 f4
   obtain⟨η',s1,s2,s3,hh⟩:=J4H (hf.drew) (hs.drew) e te.size src _ _ hp f2 f1 f3 f4
   refine⟨_,_,F,η',_,.sl σ.next σ.next 0 src.length,hr,Step.drew.trans s1,hg,s2,s3,?_,hk⟩
   exact @VRel.sl F η' (σ.next+1) σ.next σ.next 0 src.length _ _ te.size 0 (by omega) (by omega) hh (Nat.zero_le _) f3 (by simp)
 ·-- onto rows of our own
  rename_i i1 v lo hi
  obtain⟨rfl,rows,ho,hhi,hlim,hk⟩:=hm
  obtain⟨hmx,hmx2⟩:=J5D hpb hlim
  cases hs.ob i1 _ ho with
  |row xs hv hs' hpos hown hszr ho1 hrr=>
   have htl:(rows.take hi).length=hi:=by simp;omega
   have hmin:min hi rows.length=hi:=by omega
   have hxl:xs.length=rows.length*te.size:=hown.1
   have hmulhi:hi*te.size≤rows.length*te.size:=Nat.mul_le_mul_right _ hhi
   have hxtl:(xs.take (hi*te.size)).length=(rows.take hi).length*te.size:=by simp only[List.length_take,hxl,hmin];omega
   have htsz:∀r∈rows.take hi,r.length=te.size:=fun r hr=>hszr r (List.mem_of_mem_take hr)
   have hx1:∀u∈xs.take (hi*te.size),u.oneCell'=true:=fun u hu=>ho1 u (List.mem_of_mem_take hu)
   have hxr:∀k (hk:k<(rows.take hi).length) j (hj:j<((rows.take hi)[k]).length),VRel F η σ.next (((rows.take hi)[k])[j]) ((xs.take (hi*te.size)).getD (k*te.size+j) undef):=by
    intro k hk j hj
    have hk':k<hi:=by omega
    have e1:(rows.take hi)[k]'hk=rows[k]'(by omega):=by simp
    have hj2:j<(rows[k]'(by omega)).length:=by rw[←e1];exact hj
    have hjs:j<te.size:=by rw[←htsz _ (List.getElem_mem hk)];exact hj
    have e2:((rows.take hi)[k]'hk)[j]'hj=(rows[k]'(by omega))[j]'hj2:=by simp only[e1]
    have e3:(xs.take (hi*te.size)).getD (k*te.size+j) undef=xs.getD (k*te.size+j) undef:=by
     simp[List.getD,List.getElem?_take,J0F hk' hjs]
    rw[e2,e3]
    exact hrr k (by omega) j hj2
   cases hvs with
   |sl0 g1 g2 hh=>
    have hrn:rows=[]:=List.eq_nil_of_length_eq_zero (J1e hown (by rw[hh]))
    subst hrn
    by_cases h0:src.length=0
    ·have hsrc0:src=[]:=List.eq_nil_of_length_eq_zero h0
     subst hsrc0
     have hn0:news=[]:=List.eq_nil_of_length_eq_zero (by simpa using hnum)
     subst hn0
     have ha:=Et.agree_withHdr η σ.next ⟨none,0,te.size⟩
     have hhh:(η.withHdr σ.next ⟨none,0,te.size⟩).hdr σ.next=⟨none,0,te.size⟩:=by simp[Et.withHdr]
     obtain⟨s1,s2,s3⟩:=upd (η':=η.withHdr σ.next ⟨none,0,te.size⟩) (w':=w) hf hs i1 (.row σ.next e te.size ([].take 0++[])) (σ.next+1) (Nat.lt_succ_of_lt g1) (Nat.le_succ _) ha (.refl _)
      (fun _ _ _=>rfl)
      (.row [] (Nat.lt_succ_self _) (by rw[hhh]) hp (by rw[hhh];exact World.ownsRow_nil w 0 e te.size) (by simp) (by simp) (fun k hk=>by simp at hk))
      (fun b hb hlt=>by simp[Owns,own,hhh]at hb)
     exact⟨_,w,F,_,_,.sl i1 σ.next 0 0,J1I hu hux hnk hinf hlx hfx none 0 0 (Nat.le_refl _),s1,hg,s2,s3,.sl0 (Nat.lt_succ_of_lt g1) (Nat.lt_succ_self _) hhh,by simpa[bumpSet]using hk⟩
    ·have hr:=J1B (P:=X.P) (ty:=ty) hu hux hnk hinf hz hlx hfx' none 0 0 [] (by simp[Builtin.firstCells]) (by omega) (by omega) (grow_fits 0 0 (by omega) (by simpa using hlim))
     obtain⟨f1,f2,f3,f4⟩:=fresh [] [] 0 (by simp) (by simp) (by simp) (fun k hk=>by simp at hk) (by simpa using hmx)
     simp only[List.length_nil,Nat.zero_add,List.nil_append]at hr f1 f2 f3 f4
     obtain⟨η',s1,s2,s3,hhh⟩:=J3D (w':=w.drew.alloc _) hf hs ho src _ _ _ hp f2 f1 f3 f4 (J0R w _) ⟨by simp,rfl,rfl⟩ (fun b hb _=>J1J w _ b hb) (fun hlt=>by omega)
     refine⟨_,_,F,η',_,.sl i1 σ.next 0 src.length,hr,s1,hg,s2,s3,?_,by simpa using hk⟩
     exact @VRel.sl F η' (σ.next+1) i1 σ.next 0 src.length _ _ te.size 0 (Nat.lt_succ_of_lt g1) (by omega) hhh (Nat.zero_le _) f3 (by simp)
   |@sl _ _ _ _ b cap sz' off g1 g2 hh hle hc hoff=>
    obtain⟨cur,hgb,hle2,hmxc,hcs,htk⟩:=J06 hown (b:=b) (by rw[hh])
    have e0:te.size=sz':=by rw[←hs',hh]
    subst e0
    have hcap:(η.hdr v).cap=cap:=by rw[hh]
    rw[hcap]at hle2 hmxc hcs
    have hxg:∀j,j<rows.length*te.size→xs.getD j undef=cur.getD j undef:=by
     intro j hj
     rw[←htk]
     simp[List.getD,Array.getD_eq_getD_getElem?,List.getElem?_take,hj]
    have hmulc:rows.length*te.size≤cur.size:=by rw[hcs];exact Nat.mul_le_mul_right _ hle2
    simp only[Nat.sub_zero]
    by_cases h0:src.length=0
    ·have hsrc0:src=[]:=List.eq_nil_of_length_eq_zero h0
     subst hsrc0
     have hn0:news=[]:=List.eq_nil_of_length_eq_zero (by simpa using hnum)
     subst hn0
     have hL:Laid F η σ.next te.size (rows.take hi) cur:=by
      refine⟨by rw[htl];omega,htsz,fun j hj=>?_,fun k hk j hj=>?_⟩
      ·rw[htl]at hj
       rw[←hxg j (by omega)]
       exact J1S ho1 (by omega)
      ·have hjs:j<te.size:=by rw[←htsz _ (List.getElem_mem hk)];exact hj
       have hlt:=J0F hk hjs
       rw[htl]at hlt
       have:=hxr k hk j hj
       rw[show(xs.take (hi*te.size)).getD (k*te.size+j) undef=cur.getD (k*te.size+j) undef from by
        rw[←hxg _ (by omega)];simp[List.getD,List.getElem?_take,hlt]]at this
       exact this
     obtain⟨η',s1,s2,s3,hhh⟩:=J3D (w':=w) hf hs ho (rows.take hi) b cap cur hp hmxc hcs (by rw[htl];omega) hL hgb (.refl _) (fun _ _ _=>rfl) (fun _=>by rw[hh])
     refine⟨_,w,F,η',_,.sl i1 σ.next 0 hi,J1I hu hux hnk hinf hlx hfx _ hi cap (by omega),s1,hg,s2,s3,?_,by simpa using hk⟩
     exact @VRel.sl F η' (σ.next+1) i1 σ.next 0 hi b cap te.size off (Nat.lt_succ_of_lt g1) (by omega) hhh (Nat.zero_le _) hc hoff
    ·by_cases hroom:hi+src.length≤cap
     ·have ho0:=hoff (by omega)
      simp only[Nat.zero_mul]at ho0
      subst ho0
      have hfit:0+hi*i.size+news.length≤cur.size:=by
       rw[hnum,hsz,hcs,Nat.zero_add,←Nat.add_mul];exact Nat.mul_le_mul_right _ hroom
      have hr:=J5Y (P:=X.P) (ty:=ty) hu hux hnk hinf hlx hfx (by rw[hsz];exact hnum) hS.one b 0 hi cap cur hgb hroom hfit
      rw[hsz,Nat.zero_add]at hr
      have hfit2:hi*te.size+news.length≤cur.size:=by rw[hsz]at hfit;omega
      have hL:Laid F η σ.next te.size (rows.take hi++src) (cur.toList.take (hi*te.size)++news++cur.toList.drop (hi*te.size+news.length)).toArray:=by
       refine J3w hxtl hnum htsz hsrcz hx1 hS.one hxr hS.rel (fun j hj=>?_) (by simp only[List.size_toArray,List.length_append,List.length_take,List.length_drop,Array.length_toList,hxtl,htl];omega)
       rw[J0L cur _ _ hfit2]
       simp only[List.length_append,hxtl,htl]at hj
       by_cases hjj:hi*te.size≤j
       ·rw[if_pos (by omega)]
        simp only[List.getD]
        rw[List.getElem?_append_right (by rw[hxtl,htl];exact hjj),hxtl,htl]
       ·rw[if_neg (by omega),←hxg j (by omega)]
        simp only[List.getD]
        rw[List.getElem?_append_left (by rw[hxtl,htl];omega)]
        simp[List.getElem?_take,show j<hi*te.size by omega]
      obtain⟨η',s1,s2,s3,hhh⟩:=J3D (w':=w.setRow b _) hf hs ho (rows.take hi++src) b cap _ hp hmxc
       (by simp only[List.size_toArray,List.length_append,List.length_take,List.length_drop,Array.length_toList];omega)
       (by simp only[List.length_append,htl];exact hroom) hL (setRow_heap w b cur _ e _ hgb) ⟨by simp,rfl,rfl⟩ (fun b1 hb1 hne=>setRow_other w b b1 _ (fun e1=>hne (by rw[hh,e1]))) (fun _=>by rw[hh])
      refine⟨_,_,F,η',_,.sl i1 σ.next 0 (hi+src.length),hr,s1,hg,s2,s3,?_,hk⟩
      exact @VRel.sl F η' (σ.next+1) i1 σ.next 0 (hi+src.length) b cap te.size 0 (Nat.lt_succ_of_lt g1) (by omega) hhh (Nat.zero_le _) hroom (by simp)
     ·have hold:(Builtin.firstCells i.size hi (.slice (some ⟨b,off,none⟩) hi cap)).run X.P w.drew=.ok (xs.take (hi*te.size)).toArray w.drew:=by
       rcases Nat.eq_zero_or_pos cap with hc0|hc0
       ·have:hi=0:=by omega
        subst this
        simp[Builtin.firstCells,loadCells,loadCellsFrom]
       ·have ho0:=hoff hc0
        simp only[Nat.zero_mul]at ho0
        subst ho0
        refine run_firstCells_some w.drew i.size hi ⟨b,0,none⟩ hi cap _ (by rw[hxtl,htl,hsz]) fun j u hu=>?_
        have hj:j<hi*te.size:=by
         have:=(List.getElem?_eq_some_iff.1 hu).1
         rw[hxtl,htl]at this;exact this
        rw[Addr.add_lit,Nat.zero_add,World.cell?_drew,cell_of_row w _ _ _ _ _ hgb]
        rw[List.getElem?_take,if_pos hj,←htk,List.getElem?_take,if_pos (by omega)]at hu
        simpa using hu
      have hr:=J1B (P:=X.P) (ty:=ty) hu hux hnk hinf hz hlx hfx' (some ⟨b,off,none⟩) hi cap _ hold (by omega) (by omega) (grow_fits hi cap (by omega) hlim)
      obtain⟨f1,f2,f3,f4⟩:=fresh (xs.take (hi*te.size)) (rows.take hi) cap hxtl htsz hx1 hxr (by rw[htl];exact hmx)
      rw[htl]at f1 f2 f3 f4
      obtain⟨η',s1,s2,s3,hhh⟩:=J3D (w':=w.drew.alloc _) hf hs ho (rows.take hi++src) _ _ _ hp f2 f1 (by simp only[List.length_append,htl];exact f3) f4 (J0R w _) ⟨by simp,rfl,rfl⟩ (fun b hb _=>J1J w _ b hb) (fun hlt=>by omega)
      refine⟨_,_,F,η',_,.sl i1 σ.next 0 (hi+src.length),hr,s1,hg,s2,s3,?_,hk⟩
      exact @VRel.sl F η' (σ.next+1) i1 σ.next 0 (hi+src.length) _ _ te.size 0 (Nat.lt_succ_of_lt g1) (by omega) hhh (Nat.zero_le _) f3 (by simp)
 ·exact hm.elim
end ops
end Go.Pm
