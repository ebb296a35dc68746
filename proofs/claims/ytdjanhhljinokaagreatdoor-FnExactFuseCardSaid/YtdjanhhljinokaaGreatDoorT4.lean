/- Part of the proof: Pm6. -/
import Derived.Test.YtdjanhhljinokaaGreatDoorT3
set_option linter.unusedVariables false
set_option linter.unusedSimpArgs false
namespace Go.Pm
section ops
variable {X:Cfg} {F:FH} {η:Et} {σ:St} {w:World} {K:AV→St→Prop}
def afieldAddr (X:Cfg) (s:TypeId) (p:AV) (f:Nat) (σ:St) (K:AV→St→Prop):Prop:=
 ∃ti,X.T s=some ti∧∃fs,ti.kind=.struct fs∧∃fd,fs[f]? = some fd∧∃tf,X.T fd.2=some tf∧0<tf.size∧
  match p with
  |.ref i off=>K (.ref i (off+fd.1)) σ
  |.ep i v k off=>K (.ep i v k (off+fd.1)) σ
  |.d (.ip cells off)=>K (.d (.ip cells (off+fd.1))) σ
  |_=>False
theorem J6I {P:Program} {s:TypeId} {a:Array Field} {f:Nat} {fd:Field} {i:TypeInfo} (hu:P.underlying s=some (.struct a)) (hf:a[f]? = some fd) (hi:P.info? fd.type=some i)
  (hp:i.size≠0) (b o:Nat) (w:World):(Instr.fieldAt s (.pointer (some ⟨b,o,none⟩)) f).run P w=.ok (.pointer (some ⟨b,o+fd.offset,none⟩)) w:=by
 simp[Instr.fieldAt,run_underlying hu,hf,Instr.sureAddr,fieldPlace,JN hi,hp,Addr.add_lit]
theorem J2J {a:Array Field} {f:Nat} {fd:Nat×TypeId} (h:(a.toList.map fun f=>(f.offset,f.type))[f]? = some fd):∃g,a[f]? = some g∧g.offset=fd.1∧g.type=fd.2:=by
 rw[List.getElem?_map]at h
 cases hg:a.toList[f]? with
 |none=>simp[hg]at h
 |some g=>
  simp only[hg,Option.map_some,Option.some.injEq]at h
  exact⟨g,by simpa using hg,by rw[←h],by rw[←h]⟩
theorem J51 (hg:GRel X F) (hf:FRel F w) (hs:SRel F η σ w) {s:TypeId} {p:AV} {f:Nat} {vp:Value} (hp:VRel F η σ.next p vp) (h:afieldAddr X s p f σ K):
  VOk X F η σ w ((Instr.fieldAt s vp f).run X.P w) K:=by
 obtain⟨ti,ht,fs,hkd,fd,hfd,tf,htf,hpos,hm⟩:=h
 obtain⟨d,i,z,hu,hd,hi,hsz,_⟩:=X.ok s ti ht
 rw[hkd]at hd
 obtain⟨a,rfl,rfl⟩:=J1N hd
 obtain⟨g,hga,hgo,hgt⟩:=J2J hfd
 obtain⟨d',i',z',hu',hd',hi',hsz',_⟩:=X.ok fd.2 tf htf
 rw[←hgt]at hi'
 have hrun:∀b o,(Instr.fieldAt s (.pointer (some ⟨b,o,none⟩)) f).run X.P w=.ok (.pointer (some ⟨b,o+fd.1,none⟩)) w:=fun b o=>by
  rw[←hgo];exact J6I hu hga hi' (by omega) b o w
 split at hm
 ·cases hp with|ref h1=>exact VOk.same hg hf hs (hrun _ _) (.ref h1) hm
 ·cases hp with
  |ep h1 h2 hh=>
   refine VOk.same hg hf hs (hrun _ _) ?_ hm
   rw[Nat.add_assoc];exact .ep h1 h2 hh
 ·cases hp with
  |d hd=>
   cases hd with
   |ip _ off b o c E fz f0 hb hc ho hr=>
    refine VOk.same hg hf hs (hrun _ _) ?_ hm
    rw[Nat.add_assoc];exact .d (.ip _ _ b o c E fz f0 hb hc ho hr)
 ·exact hm.elim
def afield (X:Cfg) (t:TypeId) (x:AV) (f:Nat) (σ:St) (K:AV→St→Prop):Prop:=
 ∃ti,X.T t=some ti∧∃fs,ti.kind=.struct fs∧∃fd,fs[f]? = some fd∧∃tf,X.T fd.2=some tf∧∃cs,x=.agg cs∧∃r,piece (isAggK tf.kind) cs fd.1 tf.size=some r∧K r σ
theorem J9M {P:Program} {n:Nat} {t:TypeId} {d:TypeDesc} {i:TypeInfo} (hu:P.underlying t=some d) (hi:P.info? t=some i) {cs:List AV} {vs:Array Value} {off:Nat}
  (hn:vs.size=cs.length) (hr:∀j (h:j<cs.length),VRel F η n cs[j] (vs.getD j undef)) {r:AV} (hp:piece (isAggK (kindOf d)) cs off i.size=some r) (w:World):
  ∃v,(part t vs off).run P w=.ok v w∧VRel F η n r v:=by
 unfold piece at hp
 cases hd:isAggK (kindOf d)with
 |true=>
  simp only[hd,if_true]at hp
  split at hp
  ·rename_i hle
   simp only[Option.some.injEq]at hp
   subst hp
   refine⟨.agg (vs.extract off (off+i.size)),by simp[part,J0W hu,hd,JN hi],.agg (by simp;omega) fun j hj=>?_⟩
   simp only[List.length_take,List.length_drop]at hj
   have:=hr (off+j) (by omega)
   have e:(vs.extract off (off+i.size)).getD j undef=vs.getD (off+j) undef:=by
    rw[Array.getD_eq_getD_getElem?,Array.getElem?_extract,if_pos (by omega),Array.getD_eq_getD_getElem?]
   rw[e]
   simpa using this
  ·simp at hp
 |false=>
  simp only[hd,Bool.false_eq_true,if_false]at hp
  obtain⟨hlt,rfl⟩:=List.getElem?_eq_some_iff.1 hp
  have hlt':off<vs.size:=by omega
  refine⟨vs[off],by simp[part,J0W hu,hd,hlt'],?_⟩
  have:=hr off hlt
  simpa[Array.getD,hlt']using this
theorem J8S (hg:GRel X F) (hf:FRel F w) (hs:SRel F η σ w) {t:TypeId} {x:AV} {f:Nat} {vx:Value} (hx:VRel F η σ.next x vx) (h:afield X t x f σ K):
  VOk X F η σ w ((Instr.field t vx f).run X.P w) K:=by
 obtain⟨ti,ht,fs,hkd,fd,hfd,tf,htf,cs,rfl,r,hr,hk⟩:=h
 obtain⟨d,i,z,hu,hd,hi,hsz,_⟩:=X.ok t ti ht
 rw[hkd]at hd
 obtain⟨a,rfl,rfl⟩:=J1N hd
 obtain⟨g,hga,hgo,hgt⟩:=J2J hfd
 obtain⟨d',i',z',hu',hd',hi',hsz',_⟩:=X.ok fd.2 tf htf
 cases hx with
 |agg hn hrel=>
  rw[←hd',←hsz']at hr
  obtain⟨v,hv,hvr⟩:=J9M hu' hi' hn hrel hr w
  refine VOk.same hg hf hs ?_ hvr hk
  rw[←hgt,←hgo]at hv
  simp[Instr.field,run_underlying hu,hga,asAgg,hv]
def optInt:Option AV→Option (Option Int)
 |none=>some none
 |some (.d (.s (.int _ n)))=>some (some n)
 |_=>none
def aslice (X:Cfg) (t:TypeId) (x:AV) (lo hi:Option AV) (σ:St) (K:AV→St→Prop):Prop:=
 ∃ti,X.T t=some ti∧∃l,optInt lo=some l∧∃h,optInt hi=some h∧
  match ti.kind,x with
  |.string,.d (.s (.string s))=>0≤l.getD 0∧l.getD 0≤h.getD s.size∧h.getD s.size≤s.size∧K (.d (.s (.string (s.extract (l.getD 0).toNat (h.getD s.size).toNat)))) σ
  |.slice e,.d (.im rows)=>0≤l.getD 0∧l.getD 0≤h.getD rows.length∧h.getD rows.length≤rows.length∧(∃te,X.T e=some te∧∀r∈rows,r.length=te.size)∧
    K (.d (.im ((rows.drop (l.getD 0).toNat).take ((h.getD rows.length).toNat-(l.getD 0).toNat)))) σ
  |.slice e,.d (.s (.slice none 0 0))=>l.getD 0=0∧h.getD 0=0∧(∃te,X.T e=some te)∧K (.d (.s (.slice none 0 0))) σ
  |.slice e,.sl i v a b=>0≤l.getD 0∧l.getD 0≤h.getD ((b-a:Nat):Int)∧h.getD ((b-a:Nat):Int)≤((b-a:Nat):Int)∧
    (∃te rows,X.T e=some te∧σ.obj i=some (.row v e te.size rows))∧
    K (.sl i v (a+(l.getD 0).toNat) (a+(h.getD ((b-a:Nat):Int)).toNat)) σ
  |_,_=>False
theorem J1b {P:Program} {lo hi:Option AV} {l h:Option Int} (hl:optInt lo=some l) (hh:optInt hi=some h) {vlo vhi:Option Value}
  (hlo:∀x v,lo=some x→vlo=some v→VRel F η σ.next x v) (hhi:∀x v,hi=some x→vhi=some v→VRel F η σ.next x v) (hln:lo.isSome=vlo.isSome) (hhn:hi.isSome=vhi.isSome)
  (sl:Bool) (len cap:Nat) (h1:0≤l.getD 0) (h2:l.getD 0≤h.getD len) (h3:h.getD len≤len) (h4:len≤cap) (w:World):
  (Instr.sliceBounds sl len cap vlo vhi none).run P w=.ok ((l.getD 0).toNat,(h.getD len).toNat,cap) w:=by
 have el:(vlo=none∧l=none)∨∃k n,vlo=some (.int k n)∧l=some n:=by
  cases lo with
  |none=>
   simp[optInt]at hl
   subst hl
   cases vlo with
   |none=>exact .inl ⟨rfl,rfl⟩
   |some v=>simp at hln
  |some x=>
   cases vlo with
   |none=>simp at hln
   |some v=>
    unfold optInt at hl
    split at hl
    ·simp_all
    ·rename_i k n he
     simp only[Option.some.injEq]at hl he
     subst hl;subst he
     have:=(hlo _ v rfl rfl).s_inv
     exact .inr ⟨k,n,by rw[this],rfl⟩
    ·simp at hl
 have eh:(vhi=none∧h=none)∨∃k n,vhi=some (.int k n)∧h=some n:=by
  cases hi with
  |none=>
   simp[optInt]at hh
   subst hh
   cases vhi with
   |none=>exact .inl ⟨rfl,rfl⟩
   |some v=>simp at hhn
  |some x=>
   cases vhi with
   |none=>simp at hhn
   |some v=>
    unfold optInt at hh
    split at hh
    ·simp_all
    ·rename_i k n he
     simp only[Option.some.injEq]at hh he
     subst hh;subst he
     have:=(hhi _ v rfl rfl).s_inv
     exact .inr ⟨k,n,by rw[this],rfl⟩
    ·simp at hh
 rcases el with⟨rfl,rfl⟩|⟨kl,nl,rfl,rfl⟩<;>rcases eh with⟨rfl,rfl⟩|⟨kh,nh,rfl,rfl⟩<;>simp only[Option.getD_none,Option.getD_some]at h1 h2 h3 ⊢
 ·simp[Instr.sliceBounds]
 ·have:nh≤(cap:Int):=by omega
  simp[Instr.sliceBounds,run_sliceBound,h2,this]
 ·have:nl≤(len:Int):=by omega
  simp[Instr.sliceBounds,run_sliceBound,h1,this]
 ·have h5:nh≤(cap:Int):=by omega
  have h6:0≤nh:=by omega
  have h7:nl≤((nh.toNat:Nat):Int):=by omega
  have h8:=run_sliceBound (P:=P) w kl nl nh.toNat .sliceB h1 h7
  simp only[Instr.sliceBounds,Sem.run_bind,Sem.run_pure,Result.andThen_ok,run_sliceBound w kh nh cap _ h6 h5,Option.isSome_none,Bool.false_eq_true,if_false,h8]
theorem J4n {α:Type} (rows:List α) (l h k:Nat) (hk:k<((rows.drop l).take (h-l)).length):l+k<rows.length∧((rows.drop l).take (h-l))[k]? = rows[l+k]?:=by
 simp only[List.length_take,List.length_drop]at hk
 refine⟨by omega,?_⟩
 rw[List.getElem?_take,if_pos (by omega),List.getElem?_drop]
theorem J8P (hg:GRel X F) (hf:FRel F w) (hs:SRel F η σ w) {t:TypeId} {x:AV} {lo hi:Option AV} {vx:Value} {vlo vhi:Option Value} (hx:VRel F η σ.next x vx)
  (hlo:∀x v,lo=some x→vlo=some v→VRel F η σ.next x v) (hhi:∀x v,hi=some x→vhi=some v→VRel F η σ.next x v) (hln:lo.isSome=vlo.isSome) (hhn:hi.isSome=vhi.isSome)
  (h:aslice X t x lo hi σ K):VOk X F η σ w ((Instr.sliceAt t vx vlo vhi none).run X.P w) K:=by
 obtain⟨ti,ht,l,hl,h,hh,hm⟩:=h
 obtain⟨d,i,z,hu,hd,hi',hsz,_⟩:=X.ok t ti ht
 split at hm
 ·rename_i s hkd
  rw[hkd]at hd
  have:=JW hd
  subst this
  have:=hx.s_inv
  subst this
  obtain⟨h1,h2,h3,hk⟩:=hm
  have hb:=J1b (P:=X.P) hl hh hlo hhi hln hhn false s.size s.size h1 h2 h3 (Nat.le_refl _) w
  refine VOk.same hg hf hs (v:=.string (s.extract (l.getD 0).toNat (h.getD s.size).toNat)) ?_ (.d (.s _)) hk
  simp[Instr.sliceAt,Instr.slice,run_underlying hu,hb]
 ·rename_i e rows hkd
  rw[hkd]at hd
  have:=JO hd
  subst this
  obtain⟨h1,h2,h3,⟨te,hte,hlen⟩,hk⟩:=hm
  obtain⟨d2,i2,z2,hu2,hd2,hi2,hsz2,_⟩:=X.ok e te hte
  have key:∀(a:Option Addr) (cap:Nat),rows.length≤cap→(Instr.sliceAt t (.slice a rows.length cap) vlo vhi none).run X.P w =
    .ok (.slice (if cap=(l.getD 0).toNat then a else a.map (·.add ((l.getD 0).toNat*te.size))) ((h.getD rows.length).toNat-(l.getD 0).toNat) (cap-(l.getD 0).toNat)) w:=by
   intro a cap hc
   have hb:=J1b (P:=X.P) hl hh hlo hhi hln hhn true rows.length cap h1 h2 h3 hc w
   simp[Instr.sliceAt,Instr.slice,run_underlying hu,hb,JN hi2,hsz2]
  cases hx with
  |d hd=>
   cases hd with
   |im0 a cap=>
    have hh0:(h.getD (([]:List (List D)).length:Int)).toNat=0:=by simp at h3 ⊢;omega
    refine VOk.same hg hf hs (key a cap (Nat.zero_le _)) ?_ hk
    rw[hh0]
    simp only[List.drop_nil,List.take_nil,Nat.zero_sub]
    exact .d (.im0 _ _)
   |im rows b o cap sz c E fz f hb hcap hszr hc ho hr=>
    have hlen2:((rows.drop (l.getD 0).toNat).take ((h.getD rows.length).toNat-(l.getD 0).toNat)).length=(h.getD rows.length).toNat-(l.getD 0).toNat:=by
     simp only[List.length_take,List.length_drop];omega
    by_cases hz:(h.getD rows.length).toNat-(l.getD 0).toNat=0
    ·refine VOk.same hg hf hs (key _ cap hcap) ?_ hk
     rw[hz,List.take_zero]
     exact .d (.im0 _ _)
    ·have hcl:¬cap=(l.getD 0).toNat:=by omega
     have hk':=key (some ⟨b,o,none⟩) cap hcap
     rw[if_neg hcl,Option.map_some,Addr.add_lit]at hk'
     refine VOk.same hg hf hs hk' ?_ hk
     obtain⟨r0,hr0⟩:∃r,r∈rows:=⟨rows[0]'(by omega),List.getElem_mem _⟩
     have hss:te.size=sz:=by rw[←hlen r0 hr0,hszr r0 hr0]
     rw[hss]
     have hgk:∀k (hk:k<((rows.drop (l.getD 0).toNat).take ((h.getD rows.length).toNat-(l.getD 0).toNat)).length),
       ∃h1:(l.getD 0).toNat+k<rows.length,((rows.drop (l.getD 0).toNat).take ((h.getD rows.length).toNat-(l.getD 0).toNat))[k]=rows[(l.getD 0).toNat+k]:=by
      intro k hk
      obtain⟨h1,h2⟩:=J4n rows _ _ k hk
      refine⟨h1,?_⟩
      rw[List.getElem?_eq_getElem hk,List.getElem?_eq_getElem h1]at h2
      exact Option.some.inj h2
     have:=DRel.im (F:=F) ((rows.drop (l.getD 0).toNat).take ((h.getD rows.length).toNat-(l.getD 0).toNat)) b (o+(l.getD 0).toNat*sz) (cap-(l.getD 0).toNat) sz c E fz (fun k j=>f ((l.getD 0).toNat+k) j) hb
      (by rw[hlen2];omega) (fun r hr=>hszr r (List.mem_of_mem_drop (List.mem_of_mem_take hr)))
      (fun k hk j hj=>by
       obtain⟨h1,h2⟩:=hgk k hk
       have:=hc _ h1 j hj
       rw[Nat.add_mul]at this
       rw[show o+(l.getD 0).toNat*sz+k*sz+j=o+((l.getD 0).toNat*sz+k*sz)+j by omega]
       exact this)
      (fun k hk j hj=>by obtain⟨h1,h2⟩:=hgk k hk;exact ho _ h1 j hj)
      (fun k hk j hj=>by
       obtain⟨h1,h2⟩:=hgk k hk
       have hj2:j<(rows[(l.getD 0).toNat+k]).length:=by rw[←h2];exact hj
       have e2:(((rows.drop (l.getD 0).toNat).take ((h.getD rows.length).toNat-(l.getD 0).toNat))[k]'hk)[j]'hj=(rows[(l.getD 0).toNat+k])[j]'hj2:=by simp only[h2]
       rw[e2]
       exact hr _ h1 j hj2)
     rw[hlen2]at this
     exact .d this
 ·rename_i e hkd
  rw[hkd]at hd
  have:=JO hd
  subst this
  obtain⟨h1,h2,⟨te,hte⟩,hk⟩:=hm
  obtain⟨d2,i2,z2,hu2,hd2,hi2,hsz2,_⟩:=X.ok e te hte
  have:=hx.s_inv
  subst this
  have hb:=J1b (P:=X.P) hl hh hlo hhi hln hhn true 0 0 (by omega) (by rw[h1];simp[h2]) (by simp[h2]) (Nat.le_refl _) w
  simp only[Int.natCast_zero,h1,h2,Int.toNat_zero]at hb
  refine VOk.same hg hf hs ?_ (.d (.s _)) hk
  simp[Instr.sliceAt,Instr.slice,run_underlying hu,hb,JN hi2]
 ·rename_i e i1 v a b hkd
  rw[hkd]at hd
  have:=JO hd
  subst this
  obtain⟨h1,h2,h3,⟨te,rows,hte,ho⟩,hk⟩:=hm
  obtain⟨d2,i2,z2,hu2,hd2,hi2,hsz2,_⟩:=X.ok e te hte
  cases hs.ob i1 _ ho with
  |row xs hv hs' hpos hown hszr ho1 hrr=>
  cases hx with
  |sl0 g1 g2 hhd=>
   simp only[Nat.sub_self,Int.natCast_zero]at h2 h3 hk
   have hl0:(l.getD 0).toNat=0:=by omega
   have hh0:(h.getD 0).toNat=0:=by omega
   have hb:=J1b (P:=X.P) hl hh hlo hhi hln hhn true 0 0 h1 (by simpa using h2) (by simpa using h3) (Nat.le_refl _) w
   simp only[Int.natCast_zero,hl0,hh0]at hb
   rw[hl0,hh0]at hk
   refine VOk.same hg hf hs (v:=.slice none 0 0) ?_ (.sl0 g1 g2 hhd) hk
   simp[Instr.sliceAt,Instr.slice,run_underlying hu,hb,JN hi2]
  |@sl _ _ _ _ blk cap sz off g1 g2 hhd hle hc hoff=>
   have hb:=J1b (P:=X.P) hl hh hlo hhi hln hhn true (b-a) (cap-a) h1 h2 h3 (by omega) w
   have hsz3:te.size=sz:=by rw[←hs',hhd]
   have e1:(h.getD ((b-a:Nat):Int)).toNat-(l.getD 0).toNat=(a+(h.getD ((b-a:Nat):Int)).toNat)-(a+(l.getD 0).toNat):=by omega
   have e2:cap-a-(l.getD 0).toNat=cap-(a+(l.getD 0).toNat):=by omega
   by_cases hcl:cap-a=(l.getD 0).toNat
   ·refine VOk.same hg hf hs (v:=.slice (some ⟨blk,off,none⟩) ((a+(h.getD ((b-a:Nat):Int)).toNat)-(a+(l.getD 0).toNat)) (cap-(a+(l.getD 0).toNat))) ?_ (.sl g1 g2 hhd (by omega) (by omega) (by omega)) hk
    rw[←e1,←e2]
    rw[hcl]at hb
    simp[Instr.sliceAt,Instr.slice,run_underlying hu,hb,JN hi2,hcl]
   ·have ho2:=hoff (by omega)
    refine VOk.same hg hf hs (v:=.slice (some ⟨blk,off+(l.getD 0).toNat*te.size,none⟩) ((a+(h.getD ((b-a:Nat):Int)).toNat)-(a+(l.getD 0).toNat)) (cap-(a+(l.getD 0).toNat))) ?_
     (.sl g1 g2 hhd (by omega) (by omega) (fun _=>by rw[ho2,hsz3,Nat.add_mul])) hk
    rw[←e1,←e2]
    simp[Instr.sliceAt,Instr.slice,run_underlying hu,hb,JN hi2,hsz2,hcl,Addr.add_lit]
 ·exact hm.elim
def aindexAddr (X:Cfg) (t:TypeId) (x ix:AV) (σ:St) (K:AV→St→Prop):Prop:=
 ∃n:Int,(∃k,ix=.d (.s (.int k n)))∧0≤n∧∃ti,X.T t=some ti∧
  match ti.kind,x with
  |.slice e,.d (.im rows)=>n<rows.length∧∃te,X.T e=some te∧∃r,rows[n.toNat]? = some r∧r.length=te.size∧K (.d (.ip r 0)) σ
  |.slice e,.sl i v lo hi=>n<((hi-lo:Nat):Int)∧(∃te rows,X.T e=some te∧σ.obj i=some (.row v e te.size rows))∧K (.ep i v (lo+n.toNat) 0) σ
  |.array m e,.ref i off=>n<m∧∃te,X.T e=some te∧K (.ref i (off+n.toNat*te.size)) σ
  |.array m e,.ep i v k off=>n<m∧∃te,X.T e=some te∧K (.ep i v k (off+n.toNat*te.size)) σ
  |.array m e,.d (.ip cs off)=>n<m∧∃te,X.T e=some te∧K (.d (.ip cs (off+n.toNat*te.size))) σ
  |_,_=>False
theorem J4Z (hg:GRel X F) (hf:FRel F w) (hs:SRel F η σ w) {t:TypeId} {x ix:AV} {vx vi:Value} (hx:VRel F η σ.next x vx) (hi:VRel F η σ.next ix vi)
  (h:aindexAddr X t x ix σ K):VOk X F η σ w ((Instr.indexAt t vx vi).run X.P w) K:=by
 obtain⟨n,⟨k,rfl⟩,hn,ti,ht,hm⟩:=h
 have:=hi.s_inv
 subst this
 obtain⟨d,i,z,hu,hd,hi',hsz,_⟩:=X.ok t ti ht
 have arr:∀{m e:Nat} {te:TI},ti.kind=.array m e→X.T e=some te→n<m→∀b o,(Instr.indexAt t (.pointer (some ⟨b,o,none⟩)) (.int k n)).run X.P w=.ok (.pointer (some ⟨b,o+n.toNat*te.size,none⟩)) w:=by
  intro m e te hkd hte hnm b o
  rw[hkd]at hd
  have:=J4B hd
  subst this
  obtain⟨d2,i2,z2,hu2,hd2,hi2,hsz2,_⟩:=X.ok e te hte
  simp[Instr.indexAt,asIntOf,run_underlying hu,Instr.sureAddr,hn,hnm,JN hi2,hsz2,Addr.add_lit]
 split at hm
 ·rename_i e rows hkd
  rw[hkd]at hd
  have:=JO hd
  subst this
  obtain⟨hlt,te,hte,r,hr,hrl,hk⟩:=hm
  obtain⟨d2,i2,z2,hu2,hd2,hi2,hsz2,_⟩:=X.ok e te hte
  cases hx with
  |d hd=>
   cases hd with
   |im0 a cap=>simp at hlt;omega
   |im rows b o cap sz c E fz f hb hcap hszr hc ho hrr=>
    obtain⟨hkl,rfl⟩:=List.getElem?_eq_some_iff.1 hr
    have hss:te.size=sz:=by rw[←hrl,hszr _ (List.getElem_mem hkl)]
    refine VOk.same hg hf hs (v:=.pointer (some ⟨b,o+n.toNat*te.size+0,none⟩)) ?_ ?_ hk
    ·simp[Instr.indexAt,asIntOf,run_underlying hu,hn,hlt,JN hi2,hsz2,Addr.add_lit]
    ·rw[hss]
     exact .d (.ip _ 0 b (o+n.toNat*sz) c E fz (f n.toNat) hb (fun j hj=>by rw[hszr _ (List.getElem_mem hkl)]at hj;exact hc _ hkl j hj)
      (fun j hj=>by rw[hszr _ (List.getElem_mem hkl)]at hj;exact ho _ hkl j hj) (fun j hj=>hrr _ hkl j hj))
 ·rename_i e i1 v lo hi1 hkd
  rw[hkd]at hd
  have:=JO hd
  subst this
  obtain⟨hlt,⟨te,rows,hte,ho⟩,hk⟩:=hm
  obtain⟨d2,i2,z2,hu2,hd2,hi2,hsz2,_⟩:=X.ok e te hte
  cases hx with
  |sl0 g1 g2 hhd=>simp at hlt;omega
  |@sl _ _ _ _ blk cap sz off g1 g2 hhd hle hc hoff=>
   cases hs.ob i1 _ ho with
   |row xs hv hs' hpos hown hszr ho1 hrr=>
   have hsz3:te.size=sz:=by rw[←hs',hhd]
   have ho2:=hoff (by omega)
   refine VOk.same hg hf hs (v:=.pointer (some ⟨blk,(lo+n.toNat)*sz+0,none⟩)) ?_ (.ep g1 g2 hhd) hk
   simp[Instr.indexAt,asIntOf,run_underlying hu,hn,hlt,JN hi2,hsz2,Addr.add_lit,ho2,hsz3,Nat.add_mul]
 ·rename_i m e i1 off hkd
  obtain⟨hlt,te,hte,hk⟩:=hm
  cases hx with
  |ref g1=>exact VOk.same hg hf hs (arr hkd hte hlt _ _) (.ref g1) hk
 ·rename_i m e i1 v k1 off hkd
  obtain⟨hlt,te,hte,hk⟩:=hm
  cases hx with
  |ep g1 g2 hhd=>
   refine VOk.same hg hf hs (arr hkd hte hlt _ _) ?_ hk
   rw[Nat.add_assoc];exact .ep g1 g2 hhd
 ·rename_i m e cs off hkd
  obtain⟨hlt,te,hte,hk⟩:=hm
  cases hx with
  |d hd=>
   cases hd with
   |ip _ _ b o c E fz f hb hc ho hr=>
    refine VOk.same hg hf hs (arr hkd hte hlt _ _) ?_ hk
    rw[Nat.add_assoc];exact .d (.ip _ _ b o c E fz f hb hc ho hr)
 ·exact hm.elim
def aindex (X:Cfg) (t:TypeId) (x ix:AV) (σ:St) (K:AV→St→Prop):Prop:=
 ∃n:Int,(∃k,ix=.d (.s (.int k n)))∧0≤n∧∃ti,X.T t=some ti∧
  match ti.kind,x with
  |.string,.d (.s (.string s))=>∃b,s[n.toNat]? = some b∧K (.d (.s (.int .u8 b.toNat))) σ
  |_,_=>False
theorem J8V (hg:GRel X F) (hf:FRel F w) (hs:SRel F η σ w) {t:TypeId} {x ix:AV} {vx vi:Value} (hx:VRel F η σ.next x vx) (hi:VRel F η σ.next ix vi)
  (h:aindex X t x ix σ K):VOk X F η σ w ((Instr.index t vx vi).run X.P w) K:=by
 obtain⟨n,⟨k,rfl⟩,hn,ti,ht,hm⟩:=h
 have:=hi.s_inv
 subst this
 obtain⟨d,i,z,hu,hd,hi',hsz,_⟩:=X.ok t ti ht
 split at hm
 ·rename_i s hkd
  rw[hkd]at hd
  have:=JW hd
  subst this
  have:=hx.s_inv
  subst this
  obtain⟨b,hb,hk⟩:=hm
  refine VOk.same hg hf hs (v:=.int .u8 b.toNat) ?_ (.d (.s _)) hk
  simp[Instr.index,asIntOf,run_underlying hu,hn,hb]
 ·exact hm.elim
def alen (X:Cfg) (t:TypeId) (x:AV) (σ:St) (K:AV→St→Prop):Prop:=
 ∃ti,X.T t=some ti∧
  match ti.kind,x with
  |.string,.d (.s (.string s))=>K (.d (.s (.int .i64 s.size))) σ
  |.slice _,.d (.im rows)=>K (.d (.s (.int .i64 rows.length))) σ
  |.slice _,.d (.s (.slice _ n _))=>K (.d (.s (.int .i64 n))) σ
  |.slice _,.sl _ _ lo hi=>K (.d (.s (.int .i64 ((hi-lo:Nat):Int)))) σ
  |.map _ _,.d (.mp _ es)=>K (.d (.s (.int .i64 es.length))) σ
  |.map _ _,.mp i=>∃kk es,σ.obj i=some (.map kk es)∧K (.d (.s (.int .i64 es.length))) σ
  |_,_=>False
theorem Jb8 (hg:GRel X F) (hf:FRel F w) (hs:SRel F η σ w) {t ty:TypeId} {x:AV} {vx:Value} (hx:VRel F η σ.next x vx) (h:alen X t x σ K):
  VOk X F η σ w ((Builtin.len_ #[t] ty #[vx]).run X.P w) K:=by
 obtain⟨ti,ht,hm⟩:=h
 obtain⟨d,i,z,hu,hd,hi',hsz,_⟩:=X.ok t ti ht
 split at hm
 ·rename_i s hkd
  rw[hkd]at hd
  have:=JW hd
  subst this
  have:=hx.s_inv
  subst this
  refine VOk.same hg hf hs ?_ (.d (.s _)) hm
  simp[Builtin.len_,run_underlying hu,goInt]
 ·rename_i e rows hkd
  rw[hkd]at hd
  have:=JO hd
  subst this
  cases hx with
  |d hd=>
   cases hd with
   |im0 a cap=>
    refine VOk.same hg hf hs ?_ (.d (.s _)) hm
    simp[Builtin.len_,run_underlying hu,goInt]
   |im=>
    refine VOk.same hg hf hs ?_ (.d (.s _)) hm
    simp[Builtin.len_,run_underlying hu,goInt]
 ·rename_i e a n c hkd
  rw[hkd]at hd
  have:=JO hd
  subst this
  have:=hx.s_inv
  subst this
  refine VOk.same hg hf hs ?_ (.d (.s _)) hm
  simp[Builtin.len_,run_underlying hu,goInt]
 ·rename_i e i1 v lo hi hkd
  rw[hkd]at hd
  have:=JO hd
  subst this
  cases hx with
  |sl0=>
   refine VOk.same hg hf hs ?_ (.d (.s _)) hm
   simp[Builtin.len_,run_underlying hu,goInt]
  |sl=>
   refine VOk.same hg hf hs ?_ (.d (.s _)) hm
   simp[Builtin.len_,run_underlying hu,goInt]
 ·rename_i k e kk es hkd
  rw[hkd]at hd
  have:=J2Q hd
  subst this
  cases hx with
  |d hd=>
   cases hd with
   |mp0=>
    refine VOk.same hg hf hs ?_ (.d (.s _)) hm
    simp[Builtin.len_,run_underlying hu,goInt]
   |mp _ _ r ents clock f π hb hn hff hdd hk hsu hr=>
    refine VOk.same hg hf hs ?_ (.d (.s _)) hm
    have:=hf _ _ hb
    simp[Builtin.len_,run_underlying hu,goInt,getObj,Sem.run,this,hn]
 ·rename_i k e i1 hkd
  rw[hkd]at hd
  have:=J2Q hd
  subst this
  obtain⟨kk,es,ho,hk⟩:=hm
  cases hx with
  |mp g1=>
   cases hs.ob i1 _ ho with
   |map ents clock hb hn hff hkk hdd hb1 hb2 hr=>
    refine VOk.same hg hf hs ?_ (.d (.s _)) hk
    simp[Builtin.len_,run_underlying hu,goInt,getObj,Sem.run,hb,hn]
 ·exact hm.elim
def abin (op:BinOp) (x y:Value):Option Value:=
 match op,x,y with
 |.add,.int k a,.int k' b=>if k=k' then some (.int k (k.wrap (a+b)))else none
 |.sub,.int k a,.int k' b=>if k=k' then some (.int k (k.wrap (a-b)))else none
 |.mul,.int k a,.int k' b=>if k=k' then some (.int k (k.wrap (a*b)))else none
 |.quo,.int k a,.int k' b=>if k=k'∧b≠0 then some (.int k (k.wrap (a.tdiv b)))else none
 |.rem,.int k a,.int k' b=>if k=k'∧b≠0 then some (.int k (a.tmod b))else none
 |.eql,.int k a,.int k' b=>if k=k' then some (.bool (decide (a=b)))else none
 |.neq,.int k a,.int k' b=>if k=k' then some (.bool (decide (a≠b)))else none
 |.lss,.int k a,.int k' b=>if k=k' then some (.bool (decide (a<b)))else none
 |.leq,.int k a,.int k' b=>if k=k' then some (.bool (decide (a≤b)))else none
 |.gtr,.int k a,.int k' b=>if k=k' then some (.bool (decide (b<a)))else none
 |.geq,.int k a,.int k' b=>if k=k' then some (.bool (decide (b≤a)))else none
 |.add,.string a,.string b=>if a.size+b.size≤9223372036854775807 then some (.string (a++b))else none
 |.eql,.string a,.string b=>some (.bool (decide (a=b)))
 |.neq,.string a,.string b=>some (.bool (decide (a≠b)))
 |_,_,_=>none
theorem J3i (a b:ByteArray):(a.toList == b.toList)=decide (a=b):=by
 by_cases h:a=b
 ·subst h;simp
 ·have:a.toList≠b.toList:=by
   intro he
   apply h
   have h2:a.data.toList=b.data.toList:=by simpa[ByteArray.toList_eq]using he
   cases a;cases b;simp_all
  simp[h,this]
theorem J67 (a b:Int):(a == b)=decide (a=b):=by rw[Bool.eq_iff_iff];simp
theorem JaR (a b:Int):(a != b)=decide (a≠b):=by rw[Bool.eq_iff_iff];simp
theorem Jb6 {op:BinOp} {x y r:Value} (h:abin op x y=some r) (t:TypeId) (ox oy:Operand) (P:Program) (w:World):
  (do eqGuard op t ox oy x y;binOp op t x y:Sem Value).run P w=.ok r w:=by
 have hgd:(eqGuard op t ox oy x y).run P w=.ok () w:=by
  unfold abin at h
  split at h<;>first|(simp at h;done)|(rw[eqGuard_at_int];rfl)|(rw[eqGuard_at_string];rfl)
 rw[Sem.run_bind,hgd,Result.andThen_ok]
 unfold abin at h
 split at h
 all_goals first
  |(simp at h;done)
  |(injection h with h
    subst h
    simp[binOp,Op.stringOp,J3i];done)
  |(split at h
    ·rename_i hc
     injection h with h
     subst h
     first
      |(subst hc;simp only[binOp,Op.intArith,Op.intCmp,J67,JaR,ne_eq,not_true_eq_false,if_false];rfl)
      |(obtain⟨rfl,hb⟩:=hc;simp[binOp,Op.intDiv,hb];done)
      |(show(Op.stringOp .add _ _).run P w=_;exact run_string_add_sum _ _ _ hc)
    ·simp at h)
end ops
end Go.Pm
/- Part of the proof: Pm7. -/
namespace Go.Pm
def afind {α:Type}:List (Value×α)→Value→Option α
 |[],_=>none
 |(k',v)::es,k=>if keyEq k k' then some v else afind es k
def aput {α:Type}:List (Value×α)→Value→α→List (Value×α)
 |[],k,v=>[(k,v)]
 |(k',u)::es,k,v=>if keyEq k k' then(k',v)::es else(k',u)::aput es k v
section ops
variable {X:Cfg} {F:FH} {η:Et} {σ:St} {w:World} {K:AV→St→Prop}
theorem J5k (a b:ByteArray):(a == b)=decide (a=b):=by
 have h:(a == b)=(a.data == b.data):=rfl
 rw[h,Bool.eq_iff_iff]
 simp only[beq_iff_eq,decide_eq_true_eq]
 constructor
 ·intro h;cases a;cases b;simp_all
 ·intro h;rw[h]
theorem J6F {d:TypeDesc} {kk:KD} (hd:kindOf d=kk) {a b:Value} (ha:keyFit kk a=true) (hb:keyFit kk b=true):Instr.sameNow d a b=some (keyEq a b):=by
 cases kk<;>cases a<;>simp[keyFit]at ha<;>cases b<;>simp[keyFit]at hb
 ·have:=J29 hd;subst this;simp[Instr.sameNow,keyEq]
 ·have:=J1Y hd
  subst this;subst ha;subst hb
  simp only[Instr.sameNow,if_true,keyEq,J67]
 ·have:=JW hd;subst this;simp only[Instr.sameNow,keyEq,J5k]
theorem J3A {d:TypeDesc} {kk:KD} (hd:kindOf d=kk) {k:Value} (hk:keyFit kk k=true):∀(l:List MapEntry) (i:Nat),(∀e∈l,keyFit kk e.key=true)→
  Instr.findNow d k l i=some (match l.findIdx? (fun e=>keyEq k e.key)with|some j=>some (i+j,(l.getD j default).val)|none=>none)
 |[],i,_=>by simp[Instr.findNow]
 |e::l,i,h=>by
  have h1:=J6F hd hk (h e (by simp))
  have ih:=J3A hd hk l (i+1) fun e he=>h e (by simp[he])
  unfold Instr.findNow
  rw[h1]
  cases hq:keyEq k e.key with
  |true=>simp[List.findIdx?_cons,hq]
  |false=>
   simp only[ih]
   simp only[List.findIdx?_cons,hq]
   cases l.findIdx? (fun e=>keyEq k e.key)with
   |none=>simp
   |some j=>simp;omega
theorem J3C {P:Program} {t:TypeId} {d:TypeDesc} {kk:KD} (hu:P.underlying t=some d) (hd:kindOf d=kk) {k:Value} (hk:keyFit kk k=true) (l:List MapEntry)
  (h:∀e∈l,keyFit kk e.key=true) (w:World):
  (Instr.findKey t k l).run P w=.ok (match l.findIdx? (fun e=>keyEq k e.key)with|some j=>some (j,(l.getD j default).val)|none=>none) w:=by
 simp only[Instr.findKey,Sem.run_bind,run_underlying hu,Result.andThen_ok,J3A hd hk l 0 h]
 simp
theorem J32 {P:Program} {t:TypeId} {d:TypeDesc} {kk:KD} (hu:P.underlying t=some d) (hd:kindOf d=kk) {k:Value} (hk:keyFit kk k=true) (e:Bool) (w:World):
  (Instr.checkKey e 10000 t k).run P w=.ok () w:=by
 unfold Instr.checkKey
 simp only[Sem.run_bind,run_underlying hu,Result.andThen_ok]
 cases kk<;>cases k<;>simp[keyFit]at hk
 ·have:=J29 hd;subst this;rfl
 ·have:=J1Y hd;subst this;rfl
 ·have:=JW hd;subst this;rfl
theorem J56 {α:Type} (k:Value):∀(es:List (Value×α)) (l:List MapEntry),es.length=l.length→(∀j (h:j<es.length) (h':j<l.length),(l[j]).key=(es[j]).1)→
  (match l.findIdx? (fun e=>keyEq k e.key)with|some j=>∃(h:j<es.length),afind es k=some (es[j]).2|none=>afind es k=none)
 |[],[],_,_=>by simp[afind]
 |(k',v)::es,e::l,hl,h=>by
  have h0:e.key=k':=h 0 (by simp) (by simp)
  have ih:=J56 k es l (by simpa using hl) fun j h1 h2=>by have:=h (j+1) (by simp;omega) (by simp;omega);simpa using this
  simp only[List.findIdx?_cons,h0,afind]
  cases hq:keyEq k k' with
  |true=>simp
  |false=>
   cases hi:l.findIdx? (fun e=>keyEq k e.key)with
   |none=>simp only[hi]at ih;simp[ih]
   |some j=>
    simp only[hi]at ih
    obtain⟨hj,e1⟩:=ih
    simp only[Option.map_some,Bool.false_eq_true,if_false]
    exact⟨by simp;omega,by simp[e1]⟩
 |[],e::l,hl,_=>by simp at hl
 |x::es,[],hl,_=>by simp at hl
def entriesOf (σ:St):AV→Option (List (Value×AV))
 |.d (.mp _ es)=>some (es.map fun e=>(e.1,.d e.2))
 |.d (.s (.map none))=>some []
 |.mp i=>match σ.obj i with|some (.map _ es)=>some es|_=>none
 |_=>none
def kindOfMap (σ:St) (k0:KD):AV→KD
 |.d (.mp k _)=>k
 |.mp i=>match σ.obj i with|some (.map k _)=>k|_=>k0
 |_=>k0
def azero (ti:TI):AV:=if isAggK ti.kind then .agg (zrow ti)else .d (.s (ti.zero.headD undef))
def alookup (X:Cfg) (t:TypeId) (m k:AV) (ok:Bool) (σ:St) (K:AV→St→Prop):Prop:=
 ∃ti,X.T t=some ti∧∃kt et,ti.kind=.map kt et∧∃tk te,X.T kt=some tk∧X.T et=some te∧∃kv,k=.d (.s kv)∧keyFit tk.kind kv=true∧kindOfMap σ tk.kind m=tk.kind∧
  ∃es,entriesOf σ m=some es∧K (if ok then .tup [(afind es kv).getD (azero te),.d (.s (.bool (afind es kv).isSome))]else(afind es kv).getD (azero te)) σ
theorem J8o {ti:TI} {t:TypeId} (ht:X.T t=some ti):∃z i,X.P.info? t=some i∧i.zero=some z∧VRel F η σ.next (azero ti) z:=by
 obtain⟨d,i,z,hu,hd,hi,hsz,hby,hz,hzc,hzl,hz1,hzn,hza⟩:=X.ok t ti ht
 refine⟨z,i,hi,hz,?_⟩
 unfold azero
 cases hag:isAggK ti.kind with
 |true=>
  rw[hza hag]
  exact .agg (by simp[zrow]) fun j hj=>J30 j hj
 |false=>
  rw[hzn hag]
  exact .d (.s _)
theorem J6u {F:FH} {η:Et} {n:Nat} {x y:AV} {u v:Value} (h1:VRel F η n x u) (h2:VRel F η n y v):VRel F η n (.tup [x,y]) (.tuple #[u,v]):=
 .tup rfl fun j hj=>by
  match j,hj with
  |0,_=>exact h1
  |1,_=>exact h2
theorem J7E (hg:GRel X F) (hf:FRel F w) (hs:SRel F η σ w) {t:TypeId} {m k:AV} {vm vk:Value} {ok:Bool} (hm:VRel F η σ.next m vm) (hkr:VRel F η σ.next k vk)
  (h:alookup X t m k ok σ K):VOk X F η σ w ((Instr.lookup t vm vk ok).run X.P w) K:=by
 obtain⟨ti,ht,kt,et,hkd,tk,te,htk,hte,kv,rfl,hfit,hkm,es,hes,hK⟩:=h
 have:=hkr.s_inv
 subst this
 obtain⟨d,i,z,hu,hd,hi,_⟩:=X.ok t ti ht
 rw[hkd]at hd
 have:=J2Q hd
 subst this
 obtain⟨d2,i2,z2,hu2,hd2,hi2,_⟩:=X.ok kt tk htk
 obtain⟨z,iz,hiz,hzz,hzr⟩:=J8o (F:=F) (η:=η) (σ:=σ) hte
 have hzv:(zeroValue et).run X.P w=.ok z w:=by simp[zeroValue,typeInfo,hiz,hzz]
 -- the entries as they stand
 have key:∃l:List MapEntry,((vm=.map none∧l=[])∨∃r clock,vm=.map (some r)∧w.heap[r]? = some (.map l.toArray clock))∧(∀e∈l,keyFit tk.kind e.key=true)∧
   (match l.findIdx? (fun e=>keyEq vk e.key)with
    |some j=>∃x,afind es vk=some x∧VRel F η σ.next x (l.getD j default).val
    |none=>afind es vk=none):=by
  cases hm with
  |d hd=>
   cases hd with
   |s v=>
    cases vm<;>simp[entriesOf]at hes
    rename_i r
    cases r<;>simp at hes
    subst hes
    exact⟨[],.inl ⟨rfl,rfl⟩,by simp,by simp[afind]⟩
   |mp0 kk=>
    simp[entriesOf]at hes
    subst hes
    exact⟨[],.inl ⟨rfl,rfl⟩,by simp,by simp[afind]⟩
   |mp kk es' r ents clock f π hb hn hff hdd hk hsu hr=>
    simp only[entriesOf,Option.some.injEq]at hes
    subst hes
    simp only[kindOfMap]at hkm
    subst hkm
    have hbw:=hf _ _ hb
    have hkey:∀j (h:j<es'.length),∃h':π j<ents.toList.length,(ents.toList[π j]).key=(es'[j]).1∧(ents.toList[π j]).val=f j:=by
     intro j h
     have:=hk j h
     cases hg:ents[π j]? with
     |none=>simp[hg]at this
     |some e=>
      obtain⟨h1,h2⟩:=Array.getElem?_eq_some_iff.1 hg
      simp only[hg,Option.map_some,Option.some.injEq,Prod.mk.injEq]at this
      exact⟨by simpa using h1,by simpa[h2]using this⟩
    have hfits:∀e∈ents.toList,keyFit tk.kind e.key=true:=by
     intro e he
     obtain⟨j,hj,rfl⟩:=List.mem_iff_getElem.1 he
     obtain⟨k,hk1,rfl⟩:=hsu j (by simpa using hj)
     obtain⟨_,h2,_⟩:=hkey k hk1
     rw[h2]
     exact hff _ (List.getElem_mem hk1)
    refine⟨ents.toList,.inr ⟨r,clock,rfl,by simpa using hbw⟩,hfits,?_⟩
    have hfa:∀(es2:List (Value×D)),(∀e∈es2,keyEq vk e.1=false)→afind (es2.map fun e=>(e.1,AV.d e.2)) vk=none:=by
     intro es2 h
     induction es2 with
     |nil=>rfl
     |cons e es2 ih=>simp only[List.map_cons,afind,h e (by simp)];exact ih fun e' he'=>h e' (by simp[he'])
    have hfs:∀(es2:List (Value×D)) (k:Nat) (hk:k<es2.length),keyEq vk es2[k].1=true→(∀k' (h:k'<es2.length),keyEq vk es2[k'].1=true→k'=k)→
      afind (es2.map fun e=>(e.1,AV.d e.2)) vk=some (.d es2[k].2):=by
     intro es2
     induction es2 with
     |nil=>intro k hk;simp at hk
     |cons e es2 ih=>
      intro k hk he hu
      cases k with
      |zero=>simp only[List.map_cons,afind];rw[if_pos (by simpa using he)];simp
      |succ k=>
       have h0:keyEq vk e.1=false:=by
        cases hq:keyEq vk e.1 with
        |false=>rfl
        |true=>have:=hu 0 (by simp) (by simpa using hq);omega
       simp only[List.map_cons,afind,h0]
       exact ih k (by simpa using hk) (by simpa using he) fun k' hk' he'=>by have:=hu (k'+1) (by simp;omega) (by simpa using he');omega
    have htr:∀a b,keyFit tk.kind a=true→keyFit tk.kind b=true→keyEq vk a=true→keyEq vk b=true→keyEq a b=true:=by
     intro a b h1 h2 h3 h4
     generalize tk.kind=kk at hfit h1 h2
     cases kk<;>cases vk<;>simp[keyFit]at hfit<;>cases a<;>simp[keyFit]at h1<;>cases b<;>simp[keyFit]at h2<;>simp[keyEq]at h3 h4 ⊢<;>simp_all
    cases hq:ents.toList.findIdx? (fun e=>keyEq vk e.key)with
    |none=>
     have hno:=List.findIdx?_eq_none_iff.1 hq
     refine hfa es' fun e he=>?_
     obtain⟨k,hk1,rfl⟩:=List.mem_iff_getElem.1 he
     obtain⟨h1,h2,_⟩:=hkey k hk1
     rw[←h2]
     exact hno _ (List.getElem_mem h1)
    |some j=>
     obtain⟨hj,h1,_⟩:=List.findIdx?_eq_some_iff_getElem.1 hq
     obtain⟨k,hk1,rfl⟩:=hsu j (by simpa using hj)
     obtain⟨h2,h3,h4⟩:=hkey k hk1
     rw[h3]at h1
     refine⟨_,hfs es' k hk1 h1 fun k' hk' he'=>hdd k' k hk' hk1 (htr _ _ (hff _ (List.getElem_mem hk')) (hff _ (List.getElem_mem hk1)) he' h1),?_⟩
     simp only[List.getD,List.getElem?_eq_getElem h2,Option.getD_some,h4]
     exact .d (hr k hk1)
   |_=>simp[entriesOf]at hes
  |@mp i1 g1=>
   simp only[entriesOf]at hes
   split at hes
   ·rename_i kk es' ho
    simp only[Option.some.injEq]at hes
    subst hes
    simp only[kindOfMap,ho]at hkm
    subst hkm
    cases hs.ob i1 _ ho with
    |map ents clock hb hn hff hk hdd hb1 hb2 hr=>
     have hkey:∀j (h:j<es'.length) (h':j<ents.toList.length),(ents.toList[j]).key=(es'[j]).1:=by
      intro j h h'
      have:=hk j h
      rw[Array.getElem?_eq_getElem (by omega)]at this
      simp only[Option.map_some,Option.some.injEq]at this
      simpa using this
     refine⟨ents.toList,.inr ⟨_,clock,rfl,by simpa using hb⟩,fun e he=>?_,?_⟩
     ·obtain⟨j,hj,rfl⟩:=List.mem_iff_getElem.1 he
      have hj':j<es'.length:=by simpa[hn]using hj
      rw[hkey j hj' hj]
      exact hff _ (List.getElem_mem hj')
     ·have hidx:=J56 vk es' ents.toList (by simp[hn]) hkey
      cases hq:ents.toList.findIdx? (fun e=>keyEq vk e.key)with
      |none=>simp only[hq]at hidx;exact hidx
      |some j=>
       simp only[hq]at hidx
       obtain⟨h,e1⟩:=hidx
       refine⟨_,e1,?_⟩
       have h3:j<ents.toList.length:=by simp[hn];exact h
       have h4:j<ents.size:=by omega
       have:=hr j h
       simp only[Array.getElem?_eq_getElem h4,Option.map_some,Option.getD_some]at this
       simpa[List.getD,List.getElem?_eq_getElem h3,h4]using this
   ·simp at hes
  |_=>simp[entriesOf]at hes
 obtain⟨l,hl,hfits,hidx⟩:=key
 have hfk:=J3C hu2 hd2 hfit l hfits w
 have hck:=fun b=>J32 hu2 hd2 hfit b w
 have hrun:(Instr.lookup t vm vk ok).run X.P w=.ok (if ok then .tuple #[((match l.findIdx? (fun e=>keyEq vk e.key)with|some j=>(l.getD j default).val|none=>z):Value),.bool (l.findIdx? (fun e=>keyEq vk e.key)).isSome]
   else(match l.findIdx? (fun e=>keyEq vk e.key)with|some j=>(l.getD j default).val|none=>z)) w:=by
  rcases hl with⟨rfl,rfl⟩|⟨r,clock,rfl,hb⟩
  ·unfold Instr.lookup
   simp only[Sem.run_bind,run_underlying hu,Result.andThen_ok,Sem.run_pure,hck]
   rw[hfk]
   simp[hzv]
  ·have hgo:(getObj r).run X.P w=.ok (.map l.toArray clock) w:=by simp[getObj,Sem.run,hb]
   unfold Instr.lookup
   simp only[Sem.run_bind,run_underlying hu,Result.andThen_ok,Sem.run_pure,hck,hgo]
   rw[hfk]
   cases l.findIdx? (fun e=>keyEq vk e.key)with
   |none=>simp[hzv]
   |some j=>simp
 cases hq:l.findIdx? (fun e=>keyEq vk e.key)with
 |none=>
  simp only[hq]at hidx hrun
  rw[hidx]at hK
  cases ok with
  |false=>exact VOk.same hg hf hs hrun hzr hK
  |true=>exact VOk.same hg hf hs hrun (J6u hzr (.d (.s _))) hK
 |some j=>
  simp only[hq]at hidx hrun
  obtain⟨x,e1,hx⟩:=hidx
  rw[e1]at hK
  cases ok with
  |false=>exact VOk.same hg hf hs hrun hx hK
  |true=>exact VOk.same hg hf hs hrun (J6u hx (.d (.s _))) hK
def amakeMap (X:Cfg) (t:TypeId) (σ:St) (K:AV→St→Prop):Prop:=
 ∃ti,X.T t=some ti∧∃kt et,ti.kind=.map kt et∧∃tk,X.T kt=some tk∧K (.mp σ.next) (σ.alloc (.map tk.kind []))
theorem J6p (hg:GRel X F) (hf:FRel F w) (hs:SRel F η σ w) {t:TypeId} {r:Option Value} (hr:r=none) (h:amakeMap X t σ K):
  VOk X F η σ w ((Instr.makeMap t r).run X.P w) K:=by
 obtain⟨ti,ht,kt,et,hkd,tk,htk,hk⟩:=h
 subst hr
 have ha:=Et.agree_withBlk η σ.next w.heap.size
 have hblk:(η.withBlk σ.next w.heap.size).blk σ.next=w.heap.size:=by simp[Et.withBlk]
 obtain⟨g1,g2,g3⟩:=upd (η':=η.withBlk σ.next w.heap.size) (w':=w.alloc (.map #[] 0)) hf hs σ.next (.map tk.kind []) (σ.next+1) (Nat.lt_succ_self _) (Nat.le_succ _) ha ⟨by simp,rfl,rfl⟩
  (fun b hb _=>heap_alloc_old w _ hb)
  (.map #[] 0 (by rw[hblk];exact heap_alloc_new w _) rfl (by simp) (fun k hk=>by simp at hk) (fun k k' hk=>by simp at hk) (fun k hk=>by simp at hk) (fun k k' hk=>by simp at hk) (fun k hk=>by simp at hk))
  (fun b hb hlt=>by simp only[Owns,own,hblk,Option.some.injEq]at hb;omega)
 refine⟨.map (some w.heap.size),_,F,_,_,.mp σ.next,by simp[Instr.makeMap],g1,hg,g2,g3,?_,hk⟩
 have:=@VRel.mp F (η.withBlk σ.next w.heap.size) (σ.next+1) σ.next (by omega)
 rw[hblk]at this
 exact this
def amapUpdate (X:Cfg) (t:TypeId) (m k v:AV) (σ:St) (K:AV→St→Prop):Prop:=
 ∃ti,X.T t=some ti∧∃kt et,ti.kind=.map kt et∧∃tk,X.T kt=some tk∧∃kv,k=.d (.s kv)∧keyFit tk.kind kv=true∧
  ∃i,m=.mp i∧∃es,σ.obj i=some (.map tk.kind es)∧K (.d (.s undef)) (σ.set i (.map tk.kind (aput es kv v)))
theorem J6t {α:Type} (k:Value) (v:α):∀(es:List (Value×α)) (l:List MapEntry),es.length=l.length→(∀j (h:j<es.length) (h':j<l.length),(l[j]).key=(es[j]).1)→
  (match l.findIdx? (fun e=>keyEq k e.key)with
   |some j=>∃(h:j<es.length),aput es k v=es.set j (es[j].1,v)∧keyEq k (es[j].1)=true
   |none=>aput es k v=es++[(k,v)])
 |[],[],_,_=>by simp[aput]
 |(k',u)::es,e::l,hl,h=>by
  have h0:e.key=k':=h 0 (by simp) (by simp)
  have ih:=J6t k v es l (by simpa using hl) fun j h1 h2=>by have:=h (j+1) (by simp;omega) (by simp;omega);simpa using this
  simp only[List.findIdx?_cons,h0,aput]
  cases hq:keyEq k k' with
  |true=>simp[hq]
  |false=>
   cases hi:l.findIdx? (fun e=>keyEq k e.key)with
   |none=>simp only[hi]at ih;simp[ih]
   |some j=>
    simp only[hi]at ih
    obtain⟨hj,e1,e2⟩:=ih
    simp only[Option.map_some,Bool.false_eq_true,if_false]
    exact⟨by simp;omega,by simp[e1],by simpa using e2⟩
 |[],e::l,hl,_=>by simp at hl
 |x::es,[],hl,_=>by simp at hl
theorem J2o {kk:KD} {a b:Value} (ha:keyFit kk a=true) (hb:keyFit kk b=true) (h:keyEq a b=true):a=b:=by
 cases kk<;>cases a<;>simp[keyFit]at ha<;>cases b<;>simp[keyFit]at hb<;>simp[keyEq]at h
 ·simp[h]
 ·subst ha;subst hb;simp[h]
 ·simp[h]
theorem J69 {P:Program} {kk:KD} {a:Value} (ha:keyFit kk a=true) (w:World):(Instr.keyThatStays a a).run P w=.ok a w:=by
 have:Instr.sameBits 10000 a a=true:=by
  cases kk<;>cases a<;>simp[keyFit]at ha
  ·unfold Instr.sameBits;simp
  ·unfold Instr.sameBits;simp
  ·unfold Instr.sameBits;rw[J5k];simp
 simp[Instr.keyThatStays,this]
theorem J2d (hg:GRel X F) (hf:FRel F w) (hs:SRel F η σ w) {t:TypeId} {m k v:AV} {vm vk vv:Value} (hm:VRel F η σ.next m vm) (hkr:VRel F η σ.next k vk) (hv:VRel F η σ.next v vv)
  (h:amapUpdate X t m k v σ K):∃w' σ',(Instr.mapUpdate t vm vk vv).run X.P w=.ok () w'∧Step F η σ w F η σ' w'∧FRel F w'∧SRel F η σ' w'∧K (.d (.s undef)) σ':=by
 obtain⟨ti,ht,kt,et,hkd,tk,htk,kv,rfl,hfit,i1,rfl,es,ho,hK⟩:=h
 have:=hkr.s_inv
 subst this
 obtain⟨d,i,z,hu,hd,hi,_⟩:=X.ok t ti ht
 rw[hkd]at hd
 have:=J2Q hd
 subst this
 obtain⟨d2,i2,z2,hu2,hd2,hi2,_⟩:=X.ok kt tk htk
 cases hm with
 |mp g1=>
  cases hs.ob i1 _ ho with
  |map ents clock hb hn hff hk hdd hb1 hb2 hr=>
   have hkey:∀j (h:j<es.length) (h':j<ents.toList.length),(ents.toList[j]).key=(es[j]).1:=by
    intro j h h'
    have:=hk j h
    rw[Array.getElem?_eq_getElem (by omega)]at this
    simp only[Option.map_some,Option.some.injEq]at this
    simpa using this
   have hlen:es.length=ents.toList.length:=by simp[hn]
   have hfits:∀e∈ents.toList,keyFit tk.kind e.key=true:=by
    intro e he
    obtain⟨j,hj,rfl⟩:=List.mem_iff_getElem.1 he
    have hj':j<es.length:=by omega
    rw[hkey j hj' hj]
    exact hff _ (List.getElem_mem hj')
   have hfk:=J3C hu2 hd2 hfit ents.toList hfits w
   have hck:=J32 hu2 hd2 hfit false w
   have hidx:=J6t vk v es ents.toList hlen hkey
   have hgo:(getObj (η.blk i1)).run X.P w=.ok (.map ents clock) w:=by simp[getObj,Sem.run,hb]
   have hlt:η.blk i1<w.heap.size:=(Array.getElem?_eq_some_iff.1 hb).1
   have hset:∀o,(setObj (η.blk i1) o).run X.P w=.ok () {w with heap:=w.heap.setIfInBounds (η.blk i1) o}:=by
    intro o;simp[setObj,Sem.run,hb]
   have heap_new:∀o,({w with heap:=w.heap.setIfInBounds (η.blk i1) o}:World).heap[η.blk i1]? = some o:=by
    intro o;simp[Array.getElem?_setIfInBounds,hlt]
   have heap_old:∀o b,b≠η.blk i1→({w with heap:=w.heap.setIfInBounds (η.blk i1) o}:World).heap[b]? = w.heap[b]?:=by
    intro o b hne;simp[Array.getElem?_setIfInBounds,Ne.symm hne]
   have fin:∀(es':List (Value×AV)) (ents':Array MapEntry) (clock':Nat),ents'.size=es'.length→(∀e∈es',keyFit tk.kind e.1=true)→
     (∀k (h:k<es'.length),(ents'[k]?).map (fun e=>e.key)=some es'[k].1)→(∀k k' (h:k<es'.length) (h':k'<es'.length),keyEq es'[k].1 es'[k'].1=true→k=k')→(∀k (h:k<ents'.size),ents'[k].born<clock')→
     (∀k k' (h:k<ents'.size) (h':k'<ents'.size),ents'[k].born=ents'[k'].born→k=k')→
     (∀k (h:k<es'.length),VRel F η σ.next es'[k].2 ((ents'[k]?.map (fun e=>e.val)).getD undef))→
     Step F η σ w F η (σ.set i1 (.map tk.kind es')) {w with heap:=w.heap.setIfInBounds (η.blk i1) (.map ents' clock')}∧FRel F {w with heap:=w.heap.setIfInBounds (η.blk i1) (.map ents' clock')}∧
     SRel F η (σ.set i1 (.map tk.kind es')) {w with heap:=w.heap.setIfInBounds (η.blk i1) (.map ents' clock')}:=by
    intro es' ents' clock' c1 c2 c3 c3' c4 c5 c6
    exact upd (η':=η) hf hs i1 (.map tk.kind es') σ.next g1 (Nat.le_refl _) (Et.agree_refl _ _) ⟨by simp,rfl,rfl⟩
     (fun b1 _ hno=>heap_old _ b1 fun e=>hno _ ho (by simp[Owns,own,e]))
     (.map ents' clock' (heap_new _) c1 c2 c3 c3' c4 c5 c6) (fun b1 hb1 _=>⟨_,ho,hb1⟩)
   cases hq:ents.toList.findIdx? (fun e=>keyEq vk e.key)with
   |none=>
    simp only[hq]at hidx hfk
    rw[hidx]at hK
    obtain⟨s1,s2,s3⟩:=fin (es++[(vk,v)]) (ents.push {key:=vk,val:=vv,born:=clock}) (clock+1) (by simp[hn])
     (fun e he=>by
      rcases List.mem_append.1 he with h|h
      ·exact hff e h
      ·simp only[List.mem_singleton]at h;subst h;exact hfit)
     (fun k hk'=>by
      simp only[List.length_append,List.length_singleton]at hk'
      rw[Array.getElem?_push]
      by_cases hke:k=ents.size
      ·subst hke
       rw[if_pos rfl]
       simp only[Option.map_some,Option.some.injEq]
       rw[List.getElem_append_right (by omega)]
       simp[hn]
      ·rw[if_neg hke,List.getElem_append_left (by omega)]
       exact hk k (by omega))
     (fun k k' h1 h2 he=>by
      have hno:=List.findIdx?_eq_none_iff.1 hq
      have hne:∀(j:Nat) (h:j<es.length),keyEq vk es[j].1=false:=fun j h=>by
       rw[←hkey j h (by omega)];exact hno _ (List.getElem_mem _)
      simp only[List.length_append,List.length_singleton]at h1 h2
      by_cases hk1:k<es.length
      ·by_cases hk2:k'<es.length
       ·rw[List.getElem_append_left hk1,List.getElem_append_left hk2]at he
        exact hdd k k' hk1 hk2 he
       ·exfalso
        rw[List.getElem_append_left hk1,List.getElem_append_right (by omega)]at he
        simp only[List.getElem_singleton]at he
        have h3:=J2o (hff _ (List.getElem_mem hk1)) hfit he
        have h4:=hne k hk1
        rw[h3]at h4
        rw[h3]at he
        rw[he]at h4
        cases h4
      ·by_cases hk2:k'<es.length
       ·exfalso
        rw[List.getElem_append_right (by omega),List.getElem_append_left hk2]at he
        simp only[List.getElem_singleton]at he
        rw[hne k' hk2]at he
        cases he
       ·omega)
     (fun k hk'=>by
      simp only[Array.size_push]at hk'
      rw[Array.getElem_push]
      split
      ·have:=hb1 k (by assumption);omega
      ·simp)
     (fun k k' hk1 hk2 he=>by
      simp only[Array.size_push]at hk1 hk2
      rw[Array.getElem_push,Array.getElem_push]at he
      split at he<;>split at he
      ·exact hb2 k k' _ _ he
      ·rename_i h3 h4;have:=hb1 k h3;simp at he;omega
      ·rename_i h3 h4;have:=hb1 k' h4;simp at he;omega
      ·omega)
     (fun k hk'=>by
      simp only[List.length_append,List.length_singleton]at hk'
      rw[Array.getElem?_push]
      by_cases hke:k=ents.size
      ·subst hke
       rw[if_pos rfl]
       simp only[Option.map_some,Option.getD_some]
       rw[List.getElem_append_right (by omega)]
       simpa[hn]using hv
      ·rw[if_neg hke,List.getElem_append_left (by omega)]
       exact hr k (by omega))
    refine⟨_,_,?_,s1,s2,s3,hK⟩
    unfold Instr.mapUpdate
    simp only[Sem.run_bind,run_underlying hu,Result.andThen_ok,hgo,hck,hfk,hset]
   |some j=>
    simp only[hq]at hidx hfk
    obtain⟨hj,e1,e2⟩:=hidx
    rw[e1]at hK
    have hjs:j<ents.size:=by omega
    have hkj:(ents[j]).key=vk:=by
     have h3:(ents[j]).key=es[j].1:=by have:=hkey j hj (by simpa using hjs);simpa using this
     rw[h3]
     exact(J2o hfit (hff _ (List.getElem_mem hj)) e2).symm
    have hkj':es[j].1=vk:=(J2o hfit (hff _ (List.getElem_mem hj)) e2).symm
    have hst:=J69 (P:=X.P) hfit w
    obtain⟨s1,s2,s3⟩:=fin (es.set j (es[j].1,v)) (ents.modify j fun e=>{e with key:=vk,val:=vv}) clock (by simp[hn])
     (fun e he=>by
      rcases List.mem_or_eq_of_mem_set he with h|rfl
      ·exact hff e h
      ·have:=hff _ (List.getElem_mem hj)
       exact this)
     (fun k hk'=>by
      have hk2:k<es.length:=by simpa using hk'
      rw[Array.getElem?_modify]
      by_cases hke:j=k
      ·subst hke
       simp[hjs,hkj']
      ·rw[if_neg hke,List.getElem_set]
       simp only[hke,if_false]
       exact hk k hk2)
     (fun k k' h1 h2 he=>by
      have hk1:k<es.length:=by simpa using h1
      have hk2:k'<es.length:=by simpa using h2
      have g:∀m (h:m<(es.set j (es[j].1,v)).length),((es.set j (es[j].1,v))[m]'h).1=(es[m]'(by simpa using h)).1:=by
       intro m h
       rw[List.getElem_set]
       split
       ·rename_i hm;subst hm;rfl
       ·rfl
      rw[g,g]at he
      exact hdd k k' hk1 hk2 he)
     (fun k hk'=>by
      have hk2:k<ents.size:=by simpa using hk'
      rw[Array.getElem_modify]
      split
      ·exact hb1 k hk2
      ·exact hb1 k hk2)
     (fun k k' hk1 hk2 he=>by
      have hk3:k<ents.size:=by simpa using hk1
      have hk4:k'<ents.size:=by simpa using hk2
      rw[Array.getElem_modify,Array.getElem_modify]at he
      refine hb2 k k' hk3 hk4 ?_
      split at he<;>split at he<;>exact he)
     (fun k hk'=>by
      have hk2:k<es.length:=by simpa using hk'
      rw[Array.getElem?_modify]
      by_cases hke:j=k
      ·subst hke
       simpa[hjs]using hv
      ·rw[if_neg hke,List.getElem_set]
       simp only[hke,if_false]
       exact hr k hk2)
    refine⟨_,_,?_,s1,s2,s3,hK⟩
    unfold Instr.mapUpdate
    have hgk:((ents[j]?).map (·.key)).getD vk=vk:=by simp[hjs,hkj]
    simp only[Sem.run_bind,run_underlying hu,Result.andThen_ok,hgo,hck,hfk,hgk,hst,hset]
end ops
end Go.Pm
