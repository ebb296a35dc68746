/- Part of the proof: Pm56. -/
import Derived.Test.YtdjanhhljinokaaGreatDoorT12
import Derived.Test.YtdjanhhljinokaaGreatDoorT10
import Derived.Test.YtdjanhhljinokaaGreatDoorT11
import Derived.Test.YtdjanhhljinokaaGreatDoorT7
import Derived.Lib.ItoaLen
import Derived.Lib.ItoaMem
set_option linter.unusedVariables false
set_option linter.unusedSimpArgs false
namespace Go.Pm
attribute [local irreducible] AR Ok inBlock andThen endQ aoper
def St.only (σ:St) (P:Nat→Bool):St:=⟨fun i=>if P i=true then σ.obj i else none,σ.next⟩
def St.less (σ:St) (P:Nat→Bool):St:=⟨fun i=>if P i=true then none else σ.obj i,σ.next⟩
theorem St.only_of {σ:St} {P:Nat→Bool} {i:Nat} {o:AO} (h:(σ.only P).obj i=some o):P i=true∧σ.obj i=some o:=by
 simp only[St.only]at h
 split at h
 ·rename_i q;exact⟨q,h⟩
 ·cases h
theorem St.less_of {σ:St} {P:Nat→Bool} {i:Nat} {o:AO} (h:(σ.less P).obj i=some o):P i=false∧σ.obj i=some o:=by
 simp only[St.less]at h
 split at h
 ·cases h
 ·rename_i q;exact⟨by simpa using q,h⟩
theorem St.only_at {σ:St} {P:Nat→Bool} {i:Nat} (h:P i=true):(σ.only P).obj i=σ.obj i:=by simp[St.only,h]
theorem St.less_at {σ:St} {P:Nat→Bool} {i:Nat} (h:P i=false):(σ.less P).obj i=σ.obj i:=by simp[St.less,h]
theorem AFun.eat {X:Cfg} {f:FuncId} {args:List AV} {σ:St} {r:AV} (P:Nat→Bool) (hr:Pm.low 0 r=true) (h:AFun X f args (σ.only P) fun E _=>E=.ret r):AFun X f args σ fun E σ'=>E=.ret r∧σ'=σ.less P:=by
 refine⟨h.1,fun F η w vals hg hf hs hn hv=>?_⟩
 have hs0:SRel F η (σ.only P) w:=⟨fun i o hi=>hs.lt i o (St.only_of hi).2,fun i o hi=>hs.ob i o (St.only_of hi).2,fun i j oi oj b hi hj=>hs.ap i j oi oj b (St.only_of hi).2 (St.only_of hj).2,fun i o b hi=>hs.fr i o b (St.only_of hi).2⟩
 refine(h.2 F η w vals hg hf hs0 hn hv).mono ?_
 rintro e w' ⟨F',η',σ1,E,h1,h2,h3,h4,rfl⟩
 have apart:∀i o j oj b,(σ.less P).obj i=some o→(σ.only P).obj j=some oj→Owns η i o b→Owns η j oj b→False:=by
  intro i o j oj b hi hj hbi hbj
  obtain⟨p1,q1⟩:=St.less_of hi
  obtain⟨p2,q2⟩:=St.only_of hj
  have:=hs.ap i j o oj b q1 q2 hbi hbj
  subst this
  rw[p1]at p2;cases p2
 refine⟨F',η,σ.less P,.ret r,⟨h1.fh,Et.agree_refl _ _,Nat.le_refl _,h1.gr,fun b hb hno=>h1.fm b hb fun i o hi=>hno i o (St.only_of hi).2,fun i o b hi hb _=>⟨i,o,(St.less_of hi).2,hb⟩,fun b o hb hlt=>?_⟩,h2,⟨fun i o hi=>hs.lt i o (St.less_of hi).2,fun i o hi=>?_,fun i j oi oj b hi hj=>hs.ap i j oi oj b (St.less_of hi).2 (St.less_of hj).2,?_⟩,?_,rfl,rfl⟩
 ·rcases h1.nf b o hb hlt with q|⟨j,oj,hj,hb2⟩
  ·exact .inl q
  ·exact .inr ⟨j,oj,(St.only_of hj).2,hb2⟩
 ·have h0:=hs.ob i o (St.less_of hi).2
  exact h0.mono (hs.lt i o (St.less_of hi).2) h1.fh (Et.agree_refl _ _) (Nat.le_refl _) fun b hb=>h1.fm b (h0.own_lt hb) fun j oj hj hbj=>apart i o j oj b hi hj hb hbj
 ·intro i o b hi hb
  have hi0:=(St.less_of hi).2
  have h0:=hs.fr i o b hi0 hb
  cases hFb:F' b with
  |none=>rfl
  |some o'=>
   rcases h1.nf b o' hFb ((hs.ob i o hi0).own_lt hb)with q|⟨j,oj,hj,hb2⟩
   ·rw[h0]at q;cases q
   ·exact(apart i o j oj b hi hj hb hb2).elim
 ·cases e with
  |returned v=>exact low0 (n':=σ.next) (η':=η) (show VRel F' η' σ1.next r v from h4) hr
  |panicked c=>exact h4.elim
  |outgrown=>exact h4.elim
theorem AFun.fzr {X:Cfg} {f:FuncId} {args:List AV} {σ:St} {K:AEnd→St→Prop} {y:AV} (h:AFun X f args σ K) (hk:∀E σ1,K E σ1→∃r,E=.ret r∧AFz σ1 r y):AFun X f args σ fun E _=>E=.ret y:=by
 refine⟨h.1,fun F η w vals hg hf hs hn hv=>(h.2 F η w vals hg hf hs hn hv).mono ?_⟩
 rintro e w' ⟨F',η',σ1,E,st,hf',hs1,he,hK⟩
 obtain⟨r,rfl,hz⟩:=hk E σ1 hK
 have hle:=FH.le_all hs1
 refine⟨F'.all η' σ1 w',η',⟨fun _=>none,σ1.next⟩,.ret y,st.trans ⟨hle,Et.agree_refl _ _,Nat.le_refl _,.refl _,fun _ _ _=>rfl,(fun i o b hi=>by cases hi),fun b o hb hlt=>?_⟩,J7a hf',⟨(fun i o hi=>by cases hi),(fun i o hi=>by cases hi),(fun i j oi oj b hi=>by cases hi),(fun i o b hi=>by cases hi)⟩,?_,rfl⟩
 ·unfold FH.all at hb
  split at hb
  ·rename_i q;exact .inr q
  ·exact .inl hb
 ·cases e with
  |returned v=>exact J2C hs1 hz (show VRel F' η' σ1.next r v from he)
  |panicked c=>exact he.elim
  |outgrown=>exact he.elim
structure Spot (C:AV→AO):Prop where
 rel:∀{F:FH} {η:Et} {n:Nat} {w:World} {i:Nat} {x:AV},ORel F η n w i (C x)→∃u,VRel F η n x u∧∀y,y.one=true→VRel F η n y u→ORel F η n w i (C y)
 own:∀{η:Et} {i:Nat} (x y:AV),Owns η i (C x)=Owns η i (C y)
theorem J0i (pre post:List AV):Spot fun x=>.var (pre++x::post):=by
 refine⟨fun {F η n w i x} h=>?_,fun x y=>rfl⟩
 cases h with
 |var c E hb hn h1 h=>
  refine⟨c.getD pre.length undef,?_,fun y hy hu=>.var c E hb (by rw[hn];simp) (fun j hj=>h1 j (by simpa using hj)) fun j hj=>?_⟩
  ·have:=h pre.length (by simp)
   rwa [J2H]at this
  ·by_cases e:j=pre.length
   ·subst e;rw[J2H];exact hu
   ·have:=h j (by simpa using hj)
    rwa [J7I pre post x y e]at this
theorem J98 (v E sz:Nat) (A B:List (List AV)) (pre post:List AV):Spot fun x=>.row v E sz (A++(pre++x::post)::B):=by
 refine⟨fun {F η n w i x} h=>?_,fun x y=>rfl⟩
 cases h with
 |row xs hv hs hp ho hsz h1 h=>
  have hlen:∀y:AV,(A++(pre++y::post)::B).length=(A++(pre++x::post)::B).length:=fun y=>by simp
  refine⟨xs.getD (A.length*sz+pre.length) undef,?_,fun y hy hu=>.row xs hv hs hp (by rw[hlen y];exact ho) (fun r hr=>?_) h1 fun k hk j hj=>?_⟩
  ·have:=h A.length (by simp) pre.length (by simp)
   simpa using this
  ·rcases List.mem_append.1 hr with q|q
   ·exact hsz r (by simp[q])
   ·rcases List.mem_cons.1 q with q|q
    ·subst q
     have:=hsz (pre++x::post) (by simp)
     simpa using this
    ·exact hsz r (by simp[q])
  ·by_cases e:k=A.length
   ·subst e
    have e1:(A++(pre++y::post)::B)[A.length]=pre++y::post:=by simp
    have e2:(A++(pre++x::post)::B)[A.length]'(by simp)=pre++x::post:=by simp
    have hj':j<(pre++y::post).length:=by rw[←e1];exact hj
    have h0:=h A.length (by simp) j (by rw[e2];simpa using hj')
    simp only[e1]
    simp only[e2]at h0
    by_cases ej:j=pre.length
    ·subst ej;rw[J2H];exact hu
    ·rwa [J7I pre post x y ej]at h0
   ·have e1:(A++(pre++y::post)::B)[k]=(A++(pre++x::post)::B)[k]'(by simpa using hk):=by
     rcases Nat.lt_or_ge k A.length with q|q
     ·rw[List.getElem_append_left q,List.getElem_append_left q]
     ·rw[List.getElem_append_right q,List.getElem_append_right q]
      have:∃m,k-A.length=m+1:=⟨k-A.length-1,by omega⟩
      obtain⟨m,hm⟩:=this
      simp only[hm,List.getElem_cons_succ]
    have h0:=h k (by simpa using hk) j (by rw[←e1];exact hj)
    simp only[e1]
    exact h0
theorem J0g {X:Cfg} {nt:Nat} {Q:Exit→Env→St→Prop} {env:Env} {σ:St} {c:Code} (i k j:Nat) {v E:Nat} {ss:List Sh} {rows:List (List D)} {vs:List (List Value)} {l:List (Sh×D×Value)} {τ:FH} {C:AV→AO} (hC:Spot C)
  (hi:σ.obj i=some (.box τ)) {m:Nat} (hk:σ.obj k=some (C (.sl j v 0 m))) (hm:m=rows.length) (hkj:k≠j) (hj:σ.obj j=some (.row v E ss.length (exR vs))) (ha:agrs ss rows vs) (hT:Tr τ (subss ss rows vs++l)) (hki:k≠i)
  (h:∀a n cp τ',Tr τ' ((.im E ss,.im rows,.slice a n cp)::l)→Ok X nt c Q env (((σ.set i (.box τ')).set k (C (.d (.s (.slice a n cp))))).drop j)):Ok X nt c Q env σ:=by
 subst hm
 unfold Ok
 intro F η a w hg hr
 have hs:=hr.st
 have hij:i≠j:=fun e=>by rw[e,hj]at hi;cases hi
 obtain⟨u,hu,hput⟩:=hC.rel (hs.ob k _ hk)
 obtain⟨τ',h1,h2,h3⟩:=J43 hs hi hj hT ha hu
 obtain⟨ua,un,uc,rfl⟩:=h1.sl
 have hob:∀q o,(((σ.set i (.box τ')).set k (C (.d (.s (.slice ua un uc))))).drop j).obj q=some o→q≠j∧((q=k∧o=C (.d (.s (.slice ua un uc))))∨(q=i∧o=.box τ')∨(q≠k∧q≠i∧σ.obj q=some o)):=by
  intro q o hq
  rw[St.obj_drop]at hq
  by_cases e:q=j
  ·rw[if_pos e]at hq;cases hq
  ·rw[if_neg e,St.obj_set]at hq
   refine⟨e,?_⟩
   by_cases e2:q=k
   ·rw[if_pos e2]at hq;exact .inl ⟨e2,(Option.some.inj hq).symm⟩
   ·rw[if_neg e2,St.obj_set]at hq
    by_cases e3:q=i
    ·rw[if_pos e3]at hq;exact .inr (.inl ⟨e3,(Option.some.inj hq).symm⟩)
    ·rw[if_neg e3]at hq;exact .inr (.inr ⟨e2,e3,hq⟩)
 have hnx:(((σ.set i (.box τ')).set k (C (.d (.s (.slice ua un uc))))).drop j).next=σ.next:=rfl
 -- an object of the new state,and one of the old state that owns the block
 have old:∀q o b,(((σ.set i (.box τ')).set k (C (.d (.s (.slice ua un uc))))).drop j).obj q=some o→Owns η q o b→∃p op,σ.obj p=some op∧Owns η p op b∧(p=q∨(q=i∧p=j)):=by
  intro q o b hq hb
  obtain⟨q1,⟨rfl,rfl⟩|⟨rfl,rfl⟩|⟨_,_,h0⟩⟩:=hob q o hq
  ·exact⟨q,_,hk,by rw[hC.own _ (.d (.s (.slice ua un uc)))];exact hb,.inl rfl⟩
  ·rcases(h3 b).1 hb with z|z
   ·exact⟨q,_,hi,z,.inl rfl⟩
   ·exact⟨j,_,hj,z,.inr ⟨rfl,rfl⟩⟩
  ·exact⟨q,o,h0,hb,.inl rfl⟩
 have h':=h ua un uc τ' h1
 unfold Ok at h'
 have hw:=h' F η a w hg ⟨hr.fr,⟨fun q o hq=>?_,fun q o hq=>?_,fun p q op oq b hp hq hbp hbq=>?_,fun q o b hq hb=>?_⟩,fun t=>hr.en t,hr.sz,hr.df⟩
 ·have stp:Step F η σ w F η (((σ.set i (.box τ')).set k (C (.d (.s (.slice ua un uc))))).drop j) w:=⟨F.le_refl,Et.agree_refl _ _,Nat.le_refl _,.refl _,fun _ _ _=>rfl,(fun q o b hq hb _=>by
   obtain⟨p,op,hp,hbp,_⟩:=old q o b hq hb
   exact⟨p,op,hp,hbp⟩),fun _ _ hb _=>.inl hb⟩
  exact wp_mono hw fun _ _ _ hp=>hp.trans stp fun _ _ h=>h
 ·obtain⟨_,⟨rfl,_⟩|⟨rfl,_⟩|⟨_,_,h0⟩⟩:=hob q o hq
  ·exact hs.lt _ _ hk
  ·exact hs.lt _ _ hi
  ·exact hs.lt _ _ h0
 ·obtain⟨_,⟨rfl,rfl⟩|⟨rfl,rfl⟩|⟨_,_,h0⟩⟩:=hob q o hq
  ·exact hput _ rfl (.d (.s _))
  ·exact .box h2
  ·exact hs.ob _ _ h0
 ·obtain⟨p',op',hp',hbp',ep⟩:=old p op b hp hbp
  obtain⟨q',oq',hq',hbq',eq⟩:=old q oq b hq hbq
  have e:=hs.ap p' q' op' oq' b hp' hq' hbp' hbq'
  have nj1:=(hob p op hp).1
  have nj2:=(hob q oq hq).1
  rcases ep with rfl|⟨rfl,rfl⟩<;>rcases eq with rfl|⟨rfl,rfl⟩
  ·exact e
  ·exact absurd e nj1
  ·exact absurd e.symm nj2
  ·rfl
 ·obtain⟨p,op,hp,hbp,_⟩:=old q o b hq hb
  exact hs.fr p op b hp hbp
def slO:Option (Nat×Nat)→Nat→AV
 |none,_=>.d (.s (.slice none 0 0))
 |some (y,h),n=>.sl y h 0 n
def apI (σ:St):Option (Nat×Nat)→Nat
 |none=>σ.next
 |some (y,_)=>y
def apS (σ:St) (O:Option (Nat×Nat)) (o:AO):St:=match O with
 |none=>σ.alloc o
 |some (y,_)=>bumpSet σ y o
theorem J1O {σ:St} {O:Option (Nat×Nat)} {o:AO}:(apS σ O o).next=σ.next+1:=by cases O<;>rfl
theorem J2L {σ:St} {O:Option (Nat×Nat)} {o:AO}:(apS σ O o).obj (apI σ O)=some o:=by cases O<;>simp[apS,apI,St.alloc,bumpSet]
theorem J0o {σ:St} {O:Option (Nat×Nat)} {o:AO} {j:Nat} (h:j≠apI σ O):(apS σ O o).obj j=σ.obj j:=by
 cases O with
 |none=>have h:j≠σ.next:=h;simp[apS,St.alloc,h]
 |some p=>have h:j≠p.1:=h;simp[apS,bumpSet,h]
def rowO (σ:St) (O:Option (Nat×Nat)) (el sz:Nat) (rows:List (List AV)):Prop:=match O with
 |none=>rows=[]
 |some (y,h)=>σ.obj y=some (.row h el sz rows)
section
variable {X:Cfg} {nt:Nat} {Q:Exit→Env→St→Prop} {K:AV→St→Prop} {env:Env} {σ:St}
theorem J6q {σ:St} {O:Option (Nat×Nat)} {el el' sz sz' n:Nat} {rows:List (List AV)} (h:rowO σ O el sz rows) (hn:n=rows.length):srcOf (.slice el') sz' σ (slO O n)=some rows:=by
 subst hn
 cases O with
 |none=>have h:rows=[]:=h;subst h;rfl
 |some p=>
  have h:σ.obj p.1=some (.row p.2 el sz rows):=h
  simp[srcOf,rowsOf,slO,h]
theorem Yap {xv:AV} {O:Option (Nat×Nat)} {rows rows2:List (List AV)} {ars:Array Operand} {ts:Array TypeId} {s x:Operand} {t tx el n sz m:Nat} {ti te tix:TI} (ho:rowO σ O el sz rows) (hx:srcOf (.slice el) sz σ xv=some rows2) (hl:∀r∈rows2,r.length=sz) (hm:rows.length+rows2.length=m) (hb:m≤2097153)
  (hK:K (.sl (apI σ O) σ.next 0 m) (apS σ O (.row σ.next el sz (rows++rows2))))
  (h1:ars.toList=[s,x]:=by exact rfl) (h2:ts.toList=[t,tx]:=by exact rfl) (hs:aev X env s=slO O n:=by exact rfl) (hxv:aev X env x=xv:=by exact rfl) (hn:n=rows.length:=by first|exact rfl|simp) (ht:X.T t=some ti:=by exact rfl) (hk:ti.kind=.slice el:=by exact rfl) (hte:X.T el=some te:=by exact rfl) (hsz:te.size=sz:=by exact rfl) (hpz:Nat.blt 0 sz=true:=by exact rfl) (hby:Nat.blt 0 te.bytes=true:=by exact rfl) (hbb:Nat.ble te.bytes 1024=true:=by exact rfl)
  (htx:X.T tx=some tix:=by exact rfl) (hkx:tix.kind=.slice el:=by exact rfl):aoper X (.call ⟨.builtin .append,ars,ts⟩) env σ Q K:=by
 subst hsz
 subst hm
 subst hn
 subst hxv
 have hb':(rows.length+rows2.length)*te.bytes≤140737488355328:=Nat.le_trans (Nat.mul_le_mul hb (Nat.le_of_ble_eq_true hbb)) (by decide)
 simp only[aoper,abuiltin]
 rw[h1,h2]
 simp only[aappend]
 refine⟨ti,ht,el,te,hk,hte,Je hpz,Je hby,tix,htx,rows2,by rw[hkx];exact hx,hl,?_⟩
 rw[hs]
 cases O with
 |none=>
  have ho:rows=[]:=ho
  subst ho
  simp only[List.length_nil,Nat.zero_add,List.nil_append]at hb' hK
  exact⟨hb',hK⟩
 |some p=>
  have ho:σ.obj p.1=some (.row p.2 el te.size rows):=ho
  refine⟨rfl,rows,ho,Nat.le_refl _,hb',?_⟩
  rw[List.take_length]
  exact hK
theorem Yxo {O:Option (Nat×Nat)} {n:Nat} {x:Operand} {t el:Nat} {ti:TI} {as:Array Operand} {ts:Array TypeId} (hn:O=none→n=0) (hK:K (vi n) σ) (h1:as.toList=[x]:=by exact rfl) (h2:ts.toList=[t]:=by exact rfl) (hx:aev X env x=slO O n:=by exact rfl) (ht:X.T t=some ti:=by exact rfl) (hk':ti.kind=.slice el:=by exact rfl):aoper X (.call ⟨.builtin .len,as,ts⟩) env σ Q K:=by
 simp only[aoper,h1,h2,abuiltin,alen]
 refine⟨ti,ht,?_⟩
 simp only[hk',hx]
 cases O with
 |none=>have:=hn rfl;subst this;exact hK
 |some p=>exact hK
theorem Yln {α:Type} {e:α→List D} (m:List α) {ars:Array Operand} {ts:Array TypeId} {s x:Operand} {t tx el n sz:Nat} {ti te tix:TI} (hf:∀y:α,(e y).length=sz) (hK:K (.sl n n 0 m.length) (σ.alloc (.row n el sz (im2 e m)))) (hb:m.length≤2097153:=by omega)
  (h1:ars.toList=[s,x]:=by exact rfl) (h2:ts.toList=[t,tx]:=by exact rfl) (hs:aev X env s=.d (.s (.slice none 0 0)):=by exact rfl) (hx:aev X env x=.d (.im (m.map e)):=by exact rfl) (ht:X.T t=some ti:=by exact rfl) (hk:ti.kind=.slice el:=by exact rfl) (hte:X.T el=some te:=by exact rfl) (hsz:te.size=sz:=by exact rfl) (hpz:Nat.blt 0 sz=true:=by exact rfl) (hby:Nat.blt 0 te.bytes=true:=by exact rfl) (hbb:Nat.ble te.bytes 1024=true:=by exact rfl)
  (htx:X.T tx=some tix:=by exact rfl) (hkx:tix.kind=.slice el:=by exact rfl) (hn:σ.next=n:=by exact rfl):aoper X (.call ⟨.builtin .append,ars,ts⟩) env σ Q K:=by
 subst hn
 refine Yap (O:=none) (rows:=[]) (rows2:=im2 e m) (n:=0) (m:=m.length) rfl (by simp[srcOf,rowsOf,im2]) (fun r hr=>?_) (by simp[im2]) hb hK h1 h2 hs hx rfl ht hk hte hsz hpz hby hbb htx hkx
 simp only[im2,List.map_map,List.mem_map,Function.comp]at hr
 obtain⟨y,_,rfl⟩:=hr
 rw[List.length_map];exact hf y
end
end Go.Pm
/- Part of the proof: Mb1. -/
namespace Go.Pm
attribute [local irreducible] AR Ok inBlock andThen endQ aoper
inductive Mb where
 |nd (a:Nat) (s:Sm) (Y:Option (Nat×Nat)) (ys:List Mb) (N:Option (Nat×Nat)) (ns:List Mb)
def Mb.a:Mb→Nat|.nd a _ _ _ _ _=>a
def Mb.s:Mb→Sm|.nd _ s _ _ _ _=>s
def Mb.Y:Mb→Option (Nat×Nat)|.nd _ _ Y _ _ _=>Y
def Mb.ys:Mb→List Mb|.nd _ _ _ ys _ _=>ys
def Mb.N:Mb→Option (Nat×Nat)|.nd _ _ _ _ N _=>N
def Mb.ns:Mb→List Mb|.nd _ _ _ _ _ ns=>ns
mutual
def tmB:Mb→Br
 |.nd _ s _ ys _ ns=>.nd s (tmL ys) (tmL ns)
def tmL:List Mb→List Br
 |[]=>[]
 |m::l=>tmB m::tmL l
end
theorem J0n:∀l:List Mb,tmL l=l.map tmB
 |[]=>rfl
 |m::l=>by simp only[tmL,J0n l,List.map_cons]
theorem J0I (l m:List Mb):tmL (l++m)=tmL l++tmL m:=by simp only[J0n,List.map_append]
def rwO:Option (Nat×Nat)→List Nat
 |none=>[]
 |some (y,_)=>[y]
mutual
def fpB:Mb→List Nat
 |.nd a _ Y ys N ns=>a::(rwO Y++(fpL ys++(rwO N++fpL ns)))
def fpL:List Mb→List Nat
 |[]=>[]
 |m::l=>fpB m++fpL l
end
theorem J1g:∀l m:List Mb,fpL (l++m)=fpL l++fpL m
 |[],m=>rfl
 |x::l,m=>by simp only[List.cons_append,fpL,J1g l m,List.append_assoc]
def mrf (m:Mb):List AV:=[.ref m.a 0]
def mcell (m:Mb):List AV:=(eSm m.s).map .d++[slO m.Y m.ys.length,slO m.N m.ns.length]
mutual
def hoB (E:Nat) (σ:St):Mb→Prop
 |.nd a s Y ys N ns=>σ.obj a=some (.var (mcell (.nd a s Y ys N ns)))∧rowO σ Y E 1 (ys.map mrf)∧rowO σ N E 1 (ns.map mrf)∧hoL E σ ys∧hoL E σ ns
def hoL (E:Nat) (σ:St):List Mb→Prop
 |[]=>True
 |m::l=>hoB E σ m∧hoL E σ l
end
theorem J80 {E:Nat} {σ:St}:∀{l:List Mb},hoL E σ l↔∀m∈l,hoB E σ m
 |[]=>by simp[hoL]
 |m::l=>by simp only[hoL,J80 (l:=l),List.mem_cons,forall_eq_or_imp]
theorem J22 {E:Nat} {σ:St} {l m:List Mb}:hoL E σ (l++m)↔hoL E σ l∧hoL E σ m:=by
 simp only[J80,List.mem_append]
 exact⟨fun h=>⟨fun x hx=>h x (.inl hx),fun x hx=>h x (.inr hx)⟩,fun h x hx=>hx.elim (h.1 x) (h.2 x)⟩
theorem J0b {σ σ':St} {O:Option (Nat×Nat)} {E sz:Nat} {rows:List (List AV)} (h:rowO σ O E sz rows) (hm:∀j∈rwO O,σ'.obj j=σ.obj j):rowO σ' O E sz rows:=by
 cases O with
 |none=>exact h
 |some p=>
  show σ'.obj p.1=_
  rw[hm p.1 (by simp[rwO])];exact h
theorem J70 {σ:St} {O:Option (Nat×Nat)} {E sz:Nat} {rows:List (List AV)} (h:rowO σ O E sz rows):O=none→rows.length=0:=fun e=>by
 subst e;have h:rows=[]:=h;simp[h]
mutual
theorem J9C {E:Nat} {σ σ':St}:∀(m:Mb),(∀j∈fpB m,σ'.obj j=σ.obj j)→hoB E σ m→hoB E σ' m
 |.nd a s Y ys N ns,hm,h=>by
  simp only[fpB,List.mem_cons,List.mem_append]at hm
  simp only[hoB]at h ⊢
  exact⟨by rw[hm a (by simp)];exact h.1,J0b h.2.1 fun j hj=>hm j (.inr (.inl hj)),J0b h.2.2.1 fun j hj=>hm j (.inr (.inr (.inr (.inl hj)))),J05 ys (fun j hj=>hm j (.inr (.inr (.inl hj)))) h.2.2.2.1,J05 ns (fun j hj=>hm j (.inr (.inr (.inr (.inr hj))))) h.2.2.2.2⟩
theorem J05 {E:Nat} {σ σ':St}:∀(l:List Mb),(∀j∈fpL l,σ'.obj j=σ.obj j)→hoL E σ l→hoL E σ' l
 |[],_,_=>trivial
 |m::l,hm,h=>by
  simp only[fpL,List.mem_append]at hm
  simp only[hoL]at h ⊢
  exact⟨J9C m (fun j hj=>hm j (.inl hj)) h.1,J05 l (fun j hj=>hm j (.inr hj)) h.2⟩
end
theorem J11 {σ:St} {O:Option (Nat×Nat)} {E sz:Nat} {rows:List (List AV)} (h:rowO σ O E sz rows):∀j∈rwO O,∃o,σ.obj j=some o:=by
 cases O with
 |none=>intro j hj;simp[rwO]at hj
 |some p=>
  intro j hj
  have:j=p.1:=by simpa[rwO]using hj
  subst this;exact⟨_,h⟩
mutual
theorem Jb7 {E:Nat} {σ:St}:∀(m:Mb),hoB E σ m→∀j∈fpB m,∃o,σ.obj j=some o
 |.nd a s Y ys N ns,h,j,hj=>by
  simp only[fpB,List.mem_cons,List.mem_append]at hj
  simp only[hoB]at h
  rcases hj with rfl|hj|hj|hj|hj
  ·exact⟨_,h.1⟩
  ·exact J11 h.2.1 j hj
  ·exact J3N ys h.2.2.2.1 j hj
  ·exact J11 h.2.2.1 j hj
  ·exact J3N ns h.2.2.2.2 j hj
theorem J3N {E:Nat} {σ:St}:∀(l:List Mb),hoL E σ l→∀j∈fpL l,∃o,σ.obj j=some o
 |[],_,j,hj=>by simp[fpL]at hj
 |m::l,h,j,hj=>by
  simp only[fpL,List.mem_append]at hj
  simp only[hoL]at h
  rcases hj with hj|hj
  ·exact Jb7 m h.1 j hj
  ·exact J3N l h.2 j hj
end
def sftO (k:Nat):Option (Nat×Nat)→Option (Nat×Nat)
 |none=>none
 |some (y,h)=>some (k+y,k+h)
mutual
def sftB (k:Nat):Mb→Mb
 |.nd a s Y ys N ns=>.nd (k+a) s (sftO k Y) (sftL k ys) (sftO k N) (sftL k ns)
def sftL (k:Nat):List Mb→List Mb
 |[]=>[]
 |m::l=>sftB k m::sftL k l
end
theorem J4z (k:Nat):∀l:List Mb,sftL k l=l.map (sftB k)
 |[]=>rfl
 |m::l=>by simp only[sftL,J4z k l,List.map_cons]
mutual
theorem Jbk (k:Nat):∀m:Mb,tmB (sftB k m)=tmB m
 |.nd a s Y ys N ns=>by simp only[sftB,tmB,J3T k ys,J3T k ns]
theorem J3T (k:Nat):∀l:List Mb,tmL (sftL k l)=tmL l
 |[]=>rfl
 |m::l=>by simp only[sftL,tmL,Jbk k m,J3T k l]
end
theorem J7t (k:Nat) (O:Option (Nat×Nat)):rwO (sftO k O)=(rwO O).map (k+·):=by cases O<;>rfl
mutual
theorem Jbo (k:Nat):∀m:Mb,fpB (sftB k m)=(fpB m).map (k+·)
 |.nd a s Y ys N ns=>by simp only[sftB,fpB,J7t,J2A k ys,J2A k ns,List.map_cons,List.map_append]
theorem J2A (k:Nat):∀l:List Mb,fpL (sftL k l)=(fpL l).map (k+·)
 |[]=>rfl
 |m::l=>by simp only[sftL,fpL,Jbo k m,J2A k l,List.map_append]
end
theorem JbT (k:Nat) (m:Mb):(sftB k m).a=k+m.a:=by cases m;simp[sftB,Mb.a]
theorem Jar (k:Nat) (l:List Mb):(l.map mrf).map (rens (k+·))=(sftL k l).map mrf:=by
 rw[J4z,List.map_map,List.map_map]
 refine List.map_congr_left fun m _=>?_
 simp[mrf,rens,ren,JbT]
theorem J7Q (k n:Nat) (O:Option (Nat×Nat)):ren (k+·) (slO O n)=slO (sftO k O) n:=by cases O<;>rfl
theorem J4K {σ σ':St} {k E:Nat} {O:Option (Nat×Nat)} {l:List Mb} (hm:∀j o,σ.obj j=some o→σ'.obj (k+j)=some (renO (k+·) o)) (h:rowO σ O E 1 (l.map mrf)):rowO σ' (sftO k O) E 1 ((sftL k l).map mrf):=by
 cases O with
 |none=>
  have h:l.map mrf=[]:=h
  have:l=[]:=by simpa using h
  subst this;rfl
 |some p=>
  have h:σ.obj p.1=_:=h
  have:=hm _ _ h
  simp only[renO,Jar]at this
  exact this
theorem J76 (k:Nat) (l:List Mb):(sftL k l).length=l.length:=by rw[J4z,List.length_map]
mutual
theorem Jbe {E k:Nat} {σ σ':St} (hm:∀j o,σ.obj j=some o→σ'.obj (k+j)=some (renO (k+·) o)):∀(m:Mb),hoB E σ m→hoB E σ' (sftB k m)
 |.nd a s Y ys N ns,h=>by
  simp only[hoB]at h
  simp only[sftB,hoB]
  refine⟨?_,J4K hm h.2.1,J4K hm h.2.2.1,J3I hm ys h.2.2.2.1,J3I hm ns h.2.2.2.2⟩
  have:=hm _ _ h.1
  rw[this]
  simp only[renO,mcell,Mb.s,Mb.Y,Mb.ys,Mb.N,Mb.ns,JD,List.map_append,List.map_map,J76,List.map_cons,List.map_nil,J7Q]
  rfl
theorem J3I {E k:Nat} {σ σ':St} (hm:∀j o,σ.obj j=some o→σ'.obj (k+j)=some (renO (k+·) o)):∀(l:List Mb),hoL E σ l→hoL E σ' (sftL k l)
 |[],_=>trivial
 |m::l,h=>by
  simp only[hoL]at h
  simp only[sftL,hoL]
  exact⟨Jbe hm m h.1,J3I hm l h.2⟩
end
theorem J2r {α:Type} {l:List α} {a:α} (h:l.Nodup) (ha:a∉l):(l++[a]).Nodup:=by
 rw[List.nodup_append]
 exact⟨h,by simp,fun x hx y hy e=>by simp only[List.mem_singleton]at hy;subst hy;subst e;exact ha hx⟩
end Go.Pm
/- Part of the proof: Pm57. -/
namespace Go.Pm
attribute [local irreducible] AR Ok inBlock andThen endQ aoper
theorem J7L (π:Nat→Nat):∀r:List Value,rens π (r.map ex1)=r.map ex1
 |[]=>rfl
 |v::r=>by simp only[List.map_cons,rens,J7L π r];rfl
theorem J3M (π:Nat→Nat) (V:List (List Value)):(exR V).map (rens π)=exR V:=by
 simp only[exR,List.map_map]
 exact List.map_congr_left fun r _=>J7L π r
section
variable {X:Cfg} {nt:Nat} {ops:Array Oper} {n:Nat} {rest:List Oper} {Q:Exit→Env→St→Prop} {env:Env} {σ:St} {dst:Option Tmp} {op:Op} {ty:TypeId} {pos:String} {after:Array Edge} {r:AV} {b want:Bool} {j d:Nat}
theorem Vz (h:aoper X op env σ (fun _ _ _=>False) fun v σ'=>σ'=σ∧v=r) (k:ADS X nt ops (fun s=>s=σ) [] Q (n+1) rest (put env dst r) σ) (hd:dst.all (·<nt)=true:=by exact rfl):ADS X nt ops (fun s=>s=σ) [] Q n (⟨dst,op,ty,pos,after,none⟩::rest) env σ:=
 J6f (o:=⟨dst,op,ty,pos,after,none⟩) ⟨hd,fun σ' e=>by subst e;exact h⟩ k rfl
theorem Vga (h:aoper X op env σ (fun _ _ _=>False) fun v σ'=>σ'=σ∧v=r) (k:ADS X nt ops (fun s=>s=σ) [] Q (n+1) rest (put env dst r) σ) (hj:(ops[j]?).bind (·.dst)=some d:=by exact rfl) (hn:Nat.blt d nt=true:=by exact rfl) (hb:env d=.d (.s (.bool b)):=by exact rfl) (hd:dst.all (·<nt)=true:=by exact rfl)
  (hw:b=want:=by with_reducible first|exact rfl|assumption):ADS X nt ops (fun s=>s=σ) [] Q n (⟨dst,op,ty,pos,after,some (j,want)⟩::rest) env σ:=
 J6f (o:=⟨dst,op,ty,pos,after,some (j,want)⟩) ⟨hd,d,hj,Je hn,.inl ⟨by rw[hb,hw],fun σ' e=>by subst e;exact h⟩⟩ k rfl
theorem Vgb (k:ADS X nt ops (fun s=>s=σ) [] Q (n+1) rest (put env dst (.d (.s undef))) σ) (hj:(ops[j]?).bind (·.dst)=some d:=by exact rfl) (hn:Nat.blt d nt=true:=by exact rfl) (hb:env d=.d (.s (.bool b)):=by exact rfl) (hd:dst.all (·<nt)=true:=by exact rfl)
  (hw:b=false:=by with_reducible first|exact rfl|assumption):ADS X nt ops (fun s=>s=σ) [] Q n (⟨dst,op,ty,pos,after,some (j,true)⟩::rest) env σ:=
 J6f (o:=⟨dst,op,ty,pos,after,some (j,true)⟩) ⟨hd,d,hj,Je hn,.inr (.inl ⟨by rw[hb,hw];rfl,rfl⟩)⟩ k rfl
theorem Vgc (k:ADS X nt ops (fun s=>s=σ) [] Q (n+1) rest (put env dst (.d (.s undef))) σ) (hj:(ops[j]?).bind (·.dst)=some d:=by exact rfl) (hn:Nat.blt d nt=true:=by exact rfl) (hb:env d=.d (.s (.bool b)):=by exact rfl) (hd:dst.all (·<nt)=true:=by exact rfl)
  (hw:b=true:=by with_reducible first|exact rfl|assumption):ADS X nt ops (fun s=>s=σ) [] Q n (⟨dst,op,ty,pos,after,some (j,false)⟩::rest) env σ:=
 J6f (o:=⟨dst,op,ty,pos,after,some (j,false)⟩) ⟨hd,d,hj,Je hn,.inr (.inl ⟨by rw[hb,hw];rfl,rfl⟩)⟩ k rfl
end
theorem AFun.wfe {X:Cfg} {f:FuncId} {args:List AV} {σ:St} {K:AEnd→St→Prop} (h:AFun X f args σ K):AFun X f args σ fun E σ'=>K E σ'∧∀i o,σ'.obj i=some o→i<σ'.next:=
 ⟨h.1,fun F η w vals hg hf hs hn hv=>(h.2 F η w vals hg hf hs hn hv).mono fun _ _ ⟨F',η',σ',E,h1,h2,h3,h4,h5⟩=>⟨F',η',σ',E,h1,h2,h3,h4,h5,h3.lt⟩⟩
theorem J8h (O:Option (Nat×Nat)) (n:Nat):(slO O n).cells=some [slO O n]∧(slO O n).one=true:=by cases O<;>exact⟨rfl,rfl⟩
section
variable {X:Cfg} {nt:Nat} {Q:Exit→Env→St→Prop} {K:AV→St→Prop} {env:Env} {σ:St}
theorem Yex {x:Operand} {i:Nat} {cs:List AV} {r:AV} (hK:K r σ) (hx:aev X env x=.tup cs:=by exact rfl) (hr:cs[i]? = some r:=by exact rfl):aoper X (.extract x i) env σ Q K:=by
 simp only[aoper,aop,aextract,hx]
 exact⟨r,hr,hK⟩
theorem Yto {p x:Operand} {i off t n:Nat} {O:Option (Nat×Nat)} {cells m:List AV} {ti:TI} (ho:σ.obj i=some (.var cells)) (hK:K (.d (.s undef)) (σ.set i (.var m))) (hp:aev X env p=.ref i off:=by exact rfl) (ht:X.T t=some ti:=by exact rfl) (hs:ti.size=1:=by exact rfl) (hx:aev X env x=slO O n:=by exact rfl) (hm:spliceF cells off [slO O n]=some m:=by exact rfl):aoper X (.store t p x) env σ Q K:=by
 simp only[aoper,aop,astore]
 obtain⟨h3,h4⟩:=J0q hm
 obtain⟨c1,c2⟩:=J8h O n
 refine⟨ti,ht,[slO O n],by rw[hx];exact c1,by rw[hs];rfl,by rw[List.all_cons,c2];rfl,?_⟩
 simp only[hp]
 exact⟨cells,ho,by rw[hs];exact h4,by rw[h3];exact hK⟩
end
theorem J8l {X:Cfg} {nt:Nat} {Q:Exit→Env→St→Prop} {env:Env} {σ:St} {c:Code} (i k:Nat) (O:Option (Nat×Nat)) {E m:Nat} {ss:List Sh} {rows:List (List D)} {vs:List (List Value)} {l:List (Sh×D×Value)} {τ:FH} {C:AV→AO} (hC:Spot C)
  (hi:σ.obj i=some (.box τ)) (hk:σ.obj k=some (C (slO O m))) (hm:m=rows.length) (hp:0<ss.length) (hj:rowO σ O E ss.length (exR vs)) (hkj:k∉rwO O) (ha:agrs ss rows vs) (hT:Tr τ (subss ss rows vs++l)) (hki:k≠i)
  (h:∀a n cp τ' σ',Tr τ' ((.im E ss,.im rows,.slice a n cp)::l)→σ'.obj i=some (.box τ')→σ'.obj k=some (C (.d (.s (.slice a n cp))))→(∀j,j≠i→j≠k→j∉rwO O→σ'.obj j=σ.obj j)→σ'.next=σ.next→Ok X nt c Q env σ'):Ok X nt c Q env σ:=by
 cases O with
 |none=>
  have hj:exR vs=[]:=hj
  have:vs=[]:=by simpa[exR]using hj
  subst this
  have:rows=[]:=by
   have:=(J16 ha).1
   exact List.eq_nil_of_length_eq_zero (by simpa using this.symm)
  subst this
  exact h none 0 0 τ σ (.im0 E ss hp (by simpa[subss]using hT)) hi hk (fun _ _ _ _=>rfl) rfl
 |some p=>
  have hj:σ.obj p.1=some (.row p.2 E ss.length (exR vs)):=hj
  have hkp:k≠p.1:=fun e=>hkj (by simp[rwO,e])
  have hip:i≠p.1:=fun e=>by rw[e,hj]at hi;cases hi
  refine J0g i k p.1 hC hi hk hm hkp hj ha hT hki fun a n cp τ' t'=>h a n cp τ' _ t' ?_ ?_ (fun j h1 h2 h3=>?_) rfl
  ·rw[St.obj_drop,if_neg hip,St.obj_set,if_neg (Ne.symm hki),St.obj_set,if_pos rfl]
  ·rw[St.obj_drop,if_neg hkp,St.obj_set,if_pos rfl]
  ·rw[St.obj_drop,if_neg (fun e=>h3 (by simp[rwO,e])),St.obj_set,if_neg h2,St.obj_set,if_neg h1]
end Go.Pm
/- Part of the proof: Fo1. -/
namespace Go.Pm
inductive Spell:List Sm→List Br→Prop
 |nil:Spell [] []
 |leaf {s:Sm} {l:List Sm} {R:List Br} (h4:s.kind≠4) (h5:s.kind≠5) (h6:s.kind≠6) (h:Spell l R):Spell (s::l) (.nd s [] []::R)
 |cond {s e f:Sm} {y n l:List Sm} {Y N R:List Br} (h4:s.kind=4) (h5:e.kind=5) (h6:f.kind=6) (hy:Spell y Y) (hn:Spell n N) (h:Spell l R):Spell (s::(y++e::(n++f::l))) (.nd s Y N::R)
theorem Spell.app {l m:List Sm} {R T:List Br} (h:Spell l R) (h':Spell m T):Spell (l++m) (R++T):=by
 induction h with
 |nil=>exact h'
 |leaf h4 h5 h6 _ ih=>exact .leaf h4 h5 h6 ih
 |cond h4 h5 h6 hy hn _ _ _ ih=>have:=Spell.cond h4 h5 h6 hy hn ih;simpa using this
def putFs:List Br→List Fr→List Br→List Fr×List Br
 |[],st,R=>(st,R)
 |b::bs,st,R=>putFs bs (putF b st R).1 (putF b st R).2
theorem J5d:∀(bs R:List Br),putFs bs [] R=([],R++bs)
 |[],R=>by simp[putFs]
 |b::bs,R=>by simp[putFs,putF,J5d bs]
theorem J5I (s:Sm) (n:List Br) (st:List Fr) (R:List Br):∀(bs:List Br) (Y:List Br),putFs bs (⟨s,false,Y,n⟩::st) R=(⟨s,false,Y++bs,n⟩::st,R)
 |[],Y=>by simp[putFs]
 |b::bs,Y=>by simp[putFs,putF,J5I s n st R bs]
theorem J6J (s:Sm) (y:List Br) (st:List Fr) (R:List Br):∀(bs:List Br) (N:List Br),putFs bs (⟨s,true,y,N⟩::st) R=(⟨s,true,y,N++bs⟩::st,R)
 |[],Y=>by simp[putFs]
 |b::bs,Y=>by simp[putFs,putF,J6J s y st R bs]
theorem JaY {s:Sm} (h:s.kind=4) (l:List Sm) (st:List Fr) (R:List Br):growGo (s::l) st R=growGo l (⟨s,false,[],[]⟩::st) R:=by simp only[growGo];rw[if_pos h]
theorem J8k {s u:Sm} (h:s.kind=5) (l:List Sm) (y n:List Br) (st:List Fr) (R:List Br):growGo (s::l) (⟨u,false,y,n⟩::st) R=growGo l (⟨u,true,y,n⟩::st) R:=by
 simp only[growGo];rw[if_neg (by omega),if_pos h];rfl
theorem Ja4 {s u:Sm} (h:s.kind=6) (l:List Sm) (y n:List Br) (st:List Fr) (R:List Br):growGo (s::l) (⟨u,true,y,n⟩::st) R=growGo l (putF (.nd u y n) st R).1 (putF (.nd u y n) st R).2:=by
 simp only[growGo];rw[if_neg (by omega),if_neg (by omega),if_pos h];rfl
theorem J7o {l:List Sm} {T:List Br} (h:Spell l T):∀(r:List Sm) (st:List Fr) (R:List Br),growGo (l++r) st R=growGo r (putFs T st R).1 (putFs T st R).2:=by
 induction h with
 |nil=>intro r st R;rfl
 |leaf h4 h5 h6 _ ih=>
  intro r st R
  simp only[List.cons_append,growGo,h4,h5,h6,if_false,ih,putFs]
 |@cond s e f y n l Y N T h4 h5 h6 _ _ _ ihy ihn ih=>
  intro r st R
  have e1:s::(y++e::(n++f::l))++r=s::(y++(e::(n++(f::(l++r))))):=by simp
  rw[e1,JaY h4,ihy,J5I,List.nil_append,J8k h5,ihn,J6J,List.nil_append,Ja4 h6,ih]
  rfl
theorem JI {l:List Sm} {T:List Br} (h:Spell l T):growI l=some T:=by
 have:=J7o h [] [] []
 rw[List.append_nil]at this
 unfold growI
 rw[this,J5d]
 rfl
inductive Comp:List Sm→List Fr→List Br→List Br→Prop
 |done {l:List Sm} {R T:List Br} (h:Spell l T):Comp l [] R (R++T)
 |yes {y l:List Sm} {Y R R':List Br} {e:Sm} {f:Fr} {st:List Fr} (hf:f.els=false) (hy:Spell y Y) (he:e.kind=5) (h:Comp l (⟨f.s,true,f.yes++Y,f.no⟩::st) R R'):Comp (y++e::l) (f::st) R R'
 |no {n l:List Sm} {N R R':List Br} {e:Sm} {f:Fr} {st:List Fr} (hf:f.els=true) (hn:Spell n N) (he:e.kind=6) (h:Comp l (putF (.nd f.s f.yes (f.no++N)) st R).1 (putF (.nd f.s f.yes (f.no++N)) st R).2 R'):Comp (n++e::l) (f::st) R R'
theorem J5l {u l:List Sm} {b:Br} (hu:∀{m:List Sm} {T:List Br},Spell m T→Spell (u++m) (b::T)) {st:List Fr} {R R':List Br} (h:Comp l (putF b st R).1 (putF b st R).2 R'):Comp (u++l) st R R':=by
 cases st with
 |nil=>
  simp only[putF]at h
  cases h with
  |done h=>rw[List.append_assoc];exact .done (hu h)
 |cons f st=>
  simp only[putF]at h
  cases hf:f.els with
  |false=>
   simp only[hf,Bool.false_eq_true,if_false]at h
   cases h with
   |yes hf' hy he h=>
    rw[←List.append_assoc]
    refine .yes hf (hu hy) he ?_
    simpa using h
   |no hf'=>simp[hf]at hf'
  |true=>
   simp only[hf,if_true]at h
   cases h with
   |yes hf'=>simp[hf]at hf'
   |no hf' hn he h=>
    rw[←List.append_assoc]
    refine .no hf (hu hn) he ?_
    simpa using h
theorem J1r:∀(l:List Sm) (st:List Fr) (R R':List Br),growGo l st R=some R'→Comp l st R R'
 |[],[],R,R',e=>by
  simp only[growGo,Option.some.injEq]at e
  subst e
  have:=Comp.done (R:=R) Spell.nil
  simpa using this
 |[],_::_,R,R',e=>by simp[growGo]at e
 |s::l,st,R,R',e=>by
  simp only[growGo]at e
  split at e
  ·rename_i h4
   have:=J1r l _ R R' e
   cases this with
   |@yes y l1 Y _ _ t1 _ _ hf hy he h=>
    cases h with
    |@no n l2 N _ _ t2 _ _ hf2 hn he2 h=>
     have key:=J5l (u:=s::(y++t1::(n++[t2]))) (b:=.nd s Y N) (st:=st) (R:=R) (R':=R') (l:=l2) (fun {m T} hm=>by
      have:=Spell.cond h4 he he2 hy hn hm
      simpa using this) (by simpa using h)
     simpa using key
    |yes hf'=>cases hf'
   |no hf=>cases hf
  ·rename_i h4
   split at e
   ·rename_i h5
    cases st with
    |nil=>cases e
    |cons f st'=>
     dsimp only at e
     split at e
     ·cases e
     ·rename_i hf
      have:=J1r l _ R R' e
      have:=Comp.yes (f:=f) (by simpa using hf) Spell.nil h5 (by simpa using this)
      simpa using this
   ·rename_i h5
    split at e
    ·rename_i h6
     cases st with
     |nil=>cases e
     |cons f st'=>
      dsimp only at e
      split at e
      ·rename_i hf
       have:=J1r l _ _ R' e
       have:=Comp.no (f:=f) hf Spell.nil h6 (by simpa using this)
       simpa using this
      ·cases e
    ·rename_i h6
     have:=J1r l _ _ R' e
     exact J5l (u:=[s]) (fun hm=>Spell.leaf h4 h5 h6 hm) this
theorem J9w {l:List Sm} {R X:List Br} (h:Comp l [] R X):∃T,X=R++T∧Spell l T:=by
 cases h with
 |done h=>exact⟨_,rfl,h⟩
theorem JL {l:List Sm} {T:List Br} (h:growI l=some T):Spell l T:=by
 obtain⟨T',rfl,h'⟩:=J9w (J1r l [] [] T h)
 exact h'
def partsGo:List Sm→Nat→Int→Int→Int×Int
 |[],_,_,_=>(-1,-1)
 |s::l,j,d,o=>
  if s.kind=4 then partsGo l (j+1) (d+1) o
  else if s.kind=5 then(if d=1 then(if 0≤o then(-1,-1)else partsGo l (j+1) d j)else partsGo l (j+1) d o)
  else if s.kind=6 then(if d-1=0 then(o,j)else partsGo l (j+1) (d-1) o)
  else partsGo l (j+1) d o
def partsS (l:List Sm) (i:Nat):Int×Int:=partsGo (l.drop i) i 0 (-1)
theorem J84 {s:Sm} (h:s.kind=4) (l:List Sm) (j:Nat) (d o:Int):partsGo (s::l) j d o=partsGo l (j+1) (d+1) o:=by simp only[partsGo];rw[if_pos h]
theorem JaX {s:Sm} (h:s.kind=5) (l:List Sm) (j:Nat) {d:Int} (hd:d≠1) (o:Int):partsGo (s::l) j d o=partsGo l (j+1) d o:=by simp only[partsGo];rw[if_neg (by omega),if_pos h,if_neg hd]
theorem JbW {s:Sm} (h:s.kind=6) (l:List Sm) (j:Nat) {d:Int} (hd:d-1≠0) (o:Int):partsGo (s::l) j d o=partsGo l (j+1) (d-1) o:=by simp only[partsGo];rw[if_neg (by omega),if_neg (by omega),if_pos h,if_neg hd]
theorem J3o {l:List Sm} {T:List Br} (h:Spell l T):∀(r:List Sm) (j:Nat) (d o:Int),1≤d→partsGo (l++r) j d o=partsGo r (j+l.length) d o:=by
 induction h with
 |nil=>intro r j d o _;rfl
 |leaf h4 h5 h6 _ ih=>
  intro r j d o hd
  simp only[List.cons_append,partsGo,h4,h5,h6,if_false,ih _ _ _ _ hd,List.length_cons]
  congr 1;omega
 |@cond s e f y n l Y N T h4 h5 h6 _ _ _ ihy ihn ih=>
  intro r j d o hd
  have e1:s::(y++e::(n++f::l))++r=s::(y++(e::(n++(f::(l++r))))):=by simp
  rw[e1]
  rw[J84 h4,ihy _ _ _ _ (by omega),JaX h5 _ _ (by omega),ihn _ _ _ _ (by omega),JbW h6 _ _ (by omega),ih _ _ _ _ (by omega)]
  simp only[List.length_cons,List.length_append]
  congr 1<;>omega
theorem J1Q {s e f:Sm} {y n:List Sm} {Y N:List Br} (h4:s.kind=4) (h5:e.kind=5) (h6:f.kind=6) (hy:Spell y Y) (hn:Spell n N) (r:List Sm) (j:Nat):
  partsGo (s::(y++e::(n++f::r))) j 0 (-1)=(((j+1+y.length:Nat):Int),((j+1+y.length+1+n.length:Nat):Int)):=by
 rw[J84 h4,J3o hy _ _ _ _ (by omega)]
 have h1:∀(m:List Sm) (j:Nat),partsGo (e::m) j (0+1) (-1)=partsGo m (j+1) 1 j:=by
  intro m j
  simp only[partsGo]
  rw[if_neg (by omega),if_pos h5,if_pos (by omega),if_neg (by omega)]
  rfl
 rw[h1,J3o hn _ _ _ _ (by omega)]
 simp only[partsGo]
 rw[if_neg (by omega),if_neg (by omega),if_pos h6,if_pos (by omega)]
theorem J4G:∀(l:List Sm) (j:Nat) (d o O E:Int),1≤d→partsGo l j d o=(O,E)→0≤E→(∃q,E=((j+q:Nat):Int)∧∃f,l[q]? = some f∧f.kind=6∧(O=o∨∃p,p<q∧O=((j+p:Nat):Int)∧∃e,l[p]? = some e∧e.kind=5))
 |[],j,d,o,O,E,_,h,hE=>by simp only[partsGo,Prod.mk.injEq]at h;omega
 |s::l,j,d,o,O,E,hd,h,hE=>by
  have up:∀{d' o':Int},1≤d'→partsGo l (j+1) d' o'=(O,E)→(o'=o∨(o'=(j:Int)∧s.kind=5))→∃q,E=((j+q:Nat):Int)∧∃f,(s::l)[q]? = some f∧f.kind=6∧(O=o∨∃p,p<q∧O=((j+p:Nat):Int)∧∃e,(s::l)[p]? = some e∧e.kind=5):=by
   intro d' o' hd' h' ho
   obtain⟨q,h1,f,h2,h3,h4⟩:=J4G l (j+1) d' o' O E hd' h' hE
   refine⟨q+1,by omega,f,by simpa using h2,h3,?_⟩
   rcases h4 with h4|⟨p,h5,h6,e,h7,h8⟩
   ·rcases ho with ho|⟨ho,hs⟩
    ·exact .inl (by omega)
    ·exact .inr ⟨0,by omega,by omega,s,rfl,hs⟩
   ·exact .inr ⟨p+1,by omega,by omega,e,by simpa using h7,h8⟩
  simp only[partsGo]at h
  split at h
  ·exact up (by omega) h (.inl rfl)
  ·split at h
   ·rename_i h5
    split at h
    ·split at h
     ·simp only[Prod.mk.injEq]at h;omega
     ·exact up hd h (.inr ⟨rfl,h5⟩)
    ·exact up hd h (.inl rfl)
   ·split at h
    ·rename_i h6
     split at h
     ·simp only[Prod.mk.injEq]at h
      exact⟨0,by omega,s,rfl,h6,.inl h.1.symm⟩
     ·exact up (by omega) h (.inl rfl)
    ·exact up hd h (.inl rfl)
end Go.Pm
/- Part of the proof: Fo2. -/
namespace Go.Pm
theorem J7l {s:Sm} {r:List Sm} {T:List Br} (h4:s.kind=4) (h:Spell (s::r) T):∃y e n f r2 Y N R,r=y++e::(n++f::r2)∧e.kind=5∧f.kind=6∧Spell y Y∧Spell n N∧Spell r2 R∧T=.nd s Y N::R:=by
 cases h with
 |leaf h=>exact absurd h4 h
 |cond h4 h5 h6 hy hn h=>exact⟨_,_,_,_,_,_,_,_,rfl,h5,h6,hy,hn,h,rfl⟩
theorem J41 {s:Sm} {r:List Sm} {T:List Br} (h4:s.kind≠4) (h:Spell (s::r) T):s.kind≠5∧s.kind≠6∧∃R,Spell r R∧T=.nd s [] []::R:=by
 cases h with
 |leaf h4 h5 h6 h=>exact⟨h5,h6,_,h,rfl⟩
 |cond h=>exact absurd h h4
theorem J5j:growI []=some []:=rfl
theorem J7i {s:Sm} {r:List Sm} (h4:s.kind≠4) (h5:s.kind≠5) (h6:s.kind≠6):growI (s::r)=(growI r).map (.nd s [] []::·):=by
 cases h:growI r with
 |none=>
  rw[Option.map_none]
  cases h':growI (s::r)with
  |none=>rfl
  |some T=>
   obtain⟨_,_,R,h1,_⟩:=J41 h4 (JL h')
   rw[JI h1]at h;cases h
 |some R=>exact JI (.leaf h4 h5 h6 (JL h))
theorem J8C {s:Sm} {r:List Sm} (h:s.kind=5∨s.kind=6):growI (s::r)=none:=by
 cases h':growI (s::r)with
 |none=>rfl
 |some T=>obtain⟨h5,h6,_⟩:=J41 (by omega) (JL h');omega
theorem Jbd {s:Sm} {r:List Sm} {j:Nat} {O E:Int} (h4:s.kind=4) (hp:partsGo (s::r) j 0 (-1)=(O,E)) (hb:O<0∨E<0):growI (s::r)=none:=by
 cases h':growI (s::r)with
 |none=>rfl
 |some T=>
  obtain⟨y,e,n,f,r2,Y,N,R,rfl,h5,h6,hy,hn,_⟩:=J7l h4 (JL h')
  rw[J1Q h4 h5 h6 hy hn,Prod.mk.injEq]at hp
  omega
theorem JbJ {s:Sm} {r:List Sm} {j:Nat} {O E:Int} (h4:s.kind=4) (hp:partsGo (s::r) j 0 (-1)=(O,E)) (hO:0≤O) (hE:0≤E):
  ∃y e n f r2,r=y++e::(n++f::r2)∧e.kind=5∧f.kind=6∧O=((j+1+y.length:Nat):Int)∧E=((j+1+y.length+1+n.length:Nat):Int):=by
 rw[J84 h4]at hp
 obtain⟨q,h1,f,h2,h3,h⟩:=J4G r (j+1) _ _ O E (by omega) hp hE
 rcases h with h|⟨p,hpq,h5,e,h6,h7⟩
 ·omega
 obtain⟨d1,l1⟩:r.drop q=f::r.drop (q+1)∧q<r.length:=by
  obtain⟨hl,he⟩:=List.getElem?_eq_some_iff.1 h2
  exact⟨by rw[List.drop_eq_getElem_cons hl,he],hl⟩
 obtain⟨d2,l2⟩:r.drop p=e::r.drop (p+1)∧p<r.length:=by
  obtain⟨hl,he⟩:=List.getElem?_eq_some_iff.1 h6
  exact⟨by rw[List.drop_eq_getElem_cons hl,he],hl⟩
 have d3:(r.drop (p+1)).drop (q-p-1)=f::r.drop (q+1):=by rw[List.drop_drop,←d1];congr 1;omega
 refine⟨r.take p,e,(r.drop (p+1)).take (q-p-1),f,r.drop (q+1),?_,h7,h3,?_,?_⟩
 ·rw[←d3,List.take_append_drop,←d2,List.take_append_drop]
 ·rw[List.length_take,Nat.min_eq_left (by omega)];exact h5
 ·rw[List.length_take,Nat.min_eq_left (by omega),List.length_take,List.length_drop,Nat.min_eq_left (by omega)];omega
theorem J9T {s e f:Sm} {y n r2:List Sm} {j:Nat} (h4:s.kind=4) (h5:e.kind=5) (h6:f.kind=6) (hp:partsGo (s::(y++e::(n++f::r2))) j 0 (-1)=(((j+1+y.length:Nat):Int),((j+1+y.length+1+n.length:Nat):Int))):
  growI (s::(y++e::(n++f::r2)))=(growI y).bind fun Y=>(growI n).bind fun N=>(growI r2).map fun R=>.nd s Y N::R:=by
 cases h':growI (s::(y++e::(n++f::r2)))with
 |some T=>
  obtain⟨y',e',n',f',r',Y,N,R,he,h5',h6',hy,hn,hr,rfl⟩:=J7l h4 (JL h')
  rw[he,J1Q h4 h5' h6' hy hn,Prod.mk.injEq]at hp
  obtain⟨rfl,he2⟩:=List.append_inj he (by omega)
  rw[List.cons.injEq]at he2
  obtain⟨rfl,he2⟩:=he2
  obtain⟨rfl,he3⟩:=List.append_inj he2 (by omega)
  rw[List.cons.injEq]at he3
  obtain⟨rfl,rfl⟩:=he3
  rw[JI hy,JI hn,JI hr];rfl
 |none=>
  cases hy:growI y with
  |none=>rfl
  |some Y=>
   cases hn:growI n with
   |none=>rfl
   |some N=>
    cases hr:growI r2 with
    |none=>rfl
    |some R=>rw[JI (.cond h4 h5 h6 (JL hy) (JL hn) (JL hr))]at h';cases h'
theorem J5v {l:List Sm} {T:List Br} (h:Spell l T):l=[]↔T=[]:=by cases h<;>simp
mutual
def deepB:Br→Int→Bool
 |.nd s Y N,d=>if s.kind=4 then(if(Y≠[]∨N≠[])∧20<d+1 then false else deepL Y (d+1)&&deepL N (d+1))else true
def deepL:List Br→Int→Bool
 |[],_=>true
 |b::R,d=>deepB b d&&deepL R d
end
def nestV (l:List Sm) (d:Int):Bool:=match growI l with|none=>false|some R=>deepL R d
theorem J8L (d:Int):nestV [] d=true:=by simp[nestV,J5j,deepL]
theorem J7m {s:Sm} {r:List Sm} (h4:s.kind≠4) (h5:s.kind≠5) (h6:s.kind≠6) (d:Int):nestV (s::r) d=nestV r d:=by
 unfold nestV
 rw[J7i h4 h5 h6]
 cases growI r with
 |none=>rfl
 |some R=>simp[deepL,deepB,h4]
theorem J5e {s:Sm} {r:List Sm} (h:s.kind=5∨s.kind=6) (d:Int):nestV (s::r) d=false:=by
 unfold nestV;rw[J8C h]
theorem J4m {s:Sm} {r:List Sm} {j:Nat} {O E:Int} (h4:s.kind=4) (hp:partsGo (s::r) j 0 (-1)=(O,E)) (hb:O<0∨E<0) (d:Int):nestV (s::r) d=false:=by
 unfold nestV;rw[Jbd h4 hp hb]
theorem J9A {s e f:Sm} {y n r2:List Sm} {j:Nat} (h4:s.kind=4) (h5:e.kind=5) (h6:f.kind=6) (hp:partsGo (s::(y++e::(n++f::r2))) j 0 (-1)=(((j+1+y.length:Nat):Int),((j+1+y.length+1+n.length:Nat):Int))) (d:Int):
  nestV (s::(y++e::(n++f::r2))) d=if(0<y.length∨0<n.length)∧20<d+1 then false else nestV y (d+1)&&nestV n (d+1)&&nestV r2 d:=by
 unfold nestV
 rw[J9T h4 h5 h6 hp]
 cases hy:growI y with
 |none=>simp
 |some Y=>
  cases hn:growI n with
  |none=>simp
  |some N=>
   have e1:(0<y.length↔Y≠[]):=by rw[List.length_pos_iff,Ne,J5v (JL hy)]
   have e2:(0<n.length↔N≠[]):=by rw[List.length_pos_iff,Ne,J5v (JL hn)]
   cases hr:growI r2 with
   |none=>simp
   |some R=>
    simp only[Option.bind_some,Option.map_some,deepL,deepB,h4,if_true,e1,e2]
    split
    ·rfl
    ·rfl
def withinAt (sw:Sm→ByteArray→Bool) (l:List Sm) (i:Nat):Bool:=match l[i]? with
 |none=>true
 |some s=>if s.kind=4 then !(((l.drop i).take ((partsS l i).2.toNat-i)).any fun t=>sw t s.name)else true
def withinS (sw:Sm→ByteArray→Bool) (l:List Sm):Bool:=(List.range l.length).all (withinAt sw l)
end Go.Pm
/- Part of the proof: Pm58. -/
namespace Go.Pm
attribute [local irreducible] AR Ok inBlock andThen endQ aoper
theorem okzMid {τ:St} {A B:List AV} {x y:AV} (h:Kz τ x y):OKz τ (.var (A++x::B)) (.var (A++y::B)):=by
 refine .var (by simp) fun j h1 h2=>?_
 by_cases e:j=A.length
 ·subst e
  rw[J2H,J2H];exact h
 ·rw[J7I A B x y e h1 h2];exact .same _
theorem J9y {α:Type} {e:α→List D} {l:List α} {σ:St} {j v E sz m:Nat} (hm:m=l.length) (hj:σ.obj j=some (.row v E sz (im2 e l))):Kz (σ.sel fun q=>q == j) (.sl j v 0 m) (.d (.im (l.map e))):=
 .fz (.data (J2j (by show(if(j == j)=true then σ.obj j else none)=_;rw[if_pos (by simp)];exact hj) hm))
theorem J4E {X:Cfg} {nt:Nat} {Q:Exit→Env→St→Prop} {env:Env} {σ:St} {c:Code} {α:Type} {e:α→List D} {l:List α} (k j:Nat) {v E sz m:Nat} (pre post:List AV) (hk:σ.obj k=some (.var (pre++.sl j v 0 m::post))) (hm:m=l.length) (hj:σ.obj j=some (.row v E sz (im2 e l))) (hkj:k≠j)
  (h:Ok X nt c Q env ((σ.set k (.var (pre++.d (.im (l.map e))::post))).drop j)):Ok X nt c Q env σ:=by
 refine J0a (σ':=(σ.set k (.var (pre++.d (.im (l.map e))::post))).drop j) (env':=env) (J6N (fun q=>q == j) rfl (fun q o' hq=>?_) fun t=>.same _) h
 rw[St.obj_drop]at hq
 by_cases e1:q=j
 ·rw[if_pos e1]at hq;cases hq
 ·rw[if_neg e1,St.obj_set]at hq
  refine⟨by simpa using e1,?_⟩
  by_cases e2:q=k
  ·subst e2
   rw[if_pos rfl]at hq
   obtain rfl:=Option.some.inj hq
   exact⟨_,hk,okzMid (J9y hm hj)⟩
  ·rw[if_neg e2]at hq
   exact⟨o',hq,.same _⟩
theorem J95 {X:Cfg} {nt:Nat} {Q:Exit→Env→St→Prop} {env:Env} {σ:St} {c:Code} {α:Type} {e:α→List D} {l:List α} (t j:Nat) {v E sz m:Nat} (ht:env t=.sl j v 0 m) (hm:m=l.length) (hj:σ.obj j=some (.row v E sz (im2 e l)))
  (h:Ok X nt c Q (put env (some t) (.d (.im (l.map e)))) (σ.drop j)):Ok X nt c Q env σ:=by
 refine J0a (σ':=σ.drop j) (env':=put env (some t) (.d (.im (l.map e)))) (J6N (fun q=>q == j) rfl (fun q o' hq=>?_) fun t'=>?_) h
 ·rw[St.obj_drop]at hq
  by_cases e1:q=j
  ·rw[if_pos e1]at hq;cases hq
  ·rw[if_neg e1]at hq
   exact⟨by simpa using e1,o',hq,.same _⟩
 ·rw[J4c]
  split
  ·rename_i e1;subst e1;rw[ht];exact J9y hm hj
  ·exact .same _
theorem Yad {X:Cfg} {Q:Exit→Env→St→Prop} {K:AV→St→Prop} {env:Env} {σ:St} {α:Type} {e:α→List D} {l:List α} {y:α} {i h k v t tx el sz m:Nat} {ti te tix:TI} {s x:Operand} {ars:Array Operand} {ts:Array TypeId} (ho:σ.obj i=some (.row h el sz (im2 e l))) (hk:σ.obj k=some (.row v el sz [(e y).map .d])) (hf:∀z,(e z).length=sz) (hm:m=l.length)
  (hK:K (.sl i σ.next 0 (m+1)) (bumpSet σ i (.row σ.next el sz (im2 e (l++[y])))))
  (h1:ars.toList=[s,x]:=by exact rfl) (h2:ts.toList=[t,tx]:=by exact rfl) (hs:aev X env s=.sl i h 0 m:=by exact rfl) (hx:aev X env x=.sl k v 0 1:=by exact rfl) (ht:X.T t=some ti:=by exact rfl) (hkd:ti.kind=.slice el:=by exact rfl) (hte:X.T el=some te:=by exact rfl) (hsz:te.size=sz:=by exact rfl) (hp:Nat.blt 0 sz=true:=by exact rfl)
  (hpb:Nat.blt 0 te.bytes=true:=by exact rfl) (htx:X.T tx=some tix:=by exact rfl) (hkx:tix.kind=.slice el:=by exact rfl) (hbb:Nat.ble te.bytes 1024=true:=by exact rfl) (hb:l.length≤2097152:=by omega):aoper X (.call ⟨.builtin .append,ars,ts⟩) env σ Q K:=by
 subst hm
 exact app3 ho hk hf hK h1 h2 hs hx ht hkd hte hsz hp hpb htx hkx hbb hb
section
variable {X:Cfg} {nt:Nat} {Q:Exit→Env→St→Prop} {K:AV→St→Prop} {env:Env} {σ:St} {r:AV}
theorem Yle {cells:List AV} {rows:List (List AV)} {p:Operand} {i v k off el sz t:Nat} {ti:TI} (ho:σ.obj i=some (.row v el sz rows)) (hr:rows[k]? = some cells) (hK:K r σ) (hp:aev X env p=.ep i v k off:=by exact rfl) (ht:X.T t=some ti:=by exact rfl)
  (hc:pieceF (isAggK ti.kind) cells off ti.size=some r:=by exact rfl):aoper X (.load t p) env σ Q K:=by
 simp only[aoper,aop,aload]
 refine⟨ti,ht,(cells,off),?_,r,J0z hc,hK⟩
 rw[hp]
 simp[behind,ho,hr]
theorem Yse {row cs m:List AV} {rows:List (List AV)} {p x:Operand} {i v k off el sz t:Nat} {ti:TI} (ho:σ.obj i=some (.row v el sz rows)) (hr:rows[k]? = some row) (hK:K (.d (.s undef)) (σ.set i (.row v el sz (rows.set k m)))) (hp:aev X env p=.ep i v k off:=by exact rfl) (ht:X.T t=some ti:=by exact rfl)
  (hx:cellsF (aev X env x)=some cs:=by exact rfl) (h1:(decide (cs.length=ti.size)&&cs.all AV.one)=true:=by exact rfl) (hm:spliceF row off cs=some m:=by exact rfl):aoper X (.store t p x) env σ Q K:=by
 simp only[aoper,aop,astore]
 simp only[Bool.and_eq_true,decide_eq_true_eq]at h1
 obtain⟨h3,h4⟩:=J0q hm
 refine⟨ti,ht,cs,J0C hx,h1.1,h1.2,?_⟩
 simp only[hp]
 exact⟨el,sz,rows,ho,row,hr,by rw[←h1.1];exact h4,by rw[h3];exact hK⟩
end
theorem J9o {α:Type} {e:α→List D} (A:List α) (x:α) (B:List α):(im2 e (A++x::B))[A.length]? = some ((e x).map .d):=by simp[im2]
theorem Jac {α:Type} {e:α→List D} (A:List α) (x y:α) (B:List α):(im2 e (A++x::B)).set A.length ((e y).map .d)=im2 e (A++y::B):=by simp[im2]
end Go.Pm
/- Part of the proof: Bt1. -/
namespace Go.Pm
def B (l:List UInt8):ByteArray:=⟨l.toArray⟩
def itoaB (n:Int):ByteArray:=⟨(Lib.itoa n).toArray⟩
def boolT (v:Int):ByteArray:=if v≠0 then B [116,114,117,101]else B [102,97,108,115,101]
theorem J9g (a b c:ByteArray):a++b++c=a++(b++c):=by
 apply ByteArray.ext;simp[ByteArray.data_append,Array.append_assoc]
theorem JbI (a:ByteArray):a++B []=a:=by apply ByteArray.ext;simp[ByteArray.data_append,B]
theorem J9k (a:ByteArray):B []++a=a:=by apply ByteArray.ext;simp[ByteArray.data_append,B]
def catT {α:Type} (f:α→ByteArray):List α→ByteArray
 |[]=>B []
 |x::l=>f x++catT f l
def joinT (sep:ByteArray):Nat→List ByteArray→ByteArray
 |_,[]=>B []
 |i,x::l=>(if 0<i then sep else B [])++(x++joinT sep (i+1) l)
def otBytes:List (Int×List UInt8):=[(6,[43]),(7,[45]),(8,[42]),(9,[47]),(10,[109,111,100]),(11,[61]),(12,[60,62]),(13,[60]),(14,[60,61]),(15,[62]),(16,[62,61]),(17,[97,110,100]),(18,[111,114]),(19,[120,111,114])]
def otS:List (Int×ByteArray):=otBytes.map fun y=>(y.1,⟨y.2.toArray⟩)
def otFind (n:Int):ByteArray:=((otS.find? fun y=>decide (y.1=n)).map (·.2)).getD ⟨#[]⟩
def kid (l:List ByteArray) (i:Nat):ByteArray:=l.getD i (B [])
def textK (x:Itm) (l:List ByteArray):ByteArray:=
 if x.op=1 then itoaB x.val else if x.op=2 then boolT x.val else if x.op=3 then x.name
 else if x.op=4 then B [40,45,32]++(kid l 0++B [41])
 else if x.op=5 then B [40,110,111,116,32]++(kid l 0++B [41])
 else if x.op=20 then B [40,105,102,32]++(kid l 0++(B [32,116,104,101,110,32]++(kid l 1++(B [32,101,108,115,101,32]++(kid l 2++B [41])))))
 else if x.op=21 then B [40]++(itoaB x.val++(B [32,102,98,121,32]++(kid l 0++B [41])))
 else if x.op=22 then B [40]++(boolT x.val++(B [32,102,98,121,32]++(kid l 0++B [41])))
 else if x.op=23 then B [40]++(kid l 0++((if x.val=1 then B [32,119,104,101,110,32]else B [32,119,104,101,110,111,116,32])++(x.name++B [41])))
 else if x.op=24 then B [40,109,101,114,103,101,32]++(x.name++(B [32]++(kid l 0++(B [32]++(kid l 1++B [41])))))
 else B [40]++(kid l 0++(B [32]++(otFind x.op++(B [32]++(kid l 1++B [41])))))
end Go.Pm
