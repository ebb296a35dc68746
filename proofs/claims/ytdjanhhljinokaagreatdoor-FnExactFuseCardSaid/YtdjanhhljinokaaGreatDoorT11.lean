/- Part of the proof: Pm38. -/
import Derived.Test.YtdjanhhljinokaaGreatDoorT10
import Derived.Test.YtdjanhhljinokaaGreatDoorT7
import Derived.Below
set_option linter.unusedVariables false
set_option linter.unusedSimpArgs false
namespace Go.Pm
def St.sel (σ:St) (S:Nat→Bool):St:=⟨fun j=>if S j then σ.obj j else none,σ.next⟩
theorem St.sel_obj {σ:St} {S:Nat→Bool} {j:Nat} {o:AO} (h:(σ.sel S).obj j=some o):S j=true∧σ.obj j=some o:=by
 unfold St.sel at h
 simp only at h
 split at h
 ·rename_i hs;exact⟨hs,h⟩
 ·cases h
theorem SRel.sel {F:FH} {η:Et} {σ:St} {w:World} (hs:SRel F η σ w) (S:Nat→Bool):SRel F η (σ.sel S) w:=
 ⟨fun i o h=>hs.lt i o (St.sel_obj h).2,fun i o h=>hs.ob i o (St.sel_obj h).2,fun i j oi oj b hi hj=>hs.ap i j oi oj b (St.sel_obj hi).2 (St.sel_obj hj).2,fun i o b h=>hs.fr i o b (St.sel_obj h).2⟩
inductive Kz (τ:St):AV→AV→Prop
 |same (x:AV):Kz τ x x
 |fz {x y:AV} (h:AFz τ x y):Kz τ x y
theorem J7B {F:FH} {η:Et} {τ:St} {w:World} (hs:SRel F η τ w) {x y:AV} (h:Kz τ x y) {u:Value} (hu:VRel F η τ.next x u):VRel (F.all η τ w) η τ.next y u:=by
 cases h with
 |same=>exact hu.mono (FH.le_all hs) (Et.agree_refl _ _) (Nat.le_refl _)
 |fz h=>exact J2C hs h hu
inductive OKz (τ:St):AO→AO→Prop
 |same (o:AO):OKz τ o o
 |var {cs cs':List AV} (hl:cs'.length=cs.length) (h:∀j (h1:j<cs.length) (h2:j<cs'.length),Kz τ cs[j] cs'[j]):OKz τ (.var cs) (.var cs')
 |row {v E sz:Nat} {rows rows':List (List AV)} (hl:rows'.length=rows.length) (hr:∀k (h1:k<rows.length) (h2:k<rows'.length),(rows'[k]).length=(rows[k]).length)
   (h:∀k (h1:k<rows.length) (h2:k<rows'.length) j (h3:j<(rows[k]).length) (h4:j<(rows'[k]).length),Kz τ (rows[k])[j] (rows'[k])[j]):OKz τ (.row v E sz rows) (.row v E sz rows')
theorem Jai {τ:St} {o o':AO} (h:OKz τ o o') (η:Et) (i:Nat):Owns η i o'=Owns η i o:=by cases h<;>rfl
theorem Jb3 {F:FH} {η:Et} {τ:St} {w:World} (hs:SRel F η τ w) {i:Nat} {o o':AO} (h:OKz τ o o') (hi:i<τ.next) (ho:ORel F η τ.next w i o):ORel (F.all η τ w) η τ.next w i o':=by
 cases h with
 |same=>exact ho.mono hi (FH.le_all hs) (Et.agree_refl _ _) (Nat.le_refl _) fun b _=>rfl
 |var hl h=>
  cases ho with
  |var c E b1 b2 b3 b4=>exact .var c E b1 (by rw[b2,hl]) (fun j hj=>b3 j (by omega)) fun j hj=>J7B hs (h j (by omega) hj) (b4 j (by omega))
 |row hl hr h=>
  cases ho with
  |row xs b1 b2 b3 b4 b5 b6 b7=>
   refine .row xs b1 b2 b3 (by rw[hl];exact b4) ?_ b6 ?_
   ·intro r hrm
    obtain⟨k,hk,rfl⟩:=List.getElem_of_mem hrm
    rw[hr k (by omega) hk]
    exact b5 _ (List.getElem_mem _)
   ·intro k hk j hj
    exact J7B hs (h k (by omega) hk j (by rw[←hr k (by omega) hk];exact hj) hj) (b7 k (by omega) j (by rw[←hr k (by omega) hk];exact hj))
theorem J6N {X:Cfg} {nt:Nat} {env env':Env} {σ σ':St} (S:Nat→Bool) (hn:σ'.next=σ.next) (ho:∀j o',σ'.obj j=some o'→S j=false∧∃o,σ.obj j=some o∧OKz (σ.sel S) o o') (he:∀t,Kz (σ.sel S) (env t) (env' t)):Turn X nt env σ env' σ':=by
 intro F η a w hg hr
 have hs:=hr.st.sel S
 have hle:=FH.le_all hs
 have keep:∀i o',σ'.obj i=some o'→S i=false∧i<σ.next∧∃o,σ.obj i=some o∧Owns η i o'=Owns η i o∧ORel (F.all η (σ.sel S) w) η σ.next w i o':=fun i o' h=>by
  obtain⟨h1,o,h2,h3⟩:=ho i o' h
  exact⟨h1,hr.st.lt i o h2,o,h2,Jai h3 η i,Jb3 hs h3 (hr.st.lt i o h2) (hr.st.ob i o h2)⟩
 refine⟨F.all η (σ.sel S) w,η,⟨hle,Et.agree_refl _ _,by rw[hn];exact Nat.le_refl _,.refl _,fun _ _ _=>rfl,?_,?_⟩,hg.mono hle,⟨?_,⟨?_,?_,?_,?_⟩,fun t=>by rw[hn];exact J7B hs (he t) (hr.en t),hr.sz,hr.df⟩⟩
 ·intro i o' b h hb _
  obtain⟨_,_,o,h2,h3,_⟩:=keep i o' h
  exact⟨i,o,h2,by rw[←h3];exact hb⟩
 ·intro b o hb hlt
  unfold FH.all at hb
  split at hb
  ·rename_i h
   obtain⟨i,oi,h1,h2⟩:=h
   exact .inr ⟨i,oi,(St.sel_obj h1).2,h2⟩
  ·exact .inl hb
 ·intro b o hb
  unfold FH.all at hb
  split at hb
  ·exact hb
  ·exact hr.fr b o hb
 ·intro i o' h
  obtain⟨_,h2,_⟩:=keep i o' h
  rw[hn];exact h2
 ·intro i o' h
  obtain⟨_,_,o,_,_,h4⟩:=keep i o' h
  rw[hn];exact h4
 ·intro i j oi oj b hi hj hbi hbj
  obtain⟨_,_,o1,h1,e1,_⟩:=keep i oi hi
  obtain⟨_,_,o2,h2,e2,_⟩:=keep j oj hj
  exact hr.st.ap i j o1 o2 b h1 h2 (by rw[←e1];exact hbi) (by rw[←e2];exact hbj)
 ·intro i o' b h hb
  obtain⟨h1,_,o,h2,e1,_⟩:=keep i o' h
  rw[e1]at hb
  unfold FH.all
  rw[if_neg]
  ·exact hr.st.fr i o b h2 hb
  ·rintro⟨j,oj,hj,hbj⟩
   obtain⟨q1,q2⟩:=St.sel_obj hj
   have:=hr.st.ap i j o oj b h2 q2 hb hbj
   subst this
   rw[h1]at q1;cases q1
end Go.Pm
/- Part of the proof: Pm39. -/
namespace Go.Pm
open Go.RowKit
end Go.Pm
/- Part of the proof: Pm40. -/
namespace Go.Pm
attribute [local irreducible] AR Ok inBlock andThen endQ aoper
section
variable {X:Cfg} {nt:Nat} {Q:Exit→Env→St→Prop} {env:Env} {σ:St} {K:AV→St→Prop}
end
end Go.Pm
/- Part of the proof: Pm41. -/
namespace Go.Pm
inductive Sh where
 |w
 |im (E:TypeId) (cells:List Sh)
def subs:List Sh→List D→List Value→List (Sh×D×Value)
 |.w::ss,_::ds,_::vs=>subs ss ds vs
 |.im E cs::ss,d::ds,v::vs=>(.im E cs,d,v)::subs ss ds vs
 |_,_,_=>[]
def agr:List Sh→List D→List Value→Prop
 |[],[],[]=>True
 |.w::ss,d::ds,v::vs=>d=.s v∧agr ss ds vs
 |.im _ _::ss,_::ds,_::vs=>agr ss ds vs
 |_,_,_=>False
def subss (ss:List Sh):List (List D)→List (List Value)→List (Sh×D×Value)
 |r::rows,v::vs=>subs ss r v++subss ss rows vs
 |_,_=>[]
def agrs (ss:List Sh):List (List D)→List (List Value)→Prop
 |[],[]=>True
 |r::rows,v::vs=>agr ss r v∧agrs ss rows vs
 |_,_=>False
theorem J0k:∀{ss:List Sh} {ds:List D} {vs:List Value},agr ss ds vs→ds.length=ss.length∧vs.length=ss.length
 |[],[],[],_=>⟨rfl,rfl⟩
 |.w::ss,d::ds,v::vs,h=>by have:=J0k h.2;simp[this]
 |.im _ _::ss,d::ds,v::vs,h=>by have:=J0k (ss:=ss) h;simp[this]
 |[],[],_::_,h=>h.elim
 |[],_::_,_,h=>h.elim
 |.w::_,[],_,h=>h.elim
 |.w::_,_::_,[],h=>h.elim
 |.im _ _::_,[],_,h=>h.elim
 |.im _ _::_,_::_,[],h=>h.elim
theorem J16 {ss:List Sh}:∀{rows:List (List D)} {vs:List (List Value)},agrs ss rows vs→vs.length=rows.length∧(∀r∈rows,r.length=ss.length)∧∀v∈vs,v.length=ss.length
 |[],[],_=>⟨rfl,by simp,by simp⟩
 |r::rows,v::vs,h=>by
  obtain⟨h1,h2⟩:=h
  obtain⟨a,b,c⟩:=J16 h2
  obtain⟨d,e⟩:=J0k h1
  refine⟨by simp[a],?_,?_⟩
  ·intro x hx;rcases List.mem_cons.1 hx with rfl|hx;exact d;exact b x hx
  ·intro x hx;rcases List.mem_cons.1 hx with rfl|hx;exact e;exact c x hx
 |[],_::_,h=>h.elim
 |_::_,[],h=>h.elim
def FH.non:FH:=fun _=>none
def FH.join (a b:FH):FH:=fun x=>match a x with|some o=>some o|none=>b x
inductive Tr:FH→List (Sh×D×Value)→Prop
 |nil:Tr FH.non []
 |s {τ:FH} {l:List (Sh×D×Value)} (v:Value) (h:Tr τ l):Tr τ ((.w,.s v,v)::l)
 |im0 {τ:FH} {l:List (Sh×D×Value)} (E:TypeId) (ss:List Sh) (hp:0<ss.length) (h:Tr τ l):Tr τ ((.im E ss,.im [],.slice none 0 0)::l)
 |im {τ0:FH} {l:List (Sh×D×Value)} (E:TypeId) (ss:List Sh) (rows:List (List D)) (vs:List (List Value)) (b o cap:Nat) (c:Array Value)
   (h:Tr τ0 (subss ss rows vs++l)) (ha:agrs ss rows vs) (hp:0<ss.length) (hb:τ0 b=none) (hle:rows.length≤cap) (hm:cap≤maxLen) (hc:c.size=cap*ss.length)
   (ht:c.toList.take (rows.length*ss.length)=vs.flatten) (h1:∀u∈vs.flatten,u.oneCell'=true) (ho:0<cap→o=0):
   Tr (τ0.with b (.cells c E (0,0))) ((.im E ss,.im rows,.slice (some ⟨b,o,none⟩) rows.length cap)::l)
theorem J2N (τ:FH):FH.join FH.non τ=τ:=by funext x;rfl
def Dsj (a b:FH):Prop:=∀x,a x=none∨b x=none
theorem J53 {a c:FH} {b:Nat} {o:Obj}:(a.with b o).join c=(a.join c).with b o:=by
 funext x
 unfold FH.join FH.with
 by_cases h:x=b
 ·simp[h]
 ·simp[h]
theorem J4Q:∀{τ:FH} {L:List (Sh×D×Value)},Tr τ L→∀l1 l2,L=l1++l2→∃τ1 τ2,Tr τ1 l1∧Tr τ2 l2∧Dsj τ1 τ2∧τ=τ1.join τ2:=by
 intro τ L h
 induction h with
 |nil=>
  intro l1 l2 e
  obtain⟨rfl,rfl⟩:=List.append_eq_nil_iff.1 e.symm
  exact⟨_,_,.nil,.nil,fun _=>.inl rfl,rfl⟩
 |@s τ l v h ih=>
  intro l1 l2 e
  cases l1 with
  |nil=>simp only[List.nil_append]at e;subst e;exact⟨_,_,.nil,.s v h,fun _=>.inl rfl,(J2N _).symm⟩
  |cons x l1=>
   simp only[List.cons_append,List.cons.injEq]at e
   obtain⟨rfl,e⟩:=e
   obtain⟨τ1,τ2,a,b,c,d⟩:=ih l1 l2 e
   exact⟨τ1,τ2,.s v a,b,c,d⟩
 |@im0 τ l E ss hp h ih=>
  intro l1 l2 e
  cases l1 with
  |nil=>simp only[List.nil_append]at e;subst e;exact⟨_,_,.nil,.im0 E ss hp h,fun _=>.inl rfl,(J2N _).symm⟩
  |cons x l1=>
   simp only[List.cons_append,List.cons.injEq]at e
   obtain⟨rfl,e⟩:=e
   obtain⟨τ1,τ2,a,b,c,d⟩:=ih l1 l2 e
   exact⟨τ1,τ2,.im0 E ss hp a,b,c,d⟩
 |@im τ0 l E ss rows vs b o cap c h ha hp hb hle hm hc ht h1 ho ih=>
  intro l1 l2 e
  cases l1 with
  |nil=>simp only[List.nil_append]at e;subst e;exact⟨_,_,.nil,.im E ss rows vs b o cap c h ha hp hb hle hm hc ht h1 ho,fun _=>.inl rfl,(J2N _).symm⟩
  |cons x l1=>
   simp only[List.cons_append,List.cons.injEq]at e
   obtain⟨rfl,e⟩:=e
   obtain⟨τ1,τ2,a,b2,c2,d⟩:=ih (subss ss rows vs++l1) l2 (by rw[e,List.append_assoc])
   subst d
   have hb1:τ1 b=none:=by unfold FH.join at hb;cases hx:τ1 b with|none=>rfl|some o=>rw[hx]at hb;cases hb
   have hb2:τ2 b=none:=by unfold FH.join at hb;rw[hb1]at hb;exact hb
   refine⟨τ1.with b _,τ2,.im E ss rows vs b o cap c a ha hp hb1 hle hm hc ht h1 ho,b2,fun y=>?_,J53.symm⟩
   by_cases hy:y=b
   ·subst hy;exact .inr hb2
   ·rcases c2 y with q|q
    ·left;unfold FH.with;rw[if_neg hy];exact q
    ·exact .inr q
theorem J3O {τ1 τ2:FH} {l1 l2:List (Sh×D×Value)} (h1:Tr τ1 l1) (h2:Tr τ2 l2) (hd:Dsj τ1 τ2):Tr (τ1.join τ2) (l1++l2):=by
 induction h1 with
 |nil=>rw[J2N];exact h2
 |s v h ih=>exact .s v (ih hd)
 |im0 E ss hp h ih=>exact .im0 E ss hp (ih hd)
 |@im τ0 l E ss rows vs b o cap c h ha hp hb hle hm hc ht h1 ho ih=>
  have hb2:τ2 b=none:=by
   rcases hd b with q|q
   ·simp[FH.with]at q
   ·exact q
  have hd0:Dsj τ0 τ2:=fun y=>by
   rcases hd y with q|q
   ·left
    unfold FH.with at q
    split at q
    ·cases q
    ·exact q
   ·exact .inr q
  have:=ih hd0
  rw[List.append_assoc]at this
  rw[J53]
  exact .im E ss rows vs b o cap c this ha hp (by unfold FH.join;rw[hb];exact hb2) hle hm hc ht h1 ho
theorem Tr.perm {l l':List (Sh×D×Value)} (hp:l.Perm l'):∀{τ:FH},Tr τ l→Tr τ l':=by
 induction hp with
 |nil=>intro τ h;exact h
 |@cons x l1 l2 _ ih=>
  intro τ h
  obtain⟨τ1,τ2,a,b,c,rfl⟩:=J4Q h [x] l1 rfl
  exact J3O a (ih b) c
 |swap x y l=>
  intro τ h
  obtain⟨τ1,τ2,a,b,c,rfl⟩:=J4Q h [y] (x::l) rfl
  obtain⟨τ3,τ4,a2,b2,c2,rfl⟩:=J4Q b [x] l rfl
  have d13:Dsj τ3 τ1:=fun z=>by
   rcases c z with q|q
   ·exact .inr q
   ·left
    unfold FH.join at q
    cases hx:τ3 z with
    |none=>rfl
    |some o=>rw[hx]at q;cases q
  have d14:Dsj τ1 τ4:=fun z=>by
   rcases c z with q|q
   ·exact .inl q
   ·right
    unfold FH.join at q
    cases hx:τ3 z with
    |none=>rw[hx]at q;exact q
    |some o=>rw[hx]at q;cases q
  have e:τ1.join (τ3.join τ4)=τ3.join (τ1.join τ4):=by
   funext z
   unfold FH.join
   rcases d13 z with q|q<;>rw[q]<;>(try rfl)
  rw[e]
  refine J3O (l1:=[x]) (l2:=y::l) a2 (J3O (l1:=[y]) (l2:=l) a b2 d14) fun z=>?_
  rcases d13 z with q|q
  ·exact .inl q
  ·rcases c2 z with q2|q2
   ·exact .inl q2
   ·right;unfold FH.join;rw[q];exact q2
 |trans _ _ ih1 ih2=>intro τ h;exact ih2 (ih1 h)
theorem JaV {τ F:FH} (hF:τ.le F) {L:List (Sh×D×Value)} (h:Tr τ L):∀{sh:Sh} {d:D} {v:Value},(sh,d,v)∈L→DRel F d v:=by
 induction h with
 |nil=>intro sh d v h;simp at h
 |s v h ih=>
  intro sh d u hm
  rcases List.mem_cons.1 hm with e|hm
  ·simp only[Prod.mk.injEq]at e;obtain⟨_,rfl,rfl⟩:=e;exact .s _
  ·exact ih hF hm
 |im0 E ss hp h ih=>
  intro sh d u hm
  rcases List.mem_cons.1 hm with e|hm
  ·simp only[Prod.mk.injEq]at e;obtain⟨_,rfl,rfl⟩:=e;exact .im0 _ _
  ·exact ih hF hm
 |@im τ0 l E ss rows vs b o cap c h ha hp hb hle hm hc ht h1 ho ih=>
  have hF0:τ0.le F:=fun x ob hx=>by
   apply hF
   unfold FH.with
   by_cases e:x=b
   ·subst e;rw[hb]at hx;cases hx
   ·rw[if_neg e];exact hx
  intro sh d u hmem
  rcases List.mem_cons.1 hmem with e|hmem
  ·simp only[Prod.mk.injEq]at e
   obtain⟨_,rfl,rfl⟩:=e
   have hFb:F b=some (.cells c E (0,0)):=hF b _ (by unfold FH.with;rw[if_pos rfl])
   by_cases hc0:0<cap
   ·have ho:=ho hc0
    subst ho
    obtain⟨hl,hlr,hlv⟩:=J16 ha
    have hfl:∀k,k<vs.length→∀j,j<ss.length→vs.flatten[k*ss.length+j]? = (vs[k]?).bind (fun r=>r[j]?):=by
     clear ht h1 ih h ha hl
     intro k hk j hj
     induction vs generalizing k with
     |nil=>simp at hk
     |cons r vs ihv=>
      have hr:r.length=ss.length:=hlv r (by simp)
      cases k with
      |zero=>
       simp only[Nat.zero_mul,Nat.zero_add,List.flatten_cons,List.getElem?_cons_zero,Option.bind_some]
       rw[List.getElem?_append_left (by omega)]
      |succ k=>
       have:(k+1)*ss.length+j=r.length+(k*ss.length+j):=by rw[Nat.add_mul,Nat.one_mul];omega
       simp only[List.flatten_cons,List.getElem?_cons_succ]
       rw[this,List.getElem?_append_right (by omega),Nat.add_sub_cancel_left]
       exact ihv (fun v hv=>hlv v (by simp[hv])) k (by simpa using hk)
    have hlen:vs.flatten.length=rows.length*ss.length:=by
     have h5:rows.length*ss.length≤c.toList.length:=by
      have:c.toList.length=cap*ss.length:=by rw[←hc];simp
      rw[this];exact Nat.mul_le_mul_right _ hle
     rw[←ht,List.length_take]
     exact Nat.min_eq_left h5
    have hck:∀k,k<rows.length→∀j,j<ss.length→c[0+k*ss.length+j]? = (vs[k]?).bind (fun r=>r[j]?):=by
     intro k hk j hj
     rw[Nat.zero_add,←hfl k (by omega) j hj,←ht,List.getElem?_take,if_pos (J0F hk hj),Array.getElem?_toList]
    have hsome:∀k,k<rows.length→∀j,j<ss.length→∃r x,vs[k]? = some r∧r[j]? = some x∧r∈vs∧x∈r:=by
     intro k hk j hj
     have hk2:k<vs.length:=by omega
     have hr:=hlv _ (List.getElem_mem hk2)
     exact⟨vs[k],vs[k][j],List.getElem?_eq_getElem hk2,List.getElem?_eq_getElem (by omega),List.getElem_mem hk2,List.getElem_mem _⟩
    refine .im rows b 0 cap ss.length c E (0,0) (fun k j=>((vs[k]?).bind (fun r=>r[j]?)).getD undef) hFb hle hlr ?_ ?_ ?_
    ·intro k hk j hj
     obtain⟨r,x,e1,e2,_⟩:=hsome k hk j hj
     rw[hck k hk j hj,e1]
     simp[e2]
    ·intro k hk j hj
     obtain⟨r,x,e1,e2,e3,e4⟩:=hsome k hk j hj
     rw[e1]
     simp only[Option.bind_some,e2,Option.getD_some]
     exact h1 x (List.mem_flatten.2 ⟨r,e3,e4⟩)
    ·-- the cells of a row
     have cell:∀(ss':List Sh) (ds:List D) (us:List Value),agr ss' ds us→(∀y∈subs ss' ds us,DRel F y.2.1 y.2.2)→∀j (hj:j<ds.length),DRel F ds[j] ((us[j]?).getD undef):=by
      intro ss'
      induction ss' with
      |nil=>intro ds us hA _ j hj;cases ds with|nil=>simp at hj|cons=>cases us<;>exact hA.elim
      |cons s ss' ih2=>
       intro ds us hA hS j hj
       cases ds with
       |nil=>simp at hj
       |cons d ds=>
        cases us with
        |nil=>cases s<;>exact hA.elim
        |cons u us=>
         cases s with
         |w=>
          cases j with
          |zero=>simp only[List.getElem_cons_zero,List.getElem?_cons_zero,Option.getD_some];rw[hA.1];exact .s _
          |succ j=>simp only[List.getElem_cons_succ,List.getElem?_cons_succ];exact ih2 ds us hA.2 hS j (by simpa using hj)
         |im E' cs=>
          cases j with
          |zero=>simp only[List.getElem_cons_zero,List.getElem?_cons_zero,Option.getD_some];exact hS (.im E' cs,d,u) (by simp[subs])
          |succ j=>simp only[List.getElem_cons_succ,List.getElem?_cons_succ];exact ih2 ds us hA (fun y hy=>hS y (by simp[subs,hy])) j (by simpa using hj)
     have rws:∀(rows:List (List D)) (vs:List (List Value)),agrs ss rows vs→(∀y∈subss ss rows vs,DRel F y.2.1 y.2.2)→∀k (hk:k<rows.length) j (hj:j<(rows[k]).length),DRel F ((rows[k])[j]) (((vs[k]?).bind (fun r=>r[j]?)).getD undef):=by
      intro rows
      induction rows with
      |nil=>intro vs _ _ k hk;simp at hk
      |cons r rows ih2=>
       intro vs hA hS k hk j hj
       cases vs with
       |nil=>exact hA.elim
       |cons u vs=>
        cases k with
        |zero=>
         simp only[List.getElem_cons_zero,List.getElem?_cons_zero,Option.bind_some]
         exact cell ss r u hA.1 (fun y hy=>hS y (by simp[subss,hy])) j (by simpa using hj)
        |succ k=>
         simp only[List.getElem_cons_succ,List.getElem?_cons_succ]
         exact ih2 vs hA.2 (fun y hy=>hS y (by simp[subss,hy])) k (by simpa using hk) j (by simpa using hj)
     exact rws rows vs ha fun y hy=>ih (sh:=y.1) (d:=y.2.1) (v:=y.2.2) hF0 (List.mem_append_left _ hy)
   ·have:rows=[]:=List.eq_nil_of_length_eq_zero (by omega)
    subst this
    exact .im0 _ _
  ·exact ih (sh:=sh) hF0 (List.mem_append_right _ hmem)
end Go.Pm
/- Part of the proof: Pm42. -/
namespace Go.Pm
theorem low0 {F:FH} {η η':Et} {n n':Nat} {x:AV} {v:Value} (h:VRel F η n x v) (hl:low 0 x=true):VRel F η' n' x v:=
 (J1d h hl).mono F.le_refl (fun i hi=>absurd hi (Nat.not_lt_zero i)) (Nat.zero_le _)
def ex1 (v:Value):AV:=.d (.s v)
def exR (vs:List (List Value)):List (List AV):=vs.map fun r=>r.map ex1
theorem SRel.box {F:FH} {η η':Et} {σ:St} {w:World} (hs:SRel F η σ w) {i:Nat} {τ:FH} (hi:σ.obj i=some (.box τ)):SRel F η' (stL [some (.box τ)]) w:=by
 have only:∀j o,(stL [some (AO.box τ)]).obj j=some o→j=0∧o=.box τ:=fun j o h=>by
  cases j with
  |zero=>exact⟨rfl,(Option.some.inj h).symm⟩
  |succ j=>simp[stL]at h
 refine⟨fun j o h=>?_,fun j o h=>?_,fun j k oj ok b hj hk _ _=>?_,fun j o b h hb=>?_⟩
 ·obtain⟨rfl,_⟩:=only j o h;exact Nat.zero_lt_one
 ·obtain⟨rfl,rfl⟩:=only j o h
  have:=hs.ob i _ hi
  cases this with
  |box hb=>exact .box hb
 ·rw[(only j oj hj).1,(only k ok hk).1]
 ·obtain⟨rfl,rfl⟩:=only j o h
  exact hs.fr i _ b hi hb
def BFun (X:Cfg) (f:FuncId) (args:List AV) (τ:FH) (K:AEnd→FH→Prop):Prop:=
 lows 0 args=true∧AFun X f args (stL [some (.box τ)]) fun E σ'=>∃τ',K E τ'∧σ'.obj 0=some (.box τ')∧∃r,E=.ret r∧low 0 r=true
theorem BFun.at {X:Cfg} {f:FuncId} {args:List AV} {τ:FH} {K:AEnd→FH→Prop} (h:BFun X f args τ K) {σ:St} {i:Nat} (hi:σ.obj i=some (.box τ)):
  AFun X f args σ fun E σ'=>∃τ',K E τ'∧σ'=σ.set i (.box τ'):=by
 obtain⟨hl,hc,h⟩:=h
 refine⟨hc,fun F η w vals hg hf hs hn hv=>?_⟩
 refine(h F η w vals hg hf (hs.box (η':=η) hi) hn fun j hj=>low0 (hv j hj) (J0U hl j hj)).mono ?_
 rintro e w' ⟨F',η',σ1,E,st,hf',hs1,he,τ',hK,hb,r,rfl,hr⟩
 have hown:∀{b:Nat},(∃j oj,(stL [some (AO.box τ)]).obj j=some oj∧Owns η j oj b)→Owns η i (.box τ) b:=by
  rintro b ⟨j,oj,h1,h2⟩
  cases j with
  |zero=>rw[←Option.some.inj h1]at h2;exact h2
  |succ j=>simp[stL]at h1
 have hfm:∀b,b<w.heap.size→τ b=none→w'.heap[b]? = w.heap[b]?:=fun b hb hno=>st.fm b hb fun j oj h1 h2=>by
  have:=hown ⟨j,oj,h1,h2⟩
  exact this hno
 have hoth:∀j oj b,j≠i→σ.obj j=some oj→Owns η j oj b→τ b=none:=fun j oj b hji hj hb2=>by
  cases hx:τ b with
  |none=>rfl
  |some o=>exact absurd (hs.ap j i oj _ b hj hi hb2 (show τ b≠none by rw[hx];simp)) hji
 have hkeep:∀j oj,j≠i→σ.obj j=some oj→ORel F' η σ.next w' j oj:=fun j oj hji hj=>
  (hs.ob j oj hj).mono (hs.lt j oj hj) st.fh (Et.agree_refl _ _) (Nat.le_refl _) fun b hb2=>hfm b ((hs.ob j oj hj).own_lt hb2) (hoth j oj b hji hj hb2)
 have hob:∀j o,(σ.set i (.box τ')).obj j=some o→(j=i∧o=.box τ')∨(j≠i∧σ.obj j=some o):=fun j o h=>by
  rw[St.obj_set]at h
  by_cases e:j=i
  ·rw[if_pos e]at h;exact .inl ⟨e,(Option.some.inj h).symm⟩
  ·rw[if_neg e]at h;exact .inr ⟨e,h⟩
 have hbx:∀b,b<w.heap.size→τ' b≠none→τ b≠none:=fun b hlt hb2=>by
  have:=st.nw 0 _ b hb (show Owns η' 0 (.box τ') b from hb2) hlt
  exact hown this
 have hlt1:∀b,τ' b≠none→b<w'.heap.size:=fun b hb2=>(hs1.ob 0 _ hb).own_lt (show Owns η' 0 (.box τ') b from hb2)
 refine⟨F',η,σ.set i (.box τ'),.ret r,⟨st.fh,Et.agree_refl _ _,Nat.le_refl _,st.gr,?_,?_,?_⟩,hf',⟨?_,?_,?_,?_⟩,?_,τ',hK,rfl⟩
 ·intro b hlt hno
  refine hfm b hlt ?_
  cases hx:τ b with
  |none=>rfl
  |some o=>exact absurd (show Owns η i (.box τ) b from(show τ b≠none by rw[hx];simp)) (hno i _ hi)
 ·intro j o b hj hb2 hlt
  rcases hob j o hj with⟨rfl,rfl⟩|⟨hji,hj⟩
  ·exact⟨_,_,hi,hbx b hlt hb2⟩
  ·exact⟨j,o,hj,hb2⟩
 ·intro b o hb2 hlt
  rcases st.nf b o hb2 hlt with h1|h1
  ·exact .inl h1
  ·exact .inr ⟨i,_,hi,hown h1⟩
 ·intro j o hj
  rcases hob j o hj with⟨rfl,rfl⟩|⟨hji,hj⟩
  ·exact hs.lt _ _ hi
  ·exact hs.lt _ _ hj
 ·intro j o hj
  rcases hob j o hj with⟨rfl,rfl⟩|⟨hji,hj⟩
  ·have:=hs1.ob 0 _ hb
   cases this with
   |box hx=>exact .box hx
  ·exact hkeep j o hji hj
 ·intro j k oj ok b hj hk hbj hbk
  rcases hob j oj hj with⟨ej,rfl⟩|⟨hji,hj'⟩<;>rcases hob k ok hk with⟨ek,rfl⟩|⟨hki,hk'⟩
  ·rw[ej,ek]
  ·exact absurd (hs.ap _ _ _ _ b hk' hi hbk (hbx b ((hs.ob k ok hk').own_lt hbk) hbj)) hki
  ·exact absurd (hs.ap _ _ _ _ b hj' hi hbj (hbx b ((hs.ob j oj hj').own_lt hbj) hbk)) hji
  ·exact hs.ap j k oj ok b hj' hk' hbj hbk
 ·intro j o b hj hb2
  rcases hob j o hj with⟨rfl,rfl⟩|⟨hji,hj⟩
  ·exact hs1.fr 0 _ b hb hb2
  ·cases hx:F' b with
   |none=>rfl
   |some ob=>
    exfalso
    rcases st.nf b ob hx ((hs.ob j o hj).own_lt hb2)with h1|h1
    ·rw[hs.fr j o b hj hb2]at h1;cases h1
    ·exact hji (hs.ap j i o _ b hj hi hb2 (hown h1))
 ·cases e with
  |returned v=>exact low0 (show VRel F' η' σ1.next r v from he) hr
  |panicked c=>exact he.elim
  |outgrown=>exact he.elim
theorem SRel.newbox {F:FH} {η:Et} {σ:St} {w:World} (hs:SRel F η σ w):SRel F η (σ.alloc (.box FH.non)) w:=by
 have hob:∀j o,(σ.alloc (.box FH.non)).obj j=some o→(j=σ.next∧o=.box FH.non)∨(σ.obj j=some o):=fun j o h=>by
  rw[St.obj_alloc]at h
  by_cases e:j=σ.next
  ·rw[if_pos e]at h;exact .inl ⟨e,(Option.some.inj h).symm⟩
  ·rw[if_neg e]at h;exact .inr h
 refine⟨fun j o h=>?_,fun j o h=>?_,fun j k oj ok b hj hk h1 h2=>?_,fun j o b h hb=>?_⟩
 ·rw[St.next_alloc]
  rcases hob j o h with⟨rfl,_⟩|h
  ·exact Nat.lt_succ_self _
  ·exact Nat.lt_succ_of_lt (hs.lt j o h)
 ·rcases hob j o h with⟨rfl,rfl⟩|h
  ·exact .box fun b o h=>by cases h
  ·exact(hs.ob j o h).mono (hs.lt j o h) F.le_refl (Et.agree_refl _ _) (Nat.le_succ _) fun _ _=>rfl
 ·rcases hob j oj hj with⟨rfl,rfl⟩|hj
  ·exact absurd rfl h1
  ·rcases hob k ok hk with⟨rfl,rfl⟩|hk
   ·exact absurd rfl h2
   ·exact hs.ap j k oj ok b hj hk h1 h2
 ·rcases hob j o h with⟨rfl,rfl⟩|h
  ·exact absurd rfl hb
  ·exact hs.fr j o b h hb
theorem Step.newbox {F:FH} {η:Et} {σ:St} {w:World}:Step F η σ w F η (σ.alloc (.box FH.non)) w:=by
 refine⟨F.le_refl,Et.agree_refl _ _,Nat.le_succ _,.refl _,fun _ _ _=>rfl,fun j o b h hb _=>?_,fun _ _ h _=>.inl h⟩
 rw[St.obj_alloc]at h
 by_cases e:j=σ.next
 ·rw[if_pos e]at h;cases h;exact absurd rfl hb
 ·rw[if_neg e]at h;exact⟨j,o,h,hb⟩
theorem BFun.new {X:Cfg} {f:FuncId} {args:List AV} {K:AEnd→FH→Prop} (h:BFun X f args FH.non K) (σ:St):
  AFun X f args σ fun E σ'=>∃τ',K E τ'∧σ'=(σ.alloc (.box FH.non)).set σ.next (.box τ'):=by
 have h2:=h.at (σ:=σ.alloc (.box FH.non)) (i:=σ.next) (by rw[St.obj_alloc,if_pos rfl])
 refine⟨h2.1,fun F η w vals hg hf hs hn hv=>?_⟩
 refine(h2.2 F η w vals hg hf hs.newbox hn fun j hj=>(hv j hj).mono F.le_refl (Et.agree_refl _ _) (Nat.le_succ _)).mono ?_
 rintro e w' ⟨F',η',σ',E,st,rest⟩
 exact⟨F',η',σ',E,Step.newbox.trans st,rest⟩
theorem J6s {F:FH} {η:Et} {n:Nat} {w:World} {i v E sz:Nat} {vs:List (List Value)} (h:ORel F η n w i (.row v E sz (exR vs))):
  (∀u∈vs.flatten,u.oneCell'=true)∧(∀r∈vs,r.length=sz)∧0<sz∧w.ownsRow 0 E sz ((η.hdr v).val vs.length) vs.length vs.flatten:=by
 cases h with
 |row xs hv hs hp ho hsz h1 h=>
  have hsz':∀r∈vs,r.length=sz:=fun r hr=>by
   have:=hsz (r.map ex1) (List.mem_map.2 ⟨r,hr,rfl⟩)
   simpa using this
  have hl:(exR vs).length=vs.length:=by simp[exR]
  rw[hl]at ho
  have hx:xs=vs.flatten:=by
   have hlen:xs.length=vs.length*sz:=ho.1
   have hfl:∀(vs:List (List Value)),(∀r∈vs,r.length=sz)→∀xs:List Value,xs.length=vs.length*sz→(∀k (hk:k<vs.length) j (hj:j<(vs[k]).length),xs.getD (k*sz+j) undef=(vs[k])[j])→xs=vs.flatten:=by
    intro vs
    induction vs with
    |nil=>intro _ xs hl _;simp at hl;simp[hl]
    |cons r vs ih=>
     intro hr xs hl he
     have hrl:=hr r (by simp)
     have hsp:xs=xs.take sz++xs.drop sz:=(List.take_append_drop _ _).symm
     have hl':xs.length=vs.length*sz+sz:=by rw[hl,List.length_cons,Nat.add_mul,Nat.one_mul]
     have h1:xs.take sz=r:=by
      apply List.ext_getElem
      ·rw[List.length_take,hrl];omega
      ·intro j h1 h2
       have:=he 0 (by simp) j (by simpa using h2)
       simp only[Nat.zero_mul,Nat.zero_add,List.getElem_cons_zero]at this
       rw[←this,List.getElem_take]
       have:j<xs.length:=by omega
       simp[List.getD,this]
     have h2:xs.drop sz=vs.flatten:=by
      refine ih (fun r hr'=>hr r (by simp[hr'])) _ (by rw[List.length_drop];omega) fun k hk j hj=>?_
      have:=he (k+1) (by simpa using hk) j (by simpa using hj)
      simp only[List.getElem_cons_succ]at this
      rw[←this]
      simp only[List.getD,List.getElem?_drop]
      congr 2
      rw[Nat.add_mul,Nat.one_mul];omega
     rw[hsp,h1,h2,List.flatten_cons]
   refine hfl vs hsz' xs hlen fun k hk j hj=>?_
   have:=h k (by rw[hl];exact hk) j (by simpa[exR]using hj)
   have e:((exR vs)[k]'(by rw[hl];exact hk))[j]'(by simpa[exR]using hj)=ex1 ((vs[k])[j]):=by simp[exR]
   rw[e]at this
   exact this.s_inv
  subst hx
  exact⟨h1,hsz',hp,ho⟩
theorem J43 {F:FH} {η:Et} {σ:St} {w:World} (hs:SRel F η σ w) {i j v E:Nat} {ss:List Sh} {rows:List (List D)} {vs:List (List Value)} {l:List (Sh×D×Value)} {τ:FH}
  (hi:σ.obj i=some (.box τ)) (hj:σ.obj j=some (.row v E ss.length (exR vs))) (hT:Tr τ (subss ss rows vs++l)) (ha:agrs ss rows vs) {u:Value} (hu:VRel F η σ.next (.sl j v 0 rows.length) u):
  ∃τ',Tr τ' ((.im E ss,.im rows,u)::l)∧(∀b o,τ' b=some o→w.heap[b]? = some o)∧∀b,τ' b≠none↔τ b≠none∨Owns η j (.row v E ss.length (exR vs)) b:=by
 have hne:i≠j:=fun e=>by rw[e,hj]at hi;cases hi
 obtain⟨h1,h2,hp,ho⟩:=J6s (hs.ob j _ hj)
 obtain⟨hl,hlr,_⟩:=J16 ha
 have hτ:∀b o,τ b=some o→w.heap[b]? = some o:=by
  have:=hs.ob i _ hi
  cases this with|box h=>exact h
 generalize hmm:rows.length=m at hu
 cases hu with
 |@sl _ _ _ _ b cap sz off q1 q2 hh hle hc hoff=>
  subst hmm
  obtain⟨cur,hg,hn1,hcap1,hsz1,htk⟩:=J06 ho (b:=b) (by rw[hh])
  have hsz:sz=ss.length:=by
   have:=hs.ob j _ hj
   cases this with|row xs _ hs'=>rw[hh]at hs';exact hs'
  rw[hh]at hn1 hcap1 hsz1
  simp only at hn1 hcap1 hsz1
  have hb:τ b=none:=by
   cases hx:τ b with
   |none=>rfl
   |some o=>exact absurd (hs.ap i j _ _ b hi hj (show τ b≠none by rw[hx];simp) (by simp[Owns,own,hh])) hne
  refine⟨τ.with b (.cells cur E (0,0)),?_,?_,?_⟩
  ·have:=Tr.im E ss rows vs b off cap cur hT ha hp hb hc hcap1 hsz1 (by rw[←hl];exact htk) h1 (fun h0=>by have:=hoff h0;simpa using this)
   simpa using this
  ·intro b1 o1 hx
   unfold FH.with at hx
   by_cases e:b1=b
   ·subst e;rw[if_pos rfl]at hx;rw[←Option.some.inj hx];exact hg
   ·rw[if_neg e]at hx;exact hτ b1 o1 hx
  ·intro b1
   unfold FH.with
   simp only[Owns,own,hh,Option.some.injEq]
   by_cases e:b1=b
   ·simp[e]
   ·simp only[if_neg e]
    constructor
    ·exact .inl
    ·rintro(h|h)
     ·exact h
     ·exact absurd h.symm e
 |@sl0 _ _ cap sz q1 q2 hh=>
  have hl0:rows.length=0:=by have:=J1e ho (by rw[hh]);omega
  have:rows=[]:=List.eq_nil_of_length_eq_zero hl0
  subst this
  have:vs=[]:=List.eq_nil_of_length_eq_zero (by simpa using hl)
  subst this
  refine⟨τ,.im0 E ss hp (by simpa[subss]using hT),hτ,fun b=>?_⟩
  simp[Owns,own,hh]
end Go.Pm
/- Part of the proof: Pm43. -/
namespace Go.Pm
theorem AFun.conv {X:Cfg} {f:FuncId} {args:List AV} {σ:St} {K K2:AEnd→St→Prop} (h:AFun X f args σ K)
  (hk:∀E σ1,K E σ1→∀(F:FH) (η:Et) (w:World) (e:Ending),SRel F η σ1 w→EndRel F η σ1.next E e→σ.next≤σ1.next→
   ∃σ2 E2,K2 E2 σ2∧SRel F η σ2 w∧EndRel F η σ2.next E2 e∧σ.next≤σ2.next∧∀i o b,σ2.obj i=some o→Owns η i o b→∃j oj,σ1.obj j=some oj∧Owns η j oj b):AFun X f args σ K2:=by
 refine⟨h.1,fun F η w vals hg hf hs hn hv=>(h.2 F η w vals hg hf hs hn hv).mono ?_⟩
 rintro e w' ⟨F',η',σ1,E,st,hf',hs1,he,hK⟩
 obtain⟨σ2,E2,a,b,c,d,g⟩:=hk E σ1 hK F' η' w' e hs1 he st.nx
 refine⟨F',η',σ2,E2,⟨st.fh,st.et,d,st.gr,st.fm,fun i o b hi hb hlt=>?_,st.nf⟩,hf',b,c,a⟩
 obtain⟨j,oj,h1,h2⟩:=g i o b hi hb
 exact st.nw j oj b h1 h2 hlt
def boxSt (τ:FH) (n:Nat):St:=⟨fun q=>if q=0 then some (.box τ)else none,n⟩
theorem J4w {F:FH} {η:Et} {w:World} {τ:FH} {n:Nat} (hn:0<n) (h1:∀b o,τ b=some o→w.heap[b]? = some o) (h2:∀b,τ b≠none→F b=none):SRel F η (boxSt τ n) w:=by
 have only:∀j o,(boxSt τ n).obj j=some o→j=0∧o=.box τ:=fun j o h=>by
  simp only[boxSt]at h
  by_cases e:j=0
  ·rw[if_pos e]at h;exact⟨e,(Option.some.inj h).symm⟩
  ·rw[if_neg e]at h;cases h
 refine⟨fun j o h=>?_,fun j o h=>?_,fun j k oj ok b hj hk _ _=>?_,fun j o b h hb=>?_⟩
 ·rw[(only j o h).1];exact hn
 ·rw[(only j o h).2];exact .box h1
 ·rw[(only j oj hj).1,(only k ok hk).1]
 ·rw[(only j o h).2]at hb;exact h2 b hb
theorem BFun.row {X:Cfg} {f:FuncId} {args:List AV} {τ:FH} {E:TypeId} {ss:List Sh} {rows:List (List D)} {l:List (Sh×D×Value)} (hl:lows 0 args=true)
  (h:AFun X f args (stL [some (.box τ)]) fun A σ'=>∃τ' j v vs,A=.ret (.sl j v 0 rows.length)∧σ'.obj 0=some (.box τ')∧σ'.obj j=some (.row v E ss.length (exR vs))∧agrs ss rows vs∧Tr τ' (subss ss rows vs++l)):
  BFun X f args τ fun A τ'=>∃u,A=.ret (.d (.s u))∧Tr τ' ((.im E ss,.im rows,u)::l):=by
 refine⟨hl,h.conv ?_⟩
 rintro A σ1 ⟨τ',j,v,vs,rfl,h0,hj,ha,hT⟩ F η w e hs he hn
 cases e with
 |panicked c=>exact he.elim
 |outgrown=>exact he.elim
 |returned u=>
  obtain⟨τ2,h1,h2,h3⟩:=J43 hs h0 hj hT ha (show VRel F η σ1.next (.sl j v 0 rows.length) u from he)
  refine⟨boxSt τ2 σ1.next,.ret (.d (.s u)),⟨τ2,⟨u,rfl,h1⟩,rfl,_,rfl,rfl⟩,J4w (Nat.lt_of_lt_of_le Nat.zero_lt_one hn) h2 fun b hb=>?_,.d (.s u),hn,fun i o b hi hb=>?_⟩
  ·rcases(h3 b).1 hb with q|q
   ·exact hs.fr 0 _ b h0 q
   ·exact hs.fr j _ b hj q
  ·simp only[boxSt]at hi
   by_cases e:i=0
   ·rw[if_pos e]at hi
    rw[←Option.some.inj hi]at hb
    rcases(h3 b).1 hb with q|q
    ·exact⟨0,_,h0,q⟩
    ·exact⟨j,_,hj,q⟩
   ·rw[if_neg e]at hi;cases hi
theorem BFun.words {X:Cfg} {f:FuncId} {args:List AV} {τ:FH} {K:AEnd→FH→Prop} (hl:lows 0 args=true)
  (h:AFun X f args (stL [some (.box τ)]) fun A σ'=>∃τ',K A τ'∧σ'.obj 0=some (.box τ')∧∃r,A=.ret r∧low 0 r=true):BFun X f args τ K:=⟨hl,h⟩
theorem J1h (vs:List (List Value)):(exR vs).length=vs.length:=by simp[exR]
theorem JaC {F:FH} {η:Et} {w:World} {E:TypeId} {ss:List Sh} {rows:List (List D)} {l:List (Sh×D×Value)} {τ:FH} {u:Value} (hs:SRel F η (stL [some (.box τ)]) w) (hT:Tr τ ((.im E ss,.im rows,u)::l)):
  ∃vs τ0 η',agrs ss rows vs∧Tr τ0 (subss ss rows vs++l)∧SRel F η' (stL [some (.box τ0),some (.row 1 E ss.length (exR vs))]) w∧
   Step F η (stL [some (.box τ)]) w F η' (stL [some (.box τ0),some (.row 1 E ss.length (exR vs))]) w∧VRel F η' 2 (.sl 1 1 0 rows.length) u:=by
 have h0:(stL [some (AO.box τ)]).obj 0=some (.box τ):=rfl
 have hτ:∀b o,τ b=some o→w.heap[b]? = some o:=by
  have:=hs.ob 0 _ h0
  cases this with|box h=>exact h
 have hfr:∀b,τ b≠none→F b=none:=fun b hb=>hs.fr 0 _ b h0 hb
 -- what is common to both
 have mk:∀(vs:List (List Value)) (τ0:FH) (hd:Hd),hd.sz=ss.length→0<ss.length→(∀r∈vs,r.length=ss.length)→w.ownsRow 0 E ss.length (hd.val vs.length) vs.length vs.flatten→(∀x∈vs.flatten,x.oneCell'=true)→
   (∀b o,τ0 b=some o→τ b=some o)→(∀b,hd.blk=some b→τ b≠none∧τ0 b=none)→
   SRel F (η.withHdr 1 hd) (stL [some (.box τ0),some (.row 1 E ss.length (exR vs))]) w∧Step F η (stL [some (.box τ)]) w F (η.withHdr 1 hd) (stL [some (.box τ0),some (.row 1 E ss.length (exR vs))]) w:=by
  intro vs τ0 hd q1 q2 q3 q4 q5 q6 q7
  have hh:(η.withHdr 1 hd).hdr 1=hd:=by simp[Et.withHdr]
  have only:∀j o,(stL [some (AO.box τ0),some (AO.row 1 E ss.length (exR vs))]).obj j=some o→(j=0∧o=.box τ0)∨(j=1∧o=.row 1 E ss.length (exR vs)):=fun j o h=>by
   match j,h with
   |0,h=>exact .inl ⟨rfl,(Option.some.inj h).symm⟩
   |1,h=>exact .inr ⟨rfl,(Option.some.inj h).symm⟩
   |j+2,h=>simp[stL]at h
  have ow0:∀b,Owns (η.withHdr 1 hd) 0 (.box τ0) b→τ b≠none:=fun b hb=>by
   cases hx:τ0 b with
   |none=>exact absurd hx hb
   |some o=>rw[q6 b o hx];simp
  have ow1:∀b,Owns (η.withHdr 1 hd) 1 (.row 1 E ss.length (exR vs)) b→τ b≠none∧τ0 b=none:=fun b hb=>by
   simp only[Owns,own,hh]at hb
   exact q7 b hb
  refine⟨⟨fun j o h=>?_,fun j o h=>?_,fun j k oj ok b hj hk h1 h2=>?_,fun j o b h hb=>?_⟩,⟨F.le_refl,fun i hi=>?_,by simp[stL],.refl _,fun _ _ _=>rfl,fun j o b h hb _=>?_,fun _ _ h _=>.inl h⟩⟩
  ·rcases only j o h with⟨rfl,_⟩|⟨rfl,_⟩<;>simp[stL]
  ·rcases only j o h with⟨rfl,rfl⟩|⟨rfl,rfl⟩
   ·exact .box fun b o hb=>hτ b o (q6 b o hb)
   ·refine .row vs.flatten (by simp[stL]) (by rw[hh];exact q1) q2 (by rw[hh,J1h];exact q4) ?_ q5 ?_
    ·intro r hr
     obtain⟨r',h1,rfl⟩:=List.mem_map.1 hr
     rw[List.length_map];exact q3 r' h1
    ·intro k hk j hj
     have hk':k<vs.length:=by rwa [J1h]at hk
     have e:(exR vs)[k]=(vs[k]).map ex1:=by simp[exR]
     have hj':j<(vs[k]).length:=by rw[e,List.length_map]at hj;exact hj
     have e2:((exR vs)[k])[j]=ex1 ((vs[k])[j]):=by simp[exR]
     rw[e2]
     have e3:vs.flatten.getD (k*ss.length+j) undef=(vs[k])[j]:=by
      have hfl:∀(vs:List (List Value)),(∀r∈vs,r.length=ss.length)→∀k (hk:k<vs.length) j (hj:j<(vs[k]).length),vs.flatten.getD (k*ss.length+j) undef=(vs[k])[j]:=by
       intro vs
       induction vs with
       |nil=>intro _ k hk;simp at hk
       |cons r vs ih=>
        intro hr k hk j hj
        have hrl:=hr r (by simp)
        cases k with
        |zero=>
         simp only[List.getElem_cons_zero]at hj ⊢
         simp only[Nat.zero_mul,Nat.zero_add,List.flatten_cons,List.getD]
         rw[List.getElem?_append_left hj,List.getElem?_eq_getElem hj];rfl
        |succ k=>
         simp only[List.getElem_cons_succ]at hj ⊢
         rw[←ih (fun r h=>hr r (by simp[h])) k (by simpa using hk) j hj]
         have:(k+1)*ss.length+j=r.length+(k*ss.length+j):=by rw[Nat.add_mul,Nat.one_mul];omega
         simp only[List.flatten_cons,List.getD]
         rw[this,List.getElem?_append_right (by omega),Nat.add_sub_cancel_left]
      exact hfl vs q3 k hk' j hj'
     rw[e3];exact .d (.s _)
  ·rcases only j oj hj with⟨ej,rfl⟩|⟨ej,rfl⟩<;>rcases only k ok hk with⟨ek,rfl⟩|⟨ek,rfl⟩
   ·rw[ej,ek]
   ·subst ej;subst ek;exact absurd (ow1 b h2).2 h1
   ·subst ej;subst ek;exact absurd (ow1 b h1).2 h2
   ·rw[ej,ek]
  ·rcases only j o h with⟨rfl,rfl⟩|⟨rfl,rfl⟩
   ·exact hfr b (ow0 b hb)
   ·exact hfr b (ow1 b hb).1
  ·have:i=0:=by simp[stL]at hi;exact hi
   subst this
   exact⟨rfl,by simp[Et.withHdr]⟩
  ·rcases only j o h with⟨rfl,rfl⟩|⟨rfl,rfl⟩
   ·exact⟨0,_,h0,ow0 b hb⟩
   ·exact⟨0,_,h0,(ow1 b hb).1⟩
 cases hT with
 |im0 E ss hp h=>
  obtain⟨a,b⟩:=mk [] τ ⟨none,0,ss.length⟩ rfl hp (by simp) (World.ownsRow_nil w 0 E ss.length) (by simp) (fun _ _ h=>h) (fun b hb=>by cases hb)
  exact⟨[],τ,_,trivial,by simpa[subss]using h,a,b,.sl0 (by decide) (by decide) (cap:=0) (sz:=ss.length) (by simp[Et.withHdr])⟩
 |@im τ0 _ E ss rows vs b o cap c h ha hp hb hle hm hc ht h1 ho=>
  obtain⟨hl,hlr,hlv⟩:=J16 ha
  have hwb:w.heap[b]? = some (.cells c E (0,0)):=hτ b _ (by unfold FH.with;rw[if_pos rfl])
  obtain⟨a,b2⟩:=mk vs τ0 ⟨some b,cap,ss.length⟩ rfl hp hlv ⟨by
    rw[←ht,List.length_take,hl]
    have:c.toList.length=cap*ss.length:=by rw[←hc];simp
    rw[this];exact Nat.min_eq_left (Nat.mul_le_mul_right _ hle),.inr ⟨b,cap,c,rfl,Nat.zero_le _,hwb,by omega,hm,hc,by rw[hl];exact ht⟩⟩ h1
   (fun x ox hx=>by
    unfold FH.with
    by_cases e:x=b
    ·subst e;rw[hb]at hx;cases hx
    ·rw[if_neg e];exact hx)
   (fun x hx=>by
    simp only[Option.some.injEq]at hx
    subst hx
    exact⟨by unfold FH.with;rw[if_pos rfl];simp,hb⟩)
  refine⟨vs,τ0,_,ha,h,a,b2,?_⟩
  have:=@VRel.sl F (η.withHdr 1 ⟨some b,cap,ss.length⟩) 2 1 1 0 rows.length b cap ss.length o (by decide) (by decide) (by simp[Et.withHdr]) (Nat.zero_le _) hle (fun h0=>by rw[ho h0];simp)
  simpa using this
theorem BFun.open {X:Cfg} {f:FuncId} {args:List AV} {τ:FH} {E:TypeId} {ss:List Sh} {rows rows':List (List D)} {l:List (Sh×D×Value)} {u:Value} {r:AV} (hT:Tr τ ((.im E ss,.im rows,u)::l)) (hl:lows 0 args=true) (hr:low 0 r=true) (hc:CallOk X.P f)
  (hlen:rows'.length=rows.length)
  (h:∀vs τ0,agrs ss rows vs→Tr τ0 (subss ss rows vs++l)→AFun X f (.sl 1 1 0 rows.length::args) (stL [some (.box τ0),some (.row 1 E ss.length (exR vs))]) fun A σ'=>
   ∃vs' τ',A=.ret r∧σ'.obj 0=some (.box τ')∧σ'.obj 1=some (.row 1 E ss.length (exR vs'))∧agrs ss rows' vs'∧Tr τ' (subss ss rows' vs'++l)):
  BFun X f (.d (.s u)::args) τ fun A τ'=>A=.ret r∧Tr τ' ((.im E ss,.im rows',u)::l):=by
 refine⟨by simp only[lows,low,hl,Bool.and_self],hc,fun F η w vals hg hf hs hn hv=>?_⟩
 obtain⟨vs,τ0,η0,ha,hT0,hs0,st0,hu⟩:=JaC hs hT
 have hv0:=hv 0 (by simp)
 have e0:vals.getD 0 undef=u:=hv0.s_inv
 refine((h vs τ0 ha hT0).2 F η0 w vals hg hf hs0 (by simpa using hn) fun j hj=>?_).mono ?_
 ·cases j with
  |zero=>
   show VRel F η0 2 (.sl 1 1 0 rows.length) _
   rw[e0];exact hu
  |succ j=>
   have:=hv (j+1) (by simpa using hj)
   simp only[List.getElem_cons_succ]at this ⊢
   exact low0 this (J0U hl j (by simpa using hj))
 ·rintro e w' ⟨F',η',σ1,A,st,hf',hs1,he,vs',τ',rfl,h0,h1,ha',hT'⟩
  have hu':VRel F' η' σ1.next (.sl 1 1 0 rows'.length) u:=by rw[hlen];exact hu.mono st.fh st.et st.nx
  obtain⟨τ2,g1,g2,g3⟩:=J43 hs1 h0 h1 hT' ha' hu'
  have hnx:1≤σ1.next:=Nat.le_trans (by simp[stL]) st.nx
  refine⟨F',η',boxSt τ2 σ1.next,.ret r,st0.trans ⟨st.fh,st.et,st.nx,st.gr,st.fm,?_,st.nf⟩,hf',J4w hnx g2 fun b hb=>?_,?_,τ2,⟨rfl,g1⟩,rfl,r,rfl,hr⟩
  ·intro i o b hi hb hlt
   simp only[boxSt]at hi
   by_cases e:i=0
   ·rw[if_pos e]at hi
    rw[←Option.some.inj hi]at hb
    rcases(g3 b).1 hb with q|q
    ·exact st.nw 0 _ b h0 q hlt
    ·exact st.nw 1 _ b h1 q hlt
   ·rw[if_neg e]at hi;cases hi
  ·rcases(g3 b).1 hb with q|q
   ·exact hs1.fr 0 _ b h0 q
   ·exact hs1.fr 1 _ b h1 q
  ·cases e with
   |returned v=>exact he
   |panicked c=>exact he.elim
   |outgrown=>exact he.elim
end Go.Pm
/- Part of the proof: Pm44. -/
namespace Go.Pm
attribute [local irreducible] AR Ok inBlock andThen endQ aoper
inductive Ln (σ:St):AV→AV→Prop
 |fz {x y:AV} (h:AFz σ x y):Ln σ x y
 |box {i:Nat} {τ:FH} {L:List (Sh×D×Value)} {sh:Sh} {d:D} {u:Value} (hi:σ.obj i=some (.box τ)) (hT:Tr τ L) (hm:(sh,d,u)∈L):Ln σ (.d (.s u)) (.d d)
 |agg {cs cs':List AV} (hl:cs'.length=cs.length) (h:∀j (h1:j<cs.length) (h2:j<cs'.length),Ln σ cs[j] cs'[j]):Ln σ (.agg cs) (.agg cs')
theorem Jc3 {F:FH} {η:Et} {σ:St} {w:World} {n:Nat} (hs:SRel F η σ w) {x y:AV} (h:Ln σ x y):∀{u:Value},VRel F η σ.next x u→VRel (F.all η σ w) η n y u:=by
 induction h with
 |fz h=>intro u hu;exact J2C hs h hu
 |@box i τ L sh d u' hi hT hm=>
  intro u hu
  have:=hu.s_inv
  subst this
  refine .d (JaV (fun b o hb=>?_) hT hm)
  rw[FH.all_own hi (show Owns η i (.box τ) b from(show τ b≠none by rw[hb];simp))]
  have:=hs.ob i _ hi
  cases this with|box h=>exact h b o hb
 |agg hl _ ih=>
  intro u hu
  cases hu with
  |agg h1 h2=>exact .agg (by rw[h1,hl]) fun j hj=>ih j (by omega) hj (h2 j (by omega))
def LnL (σ:St):List AV→List AV→Prop
 |[],[]=>True
 |x::l,y::m=>Ln σ x y∧LnL σ l m
 |_,_=>False
theorem LnL.get {σ:St}:∀{l m:List AV},LnL σ l m→m.length=l.length∧∀j (h1:j<l.length) (h2:j<m.length),Ln σ l[j] m[j]
 |[],[],_=>⟨rfl,fun j h1=>by simp at h1⟩
 |x::l,y::m,h=>by
  obtain⟨h1,h2⟩:=h.2.get
  refine⟨by simp[h1],fun j h3 h4=>?_⟩
  cases j with
  |zero=>exact h.1
  |succ j=>exact h2 j (by simpa using h3) (by simpa using h4)
 |[],_::_,h=>h.elim
 |_::_,[],h=>h.elim
theorem J7a {F:FH} {η:Et} {σ:St} {w:World} (hf:FRel F w):FRel (F.all η σ w) w:=by
 intro b o hb
 unfold FH.all at hb
 split at hb
 ·exact hb
 ·exact hf b o hb
theorem lookAt {X:Cfg} {f:FuncId} {args args':List AV} {K:AEnd→St→Prop} (hl:lows 0 args'=true) (h:AFun X f args' St.nil K) {σ:St} (ha:LnL σ args args'):
  ∀(F:FH) (η:Et) (w:World) (vals:Array Value),GRel X F→FRel F w→SRel F η σ w→vals.size=args.length→(∀j (h:j<args.length),VRel F η σ.next args[j] (vals.getD j undef))→
   Calls X.P f vals w fun e w'=>FRel F w'∧SRel F η σ w'∧More w w'∧(∀b,b<w.heap.size→w'.heap[b]? = w.heap[b]?)∧
    ∃F' η' σ1 E,FRel F' w'∧SRel F' η' σ1 w'∧EndRel F' η' σ1.next E e∧K E σ1∧∀i o b,σ1.obj i=some o→Owns η' i o b→w.heap.size≤b:=by
 intro F η w vals hg hf hs hn hv
 obtain⟨hle,hrel⟩:=ha.get
 refine(h.2 (F.all η σ w) η w vals (hg.mono (FH.le_all hs)) (J7a hf) (SRel.nil _ η w) (by rw[hn,hle]) fun j hj=>Jc3 hs (hrel j (by omega) hj) (hv j (by omega))).mono ?_
 rintro e w' ⟨F',η',σ1,E,h1,h2,h3,h4,h5⟩
 have hfm:∀b,b<w.heap.size→w'.heap[b]? = w.heap[b]?:=fun b hb=>h1.fm b hb fun i o ho=>by simp[St.nil]at ho
 refine⟨fun b o hb=>h2 b o (h1.fh b o (FH.le_all hs b o hb)),⟨hs.lt,fun i o ho=>(hs.ob i o ho).mono (hs.lt i o ho) F.le_refl (Et.agree_refl _ _) (Nat.le_refl _) fun b hb=>hfm b ((hs.ob i o ho).own_lt hb),hs.ap,hs.fr⟩,h1.gr,hfm,F',η',σ1,E,h2,h3,h4,h5,fun i o b hi hb=>?_⟩
 rcases Nat.lt_or_ge b w.heap.size with hlt|hge
 ·obtain⟨j,oj,hj,_⟩:=h1.nw i o b hi hb hlt
  simp[St.nil]at hj
 ·exact hge
theorem J5p {F:FH} {η:Et} {σ:St} {w w':World} (hm:More w w') (hfm:∀b,b<w.heap.size→w'.heap[b]? = w.heap[b]?):Step F η σ w F η σ w':=
 ⟨F.le_refl,Et.agree_refl _ _,Nat.le_refl _,hm,fun b hb _=>hfm b hb,fun i o b ho hb _=>⟨i,o,ho,hb⟩,fun b o hb _=>.inl hb⟩
theorem PFun.lendB {X:Cfg} {f:FuncId} {args args':List AV} {v:Value} (h:PFun X f args' (.d (.s v))) {σ:St} (ha:LnL σ args args'):AFun X f args σ fun E σ'=>E=.ret (.d (.s v))∧σ'=σ:=by
 obtain⟨hl,_,hc,h⟩:=h
 refine⟨hc,fun F η w vals hg hf hs hn hv=>(lookAt hl ⟨hc,h⟩ ha F η w vals hg hf hs hn hv).mono ?_⟩
 rintro e w' ⟨h1,h2,h3,h4,F',η',σ1,E,_,_,h5,rfl,_⟩
 refine⟨F,η,σ,_,J5p h3 h4,h1,h2,?_,rfl,rfl⟩
 cases e with
 |returned u=>
  have h5:VRel F' η' σ1.next (.d (.s v)) u:=h5
  have:=h5.s_inv
  subst this
  exact .d (.s _)
 |panicked c=>exact h5.elim
 |outgrown=>exact h5.elim
theorem J8c {F:FH} {η:Et} {n:Nat} {w:World} {i v E sz:Nat} {vs:List (List Value)} (hv:v<n) (hs:(η.hdr v).sz=sz) (h1:∀u∈vs.flatten,u.oneCell'=true) (h2:∀r∈vs,r.length=sz) (hp:0<sz)
  (ho:w.ownsRow 0 E sz ((η.hdr v).val vs.length) vs.length vs.flatten):ORel F η n w i (.row v E sz (exR vs)):=by
 refine .row vs.flatten hv hs hp (by rw[J1h];exact ho) ?_ h1 ?_
 ·intro r hr
  obtain⟨r',h1,rfl⟩:=List.mem_map.1 hr
  rw[List.length_map];exact h2 r' h1
 ·intro k hk j hj
  have hk':k<vs.length:=by rwa [J1h]at hk
  have e:(exR vs)[k]=(vs[k]).map ex1:=by simp[exR]
  have hj':j<(vs[k]).length:=by rw[e,List.length_map]at hj;exact hj
  have e2:((exR vs)[k])[j]=ex1 ((vs[k])[j]):=by simp[exR]
  rw[e2]
  have hfl:∀(vs:List (List Value)),(∀r∈vs,r.length=sz)→∀k (hk:k<vs.length) j (hj:j<(vs[k]).length),vs.flatten.getD (k*sz+j) undef=(vs[k])[j]:=by
   intro vs
   induction vs with
   |nil=>intro _ k hk;simp at hk
   |cons r vs ih=>
    intro hr k hk j hj
    have hrl:=hr r (by simp)
    cases k with
    |zero=>
     simp only[List.getElem_cons_zero]at hj ⊢
     simp only[Nat.zero_mul,Nat.zero_add,List.flatten_cons,List.getD]
     rw[List.getElem?_append_left hj,List.getElem?_eq_getElem hj];rfl
    |succ k=>
     simp only[List.getElem_cons_succ]at hj ⊢
     rw[←ih (fun r h=>hr r (by simp[h])) k (by simpa using hk) j hj]
     have:(k+1)*sz+j=r.length+(k*sz+j):=by rw[Nat.add_mul,Nat.one_mul];omega
     simp only[List.flatten_cons,List.getD]
     rw[this,List.getElem?_append_right (by omega),Nat.add_sub_cancel_left]
  rw[hfl vs h2 k hk' j hj'];exact .d (.s _)
theorem adopt {F F':FH} {η η':Et} {σ σ1:St} {w:World} (hs:SRel F η σ w) (hs1:SRel F' η' σ1 w) {j v E sz:Nat} {vs:List (List Value)} (hj:σ1.obj j=some (.row v E sz (exR vs))) {u:Value} (hu:VRel F' η' σ1.next (.sl j v 0 vs.length) u)
  (hn:∀b,Owns η' j (.row v E sz (exR vs)) b→F b=none∧∀i o,σ.obj i=some o→¬Owns η i o b):
  ∃η2,η.agree σ.next η2∧SRel F η2 (σ.alloc (.row σ.next E sz (exR vs))) w∧VRel F η2 (σ.next+1) (.sl σ.next σ.next 0 vs.length) u∧∀b,Owns η2 σ.next (.row σ.next E sz (exR vs)) b→Owns η' j (.row v E sz (exR vs)) b:=by
 have hro:=hs1.ob j _ hj
 obtain⟨h1,h2,hp,ho⟩:=J6s hro
 have hsz:(η'.hdr v).sz=sz:=by cases hro with|row xs _ hs'=>exact hs'
 have hh:(η.withHdr σ.next (η'.hdr v)).hdr σ.next=η'.hdr v:=by simp[Et.withHdr]
 have ha:=Et.agree_withHdr η σ.next (η'.hdr v)
 have hob:∀i o,(σ.alloc (.row σ.next E sz (exR vs))).obj i=some o→(i=σ.next∧o=.row σ.next E sz (exR vs))∨σ.obj i=some o:=fun i o h=>by
  rw[St.obj_alloc]at h
  by_cases e:i=σ.next
  ·rw[if_pos e]at h;exact .inl ⟨e,(Option.some.inj h).symm⟩
  ·rw[if_neg e]at h;exact .inr h
 have how:∀b,Owns (η.withHdr σ.next (η'.hdr v)) σ.next (.row σ.next E sz (exR vs)) b→Owns η' j (.row v E sz (exR vs)) b:=fun b hb=>by
  simp only[Owns,own,hh]at hb ⊢;exact hb
 have hold:∀i o,σ.obj i=some o→Owns (η.withHdr σ.next (η'.hdr v)) i o=Owns η i o:=fun i o h=>(hs.ob i o h).own_agree (hs.lt i o h) ha
 refine⟨_,ha,⟨fun i o h=>?_,fun i o h=>?_,fun i k oi ok b hi hk h3 h4=>?_,fun i o b h hb=>?_⟩,?_,how⟩
 ·rw[St.next_alloc]
  rcases hob i o h with⟨rfl,_⟩|h
  ·exact Nat.lt_succ_self _
  ·exact Nat.lt_succ_of_lt (hs.lt i o h)
 ·rw[St.next_alloc]
  rcases hob i o h with⟨rfl,rfl⟩|h
  ·exact J8c (Nat.lt_succ_self _) (by rw[hh];exact hsz) h1 h2 hp (by rw[hh];exact ho)
  ·exact(hs.ob i o h).mono (hs.lt i o h) F.le_refl ha (Nat.le_succ _) fun _ _=>rfl
 ·rcases hob i oi hi with⟨ei,rfl⟩|hi'<;>rcases hob k ok hk with⟨ek,rfl⟩|hk'
  ·rw[ei,ek]
  ·subst ei
   rw[hold k ok hk']at h4
   exact absurd h4 ((hn b (how b h3)).2 k ok hk')
  ·subst ek
   rw[hold i oi hi']at h3
   exact absurd h3 ((hn b (how b h4)).2 i oi hi')
  ·rw[hold i oi hi']at h3
   rw[hold k ok hk']at h4
   exact hs.ap i k oi ok b hi' hk' h3 h4
 ·rcases hob i o h with⟨rfl,rfl⟩|h
  ·exact(hn b (how b hb)).1
  ·rw[hold i o h]at hb;exact hs.fr i o b h hb
 ·generalize hm:vs.length=m at hu
  cases hu with
  |sl q1 q2 q3 q4 q5 q6=>exact .sl (Nat.lt_succ_self _) (Nat.lt_succ_self _) (hh.trans q3) q4 q5 q6
  |sl0 q1 q2 q3=>exact .sl0 (Nat.lt_succ_self _) (Nat.lt_succ_self _) (hh.trans q3)
def RFun (X:Cfg) (f:FuncId) (args:List AV) (E:TypeId) (sz:Nat) (vs:List (List Value)):Prop:=
 lows 0 args=true∧0<sz∧AFun X f args St.nil fun A σ'=>(∃j v,A=.ret (.sl j v 0 vs.length)∧σ'.obj j=some (.row v E sz (exR vs)))∨(A=.ret (.d (.s (.slice none 0 0)))∧vs=[])
theorem RFun.lendB {X:Cfg} {f:FuncId} {args args':List AV} {E sz:Nat} {vs:List (List Value)} (h:RFun X f args' E sz vs) {σ:St} (ha:LnL σ args args'):
  AFun X f args σ fun A σ'=>A=.ret (.sl σ.next σ.next 0 vs.length)∧σ'=σ.alloc (.row σ.next E sz (exR vs)):=by
 obtain⟨hl,hp,hc,h⟩:=h
 refine⟨hc,fun F η w vals hg hf hs hn hv=>(lookAt hl ⟨hc,h⟩ ha F η w vals hg hf hs hn hv).mono ?_⟩
 rintro e w' ⟨h1,h2,h3,h4,F',η',σ1,A,hf',hs1,h5,⟨j,v,rfl,hj⟩|⟨rfl,rfl⟩,hnew⟩
 rotate_left
 ·cases e with
  |panicked c=>exact h5.elim
  |outgrown=>exact h5.elim
  |returned u=>
   have h5:VRel F' η' σ1.next (.d (.s (.slice none 0 0))) u:=h5
   have:=h5.s_inv
   subst this
   obtain⟨η2,g1,g2,g3,g4⟩:=J6g h1 h2 E sz hp
   exact⟨F,η2,σ.alloc (.row σ.next E sz []),.ret (.sl σ.next σ.next 0 0),(J5p h3 h4).trans g1,g2,g3,.sl0 (Nat.lt_succ_self _) (Nat.lt_succ_self _) g4,rfl,rfl⟩
 cases e with
 |returned u=>
  obtain⟨η2,a,b,c,d⟩:=adopt h2 hs1 hj (show VRel F' η' σ1.next (.sl j v 0 vs.length) u from h5) fun b hb=>by
   have hge:=hnew j _ b hj hb
   refine⟨?_,fun i o ho hb2=>?_⟩
   ·cases hx:F b with
    |none=>rfl
    |some o=>exact absurd (Array.getElem?_eq_some_iff.1 (hf b o hx)).1 (by omega)
   ·have:=(hs.ob i o ho).own_lt hb2;omega
  refine⟨F,η2,σ.alloc (.row σ.next E sz (exR vs)),.ret (.sl σ.next σ.next 0 vs.length),⟨F.le_refl,a,Nat.le_succ _,h3,fun b hb _=>h4 b hb,fun i o b hi hb hlt=>?_,fun b o hb _=>.inl hb⟩,h1,b,c,rfl,rfl⟩
  rw[St.obj_alloc]at hi
  by_cases e:i=σ.next
  ·subst e
   rw[if_pos rfl]at hi
   rw[←Option.some.inj hi]at hb
   have:=hnew j _ b hj (d b hb);omega
  ·rw[if_neg e]at hi
   rw[(hs.ob i o hi).own_agree (hs.lt i o hi) a]at hb
   exact⟨i,o,hi,hb⟩
 |panicked c=>exact h5.elim
 |outgrown=>exact h5.elim
theorem Jba (σ:St) (x:D):Ln σ (.d x) (.d x):=.fz (Jbp x)
theorem J2Z {σ:St} {x y:AV} (h:Ln σ x y):Ln σ (.agg [x]) (.agg [y]):=.agg rfl fun j h1 h2=>by
 have:j=0:=by simp at h1;exact h1
 subst this;exact h
section
variable {X:Cfg} {nt:Nat} {Q:Exit→Env→St→Prop} {K:AV→St→Prop} {env:Env} {σ σ':St} {r:AV}
theorem Yxx {k:FuncId} {args:List AV} {as:Array Operand} {ts:Array TypeId} {f:Operand} {K0:AEnd→St→Prop} (h:AFun X k args σ K0) (hk:∀E σ2,K0 E σ2→∃r,E=.ret r∧K r σ2)
  (hf:aev X env f=.d (.s (.func (.func k) #[] #[])):=by exact rfl) (ha:as.toList.map (aev X env)=args:=by exact rfl):aoper X (.call ⟨.value f,as,ts⟩) env σ Q K:=by
 subst ha
 simp only[aoper,hf,acallee,acall]
 refine⟨trivial,trivial,h.mono ?_⟩
 intro E σ2 hK
 obtain⟨r,rfl,hr⟩:=hk E σ2 hK
 exact hr
end
end Go.Pm
