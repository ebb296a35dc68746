/- Part of the proof: Pm22. -/
import Derived.Test.YtdjanhhljinokaaGreatDoorT8
set_option linter.unusedVariables false
set_option linter.unusedSimpArgs false
namespace Go.Pm
inductive Fz (σ:St):AV→D→Prop
 |d (x:D):Fz σ (.d x) x
 |nil:Fz σ (.d (.s (.slice none 0 0))) (.im [])
 |ref {i off:Nat} {cells:List AV} {ds:List D} (h:σ.obj i=some (.var cells)) (hl:ds.length=cells.length) (hc:∀j (h1:j<cells.length) (h2:j<ds.length),Fz σ cells[j] ds[j]):Fz σ (.ref i off) (.ip ds off)
 |sl {i v E sz lo hi:Nat} {rows:List (List AV)} {drows rs:List (List D)} (h:σ.obj i=some (.row v E sz rows)) (hl:drows.length=rows.length) (hr:∀k (h1:k<rows.length) (h2:k<drows.length),drows[k].length=rows[k].length)
   (hc:∀k (h1:k<rows.length) (h2:k<drows.length) j (h3:j<rows[k].length) (h4:j<drows[k].length),Fz σ (rows[k])[j] (drows[k])[j]) (hle:hi≤rows.length) (e:rs=(drows.drop lo).take (hi-lo)):Fz σ (.sl i v lo hi) (.im rs)
inductive AFz (σ:St):AV→AV→Prop
 |any (x:AV):AFz σ x .any
 |data {x:AV} {d:D} (h:Fz σ x d):AFz σ x (.d d)
 |agg {cs cs':List AV} (hl:cs'.length=cs.length) (h:∀j (h1:j<cs.length) (h2:j<cs'.length),AFz σ cs[j] cs'[j]):AFz σ (.agg cs) (.agg cs')
 |tup {cs cs':List AV} (hl:cs'.length=cs.length) (h:∀j (h1:j<cs.length) (h2:j<cs'.length),AFz σ cs[j] cs'[j]):AFz σ (.tup cs) (.tup cs')
open Classical in
noncomputable def FH.all (F:FH) (η:Et) (σ:St) (w:World):FH:=fun b=>if ∃i o,σ.obj i=some o∧Owns η i o b then w.heap[b]? else F b
theorem FH.all_own {F:FH} {η:Et} {σ:St} {w:World} {i b:Nat} {o:AO} (h:σ.obj i=some o) (hb:Owns η i o b):F.all η σ w b=w.heap[b]?:=by
 unfold FH.all
 rw[if_pos ⟨i,o,h,hb⟩]
theorem FH.le_all {F:FH} {η:Et} {σ:St} {w:World} (hs:SRel F η σ w):F.le (F.all η σ w):=by
 intro b o hb
 unfold FH.all
 by_cases h:∃i o,σ.obj i=some o∧Owns η i o b
 ·obtain⟨i,o',h1,h2⟩:=h
  have:=hs.fr i o' b h1 h2
  rw[this]at hb;cases hb
 ·rw[if_neg h];exact hb
theorem Jbx {F:FH} {η:Et} {σ:St} {w:World} (hs:SRel F η σ w) {x:AV} {d:D} (h:Fz σ x d):∀{u:Value},VRel F η σ.next x u→DRel (F.all η σ w) d u:=by
 induction h with
 |d x=>intro u hu;cases hu with|d h=>exact h.mono (FH.le_all hs)
 |nil=>intro u hu;have:=hu.s_inv;subst this;exact .im0 none 0
 |@ref i off cells ds h hl hc ih=>
  intro u hu
  cases hu with
  |ref hi=>
   have ho:=hs.ob i _ h
   cases ho with
   |var c E b1 b2 b3 b4=>
    have key:DRel (F.all η σ w) (.ip ds off) (.pointer (some ⟨η.blk i,0+off,none⟩)):=by
     refine .ip ds off (η.blk i) 0 c E (0,0) (fun j=>c.getD j undef) (by rw[FH.all_own h rfl];exact b1) ?_ ?_ ?_
     ·intro j hj
      rw[Nat.zero_add]
      have:j<c.size:=by omega
      simp[Array.getD,this]
     ·intro j hj;exact b3 j (by omega)
     ·intro j hj;exact ih j (by omega) hj (b4 j (by omega))
    rwa [Nat.zero_add]at key
 |@sl i v E sz lo top rows drows rs h hl hr hc hle e ih=>
  intro u hu
  subst e
  have hrow:=hs.ob i _ h
  cases hrow with
  |row xs b1 b2 b3 b4 b5 b6 b7=>
   cases hblk:(η.hdr v).blk with
   |none=>
    have hl0:=J1e b4 hblk
    have:drows=[]:=List.eq_nil_of_length_eq_zero (by omega)
    subst this
    simp only[List.drop_nil,List.take_nil]
    cases hu with
    |sl h1 h2 hh hle2 hc hoff=>rw[hh]at hblk;cases hblk
    |sl0=>exact .im0 none 0
   |some b=>
    obtain⟨cur,hg1,hn1,hcap1,hsz1,htk⟩:=J06 b4 hblk
    have hFb:F.all η σ w b=some (.cells cur E (0,0)):=by rw[FH.all_own h (by simp only[Owns,own];exact hblk)];exact hg1
    have hxl:xs.length=rows.length*sz:=by
     have h1:rows.length*sz≤cur.size:=by rw[hsz1];exact Nat.mul_le_mul_right _ hn1
     rw[←htk,List.length_take,Array.length_toList]
     exact Nat.min_eq_left h1
    have hxc:∀m,m<rows.length*sz→cur[m]? = some (xs.getD m undef):=by
     intro m hm
     have h1:xs[m]? = cur[m]?:=by rw[←htk,List.getElem?_take,if_pos hm,Array.getElem?_toList]
     rw[←h1,List.getElem?_eq_getElem (by omega)]
     simp[List.getD,List.getElem?_eq_getElem (show m<xs.length by omega)]
    cases hu with
    |@sl _ _ _ _ b' cap' sz' off h1 h2 hh hle2 hc' hoff=>
     rw[hh]at hblk
     simp only[Option.some.injEq]at hblk
     subst hblk
     have hsz':sz'=sz:=by rw[hh]at b2;exact b2
     subst hsz'
     have hcap:(η.hdr v).cap=cap':=by rw[hh]
     rcases Nat.lt_or_ge lo top with hlt|hge
     ·have hoff':=hoff (by omega)
      subst hoff'
      have hlen:((drows.drop lo).take (top-lo)).length=top-lo:=by simp only[List.length_take,List.length_drop];omega
      have key:DRel (F.all η σ w) (.im ((drows.drop lo).take (top-lo))) (.slice (some ⟨b',lo*sz',none⟩) ((drows.drop lo).take (top-lo)).length (cap'-lo)):=by
       refine .im _ b' (lo*sz') (cap'-lo) sz' cur E (0,0) (fun k j=>xs.getD ((lo+k)*sz'+j) undef) hFb (by omega) ?_ ?_ ?_ ?_
       ·intro r hrm
        obtain⟨k,hk,rfl⟩:=List.getElem_of_mem (List.mem_of_mem_drop (List.mem_of_mem_take hrm))
        rw[hr k (by omega) hk]
        exact b5 _ (List.getElem_mem _)
       ·intro k hk j hj
        have:lo*sz'+k*sz'+j=(lo+k)*sz'+j:=by rw[Nat.add_mul]
        rw[this]
        exact hxc _ (J0F (by omega) hj)
       ·intro k hk j hj
        refine b6 _ ?_
        have hm:(lo+k)*sz'+j<xs.length:=by rw[hxl];exact J0F (by omega) hj
        simp only[List.getD,List.getElem?_eq_getElem hm,Option.getD_some]
        exact List.getElem_mem hm
       ·intro k hk j hj
        obtain⟨hk2,e2⟩:=J83 hk
        have hkr:lo+k<rows.length:=by omega
        have hj2:j<(drows[lo+k]).length:=by rw[←e2];exact hj
        have hj3:j<(rows[lo+k]).length:=by rw[←hr (lo+k) hkr hk2];exact hj2
        have:=ih (lo+k) hkr hk2 j hj3 hj2 (b7 (lo+k) hkr j hj3)
        have e3:((drows.drop lo).take (top-lo))[k][j]=drows[lo+k][j]:=by simp only[e2]
        rw[e3]
        exact this
      rw[hlen]at key
      exact key
     ·have:(drows.drop lo).take (top-lo)=[]:=by rw[show top-lo=0 by omega];simp
      rw[this,show top-lo=0 by omega]
      exact .im0 _ _
    |sl0 h1 h2 hh=>rw[hh]at hblk;cases hblk
theorem J2C {F:FH} {η:Et} {σ:St} {w:World} {n:Nat} (hs:SRel F η σ w) {x y:AV} (h:AFz σ x y):∀{u:Value},VRel F η σ.next x u→VRel (F.all η σ w) η n y u:=by
 induction h with
 |any x=>intro u _;exact .any u
 |data h=>intro u hu;exact .d (Jbx hs h hu)
 |agg hl _ ih=>
  intro u hu
  cases hu with
  |agg h1 h2=>exact .agg (by rw[h1,hl]) fun j hj=>ih j (by omega) hj (h2 j (by omega))
 |tup hl _ ih=>
  intro u hu
  cases hu with
  |tup h1 h2=>exact .tup (by rw[h1,hl]) fun j hj=>ih j (by omega) hj (h2 j (by omega))
theorem J7Z {X:Cfg} {nt:Nat} {env env':Env} {σ:St} (he:∀t,AFz σ (env t) (env' t)):Turn X nt env σ env' ⟨fun _=>none,σ.next⟩:=by
 intro F η a w hg hr
 have hle:=FH.le_all hr.st
 refine⟨F.all η σ w,η,⟨hle,Et.agree_refl _ _,Nat.le_refl _,.refl _,fun _ _ _=>rfl,?_,?_⟩,hg.mono hle,⟨?_,⟨?_,?_,?_,?_⟩,fun t=>J2C hr.st (he t) (hr.en t),hr.sz,hr.df⟩⟩
 ·intro i o b h;cases h
 ·intro b o hb hlt
  unfold FH.all at hb
  split at hb
  ·rename_i h;exact .inr h
  ·exact .inl hb
 ·intro b o hb
  unfold FH.all at hb
  split at hb
  ·exact hb
  ·exact hr.fr b o hb
 ·intro i o h;cases h
 ·intro i o h;cases h
 ·intro i j oi oj b h;cases h
 ·intro i o b h;cases h
theorem fzt {X:Cfg} {nt:Nat} {Q:Exit→Env→St→Prop} {env:Env} {σ:St} {c:Code} (t:Nat) {y:AV} (h1:AFz σ (env t) y) (h:Ok X nt c Q (envL [(t,y)]) ⟨fun _=>none,σ.next⟩):Ok X nt c Q env σ:=by
 refine J0a (J7Z fun t'=>?_) h
 simp only[envL]
 by_cases ht:t'=t
 ·subst ht;rw[if_pos rfl];exact h1
 ·rw[if_neg ht];exact .any _
theorem J2j {α:Type} {σ:St} {e:α→List D} {l:List α} {i v E sz n:Nat} (h:σ.obj i=some (.row v E sz (im2 e l))) (hn:n=l.length):Fz σ (.sl i v 0 n) (.im (l.map e)):=by
 refine .sl (drows:=l.map e) h (by simp[im2]) (fun k h1 h2=>by simp[im2]) (fun k h1 h2 j h3 h4=>?_) (by simp[im2,hn]) (by rw[hn,Nat.sub_zero,List.drop_zero,List.take_of_length_le (by simp)])
 simp only[im2,List.getElem_map]
 exact .d _
end Go.Pm
/- Part of the proof: Pm23. -/
namespace Go.Pm
def ext (n0 n:Nat) (π:Nat→Nat) (j:Nat):Nat:=if j<n0 then π j else n+(j-n0)
def mrg (σ0 σ:St) (π:Nat→Nat) (κ:Nat→Option Nat) (σ1:St):St:=
 ⟨fun i=>if i<σ.next then(match κ i with|some j=>(σ1.obj j).map (renO (ext σ0.next σ.next π))|none=>σ.obj i)else(σ1.obj (i-σ.next+σ0.next)).map (renO (ext σ0.next σ.next π)),σ.next+(σ1.next-σ0.next)⟩
def renE (ρ:Nat→Nat):AEnd→AEnd
 |.ret r=>.ret (ren ρ r)
 |.pan c=>.pan c
def Fwd (η' η2:Et) (n0 n2:Nat) (ρ:Nat→Nat):Prop:=∀j,j<n0→ρ j<n2∧η2.blk (ρ j)=η'.blk j∧η2.hdr (ρ j)=η'.hdr j
theorem J3H {F:FH} {η' η2:Et} {n0 n2:Nat} {ρ:Nat→Nat} (hf:Fwd η' η2 n0 n2 ρ) {x:AV} {u:Value} (h:VRel F η' n0 x u):VRel F η2 n2 (ren ρ x) u:=by
 induction h with
 |d h=>exact .d h
 |@agg cs vs h1 _ ih=>exact .agg (by simpa[JD]using h1) fun j hj=>by simpa[JD]using ih j (by simpa[JD]using hj)
 |@tup cs vs h1 _ ih=>exact .tup (by simpa[JD]using h1) fun j hj=>by simpa[JD]using ih j (by simpa[JD]using hj)
 |@ref i off hi=>
  have:=@VRel.ref F η2 n2 (ρ i) off (hf i hi).1
  rwa [(hf i hi).2.1]at this
 |sl h1 h2 hh hle hc hoff=>exact .sl (hf _ h1).1 (hf _ h2).1 ((hf _ h2).2.2.trans hh) hle hc hoff
 |sl0 h1 h2 hh=>exact .sl0 (hf _ h1).1 (hf _ h2).1 ((hf _ h2).2.2.trans hh)
 |ep h1 h2 hh=>exact .ep (hf _ h1).1 (hf _ h2).1 ((hf _ h2).2.2.trans hh)
 |@mp i hi=>
  have:=@VRel.mp F η2 n2 (ρ i) (hf i hi).1
  rwa [(hf i hi).2.1]at this
 |@it i hi=>
  have:=@VRel.it F η2 n2 (ρ i) (hf i hi).1
  rwa [(hf i hi).2.1]at this
 |@fn f caps vs h1 _ ih=>exact .fn (by simpa[JD]using h1) fun j hj=>by simpa[JD]using ih j (by simpa[JD]using hj)
 |ifc _ ih=>exact .ifc ih
 |any v=>exact .any v
theorem JaN {η' η2:Et} {n0 n2:Nat} {ρ:Nat→Nat} (hf:Fwd η' η2 n0 n2 ρ) {F:FH} {w:World} {j:Nat} {o:AO} (hj:j<n0) (h:ORel F η' n0 w j o):Owns η2 (ρ j) (renO ρ o)=Owns η' j o:=by
 cases h with
 |var=>funext b;simp only[renO,Owns,own,(hf j hj).2.1]
 |row xs hv=>funext b;simp only[renO,Owns,own,(hf _ hv).2.2]
 |map=>funext b;simp only[renO,Owns,own,(hf j hj).2.1]
 |iter=>funext b;simp only[renO,Owns,own,(hf j hj).2.1]
 |box=>rfl
theorem Jbl {η' η2:Et} {n0 n2:Nat} {ρ:Nat→Nat} (hf:Fwd η' η2 n0 n2 ρ) {F:FH} {w:World} {j:Nat} {o:AO} (hj:j<n0) (h:ORel F η' n0 w j o):ORel F η2 n2 w (ρ j) (renO ρ o):=by
 cases h with
 |@var cells c E b1 b2 b3 b4=>
  have hl:(rens ρ cells).length=cells.length:=by simp[JD]
  refine .var c E (by rw[(hf j hj).2.1];exact b1) (by rw[b2,hl]) (fun k hk=>b3 k (by omega)) fun k hk=>?_
  have:=J3H hf (b4 k (by omega))
  simpa[JD]using this
 |@row v E sz rows xs hv b2 b3 b4 b5 b6 b7=>
  refine .row xs (hf v hv).1 (by rw[(hf v hv).2.2];exact b2) b3 (by rw[(hf v hv).2.2];simpa using b4) (fun r hr=>?_) b6 fun k hk m hm=>?_
  ·obtain⟨r',hr',rfl⟩:=List.mem_map.1 hr
   simpa[JD]using b5 r' hr'
  ·have:=J3H hf (b7 k (by simpa using hk) m (by simpa[JD]using hm))
   simpa[JD]using this
 |@map kk es e c b1 b2 b3 b4 b4' b5 b6 b7=>
  refine .map e c (by rw[(hf j hj).2.1];exact b1) (by simpa using b2) (fun y hy=>?_) (fun k hk=>by simpa using b4 k (by simpa using hk)) (fun k k' hk hk' h=>b4' k k' (by simpa using hk) (by simpa using hk') (by simpa using h)) b5 b6 fun k hk=>?_
  ·obtain⟨z,hz,rfl⟩:=List.mem_map.1 hy
   exact b3 z hz
  ·have:=J3H hf (b7 k (by simpa using hk))
   simpa using this
 |iter hb=>exact .iter (by rw[(hf j hj).2.1];exact hb)
 |box hb=>exact .box hb
theorem AFun.frame {X:Cfg} {f:FuncId} {args:List AV} {σ0 σ:St} {K:AEnd→St→Prop} (h:AFun X f args σ0 K) (π:Nat→Nat) (κ:Nat→Option Nat) (hlt:∀j,j<σ0.next→π j<σ.next)
  (hl0:∀j o,σ0.obj j=some o→j<σ0.next) (hob:∀j o,σ0.obj j=some o→σ.obj (π j)=some (renO π o)∧o.low σ0.next) (hk1:∀j o,σ0.obj j=some o→κ (π j)=some j) (hk2:∀i j,κ i=some j→π j=i∧j<σ0.next)
  (hargs:lows σ0.next args=true):
  AFun X f (rens π args) σ (fun E σ'=>∃E0 σ1,K E0 σ1∧E=renE (ext σ0.next σ.next π) E0∧σ'=mrg σ0 σ π κ σ1):=by
 refine⟨h.1,fun F η w vals hg hf hs hn hv=>?_⟩
 have hrl:(rens π args).length=args.length:=by simp[JD]
 have hs0:SRel F (η.ren π) σ0 w:=by
  refine⟨hl0,fun j o hj=>J6M (hob j o hj).2 (hs.ob _ _ (hob j o hj).1),?_,?_⟩
  ·intro i j oi oj b hi hj hbi hbj
   rw[J0H]at hbi hbj
   have:=hs.ap _ _ _ _ b (hob i oi hi).1 (hob j oj hj).1 hbi hbj
   have h1:=hk1 i oi hi
   rw[this,hk1 j oj hj]at h1
   exact(Option.some.inj h1).symm
  ·intro i o b hi hb
   rw[J0H]at hb
   exact hs.fr _ _ b (hob i o hi).1 hb
 refine(h.2 F (η.ren π) w vals hg hf hs0 (by rw[hn,hrl]) fun j hj=>J12 args hargs _ (fun j hj'=>hv j hj') j hj).mono ?_
 rintro e w' ⟨F',η',σ1,E0,st,hf',hs1,he,hK⟩
 let ρ:=ext σ0.next σ.next π
 let η2:Et:=⟨fun i=>if i<σ.next then η.blk i else η'.blk (i-σ.next+σ0.next),fun i=>if i<σ.next then η.hdr i else η'.hdr (i-σ.next+σ0.next)⟩
 have hρ1:∀j,j<σ0.next→ρ j=π j:=fun j hj=>if_pos hj
 have hρ2:∀j,¬j<σ0.next→ρ j=σ.next+(j-σ0.next):=fun j hj=>if_neg hj
 have hnx:=st.nx
 have hfw:Fwd η' η2 σ1.next (mrg σ0 σ π κ σ1).next ρ:=by
  intro j hj
  show ρ j<σ.next+(σ1.next-σ0.next)∧_
  by_cases h0:j<σ0.next
  ·have h1:=hlt j h0
   have h2:=st.et j h0
   rw[hρ1 j h0]
   refine⟨by omega,?_,?_⟩
   ·show(if π j<σ.next then η.blk (π j)else _)=_
    rw[if_pos h1];exact h2.1.symm
   ·show(if π j<σ.next then η.hdr (π j)else _)=_
    rw[if_pos h1];exact h2.2.symm
  ·rw[hρ2 j h0]
   have e1:¬(σ.next+(j-σ0.next)<σ.next):=by omega
   have e2:σ.next+(j-σ0.next)-σ.next+σ0.next=j:=by omega
   refine⟨by omega,?_,?_⟩
   ·show(if σ.next+(j-σ0.next)<σ.next then _ else η'.blk (σ.next+(j-σ0.next)-σ.next+σ0.next))=_
    rw[if_neg e1,e2]
   ·show(if σ.next+(j-σ0.next)<σ.next then _ else η'.hdr (σ.next+(j-σ0.next)-σ.next+σ0.next))=_
    rw[if_neg e1,e2]
 have hag:η.agree σ.next η2:=fun i hi=>⟨if_pos hi,if_pos hi⟩
 -- an object of the merged state is one of the call's or another one
 have hcl:∀i o,(mrg σ0 σ π κ σ1).obj i=some o→(∃j o',σ1.obj j=some o'∧i=ρ j∧o=renO ρ o'∧j<σ1.next)∨(σ.obj i=some o∧κ i=none∧i<σ.next):=by
  intro i o hi
  simp only[mrg]at hi
  split at hi
  ·rename_i hlt'
   split at hi
   ·rename_i j hj
    obtain⟨o',ho',rfl⟩:=Option.map_eq_some_iff.1 hi
    obtain⟨h1,h2⟩:=hk2 i j hj
    exact .inl ⟨j,o',ho',by rw[hρ1 j h2,h1],rfl,hs1.lt j o' ho'⟩
   ·rename_i hj
    exact .inr ⟨hi,hj,hlt'⟩
  ·rename_i hge
   obtain⟨o',ho',rfl⟩:=Option.map_eq_some_iff.1 hi
   refine .inl ⟨_,o',ho',?_,rfl,hs1.lt _ o' ho'⟩
   rw[hρ2 _ (by omega)];omega
 have hown1:∀j o',σ1.obj j=some o'→Owns η2 (ρ j) (renO ρ o')=Owns η' j o':=fun j o' hj=>JaN hfw (hs1.lt j o' hj) (hs1.ob j o' hj)
 have hown2:∀i o,σ.obj i=some o→Owns η2 i o=Owns η i o:=fun i o hi=>(hs.ob i o hi).own_agree (hs.lt i o hi) hag
 -- an old block of a call's object was one of a given object
 have hold:∀j o' b,σ1.obj j=some o'→Owns η' j o' b→b<w.heap.size→∃j0 o0,σ0.obj j0=some o0∧Owns η (π j0) (renO π o0) b:=by
  intro j o' b hj hb hlt'
  obtain⟨j0,o0,h1,h2⟩:=st.nw j o' b hj hb hlt'
  rw[J0H]at h2
  exact⟨j0,o0,h1,h2⟩
 have hother:∀i o b j0 o0,σ.obj i=some o→κ i=none→Owns η i o b→σ0.obj j0=some o0→Owns η (π j0) (renO π o0) b→False:=by
  intro i o b j0 o0 hi hk hb h0 hb0
  have:=hs.ap i (π j0) o _ b hi (hob j0 o0 h0).1 hb hb0
  rw[this,hk1 j0 o0 h0]at hk
  cases hk
 refine⟨F',η2,mrg σ0 σ π κ σ1,renE ρ E0,⟨st.fh,hag,Nat.le_add_right _ _,st.gr,?_,?_,?_⟩,hf',⟨?_,?_,?_,?_⟩,?_,⟨E0,σ1,hK,rfl,rfl⟩⟩
 ·intro b hb hno
  refine st.fm b hb fun j o hj hbj=>?_
  rw[J0H]at hbj
  exact hno _ _ (hob j o hj).1 hbj
 ·intro i o b hi hb hlt'
  rcases hcl i o hi with⟨j,o',h1,rfl,rfl,_⟩|⟨h1,_,_⟩
  ·rw[hown1 j o' h1]at hb
   obtain⟨j0,o0,h2,h3⟩:=hold j o' b h1 hb hlt'
   exact⟨_,_,(hob j0 o0 h2).1,h3⟩
  ·exact⟨i,o,h1,by rw[←hown2 i o h1];exact hb⟩
 ·intro b o hb hlt'
  rcases st.nf b o hb hlt' with h1|⟨j,oj,h1,h2⟩
  ·exact .inl h1
  ·rw[J0H]at h2
   exact .inr ⟨_,_,(hob j oj h1).1,h2⟩
 ·intro i o hi
  rcases hcl i o hi with⟨j,o',h1,rfl,rfl,hj⟩|⟨h1,_,h2⟩
  ·exact(hfw j hj).1
  ·exact Nat.lt_of_lt_of_le h2 (Nat.le_add_right _ _)
 ·intro i o hi
  rcases hcl i o hi with⟨j,o',h1,rfl,rfl,hj⟩|⟨h1,hk,_⟩
  ·exact Jbl hfw hj (hs1.ob j o' h1)
  ·refine(hs.ob i o h1).mono (hs.lt i o h1) st.fh hag (Nat.le_add_right _ _) fun b hb=>?_
   refine st.fm b ((hs.ob i o h1).own_lt hb) fun j oj hj hbj=>?_
   rw[J0H]at hbj
   exact hother i o b j oj h1 hk hb hj hbj
 ·intro i k oi ok b hi hk hbi hbk
  rcases hcl i oi hi with⟨j,o',h1,rfl,rfl,hj⟩|⟨h1,hki,_⟩<;>rcases hcl k ok hk with⟨j',o'',h1',rfl,rfl,hj'⟩|⟨h1',hkk,_⟩
  ·rw[hown1 j o' h1]at hbi
   rw[hown1 j' o'' h1']at hbk
   rw[hs1.ap j j' o' o'' b h1 h1' hbi hbk]
  ·rw[hown1 j o' h1]at hbi
   rw[hown2 k ok h1']at hbk
   obtain⟨j0,o0,h2,h3⟩:=hold j o' b h1 hbi ((hs.ob k ok h1').own_lt hbk)
   exact(hother k ok b j0 o0 h1' hkk hbk h2 h3).elim
  ·rw[hown1 j' o'' h1']at hbk
   rw[hown2 i oi h1]at hbi
   obtain⟨j0,o0,h2,h3⟩:=hold j' o'' b h1' hbk ((hs.ob i oi h1).own_lt hbi)
   exact(hother i oi b j0 o0 h1 hki hbi h2 h3).elim
  ·rw[hown2 i oi h1]at hbi
   rw[hown2 k ok h1']at hbk
   exact hs.ap i k oi ok b h1 h1' hbi hbk
 ·intro i o b hi hb
  rcases hcl i o hi with⟨j,o',h1,rfl,rfl,hj⟩|⟨h1,hk,_⟩
  ·rw[hown1 j o' h1]at hb
   exact hs1.fr j o' b h1 hb
  ·rw[hown2 i o h1]at hb
   have h0:=hs.fr i o b h1 hb
   cases hFb:F' b with
   |none=>rfl
   |some o2=>
    rcases st.nf b o2 hFb ((hs.ob i o h1).own_lt hb)with h2|⟨j,oj,h2,h3⟩
    ·rw[h0]at h2;cases h2
    ·rw[J0H]at h3
     exact(hother i o b j oj h1 hk hb h2 h3).elim
 ·cases E0 with
  |ret r=>
   cases e with
   |returned v=>exact J3H hfw he
   |panicked c=>exact he.elim
   |outgrown=>exact he.elim
  |pan c=>
   cases e with
   |returned v=>exact he.elim
   |panicked c'=>exact he
   |outgrown=>exact he.elim
end Go.Pm
/- Part of the proof: Pm24. -/
namespace Go.Pm
def inlE (K:AV→St→Prop) (Q:Exit→Env→St→Prop) (env:Env):AEnd→St→Prop:=fun E σ'=>match E with|.ret r=>K r σ'|.pan ch=>Q (.panic ch) env σ'
section
variable {X:Cfg} {nt:Nat} {Q:Exit→Env→St→Prop} {K:AV→St→Prop} {env:Env} {σ σ':St} {r:AV}
theorem Ym {k:FuncId} {args:List AV} {as:Array Operand} {ts:Array TypeId} {f:Operand} (h:AFun X k args σ fun E σ2=>E=.ret r∧σ2=σ') (hk:K r σ') (hf:aev X env f=.d (.s (.func (.func k) #[] #[])):=by exact rfl) (ha:as.toList.map (aev X env)=args:=by exact rfl):aoper X (.call ⟨.value f,as,ts⟩) env σ Q K:=by
 subst ha
 simp only[aoper,hf,acallee,acall]
 refine⟨trivial,trivial,h.mono ?_⟩
 rintro E σ2 ⟨rfl,rfl⟩
 exact hk
theorem Yp {k:FuncId} {args caps:List AV} {as:Array Operand} {ts:Array TypeId} {f:Operand} (h:AFun X k args σ fun E σ2=>E=.ret r∧σ2=σ') (hk:K r σ') (hf:aev X env f=.fn k caps:=by exact rfl) (ha:as.toList.map (aev X env)++caps=args:=by exact rfl):aoper X (.call ⟨.value f,as,ts⟩) env σ Q K:=by
 subst ha
 simp only[aoper,hf,acallee,acall]
 refine h.mono ?_
 rintro E σ2 ⟨rfl,rfl⟩
 exact hk
theorem Yq {k:FuncId} {caps:Array Operand} {c:AV} {cs:List AV} (h:K (.fn k (c::cs)) σ) (ha:caps.toList.map (aev X env)=c::cs:=by exact rfl):aoper X (.makeFunc (.func k) #[] caps) env σ Q K:=by
 simp only[aoper,aop,ha,amakeFunc,List.map_nil]
 exact h
end
attribute [local irreducible] inlE
end Go.Pm
/- Part of the proof: Pm25. -/
namespace Go.Pm
attribute [local irreducible] AR Ok inBlock andThen endQ aoper
def plainE:Op→Bool
 |.nilCheck _|.buildSlice _ _ _|.build _ _|.store _ _ _|.alloc _|.box _ _|.makeSlice _ _ _|.mapUpdate _ _ _ _|.slice _ _ _ _ none=>true
 |.call c=>match c.callee with|.value _=>true|.builtin .len=>true|.builtin .append=>true|.builtin .max=>true|.builtin .min=>true|_=>false
 |op=>plainOp op
theorem J40 {X:Cfg} {env env':Env} {σ:St} {K:AV→St→Prop} {b:Builtin} {as:List Operand} {ts:List TypeId} (h:∀x∈as,aev X env x=aev X env' x) (ha:abuiltin X env σ K b as ts):abuiltin X env' σ K b as ts:=by
 unfold abuiltin at ha ⊢
 split at ha
 ·simp only[List.mem_singleton,forall_eq]at h;simp only[←h];exact ha
 ·simp only[List.mem_cons,List.not_mem_nil,or_false,forall_eq_or_imp,forall_eq]at h;simp only[←h.1,←h.2];exact ha
 ·simp only[List.mem_cons,List.not_mem_nil,or_false,forall_eq_or_imp,forall_eq]at h;simp only[←h.1,←h.2];exact ha
 ·simp only[List.mem_cons,List.not_mem_nil,or_false,forall_eq_or_imp,forall_eq]at h;simp only[←h.1,←h.2];exact ha
 ·exact ha.elim
theorem J0h {X:Cfg} {env env':Env} {op:Op} {σ:St} {K:AV→St→Prop} (hp:plainE op=true) (h:∀x∈op.operands.toList,aev X env x=aev X env' x)
  (ha:aoper X op env σ (fun _ _ _=>False) K):aoper X op env' σ (fun _ _ _=>False) K:=by
 have parts:∀ps:Array (Nat×Operand),(∀p∈ps.toList,aev X env p.2=aev X env' p.2)→(ps.toList.map fun p=>(p.1,aev X env p.2))=(ps.toList.map fun p=>(p.1,aev X env' p.2)):=fun ps hh=>List.map_congr_left fun p hpm=>by rw[hh p hpm]
 cases op with
 |nilCheck x=>have e:=h x (by simp[Op.operands]);simp only[aoper,aop]at ha ⊢;rw[←e];exact ha
 |buildSlice t n ps=>
  have e:=parts ps fun p hpm=>h p.2 (by simp only[Op.operands,Array.toList_map];exact List.mem_map.2 ⟨p,hpm,rfl⟩)
  simp only[aoper,aop]at ha ⊢;rw[←e];exact ha
 |build t ps=>
  have e:=parts ps fun p hpm=>h p.2 (by simp only[Op.operands,Array.toList_map];exact List.mem_map.2 ⟨p,hpm,rfl⟩)
  simp only[aoper,aop]at ha ⊢;rw[←e];exact ha
 |store t x y=>have e1:=h x (by simp[Op.operands]);have e2:=h y (by simp[Op.operands]);simp only[aoper,aop]at ha ⊢;rw[←e1,←e2];exact ha
 |alloc e=>simpa only[aoper,aop]using ha
 |box t x=>have e:=h x (by simp[Op.operands]);simp only[aoper,aop]at ha ⊢;rw[←e];exact ha
 |makeSlice t x y=>have e1:=h x (by simp[Op.operands]);have e2:=h y (by simp[Op.operands]);simp only[aoper,aop]at ha ⊢;rw[←e1,←e2];exact ha
 |mapUpdate t x y z=>have e1:=h x (by simp[Op.operands]);have e2:=h y (by simp[Op.operands]);have e3:=h z (by simp[Op.operands]);simp only[aoper,aop]at ha ⊢;rw[←e1,←e2,←e3];exact ha
 |slice t x lo hi m=>
  cases m with
  |some m=>simp[plainE,plainOp]at hp
  |none=>
   have e1:=h x (by simp[Op.operands])
   have e2:lo.map (aev X env)=lo.map (aev X env'):=by cases lo with|none=>rfl|some y=>simp only[Option.map_some];rw[h y (by simp[Op.operands])]
   have e3:hi.map (aev X env)=hi.map (aev X env'):=by cases hi with|none=>rfl|some y=>simp only[Option.map_some];rw[h y (by cases lo<;>simp[Op.operands])]
   simp only[aoper,aop]at ha ⊢;rw[←e1,←e2,←e3];exact ha
 |call c=>
  obtain⟨callee,args,tys⟩:=c
  cases callee with
  |value f=>exact JA (by rfl) h ha
  |builtin b=>
   have e2:∀x∈args.toList,aev X env x=aev X env' x:=fun x hx=>h x (by simp[Op.operands,Call.operands];simpa using hx)
   simp only[aoper]at ha ⊢
   exact J40 e2 ha
  |invoke r m=>simp[plainE]at hp
 |move x=>exact JA (by simpa[plainE]using hp) h ha
 |assign x=>exact JA (by simpa[plainE]using hp) h ha
 |pick c x y=>exact JA (by simpa[plainE]using hp) h ha
 |load t x=>exact JA (by simpa[plainE]using hp) h ha
 |fieldAddr t x f=>exact JA (by simpa[plainE]using hp) h ha
 |field t x f=>exact JA (by simpa[plainE]using hp) h ha
 |indexAddr t x y=>exact JA (by simpa[plainE]using hp) h ha
 |index t x y=>exact JA (by simpa[plainE]using hp) h ha
 |binOp o t x y z=>exact JA (by simpa[plainE]using hp) h ha
 |unOp o t x=>exact JA (by simpa[plainE]using hp) h ha
 |extract x i=>exact JA (by simpa[plainE]using hp) h ha
 |lookup t x y k=>exact JA (by simpa[plainE]using hp) h ha
 |convert s d x=>exact JA (by simpa[plainE]using hp) h ha
 |_=>simp[plainE,plainOp]at hp
def OpAtT (X:Cfg) (nt:Nat) (ops:Array Oper) (T:Nat→Prop) (σ:St) (o:Oper) (env:Env) (r:AV):Prop:=
 o.dst.all (·<nt)=true∧
 match o.guard with
 |none=>∀σ',(∀j,T j→σ'.obj j=σ.obj j)→aoper X o.op env σ' (fun _ _ _=>False) fun v σ2=>σ2=σ'∧v=r
 |some (j,want)=>∃d,(ops[j]?).bind (·.dst)=some d∧d<nt∧
   ((env d=.d (.s (.bool want))∧∀σ',(∀j,T j→σ'.obj j=σ.obj j)→aoper X o.op env σ' (fun _ _ _=>False) fun v σ2=>σ2=σ'∧v=r)∨(env d=.d (.s (.bool (!want)))∧r=.d (.s undef))∨(env d=.d (.s undef)∧r=.d (.s undef)))
inductive LRE (X:Cfg) (nt:Nat) (ops:Array Oper) (T:Nat→Prop) (es:List Nat):Nat→List Oper→Env→St→Env→St→Prop
 |nil (n:Nat) (E:Env) (σ:St):LRE X nt ops T es n [] E σ E σ
 |op {n:Nat} {o:Oper} {rest:List Oper} {env E:Env} {σ σ2:St} {r:AV} (hne:es.contains n=false) (h:OpAtT X nt ops T σ o env r) (k:LRE X nt ops T es (n+1) rest (put env o.dst r) σ E σ2):LRE X nt ops T es n (o::rest) env σ E σ2
 |eff {n:Nat} {o:Oper} {rest:List Oper} {env E:Env} {σ σ1 σ2:St} {r:AV} (he:es.contains n=true) (hd:o.dst.all (·<nt)=true) (hg:o.guard=none) (h:aoper X o.op env σ (fun _ _ _=>False) fun v σ'=>σ'=σ1∧v=r)
   (hT:rest=[]∨∀j,T j→σ1.obj j=σ.obj j) (k:LRE X nt ops T es (n+1) rest (put env o.dst r) σ1 E σ2):LRE X nt ops T es n (o::rest) env σ E σ2
def reachB (ops:Array Oper):Nat→Nat→Nat→Bool
 |0,_,_=>false
 |fuel+1,i,j=>match ops[i]? with
  |none=>false
  |some o=>o.after.any fun e=>Region.binds .any e&&(e.on == j||reachB ops fuel e.on j)
def drawOkE (ops:Array Oper) (es:List Nat):Bool:=
 ((List.range ops.size).all fun i=>match ops[i]? with
  |none=>false
  |some o=>plainE o.op&&o.after.all (fun e=>!Region.binds .any e||decide (e.on<i)) &&
   (List.range ops.size).all fun j=>match (ops[j]?).bind (·.dst)with
    |none=>true
    |some d=>(j == i||o.dst != some d)&&(!(o.looksAt ops).contains d||o.after.any (fun e=>Region.binds .any e&&e.on == j)||(match ops[j]? with|none=>false|some oj=>oj.after.any (fun e=>Region.binds .any e&&e.on == i)))) &&
 (es.all fun a=>es.all fun b=>!decide (b<a)||reachB ops ops.size a b)&&(!es.contains (ops.size-1)||(List.range (ops.size-1)).all fun j=>reachB ops ops.size (ops.size-1) j)
theorem JJ {ops:Array Oper} {es:List Nat} (h:drawOkE ops es=true) {i:Nat} {o:Oper} (ho:ops[i]? = some o):plainE o.op=true∧(∀e∈o.after,Region.binds .any e=true→e.on<i)∧
  ∀(j:Nat) (oj:Oper) (d:Nat),ops[j]? = some oj→oj.dst=some d→(j≠i→o.dst≠some d)∧(d∈o.looksAt ops→(∃e∈o.after,Region.binds .any e=true∧e.on=j)∨∃e∈oj.after,Region.binds .any e=true∧e.on=i):=by
 simp only[drawOkE,Bool.and_eq_true]at h
 have hi:i<ops.size:=(Array.getElem?_eq_some_iff.1 ho).1
 have h1:=List.all_eq_true.1 h.1.1 i (List.mem_range.2 hi)
 simp only[ho,Bool.and_eq_true]at h1
 obtain⟨⟨h2,h3⟩,h4⟩:=h1
 refine⟨h2,fun e he hb=>?_,fun j oj d hj hd=>?_⟩
 ·have:=Array.all_eq_true_iff_forall_mem.1 h3 e he
  simpa[hb]using this
 ·have hjs:j<ops.size:=(Array.getElem?_eq_some_iff.1 hj).1
  have:=List.all_eq_true.1 h4 j (List.mem_range.2 hjs)
  simp only[hj,Option.bind_some,hd,Bool.and_eq_true,Bool.or_eq_true,beq_iff_eq,bne_iff_ne,ne_eq,Bool.not_eq_true',List.contains_eq_mem,decide_eq_false_iff_not]at this
  refine⟨fun hne=>this.1.resolve_left hne,fun hm=>?_⟩
  rcases this.2 with(h5|h5)|h5
  ·exact absurd hm h5
  ·obtain⟨k,hk,hb⟩:=Array.any_eq_true.1 h5
   have he:o.after[k]∈o.after:=Array.getElem_mem hk
   generalize o.after[k]=e at he hb
   simp only[Bool.and_eq_true,beq_iff_eq]at hb
   exact .inl ⟨e,he,hb.1,hb.2⟩
  ·obtain⟨k,hk,hb⟩:=Array.any_eq_true.1 h5
   have he:oj.after[k]∈oj.after:=Array.getElem_mem hk
   generalize oj.after[k]=e at he hb
   simp only[Bool.and_eq_true,beq_iff_eq]at hb
   exact .inr ⟨e,he,hb.1,hb.2⟩
theorem J2g {ops:Array Oper} {es:List Nat} (h:drawOkE ops es=true) {a b:Nat} (ha:es.contains a=true) (hb:es.contains b=true) (hlt:b<a):reachB ops ops.size a b=true:=by
 simp only[drawOkE,Bool.and_eq_true]at h
 have:=List.all_eq_true.1 (List.all_eq_true.1 h.1.2 a (by simpa using ha)) b (by simpa using hb)
 simpa[hlt]using this
theorem J2W {ops:Array Oper} {es:List Nat} (h:drawOkE ops es=true) (hl:es.contains (ops.size-1)=true) {j:Nat} (hj:j<ops.size-1):reachB ops ops.size (ops.size-1) j=true:=by
 simp only[drawOkE,Bool.and_eq_true]at h
 have h2:=h.2
 rw[hl]at h2
 exact List.all_eq_true.1 (by simpa using h2) j (List.mem_range.2 hj)
theorem J0T {ops:Array Oper} {P:Nat→Prop} (hcl:∀i o,ops[i]? = some o→P i→∀e∈o.after,Region.binds .any e=true→P e.on):∀(fuel i j:Nat),reachB ops fuel i j=true→P i→P j
 |0,_,_,h,_=>by simp[reachB]at h
 |fuel+1,i,j,h,hi=>by
  simp only[reachB]at h
  split at h
  ·cases h
  ·rename_i o ho
   obtain⟨k,hk,hb⟩:=Array.any_eq_true.1 h
   have he:o.after[k]∈o.after:=Array.getElem_mem hk
   generalize o.after[k]=e at he hb
   simp only[Bool.and_eq_true,Bool.or_eq_true,beq_iff_eq]at hb
   have hp:=hcl i o ho hi e he hb.1
   rcases hb.2 with rfl|hr
   ·exact hp
   ·exact J0T hcl fuel e.on j hr hp
theorem J3s {ops:Array Oper} {P:Nat→Prop} (hcl:∀i o,ops[i]? = some o→P i→∀e∈o.after,Region.binds .any e=true→P e.on) {i:Nat} {o:Oper} (ho:ops[i]? = some o) (hr:∀e∈o.after,Region.binds .any e=true→P e.on):∀(fuel j:Nat),reachB ops fuel i j=true→P j
 |0,_,h=>by simp[reachB]at h
 |fuel+1,j,h=>by
  simp only[reachB,ho]at h
  obtain⟨k,hk,hb⟩:=Array.any_eq_true.1 h
  have he:o.after[k]∈o.after:=Array.getElem_mem hk
  generalize o.after[k]=e at he hb
  simp only[Bool.and_eq_true,Bool.or_eq_true,beq_iff_eq]at hb
  have hp:=hr e he hb.1
  rcases hb.2 with rfl|hr'
  ·exact hp
  ·exact J0T hcl fuel e.on j hr' hp
theorem LRE.facts {X:Cfg} {nt:Nat} {ops:Array Oper} {T:Nat→Prop} {es:List Nat}:∀{n:Nat} {l:List Oper} {env E:Env} {σ σF:St},LRE X nt ops T es n l env σ E σF→
  (∀(i j:Nat) (oi oj:Oper) (d:Nat),i≠j→l[i]? = some oi→l[j]? = some oj→oi.dst=some d→oj.dst≠some d)→
  (∀t,(∀o∈l,o.dst≠some t)→E t=env t)∧
  ∃sv:Nat→St,sv 0=σ∧sv l.length=σF∧(∀k,k<l.length→∀j,T j→(sv k).obj j=σ.obj j)∧(∀k,k<l.length→es.contains (n+k)=false→sv (k+1)=sv k)∧
  ∀(k:Nat) (o:Oper),l[k]? = some o→∃e r,o.dst.all (·<nt)=true∧(es.contains (n+k)=false→OpAtT X nt ops T (sv k) o e r)∧
   (es.contains (n+k)=true→o.guard=none∧aoper X o.op e (sv k) (fun _ _ _=>False) fun v σ'=>σ'=sv (k+1)∧v=r)∧
   (∀d,o.dst=some d→E d=r)∧(∀t,(∀(j:Nat) (oj:Oper),j<k→l[j]? = some oj→oj.dst≠some t)→e t=env t)∧(∀(j:Nat) (oj:Oper) (t:Nat),j<k→l[j]? = some oj→oj.dst=some t→e t=E t)
 |n,[],env,E,σ,σF,h,_=>by
  cases h
  exact⟨fun _ _=>rfl,fun _=>σ,rfl,rfl,fun k hk=>by simp at hk,fun k hk=>by simp at hk,fun k o h=>by simp at h⟩
 |n,o::rest,env,E,σ,σF,h,hd=>by
  -- the first operation gives r and the state σ1
  obtain⟨r,σ1,hdst,hop,heff,hT,hsame,hrun⟩:∃r σ1,o.dst.all (·<nt)=true∧(es.contains n=false→OpAtT X nt ops T σ o env r)∧(es.contains n=true→o.guard=none∧aoper X o.op env σ (fun _ _ _=>False) fun v σ'=>σ'=σ1∧v=r)∧
    (rest=[]∨∀j,T j→σ1.obj j=σ.obj j)∧(es.contains n=false→σ1=σ)∧LRE X nt ops T es (n+1) rest (put env o.dst r) σ1 E σF:=by
   cases h with
   |op hne h k=>exact⟨_,σ,h.1,fun _=>h,(fun he=>by rw[hne]at he;cases he),.inr fun _ _=>rfl,fun _=>rfl,k⟩
   |eff he hd hg h hT k=>exact⟨_,_,hd,(fun hne=>by rw[hne]at he;cases he),fun _=>⟨hg,h⟩,hT,(fun hne=>by rw[hne]at he;cases he),k⟩
  obtain⟨h1,sv,hs0,hsF,hsT,hsk,h2⟩:=hrun.facts fun i j oi oj d hij hi hj=>hd (i+1) (j+1) oi oj d (by omega) (by simpa using hi) (by simpa using hj)
  have hfst:∀d,o.dst=some d→E d=r:=by
   intro d hod
   rw[h1 d fun o' ho'=>?_]
   ·simp[put,hod]
   ·obtain⟨j,hj⟩:=List.getElem?_of_mem ho'
    exact hd 0 (j+1) o o' d (by omega) (by simp) (by simpa using hj) hod
  have hput:∀t,o.dst≠some t→put env o.dst r t=env t:=by
   intro t ht
   cases hod:o.dst with
   |none=>rfl
   |some d=>simp only[put];rw[if_neg (by intro e;subst e;exact ht hod)]
  refine⟨fun t ht=>?_,fun k=>match k with|0=>σ|k+1=>sv k,rfl,by simpa using hsF,fun k hk j hj=>?_,fun k hk hne=>?_,fun k' o' hk'=>?_⟩
  ·rw[h1 t fun o' ho'=>ht o' (by simp[ho'])]
   exact hput t (ht o (by simp))
  ·cases k with
   |zero=>rfl
   |succ k=>
    show(sv k).obj j=_
    have hk2:k<rest.length:=by simpa using hk
    rcases hT with hT|hT
    ·rw[hT]at hk2;simp at hk2
    ·rw[hsT k hk2 j hj,hT j hj]
  ·cases k with
   |zero=>show sv 0=σ;rw[hs0];exact hsame (by simpa using hne)
   |succ k=>exact hsk k (by simpa using hk) (by rw[show n+1+k=n+(k+1) by omega];exact hne)
  ·cases k' with
   |zero=>
    simp only[List.getElem?_cons_zero,Option.some.injEq]at hk'
    subst hk'
    exact⟨env,r,hdst,fun hne=>hop (by simpa using hne),fun he=>by
     obtain⟨hg,ha⟩:=heff (by simpa using he)
     refine⟨hg,?_⟩
     show aoper X o.op env σ _ fun v σ'=>σ'=sv 0∧v=r
     rw[hs0];exact ha,hfst,fun _ _=>rfl,fun j oj t hj=>by omega⟩
   |succ k'=>
    obtain⟨e,r',a0,a1,a1',a2,a3,a4⟩:=h2 k' o' (by simpa using hk')
    refine⟨e,r',a0,fun hne=>a1 (by rw[show n+1+k'=n+(k'+1) by omega];exact hne),fun he=>a1' (by rw[show n+1+k'=n+(k'+1) by omega];exact he),a2,fun t ht=>?_,fun j oj t hj hoj hot=>?_⟩
    ·rw[a3 t fun j oj hj hoj=>ht (j+1) oj (by omega) (by simpa using hoj)]
     exact hput t (ht 0 o (by omega) (by simp))
    ·cases j with
     |zero=>
      simp only[List.getElem?_cons_zero,Option.some.injEq]at hoj
      subst hoj
      have hno:∀o''∈rest,o''.dst≠some t:=fun o'' ho''=>by
       obtain⟨j,hj⟩:=List.getElem?_of_mem ho''
       exact hd 0 (j+1) o o'' t (by omega) (by simp) (by simpa using hj) hot
      rw[a3 t (fun j oj _ hoj=>hno oj (List.mem_of_getElem? hoj)),h1 t hno]
     |succ j=>exact a4 j oj t (by omega) (by simpa using hoj) hot
theorem J4r {ops:Array Oper} {es:List Nat} (h:drawOkE ops es=true) {listed:Array Bool} (hl:listed.size=ops.size) (hr:Region.ready .any ops listed=[]):∀i,i<ops.size→listed.getD i true=true:=by
 intro i
 induction i using Nat.strongRecOn with
 |_ i ih=>
  intro hi
  cases hc:listed.getD i true with
  |true=>rfl
  |false=>
   exfalso
   have:i∈Region.ready .any ops listed:=by
    simp only[Region.ready,List.mem_filter,List.mem_range,hi,true_and,hc,Bool.not_false,Bool.true_and,Array.getElem?_eq_getElem,Option.map_some,Option.getD_some]
    refine Array.all_eq_true_iff_forall_mem.2 fun e he=>?_
    cases hb:Region.binds .any e with
    |false=>rfl
    |true=>
     have hlt:=(JJ h (i:=i) (o:=ops[i]) (by simp[hi])).2.1 e he hb
     have:=ih e.on hlt (by omega)
     simp only[Bool.not_true,Bool.false_or]
     have hsz:e.on<listed.size:=by omega
     simpa[Array.getD,hsz]using this
   rw[hr]at this
   cases this
def ADE (X:Cfg) (nt:Nat) (ops:Array Oper) (T:Nat→Prop) (es:List Nat) (Q:Exit→Env→St→Prop) (n:Nat) (rest:List Oper) (env:Env) (σ:St):Prop:=∃E σF,LRE X nt ops T es n rest env σ E σF∧Q .normal E σF
theorem J09 {X:Cfg} {nt id:Nat} {ops:Array Oper} {Q:Exit→Env→St→Prop} {env:Env} {σ:St} (T:Nat→Prop) (es:List Nat) (hm:X.P.follows .mixedOrders=true) (hc:drawOkE ops es=true) (h:ADE X nt ops T es Q 0 ops.toList env σ):
  Ok X nt (.region id ops true) Q env σ:=by
 unfold Ok
 intro F0 η0 a0 w0 hg0 hr0
 obtain⟨E,σF,hlr,hQ⟩:=h
 obtain⟨hbase,sv,hsv0,hsvF,hsvT,hsvk,hfacts⟩:=hlr.facts fun i j oi oj d hij hi hj hdi hdj=>by
  simp only[Array.getElem?_toList]at hi hj
  exact((JJ hc hi).2.2 j oj d hj hdj).1 (Ne.symm hij) hdi
 refine wp_region_any hm ?_
 have hsvle:∀a b,a≤b→b≤ops.size→(∀q,a≤q→q<b→es.contains q=false)→sv b=sv a:=by
  intro a b hab
  induction b with
  |zero=>
   intro _ _;have:a=0:=by omega
   subst this;rfl
  |succ b ih=>
   intro hb hno
   by_cases hab':a=b+1
   ·subst hab';rfl
   ·rw[hsvk b (by simp;omega) (by simpa using hno b (by omega) (by omega)),ih (by omega) (by omega) (fun q h1 h2=>hno q h1 (by omega))]
 have key:∀(fuel:Nat) (listed:Array Bool) (cur:Env) (F:FH) (η:Et) (a:Act) (w:World),listed.size=ops.size→(fuel=0→∀i,i<ops.size→listed.getD i true=true)→
   (∀i,i<ops.size→listed.getD i true=false→True)→((List.range ops.size).filter (fun i=>!listed.getD i true)).length≤fuel→
   ∀m:Nat,m≤ops.size→(∀q,es.contains q=true→q<ops.size→(listed.getD q false=true↔q<m))→Step F0 η0 σ w0 F η (sv m) w→GRel X F→Rel F η nt cur (sv m) a w→
   (∀t,(∀i o,ops[i]? = some o→listed.getD i true=true→o.dst≠some t)→cur t=env t)→(∀i o,ops[i]? = some o→listed.getD i true=true→∀e∈o.after,Region.binds .any e=true→listed.getD e.on false=true)→(∀i o t,ops[i]? = some o→listed.getD i true=true→o.dst=some t→cur t=E t)→
   wpAny X.P .any ops (Post X nt F0 η0 σ w0 Q) fuel listed a w:=by
  intro fuel
  induction fuel with
  |zero=>
   intro listed cur F η a w hls h0 _ hlen m hmle hml hs hg hr hb hcl hl
   have hall:=h0 rfl
   have hE:cur=E:=by
    funext t
    by_cases ht:∀o∈ops.toList,o.dst≠some t
    ·rw[hb t (fun i o hi _=>ht o (by simpa using Array.mem_of_getElem? hi)),hbase t ht]
    ·have ⟨o,ho,hot⟩:∃o,o∈ops.toList∧o.dst=some t:=by
      apply Classical.byContradiction
      intro hno
      exact ht fun o ho hot=>hno ⟨o,ho,hot⟩
     obtain⟨i,hi⟩:=List.getElem?_of_mem ho
     simp only[Array.getElem?_toList]at hi
     exact hl i o t hi (hall i (Array.getElem?_eq_some_iff.1 hi).1) hot
   subst hE
   have hmF:sv m=σF:=by
    rw[←hsvF,Array.length_toList]
    refine(hsvle m ops.size hmle (Nat.le_refl _) fun q h1 h2=>?_).symm
    cases hqe:es.contains q with
    |false=>rfl
    |true=>
     have h3:=(hml q hqe h2).1 (by have:=hall q h2;simpa[Array.getD,show q<listed.size by omega]using this)
     omega
   rw[hmF]at hs hr
   refine⟨?_,⟨F,η,cur,σF,hs,hg,hr,hQ⟩⟩
   cases hrd:Region.ready .any ops listed with
   |nil=>rfl
   |cons i rest=>
    obtain⟨h1,h2,_⟩:=J0D (ops:=ops) (listed:=listed) (i:=i) (by rw[hrd];simp)
    rw[hall i h1]at h2;cases h2
  |succ fuel ih=>
   intro listed cur F η a w hls h0 _ hlen m hmle hml hs hg hr hb hcl hl
   refine⟨fun hnil=>?_,fun i hi=>?_⟩
   ·have hall:=J4r hc hls hnil
    have hE:cur=E:=by
     funext t
     by_cases ht:∀o∈ops.toList,o.dst≠some t
     ·rw[hb t (fun i o hi _=>ht o (by simpa using Array.mem_of_getElem? hi)),hbase t ht]
     ·have ⟨o,ho,hot⟩:∃o,o∈ops.toList∧o.dst=some t:=by
       apply Classical.byContradiction
       intro hno
       exact ht fun o ho hot=>hno ⟨o,ho,hot⟩
      obtain⟨i,hi⟩:=List.getElem?_of_mem ho
      simp only[Array.getElem?_toList]at hi
      exact hl i o t hi (hall i (Array.getElem?_eq_some_iff.1 hi).1) hot
    subst hE
    have hmF:sv m=σF:=by
     rw[←hsvF,Array.length_toList]
     refine(hsvle m ops.size hmle (Nat.le_refl _) fun q h1 h2=>?_).symm
     cases hqe:es.contains q with
     |false=>rfl
     |true=>
      have h3:=(hml q hqe h2).1 (by have:=hall q h2;simpa[Array.getD,show q<listed.size by omega]using this)
      omega
    rw[hmF]at hs hr
    exact⟨F,η,cur,σF,hs,hg,hr,hQ⟩
   ·obtain⟨hin,hun,o,ho,hdep⟩:=J0D hi
    obtain⟨hpl,hbef,hlook⟩:=JJ hc ho
    obtain⟨e,r,hdst,hatp,hate,hEr,hebase,hedone⟩:=hfacts i o (by simpa using ho)
    rw[Nat.zero_add]at hatp hate
    have hlooks:∀t∈o.looksAt ops,e t=cur t:=by
     intro t ht
     by_cases hw:∀o∈ops.toList,o.dst≠some t
     ·rw[hebase t (fun j oj _ hoj=>hw oj (List.mem_of_getElem? hoj)),hb t (fun i o hi _=>hw o (by simpa using Array.mem_of_getElem? hi))]
     ·have ⟨oj,hoj,hot⟩:∃o,o∈ops.toList∧o.dst=some t:=by
       apply Classical.byContradiction
       intro hno
       exact hw fun o ho hot=>hno ⟨o,ho,hot⟩
      obtain⟨j,hj⟩:=List.getElem?_of_mem hoj
      simp only[Array.getElem?_toList]at hj
      rcases(hlook j oj t hj hot).2 ht with⟨ed,hed,hbd,hon⟩|⟨ed,hed,hbd,hon⟩
      ·have hlt:=hbef ed hed hbd
       have hjl:=hdep ed hed hbd
       rw[hon]at hlt hjl
       rw[hedone j oj t hlt (by simpa using hj) hot]
       refine(hl j oj t hj ?_ hot).symm
       have hjs:j<listed.size:=by rw[hls];exact(Array.getElem?_eq_some_iff.1 hj).1
       simpa[Array.getD,hjs]using hjl
      ·have hlt:=(JJ hc hj).2.1 ed hed hbd
       rw[hon]at hlt
       have hone:∀(j':Nat) (oj':Oper),ops[j']? = some oj'→oj'.dst=some t→j'=j:=fun j' oj' hj' hot'=>
        Classical.byContradiction fun hne=>((JJ hc hj').2.2 j oj t hj hot).1 (Ne.symm hne) hot'
       have hju:¬listed.getD j true=true:=fun hjl=>by
        have h6:=hcl j oj hj hjl ed hed hbd
        rw[hon]at h6
        have hil:i<listed.size:=by omega
        simp only[Array.getD,hil,dif_pos]at h6 hun
        rw[h6]at hun;cases hun
       rw[hebase t (fun j' oj' hj'k hoj' hot'=>by have:=hone j' oj' (by simpa using hoj') hot';omega),hb t (fun j' oj' hoj' hjl hot'=>by have:=hone j' oj' hoj' hot';subst this;exact hju hjl)]
    have hops:∀x∈o.op.operands.toList,aev X e x=aev X cur x:=by
     intro x hx
     refine J3b fun t ht=>hlooks t ?_
     subst ht
     simp only[Oper.looksAt,List.mem_append,List.mem_filterMap]
     exact .inl ⟨_,hx,rfl⟩
    have hset0:∀k,(listed.setIfInBounds i true).getD k false=if k=i then true else listed.getD k false:=by
     intro k
     simp only[Array.getD_eq_getD_getElem?,Array.getElem?_setIfInBounds]
     by_cases hki:k=i
     ·subst hki;simp[hls,hin]
     ·rw[if_neg (Ne.symm hki),if_neg hki]
    have hget:∀k,listed.getD k false=true→listed.getD k true=true:=by
     intro k hk
     simp only[Array.getD_eq_getD_getElem?]at hk ⊢
     cases hq:listed[k]? with
     |none=>rw[hq]at hk;simp at hk
     |some b=>rw[hq]at hk;simpa using hk
    have hiu:¬listed.getD i false=true:=fun h=>by have:=hget i h;rw[hun]at this;cases this
    have hclP:∀k ok,ops[k]? = some ok→listed.getD k false=true→∀e∈ok.after,Region.binds .any e=true→listed.getD e.on false=true:=fun k ok hk hl=>hcl k ok hk (hget k hl)
    -- once the operation is done
    have next:∀(F':FH) (η':Et) (v:Value) (w':World) (m':Nat),m'≤ops.size→(∀q,es.contains q=true→q<ops.size→((listed.setIfInBounds i true).getD q false=true↔q<m'))→Step F η (sv m) w F' η' (sv m') w'→GRel X F'→Rel F' η' nt cur (sv m') a w'→VRel F' η' (sv m').next r v→
      wpAny X.P .any ops (Post X nt F0 η0 σ w0 Q) fuel (listed.setIfInBounds i true) (a.put o.dst v) w':=by
     intro F' η' v w' m' hm' hml' s1 g1 r1 hv
     have hset:∀k,(listed.setIfInBounds i true).getD k true=if k=i then true else listed.getD k true:=by
      intro k
      simp only[Array.getD_eq_getD_getElem?,Array.getElem?_setIfInBounds]
      by_cases hki:k=i
      ·subst hki;simp[hls,hin]
      ·rw[if_neg (Ne.symm hki),if_neg hki]
     have hfewer:((List.range ops.size).filter (fun k=>!(listed.setIfInBounds i true).getD k true)).length<((List.range ops.size).filter (fun k=>!listed.getD k true)).length:=by
      have hsub:(List.range ops.size).filter (fun k=>!(listed.setIfInBounds i true).getD k true)=((List.range ops.size).filter (fun k=>!listed.getD k true)).filter (fun k=>k != i):=by
       rw[List.filter_filter]
       refine List.filter_congr fun k _=>?_
       rw[hset k]
       by_cases hki:k=i
       ·simp[hki]
       ·simp[hki]
      rw[hsub]
      refine List.length_filter_lt_length_iff_exists.2 ⟨i,?_,by simp⟩
      simp only[List.mem_filter,List.mem_range,Bool.not_eq_true']
      exact⟨hin,hun⟩
     refine ih _ (put cur o.dst r) F' η' _ w' (by simp[hls]) ?_ (fun _ _ _=>trivial) (by omega) m' hm' hml' (hs.trans s1) g1 (r1.put hdst hv) ?_ ?_ ?_
     ·intro hf k hk
      subst hf
      rw[hset k]
      by_cases hki:k=i
      ·rw[if_pos hki]
      ·rw[if_neg hki]
       cases hck:listed.getD k true with
       |true=>rfl
       |false=>
        exfalso
        have hkm:k∈(List.range ops.size).filter (fun k=>!(listed.setIfInBounds i true).getD k true):=by
         simp only[List.mem_filter,List.mem_range,Bool.not_eq_true',hset k,if_neg hki]
         exact⟨hk,hck⟩
        have:=List.length_pos_of_mem hkm
        omega
     ·intro t ht
      have hne:=ht i o ho (by rw[hset i,if_pos rfl])
      have hb':=hb t (fun i' o' hi' hl'=>ht i' o' hi' (by rw[hset i'];split<;>first|rfl|exact hl'))
      cases hod:o.dst with
      |none=>exact hb'
      |some d=>simp only[put];rw[if_neg (by intro e;subst e;exact hne hod)];exact hb'
     ·intro k ok hk hkl e he hbe
      have hold:listed.getD e.on false=true:=by
       by_cases hki:k=i
       ·subst hki
        rw[ho]at hk
        cases hk
        exact hdep e he hbe
       ·rw[hset k,if_neg hki]at hkl
        exact hcl k ok hk hkl e he hbe
      simp only[Array.getD_eq_getD_getElem?,Array.getElem?_setIfInBounds]at hold ⊢
      by_cases hei:i=e.on
      ·subst hei;simp[hls,hin]
      ·rw[if_neg hei];exact hold
     ·intro k ok t hk hkl hkt
      by_cases hki:k=i
      ·subst hki
       rw[ho]at hk
       simp only[Option.some.injEq]at hk
       subst hk
       rw[hkt]
       simp only[put,if_true]
       exact(hEr t hkt).symm
      ·rw[hset k,if_neg hki]at hkl
       have hne:o.dst≠some t:=((JJ hc ho).2.2 k ok t hk hkt).1 hki
       have:put cur o.dst r t=cur t:=by
        cases hod:o.dst with
        |none=>rfl
        |some d=>simp only[put];rw[if_neg (by intro e;subst e;exact hne hod)]
       rw[this]
       exact hl k ok t hk hkl hkt
    unfold wpOp
    simp only[ho]
    cases hes:es.contains i with
    |false=>
     have hml2:∀q,es.contains q=true→q<ops.size→((listed.setIfInBounds i true).getD q false=true↔q<m):=by
      intro q hq hqs
      have hqi:q≠i:=fun h=>by subst h;rw[hes]at hq;cases hq
      rw[hset0 q,if_neg hqi]
      exact hml q hq hqs
     have hmT:∀j,T j→(sv m).obj j=σ.obj j:=by
      rcases Nat.lt_or_ge m ops.size with h|h
      ·exact hsvT m (by simpa using h)
      ·have hme:m=ops.size:=by omega
       cases hlast:es.contains (ops.size-1)with
       |false=>
        have h1:=hsvk (ops.size-1) (by simp;omega) (by simpa using hlast)
        rw[show ops.size-1+1=m by omega]at h1
        rw[h1]
        exact hsvT _ (by simp;omega)
       |true=>
        exfalso
        have hli:=(hml (ops.size-1) hlast (by omega)).2 (by omega)
        rcases Nat.lt_or_ge i (ops.size-1)with h2|h2
        ·exact hiu (J0T (P:=fun k=>listed.getD k false=true) hclP _ _ i (J2W hc hlast h2) hli)
        ·have:i=ops.size-1:=by omega
         rw[←this]at hli;exact hiu hli
     have hag:∀j,T j→(sv m).obj j=(sv i).obj j:=fun j hj=>by rw[hmT j hj,hsvT i (by simpa using hin) j hj]
     have done:(aoper X o.op cur (sv m) (fun _ _ _=>False) fun v σ'=>σ'=sv m∧v=r)→o.wp X.P a w (wpAny X.P .any ops (Post X nt F0 η0 σ w0 Q) fuel (listed.setIfInBounds i true)) (Post X nt F0 η0 σ w0 Q):=by
      intro hop
      refine J0Y hg hr hdst hop ?_ ?_
      ·rintro F' η' x v σ' w' s1 g1 r1 hv ⟨rfl,rfl⟩
       exact next F' η' v w' m hmle hml2 s1 g1 r1 hv
      ·intro ch F' η' σ' w' _ _ _ hf
       exact hf.elim
     have skip:r=.d (.s undef)→wpAny X.P .any ops (Post X nt F0 η0 σ w0 Q) fuel (listed.setIfInBounds i true) (a.put o.dst undef) w:=by
      intro hru
      exact next F η undef w m hmle hml2 (.refl _ _ _ _) hg hr (by rw[hru];exact .d (.s _))
     obtain⟨_,hat'⟩:=hatp hes
     cases hgd:o.guard with
     |none=>
      simp only[hgd]at hat'
      rw[if_pos (by simp[Region.wanted,hgd])]
      exact .inl (done (J0h hpl hops (hat' (sv m) hag)))
     |some jw=>
      obtain⟨j,want⟩:=jw
      simp only[hgd]at hat'
      obtain⟨d,hjd,hdn,hat'⟩:=hat'
      have hed:e d=cur d:=hlooks d (by simp only[Oper.looksAt,hgd,hjd,List.mem_append];right;simp)
      rw[hed]at hat'
      rcases hat' with⟨h1,h2⟩|⟨h1,h2⟩|⟨h1,h2⟩
      ·obtain⟨hy1,hy2⟩:=JS hr hjd hdn h1
       have hy:yielded ops a.tmps j=some want:=by unfold yielded;rw[hy1,Option.bind_some,hy2]
       rw[if_pos (by simp[Region.wanted,hgd,hy])]
       exact .inl (done (J0h hpl hops (h2 (sv m) hag)))
      ·obtain⟨hy1,hy2⟩:=JS hr hjd hdn h1
       have hy:yielded ops a.tmps j=some (!want):=by unfold yielded;rw[hy1,Option.bind_some,hy2]
       rw[if_neg (by simp[Region.wanted,hgd,hy])]
       exact skip h2
      ·obtain⟨hy1,hy2⟩:=JS hr hjd hdn h1
       have hy:yielded ops a.tmps j=none:=by unfold yielded;rw[hy1,Option.bind_some,hy2];rfl
       rw[if_neg (by simp[Region.wanted,hgd,hy])]
       exact skip h2
    |true=>
     obtain⟨hgd,hop⟩:=hate hes
     have hmi:m≤i:=by
      rcases Nat.lt_or_ge i m with h|h
      ·exact absurd ((hml i hes hin).2 h) hiu
      ·exact h
     have hbefore:∀q,es.contains q=true→q<i→q<m:=by
      intro q hq hqi
      refine(hml q hq (by omega)).1 ?_
      exact J3s (P:=fun k=>listed.getD k false=true) hclP ho hdep _ q (J2g hc hes hq hqi)
     have hsvm:sv m=sv i:=by
      refine(hsvle m i hmi (by omega) fun q h1 h2=>?_).symm
      cases hqe:es.contains q with
      |false=>rfl
      |true=>have:=hbefore q hqe h2;omega
     have hml2:∀q,es.contains q=true→q<ops.size→((listed.setIfInBounds i true).getD q false=true↔q<i+1):=by
      intro q hq hqs
      rw[hset0 q]
      by_cases hqi:q=i
      ·subst hqi;simp
      ·rw[if_neg hqi,hml q hq hqs]
       constructor
       ·intro h;omega
       ·intro h;exact hbefore q hq (by omega)
     rw[if_pos (by simp[Region.wanted,hgd])]
     refine .inl (J0Y hg hr hdst (by rw[hsvm];exact J0h hpl hops hop) ?_ ?_)
     ·rintro F' η' x v σ' w' s1 g1 r1 hv ⟨rfl,rfl⟩
      exact next F' η' v w' (i+1) (by omega) hml2 s1 g1 r1 hv
     ·intro ch F' η' σ' w' _ _ _ hf
      exact hf.elim
 refine key ops.size _ env F0 η0 a0 _ (by simp) ?_ (fun _ _ _=>trivial) ?_ 0 (Nat.zero_le _) ?_ (by rw[hsv0];exact Step.drew) hg0 (by rw[hsv0];exact⟨hr0.fr.drew,hr0.st.drew,hr0.en,hr0.sz,hr0.df⟩) (fun _ _=>rfl) ?_ ?_
 ·intro h0 i hi;omega
 ·exact Nat.le_trans (List.length_filter_le _ _) (by simp)
 ·intro q _ hq
  simp[Array.getD,hq]
 ·intro i o hi hl
  have his:=(Array.getElem?_eq_some_iff.1 hi).1
  simp[Array.getD,his]at hl
 ·intro i o t hi hl
  have his:=(Array.getElem?_eq_some_iff.1 hi).1
  simp[Array.getD,his]at hl
end Go.Pm
