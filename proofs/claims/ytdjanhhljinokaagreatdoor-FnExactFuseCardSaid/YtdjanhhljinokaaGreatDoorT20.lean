/- Part of the proof: Fu3. -/
import Derived.Test.YtdjanhhljinokaaGreatDoorT18
import Derived.Test.YtdjanhhljinokaaGreatDoorT13
import Derived.Test.YtdjanhhljinokaaGreatDoorT19
import Derived.Test.YtdjanhhljinokaaGreatDoorT16
set_option linter.unusedVariables false
set_option linter.unusedSimpArgs false
namespace Go.Pm
attribute [local irreducible] AR Ok inBlock andThen endQ aoper
set_option maxHeartbeats 2000000
open Go.Proofs
def dcell (k:Nat) (m:Mb):List AV:=(eSm m.s).map .d++[.d (.im ((fuF k (tmL m.ys)).map eBrP)),.d (.im ((fuF k (tmL m.ns)).map eBrP))]
structure FuA where
 i:Nat
 O:Option (Nat×Nat)
 o:List Mb
def FuAI (l:List Mb) (R:Option (Nat×Nat)) (x:FuA) (σ:St):Prop:=
 x.i≤l.length∧hoL 131 σ (x.o++l.drop x.i)∧(rwO R++(rwO x.O++fpL (x.o++l.drop x.i))).Nodup∧rowO σ R 131 1 (l.map mrf)∧rowO σ x.O 131 1 (x.o.map mrf)∧fm (tmL (x.o++l.drop x.i))=fm (tmL l)∧plT (tmL x.o)∧(∀j o,σ.obj j=some o→j<σ.next)∧brsN (tmL (x.o++l.drop x.i))≤brsN (tmL l)
def FuK (k:Nat) (l:List Mb) (E:AEnd) (σ:St):Prop:=∃O o,E=.ret (slO O o.length)∧rowO σ O 131 1 (o.map mrf)∧(∀m∈o,σ.obj m.a=some (.var (dcell k m)))∧fm (tmL o)=fm (tmL l)∧plT (tmL o)
theorem Jao {σ:St} {O:Option (Nat×Nat)} {E:Nat} {o:List Mb} {f:Mb→Br} (ho:rowO σ O E 1 (o.map mrf)) (h:∀m∈o,Fz σ (.ref m.a 0) (.ip (eBr (f m)) 0)):Fz σ (slO O o.length) (.im ((o.map f).map eBrP)):=by
 cases O with
 |none=>
  have ho:o.map mrf=[]:=ho
  have:o=[]:=by simpa using ho
  subst this;exact .nil
 |some p=>
  have ho:σ.obj p.1=_:=ho
  refine .sl (drows:=(o.map f).map eBrP) ho (by simp) (fun k h1 h2=>by simp[eBrP,mrf]) (fun k h1 h2 j h3 h4=>?_) (by simp) (by rw[Nat.sub_zero,List.drop_zero,List.take_of_length_le (by simp)])
  have:j=0:=by simp[mrf]at h3;omega
  subst this
  have hk:k<o.length:=by simpa using h1
  have:=h o[k] (List.getElem_mem hk)
  simpa[mrf,eBrP]using this
theorem JbE {k:Nat} {l:List Mb} {E:AEnd} {σ:St} (h:FuK k l E σ):∃r,E=.ret r∧AFz σ r (.d (.im ((fuF (k+1) (tmL l)).map eBrP))):=by
 obtain⟨O,o,rfl,hr,hd,hf,hp⟩:=h
 refine⟨_,rfl,.data ?_⟩
 have e:fuF (k+1) (tmL l)=o.map fun m=>.nd m.s (fuF k (tmL m.ys)) (fuF k (tmL m.ns)):=by
  simp only[fuF]
  rw[←hf,Jaa _ hp,J0n,List.map_map]
  refine List.map_congr_left fun m _=>?_
  cases m;rfl
 rw[e]
 refine Jao hr fun m hm=>?_
 have key:FzL σ (dcell k m) (eBr (.nd m.s (fuF k (tmL m.ys)) (fuF k (tmL m.ns)))):=by
  have:eBr (.nd m.s (fuF k (tmL m.ys)) (fuF k (tmL m.ns)))=eSm m.s++[.im ((fuF k (tmL m.ys)).map eBrP),.im ((fuF k (tmL m.ns)).map eBrP)]:=by simp only[eBr,J1s];rfl
  rw[this]
  exact J9H (eSm m.s) ⟨.d _,.d _,trivial⟩
 exact .ref (hd m hm) key.get.1 key.get.2
theorem ret1e {X:Cfg} {env:Env} {σ:St} {t:Nat} {K:AEnd→St→Prop} (h:K (.ret (env t)) σ):endQ X #[.tmp t].toList K .ret env σ:=by unfold endQ;exact h
theorem J3c (m:Mb):fpB m=m.a::(rwO m.Y++(fpL m.ys++(rwO m.N++fpL m.ns))):=by cases m;rfl
theorem J7g {E:Nat} {σ:St} {m:Mb}:hoB E σ m↔σ.obj m.a=some (.var (mcell m))∧rowO σ m.Y E 1 (m.ys.map mrf)∧rowO σ m.N E 1 (m.ns.map mrf)∧hoL E σ m.ys∧hoL E σ m.ns:=by cases m;rfl
theorem J7F (m:Mb):brN (tmB m)=1+brsN (tmL m.ys)+brsN (tmL m.ns):=by cases m;simp only[tmB,brN,Mb.ys,Mb.ns]
theorem J9Q {o:List Mb} {j:Nat} {b:Mb} (h:o[j]? = some b):brN (tmB b)≤brsN (tmL o):=by
 rw[J0n]
 exact J1t (List.mem_map.2 ⟨b,List.mem_of_getElem? h,rfl⟩)
theorem J9F {m:Mb}:∀{l:List Mb},m∈l→∀j∈fpB m,j∈fpL l
 |x::l,h,j,hj=>by
  simp only[fpL,List.mem_append]
  rcases List.mem_cons.1 h with rfl|h
  ·exact .inl hj
  ·exact .inr (J9F h j hj)
theorem Jcl (m:Mb):m.a∈fpB m:=by rw[J3c];exact List.mem_cons_self
def FuBI (k:Nat) (O:Option (Nat×Nat)) (o:List Mb) (j:Nat) (σ:St):Prop:=j≤o.length∧(∀m∈o.take j,σ.obj m.a=some (.var (dcell k m)))∧hoL 131 σ (o.drop j)∧rowO σ O 131 1 (o.map mrf)
def inL (l:List Nat) (j:Nat):Bool:=l.contains j
theorem J2a {l:List Nat} {j:Nat}:inL l j=false↔j∉l:=by simp[inL]
theorem J01 {x:Nat} {l:List Nat} (h:x∈l):1≤List.count x l:=List.count_pos_iff.2 h
theorem J08 {x:Nat} {l:List Nat} (h:List.count x l=0):x∉l:=List.count_eq_zero.1 h
set_option maxHeartbeats 8000000 in
theorem Jc1 (k:Nat) (ih:∀m,m<k→∀(l:List Mb),brsN (tmL l)≤m→brsN (tmL l)≤1048576→∀(σ:St) (R:Option (Nat×Nat)),hoL 131 σ l→(rwO R++fpL l).Nodup→rowO σ R 131 1 (l.map mrf)→AFun X 43 [slO R l.length] σ fun E _=>E=.ret (.d (.im ((fuF (m+1) (tmL l)).map eBrP))))
  (l:List Mb) (hk:brsN (tmL l)≤k) (hl:brsN (tmL l)≤1048576) (σ:St) (R:Option (Nat×Nat)) (hwf:∀i o,σ.obj i=some o→i<σ.next) (ho:hoL 131 σ l) (hnd:(rwO R++fpL l).Nodup) (hR:rowO σ R 131 1 (l.map mrf)):AFun X 43 [slO R l.length] σ (FuK k l):=by
 have hlen0:R=none→l.length=0:=fun e=>by have:=J70 hR e;simpa using this
 have hlen:l.length≤1048576:=by have:=J0j (tmL l);rw[J0n,List.length_map]at this;rw[←J0n]at this;omega
 refine Jx Tryz.func43 rfl (by decide) Tryz.ntmps43 Tryz.results43 (by simp) ?_
 repeat' first|refine Z1 ?_|refine Z2 ?_|refine Z5 ?_|refine Ymv (r:=slO R l.length) ?_|refine Yxo hlen0 ?_|refine Zo ?_|refine J5 ?_|refine J4 ?_
 refine J24 (ι:=FuA) (fun x=>envL [(3,slO x.O x.o.length),(9,slO R l.length),(10,vi l.length),(11,vi x.i)]) (FuAI l R) (fun x=>l.length-x.i) ⟨0,none,[]⟩ ⟨Nat.zero_le _,ho,hnd,hR,rfl,rfl,trivial,hwf,Nat.le_refl _⟩ (Js ⟨.refl _,.refl _,.refl _,.refl _,trivial⟩) ?_
 clear hwf ho hnd hR
 clear σ
 rintro⟨i,O,o⟩ σ ⟨i1,i2,i3,i4,i5,i6,i7,i8,i9⟩
 simp only at i1 i2 i3 i4 i5 i6 i7 i8 i9
 dsimp only
 have hO0:O=none→o.length=0:=fun e=>by have:=J70 i5 e;simpa using this
 rcases hx:l[i]? with _|b
 ·have hle:=Jk hx
  have ek:decide ((i:Int)<(l.length:Int))=false:=J1 (by omega)
  rw[Jm hx,List.append_nil]at i2 i3 i6 i9
  have hol:o.length≤1048576:=by have:=J0j (tmL o);rw[J0n,List.length_map]at this;rw[←J0n]at this;omega
  repeat' first|refine Z1 ?_|refine Z2 ?_|refine Z5 ?_|refine Ymv (r:=slO O o.length) ?_|refine Yxo hO0 ?_|refine Zo ?_|refine J5 ?_|refine Zq ?_|refine J4 ?_|refine Jf ?_|refine J3 ?_|refine Jb ?_|refine Zv ?_
  refine J24 (ι:=Nat) (fun j=>envL [(3,slO O o.length),(80,slO O o.length),(81,vi o.length),(82,vi j)]) (FuBI k O o) (fun j=>o.length-j) 0 ⟨Nat.zero_le _,fun m hm=>(by simp at hm),i2,i5⟩ (Js ⟨.refl _,.refl _,.refl _,.refl _,trivial⟩) ?_
  have hn3:(rwO O++fpL o).Nodup:=(List.nodup_append.1 i3).2.1
  clear i2 i5 i4 i8 i3
  clear σ
  rintro j σ ⟨j1,j2,j3,j4⟩
  rcases hy:o[j]? with _|b
  ·have hle2:=Jk hy
   have ej:decide ((j:Int)<(o.length:Int))=false:=J1 (by omega)
   rw[List.take_of_length_le hle2]at j2
   repeat' first|refine Z1 ?_|refine Z2 ?_|refine Z5 ?_|refine Ymv (r:=slO O o.length) ?_|refine Yas (r:=slO O o.length) ?_|refine ret1e ?_|refine Zo ?_|refine J5 ?_|refine Zq ?_|refine Jf ?_|refine J9 ?_|refine J3 ?_|refine Jb ?_|refine Zv ?_
   exact⟨O,o,rfl,j4,j2,i6,i7⟩
  ·obtain⟨hdr,hlt⟩:=Jc hy
   have ej:decide ((j:Int)<(o.length:Int))=true:=J0 (by omega)
   rw[hdr]at j3
   obtain⟨h1,h2⟩:=j3
   obtain⟨b1,b2,b3,b4,b5⟩:=J7g.1 h1
   have hbn:=J9Q hy
   rw[J7F]at hbn
   obtain⟨p,rfl⟩:∃p,O=some p:=by
    cases O with
    |none=>have:=hO0 rfl;omega
    |some p=>exact⟨p,rfl⟩
   have j4:σ.obj p.1=some (.row p.2 131 1 (o.map mrf)):=j4
   have hget:(o.map mrf)[j]? = some (mrf b):=by rw[List.getElem?_map,hy];rfl
   -- the parts lie apart
   have hsp:fpL o=fpL (o.take j)++(fpB b++fpL (o.drop (j+1))):=by
    have:=J1g (o.take j) (o.drop j)
    rw[List.take_append_drop,hdr]at this
    exact this
   rw[hsp,J3c]at hn3
   have hc:∀x,List.count x (rwO (some p))+(List.count x (fpL (o.take j))+((List.count x (rwO b.Y)+(List.count x (fpL b.ys)+(List.count x (rwO b.N)+List.count x (fpL b.ns))))+(if b.a == x then 1 else 0)+List.count x (fpL (o.drop (j+1)))))≤1:=by
    intro x
    have:=List.nodup_iff_count.1 hn3 x
    simpa only[List.count_append,List.count_cons]using this
   repeat' first|refine Z1 ?_|refine Z2 ?_|refine Z5 ?_|refine Yi1 (n:=(j:Int)) (hi:=o.length) j j4 rfl hlt ?_|refine Ye1 j4 hget ?_|refine Ju ?_|refine Yr b1 (r:=slO b.Y b.ys.length) ?_|refine Zo ?_|refine J5 ?_|refine Zp ?_|refine J4 ?_|refine J7 ?_|refine J3 ?_
   have hk1:1≤k:=by omega
   have sep:∀x,1≤List.count x (rwO (some p))+List.count x (fpL (o.take j))+List.count x (fpL (o.drop (j+1)))→x≠b.a∧inL (rwO b.Y++fpL b.ys) x=false∧inL (rwO b.N++fpL b.ns) x=false:=by
    intro x h
    have:=hc x
    refine⟨fun e=>?_,J2a.2 (J08 ?_),J2a.2 (J08 ?_)⟩
    ·subst e;rw[if_pos (by simp)]at this;omega
    ·rw[List.count_append];omega
    ·rw[List.count_append];omega
   have sa1:inL (rwO b.Y++fpL b.ys) b.a=false:=J2a.2 (J08 (by have:=hc b.a;rw[if_pos (by simp)]at this;rw[List.count_append];omega))
   have sa2:inL (rwO b.N++fpL b.ns) b.a=false:=J2a.2 (J08 (by have:=hc b.a;rw[if_pos (by simp)]at this;rw[List.count_append];omega))
   have syn:∀x∈rwO b.N++fpL b.ns,inL (rwO b.Y++fpL b.ys) x=false∧x≠b.a:=by
    intro x hxm
    have h1:=J01 hxm
    have:=hc x
    rw[List.count_append]at h1
    refine⟨J2a.2 (J08 (by rw[List.count_append];omega)),fun e=>?_⟩
    subst e;rw[if_pos (by simp)]at this;omega
   have nd1:(rwO b.Y++fpL b.ys).Nodup:=List.nodup_iff_count.2 fun x=>by have:=hc x;rw[List.count_append];omega
   have nd2:(rwO b.N++fpL b.ns).Nodup:=List.nodup_iff_count.2 fun x=>by have:=hc x;rw[List.count_append];omega
   have yes:=AFun.eat (σ:=σ) (inL (rwO b.Y++fpL b.ys)) rfl (ih (k-1) (by omega) b.ys (by omega) (by omega) (σ.only _) b.Y (J05 b.ys (fun x hx=>St.only_at (by simp[inL,hx])) b4) nd1 (J0b b2 fun x hx=>St.only_at (by simp[inL,hx])))
   rw[show k-1+1=k by omega]at yes
   refine Ym yes ?_
   repeat' first|refine Z1 ?_|refine Z2 ?_|refine Z5 ?_|refine Ju ?_|refine Yt (m:=(eSm b.s).map .d++[.d (.im ((fuF k (tmL b.ys)).map eBrP)),slO b.N b.ns.length]) (show(σ.less (inL (rwO b.Y++fpL b.ys))).obj b.a=some (.var (mcell b)) by rw[St.less_at sa1];exact b1) ?_|refine Jd ?_
   generalize hσ1:(σ.less (inL (rwO b.Y++fpL b.ys))).set b.a (.var ((eSm b.s).map .d++[.d (.im ((fuF k (tmL b.ys)).map eBrP)),slO b.N b.ns.length]))=σ1
   have o1:σ1.obj b.a=some (.var ((eSm b.s).map .d++[.d (.im ((fuF k (tmL b.ys)).map eBrP)),slO b.N b.ns.length])):=by rw[←hσ1,St.obj_set,if_pos rfl]
   have o2:∀x,x≠b.a→inL (rwO b.Y++fpL b.ys) x=false→σ1.obj x=σ.obj x:=fun x h1 h2=>by rw[←hσ1,St.obj_set,if_neg h1,St.less_at h2]
   repeat' first|refine Z5 ?_|refine Yr o1 (r:=slO b.N b.ns.length) ?_
   have no:=AFun.eat (σ:=σ1) (inL (rwO b.N++fpL b.ns)) rfl (ih (k-1) (by omega) b.ns (by omega) (by omega) (σ1.only _) b.N (J05 b.ns (fun x hx=>by rw[St.only_at (by simp[inL,hx])];exact o2 x (syn x (by simp[hx])).2 (syn x (by simp[hx])).1) b5) nd2 (J0b b3 fun x hx=>by rw[St.only_at (by simp[inL,hx])];exact o2 x (syn x (by simp[hx])).2 (syn x (by simp[hx])).1))
   rw[show k-1+1=k by omega]at no
   refine Ym no ?_
   repeat' first|refine Z1 ?_|refine Z2 ?_|refine Z3 ?_|refine Z5 ?_|refine Ju ?_|refine Yt (m:=dcell k b) (show(σ1.less (inL (rwO b.N++fpL b.ns))).obj b.a=_ by rw[St.less_at sa2];exact o1) ?_|refine Zf ?_|refine Jd ?_|refine J3 ?_|refine J6 ?_
   generalize hσ2:(σ1.less (inL (rwO b.N++fpL b.ns))).set b.a (.var (dcell k b))=σ2
   have o3:σ2.obj b.a=some (.var (dcell k b)):=by rw[←hσ2,St.obj_set,if_pos rfl]
   have o4:∀x,1≤List.count x (rwO (some p))+List.count x (fpL (o.take j))+List.count x (fpL (o.drop (j+1)))→σ2.obj x=σ.obj x:=fun x h=>by
    obtain⟨q1,q2,q3⟩:=sep x h
    rw[←hσ2,St.obj_set,if_neg q1,St.less_at q3]
    exact o2 x q1 q2
   refine⟨j+1,⟨hlt,fun m hm=>?_,?_,?_⟩,by omega,Js ⟨.refl _,.refl _,.refl _,.refl _,trivial⟩⟩
   ·rw[J03 hy]at hm
    rcases List.mem_append.1 hm with q|q
    ·rw[o4 m.a (by have:=J01 (J9F q _ (Jcl m));omega)];exact j2 m q
    ·simp only[List.mem_singleton]at q;subst q;exact o3
   ·exact J05 _ (fun x hx=>o4 x (by have:=J01 hx;omega)) h2
   ·show σ2.obj p.1=_
    rw[o4 p.1 (by have:=J01 (show p.1∈rwO (some p) by simp[rwO]);omega)];exact j4
 obtain⟨hdr,hlt⟩:=Jc hx
 have ek:decide ((i:Int)<(l.length:Int))=true:=J0 (by omega)
 obtain⟨p,rfl⟩:∃p,R=some p:=by
  cases R with
  |none=>have:=hlen0 rfl;omega
  |some p=>exact⟨p,rfl⟩
 have r4:σ.obj p.1=some (.row p.2 131 1 (l.map mrf)):=i4
 have hget:(l.map mrf)[i]? = some (mrf b):=by rw[List.getElem?_map,hx];rfl
 rw[hdr]at i2 i3 i6 i9
 have hol:o.length≤1048576:=by
  have:=J0j (tmL (o++b::l.drop (i+1)))
  rw[J0n,List.length_map,List.length_append]at this;rw[←J0n]at this;omega
 obtain⟨g1,g2⟩:=J22.1 i2
 obtain⟨h1,h2⟩:=g2
 obtain⟨b1,b2,b3,b4,b5⟩:=J7g.1 h1
 have hcn:∀x,List.count x (rwO (some p))+(List.count x (rwO O)+(List.count x (fpL o)+((List.count x (rwO b.Y)+(List.count x (fpL b.ys)+(List.count x (rwO b.N)+List.count x (fpL b.ns))))+(if b.a == x then 1 else 0)+List.count x (fpL (l.drop (i+1))))))≤1:=by
  intro x
  have:=List.nodup_iff_count.1 i3 x
  rw[J1g]at this
  simpa only[List.count_append,List.count_cons,fpL,J3c]using this
 have hltj:∀x,x∈rwO (some p)∨x∈rwO O∨x∈fpL (o++b::l.drop (i+1))→x<σ.next:=by
  intro x h
  rcases h with h|h|h
  ·obtain⟨y,hy⟩:=J11 i4 x h;exact i8 x y hy
  ·obtain⟨y,hy⟩:=J11 i5 x h;exact i8 x y hy
  ·obtain⟨y,hy⟩:=J3N _ i2 x h;exact i8 x y hy
 -- the node is put behind the others
 have hput:∀(hp:plT (tmL (o++[b]))) (O':Option (Nat×Nat)) (σ':St),O'=some (apI (σ.alloc (.row σ.next 131 1 [mrf b])) O,σ.next+1)→σ'=apS (σ.alloc (.row σ.next 131 1 [mrf b])) O (.row (σ.next+1) 131 1 (o.map mrf++[mrf b]))→FuAI l (some p) ⟨i+1,O',o++[b]⟩ σ':=by
  rintro hp O' σ' rfl rfl
  have hI:apI (σ.alloc (.row σ.next 131 1 [mrf b])) O=σ.next+1∧O=none∨apI (σ.alloc (.row σ.next 131 1 [mrf b])) O∈rwO O∧∀x,x∈rwO O↔x=apI (σ.alloc (.row σ.next 131 1 [mrf b])) O:=by
   cases O with
   |none=>exact .inl ⟨rfl,rfl⟩
   |some q=>exact .inr ⟨by simp[rwO,apI],by simp[rwO,apI]⟩
  have same:∀x,x<σ.next→x∉rwO O→(apS (σ.alloc (.row σ.next 131 1 [mrf b])) O (.row (σ.next+1) 131 1 (o.map mrf++[mrf b]))).obj x=σ.obj x:=by
   intro x hx1 hx2
   rw[J0o,St.obj_alloc,if_neg (by omega)]
   rcases hI with⟨e,_⟩|⟨e,e2⟩
   ·omega
   ·intro e3;subst e3;exact hx2 e
  have fpin:∀x,x∈fpL (o++b::l.drop (i+1))→x∉rwO O:=by
   intro x h1 h2
   have:=hcn x
   have a1:=J01 h1
   have a2:=J01 h2
   rw[J1g]at a1
   simp only[List.count_append,List.count_cons,fpL,J3c]at a1
   omega
  refine⟨hlt,?_,?_,?_,?_,?_,hp,?_,?_⟩
  ·rw[List.append_assoc]
   exact J05 _ (fun x hx=>same x (hltj x (.inr (.inr hx))) (fpin x hx)) i2
  ·rw[List.append_assoc]
   refine List.nodup_iff_count.2 fun x=>?_
   have hA:=List.nodup_iff_count.1 i3 x
   simp only[List.count_append,List.singleton_append]at hA ⊢
   rcases hI with⟨e,e2⟩|⟨e,e2⟩
   ·rw[e]
    by_cases ex:x=σ.next+1
    ·subst ex
     have z:∀L:List Nat,(∀y∈L,y<σ.next)→List.count (σ.next+1) L=0:=fun L hL=>List.count_eq_zero.2 fun hm=>by have:=hL _ hm;omega
     rw[z _ fun y hy=>hltj y (.inl hy),z _ fun y hy=>hltj y (.inr (.inr hy))]
     simp[rwO]
    ·have:List.count x (rwO (some (σ.next+1,σ.next+1)))=0:=List.count_eq_zero.2 (by simp[rwO,ex])
     omega
   ·have:List.count x (rwO (some (apI (σ.alloc (.row σ.next 131 1 [mrf b])) O,σ.next+1)))≤List.count x (rwO O):=by
     by_cases ex:x=apI (σ.alloc (.row σ.next 131 1 [mrf b])) O
     ·have a1:=J01 ((e2 x).2 ex)
      have a2:List.count x (rwO (some (apI (σ.alloc (.row σ.next 131 1 [mrf b])) O,σ.next+1)))≤1:=by simp only[rwO];exact List.count_le_length
      omega
     ·rw[List.count_eq_zero.2 (show x∉rwO (some (apI (σ.alloc (.row σ.next 131 1 [mrf b])) O,σ.next+1)) by simp[rwO,ex])];omega
    omega
  ·show _=_
   rw[same p.1 (hltj _ (.inl (by simp[rwO]))) fun hm=>?_]
   ·exact r4
   ·have:=hcn p.1
    have a1:=J01 hm
    have a2:=J01 (show p.1∈rwO (some p) by simp[rwO])
    omega
  ·show _=_
   rw[J2L]
   simp
  ·rw[List.append_assoc];exact i6
  ·intro x y hxy
   rw[J1O]
   show x<σ.next+1+1
   by_cases e:x=apI (σ.alloc (.row σ.next 131 1 [mrf b])) O
   ·rcases hI with⟨e2,_⟩|⟨e2,_⟩
    ·omega
    ·have:=hltj _ (.inr (.inl e2));omega
   ·rw[J0o e,St.obj_alloc]at hxy
    by_cases e3:x=σ.next
    ·omega
    ·rw[if_neg e3]at hxy;have:=i8 x y hxy;omega
  ·rw[List.append_assoc];exact i9
 have hrO:rowO (σ.alloc (.row σ.next 131 1 [mrf b])) O 131 1 (o.map mrf):=J0b i5 fun x hx=>by have:=hltj x (.inr (.inl hx));rw[St.obj_alloc,if_neg (by omega)]
 have hsrc:srcOf (.slice 131) 1 (σ.alloc (.row σ.next 131 1 [mrf b])) (.sl σ.next σ.next 0 1)=some [mrf b]:=by simp[srcOf,rowsOf,St.alloc]
 have hm1:(o.map mrf).length+[mrf b].length=(o++[b]).length:=by simp
 have hl1:∀r∈[mrf b],r.length=1:=fun r hr=>by simp only[List.mem_singleton]at hr;subst hr;rfl
 by_cases h4:b.s.kind=4
 ·have d4:decide (b.s.kind=4)=true:=J0 h4
  rcases List.eq_nil_or_concat o with rfl|⟨o',a,hoa⟩
  ·have e0:decide ((0:Int)<(([]:List Mb).length:Int))=false:=rfl
   repeat' first|refine Z1 ?_|refine Z2 ?_|refine Z3 ?_|refine Z5 ?_|refine Z7 ?_|refine Ymv (r:=slO O ([]:List Mb).length) ?_|refine Yxo hO0 ?_|refine Yi1 (n:=(i:Int)) (hi:=l.length) i r4 rfl hlt ?_|refine Ye1 r4 hget ?_|refine Ju ?_|refine Ys b1 ?_|refine Yw (sz:=1) (rows:=[mrf b]) ?_|refine Yap (O:=O) (rows:=([]:List Mb).map mrf) (rows2:=[mrf b]) (m:=([]++[b]).length) hrO hsrc hl1 hm1 (by simp) ?_|refine Zf ?_|refine Zh ?_|refine Zl ?_|refine Zo ?_|refine J5 ?_|refine Jd ?_|refine Zp ?_|refine Zq ?_|refine J4 ?_|refine J7 ?_|refine J3 ?_|refine J6 ?_
   refine⟨⟨i+1,_,_⟩,hput ⟨fun _ _ e=>(by cases e),trivial⟩ _ _ rfl rfl,by show l.length-(i+1)<l.length-i;omega,Js ⟨.refl _,.refl _,.refl _,.refl _,trivial⟩⟩
  ·obtain rfl:o=o'++[a]:=by rw[hoa];try simp
   have hq0:¬O=none:=fun e=>by have:=hO0 e;simp at this
   obtain⟨q,rfl⟩:∃q,O=some q:=by
    cases O with
    |none=>exact absurd rfl hq0
    |some q=>exact⟨q,rfl⟩
   have r5:σ.obj q.1=some (.row q.2 131 1 ((o'++[a]).map mrf)):=i5
   have hga:((o'++[a]).map mrf)[o'.length]? = some (mrf a):=by simp
   obtain⟨ho',ha⟩:=J22.1 g1
   obtain⟨a1,a2,a3,a4,a5⟩:=J7g.1 ha.1
   have e0:decide ((0:Int)<((o'++[a]).length:Int))=true:=J0 (by simp only[List.length_append,List.length_singleton];omega)
   repeat' first|refine Z1 ?_|refine Z2 ?_|refine Z5 ?_|refine Z7 ?_|refine Ymv (r:=slO (some q) (o'++[a]).length) ?_|refine Yxo hO0 ?_|refine Yi1 (n:=(i:Int)) (hi:=l.length) i r4 rfl hlt ?_|refine Ye1 r4 hget ?_|refine Ju ?_|refine Ys b1 ?_|refine Yi1 (n:=((o'++[a]).length:Int)-1) (hi:=(o'++[a]).length) o'.length r5 (by simp only[List.length_append,List.length_singleton];omega) (by simp) ?_|refine Ye1 r5 hga ?_|refine Zg ?_|refine Zh ?_|refine Zl ?_|refine Zo ?_|refine J5 ?_|refine Zp ?_|refine J4 ?_|refine J7 ?_|refine J3 ?_
   by_cases hpr:a.s.kind=4∧a.s.name=b.s.name
   ·have dA:decide (a.s.kind=4)=true:=J0 hpr.1
    have dN:decide (a.s.name=b.s.name)=true:=J0 hpr.2
    refine J17 (fun s=>s=_) [] Jr (by decide +kernel) rfl ?_
    repeat' first|refine Vx ?_|refine Vz (Ju ⟨rfl,rfl⟩) ?_|refine Vz (Ys a1 ⟨rfl,rfl⟩) ?_|refine Vz (Zh ⟨rfl,rfl⟩) ?_|refine Vz (Zi ⟨rfl,rfl⟩) ?_|refine Vz (Zl ⟨rfl,rfl⟩) ?_|refine Vga (Ju ⟨rfl,rfl⟩) ?_|refine Vga (Ys a1 ⟨rfl,rfl⟩) ?_|refine Vga (Ys b1 ⟨rfl,rfl⟩) ?_|refine Vga (Zh ⟨rfl,rfl⟩) ?_|refine Vga (Zi ⟨rfl,rfl⟩) ?_
    repeat' first|refine J5 ?_|refine Zp ?_
    -- the counts,with the two nodes told apart
    have hcn2:∀x,List.count x (rwO (some p))+(List.count x (rwO (some q))+(List.count x (fpL o')+((List.count x (rwO a.Y)+(List.count x (fpL a.ys)+(List.count x (rwO a.N)+List.count x (fpL a.ns))))+(if a.a == x then 1 else 0))+((List.count x (rwO b.Y)+(List.count x (fpL b.ys)+(List.count x (rwO b.N)+List.count x (fpL b.ns))))+(if b.a == x then 1 else 0)+List.count x (fpL (l.drop (i+1))))))≤1:=by
     intro x
     have:=hcn x
     rw[J1g]at this
     simp only[List.count_append,List.count_cons,fpL,J3c,List.count_nil,Nat.add_zero]at this
     omega
    have one:∀y:Nat,(if(y == y)=true then 1 else 0)=1:=fun y=>if_pos (by simp)
    have lta:∀x,1≤List.count x (fpL o')+((List.count x (rwO a.Y)+(List.count x (fpL a.ys)+(List.count x (rwO a.N)+List.count x (fpL a.ns))))+(if a.a == x then 1 else 0))+((List.count x (rwO b.Y)+(List.count x (fpL b.ys)+(List.count x (rwO b.N)+List.count x (fpL b.ns))))+(if b.a == x then 1 else 0)+List.count x (fpL (l.drop (i+1))))→x<σ.next:=by
     intro x h
     refine hltj x (.inr (.inr (List.count_pos_iff.1 ?_)))
     simp only[J1g,List.count_append,List.count_cons,fpL,J3c,List.count_nil,Nat.add_zero]
     omega
    have la:=lta a.a (by have:=one a.a;omega)
    have lb:=lta b.a (by have:=one b.a;omega)
    have hab:a.a≠b.a:=fun e=>by
     have h1:=hcn2 a.a
     have h2:=one a.a
     rw[←e]at h1;omega
    have sz:(a.ys++b.ys).length≤2097153∧(a.ns++b.ns).length≤2097153:=by
     have h1:=J0j (tmL a.ys)
     have h2:=J0j (tmL b.ys)
     have h3:=J0j (tmL a.ns)
     have h4:=J0j (tmL b.ns)
     have h5:=J7F a
     have h6:=J7F b
     have h7:brN (tmB a)+brN (tmB b)≤brsN (tmL (o'++[a]++b::l.drop (i+1))):=by simp only[J0I,J0s,tmL,brsN];omega
     rw[J0n,List.length_map]at h1 h2 h3 h4
     rw[←J0n]at h1 h2 h3 h4
     simp only[List.length_append];omega
    have ll:∀(m:List Mb),∀r∈m.map mrf,r.length=1:=fun m r hr=>by obtain⟨y,_,rfl⟩:=List.mem_map.1 hr;rfl
    -- where an append to a list that may be nil puts it
    have apq:∀(s:St) (O:Option (Nat×Nat)),(O=none∧apI s O=s.next)∨(rwO O=[apI s O]):=fun s O=>by
     cases O with
     |none=>exact .inl ⟨rfl,rfl⟩
     |some z=>exact .inr rfl
    have neY:∀x,x<σ.next→x∉rwO a.Y→x≠apI σ a.Y:=fun x h1 h2 e=>by
     rcases apq σ a.Y with⟨_,e2⟩|e2
     ·omega
     ·rw[e2,e]at h2;simp at h2
    have naY:a.a∉rwO a.Y:=J08 (by have:=hcn2 a.a;have:=one a.a;omega)
    have naN:a.a∉rwO a.N:=J08 (by have:=hcn2 a.a;have:=one a.a;omega)
    have nbY:b.a∉rwO a.Y:=J08 (by have:=hcn2 b.a;have:=one b.a;omega)
    have nbN:b.a∉rwO a.N:=J08 (by have:=hcn2 b.a;have:=one b.a;omega)
    refine J09 (fun j=>j=a.a∨j=b.a) [9,12] Jr (by decide +kernel) ?_
    repeat' first|refine Wr a1 (.inl rfl) ?_|refine Wr b1 (.inr rfl) ?_|refine Wn ?_|refine Wa ?_
    refine We (σ':=apS σ a.Y (.row σ.next 131 1 (a.ys.map mrf++b.ys.map mrf))) (Yap (O:=a.Y) (rows:=a.ys.map mrf) (rows2:=b.ys.map mrf) (m:=(a.ys++b.ys).length) a2 (J6q (n:=b.ys.length) b2 (by simp)) (ll _) (by simp) sz.1 ⟨rfl,rfl⟩) (.inr fun j hj=>by
     rcases hj with rfl|rfl
     ·exact J0o (neY _ la naY)
     ·exact J0o (neY _ lb nbY)) ?_
    repeat' first|refine Wn ?_|refine Wa ?_
    refine We (σ':=(apS σ a.Y (.row σ.next 131 1 (a.ys.map mrf++b.ys.map mrf))).set a.a (.var ((eSm a.s).map .d++[.sl (apI σ a.Y) σ.next 0 (a.ys++b.ys).length,slO a.N a.ns.length]))) (Yt (cells:=mcell a) (by rw[J0o (neY _ la naY)];exact a1) ⟨rfl,rfl⟩) (.inl rfl) ?_
    refine Wx ?_
    generalize hs2:(apS σ a.Y (.row σ.next 131 1 (a.ys.map mrf++b.ys.map mrf))).set a.a (.var ((eSm a.s).map .d++[.sl (apI σ a.Y) σ.next 0 (a.ys++b.ys).length,slO a.N a.ns.length]))=σ2
    have n2:σ2.next=σ.next+1:=by rw[←hs2];exact J1O
    have f2:∀x,x<σ.next→x≠a.a→x∉rwO a.Y→σ2.obj x=σ.obj x:=fun x h1 h2 h3=>by rw[←hs2,St.obj_set,if_neg h2,J0o (neY x h1 h3)]
    have c1:σ2.obj a.a=some (.var ((eSm a.s).map .d++[.sl (apI σ a.Y) σ.next 0 (a.ys++b.ys).length,slO a.N a.ns.length])):=by rw[←hs2,St.obj_set,if_pos rfl]
    have c2:σ2.obj (apI σ a.Y)=some (.row σ.next 131 1 ((a.ys++b.ys).map mrf)):=by rw[←hs2,St.obj_set,if_neg (Ne.symm (neY _ la naY)),J2L,List.map_append]
    have c3:rowO σ2 a.N 131 1 (a.ns.map mrf):=J0b a3 fun x hx=>by
     have h1:=J01 hx
     have h2:=hcn2 x
     exact f2 x (lta x (by omega)) (fun e=>naN (e▸hx)) (J08 (by omega))
    have c4:rowO σ2 b.N 131 1 (b.ns.map mrf):=J0b b3 fun x hx=>by
     have h1:=J01 hx
     have h2:=hcn2 x
     exact f2 x (lta x (by omega)) (fun e=>by have:=one a.a;subst e;omega) (J08 (by omega))
    have c5:σ2.obj b.a=some (.var (mcell b)):=by rw[f2 b.a lb (Ne.symm hab) nbY];exact b1
    have w2:∀x y,σ2.obj x=some y→x<σ2.next:=by
     intro x y hxy
     rw[n2]
     by_cases e1:x=a.a
     ·omega
     ·by_cases e2:x=apI σ a.Y
      ·rcases apq σ a.Y with⟨_,e3⟩|e3
       ·omega
       ·have h1:x∈rwO a.Y:=by rw[e3,e2];simp
        have:=J01 h1
        have:=lta x (by omega)
        omega
      ·rw[←hs2,St.obj_set,if_neg e1,J0o e2]at hxy
       have:=i8 x y hxy;omega
    clear hs2
    have neN:∀x,x<σ2.next→x∉rwO a.N→x≠apI σ2 a.N:=fun x h1 h2 e=>by
     rcases apq σ2 a.N with⟨_,e2⟩|e2
     ·omega
     ·rw[e2,e]at h2;simp at h2
    repeat' first|refine J5 ?_
    refine J09 (fun j=>j=a.a∨j=b.a) [9,12] Jr (by decide +kernel) ?_
    repeat' first|refine Wr c1 (.inl rfl) ?_|refine Wr c5 (.inr rfl) ?_|refine Wn ?_|refine Wa ?_
    refine We (σ':=apS σ2 a.N (.row σ2.next 131 1 (a.ns.map mrf++b.ns.map mrf))) (Yap (O:=a.N) (rows:=a.ns.map mrf) (rows2:=b.ns.map mrf) (m:=(a.ns++b.ns).length) c3 (J6q (n:=b.ns.length) c4 (by simp)) (ll _) (by simp) sz.2 ⟨rfl,rfl⟩) (.inr fun j hj=>by
     rcases hj with rfl|rfl
     ·exact J0o (neN _ (by omega) naN)
     ·exact J0o (neN _ (by omega) nbN)) ?_
    repeat' first|refine Wn ?_|refine Wa ?_
    refine We (σ':=(apS σ2 a.N (.row σ2.next 131 1 (a.ns.map mrf++b.ns.map mrf))).set a.a (.var ((eSm a.s).map .d++[.sl (apI σ a.Y) σ.next 0 (a.ys++b.ys).length,.sl (apI σ2 a.N) σ2.next 0 (a.ns++b.ns).length]))) (Yt (cells:=(eSm a.s).map .d++[.sl (apI σ a.Y) σ.next 0 (a.ys++b.ys).length,slO a.N a.ns.length]) (by rw[J0o (neN _ (by omega) naN)];exact c1) ⟨rfl,rfl⟩) (.inl rfl) ?_
    refine Wx ?_
    generalize hs3:(apS σ2 a.N (.row σ2.next 131 1 (a.ns.map mrf++b.ns.map mrf))).set a.a (.var ((eSm a.s).map .d++[.sl (apI σ a.Y) σ.next 0 (a.ys++b.ys).length,.sl (apI σ2 a.N) σ2.next 0 (a.ns++b.ns).length]))=σ3
    have n3:σ3.next=σ.next+2:=by rw[←hs3];show(apS _ _ _).next=_;rw[J1O,n2]
    have f3:∀x,x<σ2.next→x≠a.a→x∉rwO a.N→σ3.obj x=σ2.obj x:=fun x h1 h2 h3=>by rw[←hs3,St.obj_set,if_neg h2,J0o (neN x h1 h3)]
    have e1:σ3.obj a.a=some (.var ((eSm a.s).map .d++[.sl (apI σ a.Y) σ.next 0 (a.ys++b.ys).length,.sl (apI σ2 a.N) σ2.next 0 (a.ns++b.ns).length])):=by rw[←hs3,St.obj_set,if_pos rfl]
    have e2:σ3.obj (apI σ2 a.N)=some (.row σ2.next 131 1 ((a.ns++b.ns).map mrf)):=by rw[←hs3,St.obj_set,if_neg (Ne.symm (neN _ (by omega) naN)),J2L,List.map_append]
    -- what the first list became stays
    have yN:apI σ a.Y<σ2.next∧apI σ a.Y∉rwO a.N∧apI σ a.Y≠a.a:=by
     refine⟨?_,?_,Ne.symm (neY _ la naY)⟩
     ·exact w2 _ _ c2
     ·rcases apq σ a.Y with⟨_,e3⟩|e3
      ·intro hm
       have h1:=J01 hm
       have:=lta (apI σ a.Y) (by omega)
       omega
      ·intro hm
       have h1:=J01 hm
       have h2:=J01 (show apI σ a.Y∈rwO a.Y by rw[e3];simp)
       have:=hcn2 (apI σ a.Y)
       omega
    have e3:σ3.obj (apI σ a.Y)=some (.row σ.next 131 1 ((a.ys++b.ys).map mrf)):=by rw[f3 _ yN.1 yN.2.2 yN.2.1];exact c2
    have fr:∀x,x<σ.next→x≠a.a→x∉rwO a.Y→x∉rwO a.N→σ3.obj x=σ.obj x:=fun x h1 h2 h3 h4=>by rw[f3 x (by omega) h2 h4,f2 x h1 h2 h3]
    have w3:∀x y,σ3.obj x=some y→x<σ3.next:=by
     intro x y hxy
     rw[n3]
     by_cases z1:x=a.a
     ·omega
     ·by_cases z2:x=apI σ2 a.N
      ·rcases apq σ2 a.N with⟨_,z3⟩|z3
       ·omega
       ·have h1:x∈rwO a.N:=by rw[z3,z2];simp
        have:=J01 h1
        have:=lta x (by omega)
        omega
      ·rw[←hs3,St.obj_set,if_neg z1,J0o z2]at hxy
       have:=w2 x y hxy;omega
    have hdis:apI σ2 a.N≠apI σ a.Y:=fun e=>by
     rcases apq σ2 a.N with⟨_,z3⟩|z3
     ·have:=yN.1;omega
     ·exact yN.2.1 (by rw[z3,e];simp)
    have lN:apI σ2 a.N<σ.next+2:=by have:=w3 _ _ e2;omega
    have lY:apI σ a.Y<σ.next+1:=by have:=yN.1;omega
    have gY:σ.next≤apI σ a.Y→rwO a.Y=[]:=fun h=>by
     rcases apq σ a.Y with⟨z,_⟩|z
     ·rw[z];rfl
     ·have h1:=J01 (show apI σ a.Y∈rwO a.Y by rw[z];simp)
      have:=lta (apI σ a.Y) (by omega)
      omega
    have gN:σ.next≤apI σ2 a.N→rwO a.N=[]:=fun h=>by
     rcases apq σ2 a.N with⟨z,_⟩|z
     ·rw[z];rfl
     ·have h1:=J01 (show apI σ2 a.N∈rwO a.N by rw[z];simp)
      have:=lta (apI σ2 a.N) (by omega)
      omega
    clear hs3
    repeat' first|refine Z1 ?_|refine Z2 ?_|refine Z5 ?_|refine Zf ?_|refine Jd ?_|refine Jf ?_|refine J3 ?_|refine Jb ?_|refine Zv ?_
    generalize ha':Mb.nd a.a a.s (some (apI σ a.Y,σ.next)) (a.ys++b.ys) (some (apI σ2 a.N,σ2.next)) (a.ns++b.ns)=a'
    have tj:tmB a'=jnB (tmB a) (tmB b):=by
     rw[←ha']
     cases a;cases b
     simp only[tmB,jnB,bSm,bYs,bNs,J0I,Mb.s,Mb.ys,Mb.ns]
    have fa':fpB a'=a.a::(apI σ a.Y::(fpL a.ys++fpL b.ys++(apI σ2 a.N::(fpL a.ns++fpL b.ns)))):=by rw[←ha'];simp only[fpB,rwO,J1g,List.cons_append,List.nil_append]
    have mono:∀L:List Nat,(∀x∈L,1≤List.count x (fpL o')+(List.count x (fpL a.ys)+List.count x (fpL a.ns))+((List.count x (rwO b.Y)+(List.count x (fpL b.ys)+(List.count x (rwO b.N)+List.count x (fpL b.ns))))+List.count x (fpL (l.drop (i+1)))))→∀x∈L,σ3.obj x=σ.obj x:=by
     intro L hL x hx
     have h1:=hL x hx
     have h2:=hcn2 x
     exact fr x (lta x (by omega)) (fun e=>by have:=one a.a;subst e;omega) (J08 (by omega)) (J08 (by omega))
    have hob:hoB 131 σ3 a':=by
     rw[←ha']
     refine⟨e1,e3,e2,J22.2 ⟨J05 _ (mono _ fun x hx=>?_) a4,J05 _ (mono _ fun x hx=>?_) b4⟩,J22.2 ⟨J05 _ (mono _ fun x hx=>?_) a5,J05 _ (mono _ fun x hx=>?_) b5⟩⟩<;>(have:=J01 hx;omega)
    have aa:a'.a=a.a:=by rw[←ha'];rfl
    clear ha'
    refine⟨⟨i+1,some q,o'++[a']⟩,⟨hlt,?_,?_,?_,?_,?_,?_,w3,?_⟩,by show l.length-(i+1)<l.length-i;omega,Js ⟨?_,.refl _,.refl _,.refl _,trivial⟩⟩
    ·exact J22.2 ⟨J22.2 ⟨J05 _ (mono (fpL o') fun x hx=>by have:=J01 hx;omega) ho',hob,trivial⟩,J05 _ (mono (fpL (l.drop (i+1))) fun x hx=>by have:=J01 hx;omega) h2⟩
    ·refine List.nodup_iff_count.2 fun x=>?_
     simp only[List.count_append,J1g,fpL,fa',List.count_cons,List.count_nil,Nat.add_zero]
     have h1:=hcn2 x
     rcases Nat.lt_or_ge x σ.next with hl'|hg'
     ·have cY:(if(apI σ a.Y == x)=true then 1 else 0)≤List.count x (rwO a.Y):=by
       by_cases e:apI σ a.Y=x
       ·rcases apq σ a.Y with⟨_,z⟩|z
        ·omega
        ·rw[z,e];simp
       ·rw[if_neg (by simpa using e)];omega
      have cN:(if(apI σ2 a.N == x)=true then 1 else 0)≤List.count x (rwO a.N):=by
       by_cases e:apI σ2 a.N=x
       ·rcases apq σ2 a.N with⟨_,z⟩|z
        ·omega
        ·rw[z,e];simp
       ·rw[if_neg (by simpa using e)];omega
      omega
     ·have z1:List.count x (rwO (some p))=0:=List.count_eq_zero.2 fun hm=>by have:=hltj x (.inl hm);omega
      have z2:List.count x (rwO (some q))=0:=List.count_eq_zero.2 fun hm=>by have:=hltj x (.inr (.inl hm));omega
      have z3:¬1≤List.count x (fpL o')+((List.count x (rwO a.Y)+(List.count x (fpL a.ys)+(List.count x (rwO a.N)+List.count x (fpL a.ns))))+(if a.a == x then 1 else 0))+((List.count x (rwO b.Y)+(List.count x (fpL b.ys)+(List.count x (rwO b.N)+List.count x (fpL b.ns))))+(if b.a == x then 1 else 0)+List.count x (fpL (l.drop (i+1)))):=fun h=>by have:=lta x h;omega
      have z4:(if(apI σ a.Y == x)=true then 1 else 0)+(if(apI σ2 a.N == x)=true then 1 else 0)≤1:=by
       by_cases e:apI σ a.Y=x
       ·rw[if_neg (show ¬(apI σ2 a.N == x)=true by simp only[beq_iff_eq];exact fun e2=>hdis (e2.trans e.symm))];split<;>omega
       ·rw[if_neg (by simpa using e)];split<;>omega
      omega
    ·show σ3.obj p.1=_
     have h1:=J01 (show p.1∈rwO (some p) by simp[rwO])
     have h2:=hcn2 p.1
     rw[fr p.1 (hltj _ (.inl (by simp[rwO]))) (fun e=>by have:=one a.a;rw[e]at h1 h2;omega) (J08 (by omega)) (J08 (by omega))]
     exact r4
    ·show σ3.obj q.1=_
     have h1:=J01 (show q.1∈rwO (some q) by simp[rwO])
     have h2:=hcn2 q.1
     rw[fr q.1 (hltj _ (.inr (.inl (by simp[rwO])))) (fun e=>by have:=one a.a;rw[e]at h1 h2;omega) (J08 (by omega)) (J08 (by omega)),r5]
     simp[mrf,aa]
    ·rw[←i6]
     simp only[J0I,tmL,tj,List.append_assoc,List.cons_append,List.nil_append]
     exact(J9v (J1A.2 ⟨by cases b;exact h4,by cases a;exact hpr.1,by cases a;cases b;exact hpr.2⟩) _ _).symm
    ·simp only[J0I,tmL,tj]
     simp only[J0I,tmL]at i7
     exact J9h _ _ _ i7
    ·refine Nat.le_trans ?_ i9
     have:=Jbz (tmB a) (tmB b)
     simp only[J0I,tmL,tj,J0s,brsN];omega
    ·rw[show(o'++[a']).length=(o'++[a]).length by simp];exact .refl _
   ·have hp:plT (tmL ((o'++[a])++[b])):=by
     rw[List.append_assoc,J0I]
     rw[J0I]at i7
     exact J5V (tmL o') (tmB a) (tmB b) i7 (by rw[←Bool.not_eq_true,J1A];rintro⟨_,q1,q2⟩;exact hpr ⟨by cases a;exact q1,by cases a;cases b;exact q2⟩)
    by_cases hA:a.s.kind=4
    ·have dA:decide (a.s.kind=4)=true:=J0 hA
     have dN:decide (a.s.name=b.s.name)=false:=J1 fun e=>hpr ⟨hA,e⟩
     refine J17 (fun s=>s=_) [] Jr (by decide +kernel) rfl ?_
     repeat' first|refine Vx ?_|refine Vz (Ju ⟨rfl,rfl⟩) ?_|refine Vz (Ys a1 ⟨rfl,rfl⟩) ?_|refine Vz (Zh ⟨rfl,rfl⟩) ?_|refine Vz (Zi ⟨rfl,rfl⟩) ?_|refine Vz (Zl ⟨rfl,rfl⟩) ?_|refine Vga (Ju ⟨rfl,rfl⟩) ?_|refine Vga (Ys a1 ⟨rfl,rfl⟩) ?_|refine Vga (Ys b1 ⟨rfl,rfl⟩) ?_|refine Vga (Zh ⟨rfl,rfl⟩) ?_|refine Vga (Zi ⟨rfl,rfl⟩) ?_
     repeat' first|refine Z1 ?_|refine Z2 ?_|refine Z3 ?_|refine Z5 ?_|refine Yw (sz:=1) (rows:=[mrf b]) ?_|refine Yap (O:=some q) (rows:=(o'++[a]).map mrf) (rows2:=[mrf b]) (m:=(o'++[a]++[b]).length) hrO hsrc hl1 hm1 (by simp only[List.length_append,List.length_singleton]at hol ⊢;omega) ?_|refine Zf ?_|refine Jd ?_|refine Zq ?_|refine J7 ?_|refine J3 ?_|refine J6 ?_
     refine⟨⟨i+1,_,_⟩,hput hp _ _ rfl rfl,by show l.length-(i+1)<l.length-i;omega,Js ⟨.refl _,.refl _,.refl _,.refl _,trivial⟩⟩
    ·have dA:decide (a.s.kind=4)=false:=J1 hA
     refine J17 (fun s=>s=_) [] Jr (by decide +kernel) rfl ?_
     repeat' first|refine Vx ?_|refine Vgb ?_|refine Vz (Ju ⟨rfl,rfl⟩) ?_|refine Vz (Ys a1 ⟨rfl,rfl⟩) ?_|refine Vz (Zh ⟨rfl,rfl⟩) ?_|refine Vz (Zi ⟨rfl,rfl⟩) ?_|refine Vz (Zm ⟨rfl,rfl⟩) ?_
     repeat' first|refine Z1 ?_|refine Z2 ?_|refine Z3 ?_|refine Z5 ?_|refine Yw (sz:=1) (rows:=[mrf b]) ?_|refine Yap (O:=some q) (rows:=(o'++[a]).map mrf) (rows2:=[mrf b]) (m:=(o'++[a]++[b]).length) hrO hsrc hl1 hm1 (by simp only[List.length_append,List.length_singleton]at hol ⊢;omega) ?_|refine Zf ?_|refine Jd ?_|refine Zq ?_|refine J7 ?_|refine J3 ?_|refine J6 ?_
     refine⟨⟨i+1,_,_⟩,hput hp _ _ rfl rfl,by show l.length-(i+1)<l.length-i;omega,Js ⟨.refl _,.refl _,.refl _,.refl _,trivial⟩⟩
 ·have d4:decide (b.s.kind=4)=false:=J1 h4
  have hp:plT (tmL (o++[b])):=by
   rw[J0I]
   rcases List.eq_nil_or_concat o with rfl|⟨o',a,rfl⟩
   ·exact⟨fun _ _ e=>(by cases e),trivial⟩
   ·rw[List.concat_eq_append,J0I,List.append_assoc]at *
    exact J5V (tmL o') (tmB a) (tmB b) i7 (by rw[←Bool.not_eq_true,J1A];rintro⟨q,_⟩;exact h4 (by cases b;exact q))
  repeat' first|refine Z1 ?_|refine Z2 ?_|refine Z3 ?_|refine Z5 ?_|refine Z8 ?_|refine Ymv (r:=slO O o.length) ?_|refine Yi1 (n:=(i:Int)) (hi:=l.length) i r4 rfl hlt ?_|refine Ye1 r4 hget ?_|refine Ju ?_|refine Ys b1 ?_|refine Yw (sz:=1) (rows:=[mrf b]) ?_|refine Yap (O:=O) (rows:=o.map mrf) (rows2:=[mrf b]) (m:=(o++[b]).length) hrO hsrc hl1 hm1 (by simp;omega) ?_|refine Zf ?_|refine Zm ?_|refine Zo ?_|refine J5 ?_|refine Jd ?_|refine Zp ?_|refine Zq ?_|refine J4 ?_|refine J7 ?_|refine J3 ?_|refine J6 ?_
  refine⟨⟨i+1,_,_⟩,hput hp _ _ rfl rfl,by show l.length-(i+1)<l.length-i;omega,Js ⟨.refl _,.refl _,.refl _,.refl _,trivial⟩⟩
theorem Jbi:∀(k:Nat) (l:List Mb),brsN (tmL l)≤k→brsN (tmL l)≤1048576→∀(σ:St) (R:Option (Nat×Nat)),hoL 131 σ l→(rwO R++fpL l).Nodup→rowO σ R 131 1 (l.map mrf)→AFun X 43 [slO R l.length] σ fun E _=>E=.ret (.d (.im ((fuF (k+1) (tmL l)).map eBrP))):=by
 intro k
 induction k using Nat.strongRecOn with
 |_ k ih=>
  intro l hk hl σ R ho hnd hR
  refine AFun.fzr (K:=FuK k l) ?_ fun E σ1 h=>JbE h
  exact AFun.wf ⟨_,Tryz.func43,by kernel_rfl,by kernel_rfl⟩ fun hwf=>Jc1 k ih l hk hl σ R hwf ho hnd hR
end Go.Pm
/- Part of the proof: Fu5. -/
namespace Go.Pm
attribute [local irreducible] AR Ok inBlock andThen endQ aoper
set_option maxHeartbeats 2000000
open Go.Proofs
structure FlI (σ0:St) (ib:Nat) (O0:Option (Nat×Nat)) (r:List Sm) (L:List (Sh×D×Value)) (O:Option (Nat×Nat)) (V:List (List Value)) (τ:FH) (σ:St):Prop where
 bx:σ.obj ib=some (.box τ)
 rw:rowO σ O 96 6 (exR V)
 ag:agrs shSm (r.map eSm) V
 tr:Tr τ (subss shSm (r.map eSm) V++L)
 fr:∀j,j<σ0.next→j≠ib→j∉rwO O0→σ.obj j=σ0.obj j
 nx:σ0.next≤σ.next
 ow:∀j∈rwO O,j∈rwO O0∨σ0.next≤j
 wf:∀j o,σ.obj j=some o→j<σ.next
variable {σ0:St} {ib:Nat} {O0 O:Option (Nat×Nat)} {r:List Sm} {L:List (Sh×D×Value)} {V:List (List Value)} {τ:FH} {σ:St}
theorem FlI.len (h:FlI σ0 ib O0 r L O V τ σ):V.length=r.length:=by have:=(J16 h.ag).1;simpa using this
theorem FlI.trans {σ':St} {O':Option (Nat×Nat)} {r':List Sm} {V':List (List Value)} {τ':FH} (h:FlI σ0 ib O0 r L O V τ σ) (h':FlI σ ib O r' L O' V' τ' σ'):FlI σ0 ib O0 r' L O' V' τ' σ':=by
 refine⟨h'.bx,h'.rw,h'.ag,h'.tr,fun j h1 h2 h3=>?_,Nat.le_trans h.nx h'.nx,fun j hj=>?_,h'.wf⟩
 ·rw[h'.fr j (Nat.lt_of_lt_of_le h1 h.nx) h2 fun hm=>?_,h.fr j h1 h2 h3]
  rcases h.ow j hm with q|q
  ·exact h3 q
  ·omega
 ·rcases h'.ow j hj with q|q
  ·exact h.ow j q
  ·exact .inr (Nat.le_trans h.nx q)
theorem FlI.push {k:St} {s:Sm} {v:List Value} {τ2:FH} {hd:Nat} (h:FlI σ0 ib O0 r L O V τ σ) (ha:agr shSm (eSm s) v) (ht:Tr τ2 (subs shSm (eSm s) v++(subss shSm (r.map eSm) V++L))) (k1:k.obj ib=some (.box τ2)) (k2:∀j,j<σ.next→j≠ib→k.obj j=σ.obj j) (k3:k.next=σ.next+1) (k4:∀j o,k.obj j=some o→j<k.next):
  FlI σ0 ib O0 (r++[s]) L (some (apI k O,hd)) (V++[v]) τ2 (apS k O (.row hd 96 6 (exR V++[v.map ex1]))):=by
 have hib:=h.wf _ _ h.bx
 have hO:∀j∈rwO O,j<σ.next∧j≠ib:=fun j hj=>by
  obtain⟨o,ho⟩:=J11 h.rw j hj
  refine⟨h.wf j o ho,fun e=>?_⟩
  subst e
  cases O with
  |none=>simp[rwO]at hj
  |some p=>
   have:j=p.1:=by simpa[rwO]using hj
   have hr:σ.obj p.1=_:=h.rw
   rw[←this,h.bx]at hr;cases hr
 have hap:(O=none∧apI k O=σ.next+1)∨rwO O=[apI k O]:=by
  cases O with
  |none=>exact .inl ⟨rfl,k3⟩
  |some p=>exact .inr rfl
 have hne:ib≠apI k O:=fun e=>by
  rcases hap with⟨_,q⟩|q
  ·omega
  ·exact(hO (apI k O) (by rw[q];simp)).2 e.symm
 refine⟨by rw[J0o hne];exact k1,?_,?_,?_,fun j h1 h2 h3=>?_,?_,fun j hj=>?_,fun j o hj=>?_⟩
 ·show _=_
  rw[J2L,J4b]
 ·rw[List.map_append];exact J07 h.ag ⟨ha,trivial⟩
 ·rw[List.map_append,JY (by simp[h.len])]
  refine ht.perm ?_
  show List.Perm _ ((_++(subs shSm (eSm s) v++[]))++L)
  rw[List.append_nil,←List.append_assoc]
  exact List.Perm.append_right _ List.perm_append_comm
 ·have h4:j≠apI k O:=fun e=>by
   rcases hap with⟨_,q⟩|q
   ·have:=h.nx;omega
   ·rcases h.ow (apI k O) (by rw[q];simp)with z|z
    ·exact h3 (e▸z)
    ·omega
  rw[J0o h4,k2 j (Nat.lt_of_lt_of_le h1 h.nx) h2,h.fr j h1 h2 h3]
 ·rw[J1O];have:=h.nx;omega
 ·have:j=apI k O:=by simpa[rwO]using hj
  subst this
  rcases hap with⟨_,q⟩|q
  ·right;have:=h.nx;omega
  ·exact h.ow _ (by rw[q];simp)
 ·rw[J1O]
  by_cases e:j=apI k O
  ·rcases hap with⟨_,q⟩|q
   ·omega
   ·have:=(hO (apI k O) (by rw[q];simp)).1;omega
  ·rw[J0o e]at hj;have:=k4 j o hj;omega
theorem FlI.self (h:FlI σ0 ib O0 r L O V τ σ):FlI σ ib O r L O V τ σ:=⟨h.bx,h.rw,h.ag,h.tr,fun _ _ _ _=>rfl,Nat.le_refl _,fun j hj=>.inl hj,h.wf⟩
theorem FlI.rwA (h:FlI σ0 ib O0 r L O V τ σ) (o:AO):rowO (σ.alloc o) O 96 6 (exR V):=J0b h.rw fun j hj=>by
 obtain⟨o',ho⟩:=J11 h.rw j hj
 have:=h.wf j o' ho
 rw[St.obj_alloc,if_neg (by omega)]
def FlK (σ0:St) (ib:Nat) (O0:Option (Nat×Nat)) (r:List Sm) (L:List (Sh×D×Value)) (E:AEnd) (σ:St):Prop:=∃O V τ,E=.ret (slO O V.length)∧FlI σ0 ib O0 r L O V τ σ
def vEls (k:Int):List Value:=[.int .i64 k,.string .empty,.int .i64 0,.slice none 0 0,.slice none 0 0,.slice none 0 0]
theorem Jby {k:Int} {τ:FH} {L:List (Sh×D×Value)} (h:Tr τ L):Tr τ (subs shSm (eSm ⟨k,.empty,0,[],[],[]⟩) (vEls k)++L):=.im0 _ _ (by decide) (.im0 _ _ (by decide) (.im0 _ _ (by decide) h))
theorem Jat (k:Int):agr shSm (eSm ⟨k,.empty,0,[],[],[]⟩) (vEls k):=by simp[agr,eSm,vEls]
theorem FlI.pushE (h:FlI σ0 ib O0 r L O V τ σ) (k:Int):FlI σ0 ib O0 (r++[⟨k,.empty,0,[],[],[]⟩]) L (some (apI (σ.alloc (.row σ.next 96 6 [(vEls k).map ex1])) O,σ.next+1)) (V++[vEls k]) τ (apS (σ.alloc (.row σ.next 96 6 [(vEls k).map ex1])) O (.row (σ.next+1) 96 6 (exR V++[(vEls k).map ex1]))):=by
 have hbl:=h.wf _ _ h.bx
 refine h.push (Jat k) (Jby h.tr) ?_ (fun j h1 h2=>?_) rfl fun j o hj=>?_
 ·rw[St.obj_alloc,if_neg (by omega)];exact h.bx
 ·rw[St.obj_alloc,if_neg (by omega)]
 ·rw[St.obj_alloc]at hj
  show j<σ.next+1
  by_cases e:j=σ.next
  ·omega
  ·rw[if_neg e]at hj;have:=h.wf j o hj;omega
theorem J4d {l:List Br} {i:Nat} {b:Br} (h:l[i]? = some b):flL (l.take (i+1))=flL (l.take i)++flB b:=by rw[J03 h,J2B];simp[flL]
theorem J9m {b:Br}:∀{l:List Br},b∈l→∀s∈flB b,s∈flL l
 |x::l,h,s,hs=>by
  simp only[flL,List.mem_append]
  rcases List.mem_cons.1 h with rfl|h
  ·exact .inl hs
  ·exact .inr (J9m h s hs)
theorem Jca {l:List Br} (i:Nat):(flL (l.take i)).length≤(flL l).length:=by
 have:=J2B (l.take i) (l.drop i)
 rw[List.take_append_drop]at this
 rw[this,List.length_append];omega
structure FlX where
 i:Nat
 O:Option (Nat×Nat)
 V:List (List Value)
 τ:FH
def FlXI (σ0:St) (ib:Nat) (O0:Option (Nat×Nat)) (r:List Sm) (l:List Br) (L:List (Sh×D×Value)) (x:FlX) (σ:St):Prop:=x.i≤l.length∧FlI σ0 ib O0 (r++flL (l.take x.i)) L x.O x.V x.τ σ
set_option maxHeartbeats 8000000 in
theorem JbR (N:Nat) (ih:∀m,m<N→∀(l:List Br),brsN l≤m→brsN l≤1048576→∀(r:List Sm),r.length+(flL l).length≤2097152→(∀s∈flL l,wSm s≤1048576)→∀(σ:St) (ib:Nat) (τ:FH) (O:Option (Nat×Nat)) (V:List (List Value)) (L:List (Sh×D×Value)),FlI σ ib O r L O V τ σ→AFun X 42 [.d (.im (l.map eBrP)),slO O V.length] σ (FlK σ ib O (r++flL l) L))
  (l:List Br) (hN:brsN l≤N) (hl:brsN l≤1048576) (r:List Sm) (hlen:r.length+(flL l).length≤2097152) (hw:∀s∈flL l,wSm s≤1048576) (σ:St) (ib:Nat) (τ:FH) (O:Option (Nat×Nat)) (V:List (List Value)) (L:List (Sh×D×Value)) (h:FlI σ ib O r L O V τ σ):AFun X 42 [.d (.im (l.map eBrP)),slO O V.length] σ (FlK σ ib O (r++flL l) L):=by
 have hll:l.length≤1048576:=by have:=J0j l;omega
 refine Jx Tryz.func42 rfl (by decide) Tryz.ntmps42 Tryz.results42 (by simp) ?_
 repeat' first|refine Z1 ?_|refine Z2 ?_|refine Z5 ?_|refine Zd ?_|refine Zo ?_|refine J5 ?_|refine J4 ?_
 generalize hσ0:σ=σ0 at h ⊢
 have h0:FlXI σ0 ib O r l L ⟨0,O,V,τ⟩ σ0:=⟨Nat.zero_le _,by simpa[flL]using h⟩
 rw[←hσ0]at h0
 refine J24 (ι:=FlX) (fun x=>envL [(1,slO x.O x.V.length),(7,.d (.im (l.map eBrP))),(8,vi l.length),(9,vi x.i)]) (FlXI σ0 ib O r l L) (fun x=>l.length-x.i) ⟨0,O,V,τ⟩ (hσ0▸h0) (Js ⟨.refl _,.refl _,.refl _,.refl _,trivial⟩) ?_
 clear h0 h
 clear hσ0
 rintro⟨i,O1,V1,τ1⟩ σ1 ⟨i1,h⟩
 simp only at i1 h
 dsimp only
 have hr1:r.length+(flL (l.take i)).length=V1.length:=by rw[h.len,List.length_append]
 rcases hx:l[i]? with _|b
 ·have hle:=Jk hx
  have ek:decide ((i:Int)<(l.length:Int))=false:=J1 (by omega)
  rw[List.take_of_length_le hle]at h
  repeat' first|refine Z1 ?_|refine Z2 ?_|refine Z5 ?_|refine Ymv (r:=slO O1 V1.length) ?_|refine Yas (r:=slO O1 V1.length) ?_|refine ret1e ?_|refine Zo ?_|refine J5 ?_|refine Zq ?_|refine Jf ?_|refine J9 ?_|refine J3 ?_|refine Jb ?_|refine Zv ?_
  exact⟨O1,V1,τ1,rfl,h⟩
 obtain⟨hdr,hlt⟩:=Jc hx
 have ek:decide ((i:Int)<(l.length:Int))=true:=J0 (by omega)
 have hbm:=List.mem_of_getElem? hx
 have hbn:=J1t hbm
 have hwb:∀s∈flB b,wSm s≤1048576:=fun s hs=>hw s (J9m hbm s hs)
 have hlb:=Jca (l:=l) (i+1)
 rw[J4d hx,List.length_append]at hlb
 obtain⟨s,y,n⟩:=b
 simp only[brN]at hbn
 simp only[flB]at hwb hlb
 have hws:wSm s≤1048576:=hwb s (by simp)
 -- the copy
 have push1:∀(v:List Value) (τ2:FH),agr shSm (eSm s) v→Tr τ2 (subs shSm (eSm s) v++(subss shSm ((r++flL (l.take i)).map eSm) V1++L))→FlI σ0 ib O (r++flL (l.take i)++[s]) L (some (apI ((σ1.set ib (.box τ2)).alloc (.row σ1.next 96 6 [v.map ex1])) O1,σ1.next+1)) (V1++[v]) τ2 (apS ((σ1.set ib (.box τ2)).alloc (.row σ1.next 96 6 [v.map ex1])) O1 (.row (σ1.next+1) 96 6 (exR V1++[v.map ex1]))):=by
  intro v τ2 a2 t2
  have hbl:=h.wf _ _ h.bx
  refine h.push a2 t2 ?_ (fun j h1 h2=>?_) rfl fun j o hj=>?_
  ·rw[St.obj_alloc,if_neg (by show ib≠σ1.next;omega),St.obj_set,if_pos rfl]
  ·rw[St.obj_alloc,if_neg (by show j≠σ1.next;omega),St.obj_set,if_neg h2]
  ·rw[St.obj_alloc]at hj
   show j<σ1.next+1
   by_cases e:j=(σ1.set ib (.box τ2)).next
   ·have:j=σ1.next:=e
    omega
   ·rw[if_neg e,St.obj_set]at hj
    by_cases e2:j=ib
    ·omega
    ·rw[if_neg e2]at hj;have:=h.wf j o hj;omega
 have hO1:∀(v:List Value) (τ2:FH),rowO ((σ1.set ib (.box τ2)).alloc (.row σ1.next 96 6 [v.map ex1])) O1 96 6 (exR V1):=fun v τ2=>J0b h.rw fun j hj=>by
  obtain⟨o,ho⟩:=J11 h.rw j hj
  have hjl:=h.wf j o ho
  have hji:j≠ib:=fun e=>by
   subst e
   cases O1 with
   |none=>simp[rwO]at hj
   |some p=>
    have e1:j=p.1:=by simpa[rwO]using hj
    have hr:σ1.obj p.1=_:=h.rw
    rw[←e1,h.bx]at hr;cases hr
  rw[St.obj_alloc,if_neg (by show j≠σ1.next;omega),St.obj_set,if_neg hji]
 have hsc:∀(k:St) (x:Nat) (row:List AV),k.obj x=some (.row x 96 6 [row])→srcOf (.slice 96) 6 k (.sl x x 0 1)=some [row]:=fun k x row hk=>by simp[srcOf,rowsOf,hk]
 by_cases h4:s.kind=4
 ·have d4:decide (s.kind=4)=true:=J0 h4
  simp only[h4,if_true,List.length_cons,List.length_append,List.length_nil]at hlb
  repeat' first|refine Z1 ?_|refine Z2 ?_|refine Z5 ?_|refine Ju ?_|refine Ymv (r:=slO O1 V1.length) ?_|refine Yxx ((J5f s hws h.tr).at (i:=ib) h.bx) ?_|refine Ze ?_|refine Zo ?_|refine J5 ?_|refine Zp ?_|refine J4 ?_|refine J7 ?_|refine J3 ?_
  rintro A σ2 ⟨τ2,⟨a1,n1,c1,a2,n2,c2,a3,n3,c3,rfl,t2⟩,rfl⟩
  refine⟨_,rfl,?_⟩
  have P1:=push1 _ τ2 (J7T s _ _ _) t2
  repeat' first|refine Z1 ?_|refine Z2 ?_|refine Z5 ?_|refine Ju ?_|refine Yw (n:=σ1.next) (sz:=6) (rows:=[(vSm s (.slice a1 n1 c1) (.slice a2 n2 c2) (.slice a3 n3 c3)).map ex1]) ?_|refine Yap (O:=O1) (rows:=exR V1) (rows2:=[(vSm s (.slice a1 n1 c1) (.slice a2 n2 c2) (.slice a3 n3 c3)).map ex1]) (m:=(V1++[vSm s (.slice a1 n1 c1) (.slice a2 n2 c2) (.slice a3 n3 c3)]).length) (hO1 _ τ2) (hsc _ σ1.next _ (by rw[St.obj_alloc];exact if_pos rfl)) (fun x hx=>by simp only[List.mem_singleton]at hx;subst hx;rfl) (by simp[exR]) (by simp;omega) (hn:=by simp[exR]) ?_|refine Zo ?_|refine Zp ?_
  have hy:=ih (brsN y) (by omega) y (Nat.le_refl _) (by omega) (r++flL (l.take i)++[s]) (by simp only[List.length_append,List.length_singleton];omega) (fun t ht=>hwb t (by simp[h4,ht])) _ ib τ2 _ _ L P1.self
  rw[←J1s]at hy
  refine Yxx hy ?_
  clear hy
  rintro A σ3 ⟨O3,V3,τ3,rfl,h3⟩
  have P3:=P1.trans h3
  clear P1 h3
  refine⟨_,rfl,?_⟩
  have l3:=P3.len
  simp only[List.length_append,List.length_singleton]at l3
  repeat' first|refine Z1 ?_|refine Z2 ?_|refine Z5 ?_|refine Ju ?_|refine Yas (r:=slO O3 V3.length) ?_|refine Ymv (r:=slO O3 V3.length) ?_|refine Yw (n:=σ3.next) (sz:=6) (rows:=[(vEls 5).map ex1]) ?_|refine Yap (O:=O3) (rows:=exR V3) (rows2:=[(vEls 5).map ex1]) (m:=(V3++[vEls 5]).length) (P3.rwA _) (hsc _ σ3.next _ (by rw[St.obj_alloc];exact if_pos rfl)) (fun x hx=>by simp only[List.mem_singleton]at hx;subst hx;rfl) (by simp[exR]) (by simp;omega) (hn:=by simp[exR]) ?_|refine Zo ?_
  have P4:=P3.pushE 5
  have hn':=ih (brsN n) (by omega) n (Nat.le_refl _) (by omega) _ (by simp only[List.length_append,List.length_singleton];omega) (fun t ht=>hwb t (by simp[h4,ht])) _ ib τ3 _ _ L P4.self
  rw[←J1s]at hn'
  refine Yxx hn' ?_
  clear hn'
  rintro A σ5 ⟨O5,V5,τ5,rfl,h5⟩
  have P5:=P4.trans h5
  clear P4 h5
  refine⟨_,rfl,?_⟩
  have l5:=P5.len
  simp only[List.length_append,List.length_singleton]at l5
  repeat' first|refine Z1 ?_|refine Z2 ?_|refine Z3 ?_|refine Z5 ?_|refine Yas (r:=slO O5 V5.length) ?_|refine Ymv (r:=slO O5 V5.length) ?_|refine Yw (n:=σ5.next) (sz:=6) (rows:=[(vEls 6).map ex1]) ?_|refine Yap (O:=O5) (rows:=exR V5) (rows2:=[(vEls 6).map ex1]) (m:=(V5++[vEls 6]).length) (P5.rwA _) (hsc _ σ5.next _ (by rw[St.obj_alloc];exact if_pos rfl)) (fun x hx=>by simp only[List.mem_singleton]at hx;subst hx;rfl) (by simp[exR]) (by simp;omega) (hn:=by simp[exR]) ?_|refine Zf ?_|refine Jd ?_|refine J3 ?_|refine J6 ?_
  have P6:=P5.pushE 6
  have e6:r++flL (l.take i)++[s]++flL y++[(⟨5,.empty,0,[],[],[]⟩:Sm)]++flL n++[⟨6,.empty,0,[],[],[]⟩]=r++flL (l.take (i+1)):=by
   rw[J4d hx]
   simp only[flB,h4,if_true,elsM,endM]
   simp
  rw[e6]at P6
  refine⟨⟨i+1,_,_,_⟩,⟨hlt,P6⟩,by show l.length-(i+1)<l.length-i;omega,Js ⟨.refl _,.refl _,.refl _,.refl _,trivial⟩⟩
 ·have d4:decide (s.kind=4)=false:=J1 h4
  simp only[h4,if_false,List.length_cons,List.length_nil]at hlb
  repeat' first|refine Z1 ?_|refine Z2 ?_|refine Z5 ?_|refine Ju ?_|refine Ymv (r:=slO O1 V1.length) ?_|refine Yxx ((J5f s hws h.tr).at (i:=ib) h.bx) ?_|refine Ze ?_|refine Zo ?_|refine J5 ?_|refine Zp ?_|refine J4 ?_|refine J7 ?_|refine J3 ?_
  rintro A σ2 ⟨τ2,⟨a1,n1,c1,a2,n2,c2,a3,n3,c3,rfl,t2⟩,rfl⟩
  refine⟨_,rfl,?_⟩
  have P1:=push1 _ τ2 (J7T s _ _ _) t2
  repeat' first|refine Z1 ?_|refine Z2 ?_|refine Z5 ?_|refine Ju ?_|refine Yw (n:=σ1.next) (sz:=6) (rows:=[(vSm s (.slice a1 n1 c1) (.slice a2 n2 c2) (.slice a3 n3 c3)).map ex1]) ?_|refine Yap (O:=O1) (rows:=exR V1) (rows2:=[(vSm s (.slice a1 n1 c1) (.slice a2 n2 c2) (.slice a3 n3 c3)).map ex1]) (m:=(V1++[vSm s (.slice a1 n1 c1) (.slice a2 n2 c2) (.slice a3 n3 c3)]).length) (hO1 _ τ2) (hsc _ σ1.next _ (by rw[St.obj_alloc];exact if_pos rfl)) (fun x hx=>by simp only[List.mem_singleton]at hx;subst hx;rfl) (by simp[exR]) (by simp;omega) (hn:=by simp[exR]) ?_|refine Zf ?_|refine Zo ?_|refine Jd ?_|refine Zq ?_|refine J7 ?_|refine J3 ?_|refine J6 ?_
  rw[List.append_assoc,show flL (l.take i)++[s]=flL (l.take (i+1)) by rw[J4d hx];simp only[flB,h4,if_false]]at P1
  refine⟨⟨i+1,_,_,_⟩,⟨hlt,P1⟩,by show l.length-(i+1)<l.length-i;omega,Js ⟨.refl _,.refl _,.refl _,.refl _,trivial⟩⟩
theorem Jb4:∀(N:Nat) (l:List Br),brsN l≤N→brsN l≤1048576→∀(r:List Sm),r.length+(flL l).length≤2097152→(∀s∈flL l,wSm s≤1048576)→∀(σ:St) (ib:Nat) (τ:FH) (O:Option (Nat×Nat)) (V:List (List Value)) (L:List (Sh×D×Value)),FlI σ ib O r L O V τ σ→AFun X 42 [.d (.im (l.map eBrP)),slO O V.length] σ (FlK σ ib O (r++flL l) L):=by
 intro N
 induction N using Nat.strongRecOn with
 |_ N ih=>
  intro l h1 h2 r h3 h4 σ ib τ O V L h
  exact JbR N ih l h1 h2 r h3 h4 σ ib τ O V L h
end Go.Pm
