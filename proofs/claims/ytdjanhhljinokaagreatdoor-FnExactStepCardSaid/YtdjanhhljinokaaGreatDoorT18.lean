/- Part of the proof: Ms7. -/
import Derived.Test.YtdjanhhljinokaaGreatDoorT13
import Derived.Test.YtdjanhhljinokaaGreatDoorT14
import Derived.Test.YtdjanhhljinokaaGreatDoorT17
import Derived.Test.YtdjanhhljinokaaGreatDoorT9
import Derived.Test.YtdjanhhljinokaaGreatDoorT15
set_option linter.unusedVariables false
set_option linter.unusedSimpArgs false
namespace Go.Pm
attribute [local irreducible] AR Ok inBlock andThen endQ aoper
set_option maxHeartbeats 4000000
open Go.Proofs
def bdC (Z:List Int):Prop:=∀z∈Z,0≤z∧z≤20001
def instSum (Z:List Int):Int→List Int→Int
 |n,[]=>n
 |n,g::l=>instSum Z (n+(Z[g.toNat]?).getD 0) l
def cellsGo:List Int→List Cls→List Int
 |Z,[]=>Z
 |Z,c::r=>cellsGo (Z++[min (instSum Z c.mems.length c.insts) 20001]) r
def cellsS (cs:List Cls):List Int:=cellsGo [] cs
theorem J7A {Z:List Int} {v:Int} (h:bdC Z) (h0:0≤v) (h1:v≤20001):bdC (Z++[v]):=by
 intro z hz
 rcases List.mem_append.1 hz with h'|h'
 ·exact h z h'
 ·simp only[List.mem_singleton]at h';subst h';exact⟨h0,h1⟩
theorem J3D (cs:List Cls) (hw:wL wCls cs≤1048576) (hg:∀(k:Nat) (c:Cls),cs[k]? = some c→∀g∈c.insts,0≤g∧g<(k:Int)):PFun X 26 [.agg [.d (.im (cs.map eCls))]] (.d (.im ((cellsS cs).map eNum))):=by
 have hcl:cs.length≤1048576:=by simp only[wL]at hw;omega
 refine Jn Tryz.func26 rfl (by decide) Tryz.ntmps26 Tryz.results26 (by simp) rfl rfl ?_
 repeat' first|refine Z1 ?_|refine Z2 ?_|refine Z5 ?_|refine J3v rfl rfl rfl rfl rfl rfl rfl ?_|refine Zd ?_|refine Zo ?_|refine J6 ?_|refine J5 ?_
 refine JX (ι:=Nat×List Int) (fun x_=>envL [(1,.ref 0 0),(3,.sl 1 2 0 x_.2.length),(11,.d (.im (cs.map eCls))),(12,vi cs.length),(13,vi x_.1)]) (fun x_=>stL [some (.var [.d (.im (cs.map eCls))]),some (.row 2 3 1 (im2 eNum x_.2)),none]) (fun x_=>x_.1≤cs.length∧x_.2.length=x_.1∧bdC x_.2∧cellsGo x_.2 (cs.drop x_.1)=cellsS cs) (fun x_=>cs.length-x_.1) (0,[]) (⟨Nat.zero_le _,rfl,fun x hx=>by simp at hx,rfl⟩) Turn.refl (Js [(2,1)] rfl rfl rfl ⟨⟨rfl,rfl⟩,⟨rfl,rfl⟩,⟨rfl,rfl⟩,⟨rfl,rfl⟩,⟨rfl,rfl⟩,trivial⟩ ⟨⟨rfl,rfl⟩,⟨Jd rfl (by first|exact Jg _ _ _|rfl),Je rfl,Jc _ _ _⟩,trivial⟩) ?_
 rintro⟨k,Z⟩ ⟨i1,i2,i3,i5⟩
 simp only at i1 i2 i3 i5
 rcases hx:cs[k]? with _|c
 ·have hle:=Jo hx
  have ek:decide ((k:Int)<(cs.length:Int))=false:=J1 (by omega)
  rw[Jr hx]at i5
  have i5:Z=cellsS cs:=i5
  subst i5
  repeat' first|refine Z1 ?_|refine Z2 ?_|refine J0I (e:=eNum) (l:=cellsS cs) rfl 2 rfl rfl rfl ?_|refine Zo ?_|refine J6 ?_|refine Zq ?_|refine Jh ?_|refine Jb ?_|refine J3 ?_|refine Ja ?_|refine Zv ?_|refine Zt ?_
  rfl
 obtain⟨hd,hlt⟩:=Ji hx
 have ek:decide ((k:Int)<(cs.length:Int))=true:=J0 (by omega)
 have hwc:wCls c≤1048576:=by have:=JE (w:=wCls) (List.mem_of_getElem? hx);simp only[wL]at hw;omega
 have hl:=J3G hwc
 rw[hd]at i5
 simp only[cellsGo]at i5
 repeat' first|refine Z1 ?_|refine Z2 ?_|refine Z5 ?_|refine Zd ?_|refine Ze ?_|refine Zo ?_|refine J6 ?_|refine Zp ?_|refine J5 ?_|refine J8 ?_|refine J3 ?_
 refine Jq (ι:=Nat×Int) (fun x_=>envL [(1,.ref 0 0),(3,.sl 1 2 0 Z.length),(11,.d (.im (cs.map eCls))),(12,vi cs.length),(13,vi k),(6,vi x_.2),(21,.d (.im (c.insts.map eNum))),(22,vi c.insts.length),(23,vi x_.1)]) (fun x_=>stL [some (.var [.d (.im (cs.map eCls))]),some (.row 2 3 1 (im2 eNum Z)),none,none]) (fun x_=>x_.1≤c.insts.length∧0≤x_.2∧x_.2≤1048576+20001*(x_.1:Int)∧instSum Z x_.2 (c.insts.drop x_.1)=instSum Z c.mems.length c.insts) (fun x_=>c.insts.length-x_.1) (0,(c.mems.length:Int)) (⟨Nat.zero_le _,by simp only;omega,by simp only;omega,rfl⟩) (Jj rfl ⟨.refl _,.refl _,.refl _,.refl _,.refl _,.refl _,.refl _,.refl _,.refl _,trivial⟩ ⟨⟨rfl,_,rfl,rfl,fun _ _ _=>.refl _⟩,⟨rfl,_,rfl,rfl,rfl,rfl,rfl⟩,trivial⟩) (fun _=>Nat.le_refl 4) ?_
 rintro⟨m,n⟩ ⟨j1,j2,j3,j4⟩
 simp only at j1 j2 j3 j4
 rcases hy:c.insts[m]? with _|g
 ·have hle:=Jo hy
  have em:decide ((m:Int)<(c.insts.length:Int))=false:=J1 (by omega)
  rw[Jr hy]at j4
  have j4:n=instSum Z c.mems.length c.insts:=j4
  rw[←j4]at i5
  by_cases hb:20000<n
  ·have eb:decide (20000<n)=true:=J0 hb
   rw[show min n 20001=20001 by omega]at i5
   repeat' first|refine Z1 ?_|refine Z2 ?_|refine Z3 ?_|refine Z4 ?_|refine Z5 ?_|refine Yl (e:=eNum) (l:=Z) [(20001:Int)] ?_|refine Zf ?_|refine Zo ?_|refine J6 ?_|refine Jf ?_|refine Zp ?_|refine Zq ?_|refine Jh ?_|refine J3 ?_|refine Ja ?_|refine Zv ?_|refine J4 ?_
   exact⟨(k+1,Z++[20001]),⟨hlt,by simp[i2],J7A i3 (by omega) (by omega),i5⟩,by(try simp only);omega,Js [(2,5)] rfl rfl rfl ⟨⟨rfl,rfl⟩,⟨rfl,rfl⟩,⟨rfl,rfl⟩,⟨rfl,rfl⟩,⟨rfl,rfl⟩,trivial⟩ ⟨⟨rfl,rfl⟩,⟨Jd rfl (by first|exact Jg _ _ _|rfl),Je rfl,Jc _ _ _⟩,trivial⟩⟩
  ·have eb:decide (20000<n)=false:=J1 hb
   rw[show min n 20001=n by omega]at i5
   repeat' first|refine Z1 ?_|refine Z2 ?_|refine Z3 ?_|refine Z4 ?_|refine Z5 ?_|refine Yl (e:=eNum) (l:=Z) [n] ?_|refine Zf ?_|refine Zo ?_|refine J6 ?_|refine Jf ?_|refine Zq ?_|refine Jh ?_|refine J8 ?_|refine J3 ?_|refine Ja ?_|refine Zv ?_|refine J4 ?_
   exact⟨(k+1,Z++[n]),⟨hlt,by simp[i2],J7A i3 (by omega) (by omega),i5⟩,by(try simp only);omega,Js [(2,5)] rfl rfl rfl ⟨⟨rfl,rfl⟩,⟨rfl,rfl⟩,⟨rfl,rfl⟩,⟨rfl,rfl⟩,⟨rfl,rfl⟩,trivial⟩ ⟨⟨rfl,rfl⟩,⟨Jd rfl (by first|exact Jg _ _ _|rfl),Je rfl,Jc _ _ _⟩,trivial⟩⟩
 obtain⟨hd2,hlt2⟩:=Ji hy
 have em:decide ((m:Int)<(c.insts.length:Int))=true:=J0 (by omega)
 obtain⟨g0,g1⟩:=hg k c hx g (List.mem_of_getElem? hy)
 obtain⟨gn,hgn⟩:∃gn:Nat,g=(gn:Int):=⟨g.toNat,by omega⟩
 have hgl:gn<Z.length:=by omega
 have hz:Z[gn]? = some Z[gn]:=List.getElem?_eq_getElem hgl
 have hzb:=i3 _ (List.mem_of_getElem? hz)
 have hr:(im2 eNum Z)[gn]? = some [vi Z[gn]]:=J0b hz
 rw[hd2]at j4
 simp only[instSum]at j4
 rw[hgn,Int.toNat_natCast,hz]at j4
 simp only[Option.getD_some]at j4
 generalize Z[gn]=z at hz hzb hr j4
 repeat' first|refine Z1 ?_|refine Z2 ?_|refine Z3 ?_|refine Z5 ?_|refine Yf (n:=g) gn hgn hgl ?_|refine Ye hr ?_|refine Ze ?_|refine Zf ?_|refine Zo ?_|refine J6 ?_|refine Jf ?_|refine Zp ?_|refine J5 ?_|refine J8 ?_|refine J3 ?_|refine J4 ?_
 exact⟨(m+1,n+z),⟨hlt2,by simp only;omega,by simp only;omega,j4⟩,by(try simp only);omega,Jl (Nat.le_of_ble_eq_true rfl) ⟨⟨rfl,rfl⟩,⟨rfl,rfl⟩,⟨rfl,rfl⟩,⟨rfl,rfl⟩,⟨rfl,rfl⟩,⟨rfl,rfl⟩,⟨rfl,rfl⟩,⟨rfl,rfl⟩,⟨rfl,rfl⟩,trivial⟩ ⟨⟨rfl,rfl⟩,⟨rfl,Je rfl,Jc _ _ _⟩,trivial⟩⟩
end Go.Pm
/- Part of the proof: Gr5. -/
namespace Go.Pm
def goodF (B I:List Int):List Fr→Prop
 |[]=>True
 |f::st=>(goodS B I f.s∧goodL B I f.yes∧goodL B I f.no)∧goodF B I st
def frN:List Fr→Nat
 |[]=>0
 |f::st=>1+brsN f.yes+brsN f.no+frN st
theorem J29 {B I:List Int}:∀{l m:List Br},goodL B I l→goodL B I m→goodL B I (l++m)
 |[],_,_,h=>h
 |b::l,m,h,h'=>by simp only[goodL,List.cons_append]at h ⊢;exact⟨h.1,J29 h.2 h'⟩
theorem J4L:∀l m:List Br,brsN (l++m)=brsN l+brsN m
 |[],m=>by simp[brsN]
 |b::l,m=>by simp only[List.cons_append,brsN,J4L l m];omega
theorem J5K {B I:List Int} {b:Br} (hb:goodB B I b):∀{st:List Fr} {R:List Br},goodF B I st→goodL B I R→goodF B I (putF b st R).1∧goodL B I (putF b st R).2
 |[],R,hs,hr=>⟨trivial,J29 hr ⟨hb,trivial⟩⟩
 |f::st,R,hs,hr=>by
  simp only[putF,goodF]at hs ⊢
  obtain⟨⟨h1,h2,h3⟩,h4⟩:=hs
  refine⟨⟨?_,h4⟩,hr⟩
  split
  ·exact⟨h1,h2,J29 h3 ⟨hb,trivial⟩⟩
  ·exact⟨h1,J29 h2 ⟨hb,trivial⟩,h3⟩
theorem Jaz (b:Br):∀(st:List Fr) (R:List Br),frN (putF b st R).1+brsN (putF b st R).2=frN st+brsN R+brN b
 |[],R=>by simp only[putF,frN,J4L,brsN];omega
 |f::st,R=>by
  simp only[putF,frN]
  split<;>simp only[J4L,brsN]<;>omega
theorem J0L {B I:List Int}:∀(l:List Sm) (st:List Fr) (R R':List Br),(∀s∈l,goodS B I s)→goodF B I st→goodL B I R→growGo l st R=some R'→goodL B I R'∧brsN R'≤l.length+frN st+brsN R
 |[],[],R,R',_,_,h,e=>by simp only[growGo,Option.some.injEq]at e;subst e;exact⟨h,by omega⟩
 |[],_::_,R,R',_,_,_,e=>by simp[growGo]at e
 |s::l,st,R,R',hl,hs,hr,e=>by
  have hl':∀s∈l,goodS B I s:=fun u hu=>hl u (List.mem_cons_of_mem _ hu)
  have hs0:=hl s List.mem_cons_self
  simp only[growGo]at e
  split at e
  ·have:=J0L l (⟨s,false,[],[]⟩::st) R R' hl' ⟨⟨hs0,trivial,trivial⟩,hs⟩ hr e
   refine⟨this.1,?_⟩
   have h2:=this.2
   simp only[frN,brsN,List.length_cons]at h2 ⊢
   omega
  ·split at e
   ·cases st with
    |nil=>cases e
    |cons f st'=>
     dsimp only at e
     split at e
     ·cases e
     ·have:=J0L l ({f with els:=true}::st') R R' hl' (by simp only[goodF]at hs ⊢;exact hs) hr e
      refine⟨this.1,?_⟩
      have h2:=this.2
      simp only[frN,List.length_cons]at h2 ⊢
      omega
   ·split at e
    ·cases st with
     |nil=>cases e
     |cons f st'=>
      dsimp only at e
      split at e
      ·simp only[goodF]at hs
       have hb:goodB B I (.nd f.s f.yes f.no):=by simp only[goodB];exact hs.1
       obtain⟨g1,g2⟩:=J5K hb hs.2 hr
       have hn:=Jaz (.nd f.s f.yes f.no) st' R
       have:=J0L l _ _ R' hl' g1 g2 e
       refine⟨this.1,?_⟩
       have h2:=this.2
       simp only[brN]at hn
       simp only[frN,List.length_cons]at h2 ⊢
       omega
      ·cases e
    ·have hb:goodB B I (.nd s [] []):=by simp only[goodB,goodL];exact⟨hs0,trivial,trivial⟩
     obtain⟨g1,g2⟩:=J5K hb hs hr
     have hn:=Jaz (.nd s [] []) st R
     have:=J0L l _ _ R' hl' g1 g2 e
     refine⟨this.1,?_⟩
     have h2:=this.2
     simp only[brN,brsN]at hn
     simp only[List.length_cons]at h2 ⊢
     omega
theorem J3F {B I:List Int} {l:List Sm} {R:List Br} (hl:∀s∈l,goodS B I s) (e:growI l=some R):goodL B I R∧brsN R≤l.length:=by
 have:=J0L l [] [] R hl trivial trivial e
 simpa[frN,brsN]using this
def coP (j:Nat):Nat:=match j with|0=>4|1=>6|2=>7|3=>5|4=>1|5=>2|6=>8|7=>16|j+8=>j+17
theorem Jbd:∀i,i<8→∀j,j<8→coP i=coP j→i=j:=by decide
theorem Jcv:∀i,i<8→coP i<17:=by decide
theorem J6B {B:List Int} {z:Nat} {c:Cls} (hB:bdB B) {R:List Br} (hn:brsN R≤1048576) (hg:goodL B c.insts R) {σ:St} (hnx:Nat.ble 17 σ.next=true) (h1:σ.obj 1=some (.var [.sl 4 6 0 z,.sl 5 7 0 B.length])) (h2:σ.obj 2=some (.var [.ref 1 0])) (h5:σ.obj 5=some (.row 7 3 1 (im2 eNum B))) (h8:σ.obj 8=some (.var ((eCls c).map .d)))
  (h16:σ.obj 16=some (.var [.fn 118 [.ref 2 0,.ref 8 0,.ref 16 0]])):AFun X 118 [.d (.im (R.map eBrP)),.ref 2 0,.ref 8 0,.ref 16 0] σ fun E σ2=>E=.ret (vi (costL B c.insts R))∧σ2=σ:=by
 have hnx:=Nat.le_of_ble_eq_true hnx
 refine AFun.ro (O:=coO B z c) (Jcn B z c hB (brsN R) R rfl hn hg) (fun j o ho=>(J3B ho).2) rfl rfl coP (fun i j _ _ hi hj e=>Jbd i (J3B hi).1 j (J3B hj).1 e) (fun j hj=>by have:=Jcv j hj;omega) (fun j o ho=>?_)
 have h8':=(J3B ho).1
 unfold coO at ho
 match j,ho with
 |0,h=>cases h
 |1,h=>cases h
 |2,h=>cases h
 |3,h=>cases h;exact h5.trans (Jd rfl (Jg _ _ _))
 |4,h=>cases h;exact h1
 |5,h=>cases h;exact h2
 |6,h=>cases h;exact h8
 |7,h=>cases h;exact h16
 |j+8,h=>omega
theorem app4 {X:Cfg} {Q:Exit→Env→St→Prop} {K:AV→St→Prop} {env:Env} {σ:St} {α:Type} {e:α→List D} {l:List α} {y:α} {i h k v t tx el sz:Nat} {ti te tix:TI} {s x:Operand} {ars:Array Operand} {ts:Array TypeId} (ho:σ.obj i=some (.row h el sz (im2 e l))) (hk:σ.obj k=some (.row v el sz [(e y).map .d])) (hf:∀z,(e z).length=sz)
  (hK:K (.sl i σ.next 0 (l++[y]).length) (bumpSet σ i (.row σ.next el sz (im2 e (l++[y])))))
  (h1:ars.toList=[s,x]:=by exact rfl) (h2:ts.toList=[t,tx]:=by exact rfl) (hs:aev X env s=.sl i h 0 l.length:=by exact rfl) (hx:aev X env x=.sl k v 0 1:=by exact rfl) (ht:X.T t=some ti:=by exact rfl) (hkd:ti.kind=.slice el:=by exact rfl) (hte:X.T el=some te:=by exact rfl) (hsz:te.size=sz:=by exact rfl) (hp:Nat.blt 0 sz=true:=by exact rfl)
  (hpb:Nat.blt 0 te.bytes=true:=by exact rfl) (htx:X.T tx=some tix:=by exact rfl) (hkx:tix.kind=.slice el:=by exact rfl) (hbb:Nat.ble te.bytes 1024=true:=by exact rfl) (hb:l.length≤2097152:=by omega):aoper X (.call ⟨.builtin .append,ars,ts⟩) env σ Q K:=
 app3 ho hk hf (by rw[List.length_append]at hK;exact hK) h1 h2 hs hx ht hkd hte hsz hp hpb htx hkx hbb hb
end Go.Pm
/- Part of the proof: Ms8. -/
namespace Go.Pm
attribute [local irreducible] AR Ok inBlock andThen endQ aoper
set_option maxHeartbeats 4000000
open Go.Proofs
def bdD (B:List Int):Prop:=∀b∈B,0≤b∧b≤400001
theorem JaE {B I:List Int} (hB:bdD B) (p:Int):0≤callC B I p:=by
 unfold callC
 cases hq:B[((I[p.toNat]?).getD 0).toNat]? with
 |none=>simp
 |some b=>exact(hB b (List.mem_of_getElem? hq)).1
mutual
theorem Jai {B I:List Int} (hB:bdD B):∀b:Br,0≤costB B I b
 |.nd s y n=>by
  have h1:=J1C (I:=I) hB y
  have h2:=J1C (I:=I) hB n
  have h3:=JaE (I:=I) hB s.pos
  simp only[costB]
  split
  ·omega
  ·split<;>omega
theorem J1C {B I:List Int} (hB:bdD B):∀l:List Br,0≤costL B I l
 |[]=>by simp[costL]
 |b::l=>by
  have h1:=Jai (I:=I) hB b
  have h2:=J1C (I:=I) hB l
  simp only[costL]
  omega
end
theorem Jby (c:Cls) (hwc:wCls c≤1048576) (B:List Int) (hB:bdD B):∀(N:Nat) (l:List Sm) (R:List Br),l.length=N→l.length≤1048576→growI l=some R→goodL B c.insts R→
  PFun X 132 [.agg ((eCls c).map .d),.d (.im (l.map eSm)),.d (.im (B.map eNum))] (vi (min (costL B c.insts R) 400001)):=by
 intro N
 induction N using Nat.strongRecOn with
 |_ N ih=>
  intro l R hN hl hgr hgd
  have hnn:=J1C (I:=c.insts) hB
  have fin:∀{v:Int},v=min (costL B c.insts R) 400001→AEnd.ret (vi v)=AEnd.ret (vi (min (costL B c.insts R) 400001)):=fun h=>by rw[h]
  refine Jn Tryz.func132 rfl (by decide) Tryz.ntmps132 Tryz.results132 (by simp) rfl rfl ?_
  repeat' first|refine Z1 ?_|refine Z2 ?_|refine Zo ?_|refine J6 ?_|refine J5 ?_
  refine Jq (ι:=Nat×Int) (fun x_=>envL [(1,.d (.im (l.map eSm))),(2,.d (.im (B.map eNum))),(3,.ref 0 0),(7,vi x_.2),(8,vi x_.1)]) (fun x_=>stL [some (.var ((eCls c).map .d))]) (fun x_=>x_.1≤l.length∧0≤x_.2∧x_.2≤400001∧∃T,growI (l.drop x_.1)=some T∧goodL B c.insts T∧min (x_.2+costL B c.insts T) 400001=min (costL B c.insts R) 400001) (fun x_=>l.length-x_.1) (0,0) (⟨Nat.zero_le _,Int.le_refl _,by simp only;omega,R,hgr,hgd,by simp only[Int.zero_add]⟩) (Jj rfl ⟨.refl _,.refl _,.refl _,.refl _,.refl _,trivial⟩ ⟨⟨rfl,_,rfl,rfl,fun _ _ _=>.refl _⟩,trivial⟩) (fun _=>Nat.le_refl 1) ?_
  rintro⟨i,v⟩ ⟨i1,i2,i3,T,i4,i5,i6⟩
  simp only at i1 i2 i3 i4 i5 i6
  rcases hx:l[i]? with _|s
  ·have hle:=Jo hx
   have ek:decide ((i:Int)<(l.length:Int))=false:=J1 (by omega)
   rw[Jr hx,J6f,Option.some.injEq]at i4
   subst i4
   simp only[costL]at i6
   repeat' first|refine Z1 ?_|refine Z2 ?_|refine Z5 ?_|refine Zd ?_|refine Zo ?_|refine J6 ?_|refine Zq ?_|refine Jh ?_|refine Jb ?_|refine J3 ?_|refine Ja ?_|refine Zv ?_|refine Zt ?_
   exact fin (by omega)
  obtain⟨hd,hlt⟩:=Ji hx
  have ek:decide ((i:Int)<(l.length:Int))=true:=J0 (by omega)
  have hsp:=JJ i4
  rw[hd]at hsp
  by_cases k4:s.kind=4
  ·have d4:decide (s.kind=4)=true:=J0 k4
   obtain⟨y,e,n,f,r2,Y,N2,T2,hr,h5,h6,hy,hn,ht,hT⟩:=J7M k4 hsp
   subst hT
   rw[hr]at hd
   have hp:partsS l i=(((i+1+y.length:Nat):Int),((i+1+y.length+1+n.length:Nat):Int)):=by unfold partsS;rw[hd];exact J2E k4 h5 h6 hy hn r2 i
   have hps:=J3k l i i1 hl
   rw[hp]at hps
   obtain⟨c0,c1,c2,c3⟩:=J63 hd
   simp only[goodL,goodB]at i5
   obtain⟨⟨g1,g2,g3⟩,g4⟩:=i5
   have hcy:=ih y.length (by omega) y Y rfl (by omega) (JM hy) g2
   have hcn:=ih n.length (by omega) n N2 rfl (by omega) (JM hn) g3
   have n1:=hnn Y
   have n2:=hnn N2
   have n3:=hnn T2
   simp only[costL,costB]at i6
   rw[if_neg (by omega),if_pos k4]at i6
   generalize hcY:costL B c.insts Y=cY at hcy n1 i6
   generalize hcN:costL B c.insts N2=cN at hcn n2 i6
   have hgt:growI (l.drop (i+1+y.length+1+n.length+1))=some T2:=by rw[c3];exact JM ht
   by_cases hmx:min cY 400001<min cN 400001
   ·have em:decide (min cY 400001<min cN 400001)=true:=J0 hmx
    by_cases hb:400000<v+(1+min cN 400001)
    ·have eb:decide (400000<v+(1+min cN 400001))=true:=J0 hb
     repeat' first|refine Z1 ?_|refine Z2 ?_|refine Z3 ?_|refine Z5 ?_|refine Zc (hps) ?_|refine Zd ?_|refine Ze ?_|refine Zf ?_|refine Zw ?_|refine Zx ?_|refine Zz (Ysl (e:=eSm) (l:=l) (i+1) (i+1+y.length) y c1 ⟨rfl,rfl⟩) ?_|refine Zz (Ysl (e:=eSm) (l:=l) (i+1+y.length+1) (i+1+y.length+1+n.length) n c2 ⟨rfl,rfl⟩) ?_|refine Zz (Zc (hcy) ⟨rfl,rfl⟩) ?_|refine Zz (Zc (hcn) ⟨rfl,rfl⟩) ?_|refine Zz (Zf ⟨rfl,rfl⟩) ?_|refine Zo ?_|refine J6 ?_|refine Jf ?_|refine Jx Jp (by decide +kernel) ?_|refine Zp ?_|refine J5 ?_|refine J8 ?_|refine J3 ?_|refine J4 ?_
     exact⟨(i+1+y.length+1+n.length+1,400001),⟨by simp only;omega,by simp only;omega,by simp only;omega,T2,hgt,g4,by simp only;omega⟩,by(try simp only);omega,Jl (Nat.le_of_ble_eq_true rfl) ⟨⟨rfl,rfl⟩,⟨rfl,rfl⟩,⟨rfl,rfl⟩,⟨rfl,rfl⟩,⟨rfl,rfl⟩,trivial⟩ ⟨⟨rfl,rfl⟩,trivial⟩⟩
    ·have eb:decide (400000<v+(1+min cN 400001))=false:=J1 hb
     repeat' first|refine Z1 ?_|refine Z2 ?_|refine Z3 ?_|refine Z5 ?_|refine Zc (hps) ?_|refine Zd ?_|refine Ze ?_|refine Zf ?_|refine Zw ?_|refine Zx ?_|refine Zz (Ysl (e:=eSm) (l:=l) (i+1) (i+1+y.length) y c1 ⟨rfl,rfl⟩) ?_|refine Zz (Ysl (e:=eSm) (l:=l) (i+1+y.length+1) (i+1+y.length+1+n.length) n c2 ⟨rfl,rfl⟩) ?_|refine Zz (Zc (hcy) ⟨rfl,rfl⟩) ?_|refine Zz (Zc (hcn) ⟨rfl,rfl⟩) ?_|refine Zz (Zf ⟨rfl,rfl⟩) ?_|refine Zo ?_|refine J6 ?_|refine Jf ?_|refine Jx Jp (by decide +kernel) ?_|refine Zp ?_|refine Zq ?_|refine J5 ?_|refine J8 ?_|refine J3 ?_|refine J4 ?_
     exact⟨(i+1+y.length+1+n.length+1,v+(1+min cN 400001)),⟨by simp only;omega,by simp only;omega,by simp only;omega,T2,hgt,g4,by simp only;omega⟩,by(try simp only);omega,Jl (Nat.le_of_ble_eq_true rfl) ⟨⟨rfl,rfl⟩,⟨rfl,rfl⟩,⟨rfl,rfl⟩,⟨rfl,rfl⟩,⟨rfl,rfl⟩,trivial⟩ ⟨⟨rfl,rfl⟩,trivial⟩⟩
   ·have em:decide (min cY 400001<min cN 400001)=false:=J1 hmx
    by_cases hb:400000<v+(1+min cY 400001)
    ·have eb:decide (400000<v+(1+min cY 400001))=true:=J0 hb
     repeat' first|refine Z1 ?_|refine Z2 ?_|refine Z3 ?_|refine Z5 ?_|refine Zc (hps) ?_|refine Zd ?_|refine Ze ?_|refine Zf ?_|refine Zw ?_|refine Zx ?_|refine Zz (Ysl (e:=eSm) (l:=l) (i+1) (i+1+y.length) y c1 ⟨rfl,rfl⟩) ?_|refine Zz (Ysl (e:=eSm) (l:=l) (i+1+y.length+1) (i+1+y.length+1+n.length) n c2 ⟨rfl,rfl⟩) ?_|refine Zz (Zc (hcy) ⟨rfl,rfl⟩) ?_|refine Zz (Zc (hcn) ⟨rfl,rfl⟩) ?_|refine Zz (Zf ⟨rfl,rfl⟩) ?_|refine Zo ?_|refine J6 ?_|refine Jf ?_|refine Jx Jp (by decide +kernel) ?_|refine Zp ?_|refine Zq ?_|refine J5 ?_|refine J8 ?_|refine J3 ?_|refine J4 ?_
     exact⟨(i+1+y.length+1+n.length+1,400001),⟨by simp only;omega,by simp only;omega,by simp only;omega,T2,hgt,g4,by simp only;omega⟩,by(try simp only);omega,Jl (Nat.le_of_ble_eq_true rfl) ⟨⟨rfl,rfl⟩,⟨rfl,rfl⟩,⟨rfl,rfl⟩,⟨rfl,rfl⟩,⟨rfl,rfl⟩,trivial⟩ ⟨⟨rfl,rfl⟩,trivial⟩⟩
    ·have eb:decide (400000<v+(1+min cY 400001))=false:=J1 hb
     repeat' first|refine Z1 ?_|refine Z2 ?_|refine Z3 ?_|refine Z5 ?_|refine Zc (hps) ?_|refine Zd ?_|refine Ze ?_|refine Zf ?_|refine Zw ?_|refine Zx ?_|refine Zz (Ysl (e:=eSm) (l:=l) (i+1) (i+1+y.length) y c1 ⟨rfl,rfl⟩) ?_|refine Zz (Ysl (e:=eSm) (l:=l) (i+1+y.length+1) (i+1+y.length+1+n.length) n c2 ⟨rfl,rfl⟩) ?_|refine Zz (Zc (hcy) ⟨rfl,rfl⟩) ?_|refine Zz (Zc (hcn) ⟨rfl,rfl⟩) ?_|refine Zz (Zf ⟨rfl,rfl⟩) ?_|refine Zo ?_|refine J6 ?_|refine Jf ?_|refine Jx Jp (by decide +kernel) ?_|refine Zp ?_|refine Zq ?_|refine J5 ?_|refine J8 ?_|refine J3 ?_|refine J4 ?_
     exact⟨(i+1+y.length+1+n.length+1,v+(1+min cY 400001)),⟨by simp only;omega,by simp only;omega,by simp only;omega,T2,hgt,g4,by simp only;omega⟩,by(try simp only);omega,Jl (Nat.le_of_ble_eq_true rfl) ⟨⟨rfl,rfl⟩,⟨rfl,rfl⟩,⟨rfl,rfl⟩,⟨rfl,rfl⟩,⟨rfl,rfl⟩,trivial⟩ ⟨⟨rfl,rfl⟩,trivial⟩⟩
  have d4:decide (s.kind=4)=false:=J1 k4
  obtain⟨_,_,T2,ht,hT⟩:=J55 k4 hsp
  subst hT
  simp only[goodL,goodB]at i5
  obtain⟨⟨g1,_⟩,g4⟩:=i5
  have n3:=hnn T2
  simp only[costL,costB]at i6
  by_cases k3:s.kind=3
  ·have d3:decide (s.kind=3)=true:=J0 k3
   obtain⟨p0,g,b,hI,g0,hb⟩:=g1 k3
   rw[if_pos k3]at i6
   have hc:callC B c.insts s.pos=b:=by unfold callC;rw[hI];simp only[Option.getD_some];rw[hb];rfl
   rw[hc]at i6
   have hbb:=hB b (List.mem_of_getElem? hb)
   obtain⟨p,hp⟩:∃p:Nat,s.pos=(p:Int):=⟨s.pos.toNat,by omega⟩
   obtain⟨q,hq⟩:∃q:Nat,g=(q:Int):=⟨g.toNat,by omega⟩
   rw[hp,Int.toNat_natCast]at hI
   rw[hq,Int.toNat_natCast]at hb
   by_cases hm:400000<v+(1+b)
   ·have eb:decide (400000<v+(1+b))=true:=J0 hm
    repeat' first|refine Z1 ?_|refine Z2 ?_|refine Z3 ?_|refine Z5 ?_|refine Zd ?_|refine Ze ?_|refine Zf ?_|refine Zw ?_|refine Zy ?_|refine Zz (Yej (e:=eNum) (n:=s.pos) p hp hI ⟨rfl,rfl⟩) ?_|refine Zz (Yej (e:=eNum) (n:=g) q hq hb ⟨rfl,rfl⟩) ?_|refine Zz (Ze ⟨rfl,rfl⟩) ?_|refine Zz (Zf ⟨rfl,rfl⟩) ?_|refine Zo ?_|refine J6 ?_|refine Jf ?_|refine Jx Jp (by decide +kernel) ?_|refine Zp ?_|refine Zq ?_|refine J5 ?_|refine J8 ?_|refine J3 ?_|refine J4 ?_
    exact⟨(i+1,400001),⟨hlt,by simp only;omega,by simp only;omega,T2,JM ht,g4,by simp only;omega⟩,by(try simp only);omega,Jl (Nat.le_of_ble_eq_true rfl) ⟨⟨rfl,rfl⟩,⟨rfl,rfl⟩,⟨rfl,rfl⟩,⟨rfl,rfl⟩,⟨rfl,rfl⟩,trivial⟩ ⟨⟨rfl,rfl⟩,trivial⟩⟩
   ·have eb:decide (400000<v+(1+b))=false:=J1 hm
    repeat' first|refine Z1 ?_|refine Z2 ?_|refine Z3 ?_|refine Z5 ?_|refine Zd ?_|refine Ze ?_|refine Zf ?_|refine Zw ?_|refine Zy ?_|refine Zz (Yej (e:=eNum) (n:=s.pos) p hp hI ⟨rfl,rfl⟩) ?_|refine Zz (Yej (e:=eNum) (n:=g) q hq hb ⟨rfl,rfl⟩) ?_|refine Zz (Ze ⟨rfl,rfl⟩) ?_|refine Zz (Zf ⟨rfl,rfl⟩) ?_|refine Zo ?_|refine J6 ?_|refine Jf ?_|refine Jx Jp (by decide +kernel) ?_|refine Zp ?_|refine Zq ?_|refine J5 ?_|refine J8 ?_|refine J3 ?_|refine J4 ?_
    exact⟨(i+1,v+(1+b)),⟨hlt,by simp only;omega,by simp only;omega,T2,JM ht,g4,by simp only;omega⟩,by(try simp only);omega,Jl (Nat.le_of_ble_eq_true rfl) ⟨⟨rfl,rfl⟩,⟨rfl,rfl⟩,⟨rfl,rfl⟩,⟨rfl,rfl⟩,⟨rfl,rfl⟩,trivial⟩ ⟨⟨rfl,rfl⟩,trivial⟩⟩
  have d3:decide (s.kind=3)=false:=J1 k3
  rw[if_neg k3,if_neg k4]at i6
  by_cases hm:400000<v+1
  ·have eb:decide (400000<v+1)=true:=J0 hm
   repeat' first|refine Z1 ?_|refine Z2 ?_|refine Z3 ?_|refine Z5 ?_|refine Zd ?_|refine Ze ?_|refine Zf ?_|refine Zo ?_|refine J6 ?_|refine Jf ?_|refine Zp ?_|refine Zq ?_|refine J5 ?_|refine J8 ?_|refine J3 ?_|refine J4 ?_
   exact⟨(i+1,400001),⟨hlt,by simp only;omega,by simp only;omega,T2,JM ht,g4,by simp only;omega⟩,by(try simp only);omega,Jl (Nat.le_of_ble_eq_true rfl) ⟨⟨rfl,rfl⟩,⟨rfl,rfl⟩,⟨rfl,rfl⟩,⟨rfl,rfl⟩,⟨rfl,rfl⟩,trivial⟩ ⟨⟨rfl,rfl⟩,trivial⟩⟩
  ·have eb:decide (400000<v+1)=false:=J1 hm
   repeat' first|refine Z1 ?_|refine Z2 ?_|refine Z3 ?_|refine Z5 ?_|refine Zd ?_|refine Ze ?_|refine Zf ?_|refine Zo ?_|refine J6 ?_|refine Jf ?_|refine Zp ?_|refine Zq ?_|refine J5 ?_|refine J8 ?_|refine J3 ?_|refine J4 ?_
   exact⟨(i+1,v+1),⟨hlt,by simp only;omega,by simp only;omega,T2,JM ht,g4,by simp only;omega⟩,by(try simp only);omega,Jl (Nat.le_of_ble_eq_true rfl) ⟨⟨rfl,rfl⟩,⟨rfl,rfl⟩,⟨rfl,rfl⟩,⟨rfl,rfl⟩,⟨rfl,rfl⟩,trivial⟩ ⟨⟨rfl,rfl⟩,trivial⟩⟩
def boundV (B:List Int) (c:Cls):Int:=min (costL B c.insts ((growI c.body).getD [])) 400001
def boundsGo:List Int→List Cls→List Int
 |B,[]=>B
 |B,c::r=>boundsGo (B++[boundV B c]) r
def boundsS (cs:List Cls):List Int:=boundsGo [] cs
def goodC (k:Nat) (c:Cls):Prop:=(∃R,growI c.body=some R)∧(∀g∈c.insts,0≤g∧g<(k:Int))∧∀s∈c.body,s.kind=3→0≤s.pos∧s.pos<(c.insts.length:Int)
theorem J4o {k:Nat} {c:Cls} (h:goodC k c) {B:List Int} (hB:B.length=k):∀s∈c.body,goodS B c.insts s:=by
 intro s hs h3
 obtain⟨_,h1,h2⟩:=h
 obtain⟨g1,g2⟩:=h2 s hs h3
 have hig:c.insts[s.pos.toNat]? = some (c.insts[s.pos.toNat]'(by omega)):=List.getElem?_eq_getElem (by omega)
 obtain⟨g3,g4⟩:=h1 _ (List.mem_of_getElem? hig)
 exact⟨g1,_,_,hig,g3,List.getElem?_eq_getElem (by omega)⟩
theorem J8h (cs:List Cls) (hw:wL wCls cs≤1048576) (hg:∀(k:Nat) (c:Cls),cs[k]? = some c→goodC k c):PFun X 79 [.agg [.d (.im (cs.map eCls))]] (.d (.im ((boundsS cs).map eNum))):=by
 have hcl:cs.length≤1048576:=by simp only[wL]at hw;omega
 refine Jn Tryz.func79 rfl (by decide) Tryz.ntmps79 Tryz.results79 (by simp) rfl rfl ?_
 repeat' first|refine Z1 ?_|refine Z2 ?_|refine Z5 ?_|refine J3v rfl rfl rfl rfl rfl rfl rfl ?_|refine Zd ?_|refine Zo ?_|refine J6 ?_|refine J5 ?_
 refine JX (ι:=Nat×List Int) (fun x_=>envL [(1,.ref 0 0),(3,.sl 1 2 0 x_.2.length),(8,.d (.im (cs.map eCls))),(9,vi cs.length),(10,vi x_.1)]) (fun x_=>stL [some (.var [.d (.im (cs.map eCls))]),some (.row 2 3 1 (im2 eNum x_.2)),none]) (fun x_=>x_.1≤cs.length∧x_.2.length=x_.1∧bdD x_.2∧boundsGo x_.2 (cs.drop x_.1)=boundsS cs) (fun x_=>cs.length-x_.1) (0,[]) (⟨Nat.zero_le _,rfl,fun x hx=>by simp at hx,rfl⟩) Turn.refl (Js [(2,1)] rfl rfl rfl ⟨⟨rfl,rfl⟩,⟨rfl,rfl⟩,⟨rfl,rfl⟩,⟨rfl,rfl⟩,⟨rfl,rfl⟩,trivial⟩ ⟨⟨rfl,rfl⟩,⟨Jd rfl (by first|exact Jg _ _ _|rfl),Je rfl,Jc _ _ _⟩,trivial⟩) ?_
 rintro⟨k,B⟩ ⟨i1,i2,i3,i5⟩
 simp only at i1 i2 i3 i5
 rcases hx:cs[k]? with _|c
 ·have hle:=Jo hx
  have ek:decide ((k:Int)<(cs.length:Int))=false:=J1 (by omega)
  rw[Jr hx]at i5
  have i5:B=boundsS cs:=i5
  subst i5
  repeat' first|refine Z1 ?_|refine Z2 ?_|refine J0I (e:=eNum) (l:=boundsS cs) rfl 2 rfl rfl rfl ?_|refine Zo ?_|refine J6 ?_|refine Zq ?_|refine Jh ?_|refine Jb ?_|refine J3 ?_|refine Ja ?_|refine Zv ?_|refine Zt ?_
  rfl
 obtain⟨hd,hlt⟩:=Ji hx
 have ek:decide ((k:Int)<(cs.length:Int))=true:=J0 (by omega)
 have hwc:wCls c≤1048576:=by have:=JE (w:=wCls) (List.mem_of_getElem? hx);simp only[wL]at hw;omega
 have hl:=J3G hwc
 have hgc:=hg k c hx
 obtain⟨R,hR⟩:=hgc.1
 obtain⟨gg,_⟩:=J3F (J4o hgc i2) hR
 have hsum:=Jby c hwc B i3 c.body.length c.body R rfl (by omega) hR gg
 have hbv:boundV B c=min (costL B c.insts R) 400001:=by unfold boundV;rw[hR];rfl
 have hnn:=J1C (I:=c.insts) i3 R
 rw[←hbv]at hsum
 rw[hd]at i5
 simp only[boundsGo]at i5
 have hpush:bdD (B++[boundV B c]):=by
  intro z hz
  rcases List.mem_append.1 hz with h'|h'
  ·exact i3 z h'
  ·simp only[List.mem_singleton]at h';subst h';omega
 repeat' first|refine Z1 ?_|refine Z2 ?_|refine Z3 ?_|refine Z4 ?_|refine Z5 ?_|refine Ym (PFun.lendL (args:=[.agg ((eCls c).map .d),.d (.im (c.body.map eSm)),.sl 1 2 0 B.length]) hsum ⟨JaZ _,J69 _,.data (J0j rfl rfl),trivial⟩) ?_|refine Yl (e:=eNum) (l:=B) [boundV B c] ?_|refine Ze ?_|refine Zf ?_|refine Zo ?_|refine J6 ?_|refine Jf ?_|refine Zp ?_|refine J5 ?_|refine J8 ?_|refine J3 ?_|refine J4 ?_
 exact⟨(k+1,B++[boundV B c]),⟨hlt,by simp[i2],hpush,i5⟩,by(try simp only);omega,Js [(2,5)] rfl rfl rfl ⟨⟨rfl,rfl⟩,⟨rfl,rfl⟩,⟨rfl,rfl⟩,⟨rfl,rfl⟩,⟨rfl,rfl⟩,trivial⟩ ⟨⟨rfl,rfl⟩,⟨Jd rfl (by first|exact Jg _ _ _|rfl),Je rfl,Jc _ _ _⟩,trivial⟩⟩
end Go.Pm
/- Part of the proof: Ml1. -/
namespace Go.Pm
theorem J2C {s:ByteArray}:∀{l:List ByteArray} {j:Nat},s∉l→placeS s j l=-1
 |[],_,_=>rfl
 |x::l,j,h=>by
  simp only[List.mem_cons,not_or]at h
  simp only[placeS]
  rw[if_neg (fun e=>h.1 e.symm),J2C h.2]
theorem J1x {s:ByteArray}:∀{l:List ByteArray} (m:List ByteArray) {j:Nat},s∈l→(j:Int)≤placeS s j (l++m)∧placeS s j (l++m)<((j+l.length:Nat):Int)
 |x::l,m,j,h=>by
  simp only[List.cons_append,placeS,List.length_cons]
  by_cases hx:x=s
  ·rw[if_pos hx];omega
  ·rw[if_neg hx]
   have:=J1x (l:=l) m (j:=j+1) (by simpa[Ne.symm hx]using h)
   omega
theorem J1K {s:ByteArray}:∀{l:List ByteArray} (m:List ByteArray) {j:Nat},s∉l→placeS s j (l++m)=placeS s (j+l.length) m
 |[],m,j,_=>rfl
 |x::l,m,j,h=>by
  simp only[List.mem_cons,not_or]at h
  simp only[List.cons_append,placeS,List.length_cons]
  rw[if_neg (fun e=>h.1 e.symm),J1K m h.2]
  congr 1;omega
theorem J8P {s:ByteArray} {l:List ByteArray} {j:Nat} (h:s∈l):(j:Int)≤placeS s j l:=by
 have:=(J1x (s:=s) [] (j:=j) h).1
 rwa [List.append_nil]at this
theorem J5i (p:List ByteArray):∀(l q:List ByteArray),q++l=p→(varsGo p q.length l=true↔(∀x∈l,nameS x=true∧x∉q)∧l.Nodup)
 |[],q,_=>by simp[varsGo]
 |x::l,q,e=>by
  have ih:=J5i p l (q++[x]) (by simpa using e)
  rw[List.length_append,List.length_singleton]at ih
  have hp:placeS x 0 p<(q.length:Int)↔x∈q:=by
   constructor
   ·intro h
    by_cases hx:x∈q
    ·exact hx
    ·rw[←e,J1K _ hx]at h
     simp only[placeS,if_true]at h
     omega
   ·intro h
    have:=(J1x (s:=x) (x::l) (j:=0) h).2
    rw[e]at this
    omega
  simp only[varsGo]
  cases hn:nameS x with
  |false=>simp[hn]
  |true=>
   by_cases hq:x∈q
   ·rw[if_pos (.inr (hp.2 hq))]
    simp[hq]
   ·rw[if_neg (fun h=>h.elim (by simp) (fun h=>hq (hp.1 h))),ih]
    simp only[List.mem_cons,List.nodup_cons,List.mem_append,List.not_mem_nil,or_false,not_or]
    constructor
    ·rintro⟨h1,h2⟩
     refine⟨fun y hy=>?_,fun hx=>(h1 x hx).2.2 rfl,h2⟩
     rcases hy with rfl|hy
     ·exact⟨hn,hq⟩
     ·exact⟨(h1 y hy).1,(h1 y hy).2.1⟩
    ·rintro⟨h1,h2,h3⟩
     exact⟨fun y hy=>⟨(h1 y (.inr hy)).1,(h1 y (.inr hy)).2,fun e=>h2 (e▸hy)⟩,h3⟩
theorem J62 (l:List ByteArray):varsGo l 0 l=true↔(∀x∈l,nameS x=true)∧l.Nodup:=by
 have:=J5i l l [] rfl
 simpa using this
def tyOK (x:Slt):Prop:=x.type=1∨x.type=2
theorem J7s (x:Slt):typS x=true↔tyOK x:=by simp only[typS,Bool.and_eq_true,decide_eq_true_eq,tyOK];omega
theorem J6d (F:Vm) (s:ByteArray):addOK F s=true↔nameS s=true∧sfind F s=none:=by
 unfold addOK
 rw[J45]
 cases sfind F s<;>simp
theorem J0J (v:Int):∀(l:List Slt) (F:Vm),slotGo v F l=none↔¬((∀x∈l,nameS x.name=true∧tyOK x∧sfind F x.name=none)∧(l.map sNm).Nodup)
 |[],F=>by simp[slotGo]
 |x::l,F=>by
  simp only[slotGo,J6d]
  by_cases h:(nameS x.name=true∧sfind F x.name=none)∧(x.type=1∨x.type=2)
  ·rw[if_pos h,J0J v l]
   obtain⟨⟨h1,h2⟩,h3⟩:=h
   refine not_congr ?_
   simp only[List.mem_cons,List.map_cons,List.nodup_cons,List.mem_map,not_exists,not_and]
   constructor
   ·rintro⟨g1,g2⟩
    refine⟨fun y hy=>?_,fun y hy e=>?_,g2⟩
    ·rcases hy with rfl|hy
     ·exact⟨h1,h3,h2⟩
     ·obtain⟨a,b,c⟩:=g1 y hy
      rw[JB]at c
      refine⟨a,b,?_⟩
      split at c
      ·cases c
      ·exact c
    ·have:=(g1 y hy).2.2
     rw[JB,if_pos (show y.name=x.name from e)]at this;cases this
   ·rintro⟨g1,g2,g3⟩
    refine⟨fun y hy=>?_,g3⟩
    obtain⟨a,b,c⟩:=g1 y (.inr hy)
    refine⟨a,b,?_⟩
    rw[JB,if_neg (show ¬y.name=x.name from fun e=>g2 y hy e)]
    exact c
  ·rw[if_neg h]
   simp only[true_iff]
   intro hc
   obtain⟨a,b,c⟩:=hc.1 x List.mem_cons_self
   exact h ⟨⟨a,c⟩,b⟩
open Classical in
theorem J1T (v:Int):∀(l:List Slt) (F F':Vm),slotGo v F l=some F'→∀s,sfind F' s=if s∈l.map sNm then some v else sfind F s
 |[],F,F',h,s=>by simp only[slotGo,Option.some.injEq]at h;subst h;simp
 |x::l,F,F',h,s=>by
  simp only[slotGo]at h
  split at h
  ·rw[J1T v l _ F' h s,JB]
   by_cases h1:s∈l.map sNm
   ·simp[h1]
   ·by_cases h2:s=x.name
    ·simp[h1,h2,sNm]
    ·simp[h1,h2,sNm]
  ·cases h
theorem J2z:∀(l:List ByteArray) (F:Vm),locGo F l=none↔¬((∀x∈l,nameS x=true∧sfind F x=none)∧l.Nodup)
 |[],F=>by simp[locGo]
 |x::l,F=>by
  simp only[locGo,J6d]
  by_cases h:nameS x=true∧sfind F x=none
  ·rw[if_pos h,J2z l]
   obtain⟨h1,h2⟩:=h
   refine not_congr ?_
   simp only[List.mem_cons,List.nodup_cons]
   constructor
   ·rintro⟨g1,g2⟩
    refine⟨fun y hy=>?_,fun hx=>?_,g2⟩
    ·rcases hy with rfl|hy
     ·exact⟨h1,h2⟩
     ·obtain⟨a,c⟩:=g1 y hy
      rw[JB]at c
      refine⟨a,?_⟩
      split at c
      ·cases c
      ·exact c
    ·have:=(g1 x hx).2
     rw[JB,if_pos rfl]at this;cases this
   ·rintro⟨g1,g2,g3⟩
    refine⟨fun y hy=>?_,g3⟩
    obtain⟨a,c⟩:=g1 y (.inr hy)
    exact⟨a,by rw[JB,if_neg (show ¬y=x from fun e=>g2 (e▸hy))];exact c⟩
  ·rw[if_neg h]
   simp only[true_iff]
   intro hc
   exact h (hc.1 x List.mem_cons_self)
open Classical in
theorem J4m:∀(l:List ByteArray) (F F':Vm),locGo F l=some F'→∀s,sfind F' s=if s∈l then some 1 else sfind F s
 |[],F,F',h,s=>by simp only[locGo,Option.some.injEq]at h;subst h;simp
 |x::l,F,F',h,s=>by
  simp only[locGo]at h
  split at h
  ·rw[J4m l _ F' h s,JB]
   by_cases h1:s∈l
   ·simp[h1]
   ·by_cases h2:s=x
    ·simp[h1,h2]
    ·simp[h1,h2]
  ·cases h
open Classical in
def mapOf (c:Cls) (F:Vm):Prop:=∀s,sfind F s=if s∈c.outs.map sNm∨s∈c.locs then some 1 else if s∈c.ins.map sNm then some 0 else none
open Classical in
theorem J8D (c:Cls):(((∀x∈nmsC c,nameS x=true)∧(nmsC c).Nodup∧∀x∈c.ins++c.outs,tyOK x)→∃F,(slotsGo 0 [c.ins,c.outs] []).bind (fun F=>locGo F c.locs)=some F∧mapOf c F)∧
  (¬((∀x∈nmsC c,nameS x=true)∧(nmsC c).Nodup∧∀x∈c.ins++c.outs,tyOK x)→(slotsGo 0 [c.ins,c.outs] []).bind (fun F=>locGo F c.locs)=none):=by
 have e0:slotsGo 0 [c.ins,c.outs] []=(slotGo 0 [] c.ins).bind fun F=>slotGo 1 F c.outs:=by
  simp only[slotsGo]
  cases slotGo ((0:Nat):Int) [] c.ins with
  |none=>rfl
  |some F=>
   simp only[Option.bind_some]
   cases slotGo ((0+1:Nat):Int) F c.outs<;>rfl
 rw[e0]
 have nd:(nmsC c).Nodup↔(c.ins.map sNm).Nodup∧(c.outs.map sNm).Nodup∧(∀x∈c.ins.map sNm,x∉c.outs.map sNm)∧c.locs.Nodup∧∀x,(x∈c.ins.map sNm∨x∈c.outs.map sNm)→x∉c.locs:=by
  unfold nmsC
  rw[List.nodup_append,List.nodup_append]
  constructor
  ·rintro⟨⟨a,b,d⟩,e,f⟩
   exact⟨a,b,fun x hx hy=>d x hx x hy rfl,e,fun x hx hy=>f x (by simpa using hx) x hy rfl⟩
  ·rintro⟨a,b,d,e,f⟩
   exact⟨⟨a,b,fun x hx y hy h=>d x hx (h▸hy)⟩,e,fun x hx y hy h=>f x (by simpa using hx) (h▸hy)⟩
 have nm:(∀x∈nmsC c,nameS x=true)↔(∀x∈c.ins,nameS x.name=true)∧(∀x∈c.outs,nameS x.name=true)∧∀x∈c.locs,nameS x=true:=by
  unfold nmsC
  simp only[List.mem_append,List.mem_map]
  constructor
  ·intro h
   exact⟨fun x hx=>h _ (.inl (.inl ⟨x,hx,rfl⟩)),fun x hx=>h _ (.inl (.inr ⟨x,hx,rfl⟩)),fun x hx=>h x (.inr hx)⟩
  ·rintro⟨a,b,d⟩ x ((⟨y,hy,rfl⟩|⟨y,hy,rfl⟩)|hx)
   ·exact a y hy
   ·exact b y hy
   ·exact d x hx
 rw[nd,nm]
 cases h1:slotGo 0 [] c.ins with
 |none=>
  have g1:=(J0J 0 c.ins []).1 h1
  refine⟨fun h=>absurd ⟨fun x hx=>⟨h.1.1 x hx,h.2.2 x (by simp[hx]),rfl⟩,h.2.1.1⟩ g1,fun _=>rfl⟩
 |some F1=>
  have g1:(∀x∈c.ins,nameS x.name=true∧tyOK x∧sfind ([]:Vm) x.name=none)∧(c.ins.map sNm).Nodup:=by
   rcases Classical.em ((∀x∈c.ins,nameS x.name=true∧tyOK x∧sfind ([]:Vm) x.name=none)∧(c.ins.map sNm).Nodup)with h|h
   ·exact h
   ·rw[(J0J 0 c.ins []).2 h]at h1;cases h1
  have f1:=J1T 0 c.ins [] F1 h1
  simp only[Option.bind_some]
  cases h2:slotGo 1 F1 c.outs with
  |none=>
   have g2:=(J0J 1 c.outs F1).1 h2
   refine⟨fun h=>absurd ⟨fun x hx=>⟨h.1.2.1 x hx,h.2.2 x (by simp[hx]),?_⟩,h.2.1.2.1⟩ g2,fun _=>rfl⟩
   rw[f1,if_neg (show ¬x.name∈c.ins.map sNm from fun hy=>h.2.1.2.2.1 _ hy (List.mem_map.2 ⟨x,hx,rfl⟩))];rfl
  |some F2=>
   have g2:(∀x∈c.outs,nameS x.name=true∧tyOK x∧sfind F1 x.name=none)∧(c.outs.map sNm).Nodup:=by
    rcases Classical.em ((∀x∈c.outs,nameS x.name=true∧tyOK x∧sfind F1 x.name=none)∧(c.outs.map sNm).Nodup)with h|h
    ·exact h
    ·rw[(J0J 1 c.outs F1).2 h]at h2;cases h2
   have f2:=J1T 1 c.outs F1 F2 h2
   simp only[Option.bind_some]
   cases h3:locGo F2 c.locs with
   |none=>
    have g3:=(J2z c.locs F2).1 h3
    refine⟨fun h=>absurd ⟨fun x hx=>⟨h.1.2.2 x hx,?_⟩,h.2.1.2.2.2.1⟩ g3,fun _=>rfl⟩
    rw[f2,if_neg (fun hy=>h.2.1.2.2.2.2 x (.inr hy) hx),f1,if_neg (fun hy=>h.2.1.2.2.2.2 x (.inl hy) hx)];rfl
   |some F3=>
    have g3:(∀x∈c.locs,nameS x=true∧sfind F2 x=none)∧c.locs.Nodup:=by
     rcases Classical.em ((∀x∈c.locs,nameS x=true∧sfind F2 x=none)∧c.locs.Nodup)with h|h
     ·exact h
     ·rw[(J2z c.locs F2).2 h]at h3;cases h3
    have f3:=J4m c.locs F2 F3 h3
    refine⟨fun _=>⟨F3,rfl,fun s=>?_⟩,fun h=>absurd ⟨⟨fun x hx=>(g1.1 x hx).1,fun x hx=>(g2.1 x hx).1,fun x hx=>(g3.1 x hx).1⟩,⟨g1.2,g2.2,?_,g3.2,?_⟩,?_⟩ h⟩
    ·rw[f3,f2,f1]
     by_cases a:s∈c.locs
     ·simp[a]
     ·by_cases b:s∈c.outs.map sNm
      ·simp only[a,b,if_true,if_false,true_or]
      ·simp only[a,b,if_false,or_self];rfl
    ·intro x hx hy
     obtain⟨y,hyo,rfl⟩:=List.mem_map.1 hy
     have:=(g2.1 y hyo).2.2
     rw[f1,if_pos (show y.name∈c.ins.map sNm from hx)]at this;cases this
    ·intro x hx hl
     have:=(g3.1 x hl).2
     rw[f2]at this
     rcases hx with hx|hx
     ·split at this
      ·cases this
      ·rw[f1,if_pos hx]at this;cases this
     ·rw[if_pos hx]at this;cases this
    ·intro x hx
     rcases List.mem_append.1 hx with h|h
     ·exact(g1.1 x h).2.1
     ·exact(g2.1 x h).2.1
end Go.Pm
/- Part of the proof: Ml2. -/
namespace Go.Pm
theorem J2J (l:List ByteArray) (s:ByteArray):inS l s=true↔s∈l:=by
 simp[inS]
theorem J8w (c:Cls) (s:ByteArray):s∈nmsC c↔s∈c.ins.map sNm∨s∈c.outs.map sNm∨s∈c.locs:=by
 unfold nmsC;simp only[List.mem_append,or_assoc]
theorem J4U {c:Cls} {F:Vm} (hF:mapOf c F) (s:ByteArray):(sfind F s).isSome=inS (nmsC c) s:=by
 rw[Bool.eq_iff_iff,J2J,J8w,hF s]
 by_cases h1:s∈c.outs.map sNm∨s∈c.locs
 ·rw[if_pos h1]
  simp only[Option.isSome_some,true_iff]
  exact .inr h1
 ·rw[if_neg h1]
  by_cases h2:s∈c.ins.map sNm
  ·rw[if_pos h2];simp[h2]
  ·rw[if_neg h2]
   simp only[Option.isSome_none,Bool.false_eq_true,false_iff]
   exact fun h=>h.elim h2 h1
theorem Jb1 {c:Cls} {F:Vm} (hF:mapOf c F) (hn:(nmsC c).Nodup) (s:ByteArray):setS c s=true↔sfind F s=some 1:=by
 rw[hF s]
 unfold setS
 rw[decide_eq_true_eq]
 have hl:(c.ins.map sNm).length=c.ins.length:=by simp
 have e:nmsC c=c.ins.map sNm++(c.outs.map sNm++c.locs):=by simp[nmsC]
 by_cases h2:s∈c.ins.map sNm
 ·have hno:¬(s∈c.outs.map sNm∨s∈c.locs):=by
   rw[e,List.nodup_append]at hn
   exact fun h=>hn.2.2 s h2 s (by simpa using h) rfl
  rw[if_neg hno,if_pos h2]
  have:=(J1x (s:=s) (c.outs.map sNm++c.locs) (j:=0) h2).2
  rw[←e]at this
  constructor
  ·intro h;omega
  ·intro h;simp at h
 ·by_cases h1:s∈c.outs.map sNm∨s∈c.locs
  ·rw[if_pos h1]
   simp only[iff_true]
   rw[e,J1K _ h2]
   have:=J8P (s:=s) (l:=c.outs.map sNm++c.locs) (j:=0+(c.ins.map sNm).length) (by simpa using h1)
   omega
  ·rw[if_neg h1,if_neg h2]
   rw[J2C (by rw[J8w];exact fun h=>h.elim h2 h1)]
   simp only[reduceCtorEq,iff_false]
   omega
theorem J5N {c:Cls} {F:Vm} (hF:mapOf c F) (hn:(nmsC c).Nodup) (W:Vm) (s:ByteArray):givenI F W s=true↔setS c s=true∧wget W s=0:=by
 rw[Jb1 hF hn]
 unfold givenI
 cases sfind F s with
 |none=>simp
 |some v=>simp
theorem J8x {c:Cls} {F:Vm} (hF:mapOf c F) (x:Itm):ciI F c.mems.length x=(itemS x&&itmS c x&&decide (1≤x.op∧x.op≤25)):=by
 unfold ciI itmS
 rw[JbG,J4U hF]
 by_cases h25:x.op=25
 ·have hi:itemS x=decide (x.name=⟨#[]⟩):=by
   unfold itemS
   simp only[h25]
   by_cases hn:x.name=⟨#[]⟩<;>simp[hn]
  rw[hi]
  simp only[h25]
  by_cases hn:x.name=⟨#[]⟩
  ·by_cases hv:x.val<0∨(c.mems.length:Int)≤x.val
   ·have:x.val<0∨(c.mems.length:Int)≤x.val∨x.name≠⟨#[]⟩:=by rcases hv with h|h;exact .inl h;exact .inr (.inl h)
    simp[hv,this,hn]
   ·have:¬(x.val<0∨(c.mems.length:Int)≤x.val∨x.name≠⟨#[]⟩):=fun h=>by rcases h with h|h|h;exact hv (.inl h);exact hv (.inr h);exact h hn
    simp[hv,this,hn]
  ·have:x.val<0∨(c.mems.length:Int)≤x.val∨x.name≠⟨#[]⟩:=.inr (.inr hn)
   simp[this,hn]
 ·by_cases h20:20<x.op
  ·simp[h25,h20]
  ·by_cases h1:x.op<1
   ·have:¬(1≤x.op):=by omega
    simp[h25,h20,h1,this]
   ·have g1:1≤x.op:=by omega
    have g2:x.op≤24:=by omega
    have g3:x.op≤25:=by omega
    cases hi:itemS x with
    |false=>simp[h25,h20,h1,g1,g2,g3]
    |true=>
     by_cases h3:x.op=3
     ·cases hk:inS (nmsC c) x.name<;>simp[h3,hk]
     ·simp[h25,h20,h1,g1,g2,g3,h3]
theorem J2K {c:Cls} {F:Vm} (hF:mapOf c F) (l:List Itm):codeI F c.mems.length l=mcodeS c l:=by
 unfold codeI mcodeS codeS
 by_cases h1:(l.length:Int)<1∨6000<(l.length:Int)
 ·have h2:(l.length:Int)<1∨6000<(l.length:Int)∨beginS l l.length 1≠0:=by omega
  simp[h1,h2]
 ·by_cases hb:beginS l l.length 1=0
  ·have h2:¬((l.length:Int)<1∨6000<(l.length:Int)∨beginS l l.length 1≠0):=by omega
   rw[if_neg h1,if_neg h2,Bool.eq_iff_iff]
   simp only[Bool.and_eq_true,List.all_eq_true]
   have hops:∀x∈l,1≤x.op∧x.op≤25:=by
    intro x hx
    obtain⟨j,hj⟩:=List.getElem?_of_mem hx
    have:=J66 l l.length 1 hb j x (Ji hj).2 hj
    unfold sarityI at this
    grind
   constructor
   ·rintro⟨ha,hp⟩
    refine⟨fun x hx=>?_,fun x hx=>?_⟩
    ·have:=ha x hx;rw[J8x hF]at this;simp only[Bool.and_eq_true]at this;exact this.1.1
    ·have:=ha x hx;rw[J8x hF]at this;simp only[Bool.and_eq_true]at this;exact this.1.2
   ·rintro⟨ha,hq⟩
    refine⟨fun x hx=>?_,?_⟩
    ·rw[J8x hF];simp only[Bool.and_eq_true,decide_eq_true_eq];exact⟨⟨ha x hx,hq x hx⟩,hops x hx⟩
    ·rw[J5L]
     have:=(J2y l hops l.length 1 (Nat.le_refl _) (by omega)).1 hb
     rwa [List.take_length]at this
  ·have h2:(l.length:Int)<1∨6000<(l.length:Int)∨beginS l l.length 1≠0:=.inr (.inr hb)
   rw[if_neg h1,if_pos h2,Bool.false_and,Bool.eq_false_iff]
   intro hc
   simp only[Bool.and_eq_true,List.all_eq_true]at hc
   obtain⟨ha,hp⟩:=hc
   have hr:∀x∈l,1≤x.op∧x.op≤25:=by
    intro x hx
    have:=ha x hx
    rw[J8x hF]at this
    simp only[Bool.and_eq_true,decide_eq_true_eq]at this
    exact this.2
   rw[J5L]at hp
   have:=(J2y l hr l.length 1 (Nat.le_refl _) (by omega)).2 (by rw[List.take_length];exact hp)
   exact hb this
theorem J3o (c:Cls) (p:List ByteArray):∀(l q:List ByteArray),q++l=p→(outsS c p q.length l=true↔(∀x∈l,setS c x=true∧x∉q)∧l.Nodup)
 |[],q,_=>by simp[outsS]
 |x::l,q,e=>by
  have ih:=J3o c p l (q++[x]) (by simpa using e)
  rw[List.length_append,List.length_singleton]at ih
  have hp:placeS x 0 p<(q.length:Int)↔x∈q:=by
   constructor
   ·intro h
    by_cases hx:x∈q
    ·exact hx
    ·rw[←e,J1K _ hx]at h
     simp only[placeS,if_true]at h
     omega
   ·intro h
    have:=(J1x (s:=x) (x::l) (j:=0) h).2
    rw[e]at this
    omega
  simp only[outsS]
  cases hn:setS c x with
  |false=>simp[hn]
  |true=>
   by_cases hq:x∈q
   ·rw[if_pos (.inr (hp.2 hq))]
    simp[hq]
   ·rw[if_neg (fun h=>h.elim (by simp) (fun h=>hq (hp.1 h))),ih]
    simp only[List.mem_cons,List.nodup_cons,List.mem_append,List.not_mem_nil,or_false,not_or]
    constructor
    ·rintro⟨h1,h2⟩
     refine⟨fun y hy=>?_,fun hx=>(h1 x hx).2.2 rfl,h2⟩
     rcases hy with rfl|hy
     ·exact⟨hn,hq⟩
     ·exact⟨(h1 y hy).1,(h1 y hy).2.1⟩
    ·rintro⟨h1,h2,h3⟩
     exact⟨fun y hy=>⟨(h1 y (.inr hy)).1,(h1 y (.inr hy)).2,fun e=>h2 (e▸hy)⟩,h3⟩
theorem J4A (F W:Vm):∀(l:List ByteArray) (E:List (ByteArray×Bool)),outsGo F W E l=true↔(∀x∈l,givenI F W x=true∧(sfind E x).getD false=false)∧l.Nodup
 |[],E=>by simp[outsGo]
 |x::l,E=>by
  simp only[outsGo]
  by_cases h:givenI F W x=true∧(sfind E x).getD false=false
  ·rw[if_pos h,J4A F W l]
   simp only[List.mem_cons,List.nodup_cons]
   constructor
   ·rintro⟨g1,g2⟩
    refine⟨fun y hy=>?_,fun hx=>?_,g2⟩
    ·rcases hy with rfl|hy
     ·exact h
     ·obtain⟨a,b⟩:=g1 y hy
      rw[JB]at b
      refine⟨a,?_⟩
      split at b
      ·cases b
      ·exact b
    ·have:=(g1 x hx).2
     rw[JB,if_pos rfl]at this;cases this
   ·rintro⟨g1,g2,g3⟩
    refine⟨fun y hy=>?_,g3⟩
    obtain⟨a,b⟩:=g1 y (.inr hy)
    exact⟨a,by rw[JB,if_neg (show ¬y=x from fun e=>g2 (e▸hy))];exact b⟩
  ·rw[if_neg h]
   simp only[Bool.false_eq_true,false_iff]
   intro hc
   exact h (hc.1 x List.mem_cons_self)
theorem JaW {c:Cls} {F:Vm} (hF:mapOf c F) (hn:(nmsC c).Nodup) (W:Vm) (l:List ByteArray):outsGo F W [] l=true↔outsS c l 0 l=true∧∀x∈l,wget W x=0:=by
 have h1:=J3o c l l [] rfl
 rw[List.length_nil]at h1
 rw[h1,J4A]
 simp only[J5N hF hn,List.not_mem_nil,not_false_eq_true,and_true]
 constructor
 ·rintro⟨a,b⟩;exact⟨⟨fun x hx=>(a x hx).1.1,b⟩,fun x hx=>(a x hx).1.2⟩
 ·rintro⟨⟨a,b⟩,d⟩;exact⟨fun x hx=>⟨⟨a x hx,d x hx⟩,rfl⟩,b⟩
end Go.Pm
/- Part of the proof: Ml3. -/
namespace Go.Pm
def nxtI (s:Sm) (S:List ByteArray) (W:Vm):List ByteArray×Vm:=
 if s.kind=4 then(S++[s.name],sput W s.name (wget W s.name+1))
 else if s.kind=6 then(S.dropLast,sput W ((S.getLast?).getD s.name) (wget W ((S.getLast?).getD s.name)-1))
 else(S,W)
def condI (cs:List Cls) (c:Cls) (s:Sm) (S:List ByteArray) (W:Vm):Prop:=
 stmS cs c s=true∧¬(20<S.length∧s.kind≠5∧s.kind≠6)∧(∀x,writesS s x=true→wget W x=0)∧(s.kind=6→S≠[])
theorem J1d {s:Sm} (h1:s.kind≠1) (h3:s.kind≠3) (x:ByteArray):writesS s x=false:=by simp[writesS,h1,h3]
theorem nowr {s:Sm} {W:Vm} (h1:s.kind≠1) (h3:s.kind≠3):∀x,writesS s x=true→wget W x=0:=by
 intro x hx;rw[J1d h1 h3]at hx;cases hx
theorem JcD (s:Sm):b2 s=(c1 s||c2 s):=by
 unfold b2 c1 c0 c2
 rw[Bool.eq_iff_iff]
 simp only[Bool.or_eq_true,Bool.and_eq_true,decide_eq_true_eq,Bool.not_eq_true',Bool.or_eq_false_iff,decide_eq_false_iff_not]
 constructor
 ·rintro(⟨⟨h1,h2⟩,h3⟩|⟨⟨h1,h2⟩,h3⟩)
  ·exact .inr ⟨⟨h1,h2⟩,h3⟩
  ·exact .inl ⟨⟨h1,h2⟩,h3⟩
 ·rintro(⟨⟨h1,h2⟩,h3⟩|⟨⟨h1,h2⟩,h3⟩)
  ·exact .inr ⟨⟨h1,h2⟩,h3⟩
  ·exact .inl ⟨⟨h1,h2⟩,h3⟩
theorem J7Y {n:Nat}:decide (0<(n:Int))=decide ((n:Int)≠0):=by
 rw[Bool.eq_iff_iff];simp only[decide_eq_true_eq];omega
theorem JcB (s:Sm):b3 s=(c3 s||c4 s):=by
 unfold b3 c3 c4
 rw[J7Y,J7Y,J7Y]
theorem J2G {cs:List Cls} {c:Cls} {F:Vm} (hF:mapOf c F) (hn:(nmsC c).Nodup) (s:Sm) (S:List ByteArray) (W:Vm):
  (condI cs c s S W→stmI cs c F s S W=some (nxtI s S W))∧(¬condI cs c s S W→stmI cs c F s S W=none):=by
 unfold condI stmI stmS
 rw[JcD,JcB]
 by_cases h1:b1 s S.length=true
 ·rw[if_pos h1]
  refine⟨fun h=>absurd ?_ h.2.1,fun _=>rfl⟩
  simp only[b1,Bool.and_eq_true,decide_eq_true_eq]at h1
  exact⟨by omega,h1.1.2,h1.2⟩
 rw[if_neg h1]
 have hd:¬(20<S.length∧s.kind≠5∧s.kind≠6):=by
  intro h
  apply h1
  simp only[b1,Bool.and_eq_true,decide_eq_true_eq]
  exact⟨⟨by omega,h.2.1⟩,h.2.2⟩
 simp only[hd,not_false_eq_true,true_and]
 cases e1:c1 s with
 |true=>simp
 |false=>
 cases e2:c2 s with
 |true=>simp
 |false=>
 cases e3:c3 s with
 |true=>simp
 |false=>
 cases e4:c4 s with
 |true=>simp
 |false=>
 simp only[Bool.or_self,Bool.false_eq_true,if_false]
 by_cases k1:s.kind=1
 ·have hw:(∀x,writesS s x=true→wget W x=0)↔wget W s.name=0:=by
   constructor
   ·intro h;exact h s.name (by simp[writesS,k1])
   ·intro h x hx;simp[writesS,k1]at hx;rw[←hx];exact h
  have h6:s.kind=6→S≠[]:=fun h=>by omega
  simp only[k1,if_true,J5N hF hn,J2K hF,Bool.and_eq_true,hw]
  have nx:nxtI s S W=(S,W):=by unfold nxtI;rw[if_neg (by omega),if_neg (by omega)]
  rw[nx]
  constructor
  ·rintro⟨⟨a,b⟩,d,_⟩;rw[if_pos ⟨⟨a,d⟩,b⟩]
  ·intro h
   rw[if_neg (fun g=>h ⟨⟨g.1.1,g.2⟩,g.1.2,fun e=>by omega⟩)]
 by_cases k2:s.kind=2
 ·have nx:nxtI s S W=(S,W):=by unfold nxtI;rw[if_neg (by omega),if_neg (by omega)]
  simp only[if_neg k1,if_pos k2,J2K hF,Bool.and_eq_true,decide_eq_true_eq,nx]
  constructor
  ·rintro⟨⟨⟨a,b⟩,d⟩,_⟩;rw[if_pos ⟨a,b,d⟩]
  ·intro h
   rw[if_neg (fun g=>h ⟨⟨⟨g.1,g.2.1⟩,g.2.2⟩,nowr (by omega) (by omega),fun e=>by omega⟩)]
 by_cases k3:s.kind=3
 ·have nx:nxtI s S W=(S,W):=by unfold nxtI;rw[if_neg (by omega),if_neg (by omega)]
  have hw:(∀x,writesS s x=true→wget W x=0)↔∀x∈s.outs,wget W x=0:=by
   constructor
   ·intro h x hx;exact h x (by simp only[writesS,k3];rw[(J2J s.outs x).2 hx];rfl)
   ·intro h x hx
    simp only[writesS,k3]at hx
    exact h x ((J2J s.outs x).1 (by simpa using hx))
  have k4:¬s.kind=4:=by omega
  have k56:¬(s.kind=5∨s.kind=6):=by omega
  simp only[if_neg k1,if_neg k2,if_pos k3,if_neg k4,if_neg k56,nx,hw]
  by_cases hp:0≤s.pos∧s.pos<(c.insts.length:Int)
  ·rw[if_pos hp,if_neg (show ¬(s.pos<0∨(c.insts.length:Int)≤s.pos) by omega)]
   cases (c.insts[s.pos.toNat]?).bind (fun g=>cs[g.toNat]?)with
   |none=>simp
   |some d=>
    dsimp only
    have ha:s.args.all (codeI F c.mems.length)=s.args.all (mcodeS c):=by rw[show codeI F c.mems.length=mcodeS c from funext (J2K hF)]
    rw[ha]
    by_cases hl:s.outs.length=d.outs.length∧s.args.length=d.ins.length
    ·rw[if_pos hl]
     simp only[Bool.and_eq_true,JaW hF hn]
     constructor
     ·rintro⟨⟨a,b⟩,g,_⟩;rw[if_pos ⟨hl.1,hl.2,⟨a,g⟩,b⟩]
     ·intro h
      rw[if_neg (fun g=>h ⟨⟨g.2.2.1.1,g.2.2.2⟩,g.2.2.1.2,fun e=>by omega⟩)]
    ·rw[if_neg hl,if_neg (fun g=>hl ⟨g.1,g.2.1⟩)]
     simp
  ·rw[if_neg hp,if_pos (show s.pos<0∨(c.insts.length:Int)≤s.pos by omega)]
   simp
 by_cases k4:s.kind=4
 ·have nx:nxtI s S W=(S++[s.name],sput W s.name (wget W s.name+1)):=by unfold nxtI;rw[if_pos k4]
  simp only[if_neg k1,if_neg k2,if_neg k3,if_pos k4,nx,J4U hF]
  constructor
  ·rintro⟨a,_⟩;rw[if_pos a]
  ·intro h
   rw[if_neg (fun g=>h ⟨g,nowr (by omega) (by omega),fun e=>by omega⟩)]
 by_cases k5:s.kind=5
 ·have nx:nxtI s S W=(S,W):=by unfold nxtI;rw[if_neg (by omega),if_neg (by omega)]
  have k56:s.kind=5∨s.kind=6:=.inl k5
  rw[nx]
  simp only[if_neg k1,if_neg k2,if_neg k3,if_neg k4,if_pos k5,if_pos k56,true_and,implies_true]
  intro h
  exact absurd ⟨nowr (by omega) (by omega),fun e=>by omega⟩ h
 by_cases k6:s.kind=6
 ·have k56:s.kind=5∨s.kind=6:=.inr k6
  simp only[if_neg k1,if_neg k2,if_neg k3,if_neg k4,if_neg k5,if_pos k6,if_pos k56,true_and]
  cases hg:S.getLast? with
  |none=>
   have:S=[]:=by simpa using hg
   dsimp only
   exact⟨fun h=>absurd this (h.2 k6),fun _=>rfl⟩
  |some x=>
   have:S≠[]:=by intro e;rw[e]at hg;cases hg
   have nx:nxtI s S W=(S.dropLast,sput W x (wget W x-1)):=by unfold nxtI;rw[if_neg (by omega),if_pos k6,hg];rfl
   dsimp only
   rw[nx]
   exact⟨fun _=>rfl,fun h=>absurd ⟨nowr (by omega) (by omega),fun _=>this⟩ h⟩
 have k56:¬(s.kind=5∨s.kind=6):=fun h=>h.elim k5 k6
 simp only[if_neg k1,if_neg k2,if_neg k3,if_neg k4,if_neg k5,if_neg k6,if_neg k56]
 simp
def up (w:ByteArray→Int) (s:Sm):ByteArray→Int:=fun x=>if x=s.name then w x+1 else w x
mutual
def depB:Br→Nat→Prop
 |.nd s Y N,n=>n≤20∧(s.kind=4→depL Y (n+1)∧depL N (n+1))
def depL:List Br→Nat→Prop
 |[],_=>True
 |b::R,n=>depB b n∧depL R n
end
mutual
def wthB:Br→(ByteArray→Int)→Prop
 |.nd s Y N,w=>(∀x,writesS s x=true→w x=0)∧(s.kind=4→wthL Y (up w s)∧wthL N (up w s))
def wthL:List Br→(ByteArray→Int)→Prop
 |[],_=>True
 |b::R,w=>wthB b w∧wthL R w
end
theorem J7k (W:Vm) (s u:ByteArray) (v:Int):wget (sput W s v) u=if u=s then v else wget W u:=by
 unfold wget
 rw[JB]
 split<;>rfl
theorem J1m {cs:List Cls} {c:Cls} {F:Vm} {s:Sm} {l:List Sm} {S:List ByteArray} {W:Vm}:bodyGo cs c F (s::l) S W=(stmI cs c F s S W).bind fun p=>bodyGo cs c F l p.1 p.2:=rfl
theorem J87 {cs:List Cls} {c:Cls} {F:Vm} (hF:mapOf c F) (hn:(nmsC c).Nodup) {l:List Sm} {T:List Br} (h:Spell l T):∀(r:List Sm) (S:List ByteArray) (W:Vm),
  (l.all (stmS cs c)=true∧depL T S.length∧wthL T (wget W)→∃W',(∀u,wget W' u=wget W u)∧bodyGo cs c F (l++r) S W=bodyGo cs c F r S W')∧
  (¬(l.all (stmS cs c)=true∧depL T S.length∧wthL T (wget W))→bodyGo cs c F (l++r) S W=none):=by
 induction h with
 |nil=>intro r S W;exact⟨fun _=>⟨W,fun _=>rfl,rfl⟩,fun h=>absurd ⟨rfl,trivial,trivial⟩ h⟩
 |@leaf s l T h4 h5 h6 _ ih=>
  intro r S W
  have hst:=J2G (cs:=cs) hF hn s S W
  have nx:nxtI s S W=(S,W):=by unfold nxtI;rw[if_neg h4,if_neg h6]
  rw[nx]at hst
  simp only[List.cons_append,J1m,List.all_cons,Bool.and_eq_true,depL,depB,wthL,wthB,h4,false_implies,and_true]
  by_cases hc:condI cs c s S W
  ·rw[hst.1 hc,Option.bind_some]
   obtain⟨i1,i2⟩:=ih r S W
   refine⟨fun h=>i1 ⟨h.1.2,h.2.1.2,h.2.2.2⟩,fun h=>i2 fun g=>h ⟨⟨hc.1,g.1⟩,⟨?_,g.2.1⟩,hc.2.2.1,g.2.2⟩⟩
   have:=hc.2.1
   rcases Nat.lt_or_ge 20 S.length with h20|h20
   ·exact absurd ⟨h20,h5,h6⟩ this
   ·exact h20
  ·rw[hst.2 hc]
   refine⟨fun h=>absurd ⟨h.1.1,fun g=>by have:=h.2.1.1;omega,h.2.2.1,fun e=>absurd e h6⟩ hc,fun _=>rfl⟩
 |@cond s e f y n l Y N T h4 h5 h6 _ _ _ ihy ihn ih=>
  intro r S W
  have e1:s::(y++e::(n++f::l))++r=s::(y++(e::(n++(f::(l++r))))):=by simp
  rw[e1]
  have hall:(s::(y++e::(n++f::l))).all (stmS cs c)=true↔stmS cs c s=true∧y.all (stmS cs c)=true∧stmS cs c e=true∧n.all (stmS cs c)=true∧stmS cs c f=true∧l.all (stmS cs c)=true:=by
   simp only[List.all_cons,List.all_append,Bool.and_eq_true]
  rw[hall]
  simp only[depL,depB,wthL,wthB,h4,true_implies]
  generalize hS1:S++[s.name]=S1
  have hl1:S1.length=S.length+1:=by rw[←hS1];simp
  have hst:=J2G (cs:=cs) hF hn s S W
  have nx:nxtI s S W=(S1,sput W s.name (wget W s.name+1)):=by unfold nxtI;rw[if_pos h4,hS1]
  rw[nx]at hst
  rw[J1m]
  by_cases hc:condI cs c s S W
  rotate_left
  ·rw[hst.2 hc]
   exact⟨fun h=>absurd ⟨h.1.1,fun g=>by have:=h.2.1.1.1;omega,h.2.2.1.1,fun e=>by omega⟩ hc,fun _=>rfl⟩
  rw[hst.1 hc,Option.bind_some]
  dsimp only
  have hd:S.length≤20:=by
   have:=hc.2.1
   rcases Nat.lt_or_ge 20 S.length with h20|h20
   ·exact absurd ⟨h20,by omega,by omega⟩ this
   ·exact h20
  generalize hW1:sput W s.name (wget W s.name+1)=W1
  have hw1:wget W1=up (wget W) s:=by
   funext u
   rw[←hW1,J7k]
   unfold up
   by_cases hu:u=s.name
   ·rw[if_pos hu,if_pos hu,hu]
   ·rw[if_neg hu,if_neg hu]
  rw[←hw1,←hl1]
  obtain⟨y1,y2⟩:=ihy (e::(n++(f::(l++r)))) S1 W1
  by_cases hy:y.all (stmS cs c)=true∧depL Y S1.length∧wthL Y (wget W1)
  rotate_left
  ·rw[y2 hy]
   exact⟨fun h=>absurd ⟨h.1.2.1,h.2.1.1.2.1,h.2.2.1.2.1⟩ hy,fun _=>rfl⟩
  obtain⟨W2,hW2,hy2⟩:=y1 hy
  have hw2:wget W2=wget W1:=funext hW2
  rw[hy2,J1m]
  have hse:=J2G (cs:=cs) hF hn e S1 W2
  have nxe:nxtI e S1 W2=(S1,W2):=by unfold nxtI;rw[if_neg (by omega),if_neg (by omega)]
  rw[nxe]at hse
  by_cases he:stmS cs c e=true
  rotate_left
  ·rw[hse.2 (fun h=>he h.1)]
   exact⟨fun h=>absurd h.1.2.2.1 he,fun _=>rfl⟩
  rw[hse.1 ⟨he,fun g=>g.2.1 h5,nowr (by omega) (by omega),fun g=>by omega⟩,Option.bind_some]
  dsimp only
  obtain⟨n1,n2⟩:=ihn (f::(l++r)) S1 W2
  rw[hw2]at n1 n2
  by_cases hn':n.all (stmS cs c)=true∧depL N S1.length∧wthL N (wget W1)
  rotate_left
  ·rw[n2 hn']
   exact⟨fun h=>absurd ⟨h.1.2.2.2.1,h.2.1.1.2.2,h.2.2.1.2.2⟩ hn',fun _=>rfl⟩
  obtain⟨W3,hW3,hn3⟩:=n1 hn'
  rw[hn3,J1m]
  have hsf:=J2G (cs:=cs) hF hn f S1 W3
  have hgl:S1.getLast? = some s.name:=by rw[←hS1];simp
  have hdl:S1.dropLast=S:=by rw[←hS1];simp
  have nxf:nxtI f S1 W3=(S,sput W3 s.name (wget W3 s.name-1)):=by unfold nxtI;rw[if_neg (by omega),if_pos h6,hgl,hdl];rfl
  rw[nxf]at hsf
  by_cases hf:stmS cs c f=true
  rotate_left
  ·rw[hsf.2 (fun h=>hf h.1)]
   exact⟨fun h=>absurd h.1.2.2.2.2.1 hf,fun _=>rfl⟩
  rw[hsf.1 ⟨hf,fun g=>g.2.2 h6,nowr (by omega) (by omega),fun _ g=>by rw[g]at hgl;cases hgl⟩,Option.bind_some]
  dsimp only
  generalize hW4:sput W3 s.name (wget W3 s.name-1)=W4
  have hw4:wget W4=wget W:=by
   funext u
   rw[←hW4,J7k,hW3,hW3,hw1]
   unfold up
   by_cases hu:u=s.name
   ·rw[if_pos hu,if_pos rfl,hu];omega
   ·rw[if_neg hu,if_neg hu]
  obtain⟨l1,l2⟩:=ih r S W4
  rw[hw4]at l1 l2
  by_cases hl:l.all (stmS cs c)=true∧depL T S.length∧wthL T (wget W)
  ·refine⟨fun _=>?_,fun h=>absurd ⟨⟨hc.1,hy.1,he,hn'.1,hf,hl.1⟩,⟨⟨hd,hy.2.1,hn'.2.1⟩,hl.2.1⟩,⟨hc.2.2.1,hy.2.2,hn'.2.2⟩,hl.2.2⟩ h⟩
   obtain⟨W5,h51,h52⟩:=l1 hl
   exact⟨W5,h51,h52⟩
  ·rw[l2 hl]
   exact⟨fun h=>absurd ⟨h.1.2.2.2.2.2,h.2.1.2,h.2.2.2⟩ hl,fun _=>rfl⟩
end Go.Pm
