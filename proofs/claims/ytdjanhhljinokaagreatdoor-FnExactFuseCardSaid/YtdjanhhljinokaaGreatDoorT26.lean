/- Part of the proof: Mc6. -/
import Derived.Test.YtdjanhhljinokaaGreatDoorT25
import Derived.Test.YtdjanhhljinokaaGreatDoorT19
set_option linter.unusedVariables false
set_option linter.unusedSimpArgs false
namespace Go.Pm
attribute [local irreducible] AR Ok inBlock andThen endQ aoper
set_option maxHeartbeats 8000000
open Go.Proofs
theorem Ja1:∀o,low 0 (finR o)=true
 |none=>rfl
 |some (_,_)=>rfl
theorem leafF {cs:List Cls} (h:none=mI cs):AEnd.ret (.tup [.d (.s (.pointer none)),vb false])=AEnd.ret (finR (mI cs)):=by rw[←h];rfl
theorem Jad {σ:St} {Z B:List Int} (h1:σ.obj 1=some (.var [.sl 4 6 0 Z.length,.sl 5 7 0 B.length])) (h4:σ.obj 4=some (.row 6 3 1 (im2 eNum Z))) (h5:σ.obj 5=some (.row 7 3 1 (im2 eNum B))):Fz σ (.ref 1 0) (.ip [.im (Z.map eNum),.im (B.map eNum)] 0):=by
 have key:FzL σ [.sl 4 6 0 Z.length,.sl 5 7 0 B.length] [.im (Z.map eNum),.im (B.map eNum)]:=⟨J2j h4 rfl,J2j h5 rfl,trivial⟩
 exact .ref h1 key.get.1 key.get.2
def eSlts (l:List Slt):List D:=[.im (l.map eSlt)]
def bdZ (Z:List Int):Prop:=∀z∈Z,0≤z∧z≤20000
theorem J6x (cs:List Cls) (hw:wL wCls cs≤1048576):PFun X 70 [.agg [.d (.im (cs.map eCls))]] (finR (mI cs)):=by
 have hcl:cs.length≤1048576:=by simp only[wL]at hw;omega
 refine Jj Tryz.func70 rfl (by decide) Tryz.ntmps70 Tryz.results70 (by simp) rfl (Ja1 _) ?_
 by_cases hb:(cs.length:Int)<1∨200<(cs.length:Int)
 ·have hm:none=mI cs:=by simp only[mI,if_pos hb]
  by_cases h1:(cs.length:Int)<1
  ·have e1:decide ((cs.length:Int)<1)=true:=J0 h1
   repeat' first|refine Z1 ?_|refine Z2 ?_|refine Z5 ?_|refine Z9 ?_|refine Zd ?_|refine Zl ?_|refine ret2 ?_|refine Zo ?_|refine J5 ?_|refine Zp ?_|refine J9 ?_|refine J8 ?_
   exact leafF hm
  ·have e1:decide ((cs.length:Int)<1)=false:=J1 h1
   have e2:decide (200<(cs.length:Int))=true:=J0 (by omega)
   repeat' first|refine Z1 ?_|refine Z2 ?_|refine Z5 ?_|refine Z7 ?_|refine Zd ?_|refine Zh ?_|refine Zi ?_|refine Zm ?_|refine ret2 ?_|refine Zo ?_|refine J5 ?_|refine Zp ?_|refine J9 ?_|refine J8 ?_
   exact leafF hm
 have e1:decide ((cs.length:Int)<1)=false:=J1 (by omega)
 have e2:decide (200<(cs.length:Int))=false:=J1 (by omega)
 have hm:mGo cs 0 (cs.drop 0) [] [] []=mI cs:=by simp only[mI,if_neg hb,List.drop_zero]
 repeat' first|refine Z1 ?_|refine Z2 ?_|refine Z5 ?_|refine Z7 ?_|refine Yd (kk:=.string) ?_|refine Zd ?_|refine Zh ?_|refine Zi ?_|refine Zm ?_|refine Zo ?_|refine J5 ?_|refine Zq ?_|refine J4 ?_|refine J7 ?_|refine J3 ?_
 refine J0a (J1q 1 3 1 rfl (cs':=[.sl 4 4 0 0,.d (.s (.slice none 0 0))]) rfl rfl ⟨.nil,.refl _,trivial⟩) ?_
 refine J0a (J1q 1 3 1 rfl (cs':=[.sl 4 4 0 0,.sl 5 5 0 0]) rfl rfl ⟨.refl _,.nil,trivial⟩) ?_
 refine J0w (ι:=Nat×List (ByteArray×Bool)×List Int×List Int) (fun x_=>envL [(1,.ref 0 0),(4,.ref 2 0),(5,.mp 3),(52,.d (.im (cs.map eCls))),(53,vi cs.length),(54,vi x_.1)]) (fun x_=>stL [some (.var [.d (.im (cs.map eCls))]),some (.var [.sl 4 6 0 x_.2.2.1.length,.sl 5 7 0 x_.2.2.2.length]),some (.var [.ref 1 0]),some (.map .string (smap vb x_.2.1)),some (.row 6 3 1 (im2 eNum x_.2.2.1)),some (.row 7 3 1 (im2 eNum x_.2.2.2)),none,none]) (fun x_=>x_.1≤cs.length∧x_.2.2.1.length=x_.1∧x_.2.2.2.length=x_.1∧bdZ x_.2.2.1∧bdB x_.2.2.2∧mGo cs x_.1 (cs.drop x_.1) x_.2.1 x_.2.2.1 x_.2.2.2=mI cs) (fun x_=>cs.length-x_.1) (0,[],[],[]) (⟨Nat.zero_le _,rfl,rfl,fun _ h=>(by cases h),fun _ h=>(by cases h),hm⟩) Turn.refl (JC [(6,4),(7,5)] rfl rfl rfl ⟨⟨rfl,rfl⟩,⟨rfl,rfl⟩,⟨rfl,rfl⟩,⟨rfl,rfl⟩,⟨rfl,rfl⟩,⟨rfl,rfl⟩,trivial⟩ ⟨⟨rfl,rfl⟩,⟨rfl,rfl⟩,⟨rfl,rfl⟩,⟨by first|exact JB _ (fun _=>rfl)|rfl,Jp (fun _=>rfl) _⟩,⟨Jn rfl (by first|exact Jq _ _ _|rfl),Je rfl,Jl _ _ _⟩,⟨Jn rfl (by first|exact Jq _ _ _|rfl),Je rfl,Jl _ _ _⟩,trivial⟩) ?_
 rintro⟨k,N,Z,B⟩ ⟨i1,i2,i3,i4,i5,i6⟩
 simp only at i1 i2 i3 i4 i5 i6
 rcases hx:cs[k]? with _|c
 ·have hle:=Jk hx
  have ek:decide ((k:Int)<(cs.length:Int))=false:=J1 (by omega)
  rw[Jm hx]at i6
  simp only[mGo]at i6
  repeat' first|refine Z1 ?_|refine Z2 ?_|refine fzt2 2 3 (x:=.d (.ip [.im (Z.map eNum),.im (B.map eNum)] 0)) (y:=vb true) (.data (Jad rfl rfl rfl)) (.data (.d _)) ?_|refine ret2 ?_|refine Zo ?_|refine J5 ?_|refine Zq ?_|refine Jf ?_|refine J9 ?_|refine J3 ?_|refine Jb ?_|refine Zv ?_
  show AEnd.ret _=AEnd.ret (finR (mI cs))
  rw[←i6];rfl
 obtain⟨hd,hlt⟩:=Jc hx
 have ek:decide ((k:Int)<(cs.length:Int))=true:=J0 (by omega)
 have hwc:=Jz (w:=wCls) (List.mem_of_getElem? hx)
 have hwc2:wCls c≤1048576:=by simp only[wL]at hw;omega
 simp only[wCls,wL,List.length_map]at hwc2
 rw[hd]at i6
 simp only[mGo]at i6
 generalize hG:(fun p:Int×Int=>mGo cs (k+1) (cs.drop (k+1)) (sput N c.name true) (Z++[p.1]) (B++[p.2]))=G at i6
 unfold classI at i6
 by_cases hh:headBad N c
 ·rw[if_pos hh]at i6
  cases hn:nameI c.name with
  |false=>
   have e3:(!nameI c.name)=true:=by rw[hn];rfl
   repeat' first|refine Z1 ?_|refine Z2 ?_|refine Z5 ?_|refine Z9 ?_|refine Zc (J0v c.name) ?_|refine Ze ?_|refine Zl ?_|refine ret2 ?_|refine Zo ?_|refine J5 ?_|refine Zp ?_|refine J4 ?_|refine J7 ?_|refine J9 ?_|refine J3 ?_|refine J8 ?_|refine Ja ?_
   exact leafF i6
  |true=>
   have e3:(!nameI c.name)=false:=by rw[hn];rfl
   have e4:(sfind N c.name).getD false=true:=hh.resolve_left (by rw[hn];intro h;cases h)
   repeat' first|refine Z1 ?_|refine Z2 ?_|refine Z5 ?_|refine Z7 ?_|refine Zc (J0v c.name) ?_|refine Yb (e:=vb) ?_|refine Ze ?_|refine Zi ?_|refine Zm ?_|refine ret2 ?_|refine Zo ?_|refine J5 ?_|refine Zp ?_|refine J4 ?_|refine J7 ?_|refine J9 ?_|refine J3 ?_|refine J8 ?_|refine Ja ?_
   exact leafF i6
 rw[if_neg hh]at i6
 have e3:(!nameI c.name)=false:=by cases hn:nameI c.name with|false=>exact absurd (.inl hn) hh|true=>rfl
 have e4:(sfind N c.name).getD false=false:=by cases hn:(sfind N c.name).getD false with|false=>rfl|true=>exact absurd (.inr hn) hh
 by_cases hs:sizeBad c
 ·rw[if_pos hs]at i6
  by_cases h1:(c.outs.length:Int)<1
  ·have f1:decide ((c.outs.length:Int)<1)=true:=J0 h1
   repeat' first|refine Z1 ?_|refine Z2 ?_|refine Z5 ?_|refine Z7 ?_|refine Z9 ?_|refine Zc (J0v c.name) ?_|refine Yb (e:=vb) ?_|refine Yc (e:=vb) (b:=true) ?_|refine Zd ?_|refine Ze ?_|refine Zi ?_|refine Zl ?_|refine Zm ?_|refine ret2 ?_|refine Zo ?_|refine J5 ?_|refine Zp ?_|refine Zq ?_|refine J4 ?_|refine J7 ?_|refine J9 ?_|refine J3 ?_|refine J8 ?_|refine Ja ?_
   exact leafF i6
  have f1:decide ((c.outs.length:Int)<1)=false:=J1 h1
  by_cases h2:1000<((c.ins.length:Int)+c.outs.length+c.locs.length)
  ·have f2:decide (1000<((c.ins.length:Int)+c.outs.length+c.locs.length))=true:=J0 h2
   repeat' first|refine Z1 ?_|refine Z2 ?_|refine Z5 ?_|refine Z7 ?_|refine Z9 ?_|refine Zc (J0v c.name) ?_|refine Yb (e:=vb) ?_|refine Yc (e:=vb) (b:=true) ?_|refine Zd ?_|refine Ze ?_|refine Zf ?_|refine Zh ?_|refine Zi ?_|refine Zl ?_|refine Zm ?_|refine ret2 ?_|refine Zo ?_|refine J5 ?_|refine Zp ?_|refine Zq ?_|refine J4 ?_|refine J7 ?_|refine J9 ?_|refine J3 ?_|refine J8 ?_|refine Ja ?_
   exact leafF i6
  have f2:decide (1000<((c.ins.length:Int)+c.outs.length+c.locs.length))=false:=J1 h2
  by_cases h3:1000<(c.mems.length:Int)
  ·have f3:decide (1000<(c.mems.length:Int))=true:=J0 h3
   repeat' first|refine Z1 ?_|refine Z2 ?_|refine Z5 ?_|refine Z7 ?_|refine Z9 ?_|refine Zc (J0v c.name) ?_|refine Yb (e:=vb) ?_|refine Yc (e:=vb) (b:=true) ?_|refine Zd ?_|refine Ze ?_|refine Zf ?_|refine Zh ?_|refine Zi ?_|refine Zl ?_|refine Zm ?_|refine ret2 ?_|refine Zo ?_|refine J5 ?_|refine Zp ?_|refine Zq ?_|refine J4 ?_|refine J7 ?_|refine J9 ?_|refine J3 ?_|refine J8 ?_|refine Ja ?_
   exact leafF i6
  have f3:decide (1000<(c.mems.length:Int))=false:=J1 h3
  by_cases h4:1000<(c.insts.length:Int)
  ·have f4:decide (1000<(c.insts.length:Int))=true:=J0 h4
   repeat' first|refine Z1 ?_|refine Z2 ?_|refine Z5 ?_|refine Z7 ?_|refine Z9 ?_|refine Zc (J0v c.name) ?_|refine Yb (e:=vb) ?_|refine Yc (e:=vb) (b:=true) ?_|refine Zd ?_|refine Ze ?_|refine Zf ?_|refine Zh ?_|refine Zi ?_|refine Zl ?_|refine Zm ?_|refine ret2 ?_|refine Zo ?_|refine J5 ?_|refine Zp ?_|refine Zq ?_|refine J4 ?_|refine J7 ?_|refine J9 ?_|refine J3 ?_|refine J8 ?_|refine Ja ?_
   exact leafF i6
  have f4:decide (1000<(c.insts.length:Int))=false:=J1 h4
  have h5:30000<(c.body.length:Int):=by unfold sizeBad at hs;rcases hs with h|h|h|h|h<;>first|exact h|exact absurd h ‹_›
  have f5:decide (30000<(c.body.length:Int))=true:=J0 h5
  repeat' first|refine Z1 ?_|refine Z2 ?_|refine Z5 ?_|refine Z7 ?_|refine Zc (J0v c.name) ?_|refine Yb (e:=vb) ?_|refine Yc (e:=vb) (b:=true) ?_|refine Zd ?_|refine Ze ?_|refine Zf ?_|refine Zh ?_|refine Zi ?_|refine Zm ?_|refine ret2 ?_|refine Zo ?_|refine J5 ?_|refine Zp ?_|refine Zq ?_|refine J4 ?_|refine J7 ?_|refine J9 ?_|refine J3 ?_|refine J8 ?_|refine Ja ?_
  exact leafF i6
 rw[if_neg hs]at i6
 simp only[sizeBad,not_or]at hs
 obtain⟨s1,s2,s3,s4,s5⟩:=hs
 have f1:decide ((c.outs.length:Int)<1)=false:=J1 s1
 have f2:decide (1000<((c.ins.length:Int)+c.outs.length+c.locs.length))=false:=J1 s2
 have f3:decide (1000<(c.mems.length:Int))=false:=J1 s3
 have f4:decide (1000<(c.insts.length:Int))=false:=J1 s4
 have f5:decide (30000<(c.body.length:Int))=false:=J1 s5
 repeat' first|refine Z1 ?_|refine Z2 ?_|refine Z4 ?_|refine Z5 ?_|refine Z7 ?_|refine Zc (J0v c.name) ?_|refine Yb (e:=vb) ?_|refine Yc (e:=vb) (b:=true) ?_|refine Yd (kk:=.string) ?_|refine Yq ?_|refine Zd (e:=eSlts) (l:=[c.ins,c.outs]) ?_|refine Zd ?_|refine Ze ?_|refine Zf ?_|refine Zh ?_|refine Zi ?_|refine Zm ?_|refine Zo ?_|refine J5 ?_|refine Zp ?_|refine Zq ?_|refine J4 ?_|refine J7 ?_|refine J3 ?_
 unfold k1 at i6
 refine Jo (ι:=Nat×Vm) (fun x_=>envL [(1,.ref 0 0),(4,.ref 2 0),(5,.mp 3),(52,.d (.im (cs.map eCls))),(53,vi cs.length),(54,vi k),(6,vi k),(7,.ref 8 0),(8,.ref 10 0),(9,.fn 115 [.ref 10 0]),(114,.d (.im ([c.ins,c.outs].map eSlts))),(115,vi 2),(116,vi x_.1)]) (fun x_=>stL [some (.var [.d (.im (cs.map eCls))]),some (.var [.sl 4 6 0 Z.length,.sl 5 7 0 B.length]),some (.var [.ref 1 0]),some (.map .string (smap vb (sput N c.name true))),some (.row 6 3 1 (im2 eNum Z)),some (.row 7 3 1 (im2 eNum B)),none,none,some (.var ((eCls c).map .d)),some (.map .string (smap vi x_.2)),some (.var [.mp 9]),none]) (fun x_=>x_.1≤2∧((slotsGo x_.1 ([c.ins,c.outs].drop x_.1) x_.2).bind (k0 cs k Z B c)).bind G=mI cs) (fun x_=>2-x_.1) (0,[]) (⟨Nat.zero_le _,i6⟩) (Jg rfl ⟨.refl _,.refl _,.refl _,.refl _,.refl _,.refl _,.refl _,.refl _,.refl _,.refl _,.refl _,.refl _,.refl _,trivial⟩ ⟨⟨rfl,_,rfl,rfl,fun _ _ _=>.refl _⟩,⟨rfl,_,rfl,rfl,fun _ _ _=>.refl _⟩,⟨rfl,_,rfl,rfl,fun _ _ _=>.refl _⟩,⟨rfl,_,rfl,rfl,rfl⟩,⟨rfl,_,rfl,rfl,rfl,rfl,rfl⟩,⟨rfl,_,rfl,rfl,rfl,rfl,rfl⟩,⟨rfl,_,rfl,rfl,fun _ _ _=>.refl _⟩,⟨rfl,_,rfl,rfl,rfl⟩,⟨rfl,_,rfl,rfl,fun _ _ _=>.refl _⟩,trivial⟩) (fun _=>Nat.le_refl 12) ?_
 rintro⟨q,F⟩ ⟨j1,j2⟩
 simp only at j1 j2
 by_cases hq2:q<2
 ·obtain⟨l,hl⟩:∃l,[c.ins,c.outs][q]? = some l:=⟨[c.ins,c.outs][q]'hq2,List.getElem?_eq_getElem hq2⟩
  have hld:=(Jc hl).1
  have hll:l.length≤1000:=by
   have:=List.mem_of_getElem? hl
   simp only[List.mem_cons,List.not_mem_nil,or_false]at this
   rcases this with rfl|rfl<;>omega
  have eq2:decide ((q:Int)<2)=true:=J0 (by omega)
  rw[hld]at j2
  simp only[slotsGo]at j2
  repeat' first|refine Z1 ?_|refine Z2 ?_|refine Z5 ?_|refine Zd ?_|refine Ze ?_|refine Zo ?_|refine J5 ?_|refine Zp ?_|refine J4 ?_|refine J7 ?_|refine J3 ?_
  refine Jo (ι:=Nat×Vm) (fun x_=>envL [(1,.ref 0 0),(4,.ref 2 0),(5,.mp 3),(52,.d (.im (cs.map eCls))),(53,vi cs.length),(54,vi k),(6,vi k),(7,.ref 8 0),(8,.ref 10 0),(9,.fn 115 [.ref 10 0]),(114,.d (.im ([c.ins,c.outs].map eSlts))),(115,vi 2),(116,vi q),(10,vi q),(121,.d (.im (l.map eSlt))),(122,vi l.length),(123,vi x_.1)]) (fun x_=>stL [some (.var [.d (.im (cs.map eCls))]),some (.var [.sl 4 6 0 Z.length,.sl 5 7 0 B.length]),some (.var [.ref 1 0]),some (.map .string (smap vb (sput N c.name true))),some (.row 6 3 1 (im2 eNum Z)),some (.row 7 3 1 (im2 eNum B)),none,none,some (.var ((eCls c).map .d)),some (.map .string (smap vi x_.2)),some (.var [.mp 9]),none]) (fun x_=>x_.1≤l.length∧(((slotGo q x_.2 (l.drop x_.1)).bind (slotsGo (q+1) ([c.ins,c.outs].drop (q+1)))).bind (k0 cs k Z B c)).bind G=mI cs) (fun x_=>l.length-x_.1) (0,F) (⟨Nat.zero_le _,j2⟩) (Jg rfl ⟨.refl _,.refl _,.refl _,.refl _,.refl _,.refl _,.refl _,.refl _,.refl _,.refl _,.refl _,.refl _,.refl _,.refl _,.refl _,.refl _,.refl _,trivial⟩ ⟨⟨rfl,_,rfl,rfl,fun _ _ _=>.refl _⟩,⟨rfl,_,rfl,rfl,fun _ _ _=>.refl _⟩,⟨rfl,_,rfl,rfl,fun _ _ _=>.refl _⟩,⟨rfl,_,rfl,rfl,rfl⟩,⟨rfl,_,rfl,rfl,rfl,rfl,rfl⟩,⟨rfl,_,rfl,rfl,rfl,rfl,rfl⟩,⟨rfl,_,rfl,rfl,fun _ _ _=>.refl _⟩,⟨rfl,_,rfl,rfl,rfl⟩,⟨rfl,_,rfl,rfl,fun _ _ _=>.refl _⟩,trivial⟩) (fun _=>Nat.le_refl 12) ?_
  rintro⟨y,F⟩ ⟨l1,l2⟩
  simp only at l1 l2
  rcases hy:l[y]? with _|x
  ·have hle:=Jk hy
   have ey:decide ((y:Int)<(l.length:Int))=false:=J1 (by omega)
   rw[Jm hy]at l2
   simp only[slotGo,Option.bind_some]at l2
   repeat' first|refine Z1 ?_|refine Z2 ?_|refine Z5 ?_|refine Zf ?_|refine Zo ?_|refine J5 ?_|refine Jd ?_|refine Zq ?_|refine Jf ?_|refine J3 ?_|refine Jb ?_|refine Zv ?_|refine J6 ?_
   exact⟨(q+1,F),⟨by simp only;omega,l2⟩,by(try simp only);omega,Jh (Nat.le_of_ble_eq_true rfl) ⟨⟨rfl,rfl⟩,⟨rfl,rfl⟩,⟨rfl,rfl⟩,⟨rfl,rfl⟩,⟨rfl,rfl⟩,⟨rfl,rfl⟩,⟨rfl,rfl⟩,⟨rfl,rfl⟩,⟨rfl,rfl⟩,⟨rfl,rfl⟩,⟨rfl,rfl⟩,⟨rfl,rfl⟩,⟨rfl,rfl⟩,trivial⟩ ⟨⟨rfl,rfl⟩,⟨rfl,rfl⟩,⟨rfl,rfl⟩,⟨rfl,Jp (fun _=>rfl) _⟩,⟨rfl,Je rfl,Jl _ _ _⟩,⟨rfl,Je rfl,Jl _ _ _⟩,⟨rfl,rfl⟩,⟨rfl,Jp (fun _=>rfl) _⟩,⟨rfl,rfl⟩,trivial⟩⟩
  obtain⟨hd2,hlt2⟩:=Jc hy
  have ey:decide ((y:Int)<(l.length:Int))=true:=J0 (by omega)
  rw[hd2]at l2
  simp only[slotGo]at l2
  cases ha:addOK F x.name with
  |false=>
   rw[if_neg (by rw[ha];simp)]at l2
   have n2:(!addOK F x.name)=true:=by rw[ha];rfl
   repeat' first|refine Z1 ?_|refine Z2 ?_|refine Z5 ?_|refine Z6 ?_|refine Z9 ?_|refine Yp (J38 (F:=F) (i:=10) (j:=9) rfl rfl x.name (q:Int)) ?_|refine Ze ?_|refine Zl ?_|refine ret2 ?_|refine Zo ?_|refine J5 ?_|refine Zp ?_|refine J4 ?_|refine J7 ?_|refine J9 ?_|refine J3 ?_|refine J8 ?_|refine Ja ?_
   exact leafF l2
  |true=>
   have n2:(!addOK F x.name)=false:=by rw[ha];rfl
   by_cases t1:x.type=1
   ·have t2:decide (x.type≠1)=false:=J1 (fun h=>h t1)
    rw[if_pos ⟨ha,.inl t1⟩]at l2
    repeat' first|refine Z1 ?_|refine Z2 ?_|refine Z5 ?_|refine Z7 ?_|refine Z8 ?_|refine Yp (J38 (F:=F) (i:=10) (j:=9) rfl rfl x.name (q:Int)) ?_|refine Ze ?_|refine Zf ?_|refine Zh ?_|refine Zi ?_|refine Zm ?_|refine Zo ?_|refine J5 ?_|refine Jd ?_|refine Zp ?_|refine Zq ?_|refine J4 ?_|refine J7 ?_|refine J3 ?_|refine J6 ?_
    exact⟨(y+1,sput F x.name q),⟨hlt2,l2⟩,by(try simp only);omega,Jh (Nat.le_of_ble_eq_true rfl) ⟨⟨rfl,rfl⟩,⟨rfl,rfl⟩,⟨rfl,rfl⟩,⟨rfl,rfl⟩,⟨rfl,rfl⟩,⟨rfl,rfl⟩,⟨rfl,rfl⟩,⟨rfl,rfl⟩,⟨rfl,rfl⟩,⟨rfl,rfl⟩,⟨rfl,rfl⟩,⟨rfl,rfl⟩,⟨rfl,rfl⟩,⟨rfl,rfl⟩,⟨rfl,rfl⟩,⟨rfl,rfl⟩,⟨rfl,rfl⟩,trivial⟩ ⟨⟨rfl,rfl⟩,⟨rfl,rfl⟩,⟨rfl,rfl⟩,⟨rfl,Jp (fun _=>rfl) _⟩,⟨rfl,Je rfl,Jl _ _ _⟩,⟨rfl,Je rfl,Jl _ _ _⟩,⟨rfl,rfl⟩,⟨rfl,Jp (fun _=>rfl) _⟩,⟨rfl,rfl⟩,trivial⟩⟩
   have t2:decide (x.type≠1)=true:=J0 t1
   by_cases t2':x.type=2
   ·have t3:decide (x.type≠2)=false:=J1 (fun h=>h t2')
    rw[if_pos ⟨ha,.inr t2'⟩]at l2
    repeat' first|refine Z1 ?_|refine Z2 ?_|refine Z5 ?_|refine Z7 ?_|refine Yp (J38 (F:=F) (i:=10) (j:=9) rfl rfl x.name (q:Int)) ?_|refine Ze ?_|refine Zf ?_|refine Zh ?_|refine Zi ?_|refine Zl ?_|refine Zm ?_|refine Zo ?_|refine J5 ?_|refine Jd ?_|refine Zp ?_|refine Zq ?_|refine J4 ?_|refine J7 ?_|refine J3 ?_|refine J6 ?_
    exact⟨(y+1,sput F x.name q),⟨hlt2,l2⟩,by(try simp only);omega,Jh (Nat.le_of_ble_eq_true rfl) ⟨⟨rfl,rfl⟩,⟨rfl,rfl⟩,⟨rfl,rfl⟩,⟨rfl,rfl⟩,⟨rfl,rfl⟩,⟨rfl,rfl⟩,⟨rfl,rfl⟩,⟨rfl,rfl⟩,⟨rfl,rfl⟩,⟨rfl,rfl⟩,⟨rfl,rfl⟩,⟨rfl,rfl⟩,⟨rfl,rfl⟩,⟨rfl,rfl⟩,⟨rfl,rfl⟩,⟨rfl,rfl⟩,⟨rfl,rfl⟩,trivial⟩ ⟨⟨rfl,rfl⟩,⟨rfl,rfl⟩,⟨rfl,rfl⟩,⟨rfl,Jp (fun _=>rfl) _⟩,⟨rfl,Je rfl,Jl _ _ _⟩,⟨rfl,Je rfl,Jl _ _ _⟩,⟨rfl,rfl⟩,⟨rfl,Jp (fun _=>rfl) _⟩,⟨rfl,rfl⟩,trivial⟩⟩
   ·have t3:decide (x.type≠2)=true:=J0 t2'
    rw[if_neg (fun h=>h.2.elim t1 t2')]at l2
    repeat' first|refine Z1 ?_|refine Z2 ?_|refine Z5 ?_|refine Z7 ?_|refine Yp (J38 (F:=F) (i:=10) (j:=9) rfl rfl x.name (q:Int)) ?_|refine Ze ?_|refine Zh ?_|refine Zi ?_|refine Zl ?_|refine Zm ?_|refine ret2 ?_|refine Zo ?_|refine J5 ?_|refine Zp ?_|refine J4 ?_|refine J7 ?_|refine J9 ?_|refine J3 ?_|refine J8 ?_|refine Ja ?_
    exact leafF l2
 have hq:q=2:=by omega
 subst hq
 have eq2:decide (((2:Nat):Int)<2)=false:=rfl
 have j2:(k0 cs k Z B c F).bind G=mI cs:=j2
 unfold k0 at j2
 repeat' first|refine Z1 ?_|refine Z2 ?_|refine Z5 ?_|refine Zd ?_|refine Zo ?_|refine J5 ?_|refine Zq ?_|refine J4 ?_|refine Jf ?_|refine J3 ?_|refine Jb ?_|refine Zv ?_
 refine Jo (ι:=Nat×Vm) (fun x_=>envL [(1,.ref 0 0),(4,.ref 2 0),(5,.mp 3),(52,.d (.im (cs.map eCls))),(53,vi cs.length),(54,vi k),(6,vi k),(7,.ref 8 0),(8,.ref 10 0),(9,.fn 115 [.ref 10 0]),(146,.d (.im (c.locs.map eStr))),(147,vi c.locs.length),(148,vi x_.1)]) (fun x_=>stL [some (.var [.d (.im (cs.map eCls))]),some (.var [.sl 4 6 0 Z.length,.sl 5 7 0 B.length]),some (.var [.ref 1 0]),some (.map .string (smap vb (sput N c.name true))),some (.row 6 3 1 (im2 eNum Z)),some (.row 7 3 1 (im2 eNum B)),none,none,some (.var ((eCls c).map .d)),some (.map .string (smap vi x_.2)),some (.var [.mp 9]),none]) (fun x_=>x_.1≤c.locs.length∧((locGo x_.2 (c.locs.drop x_.1)).bind (k2 cs k Z B c)).bind G=mI cs) (fun x_=>c.locs.length-x_.1) (0,F) (⟨Nat.zero_le _,j2⟩) (Jg rfl ⟨.refl _,.refl _,.refl _,.refl _,.refl _,.refl _,.refl _,.refl _,.refl _,.refl _,.refl _,.refl _,.refl _,trivial⟩ ⟨⟨rfl,_,rfl,rfl,fun _ _ _=>.refl _⟩,⟨rfl,_,rfl,rfl,fun _ _ _=>.refl _⟩,⟨rfl,_,rfl,rfl,fun _ _ _=>.refl _⟩,⟨rfl,_,rfl,rfl,rfl⟩,⟨rfl,_,rfl,rfl,rfl,rfl,rfl⟩,⟨rfl,_,rfl,rfl,rfl,rfl,rfl⟩,⟨rfl,_,rfl,rfl,fun _ _ _=>.refl _⟩,⟨rfl,_,rfl,rfl,rfl⟩,⟨rfl,_,rfl,rfl,fun _ _ _=>.refl _⟩,trivial⟩) (fun _=>Nat.le_refl 12) ?_
 rintro⟨y,F⟩ ⟨l1,l2⟩
 simp only at l1 l2
 by_cases hyl:y<c.locs.length
 ·obtain⟨x,hy⟩:∃x,c.locs[y]? = some x:=⟨c.locs[y],List.getElem?_eq_getElem hyl⟩
  obtain⟨hd2,hlt2⟩:=Jc hy
  have ey:decide ((y:Int)<(c.locs.length:Int))=true:=J0 (by omega)
  rw[hd2]at l2
  simp only[locGo]at l2
  cases ha:addOK F x with
  |false=>
   rw[if_neg (by rw[ha];simp)]at l2
   have n2:(!addOK F x)=true:=by rw[ha];rfl
   repeat' first|refine Z1 ?_|refine Z2 ?_|refine Z5 ?_|refine Yp (J38 (F:=F) (i:=10) (j:=9) rfl rfl x 1) ?_|refine Ze ?_|refine ret2 ?_|refine Zo ?_|refine J5 ?_|refine Zp ?_|refine J4 ?_|refine J7 ?_|refine J9 ?_|refine J3 ?_|refine J8 ?_|refine Ja ?_
   exact leafF l2
  |true=>
   have n2:(!addOK F x)=false:=by rw[ha];rfl
   rw[if_pos ha]at l2
   repeat' first|refine Z1 ?_|refine Z2 ?_|refine Z5 ?_|refine Yp (J38 (F:=F) (i:=10) (j:=9) rfl rfl x 1) ?_|refine Ze ?_|refine Zf ?_|refine Zo ?_|refine J5 ?_|refine Jd ?_|refine Zp ?_|refine Zq ?_|refine J4 ?_|refine J7 ?_|refine J3 ?_|refine J6 ?_
   exact⟨(y+1,sput F x 1),⟨hlt2,l2⟩,by(try simp only);omega,Jh (Nat.le_of_ble_eq_true rfl) ⟨⟨rfl,rfl⟩,⟨rfl,rfl⟩,⟨rfl,rfl⟩,⟨rfl,rfl⟩,⟨rfl,rfl⟩,⟨rfl,rfl⟩,⟨rfl,rfl⟩,⟨rfl,rfl⟩,⟨rfl,rfl⟩,⟨rfl,rfl⟩,⟨rfl,rfl⟩,⟨rfl,rfl⟩,⟨rfl,rfl⟩,trivial⟩ ⟨⟨rfl,rfl⟩,⟨rfl,rfl⟩,⟨rfl,rfl⟩,⟨rfl,Jp (fun _=>rfl) _⟩,⟨rfl,Je rfl,Jl _ _ _⟩,⟨rfl,Je rfl,Jl _ _ _⟩,⟨rfl,rfl⟩,⟨rfl,Jp (fun _=>rfl) _⟩,⟨rfl,rfl⟩,trivial⟩⟩
 have ey:decide ((y:Int)<(c.locs.length:Int))=false:=J1 (by omega)
 rw[List.drop_eq_nil_of_le (by omega)]at l2
 have l2:(k2 cs k Z B c F).bind G=mI cs:=l2
 unfold k2 at l2
 repeat' first|refine Z1 ?_|refine Z2 ?_|refine Z5 ?_|refine Zd ?_|refine Zo ?_|refine J5 ?_|refine Zq ?_|refine J4 ?_|refine Jf ?_|refine J3 ?_|refine Jb ?_|refine Zv ?_
 refine Jo (ι:=Nat) (fun x=>envL [(1,.ref 0 0),(4,.ref 2 0),(5,.mp 3),(52,.d (.im (cs.map eCls))),(53,vi cs.length),(54,vi k),(6,vi k),(7,.ref 8 0),(8,.ref 10 0),(9,.fn 115 [.ref 10 0]),(16,vi c.mems.length),(161,.d (.im (c.mems.map eNum))),(162,vi c.mems.length),(163,vi x)]) (fun x=>stL [some (.var [.d (.im (cs.map eCls))]),some (.var [.sl 4 6 0 Z.length,.sl 5 7 0 B.length]),some (.var [.ref 1 0]),some (.map .string (smap vb (sput N c.name true))),some (.row 6 3 1 (im2 eNum Z)),some (.row 7 3 1 (im2 eNum B)),none,none,some (.var ((eCls c).map .d)),some (.map .string (smap vi F)),some (.var [.mp 9]),none]) (fun x=>x≤c.mems.length∧(c.mems.drop x).all valI=c.mems.all valI) (fun x=>c.mems.length-x) 0 (⟨Nat.zero_le _,rfl⟩) (Jg rfl ⟨.refl _,.refl _,.refl _,.refl _,.refl _,.refl _,.refl _,.refl _,.refl _,.refl _,.refl _,.refl _,.refl _,.refl _,trivial⟩ ⟨⟨rfl,_,rfl,rfl,fun _ _ _=>.refl _⟩,⟨rfl,_,rfl,rfl,fun _ _ _=>.refl _⟩,⟨rfl,_,rfl,rfl,fun _ _ _=>.refl _⟩,⟨rfl,_,rfl,rfl,rfl⟩,⟨rfl,_,rfl,rfl,rfl,rfl,rfl⟩,⟨rfl,_,rfl,rfl,rfl,rfl,rfl⟩,⟨rfl,_,rfl,rfl,fun _ _ _=>.refl _⟩,⟨rfl,_,rfl,rfl,rfl⟩,⟨rfl,_,rfl,rfl,fun _ _ _=>.refl _⟩,trivial⟩) (fun _=>Nat.le_refl 12) ?_
 rintro y ⟨m1,m2⟩
 by_cases hym:y<c.mems.length
 ·obtain⟨v,hy⟩:∃v,c.mems[y]? = some v:=⟨c.mems[y],List.getElem?_eq_getElem hym⟩
  obtain⟨hd2,hlt2⟩:=Jc hy
  have ey:decide ((y:Int)<(c.mems.length:Int))=true:=J0 (by omega)
  rw[hd2,List.all_cons]at m2
  cases hv:valI v with
  |false=>
   rw[hv]at m2
   have m2:false=c.mems.all valI:=m2
   rw[if_pos m2.symm]at l2
   have n2:(!valI v)=true:=by rw[hv];rfl
   repeat' first|refine Z1 ?_|refine Z2 ?_|refine Z5 ?_|refine Zc (J9E v) ?_|refine Ze ?_|refine ret2 ?_|refine Zo ?_|refine J5 ?_|refine Zp ?_|refine J4 ?_|refine J7 ?_|refine J9 ?_|refine J3 ?_|refine J8 ?_|refine Ja ?_
   exact leafF l2
  |true=>
   rw[hv,Bool.true_and]at m2
   have n2:(!valI v)=false:=by rw[hv];rfl
   repeat' first|refine Z1 ?_|refine Z2 ?_|refine Z5 ?_|refine Zc (J9E v) ?_|refine Ze ?_|refine Zf ?_|refine Zo ?_|refine J5 ?_|refine Jd ?_|refine Zp ?_|refine Zq ?_|refine J4 ?_|refine J7 ?_|refine J3 ?_|refine J6 ?_
   exact⟨y+1,⟨hlt2,m2⟩,by(try simp only);omega,Jh (Nat.le_of_ble_eq_true rfl) ⟨⟨rfl,rfl⟩,⟨rfl,rfl⟩,⟨rfl,rfl⟩,⟨rfl,rfl⟩,⟨rfl,rfl⟩,⟨rfl,rfl⟩,⟨rfl,rfl⟩,⟨rfl,rfl⟩,⟨rfl,rfl⟩,⟨rfl,rfl⟩,⟨rfl,rfl⟩,⟨rfl,rfl⟩,⟨rfl,rfl⟩,⟨rfl,rfl⟩,trivial⟩ ⟨⟨rfl,rfl⟩,⟨rfl,rfl⟩,⟨rfl,rfl⟩,⟨rfl,Jp (fun _=>rfl) _⟩,⟨rfl,Je rfl,Jl _ _ _⟩,⟨rfl,Je rfl,Jl _ _ _⟩,⟨rfl,rfl⟩,⟨rfl,Jp (fun _=>rfl) _⟩,⟨rfl,rfl⟩,trivial⟩⟩
 have ey:decide ((y:Int)<(c.mems.length:Int))=false:=J1 (by omega)
 rw[List.drop_eq_nil_of_le (by omega)]at m2
 have m2:true=c.mems.all valI:=m2
 rw[if_neg (by rw[←m2];simp)]at l2
 repeat' first|refine Z1 ?_|refine Z2 ?_|refine Z5 ?_|refine Zd ?_|refine Zo ?_|refine J5 ?_|refine Zq ?_|refine J4 ?_|refine Jf ?_|refine J3 ?_|refine Jb ?_|refine Zv ?_
 refine Jo (ι:=Nat×Int) (fun x_=>envL [(1,.ref 0 0),(4,.ref 2 0),(5,.mp 3),(52,.d (.im (cs.map eCls))),(53,vi cs.length),(54,vi k),(6,vi k),(7,.ref 8 0),(8,.ref 10 0),(9,.fn 115 [.ref 10 0]),(16,vi x_.2),(172,.d (.im (c.insts.map eNum))),(173,vi c.insts.length),(174,vi x_.1)]) (fun x_=>stL [some (.var [.d (.im (cs.map eCls))]),some (.var [.sl 4 6 0 Z.length,.sl 5 7 0 B.length]),some (.var [.ref 1 0]),some (.map .string (smap vb (sput N c.name true))),some (.row 6 3 1 (im2 eNum Z)),some (.row 7 3 1 (im2 eNum B)),none,none,some (.var ((eCls c).map .d)),some (.map .string (smap vi F)),some (.var [.mp 9]),none]) (fun x_=>x_.1≤c.insts.length∧0≤x_.2∧x_.2≤1000+20000*(x_.1:Int)∧(∀g∈c.insts.take x_.1,0≤g∧g<(k:Int))∧((instGo k Z x_.2 (c.insts.drop x_.1)).bind (k3 cs c B F)).bind G=mI cs) (fun x_=>c.insts.length-x_.1) (0,(c.mems.length:Int)) (⟨Nat.zero_le _,by simp only;omega,by simp only;omega,by simp,l2⟩) (Jg rfl ⟨.refl _,.refl _,.refl _,.refl _,.refl _,.refl _,.refl _,.refl _,.refl _,.refl _,.refl _,.refl _,.refl _,.refl _,trivial⟩ ⟨⟨rfl,_,rfl,rfl,fun _ _ _=>.refl _⟩,⟨rfl,_,rfl,rfl,fun _ _ _=>.refl _⟩,⟨rfl,_,rfl,rfl,fun _ _ _=>.refl _⟩,⟨rfl,_,rfl,rfl,rfl⟩,⟨rfl,_,rfl,rfl,rfl,rfl,rfl⟩,⟨rfl,_,rfl,rfl,rfl,rfl,rfl⟩,⟨rfl,_,rfl,rfl,fun _ _ _=>.refl _⟩,⟨rfl,_,rfl,rfl,rfl⟩,⟨rfl,_,rfl,rfl,fun _ _ _=>.refl _⟩,trivial⟩) (fun _=>Nat.le_refl 12) ?_
 rintro⟨y,n⟩ ⟨o1,o2,o3,o4,o5⟩
 simp only at o1 o2 o3 o4 o5
 by_cases hyi:y<c.insts.length
 ·obtain⟨g,hy⟩:∃g,c.insts[y]? = some g:=⟨c.insts[y],List.getElem?_eq_getElem hyi⟩
  obtain⟨hd2,hlt2⟩:=Jc hy
  have ey:decide ((y:Int)<(c.insts.length:Int))=true:=J0 (by omega)
  rw[hd2]at o5
  simp only[instGo]at o5
  by_cases g1:g<0
  ·have d1:decide (g<0)=true:=J0 g1
   rw[if_pos (.inl g1)]at o5
   repeat' first|refine Z1 ?_|refine Z2 ?_|refine Z5 ?_|refine Z9 ?_|refine Ze ?_|refine Zl ?_|refine ret2 ?_|refine Zo ?_|refine J5 ?_|refine Zp ?_|refine J4 ?_|refine J7 ?_|refine J9 ?_|refine J3 ?_|refine J8 ?_|refine Ja ?_
   exact leafF o5
  have d1:decide (g<0)=false:=J1 g1
  by_cases g2:(k:Int)≤g
  ·have d2:decide ((k:Int)≤g)=true:=J0 g2
   rw[if_pos (.inr g2)]at o5
   repeat' first|refine Z1 ?_|refine Z2 ?_|refine Z5 ?_|refine Z7 ?_|refine Ze ?_|refine Zh ?_|refine Zi ?_|refine Zm ?_|refine ret2 ?_|refine Zo ?_|refine J5 ?_|refine Zp ?_|refine J4 ?_|refine J7 ?_|refine J9 ?_|refine J3 ?_|refine J8 ?_|refine Ja ?_
   exact leafF o5
  have d2:decide ((k:Int)≤g)=false:=J1 g2
  rw[if_neg (fun h=>h.elim g1 g2)]at o5
  obtain⟨gn,hgn⟩:∃gn:Nat,g=(gn:Int):=⟨g.toNat,by omega⟩
  have hgl:gn<Z.length:=by omega
  have hz:Z[gn]? = some Z[gn]:=List.getElem?_eq_getElem hgl
  have hzb:=i4 _ (List.mem_of_getElem? hz)
  have hr:(im2 eNum Z)[gn]? = some [vi Z[gn]]:=J2E hz
  rw[hgn,Int.toNat_natCast,hz]at o5
  simp only[Option.getD_some]at o5
  generalize Z[gn]=z at hz hzb hr o5
  have o4':∀g∈c.insts.take (y+1),0≤g∧g<(k:Int):=by
   intro g' hg'
   rw[J52 hy]at hg'
   rcases List.mem_append.1 hg' with h|h
   ·exact o4 g' h
   ·simp at h;subst h;omega
  repeat' first|refine Z1 ?_|refine Z2 ?_|refine Z3 ?_|refine Z5 ?_|refine Z7 ?_|refine Ju ?_|refine Yf (n:=g) gn hgn hgl ?_|refine Ye hr ?_|refine Ze ?_|refine Zf ?_|refine Zh ?_|refine Zi ?_|refine Zm ?_|refine Zo ?_|refine J5 ?_|refine Jd ?_|refine Zp ?_|refine Zq ?_|refine J4 ?_|refine J7 ?_|refine J3 ?_|refine J6 ?_
  exact⟨(y+1,n+z),⟨hlt2,by simp only;omega,by simp only;omega,o4',o5⟩,by(try simp only);omega,Jh (Nat.le_of_ble_eq_true rfl) ⟨⟨rfl,rfl⟩,⟨rfl,rfl⟩,⟨rfl,rfl⟩,⟨rfl,rfl⟩,⟨rfl,rfl⟩,⟨rfl,rfl⟩,⟨rfl,rfl⟩,⟨rfl,rfl⟩,⟨rfl,rfl⟩,⟨rfl,rfl⟩,⟨rfl,rfl⟩,⟨rfl,rfl⟩,⟨rfl,rfl⟩,⟨rfl,rfl⟩,trivial⟩ ⟨⟨rfl,rfl⟩,⟨rfl,rfl⟩,⟨rfl,rfl⟩,⟨rfl,Jp (fun _=>rfl) _⟩,⟨rfl,Je rfl,Jl _ _ _⟩,⟨rfl,Je rfl,Jl _ _ _⟩,⟨rfl,rfl⟩,⟨rfl,Jp (fun _=>rfl) _⟩,⟨rfl,rfl⟩,trivial⟩⟩
 have ey:decide ((y:Int)<(c.insts.length:Int))=false:=J1 (by omega)
 rw[List.drop_eq_nil_of_le (by omega)]at o5
 rw[List.take_of_length_le (by omega)]at o4
 have o5:(k3 cs c B F n).bind G=mI cs:=o5
 unfold k3 at o5
 repeat' first|refine Z1 ?_|refine Z2 ?_|refine Z5 ?_|refine Yd (kk:=.string) ?_|refine Yq ?_|refine Zd ?_|refine Zo ?_|refine J5 ?_|refine Zq ?_|refine J4 ?_|refine Jf ?_|refine J3 ?_|refine Jb ?_|refine Zv ?_
 refine J0a (J8O 21 9 1 rfl) ?_
 rw[Option.bind_assoc]at o5
 generalize hG2:(fun u:Unit=>(((growI c.body).bind (k4 c B n)).bind G))=G2 at o5
 have hbl:c.body.length≤30000:=by omega
 have hwb:∀s∈c.body,wSm s≤1048576:=fun s hs=>by have:=Jz (w:=wSm) hs;omega
 refine J0w (ι:=Bx) (bE cs c k n) (bS cs c (sput N c.name true) Z B F) (bInv cs c F G2 (mI cs)) (fun x=>c.body.length-x.1) (0,[],0,[]) ?_ Turn.refl (JC [(15,14)] rfl rfl rfl ⟨⟨rfl,rfl⟩,⟨rfl,rfl⟩,⟨rfl,rfl⟩,⟨rfl,rfl⟩,⟨rfl,rfl⟩,⟨rfl,rfl⟩,⟨rfl,rfl⟩,⟨rfl,rfl⟩,⟨rfl,rfl⟩,⟨rfl,rfl⟩,⟨rfl,rfl⟩,⟨rfl,rfl⟩,⟨rfl,rfl⟩,⟨rfl,rfl⟩,⟨rfl,rfl⟩,⟨rfl,rfl⟩,⟨rfl,rfl⟩,trivial⟩ ⟨⟨rfl,rfl⟩,⟨rfl,rfl⟩,⟨rfl,rfl⟩,⟨by first|exact JB _ (fun _=>rfl)|rfl,Jp (fun _=>rfl) _⟩,⟨Jn rfl (by first|exact Jq _ _ _|rfl),Je rfl,Jl _ _ _⟩,⟨Jn rfl (by first|exact Jq _ _ _|rfl),Je rfl,Jl _ _ _⟩,⟨rfl,rfl⟩,⟨by first|exact JB _ (fun _=>rfl)|rfl,Jp (fun _=>rfl) _⟩,⟨rfl,rfl⟩,⟨by first|exact JB _ (fun _=>rfl)|rfl,Jp (fun _=>rfl) _⟩,⟨rfl,rfl⟩,⟨Jn rfl (by first|exact Jq _ _ _|rfl),Je rfl,Jl _ _ _⟩,trivial⟩) ?_
 ·exact⟨Nat.zero_le _,Nat.le_refl _,Nat.le_refl _,fun s=>⟨Int.le_refl _,Int.le_refl _⟩,by simp,o5⟩
 intro x hx6
 by_cases hxl:x.1<c.body.length
 ·refine J7c hcl hlt hbl hwb (by omega) (by omega) o4 ?_ x hx6 hxl
  intro hM env σ h2 h3
  repeat' first|refine ret2 (x:=.d (.s (.pointer none))) (y:=vb false) (hx:=by rw[h2];rfl) (hy:=by rw[h3];rfl) ?_|refine J8 ?_|refine Ja ?_
  exact leafF hM
 obtain⟨q,J,m,W⟩:=x
 obtain⟨p1,p2,p3,p4,p5,p6⟩:=hx6
 simp only at p1 p2 p3 p4 p5 p6 hxl
 have hqe:q=c.body.length:=by omega
 subst hqe
 rw[List.drop_eq_nil_of_le (Nat.le_refl _)]at p6
 rw[List.take_of_length_le (Nat.le_refl _)]at p5
 have p6:G2 ()=mI cs:=p6
 rw[←hG2]at p6
 have ey:decide ((c.body.length:Int)<(c.body.length:Int))=false:=J1 (by omega)
 have hgr:=Jbg c.body (by omega)
 unfold bE bS
 dsimp only
 rcases hgw:growI c.body with _|R
 ·rw[hgw]at p6
  simp only[growR,hgw]at hgr
  have n1:(!false)=true:=rfl
  repeat' first|refine Z1 ?_|refine Z2 ?_|refine Z5 ?_|refine Zc (hgr) ?_|refine ret2 ?_|refine Zo ?_|refine J5 ?_|refine Zp ?_|refine Zq ?_|refine Jf ?_|refine J9 ?_|refine J3 ?_|refine Jb ?_|refine Zv ?_|refine J8 ?_|refine Ja ?_
  exact leafF p6
 rw[hgw]at p6
 simp only[growR,hgw]at hgr
 have p6:(k4 c B n R).bind G=mI cs:=p6
 have n1:(!true)=false:=rfl
 have hgs:∀s∈c.body,goodS B c.insts s:=by
  intro s hs h3
  obtain⟨g1,g2⟩:=p5 s hs h3
  have hpl:s.pos.toNat<c.insts.length:=by omega
  have hig:c.insts[s.pos.toNat]? = some c.insts[s.pos.toNat]:=List.getElem?_eq_getElem hpl
  obtain⟨g3,g4⟩:=o4 _ (List.mem_of_getElem? hig)
  exact⟨g1,_,_,hig,g3,List.getElem?_eq_getElem (by omega)⟩
 obtain⟨gg,gn⟩:=J5y hgs hgw
 have hcb:=J1n (I:=c.insts) i5 R
 have gn2:brsN R≤1048576:=by omega
 unfold k4 at p6
 by_cases v1:20000<n
 ·have w1:decide (20000<n)=true:=J0 v1
  rw[if_pos (.inl v1)]at p6
  repeat' first|refine Z1 ?_|refine Z2 ?_|refine Z5 ?_|refine Z9 ?_|refine Zc (hgr) ?_|refine Yq ?_|refine Yp (J5X (z:=Z.length) i5 gn2 gg rfl rfl rfl rfl rfl rfl) ?_|refine Zl ?_|refine ret2 ?_|refine Zo ?_|refine J5 ?_|refine Zp ?_|refine Zq ?_|refine Jf ?_|refine J7 ?_|refine J9 ?_|refine J3 ?_|refine Jb ?_|refine Zv ?_|refine J8 ?_|refine Ja ?_
  exact leafF p6
 have w1:decide (20000<n)=false:=J1 v1
 by_cases v2:400000<costL B c.insts R
 ·have w2:decide (400000<costL B c.insts R)=true:=J0 v2
  rw[if_pos (.inr v2)]at p6
  repeat' first|refine Z1 ?_|refine Z2 ?_|refine Z5 ?_|refine Z7 ?_|refine Zc (hgr) ?_|refine Yq ?_|refine Yp (J5X (z:=Z.length) i5 gn2 gg rfl rfl rfl rfl rfl rfl) ?_|refine Zh ?_|refine Zi ?_|refine Zm ?_|refine ret2 ?_|refine Zo ?_|refine J5 ?_|refine Zp ?_|refine Zq ?_|refine Jf ?_|refine J7 ?_|refine J9 ?_|refine J3 ?_|refine Jb ?_|refine Zv ?_|refine J8 ?_|refine Ja ?_
  exact leafF p6
 have w2:decide (400000<costL B c.insts R)=false:=J1 v2
 rw[if_neg (fun h=>h.elim v1 v2)]at p6
 have p6:G (n,costL B c.insts R)=mI cs:=p6
 rw[←hG]at p6
 repeat' first|refine Z1 ?_|refine Z2 ?_|refine Z5 ?_|refine Z7 ?_|refine Zc (hgr) ?_|refine Yq ?_|refine Yp (J5X (z:=Z.length) i5 gn2 gg rfl rfl rfl rfl rfl rfl) ?_|refine Zh ?_|refine Zi ?_|refine Zm ?_|refine Zo ?_|refine J5 ?_|refine Zq ?_|refine Jf ?_|refine J7 ?_|refine J3 ?_|refine Jb ?_|refine Zv ?_
 refine J09 (fun j=>j=1∨j=2) [6,7,10] Jr (by decide +kernel) ?_
 repeat' first|refine Wl (i:=2) rfl (.inr rfl) ?_|refine Wr (i:=1) rfl (.inl rfl) ?_|refine Wa ?_|refine Wn ?_
 refine We (Yw (sz:=1) (rows:=[[vi n]]) (n:=17) ⟨rfl,rfl⟩) (.inr (fun j hj=>by rw[St.obj_alloc,if_neg (by show ¬j=17;omega)])) ?_
 refine We (app4 (e:=eNum) (l:=Z) (y:=n) (i:=4) (h:=6) (k:=17) (v:=17) rfl rfl (fun _=>rfl) ⟨rfl,rfl⟩) (.inr (fun j hj=>by rw[J0J,if_neg (by omega)])) ?_
 repeat' first|refine Wa ?_|refine Wn ?_
 refine We (Yt (i:=1) (m:=[.sl 4 18 0 (Z++[n]).length,.sl 5 7 0 B.length]) rfl ⟨rfl,rfl⟩) (.inl rfl) ?_
 refine Wx ?_
 refine J09 (fun j=>j=1∨j=2) [6,7,10] Jr (by decide +kernel) ?_
 repeat' first|refine Wl (i:=2) rfl (.inr rfl) ?_|refine Wr (i:=1) rfl (.inl rfl) ?_|refine Wa ?_|refine Wn ?_
 refine We (Yw (sz:=1) (rows:=[[vi (costL B c.insts R)]]) (n:=19) ⟨rfl,rfl⟩) (.inr (fun j hj=>by rw[St.obj_alloc,if_neg (by show ¬j=19;omega)])) ?_
 refine We (app4 (e:=eNum) (l:=B) (y:=costL B c.insts R) (i:=5) (h:=7) (k:=19) (v:=19) rfl rfl (fun _=>rfl) ⟨rfl,rfl⟩) (.inr (fun j hj=>by rw[J0J,if_neg (by omega)])) ?_
 repeat' first|refine Wa ?_|refine Wn ?_
 refine We (Yt (i:=1) (m:=[.sl 4 18 0 (Z++[n]).length,.sl 5 20 0 (B++[costL B c.insts R]).length]) rfl ⟨rfl,rfl⟩) (.inl rfl) ?_
 first|refine Wx ?_|refine Wy ?_
 have hbz:bdZ (Z++[n]):=by
  intro z hz
  rcases List.mem_append.1 hz with h|h
  ·exact i4 z h
  ·simp only[List.mem_singleton]at h;subst h;omega
 have hbb:bdB (B++[costL B c.insts R]):=by
  intro z hz
  rcases List.mem_append.1 hz with h|h
  ·exact i5 z h
  ·simp only[List.mem_singleton]at h;subst h;omega
 repeat' first|refine Z1 ?_|refine Z2 ?_|refine Z5 ?_|refine Zf ?_|refine Jd ?_|refine J3 ?_|refine J6 ?_
 exact⟨(k+1,sput N c.name true,Z++[n],B++[costL B c.insts R]),⟨hlt,by simp only[List.length_append,List.length_singleton];omega,by simp only[List.length_append,List.length_singleton];omega,hbz,hbb,p6⟩,by(try simp only);omega,JC [(6,18),(7,20)] rfl rfl rfl ⟨⟨rfl,rfl⟩,⟨rfl,rfl⟩,⟨rfl,rfl⟩,⟨rfl,rfl⟩,⟨rfl,rfl⟩,⟨rfl,rfl⟩,trivial⟩ ⟨⟨rfl,rfl⟩,⟨rfl,rfl⟩,⟨rfl,rfl⟩,⟨by first|exact JB _ (fun _=>rfl)|rfl,Jp (fun _=>rfl) _⟩,⟨Jn rfl (by first|exact Jq _ _ _|rfl),Je rfl,Jl _ _ _⟩,⟨Jn rfl (by first|exact Jq _ _ _|rfl),Je rfl,Jl _ _ _⟩,trivial⟩⟩
end Go.Pm
