/- Part of the proof: Sh9. -/
import Derived.Test.YtdjanhhljinokaaGreatDoorT25
import Derived.Test.YtdjanhhljinokaaGreatDoorT27
import Derived.Test.YtdjanhhljinokaaGreatDoorT21
import Derived.Test.YtdjanhhljinokaaGreatDoorT26
import Derived.Test.YtdjanhhljinokaaGreatDoorT20
import Derived.Test.YtdjanhhljinokaaGreatDoorT11
import Derived.Test.YtdjanhhljinokaaGreatDoorT8
set_option linter.unusedVariables false
set_option linter.unusedSimpArgs false
namespace Go.Pm
open Go.Proofs
theorem J1H:∀(r:List Cls) (B:List Int) (i:Nat),i<B.length→(boundsGo B r)[i]? = B[i]?
 |[],B,i,_=>rfl
 |c::r,B,i,h=>by simp only[boundsGo];rw[J1H r _ i (by simp;omega),List.getElem?_append_left h]
mutual
theorem J71 {A B I:List Int} (h:∀g∈I,A[g.toNat]? = B[g.toNat]?):∀b:Br,goodB A I b→costB A I b=costB B I b
 |.nd s y n,hb=>by
  simp only[goodB]at hb
  simp only[costB]
  rw[J1l h y hb.2.1,J1l h n hb.2.2]
  by_cases k:s.kind=3
  ·rw[if_pos k,if_pos k]
   obtain⟨_,g,b,h1,_,_⟩:=hb.1 k
   unfold callC
   rw[h1]
   simp only[Option.getD_some]
   rw[h g (List.mem_of_getElem? h1)]
  ·rw[if_neg k,if_neg k]
theorem J1l {A B I:List Int} (h:∀g∈I,A[g.toNat]? = B[g.toNat]?):∀l:List Br,goodL A I l→costL A I l=costL B I l
 |[],_=>rfl
 |b::l,hl=>by
  simp only[goodL]at hl
  simp only[costL]
  rw[J71 h b hl.1,J1l h l hl.2]
end
theorem J3N:∀(r:List Cls) (B:List Int) (j:Nat) (c:Cls),r[j]? = some c→goodC (B.length+j) c→(boundsGo B r)[B.length+j]? = some (boundV (boundsGo B r) c)
 |[],_,_,_,h,_=>by simp at h
 |d::r,B,0,c,h,hg=>by
  have h:d=c:=by simpa using h
  subst h
  simp only[boundsGo,Nat.add_zero]at hg ⊢
  rw[J1H r _ B.length (by simp),List.getElem?_append_right (Nat.le_refl _),Nat.sub_self]
  simp only[List.getElem?_cons_zero]
  unfold boundV
  obtain⟨⟨R,hR⟩,hi,hk⟩:=hg
  rw[hR]
  have hgl:=(J3F (B:=B) (I:=d.insts) (J4o ⟨⟨R,hR⟩,hi,hk⟩ rfl) hR).1
  refine congrArg (fun z=>some (min z 400001)) (J1l (fun g hgm=>?_) R hgl)
  have:=hi g hgm
  rw[J1H r _ _ (by simp;omega),List.getElem?_append_left (by omega)]
 |d::r,B,j+1,c,h,hg=>by
  simp only[boundsGo]
  have:=J3N r (B++[boundV B d]) j c (by simpa using h) (by simp only[List.length_append,List.length_singleton];rw[show B.length+1+j=B.length+(j+1) by omega];exact hg)
  rw[←this]
  congr 1
  simp only[List.length_append,List.length_singleton];omega
theorem J5k {cs:List Cls} (h:mokS cs=true):∀z∈boundsS cs,z≤400000:=by
 unfold mokS at h
 split at h
 ·cases h
 split at h
 ·cases h
 split at h
 ·cases h
 intro z hz
 simpa using List.all_eq_true.1 h z hz
theorem J9k {cs:List Cls} (h:mokS cs=true) {k:Nat} {c:Cls} (hx:cs[k]? = some c):(boundsS cs)[k]? = some (costL (boundsS cs) c.insts (forI c))∧costL (boundsS cs) c.insts (forI c)≤400000:=by
 have hg:=J0v h k c hx
 have h1:=J3N cs [] k c hx (by simpa using hg)
 simp only[List.length_nil,Nat.zero_add]at h1
 have e:boundsGo [] cs=boundsS cs:=rfl
 rw[e]at h1
 have h2:=J5k h _ (List.mem_of_getElem? h1)
 unfold boundV at h1 h2
 have e2:(growI c.body).getD []=forI c:=rfl
 rw[e2]at h1 h2
 have h3:costL (boundsS cs) c.insts (forI c)≤400000:=by omega
 rw[show min (costL (boundsS cs) c.insts (forI c)) 400001=costL (boundsS cs) c.insts (forI c) by omega]at h1
 exact⟨h1,h3⟩
mutual
theorem Jav {call:CallF} {Z B:List Int} {c:Cls} (h:∀g S I,(call g S I).2.2≤(B[g]?).getD 0):∀(b:Br) (σ:MS),(exB call Z c b σ).n≤σ.n+costB B c.insts b
 |.nd s y w,σ=>by
  by_cases k4:s.kind=4
  ·have hk:costB B c.insts (.nd s y w)=1+max (costL B c.insts y) (costL B c.insts w):=by simp only[costB];rw[if_neg (by omega),if_pos k4]
   rw[hk]
   simp only[exB]
   rw[if_pos k4]
   have hm1:=Int.le_max_left (costL B c.insts y) (costL B c.insts w)
   have hm2:=Int.le_max_right (costL B c.insts y) (costL B c.insts w)
   have e:({σ with n:=σ.n+1}:MS).n=σ.n+1:=rfl
   split
   ·have:=J3d (Z:=Z) (c:=c) h y {σ with n:=σ.n+1}
    rw[e]at this
    omega
   ·have:=J3d (Z:=Z) (c:=c) h w {σ with n:=σ.n+1}
    rw[e]at this
    omega
  ·simp only[exB,costB]
   rw[if_neg k4,if_neg k4]
   unfold exS
   by_cases k1:s.kind=1
   ·rw[if_pos k1,if_neg (by omega)];show σ.n+1≤_;omega
   rw[if_neg k1]
   by_cases k2:s.kind=2
   ·rw[if_pos k2,if_neg (by omega)];show σ.n+1≤_;omega
   rw[if_neg k2]
   by_cases k3:s.kind=3
   ·rw[if_pos k3,if_pos k3]
    unfold exCall
    dsimp only
    have hc:=h (nth c.insts s.pos.toNat).toNat ((σ.M.drop (fromZ Z c s.pos.toNat)).take (fromZ Z c s.pos.toNat+(nth Z (nth c.insts s.pos.toNat).toNat).toNat-fromZ Z c s.pos.toNat)) (s.args.map (codeV {σ with n:=σ.n+1}))
    have e:callC B c.insts s.pos=(B[(nth c.insts s.pos.toNat).toNat]?).getD 0:=by unfold callC nth;rw[List.getD_eq_getElem?_getD]
    rw[e]
    omega
   ·rw[if_neg k3,if_neg k3];show σ.n+1≤_;omega
theorem J3d {call:CallF} {Z B:List Int} {c:Cls} (h:∀g S I,(call g S I).2.2≤(B[g]?).getD 0):∀(l:List Br) (σ:MS),(exL call Z c l σ).n≤σ.n+costL B c.insts l
 |[],σ=>by simp only[exL,costL];omega
 |b::l,σ=>by
  have h1:=Jav (Z:=Z) (c:=c) h b σ
  have h2:=J3d (Z:=Z) (c:=c) h l (exB call Z c b σ)
  simp only[exL,costL]
  omega
end
theorem JaQ:∀(r:List Cls) (B:List Int),bdD B→bdD (boundsGo B r)
 |[],B,h=>h
 |c::r,B,h=>by
  simp only[boundsGo]
  refine JaQ r _ fun b hb=>?_
  rcases List.mem_append.1 hb with q|q
  ·exact h b q
  ·simp only[List.mem_singleton]at q
   subst q
   have:=J1C (I:=c.insts) h ((growI c.body).getD [])
   unfold boundV
   omega
theorem J6e {cs:List Cls} (g:Nat):0≤((boundsS cs)[g]?).getD 0:=by
 cases hx:(boundsS cs)[g]? with
 |none=>exact Int.le_refl _
 |some b=>exact(JaQ cs [] (fun b hb=>by simp at hb) b (List.mem_of_getElem? hx)).1
theorem J4T {cs:List Cls} (h:mokS cs=true):∀(f g:Nat) (S I:List Int),(stepF cs (cellsS cs) f g S I).2.2≤((boundsS cs)[g]?).getD 0
 |0,g,S,I=>J6e g
 |f+1,g,S,I=>by
  simp only[stepF]
  split
  ·exact J6e g
  ·rename_i c hc
   have:=J3d (Z:=cellsS cs) (c:=c) (J4T h f) (forI c) ⟨putAll [] (c.ins.map sNm) I,S,0⟩
   rw[(J9k h hc).1]
   simpa using this
theorem J7E {cs:List Cls} (h:mokS cs=true) (f g:Nat) (S I:List Int):(stepF cs (cellsS cs) f g S I).2.2≤400000:=by
 have h1:=J4T h f g S I
 cases hx:(boundsS cs)[g]? with
 |none=>rw[hx]at h1;simp only[Option.getD_none]at h1;omega
 |some b=>rw[hx]at h1;have:=J5k h b (List.mem_of_getElem? hx);simp only[Option.getD_some]at h1;omega
theorem JaA {c:Cls} {l:List Sm} {T:List Br} (h:Spell l T):(∀s∈l,okNm c s)→nmL c T:=by
 induction h with
 |nil=>intro _;trivial
 |leaf h4 h5 h6 h ih=>
  intro hs
  simp only[nmL,nmB]
  exact⟨⟨hs _ (by simp),trivial,trivial⟩,ih fun s hm=>hs s (by simp[hm])⟩
 |cond h4 h5 h6 hy hn h ih1 ih2 ih3=>
  intro hs
  simp only[nmL,nmB]
  exact⟨⟨hs _ (by simp),ih1 fun s hm=>hs s (by simp[hm]),ih2 fun s hm=>hs s (by simp[hm])⟩,ih3 fun s hm=>hs s (by simp[hm])⟩
theorem J8G {c:Cls} {x:ByteArray} (h:setS c x=true):x∈nmsC c:=by
 apply Classical.byContradiction
 intro hn
 unfold setS at h
 rw[J2C hn]at h
 have:=of_decide_eq_true h
 omega
theorem Jcs {cs:List Cls} (hw:wL wCls cs≤1048576) (h:mokS cs=true) (k:Nat) (c:Cls) (hx:cs[k]? = some c):NmK c:=by
 have hcl:=J6b h hx
 obtain⟨hnd,F,hF⟩:=J5z hcl
 obtain⟨h1,h2,h3,h4,h5,h6,h7,h8,h9,h10⟩:=(J1g cs k c).1 hcl
 obtain⟨R,hR⟩:=(J0v h k c hx).1
 have hfor:forI c=R:=by unfold forI;rw[hR];rfl
 have hwc:wCls c≤1048576:=by have:=JE (w:=wCls) (List.mem_of_getElem? hx);simp only[wL]at hw;omega
 refine⟨hnd,?_,by rw[hfor];exact hR,hwc,J4i hwc⟩
 rw[hfor]
 refine JaA (JJ hR) fun s hs=>?_
 have hst:=List.all_eq_true.1 h8 s hs
 unfold stmS at hst
 have q1:¬c1 s=true:=fun e=>by rw[if_pos e]at hst;cases hst
 rw[if_neg q1]at hst
 have q2:¬c2 s=true:=fun e=>by rw[if_pos e]at hst;cases hst
 rw[if_neg q2]at hst
 have q3:¬c3 s=true:=fun e=>by rw[if_pos e]at hst;cases hst
 rw[if_neg q3]at hst
 have q4:¬c4 s=true:=fun e=>by rw[if_pos e]at hst;cases hst
 rw[if_neg q4]at hst
 refine⟨fun k1=>?_,fun k4=>?_,fun k3=>?_⟩
 ·rw[if_pos k1,Bool.and_eq_true]at hst
  exact J8G hst.1
 ·rw[if_neg (by omega),if_neg (by omega),if_pos k4]at hst
  exact(J2J _ _).1 hst
 ·rw[if_neg (by omega),if_neg (by omega),if_neg (by omega),if_neg (by omega),if_pos k3]at hst
  split at hst
  ·cases hst
  split at hst
  ·cases hst
  split at hst
  ·rw[Bool.and_eq_true]at hst
   have:=((J3o c s.outs s.outs [] rfl).1 hst.1).1
   exact fun x hxm=>J8G (this x hxm).1
  ·cases hst
end Go.Pm
/- Part of the proof: Sg6. -/
namespace Go.Pm
attribute [local irreducible] AR Ok inBlock andThen endQ aoper
set_option maxHeartbeats 4000000
open Go.Proofs
theorem J9S (l:List Int) (hl:l.length≤1048576):RFun X 32 [.d (.im (l.map eNum))] 2 1 (l.map vNum):=by
 refine⟨rfl,by decide,?_⟩
 refine Jw Tryz.func32 rfl (by decide) Tryz.ntmps32 Tryz.results32 (by simp) ?_
 repeat' first|refine Z1 ?_|refine Z2 ?_|refine Z5 ?_|refine J04 (k:=l.length) rfl rfl (by omega) rfl rfl rfl rfl rfl rfl ?_|refine Zd ?_|refine Zo ?_|refine J6 ?_|refine J5 ?_
 refine Jq (ι:=Nat) (fun x=>envL [(3,.sl 0 0 0 l.length),(9,.d (.im (l.map eNum))),(10,vi l.length),(11,vi x)]) (fun x=>stL [some (.row 0 2 1 (trk eNum l x [.d (.s (.int .i64 0))]))]) (fun x=>x≤l.length) (fun x=>l.length-x) 0 (Nat.zero_le _) (Jj rfl ⟨.refl _,.refl _,.refl _,.refl _,trivial⟩ ⟨⟨rfl,_,rfl,rfl,rfl,rfl,rfl⟩,trivial⟩) (fun _=>Nat.le_refl 1) ?_
 intro k i1
 rcases hx:l[k]? with _|x
 ·have hle:=Jo hx
  have ek:decide ((k:Int)<(l.length:Int))=false:=J1 (by omega)
  repeat' first|refine Z1 ?_|refine Z2 ?_|refine Zo ?_|refine J6 ?_|refine Zq ?_|refine Jh ?_|refine Jb ?_|refine J3 ?_|refine Ja ?_|refine Zv ?_|refine Zt ?_
  refine .inl ⟨0,0,by simp,?_⟩
  show some (AO.row 0 _ _ (trk _ _ _ _))=_
  rw[J0i hle,J0U (v:=vNum) (fun x=>rfl)]
 ·obtain⟨hdr,hlt⟩:=Ji hx
  have ek:decide ((k:Int)<(l.length:Int))=true:=J0 (by omega)
  repeat' first|refine Z1 ?_|refine Z2 ?_|refine Z3 ?_|refine Z5 ?_|refine Jy rfl rfl hlt rfl rfl rfl rfl ?_|refine J0g hx rfl rfl rfl rfl rfl rfl rfl rfl ?_|refine Ze ?_|refine Zf ?_|refine Zo ?_|refine J6 ?_|refine Jf ?_|refine Zp ?_|refine J5 ?_|refine J8 ?_|refine J3 ?_|refine J4 ?_
  exact⟨k+1,hlt,by(try simp only);omega,Jl (Nat.le_of_ble_eq_true rfl) ⟨⟨rfl,rfl⟩,⟨rfl,rfl⟩,⟨rfl,rfl⟩,⟨rfl,rfl⟩,trivial⟩ ⟨⟨rfl,Je rfl,J0f _ _ _ _ rfl⟩,trivial⟩⟩
theorem J73 (l:List Int) (hl:l.length≤1048576):RFun X 34 [.d (.im (l.map eNum))] 3 1 (l.map vNum):=by
 refine⟨rfl,by decide,?_⟩
 refine Jw Tryz.func34 rfl (by decide) Tryz.ntmps34 Tryz.results34 (by simp) ?_
 repeat' first|refine Z1 ?_|refine Z2 ?_|refine Z5 ?_|refine J04 (k:=l.length) rfl rfl (by omega) rfl rfl rfl rfl rfl rfl ?_|refine Zd ?_|refine Zo ?_|refine J6 ?_|refine J5 ?_
 refine Jq (ι:=Nat) (fun x=>envL [(3,.sl 0 0 0 l.length),(9,.d (.im (l.map eNum))),(10,vi l.length),(11,vi x)]) (fun x=>stL [some (.row 0 3 1 (trk eNum l x [.d (.s (.int .i64 0))]))]) (fun x=>x≤l.length) (fun x=>l.length-x) 0 (Nat.zero_le _) (Jj rfl ⟨.refl _,.refl _,.refl _,.refl _,trivial⟩ ⟨⟨rfl,_,rfl,rfl,rfl,rfl,rfl⟩,trivial⟩) (fun _=>Nat.le_refl 1) ?_
 intro k i1
 rcases hx:l[k]? with _|x
 ·have hle:=Jo hx
  have ek:decide ((k:Int)<(l.length:Int))=false:=J1 (by omega)
  repeat' first|refine Z1 ?_|refine Z2 ?_|refine Zo ?_|refine J6 ?_|refine Zq ?_|refine Jh ?_|refine Jb ?_|refine J3 ?_|refine Ja ?_|refine Zv ?_|refine Zt ?_
  refine .inl ⟨0,0,by simp,?_⟩
  show some (AO.row 0 _ _ (trk _ _ _ _))=_
  rw[J0i hle,J0U (v:=vNum) (fun x=>rfl)]
 ·obtain⟨hdr,hlt⟩:=Ji hx
  have ek:decide ((k:Int)<(l.length:Int))=true:=J0 (by omega)
  repeat' first|refine Z1 ?_|refine Z2 ?_|refine Z3 ?_|refine Z5 ?_|refine Jy rfl rfl hlt rfl rfl rfl rfl ?_|refine J0g hx rfl rfl rfl rfl rfl rfl rfl rfl ?_|refine Ze ?_|refine Zf ?_|refine Zo ?_|refine J6 ?_|refine Jf ?_|refine Zp ?_|refine J5 ?_|refine J8 ?_|refine J3 ?_|refine J4 ?_
  exact⟨k+1,hlt,by(try simp only);omega,Jl (Nat.le_of_ble_eq_true rfl) ⟨⟨rfl,rfl⟩,⟨rfl,rfl⟩,⟨rfl,rfl⟩,⟨rfl,rfl⟩,trivial⟩ ⟨⟨rfl,Je rfl,J0f _ _ _ _ rfl⟩,trivial⟩⟩
def eRoot (c:Cls):List D:=[.im ((forI c).map eBrP)]
theorem Ja5 (cs:List Cls) (hw:wL wCls cs≤1048576) (hm:mokS cs=false):AFun X 30 [.agg [.d (.im (cs.map eCls))]] St.nil fun E σ'=>E=.ret (.tup [.d (.s (.pointer none)),vb false])∧σ'=stL []:=by
 have hms:=J3Q cs hw
 rw[(Jc8 cs).2 hm]at hms
 refine AFun.lowE (K:=fun E σ'=>E=.ret (.tup [.d (.s (.pointer none)),vb false])) ?_ [] rfl rfl rfl rfl fun E σ1 h=>⟨h,trivial⟩
 refine Jw Tryz.func30 rfl (by decide) Tryz.ntmps30 Tryz.results30 (by simp) ?_
 unfold finR at hms
 have n0:(!false)=true:=rfl
 repeat' first|refine Z1 ?_|refine Z2 ?_|refine Z5 ?_|refine Zc (hms) ?_|refine Zo ?_|refine J6 ?_|refine Zp ?_|refine Jb ?_|refine J7 ?_
 exact ret2 rfl
theorem Jah (cs:List Cls) (hw:wL wCls cs≤1048576) (hm:mokS cs=true):AFun X 30 [.agg [.d (.im (cs.map eCls))]] St.nil fun E σ'=>E=.ret (.tup [.ref 0 0,vb true])∧σ'=stL [some (engV cs (cellsS cs) (boundsS cs) (rootsF cs) 0)]:=by
 have hms:=J3Q cs hw
 rw[(Jc8 cs).1 hm]at hms
 have hcl:cs.length≤1048576:=J2R hw
 generalize hZ:cellsS cs=Z at hms
 generalize hB:boundsS cs=B at hms
 refine AFun.lowE (K:=fun E σ'=>E=.ret (.tup [.ref 1 0,vb true])∧σ'.obj 1=some (engV cs Z B (rootsF cs) 0)) ?_ [(0,1)] rfl rfl rfl rfl fun E σ1 ⟨h1,h2⟩=>⟨h1,⟨h2,rfl⟩,trivial⟩
 refine Jw Tryz.func30 rfl (by decide) Tryz.ntmps30 Tryz.results30 (by simp) ?_
 unfold finR at hms
 have n0:(!true)=false:=rfl
 repeat' first|refine Z1 ?_|refine Z2 ?_|refine Z5 ?_|refine Zc (hms) ?_|refine Zd ?_|refine Zo ?_|refine J6 ?_|refine Zq ?_|refine J5 ?_|refine J8 ?_|refine J3 ?_
 refine JC (J0t 1 76 1 rfl (cs':=[.d (.im (cs.map eCls)),.d (.ip [.im (Z.map eNum),.im (B.map eNum)] 0),.sl 2 2 0 0,vi 0]) rfl rfl ⟨.refl _,.refl _,.nil,.refl _,trivial⟩) ?_
 refine JX (ι:=Nat×List Cls) (fun x_=>envL [(6,.ref 1 0),(23,.d (.im (cs.map eCls))),(24,vi cs.length),(25,vi x_.1)]) (fun x_=>stL [some (.var [.d (.im (cs.map eCls))]),some (.var [.d (.im (cs.map eCls)),.d (.ip [.im (Z.map eNum),.im (B.map eNum)] 0),.sl 2 3 0 x_.2.length,vi 0]),some (.row 3 76 1 (im2 eRoot x_.2)),none]) (fun x_=>x_.1≤cs.length∧x_.2=cs.take x_.1) (fun x_=>cs.length-x_.1) (0,[]) (⟨Nat.zero_le _,rfl⟩) Turn.refl (Js [(3,2)] rfl rfl rfl ⟨⟨rfl,rfl⟩,⟨rfl,rfl⟩,⟨rfl,rfl⟩,⟨rfl,rfl⟩,trivial⟩ ⟨⟨rfl,rfl⟩,⟨rfl,rfl⟩,⟨Jd rfl (by first|exact Jg _ _ _|rfl),Je rfl,Jc _ _ _⟩,trivial⟩) ?_
 rintro⟨j,L⟩ ⟨j1,j2⟩
 simp only at j1 j2
 show Ok _ _ _ _ (envL [(6,.ref 1 0),(23,.d (.im (cs.map eCls))),(24,vi cs.length),(25,vi j)]) (stL [some (.var [.d (.im (cs.map eCls))]),some (.var [.d (.im (cs.map eCls)),.d (.ip [.im (Z.map eNum),.im (B.map eNum)] 0),.sl 2 3 0 L.length,vi 0]),some (.row 3 76 1 (im2 eRoot L)),none])
 have hLl:L.length=j:=by rw[j2,List.length_take];omega
 rcases hy:cs[j]? with _|c
 rotate_left
 ·obtain⟨_,hlt3⟩:=Ji hy
  have ej:decide ((j:Int)<(cs.length:Int))=true:=J0 (by omega)
  obtain⟨R,hR⟩:=(J0v hm j c hy).1
  have hfor:forI c=R:=by unfold forI;rw[hR];rfl
  have hwc:wCls c≤1048576:=by have:=JE (w:=wCls) (List.mem_of_getElem? hy);simp only[wL]at hw;omega
  have hgr:=J8r c.body (J2R (w:=wSm) (n:=1048576) (by unfold wCls at hwc;omega))
  unfold growR at hgr
  rw[hR,←hfor]at hgr
  repeat' first|refine Z1 ?_|refine Z2 ?_|refine Z3 ?_|refine Z4 ?_|refine Z5 ?_|refine Zc (hgr) ?_|refine Ju ?_|refine Yl (e:=eRoot) (l:=L) [c] ?_|refine Ze ?_|refine Zf ?_|refine Zo ?_|refine J6 ?_|refine Jf ?_|refine Zp ?_|refine J5 ?_|refine J8 ?_|refine J3 ?_|refine J4 ?_
  exact⟨(j+1,L++[c]),⟨hlt3,by rw[j2,JT hy]⟩,by(try simp only);omega,Js [(3,6)] rfl rfl rfl ⟨⟨rfl,rfl⟩,⟨rfl,rfl⟩,⟨rfl,rfl⟩,⟨rfl,rfl⟩,trivial⟩ ⟨⟨rfl,rfl⟩,⟨rfl,rfl⟩,⟨Jd rfl (by first|exact Jg _ _ _|rfl),Je rfl,Jc _ _ _⟩,trivial⟩⟩
 have hge:=Jo hy
 have ej:decide ((j:Int)<(cs.length:Int))=false:=J1 (by omega)
 have hL:L=cs:=by rw[j2,List.take_of_length_le hge]
 subst hL
 refine JC (J4K (env':=envL [(6,.ref 1 0),(23,.d (.im (L.map eCls))),(24,vi L.length),(25,vi j)]) (σ':=stL [some (.var [.d (.im (L.map eCls))]),some (engV L Z B (rootsF L) 0),none,none]) (fun j=>j == 2) rfl (fun j o' h=>?_) fun _=>.same _) ?_
 ·match j,h with
  |0,h=>obtain rfl:=Option.some.inj h;exact⟨rfl,_,rfl,.same _⟩
  |1,h=>
   obtain rfl:=Option.some.inj h
   refine⟨rfl,_,rfl,.var rfl fun q h1 h2=>?_⟩
   match q,h1,h2 with
   |0,_,_=>exact .same _
   |1,_,_=>exact .same _
   |2,_,_=>exact .fz (.data (J0j (e:=eRoot) (l:=L) (i:=2) (v:=3) (E:=76) (sz:=1) rfl rfl))
   |3,_,_=>exact .same _
  |2,h=>cases h
  |3,h=>cases h
  |q+4,h=>simp[stL]at h
 repeat' first|refine Z1 ?_|refine Z2 ?_|refine Zo ?_|refine J6 ?_|refine Zq ?_|refine Jh ?_|refine Jb ?_|refine J3 ?_|refine Ja ?_|refine Zv ?_
 exact ret2 ⟨rfl,rfl⟩
end Go.Pm
/- Part of the proof: Sg7. -/
namespace Go.Pm
attribute [local irreducible] AR Ok inBlock andThen endQ aoper
set_option maxHeartbeats 8000000
open Go.Proofs
theorem ret3 {X:Cfg} {env:Env} {σ:St} {s t q:Nat} {K:AEnd→St→Prop} {x y z:AV} (h:K (.ret (.tup [x,y,z])) σ) (hx:(env s).force=some x:=by exact rfl) (hy:(env t).force=some y:=by exact rfl) (hz:(env q).force=some z:=by exact rfl):endQ X #[.tmp s,.tmp t,.tmp q].toList K .ret env σ:=by
 rw[←JL hx,←JL hy,←JL hz]at h
 unfold endQ;exact h
def stepB (cs:List Cls) (n:Int) (S I:List Int):Bool:=hasS cs n&&(decide ((S.length:Int)=nth (cellsS cs) n.toNat)&&(decide (I.length=((cs[n.toNat]?).map fun c=>c.ins.length).getD 0)&&(S.all valI&&I.all valI)))
def stepR (cs:List Cls) (n:Int) (S I:List Int):List Int×List Int×Int:=if stepB cs n S I=true then stepF cs (cellsS cs) (n.toNat+1) n.toNat S I else([],[],-1)
abbrev sI (l:List Int) (u:Value):Sh×D×Value:=(.im 3 shNum,.im (l.map eNum),u)
def eNumsP (l:List Int):List D:=[.im (l.map eNum)]
theorem J1N {l:List Int} (h:l.all valI=true):∀v∈l,inR v:=fun v hv=>by
 have:=List.all_eq_true.1 h v hv
 unfold valI at this
 simpa[inR]using this
def stepK (R:List Int×List Int×Int) (A:AEnd) (τ':FH):Prop:=∃u1 u2,A=.ret (.tup [.d (.s u1),.d (.s u2),vi R.2.2])∧Tr τ' [sI R.1 u1,sI R.2.1 u2]
def stepE (R:List Int×List Int×Int) (A:AEnd) (σ':St):Prop:=∃τ',stepK R A τ'∧σ'.obj 0=some (.box τ')∧∃r,A=.ret r∧low 0 r=true
theorem J11 {σ:St} (h:σ.obj 0=some (.box FH.non)):stepE ([],[],-1) (.ret (.tup [.d (.s (.slice none 0 0)),.d (.s (.slice none 0 0)),vi (-1)])) σ:=
 ⟨FH.non,⟨_,_,rfl,.im0 _ _ (by decide) (.im0 _ _ (by decide) .nil)⟩,h,_,rfl,rfl⟩
theorem J9O (x:Int):(eNum x).map AV.d=(vNum x).map ex1:=rfl
theorem RFun.lendI {X:Cfg} {f:FuncId} {args args':List AV} {E n:Nat} {l:List Int} (h:RFun X f args' E 1 (l.map vNum)) {σ:St} (ha:LnL σ args args') (hn:σ.next=n):
  AFun X f args σ fun A σ'=>A=.ret (.sl n n 0 l.length)∧σ'=σ.alloc (.row n E 1 (im2 eNum l)):=by
 have:=h.lendB ha
 rw[List.length_map,←J0U J9O,hn]at this
 exact this
theorem J3c (A:List (Option AO)) (o:AO):(stL A).alloc o=stL (A++[some o]):=by
 refine St.ext' (funext fun j=>?_) (by simp[stL,St.alloc])
 show(if j=A.length then some o else(A[j]?).join)=((A++[some o])[j]?).join
 by_cases h:j=A.length
 ·rw[if_pos h,h,List.getElem?_append_right (Nat.le_refl _)];simp
 ·rw[if_neg h]
  rcases Nat.lt_or_ge j A.length with h1|h1
  ·rw[List.getElem?_append_left h1]
  ·rw[List.getElem?_eq_none h1,List.getElem?_eq_none (by simp;omega)]
theorem J0X {cs:List Cls} {o:AO} {x:AV} (h:AFun X 30 [.agg [.d (.im (cs.map eCls))]] (stL []) fun E σ'=>E=.ret (.tup [.ref 0 0,vb true])∧σ'=stL [some (engV cs (cellsS cs) (boundsS cs) (rootsF cs) 0)]):
  AFun X 30 [.agg [.d (.im (cs.map eCls))]] ((stL [some o]).alloc (.var [x])) fun E σ'=>E=.ret (.tup [.ref 2 0,vb true])∧σ'=stL [some o,some (.var [x]),some (engV cs (cellsS cs) (boundsS cs) (rootsF cs) 0)]:=by
 rw[show(stL [some o]).alloc (.var [x])=stL [some o,some (.var [x])]from J3c _ _]
 have h2:=AFun.emb h [] rfl trivial (σ:=stL [some o,some (.var [x])]) (fun j hj=>absurd hj (by simp)) (fun j o hj=>by simp at hj) rfl
 refine h2.mono ?_
 rintro E σ' ⟨rfl,rfl⟩
 refine⟨rfl,St.ext' (funext fun j=>?_) rfl⟩
 match j with
 |0=>rfl
 |1=>rfl
 |2=>rfl
 |j+3=>exact(J22 (by show 0≤1;omega) (by show 2+(1-0)≤j+3;omega)).trans rfl
theorem JaR {cs ds:List Cls} {Z Bd:List Int} {roots:List (List D)} {call:CallF} (hstep:StepC cs ds Z Bd roots call) {g:Nat} {d:Cls} {z:Nat} (hg:ds[g]? = some d) (hz:Z[g]? = some (z:Int)) {S I:List Int} (hS:S.length=z) (hI:I.length=d.ins.length)
  (hM:∀v∈S,inR v) (hIr:∀v∈I,inR v) (hn2:(call g S I).2.2≤1099511627776) (hb:z≤1099511627776) {o:AO} {x:AV}:
  AFun X 33 [.ref 2 0,vi (g:Int),.sl 4 4 0 S.length,.sl 5 5 0 I.length] (((stL [some o,some (.var [x]),some (engV cs Z Bd roots 0),none]).alloc (.row 4 2 1 (im2 eNum S))).alloc (.row 5 2 1 (im2 eNum I))) fun E σ'=>
   E=.ret (.sl 6 7 0 (call g S I).2.1.length)∧σ'=stL [some o,some (.var [x]),some (engV cs Z Bd roots (call g S I).2.2),none,some (.row 4 2 1 (im2 eNum (call g S I).1)),some (.row 5 2 1 (im2 eNum I)),some (.row 7 2 1 (im2 eNum (call g S I).2.1)),none]:=by
 rw[J3c,show(stL ([some o,some (.var [x]),some (engV cs Z Bd roots 0),none]++[some (.row 4 2 1 (im2 eNum S))])).alloc (.row 5 2 1 (im2 eNum I))=stL [some o,some (.var [x]),some (engV cs Z Bd roots 0),none,some (.row 4 2 1 (im2 eNum S)),some (.row 5 2 1 (im2 eNum I))]from J3c _ _]
 have h:=hstep g d z [] S [] I 0 hg hz hS hI (fun v hv=>by simp at hv) hM (fun v hv=>by simp at hv) hIr (Int.le_refl _) (by omega) (by simpa using hb)
 simp only[List.nil_append,List.append_nil,List.length_nil,Nat.zero_add,Int.zero_add]at h
 subst hS
 unfold engV at h
 have h2:=AFun.emb h [2,4,4,5,5] rfl ⟨fun e o h1 _=>J0u h1 rfl,⟨fun e o h1 h2=>by
   match e,h1,h2 with
   |0,_,h2=>cases h2
   |1,h1,_=>cases h1
   |2,h1,_=>cases h1
   |e+3,h1,_=>simp at h1,⟨fun e o h1 h2=>by
   match e,h1,h2 with
   |0,_,h2=>cases h2
   |e+1,h1,_=>simp at h1,trivial⟩⟩⟩ (σ:=stL [some o,some (.var [x]),some (engV cs Z Bd roots 0),none,some (.row 4 2 1 (im2 eNum S)),some (.row 5 2 1 (im2 eNum I))]) (fun j hj=>by
   match j,hj with
   |0,_=>exact(by decide:2<6)
   |1,_=>exact(by decide:4<6)
   |2,_=>exact(by decide:4<6)
   |3,_=>exact(by decide:5<6)
   |4,_=>exact(by decide:5<6)
   |j+5,hj=>exact absurd hj (by show ¬j+5<5;omega)) (fun j o hj=>by
   match j,hj with
   |0,hj=>cases hj;exact⟨rfl,rfl⟩
   |1,hj=>cases hj;exact⟨Jd rfl (Jg _ _ _),by show 2<5;decide,Jc _ _ _⟩
   |2,hj=>cases hj
   |3,hj=>cases hj;exact⟨Jd rfl (Jg _ _ _),by show 4<5;decide,Jc _ _ _⟩
   |4,hj=>cases hj
   |j+5,hj=>simp at hj) rfl
 refine h2.mono ?_
 rintro E σ' ⟨rfl,rfl⟩
 refine⟨rfl,St.ext' (funext fun j=>?_) rfl⟩
 match j with
 |0=>rfl
 |1=>rfl
 |2=>rfl
 |3=>rfl
 |4=>exact(Jd rfl (Jg _ _ _)).symm
 |5=>exact(Jd rfl (Jg _ _ _)).symm
 |6=>exact(Jd rfl (Jg _ _ _)).symm
 |7=>rfl
 |j+8=>exact(J22 (by show 5≤7;omega) (by show 6+(7-5)≤j+8;omega)).trans rfl
theorem J7Q {cs:List Cls} {o:AO} {x:AV} (h:AFun X 30 [.agg [.d (.im (cs.map eCls))]] (stL []) fun E σ'=>E=.ret (.tup [.d (.s (.pointer none)),vb false])∧σ'=stL []):
  AFun X 30 [.agg [.d (.im (cs.map eCls))]] ((stL [some o]).alloc (.var [x])) fun E σ'=>E=.ret (.tup [.d (.s (.pointer none)),vb false])∧σ'=stL [some o,some (.var [x])]:=by
 rw[show(stL [some o]).alloc (.var [x])=stL [some o,some (.var [x])]from J3c _ _]
 have h2:=AFun.emb h [] rfl trivial (σ:=stL [some o,some (.var [x])]) (fun j hj=>absurd hj (by simp)) (fun j o hj=>by simp at hj) rfl
 refine h2.mono ?_
 rintro E σ' ⟨rfl,rfl⟩
 refine⟨rfl,St.ext' (funext fun j=>?_) rfl⟩
 match j with
 |0=>rfl
 |1=>rfl
 |j+2=>exact(J22 (by show 0≤0;omega) (by show 2+(0-0)≤j+2;omega)).trans rfl
end Go.Pm
/- Part of the proof: Sha. -/
namespace Go.Pm
attribute [local irreducible] AR Ok inBlock andThen endQ aoper
set_option maxHeartbeats 8000000
open Go.Proofs
def resT (R:List Int×List Int×Int):AV:=.tup [.d (.im (R.1.map eNum)),.d (.im (R.2.1.map eNum)),vi R.2.2]
theorem Jbr (l:List Int):l.all fitS=l.all valI:=by
 congr 1
 funext v
 exact(J9P v).symm
theorem J8Q {cs:List Cls} (hw:wL wCls cs≤1048576) (hm:mokS cs=true) {k z:Nat} {c:Cls} {S I:List Int} (hx:cs[k]? = some c) (hz:(cellsS cs)[k]? = some (z:Int)) (hS:S.length=z) (hI:I.length=c.ins.length) (hSr:∀v∈S,inR v) (hIr:∀v∈I,inR v):
  PFun X 28 [.agg [.d (.im (cs.map eCls))],vi (k:Int),.d (.im (S.map eNum)),.d (.im (I.map eNum))] (resT (stepF cs (cellsS cs) (k+1) k S I)):=by
 have hpl:=J9W cs hw (fun k c h=>J0v hm k c h)
 have hds:(cs.take (k+1))[k]? = some c:=by rw[List.getElem?_take,if_pos (by omega)];exact hx
 have hwk:=J9H (J6v hw hm) (Jcs hw hm) rfl rfl (k+1) k c z S I hds hz hS hI hSr hIr (by have:=J7E hm (k+1) k S I;omega)
 unfold resT
 refine Jn Tryz.func28 rfl (by decide) Tryz.ntmps28 Tryz.results28 (by simp) rfl rfl ?_
 repeat' first|refine Z1 ?_|refine Z2 ?_|refine Zo ?_|refine J6 ?_
 refine Jv (fun _=>True) [] Jp (by decide +kernel) ?_
 repeat' first|refine Wl (i:=0) rfl trivial ?_|refine Wq (fun τ _=>Zc hpl ⟨rfl,rfl⟩) ?_|refine Wq (fun τ _=>Zc hwk ⟨rfl,rfl⟩) ?_|refine Wa ?_
 refine Wx ?_
 repeat' first|refine Jb ?_
 exact ret3w rfl
theorem JaS (cs:List Cls) (n:Int) (S I:List Int) (hw:wL wCls cs≤1048576) (hSl:S.length≤1048576) (hIl:I.length≤1048576):
  PFun X 8 [.agg [.d (.im (cs.map eCls))],vi n,.d (.im (S.map eNum)),.d (.im (I.map eNum))] (resT (stepR cs n S I)):=by
 have hhs:=Jbi cs n hw
 have hv1:=J4v S hSl
 have hv2:=J4v I hIl
 rw[Jbr]at hv1 hv2
 unfold resT stepR
 refine Jn Tryz.func8 rfl (by decide) Tryz.ntmps8 Tryz.results8 (by simp) rfl rfl ?_
 cases h1:hasS cs n with
 |false=>
  have n1:(!hasS cs n)=true:=by rw[h1];rfl
  have hB:¬stepB cs n S I=true:=by unfold stepB;rw[h1];simp
  rw[if_neg hB]
  repeat' first|refine Z1 ?_|refine Z2 ?_|refine Z4 ?_|refine Z5 ?_|refine Z9 ?_|refine Zc (hhs) ?_|refine Zl ?_|refine Zo ?_|refine J6 ?_|refine Zp ?_|refine Jb ?_|refine J7 ?_
  exact ret3w rfl
 |true=>
  have n1:(!hasS cs n)=false:=by rw[h1];rfl
  obtain⟨hm,k,rfl,hk⟩:=J5H h1
  obtain⟨c,hx⟩:∃c,cs[k]? = some c:=⟨cs[k],List.getElem?_eq_getElem hk⟩
  obtain⟨z,hK⟩:=J6v hw hm k c hx
  have hz:=hK.hz
  have hce:=J3D cs hw fun k c hx=>(J0v hm k c hx).2.1
  have hBe:stepB cs (k:Int) S I=(decide ((S.length:Int)=(z:Int))&&(decide (I.length=c.ins.length)&&(S.all valI&&I.all valI))):=by
   unfold stepB
   rw[h1,Int.toNat_natCast,J8k hz,hx];rfl
  by_cases h3:(S.length:Int)≠(z:Int)
  ·have n3:decide ((S.length:Int)≠(z:Int))=true:=J0 h3
   have hB:¬stepB cs (k:Int) S I=true:=by rw[hBe,J1 h3];simp
   rw[if_neg hB]
   repeat' first|refine Z1 ?_|refine Z2 ?_|refine Z4 ?_|refine Z5 ?_|refine Z7 ?_|refine Z9 ?_|refine Zc (hhs) ?_|refine Zc (hce) ?_|refine Yej (e:=eNum) k rfl hz ?_|refine Zd ?_|refine Zh ?_|refine Zi ?_|refine Zl ?_|refine Zm ?_|refine Zo ?_|refine J6 ?_|refine Zp ?_|refine Jb ?_|refine J7 ?_
   exact ret3w rfl
  have n3:decide ((S.length:Int)≠(z:Int))=false:=J1 h3
  have h3:S.length=z:=by omega
  by_cases h4:(I.length:Int)≠(c.ins.length:Int)
  ·have n4:decide ((I.length:Int)≠(c.ins.length:Int))=true:=J0 h4
   have hB:¬stepB cs (k:Int) S I=true:=by rw[hBe,J1 (show ¬I.length=c.ins.length by omega)];simp
   rw[if_neg hB]
   repeat' first|refine Z1 ?_|refine Z2 ?_|refine Z4 ?_|refine Z5 ?_|refine Z7 ?_|refine Z9 ?_|refine Zc (hhs) ?_|refine Zc (hce) ?_|refine Yej (e:=eNum) k rfl hz ?_|refine Zd ?_|refine Ze ?_|refine Zh ?_|refine Zi ?_|refine Zl ?_|refine Zm ?_|refine Zo ?_|refine J6 ?_|refine Zp ?_|refine Jb ?_|refine J7 ?_
   exact ret3w rfl
  have n4:decide ((I.length:Int)≠(c.ins.length:Int))=false:=J1 h4
  have h4:I.length=c.ins.length:=by omega
  rw[J0 (show(S.length:Int)=(z:Int) by omega),J0 h4,Bool.true_and,Bool.true_and]at hBe
  cases a1:S.all valI with
  |false=>
   have n5:(!S.all valI)=true:=by rw[a1];rfl
   have hB:¬stepB cs (k:Int) S I=true:=by rw[hBe,a1];simp
   rw[if_neg hB]
   repeat' first|refine Z1 ?_|refine Z2 ?_|refine Z4 ?_|refine Z5 ?_|refine Z7 ?_|refine Z9 ?_|refine Zc (hhs) ?_|refine Zc (hce) ?_|refine Yej (e:=eNum) k rfl hz ?_|refine Zc (hv1) ?_|refine Zd ?_|refine Ze ?_|refine Zh ?_|refine Zi ?_|refine Zl ?_|refine Zm ?_|refine Zo ?_|refine J6 ?_|refine Zp ?_|refine Jb ?_|refine J7 ?_
   exact ret3w rfl
  |true=>
   have n5:(!S.all valI)=false:=by rw[a1];rfl
   cases a2:I.all valI with
   |false=>
    have n6:(!I.all valI)=true:=by rw[a2];rfl
    have hB:¬stepB cs (k:Int) S I=true:=by rw[hBe,a2];simp
    rw[if_neg hB]
    repeat' first|refine Z1 ?_|refine Z2 ?_|refine Z4 ?_|refine Z5 ?_|refine Z7 ?_|refine Zc (hhs) ?_|refine Zc (hce) ?_|refine Yej (e:=eNum) k rfl hz ?_|refine Zc (hv1) ?_|refine Zc (hv2) ?_|refine Zd ?_|refine Ze ?_|refine Zh ?_|refine Zi ?_|refine Zm ?_|refine Zo ?_|refine J6 ?_|refine Zp ?_|refine Jb ?_|refine J7 ?_
    exact ret3w rfl
   |true=>
    have n6:(!I.all valI)=false:=by rw[a2];rfl
    have hB:stepB cs (k:Int) S I=true:=by rw[hBe,a1,a2];rfl
    rw[if_pos hB,Int.toNat_natCast]
    have h3s:=J8Q hw hm hx hz h3 h4 (J1N a1) (J1N a2)
    unfold resT at h3s
    repeat' first|refine Z1 ?_|refine Z2 ?_|refine Z5 ?_|refine Z7 ?_|refine Zc (hhs) ?_|refine Zc (hce) ?_|refine Yej (e:=eNum) k rfl hz ?_|refine Zc (hv1) ?_|refine Zc (hv2) ?_|refine Zc (h3s) ?_|refine Zd ?_|refine Ze ?_|refine Zh ?_|refine Zi ?_|refine Zm ?_|refine Zo ?_|refine J6 ?_|refine Zq ?_|refine J8 ?_|refine Jb ?_|refine J3 ?_
    exact ret3w rfl
end Go.Pm
/- Part of the proof: Sg8. -/
namespace Go.Pm
attribute [local irreducible] AR Ok inBlock andThen endQ aoper
set_option maxHeartbeats 8000000
open Go.Proofs
theorem J14 {cs:List Cls} {n:Int} {S I:List Int} (h:stepB cs n S I=false):stepR cs n S I=([],[],-1):=by unfold stepR;rw[if_neg (by rw[h];simp)]
theorem J8z:St.nil=stL []:=by
 refine St.ext' (funext fun j=>?_) rfl
 show none=(([]:List (Option AO))[j]?).join
 simp
theorem JbC (cs:List Cls) (n:Int) (S I:List Int) (hw:wL wCls cs≤1048576) (hSl:S.length≤1048576) (hIl:I.length≤1048576) (hcost:mokS cs=true→∀c z,cs[n.toNat]? = some c→GoodK cs (cellsS cs) n.toNat c z→(stepF cs (cellsS cs) (n.toNat+1) n.toNat S I).2.2≤1099511627776):
  BFun X 11 [.agg [.d (.im (cs.map eCls))],vi n,.d (.im (S.map eNum)),.d (.im (I.map eNum))] FH.non (stepK (stepR cs n S I)):=by
 refine⟨rfl,?_⟩
 show AFun X _ _ _ (stepE (stepR cs n S I))
 cases hm:mokS cs with
 |false=>
  have hB:stepB cs n S I=false:=by unfold stepB hasS;rw[hm];rfl
  rw[J14 hB]
  have he:=Ja5 cs hw hm
  rw[J8z]at he
  have n0:(!false)=true:=rfl
  refine Jw Tryz.func11 rfl (by decide) Tryz.ntmps11 Tryz.results11 (by simp) ?_
  refine JC (env':=envL [(0,.agg [.d (.im (cs.map eCls))]),(1,vi n),(2,.d (.im (S.map eNum))),(3,.d (.im (I.map eNum)))]) (σ':=stL [some (.box FH.non)]) (Jj rfl ⟨.refl _,.refl _,.refl _,.refl _,trivial⟩ ⟨⟨rfl,_,rfl,rfl⟩,trivial⟩) ?_
  repeat' first|refine Z1 ?_|refine Z2 ?_|refine Z5 ?_|refine Z9 ?_|refine Ym (J7Q he) ?_|refine Zo ?_|refine J6 ?_|refine Zp ?_|refine Jb ?_|refine J7 ?_
  exact ret3 (J11 rfl)
 |true=>
  have he:=Jah cs hw hm
  rw[J8z]at he
  have n0:(!true)=false:=rfl
  by_cases h1:n<0
  ·have n1:decide (n<0)=true:=J0 h1
   have hB:stepB cs n S I=false:=by unfold stepB;rw[Jc0 (.inl h1)];rfl
   rw[J14 hB]
   refine Jw Tryz.func11 rfl (by decide) Tryz.ntmps11 Tryz.results11 (by simp) ?_
   refine JC (env':=envL [(0,.agg [.d (.im (cs.map eCls))]),(1,vi n),(2,.d (.im (S.map eNum))),(3,.d (.im (I.map eNum)))]) (σ':=stL [some (.box FH.non)]) (Jj rfl ⟨.refl _,.refl _,.refl _,.refl _,trivial⟩ ⟨⟨rfl,_,rfl,rfl⟩,trivial⟩) ?_
   repeat' first|refine Z1 ?_|refine Z2 ?_|refine Z5 ?_|refine Z7 ?_|refine Z9 ?_|refine Ym (J0X he) ?_|refine Zh ?_|refine Zi ?_|refine Zl ?_|refine Zo ?_|refine J6 ?_|refine Zp ?_|refine Jb ?_|refine J7 ?_
   exact ret3 (J11 rfl)
  have n1:decide (n<0)=false:=J1 h1
  by_cases h2:(cs.length:Int)≤n
  ·have n2:decide ((cs.length:Int)≤n)=true:=J0 h2
   have hB:stepB cs n S I=false:=by unfold stepB;rw[Jc0 (.inr h2)];rfl
   rw[J14 hB]
   refine Jw Tryz.func11 rfl (by decide) Tryz.ntmps11 Tryz.results11 (by simp) ?_
   refine JC (env':=envL [(0,.agg [.d (.im (cs.map eCls))]),(1,vi n),(2,.d (.im (S.map eNum))),(3,.d (.im (I.map eNum)))]) (σ':=stL [some (.box FH.non)]) (Jj rfl ⟨.refl _,.refl _,.refl _,.refl _,trivial⟩ ⟨⟨rfl,_,rfl,rfl⟩,trivial⟩) ?_
   repeat' first|refine Z1 ?_|refine Z2 ?_|refine Z5 ?_|refine Z7 ?_|refine Z9 ?_|refine Ym (J0X he) ?_|refine Zd ?_|refine Zh ?_|refine Zi ?_|refine Zl ?_|refine Zm ?_|refine Zo ?_|refine J6 ?_|refine Zp ?_|refine Jb ?_|refine J7 ?_
   exact ret3 (J11 rfl)
  have n2:decide ((cs.length:Int)≤n)=false:=J1 h2
  obtain⟨k,rfl⟩:∃k:Nat,n=(k:Int):=⟨n.toNat,by omega⟩
  have hk:k<cs.length:=by omega
  obtain⟨c,hx⟩:∃c,cs[k]? = some c:=⟨cs[k],List.getElem?_eq_getElem hk⟩
  have hG:=J6v hw hm
  obtain⟨z,hK⟩:=hG k c hx
  have hz:=hK.hz
  have hhas:=Jcx (n:=(k:Int)) hm (by omega) (by omega)
  have hBe:stepB cs (k:Int) S I=(decide ((S.length:Int)=(z:Int))&&(decide (I.length=c.ins.length)&&(S.all valI&&I.all valI))):=by
   unfold stepB
   rw[hhas,Int.toNat_natCast,J1A hz,hx];rfl
  by_cases h3:(S.length:Int)≠(z:Int)
  ·have n3:decide ((S.length:Int)≠(z:Int))=true:=J0 h3
   have hB:stepB cs (k:Int) S I=false:=by rw[hBe,J1 h3];rfl
   rw[J14 hB]
   refine Jw Tryz.func11 rfl (by decide) Tryz.ntmps11 Tryz.results11 (by simp) ?_
   refine JC (env':=envL [(0,.agg [.d (.im (cs.map eCls))]),(1,vi (k:Int)),(2,.d (.im (S.map eNum))),(3,.d (.im (I.map eNum)))]) (σ':=stL [some (.box FH.non)]) (Jj rfl ⟨.refl _,.refl _,.refl _,.refl _,trivial⟩ ⟨⟨rfl,_,rfl,rfl⟩,trivial⟩) ?_
   repeat' first|refine Z1 ?_|refine Z2 ?_|refine Z5 ?_|refine Z7 ?_|refine Z9 ?_|refine Ym (J0X he) ?_|refine Ju ?_|refine Yej (e:=eNum) k rfl hz ?_|refine Zd ?_|refine Zh ?_|refine Zi ?_|refine Zl ?_|refine Zm ?_|refine Zo ?_|refine J6 ?_|refine Zp ?_|refine Jb ?_|refine J7 ?_
   exact ret3 (J11 rfl)
  have n3:decide ((S.length:Int)≠(z:Int))=false:=J1 h3
  have h3:S.length=z:=by omega
  by_cases h4:(I.length:Int)≠(c.ins.length:Int)
  ·have n4:decide ((I.length:Int)≠(c.ins.length:Int))=true:=J0 h4
   have hB:stepB cs (k:Int) S I=false:=by rw[hBe,J0 (show(S.length:Int)=(z:Int) by omega),J1 (show ¬I.length=c.ins.length by omega)];rfl
   rw[J14 hB]
   refine Jw Tryz.func11 rfl (by decide) Tryz.ntmps11 Tryz.results11 (by simp) ?_
   refine JC (env':=envL [(0,.agg [.d (.im (cs.map eCls))]),(1,vi (k:Int)),(2,.d (.im (S.map eNum))),(3,.d (.im (I.map eNum)))]) (σ':=stL [some (.box FH.non)]) (Jj rfl ⟨.refl _,.refl _,.refl _,.refl _,trivial⟩ ⟨⟨rfl,_,rfl,rfl⟩,trivial⟩) ?_
   repeat' first|refine Z1 ?_|refine Z2 ?_|refine Z5 ?_|refine Z7 ?_|refine Ym (J0X he) ?_|refine Ju ?_|refine Yej (e:=eNum) k rfl hz ?_|refine Zd ?_|refine Ze ?_|refine Zh ?_|refine Zi ?_|refine Zm ?_|refine Zo ?_|refine J6 ?_|refine Zp ?_|refine Jb ?_|refine J7 ?_
   exact ret3 (J11 rfl)
  have n4:decide ((I.length:Int)≠(c.ins.length:Int))=false:=J1 h4
  have h4:I.length=c.ins.length:=by omega
  rw[J0 (show(S.length:Int)=(z:Int) by omega),J0 h4,Bool.true_and,Bool.true_and]at hBe
  have hlen2:∀(x:Nat) (l:List Int),[S,I][x]? = some l→l.length≤1048576:=fun x l hl=>by
   have:=List.mem_of_getElem? hl
   rcases List.mem_cons.1 this with rfl|h
   ·exact hSl
   ·rcases List.mem_cons.1 h with rfl|h
    ·exact hIl
    ·cases h
  cases hBB:stepB cs (k:Int) S I with
  |false=>
   rw[J14 hBB]
   rw[hBB]at hBe
   refine Jw Tryz.func11 rfl (by decide) Tryz.ntmps11 Tryz.results11 (by simp) ?_
   refine JC (env':=envL [(0,.agg [.d (.im (cs.map eCls))]),(1,vi (k:Int)),(2,.d (.im (S.map eNum))),(3,.d (.im (I.map eNum)))]) (σ':=stL [some (.box FH.non)]) (Jj rfl ⟨.refl _,.refl _,.refl _,.refl _,trivial⟩ ⟨⟨rfl,_,rfl,rfl⟩,trivial⟩) ?_
   repeat' first|refine Z1 ?_|refine Z2 ?_|refine Z4 ?_|refine Z5 ?_|refine Z7 ?_|refine Ym (J0X he) ?_|refine Ju ?_|refine Yej (e:=eNum) k rfl hz ?_|refine Zd (e:=eNumsP) (l:=[S,I]) ?_|refine Zd ?_|refine Ze ?_|refine Zh ?_|refine Zi ?_|refine Zm ?_|refine Zo ?_|refine J6 ?_|refine Zq ?_|refine J5 ?_|refine J8 ?_|refine J3 ?_
   refine Jq (ι:=Nat) (fun x=>envL [(1,vi (k:Int)),(2,.d (.im (S.map eNum))),(3,.d (.im (I.map eNum))),(8,.d (.s (.slice none 0 0))),(9,.d (.s (.slice none 0 0))),(10,vi 0),(11,.ref 2 0),(66,.d (.im ([S,I].map eNumsP))),(67,vi 2),(68,vi x)]) (fun x=>stL [some (.box FH.non),some (.var [.d (.im (cs.map eCls))]),some (engV cs (cellsS cs) (boundsS cs) (rootsF cs) 0),none]) (fun x=>x≤2∧∀j l,j<x→[S,I][j]? = some l→l.all valI=true) (fun x=>2-x) 0 (⟨Nat.zero_le _,fun j l h=>by omega⟩) (Jj rfl ⟨.refl _,.refl _,.refl _,.refl _,.refl _,.refl _,.refl _,.refl _,.refl _,.refl _,trivial⟩ ⟨⟨rfl,_,rfl,rfl⟩,⟨rfl,_,rfl,rfl,fun _ _ _=>.refl _⟩,⟨rfl,_,rfl,rfl,fun _ _ _=>.refl _⟩,trivial⟩) (fun _=>Nat.le_refl 4) ?_
   rintro x ⟨x1,x2⟩
   rcases hl:[S,I][x]? with _|l
   rotate_left
   ·have hx2:x<2:=by have:=(List.getElem?_eq_some_iff.1 hl).1;simpa using this
    have ex:decide ((x:Int)<2)=true:=J0 (by omega)
    have hll:=hlen2 x l hl
    repeat' first|refine Z1 ?_|refine Z2 ?_|refine Z5 ?_|refine Ze (e:=eNumsP) (l:=[S,I]) ?_|refine Zd ?_|refine Zo ?_|refine J6 ?_|refine Zp ?_|refine J5 ?_|refine J8 ?_|refine J3 ?_
    refine Jq (ι:=Nat) (fun x_=>envL [(1,vi (k:Int)),(2,.d (.im (S.map eNum))),(3,.d (.im (I.map eNum))),(8,.d (.s (.slice none 0 0))),(9,.d (.s (.slice none 0 0))),(10,vi 0),(11,.ref 2 0),(66,.d (.im ([S,I].map eNumsP))),(67,vi 2),(68,vi x),(72,.d (.im (l.map eNum))),(73,vi l.length),(74,vi x_)]) (fun x_=>stL [some (.box FH.non),some (.var [.d (.im (cs.map eCls))]),some (engV cs (cellsS cs) (boundsS cs) (rootsF cs) 0),none]) (fun x_=>x_≤l.length∧(l.drop x_).all valI=l.all valI) (fun x_=>l.length-x_) 0 (⟨Nat.zero_le _,rfl⟩) (Jj rfl ⟨.refl _,.refl _,.refl _,.refl _,.refl _,.refl _,.refl _,.refl _,.refl _,.refl _,.refl _,.refl _,.refl _,trivial⟩ ⟨⟨rfl,_,rfl,rfl⟩,⟨rfl,_,rfl,rfl,fun _ _ _=>.refl _⟩,⟨rfl,_,rfl,rfl,fun _ _ _=>.refl _⟩,trivial⟩) (fun _=>Nat.le_refl 4) ?_
    rintro y ⟨y1,y2⟩
    rcases hy:l[y]? with _|v
    rotate_left
    ·obtain⟨hd3,hlt3⟩:=Ji hy
     have ey:decide ((y:Int)<(l.length:Int))=true:=J0 (by omega)
     rw[hd3,List.all_cons]at y2
     cases hv:valI v with
     |false=>
      have n5:(!valI v)=true:=by rw[hv];rfl
      repeat' first|refine Z1 ?_|refine Z2 ?_|refine Z5 ?_|refine Zc (J51 v) ?_|refine Ze ?_|refine Zo ?_|refine J6 ?_|refine Zp ?_|refine J5 ?_|refine J8 ?_|refine Jb ?_|refine J3 ?_|refine J7 ?_|refine J9 ?_
      exact ret3 (J11 rfl)
     |true=>
      have n5:(!valI v)=false:=by rw[hv];rfl
      rw[hv,Bool.true_and]at y2
      repeat' first|refine Z1 ?_|refine Z2 ?_|refine Z5 ?_|refine Zc (J51 v) ?_|refine Ze ?_|refine Zf ?_|refine Zo ?_|refine J6 ?_|refine Jf ?_|refine Zp ?_|refine Zq ?_|refine J5 ?_|refine J8 ?_|refine J3 ?_|refine J4 ?_
      exact⟨y+1,⟨hlt3,y2⟩,by(try simp only);omega,Jl (Nat.le_of_ble_eq_true rfl) ⟨⟨rfl,rfl⟩,⟨rfl,rfl⟩,⟨rfl,rfl⟩,⟨rfl,rfl⟩,⟨rfl,rfl⟩,⟨rfl,rfl⟩,⟨rfl,rfl⟩,⟨rfl,rfl⟩,⟨rfl,rfl⟩,⟨rfl,rfl⟩,⟨rfl,rfl⟩,⟨rfl,rfl⟩,⟨rfl,rfl⟩,trivial⟩ ⟨⟨rfl,trivial⟩,⟨rfl,rfl⟩,⟨rfl,rfl⟩,trivial⟩⟩
    have hge:=Jo hy
    have ey:decide ((y:Int)<(l.length:Int))=false:=J1 (by omega)
    rw[Jr hy]at y2
    have nx:∀j l',j<x+1→[S,I][j]? = some l'→l'.all valI=true:=fun j l' hj hjl=>by
     rcases Nat.lt_or_ge j x with h|h
     ·exact x2 j l' h hjl
     ·have:j=x:=by omega
      subst this
      rw[hl]at hjl
      rw[←Option.some.inj hjl,←y2];rfl
    repeat' first|refine Z1 ?_|refine Z2 ?_|refine Z5 ?_|refine Zf ?_|refine Zo ?_|refine J6 ?_|refine Jf ?_|refine Zq ?_|refine Jh ?_|refine J3 ?_|refine Ja ?_|refine Zv ?_|refine J4 ?_
    exact⟨x+1,⟨hx2,nx⟩,by(try simp only);omega,Jl (Nat.le_of_ble_eq_true rfl) ⟨⟨rfl,rfl⟩,⟨rfl,rfl⟩,⟨rfl,rfl⟩,⟨rfl,rfl⟩,⟨rfl,rfl⟩,⟨rfl,rfl⟩,⟨rfl,rfl⟩,⟨rfl,rfl⟩,⟨rfl,rfl⟩,⟨rfl,rfl⟩,trivial⟩ ⟨⟨rfl,trivial⟩,⟨rfl,rfl⟩,⟨rfl,rfl⟩,trivial⟩⟩
   have hx2:2≤x:=by have:=Jo hl;simpa using this
   have a1:=x2 0 S (by omega) rfl
   have a2:=x2 1 I (by omega) rfl
   rw[a1,a2]at hBe
   cases hBe
  |true=>
   rw[hBB,Eq.comm,Bool.and_eq_true]at hBe
   obtain⟨a1,a2⟩:=hBe
   have hval:∀(x:Nat) (l:List Int),[S,I][x]? = some l→l.all valI=true:=fun x l hl=>by
    have:=List.mem_of_getElem? hl
    rcases List.mem_cons.1 this with rfl|h
    ·exact a1
    ·rcases List.mem_cons.1 h with rfl|h
     ·exact a2
     ·cases h
   have hR:stepR cs (k:Int) S I=stepF cs (cellsS cs) (k+1) k S I:=by unfold stepR;rw[if_pos hBB,Int.toNat_natCast]
   rw[hR]
   have hcl:cs.length≤1048576:=J2R hw
   have hds:(cs.take (k+1))[k]? = some c:=by rw[List.getElem?_take,if_pos (by omega)];exact hx
   have hpr:=J1t hG (k+1) k c z S I hds hz h3 h4 (J1N a1) (J1N a2)
   have hcal:=JaR (J9R hG hcl (k+1) (Bd:=boundsS cs)) hds hz h3 h4 (J1N a1) (J1N a2) (hcost hm c z (by rw[Int.toNat_natCast];exact hx) (by rw[Int.toNat_natCast];exact hK)) (by have:=hK.z0;omega) (o:=.box FH.non) (x:=.d (.im (cs.map eCls)))
   generalize stepF cs (cellsS cs) (k+1) k S I=R at hpr hcal
   obtain⟨p1,p2,p3,p4⟩:=hpr
   have hw1:=(J9S S hSl).lendI (n:=4) (σ:=stL [some (.box FH.non),some (.var [.d (.im (cs.map eCls))]),some (engV cs (cellsS cs) (boundsS cs) (rootsF cs) 0),none]) (args:=[.d (.im (S.map eNum))]) ⟨J57 _ _,trivial⟩ rfl
   have hw2:=(J9S I hIl).lendI (n:=5) (σ:=(stL [some (.box FH.non),some (.var [.d (.im (cs.map eCls))]),some (engV cs (cellsS cs) (boundsS cs) (rootsF cs) 0),none]).alloc (.row 4 2 1 (im2 eNum S))) (args:=[.d (.im (I.map eNum))]) ⟨J57 _ _,trivial⟩ rfl
   have hol:R.2.1.length≤1048576:=by have:=hK.lo;omega
   have hn1:=(J73 R.1 (by omega)).lendI (n:=8) (σ:=stL [some (.box FH.non),some (.var [.d (.im (cs.map eCls))]),some (engV cs (cellsS cs) (boundsS cs) (rootsF cs) R.2.2),none,some (.row 4 2 1 (im2 eNum R.1)),some (.row 5 2 1 (im2 eNum I)),some (.row 7 2 1 (im2 eNum R.2.1)),none]) (args:=[.sl 4 4 0 S.length]) ⟨.fz (.data (J0j (i:=4) rfl p1.symm)),trivial⟩ rfl
   have hn2:=(J73 R.2.1 hol).lendI (n:=9) (σ:=(stL [some (.box FH.non),some (.var [.d (.im (cs.map eCls))]),some (engV cs (cellsS cs) (boundsS cs) (rootsF cs) R.2.2),none,some (.row 4 2 1 (im2 eNum R.1)),some (.row 5 2 1 (im2 eNum I)),some (.row 7 2 1 (im2 eNum R.2.1)),none]).alloc (.row 8 3 1 (im2 eNum R.1))) (args:=[.sl 6 7 0 R.2.1.length]) ⟨.fz (.data (J0j (i:=6) rfl rfl)),trivial⟩ rfl
   refine AFun.close (K:=fun E σ'=>∃u1 τ1,E=.ret (.tup [.d (.s u1),.sl 9 9 0 R.2.1.length,vi R.2.2])∧σ'.obj 0=some (.box τ1)∧Tr τ1 [sI R.1 u1]∧σ'.obj 9=some (.row 9 3 1 (im2 eNum R.2.1))) (AFun.close (K:=fun E σ'=>E=.ret (.tup [.sl 8 8 0 R.1.length,.sl 9 9 0 R.2.1.length,vi R.2.2])∧σ'.obj 0=some (.box FH.non)∧σ'.obj 8=some (.row 8 3 1 (im2 eNum R.1))∧σ'.obj 9=some (.row 9 3 1 (im2 eNum R.2.1))) ?_ 0 ?_) 0 ?_
   rotate_left
   ·rintro E σ1 ⟨rfl,b0,b8,b9⟩
    refine⟨fun x=>.tup ([]++x::[.sl 9 9 0 R.2.1.length,vi R.2.2]),8,8,3,shNum,R.1.map eNum,R.1.map vNum,[],FH.non,.tup [] _ .here,by rw[List.length_map];rfl,b0,b8.trans (by rw[J0U J9O];rfl),J0n J5g _,by rw[J07 J1k];exact .nil,fun u τ2 ht=>⟨u,τ2,rfl,?_,ht,?_⟩⟩
    ·rw[St.obj_drop,if_neg (by decide),St.obj_set,if_pos rfl]
    ·rw[St.obj_drop,if_neg (by decide),St.obj_set,if_neg (by decide)];exact b9
   ·rintro E σ1 ⟨u1,τ1,rfl,b0,bt,b9⟩
    refine⟨fun x=>.tup ([.d (.s u1)]++x::[vi R.2.2]),9,9,3,shNum,R.2.1.map eNum,R.2.1.map vNum,[sI R.1 u1],τ1,.tup [_] _ .here,by rw[List.length_map];rfl,b0,b9.trans (by rw[J0U J9O];rfl),J0n J5g _,by rw[J07 J1k];exact bt,fun u τ2 ht=>⟨τ2,⟨u1,u,rfl,ht.perm (List.Perm.swap _ _ _)⟩,?_,_,rfl,rfl⟩⟩
    rw[St.obj_drop,if_neg (by decide),St.obj_set,if_pos rfl]
   refine Jw Tryz.func11 rfl (by decide) Tryz.ntmps11 Tryz.results11 (by simp) ?_
   refine JC (env':=envL [(0,.agg [.d (.im (cs.map eCls))]),(1,vi (k:Int)),(2,.d (.im (S.map eNum))),(3,.d (.im (I.map eNum)))]) (σ':=stL [some (.box FH.non)]) (Jj rfl ⟨.refl _,.refl _,.refl _,.refl _,trivial⟩ ⟨⟨rfl,_,rfl,rfl⟩,trivial⟩) ?_
   repeat' first|refine Z1 ?_|refine Z2 ?_|refine Z4 ?_|refine Z5 ?_|refine Z7 ?_|refine Ym (J0X he) ?_|refine Ju ?_|refine Yej (e:=eNum) k rfl hz ?_|refine Zd (e:=eNumsP) (l:=[S,I]) ?_|refine Zd ?_|refine Ze ?_|refine Zh ?_|refine Zi ?_|refine Zm ?_|refine Zo ?_|refine J6 ?_|refine Zq ?_|refine J5 ?_|refine J8 ?_|refine J3 ?_
   refine Jq (ι:=Nat) (fun x=>envL [(1,vi (k:Int)),(2,.d (.im (S.map eNum))),(3,.d (.im (I.map eNum))),(8,.d (.s (.slice none 0 0))),(9,.d (.s (.slice none 0 0))),(10,vi 0),(11,.ref 2 0),(66,.d (.im ([S,I].map eNumsP))),(67,vi 2),(68,vi x)]) (fun x=>stL [some (.box FH.non),some (.var [.d (.im (cs.map eCls))]),some (engV cs (cellsS cs) (boundsS cs) (rootsF cs) 0),none]) (fun x=>x≤2) (fun x=>2-x) 0 (Nat.zero_le _) (Jj rfl ⟨.refl _,.refl _,.refl _,.refl _,.refl _,.refl _,.refl _,.refl _,.refl _,.refl _,trivial⟩ ⟨⟨rfl,_,rfl,rfl⟩,⟨rfl,_,rfl,rfl,fun _ _ _=>.refl _⟩,⟨rfl,_,rfl,rfl,fun _ _ _=>.refl _⟩,trivial⟩) (fun _=>Nat.le_refl 4) ?_
   rintro x x1
   rcases hl:[S,I][x]? with _|l
   rotate_left
   ·have hx2:x<2:=by have:=(List.getElem?_eq_some_iff.1 hl).1;simpa using this
    have ex:decide ((x:Int)<2)=true:=J0 (by omega)
    have hll:=hlen2 x l hl
    have hva:=J1N (hval x l hl)
    repeat' first|refine Z1 ?_|refine Z2 ?_|refine Z5 ?_|refine Ze (e:=eNumsP) (l:=[S,I]) ?_|refine Zd ?_|refine Zo ?_|refine J6 ?_|refine Zp ?_|refine J5 ?_|refine J8 ?_|refine J3 ?_
    refine Jq (ι:=Nat) (fun x_=>envL [(1,vi (k:Int)),(2,.d (.im (S.map eNum))),(3,.d (.im (I.map eNum))),(8,.d (.s (.slice none 0 0))),(9,.d (.s (.slice none 0 0))),(10,vi 0),(11,.ref 2 0),(66,.d (.im ([S,I].map eNumsP))),(67,vi 2),(68,vi x),(72,.d (.im (l.map eNum))),(73,vi l.length),(74,vi x_)]) (fun x_=>stL [some (.box FH.non),some (.var [.d (.im (cs.map eCls))]),some (engV cs (cellsS cs) (boundsS cs) (rootsF cs) 0),none]) (fun x_=>x_≤l.length) (fun x_=>l.length-x_) 0 (Nat.zero_le _) (Jj rfl ⟨.refl _,.refl _,.refl _,.refl _,.refl _,.refl _,.refl _,.refl _,.refl _,.refl _,.refl _,.refl _,.refl _,trivial⟩ ⟨⟨rfl,_,rfl,rfl⟩,⟨rfl,_,rfl,rfl,fun _ _ _=>.refl _⟩,⟨rfl,_,rfl,rfl,fun _ _ _=>.refl _⟩,trivial⟩) (fun _=>Nat.le_refl 4) ?_
    rintro y y1
    rcases hy:l[y]? with _|v
    rotate_left
    ·obtain⟨hd3,hlt3⟩:=Ji hy
     have ey:decide ((y:Int)<(l.length:Int))=true:=J0 (by omega)
     have hv:valI v=true:=List.all_eq_true.1 (hval x l hl) v (List.mem_of_getElem? hy)
     have n5:(!valI v)=false:=by rw[hv];rfl
     repeat' first|refine Z1 ?_|refine Z2 ?_|refine Z5 ?_|refine Zc (J51 v) ?_|refine Ze ?_|refine Zf ?_|refine Zo ?_|refine J6 ?_|refine Jf ?_|refine Zp ?_|refine Zq ?_|refine J5 ?_|refine J8 ?_|refine J3 ?_|refine J4 ?_
     exact⟨y+1,hlt3,by(try simp only);omega,Jl (Nat.le_of_ble_eq_true rfl) ⟨⟨rfl,rfl⟩,⟨rfl,rfl⟩,⟨rfl,rfl⟩,⟨rfl,rfl⟩,⟨rfl,rfl⟩,⟨rfl,rfl⟩,⟨rfl,rfl⟩,⟨rfl,rfl⟩,⟨rfl,rfl⟩,⟨rfl,rfl⟩,⟨rfl,rfl⟩,⟨rfl,rfl⟩,⟨rfl,rfl⟩,trivial⟩ ⟨⟨rfl,trivial⟩,⟨rfl,rfl⟩,⟨rfl,rfl⟩,trivial⟩⟩
    have hge:=Jo hy
    have ey:decide ((y:Int)<(l.length:Int))=false:=J1 (by omega)
    repeat' first|refine Z1 ?_|refine Z2 ?_|refine Z5 ?_|refine Zf ?_|refine Zo ?_|refine J6 ?_|refine Jf ?_|refine Zq ?_|refine Jh ?_|refine J3 ?_|refine Ja ?_|refine Zv ?_|refine J4 ?_
    exact⟨x+1,hx2,by(try simp only);omega,Jl (Nat.le_of_ble_eq_true rfl) ⟨⟨rfl,rfl⟩,⟨rfl,rfl⟩,⟨rfl,rfl⟩,⟨rfl,rfl⟩,⟨rfl,rfl⟩,⟨rfl,rfl⟩,⟨rfl,rfl⟩,⟨rfl,rfl⟩,⟨rfl,rfl⟩,⟨rfl,rfl⟩,trivial⟩ ⟨⟨rfl,trivial⟩,⟨rfl,rfl⟩,⟨rfl,rfl⟩,trivial⟩⟩
   have hx2:2≤x:=by have:=Jo hl;simpa using this
   have ex:decide ((x:Int)<2)=false:=J1 (by omega)
   repeat' first|refine Z1 ?_|refine Z2 ?_|refine Z5 ?_|refine Zo ?_|refine J6 ?_|refine Zq ?_|refine Jh ?_|refine J3 ?_|refine Ja ?_|refine Zv ?_
   refine Ym hw1 ?_
   repeat' first|refine Z1 ?_|refine Z2 ?_|refine Z5 ?_|refine Zo ?_
   refine Ym hw2 ?_
   repeat' first|refine Z5 ?_
   refine Ym hcal ?_
   repeat' first|refine Z1 ?_|refine Z2 ?_|refine J6 ?_
   refine Jv (fun j=>j<8) [1,3] Jp (by decide +kernel) ?_
   repeat' first|refine Wa ?_
   refine We (Ym hn1 ⟨rfl,rfl⟩) (.inr (fun j hj=>if_neg (show ¬j=8 by omega))) ?_
   repeat' first|refine Wa ?_
   refine We (Ym hn2 ⟨rfl,rfl⟩) (.inr (fun j hj=>if_neg (show ¬j=9 by omega))) ?_
   repeat' first|refine Wl (i:=2) rfl (by decide) ?_|refine Wa ?_|refine Wn ?_
   refine Wx ?_
   repeat' first|refine Jb ?_
   exact ret3 ⟨rfl,rfl,rfl,rfl⟩
end Go.Pm
/- Part of the proof: Hdi. -/
namespace Go.Pm
attribute [local irreducible] AR Ok inBlock andThen endQ aoper
set_option maxHeartbeats 2000000
open Go.Proofs
theorem J8R {α:Type} {l:List α} {i:Nat} {y:α} {r:List α} (h:l.drop i=y::r):l[i]? = some y∧l.drop (i+1)=r:=by
 have h1:(l.drop i)[0]? = some y:=by rw[h];rfl
 rw[List.getElem?_drop]at h1
 refine⟨by simpa using h1,?_⟩
 have:l.drop (i+1)=(l.drop i).drop 1:=by rw[List.drop_drop]
 rw[this,h];rfl
theorem J3P (l:List (Int)) (k:Int) (h1:1≤k) (h2:k+4*(wL (wNum0) l:Int)≤1099511627776):PFun X 16 [.d (.im ((mkL mkNum l k).1.map eNum)),vi k] (vi (mkL mkNum l k).2):=by
 obtain⟨m,hm⟩:∃m,m=(mkL mkNum l k).1:=⟨_,rfl⟩
 have hml:m.length=l.length:=by rw[hm,J0W]
 rw[←hm]
 refine Jn Tryz.func16 rfl (by decide) Tryz.ntmps16 Tryz.results16 (by simp) rfl rfl ?_
 repeat' first|refine Z1 ?_|refine Z2 ?_|refine Z3 ?_|refine Z4 ?_|refine Z5 ?_|refine Z6 ?_|refine Z7 ?_|refine Z8 ?_|refine Z9 ?_|refine Za (fun hc=>?_) (fun hc=>?_)|refine Zb (fun hc=>?_) (fun hc=>?_)|refine Zd ?_|refine Ze ?_|refine Zf ?_|refine Zg ?_|refine Zh ?_|refine Zi ?_|refine Zj ?_|refine Zk ?_|refine Zl ?_|refine Zm ?_|refine Zn (fun hc=>?_) (fun hc=>?_)|refine Zo ?_|refine J6 ?_|refine Jf ?_|refine Zp ?_|refine Zq ?_|refine Zr (fun hc=>?_) (fun hc=>?_)|refine J5 ?_|refine Jh ?_|refine J8 ?_|refine Jb ?_|refine J3 ?_|refine Ja ?_|refine Zs ?_|refine Zv ?_|refine J7 ?_|refine J9 ?_|refine J4 ?_|refine Zt ?_|refine Zu ?_
 refine Jq (ι:=Nat×Int) (fun x_=>envL [(0,.d (.im (m.map eNum))),(1,vi x_.2),(5,vi x_.1)]) (fun x_=>stL []) (fun x_=>x_.1≤l.length∧1≤x_.2∧(mkL mkNum (l.drop x_.1) x_.2).2=(mkL mkNum l k).2∧m.drop x_.1=(mkL mkNum (l.drop x_.1) x_.2).1∧x_.2+4*(wL (wNum0) (l.drop x_.1):Int)≤1099511627776) (fun x_=>l.length-x_.1) (0,k) (⟨Nat.zero_le _,h1,rfl,hm,h2⟩) (Jj rfl ⟨.refl _,.refl _,.refl _,trivial⟩ trivial) (fun _=>Nat.le_refl 0) ?_
 rintro⟨i,q⟩ ⟨i1,i2,i3,i4,i5⟩
 simp only at i1 i2 i3 i4 i5
 have hll:l.length≤wL (wNum0) l:=Nat.le_add_right _ _
 show Ok _ _ _ _ (envL [(0,.d (.im (m.map eNum))),(1,vi q),(5,vi i)]) (stL [])
 rcases hx:l[i]? with _|x
 ·have hle:=Jo hx
  have ek:decide ((i:Int)<(m.length:Int))=false:=J1 (by omega)
  rw[Jr hx]at i3
  simp only[mkL]at i3
  repeat' first|refine Z1 ?_|refine Z2 ?_|refine Z3 ?_|refine Z4 ?_|refine Z5 ?_|refine Z6 ?_|refine Z7 ?_|refine Z8 ?_|refine Z9 ?_|refine Za (fun hc=>?_) (fun hc=>?_)|refine Zb (fun hc=>?_) (fun hc=>?_)|refine Zd ?_|refine Ze ?_|refine Zf ?_|refine Zg ?_|refine Zh ?_|refine Zi ?_|refine Zj ?_|refine Zk ?_|refine Zl ?_|refine Zm ?_|refine Zn (fun hc=>?_) (fun hc=>?_)|refine Zo ?_|refine J6 ?_|refine Jf ?_|refine Zp ?_|refine Zq ?_|refine Zr (fun hc=>?_) (fun hc=>?_)|refine J5 ?_|refine Jh ?_|refine J8 ?_|refine Jb ?_|refine J3 ?_|refine Ja ?_|refine Zs ?_|refine Zv ?_|refine J7 ?_|refine J9 ?_|refine J4 ?_|refine Zt ?_|refine Zu ?_
  exact congrArg (fun v=>AEnd.ret (vi v)) i3
 ·obtain⟨hd,hlt⟩:=Ji hx
  have ek:decide ((i:Int)<(m.length:Int))=true:=J0 (by omega)
  rw[hd]at i3 i4 i5
  rw[J0w]at i5
  simp only[mkL]at i3 i4
  obtain⟨hy,n4⟩:=J8R i4
  have hcx:=cntN x q
  have n3:1≤(mkNum x q).2:=by omega
  have n5:(mkNum x q).2+4*(wL (wNum0) (l.drop (i+1)):Int)≤1099511627776:=by omega
  obtain⟨y,hey⟩:∃y,y=(mkNum x q).1:=⟨_,rfl⟩
  rw[←hey]at hy
  have f0:y=q:=by rw[hey];rfl
  have d0:decide (y≠q)=false:=J1 (fun h=>h f0)
  repeat' first|refine Z1 ?_|refine Z2 ?_|refine Z3 ?_|refine Z4 ?_|refine Z5 ?_|refine Z6 ?_|refine Z7 ?_|refine Z8 ?_|refine Z9 ?_|refine Za (fun hc=>?_) (fun hc=>?_)|refine Zb (fun hc=>?_) (fun hc=>?_)|refine Zd ?_|refine Ze ?_|refine Zf ?_|refine Zg ?_|refine Zh ?_|refine Zi ?_|refine Zj ?_|refine Zk ?_|refine Zl ?_|refine Zm ?_|refine Zn (fun hc=>?_) (fun hc=>?_)|refine Zw ?_|refine Zx ?_|refine Zy ?_|refine Zz (Zd ⟨rfl,rfl⟩) ?_|refine Zz (Ze ⟨rfl,rfl⟩) ?_|refine Zz (Zf ⟨rfl,rfl⟩) ?_|refine Zz (Zg ⟨rfl,rfl⟩) ?_|refine Zz (Zh ⟨rfl,rfl⟩) ?_|refine Zz (Zi ⟨rfl,rfl⟩) ?_|refine Zz (Zj ⟨rfl,rfl⟩) ?_|refine Zz (Zk ⟨rfl,rfl⟩) ?_|refine Zz (Zl ⟨rfl,rfl⟩) ?_|refine Zz (Zm ⟨rfl,rfl⟩) ?_|refine Zo ?_|refine J6 ?_|refine Jf ?_|refine Jx Jp (by decide +kernel) ?_|refine Zp ?_|refine Zq ?_|refine Zr (fun hc=>?_) (fun hc=>?_)|refine J5 ?_|refine Jh ?_|refine J8 ?_|refine Jb ?_|refine J3 ?_|refine Ja ?_|refine Zs ?_|refine Zv ?_|refine J7 ?_|refine J9 ?_|refine J4 ?_|refine Zt ?_|refine Zu ?_
  exact⟨(i+1,(mkNum x q).2),⟨hlt,n3,i3,n4,n5⟩,by(try simp only);omega,Jl (Nat.zero_le _) ⟨⟨rfl,rfl⟩,⟨rfl,rfl⟩,⟨rfl,rfl⟩,trivial⟩ trivial⟩
end Go.Pm
