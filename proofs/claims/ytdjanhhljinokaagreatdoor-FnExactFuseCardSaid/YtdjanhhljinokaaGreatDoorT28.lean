/- Part of the proof: Fu7. -/
import Derived.Test.YtdjanhhljinokaaGreatDoorT20
import Derived.Test.YtdjanhhljinokaaGreatDoorT27
import Derived.Test.YtdjanhhljinokaaGreatDoorT12
import Derived.Test.YtdjanhhljinokaaGreatDoorT13
import Derived.Test.YtdjanhhljinokaaGreatDoorT22
set_option linter.unusedVariables false
set_option linter.unusedSimpArgs false
namespace Go.Pm
attribute [local irreducible] AR Ok inBlock andThen endQ aoper
set_option maxHeartbeats 4000000
open Go.Proofs
def vCls (x:Cls) (a b c d e f:Value):List Value:=[.string x.name,a,b,c,d,e,f]
theorem J9p (x:Cls) (a b c d e f:Value):agr shCls (eCls x) (vCls x a b c d e f):=by simp[agr,eCls,vCls]
theorem JaG {σ:St} {i j:Nat} {o:AO} (h:j≠i):(bumpSet σ i o).obj j=σ.obj j:=by simp[bumpSet,h]
set_option maxHeartbeats 8000000 in
theorem Jax (cs:List Cls) (hw:wL wCls cs≤1048576) {τ:FH} {L:List (Sh×D×Value)} (hT:Tr τ L):
  BFun X 18 [.agg [.d (.im (cs.map eCls))]] τ fun A τ'=>∃a n c,A=.ret (.agg [.d (.s (.slice a n c))])∧Tr τ' ((.im 53 shCls,.im ((fuseC cs).map eCls),.slice a n c)::L):=by
 have hm:=JbB cs hw
 refine BFun.words rfl ?_
 refine Jx Tryz.func18 rfl (by decide) Tryz.ntmps18 Tryz.results18 (by simp) ?_
 cases h0:mokS cs with
 |false=>
  have n1:(!mokS cs)=true:=by rw[h0];rfl
  have e0:fuseC cs=[]:=by unfold fuseC;rw[h0];rfl
  repeat' first|refine Z1 ?_|refine Z2 ?_|refine Z5 ?_|refine Zc (hm) ?_|refine Zo ?_|refine J5 ?_|refine Zp ?_|refine J9 ?_|refine J8 ?_|refine Zu ?_
  refine⟨τ,⟨none,0,0,rfl,?_⟩,rfl,_,rfl,rfl⟩
  rw[e0]
  exact .im0 _ _ (by decide) hT
 |true=>
  have n1:(!mokS cs)=false:=by rw[h0];rfl
  have e0:fuseC cs=cs.map fuC:=by unfold fuseC;rw[h0];rfl
  have hlc:cs.length≤1048576:=by simp only[wL]at hw;omega
  repeat' first|refine Z1 ?_|refine Z2 ?_|refine Z5 ?_|refine Zc (hm) ?_|refine Zd ?_|refine Zo ?_|refine J5 ?_|refine Zq ?_|refine J4 ?_|refine J7 ?_|refine J3 ?_
  refine J0a (J1q 3 53 7 rfl (cs':=[.sl 4 4 0 0]) rfl rfl ⟨.nil,trivial⟩) ?_
  refine J0w (ι:=Nat×List (List Value)×FH) (fun x_=>envL [(2,.ref 2 0),(3,.ref 3 0),(14,.d (.im (cs.map eCls))),(15,vi cs.length),(16,vi x_.1)]) (fun x_=>stL [some (.box x_.2.2),none,some (.var [.d (.s (.slice none 0 0))]),some (.var [.sl 4 5 0 x_.1]),some (.row 5 53 7 (exR x_.2.1)),none]) (fun x_=>x_.1≤cs.length∧x_.2.1.length=x_.1∧agrs shCls (((cs.take x_.1).map fuC).map eCls) x_.2.1∧Tr x_.2.2 (subss shCls (((cs.take x_.1).map fuC).map eCls) x_.2.1++L)) (fun x_=>cs.length-x_.1) (0,[],τ) (⟨Nat.zero_le _,rfl,trivial,hT⟩) Turn.refl (JC [(5,4)] rfl rfl rfl ⟨⟨rfl,rfl⟩,⟨rfl,rfl⟩,⟨rfl,rfl⟩,⟨rfl,rfl⟩,⟨rfl,rfl⟩,trivial⟩ ⟨⟨rfl,trivial⟩,⟨rfl,rfl⟩,⟨rfl,rfl⟩,⟨Jn rfl (by first|exact J3M _ _|rfl),Je rfl,J0l _ _⟩,trivial⟩) ?_
  rintro⟨k,V,τ1⟩ ⟨i1,i2,i3,i4⟩
  simp only at i1 i2 i3 i4
  show Ok _ _ _ _ (envL [(2,.ref 2 0),(3,.ref 3 0),(14,.d (.im (cs.map eCls))),(15,vi cs.length),(16,vi k)]) (stL [some (.box τ1),none,some (.var [.d (.s (.slice none 0 0))]),some (.var [.sl 4 5 0 k]),some (.row 5 53 7 (exR V)),none])
  rcases hx:cs[k]? with _|c
  ·have hle:=Jk hx
   have ek:decide ((k:Int)<(cs.length:Int))=false:=J1 (by omega)
   rw[List.take_of_length_le hle]at i3 i4
   refine J0g 0 3 4 (v:=5) (E:=53) (ss:=shCls) (rows:=(cs.map fuC).map eCls) (vs:=V) (l:=L) (τ:=τ1) (C:=fun y=>.var ([]++y::[])) (J0i _ _) rfl rfl (by simp;omega) (by decide) rfl i3 i4 (by decide) ?_
   intro a n cp τ2 t2
   repeat' first|refine Z1 ?_|refine Z2 ?_|refine Zo ?_|refine J5 ?_|refine Zq ?_|refine Jf ?_|refine J9 ?_|refine J3 ?_|refine Jb ?_|refine Zv ?_|refine Zu ?_
   exact⟨τ2,⟨a,n,cp,rfl,by rw[e0];exact t2⟩,rfl,_,rfl,rfl⟩
  ·obtain⟨hdr,hlt⟩:=Jc hx
   have ek:decide ((k:Int)<(cs.length:Int))=true:=J0 (by omega)
   have hwc:=Jz (w:=wCls) (List.mem_of_getElem? hx)
   simp only[wL]at hw
   have hcl:=J1G (c:=c) (by omega)
   obtain⟨T,g1,g2,g3,g4,g5,g6,g7,g8⟩:=J4M h0 (by simpa only[wL]using hw) hx
   repeat' first|refine Z1 ?_|refine Z2 ?_|refine Z5 ?_|refine Yln (e:=eSlt) (n:=8) c.ins (fun _=>rfl) ?_|refine Yln (e:=eSlt) (n:=9) c.outs (fun _=>rfl) ?_|refine Yln (e:=eStr) (n:=10) c.locs (fun _=>rfl) ?_|refine Yln (e:=eNum) (n:=11) c.mems (fun _=>rfl) ?_|refine Ze ?_|refine Zo ?_|refine J5 ?_|refine Zp ?_|refine J4 ?_|refine J7 ?_|refine J3 ?_
   refine Yln (e:=eNum) (n:=12) c.insts (fun _=>rfl) ?_
   repeat' first|refine Z1 ?_|refine Z2 ?_
   refine J0g 0 7 8 (v:=8) (E:=88) (ss:=shSlt) (rows:=c.ins.map eSlt) (vs:=c.ins.map vSlt) (l:=(subss shCls (((cs.take k).map fuC).map eCls) V++L)) (τ:=τ1) (C:=fun y=>.var ([.d (.s (.string c.name))]++y::[.sl 9 9 0 c.outs.length,.sl 10 10 0 c.locs.length,.sl 11 11 0 c.mems.length,.sl 12 12 0 c.insts.length,.d (.s (.slice none 0 0))])) (J0i _ _) rfl rfl (by simp) (by decide) (by rw[←J0m (e:=eSlt) (v:=vSlt) (fun _=>rfl)];rfl) (JM J4C _) (by rw[JH J1l];exact i4) (by decide) ?_
   intro a1 n1 c1 τa t1
   refine J0g 0 7 9 (v:=9) (E:=88) (ss:=shSlt) (rows:=c.outs.map eSlt) (vs:=c.outs.map vSlt) (l:=(.im 88 shSlt,.im (c.ins.map eSlt),.slice a1 n1 c1)::(subss shCls (((cs.take k).map fuC).map eCls) V++L)) (τ:=τa) (C:=fun y=>.var ([.d (.s (.string c.name)),.d (.s (.slice a1 n1 c1))]++y::[.sl 10 10 0 c.locs.length,.sl 11 11 0 c.mems.length,.sl 12 12 0 c.insts.length,.d (.s (.slice none 0 0))])) (J0i _ _) rfl rfl (by simp) (by decide) (by rw[←J0m (e:=eSlt) (v:=vSlt) (fun _=>rfl)];rfl) (JM J4C _) (by rw[JH J1l];exact t1) (by decide) ?_
   intro a2 n2 c2 τb t2
   refine J0g 0 7 10 (v:=10) (E:=9) (ss:=shStr) (rows:=c.locs.map eStr) (vs:=c.locs.map vStr) (l:=(.im 88 shSlt,.im (c.outs.map eSlt),.slice a2 n2 c2)::(.im 88 shSlt,.im (c.ins.map eSlt),.slice a1 n1 c1)::(subss shCls (((cs.take k).map fuC).map eCls) V++L)) (τ:=τb) (C:=fun y=>.var ([.d (.s (.string c.name)),.d (.s (.slice a1 n1 c1)),.d (.s (.slice a2 n2 c2))]++y::[.sl 11 11 0 c.mems.length,.sl 12 12 0 c.insts.length,.d (.s (.slice none 0 0))])) (J0i _ _) rfl rfl (by simp) (by decide) (by rw[←J0m (e:=eStr) (v:=vStr) (fun _=>rfl)];rfl) (JM J48 _) (by rw[JH J1f];exact t2) (by decide) ?_
   intro a3 n3 c3 τc t3
   refine J0g 0 7 11 (v:=11) (E:=3) (ss:=shNum) (rows:=c.mems.map eNum) (vs:=c.mems.map vNum) (l:=(.im 9 shStr,.im (c.locs.map eStr),.slice a3 n3 c3)::(.im 88 shSlt,.im (c.outs.map eSlt),.slice a2 n2 c2)::(.im 88 shSlt,.im (c.ins.map eSlt),.slice a1 n1 c1)::(subss shCls (((cs.take k).map fuC).map eCls) V++L)) (τ:=τc) (C:=fun y=>.var ([.d (.s (.string c.name)),.d (.s (.slice a1 n1 c1)),.d (.s (.slice a2 n2 c2)),.d (.s (.slice a3 n3 c3))]++y::[.sl 12 12 0 c.insts.length,.d (.s (.slice none 0 0))])) (J0i _ _) rfl rfl (by simp) (by decide) (by rw[←J0m (e:=eNum) (v:=vNum) (fun _=>rfl)];rfl) (JM J4O _) (by rw[JH J1k];exact t3) (by decide) ?_
   intro a4 n4 c4 τd t4
   refine J0g 0 7 12 (v:=12) (E:=3) (ss:=shNum) (rows:=c.insts.map eNum) (vs:=c.insts.map vNum) (l:=(.im 3 shNum,.im (c.mems.map eNum),.slice a4 n4 c4)::(.im 9 shStr,.im (c.locs.map eStr),.slice a3 n3 c3)::(.im 88 shSlt,.im (c.outs.map eSlt),.slice a2 n2 c2)::(.im 88 shSlt,.im (c.ins.map eSlt),.slice a1 n1 c1)::(subss shCls (((cs.take k).map fuC).map eCls) V++L)) (τ:=τd) (C:=fun y=>.var ([.d (.s (.string c.name)),.d (.s (.slice a1 n1 c1)),.d (.s (.slice a2 n2 c2)),.d (.s (.slice a3 n3 c3)),.d (.s (.slice a4 n4 c4))]++y::[.d (.s (.slice none 0 0))])) (J0i _ _) rfl rfl (by simp) (by decide) (by rw[←J0m (e:=eNum) (v:=vNum) (fun _=>rfl)];rfl) (JM J4O _) (by rw[JH J1k];exact t4) (by decide) ?_
   intro a5 n5 c5 τe t5
   refine J0a (env':=envL [(2,.ref 2 0),(3,.ref 3 0),(5,.ref 6 0),(6,.ref 7 0),(14,.d (.im (cs.map eCls))),(15,vi cs.length),(16,vi k)]) (σ':=stL [some (.box τe),none,some (.var [.d (.s (.slice none 0 0))]),some (.var [.sl 4 5 0 k]),some (.row 5 53 7 (exR V)),none,some (.var ((eCls c).map .d)),some (.var [.d (.s (.string c.name)),.d (.s (.slice a1 n1 c1)),.d (.s (.slice a2 n2 c2)),.d (.s (.slice a3 n3 c3)),.d (.s (.slice a4 n4 c4)),.d (.s (.slice a5 n5 c5)),.d (.s (.slice none 0 0))]),none,none,none,none,none]) (Jg rfl ⟨.refl _,.refl _,.refl _,.refl _,.refl _,.refl _,.refl _,trivial⟩ ⟨⟨rfl,_,rfl,rfl⟩,⟨rfl,_,rfl,rfl,fun _ _ _=>.refl _⟩,⟨rfl,_,rfl,rfl,fun _ _ _=>.refl _⟩,⟨rfl,_,rfl,rfl,rfl,rfl,rfl⟩,⟨rfl,_,rfl,rfl,fun _ _ _=>.refl _⟩,⟨rfl,_,rfl,rfl,fun _ _ _=>.refl _⟩,trivial⟩) ?_
   generalize hσc:stL [some (.box τe),none,some (.var [.d (.s (.slice none 0 0))]),some (.var [.sl 4 5 0 k]),some (.row 5 53 7 (exR V)),none,some (.var ((eCls c).map .d)),some (.var [.d (.s (.string c.name)),.d (.s (.slice a1 n1 c1)),.d (.s (.slice a2 n2 c2)),.d (.s (.slice a3 n3 c3)),.d (.s (.slice a4 n4 c4)),.d (.s (.slice a5 n5 c5)),.d (.s (.slice none 0 0))]),none,none,none,none,none]=σc
   have q0:σc.obj 0=some (.box τe):=by rw[←hσc];rfl
   have q2:σc.obj 2=some (.var [.d (.s (.slice none 0 0))]):=by rw[←hσc];rfl
   have q3:σc.obj 3=some (.var [.sl 4 5 0 k]):=by rw[←hσc];rfl
   have q4:σc.obj 4=some (.row 5 53 7 (exR V)):=by rw[←hσc];rfl
   have q6:σc.obj 6=some (.var ((eCls c).map .d)):=by rw[←hσc];rfl
   have q7:σc.obj 7=some (.var [.d (.s (.string c.name)),.d (.s (.slice a1 n1 c1)),.d (.s (.slice a2 n2 c2)),.d (.s (.slice a3 n3 c3)),.d (.s (.slice a4 n4 c4)),.d (.s (.slice a5 n5 c5)),.d (.s (.slice none 0 0))]):=by rw[←hσc];rfl
   have qn:σc.next=13:=by rw[←hσc];rfl
   clear hσc
   repeat' first|refine Z1 ?_|refine Z5 ?_|refine Ys q6 ?_|refine Zo ?_
   refine Yxx (AFun.wfe (Jb5 c.body (by omega) g1 σc)) ?_
   rintro A σ2 ⟨⟨R,Lf,rfl,t1',t2',t3',t4',t5',t6',t7'⟩,wf2⟩
   refine⟨_,rfl,?_⟩
   subst t1'
   repeat' first|refine Z1 ?_|refine Z2 ?_|refine Z5 ?_|refine Yex (r:=slO R Lf.length) ?_|refine Yas (r:=slO R Lf.length) ?_|refine Ymv (r:=slO R Lf.length) ?_|refine Zo ?_
   refine Ym (AFun.eat (inL (rwO R++fpL Lf)) rfl (Jbi (brsN (tmL Lf)) Lf (Nat.le_refl _) (by omega) (σ2.only _) R (J05 Lf (fun x hx=>St.only_at (by simp[inL,hx])) t2') t4' (J0b t3' fun x hx=>St.only_at (by simp[inL,hx])))) ?_
   have P13:∀j,j<13→inL (rwO R++fpL Lf) j=false:=fun j hj=>J2a.2 fun hm=>by have:=t5' j hm;omega
   have e3:∀j,j<13→(σ2.less (inL (rwO R++fpL Lf))).obj j=σc.obj j:=fun j hj=>by rw[St.less_at (P13 j hj)];exact t7' j (by omega)
   have n3':13≤(σ2.less (inL (rwO R++fpL Lf))).next:=by show 13≤σ2.next;omega
   have wf3:∀j o,(σ2.less (inL (rwO R++fpL Lf))).obj j=some o→j<(σ2.less (inL (rwO R++fpL Lf))).next:=fun j o hj=>wf2 j o (St.less_of hj).2
   generalize σ2.less (inL (rwO R++fpL Lf))=σ3 at e3 n3' wf3 ⊢
   clear t2' t3' t4' t5' t6' t7' wf2 P13
   have F0:FlI σ3 0 none [] ((.im 3 shNum,.im (c.insts.map eNum),.slice a5 n5 c5)::(.im 3 shNum,.im (c.mems.map eNum),.slice a4 n4 c4)::(.im 9 shStr,.im (c.locs.map eStr),.slice a3 n3 c3)::(.im 88 shSlt,.im (c.outs.map eSlt),.slice a2 n2 c2)::(.im 88 shSlt,.im (c.ins.map eSlt),.slice a1 n1 c1)::(subss shCls (((cs.take k).map fuC).map eCls) V++L)) none [] τe σ3:=⟨by rw[e3 0 (by omega)];exact q0,rfl,trivial,t5,fun _ _ _ _=>rfl,Nat.le_refl _,(fun j hj=>by cases hj),wf3⟩
   repeat' first|refine Z5 ?_
   refine Yxx (Jb4 _ (fuF (brsN (tmL Lf)+1) (tmL Lf)) (Nat.le_refl _) (by omega) [] (by rw[←g5];simp;omega) (fun s hs=>g8 s (by rw[g5];exact hs)) σ3 0 τe none [] _ F0) ?_
   rintro A σ4 ⟨O,W,τf,rfl,hF⟩
   refine⟨_,rfl,?_⟩
   rw[List.nil_append,←g5]at hF
   have e4:∀j,j<13→j≠0→σ4.obj j=σc.obj j:=fun j hj h0=>by rw[hF.fr j (by omega) h0 (by simp[rwO])];exact e3 j hj
   have hO:∀j∈rwO O,13≤j:=fun j hj=>by
    rcases hF.ow j hj with z|z
    ·simp[rwO]at z
    ·omega
   refine Z1 ?_
   refine Z5 ?_
   refine Yto (O:=O) (n:=W.length) (m:=[.d (.s (.string c.name)),.d (.s (.slice a1 n1 c1)),.d (.s (.slice a2 n2 c2)),.d (.s (.slice a3 n3 c3)),.d (.s (.slice a4 n4 c4)),.d (.s (.slice a5 n5 c5)),slO O W.length]) (show σ4.obj 7=_ by rw[e4 7 (by omega) (by omega)];exact q7) ?_
   refine Z2 ?_
   refine J8l 0 7 O (E:=96) (ss:=shSm) (rows:=(fuseB c.body).map eSm) (vs:=W) (l:=(.im 3 shNum,.im (c.insts.map eNum),.slice a5 n5 c5)::(.im 3 shNum,.im (c.mems.map eNum),.slice a4 n4 c4)::(.im 9 shStr,.im (c.locs.map eStr),.slice a3 n3 c3)::(.im 88 shSlt,.im (c.outs.map eSlt),.slice a2 n2 c2)::(.im 88 shSlt,.im (c.ins.map eSlt),.slice a1 n1 c1)::(subss shCls (((cs.take k).map fuC).map eCls) V++L)) (τ:=τf) (C:=fun y=>.var ([.d (.s (.string c.name)),.d (.s (.slice a1 n1 c1)),.d (.s (.slice a2 n2 c2)),.d (.s (.slice a3 n3 c3)),.d (.s (.slice a4 n4 c4)),.d (.s (.slice a5 n5 c5))]++y::[])) (J0i _ _) (by rw[St.obj_set,if_neg (by omega)];exact hF.bx) (by rw[St.obj_set,if_pos rfl];rfl) ((J16 hF.ag).1) (by decide) (J0b hF.rw fun j hj=>by have:=hO j hj;rw[St.obj_set,if_neg (by omega)]) (fun hm=>by have:=hO 7 hm;omega) hF.ag hF.tr (by decide) ?_
   intro a6 n6 c6 τg σ6 t6 f0 f7 ff fn
   have e6:∀j,j<13→j≠0→j≠7→σ6.obj j=σc.obj j:=fun j hj h0 h7=>by rw[ff j h0 h7 (fun hm=>by have:=hO j hm;omega),St.obj_set,if_neg h7];exact e4 j hj h0
   have n6':13≤σ6.next:=by rw[fn];show 13≤σ4.next;have:=hF.nx;omega
   clear ff fn e4 hO hF e3 wf3 F0
   have r3:σ6.obj 3=some (.var [.sl 4 5 0 k]):=by rw[e6 3 (by omega) (by omega) (by omega)];exact q3
   have r4:σ6.obj 4=some (.row 5 53 7 (exR V)):=by rw[e6 4 (by omega) (by omega) (by omega)];exact q4
   have r2:σ6.obj 2=some (.var [.d (.s (.slice none 0 0))]):=by rw[e6 2 (by omega) (by omega) (by omega)];exact q2
   have hal:∀j,j<13→(σ6.alloc (.row σ6.next 53 7 [(vCls (fuC c) (.slice a1 n1 c1) (.slice a2 n2 c2) (.slice a3 n3 c3) (.slice a4 n4 c4) (.slice a5 n5 c5) (.slice a6 n6 c6)).map ex1])).obj j=σ6.obj j:=fun j hj=>by rw[St.obj_alloc,if_neg (by omega)]
   repeat' first|refine Z1 ?_|refine Z2 ?_|refine Z3 ?_|refine Z5 ?_|refine Ys r3 ?_|refine Ys f7 ?_|refine Yw (n:=σ6.next) (sz:=7) (rows:=[(vCls (fuC c) (.slice a1 n1 c1) (.slice a2 n2 c2) (.slice a3 n3 c3) (.slice a4 n4 c4) (.slice a5 n5 c5) (.slice a6 n6 c6)).map ex1]) ?_|refine Yap (O:=some (4,5)) (rows:=exR V) (rows2:=[(vCls (fuC c) (.slice a1 n1 c1) (.slice a2 n2 c2) (.slice a3 n3 c3) (.slice a4 n4 c4) (.slice a5 n5 c5) (.slice a6 n6 c6)).map ex1]) (m:=k+1) (show(σ6.alloc _).obj 4=_ by rw[hal 4 (by omega)];exact r4) (show srcOf _ _ _ (.sl σ6.next σ6.next 0 1)=some _ by simp[srcOf,rowsOf,St.alloc]) (fun x hx=>by simp only[List.mem_singleton]at hx;subst hx;rfl) (by simp[exR,i2]) (by omega) (hn:=by simp[exR,i2]) ?_|refine Yt (cells:=[.sl 4 5 0 k]) (m:=[.sl 4 (σ6.next+1) 0 (k+1)]) (i:=3) (show _ from(JaG (by omega)).trans ((hal 3 (by omega)).trans r3)) ?_|refine Zf ?_|refine Jd ?_|refine J3 ?_|refine J6 ?_
   have N3:agrs shCls (((cs.take (k+1)).map fuC).map eCls) (V++[vCls (fuC c) (.slice a1 n1 c1) (.slice a2 n2 c2) (.slice a3 n3 c3) (.slice a4 n4 c4) (.slice a5 n5 c5) (.slice a6 n6 c6)]):=by
    rw[J03 hx,List.map_append,List.map_append]
    exact J07 i3 ⟨J9p _ _ _ _ _ _ _,trivial⟩
   have N4:Tr τg (subss shCls (((cs.take (k+1)).map fuC).map eCls) (V++[vCls (fuC c) (.slice a1 n1 c1) (.slice a2 n2 c2) (.slice a3 n3 c3) (.slice a4 n4 c4) (.slice a5 n5 c5) (.slice a6 n6 c6)])++L):=by
    rw[J03 hx,List.map_append,List.map_append,JY (by simp;omega)]
    refine t6.perm ?_
    rw[List.append_assoc]
    refine List.Perm.trans ?_ (List.perm_append_comm_assoc _ _ _)
    refine List.Perm.append_right (l₁:=[_,_,_,_,_,_]) _ ?_
    exact List.reverse_perm (α:=Sh×D×Value) [(.im 88 shSlt,.im (c.ins.map eSlt),.slice a1 n1 c1),(.im 88 shSlt,.im (c.outs.map eSlt),.slice a2 n2 c2),(.im 9 shStr,.im (c.locs.map eStr),.slice a3 n3 c3),(.im 3 shNum,.im (c.mems.map eNum),.slice a4 n4 c4),(.im 3 shNum,.im (c.insts.map eNum),.slice a5 n5 c5),(.im 96 shSm,.im ((fuseB c.body).map eSm),.slice a6 n6 c6)]
   refine⟨(k+1,V++[vCls (fuC c) (.slice a1 n1 c1) (.slice a2 n2 c2) (.slice a3 n3 c3) (.slice a4 n4 c4) (.slice a5 n5 c5) (.slice a6 n6 c6)],τg),⟨hlt,by simp[i2],N3,N4⟩,by show cs.length-(k+1)<cs.length-k;omega,JC [(5,σ6.next+1)] rfl rfl rfl ⟨⟨rfl,rfl⟩,⟨rfl,rfl⟩,⟨rfl,rfl⟩,⟨rfl,rfl⟩,⟨rfl,rfl⟩,trivial⟩ ⟨⟨?_,trivial⟩,⟨?_,rfl⟩,⟨rfl,rfl⟩,⟨?_,Je rfl,J0l _ _⟩,trivial⟩⟩
   ·exact(hal 0 (by omega)).trans f0
   ·exact(hal 2 (by omega)).trans r2
   ·show some (AO.row (σ6.next+1) _ 7 (exR V++[_]))=some (AO.row (σ6.next+1) _ 7 ((exR (V++[_])).map _))
    rw[J3M,J4b]
end Go.Pm
/- Part of the proof: Fu8. -/
namespace Go.Pm
attribute [local irreducible] AR Ok inBlock andThen endQ aoper
set_option maxHeartbeats 4000000
open Go.Proofs
theorem J2x (l:List Itm) (hl:l.length≤1048576):PFun X 80 [.d (.im (l.map eItm))] (.d (.im (l.map eItm))):=by
 refine Jj Tryz.func80 rfl (by decide) Tryz.ntmps80 Tryz.results80 (by simp) rfl rfl ?_
 repeat' first|refine Z1 ?_|refine Z2 ?_|refine Z5 ?_|refine Yw (sz:=3) (rows:=[]) ?_|refine Yl (e:=eItm) (l:=[]) l ?_|refine fzt 2 (y:=.d (.im (l.map eItm))) (.data (J2j (e:=eItm) (l:=l) (i:=0) (v:=1) (E:=156) (sz:=3) rfl rfl)) ?_|refine Zo ?_|refine J9 ?_|refine Zt ?_
 rfl
def CpK (cs:List Cls) (E:AEnd) (σ:St):Prop:=∃j v,E=.ret (.agg [.sl j v 0 cs.length])∧σ.obj j=some (.row v 53 7 (im2 eCls cs))
set_option maxHeartbeats 16000000 in
theorem Jaz (cs:List Cls) (hw:wL wCls cs≤1048576):AFun X 38 [.agg [.d (.im (cs.map eCls))]] St.nil (CpK cs):=by
 have hlc:cs.length≤1048576:=by simp only[wL]at hw;omega
 refine Jx Tryz.func38 rfl (by decide) Tryz.ntmps38 Tryz.results38 (by simp) ?_
 repeat' first|refine Z1 ?_|refine Z2 ?_|refine Z5 ?_|refine Zd ?_|refine Zo ?_|refine J5 ?_|refine J4 ?_
 refine J0a (J1q 2 53 7 rfl (cs':=[.sl 3 3 0 0]) rfl rfl ⟨.nil,trivial⟩) ?_
 refine J0w (ι:=Nat) (fun x=>envL [(3,.ref 2 0),(2,.ref 1 0),(14,.d (.im (cs.map eCls))),(15,vi cs.length),(16,vi x)]) (fun x=>stL [none,some (.var [.d (.s (.slice none 0 0))]),some (.var [.sl 3 4 0 x]),some (.row 4 53 7 (im2 eCls (cs.take x))),none]) (fun x=>x≤cs.length) (fun x=>cs.length-x) 0 (Nat.zero_le _) Turn.refl (JC [(4,3)] rfl rfl rfl ⟨⟨rfl,rfl⟩,⟨rfl,rfl⟩,⟨rfl,rfl⟩,⟨rfl,rfl⟩,⟨rfl,rfl⟩,trivial⟩ ⟨⟨rfl,rfl⟩,⟨rfl,rfl⟩,⟨Jn rfl (by first|exact Jq _ _ _|rfl),Je rfl,Jl _ _ _⟩,trivial⟩) ?_
 intro i i1
 show Ok _ _ _ _ (envL [(3,.ref 2 0),(2,.ref 1 0),(14,.d (.im (cs.map eCls))),(15,vi cs.length),(16,vi i)]) (stL [none,some (.var [.d (.s (.slice none 0 0))]),some (.var [.sl 3 4 0 i]),some (.row 4 53 7 (im2 eCls (cs.take i))),none])
 rcases hx:cs[i]? with _|c
 ·have hle:=Jk hx
  have ek:decide ((i:Int)<(cs.length:Int))=false:=J1 (by omega)
  obtain rfl:i=cs.length:=by omega
  rw[List.take_length]
  repeat' first|refine Z1 ?_|refine Z2 ?_|refine Zo ?_|refine J5 ?_|refine Zq ?_|refine Jf ?_|refine J9 ?_|refine J3 ?_|refine Jb ?_|refine Zv ?_|refine Zu ?_
  exact⟨3,4,rfl,rfl⟩
 obtain⟨hdr,hlt⟩:=Jc hx
 have ek:decide ((i:Int)<(cs.length:Int))=true:=J0 (by omega)
 have hwc:=Jz (w:=wCls) (List.mem_of_getElem? hx)
 simp only[wL]at hw
 have hcl:=J1G (c:=c) (by omega)
 have htl:(cs.take i).length=i:=by rw[List.length_take];omega
 repeat' first|refine Z1 ?_|refine Z2 ?_|refine Z5 ?_|refine Yw (sz:=2) (rows:=[]) ?_|refine Yw (sz:=1) (rows:=[]) ?_|refine Yw (sz:=6) (rows:=[]) ?_|refine Yl (e:=eSlt) (l:=[]) c.ins ?_|refine Yl (e:=eSlt) (l:=[]) c.outs ?_|refine Yl (e:=eStr) (l:=[]) c.locs ?_|refine Yl (e:=eNum) (l:=[]) c.mems ?_|refine Yl (e:=eNum) (l:=[]) c.insts ?_|refine Zd ?_|refine Ze ?_|refine Zo ?_|refine J5 ?_|refine Zp ?_|refine J4 ?_|refine J7 ?_|refine J3 ?_
 refine J4E (e:=eSlt) (l:=c.ins) 5 6 (v:=7) [.d (.s (.string c.name))] [.sl 8 9 0 c.outs.length,.sl 10 11 0 c.locs.length,.sl 12 13 0 c.mems.length,.sl 14 15 0 c.insts.length,.d (.im (c.body.map eSm))] rfl rfl rfl (by decide) ?_
 refine J4E (e:=eSlt) (l:=c.outs) 5 8 (v:=9) [.d (.s (.string c.name)),.d (.im (c.ins.map eSlt))] [.sl 10 11 0 c.locs.length,.sl 12 13 0 c.mems.length,.sl 14 15 0 c.insts.length,.d (.im (c.body.map eSm))] rfl rfl rfl (by decide) ?_
 refine J4E (e:=eStr) (l:=c.locs) 5 10 (v:=11) [.d (.s (.string c.name)),.d (.im (c.ins.map eSlt)),.d (.im (c.outs.map eSlt))] [.sl 12 13 0 c.mems.length,.sl 14 15 0 c.insts.length,.d (.im (c.body.map eSm))] rfl rfl rfl (by decide) ?_
 refine J4E (e:=eNum) (l:=c.mems) 5 12 (v:=13) [.d (.s (.string c.name)),.d (.im (c.ins.map eSlt)),.d (.im (c.outs.map eSlt)),.d (.im (c.locs.map eStr))] [.sl 14 15 0 c.insts.length,.d (.im (c.body.map eSm))] rfl rfl rfl (by decide) ?_
 refine J4E (e:=eNum) (l:=c.insts) 5 14 (v:=15) [.d (.s (.string c.name)),.d (.im (c.ins.map eSlt)),.d (.im (c.outs.map eSlt)),.d (.im (c.locs.map eStr)),.d (.im (c.mems.map eNum))] [.d (.im (c.body.map eSm))] rfl rfl rfl (by decide) ?_
 refine J0w (ι:=Nat) (fun x=>envL [(3,.ref 2 0),(2,.ref 1 0),(14,.d (.im (cs.map eCls))),(15,vi cs.length),(16,vi i),(5,.ref 5 0),(6,.sl 16 17 0 x),(47,.d (.im (c.body.map eSm))),(48,vi c.body.length),(49,vi x)]) (fun x=>stL [none,some (.var [.d (.s (.slice none 0 0))]),some (.var [.sl 3 4 0 i]),some (.row 4 53 7 (im2 eCls (cs.take i))),none,some (.var ((eCls c).map .d)),none,none,none,none,none,none,none,none,none,none,some (.row 17 96 6 (im2 eSm (c.body.take x))),none]) (fun x=>x≤c.body.length) (fun x=>c.body.length-x) 0 (Nat.zero_le _) Turn.refl (JC [(17,16)] rfl rfl rfl ⟨⟨rfl,rfl⟩,⟨rfl,rfl⟩,⟨rfl,rfl⟩,⟨rfl,rfl⟩,⟨rfl,rfl⟩,⟨rfl,rfl⟩,⟨rfl,rfl⟩,⟨rfl,rfl⟩,⟨rfl,rfl⟩,⟨rfl,rfl⟩,trivial⟩ ⟨⟨rfl,rfl⟩,⟨rfl,rfl⟩,⟨Jn rfl (by first|exact Jq _ _ _|rfl),Je rfl,Jl _ _ _⟩,⟨rfl,rfl⟩,⟨Jn rfl (by first|exact Jq _ _ _|rfl),Je rfl,Jl _ _ _⟩,trivial⟩) ?_
 intro j j1
 show Ok _ _ _ _ (envL [(3,.ref 2 0),(2,.ref 1 0),(14,.d (.im (cs.map eCls))),(15,vi cs.length),(16,vi i),(5,.ref 5 0),(6,.sl 16 17 0 j),(47,.d (.im (c.body.map eSm))),(48,vi c.body.length),(49,vi j)]) (stL [none,some (.var [.d (.s (.slice none 0 0))]),some (.var [.sl 3 4 0 i]),some (.row 4 53 7 (im2 eCls (cs.take i))),none,some (.var ((eCls c).map .d)),none,none,none,none,none,none,none,none,none,none,some (.row 17 96 6 (im2 eSm (c.body.take j))),none])
 rcases hy:c.body[j]? with _|s
 ·have hle:=Jk hy
  have ej:decide ((j:Int)<(c.body.length:Int))=false:=J1 (by omega)
  obtain rfl:j=c.body.length:=by omega
  rw[List.take_length]
  refine J95 (e:=eSm) (l:=c.body) 6 16 (v:=17) rfl rfl rfl ?_
  repeat' first|refine Z1 ?_|refine Z2 ?_|refine Z3 ?_|refine Z5 ?_|refine Yw (n:=18) (sz:=7) (rows:=[(eCls c).map .d]) ?_|refine Yad (e:=eCls) (l:=cs.take i) (y:=c) (i:=3) (h:=4) (k:=18) (v:=18) (m:=i) rfl rfl (fun _=>rfl) htl.symm ?_|refine Zf ?_|refine Zo ?_|refine J5 ?_|refine Jd ?_|refine Zq ?_|refine Jf ?_|refine J3 ?_|refine Jb ?_|refine Zv ?_|refine J6 ?_
  rw[←J03 hx]
  exact⟨i+1,hlt,by(try simp only);omega,JC [(4,19)] rfl rfl rfl ⟨⟨rfl,rfl⟩,⟨rfl,rfl⟩,⟨rfl,rfl⟩,⟨rfl,rfl⟩,⟨rfl,rfl⟩,trivial⟩ ⟨⟨rfl,rfl⟩,⟨rfl,rfl⟩,⟨Jn rfl (by first|exact Jq _ _ _|rfl),Je rfl,Jl _ _ _⟩,trivial⟩⟩
 obtain⟨hdr2,hlt2⟩:=Jc hy
 have ej:decide ((j:Int)<(c.body.length:Int))=true:=J0 (by omega)
 have hws:=Jz (w:=wSm) (List.mem_of_getElem? hy)
 simp only[wCls,wL]at hwc
 have hws2:wSm s≤1048576:=by omega
 simp only[wSm,wL]at hws2
 have hsl:s.outs.length+s.code.length+s.args.length≤1048576:=by omega
 have htb:(c.body.take j).length=j:=by rw[List.length_take];omega
 repeat' first|refine Z1 ?_|refine Z2 ?_|refine Z5 ?_|refine Yw (n:=19) (sz:=1) (rows:=[]) ?_|refine Yl (e:=eStr) (l:=[]) s.outs ?_|refine Zc (J2x s.code (by omega)) ?_|refine Yw (n:=21) (sz:=1) (rows:=[]) ?_|refine Zd ?_|refine Ze ?_|refine Zo ?_|refine J5 ?_|refine Zp ?_|refine J4 ?_|refine J7 ?_|refine J3 ?_
 refine J4E (e:=eStr) (l:=s.outs) 18 19 (v:=20) [.d (.s (.int .i64 s.kind)),.d (.s (.string s.name)),.d (.s (.int .i64 s.pos))] [.d (.im (s.code.map eItm)),.d (.im (s.args.map eItms))] rfl rfl rfl (by decide) ?_
 refine J0w (ι:=Nat) (fun x=>envL [(3,.ref 2 0),(2,.ref 1 0),(14,.d (.im (cs.map eCls))),(15,vi cs.length),(16,vi i),(5,.ref 5 0),(6,.sl 16 17 0 j),(47,.d (.im (c.body.map eSm))),(48,vi c.body.length),(49,vi j),(8,.ref 18 0),(9,.sl 21 22 0 x),(64,.d (.im (s.args.map eItms))),(65,vi s.args.length),(66,vi x)]) (fun x=>stL [none,some (.var [.d (.s (.slice none 0 0))]),some (.var [.sl 3 4 0 i]),some (.row 4 53 7 (im2 eCls (cs.take i))),none,some (.var ((eCls c).map .d)),none,none,none,none,none,none,none,none,none,none,some (.row 17 96 6 (im2 eSm (c.body.take j))),none,some (.var ((eSm s).map .d)),none,none,some (.row 22 91 1 (im2 eItms (s.args.take x))),none]) (fun x=>x≤s.args.length) (fun x=>s.args.length-x) 0 (Nat.zero_le _) Turn.refl (JC [(22,21)] rfl rfl rfl ⟨⟨rfl,rfl⟩,⟨rfl,rfl⟩,⟨rfl,rfl⟩,⟨rfl,rfl⟩,⟨rfl,rfl⟩,⟨rfl,rfl⟩,⟨rfl,rfl⟩,⟨rfl,rfl⟩,⟨rfl,rfl⟩,⟨rfl,rfl⟩,⟨rfl,rfl⟩,⟨rfl,rfl⟩,⟨rfl,rfl⟩,⟨rfl,rfl⟩,⟨rfl,rfl⟩,trivial⟩ ⟨⟨rfl,rfl⟩,⟨rfl,rfl⟩,⟨Jn rfl (by first|exact Jq _ _ _|rfl),Je rfl,Jl _ _ _⟩,⟨rfl,rfl⟩,⟨Jn rfl (by first|exact Jq _ _ _|rfl),Je rfl,Jl _ _ _⟩,⟨rfl,rfl⟩,⟨Jn rfl (by first|exact Jq _ _ _|rfl),Je rfl,Jl _ _ _⟩,trivial⟩) ?_
 intro q q1
 show Ok _ _ _ _ (envL [(3,.ref 2 0),(2,.ref 1 0),(14,.d (.im (cs.map eCls))),(15,vi cs.length),(16,vi i),(5,.ref 5 0),(6,.sl 16 17 0 j),(47,.d (.im (c.body.map eSm))),(48,vi c.body.length),(49,vi j),(8,.ref 18 0),(9,.sl 21 22 0 q),(64,.d (.im (s.args.map eItms))),(65,vi s.args.length),(66,vi q)]) (stL [none,some (.var [.d (.s (.slice none 0 0))]),some (.var [.sl 3 4 0 i]),some (.row 4 53 7 (im2 eCls (cs.take i))),none,some (.var ((eCls c).map .d)),none,none,none,none,none,none,none,none,none,none,some (.row 17 96 6 (im2 eSm (c.body.take j))),none,some (.var ((eSm s).map .d)),none,none,some (.row 22 91 1 (im2 eItms (s.args.take q))),none])
 have htq:(s.args.take q).length=q:=by rw[List.length_take];omega
 rcases hz:s.args[q]? with _|a
 ·have hle:=Jk hz
  have eq:decide ((q:Int)<(s.args.length:Int))=false:=J1 (by omega)
  obtain rfl:q=s.args.length:=by omega
  rw[List.take_length]
  refine J95 (e:=eItms) (l:=s.args) 9 21 (v:=22) rfl rfl rfl ?_
  repeat' first|refine Z1 ?_|refine Z2 ?_|refine Z3 ?_|refine Z5 ?_|refine Yw (n:=23) (sz:=6) (rows:=[(eSm s).map .d]) ?_|refine Yad (e:=eSm) (l:=c.body.take j) (y:=s) (i:=16) (h:=17) (k:=23) (v:=23) (m:=j) rfl rfl (fun _=>rfl) htb.symm ?_|refine Zf ?_|refine Zo ?_|refine J5 ?_|refine Jd ?_|refine Zq ?_|refine Jf ?_|refine J3 ?_|refine Jb ?_|refine Zv ?_|refine J6 ?_
  rw[←J03 hy]
  exact⟨j+1,hlt2,by(try simp only);omega,JC [(17,24)] rfl rfl rfl ⟨⟨rfl,rfl⟩,⟨rfl,rfl⟩,⟨rfl,rfl⟩,⟨rfl,rfl⟩,⟨rfl,rfl⟩,⟨rfl,rfl⟩,⟨rfl,rfl⟩,⟨rfl,rfl⟩,⟨rfl,rfl⟩,⟨rfl,rfl⟩,trivial⟩ ⟨⟨rfl,rfl⟩,⟨rfl,rfl⟩,⟨Jn rfl (by first|exact Jq _ _ _|rfl),Je rfl,Jl _ _ _⟩,⟨rfl,rfl⟩,⟨Jn rfl (by first|exact Jq _ _ _|rfl),Je rfl,Jl _ _ _⟩,trivial⟩⟩
 obtain⟨hdr3,hlt3⟩:=Jc hz
 have eq:decide ((q:Int)<(s.args.length:Int))=true:=J0 (by omega)
 have hwa:=Jz (w:=wL wItm) (List.mem_of_getElem? hz)
 simp only[wL]at hwa
 repeat' first|refine Z1 ?_|refine Z2 ?_|refine Z3 ?_|refine Z5 ?_|refine Zc (J2x a (by omega)) ?_|refine Yw (n:=23) (sz:=1) (rows:=[[.d (.im (a.map eItm))]]) ?_|refine Yad (e:=eItms) (l:=s.args.take q) (y:=a) (i:=21) (h:=22) (k:=23) (v:=23) (m:=q) rfl rfl (fun _=>rfl) htq.symm ?_|refine Ze ?_|refine Zf ?_|refine Zo ?_|refine J5 ?_|refine Jd ?_|refine Zp ?_|refine J4 ?_|refine J7 ?_|refine J3 ?_|refine J6 ?_
 rw[←J03 hz]
 exact⟨q+1,hlt3,by(try simp only);omega,JC [(22,24)] rfl rfl rfl ⟨⟨rfl,rfl⟩,⟨rfl,rfl⟩,⟨rfl,rfl⟩,⟨rfl,rfl⟩,⟨rfl,rfl⟩,⟨rfl,rfl⟩,⟨rfl,rfl⟩,⟨rfl,rfl⟩,⟨rfl,rfl⟩,⟨rfl,rfl⟩,⟨rfl,rfl⟩,⟨rfl,rfl⟩,⟨rfl,rfl⟩,⟨rfl,rfl⟩,⟨rfl,rfl⟩,trivial⟩ ⟨⟨rfl,rfl⟩,⟨rfl,rfl⟩,⟨Jn rfl (by first|exact Jq _ _ _|rfl),Je rfl,Jl _ _ _⟩,⟨rfl,rfl⟩,⟨Jn rfl (by first|exact Jq _ _ _|rfl),Je rfl,Jl _ _ _⟩,⟨rfl,rfl⟩,⟨Jn rfl (by first|exact Jq _ _ _|rfl),Je rfl,Jl _ _ _⟩,trivial⟩⟩
end Go.Pm
/- Part of the proof: Fu9. -/
namespace Go.Pm
attribute [local irreducible] AR Ok inBlock andThen endQ aoper
set_option maxHeartbeats 4000000
open Go.Proofs
theorem Ja8 {l m:List Sm} {b c:Bool} (h:(m,c)=(l,b)):AEnd.ret (.tup [.d (.im (l.map eSm)),vb b])=AEnd.ret (.tup [.d (.im (m.map eSm)),vb c]):=by cases h;rfl
theorem Ja9 {L:List Sm} {T:List Br} (h:Spell L T) {i:Nat} {s:Sm} (hx:L[i]? = some s) (k4:s.kind=4):∃ot en:Nat,partsS L i=((ot:Int),(en:Int))∧i<ot∧ot<en∧en<L.length∧
  ∀u,L[en+1]? = some u→u.kind=4→∃ot2 en2:Nat,partsS L (en+1)=((ot2:Int),(en2:Int))∧en+2≤ot2∧ot2<en2∧en2<L.length:=by
 obtain⟨P,S,C,y,n,r,e,f,Y,N,R,hL,hP,k5,k6,hy,hn,hr,_,hC,hF,hS⟩:=J6v h i s hx k4
 have hpt:=J1T (P:=P) (r:=r++S) k4 k5 k6 hy hn
 have hL':L=P++s::(y++e::(n++f::(r++S))):=by rw[hL];simp
 rw[←hL',hP]at hpt
 refine⟨_,_,hpt,by omega,by omega,by rw[hL'];simp;omega,fun u hu ku=>?_⟩
 have e2:L[i+1+y.length+1+n.length+1]? = (r++S)[0]?:=by
  rw[hL',←hP,List.getElem?_append_right (by omega),show P.length+1+y.length+1+n.length+1-P.length=(y.length+(1+n.length+1))+1 by omega,List.getElem?_cons_succ,List.getElem?_append_right (by omega),show y.length+(1+n.length+1)-y.length=(n.length+1)+1 by omega,List.getElem?_cons_succ,List.getElem?_append_right (by omega),show n.length+1-n.length=0+1 by omega]
  rfl
 rw[e2]at hu
 cases hr with
 |nil=>
  cases S with
  |nil=>simp at hu
  |cons s' S'=>
   have:=hS s' S' rfl
   simp only[List.nil_append,List.getElem?_cons_zero,Option.some.injEq]at hu
   subst hu;exact absurd ku this
 |leaf h4=>
  simp only[List.cons_append,List.getElem?_cons_zero,Option.some.injEq]at hu
  subst hu;exact absurd ku h4
 |@cond u' e3 f3 y3 n3 r3 Y3 N3 R3 u4 u5 u6 hy3 hn3 hr3=>
  have hpt2:=J1T (P:=P++s::(y++e::(n++[f]))) (r:=r3++S) u4 u5 u6 hy3 hn3
  have hL2:L=P++s::(y++e::(n++[f]))++u'::(y3++e3::(n3++f3::(r3++S))):=by rw[hL'];simp
  have hlen:(P++s::(y++e::(n++[f]))).length=i+1+y.length+1+n.length+1:=by simp;omega
  rw[←hL2,hlen]at hpt2
  exact⟨_,_,hpt2,by omega,by omega,by rw[hL'];simp;omega⟩
set_option maxHeartbeats 8000000 in
theorem J9X (L:List Sm) {T:List Br} (hs:Spell L T) (hl:L.length≤1048576):PFun X 39 [.d (.im (L.map eSm))] (.tup [.d (.im ((onceS L).1.map eSm)),vb (onceS L).2]):=by
 refine Jj Tryz.func39 rfl (by decide) Tryz.ntmps39 Tryz.results39 (by simp) rfl rfl ?_
 repeat' first|refine Z1 ?_|refine Z2 ?_|refine Z5 ?_|refine Zd ?_|refine Zo ?_|refine J5 ?_|refine J4 ?_
 refine Jo (ι:=Nat) (fun x=>envL [(0,.d (.im (L.map eSm))),(11,.d (.im (L.map eSm))),(12,vi L.length),(13,vi x)]) (fun x=>stL []) (fun x=>x≤L.length∧onceGo L (L.length-x) x=onceS L) (fun x=>L.length-x) 0 (⟨Nat.zero_le _,rfl⟩) (Jg rfl ⟨.refl _,.refl _,.refl _,.refl _,trivial⟩ trivial) (fun _=>Nat.le_refl 0) ?_
 rintro i ⟨i1,i2⟩
 rcases hx:L[i]? with _|s
 ·have hle:=Jk hx
  have ek:decide ((i:Int)<(L.length:Int))=false:=J1 (by omega)
  rw[show L.length-i=0 by omega,onceGo]at i2
  repeat' first|refine Z1 ?_|refine Z2 ?_|refine ret2 ?_|refine Zo ?_|refine J5 ?_|refine Zq ?_|refine Jf ?_|refine J9 ?_|refine J3 ?_|refine Jb ?_|refine Zv ?_
  exact Ja8 i2.symm
 obtain⟨hdr,hlt⟩:=Jc hx
 have ek:decide ((i:Int)<(L.length:Int))=true:=J0 (by omega)
 obtain⟨m,hm⟩:∃m,L.length-i=m+1:=⟨L.length-i-1,by omega⟩
 have hm2:L.length-(i+1)=m:=by omega
 rw[hm,onceGo]at i2
 have next:prAt L i=false→onceGo L (L.length-(i+1)) (i+1)=onceS L:=fun h=>by rw[hm2];rw[if_neg (by simp[h])]at i2;exact i2
 by_cases h4:s.kind=4
 ·have d4:decide (s.kind≠4)=false:=J1 (fun h=>h h4)
  obtain⟨ot,en,hpt,o1,o2,o3,hsec⟩:=Ja9 hs hx h4
  have hp1:PFun X 81 [.d (.im (L.map eSm)),vi i] (.tup [vi ot,vi en]):=by
   have:=J1w L i (by omega) hl
   rw[hpt]at this
   exact this
  rcases hu:L[en+1]? with _|u
  ·have hle:=Jk hu
   have el:decide ((L.length:Int)≤(en:Int)+1)=true:=J0 (by omega)
   have hpr:prAt L i=false:=by simp[prAt,hx,hpt,hu]
   repeat' first|refine Z1 ?_|refine Z2 ?_|refine Z5 ?_|refine Zc (hp1) ?_|refine Ze ?_|refine Zo ?_|refine J5 ?_|refine Zp ?_|refine Zq ?_|refine J4 ?_|refine J7 ?_|refine J3 ?_
   refine J17 (fun s=>s=_) [] Jr (by decide +kernel) rfl ?_
   repeat' first|refine Vx ?_|refine Vgc ?_|refine Vz (Zd ⟨rfl,rfl⟩) ?_|refine Vz (Zf ⟨rfl,rfl⟩) ?_|refine Vz (Zh ⟨rfl,rfl⟩) ?_|refine Vz (Zi ⟨rfl,rfl⟩) ?_|refine Vz (Zl ⟨rfl,rfl⟩) ?_
   repeat' first|refine Z1 ?_|refine Z2 ?_|refine Z5 ?_|refine Zf ?_|refine Jd ?_|refine Zp ?_|refine Jf ?_|refine J3 ?_|refine Jb ?_|refine Zv ?_
   exact⟨i+1,⟨hlt,next hpr⟩,by(try simp only);omega,Jh (Nat.zero_le _) ⟨⟨rfl,rfl⟩,⟨rfl,rfl⟩,⟨rfl,rfl⟩,⟨rfl,rfl⟩,trivial⟩ trivial⟩
  ·have hul:=(Jc hu).2
   have el:decide ((L.length:Int)≤(en:Int)+1)=false:=J1 (by omega)
   by_cases ku:u.kind=4
   ·have du:decide (u.kind≠4)=false:=J1 (fun h=>h ku)
    by_cases hnm:u.name=s.name
    ·have dn:decide (u.name≠s.name)=false:=J1 (fun h=>h hnm)
     have hpr:prAt L i=true:=by simp[prAt,hx,hpt,hu,h4,ku,hnm]
     obtain⟨ot2,en2,hpt2,r1,r2,r3⟩:=hsec u hu ku
     have hp2:PFun X 81 [.d (.im (L.map eSm)),vi ((en:Int)+1)] (.tup [vi ot2,vi en2]):=by
      have:=J1w L (en+1) (by omega) hl
      rw[hpt2]at this
      exact this
     rw[if_pos hpr]at i2
     have hcut:cutS L i=L.take ot++(L.drop (en+2)).take (ot2-(en+2))++(L.drop ot).take (en-ot)++(L.drop (ot2+1)).take (en2-(ot2+1))++L.drop en2:=by
      unfold cutS
      rw[hpt]
      simp only[Int.toNat_natCast]
      rw[hpt2]
      simp only[Int.toNat_natCast]
     have s1:(L.take ot).length≤1048576:=by rw[List.length_take];omega
     have s2:((L.drop (en+2)).take (ot2-(en+2))).length≤1048576:=by rw[List.length_take,List.length_drop];omega
     have s3:((L.drop ot).take (en-ot)).length≤1048576:=by rw[List.length_take,List.length_drop];omega
     have s4:((L.drop (ot2+1)).take (en2-(ot2+1))).length≤1048576:=by rw[List.length_take,List.length_drop];omega
     have s5:(L.drop en2).length≤1048576:=by rw[List.length_drop];omega
     rw[hcut]at i2
     generalize hp_1:L.take ot=p1 at i2 s1
     generalize hp_2:(L.drop (en+2)).take (ot2-(en+2))=p2 at i2 s2
     generalize hp_3:(L.drop ot).take (en-ot)=p3 at i2 s3
     generalize hp_4:(L.drop (ot2+1)).take (en2-(ot2+1))=p4 at i2 s4
     generalize hp_5:L.drop en2=p5 at i2 s5
     repeat' first|refine Z1 ?_|refine Z2 ?_|refine Z5 ?_|refine Zc (hp1) ?_|refine Ze ?_|refine Zo ?_|refine J5 ?_|refine Zp ?_|refine Zq ?_|refine J4 ?_|refine J7 ?_|refine J3 ?_
     refine J17 (fun s=>s=_) [] Jr (by decide +kernel) rfl ?_
     repeat' first|refine Vx ?_|refine Vz (Zd ⟨rfl,rfl⟩) ?_|refine Vz (Zf ⟨rfl,rfl⟩) ?_|refine Vz (Zh ⟨rfl,rfl⟩) ?_|refine Vz (Zi ⟨rfl,rfl⟩) ?_|refine Vz (Zm ⟨rfl,rfl⟩) ?_|refine Vga (Ze ⟨rfl,rfl⟩) ?_|refine Vga (Zf ⟨rfl,rfl⟩) ?_|refine Vga (Zh ⟨rfl,rfl⟩) ?_|refine Vga (Zi ⟨rfl,rfl⟩) ?_
     repeat' first|refine Z1 ?_|refine Z2 ?_|refine Z5 ?_|refine Zc (hp2) ?_|refine Yw (n:=1) (sz:=6) (rows:=[]) ?_|refine Yslh (e:=eSm) (l:=L) ot p1 hp_1 ?_|refine Ysl (e:=eSm) (l:=L) (en+2) ot2 p2 hp_2 ?_|refine Ysl (e:=eSm) (l:=L) ot en p3 hp_3 ?_|refine Ysl (e:=eSm) (l:=L) (ot2+1) en2 p4 hp_4 ?_|refine Ysll (e:=eSm) (l:=L) en2 p5 hp_5 ?_|refine Yl (e:=eSm) (l:=[]) p1 ?_|refine Yl (e:=eSm) (l:=p1) p2 ?_|refine Yl (e:=eSm) (l:=p1++p2) p3 ?_|refine Yl (e:=eSm) (l:=p1++p2++p3) p4 ?_|refine Yl (e:=eSm) (l:=p1++p2++p3++p4) p5 ?_|refine Zf ?_|refine fzt2 2 3 (x:=.d (.im ((p1++p2++p3++p4++p5).map eSm))) (y:=vb true) (.data (J2j (e:=eSm) (l:=p1++p2++p3++p4++p5) (i:=1) (v:=6) (E:=96) (sz:=6) rfl rfl)) (.data (.d _)) ?_|refine ret2 ?_|refine Zo ?_|refine Zq ?_|refine J7 ?_|refine J9 ?_|refine J3 ?_|refine J8 ?_|refine Ja ?_
     exact Ja8 i2.symm
    ·have dn:decide (u.name≠s.name)=true:=J0 hnm
     have hpr:prAt L i=false:=by simp[prAt,hx,hpt,hu,hnm]
     repeat' first|refine Z1 ?_|refine Z2 ?_|refine Z5 ?_|refine Zc (hp1) ?_|refine Ze ?_|refine Zo ?_|refine J5 ?_|refine Zp ?_|refine Zq ?_|refine J4 ?_|refine J7 ?_|refine J3 ?_
     refine J17 (fun s=>s=_) [] Jr (by decide +kernel) rfl ?_
     repeat' first|refine Vx ?_|refine Vz (Zd ⟨rfl,rfl⟩) ?_|refine Vz (Zf ⟨rfl,rfl⟩) ?_|refine Vz (Zh ⟨rfl,rfl⟩) ?_|refine Vz (Zi ⟨rfl,rfl⟩) ?_|refine Vz (Zm ⟨rfl,rfl⟩) ?_|refine Vga (Ze ⟨rfl,rfl⟩) ?_|refine Vga (Zf ⟨rfl,rfl⟩) ?_|refine Vga (Zh ⟨rfl,rfl⟩) ?_|refine Vga (Zi ⟨rfl,rfl⟩) ?_
     repeat' first|refine Z1 ?_|refine Z2 ?_|refine Z5 ?_|refine Zf ?_|refine Jd ?_|refine Zp ?_|refine Jf ?_|refine J3 ?_|refine Jb ?_|refine Zv ?_
     exact⟨i+1,⟨hlt,next hpr⟩,by(try simp only);omega,Jh (Nat.zero_le _) ⟨⟨rfl,rfl⟩,⟨rfl,rfl⟩,⟨rfl,rfl⟩,⟨rfl,rfl⟩,trivial⟩ trivial⟩
   ·have du:decide (u.kind≠4)=true:=J0 ku
    have hpr:prAt L i=false:=by simp[prAt,hx,hpt,hu,ku]
    repeat' first|refine Z1 ?_|refine Z2 ?_|refine Z5 ?_|refine Zc (hp1) ?_|refine Ze ?_|refine Zo ?_|refine J5 ?_|refine Zp ?_|refine Zq ?_|refine J4 ?_|refine J7 ?_|refine J3 ?_
    refine J17 (fun s=>s=_) [] Jr (by decide +kernel) rfl ?_
    repeat' first|refine Vx ?_|refine Vgc ?_|refine Vz (Zd ⟨rfl,rfl⟩) ?_|refine Vz (Zf ⟨rfl,rfl⟩) ?_|refine Vz (Zh ⟨rfl,rfl⟩) ?_|refine Vz (Zi ⟨rfl,rfl⟩) ?_|refine Vz (Zl ⟨rfl,rfl⟩) ?_|refine Vz (Zm ⟨rfl,rfl⟩) ?_|refine Vga (Ze ⟨rfl,rfl⟩) ?_|refine Vga (Zf ⟨rfl,rfl⟩) ?_|refine Vga (Zh ⟨rfl,rfl⟩) ?_|refine Vga (Zi ⟨rfl,rfl⟩) ?_
    repeat' first|refine Z1 ?_|refine Z2 ?_|refine Z5 ?_|refine Zf ?_|refine Jd ?_|refine Zp ?_|refine Jf ?_|refine J3 ?_|refine Jb ?_|refine Zv ?_
    exact⟨i+1,⟨hlt,next hpr⟩,by(try simp only);omega,Jh (Nat.zero_le _) ⟨⟨rfl,rfl⟩,⟨rfl,rfl⟩,⟨rfl,rfl⟩,⟨rfl,rfl⟩,trivial⟩ trivial⟩
 ·have d4:decide (s.kind≠4)=true:=J0 h4
  have hpr:prAt L i=false:=by simp[prAt,hx,h4]
  repeat' first|refine Z1 ?_|refine Z2 ?_|refine Z5 ?_|refine Ze ?_|refine Zf ?_|refine Zo ?_|refine J5 ?_|refine Jd ?_|refine Zp ?_|refine J4 ?_|refine Jf ?_|refine J7 ?_|refine J3 ?_|refine Jb ?_|refine Zv ?_
  exact⟨i+1,⟨hlt,next hpr⟩,by(try simp only);omega,Jh (Nat.zero_le _) ⟨⟨rfl,rfl⟩,⟨rfl,rfl⟩,⟨rfl,rfl⟩,⟨rfl,rfl⟩,trivial⟩ trivial⟩
end Go.Pm
/- Part of the proof: Fua. -/
namespace Go.Pm
attribute [local irreducible] AR Ok inBlock andThen endQ aoper
set_option maxHeartbeats 4000000
open Go.Proofs
theorem J6W (cs:List Cls) (hw:wL wCls cs≤1048576) (σ:St):AFun X 38 [.agg [.d (.im (cs.map eCls))]] σ fun E σ'=>∃j v,E=.ret (.agg [.sl j v 0 cs.length])∧σ'.obj j=some (.row v 53 7 (im2 eCls cs))∧σ.next≤j∧σ.next≤σ'.next∧∀q,q<σ.next→σ'.obj q=σ.obj q:=by
 have h0:=AFun.frame (σ:=σ) (Jaz cs hw) (fun j=>j) (fun _=>none) (fun j hj=>absurd hj (Nat.not_lt_zero j)) (fun j o h=>by cases h) (fun j o h=>by cases h) (fun j o h=>by cases h) (fun i j h=>by cases h) rfl
 rw[J0P]at h0
 refine h0.mono ?_
 rintro E σ' ⟨E0,σ1,⟨j,v,rfl,hj⟩,rfl,rfl⟩
 have hext:ext St.nil.next σ.next (fun j=>j)=(σ.next+·):=by funext j;simp[ext,St.nil]
 refine⟨σ.next+j,σ.next+v,?_,?_,by omega,Nat.le_add_right _ _,fun q hq=>?_⟩
 ·simp only[renE,ren,rens,hext]
 ·simp only[mrg,hext]
  rw[if_neg (by omega),show σ.next+j-σ.next+St.nil.next=j by simp[St.nil],hj]
  simp only[Option.map_some,renO,Jq]
 ·simp only[mrg,hq,if_true]
structure SfX where
 more:Bool
 B:List Sm
 T:List Br
def SfI (cs:List Cls) (j v i:Nat) (c:Cls) (T0:List Br) (k:Nat) (x:SfX) (σ:St):Prop:=
 2≤σ.next∧σ.obj 0=some (.var [.sl j v 0 cs.length])∧σ.obj 1=some (.var [.d (.s (.slice none 0 0))])∧σ.obj j=some (.row v 53 7 (im2 eCls ((cs.take i).map fuC++{c with body:=x.B}::cs.drop (i+1))))∧Spell x.B x.T∧(∀s∈x.B,cnS s)∧x.B.length≤1048576∧fuF k T0=fuF k x.T∧brsN x.T≤k∧(x.more=false→x.B=flL (fuF k T0))
def SfK (cs:List Cls) (E:AEnd) (σ:St):Prop:=(E=.ret (.agg [.d (.s (.slice none 0 0))])∧fuseC cs=[])∨∃j v,E=.ret (.agg [.sl j v 0 (fuseC cs).length])∧σ.obj j=some (.row v 53 7 (im2 eCls (fuseC cs)))
set_option maxHeartbeats 8000000 in
theorem JaD (cs:List Cls) (hw:wL wCls cs≤1048576) (hw2:wL wCls (fuseC cs)≤1048576):AFun X 17 [.agg [.d (.im (cs.map eCls))]] St.nil (SfK cs):=by
 have hm:=JaZ cs hw
 refine Jx Tryz.func17 rfl (by decide) Tryz.ntmps17 Tryz.results17 (by simp) ?_
 cases h0:mokS cs with
 |false=>
  have n1:(!mokS cs)=true:=by rw[h0];rfl
  have e0:fuseC cs=[]:=by unfold fuseC;rw[h0];rfl
  repeat' first|refine Z1 ?_|refine Z2 ?_|refine Z5 ?_|refine Zc (hm) ?_|refine Zo ?_|refine J5 ?_|refine Zp ?_|refine J9 ?_|refine J8 ?_|refine Zu ?_
  exact .inl ⟨rfl,e0⟩
 |true=>
  have n1:(!mokS cs)=false:=by rw[h0];rfl
  have e0:fuseC cs=cs.map fuC:=by unfold fuseC;rw[h0];rfl
  have hlc:cs.length≤1048576:=by simp only[wL]at hw;omega
  repeat' first|refine Z1 ?_|refine Z2 ?_|refine Z5 ?_|refine Zc (hm) ?_|refine Yxx (J6W cs hw _) ?_|refine Zo ?_|refine J5 ?_|refine Zq ?_|refine J7 ?_|refine J3 ?_
  rintro A σ1 ⟨j,v,rfl,c1,c2,cn,c3⟩
  refine⟨_,rfl,?_⟩
  have q0:σ1.obj 0=some (.var [.d (.im (cs.map eCls))]):=c3 0 (show(0:Nat)<2 by decide)
  have q1:σ1.obj 1=some (.var [.d (.s (.slice none 0 0))]):=c3 1 (show(1:Nat)<2 by decide)
  have hj2:2≤j:=c2
  have hn2:2≤σ1.next:=cn
  clear c3 c2 cn
  repeat' first|refine Z1 ?_|refine Z2 ?_|refine Z5 ?_|refine Yt q0 ?_|refine Zo ?_|refine J5 ?_|refine J4 ?_
  refine J24 (ι:=Nat) (fun i=>envL [(1,.ref 0 0),(2,.ref 1 0),(14,.sl j v 0 cs.length),(15,vi cs.length),(16,vi i)]) (fun i σ=>i≤cs.length∧2≤σ.next∧σ.obj 0=some (.var [.sl j v 0 cs.length])∧σ.obj 1=some (.var [.d (.s (.slice none 0 0))])∧σ.obj j=some (.row v 53 7 (im2 eCls ((cs.take i).map fuC++cs.drop i)))) (fun i=>cs.length-i) 0 ⟨Nat.zero_le _,hn2,by rw[St.obj_set,if_pos rfl],by rw[St.obj_set,if_neg (by decide)];exact q1,by rw[St.obj_set,if_neg (by omega)];exact c1⟩ (Js ⟨.refl _,.refl _,.refl _,.refl _,.refl _,trivial⟩) ?_
  clear q0 q1 c1 hn2
  clear σ1
  rintro i σ ⟨i1,hn,i2,i3,i4⟩
  rcases hx:cs[i]? with _|c
  ·have hle:=Jk hx
   have ek:decide ((i:Int)<(cs.length:Int))=false:=J1 (by omega)
   rw[Jm hx,List.append_nil,List.take_of_length_le hle]at i4
   refine J4E (e:=eCls) (l:=cs.map fuC) 0 j [] [] i2 (by simp) i4 (by omega) ?_
   have z0:((σ.set 0 (.var ([]++.d (.im ((cs.map fuC).map eCls))::[]))).drop j).obj 0=some (.var [.d (.im ((cs.map fuC).map eCls))]):=by rw[St.obj_drop,if_neg (by omega),St.obj_set,if_pos rfl];rfl
   have z1:((σ.set 0 (.var ([]++.d (.im ((cs.map fuC).map eCls))::[]))).drop j).obj 1=some (.var [.d (.s (.slice none 0 0))]):=by rw[St.obj_drop,if_neg (by omega),St.obj_set,if_neg (by omega)];exact i3
   rw[e0]at hw2
   repeat' first|refine Z1 ?_|refine Z2 ?_|refine Z5 ?_|refine Ys z0 ?_|refine Yxx (J6W (cs.map fuC) hw2 _) ?_|refine Zo ?_|refine J5 ?_|refine Zq ?_|refine Jf ?_|refine J3 ?_|refine Jb ?_|refine Zv ?_
   rintro A σ2 ⟨j2,v2,rfl,d1,d2,d3,d4⟩
   refine⟨_,rfl,?_⟩
   have hj3:2≤j2:=Nat.le_trans hn d2
   repeat' first|refine Z2 ?_|refine Z5 ?_|refine Yt ((d4 1 (show 1<σ.next by omega)).trans z1) ?_|refine J9 ?_|refine Zu ?_
   refine .inr ⟨j2,v2,by rw[e0],?_⟩
   rw[St.obj_set,if_neg (by omega),e0];exact d1
  ·obtain⟨hdr,hlt⟩:=Jc hx
   have ek:decide ((i:Int)<(cs.length:Int))=true:=J0 (by omega)
   obtain⟨T,g1,g2,g3,g4,g5,g6,g7,g8⟩:=J4M h0 hw hx
   have hwc:=Jz (w:=wCls) (List.mem_of_getElem? hx)
   have hcl:=J1G (c:=c) (by simp only[wL]at hw;omega)
   have hli:((cs.take i).map fuC).length=i:=by rw[List.length_map,List.length_take];omega
   rw[hdr]at i4
   repeat' first|refine Z1 ?_|refine Z2 ?_|refine Zo ?_|refine J5 ?_|refine Zp ?_|refine J4 ?_|refine J7 ?_|refine J3 ?_
   refine J24 (ι:=SfX) (fun x=>envL [(1,.ref 0 0),(2,.ref 1 0),(14,.sl j v 0 cs.length),(15,vi cs.length),(16,vi i),(3,vi i),(4,vb x.more)]) (SfI cs j v i c T (brsN T+1)) (fun x=>if x.more then brsN x.T+1 else 0) ⟨true,c.body,T⟩ ⟨hn,i2,i3,i4,g2,g3,by show c.body.length≤1048576;omega,rfl,by show brsN T≤brsN T+1;omega,(fun h=>by cases h)⟩ (Js ⟨.refl _,.refl _,.refl _,.refl _,.refl _,.refl _,.refl _,trivial⟩) ?_
   clear i2 i3 i4 hn
   clear σ
   rintro⟨more,B,T'⟩ σ ⟨kn,k1,k2,k3,k4,k5,k6,k7,k8,k9⟩
   simp only at k3 k4 k5 k6 k7 k8 k9
   have hget:(im2 eCls ((cs.take i).map fuC++{c with body:=B}::cs.drop (i+1)))[i]? = some ((eCls {c with body:=B}).map .d):=by
    have:=J9o (e:=eCls) ((cs.take i).map fuC) {c with body:=B} (cs.drop (i+1))
    rwa [hli]at this
   cases more with
   |false=>
    have hB:B=fuseB c.body:=by rw[g5];exact k9 rfl
    subst hB
    repeat' first|refine Z1 ?_|refine Z2 ?_|refine Z5 ?_|refine Zf ?_|refine Zo ?_|refine J5 ?_|refine Jd ?_|refine Zq ?_|refine Jf ?_|refine J3 ?_|refine Jb ?_|refine Zv ?_|refine J6 ?_
    refine⟨i+1,⟨hlt,kn,k1,k2,?_⟩,by omega,Js ⟨.refl _,.refl _,.refl _,.refl _,.refl _,trivial⟩⟩
    rw[k3,J03 hx,List.map_append,List.append_assoc]
    rfl
   |true=>
    have ho:=J9X B k4 k6
    repeat' first|refine Z1 ?_|refine Z2 ?_|refine Z3 ?_|refine Z5 ?_|refine Ys k1 ?_|refine Yi1 (n:=(i:Int)) (hi:=cs.length) i k3 rfl hlt ?_|refine Yle k3 hget ?_|refine Zc (ho) ?_|refine Yse (m:=(eCls {c with body:=(onceS B).1}).map .d) k3 hget ?_|refine Zo ?_|refine J5 ?_|refine Jd ?_|refine Zp ?_|refine J4 ?_|refine J7 ?_|refine J3 ?_|refine J6 ?_
    have hset:(im2 eCls ((cs.take i).map fuC++{c with body:=B}::cs.drop (i+1))).set i ((eCls {c with body:=(onceS B).1}).map .d)=im2 eCls ((cs.take i).map fuC++{c with body:=(onceS B).1}::cs.drop (i+1)):=by
     have:=Jac (e:=eCls) ((cs.take i).map fuC) {c with body:=B} {c with body:=(onceS B).1} (cs.drop (i+1))
     rwa [hli]at this
    have fin:∀(b:Bool) (T2:List Br),(onceS B).2=b→Spell (onceS B).1 T2→(∀s∈(onceS B).1,cnS s)→(onceS B).1.length≤1048576→fuF (brsN T+1) T=fuF (brsN T+1) T2→brsN T2≤brsN T+1→(b=false→(onceS B).1=flL (fuF (brsN T+1) T))→SfI cs j v i c T (brsN T+1) ⟨b,(onceS B).1,T2⟩ (σ.set j (.row v 53 7 ((im2 eCls ((cs.take i).map fuC++{c with body:=B}::cs.drop (i+1))).set i ((eCls {c with body:=(onceS B).1}).map .d)))):=by
     intro b T2 _ f1 f2 f3 f4 f5 f6
     exact⟨kn,by rw[St.obj_set,if_neg (by omega)];exact k1,by rw[St.obj_set,if_neg (by omega)];exact k2,by rw[St.obj_set,if_pos rfl,hset],f1,f2,f3,f4,f5,f6⟩
    cases hb:(onceS B).2 with
    |true=>
     obtain⟨T2,t1,t2,t3,t4⟩:=J8s k4 hb
     have hn2:=t2.n
     exact⟨⟨true,(onceS B).1,T2⟩,fin true T2 hb t1 (fun s hs=>k5 s (t4 s hs)) (by omega) (k7.trans (Jbt _ _ _ k8 t2)) (by omega) (fun h=>by cases h),by simp only[if_true];omega,Js ⟨.refl _,.refl _,.refl _,.refl _,.refl _,.refl _,by rw[←hb];exact .refl _,trivial⟩⟩
    |false=>
     obtain⟨t1,t2⟩:=J46 k4 hb
     exact⟨⟨false,(onceS B).1,T'⟩,fin false T' hb (by rw[t1];exact k4) (by rw[t1];exact k5) (by rw[t1];exact k6) k7 k8 (fun _=>J8p k4 k5 hb k8 k7),by simp only[if_true];simp,Js ⟨.refl _,.refl _,.refl _,.refl _,.refl _,.refl _,by rw[←hb];exact .refl _,trivial⟩⟩
theorem J91 (cs:List Cls) (hw:wL wCls cs≤1048576) (hw2:wL wCls (fuseC cs)≤1048576):PFun X 17 [.agg [.d (.im (cs.map eCls))]] (.agg [.d (.im ((fuseC cs).map eCls))]):=by
 refine⟨rfl,rfl,(JaD cs hw hw2).fzr fun E σ1 h=>?_⟩
 rcases h with⟨rfl,e⟩|⟨j,v,rfl,hj⟩
 ·rw[e]
  exact⟨_,rfl,.agg rfl fun q h1 h2=>match q,h1,h2 with|0,_,_=>.data .nil⟩
 ·exact⟨_,rfl,.agg rfl fun q h1 h2=>match q,h1,h2 with|0,_,_=>.data (J2j hj rfl)⟩
end Go.Pm
/- Part of the proof: Fuw. -/
namespace Go.Pm
theorem J64 {α:Type} (w:α→Nat) (a b:List α):wL w (a++b)=wL w a+wL w b:=by simp only[wL,List.length_append,List.map_append,List.sum_append];omega
theorem J5T {α:Type} (w:α→Nat) (x:α) (b:List α):wL w (x::b)=1+w x+wL w b:=by simp only[wL,List.length_cons,List.map_cons,List.sum_cons];omega
theorem J4a (s:Sm) (y n:List Br) (h:s.kind=4):wL wSm (flB (.nd s y n))=3+wSm s+wSm elsM+wSm endM+wL wSm (flL y)+wL wSm (flL n):=by
 simp only[flB,h,if_true,J5T,J64]
 simp only[wL,List.length_nil,List.map_nil,List.sum_nil]
 omega
theorem JbC {a b:Br} (h:prB a b=true):wL wSm (flB (jnB a b))≤wL wSm (flB a)+wL wSm (flB b):=by
 obtain⟨h1,h2,_⟩:=J1A.1 h
 cases a with
 |nd s y n=>
  cases b with
  |nd t z m=>
   have h1:t.kind=4:=h1
   have h2:s.kind=4:=h2
   show wL wSm (flB (.nd s (y++z) (n++m)))≤_
   rw[J4a s _ _ h2,J4a s _ _ h2,J4a t _ _ h1,J2B,J2B,J64,J64]
   omega
theorem J0K (b:Br) (l:List Br):wL wSm (flL (b::l))=wL wSm (flB b)+wL wSm (flL l):=by simp only[flL,J64]
theorem wfm:∀l:List Br,wL wSm (flL (fm l))≤wL wSm (flL l)
 |[]=>Nat.le_refl _
 |b::l=>by
  have h:=wfm l
  rw[J0K]
  simp only[fm]
  generalize fm l=m at h
  cases m with
  |nil=>show wL wSm (flL [b])≤_;rw[J0K];omega
  |cons c m=>
   rw[J0K]at h
   cases q:prB b c with
   |true=>
    have:=JbC q
    rw[J2h q,J0K];omega
   |false=>rw[J3q q,J0K,J0K];omega
theorem wfuF:∀(k:Nat) (l:List Br),wL wSm (flL (fuF k l))≤wL wSm (flL l)
 |0,l=>by simp[fuF,flL,wL]
 |k+1,l=>by
  refine Nat.le_trans ?_ (wfm l)
  simp only[fuF]
  generalize fm l=m
  induction m with
  |nil=>exact Nat.le_refl _
  |cons b m ih=>
   rw[List.map_cons,J0K,J0K]
   refine Nat.add_le_add ?_ ih
   have h1:=wfuF k (bYs b)
   have h2:=wfuF k (bNs b)
   cases b with
   |nd s y n=>
    by_cases h:s.kind=4
    ·show wL wSm (flB (.nd s _ _))≤_
     rw[J4a _ _ _ h,J4a _ _ _ h]
     simp only[bYs,bNs]at h1 h2 ⊢
     omega
    ·simp only[flB,bSm,h,if_false];exact Nat.le_refl _
theorem wfuC {cs:List Cls} (h:mokS cs=true) {k:Nat} {c:Cls} (hx:cs[k]? = some c):wCls (fuC c)≤wCls c:=by
 obtain⟨⟨T,hT⟩,hcn,_⟩:=J6X h hx
 have e:=J6L (JL hT) hcn
 have h1:=wfuF (brsN T) T
 rw[←e]at h1
 have h2:wL wSm (fuC c).body≤wL wSm c.body:=by
  show wL wSm (fuseB c.body)≤_
  simp only[fuseB,hT];exact h1
 simp only[wCls]
 show c.name.size+wL wSlt c.ins+wL wSlt c.outs+wL wStr c.locs+wL wNum0 c.mems+wL wNum0 c.insts+wL wSm (fuC c).body≤_
 omega
theorem wfuse (cs:List Cls) (hw:wL wCls cs≤1048576):wL wCls (fuseC cs)≤1048576:=by
 unfold fuseC
 cases h:mokS cs with
 |false=>rw[if_neg (by simp)];simp[wL]
 |true=>
  rw[if_pos rfl]
  have key:∀c∈cs,wCls (fuC c)≤wCls c:=fun c hc=>by
   obtain⟨k,hk⟩:=List.getElem?_of_mem hc
   exact wfuC h hk
  refine Nat.le_trans ?_ hw
  clear h hw
  induction cs with
  |nil=>exact Nat.le_refl _
  |cons c cs ih=>
   rw[List.map_cons,J5T,J5T]
   have h1:=key c (by simp)
   have h2:=ih fun d hd=>key d (by simp[hd])
   omega
end Go.Pm
