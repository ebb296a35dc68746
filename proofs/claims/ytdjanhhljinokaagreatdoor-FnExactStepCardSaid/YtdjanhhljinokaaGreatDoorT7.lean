/- Part of the proof: Pm18. -/
import Derived.Test.YtdjanhhljinokaaGreatDoorT6
set_option linter.unusedVariables false
set_option linter.unusedSimpArgs false
namespace Go.Pm
attribute [local irreducible] AR Ok inBlock andThen endQ aoper
def trk {α:Type} (e:α→List D) (l:List α) (k:Nat) (z:List AV):List (List AV):=tRows e (l.take k) (l.length-k) z
theorem Jbc {α:Type} {e:α→List D} {l:List α} {k:Nat} {z:List AV} {y:α} (hx:l[k]? = some y):(trk e l k z).set k ((e y).map .d)=trk e l (k+1) z:=by
 have hlt:=(Ji hx).2
 have hy:=(List.getElem?_eq_some_iff.1 hx).2
 have h1:(l.take k).length=k:=by simp;omega
 have h2:l.length-k=(l.length-(k+1))+1:=by omega
 have h3:l.take (k+1)=l.take k++[y]:=by rw[List.take_add_one,hx];rfl
 unfold trk
 rw[h2,h3]
 have:=J90 e (l.take k) (l.length-(k+1)) z y
 rw[h1]at this
 exact this
theorem J0i {α:Type} {e:α→List D} {l:List α} {k:Nat} {z:List AV} (h:l.length≤k):trk e l k z=im2 e l:=by
 unfold trk
 rw[show l.length-k=0 by omega,J89,List.take_of_length_le h]
theorem Jbl {α:Type} {e:α→List D} {l:List α} {k:Nat} {z:List AV} {y:α} (hx:l[k]? = some y):(trk e l k z)[k]? = some z:=by
 have hlt:=(Ji hx).2
 unfold trk tRows
 have h1:(im2 e (l.take k)).length=k:=by rw[JK];simp;omega
 rw[List.getElem?_append_right (by omega),h1,Nat.sub_self,show l.length-k=(l.length-(k+1))+1 by omega]
 simp
theorem J5e (n:Nat):∀l:List D,lows n (l.map .d)=true
 |[]=>rfl
 |_::l=>by simp only[List.map_cons,lows,low,J5e n l,Bool.and_self]
theorem Jc {α:Type} (e:α→List D) (l:List α) (n:Nat):∀r∈im2 e l,lows n r=true:=by
 intro r hr
 simp only[im2,List.map_map,List.mem_map,Function.comp]at hr
 obtain⟨y,_,rfl⟩:=hr
 exact J5e n _
theorem J0f {α:Type} (e:α→List D) (l:List α) (k n:Nat) {z:List AV} (hz:lows n z=true):∀r∈trk e l k z,lows n r=true:=by
 intro r hr
 unfold trk tRows at hr
 rcases List.mem_append.1 hr with h|h
 ·exact Jc e _ n r h
 ·rw[(List.mem_replicate.1 h).2];exact hz
section rows
variable {X:Cfg} {nt:Nat} {Q:Exit→Env→St→Prop} {K:AV→St→Prop} {env:Env} {σ σ':St}
theorem J0g {α:Type} {e:α→List D} {l:List α} {k:Nat} {z:List AV} {y:α} {t i v el sz:Nat} {ti:TI} {p x:Operand} {cs:List AV} (hx:l[k]? = some y) (hp:aev X env p=.ep i v k 0) (ht:X.T t=some ti) (hxc:cellsF (aev X env x)=some cs) (hcs:cs=(e y).map .d)
  (hl:(e y).length=ti.size) (h1:((e y).map AV.d).all AV.one=true) (hz:z.length=ti.size) (ho:σ.obj i=some (.row v el sz (trk e l k z))) (h:K (.d (.s undef)) (σ.set i (.row v el sz (trk e l (k+1) z)))):aoper X (.store t p x) env σ Q K:=by
 subst hcs
 simp only[aoper,aop,astore]
 refine⟨ti,ht,_,J12 hxc,by simpa using hl,h1,?_⟩
 simp only[hp]
 refine⟨el,sz,_,ho,z,Jbl hx,by omega,?_⟩
 have e1:splice z 0 ((e y).map .d)=(e y).map .d:=by simp[splice,hz,hl]
 rw[e1,Jbc hx]
 exact h
theorem J0I {α:Type} {e:α→List D} {l:List α} {rows:List (List AV)} (hrows:rows=im2 e l) (t:Nat) {i v el sz n:Nat} (ht:env t=.sl i v 0 n) (ho:σ.obj i=some (.row v el sz rows)) (hn:n=l.length)
  (h:Ok X nt .ret Q (envL [(t,.d (.im (l.map e)))]) ⟨fun _=>none,σ.next⟩):Ok X nt .ret Q env σ:=by
 subst hrows
 exact Jc7 t ht ho hn h
theorem retc {t ty:Nat} {ti:TI} {co:List AV×Nat} {K:AEnd→St→Prop} {x:AV} (ht:X.T ty=some ti) (hb:behind σ (env t)=some co) (h:pieceF (isAggK ti.kind) co.1 co.2 ti.size=some x) (hx:K (.ret x) σ):endQ X #[.cell t ty].toList K .ret env σ:=by
 unfold endQ
 simp only[ares,aload]
 exact⟨ti,ht,co,hb,x,J0C h,hx⟩
theorem J8J {t ty:TypeId} {x y:Operand} {m n r:Int} (hx:aev X env x=vi m) (hy:aev X env y=vi n) (hr:m-n=r) (h:-9223372036854775808≤r∧r≤9223372036854775807) (hk:K (vi r) σ):aoper X (.binOp .sub t x y ty) env σ Q K:=by
 subst hr;exact Jal hx hy h hk
theorem Jcw {t ty:TypeId} {x y:Operand} {ti:TI} {a b:Bool} (hx:aev X env x=vb a) (hy:aev X env y=vb b) (ht:X.T t=some ti) (hk:ti.kind=.bool) (h:K (vb (!(a == b))) σ):aoper X (.binOp .neq t x y ty) env σ Q K:=by
 simp only[aoper,aop,abinop,hx,hy,abin]
 exact⟨ti,ht,a == b,by simp[aeq,hk],.inr ⟨trivial,h⟩⟩
end rows
end Go.Pm
/- Part of the proof: Pm19. -/
namespace Go.Pm
attribute [local irreducible] AR Ok inBlock andThen endQ aoper
section
variable {X:Cfg} {nt:Nat} {ops:Array Oper} {rest:List Oper} {Q:Exit→Env→St→Prop} {K:AV→St→Prop} {env:Env} {σ σ':St} {dst:Option Tmp} {op:Op} {ty:TypeId} {pos:String} {after:Array Edge} {j d:Nat} {b want:Bool} {r:AV}
theorem Z1 (h:AR X nt ops Q rest (put env dst r) σ') (hd:dst.all (·<nt)=true:=by exact rfl) (hs:astep X env σ op=some (r,σ'):=by exact rfl):AR X nt ops Q (⟨dst,op,ty,pos,after,none⟩::rest) env σ:=J6A hd (J2k hs h)
theorem Z2 {K':Env→St→Prop} (h:K' env σ):AR X nt ops (andThen K' Q) [] env σ:=Jau (J3 h)
theorem Z3 (h:Q .normal env σ):AR X nt ops Q [] env σ:=Jau h
theorem Z4 {t len d:Nat} {ps:Array (Nat×Operand)} {ti te:TI} {e:Nat} {rows:List (List AV)} {drows:List (List D)} (h:AR X nt ops Q rest (put env (some d) (.d (.im drows))) σ.bump) (hd:Nat.blt d nt=true:=by exact rfl) (ht:X.T t=some ti:=by exact rfl) (hk:ti.kind=.slice e:=by exact rfl) (hte:X.T e=some te:=by exact rfl) (hp:Nat.blt 0 te.size=true:=by exact rfl)
  (hb:Nat.ble (len*te.size) 16777216=true:=by exact rfl) (hr:fillRows te.size (List.replicate len (zrow te)) (ps.toList.map fun p=>(p.1,aev X env p.2))=some rows:=by exact rfl) (hdr:rowsDF rows=some drows:=by exact rfl) (hl:drows.length=len:=by exact rfl)
  (hnew:σ.obj σ.next=none:=by exact rfl):AR X nt ops Q (⟨some d,.buildSlice t len ps,ty,pos,after,none⟩::rest) env σ:=J9e hd ht hk hte hp hb hr hdr hl hnew h
theorem Z5 (h:aoper X op env σ Q (fun v σ'=>AR X nt ops Q rest (put env dst v) σ')) (hd:dst.all (·<nt)=true:=by exact rfl):AR X nt ops Q (⟨dst,op,ty,pos,after,none⟩::rest) env σ:=J6A hd h
theorem Z6 (h:AR X nt ops Q rest (put env dst (.d (.s undef))) σ) (hj:(ops[j]?).bind (·.dst)=some d:=by exact rfl) (hn:Nat.blt d nt=true:=by exact rfl) (hb:env d=.d (.s undef):=by exact rfl) (hd:dst.all (·<nt)=true:=by exact rfl):
  AR X nt ops Q (⟨dst,op,ty,pos,after,some (j,want)⟩::rest) env σ:=Jab hj hn hb hd h
theorem Z7 (h:aoper X op env σ Q (fun v σ'=>AR X nt ops Q rest (put env dst v) σ')) (hj:(ops[j]?).bind (·.dst)=some d:=by exact rfl) (hn:Nat.blt d nt=true:=by exact rfl) (hb:env d=.d (.s (.bool b)):=by exact rfl) (hd:dst.all (·<nt)=true:=by exact rfl) (hw:b=want:=by with_reducible first|exact rfl|assumption):
  AR X nt ops Q (⟨dst,op,ty,pos,after,some (j,want)⟩::rest) env σ:=J9F hj hn hb hd hw h
theorem Z8 (h:AR X nt ops Q rest (put env dst (.d (.s undef))) σ) (hj:(ops[j]?).bind (·.dst)=some d:=by exact rfl) (hn:Nat.blt d nt=true:=by exact rfl) (hb:env d=.d (.s (.bool b)):=by exact rfl) (hd:dst.all (·<nt)=true:=by exact rfl) (hw:b=false:=by with_reducible first|exact rfl|assumption):
  AR X nt ops Q (⟨dst,op,ty,pos,after,some (j,true)⟩::rest) env σ:=J9i hj hn hb hd hw h
theorem Z9 (h:AR X nt ops Q rest (put env dst (.d (.s undef))) σ) (hj:(ops[j]?).bind (·.dst)=some d:=by exact rfl) (hn:Nat.blt d nt=true:=by exact rfl) (hb:env d=.d (.s (.bool b)):=by exact rfl) (hd:dst.all (·<nt)=true:=by exact rfl) (hw:b=true:=by with_reducible first|exact rfl|assumption):
  AR X nt ops Q (⟨dst,op,ty,pos,after,some (j,false)⟩::rest) env σ:=J9o hj hn hb hd hw h
theorem Za (h1:b=true→aoper X op env σ Q (fun v σ'=>AR X nt ops Q rest (put env dst v) σ')) (h2:b=false→AR X nt ops Q rest (put env dst (.d (.s undef))) σ) (hj:(ops[j]?).bind (·.dst)=some d:=by exact rfl) (hn:Nat.blt d nt=true:=by exact rfl) (hb:env d=.d (.s (.bool b)):=by exact rfl) (hd:dst.all (·<nt)=true:=by exact rfl):
  AR X nt ops Q (⟨dst,op,ty,pos,after,some (j,true)⟩::rest) env σ:=J8j hj hn hb hd h1 h2
theorem Zb (h1:b=false→aoper X op env σ Q (fun v σ'=>AR X nt ops Q rest (put env dst v) σ')) (h2:b=true→AR X nt ops Q rest (put env dst (.d (.s undef))) σ) (hj:(ops[j]?).bind (·.dst)=some d:=by exact rfl) (hn:Nat.blt d nt=true:=by exact rfl) (hb:env d=.d (.s (.bool b)):=by exact rfl) (hd:dst.all (·<nt)=true:=by exact rfl):
  AR X nt ops Q (⟨dst,op,ty,pos,after,some (j,false)⟩::rest) env σ:=J83 hj hn hb hd h1 h2
theorem Zc {k:FuncId} {args:List AV} {c:Call} {f:Operand} (h:PFun X k args r) (hk:K r σ) (hc:c.callee=.value f:=by exact rfl) (hf:aev X env f=.d (.s (.func (.func k) #[] #[])):=by exact rfl) (ha:c.args.toList.map (aev X env)=args:=by exact rfl):aoper X (.call c) env σ Q K:=JbD h hc hf ha hk
theorem Zd {α:Type} {e:α→List D} {l:List α} {ti:TI} {el:TypeId} {as:Array Operand} {ts:Array TypeId} {x:Operand} {t:TypeId} (hk:K (vi l.length) σ) (h1:as.toList=[x]:=by exact rfl) (h2:ts.toList=[t]:=by exact rfl) (hx:aev X env x=.d (.im (l.map e)):=by exact rfl)
  (ht:X.T t=some ti:=by exact rfl) (hk':ti.kind=.slice el:=by exact rfl):aoper X (.call ⟨.builtin .len,as,ts⟩) env σ Q K:=Jc9 hx h1 h2 ht hk' hk
theorem Ze {α:Type} {e:α→List D} {l:List α} {y:α} {k:Nat} {ti te:TI} {el:TypeId} {t:TypeId} {x i:Operand} (hk:K (.d (.ip (e y) 0)) σ) (hx:aev X env x=.d (.im (l.map e)):=by exact rfl) (hi:aev X env i=vi (k:Int):=by exact rfl) (hl:l[k]? = some y:=by assumption)
  (ht:X.T t=some ti:=by exact rfl) (hk':ti.kind=.slice el:=by exact rfl) (hte:X.T el=some te:=by exact rfl) (hs:(e y).length=te.size:=by exact rfl):aoper X (.indexAddr t x i) env σ Q K:=J8o hx hi hl ht hk' hte hs hk
theorem Zf {t ty:TypeId} {x y:Operand} {m n:Int} (hk:K (vi (m+n)) σ) (hx:aev X env x=vi m:=by exact rfl) (hy:aev X env y=vi n:=by exact rfl) (h:-9223372036854775808≤m+n∧m+n≤9223372036854775807:=by omega):aoper X (.binOp .add t x y ty) env σ Q K:=Jcu hx hy h hk
theorem Zg {t ty:TypeId} {x y:Operand} {m n:Int} (hk:K (vi (m-n)) σ) (hx:aev X env x=vi m:=by exact rfl) (hy:aev X env y=vi n:=by exact rfl) (h:-9223372036854775808≤m-n∧m-n≤9223372036854775807:=by omega):aoper X (.binOp .sub t x y ty) env σ Q K:=Jal hx hy h hk
theorem Zh {t ty:TypeId} {x y:Operand} {o:BinOp} {u v r:Value} (hk:K (.d (.s r)) σ) (hx:aev X env x=.d (.s u):=by exact rfl) (hy:aev X env y=.d (.s v):=by exact rfl) (h:abin o u v=some r:=by exact rfl):aoper X (.binOp o t x y ty) env σ Q K:=J2x hx hy h hk
theorem Zi (hk:K r σ') (h:astep X env σ op=some (r,σ'):=by exact rfl):aoper X op env σ Q K:=J2k h hk
theorem Zj {t ty:TypeId} {x y:Operand} {ti:TI} {a b:Bool} (h:K (vb (!(a == b))) σ) (hx:aev X env x=vb a:=by exact rfl) (hy:aev X env y=vb b:=by exact rfl) (ht:X.T t=some ti:=by exact rfl) (hk:ti.kind=.bool:=by exact rfl):aoper X (.binOp .neq t x y ty) env σ Q K:=Jcw hx hy ht hk h
theorem Zl {c x y:Operand} {u:AV} (h1:K u σ) (hc:aev X env c=.d (.s (.bool b)):=by exact rfl) (hb:b=true:=by with_reducible first|exact rfl|assumption) (hx:(aev X env x).force=some u:=by exact rfl):aoper X (.pick c x y) env σ Q K:=J8O hc hb hx h1
theorem Zm {c x y:Operand} {u:AV} (h1:K u σ) (hc:aev X env c=.d (.s (.bool b)):=by exact rfl) (hb:b=false:=by with_reducible first|exact rfl|assumption) (hx:(aev X env y).force=some u:=by exact rfl):aoper X (.pick c x y) env σ Q K:=J9n hc hb hx h1
theorem Zo {y:Code} {id:Nat} (h:AR X nt ops (andThen (Ok X nt y Q) Q) ops.toList env σ):Ok X nt (.seq (.region id ops false) y) Q env σ:=J6 (Jf h)
theorem Zp {c:Operand} {x y:Code} (h:Ok X nt x Q env σ) (hb:aev X env c=.d (.s (.bool b)):=by exact rfl) (hw:b=true:=by with_reducible first|exact rfl|assumption):Ok X nt (.cond c x y) Q env σ:=Jcl hb hw h
theorem Zq {c:Operand} {x y:Code} (h:Ok X nt y Q env σ) (hb:aev X env c=.d (.s (.bool b)):=by exact rfl) (hw:b=false:=by with_reducible first|exact rfl|assumption):Ok X nt (.cond c x y) Q env σ:=Jco hb hw h
theorem Zr {c:Operand} {x y:Code} (h1:b=true→Ok X nt x Q env σ) (h2:b=false→Ok X nt y Q env σ) (hb:aev X env c=.d (.s (.bool b)):=by exact rfl):Ok X nt (.cond c x y) Q env σ:=J5d hb h1 h2
theorem Zt {t:Nat} {K:AEnd→St→Prop} {x:AV} (hx:K (.ret x) σ) (h:(env t).force=some x:=by exact rfl):endQ X #[.tmp t].toList K .ret env σ:=ret1 h hx
theorem Zu {t ty:Nat} {ti:TI} {co:List AV×Nat} {K:AEnd→St→Prop} {x:AV} (hx:K (.ret x) σ) (ht:X.T ty=some ti:=by exact rfl) (hb:behind σ (env t)=some co:=by exact rfl) (h:pieceF (isAggK ti.kind) co.1 co.2 ti.size=some x:=by exact rfl):endQ X #[.cell t ty].toList K .ret env σ:=retc ht hb h hx
theorem Zv {K:Env→St→Prop} {id:Nat} (h:Q (.exit id) env σ):andThen K Q (.exit id) env σ:=J7c h
end
section
variable {X:Cfg} {nt:Nat} {ops:Array Oper} {rest:List Oper} {Q:Exit→Env→St→Prop} {env:Env} {σ:St} {dst:Option Tmp} {op:Op} {ty:TypeId} {pos:String} {after:Array Edge} {j d:Nat} {b want:Bool} {r:AV}
theorem Zw (k:AD X nt ops Q σ rest (put env dst r)) (hd:dst.all (·<nt)=true:=by exact rfl) (h:astep X env σ op=some (r,σ):=by exact rfl):AD X nt ops Q σ (⟨dst,op,ty,pos,after,none⟩::rest) env:=J8q hd (J2k h ⟨rfl,rfl⟩) k
theorem Zx {K':Env→St→Prop} (h:K' env σ):AD X nt ops (andThen K' Q) σ [] env:=Jap (J3 h)
theorem Zy (h:Q .normal env σ):AD X nt ops Q σ [] env:=Jap h
theorem Zz (h:aoper X op env σ (fun _ _ _=>False) fun v σ'=>σ'=σ∧v=r) (k:AD X nt ops Q σ rest (put env dst r)) (hd:dst.all (·<nt)=true:=by exact rfl):AD X nt ops Q σ (⟨dst,op,ty,pos,after,none⟩::rest) env:=J8q hd h k
end
end Go.Pm
/- Part of the proof: Pm20. -/
namespace Go.Pm
attribute [local irreducible] AR Ok inBlock andThen endQ aoper
def sfind {β:Type}:List (ByteArray×β)→ByteArray→Option β
 |[],_=>none
 |(k,b)::F,s=>if s=k then some b else sfind F s
def sput {β:Type}:List (ByteArray×β)→ByteArray→β→List (ByteArray×β)
 |[],s,b=>[(s,b)]
 |(k,u)::F,s,b=>if s=k then(k,b)::F else(k,u)::sput F s b
theorem JB {β:Type} (s:ByteArray) (b:β) (t:ByteArray):∀F:List (ByteArray×β),sfind (sput F s b) t=if t=s then some b else sfind F t
 |[]=>by simp[sput,sfind]
 |(k,u)::F=>by
  have ih:=JB s b t F
  simp only[sput]
  by_cases h:s=k
  ·subst h;simp only[if_true,sfind];split<;>rfl
  ·simp only[h,if_false,sfind,ih]
   by_cases h2:t=k
   ·subst h2;simp[Ne.symm h]
   ·simp[h2]
def smap {β:Type} (e:β→AV) (F:List (ByteArray×β)):List (Value×AV):=F.map fun y=>(.string y.1,e y.2)
theorem J2w {β:Type} (e:β→AV) (s:ByteArray):∀F:List (ByteArray×β),afind (smap e F) (.string s)=(sfind F s).map e
 |[]=>rfl
 |(k,b)::F=>by
  have ih:=J2w e s F
  simp only[smap,List.map_cons,afind,keyEq,sfind]at ih ⊢
  by_cases h:s=k
  ·simp[h]
  ·simp[h,ih]
theorem J5D {β:Type} (e:β→AV) (s:ByteArray) (b:β):∀F:List (ByteArray×β),aput (smap e F) (.string s) (e b)=smap e (sput F s b)
 |[]=>rfl
 |(k,u)::F=>by
  have ih:=J5D e s b F
  simp only[smap,List.map_cons,aput,keyEq,sput]at ih ⊢
  by_cases h:s=k
  ·simp[h]
  ·simp[h,ih]
theorem Jk {β:Type} {e:β→AV} {n:Nat} (h:∀b,low n (e b)=true) (F:List (ByteArray×β)):∀y∈smap e F,low n y.2=true:=by
 intro y hy
 obtain⟨z,_,rfl⟩:=List.mem_map.1 hy
 exact h _
theorem J0b {α:Type} {e:α→List D} {l:List α} {k:Nat} {y:α} (h:l[k]? = some y):(im2 e l)[k]? = some ((e y).map .d):=by simp[im2,h]
def fil {α:Type} (e:α→List D) (l:List α) (m:Nat) (z:List AV):List (List AV):=tRows e l (m-l.length) z
def eInt (n:Int):List D:=[.s (.int .i64 n)]
def eBool (b:Bool):List D:=[.s (.bool b)]
def cInt (n:Int):List AV:=[vi n]
section
variable {X:Cfg} {nt:Nat} {ops:Array Oper} {rest:List Oper} {Q:Exit→Env→St→Prop} {K:AV→St→Prop} {env:Env} {σ σ':St} {r:AV}
theorem Ya {β:Type} {e:β→AV} {d0:β} {F:List (ByteArray×β)} {s:ByteArray} {i:Nat} {m k:Operand} {t kt et:TypeId} {ti tk te:TI} (hK:K (.tup [e ((sfind F s).getD d0),vb (sfind F s).isSome]) σ) (hm:aev X env m=.mp i:=by exact rfl) (hk:aev X env k=vs s:=by exact rfl)
  (ho:σ.obj i=some (.map .string (smap e F)):=by exact rfl) (h1:X.T t=some ti:=by exact rfl) (h2:ti.kind=.map kt et:=by exact rfl) (h3:X.T kt=some tk:=by exact rfl) (h4:X.T et=some te:=by exact rfl) (h5:tk.kind=.string:=by exact rfl) (h6:azero te=e d0:=by exact rfl):
  aoper X (.lookup t m k true) env σ Q K:=by
 simp only[aoper,aop,alookup]
 refine⟨ti,h1,kt,et,h2,tk,te,h3,h4,.string s,hk,by rw[h5];rfl,by simp only[hm,kindOfMap,ho,h5],smap e F,by simp only[hm,entriesOf,ho],?_⟩
 rw[J2w,h6]
 simp only[if_true]
 cases hq:sfind F s<;>rw[hq]at hK<;>exact hK
theorem Yb {β:Type} {e:β→AV} {d0:β} {F:List (ByteArray×β)} {s:ByteArray} {i:Nat} {m k:Operand} {t kt et:TypeId} {ti tk te:TI} (hK:K (e ((sfind F s).getD d0)) σ) (hm:aev X env m=.mp i:=by exact rfl) (hk:aev X env k=vs s:=by exact rfl)
  (ho:σ.obj i=some (.map .string (smap e F)):=by exact rfl) (h1:X.T t=some ti:=by exact rfl) (h2:ti.kind=.map kt et:=by exact rfl) (h3:X.T kt=some tk:=by exact rfl) (h4:X.T et=some te:=by exact rfl) (h5:tk.kind=.string:=by exact rfl) (h6:azero te=e d0:=by exact rfl):
  aoper X (.lookup t m k false) env σ Q K:=by
 simp only[aoper,aop,alookup]
 refine⟨ti,h1,kt,et,h2,tk,te,h3,h4,.string s,hk,by rw[h5];rfl,by simp only[hm,kindOfMap,ho,h5],smap e F,by simp only[hm,entriesOf,ho],?_⟩
 rw[J2w,h6]
 simp only[Bool.false_eq_true,if_false]
 cases hq:sfind F s<;>rw[hq]at hK<;>exact hK
theorem Yc {β:Type} {e:β→AV} {b:β} {F:List (ByteArray×β)} {s:ByteArray} {i:Nat} {m k x:Operand} {t kt et:TypeId} {ti tk:TI} (hK:K (.d (.s undef)) (σ.set i (.map .string (smap e (sput F s b))))) (hm:aev X env m=.mp i:=by exact rfl) (hk:aev X env k=vs s:=by exact rfl)
  (ho:σ.obj i=some (.map .string (smap e F)):=by exact rfl) (hx:aev X env x=e b:=by exact rfl) (h1:X.T t=some ti:=by exact rfl) (h2:ti.kind=.map kt et:=by exact rfl) (h3:X.T kt=some tk:=by exact rfl) (h5:tk.kind=.string:=by exact rfl):
  aoper X (.mapUpdate t m k x) env σ Q K:=by
 simp only[aoper,aop,amapUpdate]
 refine⟨ti,h1,kt,et,h2,tk,h3,.string s,hk,by rw[h5];rfl,i,hm,smap e F,by rw[h5];exact ho,?_⟩
 rw[hx,J5D,h5]
 exact hK
theorem Yd {t kt et n:Nat} {ti tk:TI} {kk:KD} (hK:K (.mp n) (σ.alloc (.map kk []))) (h1:X.T t=some ti:=by exact rfl) (h2:ti.kind=.map kt et:=by exact rfl) (h3:X.T kt=some tk:=by exact rfl) (h5:tk.kind=kk:=by exact rfl) (hn:natF σ.next=some n:=by exact rfl):aoper X (.makeMap t none) env σ Q K:=by
 have hn:=J0R hn
 subst hn
 subst h5
 exact(by simp only[aoper,aop,amakeMap];exact⟨ti,h1,kt,et,h2,tk,h3,hK⟩)
theorem Ye {cells:List AV} {rows:List (List AV)} {p:Operand} {i v k el sz t:Nat} {ti:TI} (hr:rows[k]? = some cells) (hK:K r σ) (hp:aev X env p=.ep i v k 0:=by exact rfl) (ho:σ.obj i=some (.row v el sz rows):=by exact rfl) (ht:X.T t=some ti:=by exact rfl)
  (hc:pieceF (isAggK ti.kind) cells 0 ti.size=some r:=by exact rfl):aoper X (.load t p) env σ Q K:=by
 simp only[aoper,aop,aload]
 exact⟨ti,ht,(cells,0),by simp only[hp,behind,ho,if_true,hr,Option.map_some],r,J0C hc,hK⟩
theorem Yf {t i v hi el:Nat} {n:Int} {ti te:TI} {rows:List (List AV)} {x y:Operand} (k:Nat) (hn:n=(k:Int)) (hlt:k<hi) (h:K (.ep i v k 0) σ) (hx:aev X env x=.sl i v 0 hi:=by exact rfl) (hy:aev X env y=vi n:=by exact rfl) (ht:X.T t=some ti:=by exact rfl) (hk:ti.kind=.slice el:=by exact rfl)
  (hte:X.T el=some te:=by exact rfl) (ho:σ.obj i=some (.row v el te.size rows):=by exact rfl):aoper X (.indexAddr t x y) env σ Q K:=by
 subst hn
 exact Jy hx hy hlt ht hk hte ho h
theorem Yg {t ty:TypeId} {x y:Operand} {m n:Int} (hk:K (vi (m*n)) σ) (hx:aev X env x=vi m:=by exact rfl) (hy:aev X env y=vi n:=by exact rfl) (h:-9223372036854775808≤m*n∧m*n≤9223372036854775807:=by omega):aoper X (.binOp .mul t x y ty) env σ Q K:=
 J2x hx hy (by simp only[abin,if_true,J1n h.1 h.2]) hk
theorem Yi {x y:Operand} {m n:Int} {as:Array Operand} {ts:Array TypeId} (hk:K (vi (max m n)) σ) (h1:as.toList=[x,y]:=by exact rfl) (hx:aev X env x=vi m:=by exact rfl) (hy:aev X env y=vi n:=by exact rfl):aoper X (.call ⟨.builtin .max,as,ts⟩) env σ Q K:=by
 simp only[aoper,h1,abuiltin,aminmax,hx,hy]
 have:max m n=(if n > m then n else m):=by omega
 rw[this]at hk
 exact hk
theorem Yl {α:Type} {e:α→List D} {l:List α} (m:List α) {xrows:List (List D)} {as:Array Operand} {ts:Array TypeId} {s x:Operand} {t tx el i v n hi bb:Nat} {ti te tix:TI} (h:K (.sl i n 0 (l++m).length) (bumpSet σ i (.row n el te.size (im2 e (l++m)))))
  (h1:as.toList=[s,x]:=by exact rfl) (h2:ts.toList=[t,tx]:=by exact rfl) (hs:aev X env s=.sl i v 0 hi:=by exact rfl) (ht:X.T t=some ti:=by exact rfl) (hk:ti.kind=.slice el:=by exact rfl) (hte:X.T el=some te:=by exact rfl) (hp:Nat.blt 0 te.size=true:=by exact rfl) (hpb:Nat.blt 0 te.bytes=true:=by exact rfl)
  (htx:X.T tx=some tix:=by exact rfl) (hkx:tix.kind=.slice el:=by exact rfl) (ho:σ.obj i=some (.row v el te.size (im2 e l)):=by exact rfl) (hhi:hi=l.length:=by exact rfl) (hx:aev X env x=.d (.im xrows):=by exact rfl) (hxr:xrows=m.map e:=by exact rfl) (hsz:∀y:α,(e y).length=te.size:=by exact fun _=>rfl) (hn:natF σ.next=some n:=by exact rfl)
  (hbb:te.bytes=bb:=by exact rfl) (hb:(l.length+m.length)*bb≤140737488355328:=by first|omega|(simp only[List.length_cons,List.length_nil,List.length_append];omega)):
  aoper X (.call ⟨.builtin .append,as,ts⟩) env σ Q K:=by subst hhi;subst hbb;exact J9b hs h1 h2 ht hk hte hp hpb htx hkx ho hx hxr hsz hb hn h
end
end Go.Pm
/- Part of the proof: Pm21. -/
namespace Go.Pm
mutual
def ren (π:Nat→Nat):AV→AV
 |.d x=>.d x
 |.agg cs=>.agg (rens π cs)
 |.tup cs=>.tup (rens π cs)
 |.ref i off=>.ref (π i) off
 |.sl i v lo hi=>.sl (π i) (π v) lo hi
 |.ep i v k off=>.ep (π i) (π v) k off
 |.mp i=>.mp (π i)
 |.it i=>.it (π i)
 |.fn f caps=>.fn f (rens π caps)
 |.ifc t x=>.ifc t (ren π x)
 |.any=>.any
def rens (π:Nat→Nat):List AV→List AV
 |[]=>[]
 |c::cs=>ren π c::rens π cs
end
theorem JF (π:Nat→Nat):∀cs:List AV,rens π cs=cs.map (ren π)
 |[]=>rfl
 |c::cs=>by simp[rens,JF π cs]
def renO (π:Nat→Nat):AO→AO
 |.var cells=>.var (rens π cells)
 |.row v E sz rows=>.row (π v) E sz (rows.map (rens π))
 |.map k es=>.map k (es.map fun e=>(e.1,ren π e.2))
 |.iter o=>.iter o
 |.box o=>.box o
def Et.ren (η:Et) (π:Nat→Nat):Et:=⟨fun j=>η.blk (π j),fun j=>η.hdr (π j)⟩
mutual
theorem J2M {F:FH} {η:Et} {m n:Nat} {π:Nat→Nat}:∀(x:AV) (u:Value),low n x=true→VRel F η m (ren π x) u→VRel F (η.ren π) n x u
 |.d x,u,_,h=>by cases h with|d h=>exact .d h
 |.agg cs,u,hl,h=>by
  simp only[low]at hl
  simp only[ren]at h
  cases h with
  |agg h1 h2=>exact .agg (by simpa[JF]using h1) fun j hj=>J1h cs hl _ (fun j hj'=>h2 j hj') j hj
 |.tup cs,u,hl,h=>by
  simp only[low]at hl
  simp only[ren]at h
  cases h with
  |tup h1 h2=>exact .tup (by simpa[JF]using h1) fun j hj=>J1h cs hl _ (fun j hj'=>h2 j hj') j hj
 |.ref i off,u,hl,h=>by
  simp only[low,decide_eq_true_eq]at hl
  cases h with
  |ref hi=>exact @VRel.ref F (η.ren π) n i off hl
 |.sl i v lo hi,u,hl,h=>by
  simp only[low,Bool.and_eq_true,decide_eq_true_eq]at hl
  simp only[ren]at h
  cases h with
  |sl h1 h2 hh hle hc hoff=>exact .sl hl.1 hl.2 hh hle hc hoff
  |sl0 h1 h2 hh=>exact .sl0 hl.1 hl.2 hh
 |.ep i v k off,u,hl,h=>by
  simp only[low,Bool.and_eq_true,decide_eq_true_eq]at hl
  simp only[ren]at h
  cases h with
  |ep h1 h2 hh=>exact .ep hl.1 hl.2 hh
 |.mp i,u,hl,h=>by
  simp only[low,decide_eq_true_eq]at hl
  cases h with
  |mp hi=>exact @VRel.mp F (η.ren π) n i hl
 |.it i,u,hl,h=>by
  simp only[low,decide_eq_true_eq]at hl
  cases h with
  |it hi=>exact @VRel.it F (η.ren π) n i hl
 |.fn f caps,u,hl,h=>by
  simp only[low]at hl
  simp only[ren]at h
  cases h with
  |fn h1 h2=>exact .fn (by simpa[JF]using h1) fun j hj=>J1h caps hl _ (fun j hj'=>h2 j hj') j hj
 |.ifc t x,u,hl,h=>by
  simp only[low]at hl
  simp only[ren]at h
  cases h with
  |ifc h1=>exact .ifc (J2M x _ hl h1)
 |.any,u,_,_=>.any u
theorem J1h {F:FH} {η:Et} {m n:Nat} {π:Nat→Nat}:∀(cs:List AV),lows n cs=true→∀(g:Nat→Value),(∀j (hj:j<(rens π cs).length),VRel F η m (rens π cs)[j] (g j))→∀j (hj:j<cs.length),VRel F (η.ren π) n cs[j] (g j)
 |[],_,g,h,j,hj=>by simp at hj
 |c::cs,hl,g,h,0,hj=>by
  simp only[lows,Bool.and_eq_true]at hl
  exact J2M c _ hl.1 (h 0 (by simp[rens]))
 |c::cs,hl,g,h,j+1,hj=>by
  simp only[lows,Bool.and_eq_true]at hl
  exact J1h cs hl.2 (fun j=>g (j+1)) (fun j hj=>h (j+1) (by simpa[rens]using hj)) j (by simpa using hj)
end
theorem J4M {F:FH} {η:Et} {m n:Nat} {w:World} {π:Nat→Nat} {j:Nat} {o:AO} (hv:o.low n) (h:ORel F η m w (π j) (renO π o)):ORel F (η.ren π) n w j o:=by
 cases o with
 |var cells=>
  simp only[renO]at h
  cases h with
  |var c E b1 b2 b3 b4=>
   have hl:(rens π cells).length=cells.length:=by simp[JF]
   exact .var c E b1 (by rw[b2,hl]) (fun j hj=>b3 j (by rw[hl];exact hj)) (J1h cells hv _ b4)
 |row v E sz rows=>
  simp only[renO]at h
  cases h with
  |row xs b1 b2 b3 b4 b5 b6 b7=>
   refine .row xs hv.1 b2 b3 (by simpa[Et.ren]using b4) (fun r hr=>?_) b6 fun k hk j hj=>?_
   ·have:=b5 (rens π r) (List.mem_map.2 ⟨r,hr,rfl⟩)
    simpa[JF]using this
   ·refine J1h (m:=m) rows[k] (hv.2 _ (List.getElem_mem hk)) (fun j=>xs.getD (k*sz+j) undef) (fun j hj'=>?_) j hj
    have:=b7 k (by simpa using hk) j (by simpa using hj')
    simpa using this
 |map kk es=>
  simp only[renO]at h
  cases h with
  |map e c b1 b2 b3 b4 b4' b5 b6 b7=>
   refine .map e c b1 (by simpa using b2) (fun y hy=>b3 (y.1,ren π y.2) (List.mem_map.2 ⟨y,hy,rfl⟩)) (fun k hk=>?_) (fun k k' hk hk'=>?_) b5 b6 fun k hk=>?_
   ·have:=b4 k (by simpa using hk);simpa using this
   ·have:=b4' k k' (by simpa using hk) (by simpa using hk');simpa using this
   ·have:=b7 k (by simpa using hk)
    simp only[List.getElem_map]at this
    exact J2M _ _ (hv _ (List.getElem_mem hk)) this
 |iter o=>
  simp only[renO]at h
  cases h with
  |iter hb=>exact .iter hb
 |box o=>
  simp only[renO]at h
  cases h with
  |box hb=>exact .box hb
theorem J0k (η:Et) (π:Nat→Nat) (j:Nat) (o:AO):Owns (η.ren π) j o=Owns η (π j) (renO π o):=by cases o<;>rfl
structure LowR (b:Nat) (π:Nat→Nat) (env:Env) (σ:St) (env':Env) (σ':St):Prop where
 fix:∀j,j<b→π j=j
 le:b≤σ'.next
 ob:∀j o,σ'.obj j=some o→j<σ'.next∧σ.obj (π j)=some (renO π o)∧o.low σ'.next
 inj:∀j k o o',σ'.obj j=some o→σ'.obj k=some o'→π j=π k→j=k
 en:∀t,env' t=.any∨(env t=ren π (env' t)∧low σ'.next (env' t)=true)
theorem LowR.rel {F:FH} {η:Et} {nt b:Nat} {π:Nat→Nat} {env env':Env} {σ σ':St} {a:Act} {w:World} (h:LowR b π env σ env' σ') (hr:Rel F η nt env σ a w):Rel F (η.ren π) nt env' σ' a w:=by
 refine⟨hr.fr,⟨fun i o ho=>(h.ob i o ho).1,fun i o ho=>J4M (h.ob i o ho).2.2 (hr.st.ob _ _ (h.ob i o ho).2.1),?_,fun i o b ho hb=>hr.st.fr (π i) _ b (h.ob i o ho).2.1 (by rw[←J0k];exact hb)⟩,fun t=>?_,hr.sz,hr.df⟩
 ·intro i j oi oj b hi hj hbi hbj
  rw[J0k]at hbi hbj
  exact h.inj i j oi oj hi hj (hr.st.ap _ _ _ _ b (h.ob i oi hi).2.1 (h.ob j oj hj).2.1 hbi hbj)
 ·rcases h.en t with h1|⟨h1,h2⟩
  ·rw[h1];exact .any _
  ·have:=hr.en t
   rw[h1]at this
   exact J2M _ _ h2 this
theorem LowR.step {F F':FH} {η η':Et} {π:Nat→Nat} {σ0 σ σ':St} {env env':Env} {w0 w:World} (h:LowR σ0.next π env σ env' σ') (hs:Step F η σ0 w0 F' η' σ w):Step F η σ0 w0 F' (η'.ren π) σ' w:=by
 refine⟨hs.fh,fun i hi=>?_,h.le,hs.gr,hs.fm,fun i o b ho hb hlt=>?_,hs.nf⟩
 ·have:=hs.et i hi
  simp only[Et.ren,h.fix i hi]
  exact this
 ·rw[J0k]at hb
  exact hs.nw (π i) _ b (h.ob i o ho).2.1 hb hlt
theorem JX {X:Cfg} {nt:Nat} {Q:Exit→Env→St→Prop} {env env1:Env} {σ σ1:St} {c:Code} {ι:Type} (E:ι→Env) (S:ι→St) (inv:ι→Prop) (μ:ι→Nat) (x0:ι) (hi:inv x0)
  (h0:Turn X nt env σ env1 σ1) (h1:∃π,LowR σ1.next π env1 σ1 (E x0) (S x0))
  (round:∀x,inv x→Ok X nt c (andThen (fun env σ=>∃y,inv y∧μ y<μ x∧∃π,LowR σ1.next π env σ (E y) (S y)) Q) (E x) (S x)):Ok X nt (.loop c) Q env σ:=by
 refine JC h0 ?_
 intro F0 η0 a0 w0 hg0 hr0
 let J:Act→World→Nat→Prop:=fun a w n=>∃F η x,inv x∧μ x=n∧Step F0 η0 σ1 w0 F η (S x) w∧GRel X F∧Rel F η nt (E x) (S x) a w
 intro b k cs
 have key:∀n a w,J a w n→∃e a' w',Post X nt F0 η0 σ1 w0 Q e a' w'∧Arrives X.P (lone (b.at a (.code c::.inLoop c::k)) cs w) b k cs e a' w':=by
  intro n
  induction n using Nat.strongRecOn with
  |_ n ih=>
   intro a w hJ
   obtain⟨F,η,x,hx,hμ,hs,hg,hr⟩:=hJ
   obtain⟨e,a₁,w₁,hq,harr⟩:=round x hx F η a w hg hr b (.inLoop c::k) cs
   cases e with
   |normal=>
    obtain⟨F1,η1,env1,σ1',s1,g1,r1,y,hy,hlt,π,hlow⟩:=hq
    obtain⟨e₂,a₂,w₂,hq₂,harr₂⟩:=ih (μ y) (by omega) a₁ w₁ ⟨F1,_,y,hy,rfl,hlow.step (hs.trans s1),g1,hlow.rel r1⟩
    exact⟨e₂,a₂,w₂,hq₂,.of_steps (Steps.trans harr (.one step_inLoop)) harr₂⟩
   |exit id=>exact⟨_,a₁,w₁,hq.trans hs (fun _ _ h=>h),.pass (x:=.inLoop c) rfl (fun _ _=>.inl (by simp)) harr⟩
   |goto l=>exact⟨_,a₁,w₁,hq.trans hs (fun _ _ h=>h),.pass (x:=.inLoop c) rfl (fun _ _=>.inl (by simp)) harr⟩
   |ret=>exact⟨_,a₁,w₁,hq.trans hs (fun _ _ h=>h),.pass (x:=.inLoop c) rfl (fun _ _=>.inl (by simp)) harr⟩
   |panic ch=>exact⟨_,a₁,w₁,hq.trans hs (fun _ _ h=>h),.pass (x:=.inLoop c) rfl (fun _ _=>.inl (by simp)) harr⟩
   |outgrown=>exact⟨_,a₁,w₁,hq.trans hs (fun _ _ h=>h),.pass (x:=.inLoop c) rfl (fun _ _=>.inl (by simp)) harr⟩
 obtain⟨π,hlow⟩:=h1
 obtain⟨e,a',w',hq,harr⟩:=key (μ x0) a0 w0 ⟨F0,_,x0,hi,rfl,hlow.step (.refl _ _ _ _),hg0,hlow.rel hr0⟩
 exact⟨e,a',w',hq,.of_steps (.one step_loop) harr⟩
def rn:List (Nat×Nat)→Nat→Nat
 |[],j=>j
 |(a,b)::l,j=>if j=a then b else rn l j
theorem J8c {b:Nat}:∀{l:List (Nat×Nat)},(l.all fun y=>Nat.ble b y.1)=true→∀j,j<b→rn l j=j
 |[],_,j,_=>rfl
 |(a,c)::l,h,j,hj=>by
  simp only[List.all_cons,Bool.and_eq_true]at h
  have h1:b≤a:=Nat.le_of_ble_eq_true h.1
  simp only[rn]
  rw[if_neg (by omega)]
  exact J8c h.2 j hj
def LowEnvR (π:Nat→Nat) (env:Env) (n:Nat):List (Nat×AV)→Prop
 |[]=>True
 |(k,v)::l=>(env k=ren π v∧low n v=true)∧LowEnvR π env n l
def LowStR (π:Nat→Nat) (σ:St) (n:Nat):Nat→List (Option AO)→Prop
 |_,[]=>True
 |i,none::l=>LowStR π σ n (i+1) l
 |i,some o::l=>(σ.obj (π i)=some (renO π o)∧o.low n)∧LowStR π σ n (i+1) l
def live:Nat→List (Option AO)→List Nat
 |_,[]=>[]
 |i,none::l=>live (i+1) l
 |i,some _::l=>i::live (i+1) l
def distN:List Nat→Bool
 |[]=>true
 |x::l=>l.all (fun y=>!(x == y))&&distN l
theorem J4D {π:Nat→Nat} {env:Env} {n:Nat}:∀{L:List (Nat×AV)},LowEnvR π env n L→∀t,envL L t=.any∨(env t=ren π (envL L t)∧low n (envL L t)=true)
 |[],_,t=>.inl rfl
 |(k,v)::l,h,t=>by
  simp only[envL]
  by_cases ht:t=k
  ·subst ht;rw[if_pos rfl];exact .inr h.1
  ·rw[if_neg ht];exact J4D h.2 t
theorem J27 {π:Nat→Nat} {σ:St} {n:Nat}:∀{L:List (Option AO)} {i:Nat},LowStR π σ n i L→∀j o,(L[j]?).join=some o→(σ.obj (π (i+j))=some (renO π o)∧o.low n)∧i+j∈live i L
 |[],_,_,j,o,h=>by simp at h
 |none::l,i,hs,j,o,h=>by
  cases j with
  |zero=>simp at h
  |succ j=>
   have:=J27 (L:=l) (i:=i+1) hs j o (by simpa using h)
   rwa [show i+1+j=i+(j+1) by omega]at this
 |some x::l,i,hs,j,o,h=>by
  cases j with
  |zero=>simp at h;subst h;exact⟨hs.1,by simp[live]⟩
  |succ j=>
   have:=J27 (L:=l) (i:=i+1) hs.2 j o (by simpa using h)
   rw[show i+1+j=i+(j+1) by omega]at this
   exact⟨this.1,by simp[live,this.2]⟩
theorem J3n {π:Nat→Nat}:∀{l:List Nat},distN (l.map π)=true→∀i j,i∈l→j∈l→π i=π j→i=j
 |[],_,i,j,hi,_,_=>by simp at hi
 |x::l,h,i,j,hi,hj,he=>by
  simp only[List.map_cons,distN,Bool.and_eq_true,List.all_eq_true,Bool.not_eq_true',beq_eq_false_iff_ne,List.mem_map,ne_eq,forall_exists_index,and_imp]at h
  rcases List.mem_cons.1 hi with rfl|hi'<;>rcases List.mem_cons.1 hj with rfl|hj'
  ·rfl
  ·exact absurd he (h.1 _ j hj' rfl)
  ·exact absurd he.symm (h.1 _ i hi' rfl)
  ·exact J3n h.2 i j hi' hj' he
theorem Js {b:Nat} {env:Env} {σ:St} {L:List (Nat×AV)} {O:List (Option AO)} (R:List (Nat×Nat)) (hb:Nat.ble b O.length=true) (hf:(R.all fun y=>Nat.ble b y.1)=true) (hd:distN ((live 0 O).map (rn R))=true) (he:LowEnvR (rn R) env O.length L) (ho:LowStR (rn R) σ O.length 0 O):
  ∃π,LowR b π env σ (envL L) (stL O):=by
 have hat:∀i o,(O[i]?).join=some o→(σ.obj (rn R i)=some (renO (rn R) o)∧o.low O.length)∧i∈live 0 O:=fun i o h=>by
  have:=J27 ho i o h
  rwa [Nat.zero_add]at this
 refine⟨rn R,J8c hf,Nat.le_of_ble_eq_true hb,fun i o h=>⟨?_,(hat i o h).1⟩,fun i j o o' h h' he'=>J3n hd i j (hat i o h).2 (hat j o' h').2 he',J4D he⟩
 have h1:(O[i]?).join=some o:=h
 rcases Nat.lt_or_ge i O.length with hlt|hge
 ·exact hlt
 ·rw[List.getElem?_eq_none hge]at h1;cases h1
theorem Jd {π:Nat→Nat} {v v' E sz:Nat} {rows:List (List AV)} (hv:v=π v') (hr:rows.map (rens π)=rows):some (AO.row v E sz rows)=some (renO π (.row v' E sz rows)):=by simp only[renO,hr,←hv]
theorem Jat (π:Nat→Nat):∀l:List D,rens π (l.map .d)=l.map .d
 |[]=>rfl
 |x::l=>by simp[rens,ren,Jat π l]
theorem Jg {α:Type} (π:Nat→Nat) (e:α→List D) (l:List α):(im2 e l).map (rens π)=im2 e l:=by
 simp only[im2,List.map_map]
 refine List.map_congr_left fun y _=>?_
 exact Jat π (e y)
theorem Jt {β:Type} {π:Nat→Nat} {e:β→AV} {k:KD} (F:List (ByteArray×β)) (h:∀b,ren π (e b)=e b):some (AO.map k (smap e F))=some (renO π (.map k (smap e F))):=by
 simp[renO,smap,h]
end Go.Pm
/- Part of the proof: Pm22. -/
namespace Go.Pm
inductive Fz (σ:St):AV→D→Prop
 |d (x:D):Fz σ (.d x) x
 |nil:Fz σ (.d (.s (.slice none 0 0))) (.im [])
 |ref {i off:Nat} {cells:List AV} {ds:List D} (h:σ.obj i=some (.var cells)) (hl:ds.length=cells.length) (hc:∀j (h1:j<cells.length) (h2:j<ds.length),Fz σ cells[j] ds[j]):Fz σ (.ref i off) (.ip ds off)
 |sl {i v E sz lo hi:Nat} {rows:List (List AV)} {drows rs:List (List D)} (h:σ.obj i=some (.row v E sz rows)) (hl:drows.length=rows.length) (hr:∀k (h1:k<rows.length) (h2:k<drows.length),drows[k].length=rows[k].length)
   (hc:∀k (h1:k<rows.length) (h2:k<drows.length) j (h3:j<rows[k].length) (h4:j<drows[k].length),Fz σ (rows[k])[j] (drows[k])[j]) (hle:hi≤rows.length) (e:rs=(drows.drop lo).take (hi-lo)):Fz σ (.sl i v lo hi) (.im rs)
inductive AFz (σ:St):AV→AV→Prop
 |any (x:AV):AFz σ x .any
 |data {x:AV} {d:D} (h:Fz σ x d):AFz σ x (.d d)
 |agg {cs cs':List AV} (hl:cs'.length=cs.length) (h:∀j (h1:j<cs.length) (h2:j<cs'.length),AFz σ cs[j] cs'[j]):AFz σ (.agg cs) (.agg cs')
 |tup {cs cs':List AV} (hl:cs'.length=cs.length) (h:∀j (h1:j<cs.length) (h2:j<cs'.length),AFz σ cs[j] cs'[j]):AFz σ (.tup cs) (.tup cs')
open Classical in
noncomputable def FH.all (F:FH) (η:Et) (σ:St) (w:World):FH:=fun b=>if ∃i o,σ.obj i=some o∧Owns η i o b then w.heap[b]? else F b
theorem FH.all_own {F:FH} {η:Et} {σ:St} {w:World} {i b:Nat} {o:AO} (h:σ.obj i=some o) (hb:Owns η i o b):F.all η σ w b=w.heap[b]?:=by
 unfold FH.all
 rw[if_pos ⟨i,o,h,hb⟩]
theorem FH.le_all {F:FH} {η:Et} {σ:St} {w:World} (hs:SRel F η σ w):F.le (F.all η σ w):=by
 intro b o hb
 unfold FH.all
 by_cases h:∃i o,σ.obj i=some o∧Owns η i o b
 ·obtain⟨i,o',h1,h2⟩:=h
  have:=hs.fr i o' b h1 h2
  rw[this]at hb;cases hb
 ·rw[if_neg h];exact hb
theorem Jci {F:FH} {η:Et} {σ:St} {w:World} (hs:SRel F η σ w) {x:AV} {d:D} (h:Fz σ x d):∀{u:Value},VRel F η σ.next x u→DRel (F.all η σ w) d u:=by
 induction h with
 |d x=>intro u hu;cases hu with|d h=>exact h.mono (FH.le_all hs)
 |nil=>intro u hu;have:=hu.s_inv;subst this;exact .im0 none 0
 |@ref i off cells ds h hl hc ih=>
  intro u hu
  cases hu with
  |ref hi=>
   have ho:=hs.ob i _ h
   cases ho with
   |var c E b1 b2 b3 b4=>
    have key:DRel (F.all η σ w) (.ip ds off) (.pointer (some ⟨η.blk i,0+off,none⟩)):=by
     refine .ip ds off (η.blk i) 0 c E (0,0) (fun j=>c.getD j undef) (by rw[FH.all_own h rfl];exact b1) ?_ ?_ ?_
     ·intro j hj
      rw[Nat.zero_add]
      have:j<c.size:=by omega
      simp[Array.getD,this]
     ·intro j hj;exact b3 j (by omega)
     ·intro j hj;exact ih j (by omega) hj (b4 j (by omega))
    rwa [Nat.zero_add]at key
 |@sl i v E sz lo top rows drows rs h hl hr hc hle e ih=>
  intro u hu
  subst e
  have hrow:=hs.ob i _ h
  cases hrow with
  |row xs b1 b2 b3 b4 b5 b6 b7=>
   cases hblk:(η.hdr v).blk with
   |none=>
    have hl0:=J1i b4 hblk
    have:drows=[]:=List.eq_nil_of_length_eq_zero (by omega)
    subst this
    simp only[List.drop_nil,List.take_nil]
    cases hu with
    |sl h1 h2 hh hle2 hc hoff=>rw[hh]at hblk;cases hblk
    |sl0=>exact .im0 none 0
   |some b=>
    obtain⟨cur,hg1,hn1,hcap1,hsz1,htk⟩:=J05 b4 hblk
    have hFb:F.all η σ w b=some (.cells cur E (0,0)):=by rw[FH.all_own h (by simp only[Owns,own];exact hblk)];exact hg1
    have hxl:xs.length=rows.length*sz:=by
     have h1:rows.length*sz≤cur.size:=by rw[hsz1];exact Nat.mul_le_mul_right _ hn1
     rw[←htk,List.length_take,Array.length_toList]
     exact Nat.min_eq_left h1
    have hxc:∀m,m<rows.length*sz→cur[m]? = some (xs.getD m undef):=by
     intro m hm
     have h1:xs[m]? = cur[m]?:=by rw[←htk,List.getElem?_take,if_pos hm,Array.getElem?_toList]
     rw[←h1,List.getElem?_eq_getElem (by omega)]
     simp[List.getD,List.getElem?_eq_getElem (show m<xs.length by omega)]
    cases hu with
    |@sl _ _ _ _ b' cap' sz' off h1 h2 hh hle2 hc' hoff=>
     rw[hh]at hblk
     simp only[Option.some.injEq]at hblk
     subst hblk
     have hsz':sz'=sz:=by rw[hh]at b2;exact b2
     subst hsz'
     have hcap:(η.hdr v).cap=cap':=by rw[hh]
     rcases Nat.lt_or_ge lo top with hlt|hge
     ·have hoff':=hoff (by omega)
      subst hoff'
      have hlen:((drows.drop lo).take (top-lo)).length=top-lo:=by simp only[List.length_take,List.length_drop];omega
      have key:DRel (F.all η σ w) (.im ((drows.drop lo).take (top-lo))) (.slice (some ⟨b',lo*sz',none⟩) ((drows.drop lo).take (top-lo)).length (cap'-lo)):=by
       refine .im _ b' (lo*sz') (cap'-lo) sz' cur E (0,0) (fun k j=>xs.getD ((lo+k)*sz'+j) undef) hFb (by omega) ?_ ?_ ?_ ?_
       ·intro r hrm
        obtain⟨k,hk,rfl⟩:=List.getElem_of_mem (List.mem_of_mem_drop (List.mem_of_mem_take hrm))
        rw[hr k (by omega) hk]
        exact b5 _ (List.getElem_mem _)
       ·intro k hk j hj
        have:lo*sz'+k*sz'+j=(lo+k)*sz'+j:=by rw[Nat.add_mul]
        rw[this]
        exact hxc _ (J0A (by omega) hj)
       ·intro k hk j hj
        refine b6 _ ?_
        have hm:(lo+k)*sz'+j<xs.length:=by rw[hxl];exact J0A (by omega) hj
        simp only[List.getD,List.getElem?_eq_getElem hm,Option.getD_some]
        exact List.getElem_mem hm
       ·intro k hk j hj
        obtain⟨hk2,e2⟩:=J8u hk
        have hkr:lo+k<rows.length:=by omega
        have hj2:j<(drows[lo+k]).length:=by rw[←e2];exact hj
        have hj3:j<(rows[lo+k]).length:=by rw[←hr (lo+k) hkr hk2];exact hj2
        have:=ih (lo+k) hkr hk2 j hj3 hj2 (b7 (lo+k) hkr j hj3)
        have e3:((drows.drop lo).take (top-lo))[k][j]=drows[lo+k][j]:=by simp only[e2]
        rw[e3]
        exact this
      rw[hlen]at key
      exact key
     ·have:(drows.drop lo).take (top-lo)=[]:=by rw[show top-lo=0 by omega];simp
      rw[this,show top-lo=0 by omega]
      exact .im0 _ _
    |sl0 h1 h2 hh=>rw[hh]at hblk;cases hblk
theorem J49 {F:FH} {η:Et} {σ:St} {w:World} {n:Nat} (hs:SRel F η σ w) {x y:AV} (h:AFz σ x y):∀{u:Value},VRel F η σ.next x u→VRel (F.all η σ w) η n y u:=by
 induction h with
 |any x=>intro u _;exact .any u
 |data h=>intro u hu;exact .d (Jci hs h hu)
 |agg hl _ ih=>
  intro u hu
  cases hu with
  |agg h1 h2=>exact .agg (by rw[h1,hl]) fun j hj=>ih j (by omega) hj (h2 j (by omega))
 |tup hl _ ih=>
  intro u hu
  cases hu with
  |tup h1 h2=>exact .tup (by rw[h1,hl]) fun j hj=>ih j (by omega) hj (h2 j (by omega))
theorem J6l {X:Cfg} {nt:Nat} {env env':Env} {σ:St} (he:∀t,AFz σ (env t) (env' t)):Turn X nt env σ env' ⟨fun _=>none,σ.next⟩:=by
 intro F η a w hg hr
 have hle:=FH.le_all hr.st
 refine⟨F.all η σ w,η,⟨hle,Et.agree_refl _ _,Nat.le_refl _,.refl _,fun _ _ _=>rfl,?_,?_⟩,hg.mono hle,⟨?_,⟨?_,?_,?_,?_⟩,fun t=>J49 hr.st (he t) (hr.en t),hr.sz,hr.df⟩⟩
 ·intro i o b h;cases h
 ·intro b o hb hlt
  unfold FH.all at hb
  split at hb
  ·rename_i h;exact .inr h
  ·exact .inl hb
 ·intro b o hb
  unfold FH.all at hb
  split at hb
  ·exact hb
  ·exact hr.fr b o hb
 ·intro i o h;cases h
 ·intro i o h;cases h
 ·intro i j oi oj b h;cases h
 ·intro i o b h;cases h
theorem J0j {α:Type} {σ:St} {e:α→List D} {l:List α} {i v E sz n:Nat} (h:σ.obj i=some (.row v E sz (im2 e l))) (hn:n=l.length):Fz σ (.sl i v 0 n) (.im (l.map e)):=by
 refine .sl (drows:=l.map e) h (by simp[im2]) (fun k h1 h2=>by simp[im2]) (fun k h1 h2 j h3 h4=>?_) (by simp[im2,hn]) (by rw[hn,Nat.sub_zero,List.drop_zero,List.take_of_length_le (by simp)])
 simp only[im2,List.getElem_map]
 exact .d _
end Go.Pm
/- Part of the proof: Pm23. -/
namespace Go.Pm
def ext (n0 n:Nat) (π:Nat→Nat) (j:Nat):Nat:=if j<n0 then π j else n+(j-n0)
def mrg (σ0 σ:St) (π:Nat→Nat) (κ:Nat→Option Nat) (σ1:St):St:=
 ⟨fun i=>if i<σ.next then(match κ i with|some j=>(σ1.obj j).map (renO (ext σ0.next σ.next π))|none=>σ.obj i)else(σ1.obj (i-σ.next+σ0.next)).map (renO (ext σ0.next σ.next π)),σ.next+(σ1.next-σ0.next)⟩
def renE (ρ:Nat→Nat):AEnd→AEnd
 |.ret r=>.ret (ren ρ r)
 |.pan c=>.pan c
def Fwd (η' η2:Et) (n0 n2:Nat) (ρ:Nat→Nat):Prop:=∀j,j<n0→ρ j<n2∧η2.blk (ρ j)=η'.blk j∧η2.hdr (ρ j)=η'.hdr j
theorem J47 {F:FH} {η' η2:Et} {n0 n2:Nat} {ρ:Nat→Nat} (hf:Fwd η' η2 n0 n2 ρ) {x:AV} {u:Value} (h:VRel F η' n0 x u):VRel F η2 n2 (ren ρ x) u:=by
 induction h with
 |d h=>exact .d h
 |@agg cs vs h1 _ ih=>exact .agg (by simpa[JF]using h1) fun j hj=>by simpa[JF]using ih j (by simpa[JF]using hj)
 |@tup cs vs h1 _ ih=>exact .tup (by simpa[JF]using h1) fun j hj=>by simpa[JF]using ih j (by simpa[JF]using hj)
 |@ref i off hi=>
  have:=@VRel.ref F η2 n2 (ρ i) off (hf i hi).1
  rwa [(hf i hi).2.1]at this
 |sl h1 h2 hh hle hc hoff=>exact .sl (hf _ h1).1 (hf _ h2).1 ((hf _ h2).2.2.trans hh) hle hc hoff
 |sl0 h1 h2 hh=>exact .sl0 (hf _ h1).1 (hf _ h2).1 ((hf _ h2).2.2.trans hh)
 |ep h1 h2 hh=>exact .ep (hf _ h1).1 (hf _ h2).1 ((hf _ h2).2.2.trans hh)
 |@mp i hi=>
  have:=@VRel.mp F η2 n2 (ρ i) (hf i hi).1
  rwa [(hf i hi).2.1]at this
 |@it i hi=>
  have:=@VRel.it F η2 n2 (ρ i) (hf i hi).1
  rwa [(hf i hi).2.1]at this
 |@fn f caps vs h1 _ ih=>exact .fn (by simpa[JF]using h1) fun j hj=>by simpa[JF]using ih j (by simpa[JF]using hj)
 |ifc _ ih=>exact .ifc ih
 |any v=>exact .any v
theorem JbR {η' η2:Et} {n0 n2:Nat} {ρ:Nat→Nat} (hf:Fwd η' η2 n0 n2 ρ) {F:FH} {w:World} {j:Nat} {o:AO} (hj:j<n0) (h:ORel F η' n0 w j o):Owns η2 (ρ j) (renO ρ o)=Owns η' j o:=by
 cases h with
 |var=>funext b;simp only[renO,Owns,own,(hf j hj).2.1]
 |row xs hv=>funext b;simp only[renO,Owns,own,(hf _ hv).2.2]
 |map=>funext b;simp only[renO,Owns,own,(hf j hj).2.1]
 |iter=>funext b;simp only[renO,Owns,own,(hf j hj).2.1]
 |box=>rfl
theorem Jbh {η' η2:Et} {n0 n2:Nat} {ρ:Nat→Nat} (hf:Fwd η' η2 n0 n2 ρ) {F:FH} {w:World} {j:Nat} {o:AO} (hj:j<n0) (h:ORel F η' n0 w j o):ORel F η2 n2 w (ρ j) (renO ρ o):=by
 cases h with
 |@var cells c E b1 b2 b3 b4=>
  have hl:(rens ρ cells).length=cells.length:=by simp[JF]
  refine .var c E (by rw[(hf j hj).2.1];exact b1) (by rw[b2,hl]) (fun k hk=>b3 k (by omega)) fun k hk=>?_
  have:=J47 hf (b4 k (by omega))
  simpa[JF]using this
 |@row v E sz rows xs hv b2 b3 b4 b5 b6 b7=>
  refine .row xs (hf v hv).1 (by rw[(hf v hv).2.2];exact b2) b3 (by rw[(hf v hv).2.2];simpa using b4) (fun r hr=>?_) b6 fun k hk m hm=>?_
  ·obtain⟨r',hr',rfl⟩:=List.mem_map.1 hr
   simpa[JF]using b5 r' hr'
  ·have:=J47 hf (b7 k (by simpa using hk) m (by simpa[JF]using hm))
   simpa[JF]using this
 |@map kk es e c b1 b2 b3 b4 b4' b5 b6 b7=>
  refine .map e c (by rw[(hf j hj).2.1];exact b1) (by simpa using b2) (fun y hy=>?_) (fun k hk=>by simpa using b4 k (by simpa using hk)) (fun k k' hk hk' h=>b4' k k' (by simpa using hk) (by simpa using hk') (by simpa using h)) b5 b6 fun k hk=>?_
  ·obtain⟨z,hz,rfl⟩:=List.mem_map.1 hy
   exact b3 z hz
  ·have:=J47 hf (b7 k (by simpa using hk))
   simpa using this
 |iter hb=>exact .iter (by rw[(hf j hj).2.1];exact hb)
 |box hb=>exact .box hb
theorem AFun.frame {X:Cfg} {f:FuncId} {args:List AV} {σ0 σ:St} {K:AEnd→St→Prop} (h:AFun X f args σ0 K) (π:Nat→Nat) (κ:Nat→Option Nat) (hlt:∀j,j<σ0.next→π j<σ.next)
  (hl0:∀j o,σ0.obj j=some o→j<σ0.next) (hob:∀j o,σ0.obj j=some o→σ.obj (π j)=some (renO π o)∧o.low σ0.next) (hk1:∀j o,σ0.obj j=some o→κ (π j)=some j) (hk2:∀i j,κ i=some j→π j=i∧j<σ0.next)
  (hargs:lows σ0.next args=true):
  AFun X f (rens π args) σ (fun E σ'=>∃E0 σ1,K E0 σ1∧E=renE (ext σ0.next σ.next π) E0∧σ'=mrg σ0 σ π κ σ1):=by
 refine⟨h.1,fun F η w vals hg hf hs hn hv=>?_⟩
 have hrl:(rens π args).length=args.length:=by simp[JF]
 have hs0:SRel F (η.ren π) σ0 w:=by
  refine⟨hl0,fun j o hj=>J4M (hob j o hj).2 (hs.ob _ _ (hob j o hj).1),?_,?_⟩
  ·intro i j oi oj b hi hj hbi hbj
   rw[J0k]at hbi hbj
   have:=hs.ap _ _ _ _ b (hob i oi hi).1 (hob j oj hj).1 hbi hbj
   have h1:=hk1 i oi hi
   rw[this,hk1 j oj hj]at h1
   exact(Option.some.inj h1).symm
  ·intro i o b hi hb
   rw[J0k]at hb
   exact hs.fr _ _ b (hob i o hi).1 hb
 refine(h.2 F (η.ren π) w vals hg hf hs0 (by rw[hn,hrl]) fun j hj=>J1h args hargs _ (fun j hj'=>hv j hj') j hj).mono ?_
 rintro e w' ⟨F',η',σ1,E0,st,hf',hs1,he,hK⟩
 let ρ:=ext σ0.next σ.next π
 let η2:Et:=⟨fun i=>if i<σ.next then η.blk i else η'.blk (i-σ.next+σ0.next),fun i=>if i<σ.next then η.hdr i else η'.hdr (i-σ.next+σ0.next)⟩
 have hρ1:∀j,j<σ0.next→ρ j=π j:=fun j hj=>if_pos hj
 have hρ2:∀j,¬j<σ0.next→ρ j=σ.next+(j-σ0.next):=fun j hj=>if_neg hj
 have hnx:=st.nx
 have hfw:Fwd η' η2 σ1.next (mrg σ0 σ π κ σ1).next ρ:=by
  intro j hj
  show ρ j<σ.next+(σ1.next-σ0.next)∧_
  by_cases h0:j<σ0.next
  ·have h1:=hlt j h0
   have h2:=st.et j h0
   rw[hρ1 j h0]
   refine⟨by omega,?_,?_⟩
   ·show(if π j<σ.next then η.blk (π j)else _)=_
    rw[if_pos h1];exact h2.1.symm
   ·show(if π j<σ.next then η.hdr (π j)else _)=_
    rw[if_pos h1];exact h2.2.symm
  ·rw[hρ2 j h0]
   have e1:¬(σ.next+(j-σ0.next)<σ.next):=by omega
   have e2:σ.next+(j-σ0.next)-σ.next+σ0.next=j:=by omega
   refine⟨by omega,?_,?_⟩
   ·show(if σ.next+(j-σ0.next)<σ.next then _ else η'.blk (σ.next+(j-σ0.next)-σ.next+σ0.next))=_
    rw[if_neg e1,e2]
   ·show(if σ.next+(j-σ0.next)<σ.next then _ else η'.hdr (σ.next+(j-σ0.next)-σ.next+σ0.next))=_
    rw[if_neg e1,e2]
 have hag:η.agree σ.next η2:=fun i hi=>⟨if_pos hi,if_pos hi⟩
 -- an object of the merged state is one of the call's or another one
 have hcl:∀i o,(mrg σ0 σ π κ σ1).obj i=some o→(∃j o',σ1.obj j=some o'∧i=ρ j∧o=renO ρ o'∧j<σ1.next)∨(σ.obj i=some o∧κ i=none∧i<σ.next):=by
  intro i o hi
  simp only[mrg]at hi
  split at hi
  ·rename_i hlt'
   split at hi
   ·rename_i j hj
    obtain⟨o',ho',rfl⟩:=Option.map_eq_some_iff.1 hi
    obtain⟨h1,h2⟩:=hk2 i j hj
    exact .inl ⟨j,o',ho',by rw[hρ1 j h2,h1],rfl,hs1.lt j o' ho'⟩
   ·rename_i hj
    exact .inr ⟨hi,hj,hlt'⟩
  ·rename_i hge
   obtain⟨o',ho',rfl⟩:=Option.map_eq_some_iff.1 hi
   refine .inl ⟨_,o',ho',?_,rfl,hs1.lt _ o' ho'⟩
   rw[hρ2 _ (by omega)];omega
 have hown1:∀j o',σ1.obj j=some o'→Owns η2 (ρ j) (renO ρ o')=Owns η' j o':=fun j o' hj=>JbR hfw (hs1.lt j o' hj) (hs1.ob j o' hj)
 have hown2:∀i o,σ.obj i=some o→Owns η2 i o=Owns η i o:=fun i o hi=>(hs.ob i o hi).own_agree (hs.lt i o hi) hag
 -- an old block of a call's object was one of a given object
 have hold:∀j o' b,σ1.obj j=some o'→Owns η' j o' b→b<w.heap.size→∃j0 o0,σ0.obj j0=some o0∧Owns η (π j0) (renO π o0) b:=by
  intro j o' b hj hb hlt'
  obtain⟨j0,o0,h1,h2⟩:=st.nw j o' b hj hb hlt'
  rw[J0k]at h2
  exact⟨j0,o0,h1,h2⟩
 have hother:∀i o b j0 o0,σ.obj i=some o→κ i=none→Owns η i o b→σ0.obj j0=some o0→Owns η (π j0) (renO π o0) b→False:=by
  intro i o b j0 o0 hi hk hb h0 hb0
  have:=hs.ap i (π j0) o _ b hi (hob j0 o0 h0).1 hb hb0
  rw[this,hk1 j0 o0 h0]at hk
  cases hk
 refine⟨F',η2,mrg σ0 σ π κ σ1,renE ρ E0,⟨st.fh,hag,Nat.le_add_right _ _,st.gr,?_,?_,?_⟩,hf',⟨?_,?_,?_,?_⟩,?_,⟨E0,σ1,hK,rfl,rfl⟩⟩
 ·intro b hb hno
  refine st.fm b hb fun j o hj hbj=>?_
  rw[J0k]at hbj
  exact hno _ _ (hob j o hj).1 hbj
 ·intro i o b hi hb hlt'
  rcases hcl i o hi with⟨j,o',h1,rfl,rfl,_⟩|⟨h1,_,_⟩
  ·rw[hown1 j o' h1]at hb
   obtain⟨j0,o0,h2,h3⟩:=hold j o' b h1 hb hlt'
   exact⟨_,_,(hob j0 o0 h2).1,h3⟩
  ·exact⟨i,o,h1,by rw[←hown2 i o h1];exact hb⟩
 ·intro b o hb hlt'
  rcases st.nf b o hb hlt' with h1|⟨j,oj,h1,h2⟩
  ·exact .inl h1
  ·rw[J0k]at h2
   exact .inr ⟨_,_,(hob j oj h1).1,h2⟩
 ·intro i o hi
  rcases hcl i o hi with⟨j,o',h1,rfl,rfl,hj⟩|⟨h1,_,h2⟩
  ·exact(hfw j hj).1
  ·exact Nat.lt_of_lt_of_le h2 (Nat.le_add_right _ _)
 ·intro i o hi
  rcases hcl i o hi with⟨j,o',h1,rfl,rfl,hj⟩|⟨h1,hk,_⟩
  ·exact Jbh hfw hj (hs1.ob j o' h1)
  ·refine(hs.ob i o h1).mono (hs.lt i o h1) st.fh hag (Nat.le_add_right _ _) fun b hb=>?_
   refine st.fm b ((hs.ob i o h1).own_lt hb) fun j oj hj hbj=>?_
   rw[J0k]at hbj
   exact hother i o b j oj h1 hk hb hj hbj
 ·intro i k oi ok b hi hk hbi hbk
  rcases hcl i oi hi with⟨j,o',h1,rfl,rfl,hj⟩|⟨h1,hki,_⟩<;>rcases hcl k ok hk with⟨j',o'',h1',rfl,rfl,hj'⟩|⟨h1',hkk,_⟩
  ·rw[hown1 j o' h1]at hbi
   rw[hown1 j' o'' h1']at hbk
   rw[hs1.ap j j' o' o'' b h1 h1' hbi hbk]
  ·rw[hown1 j o' h1]at hbi
   rw[hown2 k ok h1']at hbk
   obtain⟨j0,o0,h2,h3⟩:=hold j o' b h1 hbi ((hs.ob k ok h1').own_lt hbk)
   exact(hother k ok b j0 o0 h1' hkk hbk h2 h3).elim
  ·rw[hown1 j' o'' h1']at hbk
   rw[hown2 i oi h1]at hbi
   obtain⟨j0,o0,h2,h3⟩:=hold j' o'' b h1' hbk ((hs.ob i oi h1).own_lt hbi)
   exact(hother i oi b j0 o0 h1 hki hbi h2 h3).elim
  ·rw[hown2 i oi h1]at hbi
   rw[hown2 k ok h1']at hbk
   exact hs.ap i k oi ok b h1 h1' hbi hbk
 ·intro i o b hi hb
  rcases hcl i o hi with⟨j,o',h1,rfl,rfl,hj⟩|⟨h1,hk,_⟩
  ·rw[hown1 j o' h1]at hb
   exact hs1.fr j o' b h1 hb
  ·rw[hown2 i o h1]at hb
   have h0:=hs.fr i o b h1 hb
   cases hFb:F' b with
   |none=>rfl
   |some o2=>
    rcases st.nf b o2 hFb ((hs.ob i o h1).own_lt hb)with h2|⟨j,oj,h2,h3⟩
    ·rw[h0]at h2;cases h2
    ·rw[J0k]at h3
     exact(hother i o b j oj h1 hk hb h2 h3).elim
 ·cases E0 with
  |ret r=>
   cases e with
   |returned v=>exact J47 hfw he
   |panicked c=>exact he.elim
   |outgrown=>exact he.elim
  |pan c=>
   cases e with
   |returned v=>exact he.elim
   |panicked c'=>exact he
   |outgrown=>exact he.elim
end Go.Pm
/- Part of the proof: Pm24. -/
namespace Go.Pm
def inlE (K:AV→St→Prop) (Q:Exit→Env→St→Prop) (env:Env):AEnd→St→Prop:=fun E σ'=>match E with|.ret r=>K r σ'|.pan ch=>Q (.panic ch) env σ'
section
variable {X:Cfg} {nt:Nat} {Q:Exit→Env→St→Prop} {K:AV→St→Prop} {env:Env} {σ σ':St} {r:AV}
theorem Ym {k:FuncId} {args:List AV} {as:Array Operand} {ts:Array TypeId} {f:Operand} (h:AFun X k args σ fun E σ2=>E=.ret r∧σ2=σ') (hk:K r σ') (hf:aev X env f=.d (.s (.func (.func k) #[] #[])):=by exact rfl) (ha:as.toList.map (aev X env)=args:=by exact rfl):aoper X (.call ⟨.value f,as,ts⟩) env σ Q K:=by
 subst ha
 simp only[aoper,hf,acallee,acall]
 refine⟨trivial,trivial,h.mono ?_⟩
 rintro E σ2 ⟨rfl,rfl⟩
 exact hk
theorem Yp {k:FuncId} {args caps:List AV} {as:Array Operand} {ts:Array TypeId} {f:Operand} (h:AFun X k args σ fun E σ2=>E=.ret r∧σ2=σ') (hk:K r σ') (hf:aev X env f=.fn k caps:=by exact rfl) (ha:as.toList.map (aev X env)++caps=args:=by exact rfl):aoper X (.call ⟨.value f,as,ts⟩) env σ Q K:=by
 subst ha
 simp only[aoper,hf,acallee,acall]
 refine h.mono ?_
 rintro E σ2 ⟨rfl,rfl⟩
 exact hk
theorem Yq {k:FuncId} {caps:Array Operand} {c:AV} {cs:List AV} (h:K (.fn k (c::cs)) σ) (ha:caps.toList.map (aev X env)=c::cs:=by exact rfl):aoper X (.makeFunc (.func k) #[] caps) env σ Q K:=by
 simp only[aoper,aop,ha,amakeFunc,List.map_nil]
 exact h
end
attribute [local irreducible] inlE
end Go.Pm
