/- The abstract machine, nineteenth text: the rules once more, with what is asked beside them found by itself: short names for long walks. -/
import Derived.Test.YtghgkmifoiokjaaDoorPm18
set_option linter.unusedVariables false
set_option linter.unusedSimpArgs false
namespace Go.Pm
attribute [local irreducible] AR Ok inBlock andThen endQ aoper
section
variable {X : Cfg} {nt : Nat} {ops : Array Oper} {rest : List Oper} {Q : Exit → Env → St → Prop} {K : AV → St → Prop} {env : Env} {σ σ' : St} {dst : Option Tmp} {op : Op} {ty : TypeId} {pos : String} {after : Array Edge} {j d : Nat} {b want : Bool} {r : AV}
theorem Z1 (h : AR X nt ops Q rest (put env dst r) σ') (hd : dst.all (· < nt) = true := by exact rfl) (hs : astep X env σ op = some (r, σ') := by exact rfl) : AR X nt ops Q (⟨dst, op, ty, pos, after, none⟩ :: rest) env σ := ar_none hd (op_step hs h)
theorem Z2 {K' : Env → St → Prop} (h : K' env σ) : AR X nt ops (andThen K' Q) [] env σ := ar_nil (x_normal_then h)
theorem Z3 (h : Q .normal env σ) : AR X nt ops Q [] env σ := ar_nil h
theorem Z4 {t len d : Nat} {ps : Array (Nat × Operand)} {ti te : TI} {e : Nat} {rows : List (List AV)} {drows : List (List D)} (h : AR X nt ops Q rest (put env (some d) (.d (.im drows))) σ.bump) (hd : Nat.blt d nt = true := by exact rfl) (ht : X.T t = some ti := by exact rfl) (hk : ti.kind = .slice e := by exact rfl) (hte : X.T e = some te := by exact rfl) (hp : Nat.blt 0 te.size = true := by exact rfl)
    (hb : Nat.ble (len * te.size) 16777216 = true := by exact rfl) (hr : fillRows te.size (List.replicate len (zrow te)) (ps.toList.map fun p => (p.1, aev X env p.2)) = some rows := by exact rfl) (hdr : rowsDF rows = some drows := by exact rfl) (hl : drows.length = len := by exact rfl)
    (hnew : σ.obj σ.next = none := by exact rfl) : AR X nt ops Q (⟨some d, .buildSlice t len ps, ty, pos, after, none⟩ :: rest) env σ := ar_bslice hd ht hk hte hp hb hr hdr hl hnew h
theorem Z5 (h : aoper X op env σ Q (fun v σ' => AR X nt ops Q rest (put env dst v) σ')) (hd : dst.all (· < nt) = true := by exact rfl) : AR X nt ops Q (⟨dst, op, ty, pos, after, none⟩ :: rest) env σ := ar_none hd h
theorem Z6 (h : AR X nt ops Q rest (put env dst (.d (.s undef))) σ) (hj : (ops[j]?).bind (·.dst) = some d := by exact rfl) (hn : Nat.blt d nt = true := by exact rfl) (hb : env d = .d (.s undef) := by exact rfl) (hd : dst.all (· < nt) = true := by exact rfl) :
    AR X nt ops Q (⟨dst, op, ty, pos, after, some (j, want)⟩ :: rest) env σ := ar_undef hj hn hb hd h
theorem Z7 (h : aoper X op env σ Q (fun v σ' => AR X nt ops Q rest (put env dst v) σ')) (hj : (ops[j]?).bind (·.dst) = some d := by exact rfl) (hn : Nat.blt d nt = true := by exact rfl) (hb : env d = .d (.s (.bool b)) := by exact rfl) (hd : dst.all (· < nt) = true := by exact rfl) (hw : b = want := by with_reducible first | exact rfl | assumption) :
    AR X nt ops Q (⟨dst, op, ty, pos, after, some (j, want)⟩ :: rest) env σ := ar_hold2 hj hn hb hd hw h
theorem Z8 (h : AR X nt ops Q rest (put env dst (.d (.s undef))) σ) (hj : (ops[j]?).bind (·.dst) = some d := by exact rfl) (hn : Nat.blt d nt = true := by exact rfl) (hb : env d = .d (.s (.bool b)) := by exact rfl) (hd : dst.all (· < nt) = true := by exact rfl) (hw : b = false := by with_reducible first | exact rfl | assumption) :
    AR X nt ops Q (⟨dst, op, ty, pos, after, some (j, true)⟩ :: rest) env σ := ar_skip_t hj hn hb hd hw h
theorem Z9 (h : AR X nt ops Q rest (put env dst (.d (.s undef))) σ) (hj : (ops[j]?).bind (·.dst) = some d := by exact rfl) (hn : Nat.blt d nt = true := by exact rfl) (hb : env d = .d (.s (.bool b)) := by exact rfl) (hd : dst.all (· < nt) = true := by exact rfl) (hw : b = true := by with_reducible first | exact rfl | assumption) :
    AR X nt ops Q (⟨dst, op, ty, pos, after, some (j, false)⟩ :: rest) env σ := ar_skip_f hj hn hb hd hw h
theorem Za (h1 : b = true → aoper X op env σ Q (fun v σ' => AR X nt ops Q rest (put env dst v) σ')) (h2 : b = false → AR X nt ops Q rest (put env dst (.d (.s undef))) σ) (hj : (ops[j]?).bind (·.dst) = some d := by exact rfl) (hn : Nat.blt d nt = true := by exact rfl) (hb : env d = .d (.s (.bool b)) := by exact rfl) (hd : dst.all (· < nt) = true := by exact rfl) :
    AR X nt ops Q (⟨dst, op, ty, pos, after, some (j, true)⟩ :: rest) env σ := ar_split_t hj hn hb hd h1 h2
theorem Zb (h1 : b = false → aoper X op env σ Q (fun v σ' => AR X nt ops Q rest (put env dst v) σ')) (h2 : b = true → AR X nt ops Q rest (put env dst (.d (.s undef))) σ) (hj : (ops[j]?).bind (·.dst) = some d := by exact rfl) (hn : Nat.blt d nt = true := by exact rfl) (hb : env d = .d (.s (.bool b)) := by exact rfl) (hd : dst.all (· < nt) = true := by exact rfl) :
    AR X nt ops Q (⟨dst, op, ty, pos, after, some (j, false)⟩ :: rest) env σ := ar_split_f hj hn hb hd h1 h2
theorem Zc {k : FuncId} {args : List AV} {c : Call} {f : Operand} (h : PFun X k args r) (hk : K r σ) (hc : c.callee = .value f := by exact rfl) (hf : aev X env f = .d (.s (.func (.func k) #[] #[])) := by exact rfl) (ha : c.args.toList.map (aev X env) = args := by exact rfl) : aoper X (.call c) env σ Q K := op_call h hc hf ha hk
theorem Zd {α : Type} {e : α → List D} {l : List α} {ti : TI} {el : TypeId} {as : Array Operand} {ts : Array TypeId} {x : Operand} {t : TypeId} (hk : K (vi l.length) σ) (h1 : as.toList = [x] := by exact rfl) (h2 : ts.toList = [t] := by exact rfl) (hx : aev X env x = .d (.im (l.map e)) := by exact rfl)
    (ht : X.T t = some ti := by exact rfl) (hk' : ti.kind = .slice el := by exact rfl) : aoper X (.call ⟨.builtin .len, as, ts⟩) env σ Q K := op_len hx h1 h2 ht hk' hk
theorem Ze {α : Type} {e : α → List D} {l : List α} {y : α} {k : Nat} {ti te : TI} {el : TypeId} {t : TypeId} {x i : Operand} (hk : K (.d (.ip (e y) 0)) σ) (hx : aev X env x = .d (.im (l.map e)) := by exact rfl) (hi : aev X env i = vi (k : Int) := by exact rfl) (hl : l[k]? = some y := by assumption)
    (ht : X.T t = some ti := by exact rfl) (hk' : ti.kind = .slice el := by exact rfl) (hte : X.T el = some te := by exact rfl) (hs : (e y).length = te.size := by exact rfl) : aoper X (.indexAddr t x i) env σ Q K := op_elem hx hi hl ht hk' hte hs hk
theorem Zf {t ty : TypeId} {x y : Operand} {m n : Int} (hk : K (vi (m + n)) σ) (hx : aev X env x = vi m := by exact rfl) (hy : aev X env y = vi n := by exact rfl) (h : -9223372036854775808 ≤ m + n ∧ m + n ≤ 9223372036854775807 := by omega) : aoper X (.binOp .add t x y ty) env σ Q K := op_add hx hy h hk
theorem Zg {t ty : TypeId} {x y : Operand} {m n : Int} (hk : K (vi (m - n)) σ) (hx : aev X env x = vi m := by exact rfl) (hy : aev X env y = vi n := by exact rfl) (h : -9223372036854775808 ≤ m - n ∧ m - n ≤ 9223372036854775807 := by omega) : aoper X (.binOp .sub t x y ty) env σ Q K := op_sub hx hy h hk
theorem Zh {t ty : TypeId} {x y : Operand} {o : BinOp} {u v r : Value} (hk : K (.d (.s r)) σ) (hx : aev X env x = .d (.s u) := by exact rfl) (hy : aev X env y = .d (.s v) := by exact rfl) (h : abin o u v = some r := by exact rfl) : aoper X (.binOp o t x y ty) env σ Q K := op_bin hx hy h hk
theorem Zi (hk : K r σ') (h : astep X env σ op = some (r, σ') := by exact rfl) : aoper X op env σ Q K := op_step h hk
theorem Zj {t ty : TypeId} {x y : Operand} {ti : TI} {a b : Bool} (h : K (vb (!(a == b))) σ) (hx : aev X env x = vb a := by exact rfl) (hy : aev X env y = vb b := by exact rfl) (ht : X.T t = some ti := by exact rfl) (hk : ti.kind = .bool := by exact rfl) : aoper X (.binOp .neq t x y ty) env σ Q K := op_neb hx hy ht hk h
theorem Zk {t ty : TypeId} {x y : Operand} {ti : TI} {a b : Bool} (h : K (vb (a == b)) σ) (hx : aev X env x = vb a := by exact rfl) (hy : aev X env y = vb b := by exact rfl) (ht : X.T t = some ti := by exact rfl) (hk : ti.kind = .bool := by exact rfl) : aoper X (.binOp .eql t x y ty) env σ Q K := op_eqb hx hy ht hk h
theorem Zl {c x y : Operand} {u : AV} (h1 : K u σ) (hc : aev X env c = .d (.s (.bool b)) := by exact rfl) (hb : b = true := by with_reducible first | exact rfl | assumption) (hx : (aev X env x).force = some u := by exact rfl) : aoper X (.pick c x y) env σ Q K := op_pick_t hc hb hx h1
theorem Zm {c x y : Operand} {u : AV} (h1 : K u σ) (hc : aev X env c = .d (.s (.bool b)) := by exact rfl) (hb : b = false := by with_reducible first | exact rfl | assumption) (hx : (aev X env y).force = some u := by exact rfl) : aoper X (.pick c x y) env σ Q K := op_pick_f hc hb hx h1
theorem Zn {c x y : Operand} {u v : AV} (h1 : b = true → K u σ) (h2 : b = false → K v σ) (hc : aev X env c = .d (.s (.bool b)) := by exact rfl) (hx : (aev X env x).force = some u := by exact rfl) (hy : (aev X env y).force = some v := by exact rfl) : aoper X (.pick c x y) env σ Q K := op_pick hc hx hy h1 h2
theorem Zo {y : Code} {id : Nat} (h : AR X nt ops (andThen (Ok X nt y Q) Q) ops.toList env σ) : Ok X nt (.seq (.region id ops false) y) Q env σ := ok_seq (ok_reg h)
theorem Zp {c : Operand} {x y : Code} (h : Ok X nt x Q env σ) (hb : aev X env c = .d (.s (.bool b)) := by exact rfl) (hw : b = true := by with_reducible first | exact rfl | assumption) : Ok X nt (.cond c x y) Q env σ := cond_t hb hw h
theorem Zq {c : Operand} {x y : Code} (h : Ok X nt y Q env σ) (hb : aev X env c = .d (.s (.bool b)) := by exact rfl) (hw : b = false := by with_reducible first | exact rfl | assumption) : Ok X nt (.cond c x y) Q env σ := cond_f hb hw h
theorem Zr {c : Operand} {x y : Code} (h1 : b = true → Ok X nt x Q env σ) (h2 : b = false → Ok X nt y Q env σ) (hb : aev X env c = .d (.s (.bool b)) := by exact rfl) : Ok X nt (.cond c x y) Q env σ := ok_cond' hb h1 h2
theorem Zs {id id' : Nat} (h : Q (.exit id') env σ) (hne : (id' == id) = false := by exact rfl) : inBlock id Q (.exit id') env σ := x_exit_block hne h
theorem Zt {t : Nat} {K : AEnd → St → Prop} {x : AV} (hx : K (.ret x) σ) (h : (env t).force = some x := by exact rfl) : endQ X #[.tmp t].toList K .ret env σ := ret1 h hx
theorem Zu {t ty : Nat} {ti : TI} {co : List AV × Nat} {K : AEnd → St → Prop} {x : AV} (hx : K (.ret x) σ) (ht : X.T ty = some ti := by exact rfl) (hb : behind σ (env t) = some co := by exact rfl) (h : pieceF (isAggK ti.kind) co.1 co.2 ti.size = some x := by exact rfl) : endQ X #[.cell t ty].toList K .ret env σ := retc ht hb h hx
theorem Zv {K : Env → St → Prop} {id : Nat} (h : Q (.exit id) env σ) : andThen K Q (.exit id) env σ := x_exit_then h
end
section
variable {X : Cfg} {nt : Nat} {ops : Array Oper} {rest : List Oper} {Q : Exit → Env → St → Prop} {env : Env} {σ : St} {dst : Option Tmp} {op : Op} {ty : TypeId} {pos : String} {after : Array Edge} {j d : Nat} {b want : Bool} {r : AV}
theorem Zw (k : AD X nt ops Q σ rest (put env dst r)) (hd : dst.all (· < nt) = true := by exact rfl) (h : astep X env σ op = some (r, σ) := by exact rfl) : AD X nt ops Q σ (⟨dst, op, ty, pos, after, none⟩ :: rest) env := ad_none hd (op_step h ⟨rfl, rfl⟩) k
theorem Zx {K' : Env → St → Prop} (h : K' env σ) : AD X nt ops (andThen K' Q) σ [] env := ad_nil (x_normal_then h)
theorem Zy (h : Q .normal env σ) : AD X nt ops Q σ [] env := ad_nil h
theorem Zz (h : aoper X op env σ (fun _ _ _ => False) fun v σ' => σ' = σ ∧ v = r) (k : AD X nt ops Q σ rest (put env dst r)) (hd : dst.all (· < nt) = true := by exact rfl) : AD X nt ops Q σ (⟨dst, op, ty, pos, after, none⟩ :: rest) env := ad_none hd h k
end
end Go.Pm
