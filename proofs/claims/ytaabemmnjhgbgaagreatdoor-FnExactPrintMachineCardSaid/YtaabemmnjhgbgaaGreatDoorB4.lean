/- grow. -/
import Derived.Test.YtaabemmnjhgbgaaGreatDoorB3
set_option linter.unusedVariables false
set_option linter.unusedSimpArgs false
namespace Go.Pm
attribute [local irreducible] AR Ok inBlock andThen endQ aoper
set_option maxHeartbeats 1000000
open Go.Proofs
def FzL (σ : St) : List AV → List D → Prop
  | [], [] => True
  | x :: xs, d :: ds => Fz σ x d ∧ FzL σ xs ds
  | _, _ => False
theorem FzL.get {σ : St} : ∀ {cs : List AV} {ds : List D}, FzL σ cs ds → ds.length = cs.length ∧ ∀ j (h1 : j < cs.length) (h2 : j < ds.length), Fz σ cs[j] ds[j]
  | [], [], _ => ⟨rfl, fun j h => by simp at h⟩
  | x :: xs, d :: ds, h => by
    obtain ⟨h1, h2⟩ := FzL.get h.2
    refine ⟨by simp [h1], fun j a b => ?_⟩
    cases j with
    | zero => exact h.1
    | succ j => exact h2 j (by simpa using a) (by simpa using b)
  | [], _ :: _, h => h.elim
  | _ :: _, [], h => h.elim
theorem FzL_d {σ : St} : ∀ (ds : List D) {cs : List AV} {es : List D}, FzL σ cs es → FzL σ (ds.map .d ++ cs) (ds ++ es)
  | [], _, _, h => h
  | d :: ds, _, _, h => ⟨.d _, FzL_d ds h⟩
theorem fz_rowl {σ : St} {i hN E : Nat} {l : List Nat} {ts : List Br} (hl : ts.length = l.length) (ho : l ≠ [] → σ.obj i = some (.row hN E 1 (l.map prf))) (h : ∀ k (h1 : k < l.length) (h2 : k < ts.length), Fz σ (.ref l[k] 0) (.ip (eBr ts[k]) 0)) : Fz σ (slcN i hN l.length) (.im (ts.map eBrP)) := by
  by_cases hn : l = []
  · subst hn
    have : ts = [] := List.eq_nil_of_length_eq_zero hl
    subst this
    exact .nil
  · rw [slcN_pos (fun e => hn (List.eq_nil_of_length_eq_zero e))]
    refine .sl (drows := ts.map eBrP) (ho hn) (by simp [hl]) (fun k h1 h2 => by simp [eBrP, prf]) (fun k h1 h2 j h3 h4 => ?_) (by simp) (by rw [Nat.sub_zero, List.drop_zero, List.take_of_length_le (by simp [hl])])
    have : j = 0 := by simp [prf] at h3; omega
    subst this
    have := h k (by simpa using h1) (by simpa using h2)
    simpa [prf, eBrP] using this
mutual
theorem fz_tree {σ : St} {G : Gs} {κ : Nat → Tag} {c : Nat} {op : Nat → Bool} (h : GRep σ G κ c) : ∀ (t : Br) (a : Nat), trB G.nd op t a → Fz σ (.ref a 0) (.ip (eBr t) 0)
  | .nd s ys ns, a, ht => by
    simp only [trB] at ht
    obtain ⟨g, g1, g2, g3, g4, g5⟩ := ht
    obtain ⟨b1, b2, b3, b4⟩ := h.nd a g g1
    have hy := fz_rowl (trL_len ys g.yes g4) (fun hne => (b3 hne).1) (fz_trees h ys g.yes g4)
    have hn := fz_rowl (trL_len ns g.no g5) (fun hne => (b4 hne).1) (fz_trees h ns g.no g5)
    have key : FzL σ (ncell g) (eBr (.nd s ys ns)) := by
      have : eBr (.nd s ys ns) = eSm s ++ [.im (ys.map eBrP), .im (ns.map eBrP)] := by simp only [eBr, eBrs_map]; rfl
      rw [this, ← g3]
      exact FzL_d (eSm g.s) ⟨hy, hn, trivial⟩
    exact .ref b1 key.get.1 key.get.2
theorem fz_trees {σ : St} {G : Gs} {κ : Nat → Tag} {c : Nat} {op : Nat → Bool} (h : GRep σ G κ c) : ∀ (ts : List Br) (l : List Nat), trL G.nd op ts l → ∀ k (h1 : k < l.length) (h2 : k < ts.length), Fz σ (.ref l[k] 0) (.ip (eBr ts[k]) 0)
  | [], _, _, k, _, h2 => by simp at h2
  | t :: ts, [], ht, k, _, _ => by simp [trL] at ht
  | t :: ts, a :: l, ht, 0, _, _ => by
    simp only [trL] at ht
    exact fz_tree h t a ht.1
  | t :: ts, a :: l, ht, k + 1, h1, h2 => by
    simp only [trL] at ht
    exact fz_trees h ts l ht.2 k (by simpa using h1) (by simpa using h2)
end
theorem fzt2 {X : Cfg} {nt : Nat} {Q : Exit → Env → St → Prop} {env : Env} {σ : St} {c : Code} (s t : Nat) {x y : AV} (h1 : AFz σ (env s) x) (h2 : AFz σ (env t) y) (h : Ok X nt c Q (envL [(s, x), (t, y)]) ⟨fun _ => none, σ.next⟩) : Ok X nt c Q env σ := by
  refine ok_turn (turn_fz fun t' => ?_) h
  simp only [envL]
  by_cases hs : t' = s
  · subst hs; rw [if_pos rfl]; exact h1
  · rw [if_neg hs]
    by_cases ht : t' = t
    · subst ht; rw [if_pos rfl]; exact h2
    · rw [if_neg ht]; exact .any _
theorem fzt2n {X : Cfg} {nt : Nat} {Q : Exit → Env → St → Prop} {env : Env} {σ : St} {c : Code} (s t : Nat) (h : Ok X nt c Q (envL [(s, .any), (t, vb false)]) ⟨fun _ => none, σ.next⟩) (h0 : env s = .d (.s (.slice none 0 0)) := by exact rfl) (h1 : env t = vb false := by exact rfl) : Ok X nt c Q env σ :=
  fzt2 s t (.any _) (.data (by rw [h1]; exact .d _)) h
def growR (l : List Sm) : AV := match growI l with | some R => .tup [.d (.im (R.map eBrP)), vb true] | none => .tup [.any, vb false]
structure Lp where
  k : Nat
  G : Gs
  FS : List Fr
  R : List Br
def LpI (l : List Sm) (x : Lp) (σ : St) : Prop := x.k ≤ l.length ∧ (∃ κ, GRep σ x.G κ (2 * x.k)) ∧ frS x.G.nd (opS x.G.stk) x.FS x.G.stk x.R x.G.root ∧ (x.G.stk.map (·.a)).Nodup ∧ (x.G.stk.map (·.o)).Nodup ∧ growGo (l.drop x.k) x.FS x.R = growI l
section
variable {X : Cfg} {nt : Nat} {ops : Array Oper} {T : Nat → Prop} {es : List Nat} {n : Nat} {rest : List Oper} {Q : Exit → Env → St → Prop} {env : Env} {σ σ' : St} {dst : Option Tmp} {op : Op} {ty : TypeId} {pos : String} {after : Array Edge} {r : AV}
theorem Wm {x : Operand} (k : ADE X nt ops T es Q (n + 1) rest (put env dst (aev X env x)) σ) (hd : dst.all (· < nt) = true := by exact rfl) (hne : es.contains n = false := by exact rfl) : ADE X nt ops T es Q n (⟨dst, .assign x, ty, pos, after, none⟩ :: rest) env σ :=
  ade_op (o := ⟨dst, .assign x, ty, pos, after, none⟩) ⟨hd, fun σ' _ => by simp only [aoper, aop]; exact ⟨trivial, trivial⟩⟩ k hne
theorem Wlen {b : Bool} {i h m : Nat} {x : Operand} {t el : Nat} {ti : TI} {ars : Array Operand} {ts : Array TypeId} (hn : b = false → m = 0) (k : ADE X nt ops T es Q (n + 1) rest (put env dst (vi m)) σ) (h1 : ars.toList = [x] := by exact rfl) (h2 : ts.toList = [t] := by exact rfl) (hx : aev X env x = slcB b i h m := by exact rfl) (ht : X.T t = some ti := by exact rfl) (hk' : ti.kind = .slice el := by exact rfl)
    (hd : dst.all (· < nt) = true := by exact rfl) (hne : es.contains n = false := by exact rfl) : ADE X nt ops T es Q n (⟨dst, .call ⟨.builtin .len, ars, ts⟩, ty, pos, after, none⟩ :: rest) env σ :=
  ade_op (o := ⟨dst, .call ⟨.builtin .len, ars, ts⟩, ty, pos, after, none⟩) ⟨hd, fun σ' _ => Yx2 hn ⟨rfl, rfl⟩ h1 h2 hx ht hk'⟩ k hne
end
theorem GRep.temp {σ : St} {G : Gs} {κ : Nat → Tag} {c : Nat} (h : GRep σ G κ c) (o o' : AO) : GRep ((σ.alloc o).set σ.next o') G κ c := by
  refine h.junk (Nat.le_refl _) (by simp only [St.next_set, St.next_alloc]; omega) fun j hj => ?_
  have := h.lt j hj
  rw [St.obj_set, if_neg (by omega), St.obj_alloc, if_neg (by omega)]
theorem opS_none {σ : St} {G : Gs} {κ : Nat → Tag} {c M : Nat} (h : GRep σ G κ c) (hM : σ.next ≤ M) : G.nd M = none ∧ opS G.stk M = false := by
  have h1 : G.nd M = none := by
    cases hq : G.nd M with
    | none => rfl
    | some g =>
      have h2 := (h.nd M g hq).2.1
      have := h.lt M (Tag.tn h2 (by intro h; cases h))
      omega
  refine ⟨h1, ?_⟩
  cases hq : opS G.stk M with
  | false => rfl
  | true =>
    obtain ⟨x, hx, hxa⟩ := List.any_eq_true.1 hq
    obtain ⟨_, _, g, hg⟩ := h.op x hx
    have : x.a = M := by simpa using hxa
    rw [this, h1] at hg; cases hg
theorem put_facts {σ : St} {G : Gs} {κ : Nat → Tag} {c M i hN : Nat} {s : Sm} (h : GRep σ G κ c) (hM : σ.next ≤ M) (hd : (G.stk.map (·.a)).Nodup) :
    ((G.new M s).put M i hN).stk = G.stk ∧ ((G.new M s).put M i hN).sa = G.sa ∧ (∀ b g, G.nd b = some g → opS G.stk b = false → ((G.new M s).put M i hN).nd b = some g) ∧ ((G.new M s).put M i hN).nd M = some ⟨s, 0, 0, 0, 0, [], []⟩ ∧
    (match G.stk with
      | [] => ((G.new M s).put M i hN).root = G.root ++ [M]
      | x :: st' => ((G.new M s).put M i hN).root = G.root ∧ (∀ g, G.nd x.a = some g → ∃ g', ((G.new M s).put M i hN).nd x.a = some g' ∧ g'.s = g.s ∧ (if x.els then g'.yes = g.yes ∧ g'.no = g.no ++ [M] else g'.yes = g.yes ++ [M] ∧ g'.no = g.no)) ∧ ∀ y ∈ st', ((G.new M s).put M i hN).nd y.a = G.nd y.a) := by
  obtain ⟨hn, hop⟩ := opS_none h hM
  rcases hst : G.stk with _ | ⟨x, st⟩
  · have e : (G.new M s).put M i hN = { G.new M s with root := (G.new M s).root ++ [M], rr := i, rh := hN } := by simp only [Gs.put, Gs.new, hst]
    rw [e]
    refine ⟨hst, rfl, fun b g hb _ => ?_, ?_, rfl⟩
    · have : b ≠ M := fun e => by rw [e, hn] at hb; cases hb
      simp only [Gs.new, this, if_false]; exact hb
    · simp only [Gs.new, if_true]
  · have hxM : x.a ≠ M := fun e => by
      have : opS G.stk M = true := by rw [hst, ← e]; simp [opS]
      rw [hop] at this; cases this
    have e : (G.new M s).put M i hN = { G.new M s with nd := fun a => if a = x.a then ((G.new M s).nd a).map fun g => if x.els then { g with no := g.no ++ [M], n := i, hn := hN } else { g with yes := g.yes ++ [M], y := i, hy := hN } else (G.new M s).nd a } := by
      simp only [Gs.put, show (G.new M s).stk = x :: st from hst]
    rw [e]
    rw [hst] at hd
    simp only [List.map_cons, List.nodup_cons] at hd
    refine ⟨hst, rfl, fun b g hb ho => ?_, ?_, rfl, fun g hg => ?_, fun y hy => ?_⟩
    · have h1 : b ≠ M := fun e => by rw [e, hn] at hb; cases hb
      have h2 : b ≠ x.a := fun e => by subst e; simp [opS] at ho
      simp only [h2, if_false, Gs.new, h1]; exact hb
    · simp only [Ne.symm hxM, if_false, Gs.new, if_true]
    · cases hels : x.els with
      | true => exact ⟨{ g with no := g.no ++ [M], n := i, hn := hN }, by simp only [if_true, Gs.new, hxM, if_false, hg, Option.map_some], rfl, by simp⟩
      | false => exact ⟨{ g with yes := g.yes ++ [M], y := i, hy := hN }, by simp only [if_true, Gs.new, hxM, if_false, hg, Option.map_some, Bool.false_eq_true], rfl, by simp⟩
    · have h2 : y.a ≠ x.a := fun e => hd.1 (by rw [← e]; exact List.mem_map.2 ⟨y, hy, rfl⟩)
      have h1 : y.a ≠ M := fun e => by
        have : opS G.stk M = true := by rw [hst, ← e]; simp only [opS, List.any_eq_true]; exact ⟨y, List.mem_cons_of_mem _ hy, by simp⟩
        rw [hop] at this; cases this
      simp only [h2, if_false, Gs.new, h1]
/-- The innermost node is closed, its tree stands in its place. -/
theorem frP_close {nd : Nat → Option Gn} {op op' : Nat → Bool} (hc : ∀ b g, nd b = some g → op b = false → nd b = some g ∧ op' b = false) {t : Br} {p : Nat} (ht : trB nd op' t p) : ∀ {fs : List Fr} {st : List On} {R : List Br} {cs : List Nat}, (∀ y ∈ st, op' y.a = true) →
    frP nd op fs st R cs p → frS nd op' (putF t fs R).1 st (putF t fs R).2 cs
  | [], [], R, cs, _, h => by
    obtain ⟨l, rfl, h2⟩ := h
    exact trL_push ht _ _ (trL_mono hc _ _ h2)
  | f :: fs, y :: st, R, cs, ho, h => by
    obtain ⟨⟨l, m, ⟨g, g1, g2, g3, g4, g5, g6⟩, h2, h3⟩, h4⟩ := h
    have h2' := trL_mono hc _ _ h2
    have h3' := trL_mono hc _ _ h3
    have h4' := frP_mono hc fs st R cs y.a (fun z hz => ⟨rfl, ho z (List.mem_cons_of_mem _ hz)⟩) h4
    have hoy := ho y List.mem_cons_self
    simp only [putF]
    cases hf : f.els with
    | true =>
      rw [g4, hf] at g5 g6
      simp only [if_true] at g5 g6 ⊢
      exact ⟨⟨l, m ++ [p], ⟨g, g1, hoy, g3, by rw [g4, hf], g5, g6⟩, h2', trL_push ht _ _ h3'⟩, h4'⟩
    | false =>
      rw [g4, hf] at g5 g6
      simp only [Bool.false_eq_true, if_false] at g5 g6 ⊢
      exact ⟨⟨l ++ [p], m, ⟨g, g1, hoy, g3, by rw [g4, hf], g5, g6⟩, trL_push ht _ _ h2', h3'⟩, h4'⟩
  | [], _ :: _, _, _, _, h => h.elim
  | _ :: _, [], _, _, _, h => h.elim
def G0 : Gs := ⟨fun _ => none, [], [], 0, 0, false, 0, 0⟩
set_option maxHeartbeats 8000000 in
theorem grow_ok (l : List Sm) (hl : l.length ≤ 1048576) : PFun X 55 [.d (.im (l.map eSm))] (growR l) := by
  refine pfun_of Tryz.func55 rfl (by decide) Tryz.ntmps55 Tryz.results55 (by simp) rfl (by unfold growR; split <;> rfl) ?_
  repeat' first
    | refine Z1 ?_ | refine Z2 ?_ | refine Z5 ?_ | refine Yq ?_ | refine Zd ?_ | refine Zo ?_ | refine ok_seq ?_ | refine ok_block ?_
  refine ok_forI (ι := Lp) (fun x => envL [(4, .ref 0 0), (5, .ref 1 0), (6, .fn 79 [.ref 1 0, .ref 0 0]), (11, .d (.im (l.map eSm))), (12, vi l.length), (13, vi x.k)]) (LpI l) (fun x => l.length - x.k) ⟨0, G0, [], []⟩ ?_ (weakEnv_at ⟨.refl _, .refl _, .refl _, .refl _, .refl _, .refl _, trivial⟩) ?_
  · refine ⟨Nat.zero_le _, ⟨fun j => if j = 0 then .rc else if j = 1 then .sc else .non, ⟨fun i hi => ?_, rfl, rfl, rfl, rfl, fun _ => rfl, fun h => absurd rfl h, fun h => (by cases h), fun a g h => (by cases h), fun x h => (by cases h), ⟨Nat.le_refl _, Nat.le_refl _, fun a g h => (by cases h)⟩⟩⟩, trivial, List.nodup_nil, List.nodup_nil, rfl⟩
    show i < 2
    by_cases h0 : i = 0
    · omega
    · by_cases h1 : i = 1
      · omega
      · exact absurd (by simp [h0, h1]) hi
  rintro ⟨k, G, FS, R⟩ σ ⟨i1, ⟨κ, hG⟩, i3, i4, i5, i6⟩
  simp only at i1 hG i3 i4 i5 i6
  dsimp only
  rcases hx : l[k]? with _ | s
  · have hle := none_le hx
    have ek : decide ((k : Int) < (l.length : Int)) = false := decide_eq_false (by omega)
    rw [drop_none hx] at i6
    have hlen0 : G.sa = false → G.stk.length = 0 := fun h => by rw [hG.sa h]; rfl
    repeat' first
      | refine Z1 ?_ | refine Z2 ?_ | refine Zo ?_ | refine ok_seq ?_ | refine Zq ?_ | refine ok_exit ?_ | refine x_normal_then ?_ | refine x_exit_here ?_ | refine Zv ?_
    refine ok_drawE (fun j => j = 0 ∨ j = 1) [] X_mixed (by decide +kernel) ?_
    refine Wr hG.r0 (.inl rfl) ?_
    refine Wr hG.r1 (.inr rfl) ?_
    refine Wlen hlen0 ?_
    refine Wa ?_
    refine Wm ?_
    refine Wm ?_
    refine Wx ?_
    rcases hst : G.stk with _ | ⟨x, st⟩
    · rcases FS with _ | ⟨f, fs⟩
      · rw [hst] at i3
        have hR : growI l = some R := by rw [← i6]; rfl
        have hfz := fz_rowl (trL_len R G.root i3) (fun hne => (hG.rr hne).1) (fz_trees hG R G.root i3)
        refine fzt2 2 3 (x := .d (.im (R.map eBrP))) (y := vb true) (.data hfz) (.data (by rw [show ((([] : List On).length : Nat) : Int) = 0 from rfl]; exact .d _)) ?_
        repeat' first
          | refine ret2 ?_ | refine ok_ret ?_
        show AEnd.ret _ = AEnd.ret (growR l)
        unfold growR
        rw [hR]
      · rw [hst] at i3; exact i3.elim
    · rcases FS with _ | ⟨f, fs⟩
      · rw [hst] at i3; exact i3.elim
      · have hR : growI l = none := by rw [← i6]; rfl
        have e0 : decide ((((x :: st).length : Nat) : Int) = 0) = false := decide_eq_false (by simp only [List.length_cons]; omega)
        refine fzt2 2 3 (x := .any) (y := vb false) (.any _) (.data (by show Fz σ (vb (decide ((((x :: st).length : Nat) : Int) = 0))) _; rw [e0]; exact .d _)) ?_
        repeat' first
          | refine ret2 ?_ | refine ok_ret ?_
        show AEnd.ret _ = AEnd.ret (growR l)
        unfold growR
        rw [hR]
  obtain ⟨hd, hlt⟩ := drop_some hx
  have ek : decide ((k : Int) < (l.length : Int)) = true := decide_eq_true (by omega)
  rw [hd] at i6
  obtain ⟨hb1, hb2, hb3⟩ := hG.bd
  have hk20 : 2 * k ≤ 2097152 := by omega
  have hG1 := hG.temp (.var [.d (.s (.int .i64 0)), .d (.s (.string .empty)), .d (.s (.int .i64 0)), .d (.s (.slice none 0 0)), .d (.s (.slice none 0 0)), .d (.s (.slice none 0 0))]) (.var ((eSm s).map .d))
  have hG2 := hG1.newnode (M := σ.next + 1) (s := s) rfl
  have hop : ∀ y ∈ G.stk, opS G.stk y.a = true := fun y hy => List.any_eq_true.2 ⟨y, hy, by simp⟩
  obtain ⟨hnM, hoM⟩ := opS_none hG (show σ.next ≤ σ.next + 1 by omega)
  by_cases h4 : s.kind = 4
  · have d4 : decide (s.kind = 4) = true := decide_eq_true h4
    simp only [growGo, h4, if_true] at i6
    repeat' first
      | refine Z1 ?_ | refine Z2 ?_ | refine Z5 ?_ | refine Yu (i := σ.next) ?_ | refine Ze ?_ | refine Zo ?_ | refine ok_seq ?_ | refine Zp ?_ | refine ok_block ?_ | refine ok_skip ?_ | refine x_normal_then ?_
    refine Yt (i := σ.next) (obj_alloc_self σ _) ?_
    repeat' first
      | refine Z1 ?_ | refine Z2 ?_ | refine Z5 ?_ | refine Ys (obj_set_self _ _ _) ?_ | refine Yv (i := σ.next + 1) (cs := ncell ⟨s, 0, 0, 0, 0, [], []⟩) ?_ | refine Zo ?_ | refine Zp ?_ | refine ok_block ?_
    refine op_cfun (put_ok hG2 hk20 (σ.next + 1)) (fun E σ' hE => ?_)
    obtain ⟨rfl, i, hN, κ', hG3, hn3, hκ3⟩ := hE
    refine ⟨_, rfl, ?_⟩
    obtain ⟨p1, p2, p3, p4, p5⟩ := put_facts (s := s) (M := σ.next + 1) (i := i) (hN := hN) hG (by omega) i4
    obtain ⟨rows, hrows⟩ : ∃ rows, ((G.new (σ.next + 1) s).put (σ.next + 1) i hN).sa = true → σ'.obj ((G.new (σ.next + 1) s).put (σ.next + 1) i hN).sr = some (.row ((G.new (σ.next + 1) s).put (σ.next + 1) i hN).sh 135 1 rows) ∧ rows.take ((G.new (σ.next + 1) s).put (σ.next + 1) i hN).stk.length = ((G.new (σ.next + 1) s).put (σ.next + 1) i hN).stk.reverse.map orf ∧ ((G.new (σ.next + 1) s).put (σ.next + 1) i hN).stk.length ≤ rows.length := by
      cases hq : ((G.new (σ.next + 1) s).put (σ.next + 1) i hN).sa with
      | false => exact ⟨[], fun h => by cases h⟩
      | true => obtain ⟨r, hr⟩ := (hG3.sr hq).1; exact ⟨r, fun _ => hr⟩
    obtain ⟨c1, c2, c3⟩ := hG3.bd
    have l0 := hG3.lt 0 (Tag.tn hG3.k0 (by intro h; cases h))
    have l1 := hG3.lt 1 (Tag.tn hG3.k1 (by intro h; cases h))
    repeat' first
      | refine Z2 ?_ | refine Z5 ?_ | refine ok_reg ?_
    refine Yr hG3.r1 ?_
    repeat' first
      | refine Z1 ?_ | refine Z5 ?_ | refine Yv (i := σ'.next) (cs := [.ref (σ.next + 1) 0, vb false]) ?_ | refine Yw (sz := 1) (rows := [orf ⟨σ'.next, σ.next + 1, false⟩]) ?_
    refine app2 (f := orf) (l := ((G.new (σ.next + 1) s).put (σ.next + 1) i hN).stk.reverse) (y := ⟨σ'.next, σ.next + 1, false⟩) (rows := rows) (k := σ'.next + 1) (v := σ'.next + 1) (fun h => by rw [hG3.sa h]; rfl) (by rw [List.length_reverse]) (fun h => ⟨?_, (hrows h).2.1, (hrows h).2.2⟩) (obj_alloc_self _ _) (fun _ => rfl) (fun i' σ'' e1 e2 e3 e4 => ?_)
    · have := hG3.lt _ (Tag.tn (hG3.sr h).2 (by intro h; cases h))
      rw [St.obj_alloc, if_neg (by simp only [St.next_alloc]; omega), St.obj_alloc, if_neg (by omega)]
      exact (hrows h).1
    have hi1 : 1 ≠ i' := by
      rw [e1]
      split
      · rename_i hsa
        intro e
        have := (hG3.sr hsa).2
        rw [← e, hG3.k1] at this; cases this
      · simp only [St.next_alloc]; omega
    have f1 : σ''.obj 1 = some (.var [slcB ((G.new (σ.next + 1) s).put (σ.next + 1) i hN).sa ((G.new (σ.next + 1) s).put (σ.next + 1) i hN).sr ((G.new (σ.next + 1) s).put (σ.next + 1) i hN).sh ((G.new (σ.next + 1) s).put (σ.next + 1) i hN).stk.length]) := by
      rw [e3 1 hi1, St.obj_alloc, if_neg (by simp only [St.next_alloc]; omega), St.obj_alloc, if_neg (by omega)]; exact hG3.r1
    have hio : σ'.next ≠ i' := by
      rw [e1]
      split
      · rename_i hsa
        have := hG3.lt _ (Tag.tn (hG3.sr hsa).2 (by intro h; cases h)); omega
      · simp only [St.next_alloc]; omega
    repeat' first
      | refine Z1 ?_ | refine Z2 ?_ | refine Z3 ?_ | refine Z5 ?_ | refine Yt f1 ?_ | refine Zf ?_ | refine ok_reg ?_ | refine x_normal_then ?_ | refine x_normal_block ?_
    obtain ⟨κ2, hG4⟩ := hG3.push (x := ⟨σ'.next, σ.next + 1, false⟩) (i := i') (hN := σ'.next + 2) (σ2 := σ''.set 1 (.var [.sl i' (σ'.next + 2) 0 (((G.new (σ.next + 1) s).put (σ.next + 1) i hN).stk.length + 1)])) ⟨_, p4⟩ (by simp only [St.next_set, e4, St.next_alloc]; omega) rfl (by
      rw [e1]
      cases hq : ((G.new (σ.next + 1) s).put (σ.next + 1) i hN).sa with
      | false => left; simp only [Bool.false_eq_true, if_false, St.next_set, e4, St.next_alloc]; exact ⟨trivial, by omega, by omega⟩
      | true => right; exact ⟨rfl, rfl⟩) (obj_set_self _ _ _) (by rw [St.obj_set, if_neg (Ne.symm hi1)]; exact e2) (by rw [St.obj_set, if_neg (by simp only; omega), e3 _ hio, St.obj_alloc, if_neg (by simp only [St.next_alloc]; omega)]; exact obj_alloc_self _ _) (fun j hj hj1 hji => by
        have := hG3.lt j hj
        rw [St.obj_set, if_neg hj1, e3 j hji, St.obj_alloc, if_neg (by simp only [St.next_alloc]; omega), St.obj_alloc, if_neg (by omega)])
    refine ⟨⟨k + 1, { (G.new (σ.next + 1) s).put (σ.next + 1) i hN with stk := ⟨σ'.next, σ.next + 1, false⟩ :: ((G.new (σ.next + 1) s).put (σ.next + 1) i hN).stk, sa := true, sr := i', sh := σ'.next + 2 }, ⟨s, false, [], []⟩ :: FS, R⟩, ⟨hlt, ⟨κ2, hG4⟩, ⟨⟨[], [], ⟨_, p4, by simp [opS], rfl, rfl, rfl, rfl⟩, trivial, trivial⟩, ?_⟩, ?_, ?_, i6⟩, by show l.length - (k + 1) < l.length - k; omega, weakEnv_at ⟨.refl _, .refl _, .refl _, .refl _, .refl _, .refl _, trivial⟩⟩
    · simp only [p1]
      refine frS_open (op := opS G.stk) (fun b g hb ho => ⟨p3 b g hb ho, ?_⟩) i3 ?_
      · have : b ≠ σ.next + 1 := fun e => by rw [e, hnM] at hb; cases hb
        simp only [opS, List.any_cons, Bool.or_eq_false_iff, beq_eq_false_iff_ne] at ho ⊢
        exact ⟨Ne.symm this, ho⟩
      · have hop2 : ∀ y ∈ G.stk, opS (⟨σ'.next, σ.next + 1, false⟩ :: G.stk) y.a = true := fun y hy => List.any_eq_true.2 ⟨y, List.mem_cons_of_mem _ hy, by simp⟩
        rcases hst : G.stk with _ | ⟨x, st⟩
        · rw [hst] at p5; exact p5
        · rw [hst] at p5 hop2
          exact ⟨p5.1, p5.2.1, hop2 x List.mem_cons_self, fun y hy => ⟨p5.2.2 y hy, hop2 y (List.mem_cons_of_mem _ hy)⟩⟩
    · simp only [p1, List.map_cons, List.nodup_cons]
      refine ⟨fun hm => ?_, i4⟩
      obtain ⟨y, hy, hya⟩ := List.mem_map.1 hm
      have := hop y hy
      rw [hya, hoM] at this; cases this
    · simp only [p1, List.map_cons, List.nodup_cons]
      refine ⟨fun hm => ?_, i5⟩
      obtain ⟨y, hy, hya⟩ := List.mem_map.1 hm
      have h1 := (hG3.op y (by rw [p1]; exact hy)).2.1
      have := hG3.lt _ (Tag.tn h1 (by intro h; cases h))
      omega
  by_cases h5 : s.kind = 5
  · have d4 : decide (s.kind = 4) = false := decide_eq_false h4
    have d5 : decide (s.kind = 5) = true := decide_eq_true h5
    simp only [growGo] at i6
    rw [if_neg h4, if_pos h5] at i6
    rcases hst : G.stk with _ | ⟨x, st⟩
    · have r1 := hG1.r1
      rw [hst] at r1 i3
      obtain rfl : FS = [] := by cases FS with | nil => rfl | cons f fs => exact i3.elim
      have hR : growI l = none := i6.symm
      have e0 : decide (((([] : List On).length : Nat) : Int) = 0) = true := rfl
      have e00 : decide (((0 : Nat) : Int) = 0) = true := rfl
      repeat' first
        | refine Z1 ?_ | refine Z2 ?_ | refine Z5 ?_ | refine Yu (i := σ.next) ?_ | refine Ze ?_ | refine Zo ?_ | refine ok_seq ?_ | refine Zp ?_ | refine ok_block ?_ | refine ok_skip ?_ | refine x_normal_then ?_
      refine Yt (i := σ.next) (obj_alloc_self σ _) ?_
      repeat' first
        | refine Z1 ?_ | refine Z2 ?_ | refine Z5 ?_ | refine Ys (obj_set_self _ _ _) ?_ | refine Zo ?_ | refine ok_seq ?_ | refine Zp ?_ | refine Zq ?_ | refine ok_block ?_
      refine Yr r1 ?_
      repeat' first
        | refine Z1 ?_ | refine Z2 ?_ | refine Z5 ?_ | refine Z9 ?_ | refine Yx2 (fun _ => rfl) ?_ | refine fzt2n 2 3 ?_ | refine ret2 ?_ | refine Zo ?_ | refine Zp ?_ | refine ok_ret ?_ | refine x_ret_then ?_
        | refine x_ret_block ?_
      show AEnd.ret _ = AEnd.ret (growR l)
      unfold growR
      rw [hR]
    have r1 := hG1.r1
    have hsa : G.sa = true := by
      cases hq : G.sa with
      | true => rfl
      | false => rw [hG.sa hq] at hst; cases hst
    rw [hst, List.length_cons, show slcB G.sa G.sr G.sh (st.length + 1) = .sl G.sr G.sh 0 (st.length + 1) by rw [hsa]; rfl] at r1
    have hsl : st.length + 1 ≤ 2 * k := by rw [hst] at hb2; exact hb2
    obtain ⟨rows, hsr, hsr2, hsr3⟩ := (hG1.sr hsa).1
    rw [hst] at hsr2 hsr3
    obtain ⟨hopo, hopt, g, hg⟩ := hG1.op x (by rw [hst]; exact List.mem_cons_self)
    have hget : rows[st.length]? = some (orf x) := by
      have h1 : (rows.take (x :: st).length)[st.length]? = some (orf x) := by rw [hsr2]; simp
      rwa [List.getElem?_take, if_pos (by simp)] at h1
    have e1 : decide (((st.length + 1 - 0 : Nat) : Int) = 0) = false := decide_eq_false (by omega)
    rcases FS with _ | ⟨f, fs⟩
    · rw [hst] at i3; exact i3.elim
    rw [hst] at i3 i4 i5
    obtain ⟨⟨ly, ln, ⟨g', g1, g2, g3, g4, g5, g6⟩, t2, t3⟩, t4⟩ := i3
    simp only [List.map_cons, List.nodup_cons] at i4 i5
    cases hels : x.els with
    | true =>
      have hR : growI l = none := by rw [← i6]; simp only [g4] at hels; simp [hels]
      repeat' first
        | refine Z1 ?_ | refine Z2 ?_ | refine Z5 ?_ | refine Yu (i := σ.next) ?_ | refine Ze ?_ | refine Zo ?_ | refine ok_seq ?_ | refine Zp ?_ | refine ok_block ?_ | refine ok_skip ?_ | refine x_normal_then ?_
      refine Yt (i := σ.next) (obj_alloc_self σ _) ?_
      repeat' first
        | refine Z1 ?_ | refine Z2 ?_ | refine Z5 ?_ | refine Z7 ?_ | refine Ys (obj_set_self _ _ _) ?_ | refine Ys r1 ?_
        | refine Yi1 (n := ((st.length + 1 - 0 : Nat) : Int) - 1) (hi := st.length + 1) st.length hsr (by omega) (by omega) ?_ | refine Ye1 hsr hget ?_ | refine nil_check ?_ | refine Ys hopo ?_ | refine Zg ?_ | refine Zi ?_
        | refine fzt2n 2 3 ?_ | refine ret2 ?_ | refine Zo ?_ | refine ok_seq ?_ | refine Zp ?_ | refine Zq ?_ | refine ok_block ?_ | refine ok_ret ?_ | refine x_ret_then ?_ | refine x_ret_block ?_
      show AEnd.ret _ = AEnd.ret (growR l)
      unfold growR
      rw [hR]
    | false =>
      have hfe : f.els = false := by rw [← g4]; exact hels
      simp only [hfe, Bool.false_eq_true, if_false] at i6
      repeat' first
        | refine Z1 ?_ | refine Z2 ?_ | refine Z5 ?_ | refine Yu (i := σ.next) ?_ | refine Ze ?_ | refine Zo ?_ | refine ok_seq ?_ | refine Zp ?_ | refine ok_block ?_ | refine ok_skip ?_ | refine x_normal_then ?_
      refine Yt (i := σ.next) (obj_alloc_self σ _) ?_
      repeat' first
        | refine Z1 ?_ | refine Z2 ?_ | refine Z5 ?_ | refine Z7 ?_ | refine Ys (obj_set_self _ _ _) ?_ | refine Ys r1 ?_
        | refine Yi1 (n := ((st.length + 1 - 0 : Nat) : Int) - 1) (hi := st.length + 1) st.length hsr (by omega) (by omega) ?_ | refine Ye1 hsr hget ?_ | refine nil_check ?_ | refine Ys hopo ?_ | refine Zg ?_ | refine Zi ?_ | refine Zo ?_
        | refine ok_seq ?_ | refine ok_reg ?_ | refine Zp ?_ | refine Zq ?_ | refine ok_block ?_ | refine ok_skip ?_ | refine x_normal_then ?_
      refine Yt (i := x.o) hopo ?_
      repeat' first
        | refine Z1 ?_ | refine Z2 ?_ | refine Z3 ?_ | refine Z5 ?_ | refine Zf ?_ | refine ok_reg ?_ | refine x_normal_then ?_ | refine x_normal_block ?_
      refine ⟨⟨k + 1, { G with stk := { x with els := true } :: st }, { f with els := true } :: fs, R⟩, ⟨hlt, ⟨κ, (hG1.setels hst (fun y hy e => i5.1 (by rw [← e]; exact List.mem_map.2 ⟨y, hy, rfl⟩))).junk (show 2 * k ≤ 2 * (k + 1) by omega) (Nat.le_refl _) (fun _ _ => rfl)⟩, ?_, List.nodup_cons.2 i4, List.nodup_cons.2 i5, i6⟩, by show l.length - (k + 1) < l.length - k; omega, weakEnv_at ⟨.refl _, .refl _, .refl _, .refl _, .refl _, .refl _, trivial⟩⟩
      exact ⟨⟨ly, ln, ⟨g', g1, g2, g3, rfl, g5, g6⟩, t2, t3⟩, t4⟩
  by_cases h6 : s.kind = 6
  · have d4 : decide (s.kind = 4) = false := decide_eq_false h4
    have d5 : decide (s.kind = 5) = false := decide_eq_false h5
    have d6 : decide (s.kind = 6) = true := decide_eq_true h6
    simp only [growGo] at i6
    rw [if_neg h4, if_neg h5, if_pos h6] at i6
    rcases hst : G.stk with _ | ⟨x, st⟩
    · have r1 := hG1.r1
      rw [hst] at r1 i3
      obtain rfl : FS = [] := by cases FS with | nil => rfl | cons f fs => exact i3.elim
      have hR : growI l = none := i6.symm
      have e0 : decide (((([] : List On).length : Nat) : Int) = 0) = true := rfl
      have e00 : decide (((0 : Nat) : Int) = 0) = true := rfl
      repeat' first
        | refine Z1 ?_ | refine Z2 ?_ | refine Z5 ?_ | refine Yu (i := σ.next) ?_ | refine Ze ?_ | refine Zo ?_ | refine ok_seq ?_ | refine Zp ?_ | refine ok_block ?_ | refine ok_skip ?_ | refine x_normal_then ?_
      refine Yt (i := σ.next) (obj_alloc_self σ _) ?_
      repeat' first
        | refine Z1 ?_ | refine Z2 ?_ | refine Z5 ?_ | refine Ys (obj_set_self _ _ _) ?_ | refine Zo ?_ | refine ok_seq ?_ | refine Zp ?_ | refine Zq ?_ | refine ok_block ?_
      refine Yr r1 ?_
      repeat' first
        | refine Z1 ?_ | refine Z2 ?_ | refine Z5 ?_ | refine Z9 ?_ | refine Yx2 (fun _ => rfl) ?_ | refine fzt2n 2 3 ?_ | refine ret2 ?_ | refine Zo ?_ | refine Zp ?_ | refine ok_ret ?_ | refine x_ret_then ?_
        | refine x_ret_block ?_
      show AEnd.ret _ = AEnd.ret (growR l)
      unfold growR
      rw [hR]
    have r1 := hG1.r1
    have hsa : G.sa = true := by
      cases hq : G.sa with
      | true => rfl
      | false => rw [hG.sa hq] at hst; cases hst
    rw [hst, List.length_cons, show slcB G.sa G.sr G.sh (st.length + 1) = .sl G.sr G.sh 0 (st.length + 1) by rw [hsa]; rfl] at r1
    have hsl : st.length + 1 ≤ 2 * k := by rw [hst] at hb2; exact hb2
    obtain ⟨rows, hsr, hsr2, hsr3⟩ := (hG1.sr hsa).1
    rw [hst] at hsr2 hsr3
    obtain ⟨hopo, hopt, g, hg⟩ := hG1.op x (by rw [hst]; exact List.mem_cons_self)
    have hget : rows[st.length]? = some (orf x) := by
      have h1 : (rows.take (x :: st).length)[st.length]? = some (orf x) := by rw [hsr2]; simp
      rwa [List.getElem?_take, if_pos (by simp)] at h1
    have e1 : decide (((st.length + 1 - 0 : Nat) : Int) = 0) = false := decide_eq_false (by omega)
    rcases FS with _ | ⟨f, fs⟩
    · rw [hst] at i3; exact i3.elim
    rw [hst] at i3 i4 i5
    obtain ⟨⟨ly, ln, ⟨g', g1, g2, g3, g4, g5, g6⟩, t2, t3⟩, t4⟩ := i3
    simp only [List.map_cons, List.nodup_cons] at i4 i5
    cases hels : x.els with
    | false =>
      have hnf : (!x.els) = true := by rw [hels]; rfl
      have hR : growI l = none := by rw [← i6]; simp only [g4] at hels; simp [hels]
      repeat' first
        | refine Z1 ?_ | refine Z2 ?_ | refine Z5 ?_ | refine Yu (i := σ.next) ?_ | refine Ze ?_ | refine Zo ?_ | refine ok_seq ?_ | refine Zp ?_ | refine ok_block ?_ | refine ok_skip ?_ | refine x_normal_then ?_
      refine Yt (i := σ.next) (obj_alloc_self σ _) ?_
      repeat' first
        | refine Z1 ?_ | refine Z2 ?_ | refine Z5 ?_ | refine Z7 ?_ | refine Ys (obj_set_self _ _ _) ?_ | refine Ys r1 ?_
        | refine Yi1 (n := ((st.length + 1 - 0 : Nat) : Int) - 1) (hi := st.length + 1) st.length hsr (by omega) (by omega) ?_ | refine Ye1 hsr hget ?_ | refine nil_check ?_ | refine Ys hopo ?_ | refine Zg ?_ | refine Zi ?_
        | refine fzt2n 2 3 ?_ | refine ret2 ?_ | refine Zo ?_ | refine ok_seq ?_ | refine Zp ?_ | refine Zq ?_ | refine ok_block ?_ | refine ok_ret ?_ | refine x_ret_then ?_ | refine x_ret_block ?_
      show AEnd.ret _ = AEnd.ret (growR l)
      unfold growR
      rw [hR]
    | true =>
      have hnf : (!x.els) = false := by rw [hels]; rfl
      have hfe : f.els = true := by rw [← g4]; exact hels
      simp only [hfe, if_true] at i6
      repeat' first
        | refine Z1 ?_ | refine Z2 ?_ | refine Z5 ?_ | refine Yu (i := σ.next) ?_ | refine Ze ?_ | refine Zo ?_ | refine ok_seq ?_ | refine Zp ?_ | refine ok_block ?_ | refine ok_skip ?_ | refine x_normal_then ?_
      refine Yt (i := σ.next) (obj_alloc_self σ _) ?_
      repeat' first
        | refine Z1 ?_ | refine Z2 ?_ | refine Z3 ?_ | refine Z5 ?_ | refine Z7 ?_ | refine Ys (obj_set_self _ _ _) ?_ | refine Ys r1 ?_
        | refine Yi1 (n := ((st.length + 1 - 0 : Nat) : Int) - 1) (hi := st.length + 1) st.length hsr (by omega) (by omega) ?_ | refine Ye1 hsr hget ?_ | refine nil_check ?_ | refine Ys hopo ?_
        | refine Yz (n := ((st.length + 1 - 0 : Nat) : Int) - 1) (hi := st.length + 1) st.length hsr (by omega) (by omega) ?_ | refine Yt r1 ?_ | refine Zf ?_ | refine Zg ?_ | refine Zi ?_ | refine Zo ?_ | refine ok_seq ?_ | refine ok_reg ?_
        | refine Zp ?_ | refine Zq ?_ | refine ok_block ?_ | refine ok_skip ?_ | refine x_normal_then ?_ | refine x_normal_block ?_
      refine ⟨⟨k + 1, { G with stk := st }, (putF (.nd f.s f.yes f.no) fs R).1, (putF (.nd f.s f.yes f.no) fs R).2⟩, ⟨hlt, ⟨κ, (hG1.pop hst hsa).junk (show 2 * k ≤ 2 * (k + 1) by omega) (Nat.le_refl _) (fun _ _ => rfl)⟩, ?_, i4.2, i5.2, i6⟩, by show l.length - (k + 1) < l.length - k; omega, weakEnv_at ⟨.refl _, .refl _, .refl _, .refl _, .refl _, .refl _, trivial⟩⟩
      have hc : ∀ b g, G.nd b = some g → opS (x :: st) b = false → G.nd b = some g ∧ opS st b = false := fun b g hb ho => ⟨hb, by simp only [opS, List.any_cons, Bool.or_eq_false_iff] at ho ⊢; exact ho.2⟩
      have hxo : opS st x.a = false := by
        cases hq : opS st x.a with
        | false => rfl
        | true =>
          obtain ⟨y, hy, hya⟩ := List.any_eq_true.1 hq
          exact absurd (List.mem_map.2 ⟨y, hy, by simpa using hya⟩) i4.1
      exact frP_close hc (t := .nd f.s f.yes f.no) ⟨g', g1, hxo, g3, by rw [g5]; exact trL_mono hc _ _ t2, by rw [g6]; exact trL_mono hc _ _ t3⟩ (fun y hy => List.any_eq_true.2 ⟨y, hy, by simp⟩) t4
  have d4 : decide (s.kind = 4) = false := decide_eq_false h4
  have d5 : decide (s.kind = 5) = false := decide_eq_false h5
  have d6 : decide (s.kind = 6) = false := decide_eq_false h6
  simp only [growGo, h4, h5, h6, if_false] at i6
  repeat' first
    | refine Z1 ?_ | refine Z2 ?_ | refine Z5 ?_ | refine Yu (i := σ.next) ?_ | refine Ze ?_ | refine Zo ?_ | refine ok_seq ?_ | refine Zp ?_ | refine ok_block ?_ | refine ok_skip ?_ | refine x_normal_then ?_
  refine Yt (i := σ.next) (obj_alloc_self σ _) ?_
  repeat' first
    | refine Z1 ?_ | refine Z2 ?_ | refine Z5 ?_ | refine Ys (obj_set_self _ _ _) ?_ | refine Yv (i := σ.next + 1) (cs := ncell ⟨s, 0, 0, 0, 0, [], []⟩) ?_ | refine Zo ?_ | refine ok_reg ?_ | refine Zq ?_ | refine ok_block ?_
  refine op_cfun (put_ok hG2 hk20 (σ.next + 1)) (fun E σ' hE => ?_)
  obtain ⟨rfl, i, hN, κ', hG3, hn3, hκ3⟩ := hE
  refine ⟨_, rfl, ?_⟩
  repeat' first
    | refine Z1 ?_ | refine Z2 ?_ | refine Z3 ?_ | refine Z5 ?_ | refine Zf ?_ | refine ok_reg ?_ | refine x_normal_then ?_ | refine x_normal_block ?_
  obtain ⟨p1, p2, p3, p4, p5⟩ := put_facts (s := s) (M := σ.next + 1) (i := i) (hN := hN) hG (by omega) i4
  refine ⟨⟨k + 1, (G.new (σ.next + 1) s).put (σ.next + 1) i hN, _, _⟩, ⟨hlt, ⟨κ', hG3.junk (show 2 * k + 1 ≤ 2 * (k + 1) by omega) (Nat.le_refl _) (fun _ _ => rfl)⟩, ?_, by simp only [p1]; exact i4, by simp only [p1]; exact i5, i6⟩, by show l.length - (k + 1) < l.length - k; omega, weakEnv_at ⟨.refl _, .refl _, .refl _, .refl _, .refl _, .refl _, trivial⟩⟩
  simp only [p1]
  refine frS_put (fun b g hb ho => ⟨p3 b g hb ho, ho⟩) (t := .nd s [] []) (M := σ.next + 1) ⟨_, p4, hoM, rfl, trivial, trivial⟩ i3 ?_
  rcases hst : G.stk with _ | ⟨x, st⟩
  · rw [hst] at p5; exact p5
  · rw [hst] at p5 hop
    exact ⟨p5.1, p5.2.1, hop x List.mem_cons_self, fun y hy => ⟨p5.2.2 y hy, hop y (List.mem_cons_of_mem _ hy)⟩⟩
end Go.Pm
