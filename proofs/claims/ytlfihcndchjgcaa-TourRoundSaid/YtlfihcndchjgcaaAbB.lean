/- An abstract layer over the model, of this session's own: part AbB. -/
import Derived.Test.YtlfihcndchjgcaaAbA
import Derived.Deep.LoopGhost
import Derived.ScopeJumps
import Derived.OrdersHeld
import Derived.StillTail
import Derived.Laws.Sem
import Derived.IntWalk
set_option linter.unusedVariables false
set_option linter.unusedSimpArgs false
namespace Go.Ab
open Go

/-! ### The compact code -/
/-- A load that is looked at once more: how, from where, under which guard, and what it has given. -/
structure Chk where
  n : Option Nat
  a : Operand
  g : Option (Nat × Bool)
  d : Nat
structure AOper where
  d : Option Nat
  g : Option (Nat × Bool)
  op : AOp
  k : List Chk

inductive ACode where
  | nil
  | reg (ops : List AOper) (k : ACode)
  | both (a b : ACode)
  | cond (c : Operand) (a b k : ACode)
  | block (id : Nat) (b k : ACode)
  | loop (b : ACode)
  | exit (id : Nat)
  | ret
  | goto (l : Nat)
  | label (l : Nat) (k : ACode)
  | scope (b k : ACode)

inductive AEx where
  | normal
  | exit (id : Nat)
  | ret
  | goto (l : Nat)
  | panic (v : Value)
inductive AEnd where
  | ret (v : Value)
  | panic (v : Value)

/-- A function that a call enters. -/
def entersB (P : Program) (f : FuncId) : Bool := (P.funcs[f]?).any fun fd => fd.body.isSome && !(fd.name == "runtime.NumGoroutine")
/-- A call, as its callers see it: from every world that the heap tells of. -/
structure ACall (P : Program) (f : FuncId) (args : List Value) (H : Heap) (Q : AEnd → Heap → Prop) : Prop where
  ent : entersB P f = true
  all : ∀ (base : Nat) (s : Sig) (w : World) (args' : List Value), HRel base P.globals.size s H w → All2 (VRel s) args args' →
    Calls P f args'.toArray w fun e w' => ∃ s' H', HRel base P.globals.size s' H' w' ∧ Ext s H w s' H' w' ∧
      ((∃ v v', e = .returned v' ∧ VRel s' v v' ∧ Q (.ret v) H') ∨ (∃ v, e = .panicked [{ v, recovered := false }] ∧ plainV v = true ∧ Q (.panic v) H'))
theorem ACall.mono {P : Program} {f : FuncId} {args : List Value} {H : Heap} {Q Q' : AEnd → Heap → Prop} (h : ACall P f args H Q) (k : ∀ e H', Q e H' → Q' e H') : ACall P f args H Q' := by
  refine ⟨h.ent, fun base s w args' h1 h2 => (h.all base s w args' h1 h2).mono ?_⟩
  rintro e w' ⟨s', H', a, b, c | c⟩
  · obtain ⟨v, v', d, e', q⟩ := c; exact ⟨s', H', a, b, .inl ⟨v, v', d, e', k _ _ q⟩⟩
  · obtain ⟨v, d, e', q⟩ := c; exact ⟨s', H', a, b, .inr ⟨v, d, e', k _ _ q⟩⟩

def updO (e : Env) (d : Option Nat) (v : Value) : Env := match d with | some d => upd e d v | none => e
def wantA (g : Option (Nat × Bool)) (e : Env) : Bool := match g with | none => true | some (d, want) => match e d with | .bool b => b == want | _ => false
def chkA (e : Env) (H : Heap) : List Chk → Prop
  | [] => True
  | c :: r => (wantA c.g e = true → ldA c.n H (ev e c.a) = some (e c.d)) ∧ chkA e H r
def isPure : AOp → Bool
  | .ld _ _ => false
  | .st _ _ _ => false
  | .bx _ => false
  | .al _ => false
  | .bs _ _ _ _ => false
  | .ms _ _ _ _ _ => false
  | .app _ _ _ _ _ => false
  | .clr _ _ _ => false
  | .call _ _ => false
  | .dyn _ _ => false
  | .pan _ => false
  | _ => true
def isLd : AOp → Bool | .ld _ _ => true | _ => false
def isW (o : AOp) : Bool := !isPure o && !isLd o

/-- What a call of a function value enters. -/
def calleeA (v : Value) (args : List Value) : Option (FuncId × List Value) :=
  match v with
  | .func (.func f) first cap => some (f, first.toList ++ args ++ cap.toList)
  | _ => none
def EndK (N X : Value → Heap → Prop) : AEnd → Heap → Prop := fun en H => match en with | .ret v => N v H | .panic v => X v H
/-- One operation. -/
def StepA (P : Program) (op : AOp) (ρ : Operand → Value) (H : Heap) (N X : Value → Heap → Prop) : Prop :=
  match op with
  | .call f args => ACall P f (args.map ρ) H (EndK N X)
  | .dyn x args => ∃ f vs, calleeA (ρ x) (args.map ρ) = some (f, vs) ∧ ACall P f vs H (EndK N X)
  | .pan x => plainV (ρ x) = true ∧ (∃ t u, ρ x = .iface t u) ∧ X (ρ x) H
  | op => if isPure op = true then ∃ v, pureA P op ρ = some v ∧ N v H else ∃ v H', memA op ρ H = some (v, H') ∧ N v H'
def AOps (P : Program) : List AOper → (Env → Heap → Prop) → (Value → Heap → Prop) → Env → Heap → Prop
  | [], K, _, e, H => K e H
  | o :: os, K, X, e, H =>
    if wantA o.g e = true then StepA P o.op (ev e) H (fun v H' => chkA (updO e o.d v) H' o.k ∧ AOps P os K X (updO e o.d v) H') X
    else AOps P os K X (updO e o.d undef) H

def Post := AEx → Env → Heap → Prop
def isB (v : Value) (b : Bool) : Prop := v = .bool b
def findL : ACode → Nat → Option ACode
  | .label l' k, l => if l' = l then some k else findL k l
  | .reg _ k, l => findL k l
  | .cond _ _ _ k, l => findL k l
  | .block _ _ k, l => findL k l
  | .scope _ k, l => findL k l
  | _, _ => none

/-- What is to hold behind a branch, a block, a round. -/
def thenP (N : Env → Heap → Prop) (Q : Post) : Post := fun ex e H => match ex with | .normal => N e H | .exit i => Q (.exit i) e H | .ret => Q .ret e H | .goto l => Q (.goto l) e H | .panic v => Q (.panic v) e H
def blkP (id : Nat) (N : Env → Heap → Prop) (Q : Post) : Post := fun ex e H => match ex with | .normal => N e H | .exit i => if i = id then N e H else Q (.exit i) e H | .ret => Q .ret e H | .goto l => Q (.goto l) e H | .panic v => Q (.panic v) e H
def panP (Q : Post) : Value → Heap → Prop := fun v H => ∀ e, Q (.panic v) e H

def AW (P : Program) : ACode → Post → Env → Heap → Prop
  | .nil, Q, e, H => Q .normal e H
  | .reg ops k, Q, e, H => AOps P ops (AW P k Q) (panP Q) e H
  | .both a b, Q, e, H => AW P a Q e H ∧ AW P b Q e H
  | .cond c a b k, Q, e, H => ∃ t, ev e c = .bool t ∧ (if t = true then AW P a (thenP (AW P k Q) Q) e H else AW P b (thenP (AW P k Q) Q) e H)
  | .block id b k, Q, e, H => AW P b (blkP id (AW P k Q) Q) e H
  | .loop b, Q, e, H => ∃ I : Nat → Env → Heap → Prop, (∃ n, I n e H) ∧ ∀ n e H, I n e H → AW P b (thenP (fun e' H' => ∃ m, m < n ∧ I m e' H') Q) e H
  | .exit id, Q, e, H => Q (.exit id) e H
  | .ret, Q, e, H => Q .ret e H
  | .goto l, Q, e, H => Q (.goto l) e H
  | .label _ k, Q, e, H => AW P k Q e H
  | .scope b k, Q, e, H => False

/-! ### From the program's code -/
def mapMI {α β : Type} (f : Nat → α → Option β) : Nat → List α → Option (List β)
  | _, [] => some []
  | i, a :: l => (f i a).bind fun b => (mapMI f (i + 1) l).map fun r => b :: r
def flatG (ops : Array Oper) : Option (Nat × Bool) → Option (Option (Nat × Bool))
  | none => some none
  | some (j, want) => ((ops[j]?).bind (·.dst)).map fun d => some (d, want)
def flatOne (P : Program) (n : Nat) (ops : Array Oper) (o : Oper) : Option AOper :=
  if o.dst.all (· < n) && (o.guard.all fun g => ((ops[g.1]?).bind (·.dst)).all (· < n)) then
    (flatG ops o.guard).bind fun g => (flatX P o.op o.type).map fun op => { d := o.dst, g, op, k := [] }
  else none
end Go.Ab

namespace Go.Ab
open Go

/-- Abstract and concrete state of a call. -/
structure CRel (P : Program) (n base : Nat) (s : Sig) (e : Env) (H : Heap) (a : Act) (w : World) : Prop where
  heap : HRel base P.globals.size s H w
  env : ∀ i, VRel s (e i) (a.tmps.getD i undef)
  size : a.tmps.size = n
  defers : a.defers = []

section
variable {P : Program} {n base : Nat} {s : Sig} {e : Env} {H : Heap} {a : Act} {w : World}

theorem vrel_undef : VRel s undef undef := vrel_of_plain (by simp [undef, plainV])
theorem put_rel {s' : Sig} (hle : s.le s') (h : ∀ i, VRel s (e i) (a.tmps.getD i undef)) (hs : a.tmps.size = n) (d : Option Nat) (hd : d.all (· < n) = true) {v v' : Value} (r : VRel s' v v') :
    (∀ i, VRel s' (updO e d v i) ((a.put d v').tmps.getD i undef)) ∧ (a.put d v').tmps.size = n ∧ (a.put d v').defers = a.defers := by
  cases d with
  | none => exact ⟨fun i => (h i).mono hle, hs, rfl⟩
  | some d =>
    have hdn : d < n := by simpa using hd
    refine ⟨fun i => ?_, by simp [Act.put, hs], rfl⟩
    simp only [updO, upd, Act.put]
    by_cases hi : i = d
    · subst hi
      rw [if_pos rfl]
      have : (a.tmps.setIfInBounds i v').getD i undef = v' := by
        rw [Array.getD_eq_getD_getElem?, Array.getElem?_setIfInBounds_self_of_lt (by omega)]; rfl
      rw [this]; exact r
    · rw [if_neg hi]
      have : (a.tmps.setIfInBounds d v').getD i undef = a.tmps.getD i undef := by
        rw [Array.getD_eq_getD_getElem?, Array.getElem?_setIfInBounds_ne (by omega), Array.getD_eq_getD_getElem?]
      rw [this]; exact (h i).mono hle
theorem relX_of (hc : CRel P n base s e H a w) (op : Op) : RelX P.globals.size s (ev e) a.eval op := by
  refine ⟨fun x _ hx => ?_, ⟨fun v => rfl, fun f => rfl⟩, fun v => rfl⟩
  cases x with
  | tmp t => exact hc.env t
  | const v => exact vrel_of_plain hx
  | global g =>
    obtain ⟨m, hm⟩ := hc.heap.glob g (by simpa [okX] using hx)
    have := PRel.ptr (s := s) g g 0 m 0 hm
    exact .one (.one (.base this))
  | func f => exact vrel_of_plain rfl
theorem vrel_bool_inv {v : Value} {b : Bool} (r : VRel s v (.bool b)) : v = .bool b := by
  cases r with
  | one r => cases r with
    | one r => cases r with
      | base r => cases r with
        | plain => rfl
/-- Guards are answered alike. -/
theorem want_rel (hc : ∀ i, VRel s (e i) (a.tmps.getD i undef)) (hs : a.tmps.size = n) (ops : Array Oper) (o : Oper) (g : Option (Nat × Bool)) (hg : flatG ops o.guard = some g)
    (hd : (o.guard.all fun q => ((ops[q.1]?).bind (·.dst)).all (· < n)) = true) : Region.wanted o (yielded ops a.tmps) = wantA g e := by
  cases ho : o.guard with
  | none =>
    rw [ho] at hg
    simp only [flatG, Option.some.injEq] at hg; subst hg
    simp [Region.wanted, ho, wantA]
  | some q =>
    obtain ⟨j, want⟩ := q
    rw [ho] at hg hd
    simp only [flatG, Option.map_eq_some_iff] at hg
    obtain ⟨d, hj, rfl⟩ := hg
    simp only [Option.all_some, hj] at hd
    have hdn : d < n := by simpa using hd
    have hget : a.tmps[d]? = some (a.tmps.getD d undef) := by
      rw [Array.getD_eq_getD_getElem?, Array.getElem?_eq_getElem (by omega)]; rfl
    have hr := hc d
    simp only [Region.wanted, ho, yielded, hj, Option.bind_some, hget, wantA]
    cases hv : e d with
    | bool b =>
      rw [hv] at hr
      have := vrel_plain hr rfl
      rw [this]
      cases b <;> cases want <;> rfl
    | _ =>
      have hnb : ∀ b, a.tmps.getD d undef ≠ .bool b := by
        intro b hb
        rw [hb] at hr
        have := vrel_bool_inv hr
        rw [hv] at this; cases this
      cases hu : a.tmps.getD d undef with
      | bool b => exact absurd hu (hnb b)
      | _ => rfl

/-- What must hold behind a piece of code. -/
def After (P : Program) (n base : Nat) (s0 : Sig) (H0 : Heap) (w0 : World) (N : Env → Heap → Prop) (Q : Post) : Exit → Act → World → Prop := fun ex a w =>
  ∃ s e H, CRel P n base s e H a w ∧ Ext s0 H0 w0 s H w ∧ match ex with
    | .normal => N e H
    | .exit id => Q (.exit id) e H
    | .ret => Q .ret e H
    | .goto l => Q (.goto l) e H
    | .panic ch => ∃ v, ch = [{ v, recovered := false }] ∧ plainV v = true ∧ Q (.panic v) e H
    | .outgrown => False

theorem next_value {o : Oper} {K : Act → World → Prop} {Q : Exit → Act → World → Prop} {v : Value} {w' : World} {r : Next} (hrun : (execOp a.eval o).run P w = .ok r w') (hr : r = .value v ∨ (r = .skip ∧ v = undef))
    (h : K (a.put o.dst v) w') : o.wp P a w K Q := by
  unfold Oper.wp
  rw [hrun]
  rcases hr with rfl | ⟨rfl, rfl⟩ <;> exact h

theorem run_call {o : Oper} {c : Call} {f : FuncId} {vs : List Value} {fn : Fn} {first cap : Array Value} (ho : o.op = .call c) {x : Operand} (hcal : c.callee = .value x) (hx : a.eval x = .func (.func f) first cap)
    (hen : entersB P f = true) (hvs : first.toList ++ c.args.toList.map a.eval ++ cap.toList = vs) :
    (execOp a.eval o).run P w = .ok (.enter f vs.toArray) w := by
  obtain ⟨dst, op, type, pos, after, guard⟩ := o
  simp only at ho; subst ho
  obtain ⟨callee, args, tys⟩ := c
  simp only at hcal; subst hcal
  simp only at hvs
  unfold entersB at hen
  cases hf : P.funcs[f]? with
  | none => simp [hf] at hen
  | some fd =>
    simp only [hf, Option.any_some, Bool.and_eq_true, Bool.not_eq_true', beq_eq_false_iff_ne, ne_eq] at hen
    obtain ⟨hb, hnm⟩ := hen
    have hbn : ¬ fd.body = none := by cases hb2 : fd.body <;> simp_all
    have e1 : first ++ Array.map a.eval args ++ cap = vs.toArray := by rw [← hvs]; apply Array.ext'; simp
    simp [execOp, resolve, hx, Deferred.ofValue, invoke, callFunc, hf, hbn, hnm, e1]

theorem entry_call {f : FuncId} {vs vs' : List Value} {Q : AEnd → Heap → Prop} (h : ACall P f vs H Q) (hh : HRel base P.globals.size s H w) (r : All2 (VRel s) vs vs') {o : Oper} {next : Act → World → Prop} {X : Exit → Act → World → Prop}
    (hrun : (execOp a.eval o).run P w = .ok (.enter f vs'.toArray) w)
    (hn : ∀ s' H' w' v v', HRel base P.globals.size s' H' w' → Ext s H w s' H' w' → VRel s' v v' → Q (.ret v) H' → next (a.put o.dst v') w')
    (hp : ∀ s' H' w' v, HRel base P.globals.size s' H' w' → Ext s H w s' H' w' → plainV v = true → Q (.panic v) H' → X (.panic [{ v, recovered := false }]) a w') : o.wp P a w next X := by
  unfold Oper.wp
  rw [hrun]
  simp only [Oper.upon]
  refine (h.all base s w vs' hh r).mono ?_
  rintro en w' ⟨s', H', a1, b, ⟨v, v', rfl, e', q⟩ | ⟨v, rfl, e', q⟩⟩
  · exact hn s' H' w' v v' a1 b e' q
  · exact hp s' H' w' v a1 b e' q
end
end Go.Ab

namespace Go.Ab
open Go

section
variable {P : Program} {n base : Nat} {s : Sig} {e : Env} {H : Heap} {a : Act} {w : World}

theorem flatC_some {op : Op} {ao : AOp} (h : flatC P op = some ao) :
    (∃ f c, op = .call c ∧ c.callee = .value (.func f) ∧ ao = .call f c.args.toList) ∨ (∃ t c, op = .call c ∧ c.callee = .value (.tmp t) ∧ ao = .dyn (.tmp t) c.args.toList) ∨ (∃ x, op = .panic x ∧ ao = .pan x) := by
  unfold flatC at h
  split at h
  · cases op with
    | call c =>
      simp only at h
      split at h
      · rename_i f hc
        split at h
        · cases h
        · simp only [Option.some.injEq] at h; exact .inl ⟨f, c, rfl, hc, h.symm⟩
      · rename_i t hc; simp only [Option.some.injEq] at h; exact .inr (.inl ⟨t, c, rfl, hc, h.symm⟩)
      · simp at h
    | panic x => simp only [Option.some.injEq] at h; exact .inr (.inr ⟨x, rfl, h.symm⟩)
    | _ => simp at h
  · simp at h
theorem flatC_ops {op : Op} {ao : AOp} (h : flatC P op = some ao) : op.operands.all (okX P.globals.size) = true := by
  unfold flatC at h
  split at h
  · assumption
  · simp at h

/-- One operation, sound. -/
theorem step_sound {o : Oper} {ao : AOp} (hf : flatX P o.op o.type = some ao) (hX : RelX P.globals.size s (ev e) a.eval o.op) (hh : HRel base P.globals.size s H w) {N X : Value → Heap → Prop} (hst : StepA P ao (ev e) H N X)
    {next : Act → World → Prop} {Q : Exit → Act → World → Prop}
    (hn : ∀ s' H' w' v v', HRel base P.globals.size s' H' w' → Ext s H w s' H' w' → VRel s' v v' → N v H' → next (a.put o.dst v') w')
    (hp : ∀ s' H' w' v, HRel base P.globals.size s' H' w' → Ext s H w s' H' w' → plainV v = true → X v H' → Q (.panic [{ v, recovered := false }]) a w') : o.wp P a w next Q := by
  unfold flatX at hf
  split at hf
  · rename_i ao' hc
    simp only [Option.some.injEq] at hf; subst hf
    have hops := all_ops (flatC_ops hc) hX
    rcases flatC_some hc with ⟨f, c, hop, hcal, rfl⟩ | ⟨t, c, hop, hcal, rfl⟩ | ⟨x, hop, rfl⟩
    · have hargs : All2 (VRel s) (c.args.toList.map (ev e)) (c.args.toList.map a.eval) := All2.of_fun _ fun x hx => hops x (by rw [hop]; simp [Op.operands, Call.operands, hcal]; right; simpa using hx)
      have hrun := run_call (P := P) (a := a) (w := w) (vs := c.args.toList.map a.eval) (fn := .func f) (first := #[]) (cap := #[]) hop hcal (f := f) rfl hst.ent (by simp)
      exact entry_call hst hh hargs hrun hn hp
    · obtain ⟨f, vs, hcl, hst⟩ := hst
      have hx := hops (.tmp t) (by rw [hop]; simp [Op.operands, Call.operands, hcal])
      have hargs : All2 (VRel s) (c.args.toList.map (ev e)) (c.args.toList.map a.eval) := All2.of_fun _ fun x hx => hops x (by rw [hop]; simp [Op.operands, Call.operands, hcal]; right; simpa using hx)
      unfold calleeA at hcl
      split at hcl
      · rename_i f' first cap hv
        simp only [Option.some.injEq, Prod.mk.injEq] at hcl
        obtain ⟨rfl, rfl⟩ := hcl
        rw [hv] at hx
        obtain ⟨zs, us, ex, r1, r2⟩ := vrel_func hx
        have hrun := run_call (P := P) (a := a) (w := w) (vs := zs.toList ++ c.args.toList.map a.eval ++ us.toList) (fn := .func f') (first := zs) (cap := us) hop hcal (f := f') ex hst.ent rfl
        have lift : ∀ {xs ys : List Value}, All2 (PRel s) xs ys → All2 (VRel s) xs ys := fun h => h.imp fun _ _ r => .one (.one (.base r))
        exact entry_call hst hh (((lift r1).append hargs).append (lift r2)) hrun hn hp
      · simp at hcl
    · obtain ⟨hpl, ⟨t, u, hi⟩, hx⟩ := hst
      have hr := hops x (by rw [hop]; simp [Op.operands])
      have ex := vrel_plain hr hpl
      unfold Oper.wp
      obtain ⟨dst, op, type, pos, after, guard⟩ := o
      simp only at hop; subst hop
      have hrun : (execOp a.eval { dst, op := .panic x, type, pos, after, guard }).run P w = .halt (.panic (ev e x)) w := by
        simp [execOp, ex, hi, Instr.panic]
      rw [hrun]
      exact hp s H w _ hh (Ext.refl ..) hpl hx
  · split at hf
    · rename_i ao' hfo
      split at hf
      · simp at hf
      · rename_i hctl
        simp only [Option.some.injEq] at hf; subst hf
        have hst' : if isPure ao' = true then ∃ v, pureA P ao' (ev e) = some v ∧ N v H else ∃ v H', memA ao' (ev e) H = some (v, H') ∧ N v H' := by
          cases ao' <;> first | exact hst | exact absurd rfl hctl
        split at hst'
        · obtain ⟨v, hv, hN⟩ := hst'
          obtain ⟨v', r, hrun⟩ := pure_sound hX hfo hv
          exact next_value (hrun w) (.inl rfl) (hn s H w v v' hh (Ext.refl ..) r hN)
        · obtain ⟨v, H', hv, hN⟩ := hst'
          obtain ⟨v', s', w', r, hrun, hr, r1, r2, r3⟩ := mem_sound hh hX hfo hv
          exact next_value hrun hr (hn s' H' w' v v' r2 r3 r1 hN)
    · simp at hf

theorem flatOne_some {ops : Array Oper} {o : Oper} {ao : AOper} (h : flatOne P n ops o = some ao) :
    o.dst.all (· < n) = true ∧ (o.guard.all fun q => ((ops[q.1]?).bind (·.dst)).all (· < n)) = true ∧ flatG ops o.guard = some ao.g ∧ flatX P o.op o.type = some ao.op ∧ ao.d = o.dst ∧ ao.k = [] := by
  unfold flatOne at h
  split at h
  · rename_i hc
    simp only [Bool.and_eq_true] at hc
    simp only [Option.bind_eq_some_iff, Option.map_eq_some_iff] at h
    obtain ⟨g, hg, op, hop, rfl⟩ := h
    exact ⟨hc.1, hc.2, hg, hop, rfl, rfl⟩
  · simp at h

theorem after_ops {s0 : Sig} {H0 : Heap} {w0 : World} {ops : Array Oper} {K : Env → Heap → Prop} {Q : Post} : ∀ (l : List Oper) (fl : List AOper), l.mapM (flatOne P n ops) = some fl →
    ∀ (e : Env) (H : Heap), AOps P fl K (panP Q) e H → ∀ (s : Sig) (a : Act) (w : World), CRel P n base s e H a w → Ext s0 H0 w0 s H w → wpList P ops (After P n base s0 H0 w0 K Q) l a w := by
  intro l
  induction l with
  | nil =>
    intro fl hfl e H hA s a w hc hx
    simp at hfl; subst hfl
    exact ⟨s, e, H, hc, hx, hA⟩
  | cons o l ih =>
    intro fl hfl e H hA s a w hc hx
    simp only [List.mapM_cons, Option.bind_eq_bind, Option.bind_eq_some_iff, Option.pure_def, Option.some.injEq] at hfl
    obtain ⟨ao, hao, fl', hfl', rfl⟩ := hfl
    obtain ⟨h1, h2, h3, h4, h5, h6⟩ := flatOne_some hao
    have hw := want_rel hc.env hc.size ops o ao.g h3 h2
    simp only [AOps] at hA
    unfold wpList
    rw [hw]
    split at hA
    · rename_i hwt
      rw [if_pos hwt]
      left
      refine step_sound h4 (relX_of hc o.op) hc.heap hA ?_ ?_
      · intro s' H' w' v v' r1 r2 r3 ⟨_, hN⟩
        obtain ⟨p1, p2, p3⟩ := put_rel r2.le hc.env hc.size o.dst h1 r3
        rw [h5] at hN
        exact ih fl' hfl' _ _ hN s' _ w' ⟨r1, p1, p2, p3.trans hc.defers⟩ (hx.trans r2)
      · intro s' H' w' v r1 r2 r3 hX
        exact ⟨s', e, H', ⟨r1, fun i => (hc.env i).mono r2.le, hc.size, hc.defers⟩, hx.trans r2, v, rfl, r3, hX e⟩
    · rename_i hwt
      rw [if_neg hwt]
      obtain ⟨p1, p2, p3⟩ := put_rel s.le_refl hc.env hc.size o.dst h1 vrel_undef
      rw [h5] at hA
      exact ih fl' hfl' _ _ hA s _ w ⟨hc.heap, p1, p2, p3.trans hc.defers⟩ hx
end
end Go.Ab

namespace Go.Ab
open Go

/-! ### What an operation looks at -/
def opsA : AOp → List Operand
  | .mv x => [x]
  | .pick c a b => [c, a, b]
  | .bin _ x y => [x, y]
  | .eqB _ x y => [x, y]
  | .eqG _ _ x y => [x, y]
  | .isnil _ _ x => [x]
  | .un _ x => [x]
  | .cvI _ x => [x]
  | .cvF _ x => [x]
  | .nilc x => [x]
  | .fa _ x => [x]
  | .ia _ x i => [x, i]
  | .iaA _ _ x i => [x, i]
  | .sl _ x lo hi mx => x :: (lo.toList ++ (hi.toList ++ mx.toList))
  | .slS x lo hi => x :: (lo.toList ++ hi.toList)
  | .fld _ _ x => [x]
  | .ixS x i => [x, i]
  | .ixA _ _ _ x i => [x, i]
  | .ext x _ => [x]
  | .bld _ ps => ps.map fun p => p.2.2
  | .mkf _ xs ys => xs ++ ys
  | .mki _ x => [x]
  | .len x => [x]
  | .lenS x => [x]
  | .mx xs => xs
  | .mn xs => xs
  | .re x => [x]
  | .im x => [x]
  | .cx x y => [x, y]
  | .nat _ xs => xs
  | .ld _ a => [a]
  | .st _ a v => [a, v]
  | .bx v => [v]
  | .al _ => []
  | .bs _ _ _ ps => ps.map fun p => p.2.2
  | .ms _ _ _ l c => [l, c]
  | .app _ _ _ s x => [s, x]
  | .clr _ _ x => [x]
  | .call _ args => args
  | .dyn f args => f :: args
  | .pan x => [x]

theorem fillA_congr {ρ ρ' : Operand → Value} : ∀ (ps : List (Nat × Nat × Operand)) (z : List Value), (∀ x ∈ ps.map (fun p => p.2.2), ρ x = ρ' x) → fillA ρ ps z = fillA ρ' ps z := by
  intro ps
  induction ps with
  | nil => intro z _; rfl
  | cons p ps ih =>
    intro z h
    simp only [List.map_cons, List.mem_cons, forall_eq_or_imp] at h
    simp only [fillA, h.1]
    first | rw [ih _ h.2] | (congr; funext; exact ih _ h.2)
theorem map_congrO {ρ ρ' : Operand → Value} {xs : List Operand} (h : ∀ x ∈ xs, ρ x = ρ' x) : xs.map ρ = xs.map ρ' := List.map_congr_left h
theorem omap_congrO {ρ ρ' : Operand → Value} {x : Option Operand} (h : ∀ y ∈ x.toList, ρ y = ρ' y) : x.map ρ = x.map ρ' := by cases x <;> simp_all

theorem pureA_congr {P : Program} {ρ ρ' : Operand → Value} (o : AOp) (h : ∀ x ∈ opsA o, ρ x = ρ' x) : pureA P o ρ = pureA P o ρ' := by
  cases o <;> simp only [opsA, List.mem_cons, List.mem_append, forall_eq_or_imp, or_imp, forall_and, List.not_mem_nil, false_implies, implies_true, and_true, forall_eq] at h <;> simp only [pureA] <;>
    first
    | rfl
    | (rw [h.1, h.2.1, h.2.2]; done)
    | (rw [h.1, h.2]; done)
    | (rw [h]; done)
    | (rw [h.1, omap_congrO h.2.1, omap_congrO h.2.2.1, omap_congrO h.2.2.2]; done)
    | (rw [h.1, omap_congrO h.2.1, omap_congrO h.2.2]; done)
    | (rw [fillA_congr _ _ h]; done)
    | (rw [map_congrO h.1, map_congrO h.2]; done)
    | (rw [map_congrO h]; done)
    | skip
theorem memA_congr {ρ ρ' : Operand → Value} {H : Heap} (o : AOp) (h : ∀ x ∈ opsA o, ρ x = ρ' x) : memA o ρ H = memA o ρ' H := by
  cases o <;> simp only [opsA, List.mem_cons, List.mem_append, forall_eq_or_imp, or_imp, forall_and, List.not_mem_nil, false_implies, implies_true, and_true, forall_eq] at h <;> simp only [memA] <;>
    first
    | rfl
    | (rw [h.1, h.2]; done)
    | (rw [h]; done)
    | (rw [fillA_congr _ _ h]; done)
    | skip

theorem step_mono {P : Program} {o : AOp} {ρ ρ' : Operand → Value} {H : Heap} {N X N' X' : Value → Heap → Prop} (h : ∀ x ∈ opsA o, ρ x = ρ' x) (hs : StepA P o ρ H N X)
    (hN : ∀ v H', (isW o = false → H' = H) → N v H' → N' v H') (hX : ∀ v H', X v H' → X' v H') : StepA P o ρ' H N' X' := by
  have gen : ∀ o : AOp, (∀ x ∈ opsA o, ρ x = ρ' x) → (∀ v H', (isW o = false → H' = H) → N v H' → N' v H') → 
      (if isPure o = true then ∃ v, pureA P o ρ = some v ∧ N v H else ∃ v H', memA o ρ H = some (v, H') ∧ N v H') → (if isPure o = true then ∃ v, pureA P o ρ' = some v ∧ N' v H else ∃ v H', memA o ρ' H = some (v, H') ∧ N' v H') := by
    intro o h hN hs
    split at hs
    · rename_i hp
      rw [if_pos hp]
      obtain ⟨v, hv, hn⟩ := hs
      exact ⟨v, by rw [← pureA_congr o h]; exact hv, hN v H (fun _ => rfl) hn⟩
    · rename_i hp
      rw [if_neg hp]
      obtain ⟨v, H', hv, hn⟩ := hs
      refine ⟨v, H', by rw [← memA_congr o h]; exact hv, hN v H' (fun hw => ?_) hn⟩
      cases o <;> simp [isW, isPure, isLd] at hw hp
      simp only [memA, Option.map_eq_some_iff, Prod.mk.injEq] at hv
      obtain ⟨_, _, _, e⟩ := hv; exact e.symm
  cases o with
  | call f args =>
    simp only [StepA] at hs ⊢
    rw [← map_congrO (ρ := ρ) (ρ' := ρ') (xs := args) h]
    refine hs.mono ?_
    intro en H' q
    cases en with
    | ret v => exact hN v H' (fun hw => by simp [isW, isPure, isLd] at hw) q
    | panic v => exact hX v H' q
  | dyn x args =>
    simp only [StepA] at hs ⊢
    simp only [opsA, List.mem_cons, forall_eq_or_imp] at h
    rw [← map_congrO (ρ := ρ) (ρ' := ρ') (xs := args) h.2, ← h.1]
    obtain ⟨f, vs, a, b⟩ := hs
    refine ⟨f, vs, a, b.mono ?_⟩
    intro en H' q
    cases en with
    | ret v => exact hN v H' (fun hw => by simp [isW, isPure, isLd] at hw) q
    | panic v => exact hX v H' q
  | pan x =>
    simp only [StepA] at hs ⊢
    simp only [opsA, List.mem_cons, forall_eq_or_imp] at h
    rw [← h.1]
    exact ⟨hs.1, hs.2.1, hX _ _ hs.2.2⟩
  | _ => exact gen _ h hN hs
end Go.Ab

namespace Go.Ab
open Go

/-! ### Drawn regions: every order, and one for all -/
def tmpsO (xs : List Operand) : List Nat := xs.filterMap fun | .tmp t => some t | _ => none
def looksA (o : AOper) : List Nat := tmpsO (opsA o.op) ++ (match o.g with | some (d, _) => [d] | none => [])

theorem ev_updO {e : Env} {xs : List Operand} {d : Option Nat} {v : Value} (h : ∀ t, d = some t → t ∉ tmpsO xs) : ∀ x ∈ xs, ev (updO e d v) x = ev e x := by
  intro x hx
  cases d with
  | none => rfl
  | some d =>
    cases x with
    | tmp t =>
      have : t ≠ d := by
        rintro rfl
        exact h t rfl (List.mem_filterMap.2 ⟨.tmp t, hx, rfl⟩)
      simp [ev, updO, upd, this]
    | _ => rfl
theorem want_updO {e : Env} {g : Option (Nat × Bool)} {d : Option Nat} {v : Value} (h : ∀ t, d = some t → t ∉ (match g with | some (d, _) => [d] | none => [])) : wantA g (updO e d v) = wantA g e := by
  cases g with
  | none => rfl
  | some g =>
    obtain ⟨j, want⟩ := g
    cases d with
    | none => rfl
    | some d =>
      have : j ≠ d := by
        rintro rfl
        exact h j rfl (by simp)
      simp [wantA, updO, upd, this]
theorem updO_comm {e : Env} {d d' : Option Nat} {v u : Value} (h : ∀ t, d = some t → d' ≠ some t) : updO (updO e d v) d' u = updO (updO e d' u) d v := by
  cases d with
  | none => rfl
  | some d =>
    cases d' with
    | none => rfl
    | some d' =>
      have : d ≠ d' := fun h' => h d rfl (by rw [h'])
      funext i
      simp only [updO, upd]
      by_cases h1 : i = d
      · subst h1; simp [this]
      · simp [h1]

section
variable {P : Program} {ops : Array Oper} {fl : List AOper} {anc : Nat → Nat} {K : Env → Heap → Prop} {X : Value → Heap → Prop}

/-- Each load listed so far, other than those that the operation waits for, would give the same once more. -/
def chkL (fl : List AOper) (anc : Nat → Nat) (listed : Array Bool) (i : Nat) (e : Env) (H : Heap) : Prop :=
  ∀ q oq n a d, fl[q]? = some oq → listed.getD q false = true → oq.op = .ld n a → oq.d = some d → (anc i).testBit q = false → wantA oq.g e = true → ldA n H (ev e a) = some (e d)

def stepO (P : Program) (o : AOper) (C N : Env → Heap → Prop) (X : Value → Heap → Prop) (e : Env) (H : Heap) : Prop :=
  if wantA o.g e = true then StepA P o.op (ev e) H (fun v H' => (isW o.op = true → C (updO e o.d v) H') ∧ N (updO e o.d v) H') X
  else N (updO e o.d undef) H

def AAny (P : Program) (ops : Array Oper) (fl : List AOper) (anc : Nat → Nat) (K : Env → Heap → Prop) (X : Value → Heap → Prop) : Nat → Array Bool → Env → Heap → Prop
  | 0, listed, e, H => Region.ready .any ops listed = [] ∧ K e H
  | f + 1, listed, e, H => (Region.ready .any ops listed = [] → K e H) ∧ ∀ i ∈ Region.ready .any ops listed, ∃ o, fl[i]? = some o ∧
      stepO P o (chkL fl anc listed i) (AAny P ops fl anc K X f (listed.setIfInBounds i true)) X e H

def predsOf (ops : Array Oper) (i : Nat) : List Nat := match ops[i]? with | some o => (o.after.toList.filter (Region.binds .any)).map (·.on) | none => []
/-- Of each operation all those that stand ahead of it. -/
def ancF (t : List Nat) (l : List Nat) (m : Nat) : Nat := match l with
  | [] => m
  | q :: r => ancF t r (m ||| (2 ^ q) ||| t.getD q 0)
def ancT (preds : Nat → List Nat) : Nat → List Nat
  | 0 => []
  | i + 1 => let t := ancT preds i; t ++ [ancF t (preds i) 0]
def pairB (ops : Array Oper) (fl : List AOper) : Bool :=
  (fl.all fun o => !isLd o.op || o.d.isSome) && (List.range fl.length).all fun p => (List.range fl.length).all fun q =>
    match fl[p]?, fl[q]? with
    | some op, some oq => (match op.d with
      | none => true
      | some d => (!(looksA oq).contains d || (predsOf ops q).contains p || (p == q && !isLd oq.op)) && (p == q || oq.d != some d))
    | _, _ => true

structure Pairs (ops : Array Oper) (fl : List AOper) : Prop where
  look : ∀ (p q : Nat) (op oq : AOper) (d : Nat), fl[p]? = some op → fl[q]? = some oq → op.d = some d → d ∈ looksA oq → p ∈ predsOf ops q ∨ (p = q ∧ isLd oq.op = false)
  ldd : ∀ (q : Nat) (oq : AOper), fl[q]? = some oq → isLd oq.op = true → oq.d.isSome = true
  dst : ∀ (p q : Nat) (op oq : AOper) (d : Nat), fl[p]? = some op → fl[q]? = some oq → op.d = some d → oq.d = some d → p = q
theorem pairB_spec (h : pairB ops fl = true) : Pairs ops fl := by
  simp only [pairB, Bool.and_eq_true] at h
  obtain ⟨h0, h⟩ := h
  have key : ∀ (p q : Nat) (op oq : AOper) (d : Nat), fl[p]? = some op → fl[q]? = some oq → op.d = some d →
      ((!(looksA oq).contains d || (predsOf ops q).contains p || (p == q && !isLd oq.op)) && (p == q || oq.d != some d)) = true := by
    intro p q op oq d hp hq hd
    have h1 := List.all_eq_true.1 (List.all_eq_true.1 h p (List.mem_range.2 (List.getElem?_eq_some_iff.1 hp).1)) q (List.mem_range.2 (List.getElem?_eq_some_iff.1 hq).1)
    simpa only [hp, hq, hd] using h1
  constructor
  · intro p q op oq d hp hq hd hl
    have := key p q op oq d hp hq hd
    simp only [Bool.and_eq_true, Bool.or_eq_true, Bool.not_eq_true', List.contains_eq_mem, decide_eq_false_iff_not, decide_eq_true_eq, beq_iff_eq] at this
    rcases this.1 with (h1 | h1) | h1
    · exact absurd hl h1
    · exact .inl h1
    · exact .inr h1
  · intro q oq hq hl
    have := List.all_eq_true.1 h0 oq (List.mem_of_getElem? hq)
    simpa [hl] using this
  · intro p q op oq d hp hq hd hd'
    have := key p q op oq d hp hq hd
    simp only [Bool.and_eq_true, Bool.or_eq_true, hd', beq_iff_eq, bne_self_eq_false, Bool.false_eq_true, or_false] at this
    exact this.2

def Closed (ops : Array Oper) (listed : Array Bool) : Prop := ∀ j, listed.getD j false = true → ∀ q ∈ predsOf ops j, listed.getD q false = true
theorem ready_preds {listed : Array Bool} {j : Nat} (h : j ∈ Region.ready .any ops listed) : ∀ q ∈ predsOf ops j, listed.getD q false = true := by
  obtain ⟨_, o, ho, hall⟩ := mem_ready.1 h
  intro q hq
  simp only [predsOf, ho, List.mem_map, List.mem_filter, Array.mem_toList_iff] at hq
  obtain ⟨e, ⟨he, hb⟩, rfl⟩ := hq
  exact hall e he hb
theorem Closed.set {listed : Array Bool} {i : Nat} (h : Closed ops listed) (hi : i ∈ Region.ready .any ops listed) : Closed ops (listed.setIfInBounds i true) := by
  intro j hj q hq
  by_cases hij : i = j
  · subst hij; exact getD_set_true (ready_preds hi q hq)
  · rw [getD_set_ne false hij] at hj
    exact getD_set_true (h j hj q hq)

theorem ancT_length (preds : Nat → List Nat) : ∀ n, (ancT preds n).length = n
  | 0 => rfl
  | n + 1 => by simp [ancT, ancT_length preds n]
theorem ancF_bit (t : List Nat) (q : Nat) : ∀ (l : List Nat) (m : Nat), (ancF t l m).testBit q = true → m.testBit q = true ∨ q ∈ l ∨ ∃ r ∈ l, (t.getD r 0).testBit q = true
  | [], m, h => .inl h
  | p :: l, m, h => by
    simp only [ancF] at h
    rcases ancF_bit t q l _ h with h | h | ⟨r, hr, h⟩
    · simp only [Nat.testBit_or, Bool.or_eq_true] at h
      rcases h with (h | h) | h
      · exact .inl h
      · rw [Nat.testBit_two_pow] at h
        exact .inr (.inl (by simp at h; simp [h]))
      · exact .inr (.inr ⟨p, by simp, h⟩)
    · exact .inr (.inl (by simp [h]))
    · exact .inr (.inr ⟨r, by simp [hr], h⟩)
theorem anc_listed {listed : Array Bool} (h : Closed ops listed) : ∀ (n j : Nat), (∀ q ∈ predsOf ops j, listed.getD q false = true) → ∀ q, ((ancT (predsOf ops) n).getD j 0).testBit q = true → listed.getD q false = true := by
  intro n
  induction n with
  | zero => intro j _ q hq; simp [ancT] at hq
  | succ n ih =>
    intro j hj q hq
    simp only [ancT] at hq
    by_cases hjn : j < n
    · have : ((ancT (predsOf ops) n ++ [ancF (ancT (predsOf ops) n) (predsOf ops n) 0]).getD j 0) = (ancT (predsOf ops) n).getD j 0 := by
        simp only [List.getD_eq_getElem?_getD]
        rw [List.getElem?_append_left (by rw [ancT_length]; exact hjn)]
      rw [this] at hq
      exact ih j hj q hq
    · by_cases hje : j = n
      · subst hje
        have : ((ancT (predsOf ops) j ++ [ancF (ancT (predsOf ops) j) (predsOf ops j) 0]).getD j 0) = ancF (ancT (predsOf ops) j) (predsOf ops j) 0 := by
          simp only [List.getD_eq_getElem?_getD]
          rw [List.getElem?_append_right (by rw [ancT_length]; exact Nat.le_refl _), ancT_length]
          simp
        rw [this] at hq
        rcases ancF_bit _ _ _ _ hq with hq | hq | ⟨r, hr, hq⟩
        · simp at hq
        · exact hj q hq
        · exact ih r (h r (hj r hr)) q hq
      · have : ((ancT (predsOf ops) n ++ [ancF (ancT (predsOf ops) n) (predsOf ops n) 0]).getD j 0) = 0 := by
          simp only [List.getD_eq_getElem?_getD]
          rw [List.getElem?_eq_none (by simp [ancT_length]; omega)]; rfl
        rw [this] at hq; simp at hq

/-- What an operation that changes nothing gives. -/
def YieldsA (P : Program) (o : AOper) (v : Value) (e : Env) (H : Heap) : Prop :=
  (wantA o.g e = true ∧ ((isPure o.op = true ∧ pureA P o.op (ev e) = some v) ∨ ∃ n a, o.op = .ld n a ∧ ldA n H (ev e a) = some v)) ∨ (wantA o.g e = false ∧ v = undef)

theorem YieldsA.step {o : AOper} {v : Value} {e : Env} {H : Heap} {C N : Env → Heap → Prop} (h : YieldsA P o v e H) (hw : isW o.op = false) (hn : N (updO e o.d v) H) : stepO P o C N X e H := by
  unfold stepO
  rcases h with ⟨h1, h2⟩ | ⟨h1, rfl⟩
  · rw [if_pos h1]
    rcases h2 with ⟨hp, hv⟩ | ⟨n, a, hop, hv⟩
    · have : StepA P o.op (ev e) H (fun v H' => (isW o.op = true → C (updO e o.d v) H') ∧ N (updO e o.d v) H') X = (if isPure o.op = true then ∃ v, pureA P o.op (ev e) = some v ∧ ((isW o.op = true → C (updO e o.d v) H) ∧ N (updO e o.d v) H) else ∃ v H', memA o.op (ev e) H = some (v, H') ∧ ((isW o.op = true → C (updO e o.d v) H') ∧ N (updO e o.d v) H')) := by
        cases ho : o.op <;> first | rfl | (rw [ho] at hp; simp [isPure] at hp)
      rw [this, if_pos hp]
      exact ⟨v, hv, (fun h => absurd (hw.symm.trans h) (by simp)), hn⟩
    · rw [hop]
      exact ⟨v, H, by simp [memA, hv], (fun h => absurd h (by simp [isW, isPure, isLd])), hn⟩
  · rw [if_neg (by rw [h1]; simp)]
    exact hn
theorem yields_of {o : AOper} {e : Env} {H : Heap} {N : Value → Heap → Prop} {X : Value → Heap → Prop} {M : Prop} (hw : isW o.op = false) (h : if wantA o.g e = true then StepA P o.op (ev e) H N X else M) :
    ∃ v, YieldsA P o v e H ∧ (wantA o.g e = true → N v H) ∧ (wantA o.g e = false → v = undef ∧ M) := by
  by_cases hg : wantA o.g e = true
  · rw [if_pos hg] at h
    cases ho : o.op <;> rw [ho] at h hw <;> first
      | (simp [isW, isPure, isLd] at hw; done)
      | (obtain ⟨v, H', h1, h2⟩ := h
         simp only [memA, Option.map_eq_some_iff, Prod.mk.injEq] at h1
         obtain ⟨u, h1, rfl, rfl⟩ := h1
         exact ⟨_, .inl ⟨hg, .inr ⟨_, _, ho, h1⟩⟩, fun _ => h2, fun h => by rw [hg] at h; cases h⟩)
      | (obtain ⟨v, h1, h2⟩ := h
         exact ⟨v, .inl ⟨hg, .inl ⟨by rw [ho]; rfl, by rw [ho]; exact h1⟩⟩, fun _ => h2, fun h => by rw [hg] at h; cases h⟩)
  · rw [if_neg hg] at h
    exact ⟨undef, .inr ⟨by simpa using hg, rfl⟩, fun h => absurd h hg, fun _ => ⟨rfl, h⟩⟩

/-- What an operation that changes nothing gives, it gives behind another that stands not ahead of it. -/
theorem AAny_first (hp : Pairs ops fl) {i : Nat} {oi : AOper} {v : Value} (hi : fl[i]? = some oi) (hwi : isW oi.op = false) :
    ∀ (fuel : Nat) (listed : Array Bool) (e : Env) (H : Heap), Closed ops listed → i ∈ Region.ready .any ops listed → YieldsA P oi v e H →
      AAny P ops fl (fun i => (ancT (predsOf ops) ops.size).getD i 0) K X fuel (listed.setIfInBounds i true) (updO e oi.d v) H →
      AAny P ops fl (fun i => (ancT (predsOf ops) ops.size).getD i 0) K X (fuel + 1) listed e H := by
  intro fuel
  induction fuel with
  | zero =>
    intro listed e H hc hr hy hA
    refine ⟨fun h => (by rw [h] at hr; cases hr), fun j hj => ?_⟩
    by_cases hji : j = i
    · subst hji; exact ⟨oi, hi, hy.step hwi hA⟩
    · have := ready_mono hj hji
      rw [hA.1] at this
      cases this
  | succ fuel ih =>
    intro listed e H hc hr hy hA
    refine ⟨fun h => (by rw [h] at hr; cases hr), fun j hj => ?_⟩
    by_cases hji : j = i
    · subst hji; exact ⟨oi, hi, hy.step hwi hA⟩
    · obtain ⟨oj, hoj, hst⟩ := hA.2 j (ready_mono hj hji)
      refine ⟨oj, hoj, ?_⟩
      have hiun : listed.getD i false = false := getD_both (mem_ready.1 hr).1
      have hjun : listed.getD j false = false := getD_both (mem_ready.1 hj).1
      -- what one writes, the other does not look at
      have dij : ∀ t, oi.d = some t → t ∉ looksA oj := by
        intro t ht hl
        rcases hp.look i j oi oj t hi hoj ht hl with h | h
        · have := ready_preds hj i h
          rw [hiun] at this; cases this
        · exact hji h.1.symm
      have dji : ∀ t, oj.d = some t → t ∉ looksA oi := by
        intro t ht hl
        rcases hp.look j i oj oi t hoj hi ht hl with h | h
        · have := ready_preds hr j h
          rw [hjun] at this; cases this
        · exact hji h.1
      have ddij : ∀ t, oi.d = some t → oj.d ≠ some t := fun t ht ht' => hji (hp.dst i j oi oj t hi hoj ht ht').symm
      have inO : ∀ {o : AOper} {d : Option Nat}, (∀ t, d = some t → t ∉ looksA o) → (∀ t, d = some t → t ∉ tmpsO (opsA o.op)) ∧ (∀ t, d = some t → t ∉ (match o.g with | some (d, _) => [d] | none => [])) :=
        fun h => ⟨fun t ht hm => h t ht (List.mem_append_left _ hm), fun t ht hm => h t ht (List.mem_append_right _ hm)⟩
      have keepG : ∀ u, wantA oi.g (updO e oj.d u) = wantA oi.g e := fun u => want_updO (inO dji).2
      have keepV : ∀ u, ∀ x ∈ opsA oi.op, ev (updO e oj.d u) x = ev e x := fun u => ev_updO (inO dji).1
      -- what 'i' gives, it gives behind 'j'
      have keepY : ∀ u H', (∀ n a, oi.op = .ld n a → wantA oi.g e = true → ldA n H' (ev e a) = some v) → YieldsA P oi v (updO e oj.d u) H' := by
        intro u H' hl
        rcases hy with ⟨h1, h2⟩ | ⟨h1, h2⟩
        · refine .inl ⟨by rw [keepG]; exact h1, ?_⟩
          rcases h2 with ⟨h3, h4⟩ | ⟨n, a, h3, h4⟩
          · exact .inl ⟨h3, by rw [← h4]; exact pureA_congr _ (keepV u)⟩
          · refine .inr ⟨n, a, h3, ?_⟩
            rw [keepV u a (by rw [h3]; simp [opsA])]
            exact hl n a h3 h1
        · exact .inr ⟨by rw [keepG]; exact h1, h2⟩
      unfold stepO at hst ⊢
      rw [want_updO (inO dij).2] at hst
      split at hst
      · rename_i hg
        rw [if_pos hg]
        refine step_mono (ev_updO (inO dij).1) hst ?_ ?_
        · intro u H' hHH ⟨hC, hN⟩
          have hcomm : updO (updO e oi.d v) oj.d u = updO (updO e oj.d u) oi.d v := updO_comm ddij
          rw [hcomm] at hC hN
          -- the loads once more
          have hCj : isW oj.op = true → chkL fl (fun i => (ancT (predsOf ops) ops.size).getD i 0) listed j (updO e oj.d u) H' := by
            intro hwj q oq n a d hq hlq hop hd hanc hwant
            have hqi : q ≠ i := by rintro rfl; rw [hiun] at hlq; cases hlq
            have diq : ∀ t, oi.d = some t → t ∉ looksA oq := by
              intro t ht hl
              rcases hp.look i q oi oq t hi hq ht hl with h | h
              · have := hc q hlq i h
                rw [hiun] at this; cases this
              · exact hqi h.1.symm
            have ddiq : ∀ t, oi.d = some t → d ≠ t := by
              rintro t ht rfl
              exact hqi (hp.dst i q oi oq d hi hq ht hd).symm
            have := hC hwj q oq n a d hq (getD_set_true hlq) hop hd hanc (by rw [want_updO (inO diq).2]; exact hwant)
            rw [ev_updO (inO diq).1 a (by rw [hop]; simp [opsA])] at this
            rw [this]
            cases hod : oi.d with
            | none => rfl
            | some t => simp [updO, upd, ddiq t hod]
          refine ⟨hCj, ?_⟩
          refine ih _ _ _ (hc.set hj) (ready_mono hr (Ne.symm hji)) ?_ ?_
          · refine keepY u H' ?_
            intro n a hop hwant
            by_cases hwj : isW oj.op = true
            · -- 'i' is one of the loads looked at once more
              have hni : ((ancT (predsOf ops) ops.size).getD j 0).testBit i = false := by
                cases hm : ((ancT (predsOf ops) ops.size).getD j 0).testBit i with
                | false => rfl
                | true =>
                  have := anc_listed hc _ j (ready_preds hj) i hm
                  rw [hiun] at this; cases this
              have hself : ∀ t, oi.d = some t → t ∉ looksA oi := by
                intro t ht hl
                rcases hp.look i i oi oi t hi hi ht hl with h | h
                · have := ready_preds hr i h
                  rw [hiun] at this; cases this
                · rw [hop] at h; simp [isLd] at h
              have hset : (listed.setIfInBounds i true).getD i false = true := by
                have hlt : i < listed.size := by
                  have h0 := (mem_ready.1 hr).1
                  rcases Nat.lt_or_ge i listed.size with h' | h'
                  · exact h'
                  · simp [Array.getElem?_eq_none h'] at h0
                simp [hlt]
              cases hod : oi.d with
              | none =>
                have := hp.ldd i oi hi (by rw [hop]; rfl)
                rw [hod] at this; cases this
              | some t =>
                have := hC hwj i oi n a t hi hset hop hod hni (by rw [want_updO (inO hself).2, keepG]; exact hwant)
                rw [ev_updO (inO hself).1 a (by rw [hop]; simp [opsA]), keepV u a (by rw [hop]; simp [opsA])] at this
                rw [this, hod]
                simp [updO, upd]
            · have hHe : H' = H := hHH (by simpa using hwj)
              subst hHe
              rcases hy with ⟨_, h2⟩ | ⟨h1, _⟩
              · rcases h2 with ⟨h3, _⟩ | ⟨n', a', h3, h4⟩
                · rw [hop] at h3; simp [isPure] at h3
                · rw [hop] at h3; simp only [AOp.ld.injEq] at h3; obtain ⟨rfl, rfl⟩ := h3; exact h4
              · rw [hwant] at h1; cases h1
          · rw [Array.setIfInBounds_comm _ _ hji]
            exact hN
        · intro u H' h
          exact h
      · rename_i hg
        rw [if_neg hg]
        have hcomm : updO (updO e oi.d v) oj.d undef = updO (updO e oj.d undef) oi.d v := updO_comm ddij
        rw [hcomm] at hst
        refine ih _ _ _ (hc.set hj) (ready_mono hr (Ne.symm hji)) ?_ ?_
        · refine keepY undef H ?_
          intro n a hop hwant
          rcases hy with ⟨_, h2⟩ | ⟨h1, _⟩
          · rcases h2 with ⟨h3, _⟩ | ⟨n', a', h3, h4⟩
            · rw [hop] at h3; simp [isPure] at h3
            · rw [hop] at h3; simp only [AOp.ld.injEq] at h3; obtain ⟨rfl, rfl⟩ := h3; exact h4
          · rw [hwant] at h1; cases h1
        · rw [Array.setIfInBounds_comm _ _ hji]
          exact hst
end
end Go.Ab

namespace Go.Ab
open Go

def asap (isw : Nat → Bool) (preds : Nat → List Nat) : Nat → List Nat → List Nat → List Nat
  | 0, _, done => done.reverse
  | f + 1, pend, done =>
    match pend.find? fun i => !isw i && (preds i).all done.contains with
    | some i => asap isw preds f (pend.erase i) (i :: done)
    | none => match pend.find? fun i => (preds i).all done.contains with
      | some i => asap isw preds f (pend.erase i) (i :: done)
      | none => done.reverse
def chkOf (fl : List AOper) (anc : Nat → Nat) (listed : Array Bool) (i : Nat) : List Chk :=
  (List.range fl.length).filterMap fun q => match fl[q]? with
    | some o => match o.op, o.d with
      | .ld n a, some d => if listed.getD q false && !(anc i).testBit q then some { n, a, g := o.g, d } else none
      | _, _ => none
    | none => none
/-- The one order, with the loads that are to be looked at once more. -/
def canon (ops : Array Oper) (fl : List AOper) (anc : Nat → Nat) : List Nat → Array Bool → Option (List AOper)
  | [], listed => if (Region.ready .any ops listed).isEmpty then some [] else none
  | x :: r, listed => match fl[x]? with
    | some o =>
      if (if isW o.op then Region.ready .any ops listed == [x] else (Region.ready .any ops listed).contains x) then
        (canon ops fl anc r (listed.setIfInBounds x true)).map fun l => (if isW o.op then { o with k := chkOf fl anc listed x } else o) :: l
      else none
    | none => none

/-- All orders of what writes; what only looks comes as soon as it can. -/
def consR (o : AOper) : ACode → ACode
  | .reg os k => .reg (o :: os) k
  | c => .reg [o] c
def bothL : List ACode → ACode
  | [] => .nil
  | [c] => c
  | c :: cs => .both c (bothL cs)
def treeOf (ops : Array Oper) (fl : List AOper) (anc : Nat → Nat) : Nat → Array Bool → Option ACode
  | 0, listed => if (Region.ready .any ops listed).isEmpty then some .nil else none
  | f + 1, listed =>
    match (Region.ready .any ops listed).find? (fun i => (fl[i]?).any fun o => !isW o.op) with
    | some x => match fl[x]? with
      | some o => (treeOf ops fl anc f (listed.setIfInBounds x true)).map (consR o)
      | none => none
    | none => if (Region.ready .any ops listed).isEmpty then some .nil else
      ((Region.ready .any ops listed).mapM fun (x : Nat) => match fl[x]? with
        | some o => (treeOf ops fl anc f (listed.setIfInBounds x true)).map (consR ({ o with k := chkOf fl anc listed x } : AOper))
        | none => none).map bothL

section
variable {P : Program} {ops : Array Oper} {fl : List AOper} {K : Env → Heap → Prop} {X : Value → Heap → Prop}

theorem chkA_spec {e : Env} {H : Heap} : ∀ (l : List Chk), chkA e H l → ∀ c ∈ l, wantA c.g e = true → ldA c.n H (ev e c.a) = some (e c.d)
  | [], _, _, h => by cases h
  | c :: r, h, c', hc => by
    simp only [chkA] at h
    rcases List.mem_cons.1 hc with rfl | hc
    · exact h.1
    · exact chkA_spec r h.2 c' hc
theorem chkOf_spec {anc : Nat → Nat} {listed : Array Bool} {i : Nat} {e : Env} {H : Heap} (h : chkA e H (chkOf fl anc listed i)) : chkL fl anc listed i e H := by
  intro q oq n a d hq hl hop hd hanc hw
  refine chkA_spec _ h { n, a, g := oq.g, d } (List.mem_filterMap.2 ⟨q, List.mem_range.2 (List.getElem?_eq_some_iff.1 hq).1, ?_⟩) hw
  simp only [hq, hop, hd, hl, hanc]
  simp

theorem any_of_canon (hp : Pairs ops fl) (hk : ∀ o ∈ fl, o.k = []) : ∀ (r : List Nat) (listed : Array Bool) (l : List AOper) (e : Env) (H : Heap), Closed ops listed →
    canon ops fl (fun i => (ancT (predsOf ops) ops.size).getD i 0) r listed = some l → AOps P l K X e H →
    AAny P ops fl (fun i => (ancT (predsOf ops) ops.size).getD i 0) K X r.length listed e H := by
  intro r
  induction r with
  | nil =>
    intro listed l e H hc h hA
    simp only [canon] at h
    split at h
    · rename_i hr
      simp only [Option.some.injEq] at h; subst h
      exact ⟨by simpa using hr, hA⟩
    · simp at h
  | cons x r ih =>
    intro listed l e H hc h hA
    simp only [canon] at h
    split at h
    · rename_i o ho
      by_cases hw : isW o.op = true
      · rw [if_pos hw] at h
        split at h
        · rename_i hr
          simp only [Option.map_eq_some_iff] at h
          obtain ⟨l', hl', rfl⟩ := h
          have hr : Region.ready .any ops listed = [x] := by simpa using hr
          have hx : x ∈ Region.ready .any ops listed := by rw [hr]; simp
          refine ⟨fun h => (by rw [hr] at h; cases h), fun i hi => ?_⟩
          rw [hr] at hi
          have : i = x := by simpa using hi
          subst this
          refine ⟨o, ho, ?_⟩
          simp only [AOps] at hA
          unfold stepO
          split at hA
          · rename_i hg
            rw [if_pos hg]
            exact step_mono (fun _ _ => rfl) hA (fun v H' _ h => ⟨fun _ => chkOf_spec h.1, ih _ _ _ _ (hc.set hx) hl' h.2⟩) fun _ _ h => h
          · rename_i hg
            rw [if_neg hg]
            exact ih _ _ _ _ (hc.set hx) hl' hA
        · simp at h
      · rw [if_neg hw] at h
        split at h
        · rename_i hr
          simp only [Option.map_eq_some_iff] at h
          obtain ⟨l', hl', rfl⟩ := h
          have hw' : isW o.op = false := by simpa using hw
          have hx : x ∈ Region.ready .any ops listed := by simpa using hr
          simp only [AOps] at hA
          obtain ⟨v, hy, h1, h2⟩ := yields_of hw' hA
          refine AAny_first hp ho hw' r.length listed e H hc hx hy ?_
          refine ih _ _ _ _ (hc.set hx) hl' ?_
          cases hg : wantA o.g e with
          | true => exact (h1 hg).2
          | false => obtain ⟨rfl, h⟩ := h2 hg; exact h
        · simp at h
    · simp at h
end

theorem AW_consR {P : Program} (o : AOper) (c : ACode) (Q : Post) (e : Env) (H : Heap) : AW P (consR o c) Q e H = AOps P [o] (AW P c Q) (panP Q) e H := by
  cases c <;> first | rfl | (simp only [consR, AW])
theorem bothL_all {P : Program} {Q : Post} {e : Env} {H : Heap} : ∀ {cs : List ACode}, AW P (bothL cs) Q e H → ∀ c ∈ cs, AW P c Q e H
  | [], _, c, hc => by cases hc
  | [a], h, c, hc => by
    simp only [List.mem_singleton] at hc; subst hc; exact h
  | a :: b :: cs, h, c, hc => by
    rcases List.mem_cons.1 hc with rfl | hc
    · exact h.1
    · exact bothL_all (cs := b :: cs) h.2 c hc
theorem mapM_mem {α β : Type} {f : α → Option β} : ∀ {l : List α} {r : List β}, l.mapM f = some r → ∀ x ∈ l, ∃ y ∈ r, f x = some y
  | [], r, h, x, hx => by cases hx
  | a :: l, r, h, x, hx => by
    simp only [List.mapM_cons, Option.bind_eq_bind, Option.bind_eq_some_iff, Option.pure_def, Option.some.injEq] at h
    obtain ⟨y, hy, r', hr', rfl⟩ := h
    rcases List.mem_cons.1 hx with rfl | hx
    · exact ⟨y, by simp, hy⟩
    · obtain ⟨z, hz, hf⟩ := mapM_mem hr' x hx
      exact ⟨z, by simp [hz], hf⟩
theorem any_of_tree {P : Program} {ops : Array Oper} {fl : List AOper} {Q : Post} (hp : Pairs ops fl) (hk : ∀ o ∈ fl, o.k = []) : ∀ (f : Nat) (listed : Array Bool) (c : ACode) (e : Env) (H : Heap), Closed ops listed →
    treeOf ops fl (fun i => (ancT (predsOf ops) ops.size).getD i 0) f listed = some c → AW P c Q e H →
    AAny P ops fl (fun i => (ancT (predsOf ops) ops.size).getD i 0) (Q .normal) (panP Q) f listed e H := by
  intro f
  induction f with
  | zero =>
    intro listed c e H hc h hA
    simp only [treeOf] at h
    split at h
    · rename_i hr
      simp only [Option.some.injEq] at h; subst h
      exact ⟨by simpa using hr, hA⟩
    · simp at h
  | succ f ih =>
    intro listed c e H hc h hA
    simp only [treeOf] at h
    split at h
    · rename_i x hfind
      have hx : x ∈ Region.ready .any ops listed := List.mem_of_find?_eq_some hfind
      have hnw := List.find?_some hfind
      split at h
      · rename_i o ho
        simp only [ho, Option.any_some, Bool.not_eq_true'] at hnw
        simp only [Option.map_eq_some_iff] at h
        obtain ⟨c', hc', rfl⟩ := h
        rw [AW_consR] at hA
        simp only [AOps] at hA
        obtain ⟨v, hy, h1, h2⟩ := yields_of hnw hA
        refine AAny_first hp ho hnw f listed e H hc hx hy ?_
        refine ih _ _ _ _ (hc.set hx) hc' ?_
        cases hg : wantA o.g e with
        | true => exact (h1 hg).2
        | false => obtain ⟨rfl, h⟩ := h2 hg; exact h
      · cases h
    · rename_i hfind
      split at h
      · rename_i hr
        simp only [Option.some.injEq] at h; subst h
        have hr : Region.ready .any ops listed = [] := by simpa using hr
        exact ⟨fun _ => hA, fun i hi => by rw [hr] at hi; cases hi⟩
      · rename_i hne
        simp only [Option.map_eq_some_iff] at h
        obtain ⟨cs, hcs, rfl⟩ := h
        refine ⟨fun h0 => absurd (by rw [h0]; rfl) hne, fun i hi => ?_⟩
        obtain ⟨ci, hci, h1⟩ := mapM_mem hcs i hi
        split at h1
        · rename_i o ho
          refine ⟨o, ho, ?_⟩
          simp only [Option.map_eq_some_iff] at h1
          obtain ⟨c', hc', rfl⟩ := h1
          have hA' := bothL_all hA _ hci
          rw [AW_consR] at hA'
          simp only [AOps] at hA'
          unfold stepO
          split at hA'
          · rename_i hg
            rw [if_pos hg]
            exact step_mono (fun _ _ => rfl) hA' (fun v H' _ h => ⟨fun _ => chkOf_spec h.1, ih _ _ _ _ (hc.set hi) hc' h.2⟩) fun _ _ h => h
          · rename_i hg
            rw [if_neg hg]
            exact ih _ _ _ _ (hc.set hi) hc' hA'
        · cases h1

def flatReg (P : Program) (n : Nat) (ops : Array Oper) (draw : Bool) : Option (List AOper) :=
  (ops.toList.mapM (flatOne P n ops)).bind fun fl =>
    if draw = false then some fl
    else
      let t := ancT (predsOf ops) ops.size
      let ord := asap (fun i => ((fl[i]?).map fun o => isW o.op).getD true) (predsOf ops) ops.size (List.range ops.size) []
      if (ord.length == ops.size) && pairB ops fl && P.follows .mixedOrders then canon ops fl (fun i => t.getD i 0) ord (Array.replicate ops.size false) else none
def flatTree (P : Program) (n : Nat) (ops : Array Oper) (draw : Bool) : Option ACode :=
  (ops.toList.mapM (flatOne P n ops)).bind fun fl =>
    if draw = false then none
    else
      let t := ancT (predsOf ops) ops.size
      if pairB ops fl && P.follows .mixedOrders then treeOf ops fl (fun i => t.getD i 0) ops.size (Array.replicate ops.size false) else none
def flat (P : Program) (n : Nat) : Code → ACode → Option ACode
  | .skip, k => some k
  | .region _ ops draw, k => match flatReg P n ops draw with
    | some l => some (.reg l k)
    | none => (flatTree P n ops draw).map fun c => .cond (.const (.bool true)) c .nil k
  | .seq a b, k => (flat P n b k).bind fun k' => flat P n a k'
  | .cond c a b, k => if okX P.globals.size c then (flat P n a .nil).bind fun a' => (flat P n b .nil).map fun b' => .cond c a' b' k else none
  | .block id b, k => (flat P n b .nil).map fun b' => .block id b' k
  | .loop b, k => (flat P n b .nil).map fun b' => .loop b'
  | .exit id, _ => some (.exit id)
  | .ret, _ => some .ret
  | .goto l, _ => some (.goto l)
  | .label l, k => some (.label l k)
  | _, _ => none

section
variable {P : Program} {n base : Nat} {s : Sig} {e : Env} {H : Heap} {a : Act} {w : World}

theorem mapM_some {α β : Type} {f : α → Option β} : ∀ {l : List α} {r : List β}, l.mapM f = some r → l.length = r.length ∧ ∀ i : Nat, ∀ x, l[i]? = some x → ∃ y, r[i]? = some y ∧ f x = some y
  | [], r, h => by simp at h; subst h; exact ⟨rfl, fun i x hx => by simp at hx⟩
  | x :: l, r, h => by
    simp only [List.mapM_cons, Option.bind_eq_bind, Option.bind_eq_some_iff, Option.pure_def, Option.some.injEq] at h
    obtain ⟨y, hy, r', hr', rfl⟩ := h
    obtain ⟨h1, h2⟩ := mapM_some hr'
    refine ⟨by simp [h1], fun i z hz => ?_⟩
    cases i with
    | zero => simp at hz; subst hz; exact ⟨y, rfl, hy⟩
    | succ i => simpa using h2 i z (by simpa using hz)

theorem after_any {s0 : Sig} {H0 : Heap} {w0 : World} {ops : Array Oper} {fl : List AOper} {anc : Nat → Nat} {K : Env → Heap → Prop} {Q : Post} (hfl : ops.toList.mapM (flatOne P n ops) = some fl) :
    ∀ (fuel : Nat) (listed : Array Bool) (e : Env) (H : Heap), AAny P ops fl anc K (panP Q) fuel listed e H → ∀ (s : Sig) (a : Act) (w : World), CRel P n base s e H a w → Ext s0 H0 w0 s H w →
      wpAny P .any ops (After P n base s0 H0 w0 K Q) fuel listed a w := by
  intro fuel
  induction fuel with
  | zero =>
    intro listed e H hA s a w hc hx
    exact ⟨hA.1, s, e, H, hc, hx, hA.2⟩
  | succ f ih =>
    intro listed e H hA s a w hc hx
    refine ⟨fun h => ⟨s, e, H, hc, hx, hA.1 h⟩, fun i hi => ?_⟩
    obtain ⟨ao, hao, hst⟩ := hA.2 i hi
    obtain ⟨_, o, ho, _⟩ := mem_ready.1 hi
    obtain ⟨ao', hao', hone⟩ := (mapM_some hfl).2 i o (by simpa using ho)
    have : ao' = ao := by rw [hao] at hao'; exact (Option.some.inj hao').symm
    subst this
    obtain ⟨h1, h2, h3, h4, h5, h6⟩ := flatOne_some hone
    have hw := want_rel hc.env hc.size ops o ao'.g h3 h2
    unfold stepO at hst
    unfold wpOp
    simp only [ho]
    rw [hw]
    split at hst
    · rename_i hwt
      rw [if_pos hwt]
      left
      refine step_sound h4 (relX_of hc o.op) hc.heap hst ?_ ?_
      · intro s' H' w' v v' r1 r2 r3 ⟨_, hN⟩
        obtain ⟨p1, p2, p3⟩ := put_rel r2.le hc.env hc.size o.dst h1 r3
        rw [h5] at hN
        exact ih _ _ _ hN s' _ w' ⟨r1, p1, p2, p3.trans hc.defers⟩ (hx.trans r2)
      · intro s' H' w' v r1 r2 r3 hX
        exact ⟨s', e, H', ⟨r1, fun i => (hc.env i).mono r2.le, hc.size, hc.defers⟩, hx.trans r2, v, rfl, r3, hX e⟩
    · rename_i hwt
      rw [if_neg hwt]
      obtain ⟨p1, p2, p3⟩ := put_rel s.le_refl hc.env hc.size o.dst h1 vrel_undef
      rw [h5] at hst
      exact ih _ _ _ hst s _ w ⟨hc.heap, p1, p2, p3.trans hc.defers⟩ hx

theorem HRel.drawn {s : Sig} (h : HRel base P.globals.size s H w) : HRel base P.globals.size s H { w with drawn := w.drawn + 1 } :=
  ⟨h.live, h.sep, h.fresh, h.glob, h.basew⟩

theorem after_reg {s0 : Sig} {H0 : Heap} {w0 : World} {id : Nat} {ops : Array Oper} {draw : Bool} {l : List AOper} {K : Env → Heap → Prop} {Q : Post} (hfl : flatReg P n ops draw = some l)
    (hA : AOps P l K (panP Q) e H) (hc : CRel P n base s e H a w) (hx : Ext s0 H0 w0 s H w) : (Code.region id ops draw).wp P (After P n base s0 H0 w0 K Q) a w := by
  simp only [flatReg, Option.bind_eq_some_iff] at hfl
  obtain ⟨fl, h1, h2⟩ := hfl
  split at h2
  · rename_i hd
    subst hd
    simp only [Option.some.injEq] at h2; subst h2
    exact wp_region_list (after_ops _ _ h1 e H hA s a w hc hx)
  · rename_i hd
    have hd : draw = true := by simpa using hd
    subst hd
    split at h2
    · rename_i hb
      simp only [Bool.and_eq_true, beq_iff_eq] at hb
      obtain ⟨⟨hl, hp⟩, hm⟩ := hb
      have hk : ∀ o ∈ fl, o.k = [] := by
        intro o ho
        obtain ⟨i, hi⟩ := List.mem_iff_getElem?.1 ho
        obtain ⟨hlen, hm⟩ := mapM_some h1
        have hi' : i < ops.toList.length := by rw [hlen]; exact (List.getElem?_eq_some_iff.1 hi).1
        obtain ⟨y, hy, hone⟩ := hm i _ (List.getElem?_eq_getElem hi')
        rw [hi] at hy
        have := Option.some.inj hy
        subst this
        exact (flatOne_some hone).2.2.2.2.2
      have hA' := any_of_canon (pairB_spec hp) hk _ (Array.replicate ops.size false) l e H (fun j hj => by rw [getD_replicate_false] at hj; cases hj) h2 hA
      rw [hl] at hA'
      exact wp_region_any hm (after_any h1 _ _ e H hA' s a _ ⟨hc.heap.drawn, hc.env, hc.size, hc.defers⟩ (hx.trans (Ext.drew (Ext.refl s H w))))
    · simp at h2
theorem after_tree {s0 : Sig} {H0 : Heap} {w0 : World} {id : Nat} {ops : Array Oper} {draw : Bool} {c : ACode} {Q : Post} (hfl : flatTree P n ops draw = some c)
    (hA : AW P c Q e H) (hc : CRel P n base s e H a w) (hx : Ext s0 H0 w0 s H w) : (Code.region id ops draw).wp P (After P n base s0 H0 w0 (Q .normal) Q) a w := by
  simp only [flatTree, Option.bind_eq_some_iff] at hfl
  obtain ⟨fl, h1, h2⟩ := hfl
  split at h2
  · cases h2
  · rename_i hd
    have hd : draw = true := by simpa using hd
    subst hd
    split at h2
    · rename_i hb
      simp only [Bool.and_eq_true] at hb
      obtain ⟨hp, hm⟩ := hb
      have hk : ∀ o ∈ fl, o.k = [] := by
        intro o ho
        obtain ⟨i, hi⟩ := List.mem_iff_getElem?.1 ho
        obtain ⟨hlen, hm⟩ := mapM_some h1
        have hi' : i < ops.toList.length := by rw [hlen]; exact (List.getElem?_eq_some_iff.1 hi).1
        obtain ⟨y, hy, hone⟩ := hm i _ (List.getElem?_eq_getElem hi')
        rw [hi] at hy
        have := Option.some.inj hy
        subst this
        exact (flatOne_some hone).2.2.2.2.2
      have hA' := any_of_tree (pairB_spec hp) hk _ (Array.replicate ops.size false) c e H (fun j hj => by rw [getD_replicate_false] at hj; cases hj) h2 hA
      exact wp_region_any hm (after_any h1 _ _ e H hA' s a _ ⟨hc.heap.drawn, hc.env, hc.size, hc.defers⟩ (hx.trans (Ext.drew (Ext.refl s H w))))
    · cases h2
end
end Go.Ab

namespace Go.Ab
open Go

section
variable {P : Program} {n base : Nat}

theorem after_mono {s0 : Sig} {H0 : Heap} {w0 : World} {N N' : Env → Heap → Prop} {Q Q' : Post} {ex : Exit} {a : Act} {w : World} (h : After P n base s0 H0 w0 N Q ex a w)
    (hN : ∀ e H, N e H → N' e H) (hQ : ∀ x e H, x ≠ .normal → Q x e H → Q' x e H) : After P n base s0 H0 w0 N' Q' ex a w := by
  obtain ⟨s, e, H, hc, hx, h⟩ := h
  refine ⟨s, e, H, hc, hx, ?_⟩
  cases ex with
  | normal => exact hN e H h
  | exit id => exact hQ _ e H (by simp) h
  | ret => exact hQ _ e H (by simp) h
  | goto l => exact hQ _ e H (by simp) h
  | panic ch => obtain ⟨v, h1, h2, h3⟩ := h; exact ⟨v, h1, h2, hQ _ e H (by simp) h3⟩
  | outgrown => exact h

/-- The program's code from the compact one. -/
theorem code_sound (s0 : Sig) (H0 : Heap) (w0 : World) : ∀ (c : Code) (k ac : ACode) (Q : Post) (s : Sig) (e : Env) (H : Heap) (a : Act) (w : World), flat P n c k = some ac → AW P ac Q e H → CRel P n base s e H a w → Ext s0 H0 w0 s H w →
    c.wp P (After P n base s0 H0 w0 (AW P k Q) Q) a w := by
  intro c
  induction c with
  | skip =>
    intro k ac Q s e H a w hf hA hc hx
    simp only [flat, Option.some.injEq] at hf; subst hf
    exact wp_skip ⟨s, e, H, hc, hx, hA⟩
  | region id ops draw =>
    intro k ac Q s e H a w hf hA hc hx
    simp only [flat] at hf
    split at hf
    · rename_i l hl
      simp only [Option.some.injEq] at hf; subst hf
      exact after_reg hl hA hc hx
    · simp only [Option.map_eq_some_iff] at hf
      obtain ⟨c, hcl, rfl⟩ := hf
      obtain ⟨t, ht, hA⟩ := hA
      have : t = true := by simp only [ev, Value.bool.injEq] at ht; exact ht.symm
      subst this
      refine wp_mono (after_tree hcl (Q := thenP (AW P k Q) Q) (by simpa using hA) hc hx) ?_
      intro ex a' w' h
      refine after_mono h (fun e H h => h) ?_
      intro x e H hn h
      cases x <;> first | exact absurd rfl hn | exact h
  | seq x y ihx ihy =>
    intro k ac Q s e H a w hf hA hc hx
    simp only [flat, Option.bind_eq_some_iff] at hf
    obtain ⟨k', hk', hf⟩ := hf
    refine wp_seq (wp_mono (ihx k' ac Q s e H a w hf hA hc hx) ?_)
    intro ex a' w' h
    cases ex with
    | normal =>
      obtain ⟨s', e', H', hc', hx', h⟩ := h
      exact ihy k k' Q s' e' H' a' w' hk' h hc' hx'
    | exit i => exact h
    | ret => exact h
    | goto l => exact h
    | panic ch => exact h
    | outgrown => exact h
  | cond c x y ihx ihy =>
    intro k ac Q s e H a w hf hA hc hx
    simp only [flat] at hf
    split at hf
    · rename_i hok
      simp only [Option.bind_eq_some_iff, Option.map_eq_some_iff] at hf
      obtain ⟨x', hx1, y', hy1, rfl⟩ := hf
      obtain ⟨t, ht, hA⟩ := hA
      have hr := (relX_of hc (.move c)).1 c (by simp [Op.operands]) hok
      rw [ht] at hr
      refine wp_cond (t := t) (vrel_plain hr rfl) ?_
      have fin : ∀ ex a' w', After P n base s0 H0 w0 (AW P .nil (thenP (AW P k Q) Q)) (thenP (AW P k Q) Q) ex a' w' → After P n base s0 H0 w0 (AW P k Q) Q ex a' w' := by
        intro ex a' w' h
        refine after_mono h (fun e H h => h) ?_
        intro x e H hn h
        cases x <;> first | exact absurd rfl hn | exact h
      cases t with
      | true => exact wp_mono (ihx _ _ _ s e H a w hx1 (by simpa using hA) hc hx) fin
      | false => exact wp_mono (ihy _ _ _ s e H a w hy1 (by simpa using hA) hc hx) fin
    · simp at hf
  | block id x ih =>
    intro k ac Q s e H a w hf hA hc hx
    simp only [flat, Option.map_eq_some_iff] at hf
    obtain ⟨x', hx1, rfl⟩ := hf
    refine wp_block (wp_mono (ih _ _ _ s e H a w hx1 hA hc hx) ?_)
    intro ex a' w' h
    obtain ⟨s', e', H', hc', hx', h⟩ := h
    cases ex with
    | normal => exact ⟨s', e', H', hc', hx', h⟩
    | exit i =>
      simp only [Exit.inBlock]
      simp only [blkP] at h
      split
      · rename_i hi
        rw [if_pos hi] at h
        exact ⟨s', e', H', hc', hx', h⟩
      · rename_i hi
        rw [if_neg hi] at h
        exact ⟨s', e', H', hc', hx', h⟩
    | ret => exact ⟨s', e', H', hc', hx', h⟩
    | goto l => exact ⟨s', e', H', hc', hx', h⟩
    | panic ch => exact ⟨s', e', H', hc', hx', h⟩
    | outgrown => exact ⟨s', e', H', hc', hx', h⟩
  | loop x ih =>
    intro k ac Q s e H a w hf hA hc hx
    simp only [flat, Option.map_eq_some_iff] at hf
    obtain ⟨x', hx1, rfl⟩ := hf
    obtain ⟨I, ⟨n0, h0⟩, hstep⟩ := hA
    refine wp_loop_ghost (fun m a w => ∃ s e H, CRel P n base s e H a w ∧ Ext s0 H0 w0 s H w ∧ I m e H) n0 ⟨s, e, H, hc, hx, h0⟩ ?_
    rintro m a w ⟨s, e, H, hc, hx, hI⟩
    refine wp_mono (ih _ _ _ s e H a w hx1 (hstep m e H hI) hc hx) ?_
    intro ex a' w' h
    obtain ⟨s', e', H', hc', hx', h⟩ := h
    cases ex with
    | normal => obtain ⟨m', hlt, h⟩ := h; exact ⟨m', hlt, s', e', H', hc', hx', h⟩
    | exit i => exact ⟨s', e', H', hc', hx', h⟩
    | ret => exact ⟨s', e', H', hc', hx', h⟩
    | goto l => exact ⟨s', e', H', hc', hx', h⟩
    | panic ch => exact ⟨s', e', H', hc', hx', h⟩
    | outgrown => exact ⟨s', e', H', hc', hx', h⟩
  | exit id =>
    intro k ac Q s e H a w hf hA hc hx
    simp only [flat, Option.some.injEq] at hf; subst hf
    exact wp_exit ⟨s, e, H, hc, hx, hA⟩
  | ret =>
    intro k ac Q s e H a w hf hA hc hx
    simp only [flat, Option.some.injEq] at hf; subst hf
    exact wp_ret ⟨s, e, H, hc, hx, hA⟩
  | goto l =>
    intro k ac Q s e H a w hf hA hc hx
    simp only [flat, Option.some.injEq] at hf; subst hf
    exact wp_goto ⟨s, e, H, hc, hx, hA⟩
  | label l =>
    intro k ac Q s e H a w hf hA hc hx
    simp only [flat, Option.some.injEq] at hf; subst hf
    exact wp_label ⟨s, e, H, hc, hx, hA⟩
  | _ => intro k ac Q s e H a w hf; simp [flat] at hf
end
end Go.Ab

namespace Go.Ab
open Go

/-! ### A function from its body -/
inductive ARes where
  | tmp (t : Nat)
  | cell (n : Option Nat) (t : Nat)
def flatR (P : Program) : List ResultVar → Option (List ARes)
  | [] => some []
  | .tmp t :: r => (flatR P r).map fun l => .tmp t :: l
  | .cell a t :: r => (aggT P t).bind fun n => (flatR P r).map fun l => .cell n a :: l
def res1 (e : Env) (H : Heap) : ARes → Option Value
  | .tmp t => some (e t)
  | .cell n t => ldA n H (e t)
def resL (e : Env) (H : Heap) : List ARes → Option (List Value)
  | [] => some []
  | r :: l => (res1 e H r).bind fun v => if isTup v then none else (resL e H l).map fun vs => v :: vs
def resV (l : List Value) : Value := match l with | [v] => v | l => .tuple l.toArray
/-- What a body must come to. -/
def funP (rs : List ARes) (Q : AEnd → Heap → Prop) : Post := fun ex e H => match ex with
  | .normal => ∃ l, resL e H rs = some l ∧ Q (.ret (resV l)) H
  | .ret => ∃ l, resL e H rs = some l ∧ Q (.ret (resV l)) H
  | .panic v => Q (.panic v) H
  | .exit _ => False
  | .goto _ => False
def envOf (args : List Value) : Env := fun i => args.getD i undef

section
variable {P : Program} {base : Nat} {s : Sig} {H : Heap} {w : World}

theorem arel_of {v u : Value} (r : VRel s v u) (h : isTup v = false) : ARel s v u := by
  cases r with
  | one r => exact r
  | tup => simp [isTup] at h
def resM (tmps : Array Value) : ResultVar → Sem Value
  | .tmp t => pure (tmps.getD t undef)
  | .cell a t => do loadVar t (← asAddr (tmps.getD a undef))
theorem res_sound (hh : HRel base P.globals.size s H w) {e : Env} {tmps : Array Value} (he : ∀ i, VRel s (e i) (tmps.getD i undef)) : ∀ (rs : List ResultVar) (as : List ARes) (l : List Value), flatR P rs = some as → resL e H as = some l →
    ∃ l', All2 (ARel s) l l' ∧ (rs.mapM (resM tmps)).run P w = .ok l' w
  | [], as, l, h1, h2 => by
    simp only [flatR, Option.some.injEq] at h1; subst h1
    simp only [resL, Option.some.injEq] at h2; subst h2
    exact ⟨[], .nil, by simp⟩
  | .tmp t :: rs, as, l, h1, h2 => by
    simp only [flatR, Option.map_eq_some_iff] at h1
    obtain ⟨as', h1, rfl⟩ := h1
    simp only [resL, res1, Option.bind_some] at h2
    split at h2
    · simp at h2
    · rename_i ht
      simp only [Option.map_eq_some_iff] at h2
      obtain ⟨vs, h2, rfl⟩ := h2
      obtain ⟨l', h3, h4⟩ := res_sound hh he rs as' vs h1 h2
      refine ⟨_ :: l', .cons (arel_of (he t) (by simpa using ht)) h3, ?_⟩
      simp only [List.mapM_cons, resM, Sem.run_bind, Sem.run_pure, Result.andThen_ok, h4]
  | .cell a t :: rs, as, l, h1, h2 => by
    simp only [flatR, Option.bind_eq_some_iff, Option.map_eq_some_iff] at h1
    obtain ⟨n, hn, as', h1, rfl⟩ := h1
    simp only [resL, res1, Option.bind_eq_some_iff] at h2
    obtain ⟨v, hv, h2⟩ := h2
    split at h2
    · simp at h2
    · rename_i ht
      simp only [Option.map_eq_some_iff] at h2
      obtain ⟨vs, h2, rfl⟩ := h2
      obtain ⟨l', h3, h4⟩ := res_sound hh he rs as' vs h1 h2
      obtain ⟨v', r, hrun⟩ := ld_sound hh hn hv (he a)
      have hr := he a
      unfold ldA at hv
      split at hv
      · rename_i b o ho
        rw [ho] at hr
        obtain ⟨g, d, m0, _, _, hp⟩ := vrel_ptr hr
        rw [hp] at hrun
        refine ⟨v' :: l', .cons (arel_of r (by simpa using ht)) h3, ?_⟩
        simp only [Instr.loadAt, Instr.sureAddr, Sem.run_bind, Sem.run_pure, Result.andThen_ok] at hrun
        have hA : asAddr (tmps.getD a undef) = pure ⟨g, o + d, none⟩ := by rw [hp]; rfl
        simp only [List.mapM_cons, resM, Sem.run_bind, Sem.run_pure, Result.andThen_ok, hA, hrun, h4]
      · simp at hv

theorem results_sound (hh : HRel base P.globals.size s H w) {e : Env} {fn : Func} {tmps : Array Value} (he : ∀ i, VRel s (e i) (tmps.getD i undef)) {as : List ARes} {l : List Value} (h1 : flatR P fn.results.toList = some as) (h2 : resL e H as = some l) :
    ∃ v', VRel s (resV l) v' ∧ (results fn tmps).run P w = .ok v' w := by
  obtain ⟨l', h3, h4⟩ := res_sound hh he _ _ _ h1 h2
  have h5 : (results fn tmps).run P w = .ok (if h : l'.toArray.size = 1 then l'.toArray[0] else .tuple l'.toArray) w := by
    have h6 : results fn tmps = (fn.results.mapM (resM tmps)) >>= fun vs => pure (if h : vs.size = 1 then vs[0] else .tuple vs) := rfl
    rw [h6, Array.mapM_eq_mapM_toList, map_eq_pure_bind]
    simp only [Sem.run_bind, h4, Result.andThen_ok, Sem.run_pure]
  refine ⟨_, ?_, h5⟩
  match l, l', h3 with
  | [], [], _ => exact .tup [] [] .nil
  | [v], [v'], h3 => exact .one (h3.2 0 v v' rfl rfl)
  | v :: v2 :: r, l', h3 =>
    have : ¬ l'.toArray.size = 1 := by have := h3.1; simp at this ⊢; omega
    rw [dif_neg this]
    exact .tup _ _ h3
  | [], v' :: r, h3 => have := h3.1; simp at this
  | [v], [], h3 => have := h3.1; simp at this
  | [v], v' :: u :: r, h3 => have := h3.1; simp at this

/-- A function without deferred calls. -/
theorem ACall_of {f : FuncId} {fn : Func} {c : Code} {ac : ACode} {as : List ARes} {args : List Value} {Q : AEnd → Heap → Prop} (hf : P.funcs[f]? = some fn) (hb : fn.body = some c) (hn : (fn.name == "runtime.NumGoroutine") = false)
    (hl : args.length ≤ fn.ntmps) (hr : flatR P fn.results.toList = some as) (hfl : flat P fn.ntmps c .nil = some ac) (hA : AW P ac (funP as Q) (envOf args) H) : ACall P f args H Q := by
  refine ⟨by simp [entersB, hf, hb, hn], ?_⟩
  intro base s w args' hh hargs
  refine calls_of_wp hf hb ?_
  have hsz : (args'.toArray ++ Array.replicate (fn.ntmps - args'.toArray.size) undef).size = fn.ntmps := by
    have := hargs.1; simp; omega
  have hc : CRel P fn.ntmps base s (envOf args) H { tmps := args'.toArray ++ Array.replicate (fn.ntmps - args'.toArray.size) undef, defers := [] } w := by
    refine ⟨hh, fun i => ?_, hsz, rfl⟩
    simp only [envOf, List.getD_eq_getElem?_getD, Array.getD_eq_getD_getElem?]
    by_cases hi : i < args.length
    · have hi' : i < args'.length := by rw [← hargs.1]; exact hi
      rw [Array.getElem?_append_left (by simpa using hi')]
      have := hargs.2 i args[i] args'[i] (List.getElem?_eq_getElem hi) (List.getElem?_eq_getElem hi')
      simpa [hi, hi'] using this
    · rw [List.getElem?_eq_none (by omega)]
      have hi' : args'.toArray.size ≤ i := by have := hargs.1; simp; omega
      rw [Array.getElem?_append_right hi']
      have : ((Array.replicate (fn.ntmps - args'.toArray.size) undef)[i - args'.toArray.size]?).getD undef = undef := by
        rw [Array.getElem?_replicate]; split <;> rfl
      rw [this]; exact vrel_undef
  refine wp_mono (code_sound s H w c .nil ac (funP as Q) s _ H _ w hfl hA hc (Ext.refl ..)) ?_
  intro ex a w' h
  obtain ⟨s', e', H', hc', hx', h⟩ := h
  have fin : (∃ l, resL e' H' as = some l ∧ Q (.ret (resV l)) H') → a.defers = [] ∧ ∃ v, (results fn a.tmps).run P w' = .ok v w' ∧ ∃ s' H', HRel base P.globals.size s' H' w' ∧ Ext s H w s' H' w' ∧
      ((∃ u u', Ending.returned v = .returned u' ∧ VRel s' u u' ∧ Q (.ret u) H') ∨ (∃ u, Ending.returned v = .panicked [{ v := u, recovered := false }] ∧ plainV u = true ∧ Q (.panic u) H')) := by
    rintro ⟨l, h1, h2⟩
    obtain ⟨v', r, hrun⟩ := results_sound hc'.heap hc'.env hr h1
    exact ⟨hc'.defers, v', hrun, s', H', hc'.heap, hx', .inl ⟨_, v', rfl, r, h2⟩⟩
  cases ex with
  | normal => exact fin h
  | ret => exact fin h
  | exit i => exact h.elim
  | goto l => exact h.elim
  | panic ch =>
    obtain ⟨v, rfl, hp, hq⟩ := h
    exact ⟨hc'.defers, s', H', hc'.heap, hx', .inr ⟨v, rfl, hp, hq⟩⟩
  | outgrown => exact h.elim
end
end Go.Ab

namespace Go.Ab
open Go

/-! ### Short words for the printed code -/
abbrev t (n : Nat) : Operand := .tmp n
abbrev ci (n : Int) : Operand := .const (.int .i64 n)
abbrev cb (b : Bool) : Operand := .const (.bool b)
abbrev cs (l : List UInt8) : Operand := .const (.string ⟨l.toArray⟩)
abbrev A (d : Nat) (op : AOp) : AOper := { d := some d, g := none, op, k := [] }
abbrev S (op : AOp) : AOper := { d := none, g := none, op, k := [] }
abbrev G (d j : Nat) (want : Bool) (op : AOp) : AOper := { d := some d, g := some (j, want), op, k := [] }
abbrev GS (j : Nat) (want : Bool) (op : AOp) : AOper := { d := none, g := some (j, want), op, k := [] }

/-! ### First-order continuations: nothing for simp to go into -/
def onS (o : Option Value) (N : Value → Heap → Prop) (H : Heap) : Prop := ∃ v, o = some v ∧ N v H
def onH (o : Option Heap) (N : Value → Heap → Prop) (u : Value) : Prop := ∃ H', o = some H' ∧ N u H'
def onM (o : Option (Value × Heap)) (N : Value → Heap → Prop) : Prop := ∃ v H', o = some (v, H') ∧ N v H'
def onB (b : Bool) (cs : List Value) (n : Nat) (N : Value → Heap → Prop) (H : Heap) : Prop := b = false ∧ N (.pointer (some ⟨n, 0, none⟩)) (H.push ⟨cs, true, none⟩)
def onL (o : Option (List Value)) (len size n : Nat) (N : Value → Heap → Prop) (H : Heap) : Prop := ∃ cs, o = some cs ∧ N (mkS n len ((2 * len + 1) * 64 + size)) (H.push ⟨cs, true, none⟩)
theorem onS_some (v : Value) (N : Value → Heap → Prop) (H : Heap) : onS (some v) N H = N v H := by simp [onS]
theorem onH_some (H' : Heap) (N : Value → Heap → Prop) (u : Value) : onH (some H') N u = N u H' := by simp [onH]
theorem onM_some (v : Value) (H' : Heap) (N : Value → Heap → Prop) : onM (some (v, H')) N = N v H' := by
  apply propext; constructor
  · rintro ⟨_, _, h, n⟩; cases h; exact n
  · intro n; exact ⟨_, _, rfl, n⟩
theorem onB_f (cs : List Value) (n : Nat) (N : Value → Heap → Prop) (H : Heap) : onB false cs n N H = N (.pointer (some ⟨n, 0, none⟩)) (H.push ⟨cs, true, none⟩) := by simp [onB]
theorem onL_some (cs : List Value) (len size n : Nat) (N : Value → Heap → Prop) (H : Heap) : onL (some cs) len size n N H = N (mkS n len ((2 * len + 1) * 64 + size)) (H.push ⟨cs, true, none⟩) := by simp [onL]
def kO (P : Program) (os : List AOper) (K : Env → Heap → Prop) (X : Value → Heap → Prop) (e : Env) (d : Nat) : Value → Heap → Prop := fun v H => AOps P os K X (upd e d v) H
def kN (P : Program) (os : List AOper) (K : Env → Heap → Prop) (X : Value → Heap → Prop) (e : Env) : Value → Heap → Prop := fun _ H => AOps P os K X e H
theorem kO_app (P : Program) (os : List AOper) (K : Env → Heap → Prop) (X : Value → Heap → Prop) (e : Env) (d : Nat) (v : Value) (H : Heap) : kO P os K X e d v H = AOps P os K X (upd e d v) H := rfl
theorem kN_app (P : Program) (os : List AOper) (K : Env → Heap → Prop) (X : Value → Heap → Prop) (e : Env) (v : Value) (H : Heap) : kN P os K X e v H = AOps P os K X e H := rfl
def gO (b : Bool) (P : Program) (d : Nat) (op : AOp) (os : List AOper) (K : Env → Heap → Prop) (X : Value → Heap → Prop) (e : Env) (H : Heap) : Prop :=
  if b = true then StepA P op (ev e) H (kO P os K X e d) X else AOps P os K X (upd e d undef) H
def gN (b : Bool) (P : Program) (op : AOp) (os : List AOper) (K : Env → Heap → Prop) (X : Value → Heap → Prop) (e : Env) (H : Heap) : Prop :=
  if b = true then StepA P op (ev e) H (kN P os K X e) X else AOps P os K X e H
def onC (v : Value) (P : Program) (a b k : ACode) (Q : Post) (e : Env) (H : Heap) : Prop :=
  ∃ t, v = .bool t ∧ if t = true then AW P a (thenP (AW P k Q) Q) e H else AW P b (thenP (AW P k Q) Q) e H
section
variable (P : Program) (d : Nat) (op : AOp) (os : List AOper) (K : Env → Heap → Prop) (X : Value → Heap → Prop) (e : Env) (H : Heap) (a b k : ACode) (Q : Post)
theorem gO_t : gO true P d op os K X e H = StepA P op (ev e) H (kO P os K X e d) X := by simp [gO]
theorem gO_f : gO false P d op os K X e H = AOps P os K X (upd e d undef) H := by simp [gO]
theorem gN_t : gN true P op os K X e H = StepA P op (ev e) H (kN P os K X e) X := by simp [gN]
theorem gN_f : gN false P op os K X e H = AOps P os K X e H := by simp [gN]
theorem onC_t : onC (.bool true) P a b k Q e H = AW P a (thenP (AW P k Q) Q) e H := by simp [onC]
theorem onC_f : onC (.bool false) P a b k Q e H = AW P b (thenP (AW P k Q) Q) e H := by simp [onC]
end
attribute [simp] onS_some onH_some onM_some onB_f onL_some kO_app kN_app gO_t gO_f gN_t gN_f onC_t onC_f

/-! ### The steps, for simp -/
section
variable {P : Program} {ρ : Operand → Value} {H : Heap} {N X : Value → Heap → Prop}
theorem ex_map {α : Type} {o : Option α} {f : α → Value × Heap} {M : Value → Heap → Prop} : (∃ v H', o.map f = some (v, H') ∧ M v H') ↔ ∃ a, o = some a ∧ M (f a).1 (f a).2 := by
  constructor
  · rintro ⟨v, H', h, m⟩
    cases o with
    | none => simp at h
    | some a => simp only [Option.map_some, Option.some.injEq] at h; exact ⟨a, rfl, by rw [h]; exact m⟩
  · rintro ⟨a, rfl, m⟩; exact ⟨_, _, rfl, m⟩
theorem ex_some {p : Value × Heap} {M : Value → Heap → Prop} : (∃ v H', some p = some (v, H') ∧ M v H') ↔ M p.1 p.2 := by
  constructor
  · rintro ⟨v, H', h, m⟩
    cases h; exact m
  · intro m; exact ⟨_, _, rfl, m⟩
theorem s_mv (x : Operand) : StepA P (.mv x) ρ H N X = onS (some (ρ x)) N H := by simp [StepA, isPure, pureA, onS]
theorem s_pick (c a b : Operand) : StepA P (.pick c a b) ρ H N X = onS (pickA (ρ c) (ρ a) (ρ b)) N H := by simp [StepA, isPure, pureA, onS]
theorem s_bin (op : BinOp) (x y : Operand) : StepA P (.bin op x y) ρ H N X = onS (binA op (ρ x) (ρ y)) N H := by simp [StepA, isPure, pureA, onS]
theorem s_eqB (n : Bool) (x y : Operand) : StepA P (.eqB n x y) ρ H N X = onS (eqBA n (ρ x) (ρ y)) N H := by simp [StepA, isPure, pureA, onS]
theorem s_eqG (op : BinOp) (t : TypeId) (x y : Operand) : StepA P (.eqG op t x y) ρ H N X = onS (eqGA P op t x y (ρ x) (ρ y)) N H := by simp [StepA, isPure, pureA, onS]
theorem s_isnil (k : Nat) (n : Bool) (x : Operand) : StepA P (.isnil k n x) ρ H N X = onS (((nilA k (ρ x)).map fun b => Value.bool (b != n))) N H := by simp [StepA, isPure, pureA, onS]
theorem s_un (op : UnOp) (x : Operand) : StepA P (.un op x) ρ H N X = onS (unA op (ρ x)) N H := by simp [StepA, isPure, pureA, onS]
theorem s_cvI (k : IntKind) (x : Operand) : StepA P (.cvI k x) ρ H N X = onS (cvIA k (ρ x)) N H := by simp [StepA, isPure, pureA, onS]
theorem s_cvF (k : FloatKind) (x : Operand) : StepA P (.cvF k x) ρ H N X = onS (cvFA k (ρ x)) N H := by simp [StepA, isPure, pureA, onS]
theorem s_nilc (x : Operand) : StepA P (.nilc x) ρ H N X = onS (nilcA (ρ x)) N H := by simp [StepA, isPure, pureA, onS]
theorem s_fa (off : Nat) (x : Operand) : StepA P (.fa off x) ρ H N X = onS (faA off (ρ x)) N H := by simp [StepA, isPure, pureA, onS]
theorem s_ia (size : Nat) (x i : Operand) : StepA P (.ia size x i) ρ H N X = onS (iaS size (ρ x) (ρ i)) N H := by simp [StepA, isPure, pureA, onS]
theorem s_iaA (len size : Nat) (x i : Operand) : StepA P (.iaA len size x i) ρ H N X = onS (iaP len size (ρ x) (ρ i)) N H := by simp [StepA, isPure, pureA, onS]
theorem s_sl (size : Nat) (x : Operand) (lo hi mx : Option Operand) : StepA P (.sl size x lo hi mx) ρ H N X = onS (slA size (ρ x) (lo.map ρ) (hi.map ρ) (mx.map ρ)) N H := by simp [StepA, isPure, pureA, onS]
theorem s_slS (x : Operand) (lo hi : Option Operand) : StepA P (.slS x lo hi) ρ H N X = onS (slSA (ρ x) (lo.map ρ) (hi.map ρ)) N H := by simp [StepA, isPure, pureA, onS]
theorem s_fld (n : Option Nat) (off : Nat) (x : Operand) : StepA P (.fld n off x) ρ H N X = onS (fldA n off (ρ x)) N H := by simp [StepA, isPure, pureA, onS]
theorem s_ixS (x i : Operand) : StepA P (.ixS x i) ρ H N X = onS (ixSA (ρ x) (ρ i)) N H := by simp [StepA, isPure, pureA, onS]
theorem s_ixA (n : Option Nat) (len size : Nat) (x i : Operand) : StepA P (.ixA n len size x i) ρ H N X = onS (ixAA n len size (ρ x) (ρ i)) N H := by simp [StepA, isPure, pureA, onS]
theorem s_ext (x : Operand) (i : Nat) : StepA P (.ext x i) ρ H N X = onS (extA (ρ x) i) N H := by simp [StepA, isPure, pureA, onS]
theorem s_bld (z : List Value) (ps : List (Nat × Nat × Operand)) : StepA P (.bld z ps) ρ H N X = onS (((fillA ρ ps z).map fun cs => Value.agg cs.toArray)) N H := by simp [StepA, isPure, pureA, onS]
theorem s_mkf (f : FuncId) (xs ys : List Operand) : StepA P (.mkf f xs ys) ρ H N X = onS ((if (xs.map ρ).all isP && (ys.map ρ).all isP then some (Value.func (.func f) (xs.map ρ).toArray (ys.map ρ).toArray) else none)) N H := by simp [StepA, isPure, pureA, onS]
theorem s_mki (t : TypeId) (x : Operand) : StepA P (.mki t x) ρ H N X = onS (mkiA t (ρ x)) N H := by simp [StepA, isPure, pureA, onS]
theorem s_len (x : Operand) : StepA P (.len x) ρ H N X = onS (lenA (ρ x)) N H := by simp [StepA, isPure, pureA, onS]
theorem s_lenS (x : Operand) : StepA P (.lenS x) ρ H N X = onS (lenSA (ρ x)) N H := by simp [StepA, isPure, pureA, onS]
theorem s_mx (xs : List Operand) : StepA P (.mx xs) ρ H N X = onS (mxA (xs.map ρ)) N H := by simp [StepA, isPure, pureA, onS]
theorem s_mn (xs : List Operand) : StepA P (.mn xs) ρ H N X = onS (mnA (xs.map ρ)) N H := by simp [StepA, isPure, pureA, onS]
theorem s_re (x : Operand) : StepA P (.re x) ρ H N X = onS (reA (ρ x)) N H := by simp [StepA, isPure, pureA, onS]
theorem s_im (x : Operand) : StepA P (.im x) ρ H N X = onS (imA (ρ x)) N H := by simp [StepA, isPure, pureA, onS]
theorem s_cx (x y : Operand) : StepA P (.cx x y) ρ H N X = onS (cxA (ρ x) (ρ y)) N H := by simp [StepA, isPure, pureA, onS]
theorem s_nat (f : FuncId) (xs : List Operand) : StepA P (.nat f xs) ρ H N X = onS (natA P f (xs.map ρ)) N H := by simp [StepA, isPure, pureA, onS]
theorem s_ld (n : Option Nat) (a : Operand) : StepA P (.ld n a) ρ H N X = onS (ldA n H (ρ a)) N H := by simp only [StepA, isPure, memA, Bool.false_eq_true, if_false]; exact propext ex_map
theorem s_st (n : Nat) (a v : Operand) : StepA P (.st n a v) ρ H N X = onH (stA n H (ρ a) (ρ v)) N undef := by simp only [StepA, isPure, memA, Bool.false_eq_true, if_false]; exact propext ex_map
theorem s_bx (x : Operand) : StepA P (.bx x) ρ H N X = onB (isTup (ρ x)) (cellsV (ρ x)) H.next N H := by
  by_cases h : isTup (ρ x) = false
  · simp only [StepA, isPure, memA, Bool.false_eq_true, if_false, h, if_true, onB_f]
    exact propext ex_some
  · simp [StepA, isPure, memA, h, onB]
theorem s_al (z : List Value) : StepA P (.al z) ρ H N X = onB false z H.next N H := by
  simp only [StepA, isPure, memA, Bool.false_eq_true, if_false, onB_f]
  exact propext ex_some
theorem s_bs (len size : Nat) (z : List Value) (ps : List (Nat × Nat × Operand)) : StepA P (.bs len size z ps) ρ H N X = onL (fillA ρ ps (replA len z)) len size H.next N H := by
  simp only [StepA, isPure, memA, Bool.false_eq_true, if_false]
  exact propext ex_map
theorem s_ms (size bytes : Nat) (z : List Value) (l c : Operand) : StepA P (.ms size bytes z l c) ρ H N X = onM (msA size bytes z H (ρ l) (ρ c)) N := by simp [StepA, isPure, memA, onM]
theorem s_app (size bytes : Nat) (z : List Value) (s x : Operand) : StepA P (.app size bytes z s x) ρ H N X = onM (appA size bytes H (ρ s) (ρ x)) N := by simp [StepA, isPure, memA, onM]
theorem s_clr (size : Nat) (z : List Value) (x : Operand) : StepA P (.clr size z x) ρ H N X = onH (clrA z H (ρ x)) N (.tuple #[]) := by simp only [StepA, isPure, memA, Bool.false_eq_true, if_false]; exact propext ex_map
theorem s_call (f : FuncId) (args : List Operand) : StepA P (.call f args) ρ H N X = ACall P f (args.map ρ) H (EndK N X) := rfl
theorem s_dyn (x : Operand) (args : List Operand) : StepA P (.dyn x args) ρ H N X = ∃ f vs, calleeA (ρ x) (args.map ρ) = some (f, vs) ∧ ACall P f vs H (EndK N X) := rfl
theorem s_pan (x : Operand) : StepA P (.pan x) ρ H N X = (plainV (ρ x) = true ∧ (∃ t u, ρ x = .iface t u) ∧ X (ρ x) H) := rfl
end
section
variable {P : Program} {Q : Post} {e : Env} {H : Heap} {K : Env → Heap → Prop} {X : Value → Heap → Prop}
theorem o_nil : AOps P [] K X e H = K e H := rfl
theorem o_some (d : Nat) (op : AOp) (os : List AOper) : AOps P ({ d := some d, g := none, op, k := [] } :: os) K X e H = StepA P op (ev e) H (kO P os K X e d) X := by simp [AOps, wantA, chkA, updO]; exact Iff.rfl
theorem o_none (op : AOp) (os : List AOper) : AOps P ({ d := none, g := none, op, k := [] } :: os) K X e H = StepA P op (ev e) H (kN P os K X e) X := by simp [AOps, wantA, chkA, updO]; exact Iff.rfl
theorem o_gs (d j : Nat) (want : Bool) (op : AOp) (os : List AOper) : AOps P ({ d := some d, g := some (j, want), op, k := [] } :: os) K X e H =
    gO (wantA (some (j, want)) e) P d op os K X e H := by simp [AOps, chkA, updO, gO]; exact Iff.rfl
theorem o_gn (j : Nat) (want : Bool) (op : AOp) (os : List AOper) : AOps P ({ d := none, g := some (j, want), op, k := [] } :: os) K X e H =
    gN (wantA (some (j, want)) e) P op os K X e H := by simp [AOps, chkA, updO, gN]; exact Iff.rfl
theorem w_nil : AW P .nil Q e H = Q .normal e H := rfl
theorem w_reg (ops : List AOper) (k : ACode) : AW P (.reg ops k) Q e H = AOps P ops (AW P k Q) (panP Q) e H := rfl
theorem w_cond (c : Operand) (a b k : ACode) : AW P (.cond c a b k) Q e H = onC (ev e c) P a b k Q e H := rfl
theorem w_block (id : Nat) (b k : ACode) : AW P (.block id b k) Q e H = AW P b (blkP id (AW P k Q) Q) e H := rfl
theorem w_exit (id : Nat) : AW P (.exit id) Q e H = Q (.exit id) e H := rfl
theorem w_ret : AW P .ret Q e H = Q .ret e H := rfl
theorem w_goto (l : Nat) : AW P (.goto l) Q e H = Q (.goto l) e H := rfl
theorem w_label (l : Nat) (k : ACode) : AW P (.label l k) Q e H = AW P k Q e H := rfl
theorem want_some (j : Nat) (want : Bool) {b : Bool} (h : e j = .bool b) : wantA (some (j, want)) e = (b == want) := by simp [wantA, h]
theorem AW.loop {b : ACode} (I : Nat → Env → Heap → Prop) (n : Nat) (h0 : I n e H) (h : ∀ n e H, I n e H → AW P b (thenP (fun e' H' => ∃ m, m < n ∧ I m e' H') Q) e H) : AW P (.loop b) Q e H := ⟨I, ⟨n, h0⟩, h⟩
end
attribute [simp] s_mv s_pick s_bin s_eqB s_eqG s_isnil s_un s_cvI s_cvF s_nilc s_fa s_ia s_iaA s_sl s_slS s_fld s_ixS s_ixA s_ext s_bld s_mkf s_mki s_len s_lenS s_mx s_mn s_re s_im s_cx s_ld s_st s_bx s_al s_bs s_ms s_app s_clr s_call s_dyn s_pan
  o_nil o_some o_none o_gs o_gn w_nil w_reg w_cond w_block w_exit w_ret w_goto w_label
@[simp] theorem ev_t (e : Env) (n : Nat) : ev e (.tmp n) = e n := rfl
@[simp] theorem ev_c (e : Env) (v : Value) : ev e (.const v) = v := rfl
@[simp] theorem ev_g (e : Env) (g : Nat) : ev e (.global g) = .pointer (some ⟨g, 0, none⟩) := rfl
@[simp] theorem ev_f (e : Env) (f : FuncId) : ev e (.func f) = .func (.func f) #[] #[] := rfl
@[simp] theorem upd_app (e : Env) (d : Nat) (v : Value) (i : Nat) : upd e d v i = if i = d then v else e i := rfl
@[simp] theorem envOf_app (l : List Value) (i : Nat) : envOf l i = l.getD i undef := rfl
section
variable {N : Env → Heap → Prop} {Q : Post} {e : Env} {H : Heap} {v : Value} {i l id : Nat} {M : AEnd → Heap → Prop} {rs : List ARes}
@[simp] theorem thenP_n : thenP N Q .normal e H = N e H := rfl
@[simp] theorem thenP_e : thenP N Q (.exit i) e H = Q (.exit i) e H := rfl
@[simp] theorem thenP_r : thenP N Q .ret e H = Q .ret e H := rfl
@[simp] theorem thenP_g : thenP N Q (.goto l) e H = Q (.goto l) e H := rfl
@[simp] theorem thenP_p : thenP N Q (.panic v) e H = Q (.panic v) e H := rfl
@[simp] theorem blkP_n : blkP id N Q .normal e H = N e H := rfl
@[simp] theorem blkP_e : blkP id N Q (.exit i) e H = if i = id then N e H else Q (.exit i) e H := rfl
@[simp] theorem blkP_r : blkP id N Q .ret e H = Q .ret e H := rfl
@[simp] theorem blkP_g : blkP id N Q (.goto l) e H = Q (.goto l) e H := rfl
@[simp] theorem blkP_p : blkP id N Q (.panic v) e H = Q (.panic v) e H := rfl
@[simp] theorem funP_n : funP rs M .normal e H = ∃ l, resL e H rs = some l ∧ M (.ret (resV l)) H := rfl
@[simp] theorem funP_r : funP rs M .ret e H = ∃ l, resL e H rs = some l ∧ M (.ret (resV l)) H := rfl
@[simp] theorem funP_p : funP rs M (.panic v) e H = M (.panic v) H := rfl
@[simp] theorem funP_e : funP rs M (.exit i) e H = False := rfl
@[simp] theorem funP_g : funP rs M (.goto l) e H = False := rfl
@[simp] theorem panP_a : panP Q v H = ∀ e, Q (.panic v) e H := rfl
end
@[simp] theorem EndK_r (N X : Value → Heap → Prop) (v : Value) (H : Heap) : EndK N X (.ret v) H = N v H := rfl
@[simp] theorem EndK_p (N X : Value → Heap → Prop) (v : Value) (H : Heap) : EndK N X (.panic v) H = X v H := rfl
def wb (v : Value) (want : Bool) : Bool := match v with | .bool b => b == want | _ => false
@[simp] theorem wb_t (b : Bool) : wb (.bool b) true = b := by cases b <;> rfl
@[simp] theorem wb_f (b : Bool) : wb (.bool b) false = !b := by cases b <;> rfl
@[simp] theorem wantA_s (j : Nat) (want : Bool) (e : Env) : wantA (some (j, want)) e = wb (e j) want := rfl
@[simp] theorem pickA_b (t : Bool) (a b : Value) : pickA (.bool t) a b = some (if t then a else b) := rfl
@[simp] theorem eqBA_b (n a b : Bool) : eqBA n (.bool a) (.bool b) = some (.bool ((a == b) != n)) := rfl
@[simp] theorem faA_p (off b o : Nat) : faA off (.pointer (some ⟨b, o, none⟩)) = some (.pointer (some ⟨b, o + off, none⟩)) := rfl
@[simp] theorem mx2_i (k k' : IntKind) (x y : Int) : mx2 (.int k x) (.int k' y) = some (.int k (if y > x then y else x)) := rfl
@[simp] theorem mn2_i (k k' : IntKind) (x y : Int) : mn2 (.int k x) (.int k' y) = some (.int k (if y < x then y else x)) := rfl
@[simp] theorem cvIA_i (k k' : IntKind) (x : Int) : cvIA k (.int k' x) = some (.int k (k.wrap x)) := rfl
@[simp] theorem unA_not (b : Bool) : unA .not (.bool b) = some (.bool !b) := rfl
@[simp] theorem unA_neg (k : IntKind) (n : Int) : unA .neg (.int k n) = some (.int k (k.wrap (0 - n))) := rfl
@[simp] theorem extA_t (vs : Array Value) (i : Nat) : extA (.tuple vs) i = vs[i]? := rfl
@[simp] theorem isTup_bool (b : Bool) : isTup (.bool b) = false := rfl
@[simp] theorem isTup_int (k : IntKind) (n : Int) : isTup (.int k n) = false := rfl
@[simp] theorem isTup_str (b : ByteArray) : isTup (.string b) = false := rfl
@[simp] theorem isTup_slice (a : Option Addr) (n c : Nat) : isTup (.slice a n c) = false := rfl
@[simp] theorem isTup_ptr (a : Option Addr) : isTup (.pointer a) = false := rfl
@[simp] theorem isTup_agg (cs : Array Value) : isTup (.agg cs) = false := rfl
@[simp] theorem res1_t (e : Env) (H : Heap) (n : Nat) : res1 e H (.tmp n) = some (e n) := rfl
@[simp] theorem res1_c (e : Env) (H : Heap) (m : Option Nat) (n : Nat) : res1 e H (.cell m n) = ldA m H (e n) := rfl
@[simp] theorem resL_nil (e : Env) (H : Heap) : resL e H [] = some [] := rfl
theorem resL_cons (e : Env) (H : Heap) (r : ARes) (l : List ARes) : resL e H (r :: l) = (res1 e H r).bind fun v => if isTup v then none else (resL e H l).map fun vs => v :: vs := rfl
attribute [simp] resL_cons
@[simp] theorem resV_one (v : Value) : resV [v] = v := rfl
@[simp] theorem resV_two (v u : Value) (l : List Value) : resV (v :: u :: l) = .tuple (v :: u :: l).toArray := rfl
@[simp] theorem resV_nil : resV [] = .tuple #[] := rfl
@[simp] theorem binA_int (op : BinOp) (k : IntKind) (a b : Int) (h1 : op ≠ .shl) (h2 : op ≠ .shr) : binA op (.int k a) (.int k b) = intA op k a b := by
  cases op <;> simp_all [binA]
@[simp] theorem intA_add (k : IntKind) (a b : Int) : intA .add k a b = some (.int k (k.wrap (a + b))) := rfl
@[simp] theorem intA_sub (k : IntKind) (a b : Int) : intA .sub k a b = some (.int k (k.wrap (a - b))) := rfl
@[simp] theorem intA_mul (k : IntKind) (a b : Int) : intA .mul k a b = some (.int k (k.wrap (a * b))) := rfl
@[simp] theorem intA_quo (k : IntKind) (a b : Int) : intA .quo k a b = if b = 0 then none else some (.int k (k.wrap (a.tdiv b))) := rfl
@[simp] theorem intA_rem (k : IntKind) (a b : Int) : intA .rem k a b = if b = 0 then none else some (.int k (a.tmod b)) := rfl
@[simp] theorem intA_eql (k : IntKind) (a b : Int) : intA .eql k a b = some (.bool (a == b)) := rfl
@[simp] theorem intA_neq (k : IntKind) (a b : Int) : intA .neq k a b = some (.bool (a != b)) := rfl
@[simp] theorem intA_lss (k : IntKind) (a b : Int) : intA .lss k a b = some (.bool (decide (a < b))) := rfl
@[simp] theorem intA_leq (k : IntKind) (a b : Int) : intA .leq k a b = some (.bool (decide (a ≤ b))) := rfl
@[simp] theorem intA_gtr (k : IntKind) (a b : Int) : intA .gtr k a b = some (.bool (decide (a > b))) := rfl
@[simp] theorem intA_geq (k : IntKind) (a b : Int) : intA .geq k a b = some (.bool (decide (a ≥ b))) := rfl
theorem wrap64 {x : Int} (h1 : -9223372036854775808 ≤ x) (h2 : x ≤ 9223372036854775807) : IntKind.wrap .i64 x = x := IntWalk.i64_in x ⟨h1, h2⟩
end Go.Ab

namespace Go.Ab
open Go

/-! ### Weaker posts; rounds -/
theorem AOps.mono {P : Program} {K K' : Env → Heap → Prop} {X X' : Value → Heap → Prop} (hK : ∀ e H, K e H → K' e H) (hX : ∀ v H, X v H → X' v H) : ∀ (l : List AOper) (e : Env) (H : Heap), AOps P l K X e H → AOps P l K' X' e H
  | [], e, H, h => hK e H h
  | o :: l, e, H, h => by
    simp only [AOps] at h ⊢
    split at h
    · rename_i hw
      rw [if_pos hw]
      exact step_mono (fun _ _ => rfl) h (fun v H' _ h => ⟨h.1, AOps.mono hK hX l _ _ h.2⟩) hX
    · rename_i hw
      rw [if_neg hw]
      exact AOps.mono hK hX l _ _ h
theorem thenP_mono {N N' : Env → Heap → Prop} {Q Q' : Post} (hN : ∀ e H, N e H → N' e H) (hQ : ∀ x e H, x ≠ .normal → Q x e H → Q' x e H) : ∀ x e H, thenP N Q x e H → thenP N' Q' x e H := by
  intro x e H h
  cases x <;> first | exact hN _ _ h | exact hQ _ _ _ (by simp) h
theorem blkP_mono {id : Nat} {N N' : Env → Heap → Prop} {Q Q' : Post} (hN : ∀ e H, N e H → N' e H) (hQ : ∀ x e H, x ≠ .normal → Q x e H → Q' x e H) : ∀ x e H, blkP id N Q x e H → blkP id N' Q' x e H := by
  intro x e H h
  cases x with
  | normal => exact hN _ _ h
  | exit i =>
    simp only [blkP] at h ⊢
    split at h
    · rename_i hi; rw [if_pos hi]; exact hN _ _ h
    · rename_i hi; rw [if_neg hi]; exact hQ _ _ _ (by simp) h
  | _ => exact hQ _ _ _ (by simp) h
theorem AW.mono {P : Program} : ∀ (c : ACode) {Q Q' : Post} (hQ : ∀ x e H, Q x e H → Q' x e H) (e : Env) (H : Heap), AW P c Q e H → AW P c Q' e H
  | .nil, _, _, hQ, e, H, h => hQ _ _ _ h
  | .reg ops k, _, _, hQ, e, H, h => AOps.mono (fun e H h => AW.mono k hQ e H h) (fun v H h e => hQ _ _ _ (h e)) ops e H h
  | .both a b, _, _, hQ, e, H, h => ⟨AW.mono a hQ e H h.1, AW.mono b hQ e H h.2⟩
  | .cond c a b k, _, _, hQ, e, H, ⟨t, ht, h⟩ => by
    refine ⟨t, ht, ?_⟩
    cases t with
    | true => exact AW.mono a (thenP_mono (fun e H h => AW.mono k hQ e H h) (fun x e H _ h => hQ x e H h)) e H h
    | false => exact AW.mono b (thenP_mono (fun e H h => AW.mono k hQ e H h) (fun x e H _ h => hQ x e H h)) e H h
  | .block id b k, _, _, hQ, e, H, h => AW.mono b (blkP_mono (fun e H h => AW.mono k hQ e H h) (fun x e H _ h => hQ x e H h)) e H h
  | .loop b, _, _, hQ, e, H, ⟨I, h0, h⟩ => ⟨I, h0, fun n e H hI => AW.mono b (thenP_mono (fun _ _ h => h) (fun x e H _ h => hQ x e H h)) e H (h n e H hI)⟩
  | .exit id, _, _, hQ, e, H, h => hQ _ _ _ h
  | .ret, _, _, hQ, e, H, h => hQ _ _ _ h
  | .goto l, _, _, hQ, e, H, h => hQ _ _ _ h
  | .label _ k, _, _, hQ, e, H, h => AW.mono k hQ e H h
  | .scope b k, _, _, hQ, e, H, h => h

def Rounds (P : Program) (b : ACode) (Q : Post) : Nat → Env → Heap → Prop
  | 0, _, _ => False
  | n + 1, e, H => AW P b (thenP (Rounds P b Q n) Q) e H
theorem AW.rounds {P : Program} {b : ACode} {Q : Post} (n : Nat) {e : Env} {H : Heap} (h : Rounds P b Q n e H) : AW P (.loop b) Q e H := by
  refine AW.loop (Rounds P b Q) n h ?_
  intro n e H h
  cases n with
  | zero => exact h.elim
  | succ n => exact AW.mono b (thenP_mono (fun e H h => ⟨n, Nat.lt_succ_self n, h⟩) (fun _ _ _ _ h => h)) e H h
theorem rounds_succ {P : Program} {b : ACode} {Q : Post} {n : Nat} {e : Env} {H : Heap} : Rounds P b Q (n + 1) e H = AW P b (thenP (Rounds P b Q n) Q) e H := rfl
theorem rounds_zero {P : Program} {b : ACode} {Q : Post} {e : Env} {H : Heap} : Rounds P b Q 0 e H = False := rfl

def RoundsL (P : Program) (b : ACode) (Q : Post) : List Unit → Env → Heap → Prop
  | [], _, _ => False
  | _ :: n, e, H => AW P b (thenP (RoundsL P b Q n) Q) e H
theorem AW.roundsL {P : Program} {b : ACode} {Q : Post} (n : List Unit) {e : Env} {H : Heap} (h : RoundsL P b Q n e H) : AW P (.loop b) Q e H := by
  refine AW.loop (fun m e H => ∃ n : List Unit, n.length = m ∧ RoundsL P b Q n e H) n.length ⟨n, rfl, h⟩ ?_
  rintro m e H ⟨n, rfl, h⟩
  cases n with
  | nil => exact h.elim
  | cons u n => exact AW.mono b (thenP_mono (fun e H h => ⟨n.length, by simp, n, rfl, h⟩) (fun _ _ _ _ h => h)) e H h
theorem r_cons {P : Program} {b : ACode} {Q : Post} {u : Unit} {n : List Unit} {e : Env} {H : Heap} : RoundsL P b Q (u :: n) e H = AW P b (thenP (RoundsL P b Q n) Q) e H := rfl
attribute [simp] r_cons

/-! ### What stays -/
/-- Every block that was there is there, as it was. -/
structure Fr (H H' : Heap) : Prop where
  next : H.next ≤ H'.next
  get : ∀ b, b < H.next → H'.get b = H.get b
theorem Fr.refl (H : Heap) : Fr H H := ⟨Nat.le_refl _, fun _ _ => rfl⟩
theorem Fr.trans {H H1 H2 : Heap} (a : Fr H H1) (b : Fr H1 H2) : Fr H H2 := ⟨Nat.le_trans a.next b.next, fun c hc => by rw [b.get c (Nat.lt_of_lt_of_le hc a.next), a.get c hc]⟩
theorem Fr.push {H H1 : Heap} (a : Fr H H1) (k : Blk) : Fr H (H1.push k) := by
  refine ⟨Nat.le_succ_of_le a.next, fun b hb => ?_⟩
  have : b ≠ H1.next := by have := a.next; omega
  simp [Heap.push, this, a.get b hb]
@[simp] theorem push_next (H : Heap) (k : Blk) : (H.push k).next = H.next + 1 := rfl
@[simp] theorem push_get (H : Heap) (k : Blk) (b : Nat) : (H.push k).get b = if b = H.next then some k else H.get b := rfl
@[simp] theorem put_next (H : Heap) (b : Nat) (k : Blk) : (H.put b k).next = H.next := rfl
@[simp] theorem put_get (H : Heap) (b : Nat) (k : Blk) (c : Nat) : (H.put b k).get c = if c = b then some k else H.get c := rfl
end Go.Ab

namespace Go.Ab
open Go

/-! ### Slices whose elements are one cell each -/
abbrev ints (xs : List Int) : List Value := xs.map (.int .i64)

section
variable {α : Type} {f : α → Value} {H H' : Heap} {v : Value} {xs : List α}

/-- 'v' is a slice of 'xs', to be read. -/
inductive IsL (f : α → Value) (H : Heap) : Value → List α → Prop where
  | isNil : IsL f H (.slice none 0 0) []
  | isEmpty (b o c : Nat) : IsL f H (.slice (some ⟨b, o, none⟩) 0 c) []
  | isSome (b o c : Nat) (k : Blk) (xs : List α) (hb : b < H.next) (hk : H.get b = some k) (hc : (k.cells.drop o).take xs.length = xs.map f) : IsL f H (.slice (some ⟨b, o, none⟩) xs.length c) xs

/-- Where an element stands. -/
def atP (v : Value) (n : Int) : Value := match v with | .slice (some ⟨b, o, none⟩) _ _ => .pointer (some ⟨b, o + n.toNat, none⟩) | _ => undef
theorem IsL.fr (h : IsL f H v xs) (r : Fr H H') : IsL f H' v xs := by
  cases h with
  | isNil => exact .isNil
  | isEmpty b o c => exact .isEmpty b o c
  | isSome b o c k xs hb hk hc => exact .isSome b o c k xs (Nat.lt_of_lt_of_le hb r.next) (by rw [r.get b hb]; exact hk) hc
theorem IsL.len (h : IsL f H v xs) : lenA v = some (.int .i64 xs.length) := by cases h <;> rfl
theorem IsL.ia (h : IsL f H v xs) {k : IntKind} {n : Int} (h0 : 0 ≤ n) (h1 : n < xs.length) : iaS 1 v (.int k n) = some (atP v n) := by
  cases h with
  | isNil => simp at h1; omega
  | isEmpty b o c => simp at h1; omega
  | isSome b o c k xs hb hk hc => simp [iaS, atP, h0, h1]
theorem IsL.ld (h : IsL f H v xs) {n : Int} (h0 : 0 ≤ n) (h1 : n < xs.length) {x : α} (hx : xs[n.toNat]? = some x) : ldA none H (atP v n) = some (f x) := by
  cases h with
  | isNil => simp at h1; omega
  | isEmpty b o c => simp at h1; omega
  | isSome b o c k xs hb hk hc =>
    simp only [ldA, atP, hk, Option.bind_some]
    have h2 : ((k.cells.drop o).take xs.length)[n.toNat]? = some (f x) := by rw [hc, List.getElem?_map, hx]; rfl
    rw [List.getElem?_take] at h2
    split at h2
    · rw [List.getElem?_drop] at h2; exact h2
    · simp at h2
theorem IsL.slc (h : IsL f H v xs) : slcA 1 H v = some (xs.length, xs.map f) := by
  cases h with
  | isNil => rfl
  | isEmpty b o c => rfl
  | isSome b o c k xs hb hk hc =>
    unfold slcA
    simp only
    split
    · rename_i h0
      have : xs = [] := List.length_eq_zero_iff.1 h0
      subst this; rfl
    · rename_i h0
      have hl : xs.length ≤ (k.cells.drop o).length := by
        have := congrArg List.length hc
        simp only [List.length_take, List.length_map] at this; omega
      have hfit : o + xs.length * 1 ≤ k.cells.length := by simp only [List.length_drop] at hl; omega
      rw [Nat.mul_one] at hfit
      simp only [rdH, hk, Option.bind_some, Nat.mul_one]
      rw [if_pos hfit, hc]; rfl
theorem iaS_some {b o len c size : Nat} {k : IntKind} {n : Int} (h0 : 0 ≤ n) (h1 : n < len) : iaS size (.slice (some ⟨b, o, none⟩) len c) (.int k n) = some (.pointer (some ⟨b, o + n.toNat * size, none⟩)) := by simp [iaS, h0, h1]
@[simp] theorem lenA_slice (a : Option Addr) (n c : Nat) : lenA (.slice a n c) = some (.int .i64 n) := rfl
theorem putCells_one (cs : List Value) (i : Nat) (v : Value) (h : i < cs.length) : putCells cs i [v] = cs.set i v := by
  simp only [putCells, List.length_cons, List.length_nil]
  rw [List.set_eq_take_append_cons_drop, if_pos h]; simp
/-- A write into an own slice. -/
theorem st_own {b : Nat} (hk : H.get b = some ⟨xs.map f, true, none⟩) {i : Nat} (hi : i < xs.length) {x : α} (ht : isTup (f x) = false) (hc : cellsV (f x) = [f x]) :
    stA 1 H (.pointer (some ⟨b, i, none⟩)) (f x) = some (H.put b ⟨(xs.set i x).map f, true, none⟩) := by
  have hfit : i + 1 ≤ (xs.map f).length := by simp; omega
  simp only [stA, ht, hc, List.length_cons, List.length_nil, true_and, if_true, wrH, hk, Option.bind_some, kill_none]
  simp only [Nat.zero_add]
  rw [if_pos hfit, putCells_one _ _ _ (by simpa using hi), List.map_set]; rfl
theorem ld_own {b : Nat} {o : Bool} {p : Option Nat} (hk : H.get b = some ⟨xs.map f, o, p⟩) {i : Nat} {x : α} (hx : xs[i]? = some x) : ldA none H (.pointer (some ⟨b, i, none⟩)) = some (f x) := by
  simp [ldA, hk, hx]
end
@[simp] theorem cellsV_int (k : IntKind) (n : Int) : cellsV (.int k n) = [.int k n] := rfl
@[simp] theorem cellsV_bool (b : Bool) : cellsV (.bool b) = [.bool b] := rfl
@[simp] theorem cellsV_str (b : ByteArray) : cellsV (.string b) = [.string b] := rfl
end Go.Ab
